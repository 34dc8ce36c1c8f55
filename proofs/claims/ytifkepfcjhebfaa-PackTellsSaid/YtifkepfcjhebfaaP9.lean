/- PackTells, the plain law. -/
import Derived.Test.YtifkepfcjhebfaaG4
import Derived.Test.YtifkepfcjhebfaaP7
set_option linter.unusedSimpArgs false
set_option linter.unusedVariables false
namespace Go.Proofs.Ytifkepfcjhebfaa
open Go.Ab Go.RowKit
theorem tells_J {x : List Int} {p : Op} {q : Ans} (hx : ∀ n ∈ x, okI .i64 n) (hl : x.length ≤ 1000) (sp : SOp p) (sq : SAns q) : law01_PackTells_J1 true p q x = some true := by
  unfold law01_PackTells_J1
  have hn : Bs (ints x) := Bs.app (num_ok (okI_len (by omega))) (nums_ok hx)
  have hp := sp.2.1
  rw [cond_true, pInts_eq hx (by omega), Option.bind_some, rInts_eq hx (by omega), Option.bind_some, rSame_eq hn hn, Option.bind_some, pStr_eq (by omega), Option.bind_some, rStr_eq (by omega), Option.bind_some, rSame_eq (str_ok (by omega)) (str_ok (by omega)), Option.bind_some,
    pOp_eq sp, Option.bind_some, rOp_eq sp, Option.bind_some, rSame_eq (opB_ok sp) (opB_ok sp), Option.bind_some, pAns_eq sq, Option.bind_some, rAns_eq sq, Option.bind_some, rSame_eq (ansB_ok sq) (ansB_ok sq), Option.bind_some]
  simp
theorem tells_L {x : List Int} {p : Op} {q : Ans} (hx : ∀ n ∈ x, okI .i64 n) (hl : x.length ≤ 1000) (sp : SOp p) (sq : SAns q) : ∀ (m k : Nat), x.length < m + k → k ≤ x.length → law01_PackTells_L1 true p q m x (k : Int) = some true := by
  intro m
  induction m with
  | zero => intro k h1 h2; omega
  | succ m ih =>
    intro k h1 h2
    rw [law01_PackTells_L1, cond_d]
    by_cases hk : k < x.length
    · have h := hx _ (List.getElem_mem hk)
      rw [if_pos (by omega), idx_nat hk, Option.bind_some, pInt_eq h, Option.bind_some, rInt_eq h, Option.bind_some, rSame_eq (num_ok h) (num_ok h), Option.bind_some, decide_eq_true rfl, Bool.not_true, cond_false, w64_succ (by omega)]
      exact ih (k + 1) (by omega) (by omega)
    · rw [if_neg (by omega)]
      exact tells_J hx hl sp sq
theorem PackTells_true (y0 : List Int) (o0 : ∀ y36 ∈ y0, okI .i64 y36) (y1 : Op) (o1 : Op.ok y1) (y2 : Ans) (o2 : Ans.ok y2) : law01_PackTells_f y0 y1 y2 = some true := by
  unfold law01_PackTells_f
  obtain ⟨p, e1, s1, _⟩ := cutOp_eq o1
  obtain ⟨q, e2, s2, _⟩ := cutAns_eq o2
  rw [mn200]
  have hl : (y0.take (min y0.length 200)).length ≤ 200 := by rw [List.length_take]; omega
  rw [head_eq, Option.bind_some, chk_pos (by omega), Int.toNat_natCast, List.drop_zero, chk_pos (by omega), e1, Option.bind_some, e2, Option.bind_some, List.nil_append]
  exact tells_L (fun n hn => o0 n (List.mem_of_mem_take hn)) (by omega) s1 s2 BIG 0 (by rw [BIG_eq]; omega) (by omega)
end Go.Proofs.Ytifkepfcjhebfaa
