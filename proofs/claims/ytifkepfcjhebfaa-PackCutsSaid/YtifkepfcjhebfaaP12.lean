/- PackCuts, the plain law. -/
import Derived.Test.YtifkepfcjhebfaaG7
import Derived.Test.YtifkepfcjhebfaaP7
set_option linter.unusedSimpArgs false
set_option linter.unusedVariables false
namespace Go.Proofs.Ytifkepfcjhebfaa
open Go.Ab Go.RowKit
theorem modlt {x : Int} {n : Nat} (h0 : 0 ≤ x) (hn : 1 ≤ n) : 0 ≤ Int.tmod x (n : Int) ∧ Int.tmod x (n : Int) < n := by
  rw [Int.tmod_eq_emod_of_nonneg h0]
  exact ⟨Int.emod_nonneg _ (by omega), Int.emod_lt_of_pos _ (by omega)⟩
theorem PackCuts_true (y0 : Op) (o0 : Op.ok y0) (y1 : Ans) (o1 : Ans.ok y1) (y2 : Int) (o2 : okI .u16 y2) : law01_PackCuts_f y0 y1 y2 = some true := by
  unfold law01_PackCuts_f
  simp only [okI] at o2
  obtain ⟨p, e1, s1, l1⟩ := cutOp_eq o0
  obtain ⟨q, e2, hq⟩ := cutAns_eq o1
  have l2 := ansB_len hq
  have l3 := opB_len s1
  obtain ⟨s2, t1, t2, t3⟩ := hq
  rw [head_eq, Option.bind_some, e1, Option.bind_some, pOp_eq s1, Option.bind_some, chk_pos (by omega), e2, Option.bind_some, pAns_eq s2, Option.bind_some, chk_pos (by omega)]
  have hz : (((((opB p).length : Nat) : Int) == 0) || ((((ansB q).length : Nat) : Int) == 0)) = false := by
    rw [Bool.or_eq_false_iff, beq_eq_false_iff_ne, beq_eq_false_iff_ne]; omega
  rw [hz]
  unfold law01_PackCuts_J1
  have w : IntKind.wrap .i64 y2 = y2 := w64 (by omega) (by omega)
  simp only [List.nil_append]
  rw [cond_false, w, chk_pos (by omega), chk_pos (by omega)]
  have m1 := modlt (x := y2) (n := (opB p).length) (by omega) l3.1
  have m2 := modlt (x := y2) (n := (ansB q).length) (by omega) l2.1
  obtain ⟨i, hi⟩ : ∃ i : Nat, Int.tmod y2 ((opB p).length : Int) = i := ⟨(Int.tmod y2 ((opB p).length : Int)).toNat, by omega⟩
  obtain ⟨k, hk⟩ : ∃ k : Nat, Int.tmod y2 ((ansB q).length : Int) = k := ⟨(Int.tmod y2 ((ansB q).length : Int)).toNat, by omega⟩
  rw [hi] at m1
  rw [hk] at m2
  simp only [hi, hk, Int.toNat_natCast]
  have b0 : Bs [0] := okb (by decide)
  have g1 : G ((opB p).take i) := ⟨Bs.take (opB_ok s1) i, by rw [List.length_take]; omega⟩
  have g2 : G ((ansB q).take k) := ⟨Bs.take (ansB_ok s2) k, by rw [List.length_take]; omega⟩
  have g3 : G (opB p ++ [0]) := ⟨Bs.app (opB_ok s1) b0, by rw [List.length_append]; simp; omega⟩
  have g4 : G (ansB q ++ [0]) := ⟨Bs.app (ansB_ok s2) b0, by rw [List.length_append]; simp; omega⟩
  have E1 := end_laws (cod_op s1)
  have E2 := end_laws (cod_ans s2)
  have r1 : pOp ((opB p).take i) = .no 10 := E1.2.1 i (by omega)
  have r2 : pAns ((ansB q).take k) = .no 10 := E2.2.1 k (by omega)
  have r3 : pOp (opB p ++ [0]) = .no 11 := E1.2.2 0
  have r4 : pAns (ansB q ++ [0]) = .no 11 := E2.2.2 0
  rw [chk_pos (by omega), pReadOp_eq g1, Option.bind_some, chk_pos (by omega), pReadAns_eq g2, Option.bind_some, chk_pos (by omega), chk_pos (by omega), pReadOp_eq g3, Option.bind_some, chk_pos (by omega), chk_pos (by omega), pReadAns_eq g4, Option.bind_some, r1, r2, r3, r4]
  rfl
end Go.Proofs.Ytifkepfcjhebfaa
