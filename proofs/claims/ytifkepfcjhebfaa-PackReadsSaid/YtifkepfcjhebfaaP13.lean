/- PackReads, the plain law. -/
import Derived.Test.YtifkepfcjhebfaaG8
import Derived.Test.YtifkepfcjhebfaaP7
set_option linter.unusedSimpArgs false
set_option linter.unusedVariables false
namespace Go.Proofs.Ytifkepfcjhebfaa
open Go.Ab Go.RowKit
theorem TE_op {b : List Int} (hb : G b) (hl : b.length ≤ 100000) : Bs (TE Z0 (pOp b)).1.data := by
  cases h : pOp b with
  | ok o r => exact (rd_op hb hl h).2.1.2.2.2.2.2.2.2
  | no e => exact fun x hx => by cases hx
theorem TE_ans {b : List Int} (hb : G b) (hl : b.length ≤ 100000) : Bs (TE A0 (pAns b)).1.data ∧ (TE A0 (pAns b)).1.names.length ≤ 1000000 := by
  cases h : pAns b with
  | ok o r => have := (rd_ans hb hl h).2; exact ⟨this.1.2.2.2.2.2.2, by have := this.2.1; show o.names.length ≤ _; omega⟩
  | no e => exact ⟨fun x hx => (by cases hx), (by simp [TE, A0])⟩
theorem T3_bs {α : Type} {d : α} {p : List Int → R α} {b : List Int} (h : ∀ v r, p b = .ok v r → Bs r) : Bs (T3 d (p b)).2.1 := by
  cases h1 : p b with
  | ok v r => exact h v r h1
  | no e => exact fun x hx => by cases hx
theorem T3_len {b : List Int} (hb : G b) : (T3 [] (pInts b)).1.length ≤ 1000000 := by
  cases h1 : pInts b with
  | ok v r => have := rd_ints hb h1; have := hb.2; show v.length ≤ _; omega
  | no e => simp [T3]
theorem PackReads_true (y0 : List Int) (o0 : ∀ y22 ∈ y0, okI .u8 y22) : law01_PackReads_f y0 = some true := by
  unfold law01_PackReads_f
  obtain ⟨b, hb⟩ : ∃ b, b = y0.take 2000 := ⟨_, rfl⟩
  have hl : b.length ≤ 2000 := by rw [hb, List.length_take]; omega
  have g : G b := ⟨by rw [hb]; exact Bs.take o0 2000, by omega⟩
  rw [head_eq, Option.bind_some, few_eq, Option.bind_some, ← hb, pRead_eq g.1 g.2, Option.bind_some, rRead_eq g.1 g.2, Option.bind_some]
  have b1 : Bs (T3 0 (rI b)).2.1 := T3_bs (p := rI) (fun v r h => (rI_G g h).1.1)
  have b2 : Bs (T3 E0 (pS b)).2.1 := T3_bs (p := pS) (fun v r h => (rd_str g h).2.2.1.1)
  have b3 : Bs (T3 [] (pInts b)).2.1 := T3_bs (p := pInts) (fun v r h => (rd_ints g h).2.2.1.1)
  simp only [bne_self_eq_false, cond_false]
  rw [rSame_eq b1 b1, Option.bind_some, decide_eq_true rfl, Bool.not_true, law01_PackReads_J1, cond_false, pReadStr_eq g, Option.bind_some, rReadStr_c g, Option.bind_some]
  simp only [bne_self_eq_false, cond_false, beq_self_eq_true, Bool.not_true]
  rw [rSame_eq b2 b2, Option.bind_some, decide_eq_true rfl, Bool.not_true, law01_PackReads_J2, cond_false, pReadInts_eq g, Option.bind_some, rReadInts_eq g, Option.bind_some, sameInts_eq (T3_len g), Option.bind_some, decide_eq_true rfl, Bool.not_true]
  simp only [bne_self_eq_false, cond_false]
  rw [rSame_eq b3 b3, Option.bind_some, decide_eq_true rfl, Bool.not_true, law01_PackReads_J3, cond_false, pReadOp_eq g, Option.bind_some, rReadOp_eq g, Option.bind_some, pReadAns_eq g, Option.bind_some, rReadAns_eq g, Option.bind_some, cond_true,
    sameOp_eq (TE_op g (by omega)) (TE_op g (by omega)), Option.bind_some, sameAns_eq (TE_ans g (by omega)).1 (TE_ans g (by omega)).1 (TE_ans g (by omega)).2, Option.bind_some]
  simp
end Go.Proofs.Ytifkepfcjhebfaa
