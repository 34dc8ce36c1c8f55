/- PackUnlike, the plain law. -/
import Derived.Test.YtifkepfcjhebfaaG3
import Derived.Test.YtifkepfcjhebfaaP7
set_option linter.unusedSimpArgs false
set_option linter.unusedVariables false
namespace Go.Proofs.Ytifkepfcjhebfaa
open Go.Ab Go.RowKit
theorem opB_inj {x y : Op} (hx : SOp x) (hy : SOp y) (h : opB x = opB y) : x = y := by
  have h1 := (cod_op hx).whole
  have h2 := (cod_op hy).whole
  rw [h, h2] at h1
  injection h1 with h3; exact h3.symm
theorem ansB_inj {x y : Ans} (hx : SAns x) (hy : SAns y) (h : ansB x = ansB y) : x = y := by
  have h1 := (cod_ans hx).whole
  have h2 := (cod_ans hy).whole
  rw [h, h2] at h1
  injection h1 with h3; exact h3.symm
theorem small_ans {o : Op} (h : SOp o) : SAns ⟨0, o.n, 0, o.m, 0, [o.path, o.to_], o.data⟩ := by
  obtain ⟨⟨h1, h2, h3, h4, h5, h6, h7, h8⟩, s1, s2, s3⟩ := h
  have z : okI .i64 0 := by simp [okI]
  refine ⟨⟨z, h5, z, h6, z, fun s hs => ?_, h8⟩, ?_, fun s hs => ?_, s3⟩
  · simp at hs; rcases hs with rfl | rfl <;> (unfold okS; omega)
  · simp
  · simp at hs; rcases hs with rfl | rfl <;> omega
theorem PackUnlike_true (y0 : Op) (o0 : Op.ok y0) (y1 : Op) (o1 : Op.ok y1) : law01_PackUnlike_f y0 y1 = some true := by
  unfold law01_PackUnlike_f
  obtain ⟨x, e1, s1, _⟩ := cutOp_eq o0
  obtain ⟨y, e2, s2, _⟩ := cutOp_eq o1
  have a1 := small_ans s1; have a2 := small_ans s2
  rw [head_eq, Option.bind_some, e1, Option.bind_some, e2, Option.bind_some, cond_true, pOp_eq s1, Option.bind_some, pOp_eq s2, Option.bind_some, rSame_eq (opB_ok s1) (opB_ok s2), Option.bind_some, sameOp_eq s1.1.2.2.2.2.2.2.2 s2.1.2.2.2.2.2.2.2, Option.bind_some,
    pAns_eq a1, Option.bind_some, pAns_eq a2, Option.bind_some, rSame_eq (ansB_ok a1) (ansB_ok a2), Option.bind_some, sameAns_eq a1.1.2.2.2.2.2.2 a2.1.2.2.2.2.2.2 (by simp), Option.bind_some]
  have d1 : decide (opB x = opB y) = decide (x = y) := by rw [Bool.eq_iff_iff, decide_eq_true_eq, decide_eq_true_eq]; exact ⟨opB_inj s1 s2, fun h => by rw [h]⟩
  have d2 : decide (ansB ⟨0, x.n, 0, x.m, 0, [x.path, x.to_], x.data⟩ = ansB ⟨0, y.n, 0, y.m, 0, [y.path, y.to_], y.data⟩) = decide ((⟨0, x.n, 0, x.m, 0, [x.path, x.to_], x.data⟩ : Ans) = ⟨0, y.n, 0, y.m, 0, [y.path, y.to_], y.data⟩) := by
    rw [Bool.eq_iff_iff, decide_eq_true_eq, decide_eq_true_eq]; exact ⟨ansB_inj a1 a2, fun h => by rw [h]⟩
  rw [d1, d2]
  simp
end Go.Proofs.Ytifkepfcjhebfaa
