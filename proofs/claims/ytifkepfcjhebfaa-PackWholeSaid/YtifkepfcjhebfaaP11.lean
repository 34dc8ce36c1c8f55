/- PackWhole, the plain law. -/
import Derived.Test.YtifkepfcjhebfaaG6
import Derived.Test.YtifkepfcjhebfaaP7
set_option linter.unusedSimpArgs false
set_option linter.unusedVariables false
namespace Go.Proofs.Ytifkepfcjhebfaa
open Go.Ab Go.RowKit
theorem PackWhole_true (y0 : Op) (o0 : Op.ok y0) (y1 : Ans) (o1 : Ans.ok y1) : law01_PackWhole_f y0 y1 = some true := by
  unfold law01_PackWhole_f
  obtain ⟨p, e1, s1, l1⟩ := cutOp_eq o0
  obtain ⟨q, e2, hq⟩ := cutAns_eq o1
  have l2 := ansB_len hq
  obtain ⟨s2, t1, t2, t3⟩ := hq
  have g1 : G (opB p) := ⟨opB_ok s1, by omega⟩
  have g2 : G (ansB q) := ⟨ansB_ok s2, by omega⟩
  have r1 : pOp (opB p) = .ok p [] := (end_laws (cod_op s1)).1
  have r2 : pAns (ansB q) = .ok q [] := (end_laws (cod_ans s2)).1
  rw [head_eq, Option.bind_some, e1, Option.bind_some, e2, Option.bind_some, pOp_eq s1, Option.bind_some, pReadOp_eq g1, Option.bind_some, pAns_eq s2, Option.bind_some, pReadAns_eq g2, Option.bind_some, r1, r2, cond_true]
  simp only [TE]
  rw [sameOp_eq s1.1.2.2.2.2.2.2.2 s1.1.2.2.2.2.2.2.2, Option.bind_some, sameAns_eq s2.1.2.2.2.2.2.2 s2.1.2.2.2.2.2.2 (by omega), Option.bind_some]
  simp
end Go.Proofs.Ytifkepfcjhebfaa
