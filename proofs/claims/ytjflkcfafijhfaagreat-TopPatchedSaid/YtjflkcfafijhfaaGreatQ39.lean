import Derived.Test.YtjflkcfafijhfaaGreatQ25
import Derived.ChangeArms
set_option linter.unusedSectionVars false
/- Strings among the arguments that are read. No program here. -/
namespace Go.Kx
open Go.RowKit Go.WideShapes
def Rep.str : Rep ByteArray where
 size := 1
 rd _ _ cs x := cs = [.string x] ∧ x.size ≤ 9223372036854775807
 len h := by rw [h.1]; rfl
 one h := by rw [h.1]; intro v hv; simp at hv; subst hv; rfl
 keep _ h := h
 more _ h := h
end Go.Kx
namespace Go.Ab
open Go.RowKit Go.Kx
variable [Lay]
end Go.Ab
