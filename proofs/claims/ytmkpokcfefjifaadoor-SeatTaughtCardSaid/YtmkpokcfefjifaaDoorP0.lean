import Derived.Test.YtmkpokcfefjifaaDoorE0
set_option linter.unusedSectionVars false
/- The head as a plain law, by the kernel. -/
namespace Go.Proofs.YtmkpokcfefjifaaDoor
open Go.Ab
set_option maxRecDepth 100000 in
theorem g_head_true : g_law15_head_f 1000000000000000000 = some true := by decide +kernel
theorem head_true : law15_head_f = some true := by rw [e_law15_head_f, BIG_eq]; exact g_head_true
end Go.Proofs.YtmkpokcfefjifaaDoor
