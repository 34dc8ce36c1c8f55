import Derived.Test.YtmkpokcfefjifaaDoorP2
set_option linter.unusedSectionVars false
/- The document's side of what a message carries. -/
set_option linter.unusedSimpArgs false
set_option linter.unusedVariables false
namespace Go.Proofs.YtmkpokcfefjifaaDoor
open Go.Ab
end Go.Proofs.YtmkpokcfefjifaaDoor
