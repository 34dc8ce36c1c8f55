import Derived.Test.YtmkpokcfefjifaaDoorQ4
set_option linter.unusedSectionVars false
/- Hear, in plain words; what is right stays right. -/
set_option linter.unusedSimpArgs false
set_option linter.unusedVariables false
namespace Go.Proofs.YtmkpokcfefjifaaDoor
open Go.Ab Go.RowKit
end Go.Proofs.YtmkpokcfefjifaaDoor
