import Derived.Test.YtmkpokcfefjifaaDoorQ1
import Derived.Test.YtmkpokcfefjifaaDoorF4
set_option linter.unusedSectionVars false
/- What the seat's machine does, in plain words: what is sent, what is committed, who leads. -/
set_option linter.unusedSimpArgs false
set_option linter.unusedVariables false
namespace Go.Proofs.YtmkpokcfefjifaaDoor
open Go.Ab Go.RowKit
/-! entries that are sent -/
end Go.Proofs.YtmkpokcfefjifaaDoor
