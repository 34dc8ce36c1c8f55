import Derived.Test.YtjflkcfafijhfaaGreatQ18
import Derived.Test.YtjflkcfafijhfaaGreatQ39
set_option linter.unusedSectionVars false
/- How the laws' arguments are read. -/
set_option linter.unusedVariables false
namespace Go.Proofs.YtjflkcfafijhfaaGreat
open Go.Ab Go.Kx
def HurtR14.ok (x : HurtR14) : Prop := (okI .u8 x.do_) ∧ (okI .u8 x.server) ∧ (okI .u8 x.id) ∧ (okI .u16 x.bit)
end Go.Proofs.YtjflkcfafijhfaaGreat
