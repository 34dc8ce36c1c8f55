/- How the laws' arguments are read. -/
import Derived.Test.YtogickapcbibbaaTy
import Derived.Test.YtogickapcbibbaaB11
set_option linter.unusedVariables false
namespace Go.Proofs.Ytogickapcbibbaa
open Go.Ab Go.Kx

end Go.Proofs.Ytogickapcbibbaa
