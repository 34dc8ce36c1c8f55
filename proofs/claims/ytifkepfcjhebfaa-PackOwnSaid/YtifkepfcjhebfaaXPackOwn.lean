/- PackOwn's call. -/
import Derived.Test.YtifkepfcjhebfaaP14
import Derived.Test.YtifkepfcjhebfaaW
namespace Go.Proofs.Ytifkepfcjhebfaa
open Go.Ab Go.Kx Go.RowKit
theorem PackOwn_law (w : World) (v0 : Value) (y0 : List Int) (z0 : (Rep.slice (Rep.int .u8)).rd w T [v0] y0) :
    Calls Try.prog 9 #[v0] w fun e W' => e = .returned (.bool true) ∧ Below w.heap.size w W' :=
  law_of (vs := [_]) (law01_PackOwn_pc (PackOwn_true y0 ((fun h => okr_slice h (fun h => okr_int h)) z0))) (rvs_cons (((brg_slice (brg_int .u8))).val z0) rvs_nil)
end Go.Proofs.Ytifkepfcjhebfaa
