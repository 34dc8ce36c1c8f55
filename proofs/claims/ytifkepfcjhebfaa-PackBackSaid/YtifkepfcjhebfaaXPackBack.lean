/- PackBack's call. -/
import Derived.Test.YtifkepfcjhebfaaP10
import Derived.Test.YtifkepfcjhebfaaW
namespace Go.Proofs.Ytifkepfcjhebfaa
open Go.Ab Go.Kx Go.RowKit
theorem PackBack_law (w : World) (v0 : Value) (y0 : List Int) (z0 : (Rep.slice (Rep.int .i64)).rd w T [v0] y0) (x1 : ByteArray) (z1 : x1.size ≤ 9223372036854775807) (v2 : Value) (y2 : List Int) (z2 : (Rep.slice (Rep.int .u8)).rd w T [v2] y2) :
    Calls Try.prog 5 #[v0, .string x1, v2] w fun e W' => e = .returned (.bool true) ∧ Below w.heap.size w W' :=
  law_of (vs := [_, _, _]) (law01_PackBack_pc (PackBack_true y0 ((fun h => okr_slice h (fun h => okr_int h)) z0) x1 z1 y2 ((fun h => okr_slice h (fun h => okr_int h)) z2))) (rvs_cons (((brg_slice (brg_int .i64))).val z0) (rvs_cons (.str _) (rvs_cons (((brg_slice (brg_int .u8))).val z2) rvs_nil)))
end Go.Proofs.Ytifkepfcjhebfaa
