/- WireSides's call. -/
import Derived.Test.YteebeajhoemdpaaP7
import Derived.Test.YteebeajhoemdpaaW
namespace Go.Proofs.Yteebeajhoemdpaa
open Go.Ab Go.Kx Go.RowKit
theorem WireSides_law (w : World) (v0 : Value) (y0 : List Msg) (z0 : (Rep.slice rep26).rd w T [v0] y0) (v1 : Value) (y1 : List Int) (z1 : (Rep.slice (Rep.int .i64)).rd w T [v1] y1) :
    Calls Try.prog 7 #[v0, v1] w fun e W' => e = .returned (.bool true) ∧ Below w.heap.size w W' :=
  law_of (vs := [_, _]) (law05_WireSides_pc (WireSides_true y0 ((fun h => okr_slice h okr26) z0) y1 ((fun h => okr_slice h (fun h => okr_int h)) z1))) (rvs_cons (((brg_slice brg26)).val z0) (rvs_cons (((brg_slice (brg_int .i64))).val z1) rvs_nil))
end Go.Proofs.Yteebeajhoemdpaa
