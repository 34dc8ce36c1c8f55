/- VoteMeets's call. -/
import Derived.Test.YtecdonbjabjaeaaP5
import Derived.Test.YtecdonbjabjaeaaW
namespace Go.Proofs.Ytecdonbjabjaeaa
open Go.Ab Go.Kx Go.RowKit
theorem VoteMeets_law (w : World) (v0 : Value) (y0 : List Int) (z0 : (Rep.slice (Rep.int .i64)).rd w T [v0] y0) (v1 : Value) (y1 : List Int) (z1 : (Rep.slice (Rep.int .i64)).rd w T [v1] y1) (v2 : Value) (y2 : List Int) (z2 : (Rep.slice (Rep.int .u8)).rd w T [v2] y2) :
    Calls Try.prog 5 #[v0, v1, v2] w fun e W' => e = .returned (.bool true) ∧ Below w.heap.size w W' :=
  law_of (vs := [_, _, _]) (law14_VoteMeets_pc (VoteMeets_true y0 ((fun h => okr_slice h (fun h => okr_int h)) z0) y1 ((fun h => okr_slice h (fun h => okr_int h)) z1) y2 ((fun h => okr_slice h (fun h => okr_int h)) z2))) (rvs_cons (((brg_slice (brg_int .i64))).val z0) (rvs_cons (((brg_slice (brg_int .i64))).val z1) (rvs_cons (((brg_slice (brg_int .u8))).val z2) rvs_nil)))
end Go.Proofs.Ytecdonbjabjaeaa
