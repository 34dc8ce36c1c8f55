/- VoteWinner's call. -/
import Derived.Test.YtecdonbjabjaeaaP6
import Derived.Test.YtecdonbjabjaeaaW
namespace Go.Proofs.Ytecdonbjabjaeaa
open Go.Ab Go.Kx Go.RowKit
theorem VoteWinner_law (w : World) (v0 : Value) (y0 : List (List Int)) (z0 : (Rep.slice (Rep.slice (Rep.int .u8))).rd w T [v0] y0) (v1 : Value) (y1 : List Int) (z1 : (Rep.slice (Rep.int .u16)).rd w T [v1] y1) :
    Calls Try.prog 6 #[v0, v1] w fun e W' => e = .returned (.bool true) ∧ Below w.heap.size w W' :=
  law_of (vs := [_, _]) (law14_VoteWinner_pc (VoteWinner_true y0 ((fun h => okr_slice h (fun h => okr_slice h (fun h => okr_int h))) z0) y1 ((fun h => okr_slice h (fun h => okr_int h)) z1))) (rvs_cons (((brg_slice (brg_slice (brg_int .u8)))).val z0) (rvs_cons (((brg_slice (brg_int .u16))).val z1) rvs_nil))
end Go.Proofs.Ytecdonbjabjaeaa
