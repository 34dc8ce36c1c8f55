/- VoteTells's call. -/
import Derived.Test.YtecdonbjabjaeaaP3
import Derived.Test.YtecdonbjabjaeaaW
namespace Go.Proofs.Ytecdonbjabjaeaa
open Go.Ab Go.Kx Go.RowKit
theorem VoteTells_law (w : World) (x0 : List Value) (y0 : Seat) (z0 : rep25.rd w T x0 y0) (v1 : Value) (y1 : List Call30) (z1 : (Rep.slice rep31).rd w T [v1] y1) (v2 : Value) (y2 : List Int) (z2 : (Rep.slice (Rep.int .i64)).rd w T [v2] y2) :
    Calls Try.prog 3 #[.agg x0.toArray, v1, v2] w fun e W' => e = .returned (.bool true) ∧ Below w.heap.size w W' :=
  law_of (vs := [_, _, _]) (law14_VoteTells_pc (VoteTells_true y0 (okr25 z0) y1 ((fun h => okr_slice h okr31) z1) y2 ((fun h => okr_slice h (fun h => okr_int h)) z2))) (rvs_cons (brg25.agg z0) (rvs_cons (((brg_slice brg31)).val z1) (rvs_cons (((brg_slice (brg_int .i64))).val z2) rvs_nil)))
end Go.Proofs.Ytecdonbjabjaeaa
