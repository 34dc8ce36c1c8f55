/- VoteOnce's call. -/
import Derived.Test.YtecdonbjabjaeaaP4
import Derived.Test.YtecdonbjabjaeaaW
namespace Go.Proofs.Ytecdonbjabjaeaa
open Go.Ab Go.Kx Go.RowKit
theorem VoteOnce_law (w : World) (x0 : List Value) (y0 : Seat) (z0 : rep25.rd w T x0 y0) (v1 : Value) (y1 : List Call30) (z1 : (Rep.slice rep31).rd w T [v1] y1) :
    Calls Try.prog 4 #[.agg x0.toArray, v1] w fun e W' => e = .returned (.bool true) ∧ Below w.heap.size w W' :=
  law_of (vs := [_, _]) (law14_VoteOnce_pc (VoteOnce_true y0 (okr25 z0) y1 ((fun h => okr_slice h okr31) z1))) (rvs_cons (brg25.agg z0) (rvs_cons (((brg_slice brg31)).val z1) rvs_nil))
end Go.Proofs.Ytecdonbjabjaeaa
