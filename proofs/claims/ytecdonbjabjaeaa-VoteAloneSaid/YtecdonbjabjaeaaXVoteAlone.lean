/- VoteAlone's call. -/
import Derived.Test.YtecdonbjabjaeaaP8
import Derived.Test.YtecdonbjabjaeaaW
namespace Go.Proofs.Ytecdonbjabjaeaa
open Go.Ab Go.Kx Go.RowKit
theorem VoteAlone_law (w : World) (x0 : List Value) (y0 : Seat) (z0 : rep25.rd w T x0 y0) (x1 : List Value) (y1 : Call30) (z1 : rep31.rd w T x1 y1) :
    Calls Try.prog 8 #[.agg x0.toArray, .agg x1.toArray] w fun e W' => e = .returned (.bool true) ∧ Below w.heap.size w W' :=
  law_of (vs := [_, _]) (law14_VoteAlone_pc (VoteAlone_true y0 (okr25 z0) y1 (okr31 z1))) (rvs_cons (brg25.agg z0) (rvs_cons (brg31.agg z1) rvs_nil))
end Go.Proofs.Ytecdonbjabjaeaa
