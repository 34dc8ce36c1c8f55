/- WireCounts's call. -/
import Derived.Test.YteebeajhoemdpaaP4
import Derived.Test.YteebeajhoemdpaaW
namespace Go.Proofs.Yteebeajhoemdpaa
open Go.Ab Go.Kx Go.RowKit
theorem WireCounts_law (w : World) (v0 : Value) (y0 : List Act) (z0 : (Rep.slice rep40).rd w T [v0] y0) (x1 : List Value) (y1 : Msg) (z1 : rep26.rd w T x1 y1) :
    Calls Try.prog 4 #[v0, .agg x1.toArray] w fun e W' => e = .returned (.bool true) ∧ Below w.heap.size w W' :=
  law_of (vs := [_, _]) (law05_WireCounts_pc (WireCounts_true y0 ((fun h => okr_slice h okr40) z0) y1 (okr26 z1))) (rvs_cons (((brg_slice brg40)).val z0) (rvs_cons (brg26.agg z1) rvs_nil))
end Go.Proofs.Yteebeajhoemdpaa
