/- PackWhole's call. -/
import Derived.Test.YtifkepfcjhebfaaP11
import Derived.Test.YtifkepfcjhebfaaW
namespace Go.Proofs.Ytifkepfcjhebfaa
open Go.Ab Go.Kx Go.RowKit
theorem PackWhole_law (w : World) (x0 : List Value) (y0 : Op) (z0 : rep24.rd w T x0 y0) (x1 : List Value) (y1 : Ans) (z1 : rep30.rd w T x1 y1) :
    Calls Try.prog 6 #[.agg x0.toArray, .agg x1.toArray] w fun e W' => e = .returned (.bool true) ∧ Below w.heap.size w W' :=
  law_of (vs := [_, _]) (law01_PackWhole_pc (PackWhole_true y0 (okr24 z0) y1 (okr30 z1))) (rvs_cons (brg24.agg z0) (rvs_cons (brg30.agg z1) rvs_nil))
end Go.Proofs.Ytifkepfcjhebfaa
