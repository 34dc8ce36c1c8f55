/- PackUnlike's call. -/
import Derived.Test.YtifkepfcjhebfaaP8
import Derived.Test.YtifkepfcjhebfaaW
namespace Go.Proofs.Ytifkepfcjhebfaa
open Go.Ab Go.Kx Go.RowKit
theorem PackUnlike_law (w : World) (x0 : List Value) (y0 : Op) (z0 : rep24.rd w T x0 y0) (x1 : List Value) (y1 : Op) (z1 : rep24.rd w T x1 y1) :
    Calls Try.prog 3 #[.agg x0.toArray, .agg x1.toArray] w fun e W' => e = .returned (.bool true) ∧ Below w.heap.size w W' :=
  law_of (vs := [_, _]) (law01_PackUnlike_pc (PackUnlike_true y0 (okr24 z0) y1 (okr24 z1))) (rvs_cons (brg24.agg z0) (rvs_cons (brg24.agg z1) rvs_nil))
end Go.Proofs.Ytifkepfcjhebfaa
