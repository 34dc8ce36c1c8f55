/- PackTells's call. -/
import Derived.Test.YtifkepfcjhebfaaP9
import Derived.Test.YtifkepfcjhebfaaW
namespace Go.Proofs.Ytifkepfcjhebfaa
open Go.Ab Go.Kx Go.RowKit
theorem PackTells_law (w : World) (v0 : Value) (y0 : List Int) (z0 : (Rep.slice (Rep.int .i64)).rd w T [v0] y0) (x1 : List Value) (y1 : Op) (z1 : rep24.rd w T x1 y1) (x2 : List Value) (y2 : Ans) (z2 : rep30.rd w T x2 y2) :
    Calls Try.prog 4 #[v0, .agg x1.toArray, .agg x2.toArray] w fun e W' => e = .returned (.bool true) ∧ Below w.heap.size w W' :=
  law_of (vs := [_, _, _]) (law01_PackTells_pc (PackTells_true y0 ((fun h => okr_slice h (fun h => okr_int h)) z0) y1 (okr24 z1) y2 (okr30 z2))) (rvs_cons (((brg_slice (brg_int .i64))).val z0) (rvs_cons (brg24.agg z1) (rvs_cons (brg30.agg z2) rvs_nil)))
end Go.Proofs.Ytifkepfcjhebfaa
