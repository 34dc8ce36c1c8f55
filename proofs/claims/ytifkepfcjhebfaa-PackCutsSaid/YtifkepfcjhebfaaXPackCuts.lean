/- PackCuts's call. -/
import Derived.Test.YtifkepfcjhebfaaP12
import Derived.Test.YtifkepfcjhebfaaW
namespace Go.Proofs.Ytifkepfcjhebfaa
open Go.Ab Go.Kx Go.RowKit
theorem PackCuts_law (w : World) (x0 : List Value) (y0 : Op) (z0 : rep24.rd w T x0 y0) (x1 : List Value) (y1 : Ans) (z1 : rep30.rd w T x1 y1) (x2 : Nat) (z2 : x2 < 65536) :
    Calls Try.prog 7 #[.agg x0.toArray, .agg x1.toArray, .int .u16 (x2 : Int)] w fun e W' => e = .returned (.bool true) ∧ Below w.heap.size w W' :=
  law_of (vs := [_, _, _]) (law01_PackCuts_pc (PackCuts_true y0 (okr24 z0) y1 (okr30 z1) (x2 : Int) (by simp only [okI]; omega))) (rvs_cons (brg24.agg z0) (rvs_cons (brg30.agg z1) (rvs_cons (.int _ _) rvs_nil)))
end Go.Proofs.Ytifkepfcjhebfaa
