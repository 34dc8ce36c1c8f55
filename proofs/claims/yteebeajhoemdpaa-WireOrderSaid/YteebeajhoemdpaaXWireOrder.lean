/- WireOrder's call. -/
import Derived.Test.YteebeajhoemdpaaP5
import Derived.Test.YteebeajhoemdpaaW
namespace Go.Proofs.Yteebeajhoemdpaa
open Go.Ab Go.Kx Go.RowKit
theorem WireOrder_law (w : World) (v0 : Value) (y0 : List Msg) (z0 : (Rep.slice rep26).rd w T [v0] y0) (x1 : List Value) (y1 : Msg) (z1 : rep26.rd w T x1 y1) (x2 : Nat) (z2 : x2 < 256) :
    Calls Try.prog 5 #[v0, .agg x1.toArray, .int .u8 (x2 : Int)] w fun e W' => e = .returned (.bool true) ∧ Below w.heap.size w W' :=
  law_of (vs := [_, _, _]) (law05_WireOrder_pc (WireOrder_true y0 ((fun h => okr_slice h okr26) z0) y1 (okr26 z1) (x2 : Int) (by simp only [okI]; omega))) (rvs_cons (((brg_slice brg26)).val z0) (rvs_cons (brg26.agg z1) (rvs_cons (.int _ _) rvs_nil)))
end Go.Proofs.Yteebeajhoemdpaa
