/- WireTells's call. -/
import Derived.Test.YteebeajhoemdpaaP3
import Derived.Test.YteebeajhoemdpaaW
namespace Go.Proofs.Yteebeajhoemdpaa
open Go.Ab Go.Kx Go.RowKit
theorem WireTells_law (w : World) (v0 : Value) (y0 : List Msg) (z0 : (Rep.slice rep26).rd w T [v0] y0) (x1 : List Value) (y1 : Msg) (z1 : rep26.rd w T x1 y1) (x2 : Int) (z2 : (Lit.int .i64 x2).wf = true) (x3 : Int) (z3 : (Lit.int .i64 x3).wf = true) (v4 : Value) (y4 : List Int) (z4 : (Rep.slice (Rep.int .i64)).rd w T [v4] y4) :
    Calls Try.prog 3 #[v0, .agg x1.toArray, .int .i64 x2, .int .i64 x3, v4] w fun e W' => e = .returned (.bool true) ∧ Below w.heap.size w W' :=
  law_of (vs := [_, _, _, _, _]) (law05_WireTells_pc (WireTells_true y0 ((fun h => okr_slice h okr26) z0) y1 (okr26 z1) x2 (okI_of z2) x3 (okI_of z3) y4 ((fun h => okr_slice h (fun h => okr_int h)) z4))) (rvs_cons (((brg_slice brg26)).val z0) (rvs_cons (brg26.agg z1) (rvs_cons (.int _ _) (rvs_cons (.int _ _) (rvs_cons (((brg_slice (brg_int .i64))).val z4) rvs_nil)))))
end Go.Proofs.Yteebeajhoemdpaa
