/- LogTells's call. -/
import Derived.Test.YtiomajfdphmgaaaP3
import Derived.Test.YtiomajfdphmgaaaW
namespace Go.Proofs.Ytiomajfdphmgaaa
open Go.Ab Go.Kx Go.RowKit
theorem LogTells_law (w : World) (v0 : Value) (y0 : List Entry) (z0 : (Rep.slice rep34).rd w T [v0] y0) (x1 : Int) (z1 : (Lit.int .i64 x1).wf = true) (x2 : Int) (z2 : (Lit.int .i64 x2).wf = true) (v3 : Value) (y3 : List Entry) (z3 : (Rep.slice rep34).rd w T [v3] y3) (v4 : Value) (y4 : List Int) (z4 : (Rep.slice (Rep.int .i64)).rd w T [v4] y4) (x5 : Int) (z5 : (Lit.int .i64 x5).wf = true) :
    Calls Try.prog 3 #[v0, .int .i64 x1, .int .i64 x2, v3, v4, .int .i64 x5] w fun e W' => e = .returned (.bool true) ∧ Below w.heap.size w W' :=
  law_of (vs := [_, _, _, _, _, _]) (law13_LogTells_pc (LogTells_true y0 ((fun h => okr_slice h okr34) z0) x1 (okI_of z1) x2 (okI_of z2) y3 ((fun h => okr_slice h okr34) z3) y4 ((fun h => okr_slice h (fun h => okr_int h)) z4) x5 (okI_of z5))) (rvs_cons (((brg_slice brg34)).val z0) (rvs_cons (.int _ _) (rvs_cons (.int _ _) (rvs_cons (((brg_slice brg34)).val z3) (rvs_cons (((brg_slice (brg_int .i64))).val z4) (rvs_cons (.int _ _) rvs_nil))))))
end Go.Proofs.Ytiomajfdphmgaaa
