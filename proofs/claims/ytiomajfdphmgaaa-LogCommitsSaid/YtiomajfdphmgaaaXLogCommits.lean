/- LogCommits's call. -/
import Derived.Test.YtiomajfdphmgaaaP8
import Derived.Test.YtiomajfdphmgaaaW
namespace Go.Proofs.Ytiomajfdphmgaaa
open Go.Ab Go.Kx Go.RowKit
theorem LogCommits_law (w : World) (v0 : Value) (y0 : List Entry) (z0 : (Rep.slice rep34).rd w T [v0] y0) (x1 : Int) (z1 : (Lit.int .i64 x1).wf = true) (v2 : Value) (y2 : List Int) (z2 : (Rep.slice (Rep.int .u8)).rd w T [v2] y2) (v3 : Value) (y3 : List Int) (z3 : (Rep.slice (Rep.int .u8)).rd w T [v3] y3) (x4 : Nat) (z4 : x4 < 256) :
    Calls Try.prog 8 #[v0, .int .i64 x1, v2, v3, .int .u8 (x4 : Int)] w fun e W' => e = .returned (.bool true) ∧ Below w.heap.size w W' :=
  law_of (vs := [_, _, _, _, _]) (law13_LogCommits_pc (LogCommits_true y0 ((fun h => okr_slice h okr34) z0) x1 (okI_of z1) y2 ((fun h => okr_slice h (fun h => okr_int h)) z2) y3 ((fun h => okr_slice h (fun h => okr_int h)) z3) (x4 : Int) (by simp only [okI]; omega))) (rvs_cons (((brg_slice brg34)).val z0) (rvs_cons (.int _ _) (rvs_cons (((brg_slice (brg_int .u8))).val z2) (rvs_cons (((brg_slice (brg_int .u8))).val z3) (rvs_cons (.int _ _) rvs_nil)))))
end Go.Proofs.Ytiomajfdphmgaaa
