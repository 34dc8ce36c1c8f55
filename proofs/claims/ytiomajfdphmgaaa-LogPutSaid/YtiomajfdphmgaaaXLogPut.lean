/- LogPut's call. -/
import Derived.Test.YtiomajfdphmgaaaP5
import Derived.Test.YtiomajfdphmgaaaW
namespace Go.Proofs.Ytiomajfdphmgaaa
open Go.Ab Go.Kx Go.RowKit
theorem LogPut_law (w : World) (v0 : Value) (y0 : List Entry) (z0 : (Rep.slice rep34).rd w T [v0] y0) (x1 : Nat) (z1 : x1 < 256) (v2 : Value) (y2 : List Entry) (z2 : (Rep.slice rep34).rd w T [v2] y2) (x3 : Nat) (z3 : x3 < 256) :
    Calls Try.prog 5 #[v0, .int .u8 (x1 : Int), v2, .int .u8 (x3 : Int)] w fun e W' => e = .returned (.bool true) ∧ Below w.heap.size w W' :=
  law_of (vs := [_, _, _, _]) (law13_LogPut_pc (LogPut_true y0 ((fun h => okr_slice h okr34) z0) (x1 : Int) (by simp only [okI]; omega) y2 ((fun h => okr_slice h okr34) z2) (x3 : Int) (by simp only [okI]; omega))) (rvs_cons (((brg_slice brg34)).val z0) (rvs_cons (.int _ _) (rvs_cons (((brg_slice brg34)).val z2) (rvs_cons (.int _ _) rvs_nil))))
end Go.Proofs.Ytiomajfdphmgaaa
