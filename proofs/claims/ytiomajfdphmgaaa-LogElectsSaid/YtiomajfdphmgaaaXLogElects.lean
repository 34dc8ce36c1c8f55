/- LogElects's call. -/
import Derived.Test.YtiomajfdphmgaaaP9
import Derived.Test.YtiomajfdphmgaaaW
namespace Go.Proofs.Ytiomajfdphmgaaa
open Go.Ab Go.Kx Go.RowKit
theorem LogElects_law (w : World) (v0 : Value) (y0 : List Entry) (z0 : (Rep.slice rep34).rd w T [v0] y0) (v1 : Value) (y1 : List Entry) (z1 : (Rep.slice rep34).rd w T [v1] y1) (v2 : Value) (y2 : List Entry) (z2 : (Rep.slice rep34).rd w T [v2] y2) (x3 : Nat) (z3 : x3 < 256) :
    Calls Try.prog 9 #[v0, v1, v2, .int .u8 (x3 : Int)] w fun e W' => e = .returned (.bool true) ∧ Below w.heap.size w W' :=
  law_of (vs := [_, _, _, _]) (law13_LogElects_pc (LogElects_true y0 ((fun h => okr_slice h okr34) z0) y1 ((fun h => okr_slice h okr34) z1) y2 ((fun h => okr_slice h okr34) z2) (x3 : Int) (by simp only [okI]; omega))) (rvs_cons (((brg_slice brg34)).val z0) (rvs_cons (((brg_slice brg34)).val z1) (rvs_cons (((brg_slice brg34)).val z2) (rvs_cons (.int _ _) rvs_nil))))
end Go.Proofs.Ytiomajfdphmgaaa
