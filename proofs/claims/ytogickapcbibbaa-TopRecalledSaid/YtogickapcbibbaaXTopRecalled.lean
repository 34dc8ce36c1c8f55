/- TopRecalled's call. -/
import Derived.Test.YtogickapcbibbaaP8
import Derived.Test.YtogickapcbibbaaW
namespace Go.Proofs.Ytogickapcbibbaa
open Go.Ab Go.Kx Go.RowKit
theorem TopRecalled_law (w : World) (v0 : Value) (y0 : List Int) (z0 : (Rep.slice (Rep.int .u8)).rd w T [v0] y0) (x1 : Nat) (z1 : x1 < 65536) (x2 : Nat) (z2 : x2 < 256) (x3 : Nat) (z3 : x3 < 256) :
    Calls Try.prog 4 #[v0, .int .u16 (x1 : Int), .int .u8 (x2 : Int), .int .u8 (x3 : Int)] w fun e W' => e = .returned (.bool true) ∧ Below w.heap.size w W' :=
  law_of (vs := [_, _, _, _]) (top_TopRecalled_pc (TopRecalled_true y0 ((fun h => okr_slice h (fun h => okr_int h)) z0) (x1 : Int) (by simp only [okI]; omega) (x2 : Int) (by simp only [okI]; omega) (x3 : Int) (by simp only [okI]; omega))) (rvs_cons (((brg_slice (brg_int .u8))).val z0) (rvs_cons (.int _ _) (rvs_cons (.int _ _) (rvs_cons (.int _ _) rvs_nil))))
end Go.Proofs.Ytogickapcbibbaa
