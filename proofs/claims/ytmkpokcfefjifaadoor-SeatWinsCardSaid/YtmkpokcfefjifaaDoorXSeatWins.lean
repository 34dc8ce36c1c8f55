import Derived.Test.YtmkpokcfefjifaaDoorR4
import Derived.Test.YtmkpokcfefjifaaDoorW
import Derived.Test.YtmkpokcfefjifaaDoorA17
set_option linter.unusedSectionVars false
/- SeatWins's call. -/
namespace Go.Proofs.YtmkpokcfefjifaaDoor
open Go.Ab Go.Kx Go.RowKit
theorem SeatWins_law (w : World) (hG : Lay.gp w (fun b => b < w.heap.size)) (x0 : Nat) (z0 : x0 < 256) (x1 : Nat) (z1 : x1 < 256) (v2 : Value) (y2 : List Int) (z2 : (Rep.slice (Rep.int .u8)).rd w T [v2] y2) (v3 : Value) (y3 : List Int) (z3 : (Rep.slice (Rep.int .u8)).rd w T [v3] y3) :
    Calls Tryd.prog 4 #[.int .u8 (x0 : Int), .int .u8 (x1 : Int), v2, v3] w fun e W' => e = .returned (.bool true) ∧ Below w.heap.size w W' :=
  law_of (vs := [_, _, _, _]) (law15_SeatWins_pc (SeatWins_true (x0 : Int) (by simp only [okI]; omega) (x1 : Int) (by simp only [okI]; omega) y2 ((fun h => okr_slice h (fun h => okr_int h)) z2) y3 ((fun h => okr_slice h (fun h => okr_int h)) z3))) hG (rvs_cons (.int _ _) (rvs_cons (.int _ _) (rvs_cons (((brg_slice (brg_int .u8))).val z2) (rvs_cons (((brg_slice (brg_int .u8))).val z3) rvs_nil))))
end Go.Proofs.YtmkpokcfefjifaaDoor
