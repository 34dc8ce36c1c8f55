import Derived.Test.YtmkpokcfefjifaaDoorR7
import Derived.Test.YtmkpokcfefjifaaDoorW
import Derived.Test.YtmkpokcfefjifaaDoorA17
set_option linter.unusedSectionVars false
/- SeatTaught's call. -/
namespace Go.Proofs.YtmkpokcfefjifaaDoor
open Go.Ab Go.Kx Go.RowKit
theorem SeatTaught_law (w : World) (hG : Lay.gp w (fun b => b < w.heap.size)) (x0 : List Value) (y0 : Seat) (z0 : rep25.rd w T x0 y0) (x1 : List Value) (y1 : Seat) (z1 : rep25.rd w T x1 y1) :
    Calls Tryd.prog 7 #[.agg x0.toArray, .agg x1.toArray] w fun e W' => e = .returned (.bool true) ∧ Below w.heap.size w W' :=
  law_of (vs := [_, _]) (law15_SeatTaught_pc (SeatTaught_true y0 (okr25 z0) y1 (okr25 z1))) hG (rvs_cons (brg25.agg z0) (rvs_cons (brg25.agg z1) rvs_nil))
end Go.Proofs.YtmkpokcfefjifaaDoor
