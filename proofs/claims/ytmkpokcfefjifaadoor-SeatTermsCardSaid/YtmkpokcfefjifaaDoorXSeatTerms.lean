import Derived.Test.YtmkpokcfefjifaaDoorR6
import Derived.Test.YtmkpokcfefjifaaDoorW
import Derived.Test.YtmkpokcfefjifaaDoorA17
set_option linter.unusedSectionVars false
/- SeatTerms's call. -/
namespace Go.Proofs.YtmkpokcfefjifaaDoor
open Go.Ab Go.Kx Go.RowKit
theorem SeatTerms_law (w : World) (hG : Lay.gp w (fun b => b < w.heap.size)) (x0 : List Value) (y0 : Seat) (z0 : rep25.rd w T x0 y0) (v1 : Value) (y1 : List Step) (z1 : (Rep.slice rep45).rd w T [v1] y1) :
    Calls Tryd.prog 6 #[.agg x0.toArray, v1] w fun e W' => e = .returned (.bool true) ∧ Below w.heap.size w W' :=
  law_of (vs := [_, _]) (law15_SeatTerms_pc (SeatTerms_true y0 (okr25 z0) y1 ((fun h => okr_slice h okr45) z1))) hG (rvs_cons (brg25.agg z0) (rvs_cons (((brg_slice brg45)).val z1) rvs_nil))
end Go.Proofs.YtmkpokcfefjifaaDoor
