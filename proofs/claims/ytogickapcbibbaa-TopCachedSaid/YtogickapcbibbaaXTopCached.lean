/- TopCached's call. -/
import Derived.Test.YtogickapcbibbaaP5
import Derived.Test.YtogickapcbibbaaW
namespace Go.Proofs.Ytogickapcbibbaa
open Go.Ab Go.Kx Go.RowKit
theorem TopCached_law (w : World) (v0 : Value) (y0 : List Int) (z0 : (Rep.slice (Rep.int .u16)).rd w T [v0] y0) (v1 : Value) (y1 : List Int) (z1 : (Rep.slice (Rep.int .u16)).rd w T [v1] y1) (v2 : Value) (y2 : List Int) (z2 : (Rep.slice (Rep.int .u16)).rd w T [v2] y2) (v3 : Value) (y3 : List ActR14) (z3 : (Rep.slice rep35).rd w T [v3] y3) :
    Calls Try.prog 3 #[v0, v1, v2, v3] w fun e W' => e = .returned (.bool true) ∧ Below w.heap.size w W' :=
  law_of (vs := [_, _, _, _]) (top_TopCached_pc (TopCached_true y0 ((fun h => okr_slice h (fun h => okr_int h)) z0) y1 ((fun h => okr_slice h (fun h => okr_int h)) z1) y2 ((fun h => okr_slice h (fun h => okr_int h)) z2) y3 ((fun h => okr_slice h okr35) z3))) (rvs_cons (((brg_slice (brg_int .u16))).val z0) (rvs_cons (((brg_slice (brg_int .u16))).val z1) (rvs_cons (((brg_slice (brg_int .u16))).val z2) (rvs_cons (((brg_slice brg35)).val z3) rvs_nil))))
end Go.Proofs.Ytogickapcbibbaa
