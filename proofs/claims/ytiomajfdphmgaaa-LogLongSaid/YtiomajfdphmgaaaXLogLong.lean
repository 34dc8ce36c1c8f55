/- LogLong's call. -/
import Derived.Test.YtiomajfdphmgaaaP4
import Derived.Test.YtiomajfdphmgaaaW
namespace Go.Proofs.Ytiomajfdphmgaaa
open Go.Ab Go.Kx Go.RowKit
theorem LogLong_law (w : World) (v0 : Value) (y0 : List Entry) (z0 : (Rep.slice rep34).rd w T [v0] y0) (x1 : List Value) (y1 : Entry) (z1 : rep34.rd w T x1 y1) :
    Calls Try.prog 4 #[v0, .agg x1.toArray] w fun e W' => e = .returned (.bool true) ∧ Below w.heap.size w W' :=
  law_of (vs := [_, _]) (law13_LogLong_pc (LogLong_true y0 ((fun h => okr_slice h okr34) z0) y1 (okr34 z1))) (rvs_cons (((brg_slice brg34)).val z0) (rvs_cons (brg34.agg z1) rvs_nil))
end Go.Proofs.Ytiomajfdphmgaaa
