import Derived.Test.YtmkpokcfefjifaaDoorA2
import Derived.Laws.IdiomStrings
set_option linter.unusedSectionVars false
/- DERIVED. A string's bytes: appended, and as a new slice. No program here. -/
namespace Go.Ab
open Go.RowKit
variable [Lay]
/-- a string's bytes, as cells -/
def strCells (s : ByteArray) : List (List Dat) := s.data.toList.map fun b => [.int .u8 (b.toNat : Int)]
section
variable {P : Program} (w : World)
end
def evAppStr (P : Program) (σ : St) (i : Nat) (t1 t2 : TypeId) (s : Dat) (x : ByteArray) : Option Ef :=
  match ti P t1 with
  | some ⟨_, _, _, _, .slice e⟩ => match ti P e with
    | some y => match s with
      | .nil => some { val := .ref (σ.n + i) 0 x.size y.sz, rd := [], wr := [(σ.n + i, some ⟨e, y.sz, false, strCells x⟩)], side := y.sz = 1 ∧ 0 < y.bytes ∧ y.zero.length = y.sz ∧ x.size * y.bytes ≤ 140737488355328 }
      | .ref j off len st => match σ.h j with
        | some B => some { val := .ref (σ.n + i) 0 (len + x.size) y.sz, rd := [j], wr := [(j, none), (σ.n + i, some ⟨e, y.sz, false, (if len = B.es.length then B.es else B.es.take len) ++ strCells x⟩)], side := off = 0 ∧ st = y.sz ∧ B.st = y.sz ∧ B.e = e ∧ B.fz = false ∧ len ≤ B.es.length ∧ y.sz = 1 ∧ 0 < y.bytes ∧ y.zero.length = y.sz ∧ (len + x.size) * y.bytes ≤ 140737488355328 }
        | none => none
      | _ => none
    | none => none
  | _ => none
section
variable {P : Program} {X : Cx} {S S' : Nat → Prop} {σ : St} {i : Nat}
end
end Go.Ab
