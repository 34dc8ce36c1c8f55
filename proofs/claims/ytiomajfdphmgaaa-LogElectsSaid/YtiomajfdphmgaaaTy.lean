/- Functions of the program as Lean functions, and that they are so; printed by a program of mine. -/
import Derived.Test.YtiomajfdphmgaaaTi
import Derived.Test.YtiomajfdphmgaaaB9
set_option linter.unusedSimpArgs false
set_option linter.unusedVariables false
namespace Go.Proofs.Ytiomajfdphmgaaa
open Go.Ab
noncomputable section
structure Entry where
  term : Int
  data : List Int
deriving DecidableEq, Inhabited
def Entry.c (x : Entry) : List Dat := [.int .i64 x.term, .list 1 (x.data.map (ci .u8))]
theorem Entry.pu (x : Entry) : Pus (Entry.c x) := (Pus.cons (.int _ _) (Pus.cons (.listMap _ _ (ci_pu .u8)) Pus.nil))
theorem CS_Entry (x : Entry) : Entry.c x = [.int .i64 x.term, .list 1 (x.data.map (ci .u8))] := rfl
theorem CS : (type_of% @CS_Entry) := @CS_Entry

end
end Go.Proofs.Ytiomajfdphmgaaa
