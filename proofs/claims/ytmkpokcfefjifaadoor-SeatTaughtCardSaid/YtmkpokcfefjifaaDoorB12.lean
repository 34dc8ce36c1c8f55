import Derived.Test.YtmkpokcfefjifaaDoorB10
import Derived.Laws.StructEq
set_option linter.unusedSectionVars false
/- A call that answers a slice of its own, of cells without addresses: what it was lent is as it was. And == of two rows. No program here. -/
namespace Go.Ab
open Go.RowKit
variable [Lay]
section
variable {P : Program} {σ : St} {i : Nat} {o : Oper} {F : FuncId} {first cap argsD ds : List Dat} {K : St → Prop} {B : Blk} {st : Nat}
end
/-- one of two -/
def two {β : Type} (n : Int) (a b : Option β) : Option β := if n = 0 then a else if n = 1 then b else none
end Go.Ab
