/- Functions of the program as Lean functions, and that they are so; printed by a program of mine. -/
import Derived.Test.YtecdonbjabjaeaaTi
import Derived.Test.YtecdonbjabjaeaaB9
set_option linter.unusedSimpArgs false
set_option linter.unusedVariables false
namespace Go.Proofs.Ytecdonbjabjaeaa
open Go.Ab
noncomputable section
structure Entry where
  term : Int
  data : List Int
deriving DecidableEq, Inhabited
def Entry.c (x : Entry) : List Dat := [.int .i64 x.term, .list 1 (x.data.map (ci .u8))]
theorem Entry.pu (x : Entry) : Pus (Entry.c x) := (Pus.cons (.int _ _) (Pus.cons (.listMap _ _ (ci_pu .u8)) Pus.nil))
structure Seat where
  id : Int
  peers : List Int
  term : Int
  voted : Int
  role : Int
  log : List Entry
  commit : Int
  votes : List Int
  next : List Int
  match_ : List Int
deriving DecidableEq, Inhabited
def Seat.c (x : Seat) : List Dat := [.int .i64 x.id, .list 1 (x.peers.map (ci .i64)), .int .i64 x.term, .int .i64 x.voted, .int .i64 x.role, .list 2 (x.log.map Entry.c), .int .i64 x.commit, .list 1 (x.votes.map (ci .i64)), .list 1 (x.next.map (ci .i64)), .list 1 (x.match_.map (ci .i64))]
theorem Seat.pu (x : Seat) : Pus (Seat.c x) := (Pus.cons (.int _ _) (Pus.cons (.listMap _ _ (ci_pu .i64)) (Pus.cons (.int _ _) (Pus.cons (.int _ _) (Pus.cons (.int _ _) (Pus.cons (.listMap _ _ Entry.pu) (Pus.cons (.int _ _) (Pus.cons (.listMap _ _ (ci_pu .i64)) (Pus.cons (.listMap _ _ (ci_pu .i64)) (Pus.cons (.listMap _ _ (ci_pu .i64)) Pus.nil))))))))))
structure Call30 where
  do_ : Int
  term : Int
  who : Int
  last : Int
  many : Int
deriving DecidableEq, Inhabited
def Call30.c (x : Call30) : List Dat := [.int .u8 x.do_, .int .u16 x.term, .int .u8 x.who, .int .u16 x.last, .int .u8 x.many]
theorem Call30.pu (x : Call30) : Pus (Call30.c x) := (Pus.cons (.int _ _) (Pus.cons (.int _ _) (Pus.cons (.int _ _) (Pus.cons (.int _ _) (Pus.cons (.int _ _) Pus.nil)))))
theorem CS_Entry (x : Entry) : Entry.c x = [.int .i64 x.term, .list 1 (x.data.map (ci .u8))] := rfl
theorem CS_Seat (x : Seat) : Seat.c x = [.int .i64 x.id, .list 1 (x.peers.map (ci .i64)), .int .i64 x.term, .int .i64 x.voted, .int .i64 x.role, .list 2 (x.log.map Entry.c), .int .i64 x.commit, .list 1 (x.votes.map (ci .i64)), .list 1 (x.next.map (ci .i64)), .list 1 (x.match_.map (ci .i64))] := rfl
theorem CS_Call30 (x : Call30) : Call30.c x = [.int .u8 x.do_, .int .u16 x.term, .int .u8 x.who, .int .u16 x.last, .int .u8 x.many] := rfl
theorem CS : (type_of% @CS_Entry) ∧ (type_of% @CS_Seat) ∧ (type_of% @CS_Call30) := ⟨@CS_Entry, @CS_Seat, @CS_Call30⟩

end
end Go.Proofs.Ytecdonbjabjaeaa
