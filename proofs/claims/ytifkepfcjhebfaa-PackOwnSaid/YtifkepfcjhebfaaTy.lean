/- Functions of the program as Lean functions, and that they are so; printed by a program of mine. -/
import Derived.Test.YtifkepfcjhebfaaTi
import Derived.Test.YtifkepfcjhebfaaB10
set_option linter.unusedSimpArgs false
set_option linter.unusedVariables false
namespace Go.Proofs.Ytifkepfcjhebfaa
open Go.Ab
noncomputable section
structure Op where
  kind : Int
  client : Int
  path : ByteArray
  to_ : ByteArray
  n : Int
  m : Int
  handle : Int
  data : List Int
deriving DecidableEq, Inhabited
def Op.c (x : Op) : List Dat := [.int .i64 x.kind, .int .i64 x.client, .str x.path, .str x.to_, .int .i64 x.n, .int .i64 x.m, .int .i64 x.handle, .list 1 (x.data.map (ci .u8))]
theorem Op.pu (x : Op) : Pus (Op.c x) := (Pus.cons (.int _ _) (Pus.cons (.int _ _) (Pus.cons (.str _) (Pus.cons (.str _) (Pus.cons (.int _ _) (Pus.cons (.int _ _) (Pus.cons (.int _ _) (Pus.cons (.listMap _ _ (ci_pu .u8)) Pus.nil))))))))
structure Ans where
  err : Int
  ino : Int
  kind : Int
  n : Int
  m : Int
  names : List ByteArray
  data : List Int
deriving DecidableEq, Inhabited
def Ans.c (x : Ans) : List Dat := [.int .i64 x.err, .int .i64 x.ino, .int .i64 x.kind, .int .i64 x.n, .int .i64 x.m, .list 1 (x.names.map cs), .list 1 (x.data.map (ci .u8))]
theorem Ans.pu (x : Ans) : Pus (Ans.c x) := (Pus.cons (.int _ _) (Pus.cons (.int _ _) (Pus.cons (.int _ _) (Pus.cons (.int _ _) (Pus.cons (.int _ _) (Pus.cons (.listMap _ _ cs_pu) (Pus.cons (.listMap _ _ (ci_pu .u8)) Pus.nil)))))))
structure Rest where
  b : List Int
deriving DecidableEq, Inhabited
def Rest.c (x : Rest) : List Dat := [.list 1 (x.b.map (ci .u8))]
theorem Rest.pu (x : Rest) : Pus (Rest.c x) := (Pus.cons (.listMap _ _ (ci_pu .u8)) Pus.nil)
structure Reader where
  rest : Rest
  e : Int
deriving DecidableEq, Inhabited
def Reader.c (x : Reader) : List Dat := [.list 1 (x.rest.b.map (ci .u8)), .int .i64 x.e]
theorem Reader.pu (x : Reader) : Pus (Reader.c x) := (Pus.cons (.listMap _ _ (ci_pu .u8)) (Pus.cons (.int _ _) Pus.nil))
structure Reader74 where
  b : List Int
  e : Int
deriving DecidableEq, Inhabited
def Reader74.c (x : Reader74) : List Dat := [.list 1 (x.b.map (ci .u8)), .int .i64 x.e]
theorem Reader74.pu (x : Reader74) : Pus (Reader74.c x) := (Pus.cons (.listMap _ _ (ci_pu .u8)) (Pus.cons (.int _ _) Pus.nil))
theorem CS_Op (x : Op) : Op.c x = [.int .i64 x.kind, .int .i64 x.client, .str x.path, .str x.to_, .int .i64 x.n, .int .i64 x.m, .int .i64 x.handle, .list 1 (x.data.map (ci .u8))] := rfl
theorem CS_Ans (x : Ans) : Ans.c x = [.int .i64 x.err, .int .i64 x.ino, .int .i64 x.kind, .int .i64 x.n, .int .i64 x.m, .list 1 (x.names.map cs), .list 1 (x.data.map (ci .u8))] := rfl
theorem CS_Rest (x : Rest) : Rest.c x = [.list 1 (x.b.map (ci .u8))] := rfl
theorem CS_Reader (x : Reader) : Reader.c x = [.list 1 (x.rest.b.map (ci .u8)), .int .i64 x.e] := rfl
theorem CS_Reader74 (x : Reader74) : Reader74.c x = [.list 1 (x.b.map (ci .u8)), .int .i64 x.e] := rfl
theorem CS : (type_of% @CS_Op) ∧ (type_of% @CS_Ans) ∧ (type_of% @CS_Rest) ∧ (type_of% @CS_Reader) ∧ (type_of% @CS_Reader74) := ⟨@CS_Op, @CS_Ans, @CS_Rest, @CS_Reader, @CS_Reader74⟩

end
theorem MPT : (type_of% @List.map_append) ∧ (type_of% @List.map_cons) ∧ (type_of% @List.map_nil) ∧ (type_of% @List.map_set) ∧ (type_of% @List.map_take) ∧ (type_of% @List.map_drop) ∧ (type_of% @List.map_replicate) ∧ (type_of% @List.append_assoc) ∧ (type_of% @List.nil_append) ∧ (type_of% @List.append_nil) ∧ (type_of% @ci_eq) ∧ (type_of% @cb_eq) ∧ (type_of% @cs_eq) ∧ (type_of% @cl_eq) := ⟨@List.map_append, @List.map_cons, @List.map_nil, @List.map_set, @List.map_take, @List.map_drop, @List.map_replicate, @List.append_assoc, @List.nil_append, @List.append_nil, @ci_eq, @cb_eq, @cs_eq, @cl_eq⟩
end Go.Proofs.Ytifkepfcjhebfaa
