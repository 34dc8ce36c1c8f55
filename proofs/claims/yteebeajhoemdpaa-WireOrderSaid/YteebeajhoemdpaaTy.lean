/- Functions of the program as Lean functions, and that they are so; printed by a program of mine. -/
import Derived.Test.YteebeajhoemdpaaTi
import Derived.Test.YteebeajhoemdpaaB10
set_option linter.unusedSimpArgs false
set_option linter.unusedVariables false
namespace Go.Proofs.Yteebeajhoemdpaa
open Go.Ab
noncomputable section
structure Msg where
  from_ : Int
  to_ : Int
  kind : Int
  nums : List Int
  data : List Int
deriving DecidableEq, Inhabited
def Msg.c (x : Msg) : List Dat := [.int .i64 x.from_, .int .i64 x.to_, .int .i64 x.kind, .list 1 (x.nums.map (ci .i64)), .list 1 (x.data.map (ci .u8))]
theorem Msg.pu (x : Msg) : Pus (Msg.c x) := (Pus.cons (.int _ _) (Pus.cons (.int _ _) (Pus.cons (.int _ _) (Pus.cons (.listMap _ _ (ci_pu .i64)) (Pus.cons (.listMap _ _ (ci_pu .u8)) Pus.nil)))))
structure Act where
  m : Msg
  fate : Int
  at_ : Int
deriving DecidableEq, Inhabited
def Act.c (x : Act) : List Dat := [.int .i64 x.m.from_, .int .i64 x.m.to_, .int .i64 x.m.kind, .list 1 (x.m.nums.map (ci .i64)), .list 1 (x.m.data.map (ci .u8)), .int .u8 x.fate, .int .u8 x.at_]
theorem Act.pu (x : Act) : Pus (Act.c x) := (Pus.cons (.int _ _) (Pus.cons (.int _ _) (Pus.cons (.int _ _) (Pus.cons (.listMap _ _ (ci_pu .i64)) (Pus.cons (.listMap _ _ (ci_pu .u8)) (Pus.cons (.int _ _) (Pus.cons (.int _ _) Pus.nil)))))))
theorem CS_Msg (x : Msg) : Msg.c x = [.int .i64 x.from_, .int .i64 x.to_, .int .i64 x.kind, .list 1 (x.nums.map (ci .i64)), .list 1 (x.data.map (ci .u8))] := rfl
theorem CS_Act (x : Act) : Act.c x = [.int .i64 x.m.from_, .int .i64 x.m.to_, .int .i64 x.m.kind, .list 1 (x.m.nums.map (ci .i64)), .list 1 (x.m.data.map (ci .u8)), .int .u8 x.fate, .int .u8 x.at_] := rfl
theorem CS : (type_of% @CS_Msg) ∧ (type_of% @CS_Act) := ⟨@CS_Msg, @CS_Act⟩

end
end Go.Proofs.Yteebeajhoemdpaa
