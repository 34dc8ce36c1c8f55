/- Functions of the program as Lean functions, and that they are so; printed by a program of mine. -/
import Derived.Test.YtogickapcbibbaaTi
import Derived.Test.YtogickapcbibbaaB12
set_option linter.unusedSimpArgs false
set_option linter.unusedVariables false
namespace Go.Proofs.Ytogickapcbibbaa
open Go.Ab
noncomputable section
structure Span where
  from_ : Int
  to_ : Int
deriving DecidableEq, Inhabited
def Span.c (x : Span) : List Dat := [.int .i64 x.from_, .int .i64 x.to_]
theorem Span.pu (x : Span) : Pus (Span.c x) := (Pus.cons (.int _ _) (Pus.cons (.int _ _) Pus.nil))
theorem Span.sc (x : Span) (d : Dat) (h : d ∈ Span.c x) : Scal d := by
  simp only [Span.c, List.mem_cons, List.not_mem_nil, or_false] at h
  rcases h with rfl | rfl <;> constructor
structure Lease where
  client : Int
  ino : Int
  kind : Int
  span : Span
  until_ : Int
  epoch : Int
deriving DecidableEq, Inhabited
def Lease.c (x : Lease) : List Dat := [.int .i64 x.client, .int .i64 x.ino, .int .i64 x.kind, .int .i64 x.span.from_, .int .i64 x.span.to_, .int .i64 x.until_, .int .i64 x.epoch]
theorem Lease.pu (x : Lease) : Pus (Lease.c x) := (Pus.cons (.int _ _) (Pus.cons (.int _ _) (Pus.cons (.int _ _) (Pus.cons (.int _ _) (Pus.cons (.int _ _) (Pus.cons (.int _ _) (Pus.cons (.int _ _) Pus.nil)))))))
theorem Lease.sc (x : Lease) (d : Dat) (h : d ∈ Lease.c x) : Scal d := by
  simp only [Lease.c, List.mem_cons, List.not_mem_nil, or_false] at h
  rcases h with rfl | rfl | rfl | rfl | rfl | rfl | rfl <;> constructor
structure Kept where
  ino : Int
  name : ByteArray
  page : Int
  is : Int
  data : List Int
  until_ : Int
deriving DecidableEq, Inhabited
def Kept.c (x : Kept) : List Dat := [.int .i64 x.ino, .str x.name, .int .i64 x.page, .int .i64 x.is, .list 1 (x.data.map (ci .u8)), .int .i64 x.until_]
theorem Kept.pu (x : Kept) : Pus (Kept.c x) := (Pus.cons (.int _ _) (Pus.cons (.str _) (Pus.cons (.int _ _) (Pus.cons (.int _ _) (Pus.cons (.listMap _ _ (ci_pu .u8)) (Pus.cons (.int _ _) Pus.nil))))))
structure PlaceR14 where
  l : List Lease
  data : Int
  is : Int
  k : List Kept
deriving DecidableEq, Inhabited
def PlaceR14.c (x : PlaceR14) : List Dat := [.list 7 (x.l.map Lease.c), .int .i64 x.data, .int .i64 x.is, .list 6 (x.k.map Kept.c)]
theorem PlaceR14.pu (x : PlaceR14) : Pus (PlaceR14.c x) := (Pus.cons (.listMap _ _ Lease.pu) (Pus.cons (.int _ _) (Pus.cons (.int _ _) (Pus.cons (.listMap _ _ Kept.pu) Pus.nil))))
structure ActR14 where
  do_ : Int
  long : Int
deriving DecidableEq, Inhabited
def ActR14.c (x : ActR14) : List Dat := [.int .u8 x.do_, .int .u8 x.long]
theorem ActR14.pu (x : ActR14) : Pus (ActR14.c x) := (Pus.cons (.int _ _) (Pus.cons (.int _ _) Pus.nil))
theorem ActR14.sc (x : ActR14) (d : Dat) (h : d ∈ ActR14.c x) : Scal d := by
  simp only [ActR14.c, List.mem_cons, List.not_mem_nil, or_false] at h
  rcases h with rfl | rfl <;> constructor
structure Edge where
  at_ : Int
  set : Int
  begins : Bool
deriving DecidableEq, Inhabited
def Edge.c (x : Edge) : List Dat := [.int .i64 x.at_, .int .i64 x.set, .bool x.begins]
theorem Edge.pu (x : Edge) : Pus (Edge.c x) := (Pus.cons (.int _ _) (Pus.cons (.int _ _) (Pus.cons (.bool _) Pus.nil)))
theorem Edge.sc (x : Edge) (d : Dat) (h : d ∈ Edge.c x) : Scal d := by
  simp only [Edge.c, List.mem_cons, List.not_mem_nil, or_false] at h
  rcases h with rfl | rfl | rfl <;> constructor
theorem CS_Span (x : Span) : Span.c x = [.int .i64 x.from_, .int .i64 x.to_] := rfl
theorem CS_Lease (x : Lease) : Lease.c x = [.int .i64 x.client, .int .i64 x.ino, .int .i64 x.kind, .int .i64 x.span.from_, .int .i64 x.span.to_, .int .i64 x.until_, .int .i64 x.epoch] := rfl
theorem CS_Kept (x : Kept) : Kept.c x = [.int .i64 x.ino, .str x.name, .int .i64 x.page, .int .i64 x.is, .list 1 (x.data.map (ci .u8)), .int .i64 x.until_] := rfl
theorem CS_PlaceR14 (x : PlaceR14) : PlaceR14.c x = [.list 7 (x.l.map Lease.c), .int .i64 x.data, .int .i64 x.is, .list 6 (x.k.map Kept.c)] := rfl
theorem CS_ActR14 (x : ActR14) : ActR14.c x = [.int .u8 x.do_, .int .u8 x.long] := rfl
theorem CS_Edge (x : Edge) : Edge.c x = [.int .i64 x.at_, .int .i64 x.set, .bool x.begins] := rfl
theorem CS : (type_of% @CS_Span) ∧ (type_of% @CS_Lease) ∧ (type_of% @CS_Kept) ∧ (type_of% @CS_PlaceR14) ∧ (type_of% @CS_ActR14) ∧ (type_of% @CS_Edge) := ⟨@CS_Span, @CS_Lease, @CS_Kept, @CS_PlaceR14, @CS_ActR14, @CS_Edge⟩

end
theorem MPT : (type_of% @List.map_append) ∧ (type_of% @List.map_cons) ∧ (type_of% @List.map_nil) ∧ (type_of% @List.map_set) ∧ (type_of% @List.map_take) ∧ (type_of% @List.map_drop) ∧ (type_of% @List.map_replicate) ∧ (type_of% @List.append_assoc) ∧ (type_of% @List.nil_append) ∧ (type_of% @List.append_nil) ∧ (type_of% @ci_eq) ∧ (type_of% @cb_eq) ∧ (type_of% @cs_eq) ∧ (type_of% @cl_eq) := ⟨@List.map_append, @List.map_cons, @List.map_nil, @List.map_set, @List.map_take, @List.map_drop, @List.map_replicate, @List.append_assoc, @List.nil_append, @List.append_nil, @ci_eq, @cb_eq, @cs_eq, @cl_eq⟩
theorem ATT : (type_of% @tl_cons) ∧ (type_of% @tl_nil) ∧ (type_of% @upd_apply) ∧ (type_of% @List.getD_cons_zero) ∧ (type_of% @List.getD_cons_succ) := ⟨@tl_cons, @tl_nil, @upd_apply, @List.getD_cons_zero, @List.getD_cons_succ⟩
theorem _root_.Go.Ab.RNL.sm {h : Nat → Option Blk} {ren : Nat → Option Nat} {vt fr : Nat → Prop} {α : Type} (f : α → List Dat) (l : List α) (H : ∀ x, Pus (f x)) {es : List (List Dat)} (he : es = l.map f := by first | rfl | (simp only [MPT, CS, List.nil_append]; done) | (simp [CS, ci_eq, cb_eq, cs_eq, cl_eq]; done) | (simp [CS, ci_eq, cb_eq, cs_eq, cl_eq]; intro hz; rw [List.take_of_length_le (by simp; omega)])) : RNL h ren vt fr es (l.map f) := RNL.same f l H he
theorem _root_.Go.Ab.PL.sm {h : Nat → Option Blk} {fz : Bool} {α : Type} (f : α → List Dat) (l : List α) (H : ∀ x, Pus (f x)) {es : List (List Dat)} (he : es = l.map f := by first | rfl | (simp only [MPT, CS, List.nil_append]; done) | (simp [CS, ci_eq, cb_eq, cs_eq, cl_eq]; done) | (simp [CS, ci_eq, cb_eq, cs_eq, cl_eq]; intro hz; rw [List.take_of_length_le (by simp; omega)])) : PL h fz es (l.map f) := PL.same f l H he
end Go.Proofs.Ytogickapcbibbaa
