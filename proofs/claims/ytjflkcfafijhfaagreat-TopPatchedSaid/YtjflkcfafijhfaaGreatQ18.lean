import Derived.Test.YtjflkcfafijhfaaGreatQ04
import Derived.Test.YtjflkcfafijhfaaGreatQ17
set_option linter.unusedSectionVars false
/- Functions of the program as Lean functions, and that they are so; printed by a program of mine. -/
set_option linter.unusedSimpArgs false
set_option linter.unusedVariables false
namespace Go.Proofs.YtjflkcfafijhfaaGreat
open Go.Ab
noncomputable section
structure Chain where
 id : Int
 ver : Int
 servers : List Int
deriving DecidableEq, Inhabited
def Chain.c (x : Chain) : List Dat := [.int .i64 x.id, .int .i64 x.ver, .list 1 (x.servers.map (ci .i64))]
theorem Chain.pu (x : Chain) : Pus (Chain.c x) := (Pus.cons (.int _ _) (Pus.cons (.int _ _) (Pus.cons (.listMap _ _ (ci_pu .i64)) Pus.nil)))
structure Copy where
 id : Int
 ver : Int
 data : List Int
 sums : List Int
deriving DecidableEq, Inhabited
def Copy.c (x : Copy) : List Dat := [.int .i64 x.id, .int .i64 x.ver, .list 1 (x.data.map (ci .u8)), .list 1 (x.sums.map (ci .i64))]
theorem Copy.pu (x : Copy) : Pus (Copy.c x) := (Pus.cons (.int _ _) (Pus.cons (.int _ _) (Pus.cons (.listMap _ _ (ci_pu .u8)) (Pus.cons (.listMap _ _ (ci_pu .i64)) Pus.nil))))
structure Page where
 at_ : Int
 data : List Int
deriving DecidableEq, Inhabited
def Page.c (x : Page) : List Dat := [.int .i64 x.at_, .list 1 (x.data.map (ci .u8))]
theorem Page.pu (x : Page) : Pus (Page.c x) := (Pus.cons (.int _ _) (Pus.cons (.listMap _ _ (ci_pu .u8)) Pus.nil))
structure Disk where
 synced : List Page
 loose : List Page
 down : Bool
deriving DecidableEq, Inhabited
def Disk.c (x : Disk) : List Dat := [.list 2 (x.synced.map Page.c), .list 2 (x.loose.map Page.c), .bool x.down]
theorem Disk.pu (x : Disk) : Pus (Disk.c x) := (Pus.cons (.listMap _ _ Page.pu) (Pus.cons (.listMap _ _ Page.pu) (Pus.cons (.bool _) Pus.nil)))
structure Find where
 id : Int
 server : Int
 what : Int
deriving DecidableEq, Inhabited
def Find.c (x : Find) : List Dat := [.int .i64 x.id, .int .i64 x.server, .int .i64 x.what]
theorem Find.pu (x : Find) : Pus (Find.c x) := (Pus.cons (.int _ _) (Pus.cons (.int _ _) (Pus.cons (.int _ _) Pus.nil)))
theorem Find.sc (x : Find) (d : Dat) (h : d ∈ Find.c x) : Scal d := by
 simp only [Find.c, List.mem_cons, List.not_mem_nil, or_false] at h
 rcases h with rfl | rfl | rfl <;> constructor
structure HurtR14 where
 do_ : Int
 server : Int
 id : Int
 bit : Int
deriving DecidableEq, Inhabited
def HurtR14.c (x : HurtR14) : List Dat := [.int .u8 x.do_, .int .u8 x.server, .int .u8 x.id, .int .u16 x.bit]
theorem HurtR14.pu (x : HurtR14) : Pus (HurtR14.c x) := (Pus.cons (.int _ _) (Pus.cons (.int _ _) (Pus.cons (.int _ _) (Pus.cons (.int _ _) Pus.nil))))
theorem HurtR14.sc (x : HurtR14) (d : Dat) (h : d ∈ HurtR14.c x) : Scal d := by
 simp only [HurtR14.c, List.mem_cons, List.not_mem_nil, or_false] at h
 rcases h with rfl | rfl | rfl | rfl <;> constructor
structure Job where
 id : Int
 ver : Int
 from_ : Int
 to_ : Int
 have_ : Int
 left : Int
deriving DecidableEq, Inhabited
def Job.c (x : Job) : List Dat := [.int .i64 x.id, .int .i64 x.ver, .int .i64 x.from_, .int .i64 x.to_, .int .i64 x.have_, .int .i64 x.left]
theorem Job.pu (x : Job) : Pus (Job.c x) := (Pus.cons (.int _ _) (Pus.cons (.int _ _) (Pus.cons (.int _ _) (Pus.cons (.int _ _) (Pus.cons (.int _ _) (Pus.cons (.int _ _) Pus.nil))))))
theorem Job.sc (x : Job) (d : Dat) (h : d ∈ Job.c x) : Scal d := by
 simp only [Job.c, List.mem_cons, List.not_mem_nil, or_false] at h
 rcases h with rfl | rfl | rfl | rfl | rfl | rfl <;> constructor
structure Named where
 ino : Int
 shot : Int
 page : Int
 id : Int
deriving DecidableEq, Inhabited
def Named.c (x : Named) : List Dat := [.int .i64 x.ino, .int .i64 x.shot, .int .i64 x.page, .int .i64 x.id]
theorem Named.pu (x : Named) : Pus (Named.c x) := (Pus.cons (.int _ _) (Pus.cons (.int _ _) (Pus.cons (.int _ _) (Pus.cons (.int _ _) Pus.nil))))
theorem Named.sc (x : Named) (d : Dat) (h : d ∈ Named.c x) : Scal d := by
 simp only [Named.c, List.mem_cons, List.not_mem_nil, or_false] at h
 rcases h with rfl | rfl | rfl | rfl <;> constructor
structure Reader where
 b : List Int
 bad : Bool
deriving DecidableEq, Inhabited
def Reader.c (x : Reader) : List Dat := [.list 1 (x.b.map (ci .u8)), .bool x.bad]
theorem Reader.pu (x : Reader) : Pus (Reader.c x) := (Pus.cons (.listMap _ _ (ci_pu .u8)) (Pus.cons (.bool _) Pus.nil))
structure Spot where
 id : Int
 to_ : Int
deriving DecidableEq, Inhabited
def Spot.c (x : Spot) : List Dat := [.int .i64 x.id, .int .i64 x.to_]
theorem Spot.pu (x : Spot) : Pus (Spot.c x) := (Pus.cons (.int _ _) (Pus.cons (.int _ _) Pus.nil))
theorem Spot.sc (x : Spot) (d : Dat) (h : d ∈ Spot.c x) : Scal d := by
 simp only [Spot.c, List.mem_cons, List.not_mem_nil, or_false] at h
 rcases h with rfl | rfl <;> constructor
structure Room where
 id : Int
 ino : Int
 client : Int
deriving DecidableEq, Inhabited
def Room.c (x : Room) : List Dat := [.int .i64 x.id, .int .i64 x.ino, .int .i64 x.client]
theorem Room.pu (x : Room) : Pus (Room.c x) := (Pus.cons (.int _ _) (Pus.cons (.int _ _) (Pus.cons (.int _ _) Pus.nil)))
theorem Room.sc (x : Room) (d : Dat) (h : d ∈ Room.c x) : Scal d := by
 simp only [Room.c, List.mem_cons, List.not_mem_nil, or_false] at h
 rcases h with rfl | rfl | rfl <;> constructor
structure Span where
 from_ : Int
 to_ : Int
deriving DecidableEq, Inhabited
def Span.c (x : Span) : List Dat := [.int .i64 x.from_, .int .i64 x.to_]
theorem Span.pu (x : Span) : Pus (Span.c x) := (Pus.cons (.int _ _) (Pus.cons (.int _ _) Pus.nil))
theorem Span.sc (x : Span) (d : Dat) (h : d ∈ Span.c x) : Scal d := by
 simp only [Span.c, List.mem_cons, List.not_mem_nil, or_false] at h
 rcases h with rfl | rfl <;> constructor
structure Lease where
 client : Int
 ino : Int
 kind : Int
 span : Span
 until_ : Int
 epoch : Int
deriving DecidableEq, Inhabited
def Lease.c (x : Lease) : List Dat := [.int .i64 x.client, .int .i64 x.ino, .int .i64 x.kind, .int .i64 x.span.from_, .int .i64 x.span.to_, .int .i64 x.until_, .int .i64 x.epoch]
theorem Lease.pu (x : Lease) : Pus (Lease.c x) := (Pus.cons (.int _ _) (Pus.cons (.int _ _) (Pus.cons (.int _ _) (Pus.cons (.int _ _) (Pus.cons (.int _ _) (Pus.cons (.int _ _) (Pus.cons (.int _ _) Pus.nil)))))))
theorem Lease.sc (x : Lease) (d : Dat) (h : d ∈ Lease.c x) : Scal d := by
 simp only [Lease.c, List.mem_cons, List.not_mem_nil, or_false] at h
 rcases h with rfl | rfl | rfl | rfl | rfl | rfl | rfl <;> constructor
structure Rest where
 b : List Int
deriving DecidableEq, Inhabited
def Rest.c (x : Rest) : List Dat := [.list 1 (x.b.map (ci .u8))]
theorem Rest.pu (x : Rest) : Pus (Rest.c x) := (Pus.cons (.listMap _ _ (ci_pu .u8)) Pus.nil)
structure Reader195 where
 rest : Rest
 e : Int
deriving DecidableEq, Inhabited
def Reader195.c (x : Reader195) : List Dat := [.list 1 (x.rest.b.map (ci .u8)), .int .i64 x.e]
theorem Reader195.pu (x : Reader195) : Pus (Reader195.c x) := (Pus.cons (.listMap _ _ (ci_pu .u8)) (Pus.cons (.int _ _) Pus.nil))
theorem CS_Chain (x : Chain) : Chain.c x = [.int .i64 x.id, .int .i64 x.ver, .list 1 (x.servers.map (ci .i64))] := rfl
theorem CS_Copy (x : Copy) : Copy.c x = [.int .i64 x.id, .int .i64 x.ver, .list 1 (x.data.map (ci .u8)), .list 1 (x.sums.map (ci .i64))] := rfl
theorem CS_Page (x : Page) : Page.c x = [.int .i64 x.at_, .list 1 (x.data.map (ci .u8))] := rfl
theorem CS_Disk (x : Disk) : Disk.c x = [.list 2 (x.synced.map Page.c), .list 2 (x.loose.map Page.c), .bool x.down] := rfl
theorem CS_Find (x : Find) : Find.c x = [.int .i64 x.id, .int .i64 x.server, .int .i64 x.what] := rfl
theorem CS_HurtR14 (x : HurtR14) : HurtR14.c x = [.int .u8 x.do_, .int .u8 x.server, .int .u8 x.id, .int .u16 x.bit] := rfl
theorem CS_Job (x : Job) : Job.c x = [.int .i64 x.id, .int .i64 x.ver, .int .i64 x.from_, .int .i64 x.to_, .int .i64 x.have_, .int .i64 x.left] := rfl
theorem CS_Named (x : Named) : Named.c x = [.int .i64 x.ino, .int .i64 x.shot, .int .i64 x.page, .int .i64 x.id] := rfl
theorem CS_Reader (x : Reader) : Reader.c x = [.list 1 (x.b.map (ci .u8)), .bool x.bad] := rfl
theorem CS_Spot (x : Spot) : Spot.c x = [.int .i64 x.id, .int .i64 x.to_] := rfl
theorem CS_Room (x : Room) : Room.c x = [.int .i64 x.id, .int .i64 x.ino, .int .i64 x.client] := rfl
theorem CS_Span (x : Span) : Span.c x = [.int .i64 x.from_, .int .i64 x.to_] := rfl
theorem CS_Lease (x : Lease) : Lease.c x = [.int .i64 x.client, .int .i64 x.ino, .int .i64 x.kind, .int .i64 x.span.from_, .int .i64 x.span.to_, .int .i64 x.until_, .int .i64 x.epoch] := rfl
theorem CS_Rest (x : Rest) : Rest.c x = [.list 1 (x.b.map (ci .u8))] := rfl
theorem CS_Reader195 (x : Reader195) : Reader195.c x = [.list 1 (x.rest.b.map (ci .u8)), .int .i64 x.e] := rfl
theorem CS : (type_of% @CS_Chain) ∧ (type_of% @CS_Copy) ∧ (type_of% @CS_Page) ∧ (type_of% @CS_Disk) ∧ (type_of% @CS_Find) ∧ (type_of% @CS_HurtR14) ∧ (type_of% @CS_Job) ∧ (type_of% @CS_Named) ∧ (type_of% @CS_Reader) ∧ (type_of% @CS_Spot) ∧ (type_of% @CS_Room) ∧ (type_of% @CS_Span) ∧ (type_of% @CS_Lease) ∧ (type_of% @CS_Rest) ∧ (type_of% @CS_Reader195) := ⟨@CS_Chain, @CS_Copy, @CS_Page, @CS_Disk, @CS_Find, @CS_HurtR14, @CS_Job, @CS_Named, @CS_Reader, @CS_Spot, @CS_Room, @CS_Span, @CS_Lease, @CS_Rest, @CS_Reader195⟩
theorem MPT : (type_of% @List.map_append) ∧ (type_of% @List.map_cons) ∧ (type_of% @List.map_nil) ∧ (type_of% @List.map_set) ∧ (type_of% @List.map_take) ∧ (type_of% @List.map_drop) ∧ (type_of% @List.map_replicate) ∧ (type_of% @List.append_assoc) ∧ (type_of% @List.nil_append) ∧ (type_of% @List.append_nil) ∧ (type_of% @ci_eq) ∧ (type_of% @cb_eq) ∧ (type_of% @cs_eq) ∧ (type_of% @cl_eq) := ⟨@List.map_append, @List.map_cons, @List.map_nil, @List.map_set, @List.map_take, @List.map_drop, @List.map_replicate, @List.append_assoc, @List.nil_append, @List.append_nil, @ci_eq, @cb_eq, @cs_eq, @cl_eq⟩
theorem ATT : (type_of% @tl_cons) ∧ (type_of% @tl_nil) ∧ (type_of% @upd_apply) ∧ (type_of% @List.getD_cons_zero) ∧ (type_of% @List.getD_cons_succ) := ⟨@tl_cons, @tl_nil, @upd_apply, @List.getD_cons_zero, @List.getD_cons_succ⟩
theorem _root_.Go.Ab.RNL.sm {h : Nat → Option Blk} {ren : Nat → Option Nat} {vt fr : Nat → Prop} {α : Type} (f : α → List Dat) (l : List α) (H : ∀ x, Pus (f x)) {es : List (List Dat)} (he : es = l.map f := by first | rfl | (simp only [MPT, CS, List.nil_append]; done) | (simp [CS, ci_eq, cb_eq, cs_eq, cl_eq]; done) | (simp [CS, ci_eq, cb_eq, cs_eq, cl_eq]; intro hz; rw [List.take_of_length_le (by simp; omega)])) : RNL h ren vt fr es (l.map f) := RNL.same f l H he
theorem _root_.Go.Ab.PL.sm {h : Nat → Option Blk} {fz : Bool} {α : Type} (f : α → List Dat) (l : List α) (H : ∀ x, Pus (f x)) {es : List (List Dat)} (he : es = l.map f := by first | rfl | (simp only [MPT, CS, List.nil_append]; done) | (simp [CS, ci_eq, cb_eq, cs_eq, cl_eq]; done) | (simp [CS, ci_eq, cb_eq, cs_eq, cl_eq]; intro hz; rw [List.take_of_length_le (by simp; omega)])) : PL h fz es (l.map f) := PL.same f l H he
section
variable {fe : Fen} {n0 : Nat} {P : Program} {Q : Exit → St → Prop} {σ s : St} {id : Nat} {ops : Array Oper}
theorem _root_.Go.Ab.goS {p q : Prop} (k : q) (h : q → p := by intro hq; simp only [EVT, stepR, stepW, evOp, St.ev, St.app, St.put, wrs, evFieldAddr, evLoad, cut, frz, evIndexAddr, datOf, datOf1, evBin, binInt, evUn, evBuiltin, minMax, mmStep, evStore, setR, allOne, fillD, evAppend, elems, evToStr, isAl, Option.elim, TIS, CS, Nat.reduceAdd, Nat.reduceMul, Nat.reduceEqDiff, ↓reduceIte, reduceCtorEq, Nat.reduceLT, Nat.reduceLeDiff, Nat.reduceGT, Nat.reduceSub, Nat.reduceBEq, Int.reduceToNat, Array.reduceGetElem?, *]; exact hq) : p := h k
end
section
theorem ndb_of : ∀ {l : List Nat}, (l.all fun a => l.countP (fun b => Nat.beq a b) == 1) = true → l.Nodup := by
 intro l h
 rw [List.nodup_iff_count]
 intro a
 by_cases ha : a ∈ l
 ·have h1 := List.all_eq_true.1 h a ha
  have h2 : l.countP (fun b => Nat.beq a b) = 1 := by simpa using h1
  rw [List.count, List.countP_congr (q := fun b => Nat.beq a b) (fun b _ => by simp only [beq_iff_eq, Nat.beq_eq]; exact eq_comm)]; omega
 ·rw [List.count_eq_zero_of_not_mem ha]; omega
theorem ND {l : List Nat} (h : (l.all fun a => l.countP (fun b => Nat.beq a b) == 1) = true := by rfl) : l.Nodup := ndb_of h
theorem ZZ {p : Prop} (h : p := by
 repeat' first
  | exact trivial
  | exact .nil
  | refine .cons ?_ ?_
  | exact .int' rfl
  | exact .int _ _
  | exact .lst _ _ _ (by first | exact ci_pu _ | exact cb_pu | exact cs_pu | exact Chain.pu | exact Copy.pu | exact Page.pu | exact Disk.pu | exact Find.pu | exact HurtR14.pu | exact Job.pu | exact Named.pu | exact Reader.pu | exact Spot.pu | exact Room.pu | exact Span.pu | exact Lease.pu | exact Rest.pu | exact Reader195.pu | exact cl_pu (by first | exact ci_pu _ | exact cb_pu | exact cs_pu | exact Chain.pu | exact Copy.pu | exact Page.pu | exact Disk.pu | exact Find.pu | exact HurtR14.pu | exact Job.pu | exact Named.pu | exact Reader.pu | exact Spot.pu | exact Room.pu | exact Span.pu | exact Lease.pu | exact Rest.pu | exact Reader195.pu)) rfl
  | exact .sm _ _ (by first | exact ci_pu _ | exact cb_pu | exact cs_pu | exact Chain.pu | exact Copy.pu | exact Page.pu | exact Disk.pu | exact Find.pu | exact HurtR14.pu | exact Job.pu | exact Named.pu | exact Reader.pu | exact Spot.pu | exact Room.pu | exact Span.pu | exact Lease.pu | exact Rest.pu | exact Reader195.pu | exact cl_pu (by first | exact ci_pu _ | exact cb_pu | exact cs_pu | exact Chain.pu | exact Copy.pu | exact Page.pu | exact Disk.pu | exact Find.pu | exact HurtR14.pu | exact Job.pu | exact Named.pu | exact Reader.pu | exact Spot.pu | exact Room.pu | exact Span.pu | exact Lease.pu | exact Rest.pu | exact Reader195.pu))
  | refine .agg' ?_
  | refine .tup' ?_
  | exact .bool' (by first | rfl | assumption | (simp_all; done))
  | exact .str' rfl
  | exact .ptr _ _ _ _ _ rfl
  | exact .refl' (by first|rfl|omega|(simp;done)|(simp;omega)|(simp_all;done)) rfl
  | exact .nil'
  | exact .nil _
  | exact .nilv _ _ rfl rfl
  | refine allB_some (by rfl) rfl ?_ ?_
  | refine allB_none rfl ?_
  | refine .fn' ?_ ?_
  | refine .rop' ?_
  | refine .box (by rfl) (fun e => by cases e) rfl rfl ?_
  | refine .box' (by rfl) (by simp) rfl rfl ?_
  | refine .ownL (by first | rfl | exact (wrs_frz _ _ _ _).trans (by rfl) | exact (e _ (by simp)).trans (by rfl) | exact (wrs_frz h2 _ h2 _).trans (by rw [e _ (by simp)]; rfl)) (fun e => by first | cases e | rfl) rfl (by first|rfl|omega|(simp;done)|(simp;omega)|(simp_all;done)) ?_
  | refine ⟨.inl ⟨by decide, rfl⟩, ⟨_, rfl, ⟨rfl, rfl, rfl, rfl⟩, ?_⟩, ?_⟩
  | refine ⟨.inr ⟨rfl, by decide⟩, ⟨_, rfl, ⟨rfl, rfl, rfl, rfl⟩, ?_⟩, ?_⟩
) : p := h
theorem ZT {p : Prop} (h : p := by
 (simp only [AllT, ATT, Nat.reduceEqDiff, ↓reduceIte, and_true])
 repeat' apply And.intro
 all_goals exact ZZ) : p := h
theorem EQA {p : Prop} (h : p := by first | rfl | (simp only [List.map_set, List.map_append, List.map_cons, List.map_nil]; rfl)) : p := h
theorem RT {p : Prop} (h : p := by
 obtain rfl := Option.some.inj H
 refine e_r2 (d := ?zd) ?_ ?_
 rotate_left
 ·simp only [EVT, resR, single, evLoad, cut, TIS, CS, Nat.reduceAdd, Nat.reduceEqDiff, ↓reduceIte, reduceCtorEq, Nat.reduceLT, Nat.reduceLeDiff, Nat.reduceSub, Nat.reduceBEq, *]
  (repeat' apply And.intro) <;> first | rfl | assumption | omega | (simp; done)
 exact ZZ) : p := h
theorem cnd {β : Type} {b : Bool} {x y : Option β} {r : β} {p : Prop} (H : cond b x y = some r) (h1 : b = true → x = some r → p) (h2 : b = false → y = some r → p) : p := by
 cases b
 ·exact h2 rfl H
 ·exact h1 rfl H
theorem a_cnd {fe : Fen} {n0 : Nat} {P : Program} {Q : Exit → St → Prop} {σ : St} {x y : Code} {c : Operand} {β : Type} {b : Bool} {u v : Option β} {r : β} (H : cond b u v = some r) (ht : b = true → u = some r → aw fe n0 P x Q σ) (hf : b = false → v = some r → aw fe n0 P y Q σ) (hc : σ.ev c = .bool b := by rfl) : aw fe n0 P (.cond c x y) Q σ := by
 cases b
 ·exact a_cond hc rfl (fun h => by cases h) (fun h => hf h H)
 ·exact a_cond hc rfl (fun h => ht h H) (fun h => by cases h)
theorem idx3 {β : Type} [Inhabited β] {l : List β} {n : Int} {x : β} {f : β → List Dat} (h : idx l n = some x) : (l.map f).getD n.toNat [] = f x ∧ 0 ≤ n ∧ n < l.length := ⟨idx_map h f, (idx_some h).1, (idx_some h).2.1⟩
theorem wk_lA {nt n : Nat} {t : Nat → Dat} {h : Nat → Option Blk} {R : St → Prop} (bl : List (Option Nat × Blk)) (fr : List Nat) {L : List (Nat × Dat)}
  (hR : ∀ t0, R ⟨tl t0 L, hl (bl.map (·.2)), bl.length, nt⟩) (hnd : (L.map (·.1)).Nodup := by exact ND) (hinj : (bl.filterMap (·.1)).Nodup := by exact ND) (hB : AllB h (renL bl) (vtL bl) fr bl := by exact ZZ) (hT : AllT h (renL bl) (vtL bl) fr t L := by exact ZT) : WkS 0 ⟨t, h, n, nt⟩ R := wk_l bl fr L hnd hinj hB hT hR
theorem wk_lnA (n0 : Nat) {nt n : Nat} {t : Nat → Dat} {h : Nat → Option Blk} {R : St → Prop} (bl : List (Option Nat × Blk)) (fr : List Nat) {L : List (Nat × Dat)}
  (hR : ∀ t0, R ⟨tl t0 L, hl (bl.map (·.2)), bl.length, nt⟩) (hlow : ∀ i, i < n0 → renL bl i = some i := by intro i h; rcases i with _ | _ | _ | i <;> first | rfl | omega) (hnd : (L.map (·.1)).Nodup := by exact ND) (hinj : (bl.filterMap (·.1)).Nodup := by exact ND) (hB : AllB h (renL bl) (vtL bl) fr bl := by exact ZZ) (hT : AllT h (renL bl) (vtL bl) fr t L := by exact ZT) : WkS n0 ⟨t, h, n, nt⟩ R := wk_ln n0 bl fr L hlow hnd hinj hB hT hR
variable {fe : Fen} {n0 : Nat} {P : Program} {Q : Exit → St → Prop} {σ s : St} {id : Nat} {ops : Array Oper}
theorem a_regC (l : List Oper) (hl : ops.toList = l) (k : Q .normal s) (h : AR P l l 0 σ (fun s' => s' = s) := by
 simp only [EVT, stepR, stepW, evOp, St.ev, St.app, St.put, wrs, evFieldAddr, evLoad, cut, frz, evIndexAddr, datOf, datOf1, evBin, binInt, evUn, evBuiltin, minMax, mmStep, evStore, setR, allOne, fillD, evAppend, elems, evToStr, isAl, Option.elim, TIS, CS, Nat.reduceAdd, Nat.reduceMul, Nat.reduceEqDiff, ↓reduceIte, reduceCtorEq, Nat.reduceLT, Nat.reduceLeDiff, Nat.reduceGT, Nat.reduceSub, Nat.reduceBEq, Int.reduceToNat, Array.reduceGetElem?, *]
 try simp only [EVT, stepR, stepW, evOp, St.ev, St.app, St.put, wrs, evFieldAddr, evLoad, cut, frz, evIndexAddr, datOf, datOf1, evBin, binInt, evUn, evBuiltin, minMax, mmStep, evStore, setR, allOne, fillD, evAppend, elems, evToStr, isAl, Option.elim, TIS, CS, Nat.reduceAdd, Nat.reduceMul, Nat.reduceEqDiff, ↓reduceIte, reduceCtorEq, Nat.reduceLT, Nat.reduceLeDiff, Nat.reduceGT, Nat.reduceSub, Nat.reduceBEq, Int.reduceToNat, Array.reduceGetElem?, *]
 (repeat' apply And.intro) <;> first|rfl|assumption|omega|(simp;done)|(simp;omega)|(simp_all;done)) : aw fe n0 P (.region id ops false) Q σ := a_reg l hl h k
theorem CLS {p : Prop} (h : p := by (repeat' apply And.intro) <;> first|rfl|assumption|omega|(simp;done)|(simp;omega)|(simp_all;done)) : p := h
theorem a_regK (l : List Oper) (hl : ops.toList = l) (k : Q .normal s) (h : AR P l l 0 σ (fun s' => s' = s) := by
 try refine goS ?_
 repeat' with_reducible apply And.intro
 all_goals try ((with_reducible show CallR _ _ _ _ _ _ _); (first | refine cR_s (by assumption) ZZ (by first | exact .bool _ | exact .int _ _ | exact .str _) ?_ | refine cR_p (by assumption) ZZ ?_); refine goS ?_)
 repeat' with_reducible apply And.intro
 all_goals try ((with_reducible show CallR _ _ _ _ _ _ _); (first | refine cR_s (by assumption) ZZ (by first | exact .bool _ | exact .int _ _ | exact .str _) ?_ | refine cR_p (by assumption) ZZ ?_); refine goS ?_)
 repeat' with_reducible apply And.intro
 all_goals try ((with_reducible show CallR _ _ _ _ _ _ _); (first | refine cR_s (by assumption) ZZ (by first | exact .bool _ | exact .int _ _ | exact .str _) ?_ | refine cR_p (by assumption) ZZ ?_); refine goS ?_)
 all_goals ((repeat' apply And.intro) <;> first|rfl|assumption|omega|(simp;done)|(simp;omega)|(simp_all;done))) : aw fe n0 P (.region id ops false) Q σ := a_reg l hl h k
end
section
theorem RS2 {p : Prop} (h : p := by first | rfl | (simp only [EVT, resR, single, evLoad, cut, TIS, CS, Nat.reduceAdd, Nat.reduceEqDiff, ↓reduceIte, reduceCtorEq, Nat.reduceLT, Nat.reduceLeDiff, Nat.reduceSub, Nat.reduceBEq]; all_goals ((repeat' apply And.intro) <;> first | rfl | (simp; done)))) : p := h
theorem RJ {p : Prop} (h : p := by intro j B h; rcases j with _ | _ <;> first | exact h | (exact absurd h (by simp [hh]))) : p := h
theorem LW {p : Prop} (h : p := by intro i h; rcases i with _ | _ | _ | i <;> first | rfl | omega) : p := h
variable {fe : Fen} {n0 : Nat} {P : Program} {Q : Exit → St → Prop} {σ s : St} {id : Nat} {ops : Array Oper} {y : Code}
theorem goZ1 {p q : Prop} (k : q) (h : q → p := by intro hq; simp only [EVT, stepR, stepW, evOp, St.ev, St.app, St.put, wrs, evFieldAddr, evLoad, cut, frz, evIndexAddr, datOf, datOf1, evBin, binInt, evUn, evBuiltin, minMax, mmStep, evStore, setR, allOne, fillD, evAppend, elems, evToStr, isAl, Option.elim, TIS, CS, Nat.reduceAdd, Nat.reduceMul, Nat.reduceEqDiff, ↓reduceIte, reduceCtorEq, Nat.reduceLT, Nat.reduceLeDiff, Nat.reduceGT, Nat.reduceSub, Nat.reduceBEq, Int.reduceToNat, Array.reduceGetElem?, ↓zc1]; exact hq) : p := h k
theorem goZ2 {p q : Prop} (k : q) (h : q → p := by intro hq; simp only [EVT, stepR, stepW, evOp, St.ev, St.app, St.put, wrs, evFieldAddr, evLoad, cut, frz, evIndexAddr, datOf, datOf1, evBin, binInt, evUn, evBuiltin, minMax, mmStep, evStore, setR, allOne, fillD, evAppend, elems, evToStr, isAl, Option.elim, TIS, CS, Nat.reduceAdd, Nat.reduceMul, Nat.reduceEqDiff, ↓reduceIte, reduceCtorEq, Nat.reduceLT, Nat.reduceLeDiff, Nat.reduceGT, Nat.reduceSub, Nat.reduceBEq, Int.reduceToNat, Array.reduceGetElem?, ↓zc1, ↓zc2]; exact hq) : p := h k
theorem goZ3 {p q : Prop} (k : q) (h : q → p := by intro hq; simp only [EVT, stepR, stepW, evOp, St.ev, St.app, St.put, wrs, evFieldAddr, evLoad, cut, frz, evIndexAddr, datOf, datOf1, evBin, binInt, evUn, evBuiltin, minMax, mmStep, evStore, setR, allOne, fillD, evAppend, elems, evToStr, isAl, Option.elim, TIS, CS, Nat.reduceAdd, Nat.reduceMul, Nat.reduceEqDiff, ↓reduceIte, reduceCtorEq, Nat.reduceLT, Nat.reduceLeDiff, Nat.reduceGT, Nat.reduceSub, Nat.reduceBEq, Int.reduceToNat, Array.reduceGetElem?, ↓zc1, ↓zc2, ↓zc3]; exact hq) : p := h k
theorem goZ4 {p q : Prop} (k : q) (h : q → p := by intro hq; simp only [EVT, stepR, stepW, evOp, St.ev, St.app, St.put, wrs, evFieldAddr, evLoad, cut, frz, evIndexAddr, datOf, datOf1, evBin, binInt, evUn, evBuiltin, minMax, mmStep, evStore, setR, allOne, fillD, evAppend, elems, evToStr, isAl, Option.elim, TIS, CS, Nat.reduceAdd, Nat.reduceMul, Nat.reduceEqDiff, ↓reduceIte, reduceCtorEq, Nat.reduceLT, Nat.reduceLeDiff, Nat.reduceGT, Nat.reduceSub, Nat.reduceBEq, Int.reduceToNat, Array.reduceGetElem?, ↓zc1, ↓zc2, ↓zc3, ↓zc4]; exact hq) : p := h k
theorem goZ5 {p q : Prop} (k : q) (h : q → p := by intro hq; simp only [EVT, stepR, stepW, evOp, St.ev, St.app, St.put, wrs, evFieldAddr, evLoad, cut, frz, evIndexAddr, datOf, datOf1, evBin, binInt, evUn, evBuiltin, minMax, mmStep, evStore, setR, allOne, fillD, evAppend, elems, evToStr, isAl, Option.elim, TIS, CS, Nat.reduceAdd, Nat.reduceMul, Nat.reduceEqDiff, ↓reduceIte, reduceCtorEq, Nat.reduceLT, Nat.reduceLeDiff, Nat.reduceGT, Nat.reduceSub, Nat.reduceBEq, Int.reduceToNat, Array.reduceGetElem?, ↓zc1, ↓zc2, ↓zc3, ↓zc4, ↓zc5]; exact hq) : p := h k
theorem goZ6 {p q : Prop} (k : q) (h : q → p := by intro hq; simp only [EVT, stepR, stepW, evOp, St.ev, St.app, St.put, wrs, evFieldAddr, evLoad, cut, frz, evIndexAddr, datOf, datOf1, evBin, binInt, evUn, evBuiltin, minMax, mmStep, evStore, setR, allOne, fillD, evAppend, elems, evToStr, isAl, Option.elim, TIS, CS, Nat.reduceAdd, Nat.reduceMul, Nat.reduceEqDiff, ↓reduceIte, reduceCtorEq, Nat.reduceLT, Nat.reduceLeDiff, Nat.reduceGT, Nat.reduceSub, Nat.reduceBEq, Int.reduceToNat, Array.reduceGetElem?, ↓zc1, ↓zc2, ↓zc3, ↓zc4, ↓zc5, ↓zc6]; exact hq) : p := h k
theorem a_srC (l : List Oper) (hl : ops.toList = l) (k : aw fe n0 P y Q s) (h : AR P l l 0 σ (fun s' => s' = s) := by
 simp only [EVT, stepR, stepW, evOp, St.ev, St.app, St.put, wrs, evFieldAddr, evLoad, cut, frz, evIndexAddr, datOf, datOf1, evBin, binInt, evUn, evBuiltin, minMax, mmStep, evStore, setR, allOne, fillD, evAppend, elems, evToStr, isAl, Option.elim, TIS, CS, Nat.reduceAdd, Nat.reduceMul, Nat.reduceEqDiff, ↓reduceIte, reduceCtorEq, Nat.reduceLT, Nat.reduceLeDiff, Nat.reduceGT, Nat.reduceSub, Nat.reduceBEq, Int.reduceToNat, Array.reduceGetElem?, *]
 try simp only [EVT, stepR, stepW, evOp, St.ev, St.app, St.put, wrs, evFieldAddr, evLoad, cut, frz, evIndexAddr, datOf, datOf1, evBin, binInt, evUn, evBuiltin, minMax, mmStep, evStore, setR, allOne, fillD, evAppend, elems, evToStr, isAl, Option.elim, TIS, CS, Nat.reduceAdd, Nat.reduceMul, Nat.reduceEqDiff, ↓reduceIte, reduceCtorEq, Nat.reduceLT, Nat.reduceLeDiff, Nat.reduceGT, Nat.reduceSub, Nat.reduceBEq, Int.reduceToNat, Array.reduceGetElem?, *]
 (repeat' apply And.intro) <;> first|rfl|assumption|omega|(simp;done)|(simp;omega)|(simp_all;done)) : aw fe n0 P (.seq (.region id ops false) y) Q σ := a_seq (a_regC l hl (sA_n k) h)
end
end
end Go.Proofs.YtjflkcfafijhfaaGreat
