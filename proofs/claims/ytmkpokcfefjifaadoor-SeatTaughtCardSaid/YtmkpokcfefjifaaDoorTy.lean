import Derived.Test.YtmkpokcfefjifaaDoorTi
import Derived.Test.YtmkpokcfefjifaaDoorL
import Derived.Test.YtmkpokcfefjifaaDoorB12
set_option linter.unusedSectionVars false
/- Functions of the program as Lean functions, and that they are so; printed by a program of mine. -/
set_option linter.unusedSimpArgs false
set_option linter.unusedVariables false
namespace Go.Proofs.YtmkpokcfefjifaaDoor
open Go.Ab
noncomputable section
structure Entry where
  term : Int
  data : List Int
deriving DecidableEq, Inhabited
def Entry.c (x : Entry) : List Dat := [.int .i64 x.term, .list 1 (x.data.map (ci .u8))]
theorem Entry.pu (x : Entry) : Pus (Entry.c x) := (Pus.cons (.int _ _) (Pus.cons (.listMap _ _ (ci_pu .u8)) Pus.nil))
structure Seat where
  id : Int
  peers : List Int
  term : Int
  voted : Int
  role : Int
  log : List Entry
  commit : Int
  votes : List Int
  next : List Int
  match_ : List Int
deriving DecidableEq, Inhabited
def Seat.c (x : Seat) : List Dat := [.int .i64 x.id, .list 1 (x.peers.map (ci .i64)), .int .i64 x.term, .int .i64 x.voted, .int .i64 x.role, .list 2 (x.log.map Entry.c), .int .i64 x.commit, .list 1 (x.votes.map (ci .i64)), .list 1 (x.next.map (ci .i64)), .list 1 (x.match_.map (ci .i64))]
theorem Seat.pu (x : Seat) : Pus (Seat.c x) := (Pus.cons (.int _ _) (Pus.cons (.listMap _ _ (ci_pu .i64)) (Pus.cons (.int _ _) (Pus.cons (.int _ _) (Pus.cons (.int _ _) (Pus.cons (.listMap _ _ Entry.pu) (Pus.cons (.int _ _) (Pus.cons (.listMap _ _ (ci_pu .i64)) (Pus.cons (.listMap _ _ (ci_pu .i64)) (Pus.cons (.listMap _ _ (ci_pu .i64)) Pus.nil))))))))))
structure Msg where
  from_ : Int
  to_ : Int
  kind : Int
  nums : List Int
  data : List Int
deriving DecidableEq, Inhabited
def Msg.c (x : Msg) : List Dat := [.int .i64 x.from_, .int .i64 x.to_, .int .i64 x.kind, .list 1 (x.nums.map (ci .i64)), .list 1 (x.data.map (ci .u8))]
theorem Msg.pu (x : Msg) : Pus (Msg.c x) := (Pus.cons (.int _ _) (Pus.cons (.int _ _) (Pus.cons (.int _ _) (Pus.cons (.listMap _ _ (ci_pu .i64)) (Pus.cons (.listMap _ _ (ci_pu .u8)) Pus.nil)))))
structure Step where
  do_ : Int
  m : Msg
deriving DecidableEq, Inhabited
def Step.c (x : Step) : List Dat := [.int .i64 x.do_, .int .i64 x.m.from_, .int .i64 x.m.to_, .int .i64 x.m.kind, .list 1 (x.m.nums.map (ci .i64)), .list 1 (x.m.data.map (ci .u8))]
theorem Step.pu (x : Step) : Pus (Step.c x) := (Pus.cons (.int _ _) (Pus.cons (.int _ _) (Pus.cons (.int _ _) (Pus.cons (.int _ _) (Pus.cons (.listMap _ _ (ci_pu .i64)) (Pus.cons (.listMap _ _ (ci_pu .u8)) Pus.nil))))))
structure Machine where
  seat : Seat
  out : List Msg
deriving DecidableEq, Inhabited
def Machine.c (x : Machine) : List Dat := [.int .i64 x.seat.id, .list 1 (x.seat.peers.map (ci .i64)), .int .i64 x.seat.term, .int .i64 x.seat.voted, .int .i64 x.seat.role, .list 2 (x.seat.log.map Entry.c), .int .i64 x.seat.commit, .list 1 (x.seat.votes.map (ci .i64)), .list 1 (x.seat.next.map (ci .i64)), .list 1 (x.seat.match_.map (ci .i64)), .list 5 (x.out.map Msg.c)]
theorem Machine.pu (x : Machine) : Pus (Machine.c x) := (Pus.cons (.int _ _) (Pus.cons (.listMap _ _ (ci_pu .i64)) (Pus.cons (.int _ _) (Pus.cons (.int _ _) (Pus.cons (.int _ _) (Pus.cons (.listMap _ _ Entry.pu) (Pus.cons (.int _ _) (Pus.cons (.listMap _ _ (ci_pu .i64)) (Pus.cons (.listMap _ _ (ci_pu .i64)) (Pus.cons (.listMap _ _ (ci_pu .i64)) (Pus.cons (.listMap _ _ Msg.pu) Pus.nil)))))))))))
theorem CS_Entry (x : Entry) : Entry.c x = [.int .i64 x.term, .list 1 (x.data.map (ci .u8))] := rfl
theorem CS_Seat (x : Seat) : Seat.c x = [.int .i64 x.id, .list 1 (x.peers.map (ci .i64)), .int .i64 x.term, .int .i64 x.voted, .int .i64 x.role, .list 2 (x.log.map Entry.c), .int .i64 x.commit, .list 1 (x.votes.map (ci .i64)), .list 1 (x.next.map (ci .i64)), .list 1 (x.match_.map (ci .i64))] := rfl
theorem CS_Msg (x : Msg) : Msg.c x = [.int .i64 x.from_, .int .i64 x.to_, .int .i64 x.kind, .list 1 (x.nums.map (ci .i64)), .list 1 (x.data.map (ci .u8))] := rfl
theorem CS_Step (x : Step) : Step.c x = [.int .i64 x.do_, .int .i64 x.m.from_, .int .i64 x.m.to_, .int .i64 x.m.kind, .list 1 (x.m.nums.map (ci .i64)), .list 1 (x.m.data.map (ci .u8))] := rfl
theorem CS_Machine (x : Machine) : Machine.c x = [.int .i64 x.seat.id, .list 1 (x.seat.peers.map (ci .i64)), .int .i64 x.seat.term, .int .i64 x.seat.voted, .int .i64 x.seat.role, .list 2 (x.seat.log.map Entry.c), .int .i64 x.seat.commit, .list 1 (x.seat.votes.map (ci .i64)), .list 1 (x.seat.next.map (ci .i64)), .list 1 (x.seat.match_.map (ci .i64)), .list 5 (x.out.map Msg.c)] := rfl
def Machine.o (x : Machine) (k : Nat) : List Dat := [.int .i64 x.seat.id, .list 1 (x.seat.peers.map (ci .i64)), .int .i64 x.seat.term, .int .i64 x.seat.voted, .int .i64 x.seat.role, .list 2 (x.seat.log.map Entry.c), .int .i64 x.seat.commit, .list 1 (x.seat.votes.map (ci .i64)), .list 1 (x.seat.next.map (ci .i64)), .list 1 (x.seat.match_.map (ci .i64)), .ref k 0 x.out.length 5]
theorem CS_MachineO (x : Machine) (k : Nat) : Machine.o x k = [.int .i64 x.seat.id, .list 1 (x.seat.peers.map (ci .i64)), .int .i64 x.seat.term, .int .i64 x.seat.voted, .int .i64 x.seat.role, .list 2 (x.seat.log.map Entry.c), .int .i64 x.seat.commit, .list 1 (x.seat.votes.map (ci .i64)), .list 1 (x.seat.next.map (ci .i64)), .list 1 (x.seat.match_.map (ci .i64)), .ref k 0 x.out.length 5] := rfl
theorem CS : (type_of% @CS_MachineO) ∧ (type_of% @CS_Entry) ∧ (type_of% @CS_Seat) ∧ (type_of% @CS_Msg) ∧ (type_of% @CS_Step) ∧ (type_of% @CS_Machine) := ⟨@CS_MachineO, @CS_Entry, @CS_Seat, @CS_Msg, @CS_Step, @CS_Machine⟩

theorem MPT : (type_of% @List.map_append) ∧ (type_of% @List.map_cons) ∧ (type_of% @List.map_nil) ∧ (type_of% @List.map_set) ∧ (type_of% @List.map_take) ∧ (type_of% @List.map_drop) ∧ (type_of% @List.map_replicate) ∧ (type_of% @List.append_assoc) ∧ (type_of% @List.nil_append) ∧ (type_of% @List.append_nil) ∧ (type_of% @ci_eq) ∧ (type_of% @cb_eq) ∧ (type_of% @cs_eq) ∧ (type_of% @cl_eq) := ⟨@List.map_append, @List.map_cons, @List.map_nil, @List.map_set, @List.map_take, @List.map_drop, @List.map_replicate, @List.append_assoc, @List.nil_append, @List.append_nil, @ci_eq, @cb_eq, @cs_eq, @cl_eq⟩
theorem ATT : (type_of% @tl_cons) ∧ (type_of% @tl_nil) ∧ (type_of% @upd_apply) ∧ (type_of% @List.getD_cons_zero) ∧ (type_of% @List.getD_cons_succ) := ⟨@tl_cons, @tl_nil, @upd_apply, @List.getD_cons_zero, @List.getD_cons_succ⟩
theorem _root_.Go.Ab.RNL.sm {h : Nat → Option Blk} {ren : Nat → Option Nat} {vt fr : Nat → Prop} {α : Type} (f : α → List Dat) (l : List α) (H : ∀ x, Pus (f x)) {es : List (List Dat)} (he : es = l.map f := by first | rfl | (simp only [MPT, CS, List.nil_append]; done) | (simp [CS, ci_eq, cb_eq, cs_eq, cl_eq]; done) | (simp [CS, ci_eq, cb_eq, cs_eq, cl_eq]; intro hz; rw [List.take_of_length_le (by simp; omega)])) : RNL h ren vt fr es (l.map f) := RNL.same f l H he
theorem _root_.Go.Ab.PL.sm {h : Nat → Option Blk} {fz : Bool} {α : Type} (f : α → List Dat) (l : List α) (H : ∀ x, Pus (f x)) {es : List (List Dat)} (he : es = l.map f := by first | rfl | (simp only [MPT, CS, List.nil_append]; done) | (simp [CS, ci_eq, cb_eq, cs_eq, cl_eq]; done) | (simp [CS, ci_eq, cb_eq, cs_eq, cl_eq]; intro hz; rw [List.take_of_length_le (by simp; omega)])) : PL h fz es (l.map f) := PL.same f l H he
section
variable {n0 : Nat} {P : Program} {Q : Exit → St → Prop} {σ s : St} {id : Nat} {ops : Array Oper}
theorem _root_.Go.Ab.goS {p q : Prop} (k : q) (h : q → p := by intro hq; simp only [EVT, stepR, stepW, evOp, St.ev, St.app, St.put, wrs, evFieldAddr, evLoad, cut, frz, evIndexAddr, datOf, datOf1, evBin, binInt, evUn, evBuiltin, minMax, mmStep, evStore, setR, allOne, fillD, evAppend, elems, evToStr, isAl, Option.elim, TIS, CS, Nat.reduceAdd, Nat.reduceMul, Nat.reduceEqDiff, ↓reduceIte, reduceCtorEq, Nat.reduceLT, Nat.reduceLeDiff, Nat.reduceGT, Nat.reduceSub, Nat.reduceBEq, Int.reduceToNat, Array.reduceGetElem?, *]; exact hq) : p := h k
end
section
theorem ndb_of : ∀ {l : List Nat}, (l.all fun a => l.countP (fun b => Nat.beq a b) == 1) = true → l.Nodup := by
  intro l h
  rw [List.nodup_iff_count]
  intro a
  by_cases ha : a ∈ l
  · have h1 := List.all_eq_true.1 h a ha
    have h2 : l.countP (fun b => Nat.beq a b) = 1 := by simpa using h1
    rw [List.count, List.countP_congr (q := fun b => Nat.beq a b) (fun b _ => by simp only [beq_iff_eq, Nat.beq_eq]; exact eq_comm)]; omega
  · rw [List.count_eq_zero_of_not_mem ha]; omega
theorem ND {l : List Nat} (h : (l.all fun a => l.countP (fun b => Nat.beq a b) == 1) = true := by rfl) : l.Nodup := ndb_of h
theorem ZZ {p : Prop} (h : p := by
  repeat' first
    | exact trivial
    | exact .nil
    | refine .cons ?_ ?_
    | exact .int' rfl
    | exact .int _ _
    | exact .lst _ _ _ (by first | exact ci_pu _ | exact cb_pu | exact cs_pu | exact Entry.pu | exact Seat.pu | exact Msg.pu | exact Step.pu | exact Machine.pu | exact cl_pu (by first | exact ci_pu _ | exact cb_pu | exact cs_pu | exact Entry.pu | exact Seat.pu | exact Msg.pu | exact Step.pu | exact Machine.pu)) rfl
    | exact .sm _ _ (by first | exact ci_pu _ | exact cb_pu | exact cs_pu | exact Entry.pu | exact Seat.pu | exact Msg.pu | exact Step.pu | exact Machine.pu | exact cl_pu (by first | exact ci_pu _ | exact cb_pu | exact cs_pu | exact Entry.pu | exact Seat.pu | exact Msg.pu | exact Step.pu | exact Machine.pu))
    | refine .agg' ?_
    | refine .tup' ?_
    | exact .bool' (by first | rfl | assumption | (simp_all; done))
    | exact .str' rfl
    | exact .ptr _ _ _ _ _ rfl
    | exact .refl' (by first|rfl|omega|(simp;done)|(simp;omega)|(simp_all;done)) rfl
    | exact .nil'
    | exact .nil _
    | exact .nilv _ _ rfl rfl
    | refine allB_some (by rfl) rfl ?_ ?_
    | refine allB_none rfl ?_
    | refine .fn' ?_ ?_
    | refine .rop' ?_
    | refine .box (by rfl) (fun e => by cases e) rfl rfl ?_
    | refine .box' (by rfl) (by simp) rfl rfl ?_
    | refine .ownL (by first | rfl | exact (wrs_frz _ _ _ _).trans (by rfl) | exact (e _ (by simp)).trans (by rfl) | exact (wrs_frz h2 _ h2 _).trans (by rw [e _ (by simp)]; rfl)) (fun e => by first | cases e | rfl) rfl (by first|rfl|omega|(simp;done)|(simp;omega)|(simp_all;done)) ?_
    | refine ⟨.inl ⟨by decide, rfl⟩, ⟨_, rfl, ⟨rfl, rfl, rfl, rfl⟩, ?_⟩, ?_⟩
    | refine ⟨.inr ⟨rfl, by decide⟩, ⟨_, rfl, ⟨rfl, rfl, rfl, rfl⟩, ?_⟩, ?_⟩
) : p := h
theorem ZT {p : Prop} (h : p := by
  (simp only [AllT, ATT, Nat.reduceEqDiff, ↓reduceIte, and_true])
  repeat' apply And.intro
  all_goals exact ZZ) : p := h
theorem RS {p : Prop} (h : p := by first | rfl | (simp only [EVT, resR, single, evLoad, cut, TIS, CS, Nat.reduceAdd, Nat.reduceEqDiff, ↓reduceIte, reduceCtorEq, Nat.reduceLT, Nat.reduceLeDiff, Nat.reduceSub, Nat.reduceBEq]; (repeat' apply And.intro) <;> first | rfl | (simp; done))) : p := h
theorem EQA {p : Prop} (h : p := by first | rfl | (simp only [List.map_set, List.map_append, List.map_cons, List.map_nil]; rfl)) : p := h
theorem RT {p : Prop} (h : p := by
  obtain rfl := Option.some.inj H
  refine e_r2 (d := ?zd) ?_ ?_
  rotate_left
  · simp only [EVT, resR, single, evLoad, cut, TIS, CS, Nat.reduceAdd, Nat.reduceEqDiff, ↓reduceIte, reduceCtorEq, Nat.reduceLT, Nat.reduceLeDiff, Nat.reduceSub, Nat.reduceBEq, *]
    (repeat' apply And.intro) <;> first | rfl | assumption | omega | (simp; done)
  exact ZZ) : p := h
theorem cnd {β : Type} {b : Bool} {x y : Option β} {r : β} {p : Prop} (H : cond b x y = some r) (h1 : b = true → x = some r → p) (h2 : b = false → y = some r → p) : p := by
  cases b
  · exact h2 rfl H
  · exact h1 rfl H
theorem a_cnd {n0 : Nat} {P : Program} {Q : Exit → St → Prop} {σ : St} {x y : Code} {c : Operand} {β : Type} {b : Bool} {u v : Option β} {r : β} (H : cond b u v = some r) (ht : b = true → u = some r → aw n0 P x Q σ) (hf : b = false → v = some r → aw n0 P y Q σ) (hc : σ.ev c = .bool b := by rfl) : aw n0 P (.cond c x y) Q σ := by
  cases b
  · exact a_cond hc rfl (fun h => by cases h) (fun h => hf h H)
  · exact a_cond hc rfl (fun h => ht h H) (fun h => by cases h)
theorem idx3 {β : Type} [Inhabited β] {l : List β} {n : Int} {x : β} {f : β → List Dat} (h : idx l n = some x) : (l.map f).getD n.toNat [] = f x ∧ 0 ≤ n ∧ n < l.length := ⟨idx_map h f, (idx_some h).1, (idx_some h).2.1⟩
theorem wk_lA {nt n : Nat} {t : Nat → Dat} {h : Nat → Option Blk} {R : St → Prop} (bl : List (Option Nat × Blk)) (fr : List Nat) {L : List (Nat × Dat)}
    (hR : ∀ t0, R ⟨tl t0 L, hl (bl.map (·.2)), bl.length, nt⟩) (hnd : (L.map (·.1)).Nodup := by exact ND) (hinj : (bl.filterMap (·.1)).Nodup := by exact ND) (hB : AllB h (renL bl) (vtL bl) fr bl := by exact ZZ) (hT : AllT h (renL bl) (vtL bl) fr t L := by exact ZT) : WkS 0 ⟨t, h, n, nt⟩ R := wk_l bl fr L hnd hinj hB hT hR
theorem wk_lnA (n0 : Nat) {nt n : Nat} {t : Nat → Dat} {h : Nat → Option Blk} {R : St → Prop} (bl : List (Option Nat × Blk)) (fr : List Nat) {L : List (Nat × Dat)}
    (hR : ∀ t0, R ⟨tl t0 L, hl (bl.map (·.2)), bl.length, nt⟩) (hlow : ∀ i, i < n0 → renL bl i = some i := by intro i h; rcases i with _ | _ | _ | i <;> first | rfl | omega) (hnd : (L.map (·.1)).Nodup := by exact ND) (hinj : (bl.filterMap (·.1)).Nodup := by exact ND) (hB : AllB h (renL bl) (vtL bl) fr bl := by exact ZZ) (hT : AllT h (renL bl) (vtL bl) fr t L := by exact ZT) : WkS n0 ⟨t, h, n, nt⟩ R := wk_ln n0 bl fr L hlow hnd hinj hB hT hR
variable {n0 : Nat} {P : Program} {Q : Exit → St → Prop} {σ s : St} {id : Nat} {ops : Array Oper}
theorem a_regC (l : List Oper) (hl : ops.toList = l) (k : Q .normal s) (h : AR P l l 0 σ (fun s' => s' = s) := by
  simp only [EVT, stepR, stepW, evOp, St.ev, St.app, St.put, wrs, evFieldAddr, evLoad, cut, frz, evIndexAddr, datOf, datOf1, evBin, binInt, evUn, evBuiltin, minMax, mmStep, evStore, setR, allOne, fillD, evAppend, elems, evToStr, isAl, Option.elim, TIS, CS, Nat.reduceAdd, Nat.reduceMul, Nat.reduceEqDiff, ↓reduceIte, reduceCtorEq, Nat.reduceLT, Nat.reduceLeDiff, Nat.reduceGT, Nat.reduceSub, Nat.reduceBEq, Int.reduceToNat, Array.reduceGetElem?, *]
  try simp only [EVT, stepR, stepW, evOp, St.ev, St.app, St.put, wrs, evFieldAddr, evLoad, cut, frz, evIndexAddr, datOf, datOf1, evBin, binInt, evUn, evBuiltin, minMax, mmStep, evStore, setR, allOne, fillD, evAppend, elems, evToStr, isAl, Option.elim, TIS, CS, Nat.reduceAdd, Nat.reduceMul, Nat.reduceEqDiff, ↓reduceIte, reduceCtorEq, Nat.reduceLT, Nat.reduceLeDiff, Nat.reduceGT, Nat.reduceSub, Nat.reduceBEq, Int.reduceToNat, Array.reduceGetElem?, *]
  (repeat' apply And.intro) <;> first|rfl|assumption|omega|(simp;done)|(simp;omega)|(simp_all;done)) : aw n0 P (.region id ops false) Q σ := a_reg l hl h k
theorem a_regK (l : List Oper) (hl : ops.toList = l) (k : Q .normal s) (h : AR P l l 0 σ (fun s' => s' = s) := by
  try refine goS ?_
  repeat' with_reducible apply And.intro
  all_goals try ((with_reducible show CallR _ _ _ _ _ _ _); (first | refine cR_s (by assumption) ZZ (by first | exact .bool _ | exact .int _ _ | exact .str _) ?_ | refine cR_p (by assumption) ZZ ?_); refine goS ?_)
  repeat' with_reducible apply And.intro
  all_goals try ((with_reducible show CallR _ _ _ _ _ _ _); (first | refine cR_s (by assumption) ZZ (by first | exact .bool _ | exact .int _ _ | exact .str _) ?_ | refine cR_p (by assumption) ZZ ?_); refine goS ?_)
  repeat' with_reducible apply And.intro
  all_goals try ((with_reducible show CallR _ _ _ _ _ _ _); (first | refine cR_s (by assumption) ZZ (by first | exact .bool _ | exact .int _ _ | exact .str _) ?_ | refine cR_p (by assumption) ZZ ?_); refine goS ?_)
  all_goals ((repeat' apply And.intro) <;> first|rfl|assumption|omega|(simp;done)|(simp;omega)|(simp_all;done))) : aw n0 P (.region id ops false) Q σ := a_reg l hl h k
end
end
end Go.Proofs.YtmkpokcfefjifaaDoor
