import Derived.Test.YtmkpokcfefjifaaDoorB2
set_option linter.unusedSectionVars false
/- Pure data; lists of descriptions; the joint's rule with lists; the words of the functional forms. No program here. -/
namespace Go.Ab
open Go.RowKit
variable [Lay]

/-- data without addresses of the call's own -/
inductive Pu : Dat → Prop
  | bool (b : Bool) : Pu (.bool b)
  | int (k : IntKind) (n : Int) : Pu (.int k n)
  | str (s : ByteArray) : Pu (.str s)
  | oth (v : Value) : Pu (.oth v)
  | nil : Pu .nil
  | agg (cs : List Dat) (H : ∀ c ∈ cs, Pu c) : Pu (.agg cs)
  | tup (cs : List Dat) (H : ∀ c ∈ cs, Pu c) : Pu (.tup cs)
  | list (st : Nat) (es : List (List Dat)) (H : ∀ e ∈ es, ∀ c ∈ e, Pu c) : Pu (.list st es)
  | rop (cs : List Dat) (j st : Nat) (H : ∀ c ∈ cs, Pu c) : Pu (.rop cs j st)
  | fn (f : Fn) (a b : List Dat) (H1 : ∀ c ∈ a, Pu c) (H2 : ∀ c ∈ b, Pu c) : Pu (.fn f a b)
def Pus (l : List Dat) : Prop := ∀ c ∈ l, Pu c
theorem Pus.nil : Pus [] := fun c h => by cases h
theorem Pus.cons {a : Dat} {l : List Dat} (h1 : Pu a) (h2 : Pus l) : Pus (a :: l) := fun c h => by
  rcases List.mem_cons.1 h with e | h
  · rw [e]; exact h1
  · exact h2 c h
theorem Pus.app {a b : List Dat} (h1 : Pus a) (h2 : Pus b) : Pus (a ++ b) := fun c h => by
  rcases List.mem_append.1 h with h | h
  · exact h1 c h
  · exact h2 c h
theorem Pu.listMap {α : Type} {st : Nat} (f : α → List Dat) (l : List α) (H : ∀ x, Pus (f x)) : Pu (.list st (l.map f)) :=
  .list st _ fun e he c hc => by
    obtain ⟨x, _, rfl⟩ := List.mem_map.1 he
    exact H x c hc
theorem Pu.purR {d : Dat} (h : Pu d) {hp : Nat → Option Blk} {fz : Bool} : PurR hp fz d d := by
  induction h with
  | bool b => exact .bool b
  | int k n => exact .int k n
  | str s => exact .str s
  | oth v => exact .oth v
  | nil => exact .nil'
  | agg cs _ ih => exact .agg cs cs rfl fun i c d hc hd => by rw [hc] at hd; injection hd with hd; subst hd; exact ih c (List.mem_of_getElem? hc)
  | tup cs _ ih => exact .tup cs cs rfl fun i c d hc hd => by rw [hc] at hd; injection hd with hd; subst hd; exact ih c (List.mem_of_getElem? hc)
  | list st es _ ih =>
    refine .list st es es rfl (fun i e f he hf => by rw [he] at hf; injection hf with hf; rw [hf]) fun i e f he hf j c d hc hd => ?_
    rw [he] at hf; injection hf with hf; subst hf
    rw [hc] at hd; injection hd with hd; subst hd
    exact ih e (List.mem_of_getElem? he) c (List.mem_of_getElem? hc)
  | rop cs j st _ ih => exact .rop cs cs j st rfl fun i c d hc hd => by rw [hc] at hd; injection hd with hd; subst hd; exact ih c (List.mem_of_getElem? hc)
  | fn f a b _ _ ih1 ih2 => exact .fn f a b a b rfl rfl (fun i c d hc hd => by rw [hc] at hd; injection hd with hd; subst hd; exact ih1 c (List.mem_of_getElem? hc)) (fun i c d hc hd => by rw [hc] at hd; injection hd with hd; subst hd; exact ih2 c (List.mem_of_getElem? hc))
theorem Pu.rn {d : Dat} (h : Pu d) {hp : Nat → Option Blk} {ren : Nat → Option Nat} {vt fr : Nat → Prop} : RN hp ren vt fr d d := by
  induction h with
  | bool b => exact .bool b
  | int k n => exact .int k n
  | str s => exact .str s
  | oth v => exact .oth v
  | nil => exact .nil'
  | agg cs _ ih => exact .agg cs cs rfl fun i c d hc hd => by rw [hc] at hd; injection hd with hd; subst hd; exact ih c (List.mem_of_getElem? hc)
  | tup cs _ ih => exact .tup cs cs rfl fun i c d hc hd => by rw [hc] at hd; injection hd with hd; subst hd; exact ih c (List.mem_of_getElem? hc)
  | list st es _ ih =>
    refine .list st es es rfl (fun i e f he hf => by rw [he] at hf; injection hf with hf; rw [hf]) fun i e f he hf j c d hc hd => ?_
    rw [he] at hf; injection hf with hf; subst hf
    rw [hc] at hd; injection hd with hd; subst hd
    exact ih e (List.mem_of_getElem? he) c (List.mem_of_getElem? hc)
  | rop cs j st _ ih => exact .rop cs cs j st rfl fun i c d hc hd => by rw [hc] at hd; injection hd with hd; subst hd; exact ih c (List.mem_of_getElem? hc)
  | fn f a b _ _ ih1 ih2 => exact .fn f a b a b rfl rfl (fun i c d hc hd => by rw [hc] at hd; injection hd with hd; subst hd; exact ih1 c (List.mem_of_getElem? hc)) (fun i c d hc hd => by rw [hc] at hd; injection hd with hd; subst hd; exact ih2 c (List.mem_of_getElem? hc))
theorem Pus.purRs {l : List Dat} (h : Pus l) {hp : Nat → Option Blk} {fz : Bool} : PurRs hp fz l l :=
  ⟨rfl, fun i c d hc hd => by rw [hc] at hd; injection hd with hd; subst hd; exact (h c (List.mem_of_getElem? hc)).purR⟩

section
variable {h : Nat → Option Blk} {ren : Nat → Option Nat} {vt fr : Nat → Prop}
theorem RNs.nil : RNs h ren vt fr [] [] := ⟨rfl, fun i c d h => by simp at h⟩
theorem RNs.cons {c d : Dat} {cs ds : List Dat} (h1 : RN h ren vt fr c d) (h2 : RNs h ren vt fr cs ds) : RNs h ren vt fr (c :: cs) (d :: ds) :=
  ⟨by simp [h2.1], fun i a b ha hb => by
    cases i with
    | zero => simp at ha hb; subst ha; subst hb; exact h1
    | succ i => simp at ha hb; exact h2.2 i a b ha hb⟩
theorem RNs.pu {l : List Dat} (hl : Pus l) : RNs h ren vt fr l l :=
  ⟨rfl, fun i c d hc hd => by rw [hc] at hd; injection hd with hd; subst hd; exact (hl c (List.mem_of_getElem? hc)).rn⟩
theorem RN.agg' {cs ds : List Dat} (k : RNs h ren vt fr cs ds) : RN h ren vt fr (.agg cs) (.agg ds) := .agg cs ds k.1 k.2
theorem RN.tup' {cs ds : List Dat} (k : RNs h ren vt fr cs ds) : RN h ren vt fr (.tup cs) (.tup ds) := .tup cs ds k.1 k.2
theorem RN.rop' {cs ds : List Dat} {j st : Nat} (k : RNs h ren vt fr cs ds) : RN h ren vt fr (.rop cs j st) (.rop ds j st) := .rop cs ds j st k.1 k.2
theorem RN.fn' {f : Fn} {a b a' b' : List Dat} (k1 : RNs h ren vt fr a a') (k2 : RNs h ren vt fr b b') : RN h ren vt fr (.fn f a b) (.fn f a' b') := .fn f a b a' b' k1.1 k2.1 k1.2 k2.2
theorem RN.int' {k : IntKind} {a b : Int} (e : a = b) : RN h ren vt fr (.int k a) (.int k b) := by rw [e]; exact .int k b
theorem RN.bool' {a b : Bool} (e : a = b) : RN h ren vt fr (.bool a) (.bool b) := by rw [e]; exact .bool b
theorem RN.str' {a b : ByteArray} (e : a = b) : RN h ren vt fr (.str a) (.str b) := by rw [e]; exact .str b
def RNL (h : Nat → Option Blk) (ren : Nat → Option Nat) (vt fr : Nat → Prop) (es fs : List (List Dat)) : Prop :=
  es.length = fs.length ∧ ∀ (k : Nat) e f, es[k]? = some e → fs[k]? = some f → RNs h ren vt fr e f
theorem RNL.nil : RNL h ren vt fr [] [] := ⟨rfl, fun i c d h => by simp at h⟩
theorem RNL.cons {e f : List Dat} {es fs : List (List Dat)} (h1 : RNs h ren vt fr e f) (h2 : RNL h ren vt fr es fs) : RNL h ren vt fr (e :: es) (f :: fs) :=
  ⟨by simp [h2.1], fun i a b ha hb => by
    cases i with
    | zero => simp at ha hb; subst ha; subst hb; exact h1
    | succ i => simp at ha hb; exact h2.2 i a b ha hb⟩
theorem RNL.app {a b c d : List (List Dat)} (h1 : RNL h ren vt fr a c) (h2 : RNL h ren vt fr b d) : RNL h ren vt fr (a ++ b) (c ++ d) :=
  ⟨by simp [h1.1, h2.1], fun i e f he hf => by
    rcases Nat.lt_or_ge i a.length with hi | hi
    · rw [List.getElem?_append_left hi] at he
      rw [List.getElem?_append_left (by rw [← h1.1]; exact hi)] at hf
      exact h1.2 i e f he hf
    · rw [List.getElem?_append_right hi] at he
      rw [List.getElem?_append_right (by rw [← h1.1]; exact hi)] at hf
      exact h2.2 _ e f he (by rw [h1.1]; exact hf)⟩
theorem RNL.same {α : Type} (f : α → List Dat) (l : List α) (H : ∀ x, Pus (f x)) {es : List (List Dat)} (he : es = l.map f) : RNL h ren vt fr es (l.map f) := by
  subst he
  refine ⟨rfl, fun k e g he hg => ?_⟩
  rw [he] at hg; injection hg with hg; subst hg
  obtain ⟨x, _, rfl⟩ := List.mem_map.1 (List.mem_of_getElem? he)
  exact RNs.pu (H x)
theorem RN.list' {st : Nat} {es fs : List (List Dat)} (k : RNL h ren vt fr es fs) : RN h ren vt fr (.list st es) (.list st fs) :=
  .list st es fs k.1 (fun i e f he hf => (k.2 i e f he hf).1) fun i e f he hf => (k.2 i e f he hf).2
theorem RN.frz' {i len st : Nat} {B : Blk} {fs : List (List Dat)} (hB : h i = some B) (hz : fr i) (hst : B.st = st) (hlen : len = B.es.length) (k : RNL h ren vt fr B.es fs) : RN h ren vt fr (.ref i 0 len st) (.list st fs) :=
  .frz i 0 len st B fs hB hz hst (by omega) (by rw [← k.1, hlen]) (fun q e f he hf => by rw [Nat.zero_add] at he; exact (k.2 q e f he hf).1) (fun q e f he hf => by rw [Nat.zero_add] at he; exact (k.2 q e f he hf).2)
theorem RN.frzs {i off len st : Nat} {B : Blk} {fs : List (List Dat)} (hB : h i = some B) (hz : fr i) (hst : B.st = st) (hle : off + len ≤ B.es.length) (hl : fs.length = len) (k : RNL h ren vt fr ((B.es.drop off).take len) fs) : RN h ren vt fr (.ref i off len st) (.list st fs) := by
  have key : ∀ (q : Nat) e f, B.es[off + q]? = some e → fs[q]? = some f → RNs h ren vt fr e f := fun q e f he hf => by
    have hq : q < len := by rw [← hl]; exact (List.getElem?_eq_some_iff.1 hf).1
    refine k.2 q e f ?_ hf
    rw [List.getElem?_take, if_pos hq, List.getElem?_drop]; exact he
  exact .frz i off len st B fs hB hz hst hle hl (fun q e f he hf => (key q e f he hf).1) fun q e f he hf => (key q e f he hf).2
end

/-- the heap of a list of blocks; temporaries of a list of values -/
def hl (l : List Blk) : Nat → Option Blk := fun j => l[j]?
def tl (t0 : Nat → Dat) : List (Nat × Dat) → Nat → Dat
  | [] => t0
  | p :: l => upd (tl t0 l) p.1 p.2
def renL (bl : List (Option Nat × Blk)) : Nat → Option Nat := fun j => match bl[j]? with | some p => p.1 | none => none
def vtL (bl : List (Option Nat × Blk)) : Nat → Prop := fun j => match bl[j]? with | some p => p.1 = none | none => False
def AllB (h : Nat → Option Blk) (ren : Nat → Option Nat) (vt : Nat → Prop) (fr : List Nat) : List (Option Nat × Blk) → Prop
  | [] => True
  | (none, B) :: l => B.es = [] ∧ AllB h ren vt fr l
  | (some i, B') :: l => (∃ B, h i = some B ∧ (B'.e = B.e ∧ B'.st = B.st ∧ B'.fz = B.fz) ∧ fr.contains i = false ∧ RNL h ren vt (fun i => i ∈ fr) B.es B'.es) ∧ AllB h ren vt fr l
def AllT (h : Nat → Option Blk) (ren : Nat → Option Nat) (vt : Nat → Prop) (fr : List Nat) (t : Nat → Dat) : List (Nat × Dat) → Prop
  | [] => True
  | p :: l => RN h ren vt (fun i => i ∈ fr) (t p.1) p.2 ∧ AllT h ren vt fr t l
theorem AllB.at {h : Nat → Option Blk} {ren : Nat → Option Nat} {vt : Nat → Prop} {fr : List Nat} : ∀ {bl : List (Option Nat × Blk)} {j : Nat} {p : Option Nat × Blk}, AllB h ren vt fr bl → bl[j]? = some p →
    (p.1 = none ∧ p.2.es = []) ∨ ∃ i B, p.1 = some i ∧ h i = some B ∧ (p.2.e = B.e ∧ p.2.st = B.st ∧ p.2.fz = B.fz) ∧ i ∉ fr ∧ RNL h ren vt (fun i => i ∈ fr) B.es p.2.es
  | [], j, p, _, hj => by simp at hj
  | (none, B) :: l, 0, p, H, hj => by simp at hj; subst hj; exact .inl ⟨rfl, H.1⟩
  | (some i, B') :: l, 0, p, H, hj => by
    simp at hj; subst hj
    obtain ⟨⟨B, h1, h2, h3, h4⟩, _⟩ := H
    exact .inr ⟨i, B, rfl, h1, h2, by simpa using h3, h4⟩
  | (none, B) :: l, j + 1, p, H, hj => AllB.at (bl := l) (j := j) H.2 (by simpa using hj)
  | (some i, B') :: l, j + 1, p, H, hj => AllB.at (bl := l) (j := j) H.2 (by simpa using hj)
theorem AllT.at {h : Nat → Option Blk} {ren : Nat → Option Nat} {vt : Nat → Prop} {fr : List Nat} {t : Nat → Dat} : ∀ {L : List (Nat × Dat)}, AllT h ren vt fr t L → ∀ p ∈ L, RN h ren vt (fun i => i ∈ fr) (t p.1) p.2
  | [], _, p, hp => by cases hp
  | q :: L, H, p, hp => by
    rcases List.mem_cons.1 hp with e | hp
    · rw [e]; exact H.1
    · exact AllT.at H.2 p hp
theorem tl_at {t' : Nat → Dat} : ∀ {L : List (Nat × Dat)}, (∀ p ∈ L, t' p.1 = p.2) → tl t' L = t'
  | [], _ => rfl
  | p :: L, H => by
    show upd (tl t' L) p.1 p.2 = t'
    rw [tl_at (fun q hq => H q (List.mem_cons_of_mem _ hq))]
    funext x
    unfold upd
    split
    · rename_i e; rw [e, H p (List.mem_cons_self ..)]
    · rfl
theorem wk_l {nt n : Nat} {t : Nat → Dat} {h : Nat → Option Blk} {R : St → Prop} (bl : List (Option Nat × Blk)) (fr : List Nat) (L : List (Nat × Dat)) (hnd : (L.map (·.1)).Nodup) (hinj : (bl.filterMap (·.1)).Nodup)
    (hB : AllB h (renL bl) (vtL bl) fr bl) (hT : AllT h (renL bl) (vtL bl) fr t L) (hR : ∀ t0, R ⟨tl t0 L, hl (bl.map (·.2)), bl.length, nt⟩) : WkS 0 ⟨t, h, n, nt⟩ R := by
  have hren : ∀ j i, renL bl j = some i → ∃ B, bl[j]? = some (some i, B) := fun j i e => by
    unfold renL at e
    split at e
    · rename_i p hp; obtain ⟨o, B⟩ := p; simp only at e; subst e; exact ⟨B, hp⟩
    · cases e
  refine wk_mk (n' := bl.length) (h' := hl (bl.map (·.2))) (ren := renL bl) (vt := vtL bl) (fr := fun i => i ∈ fr) L hnd
    { blk := fun j B' hj => ?_, inj := fun j k i hj hk => ?_, low := fun i hi => absurd hi (Nat.not_lt_zero _), top := fun j hj => ?_ } (AllT.at hT) fun t' ht => ?_
  · unfold hl at hj
    rw [List.getElem?_map] at hj
    cases hp : bl[j]? with
    | none => rw [hp] at hj; cases hj
    | some p =>
      rw [hp] at hj
      simp only [Option.map_some, Option.some.injEq] at hj
      subst hj
      rcases hB.at hp with ⟨h1, h2⟩ | ⟨i, B, h1, h2, h3, h4, h5⟩
      · exact .inl ⟨by simp only [renL, hp]; exact h1, by simp only [vtL, hp]; exact h1, h2⟩
      · exact .inr ⟨i, B, by simp only [renL, hp]; exact h1, h2, h3.1, h3.2.1, h3.2.2, h4, h5.1.symm, h5.2⟩
  · obtain ⟨B, hb⟩ := hren j i hj
    obtain ⟨C, hc⟩ := hren k i hk
    have gen : ∀ (bl : List (Option Nat × Blk)), (bl.filterMap (·.1)).Nodup → ∀ (j k : Nat) B C, bl[j]? = some (some i, B) → bl[k]? = some (some i, C) → j = k := by
      intro bl
      induction bl with
      | nil => intro _ j k B C h; simp at h
      | cons p l ih =>
        intro hn j k B C hj hk
        have hmem : ∀ (q : Nat) E, l[q]? = some (some i, E) → i ∈ l.filterMap (·.1) := fun q E hq => List.mem_filterMap.2 ⟨_, List.mem_of_getElem? hq, rfl⟩
        obtain ⟨o, E⟩ := p
        have hn' : (l.filterMap (·.1)).Nodup := by
          cases o with
          | none => simpa using hn
          | some x => simp only [List.filterMap_cons, List.nodup_cons] at hn; exact hn.2
        cases j with
        | zero =>
          cases k with
          | zero => rfl
          | succ k =>
            simp at hj hk
            obtain ⟨rfl, _⟩ := hj
            simp only [List.filterMap_cons, List.nodup_cons] at hn
            exact absurd (hmem k C hk) hn.1
        | succ j =>
          cases k with
          | zero =>
            simp at hj hk
            obtain ⟨rfl, _⟩ := hk
            simp only [List.filterMap_cons, List.nodup_cons] at hn
            exact absurd (hmem j B hj) hn.1
          | succ k => simp at hj hk; rw [ih hn' j k B C hj hk]
    exact gen bl hinj j k B C hb hc
  · have hn : bl[j]? = none := List.getElem?_eq_none hj
    simp only [renL, vtL, hn]
    exact ⟨trivial, fun h => h⟩
  · have := hR t'
    rwa [tl_at ht] at this

/-! words of the functional forms -/
/-- a condition that must hold, else there is no answer -/
def chk {β : Type} (p : Prop) [Decidable p] (e : Option β) : Option β := if p then e else none
theorem chk_some {β : Type} {p : Prop} [Decidable p] {e : Option β} {r : β} (h : chk p e = some r) : p ∧ e = some r := by
  unfold chk at h
  split at h
  · rename_i hp; exact ⟨hp, h⟩
  · cases h
theorem chk_pos {β : Type} {p : Prop} [Decidable p] {e : Option β} (h : p) : chk p e = e := if_pos h
/-- an element at a place -/
def idx {β : Type} [Inhabited β] (l : List β) (n : Int) : Option β := if 0 ≤ n ∧ n < l.length then some (l.getD n.toNat default) else none
theorem idx_some {β : Type} [Inhabited β] {l : List β} {n : Int} {x : β} (h : idx l n = some x) : 0 ≤ n ∧ n < l.length ∧ l.getD n.toNat default = x := by
  unfold idx at h
  split at h
  · rename_i hp; injection h with h; exact ⟨hp.1, hp.2, h⟩
  · cases h
theorem idx_map {β : Type} [Inhabited β] {l : List β} {n : Int} {x : β} (h : idx l n = some x) (f : β → List Dat) : (l.map f).getD n.toNat [] = f x := by
  obtain ⟨h1, h2, h3⟩ := idx_some h
  rw [getD_map f l _ _ default (by omega), h3]
theorem bind_some {α β : Type} {a : Option α} {f : α → Option β} {r : β} (h : a.bind f = some r) : ∃ x, a = some x ∧ f x = some r := Option.bind_eq_some_iff.1 h
theorem cond_t {β : Type} {b : Bool} {x y : Option β} {r : β} (c : b = true) (h : cond b x y = some r) : x = some r := by rw [c] at h; exact h
theorem cond_f {β : Type} {b : Bool} {x y : Option β} {r : β} (c : b = false) (h : cond b x y = some r) : y = some r := by rw [c] at h; exact h
open Classical in
/-- a slice is held against nil: one that is empty may be nil or not -/
noncomputable def nilq {α β : Type} (l : List α) (e1 e2 : Option β) : Option β := if l = [] then (if e1 = e2 then e1 else none) else e2
theorem nilq_some {α β : Type} {l : List α} {e1 e2 : Option β} {r : β} (h : nilq l e1 e2 = some r) : (l = [] → e1 = some r) ∧ e2 = some r := by
  unfold nilq at h
  split at h
  · split at h
    · rename_i h2; rw [← h2]; exact ⟨fun _ => h, h⟩
    · cases h
  · rename_i hl; exact ⟨fun e => absurd e hl, h⟩
theorem nilq_of {α β : Type} {l : List α} {e1 e2 : Option β} {r : β} (h1 : l = [] → e1 = some r) (h2 : e2 = some r) : nilq l e1 e2 = some r := by
  unfold nilq
  split
  · rename_i h; rw [h1 h, h2, if_pos rfl]
  · exact h2
/-- the rounds of a loop: no fewer are ever needed -/
theorem big_ex : ∃ n : Nat, n = 1000000000000000000 := ⟨_, rfl⟩
noncomputable def BIG : Nat := big_ex.choose
theorem BIG_eq : BIG = 1000000000000000000 := big_ex.choose_spec
end Go.Ab
