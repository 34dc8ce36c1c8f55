/- DERIVED. Abstract states, what it is that a concrete state stands for one, and what becomes of that when memory is made or written. No program here. -/
import Derived.Test.YtogickapcbibbaaA1
namespace Go.Ab
open Go.RowKit

def upd {β : Type} (f : Nat → β) (a : Nat) (b : β) : Nat → β := fun x => if x = a then b else f x
theorem upd_same {β : Type} (f : Nat → β) (a : Nat) (b : β) : upd f a b a = b := by simp [upd]
theorem upd_ne {β : Type} (f : Nat → β) {a x : Nat} (b : β) (h : x ≠ a) : upd f a b x = f x := by simp [upd, h]

/-- a block: its elements' type, how many cells each has, whether it is frozen, the elements -/
structure Blk where
  e : Nat
  st : Nat
  fz : Bool
  es : List (List Dat)
structure St where
  t : Nat → Dat
  h : Nat → Option Blk
  n : Nat
  nt : Nat
/-- where a call began -/
structure Cx where
  w0 : World
  L0 : Nat → Prop
  D0 : Nat → Prop
  p0 : Pl

/-- one block was changed, others were made -/
structure Chg (w w' : World) (row : Option Nat) : Prop where
  os : w'.os = w.os
  tape : w'.tape = w.tape
  output : w'.output = w.output
  size : w.heap.size ≤ w'.heap.size
  shape : ∀ k, k < w.heap.size → w'.shape? k = w.shape? k
  block : ∀ k, k < w.heap.size → some k ≠ row → w'.heap[k]? = w.heap[k]?
theorem Chg.ext {w w' : World} {row : Option Nat} (h : Chg w w' row) {D : Nat → Prop} (hD : ∀ g, row = some g → ¬ D g) : Ext D w w' :=
  ⟨h.size, h.shape, fun b hb hl => h.block b hl (fun e => hD b e.symm hb)⟩
theorem Chg.of_below {w w' : World} (h : Below w.heap.size w w') : Chg w w' none :=
  ⟨h.os, h.tape, h.output, h.size, fun k hk => shape_of_heap (h.block k hk), fun k hk _ => h.block k hk⟩
theorem Chg.alloc (w : World) (o : Obj) : Chg w (w.alloc o) none :=
  ⟨rfl, rfl, rfl, by simp, fun k hk => shape_of_heap (Below.heap_alloc w o k hk), fun k hk _ => Below.heap_alloc w o k hk⟩
theorem Chg.drew (w : World) : Chg w w.drew none := ⟨rfl, rfl, rfl, Nat.le_refl _, fun _ _ => rfl, fun _ _ _ => rfl⟩
theorem Chg.trans {a b c : World} {row : Option Nat} (h : Chg a b row) (k : Chg b c row) : Chg a c row :=
  ⟨k.os.trans h.os, k.tape.trans h.tape, k.output.trans h.output, Nat.le_trans h.size k.size, fun i hi => (k.shape i (Nat.lt_of_lt_of_le hi h.size)).trans (h.shape i hi),
   fun i hi hne => (k.block i (Nat.lt_of_lt_of_le hi h.size) hne).trans (h.block i hi hne)⟩
theorem Chg.mono {a b : World} (h : Chg a b none) (row : Option Nat) : Chg a b row :=
  ⟨h.os, h.tape, h.output, h.size, h.shape, fun k hk _ => h.block k hk (by simp)⟩

/-- since the call began -/
structure Fr (X : Cx) (w : World) : Prop where
  os : w.os = X.w0.os
  tape : w.tape = X.w0.tape
  output : w.output = X.w0.output
  size : X.w0.heap.size ≤ w.heap.size
  shape : ∀ b, b < X.w0.heap.size → w.shape? b = X.w0.shape? b
  old : ∀ b, b < X.w0.heap.size → ¬ X.L0 b → w.heap[b]? = X.w0.heap[b]?
theorem Fr.chg {X : Cx} {w w' : World} {row : Option Nat} (h : Fr X w) (c : Chg w w' row) (hr : ∀ g, row = some g → X.L0 g ∨ X.w0.heap.size ≤ g) : Fr X w' :=
  ⟨c.os.trans h.os, c.tape.trans h.tape, c.output.trans h.output, Nat.le_trans h.size c.size, fun b hb => (c.shape b (Nat.lt_of_lt_of_le hb h.size)).trans (h.shape b hb),
   fun b hb hl => (c.block b (Nat.lt_of_lt_of_le hb h.size) (fun e => by rcases hr b e.symm with h1 | h1; exact hl h1; omega)).trans (h.old b hb hl)⟩

/-- the block stands in memory -/
def Lies (φ : Pl) (D : Nat → Prop) (w : World) (g : Nat) (B : Blk) : Prop :=
  ∃ arr : Array Value, w.heap[g]? = some (.cells arr B.e (0, 0)) ∧ B.es.length * B.st ≤ arr.size ∧
    ∀ (k : Nat) e, B.es[k]? = some e → e.length = B.st ∧ ∀ (j : Nat) d, e[j]? = some d → ∃ v, arr[k * B.st + j]? = some v ∧ v.oneCell' = true ∧ RV φ D w v d
theorem Lies.lt {φ : Pl} {D : Nat → Prop} {w : World} {g : Nat} {B : Blk} (h : Lies φ D w g B) : g < w.heap.size := by
  obtain ⟨arr, h, _⟩ := h
  rcases Nat.lt_or_ge g w.heap.size with h1 | h1
  · exact h1
  · rw [Array.getElem?_eq_none h1] at h; cases h
theorem Lies.keep {φ φ' : Pl} {D D' : Nat → Prop} {w w' : World} {g : Nat} {B : Blk} (h : Lies φ D w g B) (hφ : PlLe φ φ') (hD : ∀ b, D b → b < w.heap.size → D' b) (hk : Ext D w w') (hg : w'.heap[g]? = w.heap[g]?) : Lies φ' D' w' g B := by
  obtain ⟨arr, h1, h2, h3⟩ := h
  refine ⟨arr, by rw [hg, h1], h2, fun k e he => ⟨(h3 k e he).1, fun j d hd => ?_⟩⟩
  obtain ⟨v, hv, h1, hr⟩ := (h3 k e he).2 j d hd
  exact ⟨v, hv, h1, RV.keep hφ hD hk hr⟩

structure HS (X : Cx) (S : Nat → Prop) (h : Nat → Option Blk) (n : Nat) (w : World) (φ : Pl) (D : Nat → Prop) : Prop where
  live : ∀ i B, h i = some B → (φ i = some none ∧ B.es = []) ∨ ∃ g, φ i = some (some g) ∧ Lies φ D w g B ∧ (B.fz = true → D g) ∧ (B.fz = false → ¬ D g ∧ (X.L0 g ∨ X.w0.heap.size ≤ g))
  inj : ∀ i j B C g, h i = some B → h j = some C → φ i = some (some g) → φ j = some (some g) → B.fz = false → i = j
  fresh : ∀ i, n ≤ i → ¬ S (i - n) → φ i = none
  Dlt : ∀ b, D b → b < w.heap.size
  Dsub : ∀ b, D b → X.D0 b ∨ X.L0 b ∨ X.w0.heap.size ≤ b
  Dsup : ∀ b, X.D0 b → D b
  psup : PlLe X.p0 φ
  fr : Fr X w
  fin : ∃ N, ∀ k, N ≤ k → φ k = none

theorem fin_upd {φ : Pl} {i : Nat} {x : Option (Option Nat)} (h : ∃ N, ∀ k, N ≤ k → φ k = none) : ∃ N, ∀ k, N ≤ k → upd φ i x k = none := by
  obtain ⟨N, hN⟩ := h
  exact ⟨N + i + 1, fun k hk => by rw [upd_ne _ _ (by omega)]; exact hN k (by omega)⟩

section
variable {X : Cx} {S S' : Nat → Prop} {h : Nat → Option Blk} {n : Nat} {w w' : World} {φ : Pl} {D : Nat → Prop}

theorem HS.dom (H : HS X S h n w φ D) {i : Nat} {B : Blk} (hi : h i = some B) : φ i ≠ none := by
  rcases H.live i B hi with ⟨h1, _⟩ | ⟨g, h1, _⟩ <;> simp [h1]

/-- only new memory, or nothing at all -/
theorem HS.grow (H : HS X S h n w φ D) (c : Chg w w' none) : HS X S h n w' φ D where
  live := fun i B hi => by
    rcases H.live i B hi with h1 | ⟨g, h1, h2, h3, h4⟩
    · exact .inl h1
    · exact .inr ⟨g, h1, h2.keep (PlLe.refl _) (fun _ h _ => h) (c.ext (fun _ h => by cases h)) (c.block g h2.lt (by simp)), h3, h4⟩
  inj := H.inj
  fresh := H.fresh
  Dlt := fun b hb => Nat.lt_of_lt_of_le (H.Dlt b hb) c.size
  Dsub := H.Dsub
  Dsup := H.Dsup
  psup := H.psup
  fr := H.fr.chg c (fun _ h => by cases h)
  fin := H.fin

theorem HS.drop (H : HS X S h n w φ D) (i : Nat) : HS X S (upd h i none) n w φ D where
  live := fun j B hj => by
    by_cases e : j = i
    · subst e; rw [upd_same] at hj; cases hj
    · rw [upd_ne _ _ e] at hj; exact H.live j B hj
  inj := fun j k B C g hj hk => by
    by_cases e : j = i
    · subst e; rw [upd_same] at hj; cases hj
    · by_cases e' : k = i
      · subst e'; rw [upd_same] at hk; cases hk
      · rw [upd_ne _ _ e] at hj; rw [upd_ne _ _ e'] at hk; exact H.inj j k B C g hj hk
  fresh := H.fresh
  Dlt := H.Dlt
  Dsub := H.Dsub
  Dsup := H.Dsup
  psup := H.psup
  fr := H.fr
  fin := H.fin

theorem HS.more (H : HS X S h n w φ D) (hS : ∀ j, S j → S' j) : HS X S' h n w φ D :=
  { H with fresh := fun i hi hn => H.fresh i hi (fun hs => hn (hS _ hs)) }

theorem PlLe.upd {φ : Pl} {i : Nat} (hi : φ i = none) (x : Option Nat) : PlLe φ (upd φ i (some x)) := fun j y hy => by
  by_cases e : j = i
  · subst e; rw [hi] at hy; cases hy
  · rw [upd_ne _ _ e]; exact hy

/-- a block more, virtual: no elements, no memory -/
theorem HS.virt (H : HS X S h n w φ D) {i : Nat} (hn : n ≤ i) (hi : ¬ S (i - n)) (hS : ∀ j, S j → S' j) (hS' : S' (i - n)) (e st : Nat) (fz : Bool) :
    HS X S' (upd h i (some ⟨e, st, fz, []⟩)) n w (upd φ i (some none)) D := by
  have hφ := H.fresh i hn hi
  have hle := PlLe.upd (φ := φ) hφ none
  refine { H with live := fun j B hj => ?_, inj := fun j k B C g hj hk pj pk hf => ?_, fresh := fun j hj hs => ?_, psup := H.psup.trans hle, fin := fin_upd H.fin }
  · by_cases e' : j = i
    · subst e'
      rw [upd_same] at hj
      injection hj with hj
      subst hj
      exact .inl ⟨upd_same _ _ _, rfl⟩
    · rw [upd_ne _ _ e'] at hj
      rcases H.live j B hj with ⟨h1, h2⟩ | ⟨g, h1, h2, h3, h4⟩
      · exact .inl ⟨hle _ _ h1, h2⟩
      · exact .inr ⟨g, hle _ _ h1, h2.keep hle (fun _ h _ => h) (Ext.refl _ _) rfl, h3, h4⟩
  · by_cases e' : j = i
    · subst e'; rw [upd_same] at pj; cases pj
    · by_cases e'' : k = i
      · subst e''; rw [upd_same] at pk; cases pk
      · rw [upd_ne _ _ e'] at hj pj; rw [upd_ne _ _ e''] at hk pk; exact H.inj j k B C g hj hk pj pk hf
  · have hne : j ≠ i := fun e' => hs (by rw [e']; exact hS')
    rw [upd_ne _ _ hne]
    exact H.fresh j hj (fun h => hs (hS _ h))

/-- a block more, in new memory (other changes may come with it, of one block that is not frozen and no longer told of) -/
theorem HS.new (H : HS X S h n w φ D) {i g : Nat} {B : Blk} {row : Option Nat} (hn : n ≤ i) (hi : ¬ S (i - n)) (hS : ∀ j, S j → S' j) (hS' : S' (i - n)) (c : Chg w w' row)
    (hrow : ∀ r, row = some r → (¬ D r ∧ (X.L0 r ∨ X.w0.heap.size ≤ r)) ∧ ∀ j C, h j = some C → φ j ≠ some (some r))
    (hg : w.heap.size ≤ g ∨ row = some g) (hB : Lies (upd φ i (some (some g))) D w' g B) (hfz : B.fz = false) :
    HS X S' (upd h i (some B)) n w' (upd φ i (some (some g))) D := by
  have hφ := H.fresh i hn hi
  have hle := PlLe.upd (φ := φ) hφ (some g)
  have hext : Ext D w w' := c.ext (fun r hr => (hrow r hr).1.1)
  have hnot : ∀ j C, h j = some C → φ j ≠ some (some g) := fun j C hj hp => by
    rcases hg with hg | hg
    · rcases H.live j C hj with ⟨h1, _⟩ | ⟨g', h1, h2, _⟩
      · rw [hp] at h1; cases h1
      · rw [hp] at h1; injection h1 with h1; injection h1 with h1; subst h1; have := h2.lt; omega
    · exact (hrow g hg).2 j C hj hp
  have hgD : ¬ D g ∧ (X.L0 g ∨ X.w0.heap.size ≤ g) := by
    rcases hg with hg | hg
    · exact ⟨fun hd => by have := H.Dlt g hd; omega, .inr (Nat.le_trans H.fr.size hg)⟩
    · exact (hrow g hg).1
  refine ⟨fun j C hj => ?_, fun j k C E g' hj hk pj pk hf => ?_, fun j hj hs => ?_, fun b hb => Nat.lt_of_lt_of_le (H.Dlt b hb) c.size, H.Dsub, H.Dsup, H.psup.trans hle, H.fr.chg c (fun r hr => (hrow r hr).1.2), fin_upd H.fin⟩
  · by_cases e' : j = i
    · subst e'
      rw [upd_same] at hj
      injection hj with hj
      subst hj
      exact .inr ⟨g, upd_same _ _ _, hB, (fun h => by rw [hfz] at h; cases h), fun _ => hgD⟩
    · rw [upd_ne _ _ e'] at hj
      rcases H.live j C hj with ⟨h1, h2⟩ | ⟨g', h1, h2, h3, h4⟩
      · exact .inl ⟨hle _ _ h1, h2⟩
      · refine .inr ⟨g', hle _ _ h1, h2.keep hle (fun _ h _ => h) hext (c.block g' h2.lt fun e => ?_), h3, h4⟩
        exact (hrow g' e.symm).2 j C hj h1
  · by_cases e' : j = i
    · by_cases e'' : k = i
      · rw [e', e'']
      · subst e'
        rw [upd_same] at pj
        injection pj with pj; injection pj with pj; subst pj
        rw [upd_ne _ _ e''] at hk pk
        exact absurd pk (hnot k E hk)
    · by_cases e'' : k = i
      · subst e''
        rw [upd_same] at pk
        injection pk with pk; injection pk with pk; subst pk
        rw [upd_ne _ _ e'] at hj pj
        exact absurd pj (hnot j C hj)
      · rw [upd_ne _ _ e'] at hj pj; rw [upd_ne _ _ e''] at hk pk; exact H.inj j k C E g' hj hk pj pk hf
  · have hne : j ≠ i := fun e' => hs (by rw [e']; exact hS')
    rw [upd_ne _ _ hne]
    exact H.fresh j hj (fun h => hs (hS _ h))

/-- a block is written -/
theorem HS.write (H : HS X S h n w φ D) {i g : Nat} {B B' : Blk} (hi : h i = some B) (hp : φ i = some (some g)) (hf : B.fz = false) (c : Chg w w' (some g)) (hB : Lies φ D w' g B') (hf' : B'.fz = false) :
    HS X S (upd h i (some B')) n w' φ D := by
  have hg : ¬ D g ∧ (X.L0 g ∨ X.w0.heap.size ≤ g) := by
    rcases H.live i B hi with ⟨h1, _⟩ | ⟨g', h1, _, _, h4⟩
    · rw [hp] at h1; cases h1
    · rw [hp] at h1; injection h1 with h1; injection h1 with h1; subst h1; exact h4 hf
  have hext : Ext D w w' := c.ext (fun r hr => by injection hr with hr; subst hr; exact hg.1)
  have old : ∀ j C, upd h i (some B') j = some C → ∃ C', h j = some C' ∧ C'.fz = C.fz := fun j C hj => by
    by_cases e : j = i
    · subst e; rw [upd_same] at hj; injection hj with hj; subst hj; exact ⟨B, hi, by rw [hf, hf']⟩
    · rw [upd_ne _ _ e] at hj; exact ⟨C, hj, rfl⟩
  refine ⟨fun j C hj => ?_, fun j k C E g' hj hk pj pk hfz => ?_, H.fresh, fun b hb => Nat.lt_of_lt_of_le (H.Dlt b hb) c.size, H.Dsub, H.Dsup, H.psup, H.fr.chg c (fun r hr => by injection hr with hr; subst hr; exact hg.2), H.fin⟩
  · by_cases e : j = i
    · subst e
      rw [upd_same] at hj
      injection hj with hj
      subst hj
      exact .inr ⟨g, hp, hB, (fun h => by rw [hf'] at h; cases h), fun _ => hg⟩
    · rw [upd_ne _ _ e] at hj
      rcases H.live j C hj with h1 | ⟨g', h1, h2, h3, h4⟩
      · exact .inl h1
      · refine .inr ⟨g', h1, h2.keep (PlLe.refl _) (fun _ h _ => h) hext (c.block g' h2.lt fun e' => ?_), h3, h4⟩
        injection e' with e'
        subst e'
        exact e (H.inj i j B C g' hi hj hp h1 hf).symm
  · obtain ⟨C', h1, h2⟩ := old j C hj
    obtain ⟨E', h3, _⟩ := old k E hk
    exact H.inj j k C' E' g' h1 h3 pj pk (by rw [h2]; exact hfz)

/-- a block is frozen -/
theorem HS.freeze (H : HS X S h n w φ D) {i g : Nat} {B : Blk} (hi : h i = some B) (hp : φ i = some (some g)) (hf : B.fz = false) :
    HS X S (upd h i (some { B with fz := true })) n w φ (fun b => D b ∨ b = g) := by
  obtain ⟨hl, hg⟩ : Lies φ D w g B ∧ ¬ D g ∧ (X.L0 g ∨ X.w0.heap.size ≤ g) := by
    rcases H.live i B hi with ⟨h1, _⟩ | ⟨g', h1, h2, _, h4⟩
    · rw [hp] at h1; cases h1
    · rw [hp] at h1; injection h1 with h1; injection h1 with h1; subst h1; exact ⟨h2, h4 hf⟩
  have hlies : ∀ g' C, Lies φ D w g' C → Lies φ (fun b => D b ∨ b = g) w g' C := fun g' C h => h.keep (PlLe.refl _) (fun _ h _ => .inl h) (Ext.refl _ _) rfl
  refine ⟨fun j C hj => ?_, fun j k C E g' hj hk pj pk hfz => ?_, H.fresh, fun b hb => ?_, fun b hb => ?_, fun b hb => .inl (H.Dsup b hb), H.psup, H.fr, H.fin⟩
  · by_cases e : j = i
    · subst e
      rw [upd_same] at hj
      injection hj with hj
      subst hj
      exact .inr ⟨g, hp, hlies g B hl, fun _ => .inr rfl, fun h => by cases h⟩
    · rw [upd_ne _ _ e] at hj
      rcases H.live j C hj with h1 | ⟨g', h1, h2, h3, h4⟩
      · exact .inl h1
      · refine .inr ⟨g', h1, hlies g' C h2, fun h => .inl (h3 h), fun h => ⟨fun hd => ?_, (h4 h).2⟩⟩
        rcases hd with hd | hd
        · exact (h4 h).1 hd
        · subst hd
          exact e (H.inj i j B C g' hi hj hp h1 hf).symm
  · by_cases e : j = i
    · subst e; rw [upd_same] at hj; injection hj with hj; subst hj; cases hfz
    · rw [upd_ne _ _ e] at hj
      by_cases e' : k = i
      · subst e'
        exact (H.inj k j B C g' hi hj pk pj hf).symm
      · rw [upd_ne _ _ e'] at hk
        exact H.inj j k C E g' hj hk pj pk hfz
  · rcases hb with hb | hb
    · exact H.Dlt b hb
    · subst hb; exact hl.lt
  · rcases hb with hb | hb
    · exact H.Dsub b hb
    · subst hb; exact .inr hg.2
/-- a virtual one too -/
theorem HS.freeze_virt (H : HS X S h n w φ D) {i : Nat} {B : Blk} (hi : h i = some B) (hp : φ i = some none) :
    HS X S (upd h i (some { B with fz := true })) n w φ D := by
  refine { H with live := fun j C hj => ?_, inj := fun j k C E g' hj hk pj pk hfz => ?_ }
  · by_cases e : j = i
    · subst e
      rw [upd_same] at hj
      injection hj with hj
      subst hj
      rcases H.live j B hi with h1 | ⟨g, h1, _⟩
      · exact .inl h1
      · rw [hp] at h1; cases h1
    · rw [upd_ne _ _ e] at hj; exact H.live j C hj
  · by_cases e : j = i
    · subst e; rw [upd_same] at hj; injection hj with hj; subst hj; cases hfz
    · by_cases e' : k = i
      · subst e'; rw [hp] at pk; cases pk
      · rw [upd_ne _ _ e] at hj; rw [upd_ne _ _ e'] at hk; exact H.inj j k C E g' hj hk pj pk hfz
end

/-- a concrete state stands for an abstract one -/
structure Sim (X : Cx) (S : Nat → Prop) (σ : St) (a : Act) (w : World) (φ : Pl) (D : Nat → Prop) : Prop where
  nt : a.tmps.size = σ.nt
  df : a.defers = []
  tm : ∀ i, RV φ D w (a.tmps.getD i undef) (σ.t i)
  hs : HS X S σ.h σ.n w φ D
end Go.Ab
