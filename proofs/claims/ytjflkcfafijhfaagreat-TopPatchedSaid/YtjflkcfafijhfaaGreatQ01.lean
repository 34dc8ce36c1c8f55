import Derived.WalkKit
import Derived.WalkSpells
import Derived.WalkLawsBesides
import Derived.Lib.Hide
import Derived.Deep.MidRow
import Derived.Deep.AppendLies
import Derived.Maps.AppendAt
import Derived.Deep.RegionHeld3
import Derived.Deep.WholeRow
import Derived.Deep.QuietTactic
import Derived.BigQuiet
import Derived.Deep.Draws
set_option linter.unusedSectionVars false
/- DERIVED. My own small words for memory: what a value reads as, what is kept, what is owned. No program here. -/
namespace Go.Kx
open Go.RowKit
structure Keeps (w w' : World) (D : Nat → Prop) : Prop where
 size : w.heap.size ≤ w'.heap.size
 block : ∀ b, D b → b < w.heap.size → w'.heap[b]? = w.heap[b]?
def T : Nat → Prop := fun _ => True
theorem Keeps.refl (w : World) (D : Nat → Prop) : Keeps w w D := ⟨Nat.le_refl _, fun _ _ _ => rfl⟩
theorem Keeps.trans {a b c : World} {D : Nat → Prop} (h : Keeps a b D) (k : Keeps b c D) : Keeps a c D :=
 ⟨Nat.le_trans h.size k.size, fun i hd hi => (k.block i hd (Nat.lt_of_lt_of_le hi h.size)).trans (h.block i hd hi)⟩
theorem Keeps.mono {w w' : World} {D D' : Nat → Prop} (h : Keeps w w' D) (hd : ∀ b, D' b → b < w.heap.size → D b) : Keeps w w' D' :=
 ⟨h.size, fun b hb hl => h.block b (hd b hb hl) hl⟩
theorem Keeps.of_below {w w' : World} {D : Nat → Prop} (h : Below w.heap.size w w') : Keeps w w' D :=
 ⟨h.size, fun b _ hl => h.block b hl⟩
theorem Keeps.of_belowB {B : Nat} {w w' : World} (h : Below B w w') : Keeps w w' (fun b => b < B) :=
 ⟨h.size, fun b hb _ => h.block b hb⟩
theorem Keeps.of_grown {w w' : World} {row : Option Nat} (h : w.grownBy w' row) : Keeps w w' (fun b => some b ≠ row) :=
 ⟨h.size, fun b hd hl => h.block b hl hd⟩
theorem Keeps.drew (w : World) (D : Nat → Prop) : Keeps w w.drew D := ⟨Nat.le_refl _, fun _ _ _ => rfl⟩
theorem Keeps.alloc (w : World) (o : Obj) (D : Nat → Prop) : Keeps w (w.alloc o) D :=
 ⟨by simp, fun b _ hl => Below.heap_alloc w o b hl⟩
theorem Keeps.cell {w w' : World} {D : Nat → Prop} (h : Keeps w w' D) {b i : Nat} {v : Value} (hd : D b) (hc : w.cell? ⟨b, i, none⟩ = some v) : w'.cell? ⟨b, i, none⟩ = some v := by
 have hl : b < w.heap.size := World.block_lt_of_cell? w _ hc
 rw [← hc]
 exact World.cell?_of_block (a := ⟨b, i, none⟩) (h.block b hd hl)
theorem Keeps.range {w w' : World} {D : Nat → Prop} (h : Keeps w w' D) {b o : Nat} {cs : List Value} (hd : D b) (hc : w.rangeAt b o cs) : w'.rangeAt b o cs :=
 fun j v hv => h.cell hd (hc j v hv)
def Blk (w : World) (g : Nat) (t : TypeId) (cs : Array Value) : Prop := w.heap[g]? = some (.cells cs t (0, 0))
theorem Blk.lt {w : World} {g : Nat} {t : TypeId} {cs : Array Value} (h : Blk w g t cs) : g < w.heap.size := by
 rcases Nat.lt_or_ge g w.heap.size with h1 | h1
 ·exact h1
 ·unfold Blk at h; rw [Array.getElem?_eq_none h1] at h; cases h
theorem Blk.cell {w : World} {g : Nat} {t : TypeId} {cs : Array Value} (h : Blk w g t cs) {i : Nat} {v : Value} (hv : cs[i]? = some v) : w.cell? ⟨g, i, none⟩ = some v := by
 rw [cell_of_row w g i cs t (0, 0) h, hv]
theorem Blk.free {w : World} {g : Nat} {t : TypeId} {cs : Array Value} (h : Blk w g t cs) (i : Nat) : w.frozen? ⟨g, i, none⟩ = false := by
 unfold Blk at h; simp [World.frozen?, h]
theorem Blk.new (w : World) (t : TypeId) (cs : Array Value) : Blk (w.alloc (.cells cs t)) w.heap.size t cs := heap_alloc_new w _
theorem Blk.keep {w w' : World} {g : Nat} {t : TypeId} {cs : Array Value} {D : Nat → Prop} (h : Blk w g t cs) (hk : Keeps w w' D) (hd : D g) : Blk w' g t cs := (hk.block g hd h.lt).trans h
theorem Blk.drew {w : World} {g : Nat} {t : TypeId} {cs : Array Value} (h : Blk w g t cs) : Blk w.drew g t cs := h
theorem Blk.put {w : World} {g : Nat} {t : TypeId} {cs : Array Value} (h : Blk w g t cs) (i : Nat) (u : Value) : Blk (w.setCell ⟨g, i, none⟩ u) g t (cs.setIfInBounds i u) := by
 unfold Blk at h ⊢
 simp [World.setCell, Array.getElem?_modify, h]
theorem Keeps.put (w : World) (g i : Nat) (u : Value) : Keeps w (w.setCell ⟨g, i, none⟩ u) (fun b => b ≠ g) :=
 ⟨by simp, fun b hb _ => Below.heap_setCell w ⟨g, i, none⟩ u b hb⟩
theorem Blk.at {w : World} {g : Nat} {t : TypeId} {cs : Array Value} (h : Blk w g t cs) {i : Nat} (hi : i < cs.size) : ∃ v, w.cell? ⟨g, i, none⟩ = some v := ⟨cs[i], h.cell (by simp [hi])⟩
structure Rep (α : Type) where
 size : Nat
 rd : World → (Nat → Prop) → List Value → α → Prop
 len : ∀ {w D cs x}, rd w D cs x → cs.length = size
 one : ∀ {w D cs x}, rd w D cs x → ∀ v ∈ cs, v.oneCell' = true
 keep : ∀ {w w' D cs x}, Keeps w w' D → rd w D cs x → rd w' D cs x
 more : ∀ {w D D' cs x}, (∀ b, D b → b < w.heap.size → D' b) → rd w D cs x → rd w D' cs x
theorem Rep.widen {α : Type} {R : Rep α} {w : World} {D : Nat → Prop} {cs : List Value} {x : α} (h : R.rd w D cs x) : R.rd w T cs x := R.more (fun _ _ _ => trivial) h
theorem Rep.below {α : Type} {R : Rep α} {w w' : World} {D : Nat → Prop} {cs : List Value} {x : α} (h : R.rd w D cs x) (hb : Below w.heap.size w w') : R.rd w' D cs x := R.keep (Keeps.of_below hb) h
def Rep.int (k : IntKind) : Rep Int where
 size := 1
 rd _ _ cs x := cs = [.int k x] ∧ (Lit.int k x).wf = true
 len h := by rw [h.1]; rfl
 one h := by rw [h.1]; intro v hv; simp at hv; subst hv; rfl
 keep _ h := h
 more _ h := h
def Rep.nat (k : IntKind) (bound : Nat) : Rep Nat where
 size := 1
 rd _ _ cs x := cs = [.int k (x : Int)] ∧ x < bound
 len h := by rw [h.1]; rfl
 one h := by rw [h.1]; intro v hv; simp at hv; subst hv; rfl
 keep _ h := h
 more _ h := h
abbrev Rep.u8 : Rep Nat := Rep.nat .u8 256
def Rep.bool : Rep Bool where
 size := 1
 rd _ _ cs x := cs = [.bool x]
 len h := by rw [h]; rfl
 one h := by rw [h]; intro v hv; simp at hv; subst hv; rfl
 keep _ h := h
 more _ h := h
def Rep.pair {α β : Type} (R : Rep α) (S : Rep β) : Rep (α × β) where
 size := R.size + S.size
 rd w D cs x := ∃ c1 c2, cs = c1 ++ c2 ∧ R.rd w D c1 x.1 ∧ S.rd w D c2 x.2
 len := by rintro w D cs x ⟨c1, c2, rfl, h1, h2⟩; rw [List.length_append, R.len h1, S.len h2]
 one := by
  rintro w D cs x ⟨c1, c2, rfl, h1, h2⟩ v hv
  rcases List.mem_append.1 hv with h | h
  ·exact R.one h1 v h
  ·exact S.one h2 v h
 keep := by rintro w w' D cs x hk ⟨c1, c2, rfl, h1, h2⟩; exact ⟨c1, c2, rfl, R.keep hk h1, S.keep hk h2⟩
 more := by rintro w D D' cs x hk ⟨c1, c2, rfl, h1, h2⟩; exact ⟨c1, c2, rfl, R.more hk h1, S.more hk h2⟩
def Rep.map {α β : Type} (R : Rep α) (f : β → α) : Rep β where
 size := R.size
 rd w D cs x := R.rd w D cs (f x)
 len h := R.len h
 one h := R.one h
 keep hk h := R.keep hk h
 more hk h := R.more hk h
def Rep.slice {α : Type} (R : Rep α) : Rep (List α) where
 size := 1
 rd w D cs l := ∃ A c, cs = [.slice A l.length c] ∧ l.length ≤ c ∧ c ≤ 9223372036854775807 ∧
  ∀ (i : Nat) (x : α), l[i]? = some x → ∃ b o es, A = some ⟨b, o, none⟩ ∧ D b ∧ b < w.heap.size ∧ w.rangeAt b (o + i * R.size) es ∧ R.rd w D es x
 len := by rintro w D cs x ⟨A, c, rfl, _⟩; rfl
 one := by rintro w D cs x ⟨A, c, rfl, _⟩ v hv; simp at hv; subst hv; rfl
 keep := by
  rintro w w' D cs x hk ⟨A, c, rfl, h1, h2, h3⟩
  refine ⟨A, c, rfl, h1, h2, fun i x hx => ?_⟩
  obtain ⟨b, o, es, h4, h5, h6, h7, h8⟩ := h3 i x hx
  exact ⟨b, o, es, h4, h5, Nat.lt_of_lt_of_le h6 hk.size, hk.range h5 h7, R.keep hk h8⟩
 more := by
  rintro w D D' cs x hk ⟨A, c, rfl, h1, h2, h3⟩
  refine ⟨A, c, rfl, h1, h2, fun i x hx => ?_⟩
  obtain ⟨b, o, es, h4, h5, h6, h7, h8⟩ := h3 i x hx
  exact ⟨b, o, es, h4, hk b h5 h6, h6, h7, R.more hk h8⟩
theorem Rep.slice_nil {α : Type} (R : Rep α) (w : World) (D : Nat → Prop) : (Rep.slice R).rd w D [.slice none 0 0] [] :=
 ⟨none, 0, rfl, Nat.le_refl _, by decide, fun i x hx => by simp at hx⟩
theorem Rep.slice_open {α : Type} {R : Rep α} {w : World} {D : Nat → Prop} {v : Value} {l : List α} (h : (Rep.slice R).rd w D [v] l) :
  ∃ A c, v = .slice A l.length c ∧ l.length ≤ c ∧ c ≤ 9223372036854775807 ∧ (Rep.slice R).rd w D [.slice A l.length c] l := by
 obtain ⟨A, c, hv, h1, h2, h3⟩ := h
 have hv' : v = .slice A l.length c := by simpa using hv
 exact ⟨A, c, hv', h1, h2, A, c, rfl, h1, h2, h3⟩
theorem Rep.slice_at {α : Type} {R : Rep α} {w : World} {D : Nat → Prop} {A : Option Addr} {n c : Nat} {l : List α} (h : (Rep.slice R).rd w D [.slice A n c] l) {i : Nat} {x : α} (hx : l[i]? = some x) :
  ∃ b o es, A = some ⟨b, o, none⟩ ∧ D b ∧ b < w.heap.size ∧ w.rangeAt b (o + i * R.size) es ∧ R.rd w D es x := by
 obtain ⟨A', c', hv, h1, h2, h3⟩ := h
 simp at hv
 obtain ⟨rfl, _, rfl⟩ := hv
 exact h3 i x hx
theorem Rep.slice_at1 {α : Type} {R : Rep α} (hR : R.size = 1) {w : World} {D : Nat → Prop} {A : Option Addr} {n c : Nat} {l : List α} (h : (Rep.slice R).rd w D [.slice A n c] l) {i : Nat} {x : α} (hx : l[i]? = some x) :
  ∃ b o u, A = some ⟨b, o, none⟩ ∧ D b ∧ w.cell? ⟨b, o + i, none⟩ = some u ∧ R.rd w D [u] x := by
 obtain ⟨b, o, es, h1, h2, h3, h4, h5⟩ := Rep.slice_at h hx
 have hl := R.len h5
 rw [hR] at hl h4
 match es, hl with
 | [u], _ =>
  have := h4 0 u rfl
  rw [Nat.mul_one, Nat.add_zero] at this
  exact ⟨b, o, u, h1, h2, this, h5⟩
theorem Rep.slice_u8 {w : World} {D : Nat → Prop} {A : Option Addr} {n c : Nat} {l : List Nat} (h : (Rep.slice Rep.u8).rd w D [.slice A n c] l) {i : Nat} {x : Nat} (hx : l[i]? = some x) :
  ∃ b o, A = some ⟨b, o, none⟩ ∧ w.cell? ⟨b, o + i, none⟩ = some (.int .u8 (x : Int)) ∧ x < 256 := by
 obtain ⟨b, o, u, h1, _, h3, h4⟩ := Rep.slice_at1 (R := Rep.u8) rfl h hx
 obtain ⟨h5, h6⟩ := h4
 simp at h5
 subst h5
 exact ⟨b, o, h1, h3, h6⟩
theorem Rep.slice_all {α : Type} {R : Rep α} {p : α → Prop} (hp : ∀ {w D es x}, R.rd w D es x → p x) {w : World} {D : Nat → Prop} {cs : List Value} {l : List α} (h : (Rep.slice R).rd w D cs l) : ∀ x ∈ l, p x := by
 obtain ⟨A, c, rfl, h1, h2, h3⟩ := h
 intro x hx
 obtain ⟨i, hi, rfl⟩ := List.mem_iff_getElem.1 hx
 obtain ⟨b, o, es, _, _, _, _, h8⟩ := h3 i l[i] (by simp)
 exact hp h8
theorem Rep.slice_u8_all {w : World} {D : Nat → Prop} {cs : List Value} {l : List Nat} (h : (Rep.slice Rep.u8).rd w D cs l) : ∀ x ∈ l, x < 256 := Rep.slice_all (R := Rep.u8) (fun h => h.2) h
theorem Rep.slice_drop {α : Type} {R : Rep α} {w : World} {D : Nat → Prop} {A : Option Addr} {n c : Nat} {l : List α} (h : (Rep.slice R).rd w D [.slice A n c] l) {k : Nat} (hk : k ≤ l.length) :
  (Rep.slice R).rd w D [.slice (if c = k then A else A.map (·.add (k * R.size))) (l.length - k) (c - k)] (l.drop k) := by
 obtain ⟨A', c', hv, h1, h2, h3⟩ := h
 simp at hv
 obtain ⟨rfl, _, rfl⟩ := hv
 refine ⟨if c = k then A else A.map (·.add (k * R.size)), c - k, by simp, by simp; omega, by omega, fun i x hx => ?_⟩
 rw [List.getElem?_drop] at hx
 have hlt : k + i < l.length := (List.getElem?_eq_some_iff.1 hx).1
 obtain ⟨b, o, es, h4, h5, h6, h7, h8⟩ := h3 (k + i) x hx
 subst h4
 refine ⟨b, o + k * R.size, es, ?_, h5, h6, ?_, h8⟩
 ·rw [if_neg (by omega)]; simp [Addr.add_mid]
 ·have : o + k * R.size + i * R.size = o + (k + i) * R.size := by rw [Nat.add_mul]; omega
  rw [this]; exact h7
theorem Rep.slice_take {α : Type} {R : Rep α} {w : World} {D : Nat → Prop} {A : Option Addr} {n c : Nat} {l : List α} (h : (Rep.slice R).rd w D [.slice A n c] l) {k : Nat} (hk : k ≤ l.length) :
  (Rep.slice R).rd w D [.slice A k c] (l.take k) := by
 obtain ⟨A', c', hv, h1, h2, h3⟩ := h
 simp at hv
 obtain ⟨rfl, _, rfl⟩ := hv
 refine ⟨A, c, by simp [Nat.min_eq_left hk], by simp; omega, h2, fun i x hx => ?_⟩
 rw [List.getElem?_take] at hx
 split at hx
 ·exact h3 i x hx
 ·cases hx
def Own {α : Type} (w : World) (base : Nat) (e : TypeId) (R : Rep α) (v : Value) (l : List α) : Prop :=
 ∃ ess : List (List Value), w.ownsRow base e R.size v l.length ess.flatten ∧ ess.length = l.length ∧
  ∀ (i : Nat) es x, ess[i]? = some es → l[i]? = some x → R.rd w (fun b => some b ≠ v.ownBlock) es x
theorem Own.nil {α : Type} (w : World) (base : Nat) (e : TypeId) (R : Rep α) : Own w base e R (.slice none 0 0) [] :=
 ⟨[], ⟨by simp, .inl ⟨rfl, rfl⟩⟩, rfl, fun i es x h => by simp at h⟩
theorem flatten_range {n : Nat} : ∀ (ess : List (List Value)) (_ : ∀ es ∈ ess, es.length = n) (i : Nat) (es : List Value) (_ : ess[i]? = some es) (j : Nat) (v : Value) (_ : es[j]? = some v), ess.flatten[i * n + j]? = some v
 | [], _, _, _, h, _, _, _ => by simp at h
 | e :: ess, hl, 0, es, h, j, v, hv => by
  simp at h; subst h
  have : j < e.length := (List.getElem?_eq_some_iff.1 hv).1
  simp [List.getElem?_append_left this, hv]
 | e :: ess, hl, i + 1, es, h, j, v, hv => by
  have he : e.length = n := hl e (by simp)
  have := flatten_range ess (fun es hes => hl es (by simp [hes])) i es (by simpa using h) j v hv
  rw [List.flatten_cons, List.getElem?_append_right (by rw [he, Nat.succ_mul]; omega), he]
  rw [← this]; congr 1; rw [Nat.succ_mul]; omega
theorem Own.lens {α : Type} {w : World} {R : Rep α} {v : Value} {l : List α} {ess : List (List Value)} (hl : ess.length = l.length)
  (h : ∀ (i : Nat) es x, ess[i]? = some es → l[i]? = some x → R.rd w (fun b => some b ≠ v.ownBlock) es x) : ∀ es ∈ ess, es.length = R.size := by
 intro es hes
 obtain ⟨i, hi, rfl⟩ := List.mem_iff_getElem.1 hes
 exact R.len (h i ess[i] (l[i]'(hl ▸ hi)) (by simp) (by simp))
theorem Own.rd {α : Type} {w : World} {base : Nat} {e : TypeId} {R : Rep α} {v : Value} {l : List α} (h : Own w base e R v l) : (Rep.slice R).rd w T [v] l := by
 obtain ⟨ess, ⟨hx, hown⟩, hlen, hrd⟩ := h
 have hsz := Own.lens hlen hrd
 rcases hown with ⟨rfl, h0⟩ | ⟨g, cap, cur, rfl, hg, hh, hn, hc, hcs, ht⟩
 ·have : l = [] := List.eq_nil_of_length_eq_zero h0
  subst this
  exact Rep.slice_nil R w T
 ·refine ⟨some ⟨g, 0, none⟩, cap, by simp, hn, hc, fun i x hx => ?_⟩
  have hi : i < ess.length := by rw [hlen]; exact (List.getElem?_eq_some_iff.1 hx).1
  refine ⟨g, 0, ess[i], rfl, trivial, ?_, fun j v hv => ?_, R.more (fun _ _ _ => trivial) (hrd i ess[i] x (by simp) hx)⟩
  ·rcases Nat.lt_or_ge g w.heap.size with h | h
   ·exact h
   ·rw [Array.getElem?_eq_none h] at hh; cases hh
  ·have hf := flatten_range ess hsz i ess[i] (by simp) j v hv
   rw [← ht, List.getElem?_take] at hf
   split at hf
   ·rw [cell_of_row w g _ cur e (0, 0) hh, Nat.zero_add, ← hf]; simp
   ·cases hf
theorem Own.keep {α : Type} {w w' : World} {base : Nat} {e : TypeId} {R : Rep α} {v : Value} {l : List α} (h : Own w base e R v l) (hk : Keeps w w' T) : Own w' base e R v l := by
 obtain ⟨ess, ⟨hx, hown⟩, hlen, hrd⟩ := h
 refine ⟨ess, ⟨hx, ?_⟩, hlen, fun i es x h1 h2 => R.keep (hk.mono (fun _ _ _ => trivial)) (hrd i es x h1 h2)⟩
 rcases hown with h | ⟨g, cap, cur, rfl, hg, hh, hn, hc, hcs, ht⟩
 ·exact .inl h
 ·refine .inr ⟨g, cap, cur, rfl, hg, ?_, hn, hc, hcs, ht⟩
  rw [hk.block g trivial ?_, hh]
  rcases Nat.lt_or_ge g w.heap.size with h | h
  ·exact h
  ·rw [Array.getElem?_eq_none h] at hh; cases hh
theorem Own.below {α : Type} {w w' : World} {base : Nat} {e : TypeId} {R : Rep α} {v : Value} {l : List α} (h : Own w base e R v l) (hk : Below w.heap.size w w') : Own w' base e R v l := h.keep (Keeps.of_below hk)
theorem Own.drew {α : Type} {w : World} {base : Nat} {e : TypeId} {R : Rep α} {v : Value} {l : List α} (h : Own w base e R v l) : Own w.drew base e R v l := h.keep (Keeps.drew w T)
theorem Own.alloc {α : Type} {w : World} {base : Nat} {e : TypeId} {R : Rep α} {v : Value} {l : List α} (h : Own w base e R v l) (o : Obj) : Own (w.alloc o) base e R v l := h.keep (Keeps.alloc w o T)
theorem Own.block {α : Type} {w : World} {base : Nat} {e : TypeId} {R : Rep α} {v : Value} {l : List α} (h : Own w base e R v l) {g : Nat} (hg : v.ownBlock = some g) : base ≤ g ∧ g < w.heap.size := by
 obtain ⟨ess, ⟨hx, hown⟩, hlen, hrd⟩ := h
 rcases hown with ⟨rfl, h⟩ | ⟨g', cap, cur, rfl, hb, hh, hn, hc, hcs, ht⟩
 ·simp [Value.ownBlock] at hg
 ·simp [Value.ownBlock] at hg
  subst hg
  refine ⟨hb, ?_⟩
  rcases Nat.lt_or_ge g' w.heap.size with h | h
  ·exact h
  ·rw [Array.getElem?_eq_none h] at hh; cases hh
theorem Own.shape {α : Type} {w : World} {base : Nat} {e : TypeId} {R : Rep α} {v : Value} {l : List α} (h : Own w base e R v l) : ∃ A c, v = .slice A l.length c ∧ l.length ≤ c ∧ c ≤ 9223372036854775807 := by
 obtain ⟨A, c, hv, h1, h2, _⟩ := h.rd
 exact ⟨A, c, by simpa using hv, h1, h2⟩
theorem ownsRow_ext {w : World} {base : Nat} {e : TypeId} {size : Nat} {v : Value} {n : Nat} {xs ys : List Value} (h : w.ownsRow base e size v n xs) (hxy : xs = ys) : w.ownsRow base e size v n ys := hxy ▸ h
theorem Own.push {α : Type} {w w' : World} {base : Nat} {e : TypeId} {R : Rep α} {v v' : Value} {l : List α} {x : α} {ess : List (List Value)} {es : List Value}
  (hlen : ess.length = l.length) (hrd : ∀ (i : Nat) es x, ess[i]? = some es → l[i]? = some x → R.rd w (fun b => some b ≠ v.ownBlock) es x)
  (hes : R.rd w (fun b => some b ≠ v.ownBlock) es x)
  (hown : w'.ownsRow base e R.size v' (l.length + 1) (ess.flatten ++ es)) (hg : w.grownBy w' v.ownBlock) (hv : v'.ownBlock = v.ownBlock ∨ v'.ownBlock = some w.heap.size) :
  Own w' base e R v' (l ++ [x]) := by
 have hmore : ∀ {es x}, R.rd w (fun b => some b ≠ v.ownBlock) es x → R.rd w' (fun b => some b ≠ v'.ownBlock) es x := by
  intro es x h
  have h1 := R.keep (Keeps.of_grown hg) h
  rcases hv with hv | hv
  ·rw [hv]; exact h1
  ·have h2 : R.rd w (fun b => some b ≠ v.ownBlock ∧ b < w.heap.size) es x := R.more (fun b hb hl => ⟨hb, hl⟩) h
   have h3 := R.keep (w' := w') ((Keeps.of_grown hg).mono (fun b hb _ => hb.1)) h2
   refine R.more (fun b hb _ => ?_) h3
   rw [hv]
   intro heq
   injection heq with heq
   have := hb.2
   omega
 refine ⟨ess ++ [es], ?_, by simp [hlen], fun i es' x' h1 h2 => ?_⟩
 ·have : (l ++ [x]).length = l.length + 1 := by simp
  rw [this]
  exact ownsRow_ext hown (by simp)
 ·rcases Nat.lt_or_ge i ess.length with h | h
  ·rw [List.getElem?_append_left h] at h1
   rw [List.getElem?_append_left (by omega)] at h2
   exact hmore (hrd i es' x' h1 h2)
  ·rw [List.getElem?_append_right h] at h1
   rw [List.getElem?_append_right (by omega)] at h2
   have h0 : i - ess.length = 0 := by
    have := (List.getElem?_eq_some_iff.1 h1).1
    simp at this; omega
   rw [h0] at h1
   rw [show i - l.length = 0 by omega] at h2
   simp at h1 h2
   subst h1; subst h2
   exact hmore hes
structure Elem {α : Type} (P : Program) (t e : TypeId) (R : Rep α) (bytes : Nat) : Prop where
 under : P.underlying t = some (.slice e)
 info : ∃ z, (P.info? e).map (fun i => (i.zero, i.size, i.bytes)) = some (some z, R.size, bytes) ∧ z.cells.size = R.size
 pos : 0 < R.size
 bpos : 0 < bytes
section
variable {P : Program} {α : Type} {R : Rep α} {t e : TypeId} {bytes : Nat} {w : World}
theorem run_push (E : Elem P t e R bytes) (ty : TypeId) {base : Nat} {v : Value} {l : List α} (hown : Own w base e R v l) {ad : Addr} {c : Nat} {es : List Value} {y : α}
  (hnews : ∀ j u, es[j]? = some u → w.cell? (ad.add j) = some u) (hes : R.rd w (fun b => some b ≠ v.ownBlock) es y) (hb : (l.length + 1) * bytes ≤ 140737488355328) (hbase : base ≤ w.heap.size) (H : Nat) (hH : w.heap.size = H) :
  ∃ v' w', (Builtin.append_ #[t, t] ty #[v, .slice (some ad) 1 c]).run P w = .ok v' w' ∧ Own w' base e R v' (l ++ [y]) ∧ Keeps w w' (fun b => some b ≠ v.ownBlock) ∧ Below base w w' ∧
   (v'.ownBlock = v.ownBlock ∨ v'.ownBlock = some H) ∧ v'.ownBlock.isSome = true := by
 obtain ⟨ess, hrow, hlen, hrd⟩ := hown
 obtain ⟨z, hinfo, hz⟩ := E.info
 obtain ⟨i, hi, h1, h2, h3⟩ := info_parts hinfo
 have hbp := E.bpos
 have h63 : l.length + 1 ≤ maxLen := by
  have : l.length + 1 ≤ (l.length + 1) * bytes := Nat.le_mul_of_pos_right _ hbp
  unfold maxLen; omega
 have hbase' : ∀ k, v.ownBlock = some k → base ≤ k := by
  intro k hk
  rcases hrow.2 with ⟨rfl, h⟩ | ⟨g', cap, cur, rfl, hb, _⟩
  ·simp [Value.ownBlock] at hk
  ·simp [Value.ownBlock] at hk; omega
 obtain ⟨g, cap, w', hr, ho, hgr, hwhere, hlt⟩ := run_append_lies (P := P) w t ty base e i z R.size bytes E.under hi h1 h2 h3 hz E.pos v l.length ess.flatten hrow ad 1 c es
  (by rw [R.len hes, Nat.one_mul]) hnews (R.one hes) (by omega) h63 hb hbase H hH
 have hv : (Value.slice (some ⟨g, 0, none⟩) (l.length + 1) cap).ownBlock = v.ownBlock ∨ (Value.slice (some ⟨g, 0, none⟩) (l.length + 1) cap).ownBlock = some w.heap.size := by
  rcases hwhere with h | h
  ·exact .inl (by rw [h]; rfl)
  ·exact .inr (by rw [hH, ← h]; rfl)
 refine ⟨_, w', hr, Own.push hlen hrd hes ho hgr hv, Keeps.of_grown hgr, ⟨hgr.os, hgr.tape, hgr.output, hgr.size, fun k hk => hgr.block k (Nat.lt_of_lt_of_le hk hbase) (fun h => ?_)⟩, by rw [← hH]; exact hv, rfl⟩
 have := hbase' k h.symm
 omega
theorem wp_push (E : Elem P t e R bytes) {o : Oper} {a : Act} {K : Act → World → Prop} {Q : Exit → Act → World → Prop} (s x : Operand)
  (ho : o.op = .call { callee := .builtin .append, args := #[s, x], argTypes := #[t, t] }) {base : Nat} {v : Value} {l : List α} (hown : Own w base e R v l) {ad : Addr} {c : Nat} {es : List Value} {y : α}
  (hs : a.eval s = v) (hx : a.eval x = .slice (some ad) 1 c)
  (hnews : ∀ j u, es[j]? = some u → w.cell? (ad.add j) = some u) (hes : R.rd w (fun b => some b ≠ v.ownBlock) es y) (hb : (l.length + 1) * bytes ≤ 140737488355328) (hbase : base ≤ w.heap.size) (H : Nat) (hH : w.heap.size = H)
  (h : ∀ v' w', Own w' base e R v' (l ++ [y]) → Keeps w w' (fun b => some b ≠ v.ownBlock) → Below base w w' → (v'.ownBlock = v.ownBlock ∨ v'.ownBlock = some H) → v'.ownBlock.isSome = true → K (a.put o.dst v') w') : o.wp P a w K Q := by
 obtain ⟨v', w', hr, h1, h2, h3, h4, h5⟩ := run_push E o.type hown hnews hes hb hbase H hH
 unfold Oper.wp execOp
 simp only [ho, resolve, invoke, builtin, Sem.run_bind, Sem.run_pure, Result.andThen_ok, List.map_toArray, List.map_cons, List.map_nil, hs, hx]
 rw [hr]
 exact h v' w' h1 h2 h3 h4 h5
theorem step_push (E : Elem P t e R bytes) {ops : Array Oper} {E' : Prop} {o : Oper} {a : Act} {K : Act → World → Prop} {Q : Exit → Act → World → Prop} (hgd : Region.wanted o (yielded ops a.tmps) = true) (s x : Operand)
  (ho : o.op = .call { callee := .builtin .append, args := #[s, x], argTypes := #[t, t] }) {base : Nat} {v : Value} {l : List α} (hown : Own w base e R v l) {ad : Addr} {c : Nat} {es : List Value} {y : α}
  (hs : a.eval s = v) (hx : a.eval x = .slice (some ad) 1 c)
  (hnews : ∀ j u, es[j]? = some u → w.cell? (ad.add j) = some u) (hes : R.rd w (fun b => some b ≠ v.ownBlock) es y) (hb : (l.length + 1) * bytes ≤ 140737488355328) (hbase : base ≤ w.heap.size) (H : Nat) (hH : w.heap.size = H)
  (h : ∀ v' w', Own w' base e R v' (l ++ [y]) → Keeps w w' (fun b => some b ≠ v.ownBlock) → Below base w w' → (v'.ownBlock = v.ownBlock ∨ v'.ownBlock = some H) → v'.ownBlock.isSome = true → K (a.put o.dst v') w') :
  if Region.wanted o (yielded ops a.tmps) = true then Oper.wp P o a w K Q else E' := by
 rw [if_pos hgd]
 exact wp_push E s x ho hown hs hx hnews hes hb hbase H hH h
theorem Own.at1 (hR : R.size = 1) {base : Nat} {v : Value} {l : List α} (h : Own w base e R v l) {i : Nat} {x : α} (hi : l[i]? = some x) :
  ∃ g c, v = .slice (some ⟨g, 0, none⟩) l.length c ∧ base ≤ g ∧ g < w.heap.size ∧ (∃ u, w.cell? ⟨g, i, none⟩ = some u ∧ R.rd w (fun b => b ≠ g) [u] x) ∧ w.frozen? ⟨g, i, none⟩ = false ∧
   ∀ u y, R.rd w (fun b => b ≠ g) [u] y → Own (w.setCell ⟨g, i, none⟩ u) base e R v (l.set i y) := by
 obtain ⟨ess, ⟨hx, hown⟩, hlen, hrd⟩ := h
 have hil : i < l.length := (List.getElem?_eq_some_iff.1 hi).1
 rcases hown with ⟨rfl, h0⟩ | ⟨g, cap, cur, rfl, hg, hh, hn, hc, hcs, ht⟩
 ·omega
 ·have hob : ∀ b, (some b ≠ (Value.slice (some ⟨g, 0, none⟩) l.length cap).ownBlock) ↔ b ≠ g := by
   intro b; simp [Value.ownBlock]
  have hrd' : ∀ (i : Nat) es x, ess[i]? = some es → l[i]? = some x → R.rd w (fun b => b ≠ g) es x := fun i es x h1 h2 => R.more (fun b hb _ => (hob b).1 hb) (hrd i es x h1 h2)
  have hlens := Own.lens hlen hrd
  rw [hR] at hlens hcs ht
  have hei : i < ess.length := by omega
  have hl1 : (ess[i]).length = 1 := hlens _ (by simp)
  obtain ⟨u, hu⟩ : ∃ u, ess[i] = [u] := by
   match h : ess[i], hl1 with
   | [u], _ => exact ⟨u, rfl⟩
  have hrdi := hrd' i [u] x (by rw [← hu]; simp) hi
  have hfl := flatten_range ess hlens i ess[i] (by simp) 0 u (by rw [hu]; rfl)
  have hcur : cur[i]? = some u := by
   rw [← ht, List.getElem?_take] at hfl
   split at hfl
   ·simpa using hfl
   ·cases hfl
  have hblk : Blk w g e cur := hh
  refine ⟨g, cap, rfl, hg, hblk.lt, ⟨u, hblk.cell hcur, hrdi⟩, hblk.free i, fun u' y hy => ?_⟩
  refine ⟨ess.set i [u'], ⟨?_, .inr ⟨g, cap, cur.setIfInBounds i u', by simp, hg, hblk.put i u', by simpa using hn, hc, by simpa [hR] using hcs, ?_⟩⟩, by simpa using hlen, ?_⟩
  ·have : ∀ (L : List (List Value)) (_ : ∀ es ∈ L, es.length = 1), L.flatten.length = L.length := by
    intro L hL
    induction L with
    | nil => rfl
    | cons a t ih => rw [List.flatten_cons, List.length_append, ih (fun es hes => hL es (by simp [hes])), hL a (by simp), List.length_cons]; omega
   rw [this, hR, List.length_set, List.length_set]
   ·omega
   ·intro es hes
    rcases List.mem_or_eq_of_mem_set hes with h | h
    ·exact hlens es h
    ·subst h; rfl
  ·have hset : ∀ (L : List (List Value)) (_ : ∀ es ∈ L, es.length = 1) (i : Nat), (L.set i [u']).flatten = L.flatten.set i u' := by
    intro L hL
    induction L with
    | nil => intro i; rfl
    | cons a t ih =>
     intro i
     have ha : a.length = 1 := hL a (by simp)
     match a, ha with
     | [a0], _ =>
      cases i with
      | zero => simp
      | succ i => simp [ih (fun es hes => hL es (by simp [hes])) i]
   rw [hset ess hlens i, ← ht, Array.toList_setIfInBounds, hR, List.length_set]
   apply List.ext_getElem?
   intro j
   simp only [List.getElem?_take, List.getElem?_set, List.length_take]
   by_cases hj : j < l.length * 1
   ·by_cases hij : i = j
    ·subst hij
     have h1 : i < cap := by omega
     simp [hj, hcs, Nat.min_eq_left hn, h1]
    ·simp [hj, hij]
   ·by_cases hij : i = j
    ·omega
    ·simp [hj, hij]
  ·intro j es z h1 h2
   have hk := (Keeps.put w g i u')
   have key : R.rd w (fun b => b ≠ g) es z := by
    rw [List.getElem?_set] at h1 h2
    by_cases hij : i = j
    ·subst hij
     simp [hei] at h1
     simp [hil] at h2
     subst h1; subst h2
     exact hy
    ·simp [hij] at h1 h2
     exact hrd' j es z h1 h2
   exact R.more (fun b hb _ => (by simpa [Value.ownBlock] using hb)) (R.keep hk key)
theorem Own.empty (w : World) (base : Nat) (e : TypeId) (R : Rep α) (hb : base ≤ w.heap.size) : Own (w.alloc (.cells #[] e)) base e R (.slice (some ⟨w.heap.size, 0, none⟩) 0 0) [] := by
 refine ⟨[], ⟨by simp, .inr ⟨w.heap.size, 0, #[], rfl, hb, heap_alloc_new w _, Nat.le_refl _, Nat.zero_le _, by simp, by simp⟩⟩, rfl, fun i es x h => by simp at h⟩
end
end Go.Kx
