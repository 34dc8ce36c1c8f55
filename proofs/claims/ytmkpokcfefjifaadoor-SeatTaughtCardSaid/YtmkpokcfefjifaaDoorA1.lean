import Derived.WalkKit
import Derived.WalkSpells
import Derived.WalkLawsBesides
import Derived.Lib.Hide
import Derived.Deep.MidRow
import Derived.Maps.AppendAt
import Derived.Deep.WholeRow
import Derived.Laws.Strings
import Derived.Laws.Slices
import Derived.Below
import Derived.Laws.BytesArg
import Derived.Great.BuildSlice
import Derived.Laws.MakeOwn
set_option linter.unusedSectionVars false
/- DERIVED. Values without addresses, and how the model's values and memory stand for them. No program here. -/
namespace Go.Ab
open Go.RowKit

inductive Dat where
  | bool (b : Bool)
  | int (k : IntKind) (n : Int)
  | str (s : ByteArray)
  | agg (cs : List Dat)
  | tup (cs : List Dat)
  | nil
  | list (st : Nat) (es : List (List Dat))
  | ref (i off len st : Nat)
  | ptr (i k j st : Nat)
  | rop (cs : List Dat) (j st : Nat)
  | fn (f : Fn) (first cap : List Dat)
  | oth (v : Value)
  | junk
  | gl (n : Nat)
instance : Inhabited Dat := ⟨.oth undef⟩

/-- a value of one cell? -/
def Dat.one : Dat → Bool
  | .agg _ | .tup _ => false
  | .oth v => v.oneCell'
  | _ => true

abbrev Pl := Nat → Option (Option Nat)

/-- a world that came of another one: of the same blocks, and those of D as they were -/
structure Ext (D : Nat → Prop) (w w' : World) : Prop where
  size : w.heap.size ≤ w'.heap.size
  shape : ∀ b, b < w.heap.size → w'.shape? b = w.shape? b
  same : ∀ b, D b → b < w.heap.size → w'.heap[b]? = w.heap[b]?

theorem Ext.refl (D : Nat → Prop) (w : World) : Ext D w w := ⟨Nat.le_refl _, fun _ _ => rfl, fun _ _ _ => rfl⟩
theorem Ext.trans {D : Nat → Prop} {a b c : World} (h : Ext D a b) (k : Ext D b c) : Ext D a c :=
  ⟨Nat.le_trans h.size k.size, fun i hi => (k.shape i (Nat.lt_of_lt_of_le hi h.size)).trans (h.shape i hi),
   fun i hd hi => (k.same i hd (Nat.lt_of_lt_of_le hi h.size)).trans (h.same i hd hi)⟩
theorem Ext.mono {D D' : Nat → Prop} {w w' : World} (h : Ext D w w') (hd : ∀ b, D' b → b < w.heap.size → D b) : Ext D' w w' :=
  ⟨h.size, h.shape, fun b hb hl => h.same b (hd b hb hl) hl⟩
theorem shape_of_heap {w w' : World} {b : Nat} (h : w'.heap[b]? = w.heap[b]?) : w'.shape? b = w.shape? b := by simp [World.shape?, h]
theorem Ext.of_below {D : Nat → Prop} {w w' : World} (h : Below w.heap.size w w') : Ext D w w' :=
  ⟨h.size, fun b hl => shape_of_heap (h.block b hl), fun b _ hl => h.block b hl⟩
theorem Ext.drew (D : Nat → Prop) (w : World) : Ext D w w.drew := ⟨Nat.le_refl _, fun _ _ => rfl, fun _ _ _ => rfl⟩
theorem Ext.alloc (D : Nat → Prop) (w : World) (o : Obj) : Ext D w (w.alloc o) :=
  ⟨by simp, fun b hl => shape_of_heap (Below.heap_alloc w o b hl), fun b _ hl => Below.heap_alloc w o b hl⟩
theorem Ext.cell {D : Nat → Prop} {w w' : World} (h : Ext D w w') {b i : Nat} {v : Value} (hd : D b) (hc : w.cell? ⟨b, i, none⟩ = some v) : w'.cell? ⟨b, i, none⟩ = some v := by
  have hl : b < w.heap.size := World.block_lt_of_cell? w _ hc
  rw [← hc]
  exact World.cell?_of_block (a := ⟨b, i, none⟩) (h.same b hd hl)
theorem Ext.range {D : Nat → Prop} {w w' : World} (h : Ext D w w') {b o : Nat} {cs : List Value} (hd : D b) (hc : w.rangeAt b o cs) : w'.rangeAt b o cs :=
  fun j v hv => h.cell hd (hc j v hv)

/-- what more is known of the world: of package variables that are laid (gp), and of values that hang on them, or on maps that are laid once and for all (gv) -/
class Lay where
  gp : World → (Nat → Prop) → Prop
  gv : Nat → World → (Nat → Prop) → Value → Prop
  gpk : ∀ {w w' : World} {D D' : Nat → Prop}, gp w D → Ext D w w' → (∀ b, D b → b < w.heap.size → D' b) → gp w' D'
  gvk : ∀ {n : Nat} {w w' : World} {D D' : Nat → Prop} {v : Value}, gv n w D v → Ext D w w' → (∀ b, D b → b < w.heap.size → D' b) → gv n w' D' v
  gv1 : ∀ {n : Nat} {w : World} {D : Nat → Prop} {v : Value}, gv n w D v → v.oneCell' = true ∧ v.cells = #[v]
variable [Lay]

inductive RV (φ : Pl) (D : Nat → Prop) (w : World) : Value → Dat → Prop where
  | bool (b : Bool) : RV φ D w (.bool b) (.bool b)
  | int (k : IntKind) (n : Int) : RV φ D w (.int k n) (.int k n)
  | str (s : ByteArray) : RV φ D w (.string s) (.str s)
  | agg (cs : List Value) (ds : List Dat) (hl : cs.length = ds.length)
      (h : ∀ (i : Nat) c d, cs[i]? = some c → ds[i]? = some d → RV φ D w c d) : RV φ D w (.agg cs.toArray) (.agg ds)
  | tup (cs : List Value) (ds : List Dat) (hl : cs.length = ds.length)
      (h : ∀ (i : Nat) c d, cs[i]? = some c → ds[i]? = some d → RV φ D w c d) : RV φ D w (.tuple cs.toArray) (.tup ds)
  | nil : RV φ D w (.slice none 0 0) .nil
  | list0 (A : Option Addr) (c st : Nat) (hc : c ≤ maxLen) : RV φ D w (.slice A 0 c) (.list st [])
  | list (b o c st : Nat) (es : List (List Dat)) (cs : List (List Value)) (hl : cs.length = es.length) (hc : es.length ≤ c) (hc2 : c ≤ maxLen)
      (hD : D b) (hb : b < w.heap.size) (hr : ∀ (i : Nat) x, cs[i]? = some x → w.rangeAt b (o + i * st) x) (hs : ∀ x ∈ cs, x.length = st) (hes : ∀ e ∈ es, e.length = st)
      (h1 : ∀ (i : Nat) x, cs[i]? = some x → ∀ v ∈ x, v.oneCell' = true)
      (h : ∀ (i : Nat) x e, cs[i]? = some x → es[i]? = some e → ∀ (j : Nat) c d, x[j]? = some c → e[j]? = some d → RV φ D w c d) :
      RV φ D w (.slice (some ⟨b, o, none⟩) es.length c) (.list st es)
  | ref (i g off len c st : Nat) (hφ : φ i = some (some g)) (hlen : len ≤ c) (hc : c ≤ maxLen) (hsz : ∃ e, w.shape? g = some (e, (off + c) * st)) :
      RV φ D w (.slice (some ⟨g, off * st, none⟩) len c) (.ref i off len st)
  | ref0 (i off st : Nat) (A : Option Addr) (h0 : 0 < off) : RV φ D w (.slice A 0 0) (.ref i off 0 st)
  | refv (i st : Nat) (hφ : φ i = some none) : RV φ D w (.slice none 0 0) (.ref i 0 0 st)
  | ptr (i g k j st : Nat) (hφ : φ i = some (some g)) : RV φ D w (.pointer (some ⟨g, k * st + j, none⟩)) (.ptr i k j st)
  | rop (b o j st : Nat) (ds : List Dat) (cs : List Value) (hl : cs.length = ds.length) (hst : cs.length = st) (hD : D b) (hb : b < w.heap.size) (hr : w.rangeAt b o cs) (h1 : ∀ v ∈ cs, v.oneCell' = true)
      (h : ∀ (i : Nat) c d, cs[i]? = some c → ds[i]? = some d → RV φ D w c d) : RV φ D w (.pointer (some ⟨b, o + j, none⟩)) (.rop ds j st)
  | fn (f : Fn) (cs1 cs2 : List Value) (ds1 ds2 : List Dat) (hl1 : cs1.length = ds1.length) (hl2 : cs2.length = ds2.length)
      (h1 : ∀ (i : Nat) c d, cs1[i]? = some c → ds1[i]? = some d → RV φ D w c d)
      (h2 : ∀ (i : Nat) c d, cs2[i]? = some c → ds2[i]? = some d → RV φ D w c d) : RV φ D w (.func f cs1.toArray cs2.toArray) (.fn f ds1 ds2)
  | oth (v : Value) : RV φ D w v (.oth v)
  | junk (v : Value) (h : v.oneCell' = true) (h2 : v.cells = #[v]) : RV φ D w v .junk
  | gl (n : Nat) (v : Value) (h : Lay.gv n w D v) : RV φ D w v (.gl n)

/-- many at once -/
def RVs (φ : Pl) (D : Nat → Prop) (w : World) (cs : List Value) (ds : List Dat) : Prop :=
  cs.length = ds.length ∧ ∀ (i : Nat) c d, cs[i]? = some c → ds[i]? = some d → RV φ D w c d

/-- more is placed -/
def PlLe (φ φ' : Pl) : Prop := ∀ i x, φ i = some x → φ' i = some x
theorem PlLe.refl (φ : Pl) : PlLe φ φ := fun _ _ h => h
theorem PlLe.trans {a b c : Pl} (h : PlLe a b) (k : PlLe b c) : PlLe a c := fun i x hx => k i x (h i x hx)

theorem RV.keep {φ φ' : Pl} {D D' : Nat → Prop} {w w' : World} (hφ : PlLe φ φ') (hD : ∀ b, D b → b < w.heap.size → D' b) (hk : Ext D w w') {v : Value} {d : Dat} (h : RV φ D w v d) : RV φ' D' w' v d := by
  induction h with
  | bool b => exact .bool b
  | int k n => exact .int k n
  | str s => exact .str s
  | agg cs ds hl _ ih => exact .agg cs ds hl ih
  | tup cs ds hl _ ih => exact .tup cs ds hl ih
  | nil => exact .nil
  | list0 A c st hc => exact .list0 A c st hc
  | list b o c st es cs hl hc hc2 hd hb hr hs hes h1 _ ih =>
    exact .list b o c st es cs hl hc hc2 (hD b hd hb) (Nat.lt_of_lt_of_le hb hk.size) (fun i x hx => hk.range hd (hr i x hx)) hs hes h1 ih
  | ref i g off len c st hp hlen hc hsz =>
    refine .ref i g off len c st (hφ _ _ hp) hlen hc ?_
    obtain ⟨e, he⟩ := hsz
    refine ⟨e, ?_⟩
    rw [← he]
    refine hk.shape g ?_
    rcases Nat.lt_or_ge g w.heap.size with h1 | h1
    · exact h1
    · simp [World.shape?, Array.getElem?_eq_none h1] at he
  | ref0 i off st A h0 => exact .ref0 i off st A h0
  | refv i st hp => exact .refv i st (hφ _ _ hp)
  | ptr i g k j st hp => exact .ptr i g k j st (hφ _ _ hp)
  | rop b o j st ds cs hl hst hd hb hr h1 _ ih => exact .rop b o j st ds cs hl hst (hD b hd hb) (Nat.lt_of_lt_of_le hb hk.size) (hk.range hd hr) h1 ih
  | fn f cs1 cs2 ds1 ds2 hl1 hl2 _ _ ih1 ih2 => exact .fn f cs1 cs2 ds1 ds2 hl1 hl2 ih1 ih2
  | oth v => exact .oth v
  | junk v h h2 => exact .junk v h h2
  | gl n v h => exact .gl n v (Lay.gvk h hk hD)

theorem RVs.keep {φ φ' : Pl} {D D' : Nat → Prop} {w w' : World} (hφ : PlLe φ φ') (hD : ∀ b, D b → b < w.heap.size → D' b) (hk : Ext D w w') {vs : List Value} {ds : List Dat} (h : RVs φ D w vs ds) : RVs φ' D' w' vs ds :=
  ⟨h.1, fun i c d hc hd => RV.keep hφ hD hk (h.2 i c d hc hd)⟩

theorem choose_lt {β : Type} (n : Nat) (p : Nat → β → Prop) (h : ∀ i, i < n → ∃ y, p i y) : ∃ l : List β, l.length = n ∧ ∀ (i : Nat) x, l[i]? = some x → p i x := by
  induction n with
  | zero => exact ⟨[], rfl, fun i x h => by simp at h⟩
  | succ n ih =>
    obtain ⟨l, hl, hp⟩ := ih (fun i hi => h i (by omega))
    obtain ⟨y, hy⟩ := h n (by omega)
    refine ⟨l ++ [y], by simp [hl], fun i x hx => ?_⟩
    rcases Nat.lt_or_ge i n with h1 | h1
    · rw [List.getElem?_append_left (by omega)] at hx; exact hp i x hx
    · rw [List.getElem?_append_right (by omega)] at hx
      have h0 := (List.getElem?_eq_some_iff.1 hx).1
      simp at h0
      have : i = n := by omega
      subst this
      rw [hl, Nat.sub_self] at hx
      simp at hx
      subst hx; exact hy

section
variable {φ : Pl} {D : Nat → Prop} {w : World} {v : Value}
theorem RV.bool_inv {b : Bool} (h : RV φ D w v (.bool b)) : v = .bool b := by cases h; rfl
theorem RV.int_inv {k : IntKind} {n : Int} (h : RV φ D w v (.int k n)) : v = .int k n := by cases h; rfl
theorem RV.str_inv {s : ByteArray} (h : RV φ D w v (.str s)) : v = .string s := by cases h; rfl
theorem RV.oth_inv {u : Value} (h : RV φ D w v (.oth u)) : v = u := by cases h; rfl
theorem RV.nil_inv (h : RV φ D w v .nil) : v = .slice none 0 0 := by cases h; rfl
theorem RV.agg_inv {ds : List Dat} (h : RV φ D w v (.agg ds)) : ∃ cs : List Value, v = .agg cs.toArray ∧ RVs φ D w cs ds := by
  cases h with | agg cs _ hl h => exact ⟨cs, rfl, hl, h⟩
theorem RV.tup_inv {ds : List Dat} (h : RV φ D w v (.tup ds)) : ∃ cs : List Value, v = .tuple cs.toArray ∧ RVs φ D w cs ds := by
  cases h with | tup cs _ hl h => exact ⟨cs, rfl, hl, h⟩
theorem RV.ptr_inv {i k j st : Nat} (h : RV φ D w v (.ptr i k j st)) : ∃ g, φ i = some (some g) ∧ v = .pointer (some ⟨g, k * st + j, none⟩) := by
  cases h with | ptr _ g _ _ _ hp => exact ⟨g, hp, rfl⟩
theorem RV.rop_inv {ds : List Dat} {j st : Nat} (h : RV φ D w v (.rop ds j st)) : ∃ b o cs, v = .pointer (some ⟨b, o + j, none⟩) ∧ cs.length = st ∧ D b ∧ b < w.heap.size ∧ w.rangeAt b o cs ∧ (∀ u ∈ cs, u.oneCell' = true) ∧ RVs φ D w cs ds := by
  cases h with | rop b o _ _ _ cs hl hst hD hb hr h1 h => exact ⟨b, o, cs, rfl, hst, hD, hb, hr, h1, hl, h⟩
theorem RV.fn_inv {f : Fn} {d1 d2 : List Dat} (h : RV φ D w v (.fn f d1 d2)) : ∃ c1 c2 : List Value, v = .func f c1.toArray c2.toArray ∧ RVs φ D w c1 d1 ∧ RVs φ D w c2 d2 := by
  cases h with | fn _ c1 c2 _ _ hl1 hl2 h1 h2 => exact ⟨c1, c2, rfl, ⟨hl1, h1⟩, ⟨hl2, h2⟩⟩
/-- a frozen slice: its shape, and each element -/
theorem RV.list_inv {st : Nat} {es : List (List Dat)} (h : RV φ D w v (.list st es)) : ∃ A c, v = .slice A es.length c ∧ es.length ≤ c ∧ c ≤ maxLen ∧
    ∀ (i : Nat) e, es[i]? = some e → ∃ b o cs, A = some ⟨b, o, none⟩ ∧ D b ∧ b < w.heap.size ∧ w.rangeAt b (o + i * st) cs ∧ cs.length = st ∧ (∀ u ∈ cs, u.oneCell' = true) ∧ RVs φ D w cs e := by
  cases h with
  | list0 A c _ hc => exact ⟨A, c, rfl, Nat.zero_le _, hc, fun i e he => by simp at he⟩
  | list b o c _ _ cs hl hc hc2 hD hb hr hs hes h1 h =>
    refine ⟨_, c, rfl, hc, hc2, fun i e he => ?_⟩
    have hi : i < cs.length := by rw [hl]; exact (List.getElem?_eq_some_iff.1 he).1
    have hx : cs[i]? = some cs[i] := by simp
    refine ⟨b, o, cs[i], rfl, hD, hb, hr i _ hx, hs _ (List.getElem_mem hi), h1 i _ hx, ?_, h i _ e hx he⟩
    rw [hs _ (List.getElem_mem hi), hes e (List.mem_of_getElem? he)]
/-- the whole range of a frozen slice at once -/
theorem RV.list_mk {A : Option Addr} {c st n : Nat} {es : List (List Dat)} (hn : n = es.length) (hc : es.length ≤ c) (hc2 : c ≤ maxLen)
    (h : ∀ (i : Nat) e, es[i]? = some e → ∃ b o cs, A = some ⟨b, o, none⟩ ∧ D b ∧ b < w.heap.size ∧ w.rangeAt b (o + i * st) cs ∧ cs.length = st ∧ (∀ u ∈ cs, u.oneCell' = true) ∧ RVs φ D w cs e) :
    RV φ D w (.slice A n c) (.list st es) := by
  subst hn
  cases es with
  | nil => exact .list0 A c st hc2
  | cons e0 es =>
    obtain ⟨b, o, _, rfl, hD, hb, _⟩ := h 0 e0 rfl
    have h' : ∀ (i : Nat), i < (e0 :: es).length → ∃ cs : List Value, w.rangeAt b (o + i * st) cs ∧ cs.length = st ∧ (∀ u ∈ cs, u.oneCell' = true) ∧ ∀ e, (e0 :: es)[i]? = some e → RVs φ D w cs e := by
      intro i hi
      obtain ⟨b', o', cs, he, _, _, h1, h2, h3, h4⟩ := h i _ (List.getElem?_eq_getElem hi)
      injection he with he
      injection he with hb' ho'
      subst hb'; subst ho'
      refine ⟨cs, h1, h2, h3, fun e he => ?_⟩
      rw [List.getElem?_eq_getElem hi] at he
      injection he with he
      rw [← he]; exact h4
    have hch : ∃ css : List (List Value), css.length = (e0 :: es).length ∧ ∀ (i : Nat) cs, css[i]? = some cs → w.rangeAt b (o + i * st) cs ∧ cs.length = st ∧ (∀ u ∈ cs, u.oneCell' = true) ∧ ∀ e, (e0 :: es)[i]? = some e → RVs φ D w cs e := by
      obtain ⟨css, h1, h2⟩ := choose_lt (e0 :: es).length _ h'
      exact ⟨css, h1, h2⟩
    obtain ⟨css, hl, hcss⟩ := hch
    refine .list b o c st _ css hl hc hc2 hD hb (fun i x hx => (hcss i x hx).1) (fun x hx => ?_) (fun e he => ?_) (fun i x hx => (hcss i x hx).2.2.1) (fun i x e hx he j c d hc hd => ((hcss i x hx).2.2.2 e he).2 j c d hc hd)
    · obtain ⟨i, hi, rfl⟩ := List.mem_iff_getElem.1 hx
      exact (hcss i _ (by simp)).2.1
    · obtain ⟨i, hi, rfl⟩ := List.mem_iff_getElem.1 he
      have := hcss i _ (List.getElem?_eq_getElem (show i < css.length by omega))
      have h1 := (this.2.2.2 _ (List.getElem?_eq_getElem hi)).1
      rw [← h1]; exact this.2.1
end
end Go.Ab
/- DERIVED. Abstract states, what it is that a concrete state stands for one, and what becomes of that when memory is made or written. No program here. -/
namespace Go.Ab
open Go.RowKit
variable [Lay]

def upd {β : Type} (f : Nat → β) (a : Nat) (b : β) : Nat → β := fun x => if x = a then b else f x
theorem upd_same {β : Type} (f : Nat → β) (a : Nat) (b : β) : upd f a b a = b := by simp [upd]
theorem upd_ne {β : Type} (f : Nat → β) {a x : Nat} (b : β) (h : x ≠ a) : upd f a b x = f x := by simp [upd, h]

/-- a block: its elements' type, how many cells each has, whether it is frozen, the elements -/
structure Blk where
  e : Nat
  st : Nat
  fz : Bool
  es : List (List Dat)
structure St where
  t : Nat → Dat
  h : Nat → Option Blk
  n : Nat
  nt : Nat
/-- where a call began -/
structure Cx where
  w0 : World
  L0 : Nat → Prop
  D0 : Nat → Prop
  p0 : Pl

/-- one block was changed, others were made -/
structure Chg (w w' : World) (row : Option Nat) : Prop where
  os : w'.os = w.os
  tape : w'.tape = w.tape
  output : w'.output = w.output
  size : w.heap.size ≤ w'.heap.size
  shape : ∀ k, k < w.heap.size → w'.shape? k = w.shape? k
  block : ∀ k, k < w.heap.size → some k ≠ row → w'.heap[k]? = w.heap[k]?
theorem Chg.ext {w w' : World} {row : Option Nat} (h : Chg w w' row) {D : Nat → Prop} (hD : ∀ g, row = some g → ¬ D g) : Ext D w w' :=
  ⟨h.size, h.shape, fun b hb hl => h.block b hl (fun e => hD b e.symm hb)⟩
theorem Chg.of_below {w w' : World} (h : Below w.heap.size w w') : Chg w w' none :=
  ⟨h.os, h.tape, h.output, h.size, fun k hk => shape_of_heap (h.block k hk), fun k hk _ => h.block k hk⟩
theorem Chg.alloc (w : World) (o : Obj) : Chg w (w.alloc o) none :=
  ⟨rfl, rfl, rfl, by simp, fun k hk => shape_of_heap (Below.heap_alloc w o k hk), fun k hk _ => Below.heap_alloc w o k hk⟩
theorem Chg.drew (w : World) : Chg w w.drew none := ⟨rfl, rfl, rfl, Nat.le_refl _, fun _ _ => rfl, fun _ _ _ => rfl⟩
theorem Chg.trans {a b c : World} {row : Option Nat} (h : Chg a b row) (k : Chg b c row) : Chg a c row :=
  ⟨k.os.trans h.os, k.tape.trans h.tape, k.output.trans h.output, Nat.le_trans h.size k.size, fun i hi => (k.shape i (Nat.lt_of_lt_of_le hi h.size)).trans (h.shape i hi),
   fun i hi hne => (k.block i (Nat.lt_of_lt_of_le hi h.size) hne).trans (h.block i hi hne)⟩
theorem Chg.mono {a b : World} (h : Chg a b none) (row : Option Nat) : Chg a b row :=
  ⟨h.os, h.tape, h.output, h.size, h.shape, fun k hk _ => h.block k hk (by simp)⟩

/-- since the call began -/
structure Fr (X : Cx) (w : World) : Prop where
  os : w.os = X.w0.os
  tape : w.tape = X.w0.tape
  output : w.output = X.w0.output
  size : X.w0.heap.size ≤ w.heap.size
  shape : ∀ b, b < X.w0.heap.size → w.shape? b = X.w0.shape? b
  old : ∀ b, b < X.w0.heap.size → ¬ X.L0 b → w.heap[b]? = X.w0.heap[b]?
theorem Fr.chg {X : Cx} {w w' : World} {row : Option Nat} (h : Fr X w) (c : Chg w w' row) (hr : ∀ g, row = some g → X.L0 g ∨ X.w0.heap.size ≤ g) : Fr X w' :=
  ⟨c.os.trans h.os, c.tape.trans h.tape, c.output.trans h.output, Nat.le_trans h.size c.size, fun b hb => (c.shape b (Nat.lt_of_lt_of_le hb h.size)).trans (h.shape b hb),
   fun b hb hl => (c.block b (Nat.lt_of_lt_of_le hb h.size) (fun e => by rcases hr b e.symm with h1 | h1; exact hl h1; omega)).trans (h.old b hb hl)⟩

/-- the block stands in memory -/
def Lies (φ : Pl) (D : Nat → Prop) (w : World) (g : Nat) (B : Blk) : Prop :=
  ∃ arr : Array Value, w.heap[g]? = some (.cells arr B.e (0, 0)) ∧ B.es.length * B.st ≤ arr.size ∧
    ∀ (k : Nat) e, B.es[k]? = some e → e.length = B.st ∧ ∀ (j : Nat) d, e[j]? = some d → ∃ v, arr[k * B.st + j]? = some v ∧ v.oneCell' = true ∧ RV φ D w v d
theorem Lies.lt {φ : Pl} {D : Nat → Prop} {w : World} {g : Nat} {B : Blk} (h : Lies φ D w g B) : g < w.heap.size := by
  obtain ⟨arr, h, _⟩ := h
  rcases Nat.lt_or_ge g w.heap.size with h1 | h1
  · exact h1
  · rw [Array.getElem?_eq_none h1] at h; cases h
theorem Lies.keep {φ φ' : Pl} {D D' : Nat → Prop} {w w' : World} {g : Nat} {B : Blk} (h : Lies φ D w g B) (hφ : PlLe φ φ') (hD : ∀ b, D b → b < w.heap.size → D' b) (hk : Ext D w w') (hg : w'.heap[g]? = w.heap[g]?) : Lies φ' D' w' g B := by
  obtain ⟨arr, h1, h2, h3⟩ := h
  refine ⟨arr, by rw [hg, h1], h2, fun k e he => ⟨(h3 k e he).1, fun j d hd => ?_⟩⟩
  obtain ⟨v, hv, h1, hr⟩ := (h3 k e he).2 j d hd
  exact ⟨v, hv, h1, RV.keep hφ hD hk hr⟩

structure HS (X : Cx) (S : Nat → Prop) (h : Nat → Option Blk) (n : Nat) (w : World) (φ : Pl) (D : Nat → Prop) : Prop where
  live : ∀ i B, h i = some B → (φ i = some none ∧ B.es = []) ∨ ∃ g, φ i = some (some g) ∧ Lies φ D w g B ∧ (B.fz = true → D g) ∧ (B.fz = false → ¬ D g ∧ (X.L0 g ∨ X.w0.heap.size ≤ g))
  inj : ∀ i j B C g, h i = some B → h j = some C → φ i = some (some g) → φ j = some (some g) → B.fz = false → i = j
  fresh : ∀ i, n ≤ i → ¬ S (i - n) → φ i = none
  Dlt : ∀ b, D b → b < w.heap.size
  Dsub : ∀ b, D b → X.D0 b ∨ X.L0 b ∨ X.w0.heap.size ≤ b
  Dsup : ∀ b, X.D0 b → D b
  psup : PlLe X.p0 φ
  fr : Fr X w
  fin : ∃ N, ∀ k, N ≤ k → φ k = none
  gp : Lay.gp w D

theorem fin_upd {φ : Pl} {i : Nat} {x : Option (Option Nat)} (h : ∃ N, ∀ k, N ≤ k → φ k = none) : ∃ N, ∀ k, N ≤ k → upd φ i x k = none := by
  obtain ⟨N, hN⟩ := h
  exact ⟨N + i + 1, fun k hk => by rw [upd_ne _ _ (by omega)]; exact hN k (by omega)⟩

section
variable {X : Cx} {S S' : Nat → Prop} {h : Nat → Option Blk} {n : Nat} {w w' : World} {φ : Pl} {D : Nat → Prop}

theorem HS.dom (H : HS X S h n w φ D) {i : Nat} {B : Blk} (hi : h i = some B) : φ i ≠ none := by
  rcases H.live i B hi with ⟨h1, _⟩ | ⟨g, h1, _⟩ <;> simp [h1]

/-- only new memory, or nothing at all -/
theorem HS.grow (H : HS X S h n w φ D) (c : Chg w w' none) : HS X S h n w' φ D where
  live := fun i B hi => by
    rcases H.live i B hi with h1 | ⟨g, h1, h2, h3, h4⟩
    · exact .inl h1
    · exact .inr ⟨g, h1, h2.keep (PlLe.refl _) (fun _ h _ => h) (c.ext (fun _ h => by cases h)) (c.block g h2.lt (by simp)), h3, h4⟩
  inj := H.inj
  fresh := H.fresh
  Dlt := fun b hb => Nat.lt_of_lt_of_le (H.Dlt b hb) c.size
  Dsub := H.Dsub
  Dsup := H.Dsup
  psup := H.psup
  fr := H.fr.chg c (fun _ h => by cases h)
  fin := H.fin
  gp := Lay.gpk H.gp (c.ext (fun _ h => by cases h)) (fun _ h _ => h)

theorem HS.drop (H : HS X S h n w φ D) (i : Nat) : HS X S (upd h i none) n w φ D where
  live := fun j B hj => by
    by_cases e : j = i
    · subst e; rw [upd_same] at hj; cases hj
    · rw [upd_ne _ _ e] at hj; exact H.live j B hj
  inj := fun j k B C g hj hk => by
    by_cases e : j = i
    · subst e; rw [upd_same] at hj; cases hj
    · by_cases e' : k = i
      · subst e'; rw [upd_same] at hk; cases hk
      · rw [upd_ne _ _ e] at hj; rw [upd_ne _ _ e'] at hk; exact H.inj j k B C g hj hk
  fresh := H.fresh
  Dlt := H.Dlt
  Dsub := H.Dsub
  Dsup := H.Dsup
  psup := H.psup
  fr := H.fr
  fin := H.fin
  gp := H.gp

theorem HS.more (H : HS X S h n w φ D) (hS : ∀ j, S j → S' j) : HS X S' h n w φ D :=
  { H with fresh := fun i hi hn => H.fresh i hi (fun hs => hn (hS _ hs)) }

theorem PlLe.upd {φ : Pl} {i : Nat} (hi : φ i = none) (x : Option Nat) : PlLe φ (upd φ i (some x)) := fun j y hy => by
  by_cases e : j = i
  · subst e; rw [hi] at hy; cases hy
  · rw [upd_ne _ _ e]; exact hy

/-- a block more, virtual: no elements, no memory -/
theorem HS.virt (H : HS X S h n w φ D) {i : Nat} (hn : n ≤ i) (hi : ¬ S (i - n)) (hS : ∀ j, S j → S' j) (hS' : S' (i - n)) (e st : Nat) (fz : Bool) :
    HS X S' (upd h i (some ⟨e, st, fz, []⟩)) n w (upd φ i (some none)) D := by
  have hφ := H.fresh i hn hi
  have hle := PlLe.upd (φ := φ) hφ none
  refine { H with live := fun j B hj => ?_, inj := fun j k B C g hj hk pj pk hf => ?_, fresh := fun j hj hs => ?_, psup := H.psup.trans hle, fin := fin_upd H.fin }
  · by_cases e' : j = i
    · subst e'
      rw [upd_same] at hj
      injection hj with hj
      subst hj
      exact .inl ⟨upd_same _ _ _, rfl⟩
    · rw [upd_ne _ _ e'] at hj
      rcases H.live j B hj with ⟨h1, h2⟩ | ⟨g, h1, h2, h3, h4⟩
      · exact .inl ⟨hle _ _ h1, h2⟩
      · exact .inr ⟨g, hle _ _ h1, h2.keep hle (fun _ h _ => h) (Ext.refl _ _) rfl, h3, h4⟩
  · by_cases e' : j = i
    · subst e'; rw [upd_same] at pj; cases pj
    · by_cases e'' : k = i
      · subst e''; rw [upd_same] at pk; cases pk
      · rw [upd_ne _ _ e'] at hj pj; rw [upd_ne _ _ e''] at hk pk; exact H.inj j k B C g hj hk pj pk hf
  · have hne : j ≠ i := fun e' => hs (by rw [e']; exact hS')
    rw [upd_ne _ _ hne]
    exact H.fresh j hj (fun h => hs (hS _ h))

/-- a block more, in new memory (other changes may come with it, of one block that is not frozen and no longer told of) -/
theorem HS.new (H : HS X S h n w φ D) {i g : Nat} {B : Blk} {row : Option Nat} (hn : n ≤ i) (hi : ¬ S (i - n)) (hS : ∀ j, S j → S' j) (hS' : S' (i - n)) (c : Chg w w' row)
    (hrow : ∀ r, row = some r → (¬ D r ∧ (X.L0 r ∨ X.w0.heap.size ≤ r)) ∧ ∀ j C, h j = some C → φ j ≠ some (some r))
    (hg : w.heap.size ≤ g ∨ row = some g) (hB : Lies (upd φ i (some (some g))) D w' g B) (hfz : B.fz = false) :
    HS X S' (upd h i (some B)) n w' (upd φ i (some (some g))) D := by
  have hφ := H.fresh i hn hi
  have hle := PlLe.upd (φ := φ) hφ (some g)
  have hext : Ext D w w' := c.ext (fun r hr => (hrow r hr).1.1)
  have hnot : ∀ j C, h j = some C → φ j ≠ some (some g) := fun j C hj hp => by
    rcases hg with hg | hg
    · rcases H.live j C hj with ⟨h1, _⟩ | ⟨g', h1, h2, _⟩
      · rw [hp] at h1; cases h1
      · rw [hp] at h1; injection h1 with h1; injection h1 with h1; subst h1; have := h2.lt; omega
    · exact (hrow g hg).2 j C hj hp
  have hgD : ¬ D g ∧ (X.L0 g ∨ X.w0.heap.size ≤ g) := by
    rcases hg with hg | hg
    · exact ⟨fun hd => by have := H.Dlt g hd; omega, .inr (Nat.le_trans H.fr.size hg)⟩
    · exact (hrow g hg).1
  refine ⟨fun j C hj => ?_, fun j k C E g' hj hk pj pk hf => ?_, fun j hj hs => ?_, fun b hb => Nat.lt_of_lt_of_le (H.Dlt b hb) c.size, H.Dsub, H.Dsup, H.psup.trans hle, H.fr.chg c (fun r hr => (hrow r hr).1.2), fin_upd H.fin, Lay.gpk H.gp (c.ext (fun r hr => (hrow r hr).1.1)) (fun _ h _ => h)⟩
  · by_cases e' : j = i
    · subst e'
      rw [upd_same] at hj
      injection hj with hj
      subst hj
      exact .inr ⟨g, upd_same _ _ _, hB, (fun h => by rw [hfz] at h; cases h), fun _ => hgD⟩
    · rw [upd_ne _ _ e'] at hj
      rcases H.live j C hj with ⟨h1, h2⟩ | ⟨g', h1, h2, h3, h4⟩
      · exact .inl ⟨hle _ _ h1, h2⟩
      · refine .inr ⟨g', hle _ _ h1, h2.keep hle (fun _ h _ => h) hext (c.block g' h2.lt fun e => ?_), h3, h4⟩
        exact (hrow g' e.symm).2 j C hj h1
  · by_cases e' : j = i
    · by_cases e'' : k = i
      · rw [e', e'']
      · subst e'
        rw [upd_same] at pj
        injection pj with pj; injection pj with pj; subst pj
        rw [upd_ne _ _ e''] at hk pk
        exact absurd pk (hnot k E hk)
    · by_cases e'' : k = i
      · subst e''
        rw [upd_same] at pk
        injection pk with pk; injection pk with pk; subst pk
        rw [upd_ne _ _ e'] at hj pj
        exact absurd pj (hnot j C hj)
      · rw [upd_ne _ _ e'] at hj pj; rw [upd_ne _ _ e''] at hk pk; exact H.inj j k C E g' hj hk pj pk hf
  · have hne : j ≠ i := fun e' => hs (by rw [e']; exact hS')
    rw [upd_ne _ _ hne]
    exact H.fresh j hj (fun h => hs (hS _ h))

/-- a block is written -/
theorem HS.write (H : HS X S h n w φ D) {i g : Nat} {B B' : Blk} (hi : h i = some B) (hp : φ i = some (some g)) (hf : B.fz = false) (c : Chg w w' (some g)) (hB : Lies φ D w' g B') (hf' : B'.fz = false) :
    HS X S (upd h i (some B')) n w' φ D := by
  have hg : ¬ D g ∧ (X.L0 g ∨ X.w0.heap.size ≤ g) := by
    rcases H.live i B hi with ⟨h1, _⟩ | ⟨g', h1, _, _, h4⟩
    · rw [hp] at h1; cases h1
    · rw [hp] at h1; injection h1 with h1; injection h1 with h1; subst h1; exact h4 hf
  have hext : Ext D w w' := c.ext (fun r hr => by injection hr with hr; subst hr; exact hg.1)
  have old : ∀ j C, upd h i (some B') j = some C → ∃ C', h j = some C' ∧ C'.fz = C.fz := fun j C hj => by
    by_cases e : j = i
    · subst e; rw [upd_same] at hj; injection hj with hj; subst hj; exact ⟨B, hi, by rw [hf, hf']⟩
    · rw [upd_ne _ _ e] at hj; exact ⟨C, hj, rfl⟩
  refine ⟨fun j C hj => ?_, fun j k C E g' hj hk pj pk hfz => ?_, H.fresh, fun b hb => Nat.lt_of_lt_of_le (H.Dlt b hb) c.size, H.Dsub, H.Dsup, H.psup, H.fr.chg c (fun r hr => by injection hr with hr; subst hr; exact hg.2), H.fin, Lay.gpk H.gp hext (fun _ h _ => h)⟩
  · by_cases e : j = i
    · subst e
      rw [upd_same] at hj
      injection hj with hj
      subst hj
      exact .inr ⟨g, hp, hB, (fun h => by rw [hf'] at h; cases h), fun _ => hg⟩
    · rw [upd_ne _ _ e] at hj
      rcases H.live j C hj with h1 | ⟨g', h1, h2, h3, h4⟩
      · exact .inl h1
      · refine .inr ⟨g', h1, h2.keep (PlLe.refl _) (fun _ h _ => h) hext (c.block g' h2.lt fun e' => ?_), h3, h4⟩
        injection e' with e'
        subst e'
        exact e (H.inj i j B C g' hi hj hp h1 hf).symm
  · obtain ⟨C', h1, h2⟩ := old j C hj
    obtain ⟨E', h3, _⟩ := old k E hk
    exact H.inj j k C' E' g' h1 h3 pj pk (by rw [h2]; exact hfz)

/-- a block is frozen -/
theorem HS.freeze (H : HS X S h n w φ D) {i g : Nat} {B : Blk} (hi : h i = some B) (hp : φ i = some (some g)) (hf : B.fz = false) :
    HS X S (upd h i (some { B with fz := true })) n w φ (fun b => D b ∨ b = g) := by
  obtain ⟨hl, hg⟩ : Lies φ D w g B ∧ ¬ D g ∧ (X.L0 g ∨ X.w0.heap.size ≤ g) := by
    rcases H.live i B hi with ⟨h1, _⟩ | ⟨g', h1, h2, _, h4⟩
    · rw [hp] at h1; cases h1
    · rw [hp] at h1; injection h1 with h1; injection h1 with h1; subst h1; exact ⟨h2, h4 hf⟩
  have hlies : ∀ g' C, Lies φ D w g' C → Lies φ (fun b => D b ∨ b = g) w g' C := fun g' C h => h.keep (PlLe.refl _) (fun _ h _ => .inl h) (Ext.refl _ _) rfl
  refine ⟨fun j C hj => ?_, fun j k C E g' hj hk pj pk hfz => ?_, H.fresh, fun b hb => ?_, fun b hb => ?_, fun b hb => .inl (H.Dsup b hb), H.psup, H.fr, H.fin, Lay.gpk H.gp (Ext.refl _ _) (fun _ h _ => .inl h)⟩
  · by_cases e : j = i
    · subst e
      rw [upd_same] at hj
      injection hj with hj
      subst hj
      exact .inr ⟨g, hp, hlies g B hl, fun _ => .inr rfl, fun h => by cases h⟩
    · rw [upd_ne _ _ e] at hj
      rcases H.live j C hj with h1 | ⟨g', h1, h2, h3, h4⟩
      · exact .inl h1
      · refine .inr ⟨g', h1, hlies g' C h2, fun h => .inl (h3 h), fun h => ⟨fun hd => ?_, (h4 h).2⟩⟩
        rcases hd with hd | hd
        · exact (h4 h).1 hd
        · subst hd
          exact e (H.inj i j B C g' hi hj hp h1 hf).symm
  · by_cases e : j = i
    · subst e; rw [upd_same] at hj; injection hj with hj; subst hj; cases hfz
    · rw [upd_ne _ _ e] at hj
      by_cases e' : k = i
      · subst e'
        exact (H.inj k j B C g' hi hj pk pj hf).symm
      · rw [upd_ne _ _ e'] at hk
        exact H.inj j k C E g' hj hk pj pk hfz
  · rcases hb with hb | hb
    · exact H.Dlt b hb
    · subst hb; exact hl.lt
  · rcases hb with hb | hb
    · exact H.Dsub b hb
    · subst hb; exact .inr hg.2
/-- a virtual one too -/
theorem HS.freeze_virt (H : HS X S h n w φ D) {i : Nat} {B : Blk} (hi : h i = some B) (hp : φ i = some none) :
    HS X S (upd h i (some { B with fz := true })) n w φ D := by
  refine { H with live := fun j C hj => ?_, inj := fun j k C E g' hj hk pj pk hfz => ?_ }
  · by_cases e : j = i
    · subst e
      rw [upd_same] at hj
      injection hj with hj
      subst hj
      rcases H.live j B hi with h1 | ⟨g, h1, _⟩
      · exact .inl h1
      · rw [hp] at h1; cases h1
    · rw [upd_ne _ _ e] at hj; exact H.live j C hj
  · by_cases e : j = i
    · subst e; rw [upd_same] at hj; injection hj with hj; subst hj; cases hfz
    · by_cases e' : k = i
      · subst e'; rw [hp] at pk; cases pk
      · rw [upd_ne _ _ e] at hj; rw [upd_ne _ _ e'] at hk; exact H.inj j k C E g' hj hk pj pk hfz
end

/-- a concrete state stands for an abstract one -/
structure Sim (X : Cx) (S : Nat → Prop) (σ : St) (a : Act) (w : World) (φ : Pl) (D : Nat → Prop) : Prop where
  nt : a.tmps.size = σ.nt
  df : a.defers = []
  tm : ∀ i, RV φ D w (a.tmps.getD i undef) (σ.t i)
  hs : HS X S σ.h σ.n w φ D
end Go.Ab
/- DERIVED. What each operation makes of an abstract state. No program here. -/
namespace Go.Ab
open Go.RowKit
variable [Lay]

/-! what the evaluator asks of a type -/
inductive TK where
  | bad | int (k : IntKind) | bool | str | slice (e : Nat) | struct (fs : List (Nat × Nat)) | array (n e : Nat) | ptr (e : Nat) | func | oth
structure TI where
  sz : Nat
  bytes : Nat
  agg : Bool
  zero : List Dat
  d : TK
def tkOf : TypeDesc → TK
  | .int k => .int k
  | .bool => .bool
  | .string => .str
  | .slice e => .slice e
  | .struct fs => .struct (fs.toList.map fun f => (f.offset, f.type))
  | .array n e => .array n e
  | .pointer e => .ptr e
  | .func _ _ _ => .func
  | _ => .oth
def datOf1 : Value → Dat
  | .bool b => .bool b
  | .int k n => .int k n
  | .string s => .str s
  | .slice none 0 0 => .nil
  | v => .oth v
def datOf : Value → Dat
  | .agg cs => .agg (cs.toList.map datOf1)
  | v => datOf1 v
def ti (P : Program) (t : TypeId) : Option TI :=
  match P.info? t, P.underlying t with
  | some i, some u => match i.zero with
    | some z => some ⟨i.size, i.bytes, u.isRow, z.cells.toList.map datOf1, tkOf u⟩
    | none => none
  | _, _ => none

def Dat.cells : Dat → List Dat
  | .agg cs => cs
  | .oth v => v.cells.toList.map Dat.oth
  | d => [d]

def allOne (l : List Dat) : Bool := l.all Dat.one

structure Ef where
  val : Dat
  rd : List Nat := []
  wr : List (Nat × Option Blk) := []
  side : Prop := True

def St.put (σ : St) (dst : Option Tmp) (v : Dat) : St :=
  match dst with
  | some d => if d < σ.nt then { σ with t := upd σ.t d v } else σ
  | none => σ
def wrs (h : Nat → Option Blk) : List (Nat × Option Blk) → Nat → Option Blk
  | [] => h
  | (i, b) :: r => wrs (upd h i b) r
def St.app (σ : St) (dst : Option Tmp) (e : Ef) : St := { σ.put dst e.val with h := wrs σ.h e.wr }

def St.ev (σ : St) : Operand → Dat
  | .tmp t => σ.t t
  | .const v => datOf v
  | .global g => .oth (.pointer (some ⟨g, 0, none⟩))
  | .func f => .fn (.func f) [] []

/-- cells j, .. of an element -/
def cut (cs : List Dat) (j n : Nat) (agg : Bool) (st : Nat) : Dat :=
  if agg then .agg (if j = 0 ∧ n = st then cs else (cs.drop j).take n) else cs.getD j (.oth undef)

def evLoad (σ : St) (x : TI) : Dat → Option Ef
  | .ptr i k j st => match σ.h i with
    | some B => some { val := cut (B.es.getD k []) j x.sz x.agg st, rd := [i], side := k < B.es.length ∧ j + x.sz ≤ st ∧ B.st = st ∧ (x.agg = false → x.sz = 1) }
    | none => none
  | .rop cs j st => some { val := cut cs j x.sz x.agg st, side := j + x.sz ≤ st ∧ (x.agg = false → x.sz = 1) }
  | _ => none

def setR (ds : List Dat) (off : Nat) (cs : List Dat) : List Dat := cs.zipIdx.foldl (fun l p => l.set (off + p.2) p.1) ds

def evStore (σ : St) (x : TI) (a v : Dat) : Option Ef :=
  match a with
  | .ptr i k j st => match σ.h i with
    | some B => some { val := .oth undef, rd := [i], wr := [(i, some { B with es := B.es.set k (if j = 0 ∧ x.sz = st then v.cells else setR (B.es.getD k []) j v.cells) })], side := k < B.es.length ∧ j + x.sz ≤ st ∧ B.st = st ∧ v.cells.length = x.sz ∧ allOne v.cells = true ∧ B.fz = false }
    | none => none
  | _ => none

def fillD (place : Nat → Option (Nat × Nat)) (ds : List Dat) : List (Nat × Dat) → Option (List Dat)
  | [] => some ds
  | (i, d) :: rest =>
    match place i with
    | none => none
    | some (off, size) => if d.cells.length ≠ size ∨ off + d.cells.length > ds.length then none else fillD place (setR ds off d.cells) rest

/-- the elements of whatever may be read as a slice -/
def elems (σ : St) (st : Nat) : Dat → Option (List (List Dat) × List Nat × Prop)
  | .nil => some ([], [], True)
  | .list st' es => some (es, [], st' = st)
  | .ref i off len st' => match σ.h i with
    | some B => some (if off = 0 ∧ len = B.es.length then B.es else (B.es.drop off).take len, [i], st' = st ∧ B.st = st ∧ off + len ≤ B.es.length)
    | none => none
  | _ => none

def isAl (j : Nat) : Dat → Bool
  | .ref k _ _ _ => k == j
  | _ => false
def evAppend (P : Program) (σ : St) (i : Nat) (t1 t2 : TypeId) (s x : Dat) : Option Ef :=
  match ti P t1 with
  | some ⟨_, _, _, _, .slice e⟩ => match ti P e, elems σ ((ti P e).elim 0 (·.sz)) x with
    | some y, some (xs, r, p) => match s with
      | .nil => some { val := .ref (σ.n + i) 0 xs.length y.sz, rd := r, wr := [(σ.n + i, some ⟨e, y.sz, false, xs⟩)], side := (p) ∧ t2 = t1 ∧ 0 < y.sz ∧ 0 < y.bytes ∧ y.zero.length = y.sz ∧ xs.length * y.bytes ≤ 140737488355328 }
      | .ref j off len st => match σ.h j with
        | some B => if isAl j x = true then some { val := .ref j 0 (len + xs.length) y.sz, rd := j :: r, wr := [(j, some { B with es := B.es.take len ++ xs ++ B.es.drop (len + xs.length) })], side := p ∧ t2 = t1 ∧ off = 0 ∧ st = y.sz ∧ B.st = y.sz ∧ B.e = e ∧ B.fz = false ∧ len + xs.length ≤ B.es.length ∧ 0 < y.sz }
          else some { val := .ref (σ.n + i) 0 (len + xs.length) y.sz, rd := j :: r, wr := [(j, none), (σ.n + i, some ⟨e, y.sz, false, (if len = B.es.length then B.es else B.es.take len) ++ xs⟩)], side := p ∧ t2 = t1 ∧ off = 0 ∧ st = y.sz ∧ B.st = y.sz ∧ B.e = e ∧ B.fz = false ∧ len ≤ B.es.length ∧ 0 < y.sz ∧ 0 < y.bytes ∧ y.zero.length = y.sz ∧ (len + xs.length) * y.bytes ≤ 140737488355328 }
        | none => none
      | _ => none
    | _, _ => none
  | _ => none

def binInt (op : BinOp) (k : IntKind) (a b : Int) : Option Ef :=
  match op with
  | .add => some { val := .int k (k.wrap (a + b)) }
  | .sub => some { val := .int k (k.wrap (a - b)) }
  | .mul => some { val := .int k (k.wrap (a * b)) }
  | .quo => some { val := .int k (k.wrap (a.tdiv b)), side := b ≠ 0 }
  | .rem => some { val := .int k (a.tmod b), side := b ≠ 0 }
  | .eql => some { val := .bool (a == b) }
  | .neq => some { val := .bool (a != b) }
  | .lss => some { val := .bool (decide (a < b)) }
  | .leq => some { val := .bool (decide (a ≤ b)) }
  | .gtr => some { val := .bool (decide (b < a)) }
  | .geq => some { val := .bool (decide (b ≤ a)) }
  | .and => some { val := .int k (k.wrap (BitVec.ofInt k.bits a &&& BitVec.ofInt k.bits b).toNat) }
  | .or => some { val := .int k (k.wrap (BitVec.ofInt k.bits a ||| BitVec.ofInt k.bits b).toNat) }
  | .xor => some { val := .int k (k.wrap (BitVec.ofInt k.bits a ^^^ BitVec.ofInt k.bits b).toNat) }
  | .shl => some { val := .int k (k.wrap (a * 2 ^ (min b.toNat k.bits))), side := 0 ≤ b }
  | .shr => some { val := .int k (a.fdiv (2 ^ (min b.toNat k.bits))), side := 0 ≤ b }
  | _ => none

def isB (P : Program) (t : TypeId) : Prop := ∃ a b c z, ti P t = some ⟨a, b, c, z, .bool⟩
def evBin (P : Program) (t : TypeId) (op : BinOp) (x y : Dat) : Option Ef :=
  match x, y with
  | .bool a, .bool b => match op with
    | .eql => some { val := .bool (a == b), side := isB P t }
    | .neq => some { val := .bool (!(a == b)), side := isB P t }
    | _ => none
  | .int k a, .int k' b => match op with
    | .shl | .shr => binInt op k a b
    | _ => match binInt op k a b with
      | some e => some { e with side := e.side ∧ k = k' }
      | none => none
  | .str a, .str b => match op with
    | .eql => some { val := .bool (a.toList == b.toList) }
    | .neq => some { val := .bool (!(a.toList == b.toList)) }
    | .lss => some { val := .bool (Op.bytesLess a.toList b.toList) }
    | .gtr => some { val := .bool (!(Op.bytesLess a.toList b.toList || a.toList == b.toList)) }
    | _ => none
  | _, _ => none

def evUn (op : UnOp) (x : Dat) : Option Ef :=
  match op, x with
  | .not, .bool b => some { val := .bool (!b) }
  | .neg, .int k n => some { val := .int k (k.wrap (0 - n)) }
  | .xor, .int k n => some { val := .int k (k.wrap (BitVec.ofInt k.bits (if k.signed then -1 else k.max) ^^^ BitVec.ofInt k.bits n).toNat) }
  | _, _ => none

/-- a slice of a slice -/
def evSlice (hp : Nat → Option Blk) (d : TK) (x : Dat) (lo hi : Option Dat) : Option Ef :=
  let l := match lo with | some (.int _ n) => some n | none => some 0 | _ => none
  let h := fun (m : Nat) => match hi with | some (.int _ n) => some n | none => some (m : Int) | _ => none
  match d, x with
  | .slice _, .list st es => match l, h es.length with
    | some a, some b => some { val := .list st (if b = es.length then es.drop a.toNat else (es.take b.toNat).drop a.toNat), side := 0 ≤ a ∧ a ≤ b ∧ b ≤ es.length }
    | _, _ => none
  | .slice _, .nil => match l, h 0 with
    | some a, some b => some { val := .nil, side := a = 0 ∧ b = 0 }
    | _, _ => none
  | .slice _, .ref i off len st => match l, h len with
    | some a, some b => some { val := .ref i (off + a.toNat) (b.toNat - a.toNat) st, rd := [i], side := 0 ≤ a ∧ a ≤ b ∧ (b ≤ len ∨ ∃ B, hp i = some B ∧ B.st = st ∧ off = 0 ∧ 0 < st ∧ b ≤ B.es.length) }
    | _, _ => none
  | .str, .str s => match l, h s.size with
    | some a, some b => some { val := .str (s.extract a.toNat b.toNat), side := 0 ≤ a ∧ a ≤ b ∧ b ≤ s.size }
    | _, _ => none
  | _, _ => none

def sliceOk (P : Program) (d : TK) (x : Dat) : Prop :=
  match d with
  | .slice el => match ti P el with
    | some z => match x with
      | .list st _ => st = z.sz
      | .ref _ _ _ st => st = z.sz
      | _ => True
    | none => False
  | _ => True

def evIndexAddr (P : Program) (σ : St) (t : TypeId) (x ix : Dat) : Option Ef :=
  match ti P t, ix with
  | some ⟨_, _, _, _, .slice e⟩, .int _ n => match ti P e, x with
    | some y, .list st es => some { val := .rop (es.getD n.toNat []) 0 st, side := 0 ≤ n ∧ n < es.length ∧ st = y.sz }
    | some y, .ref i off len st => some { val := .ptr i (off + n.toNat) 0 st, side := 0 ≤ n ∧ n < len ∧ st = y.sz }
    | _, _ => none
  | some ⟨_, _, _, _, .array m e⟩, .int _ n => match ti P e, x with
    | some y, .ptr i k j st => some { val := .ptr i k (j + n.toNat * y.sz) st, side := 0 ≤ n ∧ n < m }
    | some y, .rop cs j st => some { val := .rop cs (j + n.toNat * y.sz) st, side := 0 ≤ n ∧ n < m }
    | _, _ => none
  | _, _ => none

def evFieldAddr (P : Program) (t : TypeId) (x : Dat) (f : Nat) : Option Ef :=
  match ti P t with
  | some ⟨_, _, _, _, .struct fs⟩ => match fs[f]? with
    | some (off, ft) => match ti P ft, x with
      | some y, .ptr i k j st => some { val := .ptr i k (j + off) st, side := y.sz ≠ 0 }
      | some y, .rop cs j st => some { val := .rop cs (j + off) st, side := y.sz ≠ 0 }
      | _, _ => none
    | none => none
  | _ => none

def evField (P : Program) (t : TypeId) (x : Dat) (f : Nat) : Option Ef :=
  match ti P t, x with
  | some ⟨_, _, _, _, .struct fs⟩, .agg cs => match fs[f]? with
    | some (off, ft) => match ti P ft with
      | some y => some { val := cut cs off y.sz y.agg cs.length, side := off + y.sz ≤ cs.length ∧ (y.agg = false → y.sz = 1) }
      | none => none
    | none => none
  | _, _ => none

def evIndex (P : Program) (t : TypeId) (x ix : Dat) : Option Ef :=
  match ti P t, x, ix with
  | some ⟨_, _, _, _, .array m e⟩, .agg cs, .int _ n => match ti P e with
    | some y => some { val := cut cs (n.toNat * y.sz) y.sz y.agg cs.length, side := 0 ≤ n ∧ n < m ∧ n.toNat * y.sz + y.sz ≤ cs.length ∧ (y.agg = false → y.sz = 1) }
    | none => none
  | some ⟨_, _, _, _, .str⟩, .str s, .int _ n => some { val := .int .u8 (s.data.toList.getD n.toNat 0).toNat, side := 0 ≤ n ∧ n < s.size }
  | _, _, _ => none

def mmStep (isMax : Bool) : Option Dat → Dat → Option Dat
  | some (.int k p), .int _ q => some (.int k (if isMax then (if q > p then q else p) else (if q < p then q else p)))
  | _, _ => none
def minMax (isMax : Bool) : List Dat → Option Dat
  | [] => none
  | x :: rest => rest.foldl (mmStep isMax) (some x)

def evClear (P : Program) (σ : St) (t : TypeId) (x : Dat) : Option Ef :=
  match ti P t with
  | some ⟨_, _, _, _, .slice e⟩ => match ti P e, x with
    | some _, .nil => some { val := .tup [] }
    | some y, .ref j off len st => match σ.h j with
      | some B => some { val := .tup [], rd := [j], wr := [(j, some { B with es := B.es.take off ++ List.replicate len y.zero ++ B.es.drop (off + len) })], side := st = y.sz ∧ B.st = y.sz ∧ B.fz = false ∧ off + len ≤ B.es.length ∧ 0 < y.sz ∧ y.zero.length = y.sz ∧ allOne y.zero = true }
      | none => none
    | _, _ => none
  | _ => none
def evBuiltin (P : Program) (σ : St) (i : Nat) (b : Builtin) (ats : Array TypeId) (args : List Dat) : Option Ef :=
  match b, ats.toList, args with
  | .len, [t], [x] => match ti P t, x with
    | some ⟨_, _, _, _, .array n _⟩, _ => some { val := .int .i64 n }
    | some ⟨_, _, _, _, .slice _⟩, .nil => some { val := .int .i64 0 }
    | some ⟨_, _, _, _, .slice _⟩, .list _ es => some { val := .int .i64 es.length }
    | some ⟨_, _, _, _, .slice _⟩, .ref _ _ len _ => some { val := .int .i64 len }
    | some ⟨_, _, _, _, .str⟩, .str s => some { val := .int .i64 s.size }
    | _, _ => none
  | .append, [t1, t2], [s, x] => evAppend P σ i t1 t2 s x
  | .clear, [t], [x] => evClear P σ t x
  | .min, _, l => (minMax false l).map fun v => { val := v }
  | .max, _, l => (minMax true l).map fun v => { val := v }
  | _, _, _ => none

/-- bytes, out of cells -/
def bytesD : List (List Dat) → Option (List Int)
  | [] => some []
  | [.int .u8 n] :: l => match bytesD l with
    | some r => some (n :: r)
    | none => none
  | _ :: _ => none
def evToStr (P : Program) (σ : St) (k : TK) (d : Dat) : Option Ef :=
  match d with
  | .str s => some { val := .str s }
  | d => match k with
    | .slice e => match ti P e, elems σ 1 d with
      | some ⟨_, _, _, _, .int .u8⟩, some (es, r, p) => match bytesD es with
        | some xs => some { val := .str (strOfNums xs), rd := r, side := p }
        | none => none
      | _, _ => none
    | _ => none

/-- all operations but calls of functions -/
def evOp (P : Program) (σ : St) (i : Nat) (o : Op) : Option Ef :=
  match o with
  | .move x | .assign x => some { val := σ.ev x }
  | .pick c a b => match σ.ev c with
    | .bool p => some { val := if p then σ.ev a else σ.ev b }
    | _ => none
  | .alloc e => match ti P e with
    | some x => some { val := .ptr (σ.n + i) 0 0 x.sz, wr := [(σ.n + i, some ⟨e, x.sz, false, [x.zero]⟩)], side := x.zero.length = x.sz ∧ allOne x.zero = true }
    | none => none
  | .box e v => match ti P e with
    | some x => some { val := .ptr (σ.n + i) 0 0 x.sz, wr := [(σ.n + i, some ⟨e, x.sz, false, [(σ.ev v).cells]⟩)], side := (σ.ev v).cells.length = x.sz ∧ allOne (σ.ev v).cells = true }
    | none => none
  | .build t parts => match ti P t with
    | some ⟨_, _, _, zero, .struct fs⟩ => match fillD (fun i => match fs[i]? with | some (off, ft) => (match ti P ft with | some y => some (off, y.sz) | none => none) | none => none) zero (parts.toList.map fun p => (p.1, σ.ev p.2)) with
      | some ds => some { val := .agg ds, side := ∀ p ∈ fs, (ti P p.2).isSome = true }
      | none => none
    | some ⟨_, _, _, zero, .array _ e⟩ => match ti P e with
      | some y => match fillD (fun i => some (i * y.sz, y.sz)) zero (parts.toList.map fun p => (p.1, σ.ev p.2)) with
        | some ds => some { val := .agg ds }
        | none => none
      | none => none
    | _ => none
  | .buildSlice t len parts => match ti P t with
    | some ⟨_, _, _, _, .slice e⟩ => match ti P e with
      | some y => some { val := .ref (σ.n + i) 0 len y.sz, wr := [(σ.n + i, some ⟨e, y.sz, false, parts.toList.map fun p => (σ.ev p.2).cells⟩)], side := parts.toList.map (·.1) = List.range len ∧ len * y.sz ≤ 16777216 ∧ y.zero.length = y.sz ∧ (∀ p ∈ parts.toList, (σ.ev p.2).cells.length = y.sz ∧ allOne (σ.ev p.2).cells = true) ∧ y.sz ≠ 0 }
      | none => none
    | _ => none
  | .load t a => match ti P t with
    | some x => evLoad σ x (σ.ev a)
    | none => none
  | .store t a v => match ti P t with
    | some x => evStore σ x (σ.ev a) (σ.ev v)
    | none => none
  | .nilCheck x => match σ.ev x with
    | .ptr i k j st => some { val := .ptr i k j st }
    | .rop cs j st => some { val := .rop cs j st }
    | _ => none
  | .binOp op t x y _ => evBin P t op (σ.ev x) (σ.ev y)
  | .unOp op _ x => evUn op (σ.ev x)
  | .convert src dst x => match ti P src with
    | some y => match ti P dst with
      | some ⟨_, _, _, _, .str⟩ => evToStr P σ y.d (σ.ev x)
      | some ⟨_, _, _, _, .int k⟩ => match σ.ev x with
        | .int _ n => some { val := .int k (k.wrap n) }
        | _ => none
      | _ => none
    | none => none
  | .makeFunc f first cap => some { val := .fn f (first.toList.map σ.ev) (cap.toList.map σ.ev) }
  | .makeSlice t l c => match ti P t with
    | some ⟨_, _, _, _, .slice e⟩ => match ti P e, σ.ev l, σ.ev c with
      | some y, .int _ a, .int _ b => some { val := .ref (σ.n + i) 0 a.toNat y.sz, wr := [(σ.n + i, some ⟨e, y.sz, false, List.replicate a.toNat y.zero⟩)], side := 0 ≤ a ∧ a = b ∧ y.bytes * b ≤ 281474976710656 ∧ b ≤ 9223372036854775807 ∧ y.zero.length = y.sz ∧ 0 < y.sz ∧ allOne y.zero = true }
      | _, _, _ => none
    | _ => none
  | .slice t x lo hi none => match ti P t with
    | some y => match evSlice σ.h y.d (σ.ev x) (lo.map σ.ev) (hi.map σ.ev) with
      | some e => some { e with side := e.side ∧ sliceOk P y.d (σ.ev x) }
      | none => none
    | none => none
  | .fieldAddr t x f => evFieldAddr P t (σ.ev x) f
  | .field t x f => evField P t (σ.ev x) f
  | .indexAddr t x ix => evIndexAddr P σ t (σ.ev x) (σ.ev ix)
  | .index t x ix => evIndex P t (σ.ev x) (σ.ev ix)
  | .extract x k => match σ.ev x with
    | .tup ds => some { val := ds.getD k (.oth undef), side := k < ds.length }
    | _ => none
  | .call { callee := .builtin b, args, argTypes } => evBuiltin P σ i b argTypes (args.toList.map σ.ev)
  | _ => none
end Go.Ab
/- DERIVED. The abstract operations are sound: first the small words. No program here. -/
namespace Go.Ab
open Go.RowKit
variable [Lay]

section
variable {φ : Pl} {D : Nat → Prop} {w : World} {v : Value}
theorem RV_datOf1 (v : Value) : RV φ D w v (datOf1 v) := by
  unfold datOf1
  split
  · exact .bool _
  · exact .int _ _
  · exact .str _
  · exact .nil
  · exact .oth _
theorem RVs_map {vs : List Value} {f : Value → Dat} (h : ∀ v ∈ vs, RV φ D w v (f v)) : RVs φ D w vs (vs.map f) :=
  ⟨by simp, fun i c d hc hd => by
    rw [List.getElem?_map, hc] at hd
    simp at hd
    subst hd
    exact h c (List.mem_of_getElem? hc)⟩
theorem RV_datOf (v : Value) : RV φ D w v (datOf v) := by
  unfold datOf
  split
  · rename_i cs
    have h := RVs_map (φ := φ) (D := D) (w := w) (vs := cs.toList) (f := datOf1) fun v _ => RV_datOf1 v
    have := RV.agg cs.toList _ h.1 h.2
    simpa using this
  · exact RV_datOf1 _
theorem RVs.nil : RVs φ D w [] [] := ⟨rfl, fun i c d h => by simp at h⟩
theorem RVs.cons {d : Dat} {vs : List Value} {ds : List Dat} (h : RV φ D w v d) (hs : RVs φ D w vs ds) : RVs φ D w (v :: vs) (d :: ds) :=
  ⟨by simp [hs.1], fun i c e hc he => by
    cases i with
    | zero => simp at hc he; subst hc; subst he; exact h
    | succ i => simp at hc he; exact hs.2 i c e hc he⟩
theorem RVs.cons_inv {d : Dat} {vs : List Value} {ds : List Dat} (h : RVs φ D w vs (d :: ds)) : ∃ v vs', vs = v :: vs' ∧ RV φ D w v d ∧ RVs φ D w vs' ds := by
  cases vs with
  | nil => have := h.1; simp at this
  | cons v vs => exact ⟨v, vs, rfl, h.2 0 v d rfl rfl, by have := h.1; simpa using this, fun i c e hc he => h.2 (i + 1) c e (by simpa using hc) (by simpa using he)⟩
theorem RVs.nil_inv {vs : List Value} (h : RVs φ D w vs []) : vs = [] := List.eq_nil_of_length_eq_zero h.1
theorem RVs.drop {vs : List Value} {ds : List Dat} (h : RVs φ D w vs ds) (n : Nat) : RVs φ D w (vs.drop n) (ds.drop n) :=
  ⟨by simp [h.1], fun i c d hc hd => by rw [List.getElem?_drop] at hc hd; exact h.2 _ c d hc hd⟩
theorem RVs.take {vs : List Value} {ds : List Dat} (h : RVs φ D w vs ds) (n : Nat) : RVs φ D w (vs.take n) (ds.take n) :=
  ⟨by simp [h.1], fun i c d hc hd => by
    rw [List.getElem?_take] at hc hd
    split at hc
    · rename_i hi
      rw [if_pos hi] at hd; exact h.2 _ c d hc hd
    · cases hc⟩
theorem RVs.append {vs us : List Value} {ds es : List Dat} (h : RVs φ D w vs ds) (k : RVs φ D w us es) : RVs φ D w (vs ++ us) (ds ++ es) :=
  ⟨by simp [h.1, k.1], fun i c d hc hd => by
    rcases Nat.lt_or_ge i vs.length with hi | hi
    · rw [List.getElem?_append_left hi] at hc
      rw [List.getElem?_append_left (by rw [← h.1]; exact hi)] at hd
      exact h.2 i c d hc hd
    · rw [List.getElem?_append_right hi] at hc
      rw [List.getElem?_append_right (by rw [← h.1]; exact hi), ← h.1] at hd
      exact k.2 _ c d hc hd⟩
theorem RVs.set {vs : List Value} {ds : List Dat} {d : Dat} (h : RVs φ D w vs ds) (i : Nat) (hv : RV φ D w v d) : RVs φ D w (vs.set i v) (ds.set i d) :=
  ⟨by simp [h.1], fun j c e hc he => by
    rw [List.getElem?_set] at hc he
    by_cases hij : i = j
    · rw [if_pos hij] at hc he
      split at hc
      · injection hc with hc
        subst hc
        split at he
        · injection he with he
          subst he; exact hv
        · cases he
      · cases hc
    · rw [if_neg hij] at hc he; exact h.2 j c e hc he⟩
theorem RVs.getD {vs : List Value} {ds : List Dat} (h : RVs φ D w vs ds) {i : Nat} {u : Value} (hu : vs[i]? = some u) : RV φ D w u (ds.getD i (.oth undef)) := by
  have hi : i < ds.length := by rw [← h.1]; exact (List.getElem?_eq_some_iff.1 hu).1
  rw [List.getD_eq_getElem?_getD, List.getElem?_eq_getElem hi]
  exact h.2 i u _ hu (List.getElem?_eq_getElem hi)
theorem RV.cells {d : Dat} (h : RV φ D w v d) : RVs φ D w v.cells.toList d.cells := by
  cases h with
  | agg cs ds hl h => exact ⟨by simpa [Value.cells, Dat.cells] using hl, fun i c d hc hd => h i c d (by simpa [Value.cells] using hc) hd⟩
  | oth v => exact RVs_map fun v _ => .oth v
  | bool b => exact .cons (.bool b) .nil
  | int k n => exact .cons (.int k n) .nil
  | str s => exact .cons (.str s) .nil
  | tup cs ds hl h => exact .cons (.tup cs ds hl h) .nil
  | nil => exact .cons .nil .nil
  | list0 A c st hc => exact .cons (.list0 A c st hc) .nil
  | list b o c st es cs hl hc hc2 hD hb hr hs hes h1 h => exact .cons (.list b o c st es cs hl hc hc2 hD hb hr hs hes h1 h) .nil
  | ref i g off len c st hp hlen hc hsz => exact .cons (.ref i g off len c st hp hlen hc hsz) .nil
  | ref0 i off st A h0 => exact .cons (.ref0 i off st A h0) .nil
  | refv i st hp => exact .cons (.refv i st hp) .nil
  | ptr i g k j st hp => exact .cons (.ptr i g k j st hp) .nil
  | rop b o j st ds cs hl hst hD hb hr h1 h => exact .cons (.rop b o j st ds cs hl hst hD hb hr h1 h) .nil
  | fn f cs1 cs2 ds1 ds2 hl1 hl2 h1 h2 => exact .cons (.fn f cs1 cs2 ds1 ds2 hl1 hl2 h1 h2) .nil
  | junk v h h2 => rw [h2]; exact .cons (.junk v h h2) .nil
  | gl n v h => rw [(Lay.gv1 h).2]; exact .cons (.gl n v h) .nil
theorem RV.one {d : Dat} (h : RV φ D w v d) (h1 : d.one = true) : v.oneCell' = true := by
  cases h <;> first | rfl | assumption | (simp [Dat.one] at h1; done) | exact h1 | exact (Lay.gv1 ‹_›).1
theorem RVs.one {vs : List Value} {ds : List Dat} (h : RVs φ D w vs ds) (h1 : allOne ds = true) : ∀ v ∈ vs, v.oneCell' = true := by
  intro v hv
  obtain ⟨i, hi, rfl⟩ := List.mem_iff_getElem.1 hv
  have hd : i < ds.length := by rw [← h.1]; exact hi
  exact RV.one (h.2 i vs[i] ds[i] (by simp) (by simp)) (by
    have := List.all_eq_true.1 h1 ds[i] (List.getElem_mem hd)
    exact this)
end

/-- cells of an array replaced -/
theorem splice_get {α : Type} (l vs : List α) (o : Nat) (h : o + vs.length ≤ l.length) (i : Nat) :
    (l.take o ++ vs ++ l.drop (o + vs.length))[i]? = if o ≤ i ∧ i < o + vs.length then vs[i - o]? else l[i]? := by
  have h1 : (l.take o).length = o := by simp; omega
  by_cases c : i < o
  · rw [if_neg (by omega), List.append_assoc, List.getElem?_append_left (by omega), List.getElem?_take, if_pos c]
  · by_cases c2 : i < o + vs.length
    · rw [if_pos ⟨by omega, c2⟩, List.getElem?_append_left (by simp; omega), List.getElem?_append_right (by omega), h1]
    · rw [if_neg (by omega), List.getElem?_append_right (by simp; omega), List.getElem?_drop]
      congr 1
      simp; omega
theorem setR_go {α : Type} (off : Nat) : ∀ (cs : List α) (s : Nat) (l : List α) (i : Nat),
    ((cs.zipIdx s).foldl (fun l p => l.set (off + p.2) p.1) l)[i]? = if off + s ≤ i ∧ i < off + s + cs.length ∧ i < l.length then cs[i - (off + s)]? else l[i]?
  | [], s, l, i => by simp; intro h1 h2; omega
  | c :: cs, s, l, i => by
    rw [List.zipIdx_cons, List.foldl_cons, setR_go off cs (s + 1) _ i]
    simp only [List.length_set, List.length_cons]
    by_cases h : off + (s + 1) ≤ i ∧ i < off + (s + 1) + cs.length ∧ i < l.length
    · rw [if_pos h, if_pos (by omega), show i - (off + s) = (i - (off + (s + 1))) + 1 by omega, List.getElem?_cons_succ]
    · rw [if_neg h, List.getElem?_set]
      by_cases h2 : off + s = i
      · rw [if_pos h2]
        by_cases h3 : i < l.length
        · rw [if_pos (by omega), if_pos (by omega), show i - (off + s) = 0 by omega]; rfl
        · rw [if_neg (by omega), if_neg (by omega), List.getElem?_eq_none (by omega)]
      · rw [if_neg h2, if_neg (by omega)]
theorem setR_get (l cs : List Dat) (off i : Nat) : (setR l off cs)[i]? = if off ≤ i ∧ i < off + cs.length ∧ i < l.length then cs[i - off]? else l[i]? := by
  have := setR_go off cs 0 l i
  simpa [setR] using this
theorem setR_len (l cs : List Dat) (off : Nat) : (setR l off cs).length = l.length := by
  unfold setR
  generalize cs.zipIdx = ps
  induction ps generalizing l with
  | nil => rfl
  | cons p ps ih => rw [List.foldl_cons, ih, List.length_set]

section
variable {X : Cx} {S : Nat → Prop} {σ : St} {a : Act} {w : World} {φ : Pl} {D : Nat → Prop}

theorem Sim.ev (h : Sim X S σ a w φ D) (x : Operand) : RV φ D w (a.eval x) (σ.ev x) := by
  cases x with
  | tmp t => exact h.tm t
  | const v => exact RV_datOf v
  | global g => exact .oth _
  | func f =>
    have := RV.fn (φ := φ) (D := D) (w := w) (.func f) [] [] [] [] rfl rfl (fun i c d h => by simp at h) (fun i c d h => by simp at h)
    exact this
theorem Sim.evs (h : Sim X S σ a w φ D) (xs : List Operand) : RVs φ D w (xs.map a.eval) (xs.map σ.ev) :=
  ⟨by simp, fun i c d hc hd => by
    rw [List.getElem?_map] at hc hd
    cases hx : xs[i]? with
    | none => simp [hx] at hc
    | some x => simp [hx] at hc hd; subst hc; subst hd; exact h.ev x⟩

theorem St.put_t (σ : St) (dst : Option Tmp) (d : Dat) (i : Nat) : (σ.put dst d).t i = if dst = some i ∧ i < σ.nt then d else σ.t i := by
  unfold St.put
  cases dst with
  | none => simp
  | some k =>
    simp only []
    split
    · rename_i hk
      simp only [upd, Option.some.injEq]
      by_cases e : i = k
      · subst e; simp [hk]
      · rw [if_neg e, if_neg (fun h => e h.1.symm)]
    · rename_i hk
      rw [if_neg]
      rintro ⟨h, h2⟩
      injection h with h
      subst h; exact hk h2
@[simp] theorem St.put_nt (σ : St) (dst : Option Tmp) (d : Dat) : (σ.put dst d).nt = σ.nt := by
  unfold St.put; split <;> (try split) <;> rfl
@[simp] theorem St.put_h (σ : St) (dst : Option Tmp) (d : Dat) : (σ.put dst d).h = σ.h := by
  unfold St.put; split <;> (try split) <;> rfl
@[simp] theorem St.put_n (σ : St) (dst : Option Tmp) (d : Dat) : (σ.put dst d).n = σ.n := by
  unfold St.put; split <;> (try split) <;> rfl
theorem Act.put_get (a : Act) (dst : Option Tmp) (v : Value) (i : Nat) : (a.put dst v).tmps.getD i undef = if dst = some i ∧ i < a.tmps.size then v else a.tmps.getD i undef := by
  cases dst with
  | none => simp [Act.put]
  | some k =>
    simp only [Act.put, Array.getD_eq_getD_getElem?, Array.getElem?_setIfInBounds, Option.some.injEq]
    by_cases e : k = i
    · subst e
      by_cases hk : k < a.tmps.size
      · simp [hk]
      · simp [hk, Array.getElem?_eq_none (Nat.le_of_not_lt hk)]
    · simp [e]
theorem Act.put_size (a : Act) (dst : Option Tmp) (v : Value) : (a.put dst v).tmps.size = a.tmps.size := by
  cases dst <;> simp [Act.put]
theorem Act.put_defers' (a : Act) (dst : Option Tmp) (v : Value) : (a.put dst v).defers = a.defers := by
  cases dst <;> rfl

/-- a state where a value was put, and memory changed -/
theorem Sim.step (h : Sim X S σ a w φ D) {S' : Nat → Prop} {w' : World} {φ' : Pl} {D' : Nat → Prop} {h' : Nat → Option Blk} {dst : Option Tmp} {v : Value} {d : Dat}
    (hs : HS X S' h' σ.n w' φ' D') (hφ : PlLe φ φ') (hD : ∀ b, D b → b < w.heap.size → D' b) (hk : Ext D w w') (hv : RV φ' D' w' v d) :
    Sim X S' { σ.put dst d with h := h' } (a.put dst v) w' φ' D' where
  nt := by rw [Act.put_size, h.nt]; simp
  df := by rw [Act.put_defers', h.df]
  tm := fun i => by
    show RV φ' D' w' _ ((σ.put dst d).t i)
    rw [Act.put_get, St.put_t, h.nt]
    split
    · exact hv
    · exact RV.keep hφ hD hk (h.tm i)
  hs := by simpa using hs
theorem Sim.val (h : Sim X S σ a w φ D) {dst : Option Tmp} {v : Value} {d : Dat} (hv : RV φ D w v d) : Sim X S (σ.put dst d) (a.put dst v) w φ D := by
  have := h.step (dst := dst) h.hs (PlLe.refl _) (fun _ h _ => h) (Ext.refl _ _) hv
  have e : { σ.put dst d with h := σ.h } = σ.put dst d := by
    have := St.put_h σ dst d
    cases hq : σ.put dst d
    rw [hq] at this
    simp at this ⊢
    exact this.symm
  rwa [e] at this
end

/-- an operation leads from what stands for σ to what stands for σ' -/
def Goes (P : Program) (X : Cx) (S S' : Nat → Prop) (o : Oper) (σ σ' : St) : Prop :=
  ∀ a w φ D, Sim X S σ a w φ D → ∀ (K : Act → World → Prop) (Q : Exit → Act → World → Prop), (∀ a' w' φ' D', Sim X S' σ' a' w' φ' D' → K a' w') → o.wp P a w K Q

theorem Sim.more {X : Cx} {S S' : Nat → Prop} {σ : St} {a : Act} {w : World} {φ : Pl} {D : Nat → Prop} (h : Sim X S σ a w φ D) (hS : ∀ j, S j → S' j) : Sim X S' σ a w φ D :=
  { h with hs := h.hs.more hS }

/-- the commonest kind: a value, out of an unchanged world -/
theorem goes_val {P : Program} {X : Cx} {S S' : Nat → Prop} {o : Oper} {σ : St} {d : Dat} (hS : ∀ j, S j → S' j)
    (h : ∀ a w φ D, Sim X S σ a w φ D → ∃ v, (execOp a.eval o).run P w = .ok (.value v) w ∧ RV φ D w v d) : Goes P X S S' o σ (σ.put o.dst d) := by
  intro a w φ D hs K Q hK
  obtain ⟨v, hr, hv⟩ := h a w φ D hs
  unfold Oper.wp
  rw [hr, Oper.upon_value]
  exact hK _ _ φ D ((hs.val hv).more hS)
end Go.Ab
/- DERIVED. The abstract operations that only read are sound. No program here. -/
namespace Go.Ab
open Go.RowKit
variable [Lay]

theorem ti_some {P : Program} {t : TypeId} {x : TI} (h : ti P t = some x) : ∃ i u z, P.info? t = some i ∧ P.underlying t = some u ∧ i.zero = some z ∧ i.size = x.sz ∧ i.bytes = x.bytes ∧ u.isRow = x.agg ∧ tkOf u = x.d ∧ z.cells.toList.map datOf1 = x.zero := by
  unfold ti at h
  split at h
  · rename_i i u h1 h2
    split at h
    · rename_i z hz
      injection h with h
      subst h
      exact ⟨i, u, z, h1, h2, hz, rfl, rfl, rfl, rfl, rfl⟩
    · cases h
  · cases h
theorem tk_slice {u : TypeDesc} {e : Nat} (h : tkOf u = .slice e) : u = .slice e := by
  cases u <;> simp [tkOf] at h; subst h; rfl
theorem tk_int {u : TypeDesc} {k : IntKind} (h : tkOf u = .int k) : u = .int k := by
  cases u <;> simp [tkOf] at h; subst h; rfl
theorem tk_bool {u : TypeDesc} (h : tkOf u = .bool) : u = .bool := by
  cases u <;> simp [tkOf] at h; rfl
theorem tk_str {u : TypeDesc} (h : tkOf u = .str) : u = .string := by
  cases u <;> simp [tkOf] at h; rfl
theorem tk_array {u : TypeDesc} {n e : Nat} (h : tkOf u = .array n e) : u = .array n e := by
  cases u <;> simp [tkOf] at h; obtain ⟨rfl, rfl⟩ := h; rfl
theorem tk_struct {u : TypeDesc} {fs : List (Nat × Nat)} (h : tkOf u = .struct fs) : ∃ gs, u = .struct gs ∧ fs = gs.toList.map fun f => (f.offset, f.type) := by
  cases u <;> simp [tkOf] at h; exact ⟨_, rfl, h.symm⟩

section
variable {P : Program} {φ : Pl} {D : Nat → Prop} {w : World}

theorem ti_isAgg {t : TypeId} {x : TI} (h : ti P t = some x) (w : World) : (isAgg t).run P w = .ok x.agg w := by
  obtain ⟨i, u, z, h1, h2, h3, h4, h5, h6, h7, h8⟩ := ti_some h
  unfold isAgg
  rw [Sem.run_bind, run_underlying h2 w, ← h6]
  cases u <;> simp
theorem ti_sizeOf {t : TypeId} {x : TI} (h : ti P t = some x) (w : World) : (sizeOf t).run P w = .ok x.sz w := by
  obtain ⟨i, u, z, h1, h2, h3, h4, h5, h6, h7, h8⟩ := ti_some h
  simp [sizeOf, typeInfo, h1, h4]
/-- a part of an element's cells, read -/
theorem read_cut {cs : List Value} {ds : List Dat} {b o j n st : Nat} (hr : w.rangeAt b o cs) (hl : cs.length = st) (hv : RVs φ D w cs ds) (hj : j + n ≤ st) (agg : Bool) (ha : agg = false → n = 1) {t : TypeId} {x : TI} (ht : ti P t = some x) (hx : x.sz = n) (hx2 : x.agg = agg) :
    ∃ v, (loadVar t ⟨b, o + j, none⟩).run P w = .ok v w ∧ RV φ D w v (cut ds j n agg st) := by
  obtain ⟨i, u, z, h1, h2, h3, h4, h5, h6, h7, h8⟩ := ti_some ht
  cases agg with
  | true =>
    have hc : w.rangeAt b (o + j) ((cs.drop j).take n) := fun k v hk => by
      rw [List.getElem?_take] at hk
      split at hk
      · rw [List.getElem?_drop] at hk
        rw [Nat.add_assoc]; exact hr _ _ hk
      · cases hk
    have hlen : ((cs.drop j).take n).length = n := by simp; omega
    refine ⟨_, run_loadVar_mid (P := P) w b (o + j) t _ u hc h2 (by rw [h6, hx2]) (by rw [h1]; simp; omega), ?_⟩
    unfold cut
    rw [if_pos rfl]
    have hh := (hv.drop j).take n
    split
    · rename_i hjn
      obtain ⟨rfl, rfl⟩ := hjn
      have e : (cs.drop 0).take n = cs := by rw [List.drop_zero, List.take_of_length_le (by omega)]
      rw [e]
      exact .agg _ _ hv.1 hv.2
    · exact .agg _ _ hh.1 hh.2
  | false =>
    have hn := ha rfl
    subst hn
    have hj' : j < cs.length := by omega
    have hc := hr j cs[j] (by simp)
    refine ⟨cs[j], ?_, ?_⟩
    · simp [loadVar, ti_isAgg ht w, hx2, hc]
    · unfold cut
      rw [if_neg (by simp)]
      exact hv.getD (by simp)

/-- an element of a block, its cells -/
theorem Lies.el {g : Nat} {B : Blk} (h : Lies φ D w g B) {k : Nat} (hk : k < B.es.length) :
    ∃ cs : List Value, w.rangeAt g (k * B.st) cs ∧ cs.length = B.st ∧ (∀ v ∈ cs, v.oneCell' = true) ∧ RVs φ D w cs (B.es.getD k []) := by
  obtain ⟨arr, h1, h2, h3⟩ := h
  have hke : B.es[k]? = some B.es[k] := List.getElem?_eq_getElem hk
  obtain ⟨hlen, hcells⟩ := h3 k _ hke
  obtain ⟨cs, hl, hcs⟩ := choose_lt B.st (fun j v => arr[k * B.st + j]? = some v ∧ v.oneCell' = true ∧ ∀ d, (B.es[k])[j]? = some d → RV φ D w v d) (fun j hj => by
    obtain ⟨v, hv, ho, hr⟩ := hcells j _ (List.getElem?_eq_getElem (by omega))
    refine ⟨v, hv, ho, fun d hd => ?_⟩
    rw [List.getElem?_eq_getElem (by omega)] at hd
    injection hd with hd
    rw [← hd]; exact hr)
  have e : B.es.getD k [] = B.es[k] := by rw [List.getD_eq_getElem?_getD, hke]; rfl
  refine ⟨cs, fun j v hv => ?_, hl, fun v hv => ?_, ?_⟩
  · rw [cell_of_row w g _ arr _ _ h1]; exact (hcs j v hv).1
  · obtain ⟨i, hi, rfl⟩ := List.mem_iff_getElem.1 hv
    exact (hcs i _ (by simp)).2.1
  · rw [e]
    exact ⟨by rw [hl, hlen], fun i c d hc hd => (hcs i c hc).2.2 d hd⟩
end

section
variable {P : Program} {X : Cx} {S S' : Nat → Prop} {σ : St} {i : Nat}

/-- the block that an element's address, or a slice, is of -/
theorem Sim.lies {a : Act} {w : World} {φ : Pl} {D : Nat → Prop} (h : Sim X S σ a w φ D) {i g : Nat} {B : Blk} (hi : σ.h i = some B) (hp : φ i = some (some g)) : Lies φ D w g B := by
  rcases h.hs.live i B hi with ⟨h1, _⟩ | ⟨g', h1, h2, _⟩
  · rw [hp] at h1; cases h1
  · rw [hp] at h1; injection h1 with h1; injection h1 with h1; subst h1; exact h2

theorem goes_load {o : Oper} {t : TypeId} {a : Operand} (ho : o.op = .load t a) {x : TI} (ht : ti P t = some x) {e : Ef} (he : evLoad σ x (σ.ev a) = some e) (hs : e.side) (hS : ∀ j, S j → S' j) :
    Goes P X S S' o σ (σ.put o.dst e.val) ∧ e.wr = [] := by
  unfold evLoad at he
  split at he
  · rename_i i k j st hev
    split at he
    · rename_i B hB
      injection he with he
      subst he
      obtain ⟨h1, h2, h3, h4⟩ := hs
      refine ⟨goes_val hS fun A w φ D hsim => ?_, rfl⟩
      have hv := hsim.ev a
      rw [hev] at hv
      obtain ⟨g, hp, hA⟩ := hv.ptr_inv
      have hl := hsim.lies hB hp
      obtain ⟨cs, c1, c2, c3, c4⟩ := hl.el h1
      obtain ⟨v, hr, hrv⟩ := read_cut c1 c2 c4 (j := j) (n := x.sz) (by omega) x.agg h4 ht rfl rfl
      refine ⟨v, ?_, ?_⟩
      · simp only [execOp, ho, hA, Instr.loadAt, Instr.sureAddr, Sem.run_bind, Sem.run_pure, Result.andThen_ok]
        rw [← h3, hr]; rfl
      · show RV φ D w v (cut _ j x.sz x.agg st)
        rw [← h3]; exact hrv
    · cases he
  · rename_i cs j st hev
    injection he with he
    subst he
    obtain ⟨h2, h4⟩ := hs
    refine ⟨goes_val hS fun A w φ D hsim => ?_, rfl⟩
    have hv := hsim.ev a
    rw [hev] at hv
    obtain ⟨b, o', vs, hA, hl, hD, hb, hr, h1, hvs⟩ := hv.rop_inv
    obtain ⟨v, hr, hrv⟩ := read_cut hr hl hvs (j := j) (n := x.sz) (by omega) x.agg h4 ht rfl rfl
    refine ⟨v, ?_, hrv⟩
    simp only [execOp, ho, hA, Instr.loadAt, Instr.sureAddr, Sem.run_bind, Sem.run_pure, Result.andThen_ok]
    rw [hr]; rfl
  · cases he

theorem goes_fieldAddr {o : Oper} {t : TypeId} {a : Operand} {f : Nat} (ho : o.op = .fieldAddr t a f) {e : Ef} (he : evFieldAddr P t (σ.ev a) f = some e) (hs : e.side) (hS : ∀ j, S j → S' j) :
    Goes P X S S' o σ (σ.put o.dst e.val) ∧ e.wr = [] := by
  unfold evFieldAddr at he
  split at he
  · rename_i sz by' ag ze fs ht
    split at he
    · rename_i off ft hf
      obtain ⟨i, u, z, h1, h2, h3, h4, h5, h6, h7, h8⟩ := ti_some ht
      obtain ⟨gs, rfl, hfs⟩ := tk_struct h7
      have hg : ∃ fl : Field, gs[f]? = some fl ∧ fl.offset = off ∧ fl.type = ft := by
        rw [hfs, List.getElem?_map] at hf
        cases hq : gs.toList[f]? with
        | none => simp [hq] at hf
        | some fl => simp [hq] at hf; exact ⟨fl, by simpa using hq, hf.1, hf.2⟩
      obtain ⟨fl, hfl, hoff, hty⟩ := hg
      subst hoff; subst hty
      split at he
      · rename_i y i k j st hy hev
        injection he with he
        subst he
        refine ⟨goes_val hS fun A w φ D hsim => ?_, rfl⟩
        have hv := hsim.ev a
        rw [hev] at hv
        obtain ⟨g, hp, hA⟩ := hv.ptr_inv
        refine ⟨.pointer (some ⟨g, k * st + (j + fl.offset), none⟩), ?_, .ptr i g k (j + fl.offset) st hp⟩
        have hsz := ti_sizeOf hy w
        have hs' : y.sz ≠ 0 := hs
        simp only [execOp, ho, hA, Instr.fieldAt, Instr.sureAddr, Sem.run_bind, run_underlying h2 w, Result.andThen_ok, hfl, Sem.run_pure, fieldPlace, hsz]
        simp [hs', Addr.add_mid, Nat.add_assoc]
      · rename_i y cs j st hy hev
        injection he with he
        subst he
        refine ⟨goes_val hS fun A w φ D hsim => ?_, rfl⟩
        have hv := hsim.ev a
        rw [hev] at hv
        obtain ⟨b, o', vs, hA, hl, hD, hb, hr, h1, hvs⟩ := hv.rop_inv
        refine ⟨.pointer (some ⟨b, o' + (j + fl.offset), none⟩), ?_, .rop b o' _ st _ vs hvs.1 hl hD hb hr h1 hvs.2⟩
        have hsz := ti_sizeOf hy w
        have hs' : y.sz ≠ 0 := hs
        simp only [execOp, ho, hA, Instr.fieldAt, Instr.sureAddr, Sem.run_bind, run_underlying h2 w, Result.andThen_ok, hfl, Sem.run_pure, fieldPlace, hsz]
        simp [hs', Addr.add_mid, Nat.add_assoc]
      · cases he
    · cases he
  · cases he

theorem goes_indexAddr {o : Oper} {t : TypeId} {a ix : Operand} (ho : o.op = .indexAddr t a ix) {e : Ef} (he : evIndexAddr P σ t (σ.ev a) (σ.ev ix) = some e) (hs : e.side) (hS : ∀ j, S j → S' j) :
    Goes P X S S' o σ (σ.put o.dst e.val) ∧ e.wr = [] := by
  unfold evIndexAddr at he
  split at he
  · rename_i sz by' ag ze el k n ht hix
    obtain ⟨i, u, z, h1, h2, h3, h4, h5, h6, h7, h8⟩ := ti_some ht
    obtain rfl := tk_slice h7
    split at he
    · rename_i y st es hy hev
      injection he with he
      subst he
      obtain ⟨hn0, hn1, hst⟩ := hs
      refine ⟨goes_val hS fun A w φ D hsim => ?_, rfl⟩
      have hv := hsim.ev a
      rw [hev] at hv
      have hi := hsim.ev ix
      rw [hix] at hi
      have hI := hi.int_inv
      obtain ⟨A', c, hA, hc1, hc2, hel⟩ := hv.list_inv
      have hlt : n.toNat < es.length := by omega
      obtain ⟨b, o', cs, rfl, hD, hb, hr, hl, h1', hcs⟩ := hel n.toNat _ (List.getElem?_eq_getElem hlt)
      refine ⟨.pointer (some ⟨b, o' + n.toNat * st, none⟩), ?_, ?_⟩
      · have hsz := ti_sizeOf hy w
        simp only [execOp, ho, hA, hI, Instr.indexAt, asIntOf, Sem.run_bind, Sem.run_pure, Result.andThen_ok, run_underlying h2 w]
        have hcond : 0 ≤ n ∧ n < (es.length : Int) := ⟨hn0, by omega⟩
        simp [hcond, hsz, Addr.add_mid, ← hst]
      · have e1 : es.getD n.toNat [] = es[n.toNat] := by rw [List.getD_eq_getElem?_getD, List.getElem?_eq_getElem hlt]; rfl
        show RV φ D w _ (.rop (es.getD n.toNat []) 0 st)
        rw [e1]
        exact .rop b (o' + n.toNat * st) 0 st _ cs hcs.1 hl hD hb hr h1' hcs.2
    · rename_i y i off len st hy hev
      injection he with he
      subst he
      obtain ⟨hn0, hn1, hst⟩ := hs
      refine ⟨goes_val hS fun A w φ D hsim => ?_, rfl⟩
      have hv := hsim.ev a
      rw [hev] at hv
      have hi := hsim.ev ix
      rw [hix] at hi
      have hI := hi.int_inv
      generalize hva : A.eval a = va at hv
      cases hv with
      | ref _ g _ _ c _ hp hlen hc hsz =>
        refine ⟨.pointer (some ⟨g, (off + n.toNat) * st + 0, none⟩), ?_, .ptr i g (off + n.toNat) 0 st hp⟩
        have hsz := ti_sizeOf hy w
        simp only [execOp, ho, hva, hI, Instr.indexAt, asIntOf, Sem.run_bind, Sem.run_pure, Result.andThen_ok, run_underlying h2 w]
        have hcond : 0 ≤ n ∧ n < (len : Int) := ⟨hn0, by omega⟩
        simp [hcond, hsz, Addr.add_mid, ← hst, Nat.add_mul]
      | ref0 => omega
      | refv => omega
    · cases he
  · rename_i sz by' ag ze m el k n ht hix
    obtain ⟨i, u, z, h1, h2, h3, h4, h5, h6, h7, h8⟩ := ti_some ht
    obtain rfl := tk_array h7
    split at he
    · rename_i y i k j st hy hev
      injection he with he
      subst he
      obtain ⟨hn0, hn1⟩ := hs
      refine ⟨goes_val hS fun A w φ D hsim => ?_, rfl⟩
      have hv := hsim.ev a
      rw [hev] at hv
      have hi := hsim.ev ix
      rw [hix] at hi
      have hI := hi.int_inv
      obtain ⟨g, hp, hA⟩ := hv.ptr_inv
      refine ⟨.pointer (some ⟨g, k * st + (j + n.toNat * y.sz), none⟩), ?_, .ptr i g k _ st hp⟩
      have hsz := ti_sizeOf hy w
      have hcond : 0 ≤ n ∧ n < (m : Int) := ⟨hn0, by omega⟩
      simp only [execOp, ho, hA, hI, Instr.indexAt, asIntOf, Instr.sureAddr, Sem.run_bind, Sem.run_pure, Result.andThen_ok, run_underlying h2 w]
      simp [hcond, hsz, Addr.add_mid, Nat.add_assoc]
    · rename_i y cs j st hy hev
      injection he with he
      subst he
      obtain ⟨hn0, hn1⟩ := hs
      refine ⟨goes_val hS fun A w φ D hsim => ?_, rfl⟩
      have hv := hsim.ev a
      rw [hev] at hv
      have hi := hsim.ev ix
      rw [hix] at hi
      have hI := hi.int_inv
      obtain ⟨b, o', vs, hA, hl, hD, hb, hr, h1', hvs⟩ := hv.rop_inv
      refine ⟨.pointer (some ⟨b, o' + (j + n.toNat * y.sz), none⟩), ?_, .rop b o' _ st _ vs hvs.1 hl hD hb hr h1' hvs.2⟩
      have hsz := ti_sizeOf hy w
      have hcond : 0 ≤ n ∧ n < (m : Int) := ⟨hn0, by omega⟩
      simp only [execOp, ho, hA, hI, Instr.indexAt, asIntOf, Instr.sureAddr, Sem.run_bind, Sem.run_pure, Result.andThen_ok, run_underlying h2 w]
      simp [hcond, hsz, Addr.add_mid, Nat.add_assoc]
    · cases he
  · cases he
end
end Go.Ab
/- DERIVED. The abstract operations that only reckon are sound. No program here. -/
namespace Go.Ab
open Go.RowKit
variable [Lay]

section
variable {P : Program} {φ : Pl} {D : Nat → Prop} {w : World}
/-- a part of a value of many cells -/
theorem part_cut {cs : List Value} {ds : List Dat} {j : Nat} (hv : RVs φ D w cs ds) {t : TypeId} {x : TI} (ht : ti P t = some x) (hj : j + x.sz ≤ ds.length) (ha : x.agg = false → x.sz = 1) :
    ∃ v, (part t cs.toArray j).run P w = .ok v w ∧ RV φ D w v (cut ds j x.sz x.agg ds.length) := by
  have hag := ti_isAgg ht w
  have hsz := ti_sizeOf ht w
  have hl := hv.1
  cases hx : x.agg with
  | true =>
    refine ⟨.agg (cs.toArray.extract j (j + x.sz)), ?_, ?_⟩
    · simp [part, hag, hx, hsz]
    · unfold cut
      rw [if_pos rfl]
      have e : cs.toArray.extract j (j + x.sz) = ((cs.drop j).take x.sz).toArray := by
        simp [List.extract_toArray]
      rw [e]
      have hh := (hv.drop j).take x.sz
      split
      · rename_i hjn
        obtain ⟨rfl, h2⟩ := hjn
        have e : (cs.drop 0).take x.sz = cs := by rw [List.drop_zero, List.take_of_length_le (by omega)]
        rw [e]
        exact .agg _ _ hv.1 hv.2
      · exact .agg _ _ hh.1 hh.2
  | false =>
    have hn := ha hx
    have hj' : j < cs.length := by omega
    refine ⟨cs[j], ?_, ?_⟩
    · simp [part, hag, hx, hj']
    · unfold cut
      rw [if_neg (by simp)]
      exact hv.getD (by simp)
end

section
variable {P : Program} {X : Cx} {S S' : Nat → Prop} {σ : St} {i : Nat}

theorem goes_field {o : Oper} {t : TypeId} {a : Operand} {f : Nat} (ho : o.op = .field t a f) {e : Ef} (he : evField P t (σ.ev a) f = some e) (hs : e.side) (hS : ∀ j, S j → S' j) :
    Goes P X S S' o σ (σ.put o.dst e.val) ∧ e.wr = [] := by
  unfold evField at he
  split at he
  · rename_i sz by' ag ze fs cs ht hev
    split at he
    · rename_i off ft hf
      obtain ⟨i, u, z, h1, h2, h3, h4, h5, h6, h7, h8⟩ := ti_some ht
      obtain ⟨gs, rfl, hfs⟩ := tk_struct h7
      have hg : ∃ fl : Field, gs[f]? = some fl ∧ fl.offset = off ∧ fl.type = ft := by
        rw [hfs, List.getElem?_map] at hf
        cases hq : gs.toList[f]? with
        | none => simp [hq] at hf
        | some fl => simp [hq] at hf; exact ⟨fl, by simpa using hq, hf.1, hf.2⟩
      obtain ⟨fl, hfl, hoff, hty⟩ := hg
      subst hoff; subst hty
      split at he
      · rename_i y hy
        injection he with he
        subst he
        obtain ⟨s1, s2⟩ := hs
        refine ⟨goes_val hS fun A w φ D hsim => ?_, rfl⟩
        have hv := hsim.ev a
        rw [hev] at hv
        obtain ⟨vs, hA, hvs⟩ := hv.agg_inv
        obtain ⟨v, hr, hrv⟩ := part_cut (P := P) hvs (j := fl.offset) hy s1 s2
        refine ⟨v, ?_, hrv⟩
        simp only [execOp, ho, hA, Instr.field, asAgg, Sem.run_bind, Sem.run_pure, run_underlying h2 w, Result.andThen_ok, hfl, hr]
      · cases he
    · cases he
  · cases he

theorem goes_index {o : Oper} {t : TypeId} {a ix : Operand} (ho : o.op = .index t a ix) {e : Ef} (he : evIndex P t (σ.ev a) (σ.ev ix) = some e) (hs : e.side) (hS : ∀ j, S j → S' j) :
    Goes P X S S' o σ (σ.put o.dst e.val) ∧ e.wr = [] := by
  unfold evIndex at he
  split at he
  · rename_i sz by' ag ze m el cs k n ht hev hix
    obtain ⟨i, u, z, h1, h2, h3, h4, h5, h6, h7, h8⟩ := ti_some ht
    obtain rfl := tk_array h7
    split at he
    · rename_i y hy
      injection he with he
      subst he
      obtain ⟨s0, s1, s2, s3⟩ := hs
      refine ⟨goes_val hS fun A w φ D hsim => ?_, rfl⟩
      have hv := hsim.ev a
      rw [hev] at hv
      have hi := hsim.ev ix
      rw [hix] at hi
      have hI := hi.int_inv
      obtain ⟨vs, hA, hvs⟩ := hv.agg_inv
      obtain ⟨v, hr, hrv⟩ := part_cut (P := P) hvs (j := n.toNat * y.sz) hy s2 s3
      refine ⟨v, ?_, hrv⟩
      have hsz := ti_sizeOf hy w
      have hcond : 0 ≤ n ∧ n < (m : Int) := ⟨s0, by omega⟩
      simp only [execOp, ho, hA, hI, Instr.index, asIntOf, Sem.run_bind, Sem.run_pure, run_underlying h2 w, Result.andThen_ok]
      simp [hcond, hsz, hr]
    · cases he
  · rename_i sz by' ag ze s k n ht hev hix
    obtain ⟨i, u, z, h1, h2, h3, h4, h5, h6, h7, h8⟩ := ti_some ht
    obtain rfl := tk_str h7
    injection he with he
    subst he
    obtain ⟨s0, s1⟩ := hs
    refine ⟨goes_val hS fun A w φ D hsim => ?_, rfl⟩
    have hv := hsim.ev a
    rw [hev] at hv
    have hi := hsim.ev ix
    rw [hix] at hi
    have hI := hi.int_inv
    have hA := hv.str_inv
    have hlt : n.toNat < s.size := by omega
    refine ⟨.int .u8 (s[n.toNat]).toNat, ?_, ?_⟩
    · simp only [execOp, ho, hA, hI, Instr.index, asIntOf, Sem.run_bind, Sem.run_pure, run_underlying h2 w, Result.andThen_ok]
      simp [s0, hlt]
    · show RV φ D w _ (.int .u8 (s.data.toList.getD n.toNat 0).toNat)
      have e : s.data.toList.getD n.toNat 0 = s[n.toNat] := by
        have hlt' : n.toNat < s.data.size := hlt
        rw [List.getD_eq_getElem?_getD, Array.getElem?_toList, Array.getElem?_eq_getElem hlt']
        rfl
      rw [e]; exact .int _ _
  · cases he

theorem goes_pick {o : Oper} {c x y : Operand} (ho : o.op = .pick c x y) {p : Bool} (he : σ.ev c = .bool p) (hS : ∀ j, S j → S' j) :
    Goes P X S S' o σ (σ.put o.dst (if p then σ.ev x else σ.ev y)) :=
  goes_val hS fun A w φ D hsim => by
    have hv := hsim.ev c
    rw [he] at hv
    have hA := hv.bool_inv
    refine ⟨if p then A.eval x else A.eval y, ?_, ?_⟩
    · simp only [execOp, ho, hA, asBool, Sem.run_bind, Sem.run_pure, Result.andThen_ok]
    · cases p
      · exact hsim.ev y
      · exact hsim.ev x

theorem goes_nilCheck {o : Oper} {x : Operand} (ho : o.op = .nilCheck x) (hd : (∃ i k j st, σ.ev x = .ptr i k j st) ∨ ∃ cs j st, σ.ev x = .rop cs j st) (hS : ∀ j, S j → S' j) :
    Goes P X S S' o σ (σ.put o.dst (σ.ev x)) :=
  goes_val hS fun A w φ D hsim => by
    have hv := hsim.ev x
    have hp : ∃ ad, A.eval x = .pointer (some ad) := by
      rcases hd with ⟨i, k, j, st, h⟩ | ⟨cs, j, st, h⟩
      · rw [h] at hv; obtain ⟨g, _, h⟩ := hv.ptr_inv; exact ⟨_, h⟩
      · rw [h] at hv; obtain ⟨b, o, cs, h, _⟩ := hv.rop_inv; exact ⟨_, h⟩
    obtain ⟨ad, had⟩ := hp
    refine ⟨A.eval x, ?_, hv⟩
    simp only [execOp, ho, had, Sem.run_pure]

theorem goes_bin {o : Oper} {op : BinOp} {t t' : TypeId} {x y : Operand} (ho : o.op = .binOp op t x y t') {e : Ef} (he : evBin P t op (σ.ev x) (σ.ev y) = some e) (hs : e.side) (hS : ∀ j, S j → S' j) :
    Goes P X S S' o σ (σ.put o.dst e.val) ∧ e.wr = [] := by
  unfold evBin at he
  split at he
  · rename_i a b hx hy
    have key : ∀ v, (∀ w, P.underlying t = some .bool → (binOp op t (.bool a) (.bool b)).run P w = .ok v w) → (∀ φ D w, RV φ D w v e.val) → isB P t → Goes P X S S' o σ (σ.put o.dst e.val) := fun v h1 h2 hb => by
      obtain ⟨q1, q2, q3, q4, q5⟩ := hb
      obtain ⟨i, u, z, h3, h4, _, _, _, _, h9, _⟩ := ti_some q5
      obtain rfl := tk_bool h9
      exact goes_val hS fun A w φ D hsim => by
        have hA := hsim.ev x
        rw [hx] at hA
        have hB := hsim.ev y
        rw [hy] at hB
        refine ⟨v, ?_, h2 φ D w⟩
        simp only [execOp, ho, hA.bool_inv, hB.bool_inv, Sem.run_bind, eqGuard_at_bool, Sem.run_pure, Result.andThen_ok, h1 _ h4]
    split at he
    · injection he with he
      subst he
      exact ⟨key _ (fun w h => run_eql_bool w t a b h) (fun φ D w => .bool _) hs, rfl⟩
    · injection he with he
      subst he
      exact ⟨key _ (fun w h => run_neq_bool w t a b h) (fun φ D w => .bool _) hs, rfl⟩
    · cases he
  · rename_i k a k' b hx hy
    have key : ∀ v, (∀ w, (binOp op t (.int k a) (.int k' b)).run P w = .ok v w) → (∀ φ D w, RV φ D w v e.val) → Goes P X S S' o σ (σ.put o.dst e.val) := fun v h1 h2 =>
      goes_val hS fun A w φ D hsim => by
        have hA := hsim.ev x
        rw [hx] at hA
        have hB := hsim.ev y
        rw [hy] at hB
        refine ⟨v, ?_, h2 φ D w⟩
        simp only [execOp, ho, hA.int_inv, hB.int_inv, Sem.run_bind, eqGuard_at_int, Sem.run_pure, Result.andThen_ok, h1]
    have hk : ∀ e0, (match binInt op k a b with | some e => some { e with side := e.side ∧ k = k' } | none => none) = some e0 → e0.side → ∃ e1, binInt op k a b = some e1 ∧ e1.val = e0.val ∧ e1.wr = e0.wr ∧ e1.side ∧ k = k' := by
      intro e0 h0 hs0
      cases hb : binInt op k a b with
      | none => simp [hb] at h0
      | some e1 => simp [hb] at h0; subst h0; exact ⟨e1, rfl, rfl, rfl, hs0.1, hs0.2⟩
    split at he
    · simp only [binInt] at he
      injection he with he
      subst he
      have hs' : 0 ≤ b := hs
      refine ⟨key _ (fun w => ?_) (fun φ D w => .int _ _), rfl⟩
      have : ¬ b < 0 := by omega
      simp [binOp, Op.shift, this]
    · simp only [binInt] at he
      injection he with he
      subst he
      have hs' : 0 ≤ b := hs
      refine ⟨key _ (fun w => ?_) (fun φ D w => .int _ _), rfl⟩
      have : ¬ b < 0 := by omega
      simp [binOp, Op.shift, this]
    · obtain ⟨e1, h1, h2, h3, h4, rfl⟩ := hk e he hs
      rw [← h2, ← h3]
      rw [← h2] at key
      cases op <;> simp only [binInt, reduceCtorEq] at h1 <;> (try (injection h1 with h1; subst h1)) <;>
        first
        | exact absurd rfl ‹¬ _ = _›
        | (refine ⟨key _ (fun w => ?_) (fun φ D w => .int _ _), rfl⟩; simp [binOp, Op.intArith]; done)
        | (refine ⟨key _ (fun w => ?_) (fun φ D w => .bool _), rfl⟩; simp [binOp, Op.intCmp]; done)
        | (refine ⟨key _ (fun w => ?_) (fun φ D w => .int _ _), rfl⟩; simp [binOp, Op.intBits]; done)
        | (refine ⟨key _ (fun w => ?_) (fun φ D w => .int _ _), rfl⟩; have h4' : b ≠ 0 := h4; simp [binOp, Op.intDiv, h4']; done)
        | (exfalso; simp_all; done)
  · rename_i a b hx hy
    have key : ∀ v, (∀ w, (binOp op t (.string a) (.string b)).run P w = .ok v w) → (∀ φ D w, RV φ D w v e.val) → Goes P X S S' o σ (σ.put o.dst e.val) := fun v h1 h2 =>
      goes_val hS fun A w φ D hsim => by
        have hA := hsim.ev x
        rw [hx] at hA
        have hB := hsim.ev y
        rw [hy] at hB
        refine ⟨v, ?_, h2 φ D w⟩
        simp only [execOp, ho, hA.str_inv, hB.str_inv, Sem.run_bind, eqGuard_at_string, Sem.run_pure, Result.andThen_ok, h1]
    split at he
    · injection he with he
      subst he
      exact ⟨key _ (fun w => by simp [binOp, Op.stringOp]) (fun φ D w => .bool _), rfl⟩
    · injection he with he
      subst he
      exact ⟨key _ (fun w => by simp [binOp, Op.stringOp]) (fun φ D w => .bool _), rfl⟩
    · injection he with he
      subst he
      exact ⟨key _ (fun w => by simp [binOp, Op.stringOp]) (fun φ D w => .bool _), rfl⟩
    · injection he with he
      subst he
      exact ⟨key _ (fun w => by simp [binOp, Op.stringOp]) (fun φ D w => .bool _), rfl⟩
    · cases he
  · cases he

theorem goes_un {o : Oper} {op : UnOp} {t : TypeId} {x : Operand} (ho : o.op = .unOp op t x) {e : Ef} (he : evUn op (σ.ev x) = some e) (hS : ∀ j, S j → S' j) :
    Goes P X S S' o σ (σ.put o.dst e.val) ∧ e.wr = [] := by
  unfold evUn at he
  split at he
  · rename_i b hx
    injection he with he
    subst he
    refine ⟨goes_val hS fun A w φ D hsim => ?_, rfl⟩
    have hA := hsim.ev x
    rw [hx] at hA
    exact ⟨.bool (!b), by simp [execOp, ho, hA.bool_inv, Op.unary], .bool _⟩
  · rename_i k n hx
    injection he with he
    subst he
    refine ⟨goes_val hS fun A w φ D hsim => ?_, rfl⟩
    have hA := hsim.ev x
    rw [hx] at hA
    exact ⟨.int k (k.wrap (0 - n)), by simp [execOp, ho, hA.int_inv, Op.unary, Op.intArith], .int _ _⟩
  · rename_i k n hx
    injection he with he
    subst he
    refine ⟨goes_val hS fun A w φ D hsim => ?_, rfl⟩
    have hA := hsim.ev x
    rw [hx] at hA
    exact ⟨_, by simp only [execOp, ho, hA.int_inv, Op.unary, Op.intBits, Sem.run_bind, Sem.run_pure, Result.andThen_ok], .int _ _⟩
  · cases he

theorem bound_ok {P : Program} {w : World} {k : IntKind} {n : Int} {y : Nat} (c : BoundsCode) (h0 : 0 ≤ n) (h1 : n ≤ y) : (Instr.sliceBound (.int k n) y c).run P w = .ok n.toNat w := by
  have : 0 ≤ n ∧ n ≤ (y : Int) := ⟨h0, h1⟩
  simp [Instr.sliceBound, asIntOf, this]

/-- the two bounds, as the model reckons them -/
theorem bounds_ok {P : Program} {w : World} {A : Act} {φ : Pl} {D : Nat → Prop} {lo hi : Option Operand} {a b : Int} {len cap : Nat} {isSlice : Bool} (hsim : Sim X S σ A w φ D)
    (hlo : (match lo.map σ.ev with | some (.int _ n) => some n | none => some 0 | _ => none) = some a)
    (hhi : (match hi.map σ.ev with | some (.int _ n) => some n | none => some (len : Int) | _ => none) = some b) (h0 : 0 ≤ a) (h1 : a ≤ b) (h2 : b ≤ cap) :
    (Instr.sliceBounds isSlice len cap (lo.map A.eval) (hi.map A.eval) none).run P w = .ok (a.toNat, b.toNat, cap) w := by
  have e1 : (∃ k, hi.map A.eval = some (.int k b)) ∨ (hi.map A.eval = none ∧ b = len) := by
    cases hi with
    | none => simp at hhi; exact .inr ⟨rfl, hhi.symm⟩
    | some x =>
      have hx := hsim.ev x
      simp only [Option.map_some] at hhi
      split at hhi
      · rename_i k n hn
        injection hn with hn
        rw [hn] at hx
        injection hhi with hhi
        subst hhi
        exact .inl ⟨k, by rw [Option.map_some, hx.int_inv]⟩
      · rename_i hn; cases hn
      · cases hhi
  have e2 : (∃ k, lo.map A.eval = some (.int k a)) ∨ (lo.map A.eval = none ∧ a = 0) := by
    cases lo with
    | none => simp at hlo; exact .inr ⟨rfl, hlo.symm⟩
    | some x =>
      have hx := hsim.ev x
      simp only [Option.map_some] at hlo
      split at hlo
      · rename_i k n hn
        injection hn with hn
        rw [hn] at hx
        injection hlo with hlo
        subst hlo
        exact .inl ⟨k, by rw [Option.map_some, hx.int_inv]⟩
      · rename_i hn; cases hn
      · cases hlo
  rcases e1 with ⟨k, e1⟩ | ⟨e1, e1'⟩ <;> rcases e2 with ⟨k', e2⟩ | ⟨e2, e2'⟩
  · have hb := fun c => bound_ok (P := P) (w := w) (k := k) c (n := b) (y := cap) (by omega) h2
    have ha := fun c => bound_ok (P := P) (w := w) (k := k') c (n := a) (y := b.toNat) h0 (by omega)
    simp [Instr.sliceBounds, e1, e2, hb, ha]
  · have hb := fun c => bound_ok (P := P) (w := w) (k := k) c (n := b) (y := cap) (by omega) h2
    simp [Instr.sliceBounds, e1, e2, hb, e2']
  · have ha := fun c => bound_ok (P := P) (w := w) (k := k') c (n := a) (y := len) h0 (by omega)
    simp [Instr.sliceBounds, e1, e2, ha, e1']
  · simp [Instr.sliceBounds, e1, e2, e1', e2']

theorem RV.list_drop {φ : Pl} {D : Nat → Prop} {w : World} {A : Option Addr} {n c st : Nat} {es : List (List Dat)} (h : RV φ D w (.slice A n c) (.list st es)) {a b : Nat} (hab : a ≤ b) (hb : b ≤ es.length) :
    RV φ D w (.slice (if c = a then A else A.map (·.add (a * st))) (b - a) (c - a)) (.list st ((es.take b).drop a)) := by
  obtain ⟨A', c', hv, h1, h2, h3⟩ := h.list_inv
  injection hv with e1 e2 e3
  subst e1; subst e3
  refine RV.list_mk (by simp; omega) (by simp; omega) (by omega) fun i e he => ?_
  rw [List.getElem?_drop, List.getElem?_take] at he
  split at he
  · rename_i hi
    obtain ⟨b', o, cs, rfl, q1, q2, q3, q4, q5, q6⟩ := h3 (a + i) e he
    refine ⟨b', o + a * st, cs, ?_, q1, q2, ?_, q4, q5, q6⟩
    · rw [if_neg (by omega)]; simp [Addr.add_mid]
    · have : o + a * st + i * st = o + (a + i) * st := by rw [Nat.add_mul]; omega
      rw [this]; exact q3
  · cases he

theorem goes_slice {o : Oper} {t : TypeId} {x : Operand} {lo hi : Option Operand} (ho : o.op = .slice t x lo hi none) {y : TI} (ht : ti P t = some y) {e : Ef} (he : evSlice σ.h y.d (σ.ev x) (lo.map σ.ev) (hi.map σ.ev) = some e)
    (hst : ∀ el z, y.d = .slice el → ti P el = some z → (match σ.ev x with | .list st _ => st = z.sz | .ref _ _ _ st => st = z.sz | _ => True)) (hel : ∀ el, y.d = .slice el → (ti P el).isSome = true) (hs : e.side) (hS : ∀ j, S j → S' j) :
    Goes P X S S' o σ (σ.put o.dst e.val) ∧ e.wr = [] := by
  obtain ⟨i, u, z, h1, h2, h3, h4, h5, h6, h7, h8⟩ := ti_some ht
  unfold evSlice at he
  simp only [] at he
  split at he
  · rename_i el st es hd hev
    rw [hd] at h7
    obtain rfl := tk_slice h7
    split at he
    · rename_i a b ha hb
      injection he with he
      subst he
      obtain ⟨s0, s1, s2⟩ := hs
      refine ⟨goes_val hS fun A w φ D hsim => ?_, rfl⟩
      have hv := hsim.ev x
      rw [hev] at hv
      obtain ⟨A', c, hA, hc1, hc2, hel'⟩ := hv.list_inv
      obtain ⟨z', hz'⟩ := Option.isSome_iff_exists.1 (hel el hd)
      have hst' := hst el z' hd hz'
      rw [hev] at hst'
      have hst'' : st = z'.sz := hst'
      have hsz := ti_sizeOf hz' w
      have hbd := bounds_ok (P := P) (isSlice := true) (cap := c) hsim ha hb s0 s1 (by omega)
      rw [hA] at hv
      refine ⟨.slice (if c = a.toNat then A' else A'.map (·.add (a.toNat * z'.sz))) (b.toNat - a.toNat) (c - a.toNat), ?_, ?_⟩
      · simp only [execOp, ho, hA, Instr.sliceAt, Instr.slice, Sem.run_bind, Sem.run_pure, run_underlying h2 w, Result.andThen_ok, Option.map_none, hbd, hsz]
      · have := hv.list_drop (a := a.toNat) (b := b.toNat) (by omega) (by omega)
        rw [← hst'']
        by_cases hbe : b = es.length
        · have e1 : es.take b.toNat = es := List.take_of_length_le (by omega)
          rw [e1] at this
          simp only [if_pos hbe]
          exact this
        · simp only [if_neg hbe]
          exact this
    · cases he
  · rename_i el hd hev
    rw [hd] at h7
    obtain rfl := tk_slice h7
    split at he
    · rename_i a b ha hb
      injection he with he
      subst he
      obtain ⟨s0, s1⟩ := hs
      subst s0; subst s1
      refine ⟨goes_val hS fun A w φ D hsim => ?_, rfl⟩
      have hv := hsim.ev x
      rw [hev] at hv
      have hA := hv.nil_inv
      obtain ⟨z', hz'⟩ := Option.isSome_iff_exists.1 (hel el hd)
      have hsz := ti_sizeOf hz' w
      have hbd := bounds_ok (P := P) (isSlice := true) (cap := 0) hsim ha hb (by omega) (by omega) (by simp)
      refine ⟨.slice none 0 0, ?_, .nil⟩
      simp only [execOp, ho, hA, Instr.sliceAt, Instr.slice, Sem.run_bind, Sem.run_pure, run_underlying h2 w, Result.andThen_ok, Option.map_none, hbd, hsz]
      rfl
    · cases he
  · rename_i el i' off len st hd hev
    rw [hd] at h7
    obtain rfl := tk_slice h7
    split at he
    · rename_i a b ha hb
      injection he with he
      subst he
      obtain ⟨s0, s1, s2⟩ := hs
      refine ⟨goes_val hS fun A w φ D hsim => ?_, rfl⟩
      have hv := hsim.ev x
      rw [hev] at hv
      obtain ⟨z', hz'⟩ := Option.isSome_iff_exists.1 (hel el hd)
      have hst' := hst el z' hd hz'
      rw [hev] at hst'
      have hst'' : st = z'.sz := hst'
      have hsz := ti_sizeOf hz' w
      generalize hva : A.eval x = va at hv
      cases hv with
      | ref _ g _ _ c _ hp hlen hc hszz =>
        have hbc : b ≤ (c : Int) := by
          rcases s2 with s2 | ⟨B, hB, hBst, rfl, hpos, hle⟩
          · omega
          · have hl := hsim.lies hB hp
            obtain ⟨arr, l1, l2, _⟩ := hl
            obtain ⟨e', he'⟩ := hszz
            unfold World.shape? at he'
            rw [l1] at he'
            simp at he'
            rw [hBst, he'.2] at l2
            have := Nat.le_of_mul_le_mul_right l2 hpos
            omega
        have hbd := bounds_ok (P := P) (isSlice := true) (cap := c) hsim ha hb s0 s1 (by omega)
        refine ⟨.slice (if c = a.toNat then some ⟨g, off * st, none⟩ else (some ⟨g, off * st, none⟩ : Option Addr).map (·.add (a.toNat * z'.sz))) (b.toNat - a.toNat) (c - a.toNat), ?_, ?_⟩
        · simp only [execOp, ho, hva, Instr.sliceAt, Instr.slice, Sem.run_bind, Sem.run_pure, run_underlying h2 w, Result.andThen_ok, Option.map_none, hbd, hsz]
        · show RV φ D w _ (.ref i' (off + a.toNat) (b.toNat - a.toNat) st)
          by_cases hca : c = a.toNat
          · rw [if_pos hca]
            have e1 : b.toNat - a.toNat = 0 := by omega
            have e2 : c - a.toNat = 0 := by omega
            rw [e1, e2]
            by_cases h0 : 0 < off + a.toNat
            · exact .ref0 i' _ st _ h0
            · have e3 : off = 0 := by omega
              have e4 : a.toNat = 0 := by omega
              have e5 : c = 0 := by omega
              subst e3; subst e5
              rw [e4]
              exact .ref i' g 0 0 0 st hp (Nat.le_refl _) (Nat.zero_le _) (by simpa using hszz)
          · rw [if_neg hca]
            have hadd : (Option.map (fun ad : Addr => ad.add (a.toNat * z'.sz)) (some ⟨g, off * st, none⟩)) = some ⟨g, (off + a.toNat) * st, none⟩ := by
              simp [Addr.add_mid, ← hst'', Nat.add_mul]
            rw [hadd]
            refine .ref i' g (off + a.toNat) _ (c - a.toNat) st hp (by omega) (by omega) ?_
            obtain ⟨e, he⟩ := hszz
            refine ⟨e, ?_⟩
            rw [he]
            congr 2
            congr 1
            omega
      | ref0 _ _ _ A' h0 =>
        have s2 : b ≤ 0 := by
          rcases s2 with s2 | ⟨B, hB, hBst, h0', hpos, hle⟩ <;> omega
        have hbd := bounds_ok (P := P) (isSlice := true) (cap := 0) hsim ha hb s0 s1 (by omega)
        refine ⟨.slice (if 0 = a.toNat then A' else A'.map (·.add (a.toNat * z'.sz))) (b.toNat - a.toNat) (0 - a.toNat), ?_, ?_⟩
        · simp only [execOp, ho, hva, Instr.sliceAt, Instr.slice, Sem.run_bind, Sem.run_pure, run_underlying h2 w, Result.andThen_ok, Option.map_none, hbd, hsz]
        · show RV φ D w _ (.ref i' (off + a.toNat) (b.toNat - a.toNat) st)
          have e1 : b.toNat - a.toNat = 0 := by omega
          rw [e1, Nat.zero_sub]
          exact .ref0 i' _ st _ (by omega)
      | refv _ _ hp =>
        have s2 : b ≤ 0 := by
          rcases s2 with s2 | ⟨B, hB, hBst, h0', hpos, hle⟩
          · exact s2
          · rcases hsim.hs.live i' B hB with ⟨_, q⟩ | ⟨g, q, _⟩
            · rw [q] at hle; simpa using hle
            · rw [hp] at q; cases q
        have hbd := bounds_ok (P := P) (isSlice := true) (cap := 0) hsim ha hb s0 s1 (by omega)
        have e1 : b.toNat = 0 := by omega
        have e2 : a.toNat = 0 := by omega
        refine ⟨.slice none 0 0, ?_, ?_⟩
        · simp only [execOp, ho, hva, Instr.sliceAt, Instr.slice, Sem.run_bind, Sem.run_pure, run_underlying h2 w, Result.andThen_ok, Option.map_none, hbd, hsz, e1, e2]
          rfl
        · show RV φ D w _ (.ref i' (0 + a.toNat) (b.toNat - a.toNat) st)
          rw [e1, e2]
          exact .refv i' st hp
    · cases he
  · rename_i s hd hev
    rw [hd] at h7
    obtain rfl := tk_str h7
    split at he
    · rename_i a b ha hb
      injection he with he
      subst he
      obtain ⟨s0, s1, s2⟩ := hs
      refine ⟨goes_val hS fun A w φ D hsim => ?_, rfl⟩
      have hv := hsim.ev x
      rw [hev] at hv
      have hA := hv.str_inv
      have hbd := bounds_ok (P := P) (isSlice := false) (cap := s.size) hsim ha hb s0 s1 (by omega)
      refine ⟨.string (s.extract a.toNat b.toNat), ?_, .str _⟩
      simp [execOp, ho, hA, Instr.sliceAt, Instr.slice, run_underlying h2 w, hbd]
    · cases he
  · cases he

theorem goes_convert {o : Oper} {src dst : TypeId} {x : Operand} (ho : o.op = .convert src dst x) (hsrc : (ti P src).isSome = true) {e : Ef}
    (he : (match ti P dst, σ.ev x with | some ⟨_, _, _, _, .int k⟩, .int _ n => some { val := Dat.int k (k.wrap n) : Ef } | some ⟨_, _, _, _, .str⟩, .str s => some { val := .str s } | _, _ => none) = some e) (hS : ∀ j, S j → S' j) :
    Goes P X S S' o σ (σ.put o.dst e.val) ∧ e.wr = [] := by
  obtain ⟨xs, hxs⟩ := Option.isSome_iff_exists.1 hsrc
  obtain ⟨i', u', z', g1, g2, g3, g4, g5, g6, g7, g8⟩ := ti_some hxs
  split at he
  · rename_i sz by' ag ze k k' n ht hev
    obtain ⟨i, u, z, h1, h2, h3, h4, h5, h6, h7, h8⟩ := ti_some ht
    obtain rfl := tk_int h7
    injection he with he
    subst he
    refine ⟨goes_val hS fun A w φ D hsim => ?_, rfl⟩
    have hv := hsim.ev x
    rw [hev] at hv
    have hA := hv.int_inv
    refine ⟨.int k (k.wrap n), ?_, .int _ _⟩
    simp [execOp, ho, hA, convert, run_underlying g2 w, run_underlying h2 w, Conv.intToInt]
  · rename_i sz by' ag ze s ht hev
    obtain ⟨i, u, z, h1, h2, h3, h4, h5, h6, h7, h8⟩ := ti_some ht
    obtain rfl := tk_str h7
    injection he with he
    subst he
    refine ⟨goes_val hS fun A w φ D hsim => ?_, rfl⟩
    have hv := hsim.ev x
    rw [hev] at hv
    have hA := hv.str_inv
    refine ⟨.string s, ?_, .str _⟩
    cases u' <;> simp [execOp, ho, hA, convert, run_underlying g2 w, run_underlying h2 w]
  · cases he

theorem goes_makeFunc {o : Oper} {f : Fn} {first cap : Array Operand} (ho : o.op = .makeFunc f first cap) (hS : ∀ j, S j → S' j) :
    Goes P X S S' o σ (σ.put o.dst (.fn f (first.toList.map σ.ev) (cap.toList.map σ.ev))) :=
  goes_val hS fun A w φ D hsim => by
    have h1 := hsim.evs first.toList
    have h2 := hsim.evs cap.toList
    refine ⟨.func f (first.toList.map A.eval).toArray (cap.toList.map A.eval).toArray, ?_, .fn f _ _ _ _ h1.1 h2.1 h1.2 h2.2⟩
    have e : ∀ a : Array Operand, (a.toList.map A.eval).toArray = a.map A.eval := fun a => by simp [← Array.toList_map]
    simp [execOp, ho, Instr.makeFunc, e]

theorem goes_extract {o : Oper} {x : Operand} {k : Nat} (ho : o.op = .extract x k) {ds : List Dat} (he : σ.ev x = .tup ds) (hk : k < ds.length) (hS : ∀ j, S j → S' j) :
    Goes P X S S' o σ (σ.put o.dst (ds.getD k (.oth undef))) :=
  goes_val hS fun A w φ D hsim => by
    have hv := hsim.ev x
    rw [he] at hv
    obtain ⟨cs, hA, hcs⟩ := hv.tup_inv
    have hl : k < cs.length := by rw [hcs.1]; exact hk
    refine ⟨cs[k], ?_, hcs.getD (by simp)⟩
    simp [execOp, ho, hA, Instr.extract, hl]
end
end Go.Ab
/- DERIVED. The abstract operations that make memory, or write it, are sound. No program here. -/
namespace Go.Ab
open Go.RowKit
variable [Lay]

/-- cells, row by row -/
structure Rws (φ : Pl) (D : Nat → Prop) (w : World) (vs : List Value) (es : List (List Dat)) (st : Nat) : Prop where
  len : vs.length = es.length * st
  one : ∀ v ∈ vs, v.oneCell' = true
  el : ∀ (k : Nat) e, es[k]? = some e → e.length = st ∧ ∀ (j : Nat) d, e[j]? = some d → ∃ u, vs[k * st + j]? = some u ∧ RV φ D w u d

section
variable {φ φ' : Pl} {D D' : Nat → Prop} {w w' : World} {vs us : List Value} {es fs : List (List Dat)} {st : Nat}
theorem Rws.nil : Rws φ D w [] [] st := ⟨by simp, fun v h => by simp at h, fun k e h => by simp at h⟩
theorem Rws.keep (h : Rws φ D w vs es st) (hφ : PlLe φ φ') (hD : ∀ b, D b → b < w.heap.size → D' b) (hk : Ext D w w') : Rws φ' D' w' vs es st :=
  ⟨h.len, h.one, fun k e he => ⟨(h.el k e he).1, fun j d hd => by obtain ⟨u, hu, hr⟩ := (h.el k e he).2 j d hd; exact ⟨u, hu, RV.keep hφ hD hk hr⟩⟩⟩
theorem Rws.append (h : Rws φ D w vs es st) (k : Rws φ D w us fs st) : Rws φ D w (vs ++ us) (es ++ fs) st where
  len := by simp [h.len, k.len, Nat.add_mul]
  one := fun v hv => by rcases List.mem_append.1 hv with h1 | h1; exact h.one v h1; exact k.one v h1
  el := fun i e he => by
    rcases Nat.lt_or_ge i es.length with hi | hi
    · rw [List.getElem?_append_left hi] at he
      refine ⟨(h.el i e he).1, fun j d hd => ?_⟩
      obtain ⟨u, hu, hr⟩ := (h.el i e he).2 j d hd
      exact ⟨u, by rw [List.getElem?_append_left (List.getElem?_eq_some_iff.1 hu).1]; exact hu, hr⟩
    · rw [List.getElem?_append_right hi] at he
      refine ⟨(k.el _ e he).1, fun j d hd => ?_⟩
      obtain ⟨u, hu, hr⟩ := (k.el _ e he).2 j d hd
      have e1 : i * st + j = vs.length + ((i - es.length) * st + j) := by
        rw [h.len]
        have : i * st = es.length * st + (i - es.length) * st := by rw [← Nat.add_mul]; congr 1; omega
        omega
      refine ⟨u, ?_, hr⟩
      rw [e1, List.getElem?_append_right (by omega), Nat.add_sub_cancel_left]; exact hu
theorem Rws.one_row {cs : List Value} {ds : List Dat} (h : RVs φ D w cs ds) (hl : ds.length = st) (h1 : ∀ v ∈ cs, v.oneCell' = true) : Rws φ D w cs [ds] st :=
  ⟨by simp [h.1, hl], h1, fun k e he => by
    match k, he with
    | 0, he =>
      simp at he
      subst he
      refine ⟨hl, fun j d hd => ?_⟩
      have hj : j < cs.length := by rw [h.1]; exact (List.getElem?_eq_some_iff.1 hd).1
      exact ⟨cs[j], by simp [hj], h.2 j _ d (by simp) hd⟩⟩
theorem Rws.le_size {arr : Array Value} (h : Rws φ D w vs es st) (hp : ∀ (j : Nat) u, vs[j]? = some u → arr[j]? = some u) : es.length * st ≤ arr.size := by
  rw [← h.len]
  rcases Nat.eq_zero_or_pos vs.length with h0 | h0
  · omega
  · have := hp (vs.length - 1) (vs[vs.length - 1]) (by simp)
    have := (Array.getElem?_eq_some_iff.1 this).1
    omega
theorem Rws.lies {arr : Array Value} {g e : Nat} {fz : Bool} (h : Rws φ D w vs es st) (hg : w.heap[g]? = some (.cells arr e (0, 0))) (hp : ∀ (j : Nat) u, vs[j]? = some u → arr[j]? = some u) : Lies φ D w g ⟨e, st, fz, es⟩ :=
  ⟨arr, hg, h.le_size hp, fun k el he => ⟨(h.el k el he).1, fun j d hd => by
    obtain ⟨u, hu, hr⟩ := (h.el k el he).2 j d hd
    exact ⟨u, hp _ u hu, h.one u (List.mem_of_getElem? hu), hr⟩⟩⟩
theorem Lies.rows {g n : Nat} {B : Blk} (h : Lies φ D w g B) (hn : n ≤ B.es.length) (hst : 0 < B.st) :
    ∃ arr : Array Value, w.heap[g]? = some (.cells arr B.e (0, 0)) ∧ Rws φ D w (arr.toList.take (n * B.st)) (B.es.take n) B.st := by
  obtain ⟨arr, h1, h2, h3⟩ := h
  have hle : n * B.st ≤ B.es.length * B.st := Nat.mul_le_mul_right _ hn
  refine ⟨arr, h1, by simp; rw [Nat.min_eq_left (by omega), Nat.min_eq_left hn], fun v hv => ?_, fun k e he => ?_⟩
  · obtain ⟨i, hi, rfl⟩ := List.mem_iff_getElem.1 hv
    have hi' : i < n * B.st := by simp at hi; omega
    have hk : i / B.st < n := (Nat.div_lt_iff_lt_mul hst).2 hi'
    have he : B.es[i / B.st]? = some (B.es[i / B.st]'(by omega)) := List.getElem?_eq_getElem _
    obtain ⟨hl, hc⟩ := h3 _ _ he
    have hm : i % B.st < B.st := Nat.mod_lt _ hst
    obtain ⟨u, hu, ho, _⟩ := hc (i % B.st) _ (List.getElem?_eq_getElem (by omega))
    have e1 : i / B.st * B.st + i % B.st = i := by rw [Nat.mul_comm]; exact Nat.div_add_mod i B.st
    rw [e1] at hu
    have hu' := (Array.getElem?_eq_some_iff.1 hu)
    simp only [List.getElem_take, Array.getElem_toList]
    rw [hu'.2]; exact ho
  · rw [List.getElem?_take] at he
    split at he
    · rename_i hk
      refine ⟨(h3 k e he).1, fun j d hd => ?_⟩
      obtain ⟨u, hu, _, hr⟩ := (h3 k e he).2 j d hd
      refine ⟨u, ?_, hr⟩
      have hj : j < B.st := by rw [← (h3 k e he).1]; exact (List.getElem?_eq_some_iff.1 hd).1
      have hlt : k * B.st + j < n * B.st := by
        have : (k + 1) * B.st ≤ n * B.st := Nat.mul_le_mul_right _ hk
        rw [Nat.add_mul, Nat.one_mul] at this
        omega
      rw [List.getElem?_take, if_pos hlt]; simpa using hu
    · cases he
end

section
variable {P : Program} {X : Cx} {S S' : Nat → Prop} {σ : St} {i : Nat}

/-- a block of one element, new -/
theorem goes_var {o : Oper} {e : Nat} {st : Nat} {ds : List Dat} (hn : ¬ S i) (hS : ∀ j, S j → S' j) (hS' : S' i) (hl : ds.length = st)
    (h : ∀ a w φ D, Sim X S σ a w φ D → ∃ cells : Array Value, (execOp a.eval o).run P w = .ok (.value (.pointer (some ⟨w.heap.size, 0, none⟩))) (w.alloc (.cells cells e)) ∧ RVs φ D w cells.toList ds ∧ ∀ v ∈ cells.toList, v.oneCell' = true) :
    Goes P X S S' o σ (σ.app o.dst { val := .ptr (σ.n + i) 0 0 st, wr := [(σ.n + i, some ⟨e, st, false, [ds]⟩)] }) := by
  intro a w φ D hs K Q hK
  obtain ⟨cells, hr, hv, h1⟩ := h a w φ D hs
  unfold Oper.wp
  rw [hr, Oper.upon_value]
  have hfr := hs.hs.fresh (σ.n + i) (by omega) (by rw [Nat.add_sub_cancel_left]; exact hn)
  have hle := PlLe.upd (φ := φ) hfr (some w.heap.size)
  have hrw : Rws (upd φ (σ.n + i) (some (some w.heap.size))) D (w.alloc (.cells cells e)) cells.toList [ds] st := (Rws.one_row hv hl h1).keep hle (fun _ h _ => h) (Ext.alloc _ _ _)
  have hnew := hs.hs.new (S' := S') (i := σ.n + i) (g := w.heap.size) (row := none) (B := ⟨e, st, false, [ds]⟩) (by omega) (by rw [Nat.add_sub_cancel_left]; exact hn) hS (by rw [Nat.add_sub_cancel_left]; exact hS')
    (Chg.alloc w (.cells cells e)) (fun r hr => by cases hr) (.inl (Nat.le_refl _)) (hrw.lies (heap_alloc_new w _) (fun j u hu => by simpa using hu)) rfl
  refine hK _ _ _ _ (hs.step hnew hle (fun _ h _ => h) (Ext.alloc _ _ _) ?_)
  have := RV.ptr (φ := upd φ (σ.n + i) (some (some w.heap.size))) (D := D) (w := w.alloc (.cells cells e)) (σ.n + i) w.heap.size 0 0 st (upd_same _ _ _)
  simpa using this

theorem goes_alloc {o : Oper} {e : TypeId} (ho : o.op = .alloc e) {x : TI} (ht : ti P e = some x) (hl : x.zero.length = x.sz) (h1 : allOne x.zero = true) (hn : ¬ S i) (hS : ∀ j, S j → S' j) (hS' : S' i) :
    Goes P X S S' o σ (σ.app o.dst { val := .ptr (σ.n + i) 0 0 x.sz, wr := [(σ.n + i, some ⟨e, x.sz, false, [x.zero]⟩)] }) :=
  goes_var hn hS hS' hl fun a w φ D hs => by
    obtain ⟨i', u, z, g1, g2, g3, g4, g5, g6, g7, g8⟩ := ti_some ht
    have hv : RVs φ D w z.cells.toList x.zero := by rw [← g8]; exact RVs_map fun v _ => RV_datOf1 v
    refine ⟨z.cells, ?_, hv, hv.one h1⟩
    simp [execOp, ho, Instr.alloc, zeroValue, typeInfo, g1, g3, newVar, newRow]

theorem goes_box {o : Oper} {e : TypeId} {v : Operand} (ho : o.op = .box e v) {st : Nat} (hl : (σ.ev v).cells.length = st) (h1 : allOne (σ.ev v).cells = true) (hn : ¬ S i) (hS : ∀ j, S j → S' j) (hS' : S' i) :
    Goes P X S S' o σ (σ.app o.dst { val := .ptr (σ.n + i) 0 0 st, wr := [(σ.n + i, some ⟨e, st, false, [(σ.ev v).cells]⟩)] }) :=
  goes_var hn hS hS' hl fun a w φ D hs => by
    have hv := (hs.ev v).cells
    refine ⟨(a.eval v).cells, ?_, hv, hv.one h1⟩
    simp [execOp, ho, Instr.box, newVar, newRow]

theorem chg_setRow {w : World} {g : Nat} {cur cs : Array Value} {t : TypeId} (hg : w.heap[g]? = some (.cells cur t (0, 0))) (hl : cs.size = cur.size) : Chg w (w.setRow g cs) (some g) where
  os := rfl
  tape := rfl
  output := rfl
  size := by simp
  shape := fun k hk => by
    by_cases e : k = g
    · subst e
      simp [World.shape?, setRow_heap w k cur cs t _ hg, hg, hl]
    · exact shape_of_heap (setRow_other w g k cs e)
  block := fun k hk hne => setRow_other w g k cs (fun e => hne (by rw [e]))

theorem goes_store {o : Oper} {t : TypeId} {a v : Operand} (ho : o.op = .store t a v) {x : TI} (ht : ti P t = some x) {e : Ef} (he : evStore σ x (σ.ev a) (σ.ev v) = some e) (hs : e.side) (hS : ∀ j, S j → S' j) :
    Goes P X S S' o σ (σ.app o.dst e) := by
  unfold evStore at he
  split at he
  · rename_i i k j st hev
    split at he
    · rename_i B hB
      injection he with he
      subst he
      obtain ⟨h1, h2, h3, h4, h5, h6⟩ := hs
      intro A w φ D hsim K Q hK
      have hv := hsim.ev a
      rw [hev] at hv
      obtain ⟨g, hp, hA⟩ := hv.ptr_inv
      have hl := hsim.lies hB hp
      have hcv := (hsim.ev v).cells
      have hone := hcv.one h5
      have hlen : (A.eval v).cells.toList.length = x.sz := by rw [hcv.1, h4]
      have hlen' : (A.eval v).cells.size = x.sz := by simpa using hlen
      obtain ⟨arr, l1, l2, l3⟩ := hl
      have hfit : k * st + j + x.sz ≤ arr.size := by
        have : (k + 1) * B.st ≤ B.es.length * B.st := Nat.mul_le_mul_right _ h1
        rw [Nat.add_mul, Nat.one_mul, h3] at this
        rw [h3] at l2
        omega
      have hst := run_storeCells_at P g (k * st + j) B.e (A.eval v).cells.toList 0 arr w l1 (by rw [hlen]; omega) hone
      rw [Nat.add_zero] at hst
      unfold Oper.wp
      have hsz := ti_sizeOf ht w
      have hrun : (execOp A.eval o).run P w = .ok .skip (w.setRow g (arr.toList.take (k * st + j) ++ (A.eval v).cells.toList ++ arr.toList.drop (k * st + j + (A.eval v).cells.toList.length)).toArray) := by
        simp only [execOp, ho, hA, Instr.storeAt, Instr.sureAddr, Sem.run_bind, Sem.run_pure, Result.andThen_ok, storeVar, hsz, hlen']
        simp only [ne_eq, not_true_eq_false, if_false, Sem.run_bind, Sem.run_pure, Result.andThen_ok, hst]
      rw [hrun, Oper.upon_skip]
      generalize hW : w.setRow g _ = W
      have hsize : (arr.toList.take (k * st + j) ++ (A.eval v).cells.toList ++ arr.toList.drop (k * st + j + (A.eval v).cells.toList.length)).toArray.size = arr.size := by
        simp only [List.size_toArray, List.length_append, List.length_take, List.length_drop, Array.length_toList]
        rw [← Array.length_toList, hlen']
        have : (arr.toList).length = arr.size := by simp
        omega
      have hchg : Chg w W (some g) := by rw [← hW]; exact chg_setRow l1 hsize
      have hnD : ¬ D g := by
        rcases hsim.hs.live i B hB with ⟨q, _⟩ | ⟨g', q, _, _, q4⟩
        · rw [hp] at q; cases q
        · rw [hp] at q; injection q with q; injection q with q; subst q; exact (q4 h6).1
      have hext : Ext D w W := hchg.ext (fun r hr => by injection hr with hr; subst hr; exact hnD)
      have hheap : W.heap[g]? = some (.cells (arr.toList.take (k * st + j) ++ (A.eval v).cells.toList ++ arr.toList.drop (k * st + j + (A.eval v).cells.toList.length)).toArray B.e (0, 0)) := by
        rw [← hW]; exact setRow_heap w g arr _ B.e _ l1
      have hget : ∀ n, ((arr.toList.take (k * st + j) ++ (A.eval v).cells.toList ++ arr.toList.drop (k * st + j + (A.eval v).cells.toList.length)).toArray)[n]? = if k * st + j ≤ n ∧ n < k * st + j + x.sz then (A.eval v).cells.toList[n - (k * st + j)]? else arr[n]? := fun n => by
        rw [List.getElem?_toArray, splice_get _ _ _ (by rw [hlen]; simpa using hfit), hlen]
        simp
      have hmul : ∀ q, q ≠ k → ∀ m, m < st → ¬ (k * st + j ≤ q * st + m ∧ q * st + m < k * st + j + x.sz) := fun q hq m hm => by
        rcases Nat.lt_or_ge q k with h | h
        · have : (q + 1) * st ≤ k * st := Nat.mul_le_mul_right _ h
          rw [Nat.add_mul, Nat.one_mul] at this
          omega
        · have : (k + 1) * st ≤ q * st := Nat.mul_le_mul_right _ (by omega)
          rw [Nat.add_mul, Nat.one_mul] at this
          omega
      have hkeep : ∀ u d, RV φ D w u d → RV φ D W u d := fun u d h => RV.keep (PlLe.refl _) (fun _ h _ => h) hext h
      have hke : B.es[k]? = some (B.es.getD k []) := by rw [List.getD_eq_getElem?_getD, List.getElem?_eq_getElem h1]; rfl
      have hnew : Lies φ D W g { B with es := B.es.set k (if j = 0 ∧ x.sz = st then (σ.ev v).cells else setR (B.es.getD k []) j (σ.ev v).cells) } := by
        refine ⟨_, hheap, ?_, fun q el hel => ?_⟩
        · rw [hsize]; simpa using l2
        · simp only at hel
          rw [List.getElem?_set] at hel
          by_cases hq : k = q
          · subst hq
            rw [if_pos rfl, if_pos h1] at hel
            injection hel with hel
            obtain ⟨e1, e2⟩ := l3 k _ hke
            have hlens : el.length = st := by
              rw [← hel]; split
              · rename_i hc; rw [h4, hc.2]
              · rw [setR_len, e1, h3]
            refine ⟨by rw [hlens]; exact h3.symm, fun m d hd => ?_⟩
            have hm : m < st := by rw [← hlens]; exact (List.getElem?_eq_some_iff.1 hd).1
            have hd' : d ∈ (if j ≤ m ∧ m < j + x.sz then (σ.ev v).cells[m - j]? else (B.es.getD k [])[m]?) := by
              rw [← hel] at hd
              split at hd
              · rename_i hc
                rw [if_pos (by omega), hc.1, Nat.sub_zero]; exact hd
              · rw [setR_get, h4] at hd
                by_cases hc : j ≤ m ∧ m < j + x.sz
                · rw [if_pos hc]; rw [if_pos ⟨hc.1, hc.2, by rw [e1, h3]; exact hm⟩] at hd; exact hd
                · rw [if_neg hc]; rw [if_neg (fun h => hc ⟨h.1, h.2.1⟩)] at hd; exact hd
            show ∃ u, _ ∧ _ ∧ RV φ D W u d
            simp only [h3]
            rw [hget]
            by_cases hc : j ≤ m ∧ m < j + x.sz
            · rw [if_pos hc] at hd'
              rw [if_pos (by omega), show k * st + m - (k * st + j) = m - j by omega]
              have hlt : m - j < (A.eval v).cells.toList.length := by omega
              refine ⟨(A.eval v).cells.toList[m - j], List.getElem?_eq_getElem hlt, hone _ (List.getElem_mem hlt), hkeep _ _ (hcv.2 _ _ d (List.getElem?_eq_getElem hlt) hd')⟩
            · rw [if_neg hc] at hd'
              rw [if_neg (by omega)]
              obtain ⟨u, q1, q2, q3⟩ := e2 m d hd'
              rw [h3] at q1
              exact ⟨u, q1, q2, hkeep _ _ q3⟩
          · rw [if_neg hq] at hel
            obtain ⟨e1, e2⟩ := l3 q el hel
            refine ⟨e1, fun m d hd => ?_⟩
            obtain ⟨u, q1, q2, q3⟩ := e2 m d hd
            have hm : m < st := by rw [← h3, ← e1]; exact (List.getElem?_eq_some_iff.1 hd).1
            refine ⟨u, ?_, q2, hkeep _ _ q3⟩
            show ((arr.toList.take (k * st + j) ++ (A.eval v).cells.toList ++ arr.toList.drop (k * st + j + (A.eval v).cells.toList.length)).toArray)[q * B.st + m]? = some u
            rw [hget, h3, if_neg (hmul q (fun e => hq e.symm) m hm), ← h3]
            exact q1
      have hw := hsim.hs.write hB hp h6 hchg hnew h6
      exact hK _ _ _ _ ((hsim.step (d := .oth undef) hw (PlLe.refl _) (fun _ h _ => h) hext (.oth _)).more hS)
    · cases he
  · cases he
end
end Go.Ab
/- DERIVED. Literals, make, append: sound. No program here. -/
namespace Go.Ab
open Go.RowKit
variable [Lay]

section
variable {φ φ' : Pl} {D D' : Nat → Prop} {w w' : World}
theorem fill_fold {cs : Array Value} {ds : List Dat} (h : RVs φ D w cs.toList ds) (off : Nat) : ∀ (us : List Value) (es : List Dat) (s : Nat) (cs : Array Value) (ds : List Dat), RVs φ D w cs.toList ds → RVs φ D w us es →
    RVs φ D w ((us.zipIdx s).foldl (fun cs (x : Value × Nat) => cs.setIfInBounds (off + x.2) x.1) cs).toList ((es.zipIdx s).foldl (fun l p => l.set (off + p.2) p.1) ds)
  | [], es, s, cs, ds, h, hu => by
    obtain rfl : es = [] := List.eq_nil_of_length_eq_zero hu.1.symm
    exact h
  | u :: us, es, s, cs, ds, h, hu => by
    cases es with
    | nil => have := hu.1; simp at this
    | cons e es =>
      rw [List.zipIdx_cons, List.zipIdx_cons, List.foldl_cons, List.foldl_cons]
      refine fill_fold h off us es (s + 1) _ _ ?_ ⟨by have := hu.1; simpa using this, fun i c d hc hd => hu.2 (i + 1) c d (by simpa using hc) (by simpa using hd)⟩
      rw [Array.toList_setIfInBounds]
      exact h.set _ (hu.2 0 u e rfl rfl)
theorem fill_sound {p q : Nat → Option (Nat × Nat)} (hpq : ∀ i r, q i = some r → p i = some r) : ∀ (vp : List (Nat × Value)) (dp : List (Nat × Dat)) (cs : Array Value) (ds ds' : List Dat), RVs φ D w cs.toList ds →
    vp.length = dp.length → (∀ (i : Nat) v d, vp[i]? = some v → dp[i]? = some d → v.1 = d.1 ∧ RV φ D w v.2 d.2) → fillD q ds dp = some ds' →
    ∃ cs', Instr.fill p cs vp = some cs' ∧ RVs φ D w cs'.toList ds'
  | [], dp, cs, ds, ds', h, hl, hv, hf => by
    obtain rfl : dp = [] := List.eq_nil_of_length_eq_zero hl.symm
    simp only [fillD] at hf
    injection hf with hf
    subst hf
    exact ⟨cs, rfl, h⟩
  | (i, v) :: vp, dp, cs, ds, ds', h, hl, hv, hf => by
    cases dp with
    | nil => simp at hl
    | cons d dp =>
      obtain ⟨j, d⟩ := d
      obtain ⟨hij, hr⟩ := hv 0 _ _ rfl rfl
      simp only at hij hr
      subst hij
      simp only [fillD] at hf
      split at hf
      · cases hf
      · rename_i off size hq
        split at hf
        · cases hf
        · rename_i hc
          have hp := hpq _ _ hq
          have hc1 : d.cells.length = size := by
            rcases Nat.decEq d.cells.length size with h | h
            · exact absurd (.inl h) hc
            · exact h
          have hc2 : off + d.cells.length ≤ ds.length := by
            rcases Nat.lt_or_ge ds.length (off + d.cells.length) with h | h
            · exact absurd (.inr h) hc
            · exact h
          have hcells := hr.cells
          have hs1 : v.cells.size = size := by rw [← hc1, ← hcells.1]; simp
          have hs2 : ¬ (off + v.cells.size > cs.size) := by
            have := h.1
            have := hcells.1
            simp at *
            omega
          have hfold := fill_fold h off v.cells.toList d.cells 0 cs ds h hcells
          obtain ⟨cs', h1, h2⟩ := fill_sound hpq vp dp ((v.cells.toList.zipIdx 0).foldl (fun cs (x : Value × Nat) => cs.setIfInBounds (off + x.2) x.1) cs) (setR ds off d.cells) ds' hfold (by simpa using hl)
            (fun k a b ha hb => hv (k + 1) a b (by simpa using ha) (by simpa using hb)) hf
          refine ⟨cs', ?_, h2⟩
          unfold Instr.fill
          simp only [hp]
          rw [if_neg (by simp [hs1]; omega), ← h1]
          congr 1
          rw [← Array.foldl_toList, Array.toList_zipIdx]
end

theorem mapM_some {P : Program} : ∀ (fs : List Field), (∀ f ∈ fs, (P.info? f.type).isSome = true) → fs.mapM (fun f => (P.info? f.type).map fun i => (f.offset, i.size)) = some (fs.map fun f => (f.offset, P.cellsOf f.type))
  | [], _ => by simp
  | f :: fs, h => by
    obtain ⟨i, hi⟩ := Option.isSome_iff_exists.1 (h f (by simp))
    rw [List.mapM_cons, mapM_some fs (fun g hg => h g (by simp [hg]))]
    simp [hi, Program.cellsOf]

section
variable {P : Program} {X : Cx} {S S' : Nat → Prop} {σ : St} {i : Nat}

theorem parts_rv {a : Act} {w : World} {φ : Pl} {D : Nat → Prop} (hs : Sim X S σ a w φ D) (parts : Array (Nat × Operand)) :
    (parts.map fun (i, x) => (i, a.eval x)).toList.length = (parts.toList.map fun p => (p.1, σ.ev p.2)).length ∧
    ∀ (i : Nat) v d, (parts.map fun (i, x) => (i, a.eval x)).toList[i]? = some v → (parts.toList.map fun p => (p.1, σ.ev p.2))[i]? = some d → v.1 = d.1 ∧ RV φ D w v.2 d.2 := by
  refine ⟨by simp, fun i v d hv hd => ?_⟩
  rw [Array.toList_map, List.getElem?_map] at hv
  rw [List.getElem?_map] at hd
  cases hp : parts.toList[i]? with
  | none => simp [hp] at hv
  | some p =>
    simp only [hp, Option.map_some, Option.some.injEq] at hv hd
    subst hv; subst hd
    exact ⟨rfl, hs.ev p.2⟩

theorem goes_build {o : Oper} {t : TypeId} {parts : Array (Nat × Operand)} (ho : o.op = .build t parts) {e : Ef} (he : evOp P σ i o.op = some e) (hs : e.side) (hS : ∀ j, S j → S' j) :
    Goes P X S S' o σ (σ.put o.dst e.val) ∧ e.wr = [] := by
  rw [ho] at he
  simp only [evOp] at he
  split at he
  · rename_i sz by' ag ze fs ht
    obtain ⟨it, u, z, h1, h2, h3, h4, h5, h6, h7, h8⟩ := ti_some ht
    obtain ⟨gs, rfl, hfs⟩ := tk_struct h7
    simp only at h8
    split at he
    · rename_i ds hf
      injection he with he
      subst he
      refine ⟨goes_val hS fun a w φ D hsim => ?_, rfl⟩
      have hz : RVs φ D w z.cells.toList ze := by rw [← h8]; exact RVs_map fun v _ => RV_datOf1 v
      have hinfo : ∀ f ∈ gs.toList, (P.info? f.type).isSome = true := fun f hf => by
        have := hs (f.offset, f.type) (by rw [hfs]; exact List.mem_map.2 ⟨f, hf, rfl⟩)
        obtain ⟨y, hy⟩ := Option.isSome_iff_exists.1 this
        obtain ⟨i', _, _, g1, _⟩ := ti_some hy
        rw [g1]; rfl
      obtain ⟨hl, hp⟩ := parts_rv hsim parts
      obtain ⟨cs', hc, hr⟩ := fill_sound (p := ((gs.toList.map fun f => (f.offset, P.cellsOf f.type)).toArray[·]?)) (fun k r hk => by
        rw [hfs, List.getElem?_map] at hk
        cases hq : gs.toList[k]? with
        | none => simp [hq] at hk
        | some f =>
          simp only [hq, Option.map_some] at hk
          split at hk
          · rename_i y hy
            injection hk with hk
            subst hk
            obtain ⟨i', _, _, g1, _, _, g4, _⟩ := ti_some hy
            rw [List.getElem?_toArray, List.getElem?_map, hq]
            simp [Program.cellsOf, g1, g4]
          · cases hk) _ _ z.cells ze ds hz hl hp hf
      refine ⟨.agg cs', ?_, ?_⟩
      · have hb : P.built t (parts.map fun (i, x) => (i, a.eval x)).toList = some cs' := by
          unfold Program.built
          simp only [h1, h2, h3, mapM_some _ hinfo, hc]
        simp only [execOp, ho, Sem.run_bind, run_build w t _ cs' hb, Result.andThen_ok, Sem.run_pure]
      · have := RV.agg cs'.toList ds hr.1 hr.2
        simpa using this
    · cases he
  · rename_i sz by' ag ze n el ht
    obtain ⟨it, u, z, h1, h2, h3, h4, h5, h6, h7, h8⟩ := ti_some ht
    obtain rfl := tk_array h7
    simp only at h8
    split at he
    · rename_i y hy
      obtain ⟨i', _, _, g1, _, _, g4, _⟩ := ti_some hy
      split at he
      · rename_i ds hf
        injection he with he
        subst he
        refine ⟨goes_val hS fun a w φ D hsim => ?_, rfl⟩
        have hz : RVs φ D w z.cells.toList ze := by rw [← h8]; exact RVs_map fun v _ => RV_datOf1 v
        obtain ⟨hl, hp⟩ := parts_rv hsim parts
        obtain ⟨cs', hc, hr⟩ := fill_sound (p := fun i => some (i * i'.size, i'.size)) (fun k r hk => by rw [g4]; exact hk) _ _ z.cells ze ds hz hl hp hf
        refine ⟨.agg cs', ?_, ?_⟩
        · have hb : P.built t (parts.map fun (i, x) => (i, a.eval x)).toList = some cs' := by
            unfold Program.built
            simp only [h1, h2, h3, g1, hc]
          simp only [execOp, ho, Sem.run_bind, run_build w t _ cs' hb, Result.andThen_ok, Sem.run_pure]
        · have := RV.agg cs'.toList ds hr.1 hr.2
          simpa using this
      · cases he
    · cases he
  · cases he

/-- a slice of the call's own, new -/
theorem goes_row {o : Oper} {e st n c : Nat} {es : List (List Dat)} (hn : ¬ S i) (hS : ∀ j, S j → S' j) (hS' : S' i) (hnc : n ≤ c) (hc : c ≤ maxLen)
    (h : ∀ a w φ D, Sim X S σ a w φ D → ∃ (cells : Array Value) (vs : List Value), (execOp a.eval o).run P w = .ok (.value (.slice (some ⟨w.heap.size, 0, none⟩) n c)) (w.alloc (.cells cells e)) ∧ Rws φ D w vs es st ∧ (∀ (j : Nat) u, vs[j]? = some u → cells[j]? = some u) ∧ cells.size = c * st) :
    Goes P X S S' o σ (σ.app o.dst { val := .ref (σ.n + i) 0 n st, wr := [(σ.n + i, some ⟨e, st, false, es⟩)] }) := by
  intro a w φ D hs K Q hK
  obtain ⟨cells, vs, hr, hv, hp, hsz⟩ := h a w φ D hs
  unfold Oper.wp
  rw [hr, Oper.upon_value]
  have hfr := hs.hs.fresh (σ.n + i) (by omega) (by rw [Nat.add_sub_cancel_left]; exact hn)
  have hle := PlLe.upd (φ := φ) hfr (some w.heap.size)
  have hrw : Rws (upd φ (σ.n + i) (some (some w.heap.size))) D (w.alloc (.cells cells e)) vs es st := hv.keep hle (fun _ h _ => h) (Ext.alloc _ _ _)
  have hnew := hs.hs.new (S' := S') (i := σ.n + i) (g := w.heap.size) (row := none) (B := ⟨e, st, false, es⟩) (by omega) (by rw [Nat.add_sub_cancel_left]; exact hn) hS (by rw [Nat.add_sub_cancel_left]; exact hS')
    (Chg.alloc w (.cells cells e)) (fun r hr => by cases hr) (.inl (Nat.le_refl _)) (hrw.lies (heap_alloc_new w _) hp) rfl
  refine hK _ _ _ _ (hs.step hnew hle (fun _ h _ => h) (Ext.alloc _ _ _) ?_)
  have := RV.ref (φ := upd φ (σ.n + i) (some (some w.heap.size))) (D := D) (w := w.alloc (.cells cells e)) (σ.n + i) w.heap.size 0 n c st (upd_same _ _ _) hnc hc ⟨e, by unfold World.shape?; rw [heap_alloc_new]; simp [hsz]⟩
  simpa using this

theorem flatRows {φ : Pl} {D : Nat → Prop} {w : World} {st : Nat} : ∀ (vs : List Value) (ds : List Dat), RVs φ D w vs ds → (∀ d ∈ ds, d.cells.length = st ∧ allOne d.cells = true) →
    Rws φ D w (vs.flatMap fun v => v.cells.toList) (ds.map Dat.cells) st
  | [], ds, h, _ => by
    obtain rfl : ds = [] := List.eq_nil_of_length_eq_zero h.1.symm
    exact .nil
  | v :: vs, [], h, _ => by have := h.1; simp at this
  | v :: vs, d :: ds, h, hd => by
    have hv : RV φ D w v d := h.2 0 v d rfl rfl
    obtain ⟨h1, h2⟩ := hd d (by simp)
    have hr := Rws.one_row hv.cells h1 (hv.cells.one h2)
    have := hr.append (flatRows vs ds ⟨by have := h.1; simpa using this, fun i a b ha hb => h.2 (i + 1) a b (by simpa using ha) (by simpa using hb)⟩ (fun e he => hd e (by simp [he])))
    simpa using this

theorem goes_buildSlice {o : Oper} {t : TypeId} {len : Nat} {parts : Array (Nat × Operand)} (ho : o.op = .buildSlice t len parts) {e : Ef} (he : evOp P σ i o.op = some e) (hs : e.side) (hn : ¬ S i) (hS : ∀ j, S j → S' j) (hS' : S' i) :
    Goes P X S S' o σ (σ.app o.dst e) := by
  rw [ho] at he
  simp only [evOp] at he
  split at he
  · rename_i sz by' ag ze el ht
    obtain ⟨it, u, z, h1, h2, h3, h4, h5, h6, h7, h8⟩ := ti_some ht
    obtain rfl := tk_slice h7
    split at he
    · rename_i y hy
      obtain ⟨ie, ue, z', g1, g2, g3, g4, g5, g6, g7, g8⟩ := ti_some hy
      injection he with he
      subst he
      obtain ⟨s1, s2, s3, s4⟩ := hs
      have hlen : parts.toList.length = len := by
        have := congrArg List.length s1
        simpa using this
      have hcap : len ≤ maxLen ∨ y.sz = 0 := by
        rcases Nat.eq_zero_or_pos y.sz with h | h
        · exact .inr h
        · left
          have : len ≤ len * y.sz := Nat.le_mul_of_pos_right _ h
          unfold maxLen; omega
      by_cases hsz0 : y.sz = 0
      · -- elements without cells: not served
        exact absurd hsz0 (by
          intro h0
          exact False.elim (s4.2 h0))
      · refine goes_row hn hS hS' (n := len) (c := len) (Nat.le_refl _) (hcap.resolve_right hsz0) fun a w φ D hsim => ?_
        have hvs : ((parts.map fun (i, x) => (i, a.eval x)).toList) = ((parts.toList.map fun p => a.eval p.2).zipIdx 0).map fun x => (x.2, x.1) := by
          rw [Array.toList_map]
          apply List.ext_getElem?
          intro k
          simp only [List.getElem?_map, List.getElem?_zipIdx]
          have hk : (parts.toList.map (·.1))[k]? = (List.range len)[k]? := by rw [s1]
          rw [List.getElem?_map] at hk
          cases hp : parts.toList[k]? with
          | none => simp
          | some p =>
            have hlt : k < len := by rw [← hlen]; exact (List.getElem?_eq_some_iff.1 hp).1
            rw [hp, List.getElem?_range hlt] at hk
            simp at hk
            simp [hk]
        have hparts : RVs φ D w (parts.toList.map fun p => a.eval p.2) (parts.toList.map fun p => σ.ev p.2) := by
          have := hsim.evs (parts.toList.map (·.2))
          simpa [List.map_map, Function.comp_def] using this
        have hsizes : ∀ v ∈ (parts.toList.map fun p => a.eval p.2), v.cells.size = y.sz := fun v hv => by
          obtain ⟨p, hp, rfl⟩ := List.mem_map.1 hv
          have := (hsim.ev p.2).cells.1
          rw [(s4.1 p hp).1] at this
          simpa using this
        have hrw := flatRows _ _ hparts (st := y.sz) (fun d hd => by obtain ⟨p, hp, rfl⟩ := List.mem_map.1 hd; exact s4.1 p hp)
        refine ⟨((parts.toList.map fun p => a.eval p.2).flatMap fun v => v.cells.toList).toArray, _, ?_, by simpa [List.map_map, Function.comp_def] using hrw, fun j u hu => by simpa using hu, ?_⟩
        · by_cases h0 : len * ie.size = 0
          · have hl0 : len = 0 := by
              rcases Nat.mul_eq_zero.1 h0 with h | h
              · exact h
              · omega
            subst hl0
            have hp0 : parts = #[] := by
              have : parts.toList = [] := List.eq_nil_of_length_eq_zero hlen
              simpa using this
            subst hp0
            simp [execOp, ho, Instr.buildSlice, run_underlying h2 w, sizeOf, typeInfo, g1, newRow, Instr.fill, Array.range_zero']
          · have hrun := run_buildSlice (P := P) w t el len (parts.map fun (i, x) => (i, a.eval x)) ((parts.toList.map fun p => a.eval p.2).flatMap fun v => v.cells.toList).toArray ie z' h2 g1 g3 (by rw [g4]; omega) h0 (by
              rw [hvs, g4]
              exact Great.fill_whole (by omega) _ _ hsizes (by simp [hlen]))
            simp only [execOp, ho, Sem.run_bind, hrun, Result.andThen_ok, Sem.run_pure]
        · have := hrw.len
          simp only [List.length_map] at this
          simp only [List.size_toArray]
          rw [this, hlen]
    · cases he
  · cases he

theorem goes_makeSlice {o : Oper} {t : TypeId} {l c : Operand} (ho : o.op = .makeSlice t l c) {e : Ef} (he : evOp P σ i o.op = some e) (hs : e.side) (hn : ¬ S i) (hS : ∀ j, S j → S' j) (hS' : S' i) :
    Goes P X S S' o σ (σ.app o.dst e) := by
  rw [ho] at he
  simp only [evOp] at he
  split at he
  · rename_i sz by' ag ze el ht
    obtain ⟨it, u, z, h1, h2, h3, h4, h5, h6, h7, h8⟩ := ti_some ht
    obtain rfl := tk_slice h7
    split at he
    · rename_i y kl a kc b hy hl hc
      obtain ⟨ie, ue, z', g1, g2, g3, g4, g5, g6, g7, g8⟩ := ti_some hy
      injection he with he
      subst he
      obtain ⟨s0, rfl, s2, s3, s4, s5, s6⟩ := hs
      refine goes_row hn hS hS' (n := a.toNat) (c := a.toNat) (Nat.le_refl _) (by unfold maxLen; omega) fun A w φ D hsim => ?_
      have hL := hsim.ev l
      rw [hl] at hL
      have hC := hsim.ev c
      rw [hc] at hC
      have hz : RVs φ D w z'.cells.toList y.zero := by rw [← g8]; exact RVs_map fun v _ => RV_datOf1 v
      have hzsz : z'.cells.size = y.sz := by have := hz.1; rw [s4] at this; simpa using this
      have hrun := run_make (P := P) w t el ie z' h2 g1 g3 kl kc a a s0 (Int.le_refl _) (by rw [g5]; exact s2) s3
      have hrep : ∀ n, Rws φ D w (List.replicate n z'.cells.toList).flatten (List.replicate n y.zero) y.sz := fun n => by
        induction n with
        | zero => exact .nil
        | succ n ih =>
          rw [List.replicate_succ, List.replicate_succ, List.flatten_cons]
          exact (Rws.one_row hz s4 (hz.one s6)).append ih
      refine ⟨madeCells z'.cells (a.toNat * ie.size), _, ?_, hrep a.toNat, fun j u hu => ?_, by rw [size_madeCells, g4]⟩
      · simp only [execOp, ho, hL.int_inv, hC.int_inv, Sem.run_bind, hrun, Result.andThen_ok, Sem.run_pure]
      · have hj : j < a.toNat * y.sz := by
          have := (List.getElem?_eq_some_iff.1 hu).1
          rw [(hrep a.toNat).len] at this
          simpa using this
        have hget : ∀ n j u, (List.replicate n z'.cells.toList).flatten[j]? = some u → z'.cells.toList[j % y.sz]? = some u := fun n => by
          induction n with
          | zero => intro j u h; simp at h
          | succ n ih =>
            intro j u h
            rw [List.replicate_succ, List.flatten_cons] at h
            have hzl : z'.cells.toList.length = y.sz := by simpa using hzsz
            rcases Nat.lt_or_ge j y.sz with hlt | hge
            · rw [List.getElem?_append_left (by omega)] at h
              rw [Nat.mod_eq_of_lt hlt]; exact h
            · rw [List.getElem?_append_right (by omega), hzl] at h
              have := ih _ _ h
              rw [Nat.mod_eq_sub_mod hge]; exact this
        have h1 := hget _ _ _ hu
        have hm : j % y.sz < z'.cells.size := by rw [hzsz]; exact Nat.mod_lt _ s5
        have h2 : z'.cells[j % y.sz]? = some u := by simpa using h1
        rw [Array.getElem?_eq_getElem hm] at h2
        injection h2 with h2
        unfold madeCells
        rw [Array.getElem?_map, Array.getElem?_eq_getElem (by simp; rw [g4]; exact hj)]
        simp only [Array.getElem_range, Option.map_some, hzsz]
        rw [getElem!_pos z'.cells (j % y.sz) hm, h2]
    · cases he
  · cases he

theorem mmStep_inv {isMax : Bool} {d y m : Dat} (h : mmStep isMax (some d) y = some m) : ∃ k p k' q, d = .int k p ∧ y = .int k' q ∧ m = .int k (if isMax then (if q > p then q else p) else (if q < p then q else p)) := by
  cases d <;> cases y <;> simp only [mmStep, reduceCtorEq, Option.some.injEq] at h
  exact ⟨_, _, _, _, rfl, rfl, h.symm⟩
/-- min and max -/
theorem goes_minMax {o : Oper} {isMax : Bool} {args : Array Operand} {ats : Array TypeId} (ho : o.op = .call { callee := .builtin (if isMax then .max else .min), args, argTypes := ats }) {v : Dat}
    (he : minMax isMax (args.toList.map σ.ev) = some v) (hS : ∀ j, S j → S' j) : Goes P X S S' o σ (σ.put o.dst v) :=
  goes_val hS fun A w φ D hsim => by
    have hargs := hsim.evs args.toList
    have key : ∀ (ds : List Dat) (vs : List Value) (d : Dat) (u : Value), RVs φ D w vs ds → RV φ D w u d → ds.foldl (mmStep isMax) (some d) = some v → ds ≠ [] → ∃ u', (vs.foldlM (if isMax then Builtin.max2 else Builtin.min2) u).run P w = .ok u' w ∧ RV φ D w u' v := by
      intro ds
      induction ds with
      | nil => intro vs d u _ _ _ h; exact absurd rfl h
      | cons y ds ih =>
        intro vs d u hvs hu hf _
        obtain ⟨v1, vs, rfl, hv1, hvs'⟩ := hvs.cons_inv
        rw [List.foldl_cons] at hf
        have hnone : ∀ l : List Dat, l.foldl (mmStep isMax) none = none := by intro l; induction l with | nil => rfl | cons a l ih => rw [List.foldl_cons]; exact ih
        cases hm : mmStep isMax (some d) y with
        | none => rw [hm, hnone] at hf; cases hf
        | some m =>
          rw [hm] at hf
          obtain ⟨k, p, k', q, rfl, rfl, rfl⟩ := mmStep_inv hm
          · have e1 := hu.int_inv
            have e2 := hv1.int_inv
            subst e1; subst e2
            have hstep : ((if isMax then Builtin.max2 else Builtin.min2) (.int k p) (.int k' q)).run P w = .ok (.int k (if isMax then (if q > p then q else p) else (if q < p then q else p))) w := by
              cases isMax <;> simp [Builtin.max2, Builtin.min2]
            by_cases hds : ds = []
            · subst hds
              obtain rfl := hvs'.nil_inv
              simp only [List.foldl_nil, Option.some.injEq] at hf
              subst hf
              refine ⟨_, ?_, .int _ _⟩
              simp only [List.foldlM_cons, List.foldlM_nil, Sem.run_bind, hstep, Result.andThen_ok, Sem.run_pure]
            · obtain ⟨u', h1, h2⟩ := ih vs _ _ hvs' (.int k _) hf hds
              refine ⟨u', ?_, h2⟩
              simp only [List.foldlM_cons, Sem.run_bind, hstep, Result.andThen_ok, h1]
    cases hl : args.toList.map σ.ev with
    | nil => rw [hl] at he; simp [minMax] at he
    | cons d ds =>
      rw [hl] at he hargs
      obtain ⟨u, vs, hvs, hu, hrest⟩ := hargs.cons_inv
      simp only [minMax] at he
      have hmap : (args.map A.eval).toList = u :: vs := by rw [Array.toList_map]; exact hvs
      by_cases hds : ds = []
      · subst hds
        obtain rfl := hrest.nil_inv
        simp at he
        subst he
        refine ⟨u, ?_, hu⟩
        cases isMax <;> simp [execOp, ho, resolve, invoke, builtin, Builtin.max_, Builtin.min_, hvs]
      · obtain ⟨u', h1, h2⟩ := key ds vs d u hrest hu he hds
        refine ⟨u', ?_, h2⟩
        cases isMax <;> simp [execOp, ho, resolve, invoke, builtin, Builtin.max_, Builtin.min_, hvs] <;> simp at h1 <;> rw [h1] <;> rfl
end
end Go.Ab
