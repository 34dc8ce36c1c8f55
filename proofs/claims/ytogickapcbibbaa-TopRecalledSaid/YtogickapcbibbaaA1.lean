/- DERIVED. Values without addresses, and how the model's values and memory stand for them. No program here. -/
import Derived.WalkKit
import Derived.WalkSpells
import Derived.WalkLawsBesides
import Derived.Lib.Hide
import Derived.Deep.MidRow
import Derived.Maps.AppendAt
import Derived.Deep.WholeRow
import Derived.Laws.Strings
import Derived.Laws.Slices
import Derived.Below
import Derived.Laws.BytesArg
namespace Go.Ab
open Go.RowKit

inductive Dat where
  | bool (b : Bool)
  | int (k : IntKind) (n : Int)
  | str (s : ByteArray)
  | agg (cs : List Dat)
  | tup (cs : List Dat)
  | nil
  | list (st : Nat) (es : List (List Dat))
  | ref (i off len st : Nat)
  | ptr (i k j st : Nat)
  | rop (cs : List Dat) (j st : Nat)
  | fn (f : Fn) (first cap : List Dat)
  | oth (v : Value)
  | junk
instance : Inhabited Dat := ⟨.oth undef⟩

/-- a value of one cell? -/
def Dat.one : Dat → Bool
  | .agg _ | .tup _ => false
  | .oth v => v.oneCell'
  | _ => true

abbrev Pl := Nat → Option (Option Nat)

inductive RV (φ : Pl) (D : Nat → Prop) (w : World) : Value → Dat → Prop where
  | bool (b : Bool) : RV φ D w (.bool b) (.bool b)
  | int (k : IntKind) (n : Int) : RV φ D w (.int k n) (.int k n)
  | str (s : ByteArray) : RV φ D w (.string s) (.str s)
  | agg (cs : List Value) (ds : List Dat) (hl : cs.length = ds.length)
      (h : ∀ (i : Nat) c d, cs[i]? = some c → ds[i]? = some d → RV φ D w c d) : RV φ D w (.agg cs.toArray) (.agg ds)
  | tup (cs : List Value) (ds : List Dat) (hl : cs.length = ds.length)
      (h : ∀ (i : Nat) c d, cs[i]? = some c → ds[i]? = some d → RV φ D w c d) : RV φ D w (.tuple cs.toArray) (.tup ds)
  | nil : RV φ D w (.slice none 0 0) .nil
  | list0 (A : Option Addr) (c st : Nat) (hc : c ≤ maxLen) : RV φ D w (.slice A 0 c) (.list st [])
  | list (b o c st : Nat) (es : List (List Dat)) (cs : List (List Value)) (hl : cs.length = es.length) (hc : es.length ≤ c) (hc2 : c ≤ maxLen)
      (hD : D b) (hb : b < w.heap.size) (hr : ∀ (i : Nat) x, cs[i]? = some x → w.rangeAt b (o + i * st) x) (hs : ∀ x ∈ cs, x.length = st) (hes : ∀ e ∈ es, e.length = st)
      (h1 : ∀ (i : Nat) x, cs[i]? = some x → ∀ v ∈ x, v.oneCell' = true)
      (h : ∀ (i : Nat) x e, cs[i]? = some x → es[i]? = some e → ∀ (j : Nat) c d, x[j]? = some c → e[j]? = some d → RV φ D w c d) :
      RV φ D w (.slice (some ⟨b, o, none⟩) es.length c) (.list st es)
  | ref (i g off len c st : Nat) (hφ : φ i = some (some g)) (hlen : len ≤ c) (hc : c ≤ maxLen) (hsz : ∃ e, w.shape? g = some (e, (off + c) * st)) :
      RV φ D w (.slice (some ⟨g, off * st, none⟩) len c) (.ref i off len st)
  | ref0 (i off st : Nat) (A : Option Addr) (h0 : 0 < off) : RV φ D w (.slice A 0 0) (.ref i off 0 st)
  | refv (i st : Nat) (hφ : φ i = some none) : RV φ D w (.slice none 0 0) (.ref i 0 0 st)
  | ptr (i g k j st : Nat) (hφ : φ i = some (some g)) : RV φ D w (.pointer (some ⟨g, k * st + j, none⟩)) (.ptr i k j st)
  | rop (b o j st : Nat) (ds : List Dat) (cs : List Value) (hl : cs.length = ds.length) (hst : cs.length = st) (hD : D b) (hb : b < w.heap.size) (hr : w.rangeAt b o cs) (h1 : ∀ v ∈ cs, v.oneCell' = true)
      (h : ∀ (i : Nat) c d, cs[i]? = some c → ds[i]? = some d → RV φ D w c d) : RV φ D w (.pointer (some ⟨b, o + j, none⟩)) (.rop ds j st)
  | fn (f : Fn) (cs1 cs2 : List Value) (ds1 ds2 : List Dat) (hl1 : cs1.length = ds1.length) (hl2 : cs2.length = ds2.length)
      (h1 : ∀ (i : Nat) c d, cs1[i]? = some c → ds1[i]? = some d → RV φ D w c d)
      (h2 : ∀ (i : Nat) c d, cs2[i]? = some c → ds2[i]? = some d → RV φ D w c d) : RV φ D w (.func f cs1.toArray cs2.toArray) (.fn f ds1 ds2)
  | oth (v : Value) : RV φ D w v (.oth v)
  | junk (v : Value) (h : v.oneCell' = true) (h2 : v.cells = #[v]) : RV φ D w v .junk

/-- many at once -/
def RVs (φ : Pl) (D : Nat → Prop) (w : World) (cs : List Value) (ds : List Dat) : Prop :=
  cs.length = ds.length ∧ ∀ (i : Nat) c d, cs[i]? = some c → ds[i]? = some d → RV φ D w c d

/-- a world that came of another one: of the same blocks, and those of D as they were -/
structure Ext (D : Nat → Prop) (w w' : World) : Prop where
  size : w.heap.size ≤ w'.heap.size
  shape : ∀ b, b < w.heap.size → w'.shape? b = w.shape? b
  same : ∀ b, D b → b < w.heap.size → w'.heap[b]? = w.heap[b]?

theorem Ext.refl (D : Nat → Prop) (w : World) : Ext D w w := ⟨Nat.le_refl _, fun _ _ => rfl, fun _ _ _ => rfl⟩
theorem Ext.trans {D : Nat → Prop} {a b c : World} (h : Ext D a b) (k : Ext D b c) : Ext D a c :=
  ⟨Nat.le_trans h.size k.size, fun i hi => (k.shape i (Nat.lt_of_lt_of_le hi h.size)).trans (h.shape i hi),
   fun i hd hi => (k.same i hd (Nat.lt_of_lt_of_le hi h.size)).trans (h.same i hd hi)⟩
theorem Ext.mono {D D' : Nat → Prop} {w w' : World} (h : Ext D w w') (hd : ∀ b, D' b → b < w.heap.size → D b) : Ext D' w w' :=
  ⟨h.size, h.shape, fun b hb hl => h.same b (hd b hb hl) hl⟩
theorem shape_of_heap {w w' : World} {b : Nat} (h : w'.heap[b]? = w.heap[b]?) : w'.shape? b = w.shape? b := by simp [World.shape?, h]
theorem Ext.of_below {D : Nat → Prop} {w w' : World} (h : Below w.heap.size w w') : Ext D w w' :=
  ⟨h.size, fun b hl => shape_of_heap (h.block b hl), fun b _ hl => h.block b hl⟩
theorem Ext.drew (D : Nat → Prop) (w : World) : Ext D w w.drew := ⟨Nat.le_refl _, fun _ _ => rfl, fun _ _ _ => rfl⟩
theorem Ext.alloc (D : Nat → Prop) (w : World) (o : Obj) : Ext D w (w.alloc o) :=
  ⟨by simp, fun b hl => shape_of_heap (Below.heap_alloc w o b hl), fun b _ hl => Below.heap_alloc w o b hl⟩
theorem Ext.cell {D : Nat → Prop} {w w' : World} (h : Ext D w w') {b i : Nat} {v : Value} (hd : D b) (hc : w.cell? ⟨b, i, none⟩ = some v) : w'.cell? ⟨b, i, none⟩ = some v := by
  have hl : b < w.heap.size := World.block_lt_of_cell? w _ hc
  rw [← hc]
  exact World.cell?_of_block (a := ⟨b, i, none⟩) (h.same b hd hl)
theorem Ext.range {D : Nat → Prop} {w w' : World} (h : Ext D w w') {b o : Nat} {cs : List Value} (hd : D b) (hc : w.rangeAt b o cs) : w'.rangeAt b o cs :=
  fun j v hv => h.cell hd (hc j v hv)

/-- more is placed -/
def PlLe (φ φ' : Pl) : Prop := ∀ i x, φ i = some x → φ' i = some x
theorem PlLe.refl (φ : Pl) : PlLe φ φ := fun _ _ h => h
theorem PlLe.trans {a b c : Pl} (h : PlLe a b) (k : PlLe b c) : PlLe a c := fun i x hx => k i x (h i x hx)

theorem RV.keep {φ φ' : Pl} {D D' : Nat → Prop} {w w' : World} (hφ : PlLe φ φ') (hD : ∀ b, D b → b < w.heap.size → D' b) (hk : Ext D w w') {v : Value} {d : Dat} (h : RV φ D w v d) : RV φ' D' w' v d := by
  induction h with
  | bool b => exact .bool b
  | int k n => exact .int k n
  | str s => exact .str s
  | agg cs ds hl _ ih => exact .agg cs ds hl ih
  | tup cs ds hl _ ih => exact .tup cs ds hl ih
  | nil => exact .nil
  | list0 A c st hc => exact .list0 A c st hc
  | list b o c st es cs hl hc hc2 hd hb hr hs hes h1 _ ih =>
    exact .list b o c st es cs hl hc hc2 (hD b hd hb) (Nat.lt_of_lt_of_le hb hk.size) (fun i x hx => hk.range hd (hr i x hx)) hs hes h1 ih
  | ref i g off len c st hp hlen hc hsz =>
    refine .ref i g off len c st (hφ _ _ hp) hlen hc ?_
    obtain ⟨e, he⟩ := hsz
    refine ⟨e, ?_⟩
    rw [← he]
    refine hk.shape g ?_
    rcases Nat.lt_or_ge g w.heap.size with h1 | h1
    · exact h1
    · simp [World.shape?, Array.getElem?_eq_none h1] at he
  | ref0 i off st A h0 => exact .ref0 i off st A h0
  | refv i st hp => exact .refv i st (hφ _ _ hp)
  | ptr i g k j st hp => exact .ptr i g k j st (hφ _ _ hp)
  | rop b o j st ds cs hl hst hd hb hr h1 _ ih => exact .rop b o j st ds cs hl hst (hD b hd hb) (Nat.lt_of_lt_of_le hb hk.size) (hk.range hd hr) h1 ih
  | fn f cs1 cs2 ds1 ds2 hl1 hl2 _ _ ih1 ih2 => exact .fn f cs1 cs2 ds1 ds2 hl1 hl2 ih1 ih2
  | oth v => exact .oth v
  | junk v h h2 => exact .junk v h h2

theorem RVs.keep {φ φ' : Pl} {D D' : Nat → Prop} {w w' : World} (hφ : PlLe φ φ') (hD : ∀ b, D b → b < w.heap.size → D' b) (hk : Ext D w w') {vs : List Value} {ds : List Dat} (h : RVs φ D w vs ds) : RVs φ' D' w' vs ds :=
  ⟨h.1, fun i c d hc hd => RV.keep hφ hD hk (h.2 i c d hc hd)⟩

theorem choose_lt {β : Type} (n : Nat) (p : Nat → β → Prop) (h : ∀ i, i < n → ∃ y, p i y) : ∃ l : List β, l.length = n ∧ ∀ (i : Nat) x, l[i]? = some x → p i x := by
  induction n with
  | zero => exact ⟨[], rfl, fun i x h => by simp at h⟩
  | succ n ih =>
    obtain ⟨l, hl, hp⟩ := ih (fun i hi => h i (by omega))
    obtain ⟨y, hy⟩ := h n (by omega)
    refine ⟨l ++ [y], by simp [hl], fun i x hx => ?_⟩
    rcases Nat.lt_or_ge i n with h1 | h1
    · rw [List.getElem?_append_left (by omega)] at hx; exact hp i x hx
    · rw [List.getElem?_append_right (by omega)] at hx
      have h0 := (List.getElem?_eq_some_iff.1 hx).1
      simp at h0
      have : i = n := by omega
      subst this
      rw [hl, Nat.sub_self] at hx
      simp at hx
      subst hx; exact hy

section
variable {φ : Pl} {D : Nat → Prop} {w : World} {v : Value}
theorem RV.bool_inv {b : Bool} (h : RV φ D w v (.bool b)) : v = .bool b := by cases h; rfl
theorem RV.int_inv {k : IntKind} {n : Int} (h : RV φ D w v (.int k n)) : v = .int k n := by cases h; rfl
theorem RV.str_inv {s : ByteArray} (h : RV φ D w v (.str s)) : v = .string s := by cases h; rfl
theorem RV.oth_inv {u : Value} (h : RV φ D w v (.oth u)) : v = u := by cases h; rfl
theorem RV.nil_inv (h : RV φ D w v .nil) : v = .slice none 0 0 := by cases h; rfl
theorem RV.agg_inv {ds : List Dat} (h : RV φ D w v (.agg ds)) : ∃ cs : List Value, v = .agg cs.toArray ∧ RVs φ D w cs ds := by
  cases h with | agg cs _ hl h => exact ⟨cs, rfl, hl, h⟩
theorem RV.tup_inv {ds : List Dat} (h : RV φ D w v (.tup ds)) : ∃ cs : List Value, v = .tuple cs.toArray ∧ RVs φ D w cs ds := by
  cases h with | tup cs _ hl h => exact ⟨cs, rfl, hl, h⟩
theorem RV.ptr_inv {i k j st : Nat} (h : RV φ D w v (.ptr i k j st)) : ∃ g, φ i = some (some g) ∧ v = .pointer (some ⟨g, k * st + j, none⟩) := by
  cases h with | ptr _ g _ _ _ hp => exact ⟨g, hp, rfl⟩
theorem RV.rop_inv {ds : List Dat} {j st : Nat} (h : RV φ D w v (.rop ds j st)) : ∃ b o cs, v = .pointer (some ⟨b, o + j, none⟩) ∧ cs.length = st ∧ D b ∧ b < w.heap.size ∧ w.rangeAt b o cs ∧ (∀ u ∈ cs, u.oneCell' = true) ∧ RVs φ D w cs ds := by
  cases h with | rop b o _ _ _ cs hl hst hD hb hr h1 h => exact ⟨b, o, cs, rfl, hst, hD, hb, hr, h1, hl, h⟩
theorem RV.fn_inv {f : Fn} {d1 d2 : List Dat} (h : RV φ D w v (.fn f d1 d2)) : ∃ c1 c2 : List Value, v = .func f c1.toArray c2.toArray ∧ RVs φ D w c1 d1 ∧ RVs φ D w c2 d2 := by
  cases h with | fn _ c1 c2 _ _ hl1 hl2 h1 h2 => exact ⟨c1, c2, rfl, ⟨hl1, h1⟩, ⟨hl2, h2⟩⟩
/-- a frozen slice: its shape, and each element -/
theorem RV.list_inv {st : Nat} {es : List (List Dat)} (h : RV φ D w v (.list st es)) : ∃ A c, v = .slice A es.length c ∧ es.length ≤ c ∧ c ≤ maxLen ∧
    ∀ (i : Nat) e, es[i]? = some e → ∃ b o cs, A = some ⟨b, o, none⟩ ∧ D b ∧ b < w.heap.size ∧ w.rangeAt b (o + i * st) cs ∧ cs.length = st ∧ (∀ u ∈ cs, u.oneCell' = true) ∧ RVs φ D w cs e := by
  cases h with
  | list0 A c _ hc => exact ⟨A, c, rfl, Nat.zero_le _, hc, fun i e he => by simp at he⟩
  | list b o c _ _ cs hl hc hc2 hD hb hr hs hes h1 h =>
    refine ⟨_, c, rfl, hc, hc2, fun i e he => ?_⟩
    have hi : i < cs.length := by rw [hl]; exact (List.getElem?_eq_some_iff.1 he).1
    have hx : cs[i]? = some cs[i] := by simp
    refine ⟨b, o, cs[i], rfl, hD, hb, hr i _ hx, hs _ (List.getElem_mem hi), h1 i _ hx, ?_, h i _ e hx he⟩
    rw [hs _ (List.getElem_mem hi), hes e (List.mem_of_getElem? he)]
theorem RV.list_st {st : Nat} {es : List (List Dat)} (h : RV φ D w v (.list st es)) : ∀ e ∈ es, e.length = st := by
  cases h with
  | list0 A c _ hc => exact fun e he => by simp at he
  | list b o c _ _ cs hl hc hc2 hD hb hr hs hes h1 h => exact hes
/-- the whole range of a frozen slice at once -/
theorem RV.list_mk {A : Option Addr} {c st n : Nat} {es : List (List Dat)} (hn : n = es.length) (hc : es.length ≤ c) (hc2 : c ≤ maxLen)
    (h : ∀ (i : Nat) e, es[i]? = some e → ∃ b o cs, A = some ⟨b, o, none⟩ ∧ D b ∧ b < w.heap.size ∧ w.rangeAt b (o + i * st) cs ∧ cs.length = st ∧ (∀ u ∈ cs, u.oneCell' = true) ∧ RVs φ D w cs e) :
    RV φ D w (.slice A n c) (.list st es) := by
  subst hn
  cases es with
  | nil => exact .list0 A c st hc2
  | cons e0 es =>
    obtain ⟨b, o, _, rfl, hD, hb, _⟩ := h 0 e0 rfl
    have h' : ∀ (i : Nat), i < (e0 :: es).length → ∃ cs : List Value, w.rangeAt b (o + i * st) cs ∧ cs.length = st ∧ (∀ u ∈ cs, u.oneCell' = true) ∧ ∀ e, (e0 :: es)[i]? = some e → RVs φ D w cs e := by
      intro i hi
      obtain ⟨b', o', cs, he, _, _, h1, h2, h3, h4⟩ := h i _ (List.getElem?_eq_getElem hi)
      injection he with he
      injection he with hb' ho'
      subst hb'; subst ho'
      refine ⟨cs, h1, h2, h3, fun e he => ?_⟩
      rw [List.getElem?_eq_getElem hi] at he
      injection he with he
      rw [← he]; exact h4
    have hch : ∃ css : List (List Value), css.length = (e0 :: es).length ∧ ∀ (i : Nat) cs, css[i]? = some cs → w.rangeAt b (o + i * st) cs ∧ cs.length = st ∧ (∀ u ∈ cs, u.oneCell' = true) ∧ ∀ e, (e0 :: es)[i]? = some e → RVs φ D w cs e := by
      obtain ⟨css, h1, h2⟩ := choose_lt (e0 :: es).length _ h'
      exact ⟨css, h1, h2⟩
    obtain ⟨css, hl, hcss⟩ := hch
    refine .list b o c st _ css hl hc hc2 hD hb (fun i x hx => (hcss i x hx).1) (fun x hx => ?_) (fun e he => ?_) (fun i x hx => (hcss i x hx).2.2.1) (fun i x e hx he j c d hc hd => ((hcss i x hx).2.2.2 e he).2 j c d hc hd)
    · obtain ⟨i, hi, rfl⟩ := List.mem_iff_getElem.1 hx
      exact (hcss i _ (by simp)).2.1
    · obtain ⟨i, hi, rfl⟩ := List.mem_iff_getElem.1 he
      have := hcss i _ (List.getElem?_eq_getElem (show i < css.length by omega))
      have h1 := (this.2.2.2 _ (List.getElem?_eq_getElem hi)).1
      rw [← h1]; exact this.2.1
end
end Go.Ab
