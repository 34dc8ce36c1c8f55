import Derived.WalkKit
import Derived.WalkSpells
import Derived.WalkLawsBesides
import Derived.Lib.Hide
import Derived.Deep.MidRow
import Derived.Maps.AppendAt
import Derived.Deep.WholeRow
import Derived.Laws.Strings
import Derived.Laws.Slices
import Derived.Below
import Derived.Laws.BytesArg
import Derived.RangeFuncRecord
set_option linter.unusedSectionVars false
/- DERIVED. Values without addresses, and how the model's values and memory stand for them. No program here. -/
namespace Go.Ab
open Go.RowKit
inductive Dat where
  | bool (b : Bool)
  | int (k : IntKind) (n : Int)
  | str (s : ByteArray)
  | agg (cs : List Dat)
  | tup (cs : List Dat)
  | nil
  | list (st : Nat) (es : List (List Dat))
  | ref (i off len st : Nat)
  | ptr (i k j st : Nat)
  | rop (cs : List Dat) (j st : Nat)
  | fn (f : Fn) (first cap : List Dat)
  | oth (v : Value)
  | junk
  | gl (n : Nat)
instance : Inhabited Dat := ⟨.oth undef⟩
def Dat.one : Dat → Bool
  | .agg _ | .tup _ => false
  | .oth v => v.oneCell'
  | _ => true
abbrev Pl := Nat → Option (Option Nat)
structure Ext (D : Nat → Prop) (w w' : World) : Prop where
  size : w.heap.size ≤ w'.heap.size
  shape : ∀ b, b < w.heap.size → w'.shape? b = w.shape? b
  same : ∀ b, D b → b < w.heap.size → w'.heap[b]? = w.heap[b]?
theorem Ext.refl (D : Nat → Prop) (w : World) : Ext D w w := ⟨Nat.le_refl _, fun _ _ => rfl, fun _ _ _ => rfl⟩
theorem Ext.trans {D : Nat → Prop} {a b c : World} (h : Ext D a b) (k : Ext D b c) : Ext D a c :=
  ⟨Nat.le_trans h.size k.size, fun i hi => (k.shape i (Nat.lt_of_lt_of_le hi h.size)).trans (h.shape i hi),
   fun i hd hi => (k.same i hd (Nat.lt_of_lt_of_le hi h.size)).trans (h.same i hd hi)⟩
theorem Ext.mono {D D' : Nat → Prop} {w w' : World} (h : Ext D w w') (hd : ∀ b, D' b → b < w.heap.size → D b) : Ext D' w w' :=
  ⟨h.size, h.shape, fun b hb hl => h.same b (hd b hb hl) hl⟩
theorem shape_of_heap {w w' : World} {b : Nat} (h : w'.heap[b]? = w.heap[b]?) : w'.shape? b = w.shape? b := by simp [World.shape?, h]
theorem Ext.of_below {D : Nat → Prop} {w w' : World} (h : Below w.heap.size w w') : Ext D w w' :=
  ⟨h.size, fun b hl => shape_of_heap (h.block b hl), fun b _ hl => h.block b hl⟩
theorem Ext.drew (D : Nat → Prop) (w : World) : Ext D w w.drew := ⟨Nat.le_refl _, fun _ _ => rfl, fun _ _ _ => rfl⟩
theorem Ext.alloc (D : Nat → Prop) (w : World) (o : Obj) : Ext D w (w.alloc o) :=
  ⟨by simp, fun b hl => shape_of_heap (Below.heap_alloc w o b hl), fun b _ hl => Below.heap_alloc w o b hl⟩
theorem Ext.cell {D : Nat → Prop} {w w' : World} (h : Ext D w w') {b i : Nat} {v : Value} (hd : D b) (hc : w.cell? ⟨b, i, none⟩ = some v) : w'.cell? ⟨b, i, none⟩ = some v := by
  have hl : b < w.heap.size := World.block_lt_of_cell? w _ hc
  rw [← hc]
  exact World.cell?_of_block (a := ⟨b, i, none⟩) (h.same b hd hl)
theorem Ext.range {D : Nat → Prop} {w w' : World} (h : Ext D w w') {b o : Nat} {cs : List Value} (hd : D b) (hc : w.rangeAt b o cs) : w'.rangeAt b o cs :=
  fun j v hv => h.cell hd (hc j v hv)
class Lay where
  gp : World → (Nat → Prop) → Prop
  gv : Nat → World → (Nat → Prop) → Value → Prop
  gpk : ∀ {w w' : World} {D D' : Nat → Prop}, gp w D → Ext D w w' → (∀ b, D b → b < w.heap.size → D' b) → gp w' D'
  gvk : ∀ {n : Nat} {w w' : World} {D D' : Nat → Prop} {v : Value}, gv n w D v → Ext D w w' → (∀ b, D b → b < w.heap.size → D' b) → gv n w' D' v
  gv1 : ∀ {n : Nat} {w : World} {D : Nat → Prop} {v : Value}, gv n w D v → v.oneCell' = true ∧ v.cells = #[v]
  gpd : ∀ {w : World} {D : Nat → Prop} {d : Nat} {x y : Option (List Deferred)}, gp w D → w.heap[d]? = some (.deferred x) → gp (w.putObj d (.deferred y)) D
  gvd : ∀ {n : Nat} {w : World} {D : Nat → Prop} {v : Value} {d : Nat} {x y : Option (List Deferred)}, gv n w D v → w.heap[d]? = some (.deferred x) → gv n (w.putObj d (.deferred y)) D v
variable [Lay]
inductive RV (φ : Pl) (D : Nat → Prop) (w : World) : Value → Dat → Prop where
  | bool (b : Bool) : RV φ D w (.bool b) (.bool b)
  | int (k : IntKind) (n : Int) : RV φ D w (.int k n) (.int k n)
  | str (s : ByteArray) : RV φ D w (.string s) (.str s)
  | agg (cs : List Value) (ds : List Dat) (hl : cs.length = ds.length)
      (h : ∀ (i : Nat) c d, cs[i]? = some c → ds[i]? = some d → RV φ D w c d) : RV φ D w (.agg cs.toArray) (.agg ds)
  | tup (cs : List Value) (ds : List Dat) (hl : cs.length = ds.length)
      (h : ∀ (i : Nat) c d, cs[i]? = some c → ds[i]? = some d → RV φ D w c d) : RV φ D w (.tuple cs.toArray) (.tup ds)
  | nil : RV φ D w (.slice none 0 0) .nil
  | list0 (A : Option Addr) (c st : Nat) (hc : c ≤ maxLen) : RV φ D w (.slice A 0 c) (.list st [])
  | list (b o c st : Nat) (es : List (List Dat)) (cs : List (List Value)) (hl : cs.length = es.length) (hc : es.length ≤ c) (hc2 : c ≤ maxLen)
      (hD : D b) (hb : b < w.heap.size) (hr : ∀ (i : Nat) x, cs[i]? = some x → w.rangeAt b (o + i * st) x) (hs : ∀ x ∈ cs, x.length = st) (hes : ∀ e ∈ es, e.length = st)
      (h1 : ∀ (i : Nat) x, cs[i]? = some x → ∀ v ∈ x, v.oneCell' = true)
      (h : ∀ (i : Nat) x e, cs[i]? = some x → es[i]? = some e → ∀ (j : Nat) c d, x[j]? = some c → e[j]? = some d → RV φ D w c d) :
      RV φ D w (.slice (some ⟨b, o, none⟩) es.length c) (.list st es)
  | ref (i g off len c st : Nat) (hφ : φ i = some (some g)) (hlen : len ≤ c) (hc : c ≤ maxLen) (hsz : ∃ e, w.shape? g = some (e, (off + c) * st)) :
      RV φ D w (.slice (some ⟨g, off * st, none⟩) len c) (.ref i off len st)
  | ref0 (i off st : Nat) (A : Option Addr) (h0 : 0 < off) : RV φ D w (.slice A 0 0) (.ref i off 0 st)
  | refv (i st : Nat) (hφ : φ i = some none) : RV φ D w (.slice none 0 0) (.ref i 0 0 st)
  | ptr (i g k j st : Nat) (hφ : φ i = some (some g)) : RV φ D w (.pointer (some ⟨g, k * st + j, none⟩)) (.ptr i k j st)
  | rop (b o j st : Nat) (ds : List Dat) (cs : List Value) (hl : cs.length = ds.length) (hst : cs.length = st) (hD : D b) (hb : b < w.heap.size) (hr : w.rangeAt b o cs) (h1 : ∀ v ∈ cs, v.oneCell' = true)
      (h : ∀ (i : Nat) c d, cs[i]? = some c → ds[i]? = some d → RV φ D w c d) : RV φ D w (.pointer (some ⟨b, o + j, none⟩)) (.rop ds j st)
  | fn (f : Fn) (cs1 cs2 : List Value) (ds1 ds2 : List Dat) (hl1 : cs1.length = ds1.length) (hl2 : cs2.length = ds2.length)
      (h1 : ∀ (i : Nat) c d, cs1[i]? = some c → ds1[i]? = some d → RV φ D w c d)
      (h2 : ∀ (i : Nat) c d, cs2[i]? = some c → ds2[i]? = some d → RV φ D w c d) : RV φ D w (.func f cs1.toArray cs2.toArray) (.fn f ds1 ds2)
  | oth (v : Value) : RV φ D w v (.oth v)
  | junk (v : Value) (h : v.oneCell' = true) (h2 : v.cells = #[v]) : RV φ D w v .junk
  | gl (n : Nat) (v : Value) (h : Lay.gv n w D v) : RV φ D w v (.gl n)
def RVs (φ : Pl) (D : Nat → Prop) (w : World) (cs : List Value) (ds : List Dat) : Prop :=
  cs.length = ds.length ∧ ∀ (i : Nat) c d, cs[i]? = some c → ds[i]? = some d → RV φ D w c d
def PlLe (φ φ' : Pl) : Prop := ∀ i x, φ i = some x → φ' i = some x
theorem PlLe.refl (φ : Pl) : PlLe φ φ := fun _ _ h => h
theorem PlLe.trans {a b c : Pl} (h : PlLe a b) (k : PlLe b c) : PlLe a c := fun i x hx => k i x (h i x hx)
theorem RV.keep {φ φ' : Pl} {D D' : Nat → Prop} {w w' : World} (hφ : PlLe φ φ') (hD : ∀ b, D b → b < w.heap.size → D' b) (hk : Ext D w w') {v : Value} {d : Dat} (h : RV φ D w v d) : RV φ' D' w' v d := by
  induction h with
  | bool b => exact .bool b
  | int k n => exact .int k n
  | str s => exact .str s
  | agg cs ds hl _ ih => exact .agg cs ds hl ih
  | tup cs ds hl _ ih => exact .tup cs ds hl ih
  | nil => exact .nil
  | list0 A c st hc => exact .list0 A c st hc
  | list b o c st es cs hl hc hc2 hd hb hr hs hes h1 _ ih =>
    exact .list b o c st es cs hl hc hc2 (hD b hd hb) (Nat.lt_of_lt_of_le hb hk.size) (fun i x hx => hk.range hd (hr i x hx)) hs hes h1 ih
  | ref i g off len c st hp hlen hc hsz =>
    refine .ref i g off len c st (hφ _ _ hp) hlen hc ?_
    obtain ⟨e, he⟩ := hsz
    refine ⟨e, ?_⟩
    rw [← he]
    refine hk.shape g ?_
    rcases Nat.lt_or_ge g w.heap.size with h1 | h1
    · exact h1
    · simp [World.shape?, Array.getElem?_eq_none h1] at he
  | ref0 i off st A h0 => exact .ref0 i off st A h0
  | refv i st hp => exact .refv i st (hφ _ _ hp)
  | ptr i g k j st hp => exact .ptr i g k j st (hφ _ _ hp)
  | rop b o j st ds cs hl hst hd hb hr h1 _ ih => exact .rop b o j st ds cs hl hst (hD b hd hb) (Nat.lt_of_lt_of_le hb hk.size) (hk.range hd hr) h1 ih
  | fn f cs1 cs2 ds1 ds2 hl1 hl2 _ _ ih1 ih2 => exact .fn f cs1 cs2 ds1 ds2 hl1 hl2 ih1 ih2
  | oth v => exact .oth v
  | junk v h h2 => exact .junk v h h2
  | gl n v h => exact .gl n v (Lay.gvk h hk hD)
theorem shape_putd {w : World} {d : Nat} {x y : Option (List Deferred)} (h : w.heap[d]? = some (.deferred x)) (b : Nat) : (w.putObj d (.deferred y)).shape? b = w.shape? b := by
  have hl : d < w.heap.size := (Array.getElem?_eq_some_iff.1 h).1
  by_cases e : b = d
  · subst e
    simp [World.shape?, h, World.putObj_heap_same hl]
  · exact shape_of_heap (World.putObj_heap_other e)
theorem cell_putd {w : World} {d b i : Nat} {x y : Option (List Deferred)} (h : w.heap[d]? = some (.deferred x)) {v : Value} (hc : w.cell? ⟨b, i, none⟩ = some v) : (w.putObj d (.deferred y)).cell? ⟨b, i, none⟩ = some v := by
  by_cases e : b = d
  · subst e
    simp [World.cell?, h] at hc
  · rw [← hc]
    exact World.cell?_of_block (a := ⟨b, i, none⟩) (World.putObj_heap_other e)
theorem RV.putd {φ : Pl} {D : Nat → Prop} {w : World} {d : Nat} {x y : Option (List Deferred)} (hd : w.heap[d]? = some (.deferred x)) {v : Value} {e : Dat} (h : RV φ D w v e) : RV φ D (w.putObj d (.deferred y)) v e := by
  have hsz : (w.putObj d (.deferred y)).heap.size = w.heap.size := by simp [World.putObj]
  induction h with
  | bool b => exact .bool b
  | int k n => exact .int k n
  | str s => exact .str s
  | agg cs ds hl _ ih => exact .agg cs ds hl ih
  | tup cs ds hl _ ih => exact .tup cs ds hl ih
  | nil => exact .nil
  | list0 A c st hc => exact .list0 A c st hc
  | list b o c st es cs hl hc hc2 hD hb hr hs hes h1 _ ih =>
    exact .list b o c st es cs hl hc hc2 hD (by rw [hsz]; exact hb) (fun i x hx j v hv => cell_putd hd (hr i x hx j v hv)) hs hes h1 ih
  | ref i g off len c st hp hlen hc hsh =>
    obtain ⟨e, he⟩ := hsh
    exact .ref i g off len c st hp hlen hc ⟨e, by rw [shape_putd hd]; exact he⟩
  | ref0 i off st A h0 => exact .ref0 i off st A h0
  | refv i st hp => exact .refv i st hp
  | ptr i g k j st hp => exact .ptr i g k j st hp
  | rop b o j st ds cs hl hst hD hb hr h1 _ ih => exact .rop b o j st ds cs hl hst hD (by rw [hsz]; exact hb) (fun j v hv => cell_putd hd (hr j v hv)) h1 ih
  | fn f cs1 cs2 ds1 ds2 hl1 hl2 _ _ ih1 ih2 => exact .fn f cs1 cs2 ds1 ds2 hl1 hl2 ih1 ih2
  | oth v => exact .oth v
  | junk v h h2 => exact .junk v h h2
  | gl n v h => exact .gl n v (Lay.gvd h hd)
theorem RVs.keep {φ φ' : Pl} {D D' : Nat → Prop} {w w' : World} (hφ : PlLe φ φ') (hD : ∀ b, D b → b < w.heap.size → D' b) (hk : Ext D w w') {vs : List Value} {ds : List Dat} (h : RVs φ D w vs ds) : RVs φ' D' w' vs ds :=
  ⟨h.1, fun i c d hc hd => RV.keep hφ hD hk (h.2 i c d hc hd)⟩
theorem choose_lt {β : Type} (n : Nat) (p : Nat → β → Prop) (h : ∀ i, i < n → ∃ y, p i y) : ∃ l : List β, l.length = n ∧ ∀ (i : Nat) x, l[i]? = some x → p i x := by
  induction n with
  | zero => exact ⟨[], rfl, fun i x h => by simp at h⟩
  | succ n ih =>
    obtain ⟨l, hl, hp⟩ := ih (fun i hi => h i (by omega))
    obtain ⟨y, hy⟩ := h n (by omega)
    refine ⟨l ++ [y], by simp [hl], fun i x hx => ?_⟩
    rcases Nat.lt_or_ge i n with h1 | h1
    · rw [List.getElem?_append_left (by omega)] at hx; exact hp i x hx
    · rw [List.getElem?_append_right (by omega)] at hx
      have h0 := (List.getElem?_eq_some_iff.1 hx).1
      simp at h0
      have : i = n := by omega
      subst this
      rw [hl, Nat.sub_self] at hx
      simp at hx
      subst hx; exact hy
section
variable {φ : Pl} {D : Nat → Prop} {w : World} {v : Value}
theorem RV.bool_inv {b : Bool} (h : RV φ D w v (.bool b)) : v = .bool b := by cases h; rfl
theorem RV.int_inv {k : IntKind} {n : Int} (h : RV φ D w v (.int k n)) : v = .int k n := by cases h; rfl
theorem RV.str_inv {s : ByteArray} (h : RV φ D w v (.str s)) : v = .string s := by cases h; rfl
theorem RV.oth_inv {u : Value} (h : RV φ D w v (.oth u)) : v = u := by cases h; rfl
theorem RV.nil_inv (h : RV φ D w v .nil) : v = .slice none 0 0 := by cases h; rfl
theorem RV.agg_inv {ds : List Dat} (h : RV φ D w v (.agg ds)) : ∃ cs : List Value, v = .agg cs.toArray ∧ RVs φ D w cs ds := by
  cases h with | agg cs _ hl h => exact ⟨cs, rfl, hl, h⟩
theorem RV.tup_inv {ds : List Dat} (h : RV φ D w v (.tup ds)) : ∃ cs : List Value, v = .tuple cs.toArray ∧ RVs φ D w cs ds := by
  cases h with | tup cs _ hl h => exact ⟨cs, rfl, hl, h⟩
theorem RV.ptr_inv {i k j st : Nat} (h : RV φ D w v (.ptr i k j st)) : ∃ g, φ i = some (some g) ∧ v = .pointer (some ⟨g, k * st + j, none⟩) := by
  cases h with | ptr _ g _ _ _ hp => exact ⟨g, hp, rfl⟩
theorem RV.rop_inv {ds : List Dat} {j st : Nat} (h : RV φ D w v (.rop ds j st)) : ∃ b o cs, v = .pointer (some ⟨b, o + j, none⟩) ∧ cs.length = st ∧ D b ∧ b < w.heap.size ∧ w.rangeAt b o cs ∧ (∀ u ∈ cs, u.oneCell' = true) ∧ RVs φ D w cs ds := by
  cases h with | rop b o _ _ _ cs hl hst hD hb hr h1 h => exact ⟨b, o, cs, rfl, hst, hD, hb, hr, h1, hl, h⟩
theorem RV.fn_inv {f : Fn} {d1 d2 : List Dat} (h : RV φ D w v (.fn f d1 d2)) : ∃ c1 c2 : List Value, v = .func f c1.toArray c2.toArray ∧ RVs φ D w c1 d1 ∧ RVs φ D w c2 d2 := by
  cases h with | fn _ c1 c2 _ _ hl1 hl2 h1 h2 => exact ⟨c1, c2, rfl, ⟨hl1, h1⟩, ⟨hl2, h2⟩⟩
theorem RV.list_inv {st : Nat} {es : List (List Dat)} (h : RV φ D w v (.list st es)) : ∃ A c, v = .slice A es.length c ∧ es.length ≤ c ∧ c ≤ maxLen ∧
    ∀ (i : Nat) e, es[i]? = some e → ∃ b o cs, A = some ⟨b, o, none⟩ ∧ D b ∧ b < w.heap.size ∧ w.rangeAt b (o + i * st) cs ∧ cs.length = st ∧ (∀ u ∈ cs, u.oneCell' = true) ∧ RVs φ D w cs e := by
  cases h with
  | list0 A c _ hc => exact ⟨A, c, rfl, Nat.zero_le _, hc, fun i e he => by simp at he⟩
  | list b o c _ _ cs hl hc hc2 hD hb hr hs hes h1 h =>
    refine ⟨_, c, rfl, hc, hc2, fun i e he => ?_⟩
    have hi : i < cs.length := by rw [hl]; exact (List.getElem?_eq_some_iff.1 he).1
    have hx : cs[i]? = some cs[i] := by simp
    refine ⟨b, o, cs[i], rfl, hD, hb, hr i _ hx, hs _ (List.getElem_mem hi), h1 i _ hx, ?_, h i _ e hx he⟩
    rw [hs _ (List.getElem_mem hi), hes e (List.mem_of_getElem? he)]
theorem RV.list_mk {A : Option Addr} {c st n : Nat} {es : List (List Dat)} (hn : n = es.length) (hc : es.length ≤ c) (hc2 : c ≤ maxLen)
    (h : ∀ (i : Nat) e, es[i]? = some e → ∃ b o cs, A = some ⟨b, o, none⟩ ∧ D b ∧ b < w.heap.size ∧ w.rangeAt b (o + i * st) cs ∧ cs.length = st ∧ (∀ u ∈ cs, u.oneCell' = true) ∧ RVs φ D w cs e) :
    RV φ D w (.slice A n c) (.list st es) := by
  subst hn
  cases es with
  | nil => exact .list0 A c st hc2
  | cons e0 es =>
    obtain ⟨b, o, _, rfl, hD, hb, _⟩ := h 0 e0 rfl
    have h' : ∀ (i : Nat), i < (e0 :: es).length → ∃ cs : List Value, w.rangeAt b (o + i * st) cs ∧ cs.length = st ∧ (∀ u ∈ cs, u.oneCell' = true) ∧ ∀ e, (e0 :: es)[i]? = some e → RVs φ D w cs e := by
      intro i hi
      obtain ⟨b', o', cs, he, _, _, h1, h2, h3, h4⟩ := h i _ (List.getElem?_eq_getElem hi)
      injection he with he
      injection he with hb' ho'
      subst hb'; subst ho'
      refine ⟨cs, h1, h2, h3, fun e he => ?_⟩
      rw [List.getElem?_eq_getElem hi] at he
      injection he with he
      rw [← he]; exact h4
    have hch : ∃ css : List (List Value), css.length = (e0 :: es).length ∧ ∀ (i : Nat) cs, css[i]? = some cs → w.rangeAt b (o + i * st) cs ∧ cs.length = st ∧ (∀ u ∈ cs, u.oneCell' = true) ∧ ∀ e, (e0 :: es)[i]? = some e → RVs φ D w cs e := by
      obtain ⟨css, h1, h2⟩ := choose_lt (e0 :: es).length _ h'
      exact ⟨css, h1, h2⟩
    obtain ⟨css, hl, hcss⟩ := hch
    refine .list b o c st _ css hl hc hc2 hD hb (fun i x hx => (hcss i x hx).1) (fun x hx => ?_) (fun e he => ?_) (fun i x hx => (hcss i x hx).2.2.1) (fun i x e hx he j c d hc hd => ((hcss i x hx).2.2.2 e he).2 j c d hc hd)
    · obtain ⟨i, hi, rfl⟩ := List.mem_iff_getElem.1 hx
      exact (hcss i _ (by simp)).2.1
    · obtain ⟨i, hi, rfl⟩ := List.mem_iff_getElem.1 he
      have := hcss i _ (List.getElem?_eq_getElem (show i < css.length by omega))
      have h1 := (this.2.2.2 _ (List.getElem?_eq_getElem hi)).1
      rw [← h1]; exact this.2.1
end
end Go.Ab
/- DERIVED. Abstract states, what it is that a concrete state stands for one, and what becomes of that when memory is made or written. No program here. -/
namespace Go.Ab
open Go.RowKit
variable [Lay]
def upd {β : Type} (f : Nat → β) (a : Nat) (b : β) : Nat → β := fun x => if x = a then b else f x
theorem upd_same {β : Type} (f : Nat → β) (a : Nat) (b : β) : upd f a b a = b := by simp [upd]
theorem upd_ne {β : Type} (f : Nat → β) {a x : Nat} (b : β) (h : x ≠ a) : upd f a b x = f x := by simp [upd, h]
structure Blk where
  e : Nat
  st : Nat
  fz : Bool
  es : List (List Dat)
structure St where
  t : Nat → Dat
  h : Nat → Option Blk
  n : Nat
  nt : Nat
structure Cx where
  w0 : World
  L0 : Nat → Prop
  D0 : Nat → Prop
  p0 : Pl
  m0 : Nat := w0.heap.size
  hm : m0 ≤ w0.heap.size := by exact Nat.le_refl _
abbrev cx (w0 : World) (L0 D0 : Nat → Prop) (p0 : Pl) : Cx := { w0, L0, D0, p0 }
structure Chg (w w' : World) (row : Option Nat) : Prop where
  os : w'.os = w.os
  tape : w'.tape = w.tape
  output : w'.output = w.output
  size : w.heap.size ≤ w'.heap.size
  shape : ∀ k, k < w.heap.size → w'.shape? k = w.shape? k
  block : ∀ k, k < w.heap.size → some k ≠ row → w'.heap[k]? = w.heap[k]?
theorem Chg.ext {w w' : World} {row : Option Nat} (h : Chg w w' row) {D : Nat → Prop} (hD : ∀ g, row = some g → ¬ D g) : Ext D w w' :=
  ⟨h.size, h.shape, fun b hb hl => h.block b hl (fun e => hD b e.symm hb)⟩
theorem Chg.of_below {w w' : World} (h : Below w.heap.size w w') : Chg w w' none :=
  ⟨h.os, h.tape, h.output, h.size, fun k hk => shape_of_heap (h.block k hk), fun k hk _ => h.block k hk⟩
theorem Chg.alloc (w : World) (o : Obj) : Chg w (w.alloc o) none :=
  ⟨rfl, rfl, rfl, by simp, fun k hk => shape_of_heap (Below.heap_alloc w o k hk), fun k hk _ => Below.heap_alloc w o k hk⟩
theorem Chg.drew (w : World) : Chg w w.drew none := ⟨rfl, rfl, rfl, Nat.le_refl _, fun _ _ => rfl, fun _ _ _ => rfl⟩
theorem Chg.trans {a b c : World} {row : Option Nat} (h : Chg a b row) (k : Chg b c row) : Chg a c row :=
  ⟨k.os.trans h.os, k.tape.trans h.tape, k.output.trans h.output, Nat.le_trans h.size k.size, fun i hi => (k.shape i (Nat.lt_of_lt_of_le hi h.size)).trans (h.shape i hi),
   fun i hi hne => (k.block i (Nat.lt_of_lt_of_le hi h.size) hne).trans (h.block i hi hne)⟩
theorem Chg.mono {a b : World} (h : Chg a b none) (row : Option Nat) : Chg a b row :=
  ⟨h.os, h.tape, h.output, h.size, h.shape, fun k hk _ => h.block k hk (by simp)⟩
structure Fr (X : Cx) (w : World) : Prop where
  os : w.os = X.w0.os
  tape : w.tape = X.w0.tape
  output : w.output = X.w0.output
  size : X.w0.heap.size ≤ w.heap.size
  shape : ∀ b, b < X.w0.heap.size → w.shape? b = X.w0.shape? b
  old : ∀ b, b < X.w0.heap.size → ¬ X.L0 b → w.heap[b]? = X.w0.heap[b]?
theorem Fr.chg {X : Cx} {w w' : World} {row : Option Nat} (h : Fr X w) (c : Chg w w' row) (hr : ∀ g, row = some g → X.L0 g ∨ X.w0.heap.size ≤ g) : Fr X w' :=
  ⟨c.os.trans h.os, c.tape.trans h.tape, c.output.trans h.output, Nat.le_trans h.size c.size, fun b hb => (c.shape b (Nat.lt_of_lt_of_le hb h.size)).trans (h.shape b hb),
   fun b hb hl => (c.block b (Nat.lt_of_lt_of_le hb h.size) (fun e => by rcases hr b e.symm with h1 | h1; exact hl h1; omega)).trans (h.old b hb hl)⟩
def Lies (φ : Pl) (D : Nat → Prop) (w : World) (g : Nat) (B : Blk) : Prop :=
  ∃ arr : Array Value, w.heap[g]? = some (.cells arr B.e (0, 0)) ∧ B.es.length * B.st ≤ arr.size ∧
    ∀ (k : Nat) e, B.es[k]? = some e → e.length = B.st ∧ ∀ (j : Nat) d, e[j]? = some d → ∃ v, arr[k * B.st + j]? = some v ∧ v.oneCell' = true ∧ RV φ D w v d
theorem Lies.lt {φ : Pl} {D : Nat → Prop} {w : World} {g : Nat} {B : Blk} (h : Lies φ D w g B) : g < w.heap.size := by
  obtain ⟨arr, h, _⟩ := h
  rcases Nat.lt_or_ge g w.heap.size with h1 | h1
  · exact h1
  · rw [Array.getElem?_eq_none h1] at h; cases h
theorem Lies.keep {φ φ' : Pl} {D D' : Nat → Prop} {w w' : World} {g : Nat} {B : Blk} (h : Lies φ D w g B) (hφ : PlLe φ φ') (hD : ∀ b, D b → b < w.heap.size → D' b) (hk : Ext D w w') (hg : w'.heap[g]? = w.heap[g]?) : Lies φ' D' w' g B := by
  obtain ⟨arr, h1, h2, h3⟩ := h
  refine ⟨arr, by rw [hg, h1], h2, fun k e he => ⟨(h3 k e he).1, fun j d hd => ?_⟩⟩
  obtain ⟨v, hv, h1, hr⟩ := (h3 k e he).2 j d hd
  exact ⟨v, hv, h1, RV.keep hφ hD hk hr⟩
structure HS (X : Cx) (S : Nat → Prop) (h : Nat → Option Blk) (n : Nat) (w : World) (φ : Pl) (D : Nat → Prop) : Prop where
  live : ∀ i B, h i = some B → (φ i = some none ∧ B.es = []) ∨ ∃ g, φ i = some (some g) ∧ Lies φ D w g B ∧ (B.fz = true → D g) ∧ (B.fz = false → ¬ D g ∧ (X.L0 g ∨ X.w0.heap.size ≤ g))
  inj : ∀ i j B C g, h i = some B → h j = some C → φ i = some (some g) → φ j = some (some g) → B.fz = false → i = j
  fresh : ∀ i, n ≤ i → ¬ S (i - n) → φ i = none
  Dlt : ∀ b, D b → b < w.heap.size
  Dsub : ∀ b, D b → X.D0 b ∨ X.L0 b ∨ X.w0.heap.size ≤ b
  Dsup : ∀ b, X.D0 b → D b
  psup : PlLe X.p0 φ
  fr : Fr X w
  fin : ∃ N, ∀ k, N ≤ k → φ k = none
  gp : Lay.gp w D
theorem HS.putd {X : Cx} {S : Nat → Prop} {h : Nat → Option Blk} {n : Nat} {w : World} {φ : Pl} {D : Nat → Prop} (H : HS X S h n w φ D) {d : Nat} {x y : Option (List Deferred)} (hd : w.heap[d]? = some (.deferred x)) (hn : X.w0.heap.size ≤ d) :
    HS X S h n (w.putObj d (.deferred y)) φ D where
  live := fun i B hi => by
    rcases H.live i B hi with h1 | ⟨g, h1, ⟨arr, h2, h3, h4⟩, h5⟩
    · exact .inl h1
    · have hne : g ≠ d := fun e => by subst e; rw [hd] at h2; cases h2
      refine .inr ⟨g, h1, ⟨arr, by rw [World.putObj_heap_other hne]; exact h2, h3, fun k e he => ⟨(h4 k e he).1, fun j d' hd' => ?_⟩⟩, h5⟩
      obtain ⟨v, v1, v2, v3⟩ := (h4 k e he).2 j d' hd'
      exact ⟨v, v1, v2, v3.putd hd⟩
  inj := H.inj
  fresh := H.fresh
  Dlt := fun b hb => by have := H.Dlt b hb; simpa [World.putObj] using this
  Dsub := H.Dsub
  Dsup := H.Dsup
  psup := H.psup
  fr := ⟨H.fr.os, H.fr.tape, H.fr.output, by have := H.fr.size; simpa [World.putObj] using this, fun b hb => by rw [shape_putd hd]; exact H.fr.shape b hb,
    fun b hb hl => by rw [World.putObj_heap_other (by omega)]; exact H.fr.old b hb hl⟩
  fin := H.fin
  gp := Lay.gpd H.gp hd
theorem fin_upd {φ : Pl} {i : Nat} {x : Option (Option Nat)} (h : ∃ N, ∀ k, N ≤ k → φ k = none) : ∃ N, ∀ k, N ≤ k → upd φ i x k = none := by
  obtain ⟨N, hN⟩ := h
  exact ⟨N + i + 1, fun k hk => by rw [upd_ne _ _ (by omega)]; exact hN k (by omega)⟩
section
variable {X : Cx} {S S' : Nat → Prop} {h : Nat → Option Blk} {n : Nat} {w w' : World} {φ : Pl} {D : Nat → Prop}
theorem HS.dom (H : HS X S h n w φ D) {i : Nat} {B : Blk} (hi : h i = some B) : φ i ≠ none := by
  rcases H.live i B hi with ⟨h1, _⟩ | ⟨g, h1, _⟩ <;> simp [h1]
theorem HS.grow (H : HS X S h n w φ D) (c : Chg w w' none) : HS X S h n w' φ D where
  live := fun i B hi => by
    rcases H.live i B hi with h1 | ⟨g, h1, h2, h3, h4⟩
    · exact .inl h1
    · exact .inr ⟨g, h1, h2.keep (PlLe.refl _) (fun _ h _ => h) (c.ext (fun _ h => by cases h)) (c.block g h2.lt (by simp)), h3, h4⟩
  inj := H.inj
  fresh := H.fresh
  Dlt := fun b hb => Nat.lt_of_lt_of_le (H.Dlt b hb) c.size
  Dsub := H.Dsub
  Dsup := H.Dsup
  psup := H.psup
  fr := H.fr.chg c (fun _ h => by cases h)
  fin := H.fin
  gp := Lay.gpk H.gp (c.ext (fun _ h => by cases h)) (fun _ h _ => h)
theorem HS.drop (H : HS X S h n w φ D) (i : Nat) : HS X S (upd h i none) n w φ D where
  live := fun j B hj => by
    by_cases e : j = i
    · subst e; rw [upd_same] at hj; cases hj
    · rw [upd_ne _ _ e] at hj; exact H.live j B hj
  inj := fun j k B C g hj hk => by
    by_cases e : j = i
    · subst e; rw [upd_same] at hj; cases hj
    · by_cases e' : k = i
      · subst e'; rw [upd_same] at hk; cases hk
      · rw [upd_ne _ _ e] at hj; rw [upd_ne _ _ e'] at hk; exact H.inj j k B C g hj hk
  fresh := H.fresh
  Dlt := H.Dlt
  Dsub := H.Dsub
  Dsup := H.Dsup
  psup := H.psup
  fr := H.fr
  fin := H.fin
  gp := H.gp
theorem HS.more (H : HS X S h n w φ D) (hS : ∀ j, S j → S' j) : HS X S' h n w φ D :=
  { H with fresh := fun i hi hn => H.fresh i hi (fun hs => hn (hS _ hs)) }
theorem PlLe.upd {φ : Pl} {i : Nat} (hi : φ i = none) (x : Option Nat) : PlLe φ (upd φ i (some x)) := fun j y hy => by
  by_cases e : j = i
  · subst e; rw [hi] at hy; cases hy
  · rw [upd_ne _ _ e]; exact hy
theorem HS.virt (H : HS X S h n w φ D) {i : Nat} (hn : n ≤ i) (hi : ¬ S (i - n)) (hS : ∀ j, S j → S' j) (hS' : S' (i - n)) (e st : Nat) (fz : Bool) :
    HS X S' (upd h i (some ⟨e, st, fz, []⟩)) n w (upd φ i (some none)) D := by
  have hφ := H.fresh i hn hi
  have hle := PlLe.upd (φ := φ) hφ none
  refine { H with live := fun j B hj => ?_, inj := fun j k B C g hj hk pj pk hf => ?_, fresh := fun j hj hs => ?_, psup := H.psup.trans hle, fin := fin_upd H.fin }
  · by_cases e' : j = i
    · subst e'
      rw [upd_same] at hj
      injection hj with hj
      subst hj
      exact .inl ⟨upd_same _ _ _, rfl⟩
    · rw [upd_ne _ _ e'] at hj
      rcases H.live j B hj with ⟨h1, h2⟩ | ⟨g, h1, h2, h3, h4⟩
      · exact .inl ⟨hle _ _ h1, h2⟩
      · exact .inr ⟨g, hle _ _ h1, h2.keep hle (fun _ h _ => h) (Ext.refl _ _) rfl, h3, h4⟩
  · by_cases e' : j = i
    · subst e'; rw [upd_same] at pj; cases pj
    · by_cases e'' : k = i
      · subst e''; rw [upd_same] at pk; cases pk
      · rw [upd_ne _ _ e'] at hj pj; rw [upd_ne _ _ e''] at hk pk; exact H.inj j k B C g hj hk pj pk hf
  · have hne : j ≠ i := fun e' => hs (by rw [e']; exact hS')
    rw [upd_ne _ _ hne]
    exact H.fresh j hj (fun h => hs (hS _ h))
theorem HS.new (H : HS X S h n w φ D) {i g : Nat} {B : Blk} {row : Option Nat} (hn : n ≤ i) (hi : ¬ S (i - n)) (hS : ∀ j, S j → S' j) (hS' : S' (i - n)) (c : Chg w w' row)
    (hrow : ∀ r, row = some r → (¬ D r ∧ (X.L0 r ∨ X.w0.heap.size ≤ r)) ∧ ∀ j C, h j = some C → φ j ≠ some (some r))
    (hg : w.heap.size ≤ g ∨ row = some g) (hB : Lies (upd φ i (some (some g))) D w' g B) (hfz : B.fz = false) :
    HS X S' (upd h i (some B)) n w' (upd φ i (some (some g))) D := by
  have hφ := H.fresh i hn hi
  have hle := PlLe.upd (φ := φ) hφ (some g)
  have hext : Ext D w w' := c.ext (fun r hr => (hrow r hr).1.1)
  have hnot : ∀ j C, h j = some C → φ j ≠ some (some g) := fun j C hj hp => by
    rcases hg with hg | hg
    · rcases H.live j C hj with ⟨h1, _⟩ | ⟨g', h1, h2, _⟩
      · rw [hp] at h1; cases h1
      · rw [hp] at h1; injection h1 with h1; injection h1 with h1; subst h1; have := h2.lt; omega
    · exact (hrow g hg).2 j C hj hp
  have hgD : ¬ D g ∧ (X.L0 g ∨ X.w0.heap.size ≤ g) := by
    rcases hg with hg | hg
    · exact ⟨fun hd => by have := H.Dlt g hd; omega, .inr (Nat.le_trans H.fr.size hg)⟩
    · exact (hrow g hg).1
  refine ⟨fun j C hj => ?_, fun j k C E g' hj hk pj pk hf => ?_, fun j hj hs => ?_, fun b hb => Nat.lt_of_lt_of_le (H.Dlt b hb) c.size, H.Dsub, H.Dsup, H.psup.trans hle, H.fr.chg c (fun r hr => (hrow r hr).1.2), fin_upd H.fin, Lay.gpk H.gp (c.ext (fun r hr => (hrow r hr).1.1)) (fun _ h _ => h)⟩
  · by_cases e' : j = i
    · subst e'
      rw [upd_same] at hj
      injection hj with hj
      subst hj
      exact .inr ⟨g, upd_same _ _ _, hB, (fun h => by rw [hfz] at h; cases h), fun _ => hgD⟩
    · rw [upd_ne _ _ e'] at hj
      rcases H.live j C hj with ⟨h1, h2⟩ | ⟨g', h1, h2, h3, h4⟩
      · exact .inl ⟨hle _ _ h1, h2⟩
      · refine .inr ⟨g', hle _ _ h1, h2.keep hle (fun _ h _ => h) hext (c.block g' h2.lt fun e => ?_), h3, h4⟩
        exact (hrow g' e.symm).2 j C hj h1
  · by_cases e' : j = i
    · by_cases e'' : k = i
      · rw [e', e'']
      · subst e'
        rw [upd_same] at pj
        injection pj with pj; injection pj with pj; subst pj
        rw [upd_ne _ _ e''] at hk pk
        exact absurd pk (hnot k E hk)
    · by_cases e'' : k = i
      · subst e''
        rw [upd_same] at pk
        injection pk with pk; injection pk with pk; subst pk
        rw [upd_ne _ _ e'] at hj pj
        exact absurd pj (hnot j C hj)
      · rw [upd_ne _ _ e'] at hj pj; rw [upd_ne _ _ e''] at hk pk; exact H.inj j k C E g' hj hk pj pk hf
  · have hne : j ≠ i := fun e' => hs (by rw [e']; exact hS')
    rw [upd_ne _ _ hne]
    exact H.fresh j hj (fun h => hs (hS _ h))
theorem HS.write (H : HS X S h n w φ D) {i g : Nat} {B B' : Blk} (hi : h i = some B) (hp : φ i = some (some g)) (hf : B.fz = false) (c : Chg w w' (some g)) (hB : Lies φ D w' g B') (hf' : B'.fz = false) :
    HS X S (upd h i (some B')) n w' φ D := by
  have hg : ¬ D g ∧ (X.L0 g ∨ X.w0.heap.size ≤ g) := by
    rcases H.live i B hi with ⟨h1, _⟩ | ⟨g', h1, _, _, h4⟩
    · rw [hp] at h1; cases h1
    · rw [hp] at h1; injection h1 with h1; injection h1 with h1; subst h1; exact h4 hf
  have hext : Ext D w w' := c.ext (fun r hr => by injection hr with hr; subst hr; exact hg.1)
  have old : ∀ j C, upd h i (some B') j = some C → ∃ C', h j = some C' ∧ C'.fz = C.fz := fun j C hj => by
    by_cases e : j = i
    · subst e; rw [upd_same] at hj; injection hj with hj; subst hj; exact ⟨B, hi, by rw [hf, hf']⟩
    · rw [upd_ne _ _ e] at hj; exact ⟨C, hj, rfl⟩
  refine ⟨fun j C hj => ?_, fun j k C E g' hj hk pj pk hfz => ?_, H.fresh, fun b hb => Nat.lt_of_lt_of_le (H.Dlt b hb) c.size, H.Dsub, H.Dsup, H.psup, H.fr.chg c (fun r hr => by injection hr with hr; subst hr; exact hg.2), H.fin, Lay.gpk H.gp hext (fun _ h _ => h)⟩
  · by_cases e : j = i
    · subst e
      rw [upd_same] at hj
      injection hj with hj
      subst hj
      exact .inr ⟨g, hp, hB, (fun h => by rw [hf'] at h; cases h), fun _ => hg⟩
    · rw [upd_ne _ _ e] at hj
      rcases H.live j C hj with h1 | ⟨g', h1, h2, h3, h4⟩
      · exact .inl h1
      · refine .inr ⟨g', h1, h2.keep (PlLe.refl _) (fun _ h _ => h) hext (c.block g' h2.lt fun e' => ?_), h3, h4⟩
        injection e' with e'
        subst e'
        exact e (H.inj i j B C g' hi hj hp h1 hf).symm
  · obtain ⟨C', h1, h2⟩ := old j C hj
    obtain ⟨E', h3, _⟩ := old k E hk
    exact H.inj j k C' E' g' h1 h3 pj pk (by rw [h2]; exact hfz)
theorem HS.freeze (H : HS X S h n w φ D) {i g : Nat} {B : Blk} (hi : h i = some B) (hp : φ i = some (some g)) (hf : B.fz = false) :
    HS X S (upd h i (some { B with fz := true })) n w φ (fun b => D b ∨ b = g) := by
  obtain ⟨hl, hg⟩ : Lies φ D w g B ∧ ¬ D g ∧ (X.L0 g ∨ X.w0.heap.size ≤ g) := by
    rcases H.live i B hi with ⟨h1, _⟩ | ⟨g', h1, h2, _, h4⟩
    · rw [hp] at h1; cases h1
    · rw [hp] at h1; injection h1 with h1; injection h1 with h1; subst h1; exact ⟨h2, h4 hf⟩
  have hlies : ∀ g' C, Lies φ D w g' C → Lies φ (fun b => D b ∨ b = g) w g' C := fun g' C h => h.keep (PlLe.refl _) (fun _ h _ => .inl h) (Ext.refl _ _) rfl
  refine ⟨fun j C hj => ?_, fun j k C E g' hj hk pj pk hfz => ?_, H.fresh, fun b hb => ?_, fun b hb => ?_, fun b hb => .inl (H.Dsup b hb), H.psup, H.fr, H.fin, Lay.gpk H.gp (Ext.refl _ _) (fun _ h _ => .inl h)⟩
  · by_cases e : j = i
    · subst e
      rw [upd_same] at hj
      injection hj with hj
      subst hj
      exact .inr ⟨g, hp, hlies g B hl, fun _ => .inr rfl, fun h => by cases h⟩
    · rw [upd_ne _ _ e] at hj
      rcases H.live j C hj with h1 | ⟨g', h1, h2, h3, h4⟩
      · exact .inl h1
      · refine .inr ⟨g', h1, hlies g' C h2, fun h => .inl (h3 h), fun h => ⟨fun hd => ?_, (h4 h).2⟩⟩
        rcases hd with hd | hd
        · exact (h4 h).1 hd
        · subst hd
          exact e (H.inj i j B C g' hi hj hp h1 hf).symm
  · by_cases e : j = i
    · subst e; rw [upd_same] at hj; injection hj with hj; subst hj; cases hfz
    · rw [upd_ne _ _ e] at hj
      by_cases e' : k = i
      · subst e'
        exact (H.inj k j B C g' hi hj pk pj hf).symm
      · rw [upd_ne _ _ e'] at hk
        exact H.inj j k C E g' hj hk pj pk hfz
  · rcases hb with hb | hb
    · exact H.Dlt b hb
    · subst hb; exact hl.lt
  · rcases hb with hb | hb
    · exact H.Dsub b hb
    · subst hb; exact .inr hg.2
theorem HS.freeze_virt (H : HS X S h n w φ D) {i : Nat} {B : Blk} (hi : h i = some B) (hp : φ i = some none) :
    HS X S (upd h i (some { B with fz := true })) n w φ D := by
  refine { H with live := fun j C hj => ?_, inj := fun j k C E g' hj hk pj pk hfz => ?_ }
  · by_cases e : j = i
    · subst e
      rw [upd_same] at hj
      injection hj with hj
      subst hj
      rcases H.live j B hi with h1 | ⟨g, h1, _⟩
      · exact .inl h1
      · rw [hp] at h1; cases h1
    · rw [upd_ne _ _ e] at hj; exact H.live j C hj
  · by_cases e : j = i
    · subst e; rw [upd_same] at hj; injection hj with hj; subst hj; cases hfz
    · by_cases e' : k = i
      · subst e'; rw [hp] at pk; cases pk
      · rw [upd_ne _ _ e] at hj; rw [upd_ne _ _ e'] at hk; exact H.inj j k C E g' hj hk pj pk hfz
end
def mk (d : Nat) : Deferred := { target := .collected d, args := #[] }
def Dfs (X : Cx) (D : Nat → Prop) (a : Act) (w : World) : Prop :=
  ∃ l : List Nat, l.Nodup ∧ a.defers = l.map mk ∧ ∀ d ∈ l, w.heap[d]? = some (.deferred (some [])) ∧ D d ∧ X.m0 ≤ d
theorem Dfs.nil {X : Cx} {D : Nat → Prop} {a : Act} {w : World} (h : a.defers = []) : Dfs X D a w := ⟨[], .nil, h, fun d h => by cases h⟩
theorem Dfs.keep {X : Cx} {D D' : Nat → Prop} {a a' : Act} {w w' : World} (h : Dfs X D a w) (e : a'.defers = a.defers) (hD : ∀ b, D b → b < w.heap.size → D' b) (hk : Ext D w w') : Dfs X D' a' w' := by
  obtain ⟨l, h1, h2, h3⟩ := h
  refine ⟨l, h1, e.trans h2, fun d hd => ?_⟩
  obtain ⟨q1, q2, q3⟩ := h3 d hd
  have hl : d < w.heap.size := (Array.getElem?_eq_some_iff.1 q1).1
  exact ⟨(hk.same d q2 hl).trans q1, hD d q2 hl, q3⟩
structure Sim (X : Cx) (S : Nat → Prop) (σ : St) (a : Act) (w : World) (φ : Pl) (D : Nat → Prop) : Prop where
  nt : a.tmps.size = σ.nt
  df : Dfs X D a w
  tm : ∀ i, RV φ D w (a.tmps.getD i undef) (σ.t i)
  hs : HS X S σ.h σ.n w φ D
end Go.Ab
/- DERIVED. What each operation makes of an abstract state. No program here. -/
namespace Go.Ab
open Go.RowKit
variable [Lay]
inductive TK where
 | bad | int (k : IntKind) | bool | str | slice (e : Nat) | struct (fs : List (Nat × Nat)) | array (n e : Nat) | ptr (e : Nat) | func | oth
structure TI where
 sz : Nat
 bytes : Nat
 agg : Bool
 zero : List Dat
 d : TK
def tkOf : TypeDesc → TK
 | .int k => .int k
 | .bool => .bool
 | .string => .str
 | .slice e => .slice e
 | .struct fs => .struct (fs.toList.map fun f => (f.offset, f.type))
 | .array n e => .array n e
 | .pointer e => .ptr e
 | .func _ _ _ => .func
 | _ => .oth
def datOf1 : Value → Dat
 | .bool b => .bool b
 | .int k n => .int k n
 | .string s => .str s
 | .slice none 0 0 => .nil
 | v => .oth v
def datOf : Value → Dat
 | .agg cs => .agg (cs.toList.map datOf1)
 | v => datOf1 v
def ti (P : Program) (t : TypeId) : Option TI :=
 match P.info? t, P.underlying t with
 | some i, some u => match i.zero with
  | some z => some ⟨i.size, i.bytes, u.isRow, z.cells.toList.map datOf1, tkOf u⟩
  | none => none
 | _, _ => none
def Dat.cells : Dat → List Dat
 | .agg cs => cs
 | .oth v => v.cells.toList.map Dat.oth
 | d => [d]
def allOne (l : List Dat) : Bool := l.all Dat.one
structure Ef where
 val : Dat
 rd : List Nat := []
 wr : List (Nat × Option Blk) := []
 side : Prop := True
def St.put (σ : St) (dst : Option Tmp) (v : Dat) : St :=
 match dst with
 | some d => if d < σ.nt then { σ with t := upd σ.t d v } else σ
 | none => σ
def wrs (h : Nat → Option Blk) : List (Nat × Option Blk) → Nat → Option Blk
 | [] => h
 | (i, b) :: r => wrs (upd h i b) r
def St.app (σ : St) (dst : Option Tmp) (e : Ef) : St := { σ.put dst e.val with h := wrs σ.h e.wr }
def St.ev (σ : St) : Operand → Dat
 | .tmp t => σ.t t
 | .const v => datOf v
 | .global g => .oth (.pointer (some ⟨g, 0, none⟩))
 | .func f => .fn (.func f) [] []
def cut (cs : List Dat) (j n : Nat) (agg : Bool) (st : Nat) : Dat :=
 if agg then .agg (if j = 0 ∧ n = st then cs else (cs.drop j).take n) else cs.getD j (.oth undef)
def evLoad (σ : St) (x : TI) : Dat → Option Ef
 | .ptr i k j st => match σ.h i with
  | some B => some { val := cut (B.es.getD k []) j x.sz x.agg st, rd := [i], side := k < B.es.length ∧ j + x.sz ≤ st ∧ B.st = st ∧ (x.agg = false → x.sz = 1) }
  | none => none
 | .rop cs j st => some { val := cut cs j x.sz x.agg st, side := j + x.sz ≤ st ∧ (x.agg = false → x.sz = 1) }
 | _ => none
def setR (ds : List Dat) (off : Nat) (cs : List Dat) : List Dat := cs.zipIdx.foldl (fun l p => l.set (off + p.2) p.1) ds
def evStore (σ : St) (x : TI) (a v : Dat) : Option Ef :=
 match a with
 | .ptr i k j st => match σ.h i with
  | some B => some { val := .oth undef, rd := [i], wr := [(i, some { B with es := B.es.set k (if j = 0 ∧ x.sz = st then v.cells else setR (B.es.getD k []) j v.cells) })], side := k < B.es.length ∧ j + x.sz ≤ st ∧ B.st = st ∧ v.cells.length = x.sz ∧ allOne v.cells = true ∧ B.fz = false }
  | none => none
 | _ => none
def fillD (place : Nat → Option (Nat × Nat)) (ds : List Dat) : List (Nat × Dat) → Option (List Dat)
 | [] => some ds
 | (i, d) :: rest =>
  match place i with
  | none => none
  | some (off, size) => if d.cells.length ≠ size ∨ off + d.cells.length > ds.length then none else fillD place (setR ds off d.cells) rest
def elems (σ : St) (st : Nat) : Dat → Option (List (List Dat) × List Nat × Prop)
 | .nil => some ([], [], True)
 | .list st' es => some (es, [], st' = st)
 | .ref i off len st' => match σ.h i with
  | some B => some (if off = 0 ∧ len = B.es.length then B.es else (B.es.drop off).take len, [i], st' = st ∧ B.st = st ∧ off + len ≤ B.es.length)
  | none => none
 | _ => none
def isAl (j : Nat) : Dat → Bool
 | .ref k _ _ _ => k == j
 | _ => false
def evAppend (P : Program) (σ : St) (i : Nat) (t1 t2 : TypeId) (s x : Dat) : Option Ef :=
 match ti P t1 with
 | some ⟨_, _, _, _, .slice e⟩ => match ti P e, elems σ ((ti P e).elim 0 (·.sz)) x with
  | some y, some (xs, r, p) => match s with
   | .nil => some { val := .ref (σ.n + i) 0 xs.length y.sz, rd := r, wr := [(σ.n + i, some ⟨e, y.sz, false, xs⟩)], side := (p) ∧ t2 = t1 ∧ 0 < y.sz ∧ 0 < y.bytes ∧ y.zero.length = y.sz ∧ xs.length * y.bytes ≤ 140737488355328 }
   | .ref j off len st => match σ.h j with
    | some B => if isAl j x = true then some { val := .ref j 0 (len + xs.length) y.sz, rd := j :: r, wr := [(j, some { B with es := B.es.take len ++ xs ++ B.es.drop (len + xs.length) })], side := p ∧ t2 = t1 ∧ off = 0 ∧ st = y.sz ∧ B.st = y.sz ∧ B.e = e ∧ B.fz = false ∧ len + xs.length ≤ B.es.length ∧ 0 < y.sz }
     else some { val := .ref (σ.n + i) 0 (len + xs.length) y.sz, rd := j :: r, wr := [(j, none), (σ.n + i, some ⟨e, y.sz, false, (if len = B.es.length then B.es else B.es.take len) ++ xs⟩)], side := p ∧ t2 = t1 ∧ off = 0 ∧ st = y.sz ∧ B.st = y.sz ∧ B.e = e ∧ B.fz = false ∧ len ≤ B.es.length ∧ 0 < y.sz ∧ 0 < y.bytes ∧ y.zero.length = y.sz ∧ (len + xs.length) * y.bytes ≤ 140737488355328 }
    | none => none
   | _ => none
  | _, _ => none
 | _ => none
def binInt (op : BinOp) (k : IntKind) (a b : Int) : Option Ef :=
 match op with
 | .add => some { val := .int k (k.wrap (a + b)) }
 | .sub => some { val := .int k (k.wrap (a - b)) }
 | .mul => some { val := .int k (k.wrap (a * b)) }
 | .quo => some { val := .int k (k.wrap (a.tdiv b)), side := b ≠ 0 }
 | .rem => some { val := .int k (a.tmod b), side := b ≠ 0 }
 | .eql => some { val := .bool (a == b) }
 | .neq => some { val := .bool (a != b) }
 | .lss => some { val := .bool (decide (a < b)) }
 | .leq => some { val := .bool (decide (a ≤ b)) }
 | .gtr => some { val := .bool (decide (b < a)) }
 | .geq => some { val := .bool (decide (b ≤ a)) }
 | .and => some { val := .int k (k.wrap (BitVec.ofInt k.bits a &&& BitVec.ofInt k.bits b).toNat) }
 | .or => some { val := .int k (k.wrap (BitVec.ofInt k.bits a ||| BitVec.ofInt k.bits b).toNat) }
 | .xor => some { val := .int k (k.wrap (BitVec.ofInt k.bits a ^^^ BitVec.ofInt k.bits b).toNat) }
 | .shl => some { val := .int k (k.wrap (a * 2 ^ (min b.toNat k.bits))), side := 0 ≤ b }
 | .shr => some { val := .int k (a.fdiv (2 ^ (min b.toNat k.bits))), side := 0 ≤ b }
 | _ => none
def isB (P : Program) (t : TypeId) : Prop := ∃ a b c z, ti P t = some ⟨a, b, c, z, .bool⟩
def evBin (P : Program) (t : TypeId) (op : BinOp) (x y : Dat) : Option Ef :=
 match x, y with
 | .bool a, .bool b => match op with
  | .eql => some { val := .bool (a == b), side := isB P t }
  | .neq => some { val := .bool (!(a == b)), side := isB P t }
  | _ => none
 | .int k a, .int k' b => match op with
  | .shl | .shr => binInt op k a b
  | _ => match binInt op k a b with
   | some e => some { e with side := e.side ∧ k = k' }
   | none => none
 | .str a, .str b => match op with
  | .eql => some { val := .bool (a.toList == b.toList) }
  | .neq => some { val := .bool (!(a.toList == b.toList)) }
  | .lss => some { val := .bool (Op.bytesLess a.toList b.toList) }
  | .gtr => some { val := .bool (!(Op.bytesLess a.toList b.toList || a.toList == b.toList)) }
  | _ => none
 | _, _ => none
def evUn (op : UnOp) (x : Dat) : Option Ef :=
 match op, x with
 | .not, .bool b => some { val := .bool (!b) }
 | .neg, .int k n => some { val := .int k (k.wrap (0 - n)) }
 | .xor, .int k n => some { val := .int k (k.wrap (BitVec.ofInt k.bits (if k.signed then -1 else k.max) ^^^ BitVec.ofInt k.bits n).toNat) }
 | _, _ => none
def evSlice (hp : Nat → Option Blk) (d : TK) (x : Dat) (lo hi : Option Dat) : Option Ef :=
 let l := match lo with | some (.int _ n) => some n | none => some 0 | _ => none
 let h := fun (m : Nat) => match hi with | some (.int _ n) => some n | none => some (m : Int) | _ => none
 match d, x with
 | .slice _, .list st es => match l, h es.length with
  | some a, some b => some { val := .list st (if b = es.length then es.drop a.toNat else (es.take b.toNat).drop a.toNat), side := 0 ≤ a ∧ a ≤ b ∧ b ≤ es.length }
  | _, _ => none
 | .slice _, .nil => match l, h 0 with
  | some a, some b => some { val := .nil, side := a = 0 ∧ b = 0 }
  | _, _ => none
 | .slice _, .ref i off len st => match l, h len with
  | some a, some b => some { val := .ref i (off + a.toNat) (b.toNat - a.toNat) st, rd := [i], side := 0 ≤ a ∧ a ≤ b ∧ (b ≤ len ∨ ∃ B, hp i = some B ∧ B.st = st ∧ off = 0 ∧ 0 < st ∧ b ≤ B.es.length) }
  | _, _ => none
 | .str, .str s => match l, h s.size with
  | some a, some b => some { val := .str (s.extract a.toNat b.toNat), side := 0 ≤ a ∧ a ≤ b ∧ b ≤ s.size }
  | _, _ => none
 | _, _ => none
def sliceOk (P : Program) (d : TK) (x : Dat) : Prop :=
 match d with
 | .slice el => match ti P el with
  | some z => match x with
   | .list st _ => st = z.sz
   | .ref _ _ _ st => st = z.sz
   | _ => True
  | none => False
 | _ => True
def evIndexAddr (P : Program) (σ : St) (t : TypeId) (x ix : Dat) : Option Ef :=
 match ti P t, ix with
 | some ⟨_, _, _, _, .slice e⟩, .int _ n => match ti P e, x with
  | some y, .list st es => some { val := .rop (es.getD n.toNat []) 0 st, side := 0 ≤ n ∧ n < es.length ∧ st = y.sz }
  | some y, .ref i off len st => some { val := .ptr i (off + n.toNat) 0 st, side := 0 ≤ n ∧ n < len ∧ st = y.sz }
  | _, _ => none
 | some ⟨_, _, _, _, .array m e⟩, .int _ n => match ti P e, x with
  | some y, .ptr i k j st => some { val := .ptr i k (j + n.toNat * y.sz) st, side := 0 ≤ n ∧ n < m }
  | some y, .rop cs j st => some { val := .rop cs (j + n.toNat * y.sz) st, side := 0 ≤ n ∧ n < m }
  | _, _ => none
 | _, _ => none
def evFieldAddr (P : Program) (t : TypeId) (x : Dat) (f : Nat) : Option Ef :=
 match ti P t with
 | some ⟨_, _, _, _, .struct fs⟩ => match fs[f]? with
  | some (off, ft) => match ti P ft, x with
   | some y, .ptr i k j st => some { val := .ptr i k (j + off) st, side := y.sz ≠ 0 }
   | some y, .rop cs j st => some { val := .rop cs (j + off) st, side := y.sz ≠ 0 }
   | _, _ => none
  | none => none
 | _ => none
def evField (P : Program) (t : TypeId) (x : Dat) (f : Nat) : Option Ef :=
 match ti P t, x with
 | some ⟨_, _, _, _, .struct fs⟩, .agg cs => match fs[f]? with
  | some (off, ft) => match ti P ft with
   | some y => some { val := cut cs off y.sz y.agg cs.length, side := off + y.sz ≤ cs.length ∧ (y.agg = false → y.sz = 1) }
   | none => none
  | none => none
 | _, _ => none
def evIndex (P : Program) (t : TypeId) (x ix : Dat) : Option Ef :=
 match ti P t, x, ix with
 | some ⟨_, _, _, _, .array m e⟩, .agg cs, .int _ n => match ti P e with
  | some y => some { val := cut cs (n.toNat * y.sz) y.sz y.agg cs.length, side := 0 ≤ n ∧ n < m ∧ n.toNat * y.sz + y.sz ≤ cs.length ∧ (y.agg = false → y.sz = 1) }
  | none => none
 | some ⟨_, _, _, _, .str⟩, .str s, .int _ n => some { val := .int .u8 (s.data.toList.getD n.toNat 0).toNat, side := 0 ≤ n ∧ n < s.size }
 | _, _, _ => none
def mmStep (isMax : Bool) : Option Dat → Dat → Option Dat
 | some (.int k p), .int _ q => some (.int k (if isMax then (if q > p then q else p) else (if q < p then q else p)))
 | _, _ => none
def minMax (isMax : Bool) : List Dat → Option Dat
 | [] => none
 | x :: rest => rest.foldl (mmStep isMax) (some x)
def evClear (P : Program) (σ : St) (t : TypeId) (x : Dat) : Option Ef :=
 match ti P t with
 | some ⟨_, _, _, _, .slice e⟩ => match ti P e, x with
  | some _, .nil => some { val := .tup [] }
  | some y, .ref j off len st => match σ.h j with
   | some B => some { val := .tup [], rd := [j], wr := [(j, some { B with es := B.es.take off ++ List.replicate len y.zero ++ B.es.drop (off + len) })], side := st = y.sz ∧ B.st = y.sz ∧ B.fz = false ∧ off + len ≤ B.es.length ∧ 0 < y.sz ∧ y.zero.length = y.sz ∧ allOne y.zero = true }
   | none => none
  | _, _ => none
 | _ => none
def evBuiltin (P : Program) (σ : St) (i : Nat) (b : Builtin) (ats : Array TypeId) (args : List Dat) : Option Ef :=
 match b, ats.toList, args with
 | .len, [t], [x] => match ti P t, x with
  | some ⟨_, _, _, _, .array n _⟩, _ => some { val := .int .i64 n }
  | some ⟨_, _, _, _, .slice _⟩, .nil => some { val := .int .i64 0 }
  | some ⟨_, _, _, _, .slice _⟩, .list _ es => some { val := .int .i64 es.length }
  | some ⟨_, _, _, _, .slice _⟩, .ref _ _ len _ => some { val := .int .i64 len }
  | some ⟨_, _, _, _, .str⟩, .str s => some { val := .int .i64 s.size }
  | _, _ => none
 | .append, [t1, t2], [s, x] => evAppend P σ i t1 t2 s x
 | .clear, [t], [x] => evClear P σ t x
 | .min, _, l => (minMax false l).map fun v => { val := v }
 | .max, _, l => (minMax true l).map fun v => { val := v }
 | _, _, _ => none
def bytesD : List (List Dat) → Option (List Int)
 | [] => some []
 | [.int .u8 n] :: l => match bytesD l with
  | some r => some (n :: r)
  | none => none
 | _ :: _ => none
def evToStr (P : Program) (σ : St) (k : TK) (d : Dat) : Option Ef :=
 match d with
 | .str s => some { val := .str s }
 | d => match k with
  | .slice e => match ti P e, elems σ 1 d with
   | some ⟨_, _, _, _, .int .u8⟩, some (es, r, p) => match bytesD es with
    | some xs => some { val := .str (strOfNums xs), rd := r, side := p }
    | none => none
   | _, _ => none
  | _ => none
def evOp (P : Program) (σ : St) (i : Nat) (o : Op) : Option Ef :=
 match o with
 | .move x | .assign x => some { val := σ.ev x }
 | .pick c a b => match σ.ev c with
  | .bool p => some { val := if p then σ.ev a else σ.ev b }
  | _ => none
 | .alloc e => match ti P e with
  | some x => some { val := .ptr (σ.n + i) 0 0 x.sz, wr := [(σ.n + i, some ⟨e, x.sz, false, [x.zero]⟩)], side := x.zero.length = x.sz ∧ allOne x.zero = true }
  | none => none
 | .box e v => match ti P e with
  | some x => some { val := .ptr (σ.n + i) 0 0 x.sz, wr := [(σ.n + i, some ⟨e, x.sz, false, [(σ.ev v).cells]⟩)], side := (σ.ev v).cells.length = x.sz ∧ allOne (σ.ev v).cells = true }
  | none => none
 | .build t parts => match ti P t with
  | some ⟨_, _, _, zero, .struct fs⟩ => match fillD (fun i => match fs[i]? with | some (off, ft) => (match ti P ft with | some y => some (off, y.sz) | none => none) | none => none) zero (parts.toList.map fun p => (p.1, σ.ev p.2)) with
   | some ds => some { val := .agg ds, side := ∀ p ∈ fs, (ti P p.2).isSome = true }
   | none => none
  | some ⟨_, _, _, zero, .array _ e⟩ => match ti P e with
   | some y => match fillD (fun i => some (i * y.sz, y.sz)) zero (parts.toList.map fun p => (p.1, σ.ev p.2)) with
    | some ds => some { val := .agg ds }
    | none => none
   | none => none
  | _ => none
 | .buildSlice t len parts => match ti P t with
  | some ⟨_, _, _, _, .slice e⟩ => match ti P e with
   | some y => some { val := .ref (σ.n + i) 0 len y.sz, wr := [(σ.n + i, some ⟨e, y.sz, false, parts.toList.map fun p => (σ.ev p.2).cells⟩)], side := parts.toList.map (·.1) = List.range len ∧ len * y.sz ≤ 16777216 ∧ y.zero.length = y.sz ∧ (∀ p ∈ parts.toList, (σ.ev p.2).cells.length = y.sz ∧ allOne (σ.ev p.2).cells = true) ∧ y.sz ≠ 0 }
   | none => none
  | _ => none
 | .load t a => match ti P t with
  | some x => evLoad σ x (σ.ev a)
  | none => none
 | .store t a v => match ti P t with
  | some x => evStore σ x (σ.ev a) (σ.ev v)
  | none => none
 | .nilCheck x => match σ.ev x with
  | .ptr i k j st => some { val := .ptr i k j st }
  | .rop cs j st => some { val := .rop cs j st }
  | _ => none
 | .binOp op t x y _ => evBin P t op (σ.ev x) (σ.ev y)
 | .unOp op _ x => evUn op (σ.ev x)
 | .convert src dst x => match ti P src with
  | some y => match ti P dst with
   | some ⟨_, _, _, _, .str⟩ => evToStr P σ y.d (σ.ev x)
   | some ⟨_, _, _, _, .int k⟩ => match σ.ev x with
    | .int _ n => some { val := .int k (k.wrap n) }
    | _ => none
   | _ => none
  | none => none
 | .makeFunc f first cap => some { val := .fn f (first.toList.map σ.ev) (cap.toList.map σ.ev) }
 | .makeSlice t l c => match ti P t with
  | some ⟨_, _, _, _, .slice e⟩ => match ti P e, σ.ev l, σ.ev c with
   | some y, .int _ a, .int _ b => some { val := .ref (σ.n + i) 0 a.toNat y.sz, wr := [(σ.n + i, some ⟨e, y.sz, false, List.replicate a.toNat y.zero⟩)], side := 0 ≤ a ∧ a = b ∧ y.bytes * b ≤ 281474976710656 ∧ b ≤ 9223372036854775807 ∧ y.zero.length = y.sz ∧ 0 < y.sz ∧ allOne y.zero = true }
   | _, _, _ => none
  | _ => none
 | .slice t x lo hi none => match ti P t with
  | some y => match evSlice σ.h y.d (σ.ev x) (lo.map σ.ev) (hi.map σ.ev) with
   | some e => some { e with side := e.side ∧ sliceOk P y.d (σ.ev x) }
   | none => none
  | none => none
 | .fieldAddr t x f => evFieldAddr P t (σ.ev x) f
 | .field t x f => evField P t (σ.ev x) f
 | .indexAddr t x ix => evIndexAddr P σ t (σ.ev x) (σ.ev ix)
 | .index t x ix => evIndex P t (σ.ev x) (σ.ev ix)
 | .extract x k => match σ.ev x with
  | .tup ds => some { val := ds.getD k (.oth undef), side := k < ds.length }
  | _ => none
 | .call { callee := .builtin b, args, argTypes } => evBuiltin P σ i b argTypes (args.toList.map σ.ev)
 | _ => none
end Go.Ab
