import Derived.Test.YtjflkcfafijhfaaGreatQ03
set_option linter.unusedSectionVars false
/- DERIVED. The abstract operations are sound: first the small words. No program here. -/
namespace Go.Ab
open Go.RowKit
variable [Lay]
section
variable {φ : Pl} {D : Nat → Prop} {w : World} {v : Value}
theorem RV_datOf1 (v : Value) : RV φ D w v (datOf1 v) := by
 unfold datOf1
 split
 ·exact .bool _
 ·exact .int _ _
 ·exact .str _
 ·exact .nil
 ·exact .oth _
theorem RVs_map {vs : List Value} {f : Value → Dat} (h : ∀ v ∈ vs, RV φ D w v (f v)) : RVs φ D w vs (vs.map f) :=
 ⟨by simp, fun i c d hc hd => by
  rw [List.getElem?_map, hc] at hd
  simp at hd
  subst hd
  exact h c (List.mem_of_getElem? hc)⟩
theorem RV_datOf (v : Value) : RV φ D w v (datOf v) := by
 unfold datOf
 split
 ·rename_i cs
  have h := RVs_map (φ := φ) (D := D) (w := w) (vs := cs.toList) (f := datOf1) fun v _ => RV_datOf1 v
  have := RV.agg cs.toList _ h.1 h.2
  simpa using this
 ·exact RV_datOf1 _
theorem RVs.nil : RVs φ D w [] [] := ⟨rfl, fun i c d h => by simp at h⟩
theorem RVs.cons {d : Dat} {vs : List Value} {ds : List Dat} (h : RV φ D w v d) (hs : RVs φ D w vs ds) : RVs φ D w (v :: vs) (d :: ds) :=
 ⟨by simp [hs.1], fun i c e hc he => by
  cases i with
  | zero => simp at hc he; subst hc; subst he; exact h
  | succ i => simp at hc he; exact hs.2 i c e hc he⟩
theorem RVs.cons_inv {d : Dat} {vs : List Value} {ds : List Dat} (h : RVs φ D w vs (d :: ds)) : ∃ v vs', vs = v :: vs' ∧ RV φ D w v d ∧ RVs φ D w vs' ds := by
 cases vs with
 | nil => have := h.1; simp at this
 | cons v vs => exact ⟨v, vs, rfl, h.2 0 v d rfl rfl, by have := h.1; simpa using this, fun i c e hc he => h.2 (i + 1) c e (by simpa using hc) (by simpa using he)⟩
theorem RVs.nil_inv {vs : List Value} (h : RVs φ D w vs []) : vs = [] := List.eq_nil_of_length_eq_zero h.1
theorem RVs.drop {vs : List Value} {ds : List Dat} (h : RVs φ D w vs ds) (n : Nat) : RVs φ D w (vs.drop n) (ds.drop n) :=
 ⟨by simp [h.1], fun i c d hc hd => by rw [List.getElem?_drop] at hc hd; exact h.2 _ c d hc hd⟩
theorem RVs.take {vs : List Value} {ds : List Dat} (h : RVs φ D w vs ds) (n : Nat) : RVs φ D w (vs.take n) (ds.take n) :=
 ⟨by simp [h.1], fun i c d hc hd => by
  rw [List.getElem?_take] at hc hd
  split at hc
  ·rename_i hi
   rw [if_pos hi] at hd; exact h.2 _ c d hc hd
  ·cases hc⟩
theorem RVs.append {vs us : List Value} {ds es : List Dat} (h : RVs φ D w vs ds) (k : RVs φ D w us es) : RVs φ D w (vs ++ us) (ds ++ es) :=
 ⟨by simp [h.1, k.1], fun i c d hc hd => by
  rcases Nat.lt_or_ge i vs.length with hi | hi
  ·rw [List.getElem?_append_left hi] at hc
   rw [List.getElem?_append_left (by rw [← h.1]; exact hi)] at hd
   exact h.2 i c d hc hd
  ·rw [List.getElem?_append_right hi] at hc
   rw [List.getElem?_append_right (by rw [← h.1]; exact hi), ← h.1] at hd
   exact k.2 _ c d hc hd⟩
theorem RVs.set {vs : List Value} {ds : List Dat} {d : Dat} (h : RVs φ D w vs ds) (i : Nat) (hv : RV φ D w v d) : RVs φ D w (vs.set i v) (ds.set i d) :=
 ⟨by simp [h.1], fun j c e hc he => by
  rw [List.getElem?_set] at hc he
  by_cases hij : i = j
  ·rw [if_pos hij] at hc he
   split at hc
   ·injection hc with hc
    subst hc
    split at he
    ·injection he with he
     subst he; exact hv
    ·cases he
   ·cases hc
  ·rw [if_neg hij] at hc he; exact h.2 j c e hc he⟩
theorem RVs.getD {vs : List Value} {ds : List Dat} (h : RVs φ D w vs ds) {i : Nat} {u : Value} (hu : vs[i]? = some u) : RV φ D w u (ds.getD i (.oth undef)) := by
 have hi : i < ds.length := by rw [← h.1]; exact (List.getElem?_eq_some_iff.1 hu).1
 rw [List.getD_eq_getElem?_getD, List.getElem?_eq_getElem hi]
 exact h.2 i u _ hu (List.getElem?_eq_getElem hi)
theorem RV.cells {d : Dat} (h : RV φ D w v d) : RVs φ D w v.cells.toList d.cells := by
 cases h with
 | agg cs ds hl h => exact ⟨by simpa [Value.cells, Dat.cells] using hl, fun i c d hc hd => h i c d (by simpa [Value.cells] using hc) hd⟩
 | oth v => exact RVs_map fun v _ => .oth v
 | bool b => exact .cons (.bool b) .nil
 | int k n => exact .cons (.int k n) .nil
 | str s => exact .cons (.str s) .nil
 | tup cs ds hl h => exact .cons (.tup cs ds hl h) .nil
 | nil => exact .cons .nil .nil
 | list0 A c st hc => exact .cons (.list0 A c st hc) .nil
 | list b o c st es cs hl hc hc2 hD hb hr hs hes h1 h => exact .cons (.list b o c st es cs hl hc hc2 hD hb hr hs hes h1 h) .nil
 | ref i g off len c st hp hlen hc hsz => exact .cons (.ref i g off len c st hp hlen hc hsz) .nil
 | ref0 i off st A h0 => exact .cons (.ref0 i off st A h0) .nil
 | refv i st hp => exact .cons (.refv i st hp) .nil
 | ptr i g k j st hp => exact .cons (.ptr i g k j st hp) .nil
 | rop b o j st ds cs hl hst hD hb hr h1 h => exact .cons (.rop b o j st ds cs hl hst hD hb hr h1 h) .nil
 | fn f cs1 cs2 ds1 ds2 hl1 hl2 h1 h2 => exact .cons (.fn f cs1 cs2 ds1 ds2 hl1 hl2 h1 h2) .nil
 | junk v h h2 => rw [h2]; exact .cons (.junk v h h2) .nil
 | gl n v h => rw [(Lay.gv1 h).2]; exact .cons (.gl n v h) .nil
theorem RV.one {d : Dat} (h : RV φ D w v d) (h1 : d.one = true) : v.oneCell' = true := by
 cases h <;> first | rfl | assumption | (simp [Dat.one] at h1; done) | exact h1 | exact (Lay.gv1 ‹_›).1
theorem RVs.one {vs : List Value} {ds : List Dat} (h : RVs φ D w vs ds) (h1 : allOne ds = true) : ∀ v ∈ vs, v.oneCell' = true := by
 intro v hv
 obtain ⟨i, hi, rfl⟩ := List.mem_iff_getElem.1 hv
 have hd : i < ds.length := by rw [← h.1]; exact hi
 exact RV.one (h.2 i vs[i] ds[i] (by simp) (by simp)) (by
  have := List.all_eq_true.1 h1 ds[i] (List.getElem_mem hd)
  exact this)
end
theorem splice_get {α : Type} (l vs : List α) (o : Nat) (h : o + vs.length ≤ l.length) (i : Nat) :
  (l.take o ++ vs ++ l.drop (o + vs.length))[i]? = if o ≤ i ∧ i < o + vs.length then vs[i - o]? else l[i]? := by
 have h1 : (l.take o).length = o := by simp; omega
 by_cases c : i < o
 ·rw [if_neg (by omega), List.append_assoc, List.getElem?_append_left (by omega), List.getElem?_take, if_pos c]
 ·by_cases c2 : i < o + vs.length
  ·rw [if_pos ⟨by omega, c2⟩, List.getElem?_append_left (by simp; omega), List.getElem?_append_right (by omega), h1]
  ·rw [if_neg (by omega), List.getElem?_append_right (by simp; omega), List.getElem?_drop]
   congr 1
   simp; omega
theorem setR_go {α : Type} (off : Nat) : ∀ (cs : List α) (s : Nat) (l : List α) (i : Nat),
  ((cs.zipIdx s).foldl (fun l p => l.set (off + p.2) p.1) l)[i]? = if off + s ≤ i ∧ i < off + s + cs.length ∧ i < l.length then cs[i - (off + s)]? else l[i]?
 | [], s, l, i => by simp; intro h1 h2; omega
 | c :: cs, s, l, i => by
  rw [List.zipIdx_cons, List.foldl_cons, setR_go off cs (s + 1) _ i]
  simp only [List.length_set, List.length_cons]
  by_cases h : off + (s + 1) ≤ i ∧ i < off + (s + 1) + cs.length ∧ i < l.length
  ·rw [if_pos h, if_pos (by omega), show i - (off + s) = (i - (off + (s + 1))) + 1 by omega, List.getElem?_cons_succ]
  ·rw [if_neg h, List.getElem?_set]
   by_cases h2 : off + s = i
   ·rw [if_pos h2]
    by_cases h3 : i < l.length
    ·rw [if_pos (by omega), if_pos (by omega), show i - (off + s) = 0 by omega]; rfl
    ·rw [if_neg (by omega), if_neg (by omega), List.getElem?_eq_none (by omega)]
   ·rw [if_neg h2, if_neg (by omega)]
theorem setR_get (l cs : List Dat) (off i : Nat) : (setR l off cs)[i]? = if off ≤ i ∧ i < off + cs.length ∧ i < l.length then cs[i - off]? else l[i]? := by
 have := setR_go off cs 0 l i
 simpa [setR] using this
theorem setR_len (l cs : List Dat) (off : Nat) : (setR l off cs).length = l.length := by
 unfold setR
 generalize cs.zipIdx = ps
 induction ps generalizing l with
 | nil => rfl
 | cons p ps ih => rw [List.foldl_cons, ih, List.length_set]
section
variable {X : Cx} {S : Nat → Prop} {σ : St} {a : Act} {w : World} {φ : Pl} {D : Nat → Prop}
theorem Sim.ev (h : Sim X S σ a w φ D) (x : Operand) : RV φ D w (a.eval x) (σ.ev x) := by
 cases x with
 | tmp t => exact h.tm t
 | const v => exact RV_datOf v
 | global g => exact .oth _
 | func f =>
  have := RV.fn (φ := φ) (D := D) (w := w) (.func f) [] [] [] [] rfl rfl (fun i c d h => by simp at h) (fun i c d h => by simp at h)
  exact this
theorem Sim.evs (h : Sim X S σ a w φ D) (xs : List Operand) : RVs φ D w (xs.map a.eval) (xs.map σ.ev) :=
 ⟨by simp, fun i c d hc hd => by
  rw [List.getElem?_map] at hc hd
  cases hx : xs[i]? with
  | none => simp [hx] at hc
  | some x => simp [hx] at hc hd; subst hc; subst hd; exact h.ev x⟩
theorem St.put_t (σ : St) (dst : Option Tmp) (d : Dat) (i : Nat) : (σ.put dst d).t i = if dst = some i ∧ i < σ.nt then d else σ.t i := by
 unfold St.put
 cases dst with
 | none => simp
 | some k =>
  simp only []
  split
  ·rename_i hk
   simp only [upd, Option.some.injEq]
   by_cases e : i = k
   ·subst e; simp [hk]
   ·rw [if_neg e, if_neg (fun h => e h.1.symm)]
  ·rename_i hk
   rw [if_neg]
   rintro ⟨h, h2⟩
   injection h with h
   subst h; exact hk h2
@[simp] theorem St.put_nt (σ : St) (dst : Option Tmp) (d : Dat) : (σ.put dst d).nt = σ.nt := by
 unfold St.put; split <;> (try split) <;> rfl
@[simp] theorem St.put_h (σ : St) (dst : Option Tmp) (d : Dat) : (σ.put dst d).h = σ.h := by
 unfold St.put; split <;> (try split) <;> rfl
@[simp] theorem St.put_n (σ : St) (dst : Option Tmp) (d : Dat) : (σ.put dst d).n = σ.n := by
 unfold St.put; split <;> (try split) <;> rfl
theorem Act.put_get (a : Act) (dst : Option Tmp) (v : Value) (i : Nat) : (a.put dst v).tmps.getD i undef = if dst = some i ∧ i < a.tmps.size then v else a.tmps.getD i undef := by
 cases dst with
 | none => simp [Act.put]
 | some k =>
  simp only [Act.put, Array.getD_eq_getD_getElem?, Array.getElem?_setIfInBounds, Option.some.injEq]
  by_cases e : k = i
  ·subst e
   by_cases hk : k < a.tmps.size
   ·simp [hk]
   ·simp [hk, Array.getElem?_eq_none (Nat.le_of_not_lt hk)]
  ·simp [e]
theorem Act.put_size (a : Act) (dst : Option Tmp) (v : Value) : (a.put dst v).tmps.size = a.tmps.size := by
 cases dst <;> simp [Act.put]
theorem Act.put_defers' (a : Act) (dst : Option Tmp) (v : Value) : (a.put dst v).defers = a.defers := by
 cases dst <;> rfl
theorem Sim.step (h : Sim X S σ a w φ D) {S' : Nat → Prop} {w' : World} {φ' : Pl} {D' : Nat → Prop} {h' : Nat → Option Blk} {dst : Option Tmp} {v : Value} {d : Dat}
  (hs : HS X S' h' σ.n w' φ' D') (hφ : PlLe φ φ') (hD : ∀ b, D b → b < w.heap.size → D' b) (hk : Ext D w w') (hv : RV φ' D' w' v d) :
  Sim X S' { σ.put dst d with h := h' } (a.put dst v) w' φ' D' where
 nt := by rw [Act.put_size, h.nt]; simp
 df := h.df.keep (Act.put_defers' _ _ _) hD hk
 tm := fun i => by
  show RV φ' D' w' _ ((σ.put dst d).t i)
  rw [Act.put_get, St.put_t, h.nt]
  split
  ·exact hv
  ·exact RV.keep hφ hD hk (h.tm i)
 hs := by simpa using hs
theorem Sim.val (h : Sim X S σ a w φ D) {dst : Option Tmp} {v : Value} {d : Dat} (hv : RV φ D w v d) : Sim X S (σ.put dst d) (a.put dst v) w φ D := by
 have := h.step (dst := dst) h.hs (PlLe.refl _) (fun _ h _ => h) (Ext.refl _ _) hv
 have e : { σ.put dst d with h := σ.h } = σ.put dst d := by
  have := St.put_h σ dst d
  cases hq : σ.put dst d
  rw [hq] at this
  simp at this ⊢
  exact this.symm
 rwa [e] at this
end
def Goes (P : Program) (X : Cx) (S S' : Nat → Prop) (o : Oper) (σ σ' : St) : Prop :=
 ∀ a w φ D, Sim X S σ a w φ D → ∀ (K : Act → World → Prop) (Q : Exit → Act → World → Prop), (∀ a' w' φ' D', Sim X S' σ' a' w' φ' D' → K a' w') → o.wp P a w K Q
theorem Sim.more {X : Cx} {S S' : Nat → Prop} {σ : St} {a : Act} {w : World} {φ : Pl} {D : Nat → Prop} (h : Sim X S σ a w φ D) (hS : ∀ j, S j → S' j) : Sim X S' σ a w φ D :=
 { h with hs := h.hs.more hS }
theorem goes_val {P : Program} {X : Cx} {S S' : Nat → Prop} {o : Oper} {σ : St} {d : Dat} (hS : ∀ j, S j → S' j)
  (h : ∀ a w φ D, Sim X S σ a w φ D → ∃ v, (execOp a.eval o).run P w = .ok (.value v) w ∧ RV φ D w v d) : Goes P X S S' o σ (σ.put o.dst d) := by
 intro a w φ D hs K Q hK
 obtain ⟨v, hr, hv⟩ := h a w φ D hs
 unfold Oper.wp
 rw [hr, Oper.upon_value]
 exact hK _ _ φ D ((hs.val hv).more hS)
end Go.Ab
/- DERIVED. The abstract operations that only read are sound. No program here. -/
namespace Go.Ab
open Go.RowKit
variable [Lay]
theorem ti_some {P : Program} {t : TypeId} {x : TI} (h : ti P t = some x) : ∃ i u z, P.info? t = some i ∧ P.underlying t = some u ∧ i.zero = some z ∧ i.size = x.sz ∧ i.bytes = x.bytes ∧ u.isRow = x.agg ∧ tkOf u = x.d ∧ z.cells.toList.map datOf1 = x.zero := by
 unfold ti at h
 split at h
 ·rename_i i u h1 h2
  split at h
  ·rename_i z hz
   injection h with h
   subst h
   exact ⟨i, u, z, h1, h2, hz, rfl, rfl, rfl, rfl, rfl⟩
  ·cases h
 ·cases h
theorem tk_slice {u : TypeDesc} {e : Nat} (h : tkOf u = .slice e) : u = .slice e := by
 cases u <;> simp [tkOf] at h; subst h; rfl
theorem tk_int {u : TypeDesc} {k : IntKind} (h : tkOf u = .int k) : u = .int k := by
 cases u <;> simp [tkOf] at h; subst h; rfl
theorem tk_bool {u : TypeDesc} (h : tkOf u = .bool) : u = .bool := by
 cases u <;> simp [tkOf] at h; rfl
theorem tk_str {u : TypeDesc} (h : tkOf u = .str) : u = .string := by
 cases u <;> simp [tkOf] at h; rfl
theorem tk_array {u : TypeDesc} {n e : Nat} (h : tkOf u = .array n e) : u = .array n e := by
 cases u <;> simp [tkOf] at h; obtain ⟨rfl, rfl⟩ := h; rfl
theorem tk_struct {u : TypeDesc} {fs : List (Nat × Nat)} (h : tkOf u = .struct fs) : ∃ gs, u = .struct gs ∧ fs = gs.toList.map fun f => (f.offset, f.type) := by
 cases u <;> simp [tkOf] at h; exact ⟨_, rfl, h.symm⟩
section
variable {P : Program} {φ : Pl} {D : Nat → Prop} {w : World}
theorem ti_isAgg {t : TypeId} {x : TI} (h : ti P t = some x) (w : World) : (isAgg t).run P w = .ok x.agg w := by
 obtain ⟨i, u, z, h1, h2, h3, h4, h5, h6, h7, h8⟩ := ti_some h
 unfold isAgg
 rw [Sem.run_bind, run_underlying h2 w, ← h6]
 cases u <;> simp
theorem ti_sizeOf {t : TypeId} {x : TI} (h : ti P t = some x) (w : World) : (sizeOf t).run P w = .ok x.sz w := by
 obtain ⟨i, u, z, h1, h2, h3, h4, h5, h6, h7, h8⟩ := ti_some h
 simp [sizeOf, typeInfo, h1, h4]
theorem read_cut {cs : List Value} {ds : List Dat} {b o j n st : Nat} (hr : w.rangeAt b o cs) (hl : cs.length = st) (hv : RVs φ D w cs ds) (hj : j + n ≤ st) (agg : Bool) (ha : agg = false → n = 1) {t : TypeId} {x : TI} (ht : ti P t = some x) (hx : x.sz = n) (hx2 : x.agg = agg) :
  ∃ v, (loadVar t ⟨b, o + j, none⟩).run P w = .ok v w ∧ RV φ D w v (cut ds j n agg st) := by
 obtain ⟨i, u, z, h1, h2, h3, h4, h5, h6, h7, h8⟩ := ti_some ht
 cases agg with
 | true =>
  have hc : w.rangeAt b (o + j) ((cs.drop j).take n) := fun k v hk => by
   rw [List.getElem?_take] at hk
   split at hk
   ·rw [List.getElem?_drop] at hk
    rw [Nat.add_assoc]; exact hr _ _ hk
   ·cases hk
  have hlen : ((cs.drop j).take n).length = n := by simp; omega
  refine ⟨_, run_loadVar_mid (P := P) w b (o + j) t _ u hc h2 (by rw [h6, hx2]) (by rw [h1]; simp; omega), ?_⟩
  unfold cut
  rw [if_pos rfl]
  have hh := (hv.drop j).take n
  split
  ·rename_i hjn
   obtain ⟨rfl, rfl⟩ := hjn
   have e : (cs.drop 0).take n = cs := by rw [List.drop_zero, List.take_of_length_le (by omega)]
   rw [e]
   exact .agg _ _ hv.1 hv.2
  ·exact .agg _ _ hh.1 hh.2
 | false =>
  have hn := ha rfl
  subst hn
  have hj' : j < cs.length := by omega
  have hc := hr j cs[j] (by simp)
  refine ⟨cs[j], ?_, ?_⟩
  ·simp [loadVar, ti_isAgg ht w, hx2, hc]
  ·unfold cut
   rw [if_neg (by simp)]
   exact hv.getD (by simp)
theorem Lies.el {g : Nat} {B : Blk} (h : Lies φ D w g B) {k : Nat} (hk : k < B.es.length) :
  ∃ cs : List Value, w.rangeAt g (k * B.st) cs ∧ cs.length = B.st ∧ (∀ v ∈ cs, v.oneCell' = true) ∧ RVs φ D w cs (B.es.getD k []) := by
 obtain ⟨arr, h1, h2, h3⟩ := h
 have hke : B.es[k]? = some B.es[k] := List.getElem?_eq_getElem hk
 obtain ⟨hlen, hcells⟩ := h3 k _ hke
 obtain ⟨cs, hl, hcs⟩ := choose_lt B.st (fun j v => arr[k * B.st + j]? = some v ∧ v.oneCell' = true ∧ ∀ d, (B.es[k])[j]? = some d → RV φ D w v d) (fun j hj => by
  obtain ⟨v, hv, ho, hr⟩ := hcells j _ (List.getElem?_eq_getElem (by omega))
  refine ⟨v, hv, ho, fun d hd => ?_⟩
  rw [List.getElem?_eq_getElem (by omega)] at hd
  injection hd with hd
  rw [← hd]; exact hr)
 have e : B.es.getD k [] = B.es[k] := by rw [List.getD_eq_getElem?_getD, hke]; rfl
 refine ⟨cs, fun j v hv => ?_, hl, fun v hv => ?_, ?_⟩
 ·rw [cell_of_row w g _ arr _ _ h1]; exact (hcs j v hv).1
 ·obtain ⟨i, hi, rfl⟩ := List.mem_iff_getElem.1 hv
  exact (hcs i _ (by simp)).2.1
 ·rw [e]
  exact ⟨by rw [hl, hlen], fun i c d hc hd => (hcs i c hc).2.2 d hd⟩
end
section
variable {P : Program} {X : Cx} {S S' : Nat → Prop} {σ : St} {i : Nat}
theorem Sim.lies {a : Act} {w : World} {φ : Pl} {D : Nat → Prop} (h : Sim X S σ a w φ D) {i g : Nat} {B : Blk} (hi : σ.h i = some B) (hp : φ i = some (some g)) : Lies φ D w g B := by
 rcases h.hs.live i B hi with ⟨h1, _⟩ | ⟨g', h1, h2, _⟩
 ·rw [hp] at h1; cases h1
 ·rw [hp] at h1; injection h1 with h1; injection h1 with h1; subst h1; exact h2
theorem goes_load {o : Oper} {t : TypeId} {a : Operand} (ho : o.op = .load t a) {x : TI} (ht : ti P t = some x) {e : Ef} (he : evLoad σ x (σ.ev a) = some e) (hs : e.side) (hS : ∀ j, S j → S' j) :
  Goes P X S S' o σ (σ.put o.dst e.val) ∧ e.wr = [] := by
 unfold evLoad at he
 split at he
 ·rename_i i k j st hev
  split at he
  ·rename_i B hB
   injection he with he
   subst he
   obtain ⟨h1, h2, h3, h4⟩ := hs
   refine ⟨goes_val hS fun A w φ D hsim => ?_, rfl⟩
   have hv := hsim.ev a
   rw [hev] at hv
   obtain ⟨g, hp, hA⟩ := hv.ptr_inv
   have hl := hsim.lies hB hp
   obtain ⟨cs, c1, c2, c3, c4⟩ := hl.el h1
   obtain ⟨v, hr, hrv⟩ := read_cut c1 c2 c4 (j := j) (n := x.sz) (by omega) x.agg h4 ht rfl rfl
   refine ⟨v, ?_, ?_⟩
   ·simp only [execOp, ho, hA, Instr.loadAt, Instr.sureAddr, Sem.run_bind, Sem.run_pure, Result.andThen_ok]
    rw [← h3, hr]; rfl
   ·show RV φ D w v (cut _ j x.sz x.agg st)
    rw [← h3]; exact hrv
  ·cases he
 ·rename_i cs j st hev
  injection he with he
  subst he
  obtain ⟨h2, h4⟩ := hs
  refine ⟨goes_val hS fun A w φ D hsim => ?_, rfl⟩
  have hv := hsim.ev a
  rw [hev] at hv
  obtain ⟨b, o', vs, hA, hl, hD, hb, hr, h1, hvs⟩ := hv.rop_inv
  obtain ⟨v, hr, hrv⟩ := read_cut hr hl hvs (j := j) (n := x.sz) (by omega) x.agg h4 ht rfl rfl
  refine ⟨v, ?_, hrv⟩
  simp only [execOp, ho, hA, Instr.loadAt, Instr.sureAddr, Sem.run_bind, Sem.run_pure, Result.andThen_ok]
  rw [hr]; rfl
 ·cases he
theorem goes_fieldAddr {o : Oper} {t : TypeId} {a : Operand} {f : Nat} (ho : o.op = .fieldAddr t a f) {e : Ef} (he : evFieldAddr P t (σ.ev a) f = some e) (hs : e.side) (hS : ∀ j, S j → S' j) :
  Goes P X S S' o σ (σ.put o.dst e.val) ∧ e.wr = [] := by
 unfold evFieldAddr at he
 split at he
 ·rename_i sz by' ag ze fs ht
  split at he
  ·rename_i off ft hf
   obtain ⟨i, u, z, h1, h2, h3, h4, h5, h6, h7, h8⟩ := ti_some ht
   obtain ⟨gs, rfl, hfs⟩ := tk_struct h7
   have hg : ∃ fl : Field, gs[f]? = some fl ∧ fl.offset = off ∧ fl.type = ft := by
    rw [hfs, List.getElem?_map] at hf
    cases hq : gs.toList[f]? with
    | none => simp [hq] at hf
    | some fl => simp [hq] at hf; exact ⟨fl, by simpa using hq, hf.1, hf.2⟩
   obtain ⟨fl, hfl, hoff, hty⟩ := hg
   subst hoff; subst hty
   split at he
   ·rename_i y i k j st hy hev
    injection he with he
    subst he
    refine ⟨goes_val hS fun A w φ D hsim => ?_, rfl⟩
    have hv := hsim.ev a
    rw [hev] at hv
    obtain ⟨g, hp, hA⟩ := hv.ptr_inv
    refine ⟨.pointer (some ⟨g, k * st + (j + fl.offset), none⟩), ?_, .ptr i g k (j + fl.offset) st hp⟩
    have hsz := ti_sizeOf hy w
    have hs' : y.sz ≠ 0 := hs
    simp only [execOp, ho, hA, Instr.fieldAt, Instr.sureAddr, Sem.run_bind, run_underlying h2 w, Result.andThen_ok, hfl, Sem.run_pure, fieldPlace, hsz]
    simp [hs', Addr.add_mid, Nat.add_assoc]
   ·rename_i y cs j st hy hev
    injection he with he
    subst he
    refine ⟨goes_val hS fun A w φ D hsim => ?_, rfl⟩
    have hv := hsim.ev a
    rw [hev] at hv
    obtain ⟨b, o', vs, hA, hl, hD, hb, hr, h1, hvs⟩ := hv.rop_inv
    refine ⟨.pointer (some ⟨b, o' + (j + fl.offset), none⟩), ?_, .rop b o' _ st _ vs hvs.1 hl hD hb hr h1 hvs.2⟩
    have hsz := ti_sizeOf hy w
    have hs' : y.sz ≠ 0 := hs
    simp only [execOp, ho, hA, Instr.fieldAt, Instr.sureAddr, Sem.run_bind, run_underlying h2 w, Result.andThen_ok, hfl, Sem.run_pure, fieldPlace, hsz]
    simp [hs', Addr.add_mid, Nat.add_assoc]
   ·cases he
  ·cases he
 ·cases he
theorem goes_indexAddr {o : Oper} {t : TypeId} {a ix : Operand} (ho : o.op = .indexAddr t a ix) {e : Ef} (he : evIndexAddr P σ t (σ.ev a) (σ.ev ix) = some e) (hs : e.side) (hS : ∀ j, S j → S' j) :
  Goes P X S S' o σ (σ.put o.dst e.val) ∧ e.wr = [] := by
 unfold evIndexAddr at he
 split at he
 ·rename_i sz by' ag ze el k n ht hix
  obtain ⟨i, u, z, h1, h2, h3, h4, h5, h6, h7, h8⟩ := ti_some ht
  obtain rfl := tk_slice h7
  split at he
  ·rename_i y st es hy hev
   injection he with he
   subst he
   obtain ⟨hn0, hn1, hst⟩ := hs
   refine ⟨goes_val hS fun A w φ D hsim => ?_, rfl⟩
   have hv := hsim.ev a
   rw [hev] at hv
   have hi := hsim.ev ix
   rw [hix] at hi
   have hI := hi.int_inv
   obtain ⟨A', c, hA, hc1, hc2, hel⟩ := hv.list_inv
   have hlt : n.toNat < es.length := by omega
   obtain ⟨b, o', cs, rfl, hD, hb, hr, hl, h1', hcs⟩ := hel n.toNat _ (List.getElem?_eq_getElem hlt)
   refine ⟨.pointer (some ⟨b, o' + n.toNat * st, none⟩), ?_, ?_⟩
   ·have hsz := ti_sizeOf hy w
    simp only [execOp, ho, hA, hI, Instr.indexAt, asIntOf, Sem.run_bind, Sem.run_pure, Result.andThen_ok, run_underlying h2 w]
    have hcond : 0 ≤ n ∧ n < (es.length : Int) := ⟨hn0, by omega⟩
    simp [hcond, hsz, Addr.add_mid, ← hst]
   ·have e1 : es.getD n.toNat [] = es[n.toNat] := by rw [List.getD_eq_getElem?_getD, List.getElem?_eq_getElem hlt]; rfl
    show RV φ D w _ (.rop (es.getD n.toNat []) 0 st)
    rw [e1]
    exact .rop b (o' + n.toNat * st) 0 st _ cs hcs.1 hl hD hb hr h1' hcs.2
  ·rename_i y i off len st hy hev
   injection he with he
   subst he
   obtain ⟨hn0, hn1, hst⟩ := hs
   refine ⟨goes_val hS fun A w φ D hsim => ?_, rfl⟩
   have hv := hsim.ev a
   rw [hev] at hv
   have hi := hsim.ev ix
   rw [hix] at hi
   have hI := hi.int_inv
   generalize hva : A.eval a = va at hv
   cases hv with
   | ref _ g _ _ c _ hp hlen hc hsz =>
    refine ⟨.pointer (some ⟨g, (off + n.toNat) * st + 0, none⟩), ?_, .ptr i g (off + n.toNat) 0 st hp⟩
    have hsz := ti_sizeOf hy w
    simp only [execOp, ho, hva, hI, Instr.indexAt, asIntOf, Sem.run_bind, Sem.run_pure, Result.andThen_ok, run_underlying h2 w]
    have hcond : 0 ≤ n ∧ n < (len : Int) := ⟨hn0, by omega⟩
    simp [hcond, hsz, Addr.add_mid, ← hst, Nat.add_mul]
   | ref0 => omega
   | refv => omega
  ·cases he
 ·rename_i sz by' ag ze m el k n ht hix
  obtain ⟨i, u, z, h1, h2, h3, h4, h5, h6, h7, h8⟩ := ti_some ht
  obtain rfl := tk_array h7
  split at he
  ·rename_i y i k j st hy hev
   injection he with he
   subst he
   obtain ⟨hn0, hn1⟩ := hs
   refine ⟨goes_val hS fun A w φ D hsim => ?_, rfl⟩
   have hv := hsim.ev a
   rw [hev] at hv
   have hi := hsim.ev ix
   rw [hix] at hi
   have hI := hi.int_inv
   obtain ⟨g, hp, hA⟩ := hv.ptr_inv
   refine ⟨.pointer (some ⟨g, k * st + (j + n.toNat * y.sz), none⟩), ?_, .ptr i g k _ st hp⟩
   have hsz := ti_sizeOf hy w
   have hcond : 0 ≤ n ∧ n < (m : Int) := ⟨hn0, by omega⟩
   simp only [execOp, ho, hA, hI, Instr.indexAt, asIntOf, Instr.sureAddr, Sem.run_bind, Sem.run_pure, Result.andThen_ok, run_underlying h2 w]
   simp [hcond, hsz, Addr.add_mid, Nat.add_assoc]
  ·rename_i y cs j st hy hev
   injection he with he
   subst he
   obtain ⟨hn0, hn1⟩ := hs
   refine ⟨goes_val hS fun A w φ D hsim => ?_, rfl⟩
   have hv := hsim.ev a
   rw [hev] at hv
   have hi := hsim.ev ix
   rw [hix] at hi
   have hI := hi.int_inv
   obtain ⟨b, o', vs, hA, hl, hD, hb, hr, h1', hvs⟩ := hv.rop_inv
   refine ⟨.pointer (some ⟨b, o' + (j + n.toNat * y.sz), none⟩), ?_, .rop b o' _ st _ vs hvs.1 hl hD hb hr h1' hvs.2⟩
   have hsz := ti_sizeOf hy w
   have hcond : 0 ≤ n ∧ n < (m : Int) := ⟨hn0, by omega⟩
   simp only [execOp, ho, hA, hI, Instr.indexAt, asIntOf, Instr.sureAddr, Sem.run_bind, Sem.run_pure, Result.andThen_ok, run_underlying h2 w]
   simp [hcond, hsz, Addr.add_mid, Nat.add_assoc]
  ·cases he
 ·cases he
end
end Go.Ab
/- DERIVED. The abstract operations that only reckon are sound. No program here. -/
namespace Go.Ab
open Go.RowKit
variable [Lay]
section
variable {P : Program} {φ : Pl} {D : Nat → Prop} {w : World}
theorem part_cut {cs : List Value} {ds : List Dat} {j : Nat} (hv : RVs φ D w cs ds) {t : TypeId} {x : TI} (ht : ti P t = some x) (hj : j + x.sz ≤ ds.length) (ha : x.agg = false → x.sz = 1) :
  ∃ v, (part t cs.toArray j).run P w = .ok v w ∧ RV φ D w v (cut ds j x.sz x.agg ds.length) := by
 have hag := ti_isAgg ht w
 have hsz := ti_sizeOf ht w
 have hl := hv.1
 cases hx : x.agg with
 | true =>
  refine ⟨.agg (cs.toArray.extract j (j + x.sz)), ?_, ?_⟩
  ·simp [part, hag, hx, hsz]
  ·unfold cut
   rw [if_pos rfl]
   have e : cs.toArray.extract j (j + x.sz) = ((cs.drop j).take x.sz).toArray := by
    simp [List.extract_toArray]
   rw [e]
   have hh := (hv.drop j).take x.sz
   split
   ·rename_i hjn
    obtain ⟨rfl, h2⟩ := hjn
    have e : (cs.drop 0).take x.sz = cs := by rw [List.drop_zero, List.take_of_length_le (by omega)]
    rw [e]
    exact .agg _ _ hv.1 hv.2
   ·exact .agg _ _ hh.1 hh.2
 | false =>
  have hn := ha hx
  have hj' : j < cs.length := by omega
  refine ⟨cs[j], ?_, ?_⟩
  ·simp [part, hag, hx, hj']
  ·unfold cut
   rw [if_neg (by simp)]
   exact hv.getD (by simp)
end
section
variable {P : Program} {X : Cx} {S S' : Nat → Prop} {σ : St} {i : Nat}
theorem goes_field {o : Oper} {t : TypeId} {a : Operand} {f : Nat} (ho : o.op = .field t a f) {e : Ef} (he : evField P t (σ.ev a) f = some e) (hs : e.side) (hS : ∀ j, S j → S' j) :
  Goes P X S S' o σ (σ.put o.dst e.val) ∧ e.wr = [] := by
 unfold evField at he
 split at he
 ·rename_i sz by' ag ze fs cs ht hev
  split at he
  ·rename_i off ft hf
   obtain ⟨i, u, z, h1, h2, h3, h4, h5, h6, h7, h8⟩ := ti_some ht
   obtain ⟨gs, rfl, hfs⟩ := tk_struct h7
   have hg : ∃ fl : Field, gs[f]? = some fl ∧ fl.offset = off ∧ fl.type = ft := by
    rw [hfs, List.getElem?_map] at hf
    cases hq : gs.toList[f]? with
    | none => simp [hq] at hf
    | some fl => simp [hq] at hf; exact ⟨fl, by simpa using hq, hf.1, hf.2⟩
   obtain ⟨fl, hfl, hoff, hty⟩ := hg
   subst hoff; subst hty
   split at he
   ·rename_i y hy
    injection he with he
    subst he
    obtain ⟨s1, s2⟩ := hs
    refine ⟨goes_val hS fun A w φ D hsim => ?_, rfl⟩
    have hv := hsim.ev a
    rw [hev] at hv
    obtain ⟨vs, hA, hvs⟩ := hv.agg_inv
    obtain ⟨v, hr, hrv⟩ := part_cut (P := P) hvs (j := fl.offset) hy s1 s2
    refine ⟨v, ?_, hrv⟩
    simp only [execOp, ho, hA, Instr.field, asAgg, Sem.run_bind, Sem.run_pure, run_underlying h2 w, Result.andThen_ok, hfl, hr]
   ·cases he
  ·cases he
 ·cases he
theorem goes_index {o : Oper} {t : TypeId} {a ix : Operand} (ho : o.op = .index t a ix) {e : Ef} (he : evIndex P t (σ.ev a) (σ.ev ix) = some e) (hs : e.side) (hS : ∀ j, S j → S' j) :
  Goes P X S S' o σ (σ.put o.dst e.val) ∧ e.wr = [] := by
 unfold evIndex at he
 split at he
 ·rename_i sz by' ag ze m el cs k n ht hev hix
  obtain ⟨i, u, z, h1, h2, h3, h4, h5, h6, h7, h8⟩ := ti_some ht
  obtain rfl := tk_array h7
  split at he
  ·rename_i y hy
   injection he with he
   subst he
   obtain ⟨s0, s1, s2, s3⟩ := hs
   refine ⟨goes_val hS fun A w φ D hsim => ?_, rfl⟩
   have hv := hsim.ev a
   rw [hev] at hv
   have hi := hsim.ev ix
   rw [hix] at hi
   have hI := hi.int_inv
   obtain ⟨vs, hA, hvs⟩ := hv.agg_inv
   obtain ⟨v, hr, hrv⟩ := part_cut (P := P) hvs (j := n.toNat * y.sz) hy s2 s3
   refine ⟨v, ?_, hrv⟩
   have hsz := ti_sizeOf hy w
   have hcond : 0 ≤ n ∧ n < (m : Int) := ⟨s0, by omega⟩
   simp only [execOp, ho, hA, hI, Instr.index, asIntOf, Sem.run_bind, Sem.run_pure, run_underlying h2 w, Result.andThen_ok]
   simp [hcond, hsz, hr]
  ·cases he
 ·rename_i sz by' ag ze s k n ht hev hix
  obtain ⟨i, u, z, h1, h2, h3, h4, h5, h6, h7, h8⟩ := ti_some ht
  obtain rfl := tk_str h7
  injection he with he
  subst he
  obtain ⟨s0, s1⟩ := hs
  refine ⟨goes_val hS fun A w φ D hsim => ?_, rfl⟩
  have hv := hsim.ev a
  rw [hev] at hv
  have hi := hsim.ev ix
  rw [hix] at hi
  have hI := hi.int_inv
  have hA := hv.str_inv
  have hlt : n.toNat < s.size := by omega
  refine ⟨.int .u8 (s[n.toNat]).toNat, ?_, ?_⟩
  ·simp only [execOp, ho, hA, hI, Instr.index, asIntOf, Sem.run_bind, Sem.run_pure, run_underlying h2 w, Result.andThen_ok]
   simp [s0, hlt]
  ·show RV φ D w _ (.int .u8 (s.data.toList.getD n.toNat 0).toNat)
   have e : s.data.toList.getD n.toNat 0 = s[n.toNat] := by
    have hlt' : n.toNat < s.data.size := hlt
    rw [List.getD_eq_getElem?_getD, Array.getElem?_toList, Array.getElem?_eq_getElem hlt']
    rfl
   rw [e]; exact .int _ _
 ·cases he
theorem goes_pick {o : Oper} {c x y : Operand} (ho : o.op = .pick c x y) {p : Bool} (he : σ.ev c = .bool p) (hS : ∀ j, S j → S' j) :
  Goes P X S S' o σ (σ.put o.dst (if p then σ.ev x else σ.ev y)) :=
 goes_val hS fun A w φ D hsim => by
  have hv := hsim.ev c
  rw [he] at hv
  have hA := hv.bool_inv
  refine ⟨if p then A.eval x else A.eval y, ?_, ?_⟩
  ·simp only [execOp, ho, hA, asBool, Sem.run_bind, Sem.run_pure, Result.andThen_ok]
  ·cases p
   ·exact hsim.ev y
   ·exact hsim.ev x
theorem goes_nilCheck {o : Oper} {x : Operand} (ho : o.op = .nilCheck x) (hd : (∃ i k j st, σ.ev x = .ptr i k j st) ∨ ∃ cs j st, σ.ev x = .rop cs j st) (hS : ∀ j, S j → S' j) :
  Goes P X S S' o σ (σ.put o.dst (σ.ev x)) :=
 goes_val hS fun A w φ D hsim => by
  have hv := hsim.ev x
  have hp : ∃ ad, A.eval x = .pointer (some ad) := by
   rcases hd with ⟨i, k, j, st, h⟩ | ⟨cs, j, st, h⟩
   ·rw [h] at hv; obtain ⟨g, _, h⟩ := hv.ptr_inv; exact ⟨_, h⟩
   ·rw [h] at hv; obtain ⟨b, o, cs, h, _⟩ := hv.rop_inv; exact ⟨_, h⟩
  obtain ⟨ad, had⟩ := hp
  refine ⟨A.eval x, ?_, hv⟩
  simp only [execOp, ho, had, Sem.run_pure]
theorem goes_bin {o : Oper} {op : BinOp} {t t' : TypeId} {x y : Operand} (ho : o.op = .binOp op t x y t') {e : Ef} (he : evBin P t op (σ.ev x) (σ.ev y) = some e) (hs : e.side) (hS : ∀ j, S j → S' j) :
  Goes P X S S' o σ (σ.put o.dst e.val) ∧ e.wr = [] := by
 unfold evBin at he
 split at he
 ·rename_i a b hx hy
  have key : ∀ v, (∀ w, P.underlying t = some .bool → (binOp op t (.bool a) (.bool b)).run P w = .ok v w) → (∀ φ D w, RV φ D w v e.val) → isB P t → Goes P X S S' o σ (σ.put o.dst e.val) := fun v h1 h2 hb => by
   obtain ⟨q1, q2, q3, q4, q5⟩ := hb
   obtain ⟨i, u, z, h3, h4, _, _, _, _, h9, _⟩ := ti_some q5
   obtain rfl := tk_bool h9
   exact goes_val hS fun A w φ D hsim => by
    have hA := hsim.ev x
    rw [hx] at hA
    have hB := hsim.ev y
    rw [hy] at hB
    refine ⟨v, ?_, h2 φ D w⟩
    simp only [execOp, ho, hA.bool_inv, hB.bool_inv, Sem.run_bind, eqGuard_at_bool, Sem.run_pure, Result.andThen_ok, h1 _ h4]
  split at he
  ·injection he with he
   subst he
   exact ⟨key _ (fun w h => run_eql_bool w t a b h) (fun φ D w => .bool _) hs, rfl⟩
  ·injection he with he
   subst he
   exact ⟨key _ (fun w h => run_neq_bool w t a b h) (fun φ D w => .bool _) hs, rfl⟩
  ·cases he
 ·rename_i k a k' b hx hy
  have key : ∀ v, (∀ w, (binOp op t (.int k a) (.int k' b)).run P w = .ok v w) → (∀ φ D w, RV φ D w v e.val) → Goes P X S S' o σ (σ.put o.dst e.val) := fun v h1 h2 =>
   goes_val hS fun A w φ D hsim => by
    have hA := hsim.ev x
    rw [hx] at hA
    have hB := hsim.ev y
    rw [hy] at hB
    refine ⟨v, ?_, h2 φ D w⟩
    simp only [execOp, ho, hA.int_inv, hB.int_inv, Sem.run_bind, eqGuard_at_int, Sem.run_pure, Result.andThen_ok, h1]
  have hk : ∀ e0, (match binInt op k a b with | some e => some { e with side := e.side ∧ k = k' } | none => none) = some e0 → e0.side → ∃ e1, binInt op k a b = some e1 ∧ e1.val = e0.val ∧ e1.wr = e0.wr ∧ e1.side ∧ k = k' := by
   intro e0 h0 hs0
   cases hb : binInt op k a b with
   | none => simp [hb] at h0
   | some e1 => simp [hb] at h0; subst h0; exact ⟨e1, rfl, rfl, rfl, hs0.1, hs0.2⟩
  split at he
  ·simp only [binInt] at he
   injection he with he
   subst he
   have hs' : 0 ≤ b := hs
   refine ⟨key _ (fun w => ?_) (fun φ D w => .int _ _), rfl⟩
   have : ¬ b < 0 := by omega
   simp [binOp, Op.shift, this]
  ·simp only [binInt] at he
   injection he with he
   subst he
   have hs' : 0 ≤ b := hs
   refine ⟨key _ (fun w => ?_) (fun φ D w => .int _ _), rfl⟩
   have : ¬ b < 0 := by omega
   simp [binOp, Op.shift, this]
  ·obtain ⟨e1, h1, h2, h3, h4, rfl⟩ := hk e he hs
   rw [← h2, ← h3]
   rw [← h2] at key
   cases op <;> simp only [binInt, reduceCtorEq] at h1 <;> (try (injection h1 with h1; subst h1)) <;>
    first
    | exact absurd rfl ‹¬ _ = _›
    | (refine ⟨key _ (fun w => ?_) (fun φ D w => .int _ _), rfl⟩; simp [binOp, Op.intArith]; done)
    | (refine ⟨key _ (fun w => ?_) (fun φ D w => .bool _), rfl⟩; simp [binOp, Op.intCmp]; done)
    | (refine ⟨key _ (fun w => ?_) (fun φ D w => .int _ _), rfl⟩; simp [binOp, Op.intBits]; done)
    | (refine ⟨key _ (fun w => ?_) (fun φ D w => .int _ _), rfl⟩; have h4' : b ≠ 0 := h4; simp [binOp, Op.intDiv, h4']; done)
    | (exfalso; simp_all; done)
 ·rename_i a b hx hy
  have key : ∀ v, (∀ w, (binOp op t (.string a) (.string b)).run P w = .ok v w) → (∀ φ D w, RV φ D w v e.val) → Goes P X S S' o σ (σ.put o.dst e.val) := fun v h1 h2 =>
   goes_val hS fun A w φ D hsim => by
    have hA := hsim.ev x
    rw [hx] at hA
    have hB := hsim.ev y
    rw [hy] at hB
    refine ⟨v, ?_, h2 φ D w⟩
    simp only [execOp, ho, hA.str_inv, hB.str_inv, Sem.run_bind, eqGuard_at_string, Sem.run_pure, Result.andThen_ok, h1]
  split at he
  ·injection he with he
   subst he
   exact ⟨key _ (fun w => by simp [binOp, Op.stringOp]) (fun φ D w => .bool _), rfl⟩
  ·injection he with he
   subst he
   exact ⟨key _ (fun w => by simp [binOp, Op.stringOp]) (fun φ D w => .bool _), rfl⟩
  ·injection he with he
   subst he
   exact ⟨key _ (fun w => by simp [binOp, Op.stringOp]) (fun φ D w => .bool _), rfl⟩
  ·injection he with he
   subst he
   exact ⟨key _ (fun w => by simp [binOp, Op.stringOp]) (fun φ D w => .bool _), rfl⟩
  ·cases he
 ·cases he
theorem goes_un {o : Oper} {op : UnOp} {t : TypeId} {x : Operand} (ho : o.op = .unOp op t x) {e : Ef} (he : evUn op (σ.ev x) = some e) (hS : ∀ j, S j → S' j) :
  Goes P X S S' o σ (σ.put o.dst e.val) ∧ e.wr = [] := by
 unfold evUn at he
 split at he
 ·rename_i b hx
  injection he with he
  subst he
  refine ⟨goes_val hS fun A w φ D hsim => ?_, rfl⟩
  have hA := hsim.ev x
  rw [hx] at hA
  exact ⟨.bool (!b), by simp [execOp, ho, hA.bool_inv, Op.unary], .bool _⟩
 ·rename_i k n hx
  injection he with he
  subst he
  refine ⟨goes_val hS fun A w φ D hsim => ?_, rfl⟩
  have hA := hsim.ev x
  rw [hx] at hA
  exact ⟨.int k (k.wrap (0 - n)), by simp [execOp, ho, hA.int_inv, Op.unary, Op.intArith], .int _ _⟩
 ·rename_i k n hx
  injection he with he
  subst he
  refine ⟨goes_val hS fun A w φ D hsim => ?_, rfl⟩
  have hA := hsim.ev x
  rw [hx] at hA
  exact ⟨_, by simp only [execOp, ho, hA.int_inv, Op.unary, Op.intBits, Sem.run_bind, Sem.run_pure, Result.andThen_ok], .int _ _⟩
 ·cases he
theorem bound_ok {P : Program} {w : World} {k : IntKind} {n : Int} {y : Nat} (c : BoundsCode) (h0 : 0 ≤ n) (h1 : n ≤ y) : (Instr.sliceBound (.int k n) y c).run P w = .ok n.toNat w := by
 have : 0 ≤ n ∧ n ≤ (y : Int) := ⟨h0, h1⟩
 simp [Instr.sliceBound, asIntOf, this]
theorem bounds_ok {P : Program} {w : World} {A : Act} {φ : Pl} {D : Nat → Prop} {lo hi : Option Operand} {a b : Int} {len cap : Nat} {isSlice : Bool} (hsim : Sim X S σ A w φ D)
  (hlo : (match lo.map σ.ev with | some (.int _ n) => some n | none => some 0 | _ => none) = some a)
  (hhi : (match hi.map σ.ev with | some (.int _ n) => some n | none => some (len : Int) | _ => none) = some b) (h0 : 0 ≤ a) (h1 : a ≤ b) (h2 : b ≤ cap) :
  (Instr.sliceBounds isSlice len cap (lo.map A.eval) (hi.map A.eval) none).run P w = .ok (a.toNat, b.toNat, cap) w := by
 have e1 : (∃ k, hi.map A.eval = some (.int k b)) ∨ (hi.map A.eval = none ∧ b = len) := by
  cases hi with
  | none => simp at hhi; exact .inr ⟨rfl, hhi.symm⟩
  | some x =>
   have hx := hsim.ev x
   simp only [Option.map_some] at hhi
   split at hhi
   ·rename_i k n hn
    injection hn with hn
    rw [hn] at hx
    injection hhi with hhi
    subst hhi
    exact .inl ⟨k, by rw [Option.map_some, hx.int_inv]⟩
   ·rename_i hn; cases hn
   ·cases hhi
 have e2 : (∃ k, lo.map A.eval = some (.int k a)) ∨ (lo.map A.eval = none ∧ a = 0) := by
  cases lo with
  | none => simp at hlo; exact .inr ⟨rfl, hlo.symm⟩
  | some x =>
   have hx := hsim.ev x
   simp only [Option.map_some] at hlo
   split at hlo
   ·rename_i k n hn
    injection hn with hn
    rw [hn] at hx
    injection hlo with hlo
    subst hlo
    exact .inl ⟨k, by rw [Option.map_some, hx.int_inv]⟩
   ·rename_i hn; cases hn
   ·cases hlo
 rcases e1 with ⟨k, e1⟩ | ⟨e1, e1'⟩ <;> rcases e2 with ⟨k', e2⟩ | ⟨e2, e2'⟩
 ·have hb := fun c => bound_ok (P := P) (w := w) (k := k) c (n := b) (y := cap) (by omega) h2
  have ha := fun c => bound_ok (P := P) (w := w) (k := k') c (n := a) (y := b.toNat) h0 (by omega)
  simp [Instr.sliceBounds, e1, e2, hb, ha]
 ·have hb := fun c => bound_ok (P := P) (w := w) (k := k) c (n := b) (y := cap) (by omega) h2
  simp [Instr.sliceBounds, e1, e2, hb, e2']
 ·have ha := fun c => bound_ok (P := P) (w := w) (k := k') c (n := a) (y := len) h0 (by omega)
  simp [Instr.sliceBounds, e1, e2, ha, e1']
 ·simp [Instr.sliceBounds, e1, e2, e1', e2']
theorem RV.list_drop {φ : Pl} {D : Nat → Prop} {w : World} {A : Option Addr} {n c st : Nat} {es : List (List Dat)} (h : RV φ D w (.slice A n c) (.list st es)) {a b : Nat} (hab : a ≤ b) (hb : b ≤ es.length) :
  RV φ D w (.slice (if c = a then A else A.map (·.add (a * st))) (b - a) (c - a)) (.list st ((es.take b).drop a)) := by
 obtain ⟨A', c', hv, h1, h2, h3⟩ := h.list_inv
 injection hv with e1 e2 e3
 subst e1; subst e3
 refine RV.list_mk (by simp; omega) (by simp; omega) (by omega) fun i e he => ?_
 rw [List.getElem?_drop, List.getElem?_take] at he
 split at he
 ·rename_i hi
  obtain ⟨b', o, cs, rfl, q1, q2, q3, q4, q5, q6⟩ := h3 (a + i) e he
  refine ⟨b', o + a * st, cs, ?_, q1, q2, ?_, q4, q5, q6⟩
  ·rw [if_neg (by omega)]; simp [Addr.add_mid]
  ·have : o + a * st + i * st = o + (a + i) * st := by rw [Nat.add_mul]; omega
   rw [this]; exact q3
 ·cases he
theorem goes_slice {o : Oper} {t : TypeId} {x : Operand} {lo hi : Option Operand} (ho : o.op = .slice t x lo hi none) {y : TI} (ht : ti P t = some y) {e : Ef} (he : evSlice σ.h y.d (σ.ev x) (lo.map σ.ev) (hi.map σ.ev) = some e)
  (hst : ∀ el z, y.d = .slice el → ti P el = some z → (match σ.ev x with | .list st _ => st = z.sz | .ref _ _ _ st => st = z.sz | _ => True)) (hel : ∀ el, y.d = .slice el → (ti P el).isSome = true) (hs : e.side) (hS : ∀ j, S j → S' j) :
  Goes P X S S' o σ (σ.put o.dst e.val) ∧ e.wr = [] := by
 obtain ⟨i, u, z, h1, h2, h3, h4, h5, h6, h7, h8⟩ := ti_some ht
 unfold evSlice at he
 simp only [] at he
 split at he
 ·rename_i el st es hd hev
  rw [hd] at h7
  obtain rfl := tk_slice h7
  split at he
  ·rename_i a b ha hb
   injection he with he
   subst he
   obtain ⟨s0, s1, s2⟩ := hs
   refine ⟨goes_val hS fun A w φ D hsim => ?_, rfl⟩
   have hv := hsim.ev x
   rw [hev] at hv
   obtain ⟨A', c, hA, hc1, hc2, hel'⟩ := hv.list_inv
   obtain ⟨z', hz'⟩ := Option.isSome_iff_exists.1 (hel el hd)
   have hst' := hst el z' hd hz'
   rw [hev] at hst'
   have hst'' : st = z'.sz := hst'
   have hsz := ti_sizeOf hz' w
   have hbd := bounds_ok (P := P) (isSlice := true) (cap := c) hsim ha hb s0 s1 (by omega)
   rw [hA] at hv
   refine ⟨.slice (if c = a.toNat then A' else A'.map (·.add (a.toNat * z'.sz))) (b.toNat - a.toNat) (c - a.toNat), ?_, ?_⟩
   ·simp only [execOp, ho, hA, Instr.sliceAt, Instr.slice, Sem.run_bind, Sem.run_pure, run_underlying h2 w, Result.andThen_ok, Option.map_none, hbd, hsz]
   ·have := hv.list_drop (a := a.toNat) (b := b.toNat) (by omega) (by omega)
    rw [← hst'']
    by_cases hbe : b = es.length
    ·have e1 : es.take b.toNat = es := List.take_of_length_le (by omega)
     rw [e1] at this
     simp only [if_pos hbe]
     exact this
    ·simp only [if_neg hbe]
     exact this
  ·cases he
 ·rename_i el hd hev
  rw [hd] at h7
  obtain rfl := tk_slice h7
  split at he
  ·rename_i a b ha hb
   injection he with he
   subst he
   obtain ⟨s0, s1⟩ := hs
   subst s0; subst s1
   refine ⟨goes_val hS fun A w φ D hsim => ?_, rfl⟩
   have hv := hsim.ev x
   rw [hev] at hv
   have hA := hv.nil_inv
   obtain ⟨z', hz'⟩ := Option.isSome_iff_exists.1 (hel el hd)
   have hsz := ti_sizeOf hz' w
   have hbd := bounds_ok (P := P) (isSlice := true) (cap := 0) hsim ha hb (by omega) (by omega) (by simp)
   refine ⟨.slice none 0 0, ?_, .nil⟩
   simp only [execOp, ho, hA, Instr.sliceAt, Instr.slice, Sem.run_bind, Sem.run_pure, run_underlying h2 w, Result.andThen_ok, Option.map_none, hbd, hsz]
   rfl
  ·cases he
 ·rename_i el i' off len st hd hev
  rw [hd] at h7
  obtain rfl := tk_slice h7
  split at he
  ·rename_i a b ha hb
   injection he with he
   subst he
   obtain ⟨s0, s1, s2⟩ := hs
   refine ⟨goes_val hS fun A w φ D hsim => ?_, rfl⟩
   have hv := hsim.ev x
   rw [hev] at hv
   obtain ⟨z', hz'⟩ := Option.isSome_iff_exists.1 (hel el hd)
   have hst' := hst el z' hd hz'
   rw [hev] at hst'
   have hst'' : st = z'.sz := hst'
   have hsz := ti_sizeOf hz' w
   generalize hva : A.eval x = va at hv
   cases hv with
   | ref _ g _ _ c _ hp hlen hc hszz =>
    have hbc : b ≤ (c : Int) := by
     rcases s2 with s2 | ⟨B, hB, hBst, rfl, hpos, hle⟩
     ·omega
     ·have hl := hsim.lies hB hp
      obtain ⟨arr, l1, l2, _⟩ := hl
      obtain ⟨e', he'⟩ := hszz
      unfold World.shape? at he'
      rw [l1] at he'
      simp at he'
      rw [hBst, he'.2] at l2
      have := Nat.le_of_mul_le_mul_right l2 hpos
      omega
    have hbd := bounds_ok (P := P) (isSlice := true) (cap := c) hsim ha hb s0 s1 (by omega)
    refine ⟨.slice (if c = a.toNat then some ⟨g, off * st, none⟩ else (some ⟨g, off * st, none⟩ : Option Addr).map (·.add (a.toNat * z'.sz))) (b.toNat - a.toNat) (c - a.toNat), ?_, ?_⟩
    ·simp only [execOp, ho, hva, Instr.sliceAt, Instr.slice, Sem.run_bind, Sem.run_pure, run_underlying h2 w, Result.andThen_ok, Option.map_none, hbd, hsz]
    ·show RV φ D w _ (.ref i' (off + a.toNat) (b.toNat - a.toNat) st)
     by_cases hca : c = a.toNat
     ·rw [if_pos hca]
      have e1 : b.toNat - a.toNat = 0 := by omega
      have e2 : c - a.toNat = 0 := by omega
      rw [e1, e2]
      by_cases h0 : 0 < off + a.toNat
      ·exact .ref0 i' _ st _ h0
      ·have e3 : off = 0 := by omega
       have e4 : a.toNat = 0 := by omega
       have e5 : c = 0 := by omega
       subst e3; subst e5
       rw [e4]
       exact .ref i' g 0 0 0 st hp (Nat.le_refl _) (Nat.zero_le _) (by simpa using hszz)
     ·rw [if_neg hca]
      have hadd : (Option.map (fun ad : Addr => ad.add (a.toNat * z'.sz)) (some ⟨g, off * st, none⟩)) = some ⟨g, (off + a.toNat) * st, none⟩ := by
       simp [Addr.add_mid, ← hst'', Nat.add_mul]
      rw [hadd]
      refine .ref i' g (off + a.toNat) _ (c - a.toNat) st hp (by omega) (by omega) ?_
      obtain ⟨e, he⟩ := hszz
      refine ⟨e, ?_⟩
      rw [he]
      congr 2
      congr 1
      omega
   | ref0 _ _ _ A' h0 =>
    have s2 : b ≤ 0 := by
     rcases s2 with s2 | ⟨B, hB, hBst, h0', hpos, hle⟩ <;> omega
    have hbd := bounds_ok (P := P) (isSlice := true) (cap := 0) hsim ha hb s0 s1 (by omega)
    refine ⟨.slice (if 0 = a.toNat then A' else A'.map (·.add (a.toNat * z'.sz))) (b.toNat - a.toNat) (0 - a.toNat), ?_, ?_⟩
    ·simp only [execOp, ho, hva, Instr.sliceAt, Instr.slice, Sem.run_bind, Sem.run_pure, run_underlying h2 w, Result.andThen_ok, Option.map_none, hbd, hsz]
    ·show RV φ D w _ (.ref i' (off + a.toNat) (b.toNat - a.toNat) st)
     have e1 : b.toNat - a.toNat = 0 := by omega
     rw [e1, Nat.zero_sub]
     exact .ref0 i' _ st _ (by omega)
   | refv _ _ hp =>
    have s2 : b ≤ 0 := by
     rcases s2 with s2 | ⟨B, hB, hBst, h0', hpos, hle⟩
     ·exact s2
     ·rcases hsim.hs.live i' B hB with ⟨_, q⟩ | ⟨g, q, _⟩
      ·rw [q] at hle; simpa using hle
      ·rw [hp] at q; cases q
    have hbd := bounds_ok (P := P) (isSlice := true) (cap := 0) hsim ha hb s0 s1 (by omega)
    have e1 : b.toNat = 0 := by omega
    have e2 : a.toNat = 0 := by omega
    refine ⟨.slice none 0 0, ?_, ?_⟩
    ·simp only [execOp, ho, hva, Instr.sliceAt, Instr.slice, Sem.run_bind, Sem.run_pure, run_underlying h2 w, Result.andThen_ok, Option.map_none, hbd, hsz, e1, e2]
     rfl
    ·show RV φ D w _ (.ref i' (0 + a.toNat) (b.toNat - a.toNat) st)
     rw [e1, e2]
     exact .refv i' st hp
  ·cases he
 ·rename_i s hd hev
  rw [hd] at h7
  obtain rfl := tk_str h7
  split at he
  ·rename_i a b ha hb
   injection he with he
   subst he
   obtain ⟨s0, s1, s2⟩ := hs
   refine ⟨goes_val hS fun A w φ D hsim => ?_, rfl⟩
   have hv := hsim.ev x
   rw [hev] at hv
   have hA := hv.str_inv
   have hbd := bounds_ok (P := P) (isSlice := false) (cap := s.size) hsim ha hb s0 s1 (by omega)
   refine ⟨.string (s.extract a.toNat b.toNat), ?_, .str _⟩
   simp [execOp, ho, hA, Instr.sliceAt, Instr.slice, run_underlying h2 w, hbd]
  ·cases he
 ·cases he
theorem goes_convert {o : Oper} {src dst : TypeId} {x : Operand} (ho : o.op = .convert src dst x) (hsrc : (ti P src).isSome = true) {e : Ef}
  (he : (match ti P dst, σ.ev x with | some ⟨_, _, _, _, .int k⟩, .int _ n => some { val := Dat.int k (k.wrap n) : Ef } | some ⟨_, _, _, _, .str⟩, .str s => some { val := .str s } | _, _ => none) = some e) (hS : ∀ j, S j → S' j) :
  Goes P X S S' o σ (σ.put o.dst e.val) ∧ e.wr = [] := by
 obtain ⟨xs, hxs⟩ := Option.isSome_iff_exists.1 hsrc
 obtain ⟨i', u', z', g1, g2, g3, g4, g5, g6, g7, g8⟩ := ti_some hxs
 split at he
 ·rename_i sz by' ag ze k k' n ht hev
  obtain ⟨i, u, z, h1, h2, h3, h4, h5, h6, h7, h8⟩ := ti_some ht
  obtain rfl := tk_int h7
  injection he with he
  subst he
  refine ⟨goes_val hS fun A w φ D hsim => ?_, rfl⟩
  have hv := hsim.ev x
  rw [hev] at hv
  have hA := hv.int_inv
  refine ⟨.int k (k.wrap n), ?_, .int _ _⟩
  simp [execOp, ho, hA, convert, run_underlying g2 w, run_underlying h2 w, Conv.intToInt]
 ·rename_i sz by' ag ze s ht hev
  obtain ⟨i, u, z, h1, h2, h3, h4, h5, h6, h7, h8⟩ := ti_some ht
  obtain rfl := tk_str h7
  injection he with he
  subst he
  refine ⟨goes_val hS fun A w φ D hsim => ?_, rfl⟩
  have hv := hsim.ev x
  rw [hev] at hv
  have hA := hv.str_inv
  refine ⟨.string s, ?_, .str _⟩
  cases u' <;> simp [execOp, ho, hA, convert, run_underlying g2 w, run_underlying h2 w]
 ·cases he
theorem goes_makeFunc {o : Oper} {f : Fn} {first cap : Array Operand} (ho : o.op = .makeFunc f first cap) (hS : ∀ j, S j → S' j) :
  Goes P X S S' o σ (σ.put o.dst (.fn f (first.toList.map σ.ev) (cap.toList.map σ.ev))) :=
 goes_val hS fun A w φ D hsim => by
  have h1 := hsim.evs first.toList
  have h2 := hsim.evs cap.toList
  refine ⟨.func f (first.toList.map A.eval).toArray (cap.toList.map A.eval).toArray, ?_, .fn f _ _ _ _ h1.1 h2.1 h1.2 h2.2⟩
  have e : ∀ a : Array Operand, (a.toList.map A.eval).toArray = a.map A.eval := fun a => by simp [← Array.toList_map]
  simp [execOp, ho, Instr.makeFunc, e]
theorem goes_extract {o : Oper} {x : Operand} {k : Nat} (ho : o.op = .extract x k) {ds : List Dat} (he : σ.ev x = .tup ds) (hk : k < ds.length) (hS : ∀ j, S j → S' j) :
  Goes P X S S' o σ (σ.put o.dst (ds.getD k (.oth undef))) :=
 goes_val hS fun A w φ D hsim => by
  have hv := hsim.ev x
  rw [he] at hv
  obtain ⟨cs, hA, hcs⟩ := hv.tup_inv
  have hl : k < cs.length := by rw [hcs.1]; exact hk
  refine ⟨cs[k], ?_, hcs.getD (by simp)⟩
  simp [execOp, ho, hA, Instr.extract, hl]
end
end Go.Ab
