/- DERIVED. The abstract operations are sound: first the small words. No program here. -/
import Derived.Test.YtogickapcbibbaaA3
namespace Go.Ab
open Go.RowKit

section
variable {φ : Pl} {D : Nat → Prop} {w : World} {v : Value}
theorem RV_datOf1 (v : Value) : RV φ D w v (datOf1 v) := by
  unfold datOf1
  split
  · exact .bool _
  · exact .int _ _
  · exact .str _
  · exact .nil
  · exact .oth _
theorem RVs_map {vs : List Value} {f : Value → Dat} (h : ∀ v ∈ vs, RV φ D w v (f v)) : RVs φ D w vs (vs.map f) :=
  ⟨by simp, fun i c d hc hd => by
    rw [List.getElem?_map, hc] at hd
    simp at hd
    subst hd
    exact h c (List.mem_of_getElem? hc)⟩
theorem RV_datOf (v : Value) : RV φ D w v (datOf v) := by
  unfold datOf
  split
  · rename_i cs
    have h := RVs_map (φ := φ) (D := D) (w := w) (vs := cs.toList) (f := datOf1) fun v _ => RV_datOf1 v
    have := RV.agg cs.toList _ h.1 h.2
    simpa using this
  · exact RV_datOf1 _
theorem RVs.nil : RVs φ D w [] [] := ⟨rfl, fun i c d h => by simp at h⟩
theorem RVs.cons {d : Dat} {vs : List Value} {ds : List Dat} (h : RV φ D w v d) (hs : RVs φ D w vs ds) : RVs φ D w (v :: vs) (d :: ds) :=
  ⟨by simp [hs.1], fun i c e hc he => by
    cases i with
    | zero => simp at hc he; subst hc; subst he; exact h
    | succ i => simp at hc he; exact hs.2 i c e hc he⟩
theorem RVs.cons_inv {d : Dat} {vs : List Value} {ds : List Dat} (h : RVs φ D w vs (d :: ds)) : ∃ v vs', vs = v :: vs' ∧ RV φ D w v d ∧ RVs φ D w vs' ds := by
  cases vs with
  | nil => have := h.1; simp at this
  | cons v vs => exact ⟨v, vs, rfl, h.2 0 v d rfl rfl, by have := h.1; simpa using this, fun i c e hc he => h.2 (i + 1) c e (by simpa using hc) (by simpa using he)⟩
theorem RVs.nil_inv {vs : List Value} (h : RVs φ D w vs []) : vs = [] := List.eq_nil_of_length_eq_zero h.1
theorem RVs.drop {vs : List Value} {ds : List Dat} (h : RVs φ D w vs ds) (n : Nat) : RVs φ D w (vs.drop n) (ds.drop n) :=
  ⟨by simp [h.1], fun i c d hc hd => by rw [List.getElem?_drop] at hc hd; exact h.2 _ c d hc hd⟩
theorem RVs.take {vs : List Value} {ds : List Dat} (h : RVs φ D w vs ds) (n : Nat) : RVs φ D w (vs.take n) (ds.take n) :=
  ⟨by simp [h.1], fun i c d hc hd => by
    rw [List.getElem?_take] at hc hd
    split at hc
    · rename_i hi
      rw [if_pos hi] at hd; exact h.2 _ c d hc hd
    · cases hc⟩
theorem RVs.append {vs us : List Value} {ds es : List Dat} (h : RVs φ D w vs ds) (k : RVs φ D w us es) : RVs φ D w (vs ++ us) (ds ++ es) :=
  ⟨by simp [h.1, k.1], fun i c d hc hd => by
    rcases Nat.lt_or_ge i vs.length with hi | hi
    · rw [List.getElem?_append_left hi] at hc
      rw [List.getElem?_append_left (by rw [← h.1]; exact hi)] at hd
      exact h.2 i c d hc hd
    · rw [List.getElem?_append_right hi] at hc
      rw [List.getElem?_append_right (by rw [← h.1]; exact hi), ← h.1] at hd
      exact k.2 _ c d hc hd⟩
theorem RVs.set {vs : List Value} {ds : List Dat} {d : Dat} (h : RVs φ D w vs ds) (i : Nat) (hv : RV φ D w v d) : RVs φ D w (vs.set i v) (ds.set i d) :=
  ⟨by simp [h.1], fun j c e hc he => by
    rw [List.getElem?_set] at hc he
    by_cases hij : i = j
    · rw [if_pos hij] at hc he
      split at hc
      · injection hc with hc
        subst hc
        split at he
        · injection he with he
          subst he; exact hv
        · cases he
      · cases hc
    · rw [if_neg hij] at hc he; exact h.2 j c e hc he⟩
theorem RVs.getD {vs : List Value} {ds : List Dat} (h : RVs φ D w vs ds) {i : Nat} {u : Value} (hu : vs[i]? = some u) : RV φ D w u (ds.getD i (.oth undef)) := by
  have hi : i < ds.length := by rw [← h.1]; exact (List.getElem?_eq_some_iff.1 hu).1
  rw [List.getD_eq_getElem?_getD, List.getElem?_eq_getElem hi]
  exact h.2 i u _ hu (List.getElem?_eq_getElem hi)
theorem RV.cells {d : Dat} (h : RV φ D w v d) : RVs φ D w v.cells.toList d.cells := by
  cases h with
  | agg cs ds hl h => exact ⟨by simpa [Value.cells, Dat.cells] using hl, fun i c d hc hd => h i c d (by simpa [Value.cells] using hc) hd⟩
  | oth v => exact RVs_map fun v _ => .oth v
  | bool b => exact .cons (.bool b) .nil
  | int k n => exact .cons (.int k n) .nil
  | str s => exact .cons (.str s) .nil
  | tup cs ds hl h => exact .cons (.tup cs ds hl h) .nil
  | nil => exact .cons .nil .nil
  | list0 A c st hc => exact .cons (.list0 A c st hc) .nil
  | list b o c st es cs hl hc hc2 hD hb hr hs hes h1 h => exact .cons (.list b o c st es cs hl hc hc2 hD hb hr hs hes h1 h) .nil
  | ref i g off len c st hp hlen hc hsz => exact .cons (.ref i g off len c st hp hlen hc hsz) .nil
  | ref0 i off st A h0 => exact .cons (.ref0 i off st A h0) .nil
  | refv i st hp => exact .cons (.refv i st hp) .nil
  | ptr i g k j st hp => exact .cons (.ptr i g k j st hp) .nil
  | rop b o j st ds cs hl hst hD hb hr h1 h => exact .cons (.rop b o j st ds cs hl hst hD hb hr h1 h) .nil
  | fn f cs1 cs2 ds1 ds2 hl1 hl2 h1 h2 => exact .cons (.fn f cs1 cs2 ds1 ds2 hl1 hl2 h1 h2) .nil
  | junk v h h2 => rw [h2]; exact .cons (.junk v h h2) .nil
theorem RV.one {d : Dat} (h : RV φ D w v d) (h1 : d.one = true) : v.oneCell' = true := by
  cases h <;> first | rfl | assumption | (simp [Dat.one] at h1; done) | exact h1
theorem RVs.one {vs : List Value} {ds : List Dat} (h : RVs φ D w vs ds) (h1 : allOne ds = true) : ∀ v ∈ vs, v.oneCell' = true := by
  intro v hv
  obtain ⟨i, hi, rfl⟩ := List.mem_iff_getElem.1 hv
  have hd : i < ds.length := by rw [← h.1]; exact hi
  exact RV.one (h.2 i vs[i] ds[i] (by simp) (by simp)) (by
    have := List.all_eq_true.1 h1 ds[i] (List.getElem_mem hd)
    exact this)
theorem RVs.of_one {vs : List Value} {ds : List Dat} (hl : vs.length = ds.length) (h : ∀ i (hi : i < vs.length), RV φ D w vs[i] (ds[i]'(hl ▸ hi))) : RVs φ D w vs ds :=
  ⟨hl, fun i c d hc hd => by
    obtain ⟨h1, rfl⟩ := List.getElem?_eq_some_iff.1 hc
    obtain ⟨h2, rfl⟩ := List.getElem?_eq_some_iff.1 hd
    exact h i h1⟩
end

/-- cells of an array replaced -/
theorem splice_get {α : Type} (l vs : List α) (o : Nat) (h : o + vs.length ≤ l.length) (i : Nat) :
    (l.take o ++ vs ++ l.drop (o + vs.length))[i]? = if o ≤ i ∧ i < o + vs.length then vs[i - o]? else l[i]? := by
  have h1 : (l.take o).length = o := by simp; omega
  by_cases c : i < o
  · rw [if_neg (by omega), List.append_assoc, List.getElem?_append_left (by omega), List.getElem?_take, if_pos c]
  · by_cases c2 : i < o + vs.length
    · rw [if_pos ⟨by omega, c2⟩, List.getElem?_append_left (by simp; omega), List.getElem?_append_right (by omega), h1]
    · rw [if_neg (by omega), List.getElem?_append_right (by simp; omega), List.getElem?_drop]
      congr 1
      simp; omega
theorem setR_go {α : Type} (off : Nat) : ∀ (cs : List α) (s : Nat) (l : List α) (i : Nat),
    ((cs.zipIdx s).foldl (fun l p => l.set (off + p.2) p.1) l)[i]? = if off + s ≤ i ∧ i < off + s + cs.length ∧ i < l.length then cs[i - (off + s)]? else l[i]?
  | [], s, l, i => by simp; intro h1 h2; omega
  | c :: cs, s, l, i => by
    rw [List.zipIdx_cons, List.foldl_cons, setR_go off cs (s + 1) _ i]
    simp only [List.length_set, List.length_cons]
    by_cases h : off + (s + 1) ≤ i ∧ i < off + (s + 1) + cs.length ∧ i < l.length
    · rw [if_pos h, if_pos (by omega), show i - (off + s) = (i - (off + (s + 1))) + 1 by omega, List.getElem?_cons_succ]
    · rw [if_neg h, List.getElem?_set]
      by_cases h2 : off + s = i
      · rw [if_pos h2]
        by_cases h3 : i < l.length
        · rw [if_pos (by omega), if_pos (by omega), show i - (off + s) = 0 by omega]; rfl
        · rw [if_neg (by omega), if_neg (by omega), List.getElem?_eq_none (by omega)]
      · rw [if_neg h2, if_neg (by omega)]
theorem setR_get (l cs : List Dat) (off i : Nat) : (setR l off cs)[i]? = if off ≤ i ∧ i < off + cs.length ∧ i < l.length then cs[i - off]? else l[i]? := by
  have := setR_go off cs 0 l i
  simpa [setR] using this
theorem setR_len (l cs : List Dat) (off : Nat) : (setR l off cs).length = l.length := by
  unfold setR
  generalize cs.zipIdx = ps
  induction ps generalizing l with
  | nil => rfl
  | cons p ps ih => rw [List.foldl_cons, ih, List.length_set]

section
variable {X : Cx} {S : Nat → Prop} {σ : St} {a : Act} {w : World} {φ : Pl} {D : Nat → Prop}

theorem Sim.ev (h : Sim X S σ a w φ D) (x : Operand) : RV φ D w (a.eval x) (σ.ev x) := by
  cases x with
  | tmp t => exact h.tm t
  | const v => exact RV_datOf v
  | global g => exact .oth _
  | func f =>
    have := RV.fn (φ := φ) (D := D) (w := w) (.func f) [] [] [] [] rfl rfl (fun i c d h => by simp at h) (fun i c d h => by simp at h)
    exact this
theorem Sim.evs (h : Sim X S σ a w φ D) (xs : List Operand) : RVs φ D w (xs.map a.eval) (xs.map σ.ev) :=
  ⟨by simp, fun i c d hc hd => by
    rw [List.getElem?_map] at hc hd
    cases hx : xs[i]? with
    | none => simp [hx] at hc
    | some x => simp [hx] at hc hd; subst hc; subst hd; exact h.ev x⟩

theorem St.put_t (σ : St) (dst : Option Tmp) (d : Dat) (i : Nat) : (σ.put dst d).t i = if dst = some i ∧ i < σ.nt then d else σ.t i := by
  unfold St.put
  cases dst with
  | none => simp
  | some k =>
    simp only []
    split
    · rename_i hk
      simp only [upd, Option.some.injEq]
      by_cases e : i = k
      · subst e; simp [hk]
      · rw [if_neg e, if_neg (fun h => e h.1.symm)]
    · rename_i hk
      rw [if_neg]
      rintro ⟨h, h2⟩
      injection h with h
      subst h; exact hk h2
@[simp] theorem St.put_nt (σ : St) (dst : Option Tmp) (d : Dat) : (σ.put dst d).nt = σ.nt := by
  unfold St.put; split <;> (try split) <;> rfl
@[simp] theorem St.put_h (σ : St) (dst : Option Tmp) (d : Dat) : (σ.put dst d).h = σ.h := by
  unfold St.put; split <;> (try split) <;> rfl
@[simp] theorem St.put_n (σ : St) (dst : Option Tmp) (d : Dat) : (σ.put dst d).n = σ.n := by
  unfold St.put; split <;> (try split) <;> rfl
theorem Act.put_get (a : Act) (dst : Option Tmp) (v : Value) (i : Nat) : (a.put dst v).tmps.getD i undef = if dst = some i ∧ i < a.tmps.size then v else a.tmps.getD i undef := by
  cases dst with
  | none => simp [Act.put]
  | some k =>
    simp only [Act.put, Array.getD_eq_getD_getElem?, Array.getElem?_setIfInBounds, Option.some.injEq]
    by_cases e : k = i
    · subst e
      by_cases hk : k < a.tmps.size
      · simp [hk]
      · simp [hk, Array.getElem?_eq_none (Nat.le_of_not_lt hk)]
    · simp [e]
theorem Act.put_size (a : Act) (dst : Option Tmp) (v : Value) : (a.put dst v).tmps.size = a.tmps.size := by
  cases dst <;> simp [Act.put]
theorem Act.put_defers' (a : Act) (dst : Option Tmp) (v : Value) : (a.put dst v).defers = a.defers := by
  cases dst <;> rfl

/-- a state where a value was put, and memory changed -/
theorem Sim.step (h : Sim X S σ a w φ D) {S' : Nat → Prop} {w' : World} {φ' : Pl} {D' : Nat → Prop} {h' : Nat → Option Blk} {dst : Option Tmp} {v : Value} {d : Dat}
    (hs : HS X S' h' σ.n w' φ' D') (hφ : PlLe φ φ') (hD : ∀ b, D b → b < w.heap.size → D' b) (hk : Ext D w w') (hv : RV φ' D' w' v d) :
    Sim X S' { σ.put dst d with h := h' } (a.put dst v) w' φ' D' where
  nt := by rw [Act.put_size, h.nt]; simp
  df := by rw [Act.put_defers', h.df]
  tm := fun i => by
    show RV φ' D' w' _ ((σ.put dst d).t i)
    rw [Act.put_get, St.put_t, h.nt]
    split
    · exact hv
    · exact RV.keep hφ hD hk (h.tm i)
  hs := by simpa using hs
theorem Sim.val (h : Sim X S σ a w φ D) {dst : Option Tmp} {v : Value} {d : Dat} (hv : RV φ D w v d) : Sim X S (σ.put dst d) (a.put dst v) w φ D := by
  have := h.step (dst := dst) h.hs (PlLe.refl _) (fun _ h _ => h) (Ext.refl _ _) hv
  have e : { σ.put dst d with h := σ.h } = σ.put dst d := by
    have := St.put_h σ dst d
    cases hq : σ.put dst d
    rw [hq] at this
    simp at this ⊢
    exact this.symm
  rwa [e] at this
end

/-- an operation leads from what stands for σ to what stands for σ' -/
def Goes (P : Program) (X : Cx) (S S' : Nat → Prop) (o : Oper) (σ σ' : St) : Prop :=
  ∀ a w φ D, Sim X S σ a w φ D → ∀ (K : Act → World → Prop) (Q : Exit → Act → World → Prop), (∀ a' w' φ' D', Sim X S' σ' a' w' φ' D' → K a' w') → o.wp P a w K Q

theorem Sim.more {X : Cx} {S S' : Nat → Prop} {σ : St} {a : Act} {w : World} {φ : Pl} {D : Nat → Prop} (h : Sim X S σ a w φ D) (hS : ∀ j, S j → S' j) : Sim X S' σ a w φ D :=
  { h with hs := h.hs.more hS }

/-- the commonest kind: a value, out of an unchanged world -/
theorem goes_val {P : Program} {X : Cx} {S S' : Nat → Prop} {o : Oper} {σ : St} {d : Dat} (hS : ∀ j, S j → S' j)
    (h : ∀ a w φ D, Sim X S σ a w φ D → ∃ v, (execOp a.eval o).run P w = .ok (.value v) w ∧ RV φ D w v d) : Goes P X S S' o σ (σ.put o.dst d) := by
  intro a w φ D hs K Q hK
  obtain ⟨v, hr, hv⟩ := h a w φ D hs
  unfold Oper.wp
  rw [hr, Oper.upon_value]
  exact hK _ _ φ D ((hs.val hv).more hS)
end Go.Ab
