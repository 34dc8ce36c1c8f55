/- DERIVED. The abstract operations that only reckon are sound. No program here. -/
import Derived.Test.YtogickapcbibbaaA5
namespace Go.Ab
open Go.RowKit

section
variable {P : Program} {φ : Pl} {D : Nat → Prop} {w : World}
/-- a part of a value of many cells -/
theorem part_cut {cs : List Value} {ds : List Dat} {j : Nat} (hv : RVs φ D w cs ds) {t : TypeId} {x : TI} (ht : ti P t = some x) (hj : j + x.sz ≤ ds.length) (ha : x.agg = false → x.sz = 1) :
    ∃ v, (part t cs.toArray j).run P w = .ok v w ∧ RV φ D w v (cut ds j x.sz x.agg ds.length) := by
  have hag := ti_isAgg ht w
  have hsz := ti_sizeOf ht w
  have hl := hv.1
  cases hx : x.agg with
  | true =>
    refine ⟨.agg (cs.toArray.extract j (j + x.sz)), ?_, ?_⟩
    · simp [part, hag, hx, hsz]
    · unfold cut
      rw [if_pos rfl]
      have e : cs.toArray.extract j (j + x.sz) = ((cs.drop j).take x.sz).toArray := by
        simp [List.extract_toArray]
      rw [e]
      have hh := (hv.drop j).take x.sz
      split
      · rename_i hjn
        obtain ⟨rfl, h2⟩ := hjn
        have e : (cs.drop 0).take x.sz = cs := by rw [List.drop_zero, List.take_of_length_le (by omega)]
        rw [e]
        exact .agg _ _ hv.1 hv.2
      · exact .agg _ _ hh.1 hh.2
  | false =>
    have hn := ha hx
    have hj' : j < cs.length := by omega
    refine ⟨cs[j], ?_, ?_⟩
    · simp [part, hag, hx, hj']
    · unfold cut
      rw [if_neg (by simp)]
      exact hv.getD (by simp)
end

section
variable {P : Program} {X : Cx} {S S' : Nat → Prop} {σ : St} {i : Nat}

theorem goes_field {o : Oper} {t : TypeId} {a : Operand} {f : Nat} (ho : o.op = .field t a f) {e : Ef} (he : evField P t (σ.ev a) f = some e) (hs : e.side) (hS : ∀ j, S j → S' j) :
    Goes P X S S' o σ (σ.put o.dst e.val) ∧ e.wr = [] := by
  unfold evField at he
  split at he
  · rename_i sz by' ag ze fs cs ht hev
    split at he
    · rename_i off ft hf
      obtain ⟨i, u, z, h1, h2, h3, h4, h5, h6, h7, h8⟩ := ti_some ht
      obtain ⟨gs, rfl, hfs⟩ := tk_struct h7
      have hg : ∃ fl : Field, gs[f]? = some fl ∧ fl.offset = off ∧ fl.type = ft := by
        rw [hfs, List.getElem?_map] at hf
        cases hq : gs.toList[f]? with
        | none => simp [hq] at hf
        | some fl => simp [hq] at hf; exact ⟨fl, by simpa using hq, hf.1, hf.2⟩
      obtain ⟨fl, hfl, hoff, hty⟩ := hg
      subst hoff; subst hty
      split at he
      · rename_i y hy
        injection he with he
        subst he
        obtain ⟨s1, s2⟩ := hs
        refine ⟨goes_val hS fun A w φ D hsim => ?_, rfl⟩
        have hv := hsim.ev a
        rw [hev] at hv
        obtain ⟨vs, hA, hvs⟩ := hv.agg_inv
        obtain ⟨v, hr, hrv⟩ := part_cut (P := P) hvs (j := fl.offset) hy s1 s2
        refine ⟨v, ?_, hrv⟩
        simp only [execOp, ho, hA, Instr.field, asAgg, Sem.run_bind, Sem.run_pure, run_underlying h2 w, Result.andThen_ok, hfl, hr]
      · cases he
    · cases he
  · cases he

theorem goes_index {o : Oper} {t : TypeId} {a ix : Operand} (ho : o.op = .index t a ix) {e : Ef} (he : evIndex P t (σ.ev a) (σ.ev ix) = some e) (hs : e.side) (hS : ∀ j, S j → S' j) :
    Goes P X S S' o σ (σ.put o.dst e.val) ∧ e.wr = [] := by
  unfold evIndex at he
  split at he
  · rename_i sz by' ag ze m el cs k n ht hev hix
    obtain ⟨i, u, z, h1, h2, h3, h4, h5, h6, h7, h8⟩ := ti_some ht
    obtain rfl := tk_array h7
    split at he
    · rename_i y hy
      injection he with he
      subst he
      obtain ⟨s0, s1, s2, s3⟩ := hs
      refine ⟨goes_val hS fun A w φ D hsim => ?_, rfl⟩
      have hv := hsim.ev a
      rw [hev] at hv
      have hi := hsim.ev ix
      rw [hix] at hi
      have hI := hi.int_inv
      obtain ⟨vs, hA, hvs⟩ := hv.agg_inv
      obtain ⟨v, hr, hrv⟩ := part_cut (P := P) hvs (j := n.toNat * y.sz) hy s2 s3
      refine ⟨v, ?_, hrv⟩
      have hsz := ti_sizeOf hy w
      have hcond : 0 ≤ n ∧ n < (m : Int) := ⟨s0, by omega⟩
      simp only [execOp, ho, hA, hI, Instr.index, asIntOf, Sem.run_bind, Sem.run_pure, run_underlying h2 w, Result.andThen_ok]
      simp [hcond, hsz, hr]
    · cases he
  · rename_i sz by' ag ze s k n ht hev hix
    obtain ⟨i, u, z, h1, h2, h3, h4, h5, h6, h7, h8⟩ := ti_some ht
    obtain rfl := tk_str h7
    injection he with he
    subst he
    obtain ⟨s0, s1⟩ := hs
    refine ⟨goes_val hS fun A w φ D hsim => ?_, rfl⟩
    have hv := hsim.ev a
    rw [hev] at hv
    have hi := hsim.ev ix
    rw [hix] at hi
    have hI := hi.int_inv
    have hA := hv.str_inv
    have hlt : n.toNat < s.size := by omega
    refine ⟨.int .u8 (s[n.toNat]).toNat, ?_, ?_⟩
    · simp only [execOp, ho, hA, hI, Instr.index, asIntOf, Sem.run_bind, Sem.run_pure, run_underlying h2 w, Result.andThen_ok]
      simp [s0, hlt]
    · show RV φ D w _ (.int .u8 (s.data.toList.getD n.toNat 0).toNat)
      have e : s.data.toList.getD n.toNat 0 = s[n.toNat] := by
        have hlt' : n.toNat < s.data.size := hlt
        rw [List.getD_eq_getElem?_getD, Array.getElem?_toList, Array.getElem?_eq_getElem hlt']
        rfl
      rw [e]; exact .int _ _
  · cases he

theorem goes_pick {o : Oper} {c x y : Operand} (ho : o.op = .pick c x y) {p : Bool} (he : σ.ev c = .bool p) (hS : ∀ j, S j → S' j) :
    Goes P X S S' o σ (σ.put o.dst (if p then σ.ev x else σ.ev y)) :=
  goes_val hS fun A w φ D hsim => by
    have hv := hsim.ev c
    rw [he] at hv
    have hA := hv.bool_inv
    refine ⟨if p then A.eval x else A.eval y, ?_, ?_⟩
    · simp only [execOp, ho, hA, asBool, Sem.run_bind, Sem.run_pure, Result.andThen_ok]
    · cases p
      · exact hsim.ev y
      · exact hsim.ev x

theorem goes_nilCheck {o : Oper} {x : Operand} (ho : o.op = .nilCheck x) (hd : (∃ i k j st, σ.ev x = .ptr i k j st) ∨ ∃ cs j st, σ.ev x = .rop cs j st) (hS : ∀ j, S j → S' j) :
    Goes P X S S' o σ (σ.put o.dst (σ.ev x)) :=
  goes_val hS fun A w φ D hsim => by
    have hv := hsim.ev x
    have hp : ∃ ad, A.eval x = .pointer (some ad) := by
      rcases hd with ⟨i, k, j, st, h⟩ | ⟨cs, j, st, h⟩
      · rw [h] at hv; obtain ⟨g, _, h⟩ := hv.ptr_inv; exact ⟨_, h⟩
      · rw [h] at hv; obtain ⟨b, o, cs, h, _⟩ := hv.rop_inv; exact ⟨_, h⟩
    obtain ⟨ad, had⟩ := hp
    refine ⟨A.eval x, ?_, hv⟩
    simp only [execOp, ho, had, Sem.run_pure]

theorem goes_bin {o : Oper} {op : BinOp} {t t' : TypeId} {x y : Operand} (ho : o.op = .binOp op t x y t') {e : Ef} (he : evBin P t op (σ.ev x) (σ.ev y) = some e) (hs : e.side) (hS : ∀ j, S j → S' j) :
    Goes P X S S' o σ (σ.put o.dst e.val) ∧ e.wr = [] := by
  unfold evBin at he
  split at he
  · rename_i a b hx hy
    have key : ∀ v, (∀ w, P.underlying t = some .bool → (binOp op t (.bool a) (.bool b)).run P w = .ok v w) → (∀ φ D w, RV φ D w v e.val) → isB P t → Goes P X S S' o σ (σ.put o.dst e.val) := fun v h1 h2 hb => by
      obtain ⟨q1, q2, q3, q4, q5⟩ := hb
      obtain ⟨i, u, z, h3, h4, _, _, _, _, h9, _⟩ := ti_some q5
      obtain rfl := tk_bool h9
      exact goes_val hS fun A w φ D hsim => by
        have hA := hsim.ev x
        rw [hx] at hA
        have hB := hsim.ev y
        rw [hy] at hB
        refine ⟨v, ?_, h2 φ D w⟩
        simp only [execOp, ho, hA.bool_inv, hB.bool_inv, Sem.run_bind, eqGuard_at_bool, Sem.run_pure, Result.andThen_ok, h1 _ h4]
    split at he
    · injection he with he
      subst he
      exact ⟨key _ (fun w h => run_eql_bool w t a b h) (fun φ D w => .bool _) hs, rfl⟩
    · injection he with he
      subst he
      exact ⟨key _ (fun w h => run_neq_bool w t a b h) (fun φ D w => .bool _) hs, rfl⟩
    · cases he
  · rename_i k a k' b hx hy
    have key : ∀ v, (∀ w, (binOp op t (.int k a) (.int k' b)).run P w = .ok v w) → (∀ φ D w, RV φ D w v e.val) → Goes P X S S' o σ (σ.put o.dst e.val) := fun v h1 h2 =>
      goes_val hS fun A w φ D hsim => by
        have hA := hsim.ev x
        rw [hx] at hA
        have hB := hsim.ev y
        rw [hy] at hB
        refine ⟨v, ?_, h2 φ D w⟩
        simp only [execOp, ho, hA.int_inv, hB.int_inv, Sem.run_bind, eqGuard_at_int, Sem.run_pure, Result.andThen_ok, h1]
    have hk : ∀ e0, (match binInt op k a b with | some e => some { e with side := e.side ∧ k = k' } | none => none) = some e0 → e0.side → ∃ e1, binInt op k a b = some e1 ∧ e1.val = e0.val ∧ e1.wr = e0.wr ∧ e1.side ∧ k = k' := by
      intro e0 h0 hs0
      cases hb : binInt op k a b with
      | none => simp [hb] at h0
      | some e1 => simp [hb] at h0; subst h0; exact ⟨e1, rfl, rfl, rfl, hs0.1, hs0.2⟩
    split at he
    · simp only [binInt] at he
      injection he with he
      subst he
      have hs' : 0 ≤ b := hs
      refine ⟨key _ (fun w => ?_) (fun φ D w => .int _ _), rfl⟩
      have : ¬ b < 0 := by omega
      simp [binOp, Op.shift, this]
    · simp only [binInt] at he
      injection he with he
      subst he
      have hs' : 0 ≤ b := hs
      refine ⟨key _ (fun w => ?_) (fun φ D w => .int _ _), rfl⟩
      have : ¬ b < 0 := by omega
      simp [binOp, Op.shift, this]
    · obtain ⟨e1, h1, h2, h3, h4, rfl⟩ := hk e he hs
      rw [← h2, ← h3]
      rw [← h2] at key
      cases op <;> simp only [binInt, reduceCtorEq] at h1 <;> (try (injection h1 with h1; subst h1)) <;>
        first
        | exact absurd rfl ‹¬ _ = _›
        | (refine ⟨key _ (fun w => ?_) (fun φ D w => .int _ _), rfl⟩; simp [binOp, Op.intArith]; done)
        | (refine ⟨key _ (fun w => ?_) (fun φ D w => .bool _), rfl⟩; simp [binOp, Op.intCmp]; done)
        | (refine ⟨key _ (fun w => ?_) (fun φ D w => .int _ _), rfl⟩; simp [binOp, Op.intBits]; done)
        | (refine ⟨key _ (fun w => ?_) (fun φ D w => .int _ _), rfl⟩; have h4' : b ≠ 0 := h4; simp [binOp, Op.intDiv, h4']; done)
        | (exfalso; simp_all; done)
  · rename_i a b hx hy
    have key : ∀ v, (∀ w, (binOp op t (.string a) (.string b)).run P w = .ok v w) → (∀ φ D w, RV φ D w v e.val) → Goes P X S S' o σ (σ.put o.dst e.val) := fun v h1 h2 =>
      goes_val hS fun A w φ D hsim => by
        have hA := hsim.ev x
        rw [hx] at hA
        have hB := hsim.ev y
        rw [hy] at hB
        refine ⟨v, ?_, h2 φ D w⟩
        simp only [execOp, ho, hA.str_inv, hB.str_inv, Sem.run_bind, eqGuard_at_string, Sem.run_pure, Result.andThen_ok, h1]
    split at he
    · injection he with he
      subst he
      exact ⟨key _ (fun w => by simp [binOp, Op.stringOp]) (fun φ D w => .bool _), rfl⟩
    · injection he with he
      subst he
      exact ⟨key _ (fun w => by simp [binOp, Op.stringOp]) (fun φ D w => .bool _), rfl⟩
    · injection he with he
      subst he
      exact ⟨key _ (fun w => by simp [binOp, Op.stringOp]) (fun φ D w => .bool _), rfl⟩
    · injection he with he
      subst he
      exact ⟨key _ (fun w => by simp [binOp, Op.stringOp]) (fun φ D w => .bool _), rfl⟩
    · cases he
  · cases he

theorem goes_un {o : Oper} {op : UnOp} {t : TypeId} {x : Operand} (ho : o.op = .unOp op t x) {e : Ef} (he : evUn op (σ.ev x) = some e) (hS : ∀ j, S j → S' j) :
    Goes P X S S' o σ (σ.put o.dst e.val) ∧ e.wr = [] := by
  unfold evUn at he
  split at he
  · rename_i b hx
    injection he with he
    subst he
    refine ⟨goes_val hS fun A w φ D hsim => ?_, rfl⟩
    have hA := hsim.ev x
    rw [hx] at hA
    exact ⟨.bool (!b), by simp [execOp, ho, hA.bool_inv, Op.unary], .bool _⟩
  · rename_i k n hx
    injection he with he
    subst he
    refine ⟨goes_val hS fun A w φ D hsim => ?_, rfl⟩
    have hA := hsim.ev x
    rw [hx] at hA
    exact ⟨.int k (k.wrap (0 - n)), by simp [execOp, ho, hA.int_inv, Op.unary, Op.intArith], .int _ _⟩
  · rename_i k n hx
    injection he with he
    subst he
    refine ⟨goes_val hS fun A w φ D hsim => ?_, rfl⟩
    have hA := hsim.ev x
    rw [hx] at hA
    exact ⟨_, by simp only [execOp, ho, hA.int_inv, Op.unary, Op.intBits, Sem.run_bind, Sem.run_pure, Result.andThen_ok], .int _ _⟩
  · cases he

theorem bound_ok {P : Program} {w : World} {k : IntKind} {n : Int} {y : Nat} (c : BoundsCode) (h0 : 0 ≤ n) (h1 : n ≤ y) : (Instr.sliceBound (.int k n) y c).run P w = .ok n.toNat w := by
  have : 0 ≤ n ∧ n ≤ (y : Int) := ⟨h0, h1⟩
  simp [Instr.sliceBound, asIntOf, this]

/-- the two bounds, as the model reckons them -/
theorem bounds_ok {P : Program} {w : World} {A : Act} {φ : Pl} {D : Nat → Prop} {lo hi : Option Operand} {a b : Int} {len cap : Nat} {isSlice : Bool} (hsim : Sim X S σ A w φ D)
    (hlo : (match lo.map σ.ev with | some (.int _ n) => some n | none => some 0 | _ => none) = some a)
    (hhi : (match hi.map σ.ev with | some (.int _ n) => some n | none => some (len : Int) | _ => none) = some b) (h0 : 0 ≤ a) (h1 : a ≤ b) (h2 : b ≤ cap) :
    (Instr.sliceBounds isSlice len cap (lo.map A.eval) (hi.map A.eval) none).run P w = .ok (a.toNat, b.toNat, cap) w := by
  have e1 : (∃ k, hi.map A.eval = some (.int k b)) ∨ (hi.map A.eval = none ∧ b = len) := by
    cases hi with
    | none => simp at hhi; exact .inr ⟨rfl, hhi.symm⟩
    | some x =>
      have hx := hsim.ev x
      simp only [Option.map_some] at hhi
      split at hhi
      · rename_i k n hn
        injection hn with hn
        rw [hn] at hx
        injection hhi with hhi
        subst hhi
        exact .inl ⟨k, by rw [Option.map_some, hx.int_inv]⟩
      · rename_i hn; cases hn
      · cases hhi
  have e2 : (∃ k, lo.map A.eval = some (.int k a)) ∨ (lo.map A.eval = none ∧ a = 0) := by
    cases lo with
    | none => simp at hlo; exact .inr ⟨rfl, hlo.symm⟩
    | some x =>
      have hx := hsim.ev x
      simp only [Option.map_some] at hlo
      split at hlo
      · rename_i k n hn
        injection hn with hn
        rw [hn] at hx
        injection hlo with hlo
        subst hlo
        exact .inl ⟨k, by rw [Option.map_some, hx.int_inv]⟩
      · rename_i hn; cases hn
      · cases hlo
  rcases e1 with ⟨k, e1⟩ | ⟨e1, e1'⟩ <;> rcases e2 with ⟨k', e2⟩ | ⟨e2, e2'⟩
  · have hb := fun c => bound_ok (P := P) (w := w) (k := k) c (n := b) (y := cap) (by omega) h2
    have ha := fun c => bound_ok (P := P) (w := w) (k := k') c (n := a) (y := b.toNat) h0 (by omega)
    simp [Instr.sliceBounds, e1, e2, hb, ha]
  · have hb := fun c => bound_ok (P := P) (w := w) (k := k) c (n := b) (y := cap) (by omega) h2
    simp [Instr.sliceBounds, e1, e2, hb, e2']
  · have ha := fun c => bound_ok (P := P) (w := w) (k := k') c (n := a) (y := len) h0 (by omega)
    simp [Instr.sliceBounds, e1, e2, ha, e1']
  · simp [Instr.sliceBounds, e1, e2, e1', e2']

theorem RV.list_drop {φ : Pl} {D : Nat → Prop} {w : World} {A : Option Addr} {n c st : Nat} {es : List (List Dat)} (h : RV φ D w (.slice A n c) (.list st es)) {a b : Nat} (hab : a ≤ b) (hb : b ≤ es.length) :
    RV φ D w (.slice (if c = a then A else A.map (·.add (a * st))) (b - a) (c - a)) (.list st ((es.take b).drop a)) := by
  obtain ⟨A', c', hv, h1, h2, h3⟩ := h.list_inv
  injection hv with e1 e2 e3
  subst e1; subst e3
  refine RV.list_mk (by simp; omega) (by simp; omega) (by omega) fun i e he => ?_
  rw [List.getElem?_drop, List.getElem?_take] at he
  split at he
  · rename_i hi
    obtain ⟨b', o, cs, rfl, q1, q2, q3, q4, q5, q6⟩ := h3 (a + i) e he
    refine ⟨b', o + a * st, cs, ?_, q1, q2, ?_, q4, q5, q6⟩
    · rw [if_neg (by omega)]; simp [Addr.add_mid]
    · have : o + a * st + i * st = o + (a + i) * st := by rw [Nat.add_mul]; omega
      rw [this]; exact q3
  · cases he

theorem goes_slice {o : Oper} {t : TypeId} {x : Operand} {lo hi : Option Operand} (ho : o.op = .slice t x lo hi none) {y : TI} (ht : ti P t = some y) {e : Ef} (he : evSlice σ.h y.d (σ.ev x) (lo.map σ.ev) (hi.map σ.ev) = some e)
    (hst : ∀ el z, y.d = .slice el → ti P el = some z → (match σ.ev x with | .list st _ => st = z.sz | .ref _ _ _ st => st = z.sz | _ => True)) (hel : ∀ el, y.d = .slice el → (ti P el).isSome = true) (hs : e.side) (hS : ∀ j, S j → S' j) :
    Goes P X S S' o σ (σ.put o.dst e.val) ∧ e.wr = [] := by
  obtain ⟨i, u, z, h1, h2, h3, h4, h5, h6, h7, h8⟩ := ti_some ht
  unfold evSlice at he
  simp only [] at he
  split at he
  · rename_i el st es hd hev
    rw [hd] at h7
    obtain rfl := tk_slice h7
    split at he
    · rename_i a b ha hb
      injection he with he
      subst he
      obtain ⟨s0, s1, s2⟩ := hs
      refine ⟨goes_val hS fun A w φ D hsim => ?_, rfl⟩
      have hv := hsim.ev x
      rw [hev] at hv
      obtain ⟨A', c, hA, hc1, hc2, hel'⟩ := hv.list_inv
      obtain ⟨z', hz'⟩ := Option.isSome_iff_exists.1 (hel el hd)
      have hst' := hst el z' hd hz'
      rw [hev] at hst'
      have hst'' : st = z'.sz := hst'
      have hsz := ti_sizeOf hz' w
      have hbd := bounds_ok (P := P) (isSlice := true) (cap := c) hsim ha hb s0 s1 (by omega)
      rw [hA] at hv
      refine ⟨.slice (if c = a.toNat then A' else A'.map (·.add (a.toNat * z'.sz))) (b.toNat - a.toNat) (c - a.toNat), ?_, ?_⟩
      · simp only [execOp, ho, hA, Instr.sliceAt, Instr.slice, Sem.run_bind, Sem.run_pure, run_underlying h2 w, Result.andThen_ok, Option.map_none, hbd, hsz]
      · have := hv.list_drop (a := a.toNat) (b := b.toNat) (by omega) (by omega)
        rw [← hst'']
        by_cases hbe : b = es.length
        · have e1 : es.take b.toNat = es := List.take_of_length_le (by omega)
          rw [e1] at this
          simp only [if_pos hbe]
          exact this
        · simp only [if_neg hbe]
          exact this
    · cases he
  · rename_i el hd hev
    rw [hd] at h7
    obtain rfl := tk_slice h7
    split at he
    · rename_i a b ha hb
      injection he with he
      subst he
      obtain ⟨s0, s1⟩ := hs
      subst s0; subst s1
      refine ⟨goes_val hS fun A w φ D hsim => ?_, rfl⟩
      have hv := hsim.ev x
      rw [hev] at hv
      have hA := hv.nil_inv
      obtain ⟨z', hz'⟩ := Option.isSome_iff_exists.1 (hel el hd)
      have hsz := ti_sizeOf hz' w
      have hbd := bounds_ok (P := P) (isSlice := true) (cap := 0) hsim ha hb (by omega) (by omega) (by simp)
      refine ⟨.slice none 0 0, ?_, .nil⟩
      simp only [execOp, ho, hA, Instr.sliceAt, Instr.slice, Sem.run_bind, Sem.run_pure, run_underlying h2 w, Result.andThen_ok, Option.map_none, hbd, hsz]
      rfl
    · cases he
  · rename_i el i' off len st hd hev
    rw [hd] at h7
    obtain rfl := tk_slice h7
    split at he
    · rename_i a b ha hb
      injection he with he
      subst he
      obtain ⟨s0, s1, s2⟩ := hs
      refine ⟨goes_val hS fun A w φ D hsim => ?_, rfl⟩
      have hv := hsim.ev x
      rw [hev] at hv
      obtain ⟨z', hz'⟩ := Option.isSome_iff_exists.1 (hel el hd)
      have hst' := hst el z' hd hz'
      rw [hev] at hst'
      have hst'' : st = z'.sz := hst'
      have hsz := ti_sizeOf hz' w
      generalize hva : A.eval x = va at hv
      cases hv with
      | ref _ g _ _ c _ hp hlen hc hszz =>
        have hbc : b ≤ (c : Int) := by
          rcases s2 with s2 | ⟨B, hB, hBst, rfl, hpos, hle⟩
          · omega
          · have hl := hsim.lies hB hp
            obtain ⟨arr, l1, l2, _⟩ := hl
            obtain ⟨e', he'⟩ := hszz
            unfold World.shape? at he'
            rw [l1] at he'
            simp at he'
            rw [hBst, he'.2] at l2
            have := Nat.le_of_mul_le_mul_right l2 hpos
            omega
        have hbd := bounds_ok (P := P) (isSlice := true) (cap := c) hsim ha hb s0 s1 (by omega)
        refine ⟨.slice (if c = a.toNat then some ⟨g, off * st, none⟩ else (some ⟨g, off * st, none⟩ : Option Addr).map (·.add (a.toNat * z'.sz))) (b.toNat - a.toNat) (c - a.toNat), ?_, ?_⟩
        · simp only [execOp, ho, hva, Instr.sliceAt, Instr.slice, Sem.run_bind, Sem.run_pure, run_underlying h2 w, Result.andThen_ok, Option.map_none, hbd, hsz]
        · show RV φ D w _ (.ref i' (off + a.toNat) (b.toNat - a.toNat) st)
          by_cases hca : c = a.toNat
          · rw [if_pos hca]
            have e1 : b.toNat - a.toNat = 0 := by omega
            have e2 : c - a.toNat = 0 := by omega
            rw [e1, e2]
            by_cases h0 : 0 < off + a.toNat
            · exact .ref0 i' _ st _ h0
            · have e3 : off = 0 := by omega
              have e4 : a.toNat = 0 := by omega
              have e5 : c = 0 := by omega
              subst e3; subst e5
              rw [e4]
              exact .ref i' g 0 0 0 st hp (Nat.le_refl _) (Nat.zero_le _) (by simpa using hszz)
          · rw [if_neg hca]
            have hadd : (Option.map (fun ad : Addr => ad.add (a.toNat * z'.sz)) (some ⟨g, off * st, none⟩)) = some ⟨g, (off + a.toNat) * st, none⟩ := by
              simp [Addr.add_mid, ← hst'', Nat.add_mul]
            rw [hadd]
            refine .ref i' g (off + a.toNat) _ (c - a.toNat) st hp (by omega) (by omega) ?_
            obtain ⟨e, he⟩ := hszz
            refine ⟨e, ?_⟩
            rw [he]
            congr 2
            congr 1
            omega
      | ref0 _ _ _ A' h0 =>
        have s2 : b ≤ 0 := by
          rcases s2 with s2 | ⟨B, hB, hBst, h0', hpos, hle⟩ <;> omega
        have hbd := bounds_ok (P := P) (isSlice := true) (cap := 0) hsim ha hb s0 s1 (by omega)
        refine ⟨.slice (if 0 = a.toNat then A' else A'.map (·.add (a.toNat * z'.sz))) (b.toNat - a.toNat) (0 - a.toNat), ?_, ?_⟩
        · simp only [execOp, ho, hva, Instr.sliceAt, Instr.slice, Sem.run_bind, Sem.run_pure, run_underlying h2 w, Result.andThen_ok, Option.map_none, hbd, hsz]
        · show RV φ D w _ (.ref i' (off + a.toNat) (b.toNat - a.toNat) st)
          have e1 : b.toNat - a.toNat = 0 := by omega
          rw [e1, Nat.zero_sub]
          exact .ref0 i' _ st _ (by omega)
      | refv _ _ hp =>
        have s2 : b ≤ 0 := by
          rcases s2 with s2 | ⟨B, hB, hBst, h0', hpos, hle⟩
          · exact s2
          · rcases hsim.hs.live i' B hB with ⟨_, q⟩ | ⟨g, q, _⟩
            · rw [q] at hle; simpa using hle
            · rw [hp] at q; cases q
        have hbd := bounds_ok (P := P) (isSlice := true) (cap := 0) hsim ha hb s0 s1 (by omega)
        have e1 : b.toNat = 0 := by omega
        have e2 : a.toNat = 0 := by omega
        refine ⟨.slice none 0 0, ?_, ?_⟩
        · simp only [execOp, ho, hva, Instr.sliceAt, Instr.slice, Sem.run_bind, Sem.run_pure, run_underlying h2 w, Result.andThen_ok, Option.map_none, hbd, hsz, e1, e2]
          rfl
        · show RV φ D w _ (.ref i' (0 + a.toNat) (b.toNat - a.toNat) st)
          rw [e1, e2]
          exact .refv i' st hp
    · cases he
  · rename_i s hd hev
    rw [hd] at h7
    obtain rfl := tk_str h7
    split at he
    · rename_i a b ha hb
      injection he with he
      subst he
      obtain ⟨s0, s1, s2⟩ := hs
      refine ⟨goes_val hS fun A w φ D hsim => ?_, rfl⟩
      have hv := hsim.ev x
      rw [hev] at hv
      have hA := hv.str_inv
      have hbd := bounds_ok (P := P) (isSlice := false) (cap := s.size) hsim ha hb s0 s1 (by omega)
      refine ⟨.string (s.extract a.toNat b.toNat), ?_, .str _⟩
      simp [execOp, ho, hA, Instr.sliceAt, Instr.slice, run_underlying h2 w, hbd]
    · cases he
  · cases he

theorem goes_convert {o : Oper} {src dst : TypeId} {x : Operand} (ho : o.op = .convert src dst x) (hsrc : (ti P src).isSome = true) {e : Ef}
    (he : (match ti P dst, σ.ev x with | some ⟨_, _, _, _, .int k⟩, .int _ n => some { val := Dat.int k (k.wrap n) : Ef } | some ⟨_, _, _, _, .str⟩, .str s => some { val := .str s } | _, _ => none) = some e) (hS : ∀ j, S j → S' j) :
    Goes P X S S' o σ (σ.put o.dst e.val) ∧ e.wr = [] := by
  obtain ⟨xs, hxs⟩ := Option.isSome_iff_exists.1 hsrc
  obtain ⟨i', u', z', g1, g2, g3, g4, g5, g6, g7, g8⟩ := ti_some hxs
  split at he
  · rename_i sz by' ag ze k k' n ht hev
    obtain ⟨i, u, z, h1, h2, h3, h4, h5, h6, h7, h8⟩ := ti_some ht
    obtain rfl := tk_int h7
    injection he with he
    subst he
    refine ⟨goes_val hS fun A w φ D hsim => ?_, rfl⟩
    have hv := hsim.ev x
    rw [hev] at hv
    have hA := hv.int_inv
    refine ⟨.int k (k.wrap n), ?_, .int _ _⟩
    simp [execOp, ho, hA, convert, run_underlying g2 w, run_underlying h2 w, Conv.intToInt]
  · rename_i sz by' ag ze s ht hev
    obtain ⟨i, u, z, h1, h2, h3, h4, h5, h6, h7, h8⟩ := ti_some ht
    obtain rfl := tk_str h7
    injection he with he
    subst he
    refine ⟨goes_val hS fun A w φ D hsim => ?_, rfl⟩
    have hv := hsim.ev x
    rw [hev] at hv
    have hA := hv.str_inv
    refine ⟨.string s, ?_, .str _⟩
    cases u' <;> simp [execOp, ho, hA, convert, run_underlying g2 w, run_underlying h2 w]
  · cases he

theorem goes_makeFunc {o : Oper} {f : Fn} {first cap : Array Operand} (ho : o.op = .makeFunc f first cap) (hS : ∀ j, S j → S' j) :
    Goes P X S S' o σ (σ.put o.dst (.fn f (first.toList.map σ.ev) (cap.toList.map σ.ev))) :=
  goes_val hS fun A w φ D hsim => by
    have h1 := hsim.evs first.toList
    have h2 := hsim.evs cap.toList
    refine ⟨.func f (first.toList.map A.eval).toArray (cap.toList.map A.eval).toArray, ?_, .fn f _ _ _ _ h1.1 h2.1 h1.2 h2.2⟩
    have e : ∀ a : Array Operand, (a.toList.map A.eval).toArray = a.map A.eval := fun a => by simp [← Array.toList_map]
    simp [execOp, ho, Instr.makeFunc, e]

theorem goes_extract {o : Oper} {x : Operand} {k : Nat} (ho : o.op = .extract x k) {ds : List Dat} (he : σ.ev x = .tup ds) (hk : k < ds.length) (hS : ∀ j, S j → S' j) :
    Goes P X S S' o σ (σ.put o.dst (ds.getD k (.oth undef))) :=
  goes_val hS fun A w φ D hsim => by
    have hv := hsim.ev x
    rw [he] at hv
    obtain ⟨cs, hA, hcs⟩ := hv.tup_inv
    have hl : k < cs.length := by rw [hcs.1]; exact hk
    refine ⟨cs[k], ?_, hcs.getD (by simp)⟩
    simp [execOp, ho, hA, Instr.extract, hl]
end
end Go.Ab
