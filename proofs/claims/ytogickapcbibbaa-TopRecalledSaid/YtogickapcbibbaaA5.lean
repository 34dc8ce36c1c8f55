/- DERIVED. The abstract operations that only read are sound. No program here. -/
import Derived.Test.YtogickapcbibbaaA4
namespace Go.Ab
open Go.RowKit

theorem ti_some {P : Program} {t : TypeId} {x : TI} (h : ti P t = some x) : ∃ i u z, P.info? t = some i ∧ P.underlying t = some u ∧ i.zero = some z ∧ i.size = x.sz ∧ i.bytes = x.bytes ∧ u.isRow = x.agg ∧ tkOf u = x.d ∧ z.cells.toList.map datOf1 = x.zero := by
  unfold ti at h
  split at h
  · rename_i i u h1 h2
    split at h
    · rename_i z hz
      injection h with h
      subst h
      exact ⟨i, u, z, h1, h2, hz, rfl, rfl, rfl, rfl, rfl⟩
    · cases h
  · cases h
theorem tk_slice {u : TypeDesc} {e : Nat} (h : tkOf u = .slice e) : u = .slice e := by
  cases u <;> simp [tkOf] at h; subst h; rfl
theorem tk_int {u : TypeDesc} {k : IntKind} (h : tkOf u = .int k) : u = .int k := by
  cases u <;> simp [tkOf] at h; subst h; rfl
theorem tk_bool {u : TypeDesc} (h : tkOf u = .bool) : u = .bool := by
  cases u <;> simp [tkOf] at h; rfl
theorem tk_str {u : TypeDesc} (h : tkOf u = .str) : u = .string := by
  cases u <;> simp [tkOf] at h; rfl
theorem tk_array {u : TypeDesc} {n e : Nat} (h : tkOf u = .array n e) : u = .array n e := by
  cases u <;> simp [tkOf] at h; obtain ⟨rfl, rfl⟩ := h; rfl
theorem tk_struct {u : TypeDesc} {fs : List (Nat × Nat)} (h : tkOf u = .struct fs) : ∃ gs, u = .struct gs ∧ fs = gs.toList.map fun f => (f.offset, f.type) := by
  cases u <;> simp [tkOf] at h; exact ⟨_, rfl, h.symm⟩

section
variable {P : Program} {φ : Pl} {D : Nat → Prop} {w : World}

theorem ti_isAgg {t : TypeId} {x : TI} (h : ti P t = some x) (w : World) : (isAgg t).run P w = .ok x.agg w := by
  obtain ⟨i, u, z, h1, h2, h3, h4, h5, h6, h7, h8⟩ := ti_some h
  unfold isAgg
  rw [Sem.run_bind, run_underlying h2 w, ← h6]
  cases u <;> simp
theorem ti_sizeOf {t : TypeId} {x : TI} (h : ti P t = some x) (w : World) : (sizeOf t).run P w = .ok x.sz w := by
  obtain ⟨i, u, z, h1, h2, h3, h4, h5, h6, h7, h8⟩ := ti_some h
  simp [sizeOf, typeInfo, h1, h4]
theorem ti_under {t : TypeId} {x : TI} (h : ti P t = some x) (w : World) : ∃ u, tkOf u = x.d ∧ (underlying t).run P w = .ok u w := by
  obtain ⟨i, u, z, h1, h2, h3, h4, h5, h6, h7, h8⟩ := ti_some h
  exact ⟨u, h7, run_underlying h2 w⟩

/-- a part of an element's cells, read -/
theorem read_cut {cs : List Value} {ds : List Dat} {b o j n st : Nat} (hr : w.rangeAt b o cs) (hl : cs.length = st) (hv : RVs φ D w cs ds) (hj : j + n ≤ st) (agg : Bool) (ha : agg = false → n = 1) {t : TypeId} {x : TI} (ht : ti P t = some x) (hx : x.sz = n) (hx2 : x.agg = agg) :
    ∃ v, (loadVar t ⟨b, o + j, none⟩).run P w = .ok v w ∧ RV φ D w v (cut ds j n agg st) := by
  obtain ⟨i, u, z, h1, h2, h3, h4, h5, h6, h7, h8⟩ := ti_some ht
  cases agg with
  | true =>
    have hc : w.rangeAt b (o + j) ((cs.drop j).take n) := fun k v hk => by
      rw [List.getElem?_take] at hk
      split at hk
      · rw [List.getElem?_drop] at hk
        rw [Nat.add_assoc]; exact hr _ _ hk
      · cases hk
    have hlen : ((cs.drop j).take n).length = n := by simp; omega
    refine ⟨_, run_loadVar_mid (P := P) w b (o + j) t _ u hc h2 (by rw [h6, hx2]) (by rw [h1]; simp; omega), ?_⟩
    unfold cut
    rw [if_pos rfl]
    have hh := (hv.drop j).take n
    split
    · rename_i hjn
      obtain ⟨rfl, rfl⟩ := hjn
      have e : (cs.drop 0).take n = cs := by rw [List.drop_zero, List.take_of_length_le (by omega)]
      rw [e]
      exact .agg _ _ hv.1 hv.2
    · exact .agg _ _ hh.1 hh.2
  | false =>
    have hn := ha rfl
    subst hn
    have hj' : j < cs.length := by omega
    have hc := hr j cs[j] (by simp)
    refine ⟨cs[j], ?_, ?_⟩
    · simp [loadVar, ti_isAgg ht w, hx2, hc]
    · unfold cut
      rw [if_neg (by simp)]
      exact hv.getD (by simp)

/-- an element of a block, its cells -/
theorem Lies.el {g : Nat} {B : Blk} (h : Lies φ D w g B) {k : Nat} (hk : k < B.es.length) :
    ∃ cs : List Value, w.rangeAt g (k * B.st) cs ∧ cs.length = B.st ∧ (∀ v ∈ cs, v.oneCell' = true) ∧ RVs φ D w cs (B.es.getD k []) := by
  obtain ⟨arr, h1, h2, h3⟩ := h
  have hke : B.es[k]? = some B.es[k] := List.getElem?_eq_getElem hk
  obtain ⟨hlen, hcells⟩ := h3 k _ hke
  obtain ⟨cs, hl, hcs⟩ := choose_lt B.st (fun j v => arr[k * B.st + j]? = some v ∧ v.oneCell' = true ∧ ∀ d, (B.es[k])[j]? = some d → RV φ D w v d) (fun j hj => by
    obtain ⟨v, hv, ho, hr⟩ := hcells j _ (List.getElem?_eq_getElem (by omega))
    refine ⟨v, hv, ho, fun d hd => ?_⟩
    rw [List.getElem?_eq_getElem (by omega)] at hd
    injection hd with hd
    rw [← hd]; exact hr)
  have e : B.es.getD k [] = B.es[k] := by rw [List.getD_eq_getElem?_getD, hke]; rfl
  refine ⟨cs, fun j v hv => ?_, hl, fun v hv => ?_, ?_⟩
  · rw [cell_of_row w g _ arr _ _ h1]; exact (hcs j v hv).1
  · obtain ⟨i, hi, rfl⟩ := List.mem_iff_getElem.1 hv
    exact (hcs i _ (by simp)).2.1
  · rw [e]
    exact ⟨by rw [hl, hlen], fun i c d hc hd => (hcs i c hc).2.2 d hd⟩
end

section
variable {P : Program} {X : Cx} {S S' : Nat → Prop} {σ : St} {i : Nat}

/-- the block that an element's address, or a slice, is of -/
theorem Sim.lies {a : Act} {w : World} {φ : Pl} {D : Nat → Prop} (h : Sim X S σ a w φ D) {i g : Nat} {B : Blk} (hi : σ.h i = some B) (hp : φ i = some (some g)) : Lies φ D w g B := by
  rcases h.hs.live i B hi with ⟨h1, _⟩ | ⟨g', h1, h2, _⟩
  · rw [hp] at h1; cases h1
  · rw [hp] at h1; injection h1 with h1; injection h1 with h1; subst h1; exact h2

theorem goes_load {o : Oper} {t : TypeId} {a : Operand} (ho : o.op = .load t a) {x : TI} (ht : ti P t = some x) {e : Ef} (he : evLoad σ x (σ.ev a) = some e) (hs : e.side) (hS : ∀ j, S j → S' j) :
    Goes P X S S' o σ (σ.put o.dst e.val) ∧ e.wr = [] := by
  unfold evLoad at he
  split at he
  · rename_i i k j st hev
    split at he
    · rename_i B hB
      injection he with he
      subst he
      obtain ⟨h1, h2, h3, h4⟩ := hs
      refine ⟨goes_val hS fun A w φ D hsim => ?_, rfl⟩
      have hv := hsim.ev a
      rw [hev] at hv
      obtain ⟨g, hp, hA⟩ := hv.ptr_inv
      have hl := hsim.lies hB hp
      obtain ⟨cs, c1, c2, c3, c4⟩ := hl.el h1
      obtain ⟨v, hr, hrv⟩ := read_cut c1 c2 c4 (j := j) (n := x.sz) (by omega) x.agg h4 ht rfl rfl
      refine ⟨v, ?_, ?_⟩
      · simp only [execOp, ho, hA, Instr.loadAt, Instr.sureAddr, Sem.run_bind, Sem.run_pure, Result.andThen_ok]
        rw [← h3, hr]; rfl
      · show RV φ D w v (cut _ j x.sz x.agg st)
        rw [← h3]; exact hrv
    · cases he
  · rename_i cs j st hev
    injection he with he
    subst he
    obtain ⟨h2, h4⟩ := hs
    refine ⟨goes_val hS fun A w φ D hsim => ?_, rfl⟩
    have hv := hsim.ev a
    rw [hev] at hv
    obtain ⟨b, o', vs, hA, hl, hD, hb, hr, h1, hvs⟩ := hv.rop_inv
    obtain ⟨v, hr, hrv⟩ := read_cut hr hl hvs (j := j) (n := x.sz) (by omega) x.agg h4 ht rfl rfl
    refine ⟨v, ?_, hrv⟩
    simp only [execOp, ho, hA, Instr.loadAt, Instr.sureAddr, Sem.run_bind, Sem.run_pure, Result.andThen_ok]
    rw [hr]; rfl
  · cases he

theorem goes_fieldAddr {o : Oper} {t : TypeId} {a : Operand} {f : Nat} (ho : o.op = .fieldAddr t a f) {e : Ef} (he : evFieldAddr P t (σ.ev a) f = some e) (hs : e.side) (hS : ∀ j, S j → S' j) :
    Goes P X S S' o σ (σ.put o.dst e.val) ∧ e.wr = [] := by
  unfold evFieldAddr at he
  split at he
  · rename_i sz by' ag ze fs ht
    split at he
    · rename_i off ft hf
      obtain ⟨i, u, z, h1, h2, h3, h4, h5, h6, h7, h8⟩ := ti_some ht
      obtain ⟨gs, rfl, hfs⟩ := tk_struct h7
      have hg : ∃ fl : Field, gs[f]? = some fl ∧ fl.offset = off ∧ fl.type = ft := by
        rw [hfs, List.getElem?_map] at hf
        cases hq : gs.toList[f]? with
        | none => simp [hq] at hf
        | some fl => simp [hq] at hf; exact ⟨fl, by simpa using hq, hf.1, hf.2⟩
      obtain ⟨fl, hfl, hoff, hty⟩ := hg
      subst hoff; subst hty
      split at he
      · rename_i y i k j st hy hev
        injection he with he
        subst he
        refine ⟨goes_val hS fun A w φ D hsim => ?_, rfl⟩
        have hv := hsim.ev a
        rw [hev] at hv
        obtain ⟨g, hp, hA⟩ := hv.ptr_inv
        refine ⟨.pointer (some ⟨g, k * st + (j + fl.offset), none⟩), ?_, .ptr i g k (j + fl.offset) st hp⟩
        have hsz := ti_sizeOf hy w
        have hs' : y.sz ≠ 0 := hs
        simp only [execOp, ho, hA, Instr.fieldAt, Instr.sureAddr, Sem.run_bind, run_underlying h2 w, Result.andThen_ok, hfl, Sem.run_pure, fieldPlace, hsz]
        simp [hs', Addr.add_mid, Nat.add_assoc]
      · rename_i y cs j st hy hev
        injection he with he
        subst he
        refine ⟨goes_val hS fun A w φ D hsim => ?_, rfl⟩
        have hv := hsim.ev a
        rw [hev] at hv
        obtain ⟨b, o', vs, hA, hl, hD, hb, hr, h1, hvs⟩ := hv.rop_inv
        refine ⟨.pointer (some ⟨b, o' + (j + fl.offset), none⟩), ?_, .rop b o' _ st _ vs hvs.1 hl hD hb hr h1 hvs.2⟩
        have hsz := ti_sizeOf hy w
        have hs' : y.sz ≠ 0 := hs
        simp only [execOp, ho, hA, Instr.fieldAt, Instr.sureAddr, Sem.run_bind, run_underlying h2 w, Result.andThen_ok, hfl, Sem.run_pure, fieldPlace, hsz]
        simp [hs', Addr.add_mid, Nat.add_assoc]
      · cases he
    · cases he
  · cases he

theorem goes_indexAddr {o : Oper} {t : TypeId} {a ix : Operand} (ho : o.op = .indexAddr t a ix) {e : Ef} (he : evIndexAddr P σ t (σ.ev a) (σ.ev ix) = some e) (hs : e.side) (hS : ∀ j, S j → S' j) :
    Goes P X S S' o σ (σ.put o.dst e.val) ∧ e.wr = [] := by
  unfold evIndexAddr at he
  split at he
  · rename_i sz by' ag ze el k n ht hix
    obtain ⟨i, u, z, h1, h2, h3, h4, h5, h6, h7, h8⟩ := ti_some ht
    obtain rfl := tk_slice h7
    split at he
    · rename_i y st es hy hev
      injection he with he
      subst he
      obtain ⟨hn0, hn1, hst⟩ := hs
      refine ⟨goes_val hS fun A w φ D hsim => ?_, rfl⟩
      have hv := hsim.ev a
      rw [hev] at hv
      have hi := hsim.ev ix
      rw [hix] at hi
      have hI := hi.int_inv
      obtain ⟨A', c, hA, hc1, hc2, hel⟩ := hv.list_inv
      have hlt : n.toNat < es.length := by omega
      obtain ⟨b, o', cs, rfl, hD, hb, hr, hl, h1', hcs⟩ := hel n.toNat _ (List.getElem?_eq_getElem hlt)
      refine ⟨.pointer (some ⟨b, o' + n.toNat * st, none⟩), ?_, ?_⟩
      · have hsz := ti_sizeOf hy w
        simp only [execOp, ho, hA, hI, Instr.indexAt, asIntOf, Sem.run_bind, Sem.run_pure, Result.andThen_ok, run_underlying h2 w]
        have hcond : 0 ≤ n ∧ n < (es.length : Int) := ⟨hn0, by omega⟩
        simp [hcond, hsz, Addr.add_mid, ← hst]
      · have e1 : es.getD n.toNat [] = es[n.toNat] := by rw [List.getD_eq_getElem?_getD, List.getElem?_eq_getElem hlt]; rfl
        show RV φ D w _ (.rop (es.getD n.toNat []) 0 st)
        rw [e1]
        exact .rop b (o' + n.toNat * st) 0 st _ cs hcs.1 hl hD hb hr h1' hcs.2
    · rename_i y i off len st hy hev
      injection he with he
      subst he
      obtain ⟨hn0, hn1, hst⟩ := hs
      refine ⟨goes_val hS fun A w φ D hsim => ?_, rfl⟩
      have hv := hsim.ev a
      rw [hev] at hv
      have hi := hsim.ev ix
      rw [hix] at hi
      have hI := hi.int_inv
      generalize hva : A.eval a = va at hv
      cases hv with
      | ref _ g _ _ c _ hp hlen hc hsz =>
        refine ⟨.pointer (some ⟨g, (off + n.toNat) * st + 0, none⟩), ?_, .ptr i g (off + n.toNat) 0 st hp⟩
        have hsz := ti_sizeOf hy w
        simp only [execOp, ho, hva, hI, Instr.indexAt, asIntOf, Sem.run_bind, Sem.run_pure, Result.andThen_ok, run_underlying h2 w]
        have hcond : 0 ≤ n ∧ n < (len : Int) := ⟨hn0, by omega⟩
        simp [hcond, hsz, Addr.add_mid, ← hst, Nat.add_mul]
      | ref0 => omega
      | refv => omega
    · cases he
  · rename_i sz by' ag ze m el k n ht hix
    obtain ⟨i, u, z, h1, h2, h3, h4, h5, h6, h7, h8⟩ := ti_some ht
    obtain rfl := tk_array h7
    split at he
    · rename_i y i k j st hy hev
      injection he with he
      subst he
      obtain ⟨hn0, hn1⟩ := hs
      refine ⟨goes_val hS fun A w φ D hsim => ?_, rfl⟩
      have hv := hsim.ev a
      rw [hev] at hv
      have hi := hsim.ev ix
      rw [hix] at hi
      have hI := hi.int_inv
      obtain ⟨g, hp, hA⟩ := hv.ptr_inv
      refine ⟨.pointer (some ⟨g, k * st + (j + n.toNat * y.sz), none⟩), ?_, .ptr i g k _ st hp⟩
      have hsz := ti_sizeOf hy w
      have hcond : 0 ≤ n ∧ n < (m : Int) := ⟨hn0, by omega⟩
      simp only [execOp, ho, hA, hI, Instr.indexAt, asIntOf, Instr.sureAddr, Sem.run_bind, Sem.run_pure, Result.andThen_ok, run_underlying h2 w]
      simp [hcond, hsz, Addr.add_mid, Nat.add_assoc]
    · rename_i y cs j st hy hev
      injection he with he
      subst he
      obtain ⟨hn0, hn1⟩ := hs
      refine ⟨goes_val hS fun A w φ D hsim => ?_, rfl⟩
      have hv := hsim.ev a
      rw [hev] at hv
      have hi := hsim.ev ix
      rw [hix] at hi
      have hI := hi.int_inv
      obtain ⟨b, o', vs, hA, hl, hD, hb, hr, h1', hvs⟩ := hv.rop_inv
      refine ⟨.pointer (some ⟨b, o' + (j + n.toNat * y.sz), none⟩), ?_, .rop b o' _ st _ vs hvs.1 hl hD hb hr h1' hvs.2⟩
      have hsz := ti_sizeOf hy w
      have hcond : 0 ≤ n ∧ n < (m : Int) := ⟨hn0, by omega⟩
      simp only [execOp, ho, hA, hI, Instr.indexAt, asIntOf, Instr.sureAddr, Sem.run_bind, Sem.run_pure, Result.andThen_ok, run_underlying h2 w]
      simp [hcond, hsz, Addr.add_mid, Nat.add_assoc]
    · cases he
  · cases he
end
end Go.Ab
