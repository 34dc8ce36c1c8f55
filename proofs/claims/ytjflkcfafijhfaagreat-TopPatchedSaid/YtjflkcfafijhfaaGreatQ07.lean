import Derived.Test.YtjflkcfafijhfaaGreatQ06
import Derived.Laws.MakeOwn
set_option linter.unusedSectionVars false
/- DERIVED. Literals, make, append: sound. No program here. -/
namespace Go.Ab
open Go.RowKit
variable [Lay]
section
variable {φ φ' : Pl} {D D' : Nat → Prop} {w w' : World}
theorem fill_fold {cs : Array Value} {ds : List Dat} (h : RVs φ D w cs.toList ds) (off : Nat) : ∀ (us : List Value) (es : List Dat) (s : Nat) (cs : Array Value) (ds : List Dat), RVs φ D w cs.toList ds → RVs φ D w us es →
  RVs φ D w ((us.zipIdx s).foldl (fun cs (x : Value × Nat) => cs.setIfInBounds (off + x.2) x.1) cs).toList ((es.zipIdx s).foldl (fun l p => l.set (off + p.2) p.1) ds)
 | [], es, s, cs, ds, h, hu => by
  obtain rfl : es = [] := List.eq_nil_of_length_eq_zero hu.1.symm
  exact h
 | u :: us, es, s, cs, ds, h, hu => by
  cases es with
  | nil => have := hu.1; simp at this
  | cons e es =>
   rw [List.zipIdx_cons, List.zipIdx_cons, List.foldl_cons, List.foldl_cons]
   refine fill_fold h off us es (s + 1) _ _ ?_ ⟨by have := hu.1; simpa using this, fun i c d hc hd => hu.2 (i + 1) c d (by simpa using hc) (by simpa using hd)⟩
   rw [Array.toList_setIfInBounds]
   exact h.set _ (hu.2 0 u e rfl rfl)
theorem fill_sound {p q : Nat → Option (Nat × Nat)} (hpq : ∀ i r, q i = some r → p i = some r) : ∀ (vp : List (Nat × Value)) (dp : List (Nat × Dat)) (cs : Array Value) (ds ds' : List Dat), RVs φ D w cs.toList ds →
  vp.length = dp.length → (∀ (i : Nat) v d, vp[i]? = some v → dp[i]? = some d → v.1 = d.1 ∧ RV φ D w v.2 d.2) → fillD q ds dp = some ds' →
  ∃ cs', Instr.fill p cs vp = some cs' ∧ RVs φ D w cs'.toList ds'
 | [], dp, cs, ds, ds', h, hl, hv, hf => by
  obtain rfl : dp = [] := List.eq_nil_of_length_eq_zero hl.symm
  simp only [fillD] at hf
  injection hf with hf
  subst hf
  exact ⟨cs, rfl, h⟩
 | (i, v) :: vp, dp, cs, ds, ds', h, hl, hv, hf => by
  cases dp with
  | nil => simp at hl
  | cons d dp =>
   obtain ⟨j, d⟩ := d
   obtain ⟨hij, hr⟩ := hv 0 _ _ rfl rfl
   simp only at hij hr
   subst hij
   simp only [fillD] at hf
   split at hf
   ·cases hf
   ·rename_i off size hq
    split at hf
    ·cases hf
    ·rename_i hc
     have hp := hpq _ _ hq
     have hc1 : d.cells.length = size := by
      rcases Nat.decEq d.cells.length size with h | h
      ·exact absurd (.inl h) hc
      ·exact h
     have hc2 : off + d.cells.length ≤ ds.length := by
      rcases Nat.lt_or_ge ds.length (off + d.cells.length) with h | h
      ·exact absurd (.inr h) hc
      ·exact h
     have hcells := hr.cells
     have hs1 : v.cells.size = size := by rw [← hc1, ← hcells.1]; simp
     have hs2 : ¬ (off + v.cells.size > cs.size) := by
      have := h.1
      have := hcells.1
      simp at *
      omega
     have hfold := fill_fold h off v.cells.toList d.cells 0 cs ds h hcells
     obtain ⟨cs', h1, h2⟩ := fill_sound hpq vp dp ((v.cells.toList.zipIdx 0).foldl (fun cs (x : Value × Nat) => cs.setIfInBounds (off + x.2) x.1) cs) (setR ds off d.cells) ds' hfold (by simpa using hl)
      (fun k a b ha hb => hv (k + 1) a b (by simpa using ha) (by simpa using hb)) hf
     refine ⟨cs', ?_, h2⟩
     unfold Instr.fill
     simp only [hp]
     rw [if_neg (by simp [hs1]; omega), ← h1]
     congr 1
     rw [← Array.foldl_toList, Array.toList_zipIdx]
end
theorem mapM_some {P : Program} : ∀ (fs : List Field), (∀ f ∈ fs, (P.info? f.type).isSome = true) → fs.mapM (fun f => (P.info? f.type).map fun i => (f.offset, i.size)) = some (fs.map fun f => (f.offset, P.cellsOf f.type))
 | [], _ => by simp
 | f :: fs, h => by
  obtain ⟨i, hi⟩ := Option.isSome_iff_exists.1 (h f (by simp))
  rw [List.mapM_cons, mapM_some fs (fun g hg => h g (by simp [hg]))]
  simp [hi, Program.cellsOf]
section
variable {P : Program} {X : Cx} {S S' : Nat → Prop} {σ : St} {i : Nat}
theorem parts_rv {a : Act} {w : World} {φ : Pl} {D : Nat → Prop} (hs : Sim X S σ a w φ D) (parts : Array (Nat × Operand)) :
  (parts.map fun (i, x) => (i, a.eval x)).toList.length = (parts.toList.map fun p => (p.1, σ.ev p.2)).length ∧
  ∀ (i : Nat) v d, (parts.map fun (i, x) => (i, a.eval x)).toList[i]? = some v → (parts.toList.map fun p => (p.1, σ.ev p.2))[i]? = some d → v.1 = d.1 ∧ RV φ D w v.2 d.2 := by
 refine ⟨by simp, fun i v d hv hd => ?_⟩
 rw [Array.toList_map, List.getElem?_map] at hv
 rw [List.getElem?_map] at hd
 cases hp : parts.toList[i]? with
 | none => simp [hp] at hv
 | some p =>
  simp only [hp, Option.map_some, Option.some.injEq] at hv hd
  subst hv; subst hd
  exact ⟨rfl, hs.ev p.2⟩
theorem goes_build {o : Oper} {t : TypeId} {parts : Array (Nat × Operand)} (ho : o.op = .build t parts) {e : Ef} (he : evOp P σ i o.op = some e) (hs : e.side) (hS : ∀ j, S j → S' j) :
  Goes P X S S' o σ (σ.put o.dst e.val) ∧ e.wr = [] := by
 rw [ho] at he
 simp only [evOp] at he
 split at he
 ·rename_i sz by' ag ze fs ht
  obtain ⟨it, u, z, h1, h2, h3, h4, h5, h6, h7, h8⟩ := ti_some ht
  obtain ⟨gs, rfl, hfs⟩ := tk_struct h7
  simp only at h8
  split at he
  ·rename_i ds hf
   injection he with he
   subst he
   refine ⟨goes_val hS fun a w φ D hsim => ?_, rfl⟩
   have hz : RVs φ D w z.cells.toList ze := by rw [← h8]; exact RVs_map fun v _ => RV_datOf1 v
   have hinfo : ∀ f ∈ gs.toList, (P.info? f.type).isSome = true := fun f hf => by
    have := hs (f.offset, f.type) (by rw [hfs]; exact List.mem_map.2 ⟨f, hf, rfl⟩)
    obtain ⟨y, hy⟩ := Option.isSome_iff_exists.1 this
    obtain ⟨i', _, _, g1, _⟩ := ti_some hy
    rw [g1]; rfl
   obtain ⟨hl, hp⟩ := parts_rv hsim parts
   obtain ⟨cs', hc, hr⟩ := fill_sound (p := ((gs.toList.map fun f => (f.offset, P.cellsOf f.type)).toArray[·]?)) (fun k r hk => by
    rw [hfs, List.getElem?_map] at hk
    cases hq : gs.toList[k]? with
    | none => simp [hq] at hk
    | some f =>
     simp only [hq, Option.map_some] at hk
     split at hk
     ·rename_i y hy
      injection hk with hk
      subst hk
      obtain ⟨i', _, _, g1, _, _, g4, _⟩ := ti_some hy
      rw [List.getElem?_toArray, List.getElem?_map, hq]
      simp [Program.cellsOf, g1, g4]
     ·cases hk) _ _ z.cells ze ds hz hl hp hf
   refine ⟨.agg cs', ?_, ?_⟩
   ·have hb : P.built t (parts.map fun (i, x) => (i, a.eval x)).toList = some cs' := by
     unfold Program.built
     simp only [h1, h2, h3, mapM_some _ hinfo, hc]
    simp only [execOp, ho, Sem.run_bind, run_build w t _ cs' hb, Result.andThen_ok, Sem.run_pure]
   ·have := RV.agg cs'.toList ds hr.1 hr.2
    simpa using this
  ·cases he
 ·rename_i sz by' ag ze n el ht
  obtain ⟨it, u, z, h1, h2, h3, h4, h5, h6, h7, h8⟩ := ti_some ht
  obtain rfl := tk_array h7
  simp only at h8
  split at he
  ·rename_i y hy
   obtain ⟨i', _, _, g1, _, _, g4, _⟩ := ti_some hy
   split at he
   ·rename_i ds hf
    injection he with he
    subst he
    refine ⟨goes_val hS fun a w φ D hsim => ?_, rfl⟩
    have hz : RVs φ D w z.cells.toList ze := by rw [← h8]; exact RVs_map fun v _ => RV_datOf1 v
    obtain ⟨hl, hp⟩ := parts_rv hsim parts
    obtain ⟨cs', hc, hr⟩ := fill_sound (p := fun i => some (i * i'.size, i'.size)) (fun k r hk => by rw [g4]; exact hk) _ _ z.cells ze ds hz hl hp hf
    refine ⟨.agg cs', ?_, ?_⟩
    ·have hb : P.built t (parts.map fun (i, x) => (i, a.eval x)).toList = some cs' := by
      unfold Program.built
      simp only [h1, h2, h3, g1, hc]
     simp only [execOp, ho, Sem.run_bind, run_build w t _ cs' hb, Result.andThen_ok, Sem.run_pure]
    ·have := RV.agg cs'.toList ds hr.1 hr.2
     simpa using this
   ·cases he
  ·cases he
 ·cases he
theorem goes_row {o : Oper} {e st n c : Nat} {es : List (List Dat)} (hn : ¬ S i) (hS : ∀ j, S j → S' j) (hS' : S' i) (hnc : n ≤ c) (hc : c ≤ maxLen)
  (h : ∀ a w φ D, Sim X S σ a w φ D → ∃ (cells : Array Value) (vs : List Value), (execOp a.eval o).run P w = .ok (.value (.slice (some ⟨w.heap.size, 0, none⟩) n c)) (w.alloc (.cells cells e)) ∧ Rws φ D w vs es st ∧ (∀ (j : Nat) u, vs[j]? = some u → cells[j]? = some u) ∧ cells.size = c * st) :
  Goes P X S S' o σ (σ.app o.dst { val := .ref (σ.n + i) 0 n st, wr := [(σ.n + i, some ⟨e, st, false, es⟩)] }) := by
 intro a w φ D hs K Q hK
 obtain ⟨cells, vs, hr, hv, hp, hsz⟩ := h a w φ D hs
 unfold Oper.wp
 rw [hr, Oper.upon_value]
 have hfr := hs.hs.fresh (σ.n + i) (by omega) (by rw [Nat.add_sub_cancel_left]; exact hn)
 have hle := PlLe.upd (φ := φ) hfr (some w.heap.size)
 have hrw : Rws (upd φ (σ.n + i) (some (some w.heap.size))) D (w.alloc (.cells cells e)) vs es st := hv.keep hle (fun _ h _ => h) (Ext.alloc _ _ _)
 have hnew := hs.hs.new (S' := S') (i := σ.n + i) (g := w.heap.size) (row := none) (B := ⟨e, st, false, es⟩) (by omega) (by rw [Nat.add_sub_cancel_left]; exact hn) hS (by rw [Nat.add_sub_cancel_left]; exact hS')
  (Chg.alloc w (.cells cells e)) (fun r hr => by cases hr) (.inl (Nat.le_refl _)) (hrw.lies (heap_alloc_new w _) hp) rfl
 refine hK _ _ _ _ (hs.step hnew hle (fun _ h _ => h) (Ext.alloc _ _ _) ?_)
 have := RV.ref (φ := upd φ (σ.n + i) (some (some w.heap.size))) (D := D) (w := w.alloc (.cells cells e)) (σ.n + i) w.heap.size 0 n c st (upd_same _ _ _) hnc hc ⟨e, by unfold World.shape?; rw [heap_alloc_new]; simp [hsz]⟩
 simpa using this
theorem flatRows {φ : Pl} {D : Nat → Prop} {w : World} {st : Nat} : ∀ (vs : List Value) (ds : List Dat), RVs φ D w vs ds → (∀ d ∈ ds, d.cells.length = st ∧ allOne d.cells = true) →
  Rws φ D w (vs.flatMap fun v => v.cells.toList) (ds.map Dat.cells) st
 | [], ds, h, _ => by
  obtain rfl : ds = [] := List.eq_nil_of_length_eq_zero h.1.symm
  exact .nil
 | v :: vs, [], h, _ => by have := h.1; simp at this
 | v :: vs, d :: ds, h, hd => by
  have hv : RV φ D w v d := h.2 0 v d rfl rfl
  obtain ⟨h1, h2⟩ := hd d (by simp)
  have hr := Rws.one_row hv.cells h1 (hv.cells.one h2)
  have := hr.append (flatRows vs ds ⟨by have := h.1; simpa using this, fun i a b ha hb => h.2 (i + 1) a b (by simpa using ha) (by simpa using hb)⟩ (fun e he => hd e (by simp [he])))
  simpa using this
theorem goes_buildSlice {o : Oper} {t : TypeId} {len : Nat} {parts : Array (Nat × Operand)} (ho : o.op = .buildSlice t len parts) {e : Ef} (he : evOp P σ i o.op = some e) (hs : e.side) (hn : ¬ S i) (hS : ∀ j, S j → S' j) (hS' : S' i) :
  Goes P X S S' o σ (σ.app o.dst e) := by
 rw [ho] at he
 simp only [evOp] at he
 split at he
 ·rename_i sz by' ag ze el ht
  obtain ⟨it, u, z, h1, h2, h3, h4, h5, h6, h7, h8⟩ := ti_some ht
  obtain rfl := tk_slice h7
  split at he
  ·rename_i y hy
   obtain ⟨ie, ue, z', g1, g2, g3, g4, g5, g6, g7, g8⟩ := ti_some hy
   injection he with he
   subst he
   obtain ⟨s1, s2, s3, s4⟩ := hs
   have hlen : parts.toList.length = len := by
    have := congrArg List.length s1
    simpa using this
   have hcap : len ≤ maxLen ∨ y.sz = 0 := by
    rcases Nat.eq_zero_or_pos y.sz with h | h
    ·exact .inr h
    ·left
     have : len ≤ len * y.sz := Nat.le_mul_of_pos_right _ h
     unfold maxLen; omega
   by_cases hsz0 : y.sz = 0
   ·-- elements without cells: not served
    exact absurd hsz0 (by
     intro h0
     exact False.elim (s4.2 h0))
   ·refine goes_row hn hS hS' (n := len) (c := len) (Nat.le_refl _) (hcap.resolve_right hsz0) fun a w φ D hsim => ?_
    have hvs : ((parts.map fun (i, x) => (i, a.eval x)).toList) = ((parts.toList.map fun p => a.eval p.2).zipIdx 0).map fun x => (x.2, x.1) := by
     rw [Array.toList_map]
     apply List.ext_getElem?
     intro k
     simp only [List.getElem?_map, List.getElem?_zipIdx]
     have hk : (parts.toList.map (·.1))[k]? = (List.range len)[k]? := by rw [s1]
     rw [List.getElem?_map] at hk
     cases hp : parts.toList[k]? with
     | none => simp
     | some p =>
      have hlt : k < len := by rw [← hlen]; exact (List.getElem?_eq_some_iff.1 hp).1
      rw [hp, List.getElem?_range hlt] at hk
      simp at hk
      simp [hk]
    have hparts : RVs φ D w (parts.toList.map fun p => a.eval p.2) (parts.toList.map fun p => σ.ev p.2) := by
     have := hsim.evs (parts.toList.map (·.2))
     simpa [List.map_map, Function.comp_def] using this
    have hsizes : ∀ v ∈ (parts.toList.map fun p => a.eval p.2), v.cells.size = y.sz := fun v hv => by
     obtain ⟨p, hp, rfl⟩ := List.mem_map.1 hv
     have := (hsim.ev p.2).cells.1
     rw [(s4.1 p hp).1] at this
     simpa using this
    have hrw := flatRows _ _ hparts (st := y.sz) (fun d hd => by obtain ⟨p, hp, rfl⟩ := List.mem_map.1 hd; exact s4.1 p hp)
    refine ⟨((parts.toList.map fun p => a.eval p.2).flatMap fun v => v.cells.toList).toArray, _, ?_, by simpa [List.map_map, Function.comp_def] using hrw, fun j u hu => by simpa using hu, ?_⟩
    ·by_cases h0 : len * ie.size = 0
     ·have hl0 : len = 0 := by
       rcases Nat.mul_eq_zero.1 h0 with h | h
       ·exact h
       ·omega
      subst hl0
      have hp0 : parts = #[] := by
       have : parts.toList = [] := List.eq_nil_of_length_eq_zero hlen
       simpa using this
      subst hp0
      simp [execOp, ho, Instr.buildSlice, run_underlying h2 w, sizeOf, typeInfo, g1, newRow, Instr.fill, Array.range_zero']
     ·have hrun := run_buildSlice (P := P) w t el len (parts.map fun (i, x) => (i, a.eval x)) ((parts.toList.map fun p => a.eval p.2).flatMap fun v => v.cells.toList).toArray ie z' h2 g1 g3 (by rw [g4]; omega) h0 (by
       rw [hvs, g4]
       exact Great.fill_whole (by omega) _ _ hsizes (by simp [hlen]))
      simp only [execOp, ho, Sem.run_bind, hrun, Result.andThen_ok, Sem.run_pure]
    ·have := hrw.len
     simp only [List.length_map] at this
     simp only [List.size_toArray]
     rw [this, hlen]
  ·cases he
 ·cases he
theorem goes_makeSlice {o : Oper} {t : TypeId} {l c : Operand} (ho : o.op = .makeSlice t l c) {e : Ef} (he : evOp P σ i o.op = some e) (hs : e.side) (hn : ¬ S i) (hS : ∀ j, S j → S' j) (hS' : S' i) :
  Goes P X S S' o σ (σ.app o.dst e) := by
 rw [ho] at he
 simp only [evOp] at he
 split at he
 ·rename_i sz by' ag ze el ht
  obtain ⟨it, u, z, h1, h2, h3, h4, h5, h6, h7, h8⟩ := ti_some ht
  obtain rfl := tk_slice h7
  split at he
  ·rename_i y kl a kc b hy hl hc
   obtain ⟨ie, ue, z', g1, g2, g3, g4, g5, g6, g7, g8⟩ := ti_some hy
   injection he with he
   subst he
   obtain ⟨s0, rfl, s2, s3, s4, s5, s6⟩ := hs
   refine goes_row hn hS hS' (n := a.toNat) (c := a.toNat) (Nat.le_refl _) (by unfold maxLen; omega) fun A w φ D hsim => ?_
   have hL := hsim.ev l
   rw [hl] at hL
   have hC := hsim.ev c
   rw [hc] at hC
   have hz : RVs φ D w z'.cells.toList y.zero := by rw [← g8]; exact RVs_map fun v _ => RV_datOf1 v
   have hzsz : z'.cells.size = y.sz := by have := hz.1; rw [s4] at this; simpa using this
   have hrun := run_make (P := P) w t el ie z' h2 g1 g3 kl kc a a s0 (Int.le_refl _) (by rw [g5]; exact s2) s3
   have hrep : ∀ n, Rws φ D w (List.replicate n z'.cells.toList).flatten (List.replicate n y.zero) y.sz := fun n => by
    induction n with
    | zero => exact .nil
    | succ n ih =>
     rw [List.replicate_succ, List.replicate_succ, List.flatten_cons]
     exact (Rws.one_row hz s4 (hz.one s6)).append ih
   refine ⟨madeCells z'.cells (a.toNat * ie.size), _, ?_, hrep a.toNat, fun j u hu => ?_, by rw [size_madeCells, g4]⟩
   ·simp only [execOp, ho, hL.int_inv, hC.int_inv, Sem.run_bind, hrun, Result.andThen_ok, Sem.run_pure]
   ·have hj : j < a.toNat * y.sz := by
     have := (List.getElem?_eq_some_iff.1 hu).1
     rw [(hrep a.toNat).len] at this
     simpa using this
    have hget : ∀ n j u, (List.replicate n z'.cells.toList).flatten[j]? = some u → z'.cells.toList[j % y.sz]? = some u := fun n => by
     induction n with
     | zero => intro j u h; simp at h
     | succ n ih =>
      intro j u h
      rw [List.replicate_succ, List.flatten_cons] at h
      have hzl : z'.cells.toList.length = y.sz := by simpa using hzsz
      rcases Nat.lt_or_ge j y.sz with hlt | hge
      ·rw [List.getElem?_append_left (by omega)] at h
       rw [Nat.mod_eq_of_lt hlt]; exact h
      ·rw [List.getElem?_append_right (by omega), hzl] at h
       have := ih _ _ h
       rw [Nat.mod_eq_sub_mod hge]; exact this
    have h1 := hget _ _ _ hu
    have hm : j % y.sz < z'.cells.size := by rw [hzsz]; exact Nat.mod_lt _ s5
    have h2 : z'.cells[j % y.sz]? = some u := by simpa using h1
    rw [Array.getElem?_eq_getElem hm] at h2
    injection h2 with h2
    unfold madeCells
    rw [Array.getElem?_map, Array.getElem?_eq_getElem (by simp; rw [g4]; exact hj)]
    simp only [Array.getElem_range, Option.map_some, hzsz]
    rw [getElem!_pos z'.cells (j % y.sz) hm, h2]
  ·cases he
 ·cases he
theorem mmStep_inv {isMax : Bool} {d y m : Dat} (h : mmStep isMax (some d) y = some m) : ∃ k p k' q, d = .int k p ∧ y = .int k' q ∧ m = .int k (if isMax then (if q > p then q else p) else (if q < p then q else p)) := by
 cases d <;> cases y <;> simp only [mmStep, reduceCtorEq, Option.some.injEq] at h
 exact ⟨_, _, _, _, rfl, rfl, h.symm⟩
theorem goes_minMax {o : Oper} {isMax : Bool} {args : Array Operand} {ats : Array TypeId} (ho : o.op = .call { callee := .builtin (if isMax then .max else .min), args, argTypes := ats }) {v : Dat}
  (he : minMax isMax (args.toList.map σ.ev) = some v) (hS : ∀ j, S j → S' j) : Goes P X S S' o σ (σ.put o.dst v) :=
 goes_val hS fun A w φ D hsim => by
  have hargs := hsim.evs args.toList
  have key : ∀ (ds : List Dat) (vs : List Value) (d : Dat) (u : Value), RVs φ D w vs ds → RV φ D w u d → ds.foldl (mmStep isMax) (some d) = some v → ds ≠ [] → ∃ u', (vs.foldlM (if isMax then Builtin.max2 else Builtin.min2) u).run P w = .ok u' w ∧ RV φ D w u' v := by
   intro ds
   induction ds with
   | nil => intro vs d u _ _ _ h; exact absurd rfl h
   | cons y ds ih =>
    intro vs d u hvs hu hf _
    obtain ⟨v1, vs, rfl, hv1, hvs'⟩ := hvs.cons_inv
    rw [List.foldl_cons] at hf
    have hnone : ∀ l : List Dat, l.foldl (mmStep isMax) none = none := by intro l; induction l with | nil => rfl | cons a l ih => rw [List.foldl_cons]; exact ih
    cases hm : mmStep isMax (some d) y with
    | none => rw [hm, hnone] at hf; cases hf
    | some m =>
     rw [hm] at hf
     obtain ⟨k, p, k', q, rfl, rfl, rfl⟩ := mmStep_inv hm
     ·have e1 := hu.int_inv
      have e2 := hv1.int_inv
      subst e1; subst e2
      have hstep : ((if isMax then Builtin.max2 else Builtin.min2) (.int k p) (.int k' q)).run P w = .ok (.int k (if isMax then (if q > p then q else p) else (if q < p then q else p))) w := by
       cases isMax <;> simp [Builtin.max2, Builtin.min2]
      by_cases hds : ds = []
      ·subst hds
       obtain rfl := hvs'.nil_inv
       simp only [List.foldl_nil, Option.some.injEq] at hf
       subst hf
       refine ⟨_, ?_, .int _ _⟩
       simp only [List.foldlM_cons, List.foldlM_nil, Sem.run_bind, hstep, Result.andThen_ok, Sem.run_pure]
      ·obtain ⟨u', h1, h2⟩ := ih vs _ _ hvs' (.int k _) hf hds
       refine ⟨u', ?_, h2⟩
       simp only [List.foldlM_cons, Sem.run_bind, hstep, Result.andThen_ok, h1]
  cases hl : args.toList.map σ.ev with
  | nil => rw [hl] at he; simp [minMax] at he
  | cons d ds =>
   rw [hl] at he hargs
   obtain ⟨u, vs, hvs, hu, hrest⟩ := hargs.cons_inv
   simp only [minMax] at he
   have hmap : (args.map A.eval).toList = u :: vs := by rw [Array.toList_map]; exact hvs
   by_cases hds : ds = []
   ·subst hds
    obtain rfl := hrest.nil_inv
    simp at he
    subst he
    refine ⟨u, ?_, hu⟩
    cases isMax <;> simp [execOp, ho, resolve, invoke, builtin, Builtin.max_, Builtin.min_, hvs]
   ·obtain ⟨u', h1, h2⟩ := key ds vs d u hrest hu he hds
    refine ⟨u', ?_, h2⟩
    cases isMax <;> simp [execOp, ho, resolve, invoke, builtin, Builtin.max_, Builtin.min_, hvs] <;> simp at h1 <;> rw [h1] <;> rfl
end
end Go.Ab
/- DERIVED. append, and all operations together. No program here. -/
namespace Go.Ab
open Go.RowKit
variable [Lay]
theorem St.app_nil' {σ : St} {dst : Option Tmp} {e : Ef} (h : e.wr = [] := by rfl) : σ.app dst e = σ.put dst e.val := by
 unfold St.app
 rw [h]
 simp only [wrs]
 have := St.put_h σ dst e.val
 cases hq : σ.put dst e.val
 rw [hq] at this
 simp at this
 simp [this]
theorem flatten_at {α : Type} {n : Nat} : ∀ (ess : List (List α)) (_ : ∀ es ∈ ess, es.length = n) (i : Nat) (es : List α) (_ : ess[i]? = some es) (j : Nat) (_ : j < n), ess.flatten[i * n + j]? = es[j]?
 | [], _, _, _, h, _, _ => by simp at h
 | e :: ess, hl, 0, es, h, j, hj => by
  simp at h; subst h
  have : j < e.length := by rw [hl e (by simp)]; exact hj
  rw [Nat.zero_mul, Nat.zero_add, List.flatten_cons, List.getElem?_append_left this]
 | e :: ess, hl, i + 1, es, h, j, hj => by
  have he : e.length = n := hl e (by simp)
  rw [List.flatten_cons, List.getElem?_append_right (by rw [he, Nat.succ_mul]; omega), he]
  have := flatten_at ess (fun es hes => hl es (by simp [hes])) i es (by simpa using h) j hj
  rw [← this]; congr 1; rw [Nat.succ_mul]; omega
theorem flatten_len {α : Type} {n : Nat} : ∀ (ess : List (List α)) (_ : ∀ es ∈ ess, es.length = n), ess.flatten.length = ess.length * n
 | [], _ => by simp
 | e :: ess, hl => by rw [List.flatten_cons, List.length_append, flatten_len ess (fun es hes => hl es (by simp [hes])), hl e (by simp), List.length_cons, Nat.succ_mul]; omega
theorem flatten_cell {α : Type} {n : Nat} (hn : 0 < n) (ess : List (List α)) (hl : ∀ es ∈ ess, es.length = n) (j : Nat) (u : α) (h : ess.flatten[j]? = some u) : ∃ es, ess[j / n]? = some es ∧ es[j % n]? = some u := by
 have hj : j < ess.length * n := by rw [← flatten_len ess hl]; exact (List.getElem?_eq_some_iff.1 h).1
 have hi : j / n < ess.length := (Nat.div_lt_iff_lt_mul hn).2 hj
 refine ⟨ess[j / n], List.getElem?_eq_getElem hi, ?_⟩
 rw [← flatten_at ess hl (j / n) _ (List.getElem?_eq_getElem hi) (j % n) (Nat.mod_lt _ hn)]
 have : j / n * n + j % n = j := by rw [Nat.mul_comm]; exact Nat.div_add_mod j n
 rw [this]; exact h
section
variable {φ : Pl} {D : Nat → Prop} {w : World} {st : Nat}
theorem Rws.drop {vs : List Value} {es : List (List Dat)} (h : Rws φ D w vs es st) (n : Nat) : Rws φ D w (vs.drop (n * st)) (es.drop n) st where
 len := by rw [List.length_drop, List.length_drop, h.len, Nat.sub_mul]
 one := fun v hv => h.one v (List.mem_of_mem_drop hv)
 el := fun k e he => by
  rw [List.getElem?_drop] at he
  refine ⟨(h.el _ e he).1, fun j d hd => ?_⟩
  obtain ⟨u, hu, hr⟩ := (h.el _ e he).2 j d hd
  refine ⟨u, ?_, hr⟩
  rw [List.getElem?_drop, ← hu]; congr 1; rw [Nat.add_mul]; omega
end
section
variable {P : Program} {X : Cx} {S S' : Nat → Prop} {σ : St} {i : Nat}
theorem src_rows {a : Act} {w : World} {φ : Pl} {D : Nat → Prop} (hs : Sim X S σ a w φ D) {x : Dat} {v : Value} (hv : RV φ D w v x) {sz : Nat} (hsz : 0 < sz) {xs : List (List Dat)} {r : List Nat} {p : Prop} (he : elems σ sz x = some (xs, r, p)) (hp : p) :
  ∃ A m c news, v = .slice A m c ∧ m = xs.length ∧ Rws φ D w news xs sz ∧ ∀ (j : Nat) u, news[j]? = some u → ∃ ad, A = some ad ∧ w.cell? (ad.add j) = some u := by
 unfold elems at he
 split at he
 ·simp only [Option.some.injEq, Prod.mk.injEq] at he
  obtain ⟨rfl, rfl, rfl⟩ := he
  exact ⟨none, 0, 0, [], hv.nil_inv, rfl, .nil, fun j u h => by simp at h⟩
 ·rename_i st es
  simp only [Option.some.injEq, Prod.mk.injEq] at he
  obtain ⟨rfl, rfl, rfl⟩ := he
  subst hp
  cases hv with
  | list0 A c _ hc => exact ⟨A, 0, c, [], rfl, rfl, .nil, fun j u h => by simp at h⟩
  | list b o c _ _ cs hl hc hc2 hD hb hr hs hes h1 h =>
   refine ⟨_, _, c, cs.flatten, rfl, rfl, ⟨?_, fun v hv => ?_, fun k e he => ⟨hes e (List.mem_of_getElem? he), fun j d hd => ?_⟩⟩, fun j u hu => ⟨_, rfl, ?_⟩⟩
   ·rw [flatten_len cs hs, hl]
   ·obtain ⟨c', hc', hvc⟩ := List.mem_flatten.1 hv
    obtain ⟨q, hq, rfl⟩ := List.mem_iff_getElem.1 hc'
    exact h1 q _ (by simp) v hvc
   ·have hk : k < cs.length := by rw [hl]; exact (List.getElem?_eq_some_iff.1 he).1
    have hj : j < st := by rw [← hes e (List.mem_of_getElem? he)]; exact (List.getElem?_eq_some_iff.1 hd).1
    have hck : cs[k]? = some cs[k] := by simp
    have hcl : (cs[k]).length = st := hs _ (List.getElem_mem hk)
    refine ⟨(cs[k])[j]'(by omega), ?_, h k _ e hck he j _ d (by simp) hd⟩
    rw [flatten_at cs hs k _ hck j hj]; simp
   ·obtain ⟨es', h3, h4⟩ := flatten_cell hsz cs hs j u hu
    have := hr _ _ h3 _ u h4
    rw [Addr.add_mid]
    have e1 : o + j = o + j / st * st + j % st := by
     have := Nat.div_add_mod j st
     rw [Nat.mul_comm] at this; omega
    rw [e1]; exact this
 ·rename_i i' off len st
  split at he
  ·rename_i B hB
   simp only [Option.some.injEq, Prod.mk.injEq] at he
   obtain ⟨rfl, rfl, rfl⟩ := he
   obtain ⟨p1, p2, p3⟩ := hp
   have hxs : (if off = 0 ∧ len = B.es.length then B.es else (B.es.drop off).take len) = (B.es.drop off).take len := by
    split
    ·rename_i hc
     rw [hc.1, hc.2]; simp
    ·rfl
   rw [hxs]
   have hlen : ((B.es.drop off).take len).length = len := by simp; omega
   cases hv with
   | ref _ g _ _ c _ hφ hlc hc hshape =>
    have hl := hs.lies hB hφ
    obtain ⟨arr, a1, a2⟩ := hl.rows (n := off + len) p3 (by omega)
    have a3 := a2.drop off
    rw [p2] at a3
    have e1 : (B.es.take (off + len)).drop off = (B.es.drop off).take len := by
     rw [List.drop_take]; congr 1; omega
    rw [e1] at a3
    have hst : st = sz := p1
    subst hst
    refine ⟨_, _, c, _, rfl, hlen.symm, a3, fun j u hu => ⟨_, rfl, ?_⟩⟩
    rw [Addr.add_mid, cell_of_row w g _ arr _ _ a1]
    rw [List.getElem?_drop, List.getElem?_take] at hu
    split at hu
    ·simpa using hu
    ·cases hu
   | ref0 _ _ _ A h0 => exact ⟨A, 0, 0, [], rfl, by rw [hlen], by rw [List.take_zero]; exact .nil, fun j u h => by simp at h⟩
   | refv _ _ hφ => exact ⟨none, 0, 0, [], rfl, by rw [hlen], by rw [List.take_zero]; exact .nil, fun j u h => by simp at h⟩
  ·cases he
 ·cases he
theorem bytesD_news {φ : Pl} {D : Nat → Prop} {w : World} : ∀ {es : List (List Dat)} {xs : List Int} {news : List Value}, bytesD es = some xs → Rws φ D w news es 1 → news = xs.map (Value.int .u8)
 | [], xs, news, h, r => by
  have hl := r.len
  simp [bytesD] at h; subst h
  simpa using hl
 | e :: es, xs, news, h, r => by
  unfold bytesD at h
  split at h
  ·rename_i e1; cases e1
  ·rename_i n l e1
   injection e1 with e1 e2; subst e1; subst e2
   split at h
   ·rename_i ys hys
    injection h with h; subst h
    obtain ⟨u, hu, hr⟩ := (r.el 0 _ rfl).2 0 _ rfl
    have hd := r.drop 1
    simp only [List.drop_succ_cons, List.drop_zero, Nat.mul_one] at hd
    have ih := bytesD_news hys hd
    cases news with
    | nil => simp at hu
    | cons v vs =>
     simp at hu; subst hu
     have : v = .int .u8 n := hr.int_inv
     subst this
     simp only [List.drop_succ_cons, List.drop_zero] at ih
     rw [ih]; rfl
   ·cases h
  ·cases h
theorem goes_bytes {o : Oper} {src dst : TypeId} {x : Operand} (ho : o.op = .convert src dst x) {y z : TI} (hsrc : ti P src = some y) (hdst : ti P dst = some z) (hz : z.d = .str) {e : Ef} (he : evToStr P σ y.d (σ.ev x) = some e) (hne : ∀ s, σ.ev x ≠ .str s) (hs : e.side) (hS : ∀ j, S j → S' j) :
  Goes P X S S' o σ (σ.put o.dst e.val) ∧ e.wr = [] := by
 obtain ⟨sz', by', ag, ze, d⟩ := y
 obtain ⟨sz2, by2, ag2, ze2, d2⟩ := z
 simp only at hz; subst hz
 obtain ⟨i, u, z, h1, h2, h3, h4, h5, h6, h7, h8⟩ := ti_some hsrc
 obtain ⟨i2, u2, z2, k1, k2, k3, k4, k5, k6, k7, k8⟩ := ti_some hdst
 obtain rfl := tk_str k7
 unfold evToStr at he
 split at he
 ·rename_i s hev; exact absurd hev (hne s)
 ·split at he
  ·rename_i el hd
   simp only at hd; subst hd
   obtain rfl := tk_slice h7
   split at he
   ·rename_i sz3 by3 ag3 ze3 es r p hel hes
    obtain ⟨i3, u3, z3, l1, l2, l3, l4, l5, l6, l7, l8⟩ := ti_some hel
    obtain rfl := tk_int l7
    split at he
    ·rename_i xs hxs
     injection he with he
     subst he
     refine ⟨goes_val hS fun A w φ D hsim => ?_, rfl⟩
     have hv := hsim.ev x
     obtain ⟨AA, m, c, news, hA, hm, hrows, hcell⟩ := src_rows hsim hv (by decide) hes hs
     have hnews := bytesD_news hxs hrows
     refine ⟨.string (strOfNums xs), ?_, .str _⟩
     have hconv : (convert src dst (.slice AA m c)).run P w = .ok (.string (strOfNums xs)) w := by
      cases AA with
      | none =>
       have : xs = [] := by
        cases xs with
        | nil => rfl
        | cons a l => obtain ⟨ad, had, _⟩ := hcell 0 (.int .u8 a) (by rw [hnews]; rfl); cases had
       subst this
       exact run_convert_bytes_nil w src el h2 l2 m c dst k2
      | some ad =>
       have hlen : xs.length = m := by
        have := hrows.len
        rw [hnews, List.length_map, Nat.mul_one] at this
        rw [hm, this]
       have hl : (loadCells ad m).run P w = .ok (xs.map (Value.int .u8)).toArray w := by
        have := run_loadCells_list (P := P) w ad (xs.map (Value.int .u8)) (fun j v hj => by
         obtain ⟨ad', had, hc⟩ := hcell j v (by rw [hnews]; exact hj)
         injection had with had; subst had; exact hc)
        simpa [hlen] using this
       rw [run_convert_bytes_string w src dst el _ m c h2 l2 k2, run_bytesToString w ad m c xs hl, foldl_push_bytes]
       simp [strOfNums, ByteArray.empty, ByteArray.emptyWithCapacity]
       rfl
     simp only [execOp, ho, hA, Sem.run_bind, hconv, Result.andThen_ok, Sem.run_pure]
    ·cases he
   ·cases he
  ·cases he
theorem run_app0 {w : World} {t ty e : TypeId} {y : TI} (ht : P.underlying t = some (.slice e)) (hy : ti P e = some y) (base A : Option Addr) (n cap c : Nat) (h : n ≤ cap) :
  (Builtin.append_ #[t, t] ty #[.slice base n cap, .slice A 0 c]).run P w = .ok (.slice base n cap) w := by
 have hsz := ti_sizeOf hy w
 cases A <;> cases base <;> simp [Builtin.append_, run_underlying ht, hsz, Builtin.lenOf, Builtin.firstCells, h, loadCells, loadCellsFrom, storeCells]
theorem run_app {o : Oper} {s x : Operand} {t : TypeId} {a : Act} {w w' : World} {v : Value} (ho : o.op = .call { callee := .builtin .append, args := #[s, x], argTypes := #[t, t] })
  (h : (Builtin.append_ #[t, t] o.type #[a.eval s, a.eval x]).run P w = .ok v w') : (execOp a.eval o).run P w = .ok (.value v) w' := by
 unfold execOp
 simp only [ho, resolve, invoke, builtin, Sem.run_bind, Sem.run_pure, Result.andThen_ok, List.map_toArray, List.map_cons, List.map_nil]
 rw [h]; rfl
theorem HS.rows {h : Nat → Option Blk} {n : Nat} {w : World} {φ : Pl} {D : Nat → Prop} (H : HS X S h n w φ D) {i g : Nat} {B : Blk} (hi : h i = some B) (hp : φ i = some (some g)) (hf : B.fz = false) (hst : 0 < B.st) {k : Nat} {news : List Value} {xs : List (List Dat)} (hx : Rws φ D w news xs B.st) (hk : k + xs.length ≤ B.es.length)
  {arr : Array Value} (l1 : w.heap[g]? = some (.cells arr B.e (0, 0))) :
  HS X S (upd h i (some { B with es := B.es.take k ++ xs ++ B.es.drop (k + xs.length) })) n (w.setRow g (arr.toList.take (k * B.st) ++ news ++ arr.toList.drop (k * B.st + news.length)).toArray) φ D ∧
   Ext D w (w.setRow g (arr.toList.take (k * B.st) ++ news ++ arr.toList.drop (k * B.st + news.length)).toArray) := by
 have hl : Lies φ D w g B ∧ ¬ D g := by
  rcases H.live i B hi with ⟨q, _⟩ | ⟨g', q, q2, _, q4⟩
  ·rw [hp] at q; cases q
  ·rw [hp] at q; injection q with q; injection q with q; subst q; exact ⟨q2, (q4 hf).1⟩
 obtain ⟨hl, hnD⟩ := hl
 have hl0 := hl
 obtain ⟨arr', l1', l2, _⟩ := hl0
 rw [l1] at l1'
 injection l1' with l1'; injection l1' with l1'
 subst l1'
 have hkl : k * B.st + news.length ≤ arr.size := by
  rw [hx.len, ← Nat.add_mul]
  exact Nat.le_trans (Nat.mul_le_mul_right _ hk) l2
 have hsize : (arr.toList.take (k * B.st) ++ news ++ arr.toList.drop (k * B.st + news.length)).toArray.size = arr.size := by
  simp only [List.size_toArray, List.length_append, List.length_take, List.length_drop, Array.length_toList]
  omega
 have hchg := chg_setRow l1 hsize
 have hext : Ext D w (w.setRow g (arr.toList.take (k * B.st) ++ news ++ arr.toList.drop (k * B.st + news.length)).toArray) := hchg.ext (fun r hr => by injection hr with hr; subst hr; exact hnD)
 refine ⟨?_, hext⟩
 obtain ⟨a1, m1, r1⟩ := hl.rows (n := k) (by omega) hst
 obtain ⟨a2, m2, r2⟩ := hl.rows (n := B.es.length) (Nat.le_refl _) hst
 rw [l1] at m1 m2
 injection m1 with m1; injection m1 with m1; subst m1
 injection m2 with m2; injection m2 with m2; subst m2
 rw [List.take_length] at r2
 have r3 := r2.drop (k + xs.length)
 have rall := ((r1.append hx).append r3).keep (PlLe.refl _) (fun _ h _ => h) hext
 refine H.write hi hp hf hchg ?_ hf
 refine rall.lies (fz := B.fz) (setRow_heap w g arr _ B.e _ l1) (fun j u hu => ?_)
 rw [List.getElem?_toArray]
 have e1 : (k + xs.length) * B.st = k * B.st + news.length := by rw [hx.len, Nat.add_mul]
 rw [e1] at hu
 have e2 : (arr.toList.take (B.es.length * B.st)).drop (k * B.st + news.length) = (arr.toList.drop (k * B.st + news.length)).take (B.es.length * B.st - (k * B.st + news.length)) := List.drop_take
 rw [e2] at hu
 by_cases hj : j < (arr.toList.take (k * B.st) ++ news).length
 ·rw [List.getElem?_append_left hj] at hu ⊢; exact hu
 ·rw [List.getElem?_append_right (by omega)] at hu ⊢
  rw [List.getElem?_take] at hu
  split at hu
  ·exact hu
  ·cases hu
theorem zero_flat {z : Array Value} (hz : 0 < z.size) (n : Nat) : (Builtin.zeroCells z n).toList = (List.replicate n z.toList).flatten := by
 have hl : ∀ es ∈ List.replicate n z.toList, es.length = z.size := fun es he => by rw [List.eq_of_mem_replicate he]; simp
 apply List.ext_getElem?
 intro j
 by_cases hj : j < n * z.size
 ·have e1 : (Builtin.zeroCells z n).toList[j]? = some z[j % z.size]! := by
   unfold Builtin.zeroCells
   rw [Array.getElem?_toList, Array.getElem?_map, Array.getElem?_eq_getElem (by simpa using hj)]
   simp
  have hm : j % z.size < z.size := Nat.mod_lt _ hz
  have hd : j / z.size < n := (Nat.div_lt_iff_lt_mul hz).2 hj
  have e2 := flatten_at (List.replicate n z.toList) hl (j / z.size) z.toList (by rw [List.getElem?_replicate, if_pos hd]) (j % z.size) hm
  have e3 : j / z.size * z.size + j % z.size = j := by rw [Nat.mul_comm]; exact Nat.div_add_mod j z.size
  rw [e3] at e2
  rw [e1, e2, Array.getElem?_toList, Array.getElem?_eq_getElem hm, getElem!_pos z (j % z.size) hm]
 ·rw [List.getElem?_eq_none (by rw [Array.length_toList, size_zeroCells]; omega), List.getElem?_eq_none (by rw [flatten_len _ hl, List.length_replicate]; omega)]
theorem goes_clear {o : Oper} {x : Operand} {t : TypeId} (ho : o.op = .call { callee := .builtin .clear, args := #[x], argTypes := #[t] }) {e : Ef} (he : evClear P σ t (σ.ev x) = some e) (hs : e.side) (hS : ∀ j, S j → S' j) : Goes P X S S' o σ (σ.app o.dst e) := by
 unfold evClear at he
 split at he
 case h_2 => cases he
 rename_i sz' by' ag ze el ht
 obtain ⟨it, u, z, h1, h2, h3, h4, h5, h6, h7, h8⟩ := ti_some ht
 obtain rfl := tk_slice h7
 have run : ∀ (a : Act) (w w' : World) (v : Value), a.eval x = v → (Builtin.clear_ #[t] o.type #[v]).run P w = .ok (.tuple #[]) w' → (execOp a.eval o).run P w = .ok (.value (.tuple #[])) w' := fun a w w' v hv hr => by
  unfold execOp
  simp only [ho, resolve, invoke, builtin, Sem.run_bind, Sem.run_pure, Result.andThen_ok, List.map_toArray, List.map_cons, List.map_nil, hv]
  rw [hr]; rfl
 split at he
 ·rename_i y hy hev
  injection he with he
  subst he
  intro a w φ D hsim K Q hK
  have hV := hsim.ev x
  rw [hev] at hV
  have hr := run a w w _ hV.nil_inv (by simp [Builtin.clear_, run_underlying h2 w])
  unfold Oper.wp
  rw [hr, Oper.upon_value]
  have hg : σ.app o.dst { val := .tup [] } = σ.put o.dst (.tup []) := St.app_nil'
  have := (hsim.val (dst := o.dst) (v := .tuple #[]) (d := .tup []) (.tup [] [] rfl (fun i c d hc => by simp at hc))).more hS
  rw [← hg] at this
  exact hK _ _ _ _ this
 ·rename_i y j off len st hy hev
  obtain ⟨ie, ue, z', g1, g2, g3, g4, g5, g6, g7, g8⟩ := ti_some hy
  split at he
  case h_2 => cases he
  rename_i B hB
  injection he with he
  subst he
  obtain ⟨rfl, s1, s2, s3, s4, s5, s6⟩ := hs
  intro a w φ D hsim K Q hK
  have hV := hsim.ev x
  rw [hev] at hV
  have htup : RV φ D w (.tuple #[]) (.tup []) := .tup [] [] rfl (fun i c d hc => by simp at hc)
  have same : len = 0 → B.es.take off ++ List.replicate len y.zero ++ B.es.drop (off + len) = B.es := fun h => by subst h; simp
  have quiet : len = 0 → (∀ c A, a.eval x = .slice A 0 c → o.wp P a w K Q) := fun h0 c A hA => by
   have hr := run a w w _ hA (by cases A <;> simp [Builtin.clear_, run_underlying h2 w])
   unfold Oper.wp
   rw [hr, Oper.upon_value]
   have hh : upd σ.h j (some { B with es := B.es.take off ++ List.replicate len y.zero ++ B.es.drop (off + len) }) = σ.h := by
    rw [same h0]
    funext k
    by_cases e : k = j
    ·subst e; rw [upd_same, hB]
    ·rw [upd_ne _ _ e]
   have hg : ∀ sd : Prop, σ.app o.dst { val := .tup [], rd := [j], wr := [(j, some { B with es := B.es.take off ++ List.replicate len y.zero ++ B.es.drop (off + len) })], side := sd } = σ.put o.dst (.tup []) := by
    intro sd
    rw [← St.app_nil' (e := { val := .tup [] })]
    unfold St.app
    simp only [wrs]
    rw [hh]
   refine hK _ _ φ D ?_
   rw [hg]
   exact (hsim.val htup).more hS
  generalize hva : a.eval x = va at hV
  cases hV with
  | refv _ _ hφ => exact quiet rfl 0 none hva
  | ref0 _ _ _ A' h0 => exact quiet rfl 0 A' hva
  | ref _ g _ _ cap _ hφ hlc hc hshape =>
   by_cases hl0 : len = 0
   ·subst hl0; exact quiet rfl cap _ hva
   ·have hl := hsim.lies hB hφ
    obtain ⟨arr, a1, a2, _⟩ := hl
    have hzs : z'.cells.size = y.sz := by have := congrArg List.length g8; rw [s5] at this; simpa using this
    have hz : RVs φ D w z'.cells.toList y.zero := by rw [← g8]; exact RVs_map fun v _ => RV_datOf1 v
    have hrep : ∀ n, Rws φ D w (List.replicate n z'.cells.toList).flatten (List.replicate n y.zero) y.sz := fun n => by
     induction n with
     | zero => exact .nil
     | succ n ih =>
      rw [List.replicate_succ, List.replicate_succ, List.flatten_cons]
      exact (Rws.one_row hz s5 (hz.one s6)).append ih
    have hrw := hrep len
    rw [← zero_flat (by omega)] at hrw
    obtain ⟨news, hnews⟩ : ∃ news, news = (Builtin.zeroCells z'.cells len).toList := ⟨_, rfl⟩
    rw [← hnews] at hrw
    have hlen : news.length = len * y.sz := by have := hrw.len; rw [List.length_replicate] at this; exact this
    rw [← s1] at hrw
    have hfit : off * y.sz + news.length ≤ arr.size := by
     rw [hlen, ← Nat.add_mul]
     rw [s1] at a2
     exact Nat.le_trans (Nat.mul_le_mul_right _ s3) a2
    have hst := run_storeCells_at P g (off * y.sz) B.e news 0 arr w a1 (by simpa using hfit) hrw.one
    simp only [Nat.add_zero] at hst
    have hzv : ∀ w, (zeroValue el).run P w = .ok z' w := fun w => by simp [zeroValue, typeInfo, g1, g3]
    obtain ⟨m, rfl⟩ : ∃ m, len = m + 1 := ⟨len - 1, by omega⟩
    have hr := run a w (w.setRow g (arr.toList.take (off * y.sz) ++ news ++ arr.toList.drop (off * y.sz + news.length)).toArray) _ hva (by
     simp only [Builtin.clear_, Sem.run_bind, run_underlying h2 w, Result.andThen_ok, hzv, List.getElem?_toArray, List.getElem?_cons_zero]
     rw [← hnews, hst]; rfl)
    unfold Oper.wp
    rw [hr, Oper.upon_value]
    have hrows := hsim.hs.rows hB hφ s2 (by omega) (k := off) hrw (by rw [List.length_replicate]; exact s3) a1
    rw [List.length_replicate] at hrows
    have hW : w.setRow g (arr.toList.take (off * B.st) ++ news ++ arr.toList.drop (off * B.st + news.length)).toArray = w.setRow g (arr.toList.take (off * y.sz) ++ news ++ arr.toList.drop (off * y.sz + news.length)).toArray := by rw [s1]
    rw [hW] at hrows
    have := hsim.step (dst := o.dst) (hrows.1.more hS) (PlLe.refl _) (fun _ h _ => h) hrows.2 (v := .tuple #[]) (d := .tup []) (.tup [] [] rfl (fun i c d hc => by simp at hc))
    exact hK _ _ _ _ this
 ·cases he
theorem goes_append {o : Oper} {s x : Operand} {t1 t2 : TypeId} (ho : o.op = .call { callee := .builtin .append, args := #[s, x], argTypes := #[t1, t2] }) {e : Ef} (he : evAppend P σ i t1 t2 (σ.ev s) (σ.ev x) = some e) (hs : e.side)
  (hn : ¬ S i) (hS : ∀ j, S j → S' j) (hS' : S' i) : Goes P X S S' o σ (σ.app o.dst e) := by
 unfold evAppend at he
 split at he
 case h_2 => cases he
 rename_i sz' by' ag ze el ht
 obtain ⟨it, u, z, h1, h2, h3, h4, h5, h6, h7, h8⟩ := ti_some ht
 obtain rfl := tk_slice h7
 split at he
 case h_2 => cases he
 rename_i y xs r p hy hel
 rw [hy] at hel
 simp only [Option.elim] at hel
 obtain ⟨ie, ue, z', g1, g2, g3, g4, g5, g6, g7, g8⟩ := ti_some hy
 intro a w φ D hsim K Q hK
 have hfr := hsim.hs.fresh (σ.n + i) (by omega) (by rw [Nat.add_sub_cancel_left]; exact hn)
 have hni : ¬ S (σ.n + i - σ.n) := by rw [Nat.add_sub_cancel_left]; exact hn
 have hni' : S' (σ.n + i - σ.n) := by rw [Nat.add_sub_cancel_left]; exact hS'
 have hX := hsim.ev x
 have hV := hsim.ev s
 -- new memory for all
 have newmem : ∀ (hh : Nat → Option Blk), HS X S hh σ.n w φ D → 0 < y.sz → ∀ (cap : Nat) (vs : List Value) (es : List (List Dat)) (rest : Array Value), Rws φ D w vs es y.sz → es.length ≤ cap → cap ≤ maxLen → (vs.toArray ++ rest).size = cap * y.sz →
   (execOp a.eval o).run P w = .ok (.value (.slice (some ⟨w.heap.size, 0, none⟩) es.length cap)) (w.drew.alloc (.cells (vs.toArray ++ rest) el)) →
   o.wp P a w K Q ∨ ¬ (∀ a' w' φ' D', Sim X S' { σ.put o.dst (.ref (σ.n + i) 0 es.length y.sz) with h := upd hh (σ.n + i) (some ⟨el, y.sz, false, es⟩) } a' w' φ' D' → K a' w') := by
  intro hh hH hsz0 cap vs es rest hrw hlc hcm hsize hrun
  by_cases hc : (∀ a' w' φ' D', Sim X S' { σ.put o.dst (.ref (σ.n + i) 0 es.length y.sz) with h := upd hh (σ.n + i) (some ⟨el, y.sz, false, es⟩) } a' w' φ' D' → K a' w')
  ·left
   unfold Oper.wp
   rw [hrun, Oper.upon_value]
   have hle := PlLe.upd (φ := φ) hfr (some w.heap.size)
   have hchg : Chg w (w.drew.alloc (.cells (vs.toArray ++ rest) el)) none := (Chg.drew w).trans (Chg.alloc w.drew _)
   have hext : Ext D w (w.drew.alloc (.cells (vs.toArray ++ rest) el)) := hchg.ext (fun _ h => by cases h)
   have hheap := heap_alloc_new w.drew (.cells (vs.toArray ++ rest) el)
   have hl := (hrw.keep hle (fun _ h _ => h) hext).lies (fz := false) hheap (fun j u hu => by
    have hj : j < vs.length := (List.getElem?_eq_some_iff.1 hu).1
    rw [Array.getElem?_append_left (by simpa using hj)]; simpa using hu)
   have hnew := hH.new (S' := S') (i := σ.n + i) (g := w.heap.size) (row := none) (B := ⟨el, y.sz, false, es⟩) (by omega) hni hS hni' hchg (fun r hr => by cases hr) (.inl (Nat.le_refl _)) hl rfl
   refine hc _ _ _ _ (hsim.step hnew hle (fun _ h _ => h) hext ?_)
   have := RV.ref (φ := upd φ (σ.n + i) (some (some w.heap.size))) (D := D) (w := w.drew.alloc (.cells (vs.toArray ++ rest) el)) (σ.n + i) w.heap.size 0 es.length cap y.sz (upd_same _ _ _) hlc hcm ⟨el, by
    unfold World.shape?
    rw [show w.heap.size = w.drew.heap.size from rfl, hheap]
    simp only [Nat.zero_add]
    rw [hsize]⟩
   simpa using this
  ·exact .inr hc
 split at he
 ·-- onto nil
  rename_i hev
  injection he with he
  subst he
  obtain ⟨s0, rfl, s1, s2, s3, s4⟩ := hs
  rw [hev] at hV
  have hVs := hV.nil_inv
  obtain ⟨A, m, c, news, hxv, hm, hrw, hcells⟩ := src_rows hsim hX s1 hel s0
  by_cases hm0 : xs.length = 0
  ·have hx0 : xs = [] := List.eq_nil_of_length_eq_zero hm0
   subst hx0
   have hrun := run_app (P := P) (w := w) (w' := w) (v := .slice none 0 0) ho (by rw [hVs, hxv, hm]; exact run_app0 h2 hy none A 0 0 c (Nat.le_refl _))
   unfold Oper.wp
   rw [hrun, Oper.upon_value]
   have hv := hsim.hs.virt (S' := S') (i := σ.n + i) (by omega) hni hS hni' el y.sz false
   have hle := PlLe.upd (φ := φ) hfr none
   exact hK _ _ _ _ (hsim.step hv hle (fun _ h _ => h) (Ext.refl _ _) (.refv _ _ (upd_same _ _ _)))
  ·have hnpos : 0 < news.length := by rw [hrw.len]; exact Nat.mul_pos (by omega) s1
   obtain ⟨ad, rfl, _⟩ := hcells 0 news[0] (by simp)
   have hcells' : ∀ (j : Nat) u, news[j]? = some u → w.cell? (ad.add j) = some u := fun j u hu => by
    obtain ⟨ad', h, h'⟩ := hcells j u hu
    injection h with h
    rw [h]; exact h'
   have hxl : xs.length ≤ xs.length * y.bytes := Nat.le_mul_of_pos_right _ s2
   have hrun0 := run_append_nil (P := P) w t2 o.type el ie z' h2 g1 g3 ad xs.length c news (by rw [hrw.len, g4]) hcells' (by omega) (by omega) (by rw [g5]; omega)
   have hrun := run_app (P := P) ho (by rw [hVs, hxv, hm]; exact hrun0)
   have hzs : z'.cells.size = y.sz := by have := congrArg List.length g8; rw [s3] at this; simpa using this
   have hcap := grownCap_ge w xs.length 0 el
   have hcapm := grownCap_le_maxLen w xs.length 0 el (by unfold maxLen; omega)
   refine (newmem σ.h hsim.hs s1 (grownCap w xs.length 0 el) news xs _ hrw hcap hcapm ?_ hrun).resolve_right (fun hc => hc hK)
   rw [Array.size_append, size_zeroCells, hzs, List.size_toArray, hrw.len, ← Nat.add_mul]
   congr 1; omega
 ·-- onto one of its own
  rename_i j off len st hev
  split at he
  case h_2 => cases he
  rename_i B hB
  split at he
  ·-- of the same block: in its place
   rename_i hal
   injection he with he
   subst he
   obtain ⟨s0, rfl, rfl, rfl, s1, s2, s3, s4, s5⟩ := hs
   obtain ⟨A, m, c, news, hxv, hm, hrw, hcells⟩ := src_rows hsim hX s5 hel s0
   rw [hev] at hV
   have same : xs.length = 0 → B.es.take len ++ xs ++ B.es.drop (len + xs.length) = B.es := fun h => by
    have : xs = [] := List.eq_nil_of_length_eq_zero h
    subst this; simp
   have quiet : xs.length = 0 → (∀ w' v, (execOp a.eval o).run P w = .ok (.value v) w' → w' = w → RV φ D w v (.ref j 0 (len + xs.length) y.sz) → o.wp P a w K Q) := fun h0 w' v hr hw hv => by
    subst hw
    unfold Oper.wp
    rw [hr, Oper.upon_value]
    have hh : upd σ.h j (some { B with es := B.es.take len ++ xs ++ B.es.drop (len + xs.length) }) = σ.h := by
     rw [same h0]
     funext k
     by_cases e : k = j
     ·subst e; rw [upd_same, hB]
     ·rw [upd_ne _ _ e]
    have hg : ∀ sd : Prop, σ.app o.dst { val := .ref j 0 (len + xs.length) y.sz, rd := j :: r, wr := [(j, some { B with es := B.es.take len ++ xs ++ B.es.drop (len + xs.length) })], side := sd } = σ.put o.dst (.ref j 0 (len + xs.length) y.sz) := by
     intro sd
     rw [← St.app_nil' (e := { val := .ref j 0 (len + xs.length) y.sz })]
     unfold St.app
     simp only [wrs]
     rw [hh]
    refine hK _ _ φ D ?_
    rw [hg]
    exact (hsim.val hv).more hS
   generalize hva : a.eval s = va at hV
   cases hV with
   | refv _ _ hφ =>
    have hB0 : B.es = [] := by
     rcases hsim.hs.live j B hB with ⟨_, q⟩ | ⟨g, q, _⟩
     ·exact q
     ·rw [hφ] at q; cases q
    have hx0 : xs.length = 0 := by rw [hB0, List.length_nil] at s4; omega
    have hxe : xs = [] := List.eq_nil_of_length_eq_zero hx0
    subst hxe
    exact quiet rfl w _ (run_app (P := P) (w := w) (w' := w) (v := .slice none 0 0) ho (by rw [hva, hxv, hm]; exact run_app0 h2 hy none A 0 0 c (Nat.le_refl _))) rfl (.refv _ _ hφ)
   | ref0 _ _ _ A' h0 => omega
   | ref _ g _ _ cap _ hφ hlc hc hshape =>
    simp only [Nat.zero_mul, Nat.zero_add] at *
    have hl := hsim.lies hB hφ
    obtain ⟨arr, a1, a2, _⟩ := hl
    have harr : arr.size = cap * y.sz := by
     obtain ⟨e', he'⟩ := hshape
     unfold World.shape? at he'
     rw [a1] at he'
     simp at he'
     exact he'.2
    have hroom : len + xs.length ≤ cap := by
     rw [s1, harr] at a2
     exact Nat.le_trans s4 (Nat.le_of_mul_le_mul_right a2 s5)
    rw [s2] at a1
    have hval : RV φ D w (.slice (some ⟨g, 0, none⟩) (len + xs.length) cap) (.ref j 0 (len + xs.length) y.sz) := by
     have := RV.ref (φ := φ) (D := D) (w := w) j g 0 (len + xs.length) cap y.sz hφ hroom hc ⟨_, by simpa using hshape.choose_spec⟩
     simpa using this
    by_cases hm0 : xs.length = 0
    ·have hx0 : xs = [] := List.eq_nil_of_length_eq_zero hm0
     subst hx0
     exact quiet rfl w _ (run_app (P := P) (w := w) (w' := w) (v := .slice (some ⟨g, 0, none⟩) len cap) ho (by rw [hva, hxv, hm]; exact run_app0 h2 hy (some ⟨g, 0, none⟩) A len cap c hlc)) rfl hval
    ·have hnpos : 0 < news.length := by rw [hrw.len]; exact Nat.mul_pos (by omega) s5
     obtain ⟨ad, rfl, _⟩ := hcells 0 news[0] (by simp)
     have hcells' : ∀ (k : Nat) u, news[k]? = some u → w.cell? (ad.add k) = some u := fun k u hu => by
      obtain ⟨ad', h, h'⟩ := hcells k u hu
      injection h with h
      rw [h]; exact h'
     have hfit : len * ie.size + news.length ≤ arr.size := by rw [g4, hrw.len, harr, ← Nat.add_mul]; exact Nat.mul_le_mul_right _ hroom
     have hrun0 := run_append_room (P := P) w t2 o.type el ie h2 g1 g len cap arr a1 ad xs.length c news (by rw [hrw.len, g4]) hcells' hrw.one hroom hfit
     have hrun := run_app (P := P) ho (by rw [hva, hxv, hm]; exact hrun0)
     unfold Oper.wp
     rw [hrun, Oper.upon_value]
     have hrows := hsim.hs.rows hB hφ s3 (by omega) (k := len) (by rw [s1]; exact hrw) s4 (by rw [s2]; exact a1)
     have hW : w.setRow g (arr.toList.take (len * B.st) ++ news ++ arr.toList.drop (len * B.st + news.length)).toArray = w.setRow g (arr.toList.take (len * ie.size) ++ news ++ arr.toList.drop (len * ie.size + news.length)).toArray := by rw [s1, g4]
     rw [hW] at hrows
     have := hsim.step (dst := o.dst) (hrows.1.more hS) (PlLe.refl _) (fun _ h _ => h) hrows.2 (v := .slice (some ⟨g, 0, none⟩) (len + xs.length) cap) (d := .ref j 0 (len + xs.length) y.sz) (hval.keep (PlLe.refl _) (fun _ h _ => h) hrows.2)
     exact hK _ _ _ _ this
  injection he with he
  subst he
  obtain ⟨s0, rfl, rfl, rfl, s1, s2, s3, s4, s5, s6, s7, s8⟩ := hs
  obtain ⟨A, m, c, news, hxv, hm, hrw, hcells⟩ := src_rows hsim hX s5 hel s0
  rw [hev] at hV
  have hes : (if len = B.es.length then B.es else B.es.take len) = B.es.take len := by
   split
   ·rename_i hc; rw [hc]; simp
   ·rfl
  rw [hes] at hK
  have hlen : (B.es.take len).length = len := by simp; omega
  have hlen2 : (B.es.take len ++ xs).length = len + xs.length := by rw [List.length_append, hlen]
  have hdrop := hsim.hs.drop j
  have hxl : len + xs.length ≤ (len + xs.length) * y.bytes := Nat.le_mul_of_pos_right _ s6
  have hzs : z'.cells.size = y.sz := by have := congrArg List.length g8; rw [s7] at this; simpa using this
  generalize hva : a.eval s = va at hV
  cases hV with
  | refv _ _ hφ =>
   have htake : B.es.take 0 ++ xs = xs := by simp
   simp only [htake, Nat.zero_add] at *
   by_cases hm0 : xs.length = 0
   ·have hx0 : xs = [] := List.eq_nil_of_length_eq_zero hm0
    subst hx0
    have hrun := run_app (P := P) (w := w) (w' := w) (v := .slice none 0 0) ho (by rw [hva, hxv, hm]; exact run_app0 h2 hy none A 0 0 c (Nat.le_refl _))
    unfold Oper.wp
    rw [hrun, Oper.upon_value]
    have hv := hdrop.virt (S' := S') (i := σ.n + i) (by omega) hni hS hni' el y.sz false
    have hle := PlLe.upd (φ := φ) hfr none
    exact hK _ _ _ _ (hsim.step hv hle (fun _ h _ => h) (Ext.refl _ _) (.refv _ _ (upd_same _ _ _)))
   ·have hnpos : 0 < news.length := by rw [hrw.len]; exact Nat.mul_pos (by omega) s5
    obtain ⟨ad, rfl, _⟩ := hcells 0 news[0] (by simp)
    have hcells' : ∀ (j : Nat) u, news[j]? = some u → w.cell? (ad.add j) = some u := fun j u hu => by
     obtain ⟨ad', h, h'⟩ := hcells j u hu
     injection h with h
     rw [h]; exact h'
    have hrun0 := run_append_nil (P := P) w t2 o.type el ie z' h2 g1 g3 ad xs.length c news (by rw [hrw.len, g4]) hcells' (by omega) (by omega) (by rw [g5]; omega)
    have hrun := run_app (P := P) ho (by rw [hva, hxv, hm]; exact hrun0)
    have hcap := grownCap_ge w xs.length 0 el
    have hcapm := grownCap_le_maxLen w xs.length 0 el (by unfold maxLen; omega)
    refine (newmem _ hdrop s5 (grownCap w xs.length 0 el) news xs _ hrw hcap hcapm ?_ hrun).resolve_right (fun hc => hc hK)
    rw [Array.size_append, size_zeroCells, hzs, List.size_toArray, hrw.len, ← Nat.add_mul]
    congr 1; omega
  | ref0 _ _ _ A' h0 => omega
  | ref _ g _ _ cap _ hφ hlc hc hshape =>
   simp only [Nat.zero_mul, Nat.zero_add] at *
   have hl := hsim.lies hB hφ
   obtain ⟨arr, a1, a2⟩ := hl.rows (n := len) s4 (by omega)
   rw [s1] at a2
   have harr : arr.size = cap * y.sz := by
    obtain ⟨e', he'⟩ := hshape
    unfold World.shape? at he'
    rw [a1] at he'
    simp at he'
    exact he'.2
   rw [s2] at a1
   have hgD : ¬ D g ∧ (X.L0 g ∨ X.w0.heap.size ≤ g) := by
    rcases hsim.hs.live j B hB with ⟨q, _⟩ | ⟨g', q, _, _, q4⟩
    ·rw [hφ] at q; cases q
    ·rw [hφ] at q; injection q with q; injection q with q; subst q; exact q4 s3
   have hnone : ∀ k C, upd σ.h j none k = some C → φ k ≠ some (some g) := fun k C hk hp => by
    by_cases e : k = j
    ·subst e; rw [upd_same] at hk; cases hk
    ·rw [upd_ne _ _ e] at hk
     exact e (hsim.hs.inj j k B C g hB hk hφ hp s3).symm
   have hle := PlLe.upd (φ := φ) hfr (some g)
   have hcomb := a2.append hrw
   have inplace : ∀ (w' : World) (arr' : Array Value), Chg w w' (some g) → w'.heap[g]? = some (.cells arr' el (0, 0)) → arr'.size = arr.size → (∀ (k : Nat) u, (arr.toList.take (len * y.sz) ++ news)[k]? = some u → arr'[k]? = some u) → len + xs.length ≤ cap →
     (execOp a.eval o).run P w = .ok (.value (.slice (some ⟨g, 0, none⟩) (len + xs.length) cap)) w' → o.wp P a w K Q := by
    intro w' arr' hchg hheap hsize hpre hroom hrun
    unfold Oper.wp
    rw [hrun, Oper.upon_value]
    have hext : Ext D w w' := hchg.ext (fun r hr => by injection hr with hr; subst hr; exact hgD.1)
    have hl' := (hcomb.keep hle (fun _ h _ => h) hext).lies (fz := false) hheap hpre
    have hnew := hdrop.new (S' := S') (i := σ.n + i) (g := g) (row := some g) (B := ⟨el, y.sz, false, B.es.take len ++ xs⟩) (by omega) hni hS hni' hchg
     (fun r hr => by injection hr with hr; subst hr; exact ⟨hgD, hnone⟩) (.inr rfl) hl' rfl
    refine hK _ _ _ _ (hsim.step hnew hle (fun _ h _ => h) hext ?_)
    have := RV.ref (φ := upd φ (σ.n + i) (some (some g))) (D := D) (w := w') (σ.n + i) g 0 (len + xs.length) cap y.sz (upd_same _ _ _) hroom hc ⟨el, by
     unfold World.shape?
     rw [hheap]
     simp only [Nat.zero_add]
     rw [hsize, harr]⟩
    simpa using this
   by_cases hm0 : xs.length = 0
   ·have hx0 : xs = [] := List.eq_nil_of_length_eq_zero hm0
    subst hx0
    have hrun := run_app (P := P) (w := w) (w' := w) (v := .slice (some ⟨g, 0, none⟩) len cap) ho (by rw [hva, hxv, hm]; exact run_app0 h2 hy (some ⟨g, 0, none⟩) A len cap c hlc)
    have hnews : news = [] := List.eq_nil_of_length_eq_zero (by rw [hrw.len]; simp)
    subst hnews
    exact inplace w arr ⟨rfl, rfl, rfl, Nat.le_refl _, fun _ _ => rfl, fun _ _ _ => rfl⟩ a1 rfl (fun k u hu => by
     rw [List.append_nil, List.getElem?_take] at hu
     split at hu
     ·simpa using hu
     ·cases hu) hlc hrun
   ·have hnpos : 0 < news.length := by rw [hrw.len]; exact Nat.mul_pos (by omega) s5
    obtain ⟨ad, rfl, _⟩ := hcells 0 news[0] (by simp)
    have hcells' : ∀ (k : Nat) u, news[k]? = some u → w.cell? (ad.add k) = some u := fun k u hu => by
     obtain ⟨ad', h, h'⟩ := hcells k u hu
     injection h with h
     rw [h]; exact h'
    have htl : (arr.toList.take (len * y.sz)).length = len * y.sz := by rw [a2.len, hlen]
    by_cases hroom : len + xs.length ≤ cap
    ·have hfit : len * ie.size + news.length ≤ arr.size := by rw [g4, hrw.len, harr, ← Nat.add_mul]; exact Nat.mul_le_mul_right _ hroom
     have hrun0 := run_append_room (P := P) w t2 o.type el ie h2 g1 g len cap arr a1 ad xs.length c news (by rw [hrw.len, g4]) hcells' hrw.one hroom hfit
     have hrun := run_app (P := P) ho (by rw [hva, hxv, hm]; exact hrun0)
     have hsize : ((arr.toList.take (len * ie.size) ++ news ++ arr.toList.drop (len * ie.size + news.length)).toArray).size = arr.size := by
      simp only [List.size_toArray, List.length_append, List.length_take, List.length_drop, Array.length_toList]
      omega
     refine inplace _ _ (chg_setRow a1 hsize) (setRow_heap w g arr _ el _ a1) hsize (fun k u hu => ?_) hroom hrun
     rw [g4, List.getElem?_toArray, List.getElem?_append_left (List.getElem?_eq_some_iff.1 hu).1]
     exact hu
    ·have holds : ∀ (k : Nat) u, (arr.toList.take (len * y.sz))[k]? = some u → w.cell? ((⟨g, 0, none⟩ : Addr).add k) = some u := fun k u hu => by
      rw [Addr.add_mid, Nat.zero_add, cell_of_row w g k arr _ _ a1]
      rw [List.getElem?_take] at hu
      split at hu
      ·simpa using hu
      ·cases hu
     have hrun0 := run_append_grow (P := P) w t2 o.type el ie z' h2 g1 g3 ⟨g, 0, none⟩ len cap _ (by rw [htl, g4]) holds ad xs.length c news (by rw [hrw.len, g4]) hcells' (by omega) (by omega) (growslice_fits (by omega) (by rw [g5]; exact s8))
     have hrun := run_app (P := P) ho (by rw [hva, hxv, hm]; exact hrun0)
     have hcapg := grownCap_ge w (len + xs.length) cap el
     have hcapm := grownCap_le_maxLen w (len + xs.length) cap el (by unfold maxLen; omega)
     have hfin := newmem _ hdrop s5 (grownCap w (len + xs.length) cap el) _ _ (Builtin.zeroCells z'.cells (grownCap w (len + xs.length) cap el - (len + xs.length))) hcomb (by rw [hlen2]; exact hcapg) hcapm ?_ (by rw [hlen2, hrun]; congr 4; apply Array.ext'; simp)
     ·rw [hlen2] at hfin
      exact hfin.resolve_right (fun hc => hc hK)
     ·rw [Array.size_append, size_zeroCells, hzs, List.size_toArray, hcomb.len, hlen2, ← Nat.add_mul]
      congr 1; omega
 ·cases he
end
end Go.Ab
