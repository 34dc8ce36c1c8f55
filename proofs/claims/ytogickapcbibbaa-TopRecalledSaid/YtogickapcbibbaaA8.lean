/- DERIVED. Literals, make, append: sound. No program here. -/
import Derived.Test.YtogickapcbibbaaA7
import Derived.Laws.MakeOwn
namespace Go.Ab
open Go.RowKit

section
variable {φ φ' : Pl} {D D' : Nat → Prop} {w w' : World}
theorem fill_fold {cs : Array Value} {ds : List Dat} (h : RVs φ D w cs.toList ds) (off : Nat) : ∀ (us : List Value) (es : List Dat) (s : Nat) (cs : Array Value) (ds : List Dat), RVs φ D w cs.toList ds → RVs φ D w us es →
    RVs φ D w ((us.zipIdx s).foldl (fun cs (x : Value × Nat) => cs.setIfInBounds (off + x.2) x.1) cs).toList ((es.zipIdx s).foldl (fun l p => l.set (off + p.2) p.1) ds)
  | [], es, s, cs, ds, h, hu => by
    obtain rfl : es = [] := List.eq_nil_of_length_eq_zero hu.1.symm
    exact h
  | u :: us, es, s, cs, ds, h, hu => by
    cases es with
    | nil => have := hu.1; simp at this
    | cons e es =>
      rw [List.zipIdx_cons, List.zipIdx_cons, List.foldl_cons, List.foldl_cons]
      refine fill_fold h off us es (s + 1) _ _ ?_ ⟨by have := hu.1; simpa using this, fun i c d hc hd => hu.2 (i + 1) c d (by simpa using hc) (by simpa using hd)⟩
      rw [Array.toList_setIfInBounds]
      exact h.set _ (hu.2 0 u e rfl rfl)
theorem fill_sound {p q : Nat → Option (Nat × Nat)} (hpq : ∀ i r, q i = some r → p i = some r) : ∀ (vp : List (Nat × Value)) (dp : List (Nat × Dat)) (cs : Array Value) (ds ds' : List Dat), RVs φ D w cs.toList ds →
    vp.length = dp.length → (∀ (i : Nat) v d, vp[i]? = some v → dp[i]? = some d → v.1 = d.1 ∧ RV φ D w v.2 d.2) → fillD q ds dp = some ds' →
    ∃ cs', Instr.fill p cs vp = some cs' ∧ RVs φ D w cs'.toList ds'
  | [], dp, cs, ds, ds', h, hl, hv, hf => by
    obtain rfl : dp = [] := List.eq_nil_of_length_eq_zero hl.symm
    simp only [fillD] at hf
    injection hf with hf
    subst hf
    exact ⟨cs, rfl, h⟩
  | (i, v) :: vp, dp, cs, ds, ds', h, hl, hv, hf => by
    cases dp with
    | nil => simp at hl
    | cons d dp =>
      obtain ⟨j, d⟩ := d
      obtain ⟨hij, hr⟩ := hv 0 _ _ rfl rfl
      simp only at hij hr
      subst hij
      simp only [fillD] at hf
      split at hf
      · cases hf
      · rename_i off size hq
        split at hf
        · cases hf
        · rename_i hc
          have hp := hpq _ _ hq
          have hc1 : d.cells.length = size := by
            rcases Nat.decEq d.cells.length size with h | h
            · exact absurd (.inl h) hc
            · exact h
          have hc2 : off + d.cells.length ≤ ds.length := by
            rcases Nat.lt_or_ge ds.length (off + d.cells.length) with h | h
            · exact absurd (.inr h) hc
            · exact h
          have hcells := hr.cells
          have hs1 : v.cells.size = size := by rw [← hc1, ← hcells.1]; simp
          have hs2 : ¬ (off + v.cells.size > cs.size) := by
            have := h.1
            have := hcells.1
            simp at *
            omega
          have hfold := fill_fold h off v.cells.toList d.cells 0 cs ds h hcells
          obtain ⟨cs', h1, h2⟩ := fill_sound hpq vp dp ((v.cells.toList.zipIdx 0).foldl (fun cs (x : Value × Nat) => cs.setIfInBounds (off + x.2) x.1) cs) (setR ds off d.cells) ds' hfold (by simpa using hl)
            (fun k a b ha hb => hv (k + 1) a b (by simpa using ha) (by simpa using hb)) hf
          refine ⟨cs', ?_, h2⟩
          unfold Instr.fill
          simp only [hp]
          rw [if_neg (by simp [hs1]; omega), ← h1]
          congr 1
          rw [← Array.foldl_toList, Array.toList_zipIdx]
end

theorem mapM_some {P : Program} : ∀ (fs : List Field), (∀ f ∈ fs, (P.info? f.type).isSome = true) → fs.mapM (fun f => (P.info? f.type).map fun i => (f.offset, i.size)) = some (fs.map fun f => (f.offset, P.cellsOf f.type))
  | [], _ => by simp
  | f :: fs, h => by
    obtain ⟨i, hi⟩ := Option.isSome_iff_exists.1 (h f (by simp))
    rw [List.mapM_cons, mapM_some fs (fun g hg => h g (by simp [hg]))]
    simp [hi, Program.cellsOf]

section
variable {P : Program} {X : Cx} {S S' : Nat → Prop} {σ : St} {i : Nat}

theorem parts_rv {a : Act} {w : World} {φ : Pl} {D : Nat → Prop} (hs : Sim X S σ a w φ D) (parts : Array (Nat × Operand)) :
    (parts.map fun (i, x) => (i, a.eval x)).toList.length = (parts.toList.map fun p => (p.1, σ.ev p.2)).length ∧
    ∀ (i : Nat) v d, (parts.map fun (i, x) => (i, a.eval x)).toList[i]? = some v → (parts.toList.map fun p => (p.1, σ.ev p.2))[i]? = some d → v.1 = d.1 ∧ RV φ D w v.2 d.2 := by
  refine ⟨by simp, fun i v d hv hd => ?_⟩
  rw [Array.toList_map, List.getElem?_map] at hv
  rw [List.getElem?_map] at hd
  cases hp : parts.toList[i]? with
  | none => simp [hp] at hv
  | some p =>
    simp only [hp, Option.map_some, Option.some.injEq] at hv hd
    subst hv; subst hd
    exact ⟨rfl, hs.ev p.2⟩

theorem goes_build {o : Oper} {t : TypeId} {parts : Array (Nat × Operand)} (ho : o.op = .build t parts) {e : Ef} (he : evOp P σ i o.op = some e) (hs : e.side) (hS : ∀ j, S j → S' j) :
    Goes P X S S' o σ (σ.put o.dst e.val) ∧ e.wr = [] := by
  rw [ho] at he
  simp only [evOp] at he
  split at he
  · rename_i sz by' ag ze fs ht
    obtain ⟨it, u, z, h1, h2, h3, h4, h5, h6, h7, h8⟩ := ti_some ht
    obtain ⟨gs, rfl, hfs⟩ := tk_struct h7
    simp only at h8
    split at he
    · rename_i ds hf
      injection he with he
      subst he
      refine ⟨goes_val hS fun a w φ D hsim => ?_, rfl⟩
      have hz : RVs φ D w z.cells.toList ze := by rw [← h8]; exact RVs_map fun v _ => RV_datOf1 v
      have hinfo : ∀ f ∈ gs.toList, (P.info? f.type).isSome = true := fun f hf => by
        have := hs (f.offset, f.type) (by rw [hfs]; exact List.mem_map.2 ⟨f, hf, rfl⟩)
        obtain ⟨y, hy⟩ := Option.isSome_iff_exists.1 this
        obtain ⟨i', _, _, g1, _⟩ := ti_some hy
        rw [g1]; rfl
      obtain ⟨hl, hp⟩ := parts_rv hsim parts
      obtain ⟨cs', hc, hr⟩ := fill_sound (p := ((gs.toList.map fun f => (f.offset, P.cellsOf f.type)).toArray[·]?)) (fun k r hk => by
        rw [hfs, List.getElem?_map] at hk
        cases hq : gs.toList[k]? with
        | none => simp [hq] at hk
        | some f =>
          simp only [hq, Option.map_some] at hk
          split at hk
          · rename_i y hy
            injection hk with hk
            subst hk
            obtain ⟨i', _, _, g1, _, _, g4, _⟩ := ti_some hy
            rw [List.getElem?_toArray, List.getElem?_map, hq]
            simp [Program.cellsOf, g1, g4]
          · cases hk) _ _ z.cells ze ds hz hl hp hf
      refine ⟨.agg cs', ?_, ?_⟩
      · have hb : P.built t (parts.map fun (i, x) => (i, a.eval x)).toList = some cs' := by
          unfold Program.built
          simp only [h1, h2, h3, mapM_some _ hinfo, hc]
        simp only [execOp, ho, Sem.run_bind, run_build w t _ cs' hb, Result.andThen_ok, Sem.run_pure]
      · have := RV.agg cs'.toList ds hr.1 hr.2
        simpa using this
    · cases he
  · rename_i sz by' ag ze n el ht
    obtain ⟨it, u, z, h1, h2, h3, h4, h5, h6, h7, h8⟩ := ti_some ht
    obtain rfl := tk_array h7
    simp only at h8
    split at he
    · rename_i y hy
      obtain ⟨i', _, _, g1, _, _, g4, _⟩ := ti_some hy
      split at he
      · rename_i ds hf
        injection he with he
        subst he
        refine ⟨goes_val hS fun a w φ D hsim => ?_, rfl⟩
        have hz : RVs φ D w z.cells.toList ze := by rw [← h8]; exact RVs_map fun v _ => RV_datOf1 v
        obtain ⟨hl, hp⟩ := parts_rv hsim parts
        obtain ⟨cs', hc, hr⟩ := fill_sound (p := fun i => some (i * i'.size, i'.size)) (fun k r hk => by rw [g4]; exact hk) _ _ z.cells ze ds hz hl hp hf
        refine ⟨.agg cs', ?_, ?_⟩
        · have hb : P.built t (parts.map fun (i, x) => (i, a.eval x)).toList = some cs' := by
            unfold Program.built
            simp only [h1, h2, h3, g1, hc]
          simp only [execOp, ho, Sem.run_bind, run_build w t _ cs' hb, Result.andThen_ok, Sem.run_pure]
        · have := RV.agg cs'.toList ds hr.1 hr.2
          simpa using this
      · cases he
    · cases he
  · cases he

/-- a slice of the call's own, new -/
theorem goes_row {o : Oper} {e st n c : Nat} {es : List (List Dat)} (hn : ¬ S i) (hS : ∀ j, S j → S' j) (hS' : S' i) (hnc : n ≤ c) (hc : c ≤ maxLen)
    (h : ∀ a w φ D, Sim X S σ a w φ D → ∃ (cells : Array Value) (vs : List Value), (execOp a.eval o).run P w = .ok (.value (.slice (some ⟨w.heap.size, 0, none⟩) n c)) (w.alloc (.cells cells e)) ∧ Rws φ D w vs es st ∧ (∀ (j : Nat) u, vs[j]? = some u → cells[j]? = some u) ∧ cells.size = c * st) :
    Goes P X S S' o σ (σ.app o.dst { val := .ref (σ.n + i) 0 n st, wr := [(σ.n + i, some ⟨e, st, false, es⟩)] }) := by
  intro a w φ D hs K Q hK
  obtain ⟨cells, vs, hr, hv, hp, hsz⟩ := h a w φ D hs
  unfold Oper.wp
  rw [hr, Oper.upon_value]
  have hfr := hs.hs.fresh (σ.n + i) (by omega) (by rw [Nat.add_sub_cancel_left]; exact hn)
  have hle := PlLe.upd (φ := φ) hfr (some w.heap.size)
  have hrw : Rws (upd φ (σ.n + i) (some (some w.heap.size))) D (w.alloc (.cells cells e)) vs es st := hv.keep hle (fun _ h _ => h) (Ext.alloc _ _ _)
  have hnew := hs.hs.new (S' := S') (i := σ.n + i) (g := w.heap.size) (row := none) (B := ⟨e, st, false, es⟩) (by omega) (by rw [Nat.add_sub_cancel_left]; exact hn) hS (by rw [Nat.add_sub_cancel_left]; exact hS')
    (Chg.alloc w (.cells cells e)) (fun r hr => by cases hr) (.inl (Nat.le_refl _)) (hrw.lies (heap_alloc_new w _) hp) rfl
  refine hK _ _ _ _ (hs.step hnew hle (fun _ h _ => h) (Ext.alloc _ _ _) ?_)
  have := RV.ref (φ := upd φ (σ.n + i) (some (some w.heap.size))) (D := D) (w := w.alloc (.cells cells e)) (σ.n + i) w.heap.size 0 n c st (upd_same _ _ _) hnc hc ⟨e, by unfold World.shape?; rw [heap_alloc_new]; simp [hsz]⟩
  simpa using this

theorem flatRows {φ : Pl} {D : Nat → Prop} {w : World} {st : Nat} : ∀ (vs : List Value) (ds : List Dat), RVs φ D w vs ds → (∀ d ∈ ds, d.cells.length = st ∧ allOne d.cells = true) →
    Rws φ D w (vs.flatMap fun v => v.cells.toList) (ds.map Dat.cells) st
  | [], ds, h, _ => by
    obtain rfl : ds = [] := List.eq_nil_of_length_eq_zero h.1.symm
    exact .nil
  | v :: vs, [], h, _ => by have := h.1; simp at this
  | v :: vs, d :: ds, h, hd => by
    have hv : RV φ D w v d := h.2 0 v d rfl rfl
    obtain ⟨h1, h2⟩ := hd d (by simp)
    have hr := Rws.one_row hv.cells h1 (hv.cells.one h2)
    have := hr.append (flatRows vs ds ⟨by have := h.1; simpa using this, fun i a b ha hb => h.2 (i + 1) a b (by simpa using ha) (by simpa using hb)⟩ (fun e he => hd e (by simp [he])))
    simpa using this

theorem goes_buildSlice {o : Oper} {t : TypeId} {len : Nat} {parts : Array (Nat × Operand)} (ho : o.op = .buildSlice t len parts) {e : Ef} (he : evOp P σ i o.op = some e) (hs : e.side) (hn : ¬ S i) (hS : ∀ j, S j → S' j) (hS' : S' i) :
    Goes P X S S' o σ (σ.app o.dst e) := by
  rw [ho] at he
  simp only [evOp] at he
  split at he
  · rename_i sz by' ag ze el ht
    obtain ⟨it, u, z, h1, h2, h3, h4, h5, h6, h7, h8⟩ := ti_some ht
    obtain rfl := tk_slice h7
    split at he
    · rename_i y hy
      obtain ⟨ie, ue, z', g1, g2, g3, g4, g5, g6, g7, g8⟩ := ti_some hy
      injection he with he
      subst he
      obtain ⟨s1, s2, s3, s4⟩ := hs
      have hlen : parts.toList.length = len := by
        have := congrArg List.length s1
        simpa using this
      have hcap : len ≤ maxLen ∨ y.sz = 0 := by
        rcases Nat.eq_zero_or_pos y.sz with h | h
        · exact .inr h
        · left
          have : len ≤ len * y.sz := Nat.le_mul_of_pos_right _ h
          unfold maxLen; omega
      by_cases hsz0 : y.sz = 0
      · -- elements without cells: not served
        exact absurd hsz0 (by
          intro h0
          exact False.elim (s4.2 h0))
      · refine goes_row hn hS hS' (n := len) (c := len) (Nat.le_refl _) (hcap.resolve_right hsz0) fun a w φ D hsim => ?_
        have hvs : ((parts.map fun (i, x) => (i, a.eval x)).toList) = ((parts.toList.map fun p => a.eval p.2).zipIdx 0).map fun x => (x.2, x.1) := by
          rw [Array.toList_map]
          apply List.ext_getElem?
          intro k
          simp only [List.getElem?_map, List.getElem?_zipIdx]
          have hk : (parts.toList.map (·.1))[k]? = (List.range len)[k]? := by rw [s1]
          rw [List.getElem?_map] at hk
          cases hp : parts.toList[k]? with
          | none => simp
          | some p =>
            have hlt : k < len := by rw [← hlen]; exact (List.getElem?_eq_some_iff.1 hp).1
            rw [hp, List.getElem?_range hlt] at hk
            simp at hk
            simp [hk]
        have hparts : RVs φ D w (parts.toList.map fun p => a.eval p.2) (parts.toList.map fun p => σ.ev p.2) := by
          have := hsim.evs (parts.toList.map (·.2))
          simpa [List.map_map, Function.comp_def] using this
        have hsizes : ∀ v ∈ (parts.toList.map fun p => a.eval p.2), v.cells.size = y.sz := fun v hv => by
          obtain ⟨p, hp, rfl⟩ := List.mem_map.1 hv
          have := (hsim.ev p.2).cells.1
          rw [(s4.1 p hp).1] at this
          simpa using this
        have hrw := flatRows _ _ hparts (st := y.sz) (fun d hd => by obtain ⟨p, hp, rfl⟩ := List.mem_map.1 hd; exact s4.1 p hp)
        refine ⟨((parts.toList.map fun p => a.eval p.2).flatMap fun v => v.cells.toList).toArray, _, ?_, by simpa [List.map_map, Function.comp_def] using hrw, fun j u hu => by simpa using hu, ?_⟩
        · by_cases h0 : len * ie.size = 0
          · have hl0 : len = 0 := by
              rcases Nat.mul_eq_zero.1 h0 with h | h
              · exact h
              · omega
            subst hl0
            have hp0 : parts = #[] := by
              have : parts.toList = [] := List.eq_nil_of_length_eq_zero hlen
              simpa using this
            subst hp0
            simp [execOp, ho, Instr.buildSlice, run_underlying h2 w, sizeOf, typeInfo, g1, newRow, Instr.fill, Array.range_zero']
          · have hrun := run_buildSlice (P := P) w t el len (parts.map fun (i, x) => (i, a.eval x)) ((parts.toList.map fun p => a.eval p.2).flatMap fun v => v.cells.toList).toArray ie z' h2 g1 g3 (by rw [g4]; omega) h0 (by
              rw [hvs, g4]
              exact Great.fill_whole (by omega) _ _ hsizes (by simp [hlen]))
            simp only [execOp, ho, Sem.run_bind, hrun, Result.andThen_ok, Sem.run_pure]
        · have := hrw.len
          simp only [List.length_map] at this
          simp only [List.size_toArray]
          rw [this, hlen]
    · cases he
  · cases he

theorem goes_makeSlice {o : Oper} {t : TypeId} {l c : Operand} (ho : o.op = .makeSlice t l c) {e : Ef} (he : evOp P σ i o.op = some e) (hs : e.side) (hn : ¬ S i) (hS : ∀ j, S j → S' j) (hS' : S' i) :
    Goes P X S S' o σ (σ.app o.dst e) := by
  rw [ho] at he
  simp only [evOp] at he
  split at he
  · rename_i sz by' ag ze el ht
    obtain ⟨it, u, z, h1, h2, h3, h4, h5, h6, h7, h8⟩ := ti_some ht
    obtain rfl := tk_slice h7
    split at he
    · rename_i y kl a kc b hy hl hc
      obtain ⟨ie, ue, z', g1, g2, g3, g4, g5, g6, g7, g8⟩ := ti_some hy
      injection he with he
      subst he
      obtain ⟨s0, rfl, s2, s3, s4, s5, s6⟩ := hs
      refine goes_row hn hS hS' (n := a.toNat) (c := a.toNat) (Nat.le_refl _) (by unfold maxLen; omega) fun A w φ D hsim => ?_
      have hL := hsim.ev l
      rw [hl] at hL
      have hC := hsim.ev c
      rw [hc] at hC
      have hz : RVs φ D w z'.cells.toList y.zero := by rw [← g8]; exact RVs_map fun v _ => RV_datOf1 v
      have hzsz : z'.cells.size = y.sz := by have := hz.1; rw [s4] at this; simpa using this
      have hrun := run_make (P := P) w t el ie z' h2 g1 g3 kl kc a a s0 (Int.le_refl _) (by rw [g5]; exact s2) s3
      have hrep : ∀ n, Rws φ D w (List.replicate n z'.cells.toList).flatten (List.replicate n y.zero) y.sz := fun n => by
        induction n with
        | zero => exact .nil
        | succ n ih =>
          rw [List.replicate_succ, List.replicate_succ, List.flatten_cons]
          exact (Rws.one_row hz s4 (hz.one s6)).append ih
      refine ⟨madeCells z'.cells (a.toNat * ie.size), _, ?_, hrep a.toNat, fun j u hu => ?_, by rw [size_madeCells, g4]⟩
      · simp only [execOp, ho, hL.int_inv, hC.int_inv, Sem.run_bind, hrun, Result.andThen_ok, Sem.run_pure]
      · have hj : j < a.toNat * y.sz := by
          have := (List.getElem?_eq_some_iff.1 hu).1
          rw [(hrep a.toNat).len] at this
          simpa using this
        have hget : ∀ n j u, (List.replicate n z'.cells.toList).flatten[j]? = some u → z'.cells.toList[j % y.sz]? = some u := fun n => by
          induction n with
          | zero => intro j u h; simp at h
          | succ n ih =>
            intro j u h
            rw [List.replicate_succ, List.flatten_cons] at h
            have hzl : z'.cells.toList.length = y.sz := by simpa using hzsz
            rcases Nat.lt_or_ge j y.sz with hlt | hge
            · rw [List.getElem?_append_left (by omega)] at h
              rw [Nat.mod_eq_of_lt hlt]; exact h
            · rw [List.getElem?_append_right (by omega), hzl] at h
              have := ih _ _ h
              rw [Nat.mod_eq_sub_mod hge]; exact this
        have h1 := hget _ _ _ hu
        have hm : j % y.sz < z'.cells.size := by rw [hzsz]; exact Nat.mod_lt _ s5
        have h2 : z'.cells[j % y.sz]? = some u := by simpa using h1
        rw [Array.getElem?_eq_getElem hm] at h2
        injection h2 with h2
        unfold madeCells
        rw [Array.getElem?_map, Array.getElem?_eq_getElem (by simp; rw [g4]; exact hj)]
        simp only [Array.getElem_range, Option.map_some, hzsz]
        rw [getElem!_pos z'.cells (j % y.sz) hm, h2]
    · cases he
  · cases he

theorem mmStep_inv {isMax : Bool} {d y m : Dat} (h : mmStep isMax (some d) y = some m) : ∃ k p k' q, d = .int k p ∧ y = .int k' q ∧ m = .int k (if isMax then (if q > p then q else p) else (if q < p then q else p)) := by
  cases d <;> cases y <;> simp only [mmStep, reduceCtorEq, Option.some.injEq] at h
  exact ⟨_, _, _, _, rfl, rfl, h.symm⟩
/-- min and max -/
theorem goes_minMax {o : Oper} {isMax : Bool} {args : Array Operand} {ats : Array TypeId} (ho : o.op = .call { callee := .builtin (if isMax then .max else .min), args, argTypes := ats }) {v : Dat}
    (he : minMax isMax (args.toList.map σ.ev) = some v) (hS : ∀ j, S j → S' j) : Goes P X S S' o σ (σ.put o.dst v) :=
  goes_val hS fun A w φ D hsim => by
    have hargs := hsim.evs args.toList
    have key : ∀ (ds : List Dat) (vs : List Value) (d : Dat) (u : Value), RVs φ D w vs ds → RV φ D w u d → ds.foldl (mmStep isMax) (some d) = some v → ds ≠ [] → ∃ u', (vs.foldlM (if isMax then Builtin.max2 else Builtin.min2) u).run P w = .ok u' w ∧ RV φ D w u' v := by
      intro ds
      induction ds with
      | nil => intro vs d u _ _ _ h; exact absurd rfl h
      | cons y ds ih =>
        intro vs d u hvs hu hf _
        obtain ⟨v1, vs, rfl, hv1, hvs'⟩ := hvs.cons_inv
        rw [List.foldl_cons] at hf
        have hnone : ∀ l : List Dat, l.foldl (mmStep isMax) none = none := by intro l; induction l with | nil => rfl | cons a l ih => rw [List.foldl_cons]; exact ih
        cases hm : mmStep isMax (some d) y with
        | none => rw [hm, hnone] at hf; cases hf
        | some m =>
          rw [hm] at hf
          obtain ⟨k, p, k', q, rfl, rfl, rfl⟩ := mmStep_inv hm
          · have e1 := hu.int_inv
            have e2 := hv1.int_inv
            subst e1; subst e2
            have hstep : ((if isMax then Builtin.max2 else Builtin.min2) (.int k p) (.int k' q)).run P w = .ok (.int k (if isMax then (if q > p then q else p) else (if q < p then q else p))) w := by
              cases isMax <;> simp [Builtin.max2, Builtin.min2]
            by_cases hds : ds = []
            · subst hds
              obtain rfl := hvs'.nil_inv
              simp only [List.foldl_nil, Option.some.injEq] at hf
              subst hf
              refine ⟨_, ?_, .int _ _⟩
              simp only [List.foldlM_cons, List.foldlM_nil, Sem.run_bind, hstep, Result.andThen_ok, Sem.run_pure]
            · obtain ⟨u', h1, h2⟩ := ih vs _ _ hvs' (.int k _) hf hds
              refine ⟨u', ?_, h2⟩
              simp only [List.foldlM_cons, Sem.run_bind, hstep, Result.andThen_ok, h1]
    cases hl : args.toList.map σ.ev with
    | nil => rw [hl] at he; simp [minMax] at he
    | cons d ds =>
      rw [hl] at he hargs
      obtain ⟨u, vs, hvs, hu, hrest⟩ := hargs.cons_inv
      simp only [minMax] at he
      have hmap : (args.map A.eval).toList = u :: vs := by rw [Array.toList_map]; exact hvs
      by_cases hds : ds = []
      · subst hds
        obtain rfl := hrest.nil_inv
        simp at he
        subst he
        refine ⟨u, ?_, hu⟩
        cases isMax <;> simp [execOp, ho, resolve, invoke, builtin, Builtin.max_, Builtin.min_, hvs]
      · obtain ⟨u', h1, h2⟩ := key ds vs d u hrest hu he hds
        refine ⟨u', ?_, h2⟩
        cases isMax <;> simp [execOp, ho, resolve, invoke, builtin, Builtin.max_, Builtin.min_, hvs] <;> simp at h1 <;> rw [h1] <;> rfl
end
end Go.Ab
