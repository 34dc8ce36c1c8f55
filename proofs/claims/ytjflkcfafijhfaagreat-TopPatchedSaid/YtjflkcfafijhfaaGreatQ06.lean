import Derived.Test.YtjflkcfafijhfaaGreatQ05
import Derived.Great.BuildSlice
set_option linter.unusedSectionVars false
/- DERIVED. The abstract operations that make memory, or write it, are sound. No program here. -/
namespace Go.Ab
open Go.RowKit
variable [Lay]
structure Rws (φ : Pl) (D : Nat → Prop) (w : World) (vs : List Value) (es : List (List Dat)) (st : Nat) : Prop where
 len : vs.length = es.length * st
 one : ∀ v ∈ vs, v.oneCell' = true
 el : ∀ (k : Nat) e, es[k]? = some e → e.length = st ∧ ∀ (j : Nat) d, e[j]? = some d → ∃ u, vs[k * st + j]? = some u ∧ RV φ D w u d
section
variable {φ φ' : Pl} {D D' : Nat → Prop} {w w' : World} {vs us : List Value} {es fs : List (List Dat)} {st : Nat}
theorem Rws.nil : Rws φ D w [] [] st := ⟨by simp, fun v h => by simp at h, fun k e h => by simp at h⟩
theorem Rws.keep (h : Rws φ D w vs es st) (hφ : PlLe φ φ') (hD : ∀ b, D b → b < w.heap.size → D' b) (hk : Ext D w w') : Rws φ' D' w' vs es st :=
 ⟨h.len, h.one, fun k e he => ⟨(h.el k e he).1, fun j d hd => by obtain ⟨u, hu, hr⟩ := (h.el k e he).2 j d hd; exact ⟨u, hu, RV.keep hφ hD hk hr⟩⟩⟩
theorem Rws.append (h : Rws φ D w vs es st) (k : Rws φ D w us fs st) : Rws φ D w (vs ++ us) (es ++ fs) st where
 len := by simp [h.len, k.len, Nat.add_mul]
 one := fun v hv => by rcases List.mem_append.1 hv with h1 | h1; exact h.one v h1; exact k.one v h1
 el := fun i e he => by
  rcases Nat.lt_or_ge i es.length with hi | hi
  ·rw [List.getElem?_append_left hi] at he
   refine ⟨(h.el i e he).1, fun j d hd => ?_⟩
   obtain ⟨u, hu, hr⟩ := (h.el i e he).2 j d hd
   exact ⟨u, by rw [List.getElem?_append_left (List.getElem?_eq_some_iff.1 hu).1]; exact hu, hr⟩
  ·rw [List.getElem?_append_right hi] at he
   refine ⟨(k.el _ e he).1, fun j d hd => ?_⟩
   obtain ⟨u, hu, hr⟩ := (k.el _ e he).2 j d hd
   have e1 : i * st + j = vs.length + ((i - es.length) * st + j) := by
    rw [h.len]
    have : i * st = es.length * st + (i - es.length) * st := by rw [← Nat.add_mul]; congr 1; omega
    omega
   refine ⟨u, ?_, hr⟩
   rw [e1, List.getElem?_append_right (by omega), Nat.add_sub_cancel_left]; exact hu
theorem Rws.one_row {cs : List Value} {ds : List Dat} (h : RVs φ D w cs ds) (hl : ds.length = st) (h1 : ∀ v ∈ cs, v.oneCell' = true) : Rws φ D w cs [ds] st :=
 ⟨by simp [h.1, hl], h1, fun k e he => by
  match k, he with
  | 0, he =>
   simp at he
   subst he
   refine ⟨hl, fun j d hd => ?_⟩
   have hj : j < cs.length := by rw [h.1]; exact (List.getElem?_eq_some_iff.1 hd).1
   exact ⟨cs[j], by simp [hj], h.2 j _ d (by simp) hd⟩⟩
theorem Rws.le_size {arr : Array Value} (h : Rws φ D w vs es st) (hp : ∀ (j : Nat) u, vs[j]? = some u → arr[j]? = some u) : es.length * st ≤ arr.size := by
 rw [← h.len]
 rcases Nat.eq_zero_or_pos vs.length with h0 | h0
 ·omega
 ·have := hp (vs.length - 1) (vs[vs.length - 1]) (by simp)
  have := (Array.getElem?_eq_some_iff.1 this).1
  omega
theorem Rws.lies {arr : Array Value} {g e : Nat} {fz : Bool} (h : Rws φ D w vs es st) (hg : w.heap[g]? = some (.cells arr e (0, 0))) (hp : ∀ (j : Nat) u, vs[j]? = some u → arr[j]? = some u) : Lies φ D w g ⟨e, st, fz, es⟩ :=
 ⟨arr, hg, h.le_size hp, fun k el he => ⟨(h.el k el he).1, fun j d hd => by
  obtain ⟨u, hu, hr⟩ := (h.el k el he).2 j d hd
  exact ⟨u, hp _ u hu, h.one u (List.mem_of_getElem? hu), hr⟩⟩⟩
theorem Lies.rows {g n : Nat} {B : Blk} (h : Lies φ D w g B) (hn : n ≤ B.es.length) (hst : 0 < B.st) :
  ∃ arr : Array Value, w.heap[g]? = some (.cells arr B.e (0, 0)) ∧ Rws φ D w (arr.toList.take (n * B.st)) (B.es.take n) B.st := by
 obtain ⟨arr, h1, h2, h3⟩ := h
 have hle : n * B.st ≤ B.es.length * B.st := Nat.mul_le_mul_right _ hn
 refine ⟨arr, h1, by simp; rw [Nat.min_eq_left (by omega), Nat.min_eq_left hn], fun v hv => ?_, fun k e he => ?_⟩
 ·obtain ⟨i, hi, rfl⟩ := List.mem_iff_getElem.1 hv
  have hi' : i < n * B.st := by simp at hi; omega
  have hk : i / B.st < n := (Nat.div_lt_iff_lt_mul hst).2 hi'
  have he : B.es[i / B.st]? = some (B.es[i / B.st]'(by omega)) := List.getElem?_eq_getElem _
  obtain ⟨hl, hc⟩ := h3 _ _ he
  have hm : i % B.st < B.st := Nat.mod_lt _ hst
  obtain ⟨u, hu, ho, _⟩ := hc (i % B.st) _ (List.getElem?_eq_getElem (by omega))
  have e1 : i / B.st * B.st + i % B.st = i := by rw [Nat.mul_comm]; exact Nat.div_add_mod i B.st
  rw [e1] at hu
  have hu' := (Array.getElem?_eq_some_iff.1 hu)
  simp only [List.getElem_take, Array.getElem_toList]
  rw [hu'.2]; exact ho
 ·rw [List.getElem?_take] at he
  split at he
  ·rename_i hk
   refine ⟨(h3 k e he).1, fun j d hd => ?_⟩
   obtain ⟨u, hu, _, hr⟩ := (h3 k e he).2 j d hd
   refine ⟨u, ?_, hr⟩
   have hj : j < B.st := by rw [← (h3 k e he).1]; exact (List.getElem?_eq_some_iff.1 hd).1
   have hlt : k * B.st + j < n * B.st := by
    have : (k + 1) * B.st ≤ n * B.st := Nat.mul_le_mul_right _ hk
    rw [Nat.add_mul, Nat.one_mul] at this
    omega
   rw [List.getElem?_take, if_pos hlt]; simpa using hu
  ·cases he
end
section
variable {P : Program} {X : Cx} {S S' : Nat → Prop} {σ : St} {i : Nat}
theorem goes_var {o : Oper} {e : Nat} {st : Nat} {ds : List Dat} (hn : ¬ S i) (hS : ∀ j, S j → S' j) (hS' : S' i) (hl : ds.length = st)
  (h : ∀ a w φ D, Sim X S σ a w φ D → ∃ cells : Array Value, (execOp a.eval o).run P w = .ok (.value (.pointer (some ⟨w.heap.size, 0, none⟩))) (w.alloc (.cells cells e)) ∧ RVs φ D w cells.toList ds ∧ ∀ v ∈ cells.toList, v.oneCell' = true) :
  Goes P X S S' o σ (σ.app o.dst { val := .ptr (σ.n + i) 0 0 st, wr := [(σ.n + i, some ⟨e, st, false, [ds]⟩)] }) := by
 intro a w φ D hs K Q hK
 obtain ⟨cells, hr, hv, h1⟩ := h a w φ D hs
 unfold Oper.wp
 rw [hr, Oper.upon_value]
 have hfr := hs.hs.fresh (σ.n + i) (by omega) (by rw [Nat.add_sub_cancel_left]; exact hn)
 have hle := PlLe.upd (φ := φ) hfr (some w.heap.size)
 have hrw : Rws (upd φ (σ.n + i) (some (some w.heap.size))) D (w.alloc (.cells cells e)) cells.toList [ds] st := (Rws.one_row hv hl h1).keep hle (fun _ h _ => h) (Ext.alloc _ _ _)
 have hnew := hs.hs.new (S' := S') (i := σ.n + i) (g := w.heap.size) (row := none) (B := ⟨e, st, false, [ds]⟩) (by omega) (by rw [Nat.add_sub_cancel_left]; exact hn) hS (by rw [Nat.add_sub_cancel_left]; exact hS')
  (Chg.alloc w (.cells cells e)) (fun r hr => by cases hr) (.inl (Nat.le_refl _)) (hrw.lies (heap_alloc_new w _) (fun j u hu => by simpa using hu)) rfl
 refine hK _ _ _ _ (hs.step hnew hle (fun _ h _ => h) (Ext.alloc _ _ _) ?_)
 have := RV.ptr (φ := upd φ (σ.n + i) (some (some w.heap.size))) (D := D) (w := w.alloc (.cells cells e)) (σ.n + i) w.heap.size 0 0 st (upd_same _ _ _)
 simpa using this
theorem goes_alloc {o : Oper} {e : TypeId} (ho : o.op = .alloc e) {x : TI} (ht : ti P e = some x) (hl : x.zero.length = x.sz) (h1 : allOne x.zero = true) (hn : ¬ S i) (hS : ∀ j, S j → S' j) (hS' : S' i) :
  Goes P X S S' o σ (σ.app o.dst { val := .ptr (σ.n + i) 0 0 x.sz, wr := [(σ.n + i, some ⟨e, x.sz, false, [x.zero]⟩)] }) :=
 goes_var hn hS hS' hl fun a w φ D hs => by
  obtain ⟨i', u, z, g1, g2, g3, g4, g5, g6, g7, g8⟩ := ti_some ht
  have hv : RVs φ D w z.cells.toList x.zero := by rw [← g8]; exact RVs_map fun v _ => RV_datOf1 v
  refine ⟨z.cells, ?_, hv, hv.one h1⟩
  simp [execOp, ho, Instr.alloc, zeroValue, typeInfo, g1, g3, newVar, newRow]
theorem goes_box {o : Oper} {e : TypeId} {v : Operand} (ho : o.op = .box e v) {st : Nat} (hl : (σ.ev v).cells.length = st) (h1 : allOne (σ.ev v).cells = true) (hn : ¬ S i) (hS : ∀ j, S j → S' j) (hS' : S' i) :
  Goes P X S S' o σ (σ.app o.dst { val := .ptr (σ.n + i) 0 0 st, wr := [(σ.n + i, some ⟨e, st, false, [(σ.ev v).cells]⟩)] }) :=
 goes_var hn hS hS' hl fun a w φ D hs => by
  have hv := (hs.ev v).cells
  refine ⟨(a.eval v).cells, ?_, hv, hv.one h1⟩
  simp [execOp, ho, Instr.box, newVar, newRow]
theorem chg_setRow {w : World} {g : Nat} {cur cs : Array Value} {t : TypeId} (hg : w.heap[g]? = some (.cells cur t (0, 0))) (hl : cs.size = cur.size) : Chg w (w.setRow g cs) (some g) where
 os := rfl
 tape := rfl
 output := rfl
 size := by simp
 shape := fun k hk => by
  by_cases e : k = g
  ·subst e
   simp [World.shape?, setRow_heap w k cur cs t _ hg, hg, hl]
  ·exact shape_of_heap (setRow_other w g k cs e)
 block := fun k hk hne => setRow_other w g k cs (fun e => hne (by rw [e]))
theorem goes_store {o : Oper} {t : TypeId} {a v : Operand} (ho : o.op = .store t a v) {x : TI} (ht : ti P t = some x) {e : Ef} (he : evStore σ x (σ.ev a) (σ.ev v) = some e) (hs : e.side) (hS : ∀ j, S j → S' j) :
  Goes P X S S' o σ (σ.app o.dst e) := by
 unfold evStore at he
 split at he
 ·rename_i i k j st hev
  split at he
  ·rename_i B hB
   injection he with he
   subst he
   obtain ⟨h1, h2, h3, h4, h5, h6⟩ := hs
   intro A w φ D hsim K Q hK
   have hv := hsim.ev a
   rw [hev] at hv
   obtain ⟨g, hp, hA⟩ := hv.ptr_inv
   have hl := hsim.lies hB hp
   have hcv := (hsim.ev v).cells
   have hone := hcv.one h5
   have hlen : (A.eval v).cells.toList.length = x.sz := by rw [hcv.1, h4]
   have hlen' : (A.eval v).cells.size = x.sz := by simpa using hlen
   obtain ⟨arr, l1, l2, l3⟩ := hl
   have hfit : k * st + j + x.sz ≤ arr.size := by
    have : (k + 1) * B.st ≤ B.es.length * B.st := Nat.mul_le_mul_right _ h1
    rw [Nat.add_mul, Nat.one_mul, h3] at this
    rw [h3] at l2
    omega
   have hst := run_storeCells_at P g (k * st + j) B.e (A.eval v).cells.toList 0 arr w l1 (by rw [hlen]; omega) hone
   rw [Nat.add_zero] at hst
   unfold Oper.wp
   have hsz := ti_sizeOf ht w
   have hrun : (execOp A.eval o).run P w = .ok .skip (w.setRow g (arr.toList.take (k * st + j) ++ (A.eval v).cells.toList ++ arr.toList.drop (k * st + j + (A.eval v).cells.toList.length)).toArray) := by
    simp only [execOp, ho, hA, Instr.storeAt, Instr.sureAddr, Sem.run_bind, Sem.run_pure, Result.andThen_ok, storeVar, hsz, hlen']
    simp only [ne_eq, not_true_eq_false, if_false, Sem.run_bind, Sem.run_pure, Result.andThen_ok, hst]
   rw [hrun, Oper.upon_skip]
   generalize hW : w.setRow g _ = W
   have hsize : (arr.toList.take (k * st + j) ++ (A.eval v).cells.toList ++ arr.toList.drop (k * st + j + (A.eval v).cells.toList.length)).toArray.size = arr.size := by
    simp only [List.size_toArray, List.length_append, List.length_take, List.length_drop, Array.length_toList]
    rw [← Array.length_toList, hlen']
    have : (arr.toList).length = arr.size := by simp
    omega
   have hchg : Chg w W (some g) := by rw [← hW]; exact chg_setRow l1 hsize
   have hnD : ¬ D g := by
    rcases hsim.hs.live i B hB with ⟨q, _⟩ | ⟨g', q, _, _, q4⟩
    ·rw [hp] at q; cases q
    ·rw [hp] at q; injection q with q; injection q with q; subst q; exact (q4 h6).1
   have hext : Ext D w W := hchg.ext (fun r hr => by injection hr with hr; subst hr; exact hnD)
   have hheap : W.heap[g]? = some (.cells (arr.toList.take (k * st + j) ++ (A.eval v).cells.toList ++ arr.toList.drop (k * st + j + (A.eval v).cells.toList.length)).toArray B.e (0, 0)) := by
    rw [← hW]; exact setRow_heap w g arr _ B.e _ l1
   have hget : ∀ n, ((arr.toList.take (k * st + j) ++ (A.eval v).cells.toList ++ arr.toList.drop (k * st + j + (A.eval v).cells.toList.length)).toArray)[n]? = if k * st + j ≤ n ∧ n < k * st + j + x.sz then (A.eval v).cells.toList[n - (k * st + j)]? else arr[n]? := fun n => by
    rw [List.getElem?_toArray, splice_get _ _ _ (by rw [hlen]; simpa using hfit), hlen]
    simp
   have hmul : ∀ q, q ≠ k → ∀ m, m < st → ¬ (k * st + j ≤ q * st + m ∧ q * st + m < k * st + j + x.sz) := fun q hq m hm => by
    rcases Nat.lt_or_ge q k with h | h
    ·have : (q + 1) * st ≤ k * st := Nat.mul_le_mul_right _ h
     rw [Nat.add_mul, Nat.one_mul] at this
     omega
    ·have : (k + 1) * st ≤ q * st := Nat.mul_le_mul_right _ (by omega)
     rw [Nat.add_mul, Nat.one_mul] at this
     omega
   have hkeep : ∀ u d, RV φ D w u d → RV φ D W u d := fun u d h => RV.keep (PlLe.refl _) (fun _ h _ => h) hext h
   have hke : B.es[k]? = some (B.es.getD k []) := by rw [List.getD_eq_getElem?_getD, List.getElem?_eq_getElem h1]; rfl
   have hnew : Lies φ D W g { B with es := B.es.set k (if j = 0 ∧ x.sz = st then (σ.ev v).cells else setR (B.es.getD k []) j (σ.ev v).cells) } := by
    refine ⟨_, hheap, ?_, fun q el hel => ?_⟩
    ·rw [hsize]; simpa using l2
    ·simp only at hel
     rw [List.getElem?_set] at hel
     by_cases hq : k = q
     ·subst hq
      rw [if_pos rfl, if_pos h1] at hel
      injection hel with hel
      obtain ⟨e1, e2⟩ := l3 k _ hke
      have hlens : el.length = st := by
       rw [← hel]; split
       ·rename_i hc; rw [h4, hc.2]
       ·rw [setR_len, e1, h3]
      refine ⟨by rw [hlens]; exact h3.symm, fun m d hd => ?_⟩
      have hm : m < st := by rw [← hlens]; exact (List.getElem?_eq_some_iff.1 hd).1
      have hd' : d ∈ (if j ≤ m ∧ m < j + x.sz then (σ.ev v).cells[m - j]? else (B.es.getD k [])[m]?) := by
       rw [← hel] at hd
       split at hd
       ·rename_i hc
        rw [if_pos (by omega), hc.1, Nat.sub_zero]; exact hd
       ·rw [setR_get, h4] at hd
        by_cases hc : j ≤ m ∧ m < j + x.sz
        ·rw [if_pos hc]; rw [if_pos ⟨hc.1, hc.2, by rw [e1, h3]; exact hm⟩] at hd; exact hd
        ·rw [if_neg hc]; rw [if_neg (fun h => hc ⟨h.1, h.2.1⟩)] at hd; exact hd
      show ∃ u, _ ∧ _ ∧ RV φ D W u d
      simp only [h3]
      rw [hget]
      by_cases hc : j ≤ m ∧ m < j + x.sz
      ·rw [if_pos hc] at hd'
       rw [if_pos (by omega), show k * st + m - (k * st + j) = m - j by omega]
       have hlt : m - j < (A.eval v).cells.toList.length := by omega
       refine ⟨(A.eval v).cells.toList[m - j], List.getElem?_eq_getElem hlt, hone _ (List.getElem_mem hlt), hkeep _ _ (hcv.2 _ _ d (List.getElem?_eq_getElem hlt) hd')⟩
      ·rw [if_neg hc] at hd'
       rw [if_neg (by omega)]
       obtain ⟨u, q1, q2, q3⟩ := e2 m d hd'
       rw [h3] at q1
       exact ⟨u, q1, q2, hkeep _ _ q3⟩
     ·rw [if_neg hq] at hel
      obtain ⟨e1, e2⟩ := l3 q el hel
      refine ⟨e1, fun m d hd => ?_⟩
      obtain ⟨u, q1, q2, q3⟩ := e2 m d hd
      have hm : m < st := by rw [← h3, ← e1]; exact (List.getElem?_eq_some_iff.1 hd).1
      refine ⟨u, ?_, q2, hkeep _ _ q3⟩
      show ((arr.toList.take (k * st + j) ++ (A.eval v).cells.toList ++ arr.toList.drop (k * st + j + (A.eval v).cells.toList.length)).toArray)[q * B.st + m]? = some u
      rw [hget, h3, if_neg (hmul q (fun e => hq e.symm) m hm), ← h3]
      exact q1
   have hw := hsim.hs.write hB hp h6 hchg hnew h6
   exact hK _ _ _ _ ((hsim.step (d := .oth undef) hw (PlLe.refl _) (fun _ h _ => h) hext (.oth _)).more hS)
  ·cases he
 ·cases he
end
end Go.Ab
