import Derived.Test.YtjflkcfafijhfaaGreatQ10
import Derived.Laws.IdiomStrings
set_option linter.unusedSectionVars false
/- DERIVED. A string's bytes: appended, and as a new slice. No program here. -/
namespace Go.Ab
open Go.RowKit
variable [Lay]
def strCells (s : ByteArray) : List (List Dat) := s.data.toList.map fun b => [.int .u8 (b.toNat : Int)]
def strVals (s : ByteArray) : List Value := s.data.toList.map fun b => Value.int .u8 (b.toNat : Int)
theorem strCells_len (s : ByteArray) : (strCells s).length = s.size := by rw [strCells, List.length_map, Array.length_toList]; rfl
theorem strVals_len (s : ByteArray) : (strVals s).length = s.size := by rw [strVals, List.length_map, Array.length_toList]; rfl
theorem strVals_one (s : ByteArray) : ∀ u ∈ strVals s, u.oneCell' = true := fun u hu => by
 obtain ⟨_, _, rfl⟩ := List.mem_map.1 hu
 rfl
theorem firstCells_str {P : Program} (s : ByteArray) (w : World) : (Builtin.firstCells 1 s.size (.string s)).run P w = .ok (strVals s).toArray w := by
 simp [Builtin.firstCells, strVals]
 apply Array.ext'
 simp
theorem str_rws {φ : Pl} {D : Nat → Prop} {w : World} (s : ByteArray) : Rws φ D w (strVals s) (strCells s) 1 where
 len := by rw [strVals_len, strCells_len, Nat.mul_one]
 one := strVals_one s
 el := fun k e he => by
  unfold strCells at he
  rw [List.getElem?_map] at he
  cases hb : s.data.toList[k]? with
  | none => rw [hb] at he; cases he
  | some b =>
   rw [hb] at he
   simp only [Option.map_some, Option.some.injEq] at he
   subst he
   refine ⟨rfl, fun j d hd => ?_⟩
   cases j with
   | succ j => simp at hd
   | zero =>
    simp at hd; subst hd
    refine ⟨.int .u8 (b.toNat : Int), ?_, .int _ _⟩
    unfold strVals
    rw [Nat.mul_one, Nat.add_zero, List.getElem?_map, hb]; rfl
section
variable {P : Program} (w : World)
theorem run_apps_0 {t u ty e : TypeId} {i : TypeInfo} (ht : P.underlying t = some (.slice e)) (hu : P.underlying u = some .string) (hi : P.info? e = some i) (h1 : i.size = 1) (base : Option Addr) (n cap : Nat) (h : n ≤ cap) (s : ByteArray) (h0 : s.size = 0) :
  (Builtin.append_ #[t, u] ty #[.slice base n cap, .string s]).run P w = .ok (.slice base n cap) w := by
 have hf := firstCells_str (P := P) s w
 have hv : strVals s = [] := List.eq_nil_of_length_eq_zero (by rw [strVals_len]; exact h0)
 rw [h0, hv] at hf
 cases base <;> simp [Builtin.append_, run_underlying ht, run_underlying hu, sizeOf, typeInfo, hi, h1, Builtin.lenOf, h0, h, hf, storeCells]
theorem run_apps_room {t u ty e : TypeId} {i : TypeInfo} (ht : P.underlying t = some (.slice e)) (hu : P.underlying u = some .string) (hi : P.info? e = some i) (h1 : i.size = 1)
  (g sLen sCap : Nat) (cur : Array Value) (hg : w.heap[g]? = some (.cells cur e (0, 0))) (s : ByteArray)
  (hroom : sLen + s.size ≤ sCap) (hfit : sLen * i.size + (strVals s).length ≤ cur.size) :
  (Builtin.append_ #[t, u] ty #[.slice (some ⟨g, 0, none⟩) sLen sCap, .string s]).run P w =
   .ok (.slice (some ⟨g, 0, none⟩) (sLen + s.size) sCap) (w.setRow g (cur.toList.take (sLen * i.size) ++ strVals s ++ cur.toList.drop (sLen * i.size + (strVals s).length)).toArray) := by
 have hf := firstCells_str (P := P) s w
 have hst := run_storeCells_at P g (sLen * i.size) e (strVals s) 0 cur w hg (by simpa using hfit) (strVals_one s)
 rw [h1] at hst ⊢
 simp only [Nat.add_zero] at hst
 simp [Builtin.append_, run_underlying ht, run_underlying hu, sizeOf, typeInfo, hi, h1, Builtin.lenOf, hroom, hf, Addr.add_lit]
 simp only [Nat.mul_one] at hst
 rw [hst]; simp
theorem run_apps_grow {t u ty e : TypeId} {i : TypeInfo} {z : Value} (ht : P.underlying t = some (.slice e)) (hu : P.underlying u = some .string) (hi : P.info? e = some i) (hz : i.zero = some z) (h1 : i.size = 1)
  (base : Option Addr) (sLen sCap : Nat) (olds : List Value) (hold : (Builtin.firstCells i.size sLen (.slice base sLen sCap)).run P w.drew = .ok olds.toArray w.drew) (s : ByteArray)
  (hg : sCap < sLen + s.size) (h63 : ((sLen + s.size : Nat) : Int) ≤ 9223372036854775807) (hfit : Builtin.nextslicecap (sLen + s.size) sCap * i.bytes ≤ 281474976710656) :
  (Builtin.append_ #[t, u] ty #[.slice base sLen sCap, .string s]).run P w =
   .ok (.slice (some ⟨w.heap.size, 0, none⟩) (sLen + s.size) (grownCap w (sLen + s.size) sCap e))
    (w.drew.alloc (.cells ((olds ++ strVals s).toArray ++ Builtin.zeroCells z.cells (grownCap w (sLen + s.size) sCap e - (sLen + s.size))) e)) := by
 have hn : ¬ (sLen + s.size ≤ sCap) := by omega
 have h63' : ¬ (9223372036854775807 < ((sLen : Int) + (s.size : Int))) := by omega
 have h48' : ¬ (281474976710656 < Builtin.nextslicecap (sLen + s.size) sCap * i.bytes) := by omega
 have hf := firstCells_str (P := P) s w.drew
 rw [h1] at hold
 simp [Builtin.append_, run_underlying ht, run_underlying hu, sizeOf, typeInfo, zeroValue, hi, hz, h1, Builtin.lenOf, hn, h63', h48', Question.forced, hf, hold, newRow, grownCap]
 congr 2
 apply Array.ext'
 simp [List.append_assoc]
end
def evAppStr (P : Program) (σ : St) (i : Nat) (t1 t2 : TypeId) (s : Dat) (x : ByteArray) : Option Ef :=
 match ti P t1 with
 | some ⟨_, _, _, _, .slice e⟩ => match ti P e with
  | some y => match s with
   | .nil => some { val := .ref (σ.n + i) 0 x.size y.sz, rd := [], wr := [(σ.n + i, some ⟨e, y.sz, false, strCells x⟩)], side := y.sz = 1 ∧ 0 < y.bytes ∧ y.zero.length = y.sz ∧ x.size * y.bytes ≤ 140737488355328 }
   | .ref j off len st => match σ.h j with
    | some B => some { val := .ref (σ.n + i) 0 (len + x.size) y.sz, rd := [j], wr := [(j, none), (σ.n + i, some ⟨e, y.sz, false, (if len = B.es.length then B.es else B.es.take len) ++ strCells x⟩)], side := off = 0 ∧ st = y.sz ∧ B.st = y.sz ∧ B.e = e ∧ B.fz = false ∧ len ≤ B.es.length ∧ y.sz = 1 ∧ 0 < y.bytes ∧ y.zero.length = y.sz ∧ (len + x.size) * y.bytes ≤ 140737488355328 }
    | none => none
   | _ => none
  | none => none
 | _ => none
theorem run_app2 {P : Program} {o : Oper} {s x : Operand} {t u : TypeId} {a : Act} {w w' : World} {v : Value} (ho : o.op = .call { callee := .builtin .append, args := #[s, x], argTypes := #[t, u] })
  (h : (Builtin.append_ #[t, u] o.type #[a.eval s, a.eval x]).run P w = .ok v w') : (execOp a.eval o).run P w = .ok (.value v) w' := by
 unfold execOp
 simp only [ho, resolve, invoke, builtin, Sem.run_bind, Sem.run_pure, Result.andThen_ok, List.map_toArray, List.map_cons, List.map_nil]
 rw [h]; rfl
section
variable {P : Program} {X : Cx} {S S' : Nat → Prop} {σ : St} {i : Nat}
theorem goes_appstr {o : Oper} {s x : Operand} {t1 t2 : TypeId} {str : ByteArray} (ho : o.op = .call { callee := .builtin .append, args := #[s, x], argTypes := #[t1, t2] }) (hxs : σ.ev x = .str str) (s0 : P.underlying t2 = some .string) {e : Ef} (he : evAppStr P σ i t1 t2 (σ.ev s) str = some e) (hs : e.side)
  (hn : ¬ S i) (hS : ∀ j, S j → S' j) (hS' : S' i) : Goes P X S S' o σ (σ.app o.dst e) := by
 unfold evAppStr at he
 split at he
 case h_2 => cases he
 rename_i sz' by' ag ze el ht
 obtain ⟨it, u, z, h1, h2, h3, h4, h5, h6, h7, h8⟩ := ti_some ht
 obtain rfl := tk_slice h7
 split at he
 case h_2 => cases he
 rename_i y hy
 obtain ⟨xs, hxe⟩ : ∃ xs, xs = strCells str := ⟨_, rfl⟩
 have hxl0 : xs.length = str.size := by rw [hxe, strCells_len]
 rw [← hxe] at he
 rw [← hxl0] at he
 obtain ⟨ie, ue, z', g1, g2, g3, g4, g5, g6, g7, g8⟩ := ti_some hy
 intro a w φ D hsim K Q hK
 have hfr := hsim.hs.fresh (σ.n + i) (by omega) (by rw [Nat.add_sub_cancel_left]; exact hn)
 have hni : ¬ S (σ.n + i - σ.n) := by rw [Nat.add_sub_cancel_left]; exact hn
 have hni' : S' (σ.n + i - σ.n) := by rw [Nat.add_sub_cancel_left]; exact hS'
 have hX := hsim.ev x
 have hV := hsim.ev s
 -- new memory for all
 have newmem : ∀ (hh : Nat → Option Blk), HS X S hh σ.n w φ D → 0 < y.sz → ∀ (cap : Nat) (vs : List Value) (es : List (List Dat)) (rest : Array Value), Rws φ D w vs es y.sz → es.length ≤ cap → cap ≤ maxLen → (vs.toArray ++ rest).size = cap * y.sz →
   (execOp a.eval o).run P w = .ok (.value (.slice (some ⟨w.heap.size, 0, none⟩) es.length cap)) (w.drew.alloc (.cells (vs.toArray ++ rest) el)) →
   o.wp P a w K Q ∨ ¬ (∀ a' w' φ' D', Sim X S' { σ.put o.dst (.ref (σ.n + i) 0 es.length y.sz) with h := upd hh (σ.n + i) (some ⟨el, y.sz, false, es⟩) } a' w' φ' D' → K a' w') := by
  intro hh hH hsz0 cap vs es rest hrw hlc hcm hsize hrun
  by_cases hc : (∀ a' w' φ' D', Sim X S' { σ.put o.dst (.ref (σ.n + i) 0 es.length y.sz) with h := upd hh (σ.n + i) (some ⟨el, y.sz, false, es⟩) } a' w' φ' D' → K a' w')
  ·left
   unfold Oper.wp
   rw [hrun, Oper.upon_value]
   have hle := PlLe.upd (φ := φ) hfr (some w.heap.size)
   have hchg : Chg w (w.drew.alloc (.cells (vs.toArray ++ rest) el)) none := (Chg.drew w).trans (Chg.alloc w.drew _)
   have hext : Ext D w (w.drew.alloc (.cells (vs.toArray ++ rest) el)) := hchg.ext (fun _ h => by cases h)
   have hheap := heap_alloc_new w.drew (.cells (vs.toArray ++ rest) el)
   have hl := (hrw.keep hle (fun _ h _ => h) hext).lies (fz := false) hheap (fun j u hu => by
    have hj : j < vs.length := (List.getElem?_eq_some_iff.1 hu).1
    rw [Array.getElem?_append_left (by simpa using hj)]; simpa using hu)
   have hnew := hH.new (S' := S') (i := σ.n + i) (g := w.heap.size) (row := none) (B := ⟨el, y.sz, false, es⟩) (by omega) hni hS hni' hchg (fun r hr => by cases hr) (.inl (Nat.le_refl _)) hl rfl
   refine hc _ _ _ _ (hsim.step hnew hle (fun _ h _ => h) hext ?_)
   have := RV.ref (φ := upd φ (σ.n + i) (some (some w.heap.size))) (D := D) (w := w.drew.alloc (.cells (vs.toArray ++ rest) el)) (σ.n + i) w.heap.size 0 es.length cap y.sz (upd_same _ _ _) hlc hcm ⟨el, by
    unfold World.shape?
    rw [show w.heap.size = w.drew.heap.size from rfl, hheap]
    simp only [Nat.zero_add]
    rw [hsize]⟩
   simpa using this
  ·exact .inr hc
 split at he
 ·-- onto nil
  rename_i hev
  injection he with he
  subst he
  obtain ⟨s1', s2, s3, s4⟩ := hs
  have s1 : 0 < y.sz := by omega
  have k1 : ie.size = 1 := by omega
  rw [hev] at hV
  have hVs := hV.nil_inv
  have hxv : a.eval x = .string str := by rw [hxs] at hX; exact hX.str_inv
  obtain ⟨news, hnws⟩ : ∃ news, news = strVals str := ⟨_, rfl⟩
  have hrw : Rws φ D w news xs y.sz := by rw [s1', hnws, hxe]; exact str_rws str
  by_cases hm0 : xs.length = 0
  ·have hx0 : xs = [] := List.eq_nil_of_length_eq_zero hm0
   subst hx0
   have hrun := run_app2 (P := P) (w := w) (w' := w) (v := .slice none 0 0) ho (by rw [hVs, hxv]; exact run_apps_0 w h2 s0 g1 k1 none 0 0 (Nat.le_refl _) str (by rw [← hxl0]; simp))
   unfold Oper.wp
   rw [hrun, Oper.upon_value]
   have hv := hsim.hs.virt (S' := S') (i := σ.n + i) (by omega) hni hS hni' el y.sz false
   have hle := PlLe.upd (φ := φ) hfr none
   exact hK _ _ _ _ (hsim.step hv hle (fun _ h _ => h) (Ext.refl _ _) (.refv _ _ (upd_same _ _ _)))
  ·have hnpos : 0 < news.length := by rw [hrw.len]; exact Nat.mul_pos (by omega) s1
   have hxl : xs.length ≤ xs.length * y.bytes := Nat.le_mul_of_pos_right _ s2
   have hrun0 := run_apps_grow (P := P) w h2 s0 g1 g3 k1 none 0 0 [] (ty := o.type) (run_firstCells_none w.drew ie.size 0 0 0) str (by omega) (by omega) (by rw [Nat.zero_add, ← hxl0]; exact growslice_fits (by omega) (by rw [g5]; omega))
   rw [← hnws, ← hxl0, Nat.zero_add, List.nil_append] at hrun0
   have hrun := run_app2 (P := P) ho (by rw [hVs, hxv]; exact hrun0)
   have hzs : z'.cells.size = y.sz := by have := congrArg List.length g8; rw [s3] at this; simpa using this
   have hcap := grownCap_ge w xs.length 0 el
   have hcapm := grownCap_le_maxLen w xs.length 0 el (by unfold maxLen; omega)
   refine (newmem σ.h hsim.hs s1 (grownCap w xs.length 0 el) news xs _ hrw hcap hcapm ?_ hrun).resolve_right (fun hc => hc hK)
   rw [Array.size_append, size_zeroCells, hzs, List.size_toArray, hrw.len, ← Nat.add_mul]
   congr 1; omega
 ·-- onto one of its own
  rename_i j off len st hev
  split at he
  case h_2 => cases he
  rename_i B hB
  injection he with he
  subst he
  obtain ⟨rfl, rfl, s1, s2, s3, s4, s5', s6, s7, s8⟩ := hs
  have s5 : 0 < y.sz := by omega
  have k1 : ie.size = 1 := by omega
  have hxv : a.eval x = .string str := by rw [hxs] at hX; exact hX.str_inv
  obtain ⟨news, hnws⟩ : ∃ news, news = strVals str := ⟨_, rfl⟩
  have hrw : Rws φ D w news xs y.sz := by rw [s5', hnws, hxe]; exact str_rws str
  rw [hev] at hV
  have hes : (if len = B.es.length then B.es else B.es.take len) = B.es.take len := by
   split
   ·rename_i hc; rw [hc]; simp
   ·rfl
  rw [hes] at hK
  have hlen : (B.es.take len).length = len := by simp; omega
  have hlen2 : (B.es.take len ++ xs).length = len + xs.length := by rw [List.length_append, hlen]
  have hdrop := hsim.hs.drop j
  have hxl : len + xs.length ≤ (len + xs.length) * y.bytes := Nat.le_mul_of_pos_right _ s6
  have hzs : z'.cells.size = y.sz := by have := congrArg List.length g8; rw [s7] at this; simpa using this
  generalize hva : a.eval s = va at hV
  cases hV with
  | refv _ _ hφ =>
   have htake : B.es.take 0 ++ xs = xs := by simp
   simp only [htake, Nat.zero_add] at *
   by_cases hm0 : xs.length = 0
   ·have hx0 : xs = [] := List.eq_nil_of_length_eq_zero hm0
    subst hx0
    have hrun := run_app2 (P := P) (w := w) (w' := w) (v := .slice none 0 0) ho (by rw [hva, hxv]; exact run_apps_0 w h2 s0 g1 k1 none 0 0 (Nat.le_refl _) str (by rw [← hxl0]; simp))
    unfold Oper.wp
    rw [hrun, Oper.upon_value]
    have hv := hdrop.virt (S' := S') (i := σ.n + i) (by omega) hni hS hni' el y.sz false
    have hle := PlLe.upd (φ := φ) hfr none
    exact hK _ _ _ _ (hsim.step hv hle (fun _ h _ => h) (Ext.refl _ _) (.refv _ _ (upd_same _ _ _)))
   ·have hnpos : 0 < news.length := by rw [hrw.len]; exact Nat.mul_pos (by omega) s5
    have hrun0 := run_apps_grow (P := P) w h2 s0 g1 g3 k1 none 0 0 [] (ty := o.type) (run_firstCells_none w.drew ie.size 0 0 0) str (by omega) (by omega) (by rw [Nat.zero_add, ← hxl0]; exact growslice_fits (by omega) (by rw [g5]; omega))
    rw [← hnws, ← hxl0, Nat.zero_add, List.nil_append] at hrun0
    have hrun := run_app2 (P := P) ho (by rw [hva, hxv]; exact hrun0)
    have hcap := grownCap_ge w xs.length 0 el
    have hcapm := grownCap_le_maxLen w xs.length 0 el (by unfold maxLen; omega)
    refine (newmem _ hdrop s5 (grownCap w xs.length 0 el) news xs _ hrw hcap hcapm ?_ hrun).resolve_right (fun hc => hc hK)
    rw [Array.size_append, size_zeroCells, hzs, List.size_toArray, hrw.len, ← Nat.add_mul]
    congr 1; omega
  | ref0 _ _ _ A' h0 => omega
  | ref _ g _ _ cap _ hφ hlc hc hshape =>
   simp only [Nat.zero_mul, Nat.zero_add] at *
   have hl := hsim.lies hB hφ
   obtain ⟨arr, a1, a2⟩ := hl.rows (n := len) s4 (by omega)
   rw [s1] at a2
   have harr : arr.size = cap * y.sz := by
    obtain ⟨e', he'⟩ := hshape
    unfold World.shape? at he'
    rw [a1] at he'
    simp at he'
    exact he'.2
   rw [s2] at a1
   have hgD : ¬ D g ∧ (X.L0 g ∨ X.w0.heap.size ≤ g) := by
    rcases hsim.hs.live j B hB with ⟨q, _⟩ | ⟨g', q, _, _, q4⟩
    ·rw [hφ] at q; cases q
    ·rw [hφ] at q; injection q with q; injection q with q; subst q; exact q4 s3
   have hnone : ∀ k C, upd σ.h j none k = some C → φ k ≠ some (some g) := fun k C hk hp => by
    by_cases e : k = j
    ·subst e; rw [upd_same] at hk; cases hk
    ·rw [upd_ne _ _ e] at hk
     exact e (hsim.hs.inj j k B C g hB hk hφ hp s3).symm
   have hle := PlLe.upd (φ := φ) hfr (some g)
   have hcomb := a2.append hrw
   have inplace : ∀ (w' : World) (arr' : Array Value), Chg w w' (some g) → w'.heap[g]? = some (.cells arr' el (0, 0)) → arr'.size = arr.size → (∀ (k : Nat) u, (arr.toList.take (len * y.sz) ++ news)[k]? = some u → arr'[k]? = some u) → len + xs.length ≤ cap →
     (execOp a.eval o).run P w = .ok (.value (.slice (some ⟨g, 0, none⟩) (len + xs.length) cap)) w' → o.wp P a w K Q := by
    intro w' arr' hchg hheap hsize hpre hroom hrun
    unfold Oper.wp
    rw [hrun, Oper.upon_value]
    have hext : Ext D w w' := hchg.ext (fun r hr => by injection hr with hr; subst hr; exact hgD.1)
    have hl' := (hcomb.keep hle (fun _ h _ => h) hext).lies (fz := false) hheap hpre
    have hnew := hdrop.new (S' := S') (i := σ.n + i) (g := g) (row := some g) (B := ⟨el, y.sz, false, B.es.take len ++ xs⟩) (by omega) hni hS hni' hchg
     (fun r hr => by injection hr with hr; subst hr; exact ⟨hgD, hnone⟩) (.inr rfl) hl' rfl
    refine hK _ _ _ _ (hsim.step hnew hle (fun _ h _ => h) hext ?_)
    have := RV.ref (φ := upd φ (σ.n + i) (some (some g))) (D := D) (w := w') (σ.n + i) g 0 (len + xs.length) cap y.sz (upd_same _ _ _) hroom hc ⟨el, by
     unfold World.shape?
     rw [hheap]
     simp only [Nat.zero_add]
     rw [hsize, harr]⟩
    simpa using this
   by_cases hm0 : xs.length = 0
   ·have hx0 : xs = [] := List.eq_nil_of_length_eq_zero hm0
    subst hx0
    have hrun := run_app2 (P := P) (w := w) (w' := w) (v := .slice (some ⟨g, 0, none⟩) len cap) ho (by rw [hva, hxv]; exact run_apps_0 w h2 s0 g1 k1 (some ⟨g, 0, none⟩) len cap hlc str (by rw [← hxl0]; simp))
    have hnews : news = [] := List.eq_nil_of_length_eq_zero (by rw [hrw.len]; simp)
    subst hnews
    exact inplace w arr ⟨rfl, rfl, rfl, Nat.le_refl _, fun _ _ => rfl, fun _ _ _ => rfl⟩ a1 rfl (fun k u hu => by
     rw [List.append_nil, List.getElem?_take] at hu
     split at hu
     ·simpa using hu
     ·cases hu) hlc hrun
   ·have hnpos : 0 < news.length := by rw [hrw.len]; exact Nat.mul_pos (by omega) s5
    have htl : (arr.toList.take (len * y.sz)).length = len * y.sz := by rw [a2.len, hlen]
    by_cases hroom : len + xs.length ≤ cap
    ·have hfit : len * ie.size + news.length ≤ arr.size := by rw [g4, hrw.len, harr, ← Nat.add_mul]; exact Nat.mul_le_mul_right _ hroom
     have hrun0 := run_apps_room (P := P) w h2 s0 g1 k1 g len cap arr a1 str (ty := o.type) (by rw [← hxl0]; exact hroom) (by rw [← hnws]; exact hfit)
     rw [← hnws, ← hxl0] at hrun0
     have hrun := run_app2 (P := P) ho (by rw [hva, hxv]; exact hrun0)
     have hsize : ((arr.toList.take (len * ie.size) ++ news ++ arr.toList.drop (len * ie.size + news.length)).toArray).size = arr.size := by
      simp only [List.size_toArray, List.length_append, List.length_take, List.length_drop, Array.length_toList]
      omega
     refine inplace _ _ (chg_setRow a1 hsize) (setRow_heap w g arr _ el _ a1) hsize (fun k u hu => ?_) hroom hrun
     rw [g4, List.getElem?_toArray, List.getElem?_append_left (List.getElem?_eq_some_iff.1 hu).1]
     exact hu
    ·have holds : ∀ (k : Nat) u, (arr.toList.take (len * y.sz))[k]? = some u → w.cell? ((⟨g, 0, none⟩ : Addr).add k) = some u := fun k u hu => by
      rw [Addr.add_mid, Nat.zero_add, cell_of_row w g k arr _ _ a1]
      rw [List.getElem?_take] at hu
      split at hu
      ·simpa using hu
      ·cases hu
     have hrun0 := run_apps_grow (P := P) w h2 s0 g1 g3 k1 (some ⟨g, 0, none⟩) len cap (arr.toList.take (len * y.sz)) (ty := o.type) (run_firstCells_some w.drew ie.size len ⟨g, 0, none⟩ len cap _ (by rw [htl, g4]) (by simpa using holds)) str (by omega) (by omega) (by rw [← hxl0]; exact growslice_fits (by omega) (by rw [g5]; exact s8))
     rw [← hnws, ← hxl0] at hrun0
     have hrun := run_app2 (P := P) ho (by rw [hva, hxv]; exact hrun0)
     have hcapg := grownCap_ge w (len + xs.length) cap el
     have hcapm := grownCap_le_maxLen w (len + xs.length) cap el (by unfold maxLen; omega)
     have hfin := newmem _ hdrop s5 (grownCap w (len + xs.length) cap el) _ _ (Builtin.zeroCells z'.cells (grownCap w (len + xs.length) cap el - (len + xs.length))) hcomb (by rw [hlen2]; exact hcapg) hcapm ?_ (by rw [hlen2, hrun])
     ·rw [hlen2] at hfin
      exact hfin.resolve_right (fun hc => hc hK)
     ·rw [Array.size_append, size_zeroCells, hzs, List.size_toArray, hcomb.len, hlen2, ← Nat.add_mul]
      congr 1; omega
 ·cases he
theorem eff_appstr {o : Oper} {s x : Operand} {t1 t2 : TypeId} {str : ByteArray} (ho : o.op = .call { callee := .builtin .append, args := #[s, x], argTypes := #[t1, t2] }) (hxs : σ.ev x = .str str) (s0 : P.underlying t2 = some .string) {e : Ef} (he : evAppStr P σ i t1 t2 (σ.ev s) str = some e) (hs : e.side) : CallEff P σ i o e :=
 fun X S S' hn hS hS' => goes_appstr ho hxs s0 he hs hn hS hS'
theorem eff_strbytes {o : Oper} {src dst el : TypeId} {x : Operand} {str : ByteArray} (ho : o.op = .convert src dst x) (hxs : σ.ev x = .str str) (h1 : P.underlying src = some .string) (h2 : P.underlying dst = some (.slice el)) (h3 : P.underlying el = some (.int .u8)) (hb : str.size ≤ 140737488355328) :
  CallEff P σ i o { val := .list 1 (strCells str) } := fun X S S' hn hS hS' a w φ D hsim K Q hK => by
 have hx := hsim.ev x
 rw [hxs] at hx
 have hv := hx.str_inv
 have hrun := run_bytes_of_string (P := P) w src dst el str h1 h2 h3
 unfold Oper.wp
 have hr : (execOp a.eval o).run P w = .ok (.value (.slice (some ⟨w.heap.size, 0, none⟩) str.size (grownCap w str.size 0 el))) (w.drew.alloc (.cells (bytesRow str (grownCap w str.size 0 el)) el ((bytesRow str (grownCap w str.size 0 el)).size, (bytesRow str (grownCap w str.size 0 el)).size + 1))) := by
  simp only [execOp, ho, hv, Sem.run_bind, hrun, Result.andThen_ok, Sem.run_pure]
 rw [hr, Oper.upon_value]
 obtain ⟨w', hw'⟩ : ∃ w', w' = w.drew.alloc (.cells (bytesRow str (grownCap w str.size 0 el)) el ((bytesRow str (grownCap w str.size 0 el)).size, (bytesRow str (grownCap w str.size 0 el)).size + 1)) := ⟨_, rfl⟩
 rw [← hw']
 have hchg : Chg w w' none := by rw [hw']; exact (Chg.drew w).trans (Chg.alloc w.drew _)
 have hH := hsim.hs.growD hchg
 have hsz : w'.heap.size = w.heap.size + 1 := by rw [hw']; simp
 have hheap : w'.heap[w.heap.size]? = some (.cells (bytesRow str (grownCap w str.size 0 el)) el ((bytesRow str (grownCap w str.size 0 el)).size, (bytesRow str (grownCap w str.size 0 el)).size + 1)) := by
  rw [hw']; exact heap_alloc_new w.drew _
 have hcap := grownCap_ge w str.size 0 el
 have hcapm := grownCap_le_maxLen w str.size 0 el (by unfold maxLen; omega)
 refine hK _ _ _ _ (?_ : Sim X S' (σ.app o.dst { val := .list 1 (strCells str) }) _ w' φ (fun b => D b ∨ (w.heap.size ≤ b ∧ b < w'.heap.size)))
 have hs2 := hsim.step (w' := w') (dst := o.dst) (hH.more hS) (PlLe.refl φ) (fun b h _ => .inl h) (hchg.ext (fun _ h => by cases h)) (v := .slice (some ⟨w.heap.size, 0, none⟩) str.size (grownCap w str.size 0 el)) (d := .list 1 (strCells str)) ?_
 ·have e : { σ.put o.dst (.list 1 (strCells str)) with h := σ.h } = σ.app o.dst { val := .list 1 (strCells str) } := rfl
  rw [e] at hs2; exact hs2
 have hcell : ∀ (k : Nat) v, (strVals str)[k]? = some v → w'.cell? ⟨w.heap.size, k, none⟩ = some v := fun k v hk => by
  unfold World.cell?
  simp only [hheap]
  unfold bytesRow
  rw [Array.getElem?_append_left (by have := (List.getElem?_eq_some_iff.1 hk).1; unfold strVals at this; simpa using this)]
  unfold strVals at hk
  simpa using hk
 have h0 := RV.list (φ := φ) (D := fun b => D b ∨ (w.heap.size ≤ b ∧ b < w'.heap.size)) (w := w') w.heap.size 0 (grownCap w str.size 0 el) 1 (strCells str) ((strVals str).map fun v => [v]) (by rw [List.length_map, strVals_len, strCells_len]) (by rw [strCells_len]; omega) hcapm (.inr ⟨Nat.le_refl _, by omega⟩) (by omega)
  (fun i x hx j v hv => by
   rw [List.getElem?_map] at hx
   cases hq : (strVals str)[i]? with
   | none => rw [hq] at hx; cases hx
   | some u =>
    rw [hq] at hx
    simp only [Option.map_some, Option.some.injEq] at hx
    subst hx
    cases j with
    | succ j => simp at hv
    | zero =>
     simp at hv; subst hv
     have := hcell i u hq
     simpa using this)
  (fun x hx => by obtain ⟨v, _, rfl⟩ := List.mem_map.1 hx; rfl) (fun e he => by unfold strCells at he; obtain ⟨v, _, rfl⟩ := List.mem_map.1 he; rfl)
  (fun i x hx v hv => by
   have := List.mem_of_getElem? hx
   obtain ⟨u, hu, rfl⟩ := List.mem_map.1 this
   rw [List.mem_singleton.1 hv]; exact strVals_one str u hu)
  (fun i x e hx he j c d hc hd => by
   unfold strVals at hx
   unfold strCells at he
   rw [List.map_map, List.getElem?_map] at hx
   rw [List.getElem?_map] at he
   cases hq : str.data.toList[i]? with
   | none => rw [hq] at hx; cases hx
   | some b =>
    rw [hq] at hx he
    simp only [Option.map_some, Option.some.injEq, Function.comp] at hx he
    subst hx; subst he
    cases j with
    | succ j => simp at hc
    | zero => simp at hc hd; subst hc; subst hd; exact .int _ _)
 rw [strCells_len] at h0
 exact h0
end
end Go.Ab
