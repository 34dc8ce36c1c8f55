import Derived.Test.YtjflkcfafijhfaaGreatQ34
import Derived.Deep.RegionHeld3
import Derived.Deep.DeepCutAuto
import Derived.Test.YtjflkcfafijhfaaGreatQ31
set_option linter.unusedSectionVars false
/- The iterator chain.whole, by hand. -/
set_option linter.unusedSimpArgs false
set_option linter.unusedVariables false
namespace Go.Proofs.YtjflkcfafijhfaaGreat
open Go.Ab Go.RowKit Go.Shelf Go.Proofs
attribute [local go_sem] Oper.semAt_some
noncomputable section
def wholeL (c : Chain) (disks : List Disk) : List Int → Option (List (Int × List Int))
 | [] => some []
 | s :: l => (idx disks s).bind fun d => (chunk_Get_f d c.id).bind fun r => (wholeL c disks l).bind fun t => some (if r.2 = 0 ∧ r.1.ver = c.ver then (s, r.1.data) :: t else t)
theorem wholeL_cons {c : Chain} {disks : List Disk} {s : Int} {l : List Int} {ys : List (Int × List Int)} (h : wholeL c disks (s :: l) = some ys) : ∃ d r t, idx disks s = some d ∧ chunk_Get_f d c.id = some r ∧ wholeL c disks l = some t ∧ ys = if r.2 = 0 ∧ r.1.ver = c.ver then (s, r.1.data) :: t else t := by
 unfold wholeL at h
 obtain ⟨d, h1, h⟩ := bind_some h
 obtain ⟨r, h2, h⟩ := bind_some h
 obtain ⟨t, h3, h⟩ := bind_some h
 injection h with h
 exact ⟨d, r, t, h1, h2, h3, h.symm⟩
def chain_whole_1_f (c1 : Chain) (disks1 : List Disk) : Option (List (Int × List Int)) := wholeL c1 disks1 c1.servers
theorem get_inv {D : Nat → Prop} {w : World} {v : Value} {y : Copy} {e : Int} (h : RV NP D w v (.tup [.agg (Copy.c y), .int .i64 e])) : ∃ A1 n1 c1 A2 n2 c2, v = .tuple #[.agg #[.int .i64 y.id, .int .i64 y.ver, .slice A1 n1 c1, .slice A2 n2 c2], .int .i64 e] ∧ RV NP D w (.slice A1 n1 c1) (.list 1 (y.data.map (ci .u8))) := by
 obtain ⟨vs, rfl, hvs⟩ := h.tup_inv
 match vs, hvs with
 | [a, b], hvs =>
  obtain rfl := (hvs.2 1 b _ rfl rfl).int_inv
  obtain ⟨cs, rfl, hcs⟩ := (hvs.2 0 a _ rfl rfl).agg_inv
  match cs, hcs with
  | [p, q, u, s], hcs =>
   obtain rfl := (hcs.2 0 p _ rfl rfl).int_inv
   obtain rfl := (hcs.2 1 q _ rfl rfl).int_inv
   have hu := hcs.2 2 u _ rfl rfl
   have hu' := hu
   obtain ⟨A1, c1, rfl, _⟩ := hu.list_inv
   obtain ⟨A2, c2, rfl, _⟩ := (hcs.2 3 s _ rfl rfl).list_inv
   exact ⟨A1, _, c1, A2, _, c2, rfl, hu'⟩
  | [], hcs => exact absurd hcs.1 (by simp [Copy.c])
  | [_], hcs => exact absurd hcs.1 (by simp [Copy.c])
  | [_, _], hcs => exact absurd hcs.1 (by simp [Copy.c])
  | [_, _, _], hcs => exact absurd hcs.1 (by simp [Copy.c])
  | _ :: _ :: _ :: _ :: _ :: _, hcs => exact absurd hcs.1 (by simp [Copy.c])
 | [], hvs => exact absurd hvs.1 (by simp)
 | [_], hvs => exact absurd hvs.1 (by simp)
 | _ :: _ :: _ :: _, hvs => exact absurd hvs.1 (by simp)
theorem box_new (w : World) (a b c d : Value) (e : TypeId) : (w.alloc (.cells #[a, b, c, d] e)).cell? ⟨w.heap.size, 0, none⟩ = some a ∧ (w.alloc (.cells #[a, b, c, d] e)).cell? ⟨w.heap.size, 1, none⟩ = some b ∧ (w.alloc (.cells #[a, b, c, d] e)).cell? ⟨w.heap.size, 2, none⟩ = some c ∧ (w.alloc (.cells #[a, b, c, d] e)).cell? ⟨w.heap.size, 3, none⟩ = some d ∧ True := by
 have hn := World.alloc_heap_new w (.cells #[a, b, c, d] e)
 refine ⟨?_, ?_, ?_, ?_, trivial⟩ <;> simp only [World.cell?, hn] <;> rfl
theorem size_set (w : World) (a : Addr) (v : Value) : (w.setCell a v).heap.size = w.heap.size := by
 show (w.heap.modify _ _).size = _
 rw [Array.size_modify]
theorem ext_set (D : Nat → Prop) (w : World) (a : Addr) (v : Value) (h : ∀ b, D b → b ≠ a.block) : Ext D w (w.setCell a v) := by
 refine ⟨by rw [size_set]; exact Nat.le_refl _, fun b hb => ?_, fun b hd hb => Below.heap_setCell w a v b (h b hd)⟩
 by_cases e : b = a.block
 ·subst e
  have : (w.setCell a v).heap[a.block]? = (w.heap.modify a.block _)[a.block]? := rfl
  unfold World.shape?
  rw [this, Array.getElem?_modify]
  simp only [if_true]
  cases ho : w.heap[a.block]? with
  | none => rfl
  | some o =>
   cases o <;> simp
   split <;> simp
 ·exact shape_of_heap (Below.heap_setCell w a v b e)
theorem box_set {w : World} {B : Nat} {a b c d : Value} (x0 x1 x2 x3 : Value) (f0 : w.cell? ⟨B, 0, none⟩ = some a) (f1 : w.cell? ⟨B, 1, none⟩ = some b) (f2 : w.cell? ⟨B, 2, none⟩ = some c) (f3 : w.cell? ⟨B, 3, none⟩ = some d) :
  ((((w.setCell ⟨B, 0, none⟩ x0).setCell ⟨B, 1, none⟩ x1).setCell ⟨B, 2, none⟩ x2).setCell ⟨B, 3, none⟩ x3).cell? ⟨B, 0, none⟩ = some x0 ∧
  ((((w.setCell ⟨B, 0, none⟩ x0).setCell ⟨B, 1, none⟩ x1).setCell ⟨B, 2, none⟩ x2).setCell ⟨B, 3, none⟩ x3).cell? ⟨B, 1, none⟩ = some x1 ∧
  ((((w.setCell ⟨B, 0, none⟩ x0).setCell ⟨B, 1, none⟩ x1).setCell ⟨B, 2, none⟩ x2).setCell ⟨B, 3, none⟩ x3).cell? ⟨B, 2, none⟩ = some x2 ∧
  ((((w.setCell ⟨B, 0, none⟩ x0).setCell ⟨B, 1, none⟩ x1).setCell ⟨B, 2, none⟩ x2).setCell ⟨B, 3, none⟩ x3).cell? ⟨B, 3, none⟩ = some x3 ∧ True := by
 have o : ∀ (w : World) (i j : Nat) (x : Value), i ≠ j → (w.setCell ⟨B, i, none⟩ x).cell? ⟨B, j, none⟩ = w.cell? ⟨B, j, none⟩ := fun w i j x h => World.cell?_setCell_other w _ _ x (fun e => h (by injection e))
 refine ⟨?_, ?_, ?_, ?_, trivial⟩
 ·rw [o _ _ _ _ (by decide), o _ _ _ _ (by decide), o _ _ _ _ (by decide)]; exact World.cell?_setCell_same _ _ _ f0
 ·rw [o _ _ _ _ (by decide), o _ _ _ _ (by decide)]; exact World.cell?_setCell_same _ _ _ (by rw [o _ _ _ _ (by decide)]; exact f1)
 ·rw [o _ _ _ _ (by decide)]; exact World.cell?_setCell_same _ _ _ (by rw [o _ _ _ _ (by decide), o _ _ _ _ (by decide)]; exact f2)
 ·exact World.cell?_setCell_same _ _ _ (by rw [o _ _ _ _ (by decide), o _ _ _ _ (by decide), o _ _ _ _ (by decide)]; exact f3)
theorem box_after {w w2 : World} {a b c d : Value} {e : TypeId} (h : Below ((w.alloc (.cells #[a, b, c, d] e)).drew).heap.size (w.alloc (.cells #[a, b, c, d] e)).drew w2) :
  w2.cell? ⟨w.heap.size, 0, none⟩ = some a ∧ w2.cell? ⟨w.heap.size, 1, none⟩ = some b ∧ w2.cell? ⟨w.heap.size, 2, none⟩ = some c ∧ w2.cell? ⟨w.heap.size, 3, none⟩ = some d ∧
  w2.frozen? ⟨w.heap.size, 0, none⟩ = false ∧ w2.frozen? ⟨w.heap.size, 1, none⟩ = false ∧ w2.frozen? ⟨w.heap.size, 2, none⟩ = false ∧ w2.frozen? ⟨w.heap.size, 3, none⟩ = false := by
 have hl : w.heap.size < ((w.alloc (.cells #[a, b, c, d] e)).drew).heap.size := by show w.heap.size < (w.alloc _).heap.size; simp
 have hb := h.block w.heap.size hl
 have hn : ((w.alloc (.cells #[a, b, c, d] e)).drew).heap[w.heap.size]? = some (.cells #[a, b, c, d] e (0, 0)) := World.alloc_heap_new w _
 rw [hn] at hb
 simp [World.cell?, World.frozen?, hb]
set_option maxRecDepth 100000 in
set_option maxHeartbeats 4000000 in
theorem whole1_in (m l b1 o1 b2 o2 : Nat) (hm : 9 ≤ m) (A : Option Addr) (cap : Nat) (c : Chain) (disks : List Disk) (ys : List (Int × List Int)) (hys : wholeL c disks c.servers = some ys) (hreach : c.servers.length ≤ 9223372036854775807) (D : Nat → Prop) (w : World)
  (hDw : ∀ b, D b → b < w.heap.size) (hG : Lay.gp w D) (h1 : D b1) (h2 : D b2) (B : Option Addr) (dcap : Nat) (hcv : RV NP D w (.agg #[.int .i64 c.id, .int .i64 c.ver, .slice A c.servers.length cap]) (.agg (Chain.c c)))
  (hs : ∀ (j : Nat) x, c.servers[j]? = some x → ∃ b off, A = some ⟨b, off, none⟩ ∧ D b ∧ w.cell? ⟨b, off + j, none⟩ = some (.int .i64 x))
  (hds : ∀ (j : Nat) d, disks[j]? = some d → ∃ b off v0 v1 v2, B = some ⟨b, off, none⟩ ∧ D b ∧ w.cell? ⟨b, off + j * 3, none⟩ = some v0 ∧ w.cell? ⟨b, off + j * 3 + 1, none⟩ = some v1 ∧ w.cell? ⟨b, off + j * 3 + 2, none⟩ = some v2 ∧ RV NP D w (.agg #[v0, v1, v2]) (.agg (Disk.c d)))
  (J : (Nat → Prop) → Nat → World → Prop) (Jx : (Nat → Prop) → World → Prop) (U0 : Nat → Prop) (hU0 : ∀ b, U0 b → b < w.heap.size)
  (hJg : ∀ U k A B, J U k A → Chg A B none → J U k B)
  (hY : ∀ m U k x W W0 v, ys[k]? = some x → J U k W → Ext D w W → (∀ b, U b → b < W0.heap.size) → Below W0.heap.size W0 W → w.heap.size ≤ W0.heap.size → RV NP (fun b => D b ∨ (W0.heap.size ≤ b ∧ b < W.heap.size)) W v (.list 1 (x.2.map (ci .u8))) →
   YieldAt Fence.wide m Tryz.prog l #[.int .i64 x.1, v] W fun v B => ∃ U', (∀ b, U' b → b < B.heap.size) ∧ Ext D W B ∧ ((v = .returned (.bool true) ∧ J U' (k + 1) B) ∨ (v = .returned (.bool false) ∧ Jx U' B)))
  (hc0 : w.cell? ⟨b1, o1, none⟩ = some (.int .i64 c.id)) (hc1 : w.cell? ⟨b1, o1 + 1, none⟩ = some (.int .i64 c.ver)) (hc2 : w.cell? ⟨b1, o1 + 2, none⟩ = some (.slice A c.servers.length cap)) (hd : w.cell? ⟨b2, o2, none⟩ = some (.slice B disks.length dcap)) (h0 : J U0 0 w) :
  CallsIn Fence.wide m Tryz.prog 113 #[.func (.yield l) #[] #[], .pointer (some ⟨b1, o1, none⟩), .pointer (some ⟨b2, o2, none⟩)] w fun v B => (∃ x, v = .returned x) ∧ ∃ U, J U ys.length B ∨ Jx U B := by
 refine callsIn_of_wp Tryz.func113 rfl trivial ?_ rfl
 simp only [Tryz.ntmps113, List.size_toArray, List.length_cons, List.length_nil, Nat.reduceAdd, Nat.reduceSub, Array.replicate_succ, Array.replicate_zero, List.push_toArray, List.append_toArray, List.nil_append, List.cons_append]
 gi_wp2
 gi_loopw [11] (fun i wr => ∃ (k j : Nat) (U : Nat → Prop), k ≤ c.servers.length ∧ i = .int .i64 k ∧ J U j wr ∧ j ≤ ys.length ∧ wholeL c disks (c.servers.drop k) = some (ys.drop j) ∧ Ext D w wr ∧ ∀ b, U b → b < wr.heap.size)
  (fun i _ => c.servers.length - (zOf i).toNat)
 case atStart => exact ⟨0, 0, U0, Nat.zero_le _, rfl, h0, Nat.zero_le _, hys, Ext.refl _ _, hU0⟩
 case round =>
  obtain ⟨k, j, U, hk, rfl, hJs, hj, hwl, hnx, hU⟩ := hrel
  by_cases hlt : k < c.servers.length
  ·rw [List.drop_eq_getElem_cons hlt] at hwl
   obtain ⟨d, r, t, e1, e2, e3, e4⟩ := wholeL_cons hwl
   have hx : c.servers[k]? = some c.servers[k] := List.getElem?_eq_getElem hlt
   generalize c.servers[k] = x at hx e1 e4
   obtain ⟨b, off, rfl, hb, hcs⟩ := hs k x hx
   obtain ⟨i1, i2, i3⟩ := idx_some e1
   obtain ⟨xn, rfl⟩ := Int.eq_ofNat_of_zero_le i1
   have hxn : disks[xn]? = some d := by
    have hxl : xn < disks.length := by simpa using i2
    rw [List.getElem?_eq_getElem hxl]
    have := i3
    simp [List.getD_eq_getElem?_getD, hxl] at this
    rw [this]
   obtain ⟨db, doff, v0, v1, v2, rfl, hdb, k0, k1, k2, hdv⟩ := hds xn d hxn
   have hcx : wr.cell? ⟨b, off + k, none⟩ = some (.int .i64 (xn : Int)) := hnx.cell hb hcs
   have g0 := hnx.cell h1 hc0
   have g1 := hnx.cell h1 hc1
   have g2 := hnx.cell h1 hc2
   have g3 := hnx.cell h2 hd
   have q0 := hnx.cell hdb k0
   have q1 := hnx.cell hdb k1
   have q2 := hnx.cell hdb k2
   have hxl : (xn : Int) < (disks.length : Int) := by simpa using i2
   have hargs : RVs NP D wr [.agg #[v0, v1, v2], .int .i64 c.id] [.agg (Disk.c d), .int .i64 c.id] :=
    .cons (hdv.keep (PlLe.refl _) (fun _ h _ => h) hnx) (.cons (.int _ _) .nil)
   have hcall : ∀ W, Ext D wr W → CallsIn Fence.wide (m - 1) Tryz.prog 10 #[.agg #[v0, v1, v2], .int .i64 c.id] W _ := fun W hW => callsIn_wide (n := m - 1) |>.2 ((chunk_Get_pc e2).run W D _ (fun b hb => Nat.lt_of_lt_of_le (hDw b hb) (Nat.le_trans hnx.size hW.size)) (Lay.gpk hG (hnx.trans hW) (fun _ h _ => h)) (hargs.keep (PlLe.refl _) (fun _ h _ => h) hW))
   have hF : Fence.wide.fn 10 := trivial
   have mixed : Tryz.prog.follows .mixedOrders = true := by kernel_rfl
   have hm1 : 1 ≤ m := by omega
   gi_wp2
   have hS : ∀ W, Below wr.heap.size wr W → Below wr.heap.size wr W ∧ W.cell? ⟨b2, o2, none⟩ = some (.slice (some ⟨db, doff, none⟩) disks.length dcap) ∧ W.cell? ⟨b1, o1, none⟩ = some (.int .i64 c.id) ∧ W.cell? ⟨db, doff + xn * 3, none⟩ = some v0 ∧ W.cell? ⟨db, doff + xn * 3 + 1, none⟩ = some v1 ∧ W.cell? ⟨db, doff + xn * 3 + 2, none⟩ = some v2 := fun W hB =>
    have e : Ext D wr W := Ext.of_below hB
    ⟨hB, e.cell h2 g3, e.cell h1 g0, e.cell hdb q0, e.cell hdb q1, e.cell hdb q2⟩
   have hAl : ∀ W o, Below wr.heap.size wr W → Below wr.heap.size wr (W.alloc o) := fun W o h => h.alloc h.size _
   have hTr : ∀ W W', Below wr.heap.size wr W → Below W.heap.size W W' → Below wr.heap.size wr W' := fun W W' h h' => h.trans (h'.mono h.size)
   have hDr : ∀ W, Below wr.heap.size wr W → Below wr.heap.size wr W.drew := fun W h => h.drew
   have h00 := Below.refl wr.heap.size wr
   refine wpIn_wide.2 ?_
   go_region_held3 (fun W => Below wr.heap.size wr W ∧ W.cell? ⟨b2, o2, none⟩ = some (.slice (some ⟨db, doff, none⟩) disks.length dcap) ∧ W.cell? ⟨b1, o1, none⟩ = some (.int .i64 c.id) ∧ W.cell? ⟨db, doff + xn * 3, none⟩ = some v0 ∧ W.cell? ⟨db, doff + xn * 3 + 1, none⟩ = some v1 ∧ W.cell? ⟨db, doff + xn * 3 + 2, none⟩ = some v2)
    (first | exact hS _ (hDr _ h00) | exact hS _ (hTr _ _ (hDr _ h00) hb2) | exact hS _ (hAl _ _ (hTr _ _ (hDr _ h00) hb2)) | exact hS _ (hDr _ (hAl _ _ h00)) | exact hS _ (hTr _ _ (hDr _ (hAl _ _ h00)) hb2) | exact hS _ (hAl _ _ (hDr _ h00)) | exact hS _ (hTr _ _ (hAl _ _ (hDr _ h00)) hb2) | exact hS _ (((((hTr _ _ (hDr _ (hAl _ _ h00)) hb2).setCell (Nat.le_refl _) _).setCell (Nat.le_refl _) _).setCell (Nat.le_refl _) _).setCell (Nat.le_refl _) _))
    ((first
     | (go_at_call 10; refine ((callsIn_wide (n := m - 1)).1 (hcall _ (Ext.drew _ _))).mono ?_; rintro e w2 ⟨v2, rfl, hv2, hb2⟩; obtain ⟨A1, n1, c1, A2, n2, c2, rfl, hv3⟩ := get_inv hv2; clear hv2)
     | (go_at_call 10; refine ((callsIn_wide (n := m - 1)).1 (hcall _ ((Ext.alloc _ _ _).trans (Ext.drew _ _)))).mono ?_; rintro e w2 ⟨v2, rfl, hv2, hb2⟩; obtain ⟨A1, n1, c1, A2, n2, c2, rfl, hv3⟩ := get_inv hv2; clear hv2; obtain ⟨f0, f1, f2, f3, y0, y1, y2, y3⟩ := box_after hb2)
     | (go_at_call 10; refine ((callsIn_wide (n := m - 1)).1 (hcall _ ((Ext.drew _ _).trans (Ext.alloc _ _ _)))).mono ?_; rintro e w2 ⟨v2, rfl, hv2, hb2⟩; obtain ⟨A1, n1, c1, A2, n2, c2, rfl, hv3⟩ := get_inv hv2; clear hv2)))
   ·obtain ⟨W3, hW3⟩ : ∃ W3, w2.alloc (.cells #[.int .i64 r.1.id, .int .i64 r.1.ver, .slice A1 n1 c1, .slice A2 n2 c2] 39) = W3 := ⟨_, rfl⟩
    rw [hW3]
    have hB3 : Below wr.heap.size wr W3 := by rw [← hW3]; exact hAl _ _ (hTr _ _ (hDr _ h00) hb2)
    obtain ⟨y0, y1, y2, y3, -⟩ := box_new w2 (.int .i64 r.1.id) (.int .i64 r.1.ver) (.slice A1 n1 c1) (.slice A2 n2 c2) 39
    rw [hW3] at y0 y1 y2 y3
    have hv4 : RV NP (fun b => D b ∨ (wr.heap.size ≤ b ∧ b < W3.heap.size)) W3 (.slice A1 n1 c1) (.list 1 (r.1.data.map (ci .u8))) := by
     rw [← hW3]
     exact hv3.keep (PlLe.refl _) (fun b hb hl => hb.imp id fun h => ⟨h, by simp; omega⟩) (Ext.alloc _ _ _)
    generalize w2.heap.size = g at y0 y1 y2 y3 ⊢
    clear hW3 hb2 hv3
    have hx3 : Ext D wr W3 := Ext.of_below hB3
    have z0 := hx3.cell h1 g0
    have z1 := hx3.cell h1 g1
    have hJ3 := hJg _ _ _ _ hJs (Chg.of_below hB3)
    have hU3 : ∀ b, U b → b < W3.heap.size := fun b hb => Nat.lt_of_lt_of_le (hU b hb) hB3.size
    have hx4 := hnx.trans hx3
    clear hS hAl hTr hDr h00 hcall hargs
    by_cases hok : r.2 = 0 ∧ r.1.ver = c.ver
    ·rw [if_pos hok] at e4
     have hjl : j < ys.length := by
      rcases Nat.lt_or_ge j ys.length with h | h
      ·exact h
      ·rw [List.drop_eq_nil_of_le h] at e4; cases e4
     have hyk : ys[j]? = some ((xn : Int), r.1.data) := by
      rw [List.drop_eq_getElem_cons hjl] at e4
      injection e4 with e5 e6
      rw [List.getElem?_eq_getElem hjl, e5]
     have hrest : wholeL c disks (c.servers.drop (k + 1)) = some (ys.drop (j + 1)) := by
      rw [List.drop_eq_getElem_cons hjl] at e4
      injection e4 with e5 e6
      rw [e6]; exact e3
     obtain ⟨fn, tmps, assign, body, hy, hR⟩ := hY (m - 1) U j ((xn : Int), r.1.data) W3 wr (.slice A1 n1 c1) hyk hJ3 hx4 hU hB3 hnx.size hv4
     have t1 : (r.2 == 0) = true := by simp [hok.1]
     have t2 : (r.1.ver == c.ver) = true := by simp [hok.2]
     gi_wp2
     refine hR.mono ?_
     rintro e W4 ⟨U', hU', hk4, ⟨rfl, hJ4⟩ | ⟨rfl, hJx4⟩⟩
     ·gi_wp2
      go_roundw
      case rel => exact ⟨k + 1, j + 1, U', by omega, by simp, hJ4, by omega, hrest, hx4.trans hk4, hU'⟩
      case measure => simp [zOf]; omega
     ·gi_wp2
      refine bodyPost_ret (results_none rfl _ _ _) rfl ?_
      exact ⟨⟨_, rfl⟩, U', .inr hJx4⟩
    ·rw [if_neg hok] at e4
     have hrest : wholeL c disks (c.servers.drop (k + 1)) = some (ys.drop j) := by rw [e4]; exact e3
     by_cases ha : r.2 = 0
     ·have t1 : (r.2 == 0) = true := by simp [ha]
      have t2 : (r.1.ver == c.ver) = false := by simp; exact fun h => hok ⟨ha, h⟩
      gi_wp2
      all_goals
       refine ⟨fun f hf => (by cases hf), ?_⟩
       gi_wp2
       go_roundw
       case rel => exact ⟨k + 1, j, U, by omega, by simp, hJ3, hj, hrest, hx4, hU3⟩
       case measure => simp [zOf]; omega
     ·have t1 : (r.2 == 0) = false := by simp [ha]
      gi_wp2
      all_goals
       refine ⟨fun f hf => (by cases hf), ?_⟩
       gi_wp2
       go_roundw
       case rel => exact ⟨k + 1, j, U, by omega, by simp, hJ3, hj, hrest, hx4, hU3⟩
       case measure => simp [zOf]; omega
   ·obtain ⟨W3, hW3⟩ : ∃ W3, (((w2.setCell ⟨wr.heap.size, 0, none⟩ (.int .i64 r.1.id)).setCell ⟨wr.heap.size, 1, none⟩ (.int .i64 r.1.ver)).setCell ⟨wr.heap.size, 2, none⟩ (.slice A1 n1 c1)).setCell ⟨wr.heap.size, 3, none⟩ (.slice A2 n2 c2) = W3 := ⟨_, rfl⟩
    rw [hW3]
    have hB3 : Below wr.heap.size wr W3 := by
     rw [← hW3]
     exact ((((hTr _ _ (hDr _ (hAl _ _ h00)) hb2).setCell (Nat.le_refl _) _).setCell (Nat.le_refl _) _).setCell (Nat.le_refl _) _).setCell (Nat.le_refl _) _
    obtain ⟨y0, y1, y2, y3, -⟩ := box_set (.int .i64 r.1.id) (.int .i64 r.1.ver) (.slice A1 n1 c1) (.slice A2 n2 c2) f0 f1 f2 f3
    rw [hW3] at y0 y1 y2 y3
    have hsz3 : W3.heap.size = w2.heap.size := by rw [← hW3]; simp [size_set]
    have hv4 : RV NP (fun b => D b ∨ (wr.heap.size ≤ b ∧ b < W3.heap.size)) W3 (.slice A1 n1 c1) (.list 1 (r.1.data.map (ci .u8))) := by
     refine hv3.keep (PlLe.refl _) (fun b hb hl => ?_) ?_
     ·rcases hb with hb | hb
      ·exact .inl hb
      ·have h' : (wr.alloc (.cells #[.int .i64 0, .int .i64 0, .slice none 0 0, .slice none 0 0] 39)).heap.size ≤ b := hb
       rw [World.size_alloc] at h'
       exact .inr ⟨by omega, by rw [hsz3]; exact hl⟩
     ·have hnot : ∀ b, (D b ∨ ((wr.alloc (.cells #[.int .i64 0, .int .i64 0, .slice none 0 0, .slice none 0 0] 39)).drew).heap.size ≤ b) → b ≠ wr.heap.size := fun b hb e => by
       subst e
       rcases hb with hb | hb
       ·have := hDw _ hb; have := hnx.size; omega
       ·have h' : (wr.alloc (.cells #[.int .i64 0, .int .i64 0, .slice none 0 0, .slice none 0 0] 39)).heap.size ≤ wr.heap.size := hb
        rw [World.size_alloc] at h'
        omega
      rw [← hW3]
      exact (((ext_set _ _ _ _ hnot).trans (ext_set _ _ _ _ hnot)).trans (ext_set _ _ _ _ hnot)).trans (ext_set _ _ _ _ hnot)
    clear f0 f1 f2 f3
    obtain ⟨g, hgg⟩ : ∃ g, wr.heap.size = g := ⟨_, rfl⟩
    rw [hgg] at y0 y1 y2 y3 ⊢
    clear hW3 hb2 hv3
    have hx3 : Ext D wr W3 := Ext.of_below hB3
    have z0 := hx3.cell h1 g0
    have z1 := hx3.cell h1 g1
    have hJ3 := hJg _ _ _ _ hJs (Chg.of_below hB3)
    have hU3 : ∀ b, U b → b < W3.heap.size := fun b hb => Nat.lt_of_lt_of_le (hU b hb) hB3.size
    have hx4 := hnx.trans hx3
    clear hS hAl hTr hDr h00 hcall hargs
    by_cases hok : r.2 = 0 ∧ r.1.ver = c.ver
    ·rw [if_pos hok] at e4
     have hjl : j < ys.length := by
      rcases Nat.lt_or_ge j ys.length with h | h
      ·exact h
      ·rw [List.drop_eq_nil_of_le h] at e4; cases e4
     have hyk : ys[j]? = some ((xn : Int), r.1.data) := by
      rw [List.drop_eq_getElem_cons hjl] at e4
      injection e4 with e5 e6
      rw [List.getElem?_eq_getElem hjl, e5]
     have hrest : wholeL c disks (c.servers.drop (k + 1)) = some (ys.drop (j + 1)) := by
      rw [List.drop_eq_getElem_cons hjl] at e4
      injection e4 with e5 e6
      rw [e6]; exact e3
     obtain ⟨fn, tmps, assign, body, hy, hR⟩ := hY (m - 1) U j ((xn : Int), r.1.data) W3 wr (.slice A1 n1 c1) hyk hJ3 hx4 hU hB3 hnx.size hv4
     have t1 : (r.2 == 0) = true := by simp [hok.1]
     have t2 : (r.1.ver == c.ver) = true := by simp [hok.2]
     gi_wp2
     refine hR.mono ?_
     rintro e W4 ⟨U', hU', hk4, ⟨rfl, hJ4⟩ | ⟨rfl, hJx4⟩⟩
     ·gi_wp2
      go_roundw
      case rel => exact ⟨k + 1, j + 1, U', by omega, by simp, hJ4, by omega, hrest, hx4.trans hk4, hU'⟩
      case measure => simp [zOf]; omega
     ·gi_wp2
      refine bodyPost_ret (results_none rfl _ _ _) rfl ?_
      exact ⟨⟨_, rfl⟩, U', .inr hJx4⟩
    ·rw [if_neg hok] at e4
     have hrest : wholeL c disks (c.servers.drop (k + 1)) = some (ys.drop j) := by rw [e4]; exact e3
     by_cases ha : r.2 = 0
     ·have t1 : (r.2 == 0) = true := by simp [ha]
      have t2 : (r.1.ver == c.ver) = false := by simp; exact fun h => hok ⟨ha, h⟩
      gi_wp2
      all_goals
       refine ⟨fun f hf => (by cases hf), ?_⟩
       gi_wp2
       go_roundw
       case rel => exact ⟨k + 1, j, U, by omega, by simp, hJ3, hj, hrest, hx4, hU3⟩
       case measure => simp [zOf]; omega
     ·have t1 : (r.2 == 0) = false := by simp [ha]
      gi_wp2
      all_goals
       refine ⟨fun f hf => (by cases hf), ?_⟩
       gi_wp2
       go_roundw
       case rel => exact ⟨k + 1, j, U, by omega, by simp, hJ3, hj, hrest, hx4, hU3⟩
       case measure => simp [zOf]; omega
  ·obtain rfl : k = c.servers.length := by omega
   rw [List.drop_length] at hwl
   have hjl : j = ys.length := by
    unfold wholeL at hwl
    injection hwl with hwl
    have := congrArg List.length hwl
    simp at this
    omega
   subst hjl
   gi_wp2
   go_end0
   exact ⟨⟨_, rfl⟩, U, .inl hJs⟩
theorem chain_whole_1_it {c1 : Chain} {disks1 : List Disk} {ys : List (Int × List Int)} (H : chain_whole_1_f c1 disks1 = some ys) : IterC Tryz.prog 113 [.rop (Chain.c c1) 0 3, .rop (cl 3 Disk.c disks1) 0 1] (ys.map fun y => [.int .i64 y.1, .list 1 (y.2.map (ci .u8))]) where
 enter := ⟨_, _, Tryz.func113, rfl, by decide⟩
 run := fun w D vs hD hG hv l J Jx U0 hJ hJx hY hU0 h0 m => by
  match vs, hv with
  | [vp, vq], hv =>
   obtain ⟨b1, o1, A, cap, rfl, hD1, q0, q1, q2, hle, hcv, hs⟩ := chain_rop (hv.2 0 vp _ rfl rfl)
   obtain ⟨b2, o2, dv, rfl, hD2, q3, hdv⟩ := disks_rop (hv.2 1 vq _ rfl rfl)
   obtain ⟨B, dcap, rfl, k1, k2, k3⟩ := hdv.list_inv
   rw [List.length_map] at q3
   have hds : ∀ (j : Nat) d, disks1[j]? = some d → ∃ b off v0 v1 v2, B = some ⟨b, off, none⟩ ∧ D b ∧ w.cell? ⟨b, off + j * 3, none⟩ = some v0 ∧ w.cell? ⟨b, off + j * 3 + 1, none⟩ = some v1 ∧ w.cell? ⟨b, off + j * 3 + 2, none⟩ = some v2 ∧ RV NP D w (.agg #[v0, v1, v2]) (.agg (Disk.c d)) := fun j d hj => by
    obtain ⟨b3, o3, cs3, hA3, hD3, _, hr3, hl3, _, hv3⟩ := k3 j (Disk.c d) (by rw [List.getElem?_map, hj]; rfl)
    match cs3, hl3 with
    | [v0, v1, v2], _ => exact ⟨b3, o3, v0, v1, v2, hA3, hD3, by simpa using hr3 0 _ rfl, hr3 1 _ rfl, hr3 2 _ rfl, .agg [v0, v1, v2] _ hv3.1 hv3.2⟩
   have key := whole1_in 9 l b1 o1 b2 o2 (Nat.le_refl _) A cap c1 disks1 ys H hle D w hD hG hD1 hD2 B dcap hcv hs hds J Jx U0 hU0 (fun U k A B h c => hJ U k A B none h c (fun _ e => by cases e)) (fun m U k x W W0 v hx hj he hU hB hle hrv => ?_) q0 q1 q2 q3 h0
   ·refine callsIn_wide.2 ((callsIn_wide.1 key).mono fun v B hR => ?_)
    rw [List.length_map]
    exact hR
   ·refine YieldAt.mono' (hY m U k [.int .i64 x.1, .list 1 (x.2.map (ci .u8))] W (fun b => D b ∨ (W0.heap.size ≤ b ∧ b < W.heap.size)) [.int .i64 x.1, v] (by rw [List.getElem?_map, hx]; rfl) hj (.cons (.int _ _) (.cons hrv .nil)) (fun b hb => ?_) (Lay.gpk hG he (fun _ h _ => .inl h))) fun v B hR => ?_
    ·rcases hb with hb | ⟨hb, hb'⟩
     ·exact ⟨Nat.lt_of_lt_of_le (hD b hb) he.size, .inl hb⟩
     ·exact ⟨hb', .inr ⟨by omega, fun h => by have := hU b h; omega⟩⟩
    ·obtain ⟨U', hU', hk, hR⟩ := hR
     exact ⟨U', fun b hb => (hU' b hb).1, kept_ext hk, hR⟩
  | [], hv => exact absurd hv.1 (by simp)
  | [_], hv => exact absurd hv.1 (by simp)
  | _ :: _ :: _ :: _, hv => exact absurd hv.1 (by simp)
end
end Go.Proofs.YtjflkcfafijhfaaGreat
/- Functions of the program as Lean functions, and that they are so; printed by a program of mine. -/
set_option linter.unusedSimpArgs false
set_option linter.unusedVariables false
set_option maxHeartbeats 4000000
set_option maxRecDepth 20000
namespace Go.Proofs.YtjflkcfafijhfaaGreat
open Go.Ab
open Nat (reduceAdd reduceMul reduceEqDiff reduceLT reduceLeDiff reduceSub)
noncomputable section
def chain_Read_f (c1 : Chain) (disks1 : List Disk) : Option ((List Int) × Int) :=
 (idx c1.servers (IntKind.wrap .i64 ((c1.servers.length : Int) - 1))).bind fun x1 => (idx disks1 x1).bind fun x2 => (chunk_Get_f x2 c1.id).bind fun r1 => cond (r1.2 != 0) (some ([], r1.2)) (cond (r1.1.ver != c1.ver) (some ([], 250)) (some (r1.1.data, 0)))
theorem chain_Read_pc {c1 : Chain} {disks1 : List Disk} {r : (List Int) × Int} (H : chain_Read_f c1 disks1 = some r) : PC Tryz.prog 14 [.agg (Chain.c c1), .list 3 (disks1.map Disk.c)] (.tup [.list 1 (r.1.map (ci .u8)), .int .i64 r.2]) := by
 refine pcA_of Tryz.func14 (by rfl) (by decide) 37 (by rfl) [.tmp 4, .tmp 5] (by rfl) ?_
 unfold chain_Read_f at H
 simp only [ent]
 refine a_srC _ rfl ?_
 refine a_seq ?_
 obtain ⟨x1, zh1, H⟩ := bind_some H
 obtain ⟨zg1, zh1a, zh1b⟩ := idx3 (f := (ci .i64)) zh1
 try simp only [Int.reduceToNat, Int.toNat_natCast] at zg1
 obtain ⟨x2, zh2, H⟩ := bind_some H
 obtain ⟨zg2, zh2a, zh2b⟩ := idx3 (f := Disk.c) zh2
 try simp only [Int.reduceToNat, Int.toNat_natCast] at zg2
 obtain ⟨r1, zh3, H⟩ := bind_some H
 have zk1 := chunk_Get_pc zh3
 refine a_drW (by kernel_rfl) _ rfl (s := ?zs2) (by kernel_rfl) (by kernel_rfl) ?zs2f ?_ ?_ ?_
 rotate_left 2
 ·try refine goS ?_
  repeat' with_reducible apply And.intro
  all_goals try ((with_reducible show CallW _ _ _ _ _ _ _); refine cW_p [] zk1 (fun h2 e => ZZ) ?_; refine goS ?_)
  all_goals exact CLS
 ·kernel_rfl
 refine sA_n ?_
 refine a_seq ?_
 refine a_blk ?_
 refine a_srC _ rfl ?_
 refine a_cnd H (fun zc1 H => ?_) (fun zc1 H => ?_)
 ·refine a_srC _ rfl ?_
  exact a_ret (bA_r (sA_r RT))
 ·refine a_srC _ rfl ?_
  refine a_cnd H (fun zc2 H => ?_) (fun zc2 H => ?_)
  ·refine a_srC _ rfl ?_
   refine a_ret ?_
   refine bA_r ?_
   refine sA_r ?_
   obtain rfl := Option.some.inj H
   refine e_r2 (d := ?zd2) ?_ ?_
   rotate_left
   ·simp only [EVT, resR, single, evLoad, cut, TIS, CS, reduceAdd, reduceEqDiff, ↓reduceIte, reduceCtorEq, reduceLT, reduceLeDiff, reduceSub, Nat.reduceBEq, zg1, zg2, zc1, zc2]
    (repeat' apply And.intro) <;> first | rfl | assumption | omega | (simp; done)
   exact ZZ
  ·refine a_skip ?_
   refine bA_n ?_
   refine sA_n ?_
   refine a_srC _ rfl ?_
   refine a_ret ?_
   obtain rfl := Option.some.inj H
   refine e_r2 (d := ?zd3) ?_ ?_
   rotate_left
   ·simp only [EVT, resR, single, evLoad, cut, TIS, CS, reduceAdd, reduceEqDiff, ↓reduceIte, reduceCtorEq, reduceLT, reduceLeDiff, reduceSub, Nat.reduceBEq, zg1, zg2, zc1, zc2]
    (repeat' apply And.intro) <;> first | rfl | assumption | omega | (simp; done)
   exact ZZ
def ref02_Bytes_J1 : Option Bool :=
 some (true)
def ref02_Bytes_L1 (a1 : List Int) (b1 : List Int) : Nat → Int → Option Bool
 | 0, _ => none
 | m_ + 1, i1 => cond (decide (i1 < (a1.length : Int))) ((idx a1 i1).bind fun x1 => (idx b1 i1).bind fun x2 => cond (x1 != x2) (some (false)) (ref02_Bytes_L1 a1 b1 m_ (IntKind.wrap .i64 (i1 + 1)))) (ref02_Bytes_J1)
def ref02_Bytes_f (a1 : List Int) (b1 : List Int) : Option Bool :=
 cond ((a1.length : Int) != (b1.length : Int)) (some (false)) (ref02_Bytes_L1 a1 b1 BIG 0)
theorem ref02_Bytes_pc {a1 : List Int} {b1 : List Int} {r : Bool} (H : ref02_Bytes_f a1 b1 = some r) : PC Tryz.prog 16 [.list 1 (a1.map (ci .u8)), .list 1 (b1.map (ci .u8))] (.bool r) := by
 refine pcA_of Tryz.func16 (by rfl) (by decide) 26 (by rfl) [.tmp 4] (by rfl) ?_
 unfold ref02_Bytes_f at H
 simp only [ent]
 refine a_srC _ rfl ?_
 refine a_seq ?_
 refine a_srC _ rfl ?_
 refine a_cnd H (fun zc1 H => ?_) (fun zc1 H => ?_)
 ·refine a_srC _ rfl ?_
  exact a_ret (sA_r RT)
 ·refine a_skip ?_
  refine sA_n ?_
  refine a_cut (fun s => ∃ (t0 : Nat → Dat), ref02_Bytes_J1 = some r ∧ s = ⟨tl t0 [], hl [], 0, 26⟩) ?_ ?_
  ·refine a_srC _ rfl ?_
   refine a_blk ?_
   refine a_loop (fun m s => ∃ (i1 : Int) (t0 : Nat → Dat), ref02_Bytes_L1 a1 b1 m i1 = some r ∧ s = ⟨tl t0 [(0, .list 1 (a1.map (ci .u8))), (1, .list 1 (b1.map (ci .u8))), (5, .int .i64 i1)], hl [], 0, 26⟩) BIG ?_ ?_
   ·exact wk_lA [] [] (fun t0 => ⟨0, t0, H, rfl⟩)
   ·rintro m_ref02_Bytes_L1 s ⟨i1, t0, H, rfl⟩
    obtain _ | m_ref02_Bytes_L1 := m_ref02_Bytes_L1
    ·cases (show (none : Option _) = some _ from H)
    ·rw [ref02_Bytes_L1] at H
     refine a_seq ?_
     refine a_srC _ rfl ?_
     refine a_cnd H (fun zc2 H => ?_) (fun zc2 H => ?_)
     ·refine a_skip ?_
      refine sA_n ?_
      refine a_seq ?_
      refine a_blk ?_
      refine a_seq ?_
      obtain ⟨x1, zh1, H⟩ := bind_some H
      obtain ⟨zg1, zh1a, zh1b⟩ := idx3 (f := (ci .u8)) zh1
      try simp only [Int.reduceToNat, Int.toNat_natCast] at zg1
      obtain ⟨x2, zh2, H⟩ := bind_some H
      obtain ⟨zg2, zh2a, zh2b⟩ := idx3 (f := (ci .u8)) zh2
      try simp only [Int.reduceToNat, Int.toNat_natCast] at zg2
      refine a_drW (by kernel_rfl) _ rfl (s := ?zs7) (by kernel_rfl) (by kernel_rfl) ?zs7f ?_ ?_ ?_
      rotate_left 2
      ·refine goS ?_
       exact CLS
      ·kernel_rfl
      refine sA_n ?_
      refine a_cnd H (fun zc3 H => ?_) (fun zc3 H => ?_)
      ·refine a_srC _ rfl ?_
       refine a_ret ?_
       refine bA_r ?_
       refine sA_r ?_
       refine lA_r ?_
       refine bA_r ?_
       refine cA_r ?_
       obtain rfl := Option.some.inj H
       refine e_r2 (d := ?zd3) ?_ ?_
       rotate_left
       ·simp only [EVT, resR, single, evLoad, cut, TIS, CS, reduceAdd, reduceEqDiff, ↓reduceIte, reduceCtorEq, reduceLT, reduceLeDiff, reduceSub, Nat.reduceBEq, zc2, zg1, zg2, zc3]
        (repeat' apply And.intro) <;> first | rfl | assumption | omega | (simp; done)
       exact ZZ
      ·refine a_skip ?_
       refine bA_n ?_
       refine sA_n ?_
       refine a_regC _ rfl ?_
       refine lA_n ?_
       exact wk_lA [] [] (fun t0 => ⟨_, Nat.lt_succ_self _, (IntKind.wrap .i64 (i1 + 1)), t0, H, rfl⟩)
     ·refine a_exit ?_
      refine sA_e ?_
      refine lA_e ?_
      refine bA_hit ?_
      refine cA_n ?_
      exact wk_lA [] [] (fun t0 => ⟨t0, H, rfl⟩)
  ·rintro s ⟨t0, H, rfl⟩
   unfold ref02_Bytes_J1 at H
   refine a_srC _ rfl ?_
   refine a_ret ?_
   obtain rfl := Option.some.inj H
   refine e_r2 (d := ?zd2) ?_ ?_
   rotate_left
   ·simp only [EVT, resR, single, evLoad, cut, TIS, CS, reduceAdd, reduceEqDiff, ↓reduceIte, reduceCtorEq, reduceLT, reduceLeDiff, reduceSub, Nat.reduceBEq]
    (repeat' apply And.intro) <;> first | rfl | assumption | omega | (simp; done)
   exact ZZ
def ref02_Ints_J1 : Option Bool :=
 some (true)
def ref02_Ints_L1 (a1 : List Int) (b1 : List Int) : Nat → Int → Option Bool
 | 0, _ => none
 | m_ + 1, i1 => cond (decide (i1 < (a1.length : Int))) ((idx a1 i1).bind fun x1 => (idx b1 i1).bind fun x2 => cond (x1 != x2) (some (false)) (ref02_Ints_L1 a1 b1 m_ (IntKind.wrap .i64 (i1 + 1)))) (ref02_Ints_J1)
def ref02_Ints_f (a1 : List Int) (b1 : List Int) : Option Bool :=
 cond ((a1.length : Int) != (b1.length : Int)) (some (false)) (ref02_Ints_L1 a1 b1 BIG 0)
theorem ref02_Ints_pc {a1 : List Int} {b1 : List Int} {r : Bool} (H : ref02_Ints_f a1 b1 = some r) : PC Tryz.prog 21 [.list 1 (a1.map (ci .i64)), .list 1 (b1.map (ci .i64))] (.bool r) := by
 refine pcA_of Tryz.func21 (by rfl) (by decide) 26 (by rfl) [.tmp 4] (by rfl) ?_
 unfold ref02_Ints_f at H
 simp only [ent]
 refine a_srC _ rfl ?_
 refine a_seq ?_
 refine a_srC _ rfl ?_
 refine a_cnd H (fun zc1 H => ?_) (fun zc1 H => ?_)
 ·refine a_srC _ rfl ?_
  exact a_ret (sA_r RT)
 ·refine a_skip ?_
  refine sA_n ?_
  refine a_cut (fun s => ∃ (t0 : Nat → Dat), ref02_Ints_J1 = some r ∧ s = ⟨tl t0 [], hl [], 0, 26⟩) ?_ ?_
  ·refine a_srC _ rfl ?_
   refine a_blk ?_
   refine a_loop (fun m s => ∃ (i1 : Int) (t0 : Nat → Dat), ref02_Ints_L1 a1 b1 m i1 = some r ∧ s = ⟨tl t0 [(0, .list 1 (a1.map (ci .i64))), (1, .list 1 (b1.map (ci .i64))), (5, .int .i64 i1)], hl [], 0, 26⟩) BIG ?_ ?_
   ·exact wk_lA [] [] (fun t0 => ⟨0, t0, H, rfl⟩)
   ·rintro m_ref02_Ints_L1 s ⟨i1, t0, H, rfl⟩
    obtain _ | m_ref02_Ints_L1 := m_ref02_Ints_L1
    ·cases (show (none : Option _) = some _ from H)
    ·rw [ref02_Ints_L1] at H
     refine a_seq ?_
     refine a_srC _ rfl ?_
     refine a_cnd H (fun zc2 H => ?_) (fun zc2 H => ?_)
     ·refine a_skip ?_
      refine sA_n ?_
      refine a_seq ?_
      refine a_blk ?_
      refine a_seq ?_
      obtain ⟨x1, zh1, H⟩ := bind_some H
      obtain ⟨zg1, zh1a, zh1b⟩ := idx3 (f := (ci .i64)) zh1
      try simp only [Int.reduceToNat, Int.toNat_natCast] at zg1
      obtain ⟨x2, zh2, H⟩ := bind_some H
      obtain ⟨zg2, zh2a, zh2b⟩ := idx3 (f := (ci .i64)) zh2
      try simp only [Int.reduceToNat, Int.toNat_natCast] at zg2
      refine a_drW (by kernel_rfl) _ rfl (s := ?zs7) (by kernel_rfl) (by kernel_rfl) ?zs7f ?_ ?_ ?_
      rotate_left 2
      ·refine goS ?_
       exact CLS
      ·kernel_rfl
      refine sA_n ?_
      refine a_cnd H (fun zc3 H => ?_) (fun zc3 H => ?_)
      ·refine a_srC _ rfl ?_
       refine a_ret ?_
       refine bA_r ?_
       refine sA_r ?_
       refine lA_r ?_
       refine bA_r ?_
       refine cA_r ?_
       obtain rfl := Option.some.inj H
       refine e_r2 (d := ?zd3) ?_ ?_
       rotate_left
       ·simp only [EVT, resR, single, evLoad, cut, TIS, CS, reduceAdd, reduceEqDiff, ↓reduceIte, reduceCtorEq, reduceLT, reduceLeDiff, reduceSub, Nat.reduceBEq, zc2, zg1, zg2, zc3]
        (repeat' apply And.intro) <;> first | rfl | assumption | omega | (simp; done)
       exact ZZ
      ·refine a_skip ?_
       refine bA_n ?_
       refine sA_n ?_
       refine a_regC _ rfl ?_
       refine lA_n ?_
       exact wk_lA [] [] (fun t0 => ⟨_, Nat.lt_succ_self _, (IntKind.wrap .i64 (i1 + 1)), t0, H, rfl⟩)
     ·refine a_exit ?_
      refine sA_e ?_
      refine lA_e ?_
      refine bA_hit ?_
      refine cA_n ?_
      exact wk_lA [] [] (fun t0 => ⟨t0, H, rfl⟩)
  ·rintro s ⟨t0, H, rfl⟩
   unfold ref02_Ints_J1 at H
   refine a_srC _ rfl ?_
   refine a_ret ?_
   obtain rfl := Option.some.inj H
   refine e_r2 (d := ?zd2) ?_ ?_
   rotate_left
   ·simp only [EVT, resR, single, evLoad, cut, TIS, CS, reduceAdd, reduceEqDiff, ↓reduceIte, reduceCtorEq, reduceLT, reduceLeDiff, reduceSub, Nat.reduceBEq]
    (repeat' apply And.intro) <;> first | rfl | assumption | omega | (simp; done)
   exact ZZ
def scrub_all_f (disks1 : List Disk) (c1 : Chain) : Option Unit :=
 some ()
theorem scrub_all_pc {disks1 : List Disk} {c1 : Chain} {r : Unit} (H : scrub_all_f disks1 c1 = some r) : PC Tryz.prog 51 [.list 3 (disks1.map Disk.c), .agg (Chain.c c1)] (.fn (.func 101) [] [.rop (Chain.c c1) 0 3, .rop ((cl 3 Disk.c) disks1) 0 1]) := by
 refine pcA_of Tryz.func51 (by rfl) (by decide) 6 (by rfl) [.tmp 4] (by rfl) ?_
 unfold scrub_all_f at H
 simp only [ent]
 refine a_srC _ rfl ?_
 refine a_srC _ rfl ?_
 exact a_ret RT
def scrub_Look_J1 (out1 : List Find) : Option (List Find) :=
 some (out1)
def scrub_Look_L1 (c1 : Chain) : List (Int × Int) → (List Find) → Option (List Find)
 | [], out2 => scrub_Look_J1 out2
 | y1 :: rest_, out2 => cond (y1.2 != 0) (chk ((out2.length + 1) * 24 ≤ 140737488355328) (scrub_Look_L1 c1 rest_ (out2 ++ [(⟨c1.id, y1.1, y1.2⟩ : Find)]))) (scrub_Look_L1 c1 rest_ out2)
def scrub_Look_f (disks1 : List Disk) (c1 : Chain) : Option (List Find) :=
 (scrub_all_f disks1 c1).bind fun r1 => (scrub_all_1_f c1 disks1).bind fun ys1 => scrub_Look_L1 c1 ys1 ([] : List Find)
theorem scrub_Look_rc {disks1 : List Disk} {c1 : Chain} {r : (List Find)} (H : scrub_Look_f disks1 c1 = some r) : RC Tryz.prog 17 [.list 3 (disks1.map Disk.c), .agg (Chain.c c1)] [] 0 (.ref 0 0 r.length 3) [some ⟨47, 3, false, r.map Find.c⟩] := by
 refine rcA_of Tryz.func17 (by rfl) (by decide) 24 (by rfl) [.tmp 4] (by rfl) ?_
 unfold scrub_Look_f at H
 simp only [hent, List.length_cons, List.length_nil, reduceAdd]
 refine a_srC _ rfl ?_
 refine a_srC _ rfl ?_
 refine a_cut (fun s => ∃ (out1 : List Find) (t0 : Nat → Dat), scrub_Look_J1 out1 = some r ∧ s = ⟨tl t0 [(5, .ptr 0 0 0 1)], hl [⟨36, 1, false, [[.ref 1 0 out1.length 3]]⟩, ⟨47, 3, false, out1.map Find.c⟩], 2, 24⟩) ?_ ?_
 ·refine a_seq ?_
  obtain ⟨r1, zh1, H⟩ := bind_some H
  have zk1 := scrub_all_pc zh1
  refine a_regK _ rfl ?_
  refine sA_n ?_
  refine a_blk ?_
  obtain ⟨ys1, zi1, H⟩ := bind_some H
  refine a_weak (fun s => ∃ t0 : Nat → Dat, s = ⟨tl t0 [(3, .ptr 0 0 0 3), (5, .ptr 1 0 0 1), (10, .fn (.func 101) [] [.rop [.int .i64 c1.id, .int .i64 c1.ver, .list 1 (c1.servers.map (ci .i64))] 0 3, .rop [.list 3 (disks1.map Disk.c)] 0 1])], hl [⟨30, 3, false, [[.int .i64 c1.id, .int .i64 c1.ver, .list 1 (c1.servers.map (ci .i64))]]⟩, ⟨36, 1, false, [[.ref 2 0 ([] : List Find).length 3]]⟩, ⟨47, 3, false, ([] : List Find).map Find.c⟩], 3, 24⟩) ?_ ?_
  ·exact wk_lA [(some 0, _), (some 16, _), (none, _)] [] (fun t0 => ⟨t0, rfl⟩)
  ·rintro s ⟨t0, rfl⟩
   refine a_rfT 2 [(3, .ptr 0 0 0 3), (5, .ptr 1 0 0 1), (10, .fn (.func 101) [] [.rop [.int .i64 c1.id, .int .i64 c1.ver, .list 1 (c1.servers.map (ci .i64))] 0 3, .rop [.list 3 (disks1.map Disk.c)] 0 1])] [11, 12] (fun y => [.int .i64 y.1, .int .i64 y.2]) (scrub_all_1_it zi1) (fun (l : List (Int × Int)) b => ∃ (out2 : List Find) (t9 : Unit), scrub_Look_L1 c1 l out2 = some r ∧ b = [⟨30, 3, false, [[.int .i64 c1.id, .int .i64 c1.ver, .list 1 (c1.servers.map (ci .i64))]]⟩, ⟨36, 1, false, [[.ref 2 0 out2.length 3]]⟩, ⟨47, 3, false, out2.map Find.c⟩]) (fun _ _ => False) (by decide) rfl (fun _ => rfl) (by decide) rfl (.cons (.rop' (.cons (.int' rfl) (.cons (.int' rfl) (.cons (.lst _ _ _ (ci_pu .i64) rfl) .nil)))) (.cons (.rop' (.cons (.lst _ _ _ Disk.pu rfl) .nil)) .nil)) ⟨(.ptr _ _ _ _ _ rfl), ⟨(.ptr _ _ _ _ _ rfl), ⟨(.fn' .nil (.cons (.rop' (.cons (.int' rfl) (.cons (.int' rfl) (.cons (.lst _ _ _ (ci_pu .i64) rfl) .nil)))) (.cons (.rop' (.cons (.lst _ _ _ Disk.pu rfl) .nil)) .nil))), trivial⟩⟩⟩ ⟨([] : List Find), (), H, rfl⟩ ?_ ?_ ?_
   ·rintro fe y1 rest_scrub_Look_L1 b t0 ⟨out2, _, H, rfl⟩
    rw [scrub_Look_L1] at H
    show aw _ _ _ _ _ ⟨tl t0 [(12, .int .i64 y1.2), (11, .int .i64 y1.1), (3, .ptr 0 0 0 3), (5, .ptr 1 0 0 1), (10, .fn (.func 101) [] [.rop [.int .i64 c1.id, .int .i64 c1.ver, .list 1 (c1.servers.map (ci .i64))] 0 3, .rop [.list 3 (disks1.map Disk.c)] 0 1])], hl [⟨30, 3, false, [[.int .i64 c1.id, .int .i64 c1.ver, .list 1 (c1.servers.map (ci .i64))]]⟩, ⟨36, 1, false, [[.ref 2 0 out2.length 3]]⟩, ⟨47, 3, false, out2.map Find.c⟩], 3, 24⟩
    refine a_srC _ rfl ?_
    refine a_regC _ rfl ?_
    refine rfA_n ?_
    refine a_blk ?_
    refine a_srC _ rfl ?_
    refine a_cnd H (fun zc1 H => ?_) (fun zc1 H => ?_)
    ·obtain ⟨zh2, H⟩ := chk_some H
     refine a_regC _ rfl ?_
     refine bA_n ?_
     refine rf_n ?_
     exact wk_lnA 2 [(some 0, ⟨30, 3, false, [Chain.c c1]⟩), (some 1, ⟨36, 1, false, [[.ref 2 0 (out2 ++ [(⟨c1.id, y1.1, y1.2⟩ : Find)]).length 3]]⟩), (some 42, ⟨47, 3, false, (out2 ++ [(⟨c1.id, y1.1, y1.2⟩ : Find)]).map Find.c⟩)] [] (L := []) (fun t0 => ⟨_, ⟨(out2 ++ [(⟨c1.id, y1.1, y1.2⟩ : Find)]), (), H, rfl⟩, rfl, rfl⟩)
    ·refine a_skip ?_
     refine bA_n ?_
     refine rf_n ?_
     exact wk_lnA 2 [(some 0, ⟨30, 3, false, [Chain.c c1]⟩), (some 1, ⟨36, 1, false, [[.ref 2 0 out2.length 3]]⟩), (some 2, ⟨47, 3, false, out2.map Find.c⟩)] [] (L := []) (fun t0 => ⟨_, ⟨out2, (), H, rfl⟩, rfl, rfl⟩)
   ·rintro b t0 ⟨out2, _, H, rfl⟩
    rw [scrub_Look_L1] at H
    simp only [List.length_cons, List.length_nil, reduceAdd]
    refine bA_n ?_
    refine cA_n ?_
    exact wk_lA [(some 1, _), (some 2, _)] [] (fun t0 => ⟨out2, t0, H, rfl⟩)
   ·rintro c b t0 h
    exact h.elim
 ·rintro s ⟨out1, t0, H, rfl⟩
  unfold scrub_Look_J1 at H
  refine a_srC _ rfl ?_
  refine a_ret ?_
  obtain rfl := Option.some.inj H
  refine eR_r ?_
  exact wk_lnA 0 [(some 1, ⟨47, 3, false, out1.map Find.c⟩)] [] (L := [(4, .ref 0 0 out1.length 3)]) (fun t0 => ⟨RS2, RJ⟩) (fun i h => absurd h (Nat.not_lt_zero i))
def scrub_Intact_J1 (out1 : List Int) : Option (List Int) :=
 some (out1)
def scrub_Intact_L1 : List (Int × Int) → (List Int) → Option (List Int)
 | [], out2 => scrub_Intact_J1 out2
 | y1 :: rest_, out2 => cond (y1.2 == 0) (chk ((out2.length + 1) * 8 ≤ 140737488355328) (scrub_Intact_L1 rest_ (out2 ++ [y1.1]))) (scrub_Intact_L1 rest_ out2)
def scrub_Intact_f (disks1 : List Disk) (c1 : Chain) : Option (List Int) :=
 (scrub_all_f disks1 c1).bind fun r1 => (scrub_all_1_f c1 disks1).bind fun ys1 => scrub_Intact_L1 ys1 ([] : List Int)
theorem scrub_Intact_pc {disks1 : List Disk} {c1 : Chain} {r : (List Int)} (H : scrub_Intact_f disks1 c1 = some r) : PC Tryz.prog 23 [.list 3 (disks1.map Disk.c), .agg (Chain.c c1)] (.list 1 (r.map (ci .i64))) := by
 refine pcA_of Tryz.func23 (by rfl) (by decide) 20 (by rfl) [.tmp 4] (by rfl) ?_
 unfold scrub_Intact_f at H
 simp only [ent]
 refine a_srC _ rfl ?_
 refine a_srC _ rfl ?_
 refine a_cut (fun s => ∃ (out1 : List Int) (t0 : Nat → Dat), scrub_Intact_J1 out1 = some r ∧ s = ⟨tl t0 [(5, .ptr 0 0 0 1)], hl [⟨28, 1, false, [[.ref 1 0 out1.length 1]]⟩, ⟨3, 1, false, out1.map (ci .i64)⟩], 2, 20⟩) ?_ ?_
 ·refine a_seq ?_
  obtain ⟨r1, zh1, H⟩ := bind_some H
  have zk1 := scrub_all_pc zh1
  refine a_regK _ rfl ?_
  refine sA_n ?_
  refine a_blk ?_
  obtain ⟨ys1, zi1, H⟩ := bind_some H
  refine a_weak (fun s => ∃ t0 : Nat → Dat, s = ⟨tl t0 [(5, .ptr 0 0 0 1), (10, .fn (.func 101) [] [.rop [.int .i64 c1.id, .int .i64 c1.ver, .list 1 (c1.servers.map (ci .i64))] 0 3, .rop [.list 3 (disks1.map Disk.c)] 0 1])], hl [⟨28, 1, false, [[.ref 1 0 ([] : List Int).length 1]]⟩, ⟨3, 1, false, ([] : List Int).map (ci .i64)⟩], 2, 20⟩) ?_ ?_
  ·exact wk_lA [(some 16, _), (none, _)] [] (fun t0 => ⟨t0, rfl⟩)
  ·rintro s ⟨t0, rfl⟩
   refine a_rfT 1 [(5, .ptr 0 0 0 1), (10, .fn (.func 101) [] [.rop [.int .i64 c1.id, .int .i64 c1.ver, .list 1 (c1.servers.map (ci .i64))] 0 3, .rop [.list 3 (disks1.map Disk.c)] 0 1])] [11, 12] (fun y => [.int .i64 y.1, .int .i64 y.2]) (scrub_all_1_it zi1) (fun (l : List (Int × Int)) b => ∃ (out2 : List Int) (t9 : Unit), scrub_Intact_L1 l out2 = some r ∧ b = [⟨28, 1, false, [[.ref 1 0 out2.length 1]]⟩, ⟨3, 1, false, out2.map (ci .i64)⟩]) (fun _ _ => False) (by decide) rfl (fun _ => rfl) (by decide) rfl (.cons (.rop' (.cons (.int' rfl) (.cons (.int' rfl) (.cons (.lst _ _ _ (ci_pu .i64) rfl) .nil)))) (.cons (.rop' (.cons (.lst _ _ _ Disk.pu rfl) .nil)) .nil)) ⟨(.ptr _ _ _ _ _ rfl), ⟨(.fn' .nil (.cons (.rop' (.cons (.int' rfl) (.cons (.int' rfl) (.cons (.lst _ _ _ (ci_pu .i64) rfl) .nil)))) (.cons (.rop' (.cons (.lst _ _ _ Disk.pu rfl) .nil)) .nil))), trivial⟩⟩ ⟨([] : List Int), (), H, rfl⟩ ?_ ?_ ?_
   ·rintro fe y1 rest_scrub_Intact_L1 b t0 ⟨out2, _, H, rfl⟩
    rw [scrub_Intact_L1] at H
    show aw _ _ _ _ _ ⟨tl t0 [(12, .int .i64 y1.2), (11, .int .i64 y1.1), (5, .ptr 0 0 0 1), (10, .fn (.func 101) [] [.rop [.int .i64 c1.id, .int .i64 c1.ver, .list 1 (c1.servers.map (ci .i64))] 0 3, .rop [.list 3 (disks1.map Disk.c)] 0 1])], hl [⟨28, 1, false, [[.ref 1 0 out2.length 1]]⟩, ⟨3, 1, false, out2.map (ci .i64)⟩], 2, 20⟩
    refine a_srC _ rfl ?_
    refine a_regC _ rfl ?_
    refine rfA_n ?_
    refine a_blk ?_
    refine a_srC _ rfl ?_
    refine a_cnd H (fun zc1 H => ?_) (fun zc1 H => ?_)
    ·obtain ⟨zh2, H⟩ := chk_some H
     refine a_regC _ rfl ?_
     refine bA_n ?_
     refine rf_n ?_
     exact wk_lnA 1 [(some 0, ⟨28, 1, false, [[.ref 1 0 (out2 ++ [y1.1]).length 1]]⟩), (some 37, ⟨3, 1, false, (out2 ++ [y1.1]).map (ci .i64)⟩)] [] (L := []) (fun t0 => ⟨_, ⟨(out2 ++ [y1.1]), (), H, rfl⟩, rfl, rfl⟩)
    ·refine a_skip ?_
     refine bA_n ?_
     refine rf_n ?_
     exact wk_lnA 1 [(some 0, ⟨28, 1, false, [[.ref 1 0 out2.length 1]]⟩), (some 1, ⟨3, 1, false, out2.map (ci .i64)⟩)] [] (L := []) (fun t0 => ⟨_, ⟨out2, (), H, rfl⟩, rfl, rfl⟩)
   ·rintro b t0 ⟨out2, _, H, rfl⟩
    rw [scrub_Intact_L1] at H
    simp only [List.length_cons, List.length_nil, reduceAdd]
    refine bA_n ?_
    refine cA_n ?_
    exact wk_lA [(some 0, _), (some 1, _)] [] (fun t0 => ⟨out2, t0, H, rfl⟩)
   ·rintro c b t0 h
    exact h.elim
 ·rintro s ⟨out1, t0, H, rfl⟩
  unfold scrub_Intact_J1 at H
  refine a_srC _ rfl ?_
  exact a_ret RT
def slices_insertionSortCmpFunc_J1 (k_slices_insertionSortCmpFunc_L1 : (List Find) → Int → Option (List Find)) (i1 : Int) (data3 : List Find) : Option (List Find) :=
 k_slices_insertionSortCmpFunc_L1 data3 (IntKind.wrap .i64 (i1 + 1))
def slices_insertionSortCmpFunc_J2 (k_slices_insertionSortCmpFunc_L2 : (List Find) → Int → Option (List Find)) (k_slices_insertionSortCmpFunc_L1 : (List Find) → Int → Option (List Find)) (data4 : List Find) (j1 : Int) (i1 : Int) (v1 : Bool) : Option (List Find) :=
 cond v1 ((idx data4 (IntKind.wrap .i64 (j1 - 1))).bind fun x1 => (idx data4 j1).bind fun x2 => (idx (data4.set j1.toNat x1) (IntKind.wrap .i64 (j1 - 1))).bind fun x3 => k_slices_insertionSortCmpFunc_L2 ((data4.set j1.toNat x1).set ((IntKind.wrap .i64 (j1 - 1)).toNat) x2) (IntKind.wrap .i64 (j1 - 1))) (slices_insertionSortCmpFunc_J1 k_slices_insertionSortCmpFunc_L1 i1 data4)
def slices_insertionSortCmpFunc_L2 (k_slices_insertionSortCmpFunc_L1 : (List Find) → Int → Option (List Find)) (a1 : Int) (cmp1 : Find → Find → Option Int) (i1 : Int) : Nat → (List Find) → Int → Option (List Find)
 | 0, _, _ => none
 | m_ + 1, data4, j1 => cond (decide (a1 < j1)) ((idx data4 j1).bind fun x4 => (idx data4 (IntKind.wrap .i64 (j1 - 1))).bind fun x5 => (cmp1 x4 x5).bind fun r1 => slices_insertionSortCmpFunc_J2 (slices_insertionSortCmpFunc_L2 k_slices_insertionSortCmpFunc_L1 a1 cmp1 i1 m_) k_slices_insertionSortCmpFunc_L1 data4 j1 i1 (decide (r1 < 0))) (slices_insertionSortCmpFunc_J2 (slices_insertionSortCmpFunc_L2 k_slices_insertionSortCmpFunc_L1 a1 cmp1 i1 m_) k_slices_insertionSortCmpFunc_L1 data4 j1 i1 false)
def slices_insertionSortCmpFunc_L1 (b1 : Int) (a1 : Int) (cmp1 : Find → Find → Option Int) : Nat → (List Find) → Int → Option (List Find)
 | 0, _, _ => none
 | m_ + 1, data2, i1 => cond (decide (i1 < b1)) (slices_insertionSortCmpFunc_L2 (slices_insertionSortCmpFunc_L1 b1 a1 cmp1 m_) a1 cmp1 i1 BIG data2 i1) (some (data2))
def slices_insertionSortCmpFunc_f (data1 : List Find) (a1 : Int) (b1 : Int) (cmp1 : Find → Find → Option Int) : Option (List Find) :=
 slices_insertionSortCmpFunc_L1 b1 a1 cmp1 BIG data1 (IntKind.wrap .i64 (a1 + 1))
theorem slices_insertionSortCmpFunc_rc {data1 : List Find} {a1 : Int} {b1 : Int} {cmp1 : Find → Find → Option Int} {cmp1_F : FuncId} {cmp1_caps : List Dat} (cmp1_hp : ∀ (x0_ : Find) (x1_ : Find) (r : Int), cmp1 x0_ x1_ = some r → PC Tryz.prog cmp1_F (.agg (Find.c x0_) :: .agg (Find.c x1_) :: cmp1_caps) (.int .i64 r)) (cmp1_pu : Pus cmp1_caps) {r : (List Find)} (H : slices_insertionSortCmpFunc_f data1 a1 b1 cmp1 = some r) : RC Tryz.prog 145 [.ref 0 0 data1.length 3, .int .i64 a1, .int .i64 b1, .fn (.func cmp1_F) [] cmp1_caps] [⟨47, 3, false, data1.map Find.c⟩] 1 (.tup []) [some ⟨47, 3, false, r.map Find.c⟩] := by
 refine rcA_of Tryz.func145 (by rfl) (by decide) 53 (by rfl) [] (by rfl) ?_
 unfold slices_insertionSortCmpFunc_f at H
 simp only [hent, List.length_cons, List.length_nil, reduceAdd]
 refine a_srC _ rfl ?_
 refine a_blk ?_
 refine a_loop (fun m s => ∃ (data2 : List Find) (i1 : Int) (t0 : Nat → Dat), slices_insertionSortCmpFunc_L1 b1 a1 cmp1 m data2 i1 = some r ∧ s = ⟨tl t0 [(0, .ref 0 0 data2.length 3), (1, .int .i64 a1), (2, .int .i64 b1), (3, .fn (.func cmp1_F) [] cmp1_caps), (8, .int .i64 i1)], hl [⟨47, 3, false, data2.map Find.c⟩], 1, 53⟩) BIG ?_ ?_
 ·refine wk_ln 1 [(some 0, ⟨47, 3, false, data1.map Find.c⟩)] [] [(0, .ref 0 0 data1.length 3), (1, .int .i64 a1), (2, .int .i64 b1), (3, .fn (.func cmp1_F) [] cmp1_caps), (8, .int .i64 (IntKind.wrap .i64 (a1 + 1)))] LW ND ND ?_ ?_ (fun t0 => ⟨data1, (IntKind.wrap .i64 (a1 + 1)), t0, H, rfl⟩)
  ·exact (allB_some (by rfl) rfl (.sm _ _ Find.pu) trivial)
  ·(simp only [AllT, ATT, reduceEqDiff, ↓reduceIte, and_true]); exact ⟨(.refl' (by first|rfl|omega|(simp;done)|(simp;omega)|(simp_all;done)) rfl), (.int' rfl), (.int' rfl), (.fn' .nil (RNs.pu cmp1_pu)), (.int' rfl)⟩
 ·rintro m_slices_insertionSortCmpFunc_L1 s ⟨data2, i1, t0, H, rfl⟩
  obtain _ | m_slices_insertionSortCmpFunc_L1 := m_slices_insertionSortCmpFunc_L1
  ·cases (show (none : Option _) = some _ from H)
  ·rw [slices_insertionSortCmpFunc_L1] at H
   refine a_seq ?_
   refine a_srC _ rfl ?_
   refine a_cnd H (fun zc1 H => ?_) (fun zc1 H => ?_)
   ·refine a_skip ?_
    refine sA_n ?_
    refine a_cut (fun s => ∃ (data3 : List Find) (t0 : Nat → Dat), slices_insertionSortCmpFunc_J1 (slices_insertionSortCmpFunc_L1 b1 a1 cmp1 m_slices_insertionSortCmpFunc_L1) i1 data3 = some r ∧ s = ⟨tl t0 [(0, .ref 0 0 data3.length 3), (1, .int .i64 a1), (2, .int .i64 b1), (3, .fn (.func cmp1_F) [] cmp1_caps), (8, .int .i64 i1)], hl [⟨47, 3, false, data3.map Find.c⟩], 1, 53⟩) ?_ ?_
    ·refine a_blk ?_
     refine a_srC _ rfl ?_
     refine a_blk ?_
     refine a_loop (fun m s => ∃ (data4 : List Find) (j1 : Int) (t0 : Nat → Dat), slices_insertionSortCmpFunc_L2 (slices_insertionSortCmpFunc_L1 b1 a1 cmp1 m_slices_insertionSortCmpFunc_L1) a1 cmp1 i1 m data4 j1 = some r ∧ s = ⟨tl t0 [(0, .ref 0 0 data4.length 3), (1, .int .i64 a1), (2, .int .i64 b1), (3, .fn (.func cmp1_F) [] cmp1_caps), (8, .int .i64 i1), (9, .int .i64 j1)], hl [⟨47, 3, false, data4.map Find.c⟩], 1, 53⟩) BIG ?_ ?_
     ·refine wk_ln 1 [(some 0, ⟨47, 3, false, data2.map Find.c⟩)] [] [(0, .ref 0 0 data2.length 3), (1, .int .i64 a1), (2, .int .i64 b1), (3, .fn (.func cmp1_F) [] cmp1_caps), (8, .int .i64 i1), (9, .int .i64 i1)] LW ND ND ?_ ?_ (fun t0 => ⟨data2, i1, t0, H, rfl⟩)
      ·exact (allB_some (by rfl) rfl (.sm _ _ Find.pu) trivial)
      ·(simp only [AllT, ATT, reduceEqDiff, ↓reduceIte, and_true]); exact ⟨(.refl' (by first|rfl|omega|(simp;done)|(simp;omega)|(simp_all;done)) rfl), (.int' rfl), (.int' rfl), (.fn' .nil (RNs.pu cmp1_pu)), (.int' rfl), (.int' rfl)⟩
     ·rintro m_slices_insertionSortCmpFunc_L2 s ⟨data4, j1, t0, H, rfl⟩
      obtain _ | m_slices_insertionSortCmpFunc_L2 := m_slices_insertionSortCmpFunc_L2
      ·cases (show (none : Option _) = some _ from H)
      ·rw [slices_insertionSortCmpFunc_L2] at H
       refine a_seq ?_
       refine a_cut (fun s => ∃ (v1 : Bool) (t0 : Nat → Dat), slices_insertionSortCmpFunc_J2 (slices_insertionSortCmpFunc_L2 (slices_insertionSortCmpFunc_L1 b1 a1 cmp1 m_slices_insertionSortCmpFunc_L1) a1 cmp1 i1 m_slices_insertionSortCmpFunc_L2) (slices_insertionSortCmpFunc_L1 b1 a1 cmp1 m_slices_insertionSortCmpFunc_L1) data4 j1 i1 v1 = some r ∧ s = ⟨tl t0 [(0, .ref 0 0 data4.length 3), (1, .int .i64 a1), (2, .int .i64 b1), (3, .fn (.func cmp1_F) [] cmp1_caps), (8, .int .i64 i1), (9, .int .i64 j1), (34, .bool v1)], hl [⟨47, 3, false, data4.map Find.c⟩], 1, 53⟩) ?_ ?_
       ·refine cnd H (fun zc3 H => ?_) (fun zc3 H => ?_)
        ·obtain ⟨x4, zh4, H⟩ := bind_some H
         obtain ⟨zg4, zh4a, zh4b⟩ := idx3 (f := Find.c) zh4
         try simp only [Int.reduceToNat, Int.toNat_natCast] at zg4
         obtain ⟨x5, zh5, H⟩ := bind_some H
         obtain ⟨zg5, zh5a, zh5b⟩ := idx3 (f := Find.c) zh5
         try simp only [Int.reduceToNat, Int.toNat_natCast] at zg5
         obtain ⟨r1, zh6, H⟩ := bind_some H
         have zk1 := cmp1_hp _ _ _ zh6
         refine a_drW (by kernel_rfl) _ rfl (s := ?zs7) (by kernel_rfl) (by kernel_rfl) ?zs7f ?_ ?_ ?_
         rotate_left 2
         ·try refine goS ?_
          repeat' with_reducible apply And.intro
          all_goals try ((with_reducible show CallW _ _ _ _ _ _ _); refine cW_s [] zk1 (fun h2 e => (.cons (.agg' (.cons (.int' rfl) (.cons (.int' rfl) (.cons (.int' rfl) .nil)))) (.cons (.agg' (.cons (.int' rfl) (.cons (.int' rfl) (.cons (.int' rfl) .nil)))) (Pus.purRs cmp1_pu)))) (.int _ _) ?_; refine goS ?_)
          all_goals exact CLS
         ·kernel_rfl
         refine cA_n ?_
         refine wk_ln 1 [(some 0, ⟨47, 3, false, data4.map Find.c⟩)] [] [(0, .ref 0 0 data4.length 3), (1, .int .i64 a1), (2, .int .i64 b1), (3, .fn (.func cmp1_F) [] cmp1_caps), (8, .int .i64 i1), (9, .int .i64 j1), (34, .bool (decide (r1 < 0)))] LW ND ND ?_ ?_ (fun t0 => ⟨(decide (r1 < 0)), t0, H, rfl⟩)
         ·exact (allB_some (by rfl) rfl (.sm _ _ Find.pu) trivial)
         ·(simp only [AllT, ATT, reduceEqDiff, ↓reduceIte, and_true]); exact ⟨(.refl' (by first|rfl|omega|(simp;done)|(simp;omega)|(simp_all;done)) rfl), (.int' rfl), (.int' rfl), (.fn' .nil (RNs.pu cmp1_pu)), (.int' rfl), (.int' rfl), (.bool' rfl)⟩
        ·refine a_drW (by kernel_rfl) _ rfl (s := ?zs8) (by kernel_rfl) (by kernel_rfl) ?zs8f ?_ ?_ ?_
         rotate_left 2
         ·refine goS ?_
          try refine goS ?_
          exact CLS
         ·kernel_rfl
         refine cA_n ?_
         refine wk_ln 1 [(some 0, ⟨47, 3, false, data4.map Find.c⟩)] [] [(0, .ref 0 0 data4.length 3), (1, .int .i64 a1), (2, .int .i64 b1), (3, .fn (.func cmp1_F) [] cmp1_caps), (8, .int .i64 i1), (9, .int .i64 j1), (34, .bool false)] LW ND ND ?_ ?_ (fun t0 => ⟨false, t0, H, rfl⟩)
         ·exact (allB_some (by rfl) rfl (.sm _ _ Find.pu) trivial)
         ·(simp only [AllT, ATT, reduceEqDiff, ↓reduceIte, and_true]); exact ⟨(.refl' (by first|rfl|omega|(simp;done)|(simp;omega)|(simp_all;done)) rfl), (.int' rfl), (.int' rfl), (.fn' .nil (RNs.pu cmp1_pu)), (.int' rfl), (.int' rfl), (.bool' (by first | rfl | assumption | (simp_all; done)))⟩
       ·rintro s ⟨v1, t0, H, rfl⟩
        unfold slices_insertionSortCmpFunc_J2 at H
        refine a_cnd H (fun zc2 H => ?_) (fun zc2 H => ?_)
        ·refine a_skip ?_
         refine sA_n ?_
         refine a_seq ?_
         refine a_blk ?_
         obtain ⟨x1, zh1, H⟩ := bind_some H
         obtain ⟨zg1, zh1a, zh1b⟩ := idx3 (f := Find.c) zh1
         try simp only [Int.reduceToNat, Int.toNat_natCast] at zg1
         obtain ⟨x2, zh2, H⟩ := bind_some H
         obtain ⟨zg2, zh2a, zh2b⟩ := idx3 (f := Find.c) zh2
         try simp only [Int.reduceToNat, Int.toNat_natCast] at zg2
         obtain ⟨x3, zh3, H⟩ := bind_some H
         have zg3 := idx_map zh3 Find.c
         try simp only [Int.reduceToNat, Int.toNat_natCast, List.map_set, ci_eq, cb_eq, cs_eq] at zg3
         obtain ⟨zh3a, zh3b, _⟩ := idx_some zh3
         refine a_drW (by kernel_rfl) _ rfl (s := ?zs5) (by kernel_rfl) (by kernel_rfl) ?zs5f ?_ ?_ ?_
         rotate_left 2
         ·refine goS ?_
          exact CLS
         ·kernel_rfl
         refine bA_n ?_
         refine sA_n ?_
         refine a_regC _ rfl ?_
         refine lA_n ?_
         refine wk_ln 1 [(some 0, ⟨47, 3, false, ((data4.set j1.toNat x1).set ((IntKind.wrap .i64 (j1 - 1)).toNat) x2).map Find.c⟩)] [] [(0, .ref 0 0 ((data4.set j1.toNat x1).set ((IntKind.wrap .i64 (j1 - 1)).toNat) x2).length 3), (1, .int .i64 a1), (2, .int .i64 b1), (3, .fn (.func cmp1_F) [] cmp1_caps), (8, .int .i64 i1), (9, .int .i64 (IntKind.wrap .i64 (j1 - 1)))] LW ND ND ?_ ?_ (fun t0 => ⟨_, Nat.lt_succ_self _, ((data4.set j1.toNat x1).set ((IntKind.wrap .i64 (j1 - 1)).toNat) x2), (IntKind.wrap .i64 (j1 - 1)), t0, H, rfl⟩)
         ·exact (allB_some (by rfl) rfl (.sm _ _ Find.pu) trivial)
         ·(simp only [AllT, ATT, reduceEqDiff, ↓reduceIte, and_true]); exact ⟨(.refl' (by first|rfl|omega|(simp;done)|(simp;omega)|(simp_all;done)) rfl), (.int' rfl), (.int' rfl), (.fn' .nil (RNs.pu cmp1_pu)), (.int' rfl), (.int' rfl)⟩
        ·refine a_exit ?_
         refine sA_e ?_
         refine lA_e ?_
         refine bA_hit ?_
         refine bA_n ?_
         refine cA_n ?_
         refine wk_ln 1 [(some 0, ⟨47, 3, false, data4.map Find.c⟩)] [] [(0, .ref 0 0 data4.length 3), (1, .int .i64 a1), (2, .int .i64 b1), (3, .fn (.func cmp1_F) [] cmp1_caps), (8, .int .i64 i1)] LW ND ND ?_ ?_ (fun t0 => ⟨data4, t0, H, rfl⟩)
         ·exact (allB_some (by rfl) rfl (.sm _ _ Find.pu) trivial)
         ·(simp only [AllT, ATT, reduceEqDiff, ↓reduceIte, and_true]); exact ⟨(.refl' (by first|rfl|omega|(simp;done)|(simp;omega)|(simp_all;done)) rfl), (.int' rfl), (.int' rfl), (.fn' .nil (RNs.pu cmp1_pu)), (.int' rfl)⟩
    ·rintro s ⟨data3, t0, H, rfl⟩
     unfold slices_insertionSortCmpFunc_J1 at H
     refine a_regC _ rfl ?_
     refine lA_n ?_
     refine wk_ln 1 [(some 0, ⟨47, 3, false, data3.map Find.c⟩)] [] [(0, .ref 0 0 data3.length 3), (1, .int .i64 a1), (2, .int .i64 b1), (3, .fn (.func cmp1_F) [] cmp1_caps), (8, .int .i64 (IntKind.wrap .i64 (i1 + 1)))] LW ND ND ?_ ?_ (fun t0 => ⟨_, Nat.lt_succ_self _, data3, (IntKind.wrap .i64 (i1 + 1)), t0, H, rfl⟩)
     ·exact (allB_some (by rfl) rfl (.sm _ _ Find.pu) trivial)
     ·(simp only [AllT, ATT, reduceEqDiff, ↓reduceIte, and_true]); exact ⟨(.refl' (by first|rfl|omega|(simp;done)|(simp;omega)|(simp_all;done)) rfl), (.int' rfl), (.int' rfl), (.fn' .nil (RNs.pu cmp1_pu)), (.int' rfl)⟩
   ·refine a_exit ?_
    refine sA_e ?_
    refine lA_e ?_
    refine bA_hit ?_
    obtain rfl := Option.some.inj H
    refine eR_n ?_
    exact wk_lnA 1 [(some 0, ⟨47, 3, false, data2.map Find.c⟩)] [] (L := []) (fun t0 => ⟨RS2, RJ⟩)
def slices_pdqsortCmpFunc_L1 (b1 : Int) (a1 : Int) (data1 : List Find) (cmp1 : Find → Find → Option Int) : Nat → Option (List Find)
 | 0 => none
 | m_ + 1 => chk ((decide ((IntKind.wrap .i64 (b1 - a1)) ≤ 12)) = true) ((slices_insertionSortCmpFunc_f data1 a1 b1 cmp1).bind fun r1 => chk (r1.length = data1.length) (some (r1)))
def slices_pdqsortCmpFunc_f (data1 : List Find) (a1 : Int) (b1 : Int) (limit1 : Int) (cmp1 : Find → Find → Option Int) : Option (List Find) :=
 slices_pdqsortCmpFunc_L1 b1 a1 data1 cmp1 BIG
theorem slices_pdqsortCmpFunc_rc {data1 : List Find} {a1 : Int} {b1 : Int} {limit1 : Int} {cmp1 : Find → Find → Option Int} {cmp1_F : FuncId} {cmp1_caps : List Dat} (cmp1_hp : ∀ (x0_ : Find) (x1_ : Find) (r : Int), cmp1 x0_ x1_ = some r → PC Tryz.prog cmp1_F (.agg (Find.c x0_) :: .agg (Find.c x1_) :: cmp1_caps) (.int .i64 r)) (cmp1_pu : Pus cmp1_caps) {r : (List Find)} (H : slices_pdqsortCmpFunc_f data1 a1 b1 limit1 cmp1 = some r) : RC Tryz.prog 114 [.ref 0 0 data1.length 3, .int .i64 a1, .int .i64 b1, .int .i64 limit1, .fn (.func cmp1_F) [] cmp1_caps] [⟨47, 3, false, data1.map Find.c⟩] 1 (.tup []) [some ⟨47, 3, false, r.map Find.c⟩] := by
 refine rcA_of Tryz.func114 (by rfl) (by decide) 148 (by rfl) [] (by rfl) ?_
 unfold slices_pdqsortCmpFunc_f at H
 simp only [hent, List.length_cons, List.length_nil, reduceAdd]
 refine a_srC _ rfl ?_
 refine a_srC _ rfl ?_
 refine a_blk ?_
 refine a_loop (fun m s => ∃ (t0 : Nat → Dat), slices_pdqsortCmpFunc_L1 b1 a1 data1 cmp1 m = some r ∧ s = ⟨tl t0 [(0, .ref 0 0 data1.length 3), (1, .int .i64 a1), (2, .int .i64 b1), (3, .int .i64 limit1), (4, .fn (.func cmp1_F) [] cmp1_caps), (10, .bool true), (11, .bool true)], hl [⟨47, 3, false, data1.map Find.c⟩], 1, 148⟩) BIG ?_ ?_
 ·refine wk_ln 1 [(some 0, ⟨47, 3, false, data1.map Find.c⟩)] [] [(0, .ref 0 0 data1.length 3), (1, .int .i64 a1), (2, .int .i64 b1), (3, .int .i64 limit1), (4, .fn (.func cmp1_F) [] cmp1_caps), (10, .bool true), (11, .bool true)] LW ND ND ?_ ?_ (fun t0 => ⟨t0, H, rfl⟩)
  ·exact (allB_some (by rfl) rfl (.sm _ _ Find.pu) trivial)
  ·(simp only [AllT, ATT, reduceEqDiff, ↓reduceIte, and_true]); exact ⟨(.refl' (by first|rfl|omega|(simp;done)|(simp;omega)|(simp_all;done)) rfl), (.int' rfl), (.int' rfl), (.int' rfl), (.fn' .nil (RNs.pu cmp1_pu)), (.bool' (by first | rfl | assumption | (simp_all; done))), (.bool' (by first | rfl | assumption | (simp_all; done)))⟩
 ·rintro m_slices_pdqsortCmpFunc_L1 s ⟨t0, H, rfl⟩
  obtain _ | m_slices_pdqsortCmpFunc_L1 := m_slices_pdqsortCmpFunc_L1
  ·cases (show (none : Option _) = some _ from H)
  ·rw [slices_pdqsortCmpFunc_L1] at H
   refine a_blk ?_
   refine a_srC _ rfl ?_
   refine a_seq ?_
   refine a_srC _ rfl ?_
   obtain ⟨zh1, H⟩ := chk_some H
   refine a_condb ((decide ((IntKind.wrap .i64 (b1 - a1)) ≤ 12))) (by rfl) (fun zc1 => ?_) (fun zc1x => absurd (zc1x.symm.trans zh1) (by decide))
   ·try skip
    refine a_seq ?_
    obtain ⟨r1, zh2, H⟩ := bind_some H
    have zk1 := slices_insertionSortCmpFunc_rc (cmp1 := cmp1) (cmp1_F := cmp1_F) (cmp1_caps := cmp1_caps) cmp1_hp cmp1_pu zh2
    obtain ⟨zh3, H⟩ := chk_some H
    refine a_reg _ rfl (s := ?zs5) ?_ ?_
    rotate_left
    ·try refine goS ?_
     repeat' with_reducible apply And.intro
     all_goals try ((with_reducible show CallR _ _ _ _ _ _ _); refine callR_rcw (r' := .tup []) [(0, none), (0, some ⟨47, 3, false, r1.map Find.c⟩)] [(some 0, ⟨47, 3, false, data1.map Find.c⟩)] [] [(0, 0, ⟨47, 3, false, r1.map Find.c⟩)] (by first | rfl | (simp only [List.map_set, List.map_append, List.map_cons, List.map_nil]; rfl)) zk1 (by simp) ND (allB_some (by rfl) rfl (.sm _ _ Find.pu) trivial) (.cons (.refl' (by first|rfl|omega|(simp;done)|(simp;omega)|(simp_all;done)) rfl) (.cons (.int' rfl) (.cons (.int' rfl) (.cons (.fn' .nil (RNs.pu cmp1_pu)) .nil)))) ND ND ⟨.inl ⟨by decide, rfl⟩, ⟨_, rfl, ⟨rfl, rfl, rfl, rfl⟩, .same _ _ Find.pu rfl⟩, trivial⟩ (.tup' .nil) ?_; refine goS ?_)
     all_goals ((repeat' apply And.intro) <;> first|rfl|assumption|omega|(simp;done)|(simp;omega)|(simp_all;done))
    refine sA_n ?_
    refine a_ret ?_
    refine sA_r ?_
    refine bA_r ?_
    refine lA_r ?_
    refine bA_r ?_
    obtain rfl := Option.some.inj H
    refine eR_r ?_
    exact wk_lnA 1 [(some 0, ⟨47, 3, false, r1.map Find.c⟩)] [] (L := []) (fun t0 => ⟨RS2, RJ⟩)
def slices_SortFunc_f (x1 : List Find) (cmp1 : Find → Find → Option Int) : Option (List Find) :=
 (math_bits_Len_f (IntKind.wrap .u64 (((x1.length : Nat)) : Int))).bind fun r1 => (slices_pdqsortCmpFunc_f x1 0 (((x1.length : Nat)) : Int) r1 cmp1).bind fun r2 => chk (r2.length = x1.length) (some (r2))
theorem slices_SortFunc_rc {x1 : List Find} {cmp1 : Find → Find → Option Int} {cmp1_F : FuncId} {cmp1_caps : List Dat} (cmp1_hp : ∀ (x0_ : Find) (x1_ : Find) (r : Int), cmp1 x0_ x1_ = some r → PC Tryz.prog cmp1_F (.agg (Find.c x0_) :: .agg (Find.c x1_) :: cmp1_caps) (.int .i64 r)) (cmp1_pu : Pus cmp1_caps) {r : (List Find)} (H : slices_SortFunc_f x1 cmp1 = some r) : RC Tryz.prog 62 [.ref 0 0 x1.length 3, .fn (.func cmp1_F) [] cmp1_caps] [⟨47, 3, false, x1.map Find.c⟩] 1 (.tup []) [some ⟨47, 3, false, r.map Find.c⟩] := by
 refine rcA_of Tryz.func62 (by rfl) (by decide) 14 (by rfl) [] (by rfl) ?_
 unfold slices_SortFunc_f at H
 simp only [hent, List.length_cons, List.length_nil, reduceAdd]
 refine a_srC _ rfl ?_
 obtain ⟨r1, zh1, H⟩ := bind_some H
 have zk1 := math_bits_Len_pc zh1
 obtain ⟨r2, zh2, H⟩ := bind_some H
 have zk2 := slices_pdqsortCmpFunc_rc (cmp1 := cmp1) (cmp1_F := cmp1_F) (cmp1_caps := cmp1_caps) cmp1_hp cmp1_pu zh2
 obtain ⟨zh3, H⟩ := chk_some H
 refine a_reg _ rfl (s := ?zs2) ?_ ?_
 rotate_left
 ·try refine goS ?_
  repeat' with_reducible apply And.intro
  all_goals try ((with_reducible show CallR _ _ _ _ _ _ _); refine cR_s zk1 (.cons (.int' rfl) .nil) (.int _ _) ?_; simp only [EVT, stepR, evOp, St.ev, St.app, St.put, wrs, evToStr, elems, frz, datOf, datOf1, TIS, CS, reduceAdd, reduceMul, reduceEqDiff, ↓reduceIte, reduceCtorEq, reduceLT, reduceLeDiff, reduceSub, Nat.reduceBEq])
  repeat' with_reducible apply And.intro
  all_goals try ((with_reducible show CallR _ _ _ _ _ _ _); refine callR_rcw (r' := .tup []) [(0, none), (0, some ⟨47, 3, false, r2.map Find.c⟩)] [(some 0, ⟨47, 3, false, x1.map Find.c⟩)] [] [(0, 0, ⟨47, 3, false, r2.map Find.c⟩)] (by first | rfl | (simp only [List.map_set, List.map_append, List.map_cons, List.map_nil]; rfl)) zk2 (by simp) ND (allB_some (by rfl) rfl (.sm _ _ Find.pu) trivial) (.cons (.refl' (by first|rfl|omega|(simp;done)|(simp;omega)|(simp_all;done)) rfl) (.cons (.int' rfl) (.cons (.int' rfl) (.cons (.int' rfl) (.cons (.fn' .nil (RNs.pu cmp1_pu)) .nil))))) ND ND ⟨.inl ⟨by decide, rfl⟩, ⟨_, rfl, ⟨rfl, rfl, rfl, rfl⟩, .same _ _ Find.pu rfl⟩, trivial⟩ (.tup' .nil) ?_; refine goS ?_)
  all_goals ((repeat' apply And.intro) <;> first|rfl|assumption|omega|(simp;done)|(simp;omega)|(simp_all;done))
 obtain rfl := Option.some.inj H
 refine eR_n ?_
 exact wk_lnA 1 [(some 0, ⟨47, 3, false, r2.map Find.c⟩)] [] (L := []) (fun t0 => ⟨RS2, RJ⟩)
def cmp_Compare_f (x1 : Int) (y1 : Int) : Option Int :=
 (cmp_isNaN_f x1).bind fun r1 => (cmp_isNaN_f y1).bind fun r2 => cond r1 (cond r2 (some (0)) (some ((-1)))) (cond r2 (some (1)) (cond (decide (x1 < y1)) (some ((-1))) (cond (decide (y1 < x1)) (some (1)) (some (0)))))
theorem cmp_Compare_pc {x1 : Int} {y1 : Int} {r : Int} (H : cmp_Compare_f x1 y1 = some r) : PC Tryz.prog 64 [.int .i64 x1, .int .i64 y1] (.int .i64 r) := by
 refine pcA_of Tryz.func64 (by rfl) (by decide) 20 (by rfl) [.tmp 4] (by rfl) ?_
 unfold cmp_Compare_f at H
 simp only [ent]
 refine a_srC _ rfl ?_
 refine a_seq ?_
 obtain ⟨r1, zh1, H⟩ := bind_some H
 have zk1 := cmp_isNaN_pc zh1
 refine a_regK _ rfl ?_
 refine sA_n ?_
 refine a_seq ?_
 obtain ⟨r2, zh2, H⟩ := bind_some H
 have zk2 := cmp_isNaN_pc zh2
 refine a_regK _ rfl ?_
 refine sA_n ?_
 refine a_seq ?_
 refine a_srC _ rfl ?_
 refine a_cnd H (fun zc1 H => ?_) (fun zc1 H => ?_)
 ·refine a_seq ?_
  refine a_srC _ rfl ?_
  refine a_cnd H (fun zc2 H => ?_) (fun zc2 H => ?_)
  ·refine a_srC _ rfl ?_
   exact a_ret (sA_r (sA_r RT))
  ·refine a_skip ?_
   refine sA_n ?_
   refine a_srC _ rfl ?_
   refine a_ret ?_
   refine sA_r ?_
   obtain rfl := Option.some.inj H
   refine e_r2 (d := ?zd2) ?_ ?_
   rotate_left
   ·simp only [EVT, resR, single, evLoad, cut, TIS, CS, reduceAdd, reduceEqDiff, ↓reduceIte, reduceCtorEq, reduceLT, reduceLeDiff, reduceSub, Nat.reduceBEq, zc1, zc2]
    (repeat' apply And.intro) <;> first | rfl | assumption | omega | (simp; done)
   exact ZZ
 ·refine a_skip ?_
  refine sA_n ?_
  refine a_seq ?_
  refine a_srC _ rfl ?_
  refine a_cnd H (fun zc3 H => ?_) (fun zc3 H => ?_)
  ·refine a_srC _ rfl ?_
   refine a_ret ?_
   refine sA_r ?_
   obtain rfl := Option.some.inj H
   refine e_r2 (d := ?zd3) ?_ ?_
   rotate_left
   ·simp only [EVT, resR, single, evLoad, cut, TIS, CS, reduceAdd, reduceEqDiff, ↓reduceIte, reduceCtorEq, reduceLT, reduceLeDiff, reduceSub, Nat.reduceBEq, zc1, zc3]
    (repeat' apply And.intro) <;> first | rfl | assumption | omega | (simp; done)
   exact ZZ
  ·refine a_skip ?_
   refine sA_n ?_
   refine a_seq ?_
   refine a_srC _ rfl ?_
   refine a_cnd H (fun zc4 H => ?_) (fun zc4 H => ?_)
   ·refine a_srC _ rfl ?_
    refine a_ret ?_
    refine sA_r ?_
    obtain rfl := Option.some.inj H
    refine e_r2 (d := ?zd4) ?_ ?_
    rotate_left
    ·simp only [EVT, resR, single, evLoad, cut, TIS, CS, reduceAdd, reduceEqDiff, ↓reduceIte, reduceCtorEq, reduceLT, reduceLeDiff, reduceSub, Nat.reduceBEq, zc1, zc3, zc4]
     (repeat' apply And.intro) <;> first | rfl | assumption | omega | (simp; done)
    exact ZZ
   ·refine a_skip ?_
    refine sA_n ?_
    refine a_seq ?_
    refine a_srC _ rfl ?_
    refine a_cnd H (fun zc5 H => ?_) (fun zc5 H => ?_)
    ·refine a_srC _ rfl ?_
     refine a_ret ?_
     refine sA_r ?_
     obtain rfl := Option.some.inj H
     refine e_r2 (d := ?zd5) ?_ ?_
     rotate_left
     ·simp only [EVT, resR, single, evLoad, cut, TIS, CS, reduceAdd, reduceEqDiff, ↓reduceIte, reduceCtorEq, reduceLT, reduceLeDiff, reduceSub, Nat.reduceBEq, zc1, zc3, zc4, zc5]
      (repeat' apply And.intro) <;> first | rfl | assumption | omega | (simp; done)
     exact ZZ
    ·refine a_skip ?_
     refine sA_n ?_
     refine a_srC _ rfl ?_
     refine a_ret ?_
     obtain rfl := Option.some.inj H
     refine e_r2 (d := ?zd6) ?_ ?_
     rotate_left
     ·simp only [EVT, resR, single, evLoad, cut, TIS, CS, reduceAdd, reduceEqDiff, ↓reduceIte, reduceCtorEq, reduceLT, reduceLeDiff, reduceSub, Nat.reduceBEq, zc1, zc3, zc4, zc5]
      (repeat' apply And.intro) <;> first | rfl | assumption | omega | (simp; done)
     exact ZZ
def scrub_Plan_1_f (a1 : Find) (b1 : Find) : Option Int :=
 (cmp_Compare_f a1.server b1.server).bind fun r1 => some (r1)
theorem scrub_Plan_1_pc {a1 : Find} {b1 : Find} {r : Int} (H : scrub_Plan_1_f a1 b1 = some r) : PC Tryz.prog 63 [.agg (Find.c a1), .agg (Find.c b1)] (.int .i64 r) := by
 refine pcA_of Tryz.func63 (by rfl) (by decide) 10 (by rfl) [.tmp 4] (by rfl) ?_
 unfold scrub_Plan_1_f at H
 simp only [ent]
 refine a_srC _ rfl ?_
 refine a_seq ?_
 obtain ⟨r1, zh1, H⟩ := bind_some H
 have zk1 := cmp_Compare_pc zh1
 refine a_regK _ rfl ?_
 refine sA_n ?_
 exact a_ret RT
end
end Go.Proofs.YtjflkcfafijhfaaGreat
/- Functions of the program as Lean functions, and that they are so; printed by a program of mine. -/
set_option linter.unusedSimpArgs false
set_option linter.unusedVariables false
set_option maxHeartbeats 4000000
set_option maxRecDepth 20000
namespace Go.Proofs.YtjflkcfafijhfaaGreat
open Go.Ab
open Nat (reduceAdd reduceMul reduceEqDiff reduceLT reduceLeDiff reduceSub)
noncomputable section
def scrub_next_1_f (x1 : Int) (v1 : Chain) (v2 : Int) : Option Bool :=
 (slices_Index_f v1.servers x1).bind fun r1 => some ((decide (v2 < r1)))
theorem scrub_next_1_pc {x1 : Int} {v1 : Chain} {v2 : Int} {r : Bool} (H : scrub_next_1_f x1 v1 v2 = some r) : PC Tryz.prog 117 [.int .i64 x1, .rop (Chain.c v1) 0 3, .rop ((ci .i64) v2) 0 1] (.bool r) := by
 refine pcA_of Tryz.func117 (by rfl) (by decide) 11 (by rfl) [.tmp 4] (by rfl) ?_
 unfold scrub_next_1_f at H
 simp only [ent]
 refine a_srC _ rfl ?_
 refine a_seq ?_
 obtain ⟨r1, zh1, H⟩ := bind_some H
 have zk1 := slices_Index_pc zh1
 refine a_drW (by kernel_rfl) _ rfl (s := ?zs2) (by kernel_rfl) (by kernel_rfl) ?zs2f ?_ ?_ ?_
 rotate_left 2
 ·try refine goS ?_
  repeat' with_reducible apply And.intro
  all_goals try ((with_reducible show CallW _ _ _ _ _ _ _); refine cW_s [] zk1 (fun h2 e => ZZ) (.int _ _) ?_; refine goS ?_)
  all_goals exact CLS
 ·kernel_rfl
 refine sA_n ?_
 exact a_ret RT
def scrub_next_f (c1 : Chain) (own1 : List Int) (s1 : Int) : Option Int :=
 (slices_Index_f c1.servers s1).bind fun r1 => (slices_IndexFunc_f own1 (fun y0_ => scrub_next_1_f y0_ c1 r1)).bind fun r2 => cond (decide (0 ≤ r2)) ((idx own1 r2).bind fun x1 => some (x1)) ((idx own1 (IntKind.wrap .i64 ((own1.length : Int) - 1))).bind fun x2 => some (x2))
theorem scrub_next_pc {c1 : Chain} {own1 : List Int} {s1 : Int} {r : Int} (H : scrub_next_f c1 own1 s1 = some r) : PC Tryz.prog 65 [.agg (Chain.c c1), .list 1 (own1.map (ci .i64)), .int .i64 s1] (.int .i64 r) := by
 refine pcA_of Tryz.func65 (by rfl) (by decide) 30 (by rfl) [.tmp 6] (by rfl) ?_
 unfold scrub_next_f at H
 simp only [ent]
 refine a_srC _ rfl ?_
 refine a_seq ?_
 obtain ⟨r1, zh1, H⟩ := bind_some H
 have zk1 := slices_Index_pc zh1
 refine a_regK _ rfl ?_
 refine sA_n ?_
 refine a_srC _ rfl ?_
 refine a_seq ?_
 refine a_seq ?_
 obtain ⟨r2, zh2, H⟩ := bind_some H
 have zk2 := slices_IndexFunc_pc (f1 := (fun y0_ => scrub_next_1_f y0_ c1 r1)) (f1_F := 117) (f1_caps := [.rop (Chain.c c1) 0 3, .rop ((ci .i64) r1) 0 1]) (fun _ _ h => scrub_next_1_pc h) (.cons (.rop _ _ _ (Chain.pu _)) (.cons (.rop _ _ _ ((ci_pu .i64) _)) .nil)) zh2
 refine a_regK _ rfl ?_
 refine sA_n ?_
 refine a_srC _ rfl ?_
 refine a_cnd H (fun zc1 H => ?_) (fun zc1 H => ?_)
 ·refine a_seq ?_
  obtain ⟨x1, zh3, H⟩ := bind_some H
  obtain ⟨zg1, zh3a, zh3b⟩ := idx3 (f := (ci .i64)) zh3
  try simp only [Int.reduceToNat, Int.toNat_natCast] at zg1
  refine a_regC _ rfl ?_
  refine sA_n ?_
  exact a_ret (sA_r RT)
 ·refine a_skip ?_
  refine sA_n ?_
  refine a_seq ?_
  obtain ⟨x2, zh4, H⟩ := bind_some H
  obtain ⟨zg2, zh4a, zh4b⟩ := idx3 (f := (ci .i64)) zh4
  try simp only [Int.reduceToNat, Int.toNat_natCast] at zg2
  refine a_regC _ rfl ?_
  refine sA_n ?_
  refine a_ret ?_
  obtain rfl := Option.some.inj H
  refine e_r2 (d := ?zd2) ?_ ?_
  rotate_left
  ·simp only [EVT, resR, single, evLoad, cut, TIS, CS, reduceAdd, reduceEqDiff, ↓reduceIte, reduceCtorEq, reduceLT, reduceLeDiff, reduceSub, Nat.reduceBEq, zc1, zg2]
   (repeat' apply And.intro) <;> first | rfl | assumption | omega | (simp; done)
  exact ZZ
def scrub_Plan_J1 (out1 : List Job) (lost1 : List Int) : Option ((List Job) × (List Int)) :=
 some (out1, lost1)
def scrub_Plan_J2 (k_scrub_Plan_L1 : (List Job) → (List Int) → Int → Option ((List Job) × (List Int))) (v1 : Int) (out3 : List Job) (lost3 : List Int) : Option ((List Job) × (List Int)) :=
 k_scrub_Plan_L1 out3 lost3 (IntKind.wrap .i64 (v1 + 1))
def scrub_Plan_J3 (k_scrub_Plan_L2 : (List Job) → Int → Int → Option ((List Job) × (List Int))) (v2 : Int) (v3 : Int) (out5 : List Job) : Option ((List Job) × (List Int)) :=
 k_scrub_Plan_L2 out5 v2 (IntKind.wrap .i64 (v3 + 1))
def scrub_Plan_L2 (k_scrub_Plan_L1 : (List Job) → (List Int) → Int → Option ((List Job) × (List Int))) (r3 : (List Find)) (x1 : Chain) (r1 : (List Int)) (disks1 : List Disk) (v1 : Int) (lost2 : List Int) : Nat → (List Job) → Int → Int → Option ((List Job) × (List Int))
 | 0, _, _, _ => none
 | m_ + 1, out4, v2, v3 => cond (decide (v3 < v2)) ((idx r3 v3).bind fun x2 => cond (x2.what != 1) ((scrub_next_f x1 r1 x2.server).bind fun r4 => (idx disks1 r4).bind fun x3 => (chunk_Get_f x3 x1.id).bind fun r5 => chk ((out4.length + 1) * 48 ≤ 140737488355328) (scrub_Plan_J3 (scrub_Plan_L2 k_scrub_Plan_L1 r3 x1 r1 disks1 v1 lost2 m_) v2 v3 (out4 ++ [(⟨x1.id, x1.ver, r4, x2.server, (r1.length : Int), (IntKind.wrap .i64 ((r5.1.data.length : Int) + 1))⟩ : Job)]))) (scrub_Plan_J3 (scrub_Plan_L2 k_scrub_Plan_L1 r3 x1 r1 disks1 v1 lost2 m_) v2 v3 out4)) (scrub_Plan_J2 k_scrub_Plan_L1 v1 out4 lost2)
def scrub_Plan_L1 (l1 : List Chain) (disks1 : List Disk) : Nat → (List Job) → (List Int) → Int → Option ((List Job) × (List Int))
 | 0, _, _, _ => none
 | m_ + 1, out2, lost2, v1 => cond (decide (v1 < (l1.length : Int))) ((idx l1 v1).bind fun x1 => (scrub_Intact_f disks1 x1).bind fun r1 => cond ((r1.length : Int) == 0) (chk ((lost2.length + 1) * 8 ≤ 140737488355328) (scrub_Plan_J2 (scrub_Plan_L1 l1 disks1 m_) v1 out2 (lost2 ++ [x1.id]))) ((scrub_Look_f disks1 x1).bind fun r2 => (slices_SortFunc_f r2 scrub_Plan_1_f).bind fun r3 => chk (r3.length = r2.length) (scrub_Plan_L2 (scrub_Plan_L1 l1 disks1 m_) r3 x1 r1 disks1 v1 lost2 BIG out2 (((r2.length : Nat)) : Int) 0))) (scrub_Plan_J1 out2 lost2)
def scrub_Plan_f (disks1 : List Disk) (l1 : List Chain) : Option ((List Job) × (List Int)) :=
 scrub_Plan_L1 l1 disks1 BIG [] [] 0
theorem scrub_Plan_pc {disks1 : List Disk} {l1 : List Chain} {r : (List Job) × (List Int)} (H : scrub_Plan_f disks1 l1 = some r) : PC Tryz.prog 24 [.list 3 (disks1.map Disk.c), .list 3 (l1.map Chain.c)] (.tup [.list 6 (r.1.map Job.c), .list 1 (r.2.map (ci .i64))]) := by
 refine pcA_of Tryz.func24 (by rfl) (by decide) 84 (by rfl) [.tmp 4, .tmp 5] (by rfl) ?_
 unfold scrub_Plan_f at H
 simp only [ent]
 refine a_srC _ rfl ?_
 refine a_srC _ rfl ?_
 refine a_srC _ rfl ?_
 refine a_cut (fun s => ∃ (out1 : List Job) (lost1 : List Int) (t0 : Nat → Dat), scrub_Plan_J1 out1 lost1 = some r ∧ s = ⟨tl t0 [(6, .ref 0 0 out1.length 6), (7, .ref 1 0 lost1.length 1)], hl [⟨71, 6, false, out1.map Job.c⟩, ⟨3, 1, false, lost1.map (ci .i64)⟩], 2, 84⟩) ?_ ?_
 ·refine a_srC _ rfl ?_
  refine a_blk ?_
  refine a_loop (fun m s => ∃ (out2 : List Job) (lost2 : List Int) (v1 : Int) (t0 : Nat → Dat), scrub_Plan_L1 l1 disks1 m out2 lost2 v1 = some r ∧ s = ⟨tl t0 [(0, .list 3 (disks1.map Disk.c)), (6, .ref 0 0 out2.length 6), (7, .ref 1 0 lost2.length 1), (17, .list 3 (l1.map Chain.c)), (18, .int .i64 (l1.length : Int)), (19, .int .i64 v1)], hl [⟨71, 6, false, out2.map Job.c⟩, ⟨3, 1, false, lost2.map (ci .i64)⟩], 2, 84⟩) BIG ?_ ?_
  ·exact wk_lA [(none, _), (none, _)] [] (fun t0 => ⟨[], [], 0, t0, H, rfl⟩)
  ·rintro m_scrub_Plan_L1 s ⟨out2, lost2, v1, t0, H, rfl⟩
   obtain _ | m_scrub_Plan_L1 := m_scrub_Plan_L1
   ·cases (show (none : Option _) = some _ from H)
   ·rw [scrub_Plan_L1] at H
    refine a_srC _ rfl ?_
    refine a_seq ?_
    refine a_cnd H (fun zc1 H => ?_) (fun zc1 H => ?_)
    ·refine a_skip ?_
     refine sA_n ?_
     refine a_cut (fun s => ∃ (out3 : List Job) (lost3 : List Int) (t0 : Nat → Dat), scrub_Plan_J2 (scrub_Plan_L1 l1 disks1 m_scrub_Plan_L1) v1 out3 lost3 = some r ∧ s = ⟨tl t0 [(0, .list 3 (disks1.map Disk.c)), (6, .ref 0 0 out3.length 6), (7, .ref 1 0 lost3.length 1), (17, .list 3 (l1.map Chain.c)), (18, .int .i64 (l1.length : Int)), (19, .int .i64 v1)], hl [⟨71, 6, false, out3.map Job.c⟩, ⟨3, 1, false, lost3.map (ci .i64)⟩], 2, 84⟩) ?_ ?_
     ·refine a_blk ?_
      refine a_seq ?_
      obtain ⟨x1, zh1, H⟩ := bind_some H
      obtain ⟨zg1, zh1a, zh1b⟩ := idx3 (f := Chain.c) zh1
      try simp only [Int.reduceToNat, Int.toNat_natCast] at zg1
      refine a_regC _ rfl ?_
      refine sA_n ?_
      refine a_seq ?_
      obtain ⟨r1, zh2, H⟩ := bind_some H
      have zk1 := scrub_Intact_pc zh2
      refine a_regK _ rfl ?_
      refine sA_n ?_
      refine a_seq ?_
      refine a_srC _ rfl ?_
      refine a_cnd H (fun zc2 H => ?_) (fun zc2 H => ?_)
      ·refine a_seq ?_
       obtain ⟨zh3, H⟩ := chk_some H
       refine a_regC _ rfl ?_
       refine sA_n ?_
       refine a_exit ?_
       refine sA_e ?_
       refine bA_hit ?_
       refine cA_n ?_
       exact wk_lA [(some 0, _), (some 102, _)] [] (fun t0 => ⟨out2, (lost2 ++ [x1.id]), t0, H, rfl⟩)
      ·refine a_skip ?_
       refine sA_n ?_
       refine a_seq ?_
       obtain ⟨r2, zh4, H⟩ := bind_some H
       have zk2 := scrub_Look_rc zh4
       refine a_reg _ rfl (s := ?zs12) ?_ ?_
       rotate_left
       ·try refine goS ?_
        repeat' with_reducible apply And.intro
        all_goals try ((with_reducible show CallR _ _ _ _ _ _ _); refine callR_ownm (l := r2) (c := Find.c) [] zk2 Find.sc (.cons (.lst _ _ _ Disk.pu rfl) (.cons (.agg' (.cons (.int' rfl) (.cons (.int' rfl) (.cons (.lst _ _ _ (ci_pu .i64) rfl) .nil)))) .nil)) ?_; refine goS ?_)
        all_goals ((repeat' apply And.intro) <;> first|rfl|assumption|omega|(simp;done)|(simp;omega)|(simp_all;done))
       refine sA_n ?_
       refine a_seq ?_
       obtain ⟨r3, zh5, H⟩ := bind_some H
       have zk3 := slices_SortFunc_rc (cmp1 := scrub_Plan_1_f) (cmp1_F := 63) (cmp1_caps := []) (fun _ _ _ h => scrub_Plan_1_pc h) .nil zh5
       obtain ⟨zh6, H⟩ := chk_some H
       refine a_reg _ rfl (s := ?zs13) ?_ ?_
       rotate_left
       ·try refine goS ?_
        repeat' with_reducible apply And.intro
        all_goals try ((with_reducible show CallR _ _ _ _ _ _ _); refine callR_rcw (r' := .tup []) [(100, none), (100, some ⟨47, 3, false, r3.map Find.c⟩)] [(some 100, _)] [] [(100, 0, _)] EQA zk3 (by simp) ND ZZ ZZ ND ND ZZ ZZ ?_; refine goS ?_)
        all_goals ((repeat' apply And.intro) <;> first|rfl|assumption|omega|(simp;done)|(simp;omega)|(simp_all;done))
       refine sA_n ?_
       refine a_srC _ rfl ?_
       refine a_blk ?_
       refine a_loop (fun m s => ∃ (out4 : List Job) (v2 : Int) (v3 : Int) (t0 : Nat → Dat), scrub_Plan_L2 (scrub_Plan_L1 l1 disks1 m_scrub_Plan_L1) r3 x1 r1 disks1 v1 lost2 m out4 v2 v3 = some r ∧ s = ⟨tl t0 [(0, .list 3 (disks1.map Disk.c)), (6, .ref 0 0 out4.length 6), (7, .ref 1 0 lost2.length 1), (9, .ptr 2 0 0 3), (10, .list 1 (r1.map (ci .i64))), (17, .list 3 (l1.map Chain.c)), (18, .int .i64 (l1.length : Int)), (19, .int .i64 v1), (39, .ref 3 0 r3.length 3), (40, .int .i64 v2), (41, .int .i64 v3)], hl [⟨71, 6, false, out4.map Job.c⟩, ⟨3, 1, false, lost2.map (ci .i64)⟩, ⟨30, 3, false, [Chain.c x1]⟩, ⟨47, 3, false, r3.map Find.c⟩], 4, 84⟩) BIG ?_ ?_
       ·exact wk_lA [(some 0, _), (some 1, _), (some 12, _), (some 100, _)] [] (fun t0 => ⟨out2, (((r2.length : Nat)) : Int), 0, t0, H, rfl⟩)
       ·rintro m_scrub_Plan_L2 s ⟨out4, v2, v3, t0, H, rfl⟩
        obtain _ | m_scrub_Plan_L2 := m_scrub_Plan_L2
        ·cases (show (none : Option _) = some _ from H)
        ·rw [scrub_Plan_L2] at H
         refine a_srC _ rfl ?_
         refine a_seq ?_
         refine a_cnd H (fun zc3 H => ?_) (fun zc3 H => ?_)
         ·refine a_skip ?_
          refine sA_n ?_
          refine a_cut (fun s => ∃ (out5 : List Job) (t0 : Nat → Dat), scrub_Plan_J3 (scrub_Plan_L2 (scrub_Plan_L1 l1 disks1 m_scrub_Plan_L1) r3 x1 r1 disks1 v1 lost2 m_scrub_Plan_L2) v2 v3 out5 = some r ∧ s = ⟨tl t0 [(0, .list 3 (disks1.map Disk.c)), (6, .ref 0 0 out5.length 6), (7, .ref 1 0 lost2.length 1), (9, .ptr 2 0 0 3), (10, .list 1 (r1.map (ci .i64))), (17, .list 3 (l1.map Chain.c)), (18, .int .i64 (l1.length : Int)), (19, .int .i64 v1), (39, .ref 3 0 r3.length 3), (40, .int .i64 v2), (41, .int .i64 v3)], hl [⟨71, 6, false, out5.map Job.c⟩, ⟨3, 1, false, lost2.map (ci .i64)⟩, ⟨30, 3, false, [Chain.c x1]⟩, ⟨47, 3, false, r3.map Find.c⟩], 4, 84⟩) ?_ ?_
          ·refine a_blk ?_
           refine a_seq ?_
           obtain ⟨x2, zh7, H⟩ := bind_some H
           obtain ⟨zg2, zh7a, zh7b⟩ := idx3 (f := Find.c) zh7
           try simp only [Int.reduceToNat, Int.toNat_natCast] at zg2
           refine a_regC _ rfl ?_
           refine sA_n ?_
           refine a_srC _ rfl ?_
           refine a_cnd H (fun zc4 H => ?_) (fun zc4 H => ?_)
           ·refine a_seq ?_
            obtain ⟨r4, zh8, H⟩ := bind_some H
            have zk4 := scrub_next_pc zh8
            refine a_regK _ rfl ?_
            refine sA_n ?_
            refine a_seq ?_
            obtain ⟨x3, zh9, H⟩ := bind_some H
            obtain ⟨zg3, zh9a, zh9b⟩ := idx3 (f := Disk.c) zh9
            try simp only [Int.reduceToNat, Int.toNat_natCast] at zg3
            obtain ⟨r5, zh10, H⟩ := bind_some H
            have zk5 := chunk_Get_pc zh10
            refine a_drW (by kernel_rfl) _ rfl (s := ?zs20) (by kernel_rfl) (by kernel_rfl) ?zs20f ?_ ?_ ?_
            rotate_left 2
            ·try refine goS ?_
             repeat' with_reducible apply And.intro
             all_goals try ((with_reducible show CallW _ _ _ _ _ _ _); refine cW_p [] zk5 (fun h2 e => ZZ) ?_; refine goS ?_)
             all_goals exact CLS
            ·kernel_rfl
            refine sA_n ?_
            obtain ⟨zh11, H⟩ := chk_some H
            refine a_regC _ rfl ?_
            refine bA_n ?_
            refine cA_n ?_
            exact wk_lA [(some 236, _), (some 1, _), (some 2, _), (some 3, _)] [] (fun t0 => ⟨(out4 ++ [(⟨x1.id, x1.ver, r4, x2.server, (r1.length : Int), (IntKind.wrap .i64 ((r5.1.data.length : Int) + 1))⟩ : Job)]), t0, H, rfl⟩)
           ·refine a_skip ?_
            refine bA_n ?_
            refine cA_n ?_
            exact wk_lA [(some 0, _), (some 1, _), (some 2, _), (some 3, _)] [] (fun t0 => ⟨out4, t0, H, rfl⟩)
          ·rintro s ⟨out5, t0, H, rfl⟩
           unfold scrub_Plan_J3 at H
           refine a_regC _ rfl ?_
           refine lA_n ?_
           exact wk_lA [(some 0, _), (some 1, _), (some 2, _), (some 3, _)] [] (fun t0 => ⟨_, Nat.lt_succ_self _, out5, v2, (IntKind.wrap .i64 (v3 + 1)), t0, H, rfl⟩)
         ·refine a_exit ?_
          refine sA_e ?_
          refine lA_e ?_
          refine bA_hit ?_
          refine bA_n ?_
          refine cA_n ?_
          exact wk_lA [(some 0, _), (some 1, _)] [] (fun t0 => ⟨out4, lost2, t0, H, rfl⟩)
     ·rintro s ⟨out3, lost3, t0, H, rfl⟩
      unfold scrub_Plan_J2 at H
      refine a_regC _ rfl ?_
      refine lA_n ?_
      exact wk_lA [(some 0, _), (some 1, _)] [] (fun t0 => ⟨_, Nat.lt_succ_self _, out3, lost3, (IntKind.wrap .i64 (v1 + 1)), t0, H, rfl⟩)
    ·refine a_exit ?_
     refine sA_e ?_
     refine lA_e ?_
     refine bA_hit ?_
     refine cA_n ?_
     exact wk_lA [(some 0, _), (some 1, _)] [] (fun t0 => ⟨out2, lost2, t0, H, rfl⟩)
 ·rintro s ⟨out1, lost1, t0, H, rfl⟩
  unfold scrub_Plan_J1 at H
  refine a_srC _ rfl ?_
  exact a_ret RT
def disk_Rot_1_f (p1 : Page) (v1 : Int) : Option Bool :=
 some ((p1.at_ == v1))
theorem disk_Rot_1_pc {p1 : Page} {v1 : Int} {r : Bool} (H : disk_Rot_1_f p1 v1 = some r) : PC Tryz.prog 72 [.agg (Page.c p1), .rop ((ci .i64) v1) 0 1] (.bool r) := by
 refine pcA_of Tryz.func72 (by rfl) (by decide) 8 (by rfl) [.tmp 3] (by rfl) ?_
 unfold disk_Rot_1_f at H
 simp only [ent]
 refine a_srC _ rfl ?_
 refine a_srC _ rfl ?_
 exact a_ret RT
def disk_Rot_J1 (d1 : Disk) (r1 : Int) (bit1 : Int) (v1 : Bool) : Option Disk :=
 cond v1 (some (d1)) ((idx d1.synced r1).bind fun x1 => (bytes_Clone_f x1.data).bind fun r2 => (idx r2 (IntKind.wrap .i64 (Int.tdiv bit1 8))).bind fun x2 => chk (0 ≤ (Int.tmod bit1 8)) ((slices_Clone_74_f d1.synced).bind fun r3 => (idx r3 r1).bind fun x3 => some ((⟨(r3.set r1.toNat (⟨x3.at_, (r2.set ((IntKind.wrap .i64 (Int.tdiv bit1 8)).toNat) (IntKind.wrap .u8 (BitVec.ofInt (IntKind.bits .u8) x2 ^^^ BitVec.ofInt (IntKind.bits .u8) (IntKind.wrap .u8 (1 * 2 ^ (min (Int.tmod bit1 8).toNat (IntKind.bits .u8))))).toNat))⟩ : Page)), d1.loose, d1.down⟩ : Disk))))
def disk_Rot_f (d1 : Disk) (at1 : Int) (bit1 : Int) : Option Disk :=
 (disk_find_f d1.synced (fun y0_ => disk_Rot_1_f y0_ at1)).bind fun r1 => cond (decide (r1 < 0)) (disk_Rot_J1 d1 r1 bit1 true) (cond (decide (bit1 < 0)) (disk_Rot_J1 d1 r1 bit1 true) ((idx d1.synced r1).bind fun x4 => disk_Rot_J1 d1 r1 bit1 (decide ((IntKind.wrap .i64 (8 * (x4.data.length : Int))) ≤ bit1))))
theorem disk_Rot_pc {d1 : Disk} {at1 : Int} {bit1 : Int} {r : Disk} (H : disk_Rot_f d1 at1 bit1 = some r) : PC Tryz.prog 28 [.agg (Disk.c d1), .int .i64 at1, .int .i64 bit1] (.agg (Disk.c r)) := by
 refine pcA_of Tryz.func28 (by rfl) (by decide) 60 (by rfl) [.cell 6 44] (by rfl) ?_
 unfold disk_Rot_f at H
 simp only [ent]
 refine a_seq ?_
 refine a_regC _ rfl ?_
 refine sA_n ?_
 refine a_seq ?_
 obtain ⟨r1, zh1, H⟩ := bind_some H
 have zk1 := disk_find_pc (is1 := (fun y0_ => disk_Rot_1_f y0_ at1)) (is1_F := 72) (is1_caps := [.rop ((ci .i64) at1) 0 1]) (fun _ _ h => disk_Rot_1_pc h) (.cons (.rop _ _ _ ((ci_pu .i64) _)) .nil) zh1
 refine a_regK _ rfl ?_
 refine sA_n ?_
 refine a_seq ?_
 refine a_cut (fun s => ∃ (v1 : Bool) (t0 : Nat → Dat), disk_Rot_J1 d1 r1 bit1 v1 = some r ∧ s = ⟨tl t0 [(2, .int .i64 bit1), (3, .ptr 0 0 0 3), (6, .ptr 1 0 0 3), (7, .int .i64 r1), (30, .bool v1)], hl [⟨44, 3, false, [Disk.c d1]⟩, ⟨44, 3, false, [[.nil, .nil, .bool false]]⟩], 2, 60⟩) ?_ ?_
 ·refine cnd H (fun zc2 H => ?_) (fun zc2 H => ?_)
  ·refine a_regC _ rfl ?_
   refine cA_n ?_
   exact wk_lA [(some 0, _), (some 2, _)] [] (fun t0 => ⟨true, t0, H, rfl⟩)
  ·refine cnd H (fun zc3 H => ?_) (fun zc3 H => ?_)
   ·refine a_regC _ rfl ?_
    refine cA_n ?_
    exact wk_lA [(some 0, _), (some 2, _)] [] (fun t0 => ⟨true, t0, H, rfl⟩)
   ·obtain ⟨x4, zh8, H⟩ := bind_some H
    obtain ⟨zg4, zh8a, zh8b⟩ := idx3 (f := Page.c) zh8
    try simp only [Int.reduceToNat, Int.toNat_natCast] at zg4
    refine a_regC _ rfl ?_
    refine cA_n ?_
    exact wk_lA [(some 0, _), (some 2, _)] [] (fun t0 => ⟨(decide ((IntKind.wrap .i64 (8 * (x4.data.length : Int))) ≤ bit1)), t0, H, rfl⟩)
 ·rintro s ⟨v1, t0, H, rfl⟩
  unfold disk_Rot_J1 at H
  refine a_cnd H (fun zc1 H => ?_) (fun zc1 H => ?_)
  ·refine a_seq ?_
   refine a_regC _ rfl ?_
   refine sA_n ?_
   exact a_ret (sA_r RT)
  ·refine a_skip ?_
   refine sA_n ?_
   refine a_seq ?_
   obtain ⟨x1, zh2, H⟩ := bind_some H
   obtain ⟨zg1, zh2a, zh2b⟩ := idx3 (f := Page.c) zh2
   try simp only [Int.reduceToNat, Int.toNat_natCast] at zg1
   obtain ⟨r2, zh3, H⟩ := bind_some H
   have zk2 := bytes_Clone_rc zh3
   refine a_reg _ rfl (s := ?zs4) ?_ ?_
   rotate_left
   ·try refine goS ?_
    repeat' with_reducible apply And.intro
    all_goals try ((with_reducible show CallR _ _ _ _ _ _ _); refine callR_ownm (l := r2) (c := (ci .u8)) [] zk2 (ci_sc .u8) (.cons (.lst _ _ _ (ci_pu .u8) rfl) .nil) ?_; refine goS ?_)
    all_goals ((repeat' apply And.intro) <;> first|rfl|assumption|omega|(simp;done)|(simp;omega)|(simp_all;done))
   refine sA_n ?_
   refine a_seq ?_
   obtain ⟨x2, zh4, H⟩ := bind_some H
   obtain ⟨zg2, zh4a, zh4b⟩ := idx3 (f := (ci .u8)) zh4
   try simp only [Int.reduceToNat, Int.toNat_natCast] at zg2
   obtain ⟨zh5, H⟩ := chk_some H
   refine a_drW (by kernel_rfl) _ rfl (s := ?zs5) (by kernel_rfl) (by kernel_rfl) ?zs5f ?_ ?_ ?_
   rotate_left 2
   ·refine goS ?_
    exact CLS
   ·kernel_rfl
   refine sA_n ?_
   refine a_seq ?_
   obtain ⟨r3, zh6, H⟩ := bind_some H
   have zk3 := slices_Clone_74_rc zh6
   refine a_reg _ rfl (s := ?zs6) ?_ ?_
   rotate_left
   ·try simp only [EVT, stepR, evOp, St.ev, St.app, St.put, wrs, evFieldAddr, evLoad, cut, frz, evStore, setR, allOne, TIS, CS, reduceAdd, reduceMul, reduceEqDiff, ↓reduceIte, reduceCtorEq, reduceLT, reduceLeDiff, reduceSub, Nat.reduceBEq, ↓zc1, zg1, zg2]
    repeat' with_reducible apply And.intro
    all_goals try ((with_reducible show CallR _ _ _ _ _ _ _); refine callR_rcw (r' := .ref 156 0 r3.length 2) [(156, some ⟨130, 2, false, r3.map Page.c⟩)] [] [] [(156, 0, ⟨130, 2, false, r3.map Page.c⟩)] (by first | rfl | (simp only [List.map_set, List.map_append, List.map_cons, List.map_nil]; rfl)) zk3 (by simp) ND trivial (.cons (.lst _ _ _ Page.pu rfl) .nil) ND ND ⟨.inr ⟨rfl, by decide⟩, ⟨_, rfl, ⟨rfl, rfl, rfl, rfl⟩, .same _ _ Page.pu rfl⟩, trivial⟩ (.refl' rfl rfl) ?_; simp only [EVT, stepR, evOp, St.ev, St.app, St.put, wrs, evFieldAddr, evLoad, cut, frz, evStore, setR, allOne, TIS, CS, reduceAdd, reduceMul, reduceEqDiff, ↓reduceIte, reduceCtorEq, reduceLT, reduceLeDiff, reduceSub, Nat.reduceBEq, ↓zc1, zg1, zg2])
    all_goals ((repeat' apply And.intro) <;> first|rfl|assumption|omega|(simp;done)|(simp;omega)|(simp_all;done))
   refine sA_n ?_
   refine a_seq ?_
   obtain ⟨x3, zh7, H⟩ := bind_some H
   have zg3 := idx_map zh7 Page.c
   try simp only [Int.reduceToNat, Int.toNat_natCast] at zg3
   obtain ⟨zh7a, zh7b, _⟩ := idx_some zh7
   refine a_reg _ rfl (s := ?zs7) ?_ ?_
   rotate_left
   ·simp only [EVT, stepR, evOp, St.ev, St.app, St.put, wrs, evFieldAddr, evLoad, cut, evIndexAddr, evStore, setR, allOne, TIS, CS, reduceAdd, reduceMul, reduceEqDiff, ↓reduceIte, reduceCtorEq, reduceLT, reduceLeDiff, Int.reduceToNat, reduceSub, Nat.reduceBEq, ↓zc1, zg1, zg2, zg3]
    (repeat' apply And.intro) <;> first|rfl|assumption|omega|(simp;done)|(simp;omega)|(simp_all;done)
   refine sA_n ?_
   refine a_seq ?_
   refine a_reg _ rfl (s := ?zs8) ?_ ?_
   rotate_left
   ·simp only [EVT, stepR, evOp, St.ev, St.app, St.put, wrs, evLoad, cut, evStore, setR, allOne, TIS, CS, reduceAdd, reduceMul, reduceEqDiff, ↓reduceIte, reduceCtorEq, reduceLT, reduceLeDiff, reduceSub, Nat.reduceBEq, ↓zc1, zg1, zg2, zg3]
    (repeat' apply And.intro) <;> first|rfl|assumption|omega|(simp;done)|(simp;omega)|(simp_all;done)
   refine sA_n ?_
   refine a_ret ?_
   obtain rfl := Option.some.inj H
   refine e_r2 (d := ?zd2) ?_ ?_
   rotate_left
   ·simp only [EVT, resR, single, evLoad, cut, TIS, CS, reduceAdd, reduceEqDiff, ↓reduceIte, reduceCtorEq, reduceLT, reduceLeDiff, reduceSub, Nat.reduceBEq, zc1, zg1, zg2, zg3]
    (repeat' apply And.intro) <;> first | rfl | assumption | omega | (simp; done)
   exact (.agg' (.cons (.ownL (by rfl) (fun e => by cases e) rfl (by first | rfl | omega | (simp; done) | (simp [strBytes_len]; done) | (simp; omega) | (simp_all; done)) (by (simp only [List.map_append, List.map_cons, List.map_nil, List.map_set, List.map_take, List.map_drop, List.map_replicate, List.append_assoc, List.nil_append, List.append_nil, ci_eq, cb_eq, cs_eq, cl_eq, CS, List.nil_append]); repeat' (first | exact PL.nil | exact PurRs.nil |  exact .int' rfl | exact .bool' rfl | exact .str' rfl | exact .nil _ | exact .lst _ _ _ (by first | exact ci_pu _ | exact cb_pu | exact cs_pu | exact Chain.pu | exact Copy.pu | exact Page.pu | exact Disk.pu | exact Find.pu | exact HurtR14.pu | exact Job.pu | exact Named.pu | exact Reader.pu | exact Spot.pu | exact Room.pu | exact Span.pu | exact Lease.pu | exact Rest.pu | exact Reader195.pu | exact cl_pu (by first | exact ci_pu _ | exact cb_pu | exact cs_pu | exact Chain.pu | exact Copy.pu | exact Page.pu | exact Disk.pu | exact Find.pu | exact HurtR14.pu | exact Job.pu | exact Named.pu | exact Reader.pu | exact Spot.pu | exact Room.pu | exact Span.pu | exact Lease.pu | exact Rest.pu | exact Reader195.pu | exact cl_pu (ci_pu _))) rfl | exact PL.same _ _ (by first | exact ci_pu _ | exact cb_pu | exact cs_pu | exact Chain.pu | exact Copy.pu | exact Page.pu | exact Disk.pu | exact Find.pu | exact HurtR14.pu | exact Job.pu | exact Named.pu | exact Reader.pu | exact Spot.pu | exact Room.pu | exact Span.pu | exact Lease.pu | exact Rest.pu | exact Reader195.pu | exact cl_pu (by first | exact ci_pu _ | exact cb_pu | exact cs_pu | exact Chain.pu | exact Copy.pu | exact Page.pu | exact Disk.pu | exact Find.pu | exact HurtR14.pu | exact Job.pu | exact Named.pu | exact Reader.pu | exact Spot.pu | exact Room.pu | exact Span.pu | exact Lease.pu | exact Rest.pu | exact Reader195.pu | exact cl_pu (ci_pu _))) (by first | rfl | (simp only [List.map_append, List.map_cons, List.map_nil, List.map_set, List.map_take, List.map_drop, List.map_replicate, List.append_assoc, List.nil_append, List.append_nil]; rfl)) | (refine PurRs.cons ?_ ?_) | (refine PL.cons ?_ ?_) | (refine PL.set ?_ ?_) | (refine .ownL (by first | rfl | exact (wrs_frz _ _ _ _).trans (by rfl) | exact (e _ (by simp)).trans (by rfl) | exact (wrs_frz h2 _ h2 _).trans (by rw [e _ (by simp)]; rfl)) (by first | exact (fun e => by cases e) | exact (fun _ => rfl)) rfl (by first | rfl | omega | (simp; done) | (simp [strBytes_len]; done) | (simp; omega) | (simp_all; done)) ?_) | (refine PL.app ?_ ?_)))) (.cons (.lst _ _ _ Page.pu rfl) (.cons (.bool' (by first | rfl | assumption | (simp_all; done))) .nil))))
def slices_Clone_120_f (s1 : List Job) : Option (List Job) :=
 nilq s1 (some (([] : List Job))) (chk ((s1.length) * 48 ≤ 140737488355328) (some (s1)))
theorem slices_Clone_120_rc {s1 : List Job} {r : (List Job)} (H : slices_Clone_120_f s1 = some r) : RC Tryz.prog 120 [.list 6 (s1.map Job.c)] [] 0 (.ref 0 0 r.length 6) [some ⟨71, 6, false, r.map Job.c⟩] := by
 refine rcA_of Tryz.func120 (by rfl) (by decide) 8 (by rfl) [.tmp 2] (by rfl) ?_
 unfold slices_Clone_120_f at H
 simp only [hent, List.length_cons, List.length_nil, reduceAdd]
 refine a_srC _ rfl ?_
 refine a_seq ?_
 refine a_seq ?_
 obtain ⟨zh1a, zh1b⟩ := nilq_some H
 refine a_reg2 _ rfl (s1 = []) (s1 := ?zs2a) (s2 := ?zs2b) ?_ ?_ ?_
 rotate_left 2
 ·refine goS ?_
  refine nilq_list rfl Tryz.underlying66 rfl ?_ ?_
  ·intro zb
   simp only [St.put, reduceLT, reduceLeDiff, ↓reduceIte]
   try refine goS ?_
   refine .inl ⟨by simpa using zb, ?_⟩
   rfl
  ·simp only [St.put, reduceLT, reduceLeDiff, ↓reduceIte]
   try refine goS ?_
   refine .inr ?_
   rfl
 ·intro zn; have H := zh1a zn
  refine sA_n ?_
  refine a_condb true (by first | rfl | (simp only [EVT, St.ev, datOf, datOf1, reduceEqDiff, ↓reduceIte]; done) | (simp only [EVT, St.ev, datOf, datOf1, reduceEqDiff, ↓reduceIte]; rfl) | (simp only [EVT, St.ev, datOf, datOf1, reduceEqDiff, ↓reduceIte]; simp_all; done)) (fun zc1 => ?_) (fun zc1 => absurd zc1 (by decide))
  refine a_srC _ rfl ?_
  refine a_ret ?_
  refine sA_r ?_
  obtain rfl := Option.some.inj H
  refine eR_r ?_
  exact wk_lnA 0 [(none, ⟨71, 6, false, ([] : List Job).map Job.c⟩)] [] (L := [(2, .ref 0 0 ([] : List Job).length 6)]) (fun t0 => ⟨RS2, RJ⟩) (fun i h => absurd h (Nat.not_lt_zero i))
 ·have H := zh1b
  refine sA_n ?_
  refine a_condb false (by first | rfl | (simp only [EVT, St.ev, datOf, datOf1, reduceEqDiff, ↓reduceIte]; done) | (simp only [EVT, St.ev, datOf, datOf1, reduceEqDiff, ↓reduceIte]; rfl) | (simp only [EVT, St.ev, datOf, datOf1, reduceEqDiff, ↓reduceIte]; simp_all; done)) (fun zc2 => absurd zc2 (by decide)) (fun zc2 => ?_)
  refine a_skip ?_
  refine sA_n ?_
  refine a_seq ?_
  obtain ⟨zh2, H⟩ := chk_some H
  refine a_regC _ rfl ?_
  refine sA_n ?_
  refine a_ret ?_
  obtain rfl := Option.some.inj H
  refine eR_r ?_
  exact wk_lnA 0 [(some 26, ⟨71, 6, false, s1.map Job.c⟩)] [] (L := [(2, .ref 0 0 s1.length 6)]) (fun t0 => ⟨RS2, RJ⟩) (fun i h => absurd h (Nat.not_lt_zero i))
def mend_Step_J1 (ended1 : List Job) (left1 : List Job) (o1 : Nat) (n1 : Nat) : Option ((List Job) × (List Job)) :=
 chk (o1 + n1 ≤ left1.length) (some (((left1.drop o1).take n1), ended1))
def mend_Step_L1 (r1 : (List Job)) : Nat → Int → (List Job) → Nat → Nat → Option ((List Job) × (List Job))
 | 0, _, _, _, _ => none
 | m_ + 1, budget2, ended2, o2, n2 => cond (decide (0 < (((n2 : Nat)) : Int))) (chk (0 < (n2 : Int)) ((idx (r1.drop o2) 0).bind fun x1 => cond (decide (x1.left ≤ budget2)) (chk ((ended2.length + 1) * 48 ≤ 140737488355328) (chk (0 ≤ 1 ∧ 1 ≤ (n2 : Int)) (mend_Step_L1 r1 m_ (IntKind.wrap .i64 (budget2 - x1.left)) (ended2 ++ [(⟨x1.id, x1.ver, x1.from_, x1.to_, x1.have_, 0⟩ : Job)]) (o2 + 1) (n2 - 1)))) (chk (0 < (n2 : Int)) (chk (0 < (n2 : Int)) (mend_Step_J1 ended2 (r1.set (o2 + 0) (⟨x1.id, x1.ver, x1.from_, x1.to_, x1.have_, (IntKind.wrap .i64 (x1.left - (if 0 > budget2 then 0 else budget2)))⟩ : Job)) o2 n2))))) (mend_Step_J1 ended2 r1 o2 n2)
def mend_Step_f (l1 : List Job) (budget1 : Int) : Option ((List Job) × (List Job)) :=
 (slices_Clone_120_f l1).bind fun r1 => mend_Step_L1 r1 BIG budget1 [] 0 r1.length
theorem mend_Step_pc {l1 : List Job} {budget1 : Int} {r : (List Job) × (List Job)} (H : mend_Step_f l1 budget1 = some r) : PC Tryz.prog 75 [.list 6 (l1.map Job.c), .int .i64 budget1] (.tup [.list 6 (r.1.map Job.c), .list 6 (r.2.map Job.c)]) := by
 refine pcA_of Tryz.func75 (by rfl) (by decide) 44 (by rfl) [.tmp 4, .tmp 5] (by rfl) ?_
 unfold mend_Step_f at H
 simp only [ent]
 refine a_srC _ rfl ?_
 refine a_scope ?_
 refine a_srC _ rfl ?_
 refine a_seq ?_
 obtain ⟨r1, zh1, H⟩ := bind_some H
 have zk1 := slices_Clone_120_rc zh1
 refine a_reg _ rfl (s := ?zs3) ?_ ?_
 rotate_left
 ·try refine goS ?_
  repeat' with_reducible apply And.intro
  all_goals try ((with_reducible show CallR _ _ _ _ _ _ _); refine callR_ownm (l := r1) (c := Job.c) [] zk1 Job.sc (.cons (.lst _ _ _ Job.pu rfl) .nil) ?_; refine goS ?_)
  all_goals ((repeat' apply And.intro) <;> first|rfl|assumption|omega|(simp;done)|(simp;omega)|(simp_all;done))
 refine sA_n ?_
 refine a_seq ?_
 refine a_label ?_
 refine sA_n ?_
 refine a_cut (fun s => ∃ (ended1 : List Job) (left1 : List Job) (o1 : Nat) (n1 : Nat) (t0 : Nat → Dat), mend_Step_J1 ended1 left1 o1 n1 = some r ∧ s = ⟨tl t0 [(6, .ref 0 0 ended1.length 6), (7, .ref 1 o1 n1 6)], hl [⟨71, 6, false, ended1.map Job.c⟩, ⟨71, 6, false, left1.map Job.c⟩], 2, 44⟩) ?_ ?_
 ·refine a_blk ?_
  refine a_loop (fun m s => ∃ (budget2 : Int) (ended2 : List Job) (o2 : Nat) (n2 : Nat) (t0 : Nat → Dat), mend_Step_L1 r1 m budget2 ended2 o2 n2 = some r ∧ s = ⟨tl t0 [(1, .int .i64 budget2), (6, .ref 0 0 ended2.length 6), (7, .ref 1 o2 n2 6)], hl [⟨71, 6, false, ended2.map Job.c⟩, ⟨71, 6, false, r1.map Job.c⟩], 2, 44⟩) BIG ?_ ?_
  ·exact wk_lA [(none, _), (some 25, _)] [] (fun t0 => ⟨budget1, [], 0, r1.length, t0, H, rfl⟩)
  ·rintro m_mend_Step_L1 s ⟨budget2, ended2, o2, n2, t0, H, rfl⟩
   obtain _ | m_mend_Step_L1 := m_mend_Step_L1
   ·cases (show (none : Option _) = some _ from H)
   ·rw [mend_Step_L1] at H
    refine a_seq ?_
    refine a_srC _ rfl ?_
    refine a_cnd H (fun zc1 H => ?_) (fun zc1 H => ?_)
    ·refine a_skip ?_
     refine sA_n ?_
     refine a_blk ?_
     refine a_seq ?_
     obtain ⟨zh3, H⟩ := chk_some H
     obtain ⟨x1, zh4, H⟩ := bind_some H
     have zg1 := idx_map zh4 Job.c
     simp only [Int.reduceToNat, Int.toNat_natCast, getD_dropm, Nat.add_zero] at zg1
     obtain ⟨zh4a, zh4b, _⟩ := idx_some zh4
     try simp only [List.length_drop] at zh4b
     refine a_regC _ rfl ?_
     refine sA_n ?_
     refine a_blk ?_
     refine a_srC _ rfl ?_
     refine a_cnd H (fun zc2 H => ?_) (fun zc2 H => ?_)
     ·refine a_srC _ rfl ?_
      refine a_srC _ rfl ?_
      refine a_seq ?_
      obtain ⟨zh5, H⟩ := chk_some H
      refine a_regC _ rfl ?_
      refine sA_n ?_
      obtain ⟨zh6, H⟩ := chk_some H
      refine a_regC _ rfl ?_
      refine bA_n ?_
      refine bA_n ?_
      refine lA_n ?_
      exact wk_lA [(some 165, _), (some 1, _)] [] (fun t0 => ⟨_, Nat.lt_succ_self _, (IntKind.wrap .i64 (budget2 - x1.left)), (ended2 ++ [(⟨x1.id, x1.ver, x1.from_, x1.to_, x1.have_, 0⟩ : Job)]), (o2 + 1), (n2 - 1), t0, H, rfl⟩)
     ·refine a_seq ?_
      obtain ⟨zh7, H⟩ := chk_some H
      obtain ⟨zh8, H⟩ := chk_some H
      refine a_regC _ rfl ?_
      refine sA_n ?_
      refine a_exit ?_
      refine bA_e (by decide) ?_
      refine bA_e (by decide) ?_
      refine lA_e ?_
      refine bA_hit ?_
      refine cA_n ?_
      exact wk_lA [(some 0, _), (some 1, _)] [] (fun t0 => ⟨ended2, (r1.set (o2 + 0) (⟨x1.id, x1.ver, x1.from_, x1.to_, x1.have_, (IntKind.wrap .i64 (x1.left - (if 0 > budget2 then 0 else budget2)))⟩ : Job)), o2, n2, t0, H, rfl⟩)
    ·refine a_exit ?_
     refine sA_e ?_
     refine lA_e ?_
     refine bA_hit ?_
     refine cA_n ?_
     exact wk_lA [(some 0, _), (some 1, _)] [] (fun t0 => ⟨ended2, r1, o2, n2, t0, H, rfl⟩)
 ·rintro s ⟨ended1, left1, o1, n1, t0, H, rfl⟩
  unfold mend_Step_J1 at H
  refine a_srC _ rfl ?_
  refine a_ret ?_
  refine gA_r ?_
  obtain ⟨zh2, H⟩ := chk_some H
  obtain rfl := Option.some.inj H
  refine e_r2 (d := ?zd1) ?_ ?_
  rotate_left
  ·simp only [EVT, resR, single, evLoad, cut, TIS, CS, reduceAdd, reduceEqDiff, ↓reduceIte, reduceCtorEq, reduceLT, reduceLeDiff, reduceSub, Nat.reduceBEq]
   (repeat' apply And.intro) <;> first | rfl | assumption | omega | (simp; done)
  exact (.tup' (.cons (.ownO (by rfl) (fun e => by cases e) rfl (by first | rfl | omega | (simp; done) | (simp [strBytes_len]; done) | (simp; omega) | (simp_all; done)) (by first | rfl | omega | (simp; done) | (simp [strBytes_len]; done) | (simp; omega) | (simp_all; done)) (.sm _ _ Job.pu)) (.cons (.ownL (by rfl) (fun e => by cases e) rfl (by first | rfl | omega | (simp; done) | (simp [strBytes_len]; done) | (simp; omega) | (simp_all; done)) (.sm _ _ Job.pu)) .nil)))
def slices_IndexFunc_121_J1 : Option Int :=
 some ((-1))
def slices_IndexFunc_121_L1 (s1 : List Job) (f1 : Job → Option Bool) : Nat → Int → Option Int
 | 0, _ => none
 | m_ + 1, v1 => cond (decide (v1 < (s1.length : Int))) ((idx s1 v1).bind fun x1 => (f1 x1).bind fun r1 => cond r1 (some (v1)) (slices_IndexFunc_121_L1 s1 f1 m_ (IntKind.wrap .i64 (v1 + 1)))) (slices_IndexFunc_121_J1)
def slices_IndexFunc_121_f (s1 : List Job) (f1 : Job → Option Bool) : Option Int :=
 slices_IndexFunc_121_L1 s1 f1 BIG 0
theorem slices_IndexFunc_121_pc {s1 : List Job} {f1 : Job → Option Bool} {f1_F : FuncId} {f1_caps f1_fst : List Dat} (f1_hp : ∀ (x0_ : Job) (r : Bool), f1 x0_ = some r → PC Tryz.prog f1_F (f1_fst ++ .agg (Job.c x0_) :: f1_caps) (.bool r)) (f1_pu : Pus f1_caps) (f1_fpu : Pus f1_fst) {r : Int} (H : slices_IndexFunc_121_f s1 f1 = some r) : PC Tryz.prog 121 [.list 6 (s1.map Job.c), .fn (.func f1_F) f1_fst f1_caps] (.int .i64 r) := by
 refine pcA_of Tryz.func121 (by rfl) (by decide) 19 (by rfl) [.tmp 4] (by rfl) ?_
 unfold slices_IndexFunc_121_f at H
 simp only [ent]
 refine a_srC _ rfl ?_
 refine a_cut (fun s => ∃ (t0 : Nat → Dat), slices_IndexFunc_121_J1 = some r ∧ s = ⟨tl t0 [], hl [], 0, 19⟩) ?_ ?_
 ·refine a_srC _ rfl ?_
  refine a_blk ?_
  refine a_loop (fun m s => ∃ (v1 : Int) (t0 : Nat → Dat), slices_IndexFunc_121_L1 s1 f1 m v1 = some r ∧ s = ⟨tl t0 [(0, .list 6 (s1.map Job.c)), (1, .fn (.func f1_F) f1_fst f1_caps), (7, .int .i64 (s1.length : Int)), (8, .int .i64 v1)], hl [], 0, 19⟩) BIG ?_ ?_
  ·refine wk_l [] [] [(0, .list 6 (s1.map Job.c)), (1, .fn (.func f1_F) f1_fst f1_caps), (7, .int .i64 (s1.length : Int)), (8, .int .i64 0)] ND ND ?_ ?_ (fun t0 => ⟨0, t0, H, rfl⟩)
   ·exact trivial
   ·(simp only [AllT, ATT, reduceEqDiff, ↓reduceIte, and_true]); exact ⟨(.lst _ _ _ Job.pu rfl), (.fn' (RNs.pu f1_fpu) (RNs.pu f1_pu)), (.int' rfl), (.int' rfl)⟩
  ·rintro m_slices_IndexFunc_121_L1 s ⟨v1, t0, H, rfl⟩
   obtain _ | m_slices_IndexFunc_121_L1 := m_slices_IndexFunc_121_L1
   ·cases (show (none : Option _) = some _ from H)
   ·rw [slices_IndexFunc_121_L1] at H
    refine a_srC _ rfl ?_
    refine a_seq ?_
    refine a_cnd H (fun zc1 H => ?_) (fun zc1 H => ?_)
    ·refine a_skip ?_
     refine sA_n ?_
     refine a_seq ?_
     refine a_blk ?_
     refine a_srC _ rfl ?_
     refine a_seq ?_
     obtain ⟨x1, zh1, H⟩ := bind_some H
     obtain ⟨zg1, zh1a, zh1b⟩ := idx3 (f := Job.c) zh1
     try simp only [Int.reduceToNat, Int.toNat_natCast] at zg1
     obtain ⟨r1, zh2, H⟩ := bind_some H
     have zk1 := f1_hp _ _ zh2
     refine a_reg _ rfl (s := ?zs6) ?_ ?_
     rotate_left
     ·try refine goS ?_
      repeat' with_reducible apply And.intro
      all_goals try ((with_reducible show CallR _ _ _ _ _ _ _); refine cR_s zk1 (PurRs.fst f1_fpu (.cons (.agg' (.cons (.int' rfl) (.cons (.int' rfl) (.cons (.int' rfl) (.cons (.int' rfl) (.cons (.int' rfl) (.cons (.int' rfl) .nil))))))) (Pus.purRs f1_pu))) (.bool _) ?_; refine goS ?_)
      all_goals ((repeat' apply And.intro) <;> first|rfl|assumption|omega|(simp;done)|(simp;omega)|(simp_all;done))
     refine sA_n ?_
     refine a_cnd H (fun zc2 H => ?_) (fun zc2 H => ?_)
     ·refine a_srC _ rfl ?_
      exact a_ret (bA_r (sA_r (lA_r (bA_r (cA_r RT)))))
     ·refine a_skip ?_
      refine bA_n ?_
      refine sA_n ?_
      refine a_regC _ rfl ?_
      refine lA_n ?_
      refine wk_l [] [] [(0, .list 6 (s1.map Job.c)), (1, .fn (.func f1_F) f1_fst f1_caps), (7, .int .i64 (s1.length : Int)), (8, .int .i64 (IntKind.wrap .i64 (v1 + 1)))] ND ND ?_ ?_ (fun t0 => ⟨_, Nat.lt_succ_self _, (IntKind.wrap .i64 (v1 + 1)), t0, H, rfl⟩)
      ·exact trivial
      ·(simp only [AllT, ATT, reduceEqDiff, ↓reduceIte, and_true]); exact ⟨(.lst _ _ _ Job.pu rfl), (.fn' (RNs.pu f1_fpu) (RNs.pu f1_pu)), (.int' rfl), (.int' rfl)⟩
    ·refine a_exit ?_
     refine sA_e ?_
     refine lA_e ?_
     refine bA_hit ?_
     refine cA_n ?_
     exact wk_lA [] [] (fun t0 => ⟨t0, H, rfl⟩)
 ·rintro s ⟨t0, H, rfl⟩
  unfold slices_IndexFunc_121_J1 at H
  refine a_srC _ rfl ?_
  refine a_ret ?_
  obtain rfl := Option.some.inj H
  refine e_r2 (d := ?zd1) ?_ ?_
  rotate_left
  ·simp only [EVT, resR, single, evLoad, cut, TIS, CS, reduceAdd, reduceEqDiff, ↓reduceIte, reduceCtorEq, reduceLT, reduceLeDiff, reduceSub, Nat.reduceBEq]
   (repeat' apply And.intro) <;> first | rfl | assumption | omega | (simp; done)
  exact ZZ
def mend_of_f (j1 : Job) : Option Spot :=
 some ((⟨j1.id, j1.to_⟩ : Spot))
theorem mend_of_pc {j1 : Job} {r : Spot} (H : mend_of_f j1 = some r) : PC Tryz.prog 122 [.agg (Job.c j1)] (.agg (Spot.c r)) := by
 refine pcA_of Tryz.func122 (by rfl) (by decide) 8 (by rfl) [.cell 2 176] (by rfl) ?_
 unfold mend_of_f at H
 simp only [ent]
 refine a_srC _ rfl ?_
 refine a_srC _ rfl ?_
 exact a_ret RT
def mend_spot_is_f (s1 : Spot) (j1 : Job) : Option Bool :=
 (mend_of_f j1).bind fun r1 => some (((r1.id == s1.id) && (r1.to_ == s1.to_)))
theorem mend_spot_is_pc {s1 : Spot} {j1 : Job} {r : Bool} (H : mend_spot_is_f s1 j1 = some r) : PC Tryz.prog 123 [.agg (Spot.c s1), .agg (Job.c j1)] (.bool r) := by
 refine pcA_of Tryz.func123 (by rfl) (by decide) 9 (by rfl) [.tmp 4] (by rfl) ?_
 unfold mend_spot_is_f at H
 simp only [ent]
 refine a_srC _ rfl ?_
 refine a_seq ?_
 obtain ⟨r1, zh1, H⟩ := bind_some H
 have zk1 := mend_of_pc zh1
 refine a_drW (by kernel_rfl) _ rfl (s := ?zs2) (by kernel_rfl) (by kernel_rfl) ?zs2f ?_ ?_ ?_
 rotate_left 2
 ·try refine goS ?_
  repeat' with_reducible apply And.intro
  all_goals try ((with_reducible show CallW _ _ _ _ _ _ _); refine cW_p [] zk1 (fun h2 e => ZZ) ?_; refine goS ?_)
  repeat' with_reducible apply And.intro
  all_goals try ((with_reducible show OthW _ _ _ _ _); refine oth_rowsW (us := [(.i64, r1.id), (.i64, r1.to_)]) (vs := [(.i64, s1.id), (.i64, s1.to_)]) rfl rfl rfl (by kernel_rfl) (fun w => eql176 _ _ _ _ w) ?_; refine goS ?_)
  all_goals exact CLS
 ·kernel_rfl
 refine sA_n ?_
 exact a_ret RT
def mend_Renew_J1 (out1 : List Job) : Option (List Job) :=
 some (out1)
def mend_Renew_J2 (k_mend_Renew_L1 : (List Job) → Int → Int → Option (List Job)) (v1 : Int) (v2 : Int) (out3 : List Job) : Option (List Job) :=
 k_mend_Renew_L1 out3 v1 (IntKind.wrap .i64 (v2 + 1))
def mend_Renew_J3 (k_mend_Renew_L1 : (List Job) → Int → Int → Option (List Job)) (l1 : List Job) (r3 : Int) (out2 : List Job) (v2 : Int) (v1 : Int) (x1 : Job) (v3 : Bool) : Option (List Job) :=
 cond v3 ((idx l1 r3).bind fun x2 => (idx out2 v2).bind fun x3 => mend_Renew_J2 k_mend_Renew_L1 v1 v2 (out2.set v2.toNat (⟨x3.id, x3.ver, x3.from_, x3.to_, x3.have_, (if x2.left < x1.left then x2.left else x1.left)⟩ : Job))) (mend_Renew_J2 k_mend_Renew_L1 v1 v2 out2)
def mend_Renew_L1 (l1 : List Job) : Nat → (List Job) → Int → Int → Option (List Job)
 | 0, _, _, _ => none
 | m_ + 1, out2, v1, v2 => cond (decide (v2 < v1)) ((idx out2 v2).bind fun x1 => (mend_of_f x1).bind fun r2 => (slices_IndexFunc_121_f l1 (fun y0_ => mend_spot_is_f (⟨r2.id, r2.to_⟩ : Spot) y0_)).bind fun r3 => cond (decide (0 ≤ r3)) ((idx l1 r3).bind fun x4 => mend_Renew_J3 (mend_Renew_L1 l1 m_) l1 r3 out2 v2 v1 x1 (x4.ver == x1.ver)) (mend_Renew_J3 (mend_Renew_L1 l1 m_) l1 r3 out2 v2 v1 x1 false)) (mend_Renew_J1 out2)
def mend_Renew_f (l1 : List Job) (plan1 : List Job) : Option (List Job) :=
 (slices_Clone_120_f plan1).bind fun r1 => mend_Renew_L1 l1 BIG r1 (((r1.length : Nat)) : Int) 0
theorem mend_Renew_pc {l1 : List Job} {plan1 : List Job} {r : (List Job)} (H : mend_Renew_f l1 plan1 = some r) : PC Tryz.prog 76 [.list 6 (l1.map Job.c), .list 6 (plan1.map Job.c)] (.list 6 (r.map Job.c)) := by
 refine pcA_of Tryz.func76 (by rfl) (by decide) 49 (by rfl) [.tmp 4] (by rfl) ?_
 unfold mend_Renew_f at H
 simp only [ent]
 refine a_srC _ rfl ?_
 refine a_seq ?_
 obtain ⟨r1, zh1, H⟩ := bind_some H
 have zk1 := slices_Clone_120_rc zh1
 refine a_reg _ rfl (s := ?zs2) ?_ ?_
 rotate_left
 ·try refine goS ?_
  repeat' with_reducible apply And.intro
  all_goals try ((with_reducible show CallR _ _ _ _ _ _ _); refine callR_ownm (l := r1) (c := Job.c) [] zk1 Job.sc (.cons (.lst _ _ _ Job.pu rfl) .nil) ?_; refine goS ?_)
  all_goals ((repeat' apply And.intro) <;> first|rfl|assumption|omega|(simp;done)|(simp;omega)|(simp_all;done))
 refine sA_n ?_
 refine a_cut (fun s => ∃ (out1 : List Job) (t0 : Nat → Dat), mend_Renew_J1 out1 = some r ∧ s = ⟨tl t0 [(5, .ref 0 0 out1.length 6)], hl [⟨71, 6, false, out1.map Job.c⟩], 1, 49⟩) ?_ ?_
 ·refine a_srC _ rfl ?_
  refine a_blk ?_
  refine a_loop (fun m s => ∃ (out2 : List Job) (v1 : Int) (v2 : Int) (t0 : Nat → Dat), mend_Renew_L1 l1 m out2 v1 v2 = some r ∧ s = ⟨tl t0 [(0, .list 6 (l1.map Job.c)), (5, .ref 0 0 out2.length 6), (11, .ref 0 0 out2.length 6), (12, .int .i64 v1), (13, .int .i64 v2)], hl [⟨71, 6, false, out2.map Job.c⟩], 1, 49⟩) BIG ?_ ?_
  ·exact wk_lA [(some 9, _)] [] (fun t0 => ⟨r1, (((r1.length : Nat)) : Int), 0, t0, H, rfl⟩)
  ·rintro m_mend_Renew_L1 s ⟨out2, v1, v2, t0, H, rfl⟩
   obtain _ | m_mend_Renew_L1 := m_mend_Renew_L1
   ·cases (show (none : Option _) = some _ from H)
   ·rw [mend_Renew_L1] at H
    refine a_srC _ rfl ?_
    refine a_seq ?_
    refine a_cnd H (fun zc1 H => ?_) (fun zc1 H => ?_)
    ·refine a_skip ?_
     refine sA_n ?_
     refine a_cut (fun s => ∃ (out3 : List Job) (t0 : Nat → Dat), mend_Renew_J2 (mend_Renew_L1 l1 m_mend_Renew_L1) v1 v2 out3 = some r ∧ s = ⟨tl t0 [(0, .list 6 (l1.map Job.c)), (5, .ref 0 0 out3.length 6), (11, .ref 0 0 out3.length 6), (12, .int .i64 v1), (13, .int .i64 v2)], hl [⟨71, 6, false, out3.map Job.c⟩], 1, 49⟩) ?_ ?_
     ·refine a_blk ?_
      refine a_seq ?_
      obtain ⟨x1, zh2, H⟩ := bind_some H
      obtain ⟨zg1, zh2a, zh2b⟩ := idx3 (f := Job.c) zh2
      try simp only [Int.reduceToNat, Int.toNat_natCast] at zg1
      refine a_regC _ rfl ?_
      refine sA_n ?_
      refine a_seq ?_
      obtain ⟨r2, zh3, H⟩ := bind_some H
      have zk2 := mend_of_pc zh3
      obtain ⟨r3, zh4, H⟩ := bind_some H
      have zk3 := slices_IndexFunc_121_pc (f1 := (fun y0_ => mend_spot_is_f (⟨r2.id, r2.to_⟩ : Spot) y0_)) (f1_F := 123) (f1_caps := []) (f1_fst := [.agg (Spot.c (⟨r2.id, r2.to_⟩ : Spot))]) (fun _ _ h => mend_spot_is_pc h) .nil (Pus.cons (.agg _ (Spot.pu _)) Pus.nil) zh4
      refine a_regK _ rfl ?_
      refine sA_n ?_
      refine a_cut (fun s => ∃ (v3 : Bool) (t0 : Nat → Dat), mend_Renew_J3 (mend_Renew_L1 l1 m_mend_Renew_L1) l1 r3 out2 v2 v1 x1 v3 = some r ∧ s = ⟨tl t0 [(0, .list 6 (l1.map Job.c)), (5, .ref 0 0 out2.length 6), (6, .int .i64 v2), (7, .ptr 1 0 0 6), (8, .int .i64 r3), (11, .ref 0 0 out2.length 6), (12, .int .i64 v1), (13, .int .i64 v2), (34, .bool v3)], hl [⟨71, 6, false, out2.map Job.c⟩, ⟨71, 6, false, [Job.c x1]⟩], 2, 49⟩) ?_ ?_
      ·refine cnd H (fun zc3 H => ?_) (fun zc3 H => ?_)
       ·obtain ⟨x4, zh7, H⟩ := bind_some H
        obtain ⟨zg4, zh7a, zh7b⟩ := idx3 (f := Job.c) zh7
        try simp only [Int.reduceToNat, Int.toNat_natCast] at zg4
        refine a_drW (by kernel_rfl) _ rfl (s := ?zs10) (by kernel_rfl) (by kernel_rfl) ?zs10f ?_ ?_ ?_
        rotate_left 2
        ·simp only [EVT, stepW, evOp, St.ev, St.app, St.put, wrs, datOf, datOf1, evBin, binInt, evIndexAddr, evFieldAddr, evLoad, cut, TIS, CS, reduceAdd, reduceMul, reduceEqDiff, ↓reduceIte, reduceCtorEq, reduceLT, reduceLeDiff, Array.reduceGetElem?, Int.reduceToNat, reduceSub, Nat.reduceBEq, ↓zc1, zg1, ↓zc3, zg4]
         try simp only [EVT, stepW, evOp, St.ev, St.app, St.put, wrs, datOf, datOf1, evBin, binInt, evIndexAddr, evFieldAddr, evLoad, cut, TIS, CS, reduceAdd, reduceMul, reduceEqDiff, ↓reduceIte, reduceCtorEq, reduceLT, reduceLeDiff, Array.reduceGetElem?, Int.reduceToNat, reduceSub, Nat.reduceBEq, ↓zc1, zg1, ↓zc3, zg4]
         (repeat' apply And.intro) <;> first|rfl|assumption|omega|(simp;done)|(simp;omega)|(simp_all;done)
        ·kernel_rfl
        refine cA_n ?_
        refine wk_l [(some 0, ⟨71, 6, false, out2.map Job.c⟩), (some 12, ⟨71, 6, false, [[.int .i64 x1.id, .int .i64 x1.ver, .int .i64 x1.from_, .int .i64 x1.to_, .int .i64 x1.have_, .int .i64 x1.left]]⟩)] [] [(0, .list 6 (l1.map Job.c)), (5, .ref 0 0 out2.length 6), (6, .int .i64 v2), (7, .ptr 1 0 0 6), (8, .int .i64 r3), (11, .ref 0 0 out2.length 6), (12, .int .i64 v1), (13, .int .i64 v2), (34, .bool (x4.ver == x1.ver))] ND ND ?_ ?_ (fun t0 => ⟨(x4.ver == x1.ver), t0, H, rfl⟩)
        ·exact (allB_some (by rfl) rfl (.sm _ _ Job.pu) (allB_some (by rfl) rfl (.cons (.cons (.int' rfl) (.cons (.int' rfl) (.cons (.int' rfl) (.cons (.int' rfl) (.cons (.int' rfl) (.cons (.int' rfl) .nil)))))) .nil) trivial))
        ·(simp only [AllT, ATT, reduceEqDiff, ↓reduceIte, and_true]); exact ⟨(.lst _ _ _ Job.pu rfl), (.refl' (by first | rfl | omega | (simp; done) | (simp [strBytes_len]; done) | (simp; omega) | (simp_all; done)) rfl), (.int' rfl), (.ptr _ _ _ _ _ rfl), (.int' rfl), (.refl' (by first | rfl | omega | (simp; done) | (simp [strBytes_len]; done) | (simp; omega) | (simp_all; done)) rfl), (.int' rfl), (.int' rfl), (.bool' rfl)⟩
       ·refine a_drW (by kernel_rfl) _ rfl (s := ?zs11) (by kernel_rfl) (by kernel_rfl) ?zs11f ?_ ?_ ?_
        rotate_left 2
        ·refine goS ?_
         try refine goS ?_
         exact CLS
        ·kernel_rfl
        refine cA_n ?_
        exact wk_lA [(some 0, _), (some 12, _)] [] (fun t0 => ⟨false, t0, H, rfl⟩)
      ·rintro s ⟨v3, t0, H, rfl⟩
       unfold mend_Renew_J3 at H
       refine a_cnd H (fun zc2 H => ?_) (fun zc2 H => ?_)
       ·obtain ⟨x2, zh5, H⟩ := bind_some H
        obtain ⟨zg2, zh5a, zh5b⟩ := idx3 (f := Job.c) zh5
        try simp only [Int.reduceToNat, Int.toNat_natCast] at zg2
        obtain ⟨x3, zh6, H⟩ := bind_some H
        obtain ⟨zg3, zh6a, zh6b⟩ := idx3 (f := Job.c) zh6
        try simp only [Int.reduceToNat, Int.toNat_natCast] at zg3
        refine a_drW (by kernel_rfl) _ rfl (s := ?zs9) (by kernel_rfl) (by kernel_rfl) ?zs9f ?_ ?_ ?_
        rotate_left 2
        ·simp only [EVT, stepW, evOp, St.ev, St.app, St.put, wrs, evFieldAddr, evLoad, cut, evIndexAddr, evBuiltin, minMax, mmStep, evStore, setR, allOne, TIS, CS, reduceAdd, reduceMul, reduceEqDiff, ↓reduceIte, reduceCtorEq, reduceLT, reduceLeDiff, Int.reduceToNat, reduceSub, Nat.reduceBEq, ↓zc2, zg2, zg3]
         (repeat' apply And.intro) <;> first|rfl|assumption|omega|(simp;done)|(simp;omega)|(simp_all;done)
        ·kernel_rfl
        refine bA_n ?_
        refine cA_n ?_
        refine wk_l [(some 0, ⟨71, 6, false, (out2.set v2.toNat (⟨x3.id, x3.ver, x3.from_, x3.to_, x3.have_, (if x2.left < x1.left then x2.left else x1.left)⟩ : Job)).map Job.c⟩)] [] [(0, .list 6 (l1.map Job.c)), (5, .ref 0 0 (out2.set v2.toNat (⟨x3.id, x3.ver, x3.from_, x3.to_, x3.have_, (if x2.left < x1.left then x2.left else x1.left)⟩ : Job)).length 6), (11, .ref 0 0 (out2.set v2.toNat (⟨x3.id, x3.ver, x3.from_, x3.to_, x3.have_, (if x2.left < x1.left then x2.left else x1.left)⟩ : Job)).length 6), (12, .int .i64 v1), (13, .int .i64 v2)] ND ND ?_ ?_ (fun t0 => ⟨(out2.set v2.toNat (⟨x3.id, x3.ver, x3.from_, x3.to_, x3.have_, (if x2.left < x1.left then x2.left else x1.left)⟩ : Job)), t0, H, rfl⟩)
        ·exact (allB_some (by rfl) rfl (.sm _ _ Job.pu) trivial)
        ·(simp only [AllT, ATT, reduceEqDiff, ↓reduceIte, and_true]); exact ⟨(.lst _ _ _ Job.pu rfl), (.refl' (by first | rfl | omega | (simp; done) | (simp [strBytes_len]; done) | (simp; omega) | (simp_all; done)) rfl), (.refl' (by first | rfl | omega | (simp; done) | (simp [strBytes_len]; done) | (simp; omega) | (simp_all; done)) rfl), (.int' rfl), (.int' rfl)⟩
       ·refine a_skip ?_
        refine bA_n ?_
        refine cA_n ?_
        exact wk_lA [(some 0, _)] [] (fun t0 => ⟨out2, t0, H, rfl⟩)
     ·rintro s ⟨out3, t0, H, rfl⟩
      unfold mend_Renew_J2 at H
      refine a_regC _ rfl ?_
      refine lA_n ?_
      exact wk_lA [(some 0, _)] [] (fun t0 => ⟨_, Nat.lt_succ_self _, out3, v1, (IntKind.wrap .i64 (v2 + 1)), t0, H, rfl⟩)
    ·refine a_exit ?_
     refine sA_e ?_
     refine lA_e ?_
     refine bA_hit ?_
     refine cA_n ?_
     exact wk_lA [(some 0, _)] [] (fun t0 => ⟨out2, t0, H, rfl⟩)
 ·rintro s ⟨out1, t0, H, rfl⟩
  unfold mend_Renew_J1 at H
  refine a_srC _ rfl ?_
  exact a_ret RT
def mend_within_f (n1 : Int) (from1 : Int) (to1 : Int) : Option Bool :=
 some ((decide (from1 ≤ n1)) && (decide (n1 ≤ to1)))
theorem mend_within_pc {n1 : Int} {from1 : Int} {to1 : Int} {r : Bool} (H : mend_within_f n1 from1 to1 = some r) : PC Tryz.prog 155 [.int .i64 n1, .int .i64 from1, .int .i64 to1] (.bool r) := by
 refine pcA_of Tryz.func155 (by rfl) (by decide) 15 (by rfl) [.tmp 6] (by rfl) ?_
 unfold mend_within_f at H
 simp only [ent]
 refine a_srC _ rfl ?_
 refine a_seq ?_
 refine bool_split (b := (decide (from1 ≤ n1))) (fun zc1 => ?_) (fun zc1 => ?_)
 ·rw [zc1] at H
  refine a_regC _ rfl ?_
  refine sA_n ?_
  exact a_ret RT
 ·rw [zc1] at H
  refine a_regC _ rfl ?_
  refine sA_n ?_
  refine a_ret ?_
  obtain rfl := Option.some.inj H
  refine e_r2 (d := ?zd2) ?_ ?_
  rotate_left
  ·simp only [EVT, resR, single, evLoad, cut, TIS, CS, reduceAdd, reduceEqDiff, ↓reduceIte, reduceCtorEq, reduceLT, reduceLeDiff, reduceSub, Nat.reduceBEq, zc1]
   (repeat' apply And.intro) <;> first | rfl | assumption | omega | (simp; done)
  exact ZZ
end
end Go.Proofs.YtjflkcfafijhfaaGreat
