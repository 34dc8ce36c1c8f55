import Derived.Test.YtjflkcfafijhfaaGreatQ21
import Derived.Test.YtjflkcfafijhfaaGreatQ22
set_option linter.unusedSectionVars false
/- slices.Sort of a row of one's own, as the model has it; slices.Sorted over keys. -/
set_option linter.unusedSimpArgs false
set_option linter.unusedVariables false
namespace Go.Proofs.YtjflkcfafijhfaaGreat
open Go.Ab Go.RowKit
theorem hs_row {xs : List Int} {W : World} {x : Option Nat} (hx : (x = none ∧ xs = []) ∨ ∃ g, x = some g ∧ Lies (upd NP 0 (some x)) (fun _ => False) W g ⟨3, 1, false, xs.map (ci .i64)⟩) :
  HS (XC W [⟨3, 1, false, xs.map (ci .i64)⟩] 1 (upd NP 0 (some x)) (fun _ => False)) S0 (hl [⟨3, 1, false, xs.map (ci .i64)⟩]) 1 W (upd NP 0 (some x)) (fun _ => False) where
 live := fun i B hi => by
  rcases i with _ | i
  ·change some _ = some B at hi
   injection hi with hi; subst hi
   rcases hx with ⟨rfl, rfl⟩ | ⟨g, rfl, hL⟩
   ·exact .inl ⟨upd_same _ _ _, rfl⟩
   ·exact .inr ⟨g, upd_same _ _ _, hL, fun h => (by cases h), fun _ => ⟨fun h => h, .inl ⟨0, _, rfl, upd_same _ _ _⟩⟩⟩
  ·simp [hl] at hi
 inj := fun i j B C g hi hj _ _ _ => by
  have z : ∀ (i : Nat) B, hl [(⟨3, 1, false, xs.map (ci .i64)⟩ : Blk)] i = some B → i = 0 := fun i B hi => by
   rcases i with _ | i
   ·rfl
   ·simp [hl] at hi
  rw [z i B hi, z j C hj]
 fresh := fun i hi _ => by rw [upd_ne _ _ (by omega)]
 Dlt := fun b h => h.elim
 Dsub := fun b h => h.elim
 Dsup := fun b h => h
 psup := fun i y hy => by
  have hy : pin 1 (upd NP 0 (some x)) i = some y := hy
  unfold pin at hy
  split at hy
  ·exact hy
  ·cases hy
 fr := ⟨rfl, rfl, rfl, Nat.le_refl _, fun _ _ => rfl, fun _ _ _ => rfl⟩
 fin := ⟨1, fun k hk => by rw [upd_ne _ _ (by omega)]⟩
 gp := trivial
theorem sort_row {xs rs : List Int} (H : slices_Sort_f xs = some rs) (hlen : rs.length = xs.length) (W : World) (n0 : Nat) (v : Value) (hrow : W.ownsRow n0 3 1 v xs.length (xs.map (Value.int .i64))) :
  Calls Tryz.prog 111 #[v] W fun e W' => (∃ u, e = .returned u) ∧ W'.ownsRow n0 3 1 v rs.length (rs.map (Value.int .i64)) ∧ Below (min n0 W.heap.size) W W' := by
 have rc := slices_Sort_rc H
 obtain ⟨h0, ⟨rfl, hz⟩ | ⟨g, cap, cur, rfl, hg, hgb, hk, hm, hcs, ht⟩⟩ := hrow
 ·have hx : xs = [] := List.eq_nil_of_length_eq_zero hz
  subst hx
  have hr : rs = [] := List.eq_nil_of_length_eq_zero hlen
  subst hr
  refine (rc.run W _ _ [.slice none 0 0] (hs_row (x := none) (.inl ⟨rfl, rfl⟩)) (.cons (.refv 0 1 (upd_same _ _ _)) .nil)).mono fun e W' hR => ?_
  obtain ⟨u, φ', D', n', rfl, _, H'⟩ := hR
  refine ⟨⟨_, rfl⟩, World.ownsRow_nil _ _ _ _, ⟨H'.fr.os, H'.fr.tape, H'.fr.output, H'.fr.size, fun k hk => H'.fr.old k (Nat.lt_of_lt_of_le hk (Nat.min_le_right _ _)) ?_⟩⟩
  rintro ⟨i, B, hi, hp⟩
  rcases i with _ | i
  ·rw [upd_same] at hp; cases hp
  ·simp at hi
 ·have hgl : g < W.heap.size := (Array.getElem?_eq_some_iff.1 hgb).1
  have hL : Lies (upd NP 0 (some (some g))) (fun _ => False) W g ⟨3, 1, false, xs.map (ci .i64)⟩ := by
   refine ⟨cur, hgb, by simp; omega, fun k e he => ?_⟩
   rw [List.getElem?_map] at he
   obtain ⟨z, hz, rfl⟩ := Option.map_eq_some_iff.1 he
   refine ⟨rfl, fun j d hd => ?_⟩
   rcases j with _ | j
   ·change some _ = some d at hd
    injection hd with hd; subst hd
    have hkl : k < xs.length := (List.getElem?_eq_some_iff.1 hz).1
    have h1 : (cur.toList.take (xs.length * 1))[k]? = some (.int .i64 z) := by rw [ht, List.getElem?_map, hz]; rfl
    rw [List.getElem?_take, if_pos (by omega)] at h1
    exact ⟨.int .i64 z, by simpa using h1, rfl, .int _ _⟩
   ·simp [ci_eq] at hd
  have harg : RV (upd NP 0 (some (some g))) (fun _ => False) W (.slice (some ⟨g, 0, none⟩) xs.length cap) (.ref 0 0 xs.length 1) := by
   have := RV.ref (φ := upd NP 0 (some (some g))) (D := fun _ => False) (w := W) 0 g 0 xs.length cap 1 (upd_same _ _ _) hk hm ⟨3, by simp [World.shape?, hgb, hcs]⟩
   simpa using this
  refine (rc.run W _ _ [.slice (some ⟨g, 0, none⟩) xs.length cap] (hs_row (x := some g) (.inr ⟨g, rfl, hL⟩)) (.cons harg .nil)).mono fun e W' hR => ?_
  obtain ⟨u, φ', D', n', rfl, _, H'⟩ := hR
  have hφ : φ' 0 = some (some g) := H'.psup 0 _ (by show pin 1 (upd NP 0 (some (some g))) 0 = some (some g); unfold pin; rw [if_pos (by omega), upd_same])
  have hlive := H'.live 0 ⟨3, 1, false, rs.map (ci .i64)⟩ rfl
  obtain ⟨arr, a1, a2, a3⟩ : Lies φ' D' W' g ⟨3, 1, false, rs.map (ci .i64)⟩ := by
   rcases hlive with ⟨q, _⟩ | ⟨g', q, q2, _⟩
   ·rw [hφ] at q; cases q
   ·rw [hφ] at q; injection q with q; injection q with q; subst q; exact q2
  have hsh : W'.shape? g = W.shape? g := H'.fr.shape g hgl
  have hcap : arr.size = cap * 1 := by
   simp [World.shape?, a1, hgb] at hsh
   omega
  refine ⟨⟨_, rfl⟩, ⟨by simp, .inr ⟨g, cap, arr, by rw [hlen], hg, a1, by omega, hm, hcap, ?_⟩⟩, ⟨H'.fr.os, H'.fr.tape, H'.fr.output, H'.fr.size, fun k hk => H'.fr.old k (Nat.lt_of_lt_of_le hk (Nat.min_le_right _ _)) ?_⟩⟩
  ·refine List.ext_getElem? fun k => ?_
   rw [List.getElem?_take, List.getElem?_map]
   split
   ·rename_i hkl
    have hkr : k < rs.length := by omega
    obtain ⟨_, hd⟩ := a3 k (ci .i64 rs[k]) (by rw [List.getElem?_map, List.getElem?_eq_getElem hkr]; rfl)
    obtain ⟨u', u1, _, u3⟩ := hd 0 (.int .i64 rs[k]) (by rw [ci_eq]; rfl)
    rw [u3.int_inv] at u1
    rw [List.getElem?_eq_getElem hkr]
    simpa using u1
   ·rw [List.getElem?_eq_none (by omega)]; rfl
  ·rintro ⟨i, B, hi, hp⟩
   rcases i with _ | i
   ·rw [upd_same] at hp
    injection hp with hp; injection hp with hp
    have := Nat.lt_of_lt_of_le hk (Nat.min_le_left _ _)
    omega
   ·simp at hi
open Go.Shelf Go.Proofs in
set_option maxRecDepth 100000 in
set_option maxHeartbeats 2000000 in
theorem SortedK_in (gf : Nat) (pb : Addr) (eg : ∀ args w, (callFunc gf args).run Tryz.prog w = .ok (.enter gf args) w) (S : List Int → Prop) (N : Nat) (hN : N * 8 ≤ 140737488351232) (rs : List Int) (hS : ∀ zs, S zs → slices_Sort_f zs = some rs ∧ rs.length = zs.length) (w : World)
  (hseq : ∀ W, Below w.heap.size w W → SeqStopsK Fence.wide 8 Tryz.prog gf #[.pointer (some pb)] (fun x : Int => #[Value.int .i64 x]) KeepsWalks S (fun _ => True) N W) :
  Calls Tryz.prog 58 #[.func (.func gf) #[] #[.pointer (some pb)]] w fun e W' => ∃ v, e = .returned v ∧ W'.ownsRow w.heap.size 3 1 v rs.length (rs.map (Value.int .i64)) ∧ Below w.heap.size w W' := by
 have hc := CollectK_in gf pb eg S N hN w hseq
 go_enter Tryz.func58, Tryz.ntmps58
 go_wp2_with (go_at_call 110; refine hc.mono ?_; rintro e w1 ⟨v, zs, rfl, hz, hrow, hb⟩)
 obtain ⟨h1, h2⟩ := hS zs hz
 have hs := sort_row h1 h2 w1 w.heap.size v hrow
 rw [Nat.min_eq_left hb.size] at hs
 go_wp2_with (go_at_call 111; refine hs.mono ?_; rintro e w2 ⟨⟨u, rfl⟩, hrow2, hb2⟩)
 go_ret
 exact ⟨v, rfl, hrow2, hb.trans hb2⟩
end Go.Proofs.YtjflkcfafijhfaaGreat
/- maps.Keys, and Sorted(Keys(m)): by hand. -/
set_option linter.unusedSimpArgs false
set_option linter.unusedVariables false
namespace Go.Proofs.YtjflkcfafijhfaaGreat
open Go.Ab Go.RowKit Go.Shelf Go.Proofs Go.Maps
theorem Keys142_run (mb : Option Nat) (w : World) : Calls Tryz.prog 142 #[.map mb] w fun e w' => e = .returned (.func (.func 161) #[] #[.pointer (some ⟨w.heap.size, 0, none⟩)]) ∧ w' = w.alloc (.cells #[.map mb] 209) := by
 go_enter Tryz.func142, Tryz.ntmps142
 go_wp2
 go_ret
 exact ⟨rfl, rfl⟩
theorem Keys81_run (mb : Option Nat) (w : World) : Calls Tryz.prog 81 #[.map mb] w fun e w' => e = .returned (.func (.func 131) #[] #[.pointer (some ⟨w.heap.size, 0, none⟩)]) ∧ w' = w.alloc (.cells #[.map mb] 142) := by
 go_enter Tryz.func81, Tryz.ntmps81
 go_wp2
 go_ret
 exact ⟨rfl, rfl⟩
theorem sortedKeys161_run {H : Type} (D0 : DataW H) {R : Value → Option (DataW H × List MemPlace)} (b nn Bm : Nat) (w : World) (hm : w.cell? ⟨Bm, 0, none⟩ = some (.map (some b))) (hown : w.ownsMap Tryz.prog 3 R b nn D0) (hN : Maps.size D0 * 8 ≤ 140737488351232)
  (rs : List Int) (hS : ∀ zs : List Int, zs.Perm (intKeys D0) → slices_Sort_f zs = some rs ∧ rs.length = zs.length) :
  Calls Tryz.prog 58 #[.func (.func 161) #[] #[.pointer (some ⟨Bm, 0, none⟩)]] w fun e W' => ∃ v, e = .returned v ∧ W'.ownsRow w.heap.size 3 1 v rs.length (rs.map (Value.int .i64)) ∧ Below w.heap.size w W' :=
 SortedK_in 161 ⟨Bm, 0, none⟩ (enters ⟨_, _, Tryz.func161, rfl, by decide⟩) (fun zs => zs.Perm (intKeys D0)) (Maps.size D0) hN rs hS w fun W hW => by
  have hBm : Bm < w.heap.size := World.block_lt_of_cell? w _ hm
  refine keys161_stops (R := R) 8 (by omega) Bm b nn D0 W (Nat.lt_of_lt_of_le hBm hW.size) ((hW.cell (p := ⟨Bm, 0, none⟩) hBm).trans hm) ?_
  have hbl := hown.lt
  obtain ⟨es, clock, hb, Ft, hs, hD⟩ := hown
  exact ⟨es, clock, (hW.block b hbl).trans hb, Ft, hs, hD⟩
theorem sortedKeys131_run {H : Type} (D0 : DataW H) {R : Value → Option (DataW H × List MemPlace)} (b nn Bm : Nat) (w : World) (hm : w.cell? ⟨Bm, 0, none⟩ = some (.map (some b))) (hown : w.ownsMap Tryz.prog 3 R b nn D0) (hN : Maps.size D0 * 8 ≤ 140737488351232)
  (rs : List Int) (hS : ∀ zs : List Int, zs.Perm (intKeys D0) → slices_Sort_f zs = some rs ∧ rs.length = zs.length) :
  Calls Tryz.prog 58 #[.func (.func 131) #[] #[.pointer (some ⟨Bm, 0, none⟩)]] w fun e W' => ∃ v, e = .returned v ∧ W'.ownsRow w.heap.size 3 1 v rs.length (rs.map (Value.int .i64)) ∧ Below w.heap.size w W' :=
 SortedK_in 131 ⟨Bm, 0, none⟩ (enters ⟨_, _, Tryz.func131, rfl, by decide⟩) (fun zs => zs.Perm (intKeys D0)) (Maps.size D0) hN rs hS w fun W hW => by
  have hBm : Bm < w.heap.size := World.block_lt_of_cell? w _ hm
  refine keys131_stops (R := R) 8 (by omega) Bm b nn D0 W (Nat.lt_of_lt_of_le hBm hW.size) ((hW.cell (p := ⟨Bm, 0, none⟩) hBm).trans hm) ?_
  have hbl := hown.lt
  obtain ⟨es, clock, hb, Ft, hs, hD⟩ := hown
  exact ⟨es, clock, (hW.block b hbl).trans hb, Ft, hs, hD⟩
end Go.Proofs.YtjflkcfafijhfaaGreat
