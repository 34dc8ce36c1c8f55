import Derived.RangeFuncCalls
import Derived.Shelf.Abstract
import Derived.Shelf.RegionOpen
import Derived.OwnWalkIn
import Derived.TacticsInMore
import Derived.LoopIn
import Derived.Test.YtjflkcfafijhfaaGreatQ18
import Derived.Test.YtjflkcfafijhfaaGreatQ17
set_option linter.unusedSectionVars false
/- slices.Values: its iterator, by hand. -/
set_option linter.unusedSimpArgs false
set_option linter.unusedVariables false
namespace Go.Proofs.YtjflkcfafijhfaaGreat
open Go.Ab Go.RowKit Go.Shelf Go.Proofs
attribute [local go_sem] Oper.semAt_some
theorem kept_ext {D U : Nat → Prop} {n : Nat} {A B : World} (h : Kept D U n A B) : Ext D A B := ⟨h.size, h.shape, fun b hd hl => h.same b hl (.inl hd)⟩
set_option maxRecDepth 100000 in
set_option maxHeartbeats 2000000 in
theorem values1_in (m l pb po : Nat) (A : Option Addr) (cap : Nat) (zs : List Int) (hreach : zs.length ≤ 9223372036854775807) (D : Nat → Prop) (hpb : D pb) (w : World)
  (hs : ∀ (j : Nat) x, zs[j]? = some x → ∃ b off, A = some ⟨b, off, none⟩ ∧ D b ∧ w.cell? ⟨b, off + j, none⟩ = some (.int .i64 x))
  (J : (Nat → Prop) → Nat → World → Prop) (Jx : (Nat → Prop) → World → Prop) (U0 : Nat → Prop) (hU0 : ∀ b, U0 b → b < w.heap.size)
  (hY : ∀ m U k x W, zs[k]? = some x → J U k W → Ext D w W → (∀ b, U b → b < W.heap.size) → YieldAt Fence.wide m Tryz.prog l #[.int .i64 x] W fun v B => ∃ U', (∀ b, U' b → b < B.heap.size) ∧ Ext D W B ∧
   ((v = .returned (.bool true) ∧ J U' (k + 1) B) ∨ (v = .returned (.bool false) ∧ Jx U' B)))
  (hB : w.cell? ⟨pb, po, none⟩ = some (.slice A zs.length cap)) (h0 : J U0 0 w) :
  CallsIn Fence.wide m Tryz.prog 112 #[.func (.yield l) #[] #[], .pointer (some ⟨pb, po, none⟩)] w fun v B => (∃ x, v = .returned x) ∧ ∃ U, J U zs.length B ∨ Jx U B := by
 refine callsIn_of_wp Tryz.func112 rfl trivial ?_ rfl
 simp only [Tryz.ntmps112, List.size_toArray, List.length_cons, List.length_nil, Nat.reduceAdd, Nat.reduceSub, Array.replicate_succ, Array.replicate_zero, List.push_toArray, List.append_toArray, List.nil_append, List.cons_append]
 gi_wp2
 gi_loopw [7] (fun i wr => ∃ (k : Nat) (U : Nat → Prop), k ≤ zs.length ∧ i = .int .i64 k ∧ J U k wr ∧ Ext D w wr ∧ ∀ b, U b → b < wr.heap.size)
  (fun i _ => zs.length - (intOf i).toNat)
 case atStart => exact ⟨0, U0, Nat.zero_le _, rfl, h0, Ext.refl _ _, hU0⟩
 case round =>
  obtain ⟨k, U, hk, rfl, hJs, hnx, hU⟩ := hrel
  by_cases hlt : k < zs.length
  ·obtain ⟨x, hx⟩ : ∃ x, zs[k]? = some x := ⟨_, List.getElem?_eq_getElem hlt⟩
   obtain ⟨b, off, rfl, hb, hcs⟩ := hs k x hx
   have hcx : wr.cell? ⟨b, off + k, none⟩ = some (.int .i64 x) := hnx.cell hb hcs
   obtain ⟨fn, tmps, assign, body, hy, hR⟩ := hY (m - 1) U k x wr hx hJs hnx hU
   gi_wp2
   refine ⟨fun h => absurd h (by decide), hR.mono ?_⟩
   rintro e W3 ⟨U', hU', hk3, ⟨rfl, hJ3⟩ | ⟨rfl, hJx3⟩⟩
   ·gi_wp2
    go_roundw
    case rel => exact ⟨k + 1, U', by omega, by simp, hJ3, hnx.trans hk3, hU'⟩
    case measure => simp [intOf]; omega
   ·gi_wp2
    refine bodyPost_ret (results_none rfl _ _ _) rfl ?_
    exact ⟨⟨_, rfl⟩, U', .inr hJx3⟩
  ·obtain rfl : k = zs.length := by omega
   gi_wp2
   go_end0
   exact ⟨⟨_, rfl⟩, U, .inl hJs⟩
theorem YieldAt.mono' {F : Fence} {m : Nat} {P : Program} {l : Nat} {args : Array Value} {W : World} {R R' : Ending → World → Prop} (h : YieldAt F m P l args W R) (hr : ∀ e w, R e w → R' e w) : YieldAt F m P l args W R' := by
 obtain ⟨fn, tmps, assign, body, hy, hR⟩ := h
 exact ⟨fn, tmps, assign, body, hy, hR.mono hr⟩
def slices_Values_1_f (s1 : List Int) : Option (List Int) := some s1
theorem slices_Values_1_it {s1 ys : List Int} (H : slices_Values_1_f s1 = some ys) : IterC Tryz.prog 112 [.rop (cl 1 (ci .i64) s1) 0 1] (ys.map fun y => [.int .i64 y]) where
 enter := ⟨_, _, Tryz.func112, rfl, by decide⟩
 run := fun w D vs hD hG hv l J Jx U0 hJ hJx hY hU0 h0 m => by
  injection H with H
  subst H
  match vs, hv with
  | [vp], hv =>
   obtain ⟨b, o, cs, rfl, hl, hDb, hb, hr, -, hcs⟩ := (hv.2 0 vp _ rfl rfl).rop_inv
   match cs, hl with
   | [sv], _ =>
    have hsv := hcs.2 0 sv _ rfl (by rw [cl_eq]; rfl)
    have hcell : w.cell? ⟨b, o + 0, none⟩ = some sv := hr 0 sv rfl
    obtain ⟨A, cap, rfl, h1, h2, h3⟩ := hsv.list_inv
    rw [List.length_map] at hcell h1
    have key := values1_in m l b (o + 0) A cap s1 (by have : maxLen = 9223372036854775807 := rfl; omega) D hDb w (fun j x hx => ?_) J Jx U0 hU0 (fun m U k x W hx hj he hU => ?_) hcell h0
    ·refine key.mono fun v B hR => ?_
     rw [List.length_map]
     exact hR
    ·obtain ⟨b3, o3, cs3, hA3, hD3, _, hr3, hl3, _, hv3⟩ := h3 j (ci .i64 x) (by rw [List.getElem?_map, hx]; rfl)
     match cs3, hl3 with
     | [u], _ =>
      have hu := hv3.2 0 u _ rfl (by rw [ci_eq]; rfl)
      rw [hu.int_inv] at hr3
      have := hr3 0 _ rfl
      exact ⟨b3, o3, hA3, hD3, by simpa using this⟩
    ·refine YieldAt.mono' (hY m U k [.int .i64 x] W D [.int .i64 x] (by rw [List.getElem?_map, hx]; rfl) hj (.cons (.int _ _) .nil) (fun b hb => ⟨Nat.lt_of_lt_of_le (hD b hb) he.size, .inl hb⟩) (Lay.gpk hG he (fun _ h _ => h))) fun v B hR => ?_
     obtain ⟨U', hU', hk, hR⟩ := hR
     exact ⟨U', fun b hb => (hU' b hb).1, kept_ext hk, hR⟩
  | [], hv => exact absurd hv.1 (by simp)
  | _ :: _ :: _, hv => exact absurd hv.1 (by simp)
end Go.Proofs.YtjflkcfafijhfaaGreat
