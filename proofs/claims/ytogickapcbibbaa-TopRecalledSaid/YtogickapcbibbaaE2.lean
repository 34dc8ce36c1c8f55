/- slices.AppendSeq(nil, slices.Values(l)): a range over a function of the library: by hand. -/
import Derived.RangeFuncNested
import Derived.RangeFuncBound
import Derived.RangeFuncBox
import Derived.RangeFuncCalls
import Derived.RangeFuncLeaves
import Derived.Shelf.Abstract
import Derived.Shelf.RegionOpen
import Derived.WalkKit
import Derived.OwnWalkIn
import Derived.TacticsInMore
import Derived.LoopNIn
import Derived.LoopIn
import Derived.Maps.AppendAt
import Derived.Test.YtogickapcbibbaaTy
set_option linter.unusedSimpArgs false
set_option linter.unusedVariables false
namespace Go.Proofs.Ytogickapcbibbaa
open Go.Ab Go.RowKit Go.Shelf Go.Proofs

attribute [local go_sem] Oper.semAt_some

/-- the slice value sv holds the numbers zs, in a block below n0; or there are none -/
def IntsAt (n0 : Nat) (W : World) (sv : Value) (zs : List Int) : Prop :=
  ∃ A cap, sv = .slice A zs.length cap ∧ (zs = [] ∨ ∃ b off, A = some ⟨b, off, none⟩ ∧ b < n0 ∧ ∀ (j : Nat) x, zs[j]? = some x → W.cell? ⟨b, off + j, none⟩ = some (.int .i64 x))
theorem IntsAt.below {n0 : Nat} {A B : World} (h : Below n0 A B) {sv : Value} {zs : List Int} (hi : IntsAt n0 A sv zs) : IntsAt n0 B sv zs := by
  obtain ⟨a, cap, e, h1⟩ := hi
  refine ⟨a, cap, e, h1.imp_right fun ⟨b, off, e1, hb, hc⟩ => ⟨b, off, e1, hb, fun j x hx => (h.cell (p := ⟨b, off + j, none⟩) hb).trans (hc j x hx)⟩⟩

set_option maxRecDepth 100000 in
set_option maxHeartbeats 2000000 in
theorem values1_in (n : Nat) (hn : 1 ≤ n) (l pb po n0 : Nat) (sv : Value) (zs : List Int) (hreach : zs.length * 8 ≤ 140737488351232) (J Jx : List Int → World → Prop)
    (hY : ∀ pre x W, J pre W → pre.length < zs.length → YieldAt Fence.wide (n - 1) Try.prog l #[.int .i64 x] W fun e W' =>
      (e = .returned (.bool true) ∧ J (pre ++ [x]) W' ∧ Below n0 W W') ∨ (e = .returned (.bool false) ∧ Jx (pre ++ [x]) W'))
    (W : World) (hBs : W.cell? ⟨pb, po, none⟩ = some sv) (hi : IntsAt n0 W sv zs) (h0 : J [] W) :
    CallsIn Fence.wide n Try.prog 84 #[.func (.yield l) #[] #[], .pointer (some ⟨pb, po, none⟩)] W fun e W' => (∃ v, e = .returned v) ∧
      ((∃ ys, ys = zs ∧ J ys W') ∨ (∃ pre, True ∧ Jx pre W')) := by
  obtain ⟨A, cap, rfl, hc⟩ := hi
  refine callsIn_of_wp Try.func84 rfl trivial ?_ rfl
  simp only [Try.ntmps84, List.size_toArray, List.length_cons, List.length_nil, Nat.reduceAdd, Nat.reduceSub, Array.replicate_succ, Array.replicate_zero, List.push_toArray, List.append_toArray, List.nil_append, List.cons_append]
  gi_wp2
  gi_loopw [7] (fun i wr => ∃ k : Nat, k ≤ zs.length ∧ i = .int .i64 k ∧ J (zs.take k) wr ∧ Below n0 W wr)
    (fun i _ => zs.length - (intOf i).toNat)
  case atStart => exact ⟨0, Nat.zero_le _, rfl, h0, Below.refl _ _⟩
  case round =>
    obtain ⟨k, hk, rfl, hJs, hnx⟩ := hrel
    by_cases hlt : k < zs.length
    · obtain ⟨x, hx⟩ : ∃ x, zs[k]? = some x := ⟨_, List.getElem?_eq_getElem hlt⟩
      rcases hc with rfl | ⟨b, off, rfl, hb, hcs⟩
      · simp at hlt
      have hcx : wr.cell? ⟨b, off + k, none⟩ = some (.int .i64 x) := (hnx.cell (p := ⟨b, off + k, none⟩) hb).trans (hcs k x hx)
      have htk : zs.take (k + 1) = zs.take k ++ [x] := by rw [List.take_add_one, hx]; rfl
      obtain ⟨fn, tmps, assign, body, hy, hR⟩ := hY _ x wr hJs (by simp; omega)
      gi_wp2
      refine hR.mono ?_
      rintro e W3 (⟨rfl, hJ3, hk3⟩ | ⟨rfl, hJx3⟩)
      · gi_wp2
        go_roundw
        case rel => exact ⟨k + 1, by omega, by simp, by rw [htk]; exact hJ3, hnx.trans hk3⟩
        case measure => simp [intOf]; omega
      · gi_wp2
        refine bodyPost_ret (results_none rfl _ _ _) rfl ?_
        exact ⟨⟨_, rfl⟩, .inr ⟨_, trivial, hJx3⟩⟩
    · obtain rfl : k = zs.length := by omega
      gi_wp2
      go_end0
      exact ⟨⟨_, rfl⟩, .inl ⟨_, rfl, by rw [List.take_length] at hJs; exact hJs⟩⟩

theorem values_stops (n : Nat) (hn : 1 ≤ n) (pb po n0 : Nat) (sv : Value) (zs : List Int) (hreach : zs.length * 8 ≤ 140737488351232) (w : World) (hpb : pb < w.heap.size) (hn0 : n0 ≤ w.heap.size)
    (hc : w.cell? ⟨pb, po, none⟩ = some sv) (hI : IntsAt n0 w sv zs) :
    SeqStopsK Fence.wide n Try.prog 84 #[.pointer (some ⟨pb, po, none⟩)] (fun x : Int => #[Value.int .i64 x]) (Below n0) (fun ys => ys = zs) (fun _ => True) zs.length w := fun l J Jx W hW _ _ hY h0 =>
  values1_in n hn l pb po n0 sv zs hreach J Jx hY W ((hW.cell (p := ⟨pb, po, none⟩) hpb).trans hc) (hI.below (hW.mono hn0)) h0

theorem info3 : (Try.prog.info? 3).map (fun i => (i.zero, i.size, i.bytes)) = some (some (.int .i64 0), 1, 8) := by kernel_rfl

set_option maxRecDepth 100000 in
set_option maxHeartbeats 2000000 in
theorem AppendSeq_in (pb po : Nat) (sv : Value) (zs : List Int) (hreach : zs.length * 8 ≤ 140737488351232) (w : World) (hpb : pb < w.heap.size) (hc : w.cell? ⟨pb, po, none⟩ = some sv) (hI : IntsAt w.heap.size w sv zs) :
    CallsIn Fence.wide 9 Try.prog 88 #[.slice none 0 0, .func (.func 84) #[] #[.pointer (some ⟨pb, po, none⟩)]] w fun e W' => ∃ v, e = .returned v ∧ W'.ownsRow w.heap.size 3 1 v zs.length (zs.map (Value.int .i64)) ∧ Below w.heap.size w W' := by
  obtain ⟨i0, hi, hz0, hz1, hz2⟩ := info_parts info3
  refine callsIn_of_wp_marks Try.func88 rfl trivial ?_ rfl
  simp only [Try.ntmps88, List.size_toArray, List.length_cons, List.length_nil, Nat.reduceAdd, Nat.reduceSub, Array.replicate_succ, Array.replicate_zero, List.push_toArray, List.append_toArray, List.nil_append, List.cons_append]
  gi_wp2
  obtain ⟨s, hs⟩ : ∃ s, w.heap.size = s := ⟨_, rfl⟩
  rw [hs] at hI hpb ⊢
  obtain ⟨W0, hW0⟩ : ∃ W0, w.alloc (Obj.cells #[Value.slice none 0 0] 25) = W0 := ⟨_, rfl⟩
  rw [hW0]
  have b0 := Boxed.new w 25 (.slice none 0 0)
  rw [hs, hW0] at b0
  have hsz : W0.heap.size = s + 1 := by rw [← hW0]; simp [hs]
  have hB0 : Below s w W0 := by
    rw [← hW0]
    exact (Below.refl _ w).alloc (by omega) _
  refine wpIn_rangeFunc_ownG rfl (by omega) (gf := 84) (lb := #[.pointer (some ⟨pb, po, none⟩)]) rfl trivial (enters_of Try.func84 (by kernel_rfl) rfl)
    (values_stops 8 (by omega) pb po s sv zs hreach W0 (by omega) (by omega) ((hB0.cell (p := ⟨pb, po, none⟩) hpb).trans hc) (hI.below hB0))
    (fun h k => Below.trans h k) (belowK_b (w := W0) (by omega)) (Below.refl _ _) (fun _ => rfl)
    (fun pre W => (∃ v, Boxed W s 25 v ∧ W.ownsRow s 3 1 v pre.length (pre.map (Value.int .i64)) ∧ True) ∧ (Below s w W ∧ s + 1 ≤ W.heap.size))
    (fun _ _ _ => False)
    (OwnFrom.and (Own.from (holdsRow_own s s 25 3 1 (fun pre : List Int => pre.length) (fun pre : List Int => pre.map (Value.int .i64)) (fun pre v => True)) _) (OwnFrom.and (ownFrom_below (by omega) (by omega)) (fun _ _ _ _ hs hg _ => Nat.le_trans hs hg.size)))
    (fun _ _ _ _ _ hs _ _ => hs)
    ⟨⟨_, b0, World.ownsRow_nil _ _ _ _, trivial⟩, hB0, by omega⟩
    (fun x => { tmps := #[.slice none 0 0, .func (.func 84) #[] #[.pointer (some ⟨pb, po, none⟩)], .pointer (some ⟨s, 0, none⟩), undef, .slice none 0 0, .int .i64 x, .func (.func 84) #[] #[.pointer (some ⟨pb, po, none⟩)], .int .i64 x, undef, undef, undef, undef, undef], defers := [] }) ?assign ?body ?done ?stop
  case assign =>
    intro l x W K hK
    gi_wp2
    exact hK
  case body =>
    rintro l pre x W ⟨⟨v, hv, hrow, -⟩, hB, hWs⟩ hlt
    have hc := hv.cell
    have hml : pre.length + 1 ≤ maxLen := by have : maxLen = 9223372036854775807 := rfl; omega
    have hby : (pre.length + 1) * 8 ≤ 140737488355328 := by omega
    have hws1 : s ≤ (W.alloc (Obj.cells #[Value.int IntKind.i64 x] 3)).heap.size := by simp; omega
    gi_wp2_with (gi_at_builtin; refine wpListIn_append_own _ rfl _ _ 25 rfl s 3 i0 (.int .i64 0) 1 8 Try.underlying25 hi hz0 hz1 hz2 rfl (by decide) _ _ _ rfl (hrow.alloc _) ⟨W.heap.size, 0, none⟩ 1 1 [.int .i64 x] rfl rfl (cell_one_new _ _ _) (by simp [Value.oneCell']) hml hby hws1 ?_; intro v' w1 hown' hgrow _; obtain ⟨g', cap', rfl⟩ := ownsRow_succ hown'; obtain ⟨hv1, hv2, hr2, hk2, hb2⟩ := hv.appended (by decide) hrow (by omega) (Nat.le_refl _) hown' hgrow; have hc1 := hv1.cell; have hf1 := hv1.frozen)
    exact ⟨hk2.from _, hb2, ⟨_, hv2, by simpa using hr2, trivial⟩, hB.trans hb2, Nat.le_trans hWs hb2.size⟩
  case done =>
    rintro D' ys W hD' rfl ⟨⟨v, hv, hrow, -⟩, hB, -⟩ hK
    have hc := hv.cell
    gi_wp2
    refine ⟨by simp, .inl ⟨_, _, rfl, run_takeDeferred hK, ?_⟩⟩
    exact ⟨_, results_tmp rfl _ _ _, v, rfl, (by rw [hs]; exact ownsRow_putObj hrow _ hK rfl), by rw [hs]; exact hB.trans (belowK_b (w := w) (Nat.le_refl _) W D' _ _ (by omega) hK rfl rfl |>.mono (by omega))⟩
  case stop =>
    rintro D' c pre W _ _ h _
    exact h.elim

def slices_AppendSeq_f (s1 : List Int) (seq1 : List Int) : Option (List Int) := chk (seq1.length * 8 ≤ 140737488351232) (some seq1)
theorem slices_AppendSeq_rc {s1 seq1 : List Int} {r : List Int} (H : slices_AppendSeq_f s1 seq1 = some r) : RC Try.prog 88 [.nil, .fn (.func 84) [] [.rop ((cl 1 (ci .i64)) seq1) 0 1]] [] 0 (.ref 0 0 r.length 1) [some ⟨3, 1, false, r.map (ci .i64)⟩] := by
  unfold slices_AppendSeq_f at H
  obtain ⟨hle, H⟩ := chk_some H
  injection H with H
  subst H
  refine rc_ints ⟨Try.f88, _, Try.func88, rfl, by decide⟩ fun w D vs hD hv => ?_
  match vs, hv with
  | [va, vb], hv =>
    obtain rfl := (hv.2 0 va _ rfl rfl).nil_inv
    obtain ⟨c1, c2, rfl, hc1, hc2⟩ := (hv.2 1 vb _ rfl rfl).fn_inv
    match c1, hc1 with
    | [], _ =>
      match c2, hc2 with
      | [vp], hc2 =>
        obtain ⟨b, o, cs, rfl, hl, hDb, hb, hr, hone, hcs⟩ := (hc2.2 0 vp _ rfl rfl).rop_inv
        match cs, hl with
        | [sv], _ =>
          have hsv := hcs.2 0 sv _ rfl (by rw [cl_eq]; rfl)
          have hcell : w.cell? ⟨b, o + 0, none⟩ = some sv := hr 0 sv rfl
          refine callsIn_wide.1 (AppendSeq_in b (o + 0) sv seq1 hle w hb hcell ?_)
          obtain ⟨A, cap, rfl, -, -, h3⟩ := hsv.list_inv
          refine ⟨A, cap, by simp, ?_⟩
          cases seq1 with
          | nil => exact .inl rfl
          | cons z0 zr =>
            obtain ⟨b2, o2, _, hA, hD2, hb2, -⟩ := h3 0 (ci .i64 z0) (by simp)
            refine .inr ⟨b2, o2, hA, hb2, fun j x hx => ?_⟩
            obtain ⟨b3, o3, cs3, hA3, _, _, hr3, hl3, _, hv3⟩ := h3 j (ci .i64 x) (by rw [List.getElem?_map, hx]; rfl)
            rw [hA] at hA3
            injection hA3 with hA3
            injection hA3 with e1 e2
            subst e1; subst e2
            match cs3, hl3 with
            | [u], _ =>
              have hu := hv3.2 0 u _ rfl (by rw [ci_eq]; rfl)
              rw [hu.int_inv] at hr3
              have := hr3 0 _ rfl
              simpa using this
      | [], hc2 => exact absurd hc2.1 (by simp)
      | _ :: _ :: _, hc2 => exact absurd hc2.1 (by simp)
    | _ :: _, hc1 => exact absurd hc1.1 (by simp)
  | [], hv => exact absurd hv.1 (by simp)
  | [_], hv => exact absurd hv.1 (by simp)
  | _ :: _ :: _ :: _, hv => exact absurd hv.1 (by simp)
end Go.Proofs.Ytogickapcbibbaa
