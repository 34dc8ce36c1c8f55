import Derived.RangeFuncNested
import Derived.RangeFuncBound
import Derived.RangeFuncBox
import Derived.RangeFuncCalls
import Derived.RangeFuncLeaves
import Derived.Shelf.Abstract
import Derived.Shelf.RegionOpen
import Derived.OwnWalkIn
import Derived.TacticsInMore
import Derived.LoopIn
import Derived.Maps.AppendAt
import Derived.Test.YtjflkcfafijhfaaGreatQ20
set_option linter.unusedSectionVars false
/- slices.AppendSeq(nil, seq) over an iterator whose order is not fixed: by hand. -/
set_option linter.unusedSimpArgs false
set_option linter.unusedVariables false
namespace Go.Proofs.YtjflkcfafijhfaaGreat
open Go.Ab Go.RowKit Go.Shelf Go.Proofs
attribute [local go_sem] Oper.semAt_some
theorem info3' : (Tryz.prog.info? 3).map (fun i => (i.zero, i.size, i.bytes)) = some (some (.int .i64 0), 1, 8) := by kernel_rfl
set_option maxRecDepth 100000 in
set_option maxHeartbeats 2000000 in
theorem AppendSeqK_in (gf : Nat) (pb : Addr) (eg : ∀ args w, (callFunc gf args).run Tryz.prog w = .ok (.enter gf args) w) (S : List Int → Prop) (N : Nat) (hN : N * 8 ≤ 140737488351232) (w : World)
  (hseq : ∀ W, Below w.heap.size w W → SeqStopsK Fence.wide 8 Tryz.prog gf #[.pointer (some pb)] (fun x : Int => #[Value.int .i64 x]) KeepsWalks S (fun _ => True) N W) :
  CallsIn Fence.wide 9 Tryz.prog 143 #[.slice none 0 0, .func (.func gf) #[] #[.pointer (some pb)]] w fun e W' => ∃ v zs, e = .returned v ∧ S zs ∧ W'.ownsRow w.heap.size 3 1 v zs.length (zs.map (Value.int .i64)) ∧ Below w.heap.size w W' := by
 obtain ⟨i0, hi, hz0, hz1, hz2⟩ := info_parts info3'
 refine callsIn_of_wp_marks Tryz.func143 rfl trivial ?_ rfl
 simp only [Tryz.ntmps143, List.size_toArray, List.length_cons, List.length_nil, Nat.reduceAdd, Nat.reduceSub, Array.replicate_succ, Array.replicate_zero, List.push_toArray, List.append_toArray, List.nil_append, List.cons_append]
 gi_wp2
 obtain ⟨s, hs⟩ : ∃ s, w.heap.size = s := ⟨_, rfl⟩
 rw [hs]
 obtain ⟨W0, hW0⟩ : ∃ W0, w.alloc (Obj.cells #[Value.slice none 0 0] 28) = W0 := ⟨_, rfl⟩
 rw [hW0]
 have b0 := Boxed.new w 28 (.slice none 0 0)
 rw [hs, hW0] at b0
 have hsz : W0.heap.size = s + 1 := by rw [← hW0]; simp [hs]
 have hB0 : Below s w W0 := by
  rw [← hW0]
  exact (Below.refl _ w).alloc (by omega) _
 have hsq := hseq W0 (by rw [hs]; exact hB0)
 refine wpIn_rangeFunc_ownG rfl (by omega) (gf := gf) (lb := #[.pointer (some pb)]) rfl trivial eg
  hsq
  (fun h k => KeepsWalks.trans h k) (fun W l o o' hl h1 h2 h3 => KeepsWalks.putObj o' h1 h3) (Below.refl _ _) (fun _ => rfl)
  (fun pre W => (∃ v, Boxed W s 28 v ∧ W.ownsRow s 3 1 v pre.length (pre.map (Value.int .i64)) ∧ True) ∧ (Below s w W ∧ s + 1 ≤ W.heap.size))
  (fun _ _ _ => False)
  (OwnFrom.and (Own.from (holdsRow_own s s 28 3 1 (fun pre : List Int => pre.length) (fun pre : List Int => pre.map (Value.int .i64)) (fun pre v => True)) _) (OwnFrom.and (ownFrom_below (by omega) (by omega)) (fun _ _ _ _ hs hg _ => Nat.le_trans hs hg.size)))
  (fun _ _ _ _ _ hs _ _ => hs)
  ⟨⟨_, b0, World.ownsRow_nil _ _ _ _, trivial⟩, hB0, by omega⟩
  (fun x => { tmps := #[.slice none 0 0, .func (.func gf) #[] #[.pointer (some pb)], .pointer (some ⟨s, 0, none⟩), undef, .slice none 0 0, .int .i64 x, .func (.func gf) #[] #[.pointer (some pb)], .int .i64 x, undef, undef, undef, undef, undef], defers := [] }) ?assign ?body ?done ?stop
 case assign =>
  intro l x W K hK
  gi_wp2
  exact hK
 case body =>
  rintro l pre x W ⟨⟨v, hv, hrow, -⟩, hB, hWs⟩ hlt
  have hc := hv.cell
  have hml : pre.length + 1 ≤ maxLen := by have : maxLen = 9223372036854775807 := rfl; omega
  have hby : (pre.length + 1) * 8 ≤ 140737488355328 := by omega
  have hws1 : s ≤ (W.alloc (Obj.cells #[Value.int IntKind.i64 x] 3)).heap.size := by simp; omega
  gi_wp2_with (gi_at_builtin; refine wpListIn_append_own _ rfl _ _ 28 rfl s 3 i0 (.int .i64 0) 1 8 Tryz.underlying28 hi hz0 hz1 hz2 rfl (by decide) _ _ _ rfl (hrow.alloc _) ⟨W.heap.size, 0, none⟩ 1 1 [.int .i64 x] rfl rfl (cell_one_new _ _ _) (by simp [Value.oneCell']) hml hby hws1 ?_; intro v' w1 hown' hgrow _; obtain ⟨g', cap', rfl⟩ := ownsRow_succ hown'; obtain ⟨hv1, hv2, hr2, hk2, hb2⟩ := hv.appended (by decide) hrow (by omega) (Nat.le_refl _) hown' hgrow; have hc1 := hv1.cell; have hf1 := hv1.frozen)
  exact ⟨hk2.from _, ⟨hk2.size, fun k o h hw => hk2.same k o h (Obj.not_cells_of_walk hw)⟩, ⟨_, hv2, by simpa using hr2, trivial⟩, hB.trans hb2, Nat.le_trans hWs hb2.size⟩
 case done =>
  rintro D' ys W hD' hSy ⟨⟨v, hv, hrow, -⟩, hB, -⟩ hK
  have hc := hv.cell
  gi_wp2
  refine ⟨by simp, .inl ⟨_, _, rfl, run_takeDeferred hK, ?_⟩⟩
  exact ⟨_, results_tmp rfl _ _ _, v, ys, rfl, hSy, (by rw [hs]; exact ownsRow_putObj hrow _ hK rfl), by rw [hs]; exact hB.trans (belowK_b (w := w) (Nat.le_refl _) W D' _ _ (by omega) hK rfl rfl |>.mono (by omega))⟩
 case stop =>
  rintro D' c pre W _ _ h _
  exact h.elim
set_option maxRecDepth 100000 in
set_option maxHeartbeats 2000000 in
theorem CollectK_in (gf : Nat) (pb : Addr) (eg : ∀ args w, (callFunc gf args).run Tryz.prog w = .ok (.enter gf args) w) (S : List Int → Prop) (N : Nat) (hN : N * 8 ≤ 140737488351232) (w : World)
  (hseq : ∀ W, Below w.heap.size w W → SeqStopsK Fence.wide 8 Tryz.prog gf #[.pointer (some pb)] (fun x : Int => #[Value.int .i64 x]) KeepsWalks S (fun _ => True) N W) :
  Calls Tryz.prog 110 #[.func (.func gf) #[] #[.pointer (some pb)]] w fun e W' => ∃ v zs, e = .returned v ∧ S zs ∧ W'.ownsRow w.heap.size 3 1 v zs.length (zs.map (Value.int .i64)) ∧ Below w.heap.size w W' := by
 have hc := callsIn_wide.1 (AppendSeqK_in gf pb eg S N hN w hseq)
 go_enter Tryz.func110, Tryz.ntmps110
 go_wp2_with (go_at_call 143; refine hc.mono ?_; rintro e w1 ⟨v, zs, rfl, hS, hrow, hb⟩)
 go_ret
 exact ⟨v, zs, rfl, hS, hrow, hb⟩
end Go.Proofs.YtjflkcfafijhfaaGreat
