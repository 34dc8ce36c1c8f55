import Derived.Test.YtjflkcfafijhfaaGreatQ18
import Derived.Test.YtjflkcfafijhfaaGreatQ17
import Derived.Lib.AppendZerosOnto
import Derived.Shelf.RegionOpenPlain
import Derived.Lib.Walk
import Derived.Lib.SliceRun
import Derived.Test.YtjflkcfafijhfaaGreatQ22
set_option linter.unusedSectionVars false
/- slices.Grow of nothing: by hand; printed by mkgrow.py. -/
set_option linter.unusedSimpArgs false
set_option linter.unusedVariables false
namespace Go.Proofs.YtjflkcfafijhfaaGreat
open Go.Ab Go.RowKit Go.Lib Go.Proofs Go.Shelf
theorem info5' : (Tryz.prog.info? 5).map (fun i => (i.zero, i.size, i.bytes)) = some (some (.int .u8 0), 1, 1) := by kernel_rfl
set_option maxRecDepth 100000 in
set_option maxHeartbeats 2000000 in
theorem Grow137_run (n : Nat) (w : World) (h0 : 0 < n) (hbig : n * 1 ≤ 140737488355328) : Calls Tryz.prog 137 #[.slice none 0 0, .int .i64 n] w fun r w' =>
  r = .returned (.slice (some ⟨w.heap.size, 0, none⟩) 0 (grownCap w n 0 5)) ∧ ∃ arr, w' = w.drew.alloc (.cells arr 5) ∧ arr.size = grownCap w n 0 5 * 1 := by
 obtain ⟨i0, hi, hz0, hz1, hz2⟩ := info_parts info5'
 have h1 : ¬ ((n : Int) < 0) := by omega
 have h2 : RowKit.wrap64 ((0 : Int) - 0) = 0 := by unfold RowKit.wrap64; omega
 have h3 : RowKit.wrap64 ((n : Int) - 0) = n := by unfold RowKit.wrap64; omega
 have h4 : (n : Int) > 0 := by omega
 have hrz : ∀ ty, (Builtin.append_ #[22, 3] ty #[.slice none 0 0, .int .i64 (n : Int)]).run Tryz.prog w =
   .ok (.slice (some ⟨w.heap.size, 0, none⟩) n (grownCap w n 0 5)) (w.drew.alloc (.cells (#[] ++ Builtin.zeroCells (.int .u8 0 : Value).cells n ++ Builtin.zeroCells (.int .u8 0 : Value).cells (grownCap w n 0 5 - n)) 5)) := fun ty => by
  have h := Lib.run_append_grow_zeros w 22 3 ty 5 i0 (.int .u8 0) .i64 .i64 Tryz.underlying22 Tryz.underlying3 hi hz0 none 0 0 [] (by simpa using run_firstCells_none w.drew i0.size 0 0 0) n h0 (by omega) (by omega) (by omega)
   (by rw [hz2]; omega) (by rw [hz2]; exact growslice_fits (by omega) (by omega))
  simpa using h
 have hGn : n ≤ grownCap w n 0 5 := grownCap_ge w _ _ _
 have hsz : (#[] ++ Builtin.zeroCells (.int .u8 0 : Value).cells n ++ Builtin.zeroCells (.int .u8 0 : Value).cells (grownCap w n 0 5 - n)).size = grownCap w n 0 5 * 1 := by
  rw [Array.size_append, Array.size_append, size_zeroCells, size_zeroCells]
  have : (.int .u8 0 : Value).cells.size = 1 := rfl
  rw [this]
  simp
  omega
 obtain ⟨arr, harr⟩ : ∃ arr, arr = #[] ++ Builtin.zeroCells (.int .u8 0 : Value).cells n ++ Builtin.zeroCells (.int .u8 0 : Value).cells (grownCap w n 0 5 - n) := ⟨_, rfl⟩
 rw [← harr] at hrz hsz
 obtain ⟨G, hG⟩ : ∃ G, G = grownCap w n 0 5 := ⟨_, rfl⟩
 rw [← hG] at hrz hGn hsz ⊢
 clear harr hG
 go_enter Tryz.func137, Tryz.ntmps137
 go_wp2_with (at_builtin; refine Lib.wpList_append_run _ rfl _ _ _ _ rfl _ _ rfl rfl _ _ (hrz _) ?_)
 all_goals (go_ret; exact ⟨rfl, _, rfl, by first | exact hsz | simpa using hsz⟩)
set_option maxRecDepth 100000 in
set_option maxHeartbeats 2000000 in
theorem Grow137_run0 (w : World) : Calls Tryz.prog 137 #[.slice none 0 0, .int .i64 0] w fun r w' => r = .returned (.slice none 0 0) ∧ w' = w := by
 have h2 : RowKit.wrap64 ((0 : Int) - 0) = 0 := by unfold RowKit.wrap64; omega
 go_enter Tryz.func137, Tryz.ntmps137
 go_wp2
 go_ret
 exact ⟨rfl, rfl⟩
def slices_Grow_f (s1 : List Int) (n1 : Int) : Option (List Int) := chk (0 ≤ n1 ∧ n1 * 1 ≤ 140737488355328) (some [])
theorem slices_Grow_rc {s1 : List Int} {n1 : Int} {r : List Int} (H : slices_Grow_f s1 n1 = some r) : RC Tryz.prog 137 [.nil, .int .i64 n1] [] 0 (.ref 0 0 r.length 1) [some ⟨5, 1, false, r.map (ci .u8)⟩] := by
 unfold slices_Grow_f at H
 obtain ⟨⟨h0, hb⟩, H⟩ := chk_some H
 injection H with H
 subst H
 refine rc_new (es := []) ⟨_, _, Tryz.func137, rfl, by decide⟩ fun w D vs hD _ hv => ?_
 obtain ⟨n, rfl⟩ := Int.eq_ofNat_of_zero_le h0
 match vs, hv with
 | [va, vb], hv =>
  obtain rfl := (hv.2 0 va _ rfl rfl).nil_inv
  obtain rfl := (hv.2 1 vb _ rfl rfl).int_inv
  rcases Nat.eq_zero_or_pos n with rfl | hn
  ·refine (Grow137_run0 w).mono fun r w' hr => ?_
   obtain ⟨rfl, rfl⟩ := hr
   exact ⟨_, rfl, .inl ⟨rfl, rfl⟩, Below.refl _ _⟩
  ·refine (Grow137_run n w hn (by omega)).mono fun r w' hr => ?_
   obtain ⟨rfl, arr, rfl, hs⟩ := hr
   have hm : grownCap w n 0 5 ≤ maxLen := grownCap_le_maxLen w n 0 5 (by unfold maxLen; omega)
   have hz : w.drew.heap.size = w.heap.size := rfl
   refine ⟨_, rfl, .inr ⟨w.heap.size, _, arr, rfl, Nat.le_refl _, ?_, Nat.zero_le _, hm, hs, fun k el h => by cases h⟩, ?_⟩
   ·have := World.alloc_heap_new w.drew (.cells arr 5); rwa [hz] at this
   ·exact ((Below.refl _ w).drew).alloc (Nat.le_refl _) _
 | [], hv => exact absurd hv.1 (by simp)
 | [_], hv => exact absurd hv.1 (by simp)
 | _ :: _ :: _ :: _, hv => exact absurd hv.1 (by simp)
theorem info130' : (Tryz.prog.info? 130).map (fun i => (i.zero, i.size, i.bytes)) = some (some (.agg #[.int .i64 0, .slice none 0 0]), 2, 32) := by kernel_rfl
set_option maxRecDepth 100000 in
set_option maxHeartbeats 2000000 in
theorem Grow141_run (n : Nat) (w : World) (h0 : 0 < n) (hbig : n * 32 ≤ 140737488355328) : Calls Tryz.prog 141 #[.slice none 0 0, .int .i64 n] w fun r w' =>
  r = .returned (.slice (some ⟨w.heap.size, 0, none⟩) 0 (grownCap w n 0 130)) ∧ ∃ arr, w' = w.drew.alloc (.cells arr 130) ∧ arr.size = grownCap w n 0 130 * 2 := by
 obtain ⟨i0, hi, hz0, hz1, hz2⟩ := info_parts info130'
 have h1 : ¬ ((n : Int) < 0) := by omega
 have h2 : RowKit.wrap64 ((0 : Int) - 0) = 0 := by unfold RowKit.wrap64; omega
 have h3 : RowKit.wrap64 ((n : Int) - 0) = n := by unfold RowKit.wrap64; omega
 have h4 : (n : Int) > 0 := by omega
 have hrz : ∀ ty, (Builtin.append_ #[42, 3] ty #[.slice none 0 0, .int .i64 (n : Int)]).run Tryz.prog w =
   .ok (.slice (some ⟨w.heap.size, 0, none⟩) n (grownCap w n 0 130)) (w.drew.alloc (.cells (#[] ++ Builtin.zeroCells (.agg #[.int .i64 0, .slice none 0 0] : Value).cells n ++ Builtin.zeroCells (.agg #[.int .i64 0, .slice none 0 0] : Value).cells (grownCap w n 0 130 - n)) 130)) := fun ty => by
  have h := Lib.run_append_grow_zeros w 42 3 ty 130 i0 (.agg #[.int .i64 0, .slice none 0 0]) .i64 .i64 Tryz.underlying42 Tryz.underlying3 hi hz0 none 0 0 [] (by simpa using run_firstCells_none w.drew i0.size 0 0 0) n h0 (by omega) (by omega) (by omega)
   (by rw [hz2]; omega) (by rw [hz2]; exact growslice_fits (by omega) (by omega))
  simpa using h
 have hGn : n ≤ grownCap w n 0 130 := grownCap_ge w _ _ _
 have hsz : (#[] ++ Builtin.zeroCells (.agg #[.int .i64 0, .slice none 0 0] : Value).cells n ++ Builtin.zeroCells (.agg #[.int .i64 0, .slice none 0 0] : Value).cells (grownCap w n 0 130 - n)).size = grownCap w n 0 130 * 2 := by
  rw [Array.size_append, Array.size_append, size_zeroCells, size_zeroCells]
  have : (.agg #[.int .i64 0, .slice none 0 0] : Value).cells.size = 2 := rfl
  rw [this]
  simp
  omega
 obtain ⟨arr, harr⟩ : ∃ arr, arr = #[] ++ Builtin.zeroCells (.agg #[.int .i64 0, .slice none 0 0] : Value).cells n ++ Builtin.zeroCells (.agg #[.int .i64 0, .slice none 0 0] : Value).cells (grownCap w n 0 130 - n) := ⟨_, rfl⟩
 rw [← harr] at hrz hsz
 obtain ⟨G, hG⟩ : ∃ G, G = grownCap w n 0 130 := ⟨_, rfl⟩
 rw [← hG] at hrz hGn hsz ⊢
 clear harr hG
 go_enter Tryz.func141, Tryz.ntmps141
 go_wp2_with (at_builtin; refine Lib.wpList_append_run _ rfl _ _ _ _ rfl _ _ rfl rfl _ _ (hrz _) ?_)
 all_goals (go_ret; exact ⟨rfl, _, rfl, by first | exact hsz | simpa using hsz⟩)
set_option maxRecDepth 100000 in
set_option maxHeartbeats 2000000 in
theorem Grow141_run0 (w : World) : Calls Tryz.prog 141 #[.slice none 0 0, .int .i64 0] w fun r w' => r = .returned (.slice none 0 0) ∧ w' = w := by
 have h2 : RowKit.wrap64 ((0 : Int) - 0) = 0 := by unfold RowKit.wrap64; omega
 go_enter Tryz.func141, Tryz.ntmps141
 go_wp2
 go_ret
 exact ⟨rfl, rfl⟩
def slices_Grow_141_f (s1 : List Page) (n1 : Int) : Option (List Page) := chk (0 ≤ n1 ∧ n1 * 32 ≤ 140737488355328) (some [])
theorem slices_Grow_141_rc {s1 : List Page} {n1 : Int} {r : List Page} (H : slices_Grow_141_f s1 n1 = some r) : RC Tryz.prog 141 [.nil, .int .i64 n1] [] 0 (.ref 0 0 r.length 2) [some ⟨130, 2, false, r.map Page.c⟩] := by
 unfold slices_Grow_141_f at H
 obtain ⟨⟨h0, hb⟩, H⟩ := chk_some H
 injection H with H
 subst H
 refine rc_new (es := []) ⟨_, _, Tryz.func141, rfl, by decide⟩ fun w D vs hD _ hv => ?_
 obtain ⟨n, rfl⟩ := Int.eq_ofNat_of_zero_le h0
 match vs, hv with
 | [va, vb], hv =>
  obtain rfl := (hv.2 0 va _ rfl rfl).nil_inv
  obtain rfl := (hv.2 1 vb _ rfl rfl).int_inv
  rcases Nat.eq_zero_or_pos n with rfl | hn
  ·refine (Grow141_run0 w).mono fun r w' hr => ?_
   obtain ⟨rfl, rfl⟩ := hr
   exact ⟨_, rfl, .inl ⟨rfl, rfl⟩, Below.refl _ _⟩
  ·refine (Grow141_run n w hn (by omega)).mono fun r w' hr => ?_
   obtain ⟨rfl, arr, rfl, hs⟩ := hr
   have hm : grownCap w n 0 130 ≤ maxLen := grownCap_le_maxLen w n 0 130 (by unfold maxLen; omega)
   have hz : w.drew.heap.size = w.heap.size := rfl
   refine ⟨_, rfl, .inr ⟨w.heap.size, _, arr, rfl, Nat.le_refl _, ?_, Nat.zero_le _, hm, hs, fun k el h => by cases h⟩, ?_⟩
   ·have := World.alloc_heap_new w.drew (.cells arr 130); rwa [hz] at this
   ·exact ((Below.refl _ w).drew).alloc (Nat.le_refl _) _
 | [], hv => exact absurd hv.1 (by simp)
 | [_], hv => exact absurd hv.1 (by simp)
 | _ :: _ :: _ :: _, hv => exact absurd hv.1 (by simp)
end Go.Proofs.YtjflkcfafijhfaaGreat
/- Functions of the program as Lean functions, and that they are so; printed by a program of mine. -/
set_option linter.unusedSimpArgs false
set_option linter.unusedVariables false
set_option maxHeartbeats 4000000
set_option maxRecDepth 20000
namespace Go.Proofs.YtjflkcfafijhfaaGreat
open Go.Ab
open Nat (reduceAdd reduceMul reduceEqDiff reduceLT reduceLeDiff reduceSub)
noncomputable section
def slices_Concat_104_J2 (newslice1 : List Page) : Option (List Page) :=
 some (newslice1)
def slices_Concat_104_L1 (slices1 : List (List Page)) : Nat → (List Page) → Int → Option (List Page)
 | 0, _, _ => none
 | m_ + 1, newslice2, v1 => cond (decide (v1 < (slices1.length : Int))) ((idx slices1 v1).bind fun x1 => chk ((newslice2.length + x1.length) * 32 ≤ 140737488355328) (slices_Concat_104_L1 slices1 m_ (newslice2 ++ x1) (IntKind.wrap .i64 (v1 + 1)))) (slices_Concat_104_J2 newslice2)
def slices_Concat_104_J1 (slices1 : List (List Page)) (size1 : Int) : Option (List Page) :=
 (slices_Grow_141_f [] size1).bind fun r1 => slices_Concat_104_L1 slices1 BIG r1 0
def slices_Concat_104_J3 (k_slices_Concat_104_L2 : Int → Int → Option (List Page)) (v2 : Int) (size3 : Int) : Option (List Page) :=
 k_slices_Concat_104_L2 size3 (IntKind.wrap .i64 (v2 + 1))
def slices_Concat_104_L2 (slices1 : List (List Page)) : Nat → Int → Int → Option (List Page)
 | 0, _, _ => none
 | m_ + 1, size2, v2 => cond (decide (v2 < (slices1.length : Int))) ((idx slices1 v2).bind fun x2 => chk ((decide ((IntKind.wrap .i64 (size2 + (x2.length : Int))) < 0)) = false) (slices_Concat_104_J3 (slices_Concat_104_L2 slices1 m_) v2 (IntKind.wrap .i64 (size2 + (x2.length : Int))))) (slices_Concat_104_J1 slices1 size2)
def slices_Concat_104_f (slices1 : List (List Page)) : Option (List Page) :=
 slices_Concat_104_L2 slices1 BIG 0 0
theorem slices_Concat_104_rc {slices1 : List (List Page)} {r : (List Page)} (H : slices_Concat_104_f slices1 = some r) : RC Tryz.prog 104 [.list 1 (slices1.map (cl 2 Page.c))] [] 0 (.ref 0 0 r.length 2) [some ⟨130, 2, false, r.map Page.c⟩] := by
 refine rcA_of Tryz.func104 (by rfl) (by decide) 36 (by rfl) [.tmp 2] (by rfl) ?_
 unfold slices_Concat_104_f at H
 simp only [hent, List.length_cons, List.length_nil, reduceAdd]
 refine a_srC _ rfl ?_
 refine a_srC _ rfl ?_
 refine a_cut (fun s => ∃ (size1 : Int) (t0 : Nat → Dat), slices_Concat_104_J1 slices1 size1 = some r ∧ s = ⟨tl t0 [(0, .list 1 (slices1.map (cl 2 Page.c))), (3, .int .i64 size1)], hl [], 0, 36⟩) ?_ ?_
 ·refine a_srC _ rfl ?_
  refine a_blk ?_
  refine a_loop (fun m s => ∃ (size2 : Int) (v2 : Int) (t0 : Nat → Dat), slices_Concat_104_L2 slices1 m size2 v2 = some r ∧ s = ⟨tl t0 [(0, .list 1 (slices1.map (cl 2 Page.c))), (3, .int .i64 size2), (9, .list 1 (slices1.map (cl 2 Page.c))), (10, .int .i64 (slices1.length : Int)), (11, .int .i64 v2)], hl [], 0, 36⟩) BIG ?_ ?_
  ·exact wk_lA [] [] (fun t0 => ⟨0, 0, t0, H, rfl⟩)
  ·rintro m_slices_Concat_104_L2 s ⟨size2, v2, t0, H, rfl⟩
   obtain _ | m_slices_Concat_104_L2 := m_slices_Concat_104_L2
   ·cases (show (none : Option _) = some _ from H)
   ·rw [slices_Concat_104_L2] at H
    refine a_srC _ rfl ?_
    refine a_seq ?_
    refine a_cnd H (fun zc2 H => ?_) (fun zc2 H => ?_)
    ·refine a_skip ?_
     refine sA_n ?_
     refine a_cut (fun s => ∃ (size3 : Int) (t0 : Nat → Dat), slices_Concat_104_J3 (slices_Concat_104_L2 slices1 m_slices_Concat_104_L2) v2 size3 = some r ∧ s = ⟨tl t0 [(0, .list 1 (slices1.map (cl 2 Page.c))), (3, .int .i64 size3), (9, .list 1 (slices1.map (cl 2 Page.c))), (10, .int .i64 (slices1.length : Int)), (11, .int .i64 v2)], hl [], 0, 36⟩) ?_ ?_
     ·refine a_blk ?_
      refine a_seq ?_
      obtain ⟨x2, zh4, H⟩ := bind_some H
      obtain ⟨zg2, zh4a, zh4b⟩ := idx3 (f := (cl 2 Page.c)) zh4
      try simp only [Int.reduceToNat, Int.toNat_natCast] at zg2
      refine a_regC _ rfl ?_
      refine sA_n ?_
      refine a_srC _ rfl ?_
      refine a_srC _ rfl ?_
      obtain ⟨zh5, H⟩ := chk_some H
      refine a_condb ((decide ((IntKind.wrap .i64 (size2 + (x2.length : Int))) < 0))) (by rfl) (fun zc3x => absurd (zc3x.symm.trans zh5) (by decide)) (fun zc3 => ?_)
      ·try skip
       refine a_skip ?_
       refine bA_n ?_
       refine cA_n ?_
       exact wk_lA [] [] (fun t0 => ⟨(IntKind.wrap .i64 (size2 + (x2.length : Int))), t0, H, rfl⟩)
     ·rintro s ⟨size3, t0, H, rfl⟩
      unfold slices_Concat_104_J3 at H
      refine a_regC _ rfl ?_
      refine lA_n ?_
      exact wk_lA [] [] (fun t0 => ⟨_, Nat.lt_succ_self _, size3, (IntKind.wrap .i64 (v2 + 1)), t0, H, rfl⟩)
    ·refine a_exit ?_
     refine sA_e ?_
     refine lA_e ?_
     refine bA_hit ?_
     refine cA_n ?_
     exact wk_lA [] [] (fun t0 => ⟨size2, t0, H, rfl⟩)
 ·rintro s ⟨size1, t0, H, rfl⟩
  unfold slices_Concat_104_J1 at H
  refine a_seq ?_
  obtain ⟨r1, zh1, H⟩ := bind_some H
  have zk1 := slices_Grow_141_rc zh1
  refine a_reg _ rfl (s := ?zs3) ?_ ?_
  rotate_left
  ·try refine goS ?_
   repeat' with_reducible apply And.intro
   all_goals try ((with_reducible show CallR _ _ _ _ _ _ _); refine callR_rcw (r' := .ref 1 0 r1.length 2) [(1, some ⟨130, 2, false, r1.map Page.c⟩)] [] [] [(1, 0, _)] EQA zk1 (by simp) ND ZZ ZZ ND ND ZZ ZZ ?_; refine goS ?_)
   all_goals ((repeat' apply And.intro) <;> first|rfl|assumption|omega|(simp;done)|(simp;omega)|(simp_all;done))
  refine sA_n ?_
  refine a_cut (fun s => ∃ (newslice1 : List Page) (t0 : Nat → Dat), slices_Concat_104_J2 newslice1 = some r ∧ s = ⟨tl t0 [(6, .ref 0 0 newslice1.length 2)], hl [⟨130, 2, false, newslice1.map Page.c⟩], 1, 36⟩) ?_ ?_
  ·refine a_srC _ rfl ?_
   refine a_blk ?_
   refine a_loop (fun m s => ∃ (newslice2 : List Page) (v1 : Int) (t0 : Nat → Dat), slices_Concat_104_L1 slices1 m newslice2 v1 = some r ∧ s = ⟨tl t0 [(6, .ref 0 0 newslice2.length 2), (25, .list 1 (slices1.map (cl 2 Page.c))), (26, .int .i64 (slices1.length : Int)), (27, .int .i64 v1)], hl [⟨130, 2, false, newslice2.map Page.c⟩], 1, 36⟩) BIG ?_ ?_
   ·exact wk_lA [(some 1, _)] [] (fun t0 => ⟨r1, 0, t0, H, rfl⟩)
   ·rintro m_slices_Concat_104_L1 s ⟨newslice2, v1, t0, H, rfl⟩
    obtain _ | m_slices_Concat_104_L1 := m_slices_Concat_104_L1
    ·cases (show (none : Option _) = some _ from H)
    ·rw [slices_Concat_104_L1] at H
     refine a_srC _ rfl ?_
     refine a_seq ?_
     refine a_cnd H (fun zc1 H => ?_) (fun zc1 H => ?_)
     ·refine a_skip ?_
      refine sA_n ?_
      refine a_seq ?_
      refine a_blk ?_
      refine a_seq ?_
      obtain ⟨x1, zh2, H⟩ := bind_some H
      obtain ⟨zg1, zh2a, zh2b⟩ := idx3 (f := (cl 2 Page.c)) zh2
      try simp only [Int.reduceToNat, Int.toNat_natCast] at zg1
      refine a_regC _ rfl ?_
      refine sA_n ?_
      obtain ⟨zh3, H⟩ := chk_some H
      refine a_regC _ rfl ?_
      refine bA_n ?_
      refine sA_n ?_
      refine a_regC _ rfl ?_
      refine lA_n ?_
      exact wk_lA [(some 35, _)] [] (fun t0 => ⟨_, Nat.lt_succ_self _, (newslice2 ++ x1), (IntKind.wrap .i64 (v1 + 1)), t0, H, rfl⟩)
     ·refine a_exit ?_
      refine sA_e ?_
      refine lA_e ?_
      refine bA_hit ?_
      refine cA_n ?_
      exact wk_lA [(some 0, _)] [] (fun t0 => ⟨newslice2, t0, H, rfl⟩)
  ·rintro s ⟨newslice1, t0, H, rfl⟩
   unfold slices_Concat_104_J2 at H
   refine a_srC _ rfl ?_
   refine a_ret ?_
   obtain rfl := Option.some.inj H
   refine eR_r ?_
   exact wk_lnA 0 [(some 0, ⟨130, 2, false, newslice1.map Page.c⟩)] [] (L := [(2, .ref 0 0 newslice1.length 2)]) (fun t0 => ⟨RS2, RJ⟩) (fun i h => absurd h (Nat.not_lt_zero i))
theorem slices_Concat_104_pc {slices1 : List (List Page)} {r : (List Page)} (H : slices_Concat_104_f slices1 = some r) : PC Tryz.prog 104 [.list 1 (slices1.map (cl 2 Page.c))] (.list 2 (r.map Page.c)) := rc_pc (slices_Concat_104_rc H) (.ownL rfl (fun e => by cases e) rfl (List.length_map _).symm (.same _ _ Page.pu rfl))
end
end Go.Proofs.YtjflkcfafijhfaaGreat
