import Derived.Test.YtjflkcfafijhfaaGreatQ36
set_option linter.unusedSectionVars false
/- Functions of the program as Lean functions, and that they are so; printed by a program of mine. -/
set_option linter.unusedSimpArgs false
set_option linter.unusedVariables false
set_option maxHeartbeats 4000000
set_option maxRecDepth 20000
namespace Go.Proofs.YtjflkcfafijhfaaGreat
open Go.Ab
open Nat (reduceAdd reduceMul reduceEqDiff reduceLT reduceLeDiff reduceSub)
noncomputable section
def top_syncedR14_f (d1 : Disk) : Option Disk :=
 (disk_Sync_f d1).bind fun r1 => cond (r1.2 != 0) (some (d1)) (some (r1.1))
theorem top_syncedR14_pc {d1 : Disk} {r : Disk} (H : top_syncedR14_f d1 = some r) : PC Tryz.prog 53 [.agg (Disk.c d1)] (.agg (Disk.c r)) := by
 refine pcA_of Tryz.func53 (by rfl) (by decide) 14 (by rfl) [.cell 2 44] (by rfl) ?_
 unfold top_syncedR14_f at H
 simp only [ent]
 refine a_srC _ rfl ?_
 refine a_seq ?_
 obtain ⟨r1, zh1, H⟩ := bind_some H
 have zk1 := disk_Sync_pc zh1
 refine a_regK _ rfl ?_
 refine sA_n ?_
 refine a_seq ?_
 refine a_srC _ rfl ?_
 refine a_cnd H (fun zc1 H => ?_) (fun zc1 H => ?_)
 ·refine a_srC _ rfl ?_
  exact a_ret (sA_r RT)
 ·refine a_skip ?_
  refine sA_n ?_
  refine a_srC _ rfl ?_
  refine a_ret ?_
  obtain rfl := Option.some.inj H
  refine e_r2 (d := ?zd2) ?_ ?_
  rotate_left
  ·simp only [EVT, resR, single, evLoad, cut, TIS, CS, reduceAdd, reduceEqDiff, ↓reduceIte, reduceCtorEq, reduceLT, reduceLeDiff, reduceSub, Nat.reduceBEq, zc1]
   (repeat' apply And.intro) <;> first | rfl | assumption | omega | (simp; done)
  exact ZZ
def disk_Up_f (d1 : Disk) : Option Disk :=
 some ((⟨d1.synced, d1.loose, false⟩ : Disk))
theorem disk_Up_pc {d1 : Disk} {r : Disk} (H : disk_Up_f d1 = some r) : PC Tryz.prog 54 [.agg (Disk.c d1)] (.agg (Disk.c r)) := by
 refine pcA_of Tryz.func54 (by rfl) (by decide) 5 (by rfl) [.cell 2 44] (by rfl) ?_
 unfold disk_Up_f at H
 simp only [ent]
 refine a_srC _ rfl ?_
 refine a_srC _ rfl ?_
 refine a_seq ?_
 refine a_reg _ rfl (s := ?zs3) ?_ ?_
 rotate_left
 ·refine goS ?_
  (repeat' apply And.intro) <;> first|rfl|assumption|omega|(simp;done)|(simp;omega)|(simp_all;done)
 refine sA_n ?_
 refine a_ret ?_
 obtain rfl := Option.some.inj H
 refine e_r2 (d := ?zd1) ?_ ?_
 rotate_left
 ·simp only [EVT, resR, single, evLoad, cut, TIS, CS, reduceAdd, reduceEqDiff, ↓reduceIte, reduceCtorEq, reduceLT, reduceLeDiff, reduceSub, Nat.reduceBEq]
  (repeat' apply And.intro) <;> first | rfl | assumption | omega | (simp; done)
 exact (.agg' (.cons (.lst _ _ _ Page.pu rfl) (.cons (.lst _ _ _ Page.pu rfl) (.cons (.bool' (by first | rfl | assumption | (simp_all; done))) .nil))))
def disk_Crash_f (d1 : Disk) (keep1 : Int) : Option Disk :=
 chk (0 ≤ 0 ∧ 0 ≤ (if (d1.loose.length : Int) < (if 0 > keep1 then 0 else keep1) then (d1.loose.length : Int) else (if 0 > keep1 then 0 else keep1)) ∧ (if (d1.loose.length : Int) < (if 0 > keep1 then 0 else keep1) then (d1.loose.length : Int) else (if 0 > keep1 then 0 else keep1)) ≤ (d1.loose.length : Int)) ((disk_laid_f d1.synced ((d1.loose.take (if (d1.loose.length : Int) < (if 0 > keep1 then 0 else keep1) then (d1.loose.length : Int) else (if 0 > keep1 then 0 else keep1)).toNat).drop 0)).bind fun r1 => some ((⟨r1, [], true⟩ : Disk)))
theorem disk_Crash_pc {d1 : Disk} {keep1 : Int} {r : Disk} (H : disk_Crash_f d1 keep1 = some r) : PC Tryz.prog 55 [.agg (Disk.c d1), .int .i64 keep1] (.agg (Disk.c r)) := by
 refine pcA_of Tryz.func55 (by rfl) (by decide) 19 (by rfl) [.cell 4 44] (by rfl) ?_
 unfold disk_Crash_f at H
 simp only [ent]
 refine a_srC _ rfl ?_
 refine a_srC _ rfl ?_
 refine a_seq ?_
 obtain ⟨zh1, H⟩ := chk_some H
 obtain ⟨r1, zh2, H⟩ := bind_some H
 have zk1 := disk_laid_pc zh2
 refine a_drW (by kernel_rfl) _ rfl (s := ?zs3) (by kernel_rfl) (by kernel_rfl) ?zs3f ?_ ?_ ?_
 rotate_left 2
 ·try simp only [EVT, stepW, evOp, St.ev, St.app, St.put, wrs, evFieldAddr, evLoad, cut, evSlice, sliceOk, sl_if0, sl_if1, sl_if2, sl_if3, tk_map, dp_map, frz, datOf, datOf1, fillD, setR, evStore, allOne, TIS, CS, reduceAdd, reduceMul, reduceEqDiff, ↓reduceIte, reduceCtorEq, reduceLT, reduceLeDiff, Int.reduceToNat, reduceSub, Nat.reduceGT, Nat.reduceBEq]
  repeat' with_reducible apply And.intro
  all_goals try ((with_reducible show CallW _ _ _ _ _ _ _); refine cW_p [] zk1 (fun h2 e => (.cons (.lst _ _ _ Page.pu rfl) (.cons (.lst _ _ _ Page.pu rfl) .nil))) ?_; simp only [EVT, stepW, evOp, St.ev, St.app, St.put, wrs, evFieldAddr, evLoad, cut, evSlice, sliceOk, sl_if0, sl_if1, sl_if2, sl_if3, tk_map, dp_map, frz, datOf, datOf1, fillD, setR, evStore, allOne, TIS, CS, reduceAdd, reduceMul, reduceEqDiff, ↓reduceIte, reduceCtorEq, reduceLT, reduceLeDiff, Int.reduceToNat, reduceSub, Nat.reduceGT, Nat.reduceBEq])
  all_goals ((repeat' apply And.intro) <;> first | rfl | assumption | omega | (left; omega) | (simp; done) | (simp; omega) | (right; exact ⟨_, rfl, rfl, rfl, by decide, by first | omega | (simp; omega)⟩) | (simp_all; done))
 ·kernel_rfl
 refine sA_n ?_
 refine a_ret ?_
 obtain rfl := Option.some.inj H
 refine e_r2 (d := ?zd1) ?_ ?_
 rotate_left
 ·simp only [EVT, resR, single, evLoad, cut, TIS, CS, reduceAdd, reduceEqDiff, ↓reduceIte, reduceCtorEq, reduceLT, reduceLeDiff, reduceSub, Nat.reduceBEq]
  (repeat' apply And.intro) <;> first | rfl | assumption | omega | (simp; done)
 exact (.agg' (.cons (.lst _ _ _ Page.pu rfl) (.cons (.nil _) (.cons (.bool' (by first | rfl | assumption | (simp_all; done))) .nil))))
def top_hurtR14_J1 (out1 : List Disk) : Option (List Disk) :=
 some (out1)
def top_hurtR14_J2 (disks1 : List Disk) (r1 : (List Int) × Int) (h1 : HurtR14) (s1 : Int) (id1 : Int) (v1 : Bool) : Option (List Disk) :=
 cond v1 ((idx disks1 s1).bind fun x2 => chk ((IntKind.wrap .i64 (8 * (r1.1.length : Int))) ≠ 0) ((disk_Rot_f x2 id1 (Int.tmod (IntKind.wrap .i64 h1.bit) (IntKind.wrap .i64 (8 * (r1.1.length : Int))))).bind fun r3 => top_hurtR14_J1 (disks1.set s1.toNat r3))) (top_hurtR14_J1 disks1)
def top_hurtR14_f (disks1 : List Disk) (h1 : HurtR14) (chunks1 : Int) : Option (List Disk) :=
 chk ((disks1.length) * 56 ≤ 140737488355328) (chk ((((disks1.length : Nat)) : Int) ≠ 0) (chk (chunks1 ≠ 0) (cond ((Int.tmod h1.do_ 4) == 0) ((idx disks1 (Int.tmod (IntKind.wrap .i64 h1.server) (((disks1.length : Nat)) : Int))).bind fun x1 => (disk_Read_f x1 (Int.tmod (IntKind.wrap .i64 h1.id) chunks1)).bind fun r1 => (chunk_Get_f x1 (Int.tmod (IntKind.wrap .i64 h1.id) chunks1)).bind fun r2 => top_hurtR14_J2 disks1 r1 h1 (Int.tmod (IntKind.wrap .i64 h1.server) (((disks1.length : Nat)) : Int)) (Int.tmod (IntKind.wrap .i64 h1.id) chunks1) ((r1.2 == 0) && ((r2.2 == 0) && (decide (0 < (r1.1.length : Int)))))) (cond ((Int.tmod h1.do_ 4) == 1) ((idx disks1 (Int.tmod (IntKind.wrap .i64 h1.server) (((disks1.length : Nat)) : Int))).bind fun x3 => (chunk_Lose_f x3 (Int.tmod (IntKind.wrap .i64 h1.id) chunks1)).bind fun r4 => cond (r4.2 == 0) ((top_syncedR14_f r4.1).bind fun r5 => top_hurtR14_J1 (disks1.set ((Int.tmod (IntKind.wrap .i64 h1.server) (((disks1.length : Nat)) : Int)).toNat) r5)) (top_hurtR14_J1 disks1)) (cond ((Int.tmod h1.do_ 4) == 2) ((idx disks1 (Int.tmod (IntKind.wrap .i64 h1.server) (((disks1.length : Nat)) : Int))).bind fun x4 => (disk_Crash_f x4 0).bind fun r6 => (disk_Up_f r6).bind fun r7 => top_hurtR14_J1 (disks1.set ((Int.tmod (IntKind.wrap .i64 h1.server) (((disks1.length : Nat)) : Int)).toNat) r7)) (cond ((Int.tmod h1.do_ 4) == 3) ((idx disks1 (Int.tmod (IntKind.wrap .i64 h1.server) (((disks1.length : Nat)) : Int))).bind fun x5 => (chunk_New_f (Int.tmod (IntKind.wrap .i64 h1.id) chunks1) 0 [9]).bind fun r8 => (chunk_Put_f x5 r8).bind fun r9 => cond (r9.2 == 0) ((top_syncedR14_f r9.1).bind fun r10 => top_hurtR14_J1 (disks1.set ((Int.tmod (IntKind.wrap .i64 h1.server) (((disks1.length : Nat)) : Int)).toNat) r10)) (top_hurtR14_J1 disks1)) (top_hurtR14_J1 disks1)))))))
theorem top_hurtR14_pc {disks1 : List Disk} {h1 : HurtR14} {chunks1 : Int} {r : (List Disk)} (H : top_hurtR14_f disks1 h1 chunks1 = some r) : PC Tryz.prog 18 [.list 3 (disks1.map Disk.c), .agg (HurtR14.c h1), .int .i64 chunks1] (.list 3 (r.map Disk.c)) := by
 refine pcA_of Tryz.func18 (by rfl) (by decide) 132 (by rfl) [.tmp 6] (by rfl) ?_
 unfold top_hurtR14_f at H
 simp only [ent]
 refine a_srC _ rfl ?_
 refine a_seq ?_
 obtain ⟨zh1, H⟩ := chk_some H
 refine a_regC _ rfl ?_
 refine sA_n ?_
 refine a_seq ?_
 obtain ⟨zh2, H⟩ := chk_some H
 refine a_regC _ rfl ?_
 refine sA_n ?_
 refine a_seq ?_
 obtain ⟨zh3, H⟩ := chk_some H
 refine a_regC _ rfl ?_
 refine sA_n ?_
 refine a_cut (fun s => ∃ (out1 : List Disk) (t0 : Nat → Dat), top_hurtR14_J1 out1 = some r ∧ s = ⟨tl t0 [(7, .ref 0 0 out1.length 3)], hl [⟨44, 3, false, out1.map Disk.c⟩], 1, 132⟩) ?_ ?_
 ·refine a_srC _ rfl ?_
  refine a_blk ?_
  refine a_srC _ rfl ?_
  refine a_cnd H (fun zc1 H => ?_) (fun zc1 H => ?_)
  ·refine a_seq ?_
   obtain ⟨x1, zh4, H⟩ := bind_some H
   obtain ⟨zg1, zh4a, zh4b⟩ := idx3 (f := Disk.c) zh4
   try simp only [Int.reduceToNat, Int.toNat_natCast] at zg1
   obtain ⟨r1, zh5, H⟩ := bind_some H
   have zk1 := disk_Read_pc zh5
   refine a_regK _ rfl ?_
   refine sA_n ?_
   refine a_seq ?_
   obtain ⟨r2, zh6, H⟩ := bind_some H
   have zk2 := chunk_Get_pc zh6
   refine a_regK _ rfl ?_
   refine sA_n ?_
   refine a_cut (fun s => ∃ (s1 : Int) (id1 : Int) (v1 : Bool) (t0 : Nat → Dat), top_hurtR14_J2 disks1 r1 h1 s1 id1 v1 = some r ∧ s = ⟨tl t0 [(4, .ptr 0 0 0 4), (7, .ref 1 0 disks1.length 3), (8, .int .i64 s1), (9, .int .i64 id1), (10, .list 1 (r1.1.map (ci .u8))), (65, .bool v1)], hl [⟨60, 4, false, [HurtR14.c h1]⟩, ⟨44, 3, false, disks1.map Disk.c⟩], 2, 132⟩) ?_ ?_
   ·refine bool_split (b := (r1.2 == 0)) (fun zc3 => ?_) (fun zc3 => ?_)
    ·rw [zc3] at H
     refine bool_split (b := (r2.2 == 0)) (fun zc4 => ?_) (fun zc4 => ?_)
     ·rw [zc4] at H
      refine a_regC _ rfl ?_
      refine cA_n ?_
      exact wk_lA [(some 0, _), (some 18, _)] [] (fun t0 => ⟨(Int.tmod (IntKind.wrap .i64 h1.server) (((disks1.length : Nat)) : Int)), (Int.tmod (IntKind.wrap .i64 h1.id) chunks1), (decide (0 < (r1.1.length : Int))), t0, H, rfl⟩)
     ·rw [zc4] at H
      refine a_regC _ rfl ?_
      refine cA_n ?_
      exact wk_lA [(some 0, _), (some 18, _)] [] (fun t0 => ⟨(Int.tmod (IntKind.wrap .i64 h1.server) (((disks1.length : Nat)) : Int)), (Int.tmod (IntKind.wrap .i64 h1.id) chunks1), false, t0, H, rfl⟩)
    ·rw [zc3] at H
     refine a_regC _ rfl ?_
     refine cA_n ?_
     exact wk_lA [(some 0, _), (some 18, _)] [] (fun t0 => ⟨(Int.tmod (IntKind.wrap .i64 h1.server) (((disks1.length : Nat)) : Int)), (Int.tmod (IntKind.wrap .i64 h1.id) chunks1), false, t0, H, rfl⟩)
   ·rintro s ⟨s1, id1, v1, t0, H, rfl⟩
    unfold top_hurtR14_J2 at H
    refine a_cnd H (fun zc2 H => ?_) (fun zc2 H => ?_)
    ·obtain ⟨x2, zh7, H⟩ := bind_some H
     obtain ⟨zg2, zh7a, zh7b⟩ := idx3 (f := Disk.c) zh7
     try simp only [Int.reduceToNat, Int.toNat_natCast] at zg2
     obtain ⟨zh8, H⟩ := chk_some H
     obtain ⟨r3, zh9, H⟩ := bind_some H
     have zk3 := disk_Rot_pc zh9
     refine a_drW (by kernel_rfl) _ rfl (s := ?zs10) (by kernel_rfl) (by kernel_rfl) ?zs10f ?_ ?_ ?_
     rotate_left 2
     ·try refine goS ?_
      repeat' with_reducible apply And.intro
      all_goals try ((with_reducible show CallW _ _ _ _ _ _ _); refine cW_p [] zk3 (fun h2 e => ZZ) ?_; refine goS ?_)
      all_goals exact CLS
     ·kernel_rfl
     refine bA_n ?_
     refine cA_n ?_
     exact wk_lA [(some 1, _)] [] (fun t0 => ⟨(disks1.set s1.toNat r3), t0, H, rfl⟩)
    ·refine a_skip ?_
     refine bA_n ?_
     refine cA_n ?_
     exact wk_lA [(some 1, _)] [] (fun t0 => ⟨disks1, t0, H, rfl⟩)
  ·refine a_srC _ rfl ?_
   refine a_cnd H (fun zc5 H => ?_) (fun zc5 H => ?_)
   ·refine a_seq ?_
    obtain ⟨x3, zh10, H⟩ := bind_some H
    obtain ⟨zg3, zh10a, zh10b⟩ := idx3 (f := Disk.c) zh10
    try simp only [Int.reduceToNat, Int.toNat_natCast] at zg3
    obtain ⟨r4, zh11, H⟩ := bind_some H
    have zk4 := chunk_Lose_pc zh11
    refine a_regK _ rfl ?_
    refine sA_n ?_
    refine a_srC _ rfl ?_
    refine a_cnd H (fun zc6 H => ?_) (fun zc6 H => ?_)
    ·obtain ⟨r5, zh12, H⟩ := bind_some H
     have zk5 := top_syncedR14_pc zh12
     refine a_regK _ rfl ?_
     refine bA_n ?_
     refine cA_n ?_
     exact wk_lA [(some 18, _)] [] (fun t0 => ⟨(disks1.set ((Int.tmod (IntKind.wrap .i64 h1.server) (((disks1.length : Nat)) : Int)).toNat) r5), t0, H, rfl⟩)
    ·refine a_skip ?_
     refine bA_n ?_
     refine cA_n ?_
     exact wk_lA [(some 18, _)] [] (fun t0 => ⟨disks1, t0, H, rfl⟩)
   ·refine a_srC _ rfl ?_
    refine a_cnd H (fun zc7 H => ?_) (fun zc7 H => ?_)
    ·obtain ⟨x4, zh13, H⟩ := bind_some H
     obtain ⟨zg4, zh13a, zh13b⟩ := idx3 (f := Disk.c) zh13
     try simp only [Int.reduceToNat, Int.toNat_natCast] at zg4
     obtain ⟨r6, zh14, H⟩ := bind_some H
     have zk6 := disk_Crash_pc zh14
     obtain ⟨r7, zh15, H⟩ := bind_some H
     have zk7 := disk_Up_pc zh15
     refine a_regK _ rfl ?_
     refine bA_n ?_
     refine cA_n ?_
     exact wk_lA [(some 18, _)] [] (fun t0 => ⟨(disks1.set ((Int.tmod (IntKind.wrap .i64 h1.server) (((disks1.length : Nat)) : Int)).toNat) r7), t0, H, rfl⟩)
    ·refine a_srC _ rfl ?_
     refine a_cnd H (fun zc8 H => ?_) (fun zc8 H => ?_)
     ·refine a_seq ?_
      obtain ⟨x5, zh16, H⟩ := bind_some H
      obtain ⟨zg5, zh16a, zh16b⟩ := idx3 (f := Disk.c) zh16
      try simp only [Int.reduceToNat, Int.toNat_natCast] at zg5
      obtain ⟨r8, zh17, H⟩ := bind_some H
      have zk8 := chunk_New_pc zh17
      obtain ⟨r9, zh18, H⟩ := bind_some H
      have zk9 := chunk_Put_pc zh18
      refine a_drW (by kernel_rfl) _ rfl (s := ?zs21) (by kernel_rfl) (by kernel_rfl) ?zs21f ?_ ?_ ?_
      rotate_left 2
      ·try refine goS ?_
       repeat' with_reducible apply And.intro
       all_goals try ((with_reducible show CallW _ _ _ _ _ _ _); refine cW_f [245] [245] (by decide) zk8 (fun h2 e => (.cons (.int' rfl) (.cons (.int' rfl) (.cons (.ownL ((wrs_frz h2 _ h2 245).trans (by rw [e 245 (by simp)]; rfl)) (fun _ => rfl) rfl (by first|rfl|omega|(simp;done)|(simp;omega)|(simp_all;done)) (.sm _ _ (ci_pu .u8))) .nil)))) ?_; refine goS ?_)
       repeat' with_reducible apply And.intro
       all_goals try ((with_reducible show CallW _ _ _ _ _ _ _); refine cW_p [] zk9 (fun h2 e => ZZ) ?_; refine goS ?_)
       all_goals exact CLS
      ·kernel_rfl
      refine sA_n ?_
      refine a_srC _ rfl ?_
      refine a_cnd H (fun zc9 H => ?_) (fun zc9 H => ?_)
      ·obtain ⟨r10, zh19, H⟩ := bind_some H
       have zk10 := top_syncedR14_pc zh19
       refine a_regK _ rfl ?_
       refine bA_n ?_
       refine cA_n ?_
       exact wk_lA [(some 18, _)] [] (fun t0 => ⟨(disks1.set ((Int.tmod (IntKind.wrap .i64 h1.server) (((disks1.length : Nat)) : Int)).toNat) r10), t0, H, rfl⟩)
      ·refine a_skip ?_
       refine bA_n ?_
       refine cA_n ?_
       exact wk_lA [(some 18, _)] [] (fun t0 => ⟨disks1, t0, H, rfl⟩)
     ·refine a_skip ?_
      refine bA_n ?_
      refine cA_n ?_
      exact wk_lA [(some 18, _)] [] (fun t0 => ⟨disks1, t0, H, rfl⟩)
 ·rintro s ⟨out1, t0, H, rfl⟩
  unfold top_hurtR14_J1 at H
  refine a_srC _ rfl ?_
  exact a_ret RT
def slices_Values_f (s1 : List Int) : Option Unit :=
 some ()
theorem slices_Values_pc {s1 : List Int} {r : Unit} (H : slices_Values_f s1 = some r) : PC Tryz.prog 59 [.list 1 (s1.map (ci .i64))] (.fn (.func 112) [] [.rop ((cl 1 (ci .i64)) s1) 0 1]) := by
 refine pcA_of Tryz.func59 (by rfl) (by decide) 4 (by rfl) [.tmp 2] (by rfl) ?_
 unfold slices_Values_f at H
 simp only [ent]
 refine a_srC _ rfl ?_
 refine a_srC _ rfl ?_
 exact a_ret RT
end
end Go.Proofs.YtjflkcfafijhfaaGreat
/- Functions of the program as Lean functions, and that they are so; printed by a program of mine. -/
set_option linter.unusedSimpArgs false
set_option linter.unusedVariables false
set_option maxHeartbeats 4000000
set_option maxRecDepth 20000
namespace Go.Proofs.YtjflkcfafijhfaaGreat
open Go.Ab
open Nat (reduceAdd reduceMul reduceEqDiff reduceLT reduceLeDiff reduceSub)
noncomputable section
def slices_Compact_J1 (s1 : List Int) : Option (List Int) :=
 some (s1)
def slices_Compact_J2 (k_slices_Compact_L1 : Int → Option (List Int)) (k1 : Int) : Option (List Int) :=
 k_slices_Compact_L1 (IntKind.wrap .i64 (k1 + 1))
def slices_Compact_J3 (s2 : List Int) (k2 : Int) : Option (List Int) :=
 chk (0 ≤ k2 ∧ k2 ≤ (s2.length : Int) ∧ (s2.length : Int) ≤ (s2.length : Int)) (chk (0 ≤ k2 ∧ k2 ≤ (s2.length : Int)) (some ((s2.take k2.toNat))))
def slices_Compact_J4 (k_slices_Compact_L2 : (List Int) → Int → Nat → Nat → Int → Option (List Int)) (k4 : Int) (s4 : List Int) (k5 : Int) (o2 : Nat) (n2 : Nat) : Option (List Int) :=
 k_slices_Compact_L2 s4 k5 o2 n2 (IntKind.wrap .i64 (k4 + 1))
def slices_Compact_L2 : Nat → (List Int) → Int → Nat → Nat → Int → Option (List Int)
 | 0, _, _, _, _, _ => none
 | m_ + 1, s3, k3, o1, n1, k4 => cond (decide (k4 < (((n1 : Nat)) : Int))) (chk (k4 < (n1 : Int)) ((idx (s3.drop o1) k4).bind fun x3 => chk ((IntKind.wrap .i64 (k4 - 1)) < (n1 : Int)) ((idx (s3.drop o1) (IntKind.wrap .i64 (k4 - 1))).bind fun x4 => cond (x3 != x4) (chk (k4 < (n1 : Int)) ((idx s3 k3).bind fun x5 => slices_Compact_J4 (slices_Compact_L2 m_) k4 (s3.set k3.toNat x3) (IntKind.wrap .i64 (k3 + 1)) o1 n1)) (slices_Compact_J4 (slices_Compact_L2 m_) k4 s3 k3 o1 n1)))) (slices_Compact_J3 s3 k3)
def slices_Compact_L1 (s1 : List Int) : Nat → Int → Option (List Int)
 | 0, _ => none
 | m_ + 1, k1 => cond (decide (k1 < (((s1.length : Nat)) : Int))) ((idx s1 k1).bind fun x1 => (idx s1 (IntKind.wrap .i64 (k1 - 1))).bind fun x2 => cond (x1 == x2) (chk (0 ≤ k1 ∧ k1 ≤ (s1.length : Int) ∧ (s1.length : Int) ≤ (s1.length : Int)) (slices_Compact_L2 BIG s1 k1 k1.toNat (s1.length - k1.toNat) 1)) (slices_Compact_J2 (slices_Compact_L1 s1 m_) k1)) (slices_Compact_J1 s1)
def slices_Compact_f (s1 : List Int) : Option (List Int) :=
 cond (decide ((((s1.length : Nat)) : Int) < 2)) (some (s1)) (slices_Compact_L1 s1 BIG 1)
theorem slices_Compact_rc {s1 : List Int} {r : (List Int)} (H : slices_Compact_f s1 = some r) : RC Tryz.prog 60 [.ref 0 0 s1.length 1] [⟨3, 1, false, s1.map (ci .i64)⟩] 0 (.list 1 (r.map (ci .i64))) [] := by
 refine rcA_of Tryz.func60 (by rfl) (by decide) 61 (by rfl) [.tmp 2] (by rfl) ?_
 unfold slices_Compact_f at H
 simp only [hent, List.length_cons, List.length_nil, reduceAdd]
 refine a_srC _ rfl ?_
 refine a_seq ?_
 refine a_srC _ rfl ?_
 refine a_cnd H (fun zc1 H => ?_) (fun zc1 H => ?_)
 ·refine a_srC _ rfl ?_
  refine a_ret ?_
  refine sA_r ?_
  obtain rfl := Option.some.inj H
  refine eR_r ?_
  refine wk_ln 0 [] [0] [(2, .list 1 (s1.map (ci .i64)))] (fun i h => absurd h (Nat.not_lt_zero i)) ND ND ?_ ?_ (fun t0 => ⟨RS2, fun j B h => by rcases j with _ <;> first | exact h | (exact absurd h (by simp [hh]))⟩)
  ·exact trivial
  ·(simp only [AllT, ATT, reduceEqDiff, ↓reduceIte, and_true]); exact (.frz' (by rfl) (by simp) rfl (by first|rfl|omega|(simp;done)|(simp;omega)|(simp_all;done)) (.sm _ _ (ci_pu .i64)))
 ·refine a_skip ?_
  refine sA_n ?_
  refine a_cut (fun s => ∃ (t0 : Nat → Dat), slices_Compact_J1 s1 = some r ∧ s = ⟨tl t0 [(0, .ref 0 0 s1.length 1)], hl [⟨3, 1, false, s1.map (ci .i64)⟩], 1, 61⟩) ?_ ?_
  ·refine a_srC _ rfl ?_
   refine a_blk ?_
   refine a_loop (fun m s => ∃ (k1 : Int) (t0 : Nat → Dat), slices_Compact_L1 s1 m k1 = some r ∧ s = ⟨tl t0 [(0, .ref 0 0 s1.length 1), (3, .int .i64 k1)], hl [⟨3, 1, false, s1.map (ci .i64)⟩], 1, 61⟩) BIG ?_ ?_
   ·exact wk_lA [(some 0, _)] [] (fun t0 => ⟨1, t0, H, rfl⟩)
   ·rintro m_slices_Compact_L1 s ⟨k1, t0, H, rfl⟩
    obtain _ | m_slices_Compact_L1 := m_slices_Compact_L1
    ·cases (show (none : Option _) = some _ from H)
    ·rw [slices_Compact_L1] at H
     refine a_seq ?_
     refine a_srC _ rfl ?_
     refine a_cnd H (fun zc2 H => ?_) (fun zc2 H => ?_)
     ·refine a_skip ?_
      refine sA_n ?_
      refine a_cut (fun s => ∃ (t0 : Nat → Dat), slices_Compact_J2 (slices_Compact_L1 s1 m_slices_Compact_L1) k1 = some r ∧ s = ⟨tl t0 [(0, .ref 0 0 s1.length 1), (3, .int .i64 k1)], hl [⟨3, 1, false, s1.map (ci .i64)⟩], 1, 61⟩) ?_ ?_
      ·refine a_blk ?_
       refine a_seq ?_
       obtain ⟨x1, zh1, H⟩ := bind_some H
       obtain ⟨zg1, zh1a, zh1b⟩ := idx3 (f := (ci .i64)) zh1
       try simp only [Int.reduceToNat, Int.toNat_natCast] at zg1
       obtain ⟨x2, zh2, H⟩ := bind_some H
       obtain ⟨zg2, zh2a, zh2b⟩ := idx3 (f := (ci .i64)) zh2
       try simp only [Int.reduceToNat, Int.toNat_natCast] at zg2
       refine a_drW (by kernel_rfl) _ rfl (s := ?zs8) (by kernel_rfl) (by kernel_rfl) ?zs8f ?_ ?_ ?_
       rotate_left 2
       ·refine goS ?_
        exact CLS
       ·kernel_rfl
       refine sA_n ?_
       refine a_cnd H (fun zc3 H => ?_) (fun zc3 H => ?_)
       ·refine a_seq ?_
        obtain ⟨zh3, H⟩ := chk_some H
        refine a_regC _ rfl ?_
        refine sA_n ?_
        refine a_cut (fun s => ∃ (s2 : List Int) (k2 : Int) (t0 : Nat → Dat), slices_Compact_J3 s2 k2 = some r ∧ s = ⟨tl t0 [(0, .ref 0 0 s2.length 1), (3, .int .i64 k2)], hl [⟨3, 1, false, s2.map (ci .i64)⟩], 1, 61⟩) ?_ ?_
        ·refine a_srC _ rfl ?_
         refine a_blk ?_
         refine a_loop (fun m s => ∃ (s3 : List Int) (k3 : Int) (o1 : Nat) (n1 : Nat) (k4 : Int) (t0 : Nat → Dat), slices_Compact_L2 m s3 k3 o1 n1 k4 = some r ∧ s = ⟨tl t0 [(0, .ref 0 0 s3.length 1), (3, .int .i64 k3), (4, .ref 0 o1 n1 1), (5, .int .i64 k4)], hl [⟨3, 1, false, s3.map (ci .i64)⟩], 1, 61⟩) BIG ?_ ?_
         ·exact wk_lA [(some 0, _)] [] (fun t0 => ⟨s1, k1, k1.toNat, (s1.length - k1.toNat), 1, t0, H, rfl⟩)
         ·rintro m_slices_Compact_L2 s ⟨s3, k3, o1, n1, k4, t0, H, rfl⟩
          obtain _ | m_slices_Compact_L2 := m_slices_Compact_L2
          ·cases (show (none : Option _) = some _ from H)
          ·rw [slices_Compact_L2] at H
           refine a_seq ?_
           refine a_srC _ rfl ?_
           refine a_cnd H (fun zc4 H => ?_) (fun zc4 H => ?_)
           ·refine a_skip ?_
            refine sA_n ?_
            refine a_cut (fun s => ∃ (s4 : List Int) (k5 : Int) (o2 : Nat) (n2 : Nat) (t0 : Nat → Dat), slices_Compact_J4 (slices_Compact_L2 m_slices_Compact_L2) k4 s4 k5 o2 n2 = some r ∧ s = ⟨tl t0 [(0, .ref 0 0 s4.length 1), (3, .int .i64 k5), (4, .ref 0 o2 n2 1), (5, .int .i64 k4)], hl [⟨3, 1, false, s4.map (ci .i64)⟩], 1, 61⟩) ?_ ?_
            ·refine a_blk ?_
             refine a_seq ?_
             obtain ⟨zh6, H⟩ := chk_some H
             obtain ⟨x3, zh7, H⟩ := bind_some H
             have zg3 := idx_map zh7 (ci .i64)
             simp only [Int.reduceToNat, Int.toNat_natCast, getD_dropm, Nat.add_zero] at zg3
             obtain ⟨zh7a, zh7b, _⟩ := idx_some zh7
             try simp only [List.length_drop] at zh7b
             obtain ⟨zh8, H⟩ := chk_some H
             obtain ⟨x4, zh9, H⟩ := bind_some H
             have zg4 := idx_map zh9 (ci .i64)
             simp only [Int.reduceToNat, Int.toNat_natCast, getD_dropm, Nat.add_zero] at zg4
             obtain ⟨zh9a, zh9b, _⟩ := idx_some zh9
             try simp only [List.length_drop] at zh9b
             refine a_drW (by kernel_rfl) _ rfl (s := ?zs15) (by kernel_rfl) (by kernel_rfl) ?zs15f ?_ ?_ ?_
             rotate_left 2
             ·refine goS ?_
              exact CLS
             ·kernel_rfl
             refine sA_n ?_
             refine a_cnd H (fun zc5 H => ?_) (fun zc5 H => ?_)
             ·refine a_seq ?_
              obtain ⟨zh10, H⟩ := chk_some H
              obtain ⟨x5, zh11, H⟩ := bind_some H
              obtain ⟨zg5, zh11a, zh11b⟩ := idx3 (f := (ci .i64)) zh11
              try simp only [Int.reduceToNat, Int.toNat_natCast] at zg5
              refine a_regC _ rfl ?_
              refine sA_n ?_
              refine a_regC _ rfl ?_
              refine bA_n ?_
              refine cA_n ?_
              exact wk_lA [(some 0, _)] [] (fun t0 => ⟨(s3.set k3.toNat x3), (IntKind.wrap .i64 (k3 + 1)), o1, n1, t0, H, rfl⟩)
             ·refine a_skip ?_
              refine bA_n ?_
              refine cA_n ?_
              exact wk_lA [(some 0, _)] [] (fun t0 => ⟨s3, k3, o1, n1, t0, H, rfl⟩)
            ·rintro s ⟨s4, k5, o2, n2, t0, H, rfl⟩
             unfold slices_Compact_J4 at H
             refine a_regC _ rfl ?_
             refine lA_n ?_
             exact wk_lA [(some 0, _)] [] (fun t0 => ⟨_, Nat.lt_succ_self _, s4, k5, o2, n2, (IntKind.wrap .i64 (k4 + 1)), t0, H, rfl⟩)
           ·refine a_exit ?_
            refine sA_e ?_
            refine lA_e ?_
            refine bA_hit ?_
            refine cA_n ?_
            exact wk_lA [(some 0, _)] [] (fun t0 => ⟨s3, k3, t0, H, rfl⟩)
        ·rintro s ⟨s2, k2, t0, H, rfl⟩
         unfold slices_Compact_J3 at H
         refine a_seq ?_
         obtain ⟨zh4, H⟩ := chk_some H
         refine a_reg _ rfl (s := ?zs10) ?_ ?_
         rotate_left
         ·simp only [EVT, stepR, evOp, St.ev, St.app, St.put, wrs, evSlice, sliceOk, sl_if0, sl_if1, sl_if2, sl_if3, tk_map, dp_map, evBuiltin, evClear, allOne, TIS, CS, reduceAdd, reduceMul, reduceEqDiff, ↓reduceIte, reduceCtorEq, reduceLT, reduceLeDiff, Int.reduceToNat, reduceSub, Nat.reduceBEq]
          (repeat' apply And.intro) <;> first | rfl | assumption | omega | (left; omega) | (simp; done) | (simp; omega) | (right; exact ⟨_, rfl, rfl, rfl, by decide, by first | omega | (simp; omega)⟩) | (simp_all; done)
         refine sA_n ?_
         refine a_seq ?_
         obtain ⟨zh5, H⟩ := chk_some H
         refine a_regC _ rfl ?_
         refine sA_n ?_
         refine a_ret ?_
         refine bA_r ?_
         refine cA_r ?_
         refine lA_r ?_
         refine bA_r ?_
         refine cA_r ?_
         obtain rfl := Option.some.inj H
         refine eR_r ?_
         refine wk_ln 0 [] [0] [(2, .list 1 ((s2.take k2.toNat).map (ci .i64)))] (fun i h => absurd h (Nat.not_lt_zero i)) ND ND ?_ ?_ (fun t0 => ⟨RS2, fun j B h => by rcases j with _ <;> first | exact h | (exact absurd h (by simp [hh]))⟩)
         ·exact trivial
         ·(simp only [AllT, ATT, reduceEqDiff, ↓reduceIte, and_true]); exact (.frzs (by rfl) (by simp) rfl (by first|rfl|omega|(simp;done)|(simp;omega)|(simp_all;done)) (by first|rfl|omega|(simp;done)|(simp;omega)|(simp_all;done)) (.same _ _ (ci_pu .i64) (by (refine tk_garb _ _ (by first | (simp; done) | (simp; omega)) ?_); first | rfl | (rw [List.take_append_of_le_length (by simp; omega), List.take_of_length_le (by simp; omega)]; simp only [tk_dr, List.map_append]; done) | (simp; done) | (simp; omega))))
       ·refine a_skip ?_
        refine bA_n ?_
        refine cA_n ?_
        exact wk_lA [(some 0, _)] [] (fun t0 => ⟨t0, H, rfl⟩)
      ·rintro s ⟨t0, H, rfl⟩
       unfold slices_Compact_J2 at H
       refine a_regC _ rfl ?_
       refine lA_n ?_
       exact wk_lA [(some 0, _)] [] (fun t0 => ⟨_, Nat.lt_succ_self _, (IntKind.wrap .i64 (k1 + 1)), t0, H, rfl⟩)
     ·refine a_exit ?_
      refine sA_e ?_
      refine lA_e ?_
      refine bA_hit ?_
      refine cA_n ?_
      exact wk_lA [(some 0, _)] [] (fun t0 => ⟨t0, H, rfl⟩)
  ·rintro s ⟨t0, H, rfl⟩
   unfold slices_Compact_J1 at H
   refine a_srC _ rfl ?_
   refine a_ret ?_
   obtain rfl := Option.some.inj H
   refine eR_r ?_
   refine wk_ln 0 [] [0] [(2, .list 1 (s1.map (ci .i64)))] (fun i h => absurd h (Nat.not_lt_zero i)) ND ND ?_ ?_ (fun t0 => ⟨RS2, fun j B h => by rcases j with _ <;> first | exact h | (exact absurd h (by simp [hh]))⟩)
   ·exact trivial
   ·(simp only [AllT, ATT, reduceEqDiff, ↓reduceIte, and_true]); exact (.frz' (by rfl) (by simp) rfl (by first|rfl|omega|(simp;done)|(simp;omega)|(simp_all;done)) (.sm _ _ (ci_pu .i64)))
def scrub_Right_J1 : Option Bool :=
 some (true)
def scrub_Right_J3 (k_scrub_Right_L1 : Int → Option Bool) (v1 : Int) (v3 : Bool) : Option Bool :=
 cond v3 (some (false)) (k_scrub_Right_L1 (IntKind.wrap .i64 (v1 + 1)))
def scrub_Right_J2 (k_scrub_Right_L1 : Int → Option Bool) (r2 : (List Int)) (v1 : Int) (x1 : Chain) (v2 : Bool) : Option Bool :=
 cond v2 (some (false)) (cond (decide (0 < (((r2.length : Nat)) : Int))) ((idx r2 0).bind fun x2 => cond (decide (x2 < 0)) (scrub_Right_J3 k_scrub_Right_L1 v1 true) ((slices_Compact_f r2).bind fun r3 => scrub_Right_J3 k_scrub_Right_L1 v1 (decide ((r3.length : Int) < (x1.servers.length : Int))))) ((slices_Compact_f r2).bind fun r4 => scrub_Right_J3 k_scrub_Right_L1 v1 (decide ((r4.length : Int) < (x1.servers.length : Int)))))
def scrub_Right_L1 (l1 : List Chain) : Nat → Int → Option Bool
 | 0, _ => none
 | m_ + 1, v1 => cond (decide (v1 < (l1.length : Int))) ((idx l1 v1).bind fun x1 => (slices_Values_f x1.servers).bind fun r1 => (slices_Values_1_f x1.servers).bind fun ys1 => (slices_Sorted_f ys1).bind fun r2 => cond (decide (x1.id < 0)) (scrub_Right_J2 (scrub_Right_L1 l1 m_) r2 v1 x1 true) (cond (decide (200 ≤ x1.id)) (scrub_Right_J2 (scrub_Right_L1 l1 m_) r2 v1 x1 true) (cond (decide (x1.ver < 0)) (scrub_Right_J2 (scrub_Right_L1 l1 m_) r2 v1 x1 true) (cond (decide (1099511627776 < x1.ver)) (scrub_Right_J2 (scrub_Right_L1 l1 m_) r2 v1 x1 true) (cond (decide (5 < (((r2.length : Nat)) : Int))) (scrub_Right_J2 (scrub_Right_L1 l1 m_) r2 v1 x1 true) (cond (decide (0 < v1)) ((idx l1 (IntKind.wrap .i64 (v1 - 1))).bind fun x3 => scrub_Right_J2 (scrub_Right_L1 l1 m_) r2 v1 x1 (decide (x1.id ≤ x3.id))) (scrub_Right_J2 (scrub_Right_L1 l1 m_) r2 v1 x1 false))))))) (scrub_Right_J1)
def scrub_Right_f (l1 : List Chain) : Option Bool :=
 scrub_Right_L1 l1 BIG 0
theorem scrub_Right_pc {l1 : List Chain} {r : Bool} (H : scrub_Right_f l1 = some r) : PC Tryz.prog 20 [.list 3 (l1.map Chain.c)] (.bool r) := by
 refine pcA_of Tryz.func20 (by rfl) (by decide) 74 (by rfl) [.tmp 2] (by rfl) ?_
 unfold scrub_Right_f at H
 simp only [ent]
 refine a_srC _ rfl ?_
 refine a_cut (fun s => ∃ (t0 : Nat → Dat), scrub_Right_J1 = some r ∧ s = ⟨tl t0 [], hl [], 0, 74⟩) ?_ ?_
 ·refine a_srC _ rfl ?_
  refine a_blk ?_
  refine a_loop (fun m s => ∃ (v1 : Int) (t0 : Nat → Dat), scrub_Right_L1 l1 m v1 = some r ∧ s = ⟨tl t0 [(0, .list 3 (l1.map Chain.c)), (6, .list 3 (l1.map Chain.c)), (7, .int .i64 (l1.length : Int)), (8, .int .i64 v1)], hl [], 0, 74⟩) BIG ?_ ?_
  ·exact wk_lA [] [] (fun t0 => ⟨0, t0, H, rfl⟩)
  ·rintro m_scrub_Right_L1 s ⟨v1, t0, H, rfl⟩
   obtain _ | m_scrub_Right_L1 := m_scrub_Right_L1
   ·cases (show (none : Option _) = some _ from H)
   ·rw [scrub_Right_L1] at H
    refine a_srC _ rfl ?_
    refine a_seq ?_
    refine a_cnd H (fun zc1 H => ?_) (fun zc1 H => ?_)
    ·refine a_skip ?_
     refine sA_n ?_
     refine a_seq ?_
     refine a_blk ?_
     refine a_seq ?_
     obtain ⟨x1, zh1, H⟩ := bind_some H
     obtain ⟨zg1, zh1a, zh1b⟩ := idx3 (f := Chain.c) zh1
     try simp only [Int.reduceToNat, Int.toNat_natCast] at zg1
     refine a_regC _ rfl ?_
     refine sA_n ?_
     refine a_seq ?_
     obtain ⟨r1, zh2, H⟩ := bind_some H
     have zk1 := slices_Values_pc zh2
     obtain ⟨ys1, zi1, H⟩ := bind_some H
     obtain ⟨r2, zh4, H⟩ := bind_some H
     have zk2 := slices_Sorted_rc (seq1 := ys1) (seq1_F := 112) (seq1_caps := [.rop ((cl 1 (ci .i64)) x1.servers) 0 1]) (slices_Values_1_it zi1) (.cons (.rop _ _ _ ((cl_pu (ci_pu .i64)) _)) .nil) zh4
     refine a_reg _ rfl (s := ?zs6) ?_ ?_
     rotate_left
     ·try refine goS ?_
      repeat' with_reducible apply And.intro
      all_goals try ((with_reducible show CallR _ _ _ _ _ _ _); refine cR_p zk1 ZZ ?_; refine goS ?_)
      repeat' with_reducible apply And.intro
      all_goals try ((with_reducible show CallR _ _ _ _ _ _ _); refine callR_ownm (l := r2) (c := (ci .i64)) [] zk2 (ci_sc .i64) (.cons (.fn' .nil (.cons (.rop' (.cons (.lst _ _ _ (ci_pu .i64) rfl) .nil)) .nil)) .nil) ?_; refine goS ?_)
      all_goals ((repeat' apply And.intro) <;> first|rfl|assumption|omega|(simp;done)|(simp;omega)|(simp_all;done))
     refine sA_n ?_
     refine a_seq ?_
     refine a_cut (fun s => ∃ (v2 : Bool) (t0 : Nat → Dat), scrub_Right_J2 (scrub_Right_L1 l1 m_scrub_Right_L1) r2 v1 x1 v2 = some r ∧ s = ⟨tl t0 [(0, .list 3 (l1.map Chain.c)), (4, .ptr 0 0 0 3), (5, .ref 1 0 r2.length 1), (6, .list 3 (l1.map Chain.c)), (7, .int .i64 (l1.length : Int)), (8, .int .i64 v1), (54, .bool v2)], hl [⟨30, 3, false, [Chain.c x1]⟩, ⟨3, 1, false, r2.map (ci .i64)⟩], 2, 74⟩) ?_ ?_
     ·refine cnd H (fun zc6 H => ?_) (fun zc6 H => ?_)
      ·refine a_drW (by kernel_rfl) _ rfl (s := ?zs13) (by kernel_rfl) (by kernel_rfl) ?zs13f ?_ ?_ ?_
       rotate_left 2
       ·refine goS ?_
        try refine goS ?_
        exact CLS
       ·kernel_rfl
       refine cA_n ?_
       exact wk_lA [(some 11, _), (some 59, _)] [] (fun t0 => ⟨true, t0, H, rfl⟩)
      ·refine cnd H (fun zc7 H => ?_) (fun zc7 H => ?_)
       ·refine a_drW (by kernel_rfl) _ rfl (s := ?zs14) (by kernel_rfl) (by kernel_rfl) ?zs14f ?_ ?_ ?_
        rotate_left 2
        ·refine goS ?_
         try refine goS ?_
         exact CLS
        ·kernel_rfl
        refine cA_n ?_
        exact wk_lA [(some 11, _), (some 59, _)] [] (fun t0 => ⟨true, t0, H, rfl⟩)
       ·refine cnd H (fun zc8 H => ?_) (fun zc8 H => ?_)
        ·refine a_drW (by kernel_rfl) _ rfl (s := ?zs15) (by kernel_rfl) (by kernel_rfl) ?zs15f ?_ ?_ ?_
         rotate_left 2
         ·refine goS ?_
          try refine goS ?_
          exact CLS
         ·kernel_rfl
         refine cA_n ?_
         exact wk_lA [(some 11, _), (some 59, _)] [] (fun t0 => ⟨true, t0, H, rfl⟩)
        ·refine cnd H (fun zc9 H => ?_) (fun zc9 H => ?_)
         ·refine a_drW (by kernel_rfl) _ rfl (s := ?zs16) (by kernel_rfl) (by kernel_rfl) ?zs16f ?_ ?_ ?_
          rotate_left 2
          ·refine goS ?_
           try refine goS ?_
           exact CLS
          ·kernel_rfl
          refine cA_n ?_
          exact wk_lA [(some 11, _), (some 59, _)] [] (fun t0 => ⟨true, t0, H, rfl⟩)
         ·refine cnd H (fun zc10 H => ?_) (fun zc10 H => ?_)
          ·refine a_drW (by kernel_rfl) _ rfl (s := ?zs17) (by kernel_rfl) (by kernel_rfl) ?zs17f ?_ ?_ ?_
           rotate_left 2
           ·refine goS ?_
            try refine goS ?_
            exact CLS
           ·kernel_rfl
           refine cA_n ?_
           exact wk_lA [(some 11, _), (some 59, _)] [] (fun t0 => ⟨true, t0, H, rfl⟩)
          ·refine cnd H (fun zc11 H => ?_) (fun zc11 H => ?_)
           ·obtain ⟨x3, zh8, H⟩ := bind_some H
            obtain ⟨zg3, zh8a, zh8b⟩ := idx3 (f := Chain.c) zh8
            try simp only [Int.reduceToNat, Int.toNat_natCast] at zg3
            refine a_drW (by kernel_rfl) _ rfl (s := ?zs18) (by kernel_rfl) (by kernel_rfl) ?zs18f ?_ ?_ ?_
            rotate_left 2
            ·refine goS ?_
             try refine goS ?_
             exact CLS
            ·kernel_rfl
            refine cA_n ?_
            exact wk_lA [(some 11, _), (some 59, _)] [] (fun t0 => ⟨(decide (x1.id ≤ x3.id)), t0, H, rfl⟩)
           ·refine a_drW (by kernel_rfl) _ rfl (s := ?zs19) (by kernel_rfl) (by kernel_rfl) ?zs19f ?_ ?_ ?_
            rotate_left 2
            ·refine goS ?_
             try refine goS ?_
             exact CLS
            ·kernel_rfl
            refine cA_n ?_
            exact wk_lA [(some 11, _), (some 59, _)] [] (fun t0 => ⟨false, t0, H, rfl⟩)
     ·rintro s ⟨v2, t0, H, rfl⟩
      unfold scrub_Right_J2 at H
      refine a_cnd H (fun zc2 H => ?_) (fun zc2 H => ?_)
      ·refine a_srC _ rfl ?_
       exact a_ret (sA_r (bA_r (sA_r (lA_r (bA_r (cA_r RT))))))
      ·refine a_skip ?_
       refine sA_n ?_
       refine a_cut (fun s => ∃ (v3 : Bool) (t0 : Nat → Dat), scrub_Right_J3 (scrub_Right_L1 l1 m_scrub_Right_L1) v1 v3 = some r ∧ s = ⟨tl t0 [(0, .list 3 (l1.map Chain.c)), (6, .list 3 (l1.map Chain.c)), (7, .int .i64 (l1.length : Int)), (8, .int .i64 v1), (72, .bool v3)], hl [], 0, 74⟩) ?_ ?_
       ·refine cnd H (fun zc4 H => ?_) (fun zc4 H => ?_)
        ·obtain ⟨x2, zh5, H⟩ := bind_some H
         obtain ⟨zg2, zh5a, zh5b⟩ := idx3 (f := (ci .i64)) zh5
         try simp only [Int.reduceToNat, Int.toNat_natCast] at zg2
         refine cnd H (fun zc5 H => ?_) (fun zc5 H => ?_)
         ·refine a_drW (by kernel_rfl) _ rfl (s := ?zs10) (by kernel_rfl) (by kernel_rfl) ?zs10f ?_ ?_ ?_
          rotate_left 2
          ·simp only [EVT, stepW, evOp, St.ev, St.app, St.put, wrs, evBuiltin, datOf, datOf1, evBin, binInt, evIndexAddr, evLoad, cut, frz, evFieldAddr, TIS, CS, reduceAdd, reduceMul, reduceEqDiff, ↓reduceIte, reduceCtorEq, reduceLT, reduceLeDiff, Array.reduceGetElem?, Int.reduceToNat, reduceSub, Nat.reduceBEq, ↓zc2, ↓zc4, zg2, ↓zc5]
           try simp only [EVT, stepW, evOp, St.ev, St.app, St.put, wrs, evBuiltin, datOf, datOf1, evBin, binInt, evIndexAddr, evLoad, cut, frz, evFieldAddr, TIS, CS, reduceAdd, reduceMul, reduceEqDiff, ↓reduceIte, reduceCtorEq, reduceLT, reduceLeDiff, Array.reduceGetElem?, Int.reduceToNat, reduceSub, Nat.reduceBEq, ↓zc2, ↓zc4, zg2, ↓zc5]
           (repeat' apply And.intro) <;> first|rfl|assumption|omega|(simp;done)|(simp;omega)|(simp_all;done)
          ·kernel_rfl
          refine cA_n ?_
          refine wk_l [] [] [(0, .list 3 (l1.map Chain.c)), (6, .list 3 (l1.map Chain.c)), (7, .int .i64 (l1.length : Int)), (8, .int .i64 v1), (72, .bool true)] ND ND ?_ ?_ (fun t0 => ⟨true, t0, H, rfl⟩)
          ·exact trivial
          ·(simp only [AllT, ATT, reduceEqDiff, ↓reduceIte, and_true]); exact ⟨(.lst _ _ _ Chain.pu rfl), (.lst _ _ _ Chain.pu rfl), (.int' rfl), (.int' rfl), (.bool' (by first | rfl | assumption | (simp_all; done)))⟩
         ·obtain ⟨r3, zh6, H⟩ := bind_some H
          have zk3 := slices_Compact_rc zh6
          refine a_drW (by kernel_rfl) _ rfl (s := ?zs11) (by kernel_rfl) (by kernel_rfl) ?zs11f ?_ ?_ ?_
          rotate_left 2
          ·try simp only [EVT, stepW, evOp, St.ev, St.app, St.put, wrs, evBuiltin, datOf, datOf1, evBin, binInt, evIndexAddr, evLoad, cut, frz, evFieldAddr, TIS, CS, reduceAdd, reduceMul, reduceEqDiff, ↓reduceIte, reduceCtorEq, reduceLT, reduceLeDiff, Array.reduceGetElem?, Int.reduceToNat, reduceSub, Nat.reduceBEq, ↓zc2, ↓zc4, zg2, ↓zc5]
           repeat' with_reducible apply And.intro
           all_goals try ((with_reducible show CallW _ _ _ _ _ _ _); refine callW_rcw (r' := .list 1 (r3.map (ci .i64))) [1] [(1, none)] [(some 1, ⟨3, 1, false, r2.map (ci .i64)⟩)] [] [] rfl (by decide) zk3 (by simp) ND (fun h2 e => (allB_some ((e 1 (by simp)).trans (by rfl)) rfl (.sm _ _ (ci_pu .i64)) trivial)) (fun h2 e => (.cons (.refl' (by first|rfl|omega|(simp;done)|(simp;omega)|(simp_all;done)) rfl) .nil)) ND ND trivial (.lst _ _ _ (ci_pu .i64) rfl) ?_; simp only [EVT, stepW, evOp, St.ev, St.app, St.put, wrs, evBuiltin, datOf, datOf1, evBin, binInt, evIndexAddr, evLoad, cut, frz, evFieldAddr, TIS, CS, reduceAdd, reduceMul, reduceEqDiff, ↓reduceIte, reduceCtorEq, reduceLT, reduceLeDiff, Array.reduceGetElem?, Int.reduceToNat, reduceSub, Nat.reduceBEq, ↓zc2, ↓zc4, zg2, ↓zc5])
           all_goals ((repeat' apply And.intro) <;> first|rfl|assumption|omega|(simp;done)|(simp;omega)|(simp_all;done))
          ·kernel_rfl
          refine cA_n ?_
          refine wk_l [] [] [(0, .list 3 (l1.map Chain.c)), (6, .list 3 (l1.map Chain.c)), (7, .int .i64 (l1.length : Int)), (8, .int .i64 v1), (72, .bool (decide ((r3.length : Int) < (x1.servers.length : Int))))] ND ND ?_ ?_ (fun t0 => ⟨(decide ((r3.length : Int) < (x1.servers.length : Int))), t0, H, rfl⟩)
          ·exact trivial
          ·(simp only [AllT, ATT, reduceEqDiff, ↓reduceIte, and_true]); exact ⟨(.lst _ _ _ Chain.pu rfl), (.lst _ _ _ Chain.pu rfl), (.int' rfl), (.int' rfl), (.bool' rfl)⟩
        ·obtain ⟨r4, zh7, H⟩ := bind_some H
         have zk4 := slices_Compact_rc zh7
         refine a_drW (by kernel_rfl) _ rfl (s := ?zs12) (by kernel_rfl) (by kernel_rfl) ?zs12f ?_ ?_ ?_
         rotate_left 2
         ·try refine goS ?_
          repeat' with_reducible apply And.intro
          all_goals try ((with_reducible show CallW _ _ _ _ _ _ _); refine callW_rcw (r' := .list 1 (r4.map (ci .i64))) [1] [(1, none)] [(some 1, ⟨3, 1, false, r2.map (ci .i64)⟩)] [] [] rfl (by decide) zk4 (by simp) ND (fun h2 e => (allB_some ((e 1 (by simp)).trans (by rfl)) rfl (.sm _ _ (ci_pu .i64)) trivial)) (fun h2 e => (.cons (.refl' (by first|rfl|omega|(simp;done)|(simp;omega)|(simp_all;done)) rfl) .nil)) ND ND trivial (.lst _ _ _ (ci_pu .i64) rfl) ?_; refine goS ?_)
          all_goals exact CLS
         ·kernel_rfl
         refine cA_n ?_
         exact wk_lA [] [] (fun t0 => ⟨(decide ((r4.length : Int) < (x1.servers.length : Int))), t0, H, rfl⟩)
       ·rintro s ⟨v3, t0, H, rfl⟩
        unfold scrub_Right_J3 at H
        refine a_cnd H (fun zc3 H => ?_) (fun zc3 H => ?_)
        ·refine a_srC _ rfl ?_
         refine a_ret ?_
         refine bA_r ?_
         refine sA_r ?_
         refine lA_r ?_
         refine bA_r ?_
         refine cA_r ?_
         obtain rfl := Option.some.inj H
         refine e_r2 (d := ?zd3) ?_ ?_
         rotate_left
         ·simp only [EVT, resR, single, evLoad, cut, TIS, CS, reduceAdd, reduceEqDiff, ↓reduceIte, reduceCtorEq, reduceLT, reduceLeDiff, reduceSub, Nat.reduceBEq, zc3]
          (repeat' apply And.intro) <;> first | rfl | assumption | omega | (simp; done)
         exact ZZ
        ·refine a_skip ?_
         refine bA_n ?_
         refine sA_n ?_
         refine a_regC _ rfl ?_
         refine lA_n ?_
         exact wk_lA [] [] (fun t0 => ⟨_, Nat.lt_succ_self _, (IntKind.wrap .i64 (v1 + 1)), t0, H, rfl⟩)
    ·refine a_exit ?_
     refine sA_e ?_
     refine lA_e ?_
     refine bA_hit ?_
     refine cA_n ?_
     exact wk_lA [] [] (fun t0 => ⟨t0, H, rfl⟩)
 ·rintro s ⟨t0, H, rfl⟩
  unfold scrub_Right_J1 at H
  refine a_srC _ rfl ?_
  refine a_ret ?_
  obtain rfl := Option.some.inj H
  refine e_r2 (d := ?zd1) ?_ ?_
  rotate_left
  ·simp only [EVT, resR, single, evLoad, cut, TIS, CS, reduceAdd, reduceEqDiff, ↓reduceIte, reduceCtorEq, reduceLT, reduceLeDiff, reduceSub, Nat.reduceBEq]
   (repeat' apply And.intro) <;> first | rfl | assumption | omega | (simp; done)
  exact ZZ
def chain_Intact_J1 (out1 : List Int) : Option (List Int) :=
 some (out1)
def chain_Intact_L1 : List (Int × (List Int)) → (List Int) → Option (List Int)
 | [], out2 => chain_Intact_J1 out2
 | y1 :: rest_, out2 => chk ((out2.length + 1) * 8 ≤ 140737488355328) (chain_Intact_L1 rest_ (out2 ++ [y1.1]))
def chain_Intact_f (c1 : Chain) (disks1 : List Disk) : Option (List Int) :=
 (chain_whole_f c1 disks1).bind fun r1 => (chain_whole_1_f c1 disks1).bind fun ys1 => chain_Intact_L1 ys1 ([] : List Int)
theorem chain_Intact_pc {c1 : Chain} {disks1 : List Disk} {r : (List Int)} (H : chain_Intact_f c1 disks1 = some r) : PC Tryz.prog 22 [.agg (Chain.c c1), .list 3 (disks1.map Disk.c)] (.list 1 (r.map (ci .i64))) := by
 refine pcA_of Tryz.func22 (by rfl) (by decide) 17 (by rfl) [.tmp 4] (by rfl) ?_
 unfold chain_Intact_f at H
 simp only [ent]
 refine a_srC _ rfl ?_
 refine a_srC _ rfl ?_
 refine a_cut (fun s => ∃ (out1 : List Int) (t0 : Nat → Dat), chain_Intact_J1 out1 = some r ∧ s = ⟨tl t0 [(5, .ptr 0 0 0 1)], hl [⟨28, 1, false, [[.ref 1 0 out1.length 1]]⟩, ⟨3, 1, false, out1.map (ci .i64)⟩], 2, 17⟩) ?_ ?_
 ·refine a_seq ?_
  obtain ⟨r1, zh1, H⟩ := bind_some H
  have zk1 := chain_whole_pc zh1
  refine a_regK _ rfl ?_
  refine sA_n ?_
  refine a_blk ?_
  obtain ⟨ys1, zi1, H⟩ := bind_some H
  refine a_weak (fun s => ∃ t0 : Nat → Dat, s = ⟨tl t0 [(5, .ptr 0 0 0 1), (9, .fn (.func 113) [] [.rop [.int .i64 c1.id, .int .i64 c1.ver, .list 1 (c1.servers.map (ci .i64))] 0 3, .rop [.list 3 (disks1.map Disk.c)] 0 1])], hl [⟨28, 1, false, [[.ref 1 0 ([] : List Int).length 1]]⟩, ⟨3, 1, false, ([] : List Int).map (ci .i64)⟩], 2, 17⟩) ?_ ?_
  ·exact wk_lA [(some 16, _), (none, _)] [] (fun t0 => ⟨t0, rfl⟩)
  ·rintro s ⟨t0, rfl⟩
   refine a_rfT 1 [(5, .ptr 0 0 0 1), (9, .fn (.func 113) [] [.rop [.int .i64 c1.id, .int .i64 c1.ver, .list 1 (c1.servers.map (ci .i64))] 0 3, .rop [.list 3 (disks1.map Disk.c)] 0 1])] [10, 11] (fun y => [.int .i64 y.1, .list 1 (y.2.map (ci .u8))]) (chain_whole_1_it zi1) (fun (l : List (Int × (List Int))) b => ∃ (out2 : List Int) (t9 : Unit), chain_Intact_L1 l out2 = some r ∧ b = [⟨28, 1, false, [[.ref 1 0 out2.length 1]]⟩, ⟨3, 1, false, out2.map (ci .i64)⟩]) (fun _ _ => False) (by decide) rfl (fun _ => rfl) (by decide) rfl (.cons (.rop' (.cons (.int' rfl) (.cons (.int' rfl) (.cons (.lst _ _ _ (ci_pu .i64) rfl) .nil)))) (.cons (.rop' (.cons (.lst _ _ _ Disk.pu rfl) .nil)) .nil)) ⟨(.ptr _ _ _ _ _ rfl), ⟨(.fn' .nil (.cons (.rop' (.cons (.int' rfl) (.cons (.int' rfl) (.cons (.lst _ _ _ (ci_pu .i64) rfl) .nil)))) (.cons (.rop' (.cons (.lst _ _ _ Disk.pu rfl) .nil)) .nil))), trivial⟩⟩ ⟨([] : List Int), (), H, rfl⟩ ?_ ?_ ?_
   ·rintro fe y1 rest_chain_Intact_L1 b t0 ⟨out2, _, H, rfl⟩
    rw [chain_Intact_L1] at H
    show aw _ _ _ _ _ ⟨tl t0 [(11, .list 1 (y1.2.map (ci .u8))), (10, .int .i64 y1.1), (5, .ptr 0 0 0 1), (9, .fn (.func 113) [] [.rop [.int .i64 c1.id, .int .i64 c1.ver, .list 1 (c1.servers.map (ci .i64))] 0 3, .rop [.list 3 (disks1.map Disk.c)] 0 1])], hl [⟨28, 1, false, [[.ref 1 0 out2.length 1]]⟩, ⟨3, 1, false, out2.map (ci .i64)⟩], 2, 17⟩
    refine a_regC _ rfl ?_
    refine rfA_n ?_
    refine a_blk ?_
    obtain ⟨zh2, H⟩ := chk_some H
    refine a_regC _ rfl ?_
    refine bA_n ?_
    refine rf_n ?_
    exact wk_lnA 1 [(some 0, ⟨28, 1, false, [[.ref 1 0 (out2 ++ [y1.1]).length 1]]⟩), (some 13, ⟨3, 1, false, (out2 ++ [y1.1]).map (ci .i64)⟩)] [] (L := []) (fun t0 => ⟨_, ⟨(out2 ++ [y1.1]), (), H, rfl⟩, rfl, rfl⟩)
   ·rintro b t0 ⟨out2, _, H, rfl⟩
    rw [chain_Intact_L1] at H
    simp only [List.length_cons, List.length_nil, reduceAdd]
    refine bA_n ?_
    refine cA_n ?_
    exact wk_lA [(some 0, _), (some 1, _)] [] (fun t0 => ⟨out2, t0, H, rfl⟩)
   ·rintro c b t0 h
    exact h.elim
 ·rintro s ⟨out1, t0, H, rfl⟩
  unfold chain_Intact_J1 at H
  refine a_srC _ rfl ?_
  exact a_ret RT
def chain_Patch_1_f (s1 : Int) (v1 : List Disk) : Option Bool :=
 (idx v1 s1).bind fun x1 => some (x1.down)
theorem chain_Patch_1_pc {s1 : Int} {v1 : List Disk} {r : Bool} (H : chain_Patch_1_f s1 v1 = some r) : PC Tryz.prog 69 [.int .i64 s1, .rop ((cl 3 Disk.c) v1) 0 1] (.bool r) := by
 refine pcA_of Tryz.func69 (by rfl) (by decide) 9 (by rfl) [.tmp 3] (by rfl) ?_
 unfold chain_Patch_1_f at H
 simp only [ent]
 refine a_srC _ rfl ?_
 refine a_seq ?_
 obtain ⟨x1, zh1, H⟩ := bind_some H
 obtain ⟨zg1, zh1a, zh1b⟩ := idx3 (f := Disk.c) zh1
 try simp only [Int.reduceToNat, Int.toNat_natCast] at zg1
 refine a_regC _ rfl ?_
 refine sA_n ?_
 exact a_ret RT
def chain_Patch_J1 (disks1 : List Disk) (c1 : Chain) (server1 : Int) (from1 : List Int) (some1 : Bool) : Option ((List Disk) × Int) :=
 cond (!some1) (some (disks1, 260)) ((chain_laying_f c1 disks1 from1).bind fun r3 => (chain_laying_1_f server1 r3 c1 from1).bind fun r4 => chk (r4.length = r3.length) (some (r4, 0)))
def chain_Patch_S1 (disks1 : List Disk) (from3 : List Int) (some3 : Bool) (behind2 : Bool) : Option ((List Disk) × Int) :=
 some (disks1, 0)
def chain_Patch_L1 (c1 : Chain) (r1 : Int) (disks1 : List Disk) (server1 : Int) : List (Int × (List Int)) → (List Int) → Bool → Bool → Option ((List Disk) × Int)
 | [], from2, some2, behind1 => chain_Patch_J1 disks1 c1 server1 from2 some2
 | y1 :: rest_, from2, some2, behind1 => (slices_Index_f c1.servers y1.1).bind fun r6 => cond (r6 == r1) (chain_Patch_S1 disks1 from2 some2 behind1) (cond (!behind1) (chain_Patch_L1 c1 r1 disks1 server1 rest_ y1.2 true (decide (r1 < r6))) (chain_Patch_L1 c1 r1 disks1 server1 rest_ from2 some2 behind1))
def chain_Patch_f (c1 : Chain) (disks1 : List Disk) (server1 : Int) : Option ((List Disk) × Int) :=
 (slices_Index_f c1.servers server1).bind fun r1 => cond (decide (r1 < 0)) (some (disks1, 1)) ((slices_ContainsFunc_68_f c1.servers (fun y0_ => chain_Patch_1_f y0_ disks1)).bind fun r2 => cond r2 (some (disks1, 40)) ((chain_whole_f c1 disks1).bind fun r5 => (chain_whole_1_f c1 disks1).bind fun ys1 => chain_Patch_L1 c1 r1 disks1 server1 ys1 ([] : List Int) false false))
theorem chain_Patch_pc {c1 : Chain} {disks1 : List Disk} {server1 : Int} {r : (List Disk) × Int} (H : chain_Patch_f c1 disks1 server1 = some r) : PC Tryz.prog 26 [.agg (Chain.c c1), .list 3 (disks1.map Disk.c), .int .i64 server1] (.tup [.list 3 (r.1.map Disk.c), .int .i64 r.2]) := by
 refine pcA_of Tryz.func26 (by rfl) (by decide) 64 (by rfl) [.cell 6 24, .cell 7 33] (by rfl) ?_
 unfold chain_Patch_f at H
 simp only [ent]
 refine a_srC _ rfl ?_
 refine a_seq ?_
 obtain ⟨r1, zh1, H⟩ := bind_some H
 have zk1 := slices_Index_pc zh1
 refine a_regK _ rfl ?_
 refine sA_n ?_
 refine a_seq ?_
 refine a_blk ?_
 refine a_srC _ rfl ?_
 refine a_cnd H (fun zc1 H => ?_) (fun zc1 H => ?_)
 ·refine a_srC _ rfl ?_
  exact a_ret (bA_r (sA_r RT))
 ·refine a_seq ?_
  obtain ⟨r2, zh2, H⟩ := bind_some H
  have zk2 := slices_ContainsFunc_68_pc (f1 := (fun y0_ => chain_Patch_1_f y0_ disks1)) (f1_F := 69) (f1_caps := [.rop ((cl 3 Disk.c) disks1) 0 1]) (fun _ _ h => chain_Patch_1_pc h) (.cons (.rop _ _ _ ((cl_pu Disk.pu) _)) .nil) zh2
  refine a_regK _ rfl ?_
  refine sA_n ?_
  refine a_cnd H (fun zc2 H => ?_) (fun zc2 H => ?_)
  ·refine a_srC _ rfl ?_
   refine a_ret ?_
   refine bA_r ?_
   refine sA_r ?_
   obtain rfl := Option.some.inj H
   refine e_r2 (d := ?zd2) ?_ ?_
   rotate_left
   ·simp only [EVT, resR, single, evLoad, cut, TIS, CS, reduceAdd, reduceEqDiff, ↓reduceIte, reduceCtorEq, reduceLT, reduceLeDiff, reduceSub, Nat.reduceBEq, zc1, zc2]
    (repeat' apply And.intro) <;> first | rfl | assumption | omega | (simp; done)
   exact ZZ
  ·refine a_skip ?_
   refine bA_n ?_
   refine sA_n ?_
   refine a_srC _ rfl ?_
   refine a_srC _ rfl ?_
   refine a_cut (fun s => ∃ (from1 : List Int) (some1 : Bool) (t0 : Nat → Dat), chain_Patch_J1 disks1 c1 server1 from1 some1 = some r ∧ s = ⟨tl t0 [(2, .int .i64 server1), (3, .ptr 0 0 0 3), (4, .ptr 1 0 0 1), (6, .ptr 2 0 0 1), (7, .ptr 3 0 0 1), (9, .ptr 4 0 0 1), (10, .ptr 5 0 0 1)], hl [⟨30, 3, false, [Chain.c c1]⟩, ⟨24, 1, false, [[.list 3 (disks1.map Disk.c)]]⟩, ⟨24, 1, false, [[.nil]]⟩, ⟨33, 1, false, [[.int .i64 0]]⟩, ⟨22, 1, false, [[.list 1 (from1.map (ci .u8))]]⟩, ⟨4, 1, false, [[.bool some1]]⟩], 6, 64⟩) ?_ ?_
   ·refine a_seq ?_
    obtain ⟨r5, zh6, H⟩ := bind_some H
    have zk5 := chain_whole_pc zh6
    refine a_regK _ rfl ?_
    refine sA_n ?_
    refine a_blk ?_
    obtain ⟨ys1, zi1, H⟩ := bind_some H
    refine a_weak (fun s => ∃ t0 : Nat → Dat, s = ⟨tl t0 [(2, .int .i64 server1), (3, .ptr 0 0 0 3), (4, .ptr 1 0 0 1), (6, .ptr 2 0 0 1), (7, .ptr 3 0 0 1), (8, .ptr 4 0 0 1), (9, .ptr 5 0 0 1), (10, .ptr 6 0 0 1), (11, .ptr 7 0 0 1), (33, .fn (.func 113) [] [.rop [.int .i64 c1.id, .int .i64 c1.ver, .list 1 (c1.servers.map (ci .i64))] 0 3, .rop [.list 3 (disks1.map Disk.c)] 0 1])], hl [⟨30, 3, false, [[.int .i64 c1.id, .int .i64 c1.ver, .list 1 (c1.servers.map (ci .i64))]]⟩, ⟨24, 1, false, [[.list 3 (disks1.map Disk.c)]]⟩, ⟨24, 1, false, [[.nil]]⟩, ⟨33, 1, false, [[.int .i64 0]]⟩, ⟨3, 1, false, [[.int .i64 r1]]⟩, ⟨22, 1, false, [[.list 1 (([] : List Int).map (ci .u8))]]⟩, ⟨4, 1, false, [[.bool false]]⟩, ⟨4, 1, false, [[.bool false]]⟩], 8, 64⟩) ?_ ?_
    ·exact wk_lA [(some 0, _), (some 1, _), (some 2, _), (some 3, _), (some 36, _), (some 144, _), (some 152, _), (some 153, _)] [] (fun t0 => ⟨t0, rfl⟩)
    ·rintro s ⟨t0, rfl⟩
     refine a_rfT 8 [(2, .int .i64 server1), (3, .ptr 0 0 0 3), (4, .ptr 1 0 0 1), (6, .ptr 2 0 0 1), (7, .ptr 3 0 0 1), (8, .ptr 4 0 0 1), (9, .ptr 5 0 0 1), (10, .ptr 6 0 0 1), (11, .ptr 7 0 0 1), (33, .fn (.func 113) [] [.rop [.int .i64 c1.id, .int .i64 c1.ver, .list 1 (c1.servers.map (ci .i64))] 0 3, .rop [.list 3 (disks1.map Disk.c)] 0 1])] [34, 35] (fun y => [.int .i64 y.1, .list 1 (y.2.map (ci .u8))]) (chain_whole_1_it zi1) (fun (l : List (Int × (List Int))) b => ∃ (from2 : List Int) (some2 : Bool) (behind1 : Bool) (t9 : Unit), chain_Patch_L1 c1 r1 disks1 server1 l from2 some2 behind1 = some r ∧ b = [⟨30, 3, false, [[.int .i64 c1.id, .int .i64 c1.ver, .list 1 (c1.servers.map (ci .i64))]]⟩, ⟨24, 1, false, [[.list 3 (disks1.map Disk.c)]]⟩, ⟨24, 1, false, [[.nil]]⟩, ⟨33, 1, false, [[.int .i64 0]]⟩, ⟨3, 1, false, [[.int .i64 r1]]⟩, ⟨22, 1, false, [[.list 1 (from2.map (ci .u8))]]⟩, ⟨4, 1, false, [[.bool some2]]⟩, ⟨4, 1, false, [[.bool behind1]]⟩]) (fun c b => c = .ret ∧ ∃ (from3 : List Int) (some3 : Bool) (behind2 : Bool) (t9 : Unit), chain_Patch_S1 disks1 from3 some3 behind2 = some r ∧ b = [⟨30, 3, false, [[.int .i64 c1.id, .int .i64 c1.ver, .list 1 (c1.servers.map (ci .i64))]]⟩, ⟨24, 1, false, [[.list 3 (disks1.map Disk.c)]]⟩, ⟨24, 1, false, [[.list 3 (disks1.map Disk.c)]]⟩, ⟨33, 1, false, [[.int .i64 0]]⟩, ⟨3, 1, false, [[.int .i64 r1]]⟩, ⟨22, 1, false, [[.list 1 (from3.map (ci .u8))]]⟩, ⟨4, 1, false, [[.bool some3]]⟩, ⟨4, 1, false, [[.bool behind2]]⟩]) (by decide) rfl (fun _ => rfl) (by decide) rfl (.cons (.rop' (.cons (.int' rfl) (.cons (.int' rfl) (.cons (.lst _ _ _ (ci_pu .i64) rfl) .nil)))) (.cons (.rop' (.cons (.lst _ _ _ Disk.pu rfl) .nil)) .nil)) ⟨(.int' rfl), ⟨(.ptr _ _ _ _ _ rfl), ⟨(.ptr _ _ _ _ _ rfl), ⟨(.ptr _ _ _ _ _ rfl), ⟨(.ptr _ _ _ _ _ rfl), ⟨(.ptr _ _ _ _ _ rfl), ⟨(.ptr _ _ _ _ _ rfl), ⟨(.ptr _ _ _ _ _ rfl), ⟨(.ptr _ _ _ _ _ rfl), ⟨(.fn' .nil (.cons (.rop' (.cons (.int' rfl) (.cons (.int' rfl) (.cons (.lst _ _ _ (ci_pu .i64) rfl) .nil)))) (.cons (.rop' (.cons (.lst _ _ _ Disk.pu rfl) .nil)) .nil))), trivial⟩⟩⟩⟩⟩⟩⟩⟩⟩⟩ ⟨([] : List Int), false, false, (), H, rfl⟩ ?_ ?_ ?_
     ·rintro fe y1 rest_chain_Patch_L1 b t0 ⟨from2, some2, behind1, _, H, rfl⟩
      rw [chain_Patch_L1] at H
      show aw _ _ _ _ _ ⟨tl t0 [(35, .list 1 (y1.2.map (ci .u8))), (34, .int .i64 y1.1), (2, .int .i64 server1), (3, .ptr 0 0 0 3), (4, .ptr 1 0 0 1), (6, .ptr 2 0 0 1), (7, .ptr 3 0 0 1), (8, .ptr 4 0 0 1), (9, .ptr 5 0 0 1), (10, .ptr 6 0 0 1), (11, .ptr 7 0 0 1), (33, .fn (.func 113) [] [.rop [.int .i64 c1.id, .int .i64 c1.ver, .list 1 (c1.servers.map (ci .i64))] 0 3, .rop [.list 3 (disks1.map Disk.c)] 0 1])], hl [⟨30, 3, false, [[.int .i64 c1.id, .int .i64 c1.ver, .list 1 (c1.servers.map (ci .i64))]]⟩, ⟨24, 1, false, [[.list 3 (disks1.map Disk.c)]]⟩, ⟨24, 1, false, [[.nil]]⟩, ⟨33, 1, false, [[.int .i64 0]]⟩, ⟨3, 1, false, [[.int .i64 r1]]⟩, ⟨22, 1, false, [[.list 1 (from2.map (ci .u8))]]⟩, ⟨4, 1, false, [[.bool some2]]⟩, ⟨4, 1, false, [[.bool behind1]]⟩], 8, 64⟩
      refine a_srC _ rfl ?_
      refine a_regC _ rfl ?_
      refine rfA_n ?_
      refine a_blk ?_
      refine a_seq ?_
      obtain ⟨r6, zh7, H⟩ := bind_some H
      have zk6 := slices_Index_pc zh7
      refine a_regK _ rfl ?_
      refine sA_n ?_
      refine a_seq ?_
      refine a_srC _ rfl ?_
      refine a_cnd H (fun zc4 H => ?_) (fun zc4 H => ?_)
      ·refine a_srC _ rfl ?_
       refine a_ret ?_
       refine sA_r ?_
       refine bA_r ?_
       refine rf_r ?_
       exact wk_lnA 8 [(some 0, ⟨30, 3, false, [Chain.c c1]⟩), (some 1, ⟨24, 1, false, [[.list 3 (disks1.map Disk.c)]]⟩), (some 2, ⟨24, 1, false, [[.list 3 (disks1.map Disk.c)]]⟩), (some 3, ⟨33, 1, false, [[.int .i64 0]]⟩), (some 4, ⟨3, 1, false, [[.int .i64 r1]]⟩), (some 5, ⟨22, 1, false, [[.list 1 (from2.map (ci .u8))]]⟩), (some 6, ⟨4, 1, false, [[.bool some2]]⟩), (some 7, ⟨4, 1, false, [[.bool behind1]]⟩)] [] (L := []) (fun t0 => ⟨_, ⟨rfl, from2, some2, behind1, (), H, rfl⟩, rfl, rfl⟩) (by intro i h; rcases i with _ | _ | _ | _ | _ | _ | _ | _ | i <;> first | rfl | omega)
      ·refine a_skip ?_
       refine sA_n ?_
       refine a_srC _ rfl ?_
       refine a_cnd H (fun zc5 H => ?_) (fun zc5 H => ?_)
       ·refine a_drW (by kernel_rfl) _ rfl (s := ?zs21) (by kernel_rfl) (by kernel_rfl) ?zs21f ?_ ?_ ?_
        rotate_left 2
        ·refine goS ?_
         exact CLS
        ·kernel_rfl
        refine bA_n ?_
        refine rf_n ?_
        exact wk_lnA 8 [(some 0, ⟨30, 3, false, [Chain.c c1]⟩), (some 1, ⟨24, 1, false, [[.list 3 (disks1.map Disk.c)]]⟩), (some 2, ⟨24, 1, false, [[.nil]]⟩), (some 3, ⟨33, 1, false, [[.int .i64 0]]⟩), (some 4, ⟨3, 1, false, [[.int .i64 r1]]⟩), (some 5, ⟨22, 1, false, [[.list 1 (y1.2.map (ci .u8))]]⟩), (some 6, ⟨4, 1, false, [[.bool true]]⟩), (some 7, ⟨4, 1, false, [[.bool (decide (r1 < r6))]]⟩)] [] (L := []) (fun t0 => ⟨_, ⟨y1.2, true, (decide (r1 < r6)), (), H, rfl⟩, rfl, rfl⟩) (by intro i h; rcases i with _ | _ | _ | _ | _ | _ | _ | _ | i <;> first | rfl | omega)
       ·refine a_skip ?_
        refine bA_n ?_
        refine rf_n ?_
        exact wk_lnA 8 [(some 0, ⟨30, 3, false, [Chain.c c1]⟩), (some 1, ⟨24, 1, false, [[.list 3 (disks1.map Disk.c)]]⟩), (some 2, ⟨24, 1, false, [[.nil]]⟩), (some 3, ⟨33, 1, false, [[.int .i64 0]]⟩), (some 4, ⟨3, 1, false, [[.int .i64 r1]]⟩), (some 5, ⟨22, 1, false, [[.list 1 (from2.map (ci .u8))]]⟩), (some 6, ⟨4, 1, false, [[.bool some2]]⟩), (some 7, ⟨4, 1, false, [[.bool behind1]]⟩)] [] (L := []) (fun t0 => ⟨_, ⟨from2, some2, behind1, (), H, rfl⟩, rfl, rfl⟩) (by intro i h; rcases i with _ | _ | _ | _ | _ | _ | _ | _ | i <;> first | rfl | omega)
     ·rintro b t0 ⟨from2, some2, behind1, _, H, rfl⟩
      rw [chain_Patch_L1] at H
      simp only [List.length_cons, List.length_nil, reduceAdd]
      refine bA_n ?_
      refine cA_n ?_
      exact wk_lA [(some 0, _), (some 1, _), (some 2, _), (some 3, _), (some 5, _), (some 6, _)] [] (fun t0 => ⟨from2, some2, t0, H, rfl⟩)
     ·rintro c b t0 ⟨rfl, from3, some3, behind2, _, H, rfl⟩
      unfold chain_Patch_S1 at H
      show aw _ _ _ _ _ ⟨tl t0 [(2, .int .i64 server1), (3, .ptr 0 0 0 3), (4, .ptr 1 0 0 1), (6, .ptr 2 0 0 1), (7, .ptr 3 0 0 1), (8, .ptr 4 0 0 1), (9, .ptr 5 0 0 1), (10, .ptr 6 0 0 1), (11, .ptr 7 0 0 1), (33, .fn (.func 113) [] [.rop [.int .i64 c1.id, .int .i64 c1.ver, .list 1 (c1.servers.map (ci .i64))] 0 3, .rop [.list 3 (disks1.map Disk.c)] 0 1])], hl [⟨30, 3, false, [[.int .i64 c1.id, .int .i64 c1.ver, .list 1 (c1.servers.map (ci .i64))]]⟩, ⟨24, 1, false, [[.list 3 (disks1.map Disk.c)]]⟩, ⟨24, 1, false, [[.list 3 (disks1.map Disk.c)]]⟩, ⟨33, 1, false, [[.int .i64 0]]⟩, ⟨3, 1, false, [[.int .i64 r1]]⟩, ⟨22, 1, false, [[.list 1 (from3.map (ci .u8))]]⟩, ⟨4, 1, false, [[.bool some3]]⟩, ⟨4, 1, false, [[.bool behind2]]⟩], 8, 64⟩
      refine a_ret ?_
      refine bA_r ?_
      refine cA_r ?_
      obtain rfl := Option.some.inj H
      refine e_r2 (d := ?zd5) ?_ ?_
      rotate_left
      ·simp only [EVT, resR, single, evLoad, cut, TIS, CS, reduceAdd, reduceEqDiff, ↓reduceIte, reduceCtorEq, reduceLT, reduceLeDiff, reduceSub, Nat.reduceBEq]
       (repeat' apply And.intro) <;> first | rfl | assumption | omega | (simp; done)
      exact ZZ
   ·rintro s ⟨from1, some1, t0, H, rfl⟩
    unfold chain_Patch_J1 at H
    refine a_seq ?_
    refine a_srC _ rfl ?_
    refine a_cnd H (fun zc3 H => ?_) (fun zc3 H => ?_)
    ·refine a_srC _ rfl ?_
     refine a_ret ?_
     refine sA_r ?_
     obtain rfl := Option.some.inj H
     refine e_r2 (d := ?zd3) ?_ ?_
     rotate_left
     ·simp only [EVT, resR, single, evLoad, cut, TIS, CS, reduceAdd, reduceEqDiff, ↓reduceIte, reduceCtorEq, reduceLT, reduceLeDiff, reduceSub, Nat.reduceBEq, zc3]
      (repeat' apply And.intro) <;> first | rfl | assumption | omega | (simp; done)
     exact ZZ
    ·refine a_skip ?_
     refine sA_n ?_
     refine a_seq ?_
     obtain ⟨r3, zh3, H⟩ := bind_some H
     have zk3 := chain_laying_rc zh3
     refine a_reg _ rfl (s := ?zs11) ?_ ?_
     rotate_left
     ·try refine goS ?_
      repeat' with_reducible apply And.intro
      all_goals try ((with_reducible show CallR _ _ _ _ _ _ _); refine callR_rcw (r' := .tup [.ref 25 0 r3.length 3, .fn (.func 84) [] [.rop [.ref 25 0 r3.length 3] 0 1, .rop [.int .i64 c1.id, .int .i64 c1.ver, .list 1 (c1.servers.map (ci .i64))] 0 3, .rop [.list 1 (from1.map (ci .u8))] 0 1]]) [(25, some ⟨44, 3, false, r3.map Disk.c⟩)] [] [] [(25, 0, _)] EQA zk3 (by simp) ND ZZ ZZ ND ND ZZ ZZ ?_; refine goS ?_)
      all_goals ((repeat' apply And.intro) <;> first|rfl|assumption|omega|(simp;done)|(simp;omega)|(simp_all;done))
     refine sA_n ?_
     refine a_seq ?_
     obtain ⟨r4, zh4, H⟩ := bind_some H
     have zk4 := chain_laying_1_rc zh4
     obtain ⟨zh5, H⟩ := chk_some H
     refine a_reg _ rfl (s := ?zs12) ?_ ?_
     rotate_left
     ·try refine goS ?_
      repeat' with_reducible apply And.intro
      all_goals try ((with_reducible show CallR _ _ _ _ _ _ _); refine callR_rcw (r' := .tup []) [(25, none), (25, some ⟨44, 3, false, r4.map Disk.c⟩)] [(some 25, _)] [] [(25, 0, _)] EQA zk4 (by simp) ND ZZ ZZ ND ND ZZ ZZ ?_; refine goS ?_)
      all_goals ((repeat' apply And.intro) <;> first|rfl|assumption|omega|(simp;done)|(simp;omega)|(simp_all;done))
     refine sA_n ?_
     refine a_srC _ rfl ?_
     refine a_ret ?_
     obtain rfl := Option.some.inj H
     refine e_r2 (d := ?zd4) ?_ ?_
     rotate_left
     ·simp only [EVT, resR, single, evLoad, cut, TIS, CS, reduceAdd, reduceEqDiff, ↓reduceIte, reduceCtorEq, reduceLT, reduceLeDiff, reduceSub, Nat.reduceBEq, zc3]
      (repeat' apply And.intro) <;> first | rfl | assumption | omega | (simp; done)
     exact ZZ
def ref25_pages_J1 : Option Bool :=
 some (true)
def ref25_pages_J2 (k_ref25_pages_L1 : Int → Option Bool) (i1 : Int) (v1 : Bool) : Option Bool :=
 cond v1 (some (false)) (k_ref25_pages_L1 (IntKind.wrap .i64 (i1 + 1)))
def ref25_pages_L1 (a1 : List Page) (b1 : List Page) : Nat → Int → Option Bool
 | 0, _ => none
 | m_ + 1, i1 => cond (decide (i1 < (a1.length : Int))) ((idx a1 i1).bind fun x1 => (idx b1 i1).bind fun x2 => cond (x1.at_ != x2.at_) (ref25_pages_J2 (ref25_pages_L1 a1 b1 m_) i1 true) ((ref02_Bytes_f x1.data x2.data).bind fun r1 => ref25_pages_J2 (ref25_pages_L1 a1 b1 m_) i1 (!r1))) (ref25_pages_J1)
def ref25_pages_f (a1 : List Page) (b1 : List Page) : Option Bool :=
 cond ((a1.length : Int) != (b1.length : Int)) (some (false)) (ref25_pages_L1 a1 b1 BIG 0)
theorem ref25_pages_pc {a1 : List Page} {b1 : List Page} {r : Bool} (H : ref25_pages_f a1 b1 = some r) : PC Tryz.prog 118 [.list 2 (a1.map Page.c), .list 2 (b1.map Page.c)] (.bool r) := by
 refine pcA_of Tryz.func118 (by rfl) (by decide) 42 (by rfl) [.tmp 4] (by rfl) ?_
 unfold ref25_pages_f at H
 simp only [ent]
 refine a_srC _ rfl ?_
 refine a_seq ?_
 refine a_srC _ rfl ?_
 refine a_cnd H (fun zc1 H => ?_) (fun zc1 H => ?_)
 ·refine a_srC _ rfl ?_
  exact a_ret (sA_r RT)
 ·refine a_skip ?_
  refine sA_n ?_
  refine a_cut (fun s => ∃ (t0 : Nat → Dat), ref25_pages_J1 = some r ∧ s = ⟨tl t0 [], hl [], 0, 42⟩) ?_ ?_
  ·refine a_srC _ rfl ?_
   refine a_blk ?_
   refine a_loop (fun m s => ∃ (i1 : Int) (t0 : Nat → Dat), ref25_pages_L1 a1 b1 m i1 = some r ∧ s = ⟨tl t0 [(0, .list 2 (a1.map Page.c)), (1, .list 2 (b1.map Page.c)), (5, .int .i64 i1)], hl [], 0, 42⟩) BIG ?_ ?_
   ·exact wk_lA [] [] (fun t0 => ⟨0, t0, H, rfl⟩)
   ·rintro m_ref25_pages_L1 s ⟨i1, t0, H, rfl⟩
    obtain _ | m_ref25_pages_L1 := m_ref25_pages_L1
    ·cases (show (none : Option _) = some _ from H)
    ·rw [ref25_pages_L1] at H
     refine a_seq ?_
     refine a_srC _ rfl ?_
     refine a_cnd H (fun zc2 H => ?_) (fun zc2 H => ?_)
     ·refine a_skip ?_
      refine sA_n ?_
      refine a_seq ?_
      refine a_blk ?_
      refine a_cut (fun s => ∃ (v1 : Bool) (t0 : Nat → Dat), ref25_pages_J2 (ref25_pages_L1 a1 b1 m_ref25_pages_L1) i1 v1 = some r ∧ s = ⟨tl t0 [(0, .list 2 (a1.map Page.c)), (1, .list 2 (b1.map Page.c)), (5, .int .i64 i1), (41, .bool v1)], hl [], 0, 42⟩) ?_ ?_
      ·obtain ⟨x1, zh1, H⟩ := bind_some H
       obtain ⟨zg1, zh1a, zh1b⟩ := idx3 (f := Page.c) zh1
       try simp only [Int.reduceToNat, Int.toNat_natCast] at zg1
       obtain ⟨x2, zh2, H⟩ := bind_some H
       obtain ⟨zg2, zh2a, zh2b⟩ := idx3 (f := Page.c) zh2
       try simp only [Int.reduceToNat, Int.toNat_natCast] at zg2
       refine cnd H (fun zc4 H => ?_) (fun zc4 H => ?_)
       ·refine a_drW (by kernel_rfl) _ rfl (s := ?zs9) (by kernel_rfl) (by kernel_rfl) ?zs9f ?_ ?_ ?_
        rotate_left 2
        ·refine goS ?_
         try refine goS ?_
         exact CLS
        ·kernel_rfl
        refine cA_n ?_
        exact wk_lA [] [] (fun t0 => ⟨true, t0, H, rfl⟩)
       ·obtain ⟨r1, zh3, H⟩ := bind_some H
        have zk1 := ref02_Bytes_pc zh3
        refine a_drW (by kernel_rfl) _ rfl (s := ?zs10) (by kernel_rfl) (by kernel_rfl) ?zs10f ?_ ?_ ?_
        rotate_left 2
        ·try refine goS ?_
         repeat' with_reducible apply And.intro
         all_goals try ((with_reducible show CallW _ _ _ _ _ _ _); refine cW_s [] zk1 (fun h2 e => ZZ) (.bool _) ?_; refine goS ?_)
         all_goals exact CLS
        ·kernel_rfl
        refine cA_n ?_
        exact wk_lA [] [] (fun t0 => ⟨(!r1), t0, H, rfl⟩)
      ·rintro s ⟨v1, t0, H, rfl⟩
       unfold ref25_pages_J2 at H
       refine a_cnd H (fun zc3 H => ?_) (fun zc3 H => ?_)
       ·refine a_srC _ rfl ?_
        refine a_ret ?_
        refine bA_r ?_
        refine sA_r ?_
        refine lA_r ?_
        refine bA_r ?_
        refine cA_r ?_
        obtain rfl := Option.some.inj H
        refine e_r2 (d := ?zd3) ?_ ?_
        rotate_left
        ·simp only [EVT, resR, single, evLoad, cut, TIS, CS, reduceAdd, reduceEqDiff, ↓reduceIte, reduceCtorEq, reduceLT, reduceLeDiff, reduceSub, Nat.reduceBEq, zc3]
         (repeat' apply And.intro) <;> first | rfl | assumption | omega | (simp; done)
        exact ZZ
       ·refine a_skip ?_
        refine bA_n ?_
        refine sA_n ?_
        refine a_regC _ rfl ?_
        refine lA_n ?_
        exact wk_lA [] [] (fun t0 => ⟨_, Nat.lt_succ_self _, (IntKind.wrap .i64 (i1 + 1)), t0, H, rfl⟩)
     ·refine a_exit ?_
      refine sA_e ?_
      refine lA_e ?_
      refine bA_hit ?_
      refine cA_n ?_
      exact wk_lA [] [] (fun t0 => ⟨t0, H, rfl⟩)
  ·rintro s ⟨t0, H, rfl⟩
   unfold ref25_pages_J1 at H
   refine a_srC _ rfl ?_
   refine a_ret ?_
   obtain rfl := Option.some.inj H
   refine e_r2 (d := ?zd2) ?_ ?_
   rotate_left
   ·simp only [EVT, resR, single, evLoad, cut, TIS, CS, reduceAdd, reduceEqDiff, ↓reduceIte, reduceCtorEq, reduceLT, reduceLeDiff, reduceSub, Nat.reduceBEq]
    (repeat' apply And.intro) <;> first | rfl | assumption | omega | (simp; done)
   exact ZZ
def ref25_SameDisk_f (a1 : Disk) (b1 : Disk) : Option Bool :=
 (ref25_pages_f a1.synced b1.synced).bind fun r1 => cond r1 ((ref25_pages_f a1.loose b1.loose).bind fun r2 => some (r2 && (a1.down == b1.down))) (some (false))
theorem ref25_SameDisk_pc {a1 : Disk} {b1 : Disk} {r : Bool} (H : ref25_SameDisk_f a1 b1 = some r) : PC Tryz.prog 70 [.agg (Disk.c a1), .agg (Disk.c b1)] (.bool r) := by
 refine pcA_of Tryz.func70 (by rfl) (by decide) 24 (by rfl) [.tmp 4] (by rfl) ?_
 unfold ref25_SameDisk_f at H
 simp only [ent]
 refine a_srC _ rfl ?_
 refine a_seq ?_
 obtain ⟨r1, zh1, H⟩ := bind_some H
 have zk1 := ref25_pages_pc zh1
 refine cnd H (fun zc1 H => ?_) (fun zc1 H => ?_)
 ·obtain ⟨r2, zh2, H⟩ := bind_some H
  have zk2 := ref25_pages_pc zh2
  refine bool_split (b := r2) (fun zc2 => ?_) (fun zc2 => ?_)
  ·rw [zc2] at H
   refine a_reg _ rfl (s := ?zs2) ?_ ?_
   rotate_left
   ·try refine goS ?_
    repeat' with_reducible apply And.intro
    all_goals try ((with_reducible show CallR _ _ _ _ _ _ _); refine cR_s zk1 ZZ (.bool _) ?_; refine goS ?_)
    repeat' with_reducible apply And.intro
    all_goals try ((with_reducible show CallR _ _ _ _ _ _ _); refine cR_s zk2 ZZ (.bool _) ?_; refine goS ?_)
    all_goals ((repeat' apply And.intro) <;> first|rfl|assumption|omega|(simp;done)|(simp;omega)|(simp_all;done))
   refine sA_n ?_
   exact a_ret RT
  ·rw [zc2] at H
   refine a_reg _ rfl (s := ?zs3) ?_ ?_
   rotate_left
   ·try refine goS ?_
    repeat' with_reducible apply And.intro
    all_goals try ((with_reducible show CallR _ _ _ _ _ _ _); refine cR_s zk1 ZZ (.bool _) ?_; refine goS ?_)
    repeat' with_reducible apply And.intro
    all_goals try ((with_reducible show CallR _ _ _ _ _ _ _); refine cR_s zk2 ZZ (.bool _) ?_; refine goS ?_)
    all_goals ((repeat' apply And.intro) <;> first|rfl|assumption|omega|(simp;done)|(simp;omega)|(simp_all;done))
   refine sA_n ?_
   refine a_ret ?_
   obtain rfl := Option.some.inj H
   refine e_r2 (d := ?zd2) ?_ ?_
   rotate_left
   ·simp only [EVT, resR, single, evLoad, cut, TIS, CS, reduceAdd, reduceEqDiff, ↓reduceIte, reduceCtorEq, reduceLT, reduceLeDiff, reduceSub, Nat.reduceBEq, zc1, zc2]
    (repeat' apply And.intro) <;> first | rfl | assumption | omega | (simp; done)
   exact ZZ
 ·refine a_reg _ rfl (s := ?zs4) ?_ ?_
  rotate_left
  ·try refine goS ?_
   repeat' with_reducible apply And.intro
   all_goals try ((with_reducible show CallR _ _ _ _ _ _ _); refine cR_s zk1 (.cons (.lst _ _ _ Page.pu rfl) (.cons (.lst _ _ _ Page.pu rfl) .nil)) (.bool _) ?_; refine goZ1 ?_)
   all_goals ((repeat' apply And.intro) <;> first|rfl|assumption|omega|(simp;done)|(simp;omega)|(simp_all;done))
  refine sA_n ?_
  refine a_ret ?_
  obtain rfl := Option.some.inj H
  refine e_r2 (d := ?zd3) ?_ ?_
  rotate_left
  ·simp only [EVT, resR, single, evLoad, cut, TIS, CS, reduceAdd, reduceEqDiff, ↓reduceIte, reduceCtorEq, reduceLT, reduceLeDiff, reduceSub, Nat.reduceBEq, zc1]
   (repeat' apply And.intro) <;> first | rfl | assumption | omega | (simp; done)
  exact (.bool' (by first | rfl | assumption | (simp_all; done)))
def ref27_SameDisks_J1 : Option Bool :=
 some (true)
def ref27_SameDisks_L1 (a1 : List Disk) (b1 : List Disk) : Nat → Int → Option Bool
 | 0, _ => none
 | m_ + 1, i1 => cond (decide (i1 < (a1.length : Int))) ((idx a1 i1).bind fun x1 => (idx b1 i1).bind fun x2 => (ref25_SameDisk_f x1 x2).bind fun r1 => cond (!r1) (some (false)) (ref27_SameDisks_L1 a1 b1 m_ (IntKind.wrap .i64 (i1 + 1)))) (ref27_SameDisks_J1)
def ref27_SameDisks_f (a1 : List Disk) (b1 : List Disk) : Option Bool :=
 cond ((a1.length : Int) != (b1.length : Int)) (some (false)) (ref27_SameDisks_L1 a1 b1 BIG 0)
theorem ref27_SameDisks_pc {a1 : List Disk} {b1 : List Disk} {r : Bool} (H : ref27_SameDisks_f a1 b1 = some r) : PC Tryz.prog 27 [.list 3 (a1.map Disk.c), .list 3 (b1.map Disk.c)] (.bool r) := by
 refine pcA_of Tryz.func27 (by rfl) (by decide) 27 (by rfl) [.tmp 4] (by rfl) ?_
 unfold ref27_SameDisks_f at H
 simp only [ent]
 refine a_srC _ rfl ?_
 refine a_seq ?_
 refine a_srC _ rfl ?_
 refine a_cnd H (fun zc1 H => ?_) (fun zc1 H => ?_)
 ·refine a_srC _ rfl ?_
  exact a_ret (sA_r RT)
 ·refine a_skip ?_
  refine sA_n ?_
  refine a_cut (fun s => ∃ (t0 : Nat → Dat), ref27_SameDisks_J1 = some r ∧ s = ⟨tl t0 [], hl [], 0, 27⟩) ?_ ?_
  ·refine a_srC _ rfl ?_
   refine a_blk ?_
   refine a_loop (fun m s => ∃ (i1 : Int) (t0 : Nat → Dat), ref27_SameDisks_L1 a1 b1 m i1 = some r ∧ s = ⟨tl t0 [(0, .list 3 (a1.map Disk.c)), (1, .list 3 (b1.map Disk.c)), (5, .int .i64 i1)], hl [], 0, 27⟩) BIG ?_ ?_
   ·exact wk_lA [] [] (fun t0 => ⟨0, t0, H, rfl⟩)
   ·rintro m_ref27_SameDisks_L1 s ⟨i1, t0, H, rfl⟩
    obtain _ | m_ref27_SameDisks_L1 := m_ref27_SameDisks_L1
    ·cases (show (none : Option _) = some _ from H)
    ·rw [ref27_SameDisks_L1] at H
     refine a_seq ?_
     refine a_srC _ rfl ?_
     refine a_cnd H (fun zc2 H => ?_) (fun zc2 H => ?_)
     ·refine a_skip ?_
      refine sA_n ?_
      refine a_seq ?_
      refine a_blk ?_
      refine a_seq ?_
      obtain ⟨x1, zh1, H⟩ := bind_some H
      obtain ⟨zg1, zh1a, zh1b⟩ := idx3 (f := Disk.c) zh1
      try simp only [Int.reduceToNat, Int.toNat_natCast] at zg1
      obtain ⟨x2, zh2, H⟩ := bind_some H
      obtain ⟨zg2, zh2a, zh2b⟩ := idx3 (f := Disk.c) zh2
      try simp only [Int.reduceToNat, Int.toNat_natCast] at zg2
      obtain ⟨r1, zh3, H⟩ := bind_some H
      have zk1 := ref25_SameDisk_pc zh3
      refine a_drW (by kernel_rfl) _ rfl (s := ?zs7) (by kernel_rfl) (by kernel_rfl) ?zs7f ?_ ?_ ?_
      rotate_left 2
      ·try refine goS ?_
       repeat' with_reducible apply And.intro
       all_goals try ((with_reducible show CallW _ _ _ _ _ _ _); refine cW_s [] zk1 (fun h2 e => ZZ) (.bool _) ?_; refine goS ?_)
       all_goals exact CLS
      ·kernel_rfl
      refine sA_n ?_
      refine a_cnd H (fun zc3 H => ?_) (fun zc3 H => ?_)
      ·refine a_srC _ rfl ?_
       refine a_ret ?_
       refine bA_r ?_
       refine sA_r ?_
       refine lA_r ?_
       refine bA_r ?_
       refine cA_r ?_
       obtain rfl := Option.some.inj H
       refine e_r2 (d := ?zd3) ?_ ?_
       rotate_left
       ·simp only [EVT, resR, single, evLoad, cut, TIS, CS, reduceAdd, reduceEqDiff, ↓reduceIte, reduceCtorEq, reduceLT, reduceLeDiff, reduceSub, Nat.reduceBEq, zc2, zg1, zg2, zc3]
        (repeat' apply And.intro) <;> first | rfl | assumption | omega | (simp; done)
       exact ZZ
      ·refine a_skip ?_
       refine bA_n ?_
       refine sA_n ?_
       refine a_regC _ rfl ?_
       refine lA_n ?_
       exact wk_lA [] [] (fun t0 => ⟨_, Nat.lt_succ_self _, (IntKind.wrap .i64 (i1 + 1)), t0, H, rfl⟩)
     ·refine a_exit ?_
      refine sA_e ?_
      refine lA_e ?_
      refine bA_hit ?_
      refine cA_n ?_
      exact wk_lA [] [] (fun t0 => ⟨t0, H, rfl⟩)
  ·rintro s ⟨t0, H, rfl⟩
   unfold ref27_SameDisks_J1 at H
   refine a_srC _ rfl ?_
   refine a_ret ?_
   obtain rfl := Option.some.inj H
   refine e_r2 (d := ?zd2) ?_ ?_
   rotate_left
   ·simp only [EVT, resR, single, evLoad, cut, TIS, CS, reduceAdd, reduceEqDiff, ↓reduceIte, reduceCtorEq, reduceLT, reduceLeDiff, reduceSub, Nat.reduceBEq]
    (repeat' apply And.intro) <;> first | rfl | assumption | omega | (simp; done)
   exact ZZ
def top_TopPatched_J5 (r1 : Bool) : Option Bool :=
 some (r1)
def top_TopPatched_J6 (k_top_TopPatched_L1 : Int → Option Bool) (i1 : Int) (v3 : Bool) : Option Bool :=
 cond v3 (some (false)) (k_top_TopPatched_L1 (IntKind.wrap .i64 (i1 + 1)))
def top_TopPatched_L1 (x1 : Chain) (disks1 : List Disk) (r4 : (List Job) × (List Int)) (r1 : Bool) : Nat → Int → Option Bool
 | 0, _ => none
 | m_ + 1, i1 => cond (decide (i1 < (x1.servers.length : Int))) ((idx x1.servers i1).bind fun x2 => (chain_Patch_f x1 disks1 x2).bind fun r5 => top_TopPatched_J6 (top_TopPatched_L1 x1 disks1 r4 r1 m_) i1 ((!((r5.2 == 260) == ((r4.2.length : Int) == 1))) || ((r5.2 != 0) && (r5.2 != 260)))) (top_TopPatched_J5 r1)
def top_TopPatched_J4 (x1 : Chain) (disks1 : List Disk) (r4 : (List Job) × (List Int)) (r1 : Bool) : Option Bool :=
 top_TopPatched_L1 x1 disks1 r4 r1 BIG 0
def top_TopPatched_J7 (k_top_TopPatched_L2 : Int → Option Bool) (i2 : Int) (v4 : Bool) : Option Bool :=
 cond v4 (some (false)) (k_top_TopPatched_L2 (IntKind.wrap .i64 (i2 + 1)))
def top_TopPatched_L2 (r4 : (List Job) × (List Int)) (disks1 : List Disk) (x1 : Chain) (r1 : Bool) : Nat → Int → Option Bool
 | 0, _ => none
 | m_ + 1, i2 => cond (decide (i2 < (r4.1.length : Int))) ((idx r4.1 i2).bind fun x3 => (scrub_Copy_f disks1 x3).bind fun r6 => (chain_Patch_f x1 disks1 x3.to_).bind fun r7 => cond (r6.2 != 0) (top_TopPatched_J7 (top_TopPatched_L2 r4 disks1 x1 r1 m_) i2 true) (cond (r7.2 != 0) (top_TopPatched_J7 (top_TopPatched_L2 r4 disks1 x1 r1 m_) i2 true) ((ref27_SameDisks_f r6.1 r7.1).bind fun r8 => top_TopPatched_J7 (top_TopPatched_L2 r4 disks1 x1 r1 m_) i2 (!r8)))) (top_TopPatched_J4 x1 disks1 r4 r1)
def top_TopPatched_J3 (disks1 : List Disk) (r2 : (List Disk) × (List Chain) × Bool) (x1 : Chain) (r1 : Bool) (v2 : Bool) : Option Bool :=
 cond v2 (some (false)) ((scrub_Plan_f disks1 r2.2.1).bind fun r4 => top_TopPatched_L2 r4 disks1 x1 r1 BIG 0)
def top_TopPatched_J2 (x1 : Chain) (r2 : (List Disk) × (List Chain) × Bool) (r1 : Bool) (disks1 : List Disk) : Option Bool :=
 (chain_Right_f x1 disks1).bind fun r9 => cond (!r9) (top_TopPatched_J3 disks1 r2 x1 r1 true) ((scrub_Right_f r2.2.1).bind fun r10 => cond (!r10) (top_TopPatched_J3 disks1 r2 x1 r1 true) ((chain_Intact_f x1 disks1).bind fun r11 => (scrub_Intact_f disks1 x1).bind fun r12 => (ref02_Ints_f r11 r12).bind fun r13 => top_TopPatched_J3 disks1 r2 x1 r1 (!r13)))
def top_TopPatched_L3 (hurts1 : List HurtR14) (x1 : Chain) (r2 : (List Disk) × (List Chain) × Bool) (r1 : Bool) : Nat → (List Disk) → Int → Option Bool
 | 0, _, _ => none
 | m_ + 1, disks2, i3 => cond (decide (i3 < (hurts1.length : Int))) ((idx hurts1 i3).bind fun x4 => (top_hurtR14_f disks2 x4 1).bind fun r14 => top_TopPatched_L3 hurts1 x1 r2 r1 m_ r14 (IntKind.wrap .i64 (i3 + 1))) (top_TopPatched_J2 x1 r2 r1 disks2)
def top_TopPatched_J1 (r1 : Bool) (r2 : (List Disk) × (List Chain) × Bool) (data1 : List Int) (upto1 : Int) (hurts1 : List HurtR14) (n1 : Int) (v1 : Bool) : Option Bool :=
 cond v1 (cond r1 (some (r2.2.2)) (some (false))) ((idx r2.2.1 0).bind fun x1 => (chain_Write_f x1 r2.1 data1 (Int.tmod (IntKind.wrap .i64 upto1) 4)).bind fun r3 => cond ((r3.1.length : Int) != n1) (some (false)) (top_TopPatched_L3 hurts1 x1 r2 r1 BIG r3.1 0))
def top_TopPatched_f (servers1 : Int) (hurts1 : List HurtR14) (data1 : List Int) (upto1 : Int) : Option Bool :=
 (top_head29_f).bind fun r1 => (top_farmR14_f (IntKind.wrap .i64 (3 + (Int.tmod (IntKind.wrap .i64 servers1) 4))) 1).bind fun r2 => top_TopPatched_J1 r1 r2 data1 upto1 hurts1 (IntKind.wrap .i64 (3 + (Int.tmod (IntKind.wrap .i64 servers1) 4))) ((!r2.2.2) || (((r2.2.1.length : Int) != 1) || ((decide (20 < (hurts1.length : Int))) || (decide (64 < (data1.length : Int))))))
theorem top_TopPatched_pc {servers1 : Int} {hurts1 : List HurtR14} {data1 : List Int} {upto1 : Int} {r : Bool} (H : top_TopPatched_f servers1 hurts1 data1 upto1 = some r) : PC Tryz.prog 4 [.int .u8 servers1, .list 4 (hurts1.map HurtR14.c), .list 1 (data1.map (ci .u8)), .int .u8 upto1] (.bool r) := by
 refine pcA_of Tryz.func4 (by rfl) (by decide) 183 (by rfl) [.tmp 8] (by rfl) ?_
 unfold top_TopPatched_f at H
 simp only [ent]
 refine a_srC _ rfl ?_
 refine a_seq ?_
 obtain ⟨r1, zh1, H⟩ := bind_some H
 have zk1 := top_head29_pc zh1
 refine a_regK _ rfl ?_
 refine sA_n ?_
 refine a_srC _ rfl ?_
 refine a_seq ?_
 obtain ⟨r2, zh2, H⟩ := bind_some H
 have zk2 := top_farmR14_pc zh2
 refine a_regK _ rfl ?_
 refine sA_n ?_
 refine a_seq ?_
 refine a_cut (fun s => ∃ (n1 : Int) (v1 : Bool) (t0 : Nat → Dat), top_TopPatched_J1 r1 r2 data1 upto1 hurts1 n1 v1 = some r ∧ s = ⟨tl t0 [(1, .list 4 (hurts1.map HurtR14.c)), (2, .list 1 (data1.map (ci .u8))), (3, .int .u8 upto1), (9, .bool r1), (10, .int .i64 n1), (11, .list 3 (r2.1.map Disk.c)), (12, .list 3 (r2.2.1.map Chain.c)), (13, .bool r2.2.2), (53, .bool v1)], hl [], 0, 183⟩) ?_ ?_
 ·refine bool_split (b := (!r2.2.2)) (fun zc16 => ?_) (fun zc16 => ?_)
  ·rw [zc16] at H
   refine a_regC _ rfl ?_
   refine cA_n ?_
   exact wk_lA [] [] (fun t0 => ⟨(IntKind.wrap .i64 (3 + (Int.tmod (IntKind.wrap .i64 servers1) 4))), true, t0, H, rfl⟩)
  ·rw [zc16] at H
   refine bool_split (b := ((r2.2.1.length : Int) != 1)) (fun zc17 => ?_) (fun zc17 => ?_)
   ·rw [zc17] at H
    refine a_regC _ rfl ?_
    refine cA_n ?_
    exact wk_lA [] [] (fun t0 => ⟨(IntKind.wrap .i64 (3 + (Int.tmod (IntKind.wrap .i64 servers1) 4))), true, t0, H, rfl⟩)
   ·rw [zc17] at H
    refine bool_split (b := (decide (20 < (hurts1.length : Int)))) (fun zc18 => ?_) (fun zc18 => ?_)
    ·rw [zc18] at H
     refine a_regC _ rfl ?_
     refine cA_n ?_
     exact wk_lA [] [] (fun t0 => ⟨(IntKind.wrap .i64 (3 + (Int.tmod (IntKind.wrap .i64 servers1) 4))), true, t0, H, rfl⟩)
    ·rw [zc18] at H
     refine a_regC _ rfl ?_
     refine cA_n ?_
     exact wk_lA [] [] (fun t0 => ⟨(IntKind.wrap .i64 (3 + (Int.tmod (IntKind.wrap .i64 servers1) 4))), (decide (64 < (data1.length : Int))), t0, H, rfl⟩)
 ·rintro s ⟨n1, v1, t0, H, rfl⟩
  unfold top_TopPatched_J1 at H
  refine a_cnd H (fun zc1 H => ?_) (fun zc1 H => ?_)
  ·refine a_seq ?_
   refine cnd H (fun zc2 H => ?_) (fun zc2 H => ?_)
   ·refine a_regC _ rfl ?_
    refine sA_n ?_
    exact a_ret (sA_r RT)
   ·refine a_reg _ rfl (s := ?zs6) ?_ ?_
    rotate_left
    ·refine goZ2 ?_
     try refine goZ2 ?_
     (repeat' apply And.intro) <;> first|rfl|assumption|omega|(simp;done)|(simp;omega)|(simp_all;done)
    refine sA_n ?_
    refine a_ret ?_
    refine sA_r ?_
    obtain rfl := Option.some.inj H
    refine e_r2 (d := ?zd2) ?_ ?_
    rotate_left
    ·simp only [EVT, resR, single, evLoad, cut, TIS, CS, reduceAdd, reduceEqDiff, ↓reduceIte, reduceCtorEq, reduceLT, reduceLeDiff, reduceSub, Nat.reduceBEq, zc1, zc2]
     (repeat' apply And.intro) <;> first | rfl | assumption | omega | (simp; done)
    exact ZZ
  ·refine a_skip ?_
   refine sA_n ?_
   refine a_seq ?_
   obtain ⟨x1, zh3, H⟩ := bind_some H
   obtain ⟨zg1, zh3a, zh3b⟩ := idx3 (f := Chain.c) zh3
   try simp only [Int.reduceToNat, Int.toNat_natCast] at zg1
   refine a_regC _ rfl ?_
   refine sA_n ?_
   refine a_seq ?_
   obtain ⟨r3, zh4, H⟩ := bind_some H
   have zk3 := chain_Write_pc zh4
   refine a_regK _ rfl ?_
   refine sA_n ?_
   refine a_seq ?_
   refine a_srC _ rfl ?_
   refine a_cnd H (fun zc3 H => ?_) (fun zc3 H => ?_)
   ·refine a_srC _ rfl ?_
    refine a_ret ?_
    refine sA_r ?_
    obtain rfl := Option.some.inj H
    refine e_r2 (d := ?zd3) ?_ ?_
    rotate_left
    ·simp only [EVT, resR, single, evLoad, cut, TIS, CS, reduceAdd, reduceEqDiff, ↓reduceIte, reduceCtorEq, reduceLT, reduceLeDiff, reduceSub, Nat.reduceBEq, zc1, zg1, zc3]
     (repeat' apply And.intro) <;> first | rfl | assumption | omega | (simp; done)
    exact ZZ
   ·refine a_skip ?_
    refine sA_n ?_
    refine a_cut (fun s => ∃ (disks1 : List Disk) (t0 : Nat → Dat), top_TopPatched_J2 x1 r2 r1 disks1 = some r ∧ s = ⟨tl t0 [(9, .bool r1), (11, .list 3 (disks1.map Disk.c)), (12, .list 3 (r2.2.1.map Chain.c)), (14, .ptr 0 0 0 3)], hl [⟨30, 3, false, [Chain.c x1]⟩], 1, 183⟩) ?_ ?_
    ·refine a_srC _ rfl ?_
     refine a_blk ?_
     refine a_loop (fun m s => ∃ (disks2 : List Disk) (i3 : Int) (t0 : Nat → Dat), top_TopPatched_L3 hurts1 x1 r2 r1 m disks2 i3 = some r ∧ s = ⟨tl t0 [(1, .list 4 (hurts1.map HurtR14.c)), (9, .bool r1), (11, .list 3 (disks2.map Disk.c)), (12, .list 3 (r2.2.1.map Chain.c)), (14, .ptr 0 0 0 3), (15, .int .i64 i3)], hl [⟨30, 3, false, [Chain.c x1]⟩], 1, 183⟩) BIG ?_ ?_
     ·exact wk_lA [(some 3, _)] [] (fun t0 => ⟨r3.1, 0, t0, H, rfl⟩)
     ·rintro m_top_TopPatched_L3 s ⟨disks2, i3, t0, H, rfl⟩
      obtain _ | m_top_TopPatched_L3 := m_top_TopPatched_L3
      ·cases (show (none : Option _) = some _ from H)
      ·rw [top_TopPatched_L3] at H
       refine a_seq ?_
       refine a_srC _ rfl ?_
       refine a_cnd H (fun zc15 H => ?_) (fun zc15 H => ?_)
       ·refine a_skip ?_
        refine sA_n ?_
        refine a_seq ?_
        refine a_blk ?_
        obtain ⟨x4, zh17, H⟩ := bind_some H
        obtain ⟨zg4, zh17a, zh17b⟩ := idx3 (f := HurtR14.c) zh17
        try simp only [Int.reduceToNat, Int.toNat_natCast] at zg4
        obtain ⟨r14, zh18, H⟩ := bind_some H
        have zk14 := top_hurtR14_pc zh18
        refine a_regK _ rfl ?_
        refine bA_n ?_
        refine sA_n ?_
        refine a_regC _ rfl ?_
        refine lA_n ?_
        exact wk_lA [(some 0, _)] [] (fun t0 => ⟨_, Nat.lt_succ_self _, r14, (IntKind.wrap .i64 (i3 + 1)), t0, H, rfl⟩)
       ·refine a_exit ?_
        refine sA_e ?_
        refine lA_e ?_
        refine bA_hit ?_
        refine cA_n ?_
        exact wk_lA [(some 0, _)] [] (fun t0 => ⟨disks2, t0, H, rfl⟩)
    ·rintro s ⟨disks1, t0, H, rfl⟩
     unfold top_TopPatched_J2 at H
     refine a_seq ?_
     refine a_cut (fun s => ∃ (v2 : Bool) (t0 : Nat → Dat), top_TopPatched_J3 disks1 r2 x1 r1 v2 = some r ∧ s = ⟨tl t0 [(9, .bool r1), (11, .list 3 (disks1.map Disk.c)), (12, .list 3 (r2.2.1.map Chain.c)), (14, .ptr 0 0 0 3), (105, .bool v2)], hl [⟨30, 3, false, [Chain.c x1]⟩], 1, 183⟩) ?_ ?_
     ·obtain ⟨r9, zh12, H⟩ := bind_some H
      have zk9 := chain_Right_pc zh12
      refine cnd H (fun zc13 H => ?_) (fun zc13 H => ?_)
      ·refine a_drW (by kernel_rfl) _ rfl (s := ?zs31) (by kernel_rfl) (by kernel_rfl) ?zs31f ?_ ?_ ?_
       rotate_left 2
       ·try refine goS ?_
        repeat' with_reducible apply And.intro
        all_goals try ((with_reducible show CallW _ _ _ _ _ _ _); refine cW_s [] zk9 (fun h2 e => ZZ) (.bool _) ?_; refine goS ?_)
        all_goals exact CLS
       ·kernel_rfl
       refine cA_n ?_
       exact wk_lA [(some 0, _)] [] (fun t0 => ⟨true, t0, H, rfl⟩)
      ·obtain ⟨r10, zh13, H⟩ := bind_some H
       have zk10 := scrub_Right_pc zh13
       refine cnd H (fun zc14 H => ?_) (fun zc14 H => ?_)
       ·refine a_drW (by kernel_rfl) _ rfl (s := ?zs32) (by kernel_rfl) (by kernel_rfl) ?zs32f ?_ ?_ ?_
        rotate_left 2
        ·try refine goS ?_
         repeat' with_reducible apply And.intro
         all_goals try ((with_reducible show CallW _ _ _ _ _ _ _); refine cW_s [] zk9 (fun h2 e => ZZ) (.bool _) ?_; refine goS ?_)
         repeat' with_reducible apply And.intro
         all_goals try ((with_reducible show CallW _ _ _ _ _ _ _); refine cW_s [] zk10 (fun h2 e => ZZ) (.bool _) ?_; refine goS ?_)
         all_goals exact CLS
        ·kernel_rfl
        refine cA_n ?_
        exact wk_lA [(some 0, _)] [] (fun t0 => ⟨true, t0, H, rfl⟩)
       ·obtain ⟨r11, zh14, H⟩ := bind_some H
        have zk11 := chain_Intact_pc zh14
        obtain ⟨r12, zh15, H⟩ := bind_some H
        have zk12 := scrub_Intact_pc zh15
        obtain ⟨r13, zh16, H⟩ := bind_some H
        have zk13 := ref02_Ints_pc zh16
        refine a_drW (by kernel_rfl) _ rfl (s := ?zs33) (by kernel_rfl) (by kernel_rfl) ?zs33f ?_ ?_ ?_
        rotate_left 2
        ·try refine goS ?_
         repeat' with_reducible apply And.intro
         all_goals try ((with_reducible show CallW _ _ _ _ _ _ _); refine cW_s [] zk9 (fun h2 e => ZZ) (.bool _) ?_; refine goS ?_)
         repeat' with_reducible apply And.intro
         all_goals try ((with_reducible show CallW _ _ _ _ _ _ _); refine cW_s [] zk10 (fun h2 e => ZZ) (.bool _) ?_; refine goS ?_)
         repeat' with_reducible apply And.intro
         all_goals try ((with_reducible show CallW _ _ _ _ _ _ _); refine cW_p [] zk11 (fun h2 e => ZZ) ?_; refine goS ?_)
         repeat' with_reducible apply And.intro
         all_goals try ((with_reducible show CallW _ _ _ _ _ _ _); refine cW_p [] zk12 (fun h2 e => ZZ) ?_; refine goS ?_)
         repeat' with_reducible apply And.intro
         all_goals try ((with_reducible show CallW _ _ _ _ _ _ _); refine cW_s [] zk13 (fun h2 e => ZZ) (.bool _) ?_; refine goS ?_)
         all_goals exact CLS
        ·kernel_rfl
        refine cA_n ?_
        exact wk_lA [(some 0, _)] [] (fun t0 => ⟨(!r13), t0, H, rfl⟩)
     ·rintro s ⟨v2, t0, H, rfl⟩
      unfold top_TopPatched_J3 at H
      refine a_cnd H (fun zc4 H => ?_) (fun zc4 H => ?_)
      ·refine a_srC _ rfl ?_
       refine a_ret ?_
       refine sA_r ?_
       obtain rfl := Option.some.inj H
       refine e_r2 (d := ?zd4) ?_ ?_
       rotate_left
       ·simp only [EVT, resR, single, evLoad, cut, TIS, CS, reduceAdd, reduceEqDiff, ↓reduceIte, reduceCtorEq, reduceLT, reduceLeDiff, reduceSub, Nat.reduceBEq, zc4]
        (repeat' apply And.intro) <;> first | rfl | assumption | omega | (simp; done)
       exact ZZ
      ·refine a_skip ?_
       refine sA_n ?_
       refine a_seq ?_
       obtain ⟨r4, zh5, H⟩ := bind_some H
       have zk4 := scrub_Plan_pc zh5
       refine a_regK _ rfl ?_
       refine sA_n ?_
       refine a_cut (fun s => ∃ (t0 : Nat → Dat), top_TopPatched_J4 x1 disks1 r4 r1 = some r ∧ s = ⟨tl t0 [(9, .bool r1), (11, .list 3 (disks1.map Disk.c)), (14, .ptr 0 0 0 3), (17, .list 1 (r4.2.map (ci .i64)))], hl [⟨30, 3, false, [Chain.c x1]⟩], 1, 183⟩) ?_ ?_
       ·refine a_srC _ rfl ?_
        refine a_blk ?_
        refine a_loop (fun m s => ∃ (i2 : Int) (t0 : Nat → Dat), top_TopPatched_L2 r4 disks1 x1 r1 m i2 = some r ∧ s = ⟨tl t0 [(9, .bool r1), (11, .list 3 (disks1.map Disk.c)), (14, .ptr 0 0 0 3), (16, .list 6 (r4.1.map Job.c)), (17, .list 1 (r4.2.map (ci .i64))), (18, .int .i64 i2)], hl [⟨30, 3, false, [Chain.c x1]⟩], 1, 183⟩) BIG ?_ ?_
        ·exact wk_lA [(some 0, _)] [] (fun t0 => ⟨0, t0, H, rfl⟩)
        ·rintro m_top_TopPatched_L2 s ⟨i2, t0, H, rfl⟩
         obtain _ | m_top_TopPatched_L2 := m_top_TopPatched_L2
         ·cases (show (none : Option _) = some _ from H)
         ·rw [top_TopPatched_L2] at H
          refine a_seq ?_
          refine a_srC _ rfl ?_
          refine a_cnd H (fun zc9 H => ?_) (fun zc9 H => ?_)
          ·refine a_skip ?_
           refine sA_n ?_
           refine a_seq ?_
           refine a_blk ?_
           refine a_seq ?_
           obtain ⟨x3, zh8, H⟩ := bind_some H
           obtain ⟨zg3, zh8a, zh8b⟩ := idx3 (f := Job.c) zh8
           try simp only [Int.reduceToNat, Int.toNat_natCast] at zg3
           obtain ⟨r6, zh9, H⟩ := bind_some H
           have zk6 := scrub_Copy_pc zh9
           refine a_regK _ rfl ?_
           refine sA_n ?_
           refine a_seq ?_
           obtain ⟨r7, zh10, H⟩ := bind_some H
           have zk7 := chain_Patch_pc zh10
           refine a_drW (by kernel_rfl) _ rfl (s := ?zs25) (by kernel_rfl) (by kernel_rfl) ?zs25f ?_ ?_ ?_
           rotate_left 2
           ·try refine goS ?_
            repeat' with_reducible apply And.intro
            all_goals try ((with_reducible show CallW _ _ _ _ _ _ _); refine cW_p [] zk7 (fun h2 e => ZZ) ?_; refine goS ?_)
            all_goals exact CLS
           ·kernel_rfl
           refine sA_n ?_
           refine a_cut (fun s => ∃ (v4 : Bool) (t0 : Nat → Dat), top_TopPatched_J7 (top_TopPatched_L2 r4 disks1 x1 r1 m_top_TopPatched_L2) i2 v4 = some r ∧ s = ⟨tl t0 [(9, .bool r1), (11, .list 3 (disks1.map Disk.c)), (14, .ptr 0 0 0 3), (16, .list 6 (r4.1.map Job.c)), (17, .list 1 (r4.2.map (ci .i64))), (18, .int .i64 i2), (149, .bool v4)], hl [⟨30, 3, false, [Chain.c x1]⟩], 1, 183⟩) ?_ ?_
           ·refine cnd H (fun zc11 H => ?_) (fun zc11 H => ?_)
            ·refine a_regC _ rfl ?_
             refine cA_n ?_
             exact wk_lA [(some 0, _)] [] (fun t0 => ⟨true, t0, H, rfl⟩)
            ·refine cnd H (fun zc12 H => ?_) (fun zc12 H => ?_)
             ·refine a_regC _ rfl ?_
              refine cA_n ?_
              exact wk_lA [(some 0, _)] [] (fun t0 => ⟨true, t0, H, rfl⟩)
             ·obtain ⟨r8, zh11, H⟩ := bind_some H
              have zk8 := ref27_SameDisks_pc zh11
              refine a_regK _ rfl ?_
              refine cA_n ?_
              exact wk_lA [(some 0, _)] [] (fun t0 => ⟨(!r8), t0, H, rfl⟩)
           ·rintro s ⟨v4, t0, H, rfl⟩
            unfold top_TopPatched_J7 at H
            refine a_cnd H (fun zc10 H => ?_) (fun zc10 H => ?_)
            ·refine a_srC _ rfl ?_
             refine a_ret ?_
             refine bA_r ?_
             refine sA_r ?_
             refine lA_r ?_
             refine bA_r ?_
             refine cA_r ?_
             obtain rfl := Option.some.inj H
             refine e_r2 (d := ?zd7) ?_ ?_
             rotate_left
             ·simp only [EVT, resR, single, evLoad, cut, TIS, CS, reduceAdd, reduceEqDiff, ↓reduceIte, reduceCtorEq, reduceLT, reduceLeDiff, reduceSub, Nat.reduceBEq, zc10]
              (repeat' apply And.intro) <;> first | rfl | assumption | omega | (simp; done)
             exact ZZ
            ·refine a_skip ?_
             refine bA_n ?_
             refine sA_n ?_
             refine a_regC _ rfl ?_
             refine lA_n ?_
             exact wk_lA [(some 0, _)] [] (fun t0 => ⟨_, Nat.lt_succ_self _, (IntKind.wrap .i64 (i2 + 1)), t0, H, rfl⟩)
          ·refine a_exit ?_
           refine sA_e ?_
           refine lA_e ?_
           refine bA_hit ?_
           refine cA_n ?_
           exact wk_lA [(some 0, _)] [] (fun t0 => ⟨t0, H, rfl⟩)
       ·rintro s ⟨t0, H, rfl⟩
        unfold top_TopPatched_J4 at H
        refine a_cut (fun s => ∃ (t0 : Nat → Dat), top_TopPatched_J5 r1 = some r ∧ s = ⟨tl t0 [(9, .bool r1)], hl [], 0, 183⟩) ?_ ?_
        ·refine a_srC _ rfl ?_
         refine a_blk ?_
         refine a_loop (fun m s => ∃ (i1 : Int) (t0 : Nat → Dat), top_TopPatched_L1 x1 disks1 r4 r1 m i1 = some r ∧ s = ⟨tl t0 [(9, .bool r1), (11, .list 3 (disks1.map Disk.c)), (14, .ptr 0 0 0 3), (17, .list 1 (r4.2.map (ci .i64))), (23, .int .i64 i1)], hl [⟨30, 3, false, [Chain.c x1]⟩], 1, 183⟩) BIG ?_ ?_
         ·exact wk_lA [(some 0, _)] [] (fun t0 => ⟨0, t0, H, rfl⟩)
         ·rintro m_top_TopPatched_L1 s ⟨i1, t0, H, rfl⟩
          obtain _ | m_top_TopPatched_L1 := m_top_TopPatched_L1
          ·cases (show (none : Option _) = some _ from H)
          ·rw [top_TopPatched_L1] at H
           refine a_seq ?_
           refine a_srC _ rfl ?_
           refine a_cnd H (fun zc5 H => ?_) (fun zc5 H => ?_)
           ·refine a_skip ?_
            refine sA_n ?_
            refine a_seq ?_
            refine a_blk ?_
            refine a_seq ?_
            obtain ⟨x2, zh6, H⟩ := bind_some H
            obtain ⟨zg2, zh6a, zh6b⟩ := idx3 (f := (ci .i64)) zh6
            try simp only [Int.reduceToNat, Int.toNat_natCast] at zg2
            obtain ⟨r5, zh7, H⟩ := bind_some H
            have zk5 := chain_Patch_pc zh7
            refine a_drW (by kernel_rfl) _ rfl (s := ?zs16) (by kernel_rfl) (by kernel_rfl) ?zs16f ?_ ?_ ?_
            rotate_left 2
            ·try refine goS ?_
             repeat' with_reducible apply And.intro
             all_goals try ((with_reducible show CallW _ _ _ _ _ _ _); refine cW_p [] zk5 (fun h2 e => ZZ) ?_; refine goS ?_)
             all_goals exact CLS
            ·kernel_rfl
            refine sA_n ?_
            refine a_cut (fun s => ∃ (v3 : Bool) (t0 : Nat → Dat), top_TopPatched_J6 (top_TopPatched_L1 x1 disks1 r4 r1 m_top_TopPatched_L1) i1 v3 = some r ∧ s = ⟨tl t0 [(9, .bool r1), (11, .list 3 (disks1.map Disk.c)), (14, .ptr 0 0 0 3), (17, .list 1 (r4.2.map (ci .i64))), (23, .int .i64 i1), (181, .bool v3)], hl [⟨30, 3, false, [Chain.c x1]⟩], 1, 183⟩) ?_ ?_
            ·refine bool_split (b := (!((r5.2 == 260) == ((r4.2.length : Int) == 1)))) (fun zc7 => ?_) (fun zc7 => ?_)
             ·rw [zc7] at H
              refine a_regC _ rfl ?_
              refine cA_n ?_
              exact wk_lA [(some 0, _)] [] (fun t0 => ⟨true, t0, H, rfl⟩)
             ·rw [zc7] at H
              refine bool_split (b := (r5.2 != 0)) (fun zc8 => ?_) (fun zc8 => ?_)
              ·rw [zc8] at H
               refine a_regC _ rfl ?_
               refine cA_n ?_
               exact wk_lA [(some 0, _)] [] (fun t0 => ⟨(r5.2 != 260), t0, H, rfl⟩)
              ·rw [zc8] at H
               refine a_regC _ rfl ?_
               refine cA_n ?_
               exact wk_lA [(some 0, _)] [] (fun t0 => ⟨false, t0, H, rfl⟩)
            ·rintro s ⟨v3, t0, H, rfl⟩
             unfold top_TopPatched_J6 at H
             refine a_cnd H (fun zc6 H => ?_) (fun zc6 H => ?_)
             ·refine a_srC _ rfl ?_
              refine a_ret ?_
              refine bA_r ?_
              refine sA_r ?_
              refine lA_r ?_
              refine bA_r ?_
              refine cA_r ?_
              obtain rfl := Option.some.inj H
              refine e_r2 (d := ?zd6) ?_ ?_
              rotate_left
              ·simp only [EVT, resR, single, evLoad, cut, TIS, CS, reduceAdd, reduceEqDiff, ↓reduceIte, reduceCtorEq, reduceLT, reduceLeDiff, reduceSub, Nat.reduceBEq, zc6]
               (repeat' apply And.intro) <;> first | rfl | assumption | omega | (simp; done)
              exact ZZ
             ·refine a_skip ?_
              refine bA_n ?_
              refine sA_n ?_
              refine a_regC _ rfl ?_
              refine lA_n ?_
              exact wk_lA [(some 0, _)] [] (fun t0 => ⟨_, Nat.lt_succ_self _, (IntKind.wrap .i64 (i1 + 1)), t0, H, rfl⟩)
           ·refine a_exit ?_
            refine sA_e ?_
            refine lA_e ?_
            refine bA_hit ?_
            refine cA_n ?_
            exact wk_lA [] [] (fun t0 => ⟨t0, H, rfl⟩)
        ·rintro s ⟨t0, H, rfl⟩
         unfold top_TopPatched_J5 at H
         refine a_srC _ rfl ?_
         refine a_ret ?_
         obtain rfl := Option.some.inj H
         refine e_r2 (d := ?zd5) ?_ ?_
         rotate_left
         ·simp only [EVT, resR, single, evLoad, cut, TIS, CS, reduceAdd, reduceEqDiff, ↓reduceIte, reduceCtorEq, reduceLT, reduceLeDiff, reduceSub, Nat.reduceBEq]
          (repeat' apply And.intro) <;> first | rfl | assumption | omega | (simp; done)
         exact ZZ
end
end Go.Proofs.YtjflkcfafijhfaaGreat
