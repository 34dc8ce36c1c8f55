import Derived.Test.YtjflkcfafijhfaaGreatQ29
import Derived.Test.YtjflkcfafijhfaaGreatQ22
import Derived.Test.YtjflkcfafijhfaaGreatQ27
import Derived.Test.YtjflkcfafijhfaaGreatQ32
import Derived.Test.YtjflkcfafijhfaaGreatQ19
set_option linter.unusedSectionVars false
/- Functions of the program as Lean functions, and that they are so; printed by a program of mine. -/
set_option linter.unusedSimpArgs false
set_option linter.unusedVariables false
set_option maxHeartbeats 4000000
set_option maxRecDepth 20000
namespace Go.Proofs.YtjflkcfafijhfaaGreat
open Go.Ab
open Nat (reduceAdd reduceMul reduceEqDiff reduceLT reduceLeDiff reduceSub)
noncomputable section
def top_bytesR14_J1 (out1 : List Int) : Option (List Int) :=
 some (out1)
def top_bytesR14_L1 (id1 : Int) : Nat → (List Int) → Int → Option (List Int)
 | 0, _, _ => none
 | m_ + 1, out2, i1 => cond (decide (i1 < (IntKind.wrap .i64 (5 + (IntKind.wrap .i64 (7 * id1)))))) (chk ((out2.length + 1) * 1 ≤ 140737488355328) (top_bytesR14_L1 id1 m_ (out2 ++ [(IntKind.wrap .u8 (IntKind.wrap .i64 ((IntKind.wrap .i64 (id1 * 16)) + i1)))]) (IntKind.wrap .i64 (i1 + 1)))) (top_bytesR14_J1 out2)
def top_bytesR14_f (id1 : Int) : Option (List Int) :=
 top_bytesR14_L1 id1 BIG [] 0
theorem top_bytesR14_pc {id1 : Int} {r : (List Int)} (H : top_bytesR14_f id1 = some r) : PC Tryz.prog 31 [.int .i64 id1] (.list 1 (r.map (ci .u8))) := by
 refine pcA_of Tryz.func31 (by rfl) (by decide) 21 (by rfl) [.tmp 2] (by rfl) ?_
 unfold top_bytesR14_f at H
 simp only [ent]
 refine a_srC _ rfl ?_
 refine a_srC _ rfl ?_
 refine a_cut (fun s => ∃ (out1 : List Int) (t0 : Nat → Dat), top_bytesR14_J1 out1 = some r ∧ s = ⟨tl t0 [(3, .ref 0 0 out1.length 1)], hl [⟨5, 1, false, out1.map (ci .u8)⟩], 1, 21⟩) ?_ ?_
 ·refine a_srC _ rfl ?_
  refine a_blk ?_
  refine a_loop (fun m s => ∃ (out2 : List Int) (i1 : Int) (t0 : Nat → Dat), top_bytesR14_L1 id1 m out2 i1 = some r ∧ s = ⟨tl t0 [(0, .int .i64 id1), (3, .ref 0 0 out2.length 1), (4, .int .i64 i1)], hl [⟨5, 1, false, out2.map (ci .u8)⟩], 1, 21⟩) BIG ?_ ?_
  ·exact wk_lA [(none, _)] [] (fun t0 => ⟨[], 0, t0, H, rfl⟩)
  ·rintro m_top_bytesR14_L1 s ⟨out2, i1, t0, H, rfl⟩
   obtain _ | m_top_bytesR14_L1 := m_top_bytesR14_L1
   ·cases (show (none : Option _) = some _ from H)
   ·rw [top_bytesR14_L1] at H
    refine a_seq ?_
    refine a_srC _ rfl ?_
    refine a_cnd H (fun zc1 H => ?_) (fun zc1 H => ?_)
    ·refine a_skip ?_
     refine sA_n ?_
     refine a_seq ?_
     refine a_blk ?_
     obtain ⟨zh1, H⟩ := chk_some H
     refine a_regC _ rfl ?_
     refine bA_n ?_
     refine sA_n ?_
     refine a_regC _ rfl ?_
     refine lA_n ?_
     exact wk_lA [(some 48, _)] [] (fun t0 => ⟨_, Nat.lt_succ_self _, (out2 ++ [(IntKind.wrap .u8 (IntKind.wrap .i64 ((IntKind.wrap .i64 (id1 * 16)) + i1)))]), (IntKind.wrap .i64 (i1 + 1)), t0, H, rfl⟩)
    ·refine a_exit ?_
     refine sA_e ?_
     refine lA_e ?_
     refine bA_hit ?_
     refine cA_n ?_
     exact wk_lA [(some 0, _)] [] (fun t0 => ⟨out2, t0, H, rfl⟩)
 ·rintro s ⟨out1, t0, H, rfl⟩
  unfold top_bytesR14_J1 at H
  refine a_srC _ rfl ?_
  exact a_ret RT
def disk_New_f : Option Disk :=
 some ((⟨[], [], false⟩ : Disk))
theorem disk_New_pc {r : Disk} (H : disk_New_f = some r) : PC Tryz.prog 32 [] (.agg (Disk.c r)) := by
 refine pcA_of Tryz.func32 (by rfl) (by decide) 2 (by rfl) [.cell 0 44] (by rfl) ?_
 unfold disk_New_f at H
 simp only [ent]
 refine a_srC _ rfl ?_
 refine a_srC _ rfl ?_
 exact a_ret RT
def slices_Index_J1 : Option Int :=
 some ((-1))
def slices_Index_L1 (s1 : List Int) (v1 : Int) : Nat → Int → Option Int
 | 0, _ => none
 | m_ + 1, v2 => cond (decide (v2 < (s1.length : Int))) ((idx s1 v2).bind fun x1 => cond (v1 == x1) (some (v2)) (slices_Index_L1 s1 v1 m_ (IntKind.wrap .i64 (v2 + 1)))) (slices_Index_J1)
def slices_Index_f (s1 : List Int) (v1 : Int) : Option Int :=
 slices_Index_L1 s1 v1 BIG 0
theorem slices_Index_pc {s1 : List Int} {v1 : Int} {r : Int} (H : slices_Index_f s1 v1 = some r) : PC Tryz.prog 67 [.list 1 (s1.map (ci .i64)), .int .i64 v1] (.int .i64 r) := by
 refine pcA_of Tryz.func67 (by rfl) (by decide) 19 (by rfl) [.tmp 4] (by rfl) ?_
 unfold slices_Index_f at H
 simp only [ent]
 refine a_srC _ rfl ?_
 refine a_cut (fun s => ∃ (t0 : Nat → Dat), slices_Index_J1 = some r ∧ s = ⟨tl t0 [], hl [], 0, 19⟩) ?_ ?_
 ·refine a_srC _ rfl ?_
  refine a_blk ?_
  refine a_loop (fun m s => ∃ (v2 : Int) (t0 : Nat → Dat), slices_Index_L1 s1 v1 m v2 = some r ∧ s = ⟨tl t0 [(0, .list 1 (s1.map (ci .i64))), (1, .int .i64 v1), (7, .int .i64 (s1.length : Int)), (8, .int .i64 v2)], hl [], 0, 19⟩) BIG ?_ ?_
  ·exact wk_lA [] [] (fun t0 => ⟨0, t0, H, rfl⟩)
  ·rintro m_slices_Index_L1 s ⟨v2, t0, H, rfl⟩
   obtain _ | m_slices_Index_L1 := m_slices_Index_L1
   ·cases (show (none : Option _) = some _ from H)
   ·rw [slices_Index_L1] at H
    refine a_srC _ rfl ?_
    refine a_seq ?_
    refine a_cnd H (fun zc1 H => ?_) (fun zc1 H => ?_)
    ·refine a_skip ?_
     refine sA_n ?_
     refine a_seq ?_
     refine a_blk ?_
     refine a_srC _ rfl ?_
     refine a_seq ?_
     obtain ⟨x1, zh1, H⟩ := bind_some H
     obtain ⟨zg1, zh1a, zh1b⟩ := idx3 (f := (ci .i64)) zh1
     try simp only [Int.reduceToNat, Int.toNat_natCast] at zg1
     refine a_regC _ rfl ?_
     refine sA_n ?_
     refine a_cnd H (fun zc2 H => ?_) (fun zc2 H => ?_)
     ·refine a_srC _ rfl ?_
      exact a_ret (bA_r (sA_r (lA_r (bA_r (cA_r RT)))))
     ·refine a_skip ?_
      refine bA_n ?_
      refine sA_n ?_
      refine a_regC _ rfl ?_
      refine lA_n ?_
      exact wk_lA [] [] (fun t0 => ⟨_, Nat.lt_succ_self _, (IntKind.wrap .i64 (v2 + 1)), t0, H, rfl⟩)
    ·refine a_exit ?_
     refine sA_e ?_
     refine lA_e ?_
     refine bA_hit ?_
     refine cA_n ?_
     exact wk_lA [] [] (fun t0 => ⟨t0, H, rfl⟩)
 ·rintro s ⟨t0, H, rfl⟩
  unfold slices_Index_J1 at H
  refine a_srC _ rfl ?_
  refine a_ret ?_
  obtain rfl := Option.some.inj H
  refine e_r2 (d := ?zd1) ?_ ?_
  rotate_left
  ·simp only [EVT, resR, single, evLoad, cut, TIS, CS, reduceAdd, reduceEqDiff, ↓reduceIte, reduceCtorEq, reduceLT, reduceLeDiff, reduceSub, Nat.reduceBEq]
   (repeat' apply And.intro) <;> first | rfl | assumption | omega | (simp; done)
  exact ZZ
def slices_Contains_f (s1 : List Int) (v1 : Int) : Option Bool :=
 (slices_Index_f s1 v1).bind fun r1 => some ((decide (0 ≤ r1)))
theorem slices_Contains_pc {s1 : List Int} {v1 : Int} {r : Bool} (H : slices_Contains_f s1 v1 = some r) : PC Tryz.prog 35 [.list 1 (s1.map (ci .i64)), .int .i64 v1] (.bool r) := by
 refine pcA_of Tryz.func35 (by rfl) (by decide) 9 (by rfl) [.tmp 4] (by rfl) ?_
 unfold slices_Contains_f at H
 simp only [ent]
 refine a_srC _ rfl ?_
 refine a_seq ?_
 obtain ⟨r1, zh1, H⟩ := bind_some H
 have zk1 := slices_Index_pc zh1
 refine a_regK _ rfl ?_
 refine sA_n ?_
 exact a_ret RT
def chain_Right_J1 (c1 : Chain) : Option Bool :=
 some ((decide (0 ≤ c1.id)) && ((decide (c1.id < 200)) && ((decide (1 ≤ c1.ver)) && ((decide (c1.ver ≤ 1099511627776)) && ((decide (1 ≤ (c1.servers.length : Int))) && (decide ((c1.servers.length : Int) ≤ 5)))))))
def chain_Right_J2 (k_chain_Right_L1 : Int → Option Bool) (v1 : Int) (v2 : Bool) : Option Bool :=
 cond v2 (some (false)) (k_chain_Right_L1 (IntKind.wrap .i64 (v1 + 1)))
def chain_Right_L1 (c1 : Chain) (disks1 : List Disk) : Nat → Int → Option Bool
 | 0, _ => none
 | m_ + 1, v1 => cond (decide (v1 < (c1.servers.length : Int))) ((idx c1.servers v1).bind fun x1 => cond (decide (x1 < 0)) (chain_Right_J2 (chain_Right_L1 c1 disks1 m_) v1 true) (cond (decide ((disks1.length : Int) ≤ x1)) (chain_Right_J2 (chain_Right_L1 c1 disks1 m_) v1 true) (chk (0 ≤ 0 ∧ 0 ≤ v1 ∧ v1 ≤ (c1.servers.length : Int)) ((slices_Contains_f ((c1.servers.take v1.toNat).drop 0) x1).bind fun r1 => chain_Right_J2 (chain_Right_L1 c1 disks1 m_) v1 r1)))) (chain_Right_J1 c1)
def chain_Right_f (c1 : Chain) (disks1 : List Disk) : Option Bool :=
 chain_Right_L1 c1 disks1 BIG 0
theorem chain_Right_pc {c1 : Chain} {disks1 : List Disk} {r : Bool} (H : chain_Right_f c1 disks1 = some r) : PC Tryz.prog 19 [.agg (Chain.c c1), .list 3 (disks1.map Disk.c)] (.bool r) := by
 refine pcA_of Tryz.func19 (by rfl) (by decide) 62 (by rfl) [.tmp 4] (by rfl) ?_
 unfold chain_Right_f at H
 simp only [ent]
 refine a_srC _ rfl ?_
 refine a_cut (fun s => ∃ (t0 : Nat → Dat), chain_Right_J1 c1 = some r ∧ s = ⟨tl t0 [(2, .ptr 0 0 0 3)], hl [⟨30, 3, false, [Chain.c c1]⟩], 1, 62⟩) ?_ ?_
 ·refine a_srC _ rfl ?_
  refine a_blk ?_
  refine a_loop (fun m s => ∃ (v1 : Int) (t0 : Nat → Dat), chain_Right_L1 c1 disks1 m v1 = some r ∧ s = ⟨tl t0 [(1, .list 3 (disks1.map Disk.c)), (2, .ptr 0 0 0 3), (8, .list 1 (c1.servers.map (ci .i64))), (9, .int .i64 (c1.servers.length : Int)), (10, .int .i64 v1)], hl [⟨30, 3, false, [Chain.c c1]⟩], 1, 62⟩) BIG ?_ ?_
  ·exact wk_lA [(some 0, _)] [] (fun t0 => ⟨0, t0, H, rfl⟩)
  ·rintro m_chain_Right_L1 s ⟨v1, t0, H, rfl⟩
   obtain _ | m_chain_Right_L1 := m_chain_Right_L1
   ·cases (show (none : Option _) = some _ from H)
   ·rw [chain_Right_L1] at H
    refine a_srC _ rfl ?_
    refine a_seq ?_
    refine a_cnd H (fun zc6 H => ?_) (fun zc6 H => ?_)
    ·refine a_skip ?_
     refine sA_n ?_
     refine a_seq ?_
     refine a_blk ?_
     refine a_seq ?_
     obtain ⟨x1, zh1, H⟩ := bind_some H
     obtain ⟨zg1, zh1a, zh1b⟩ := idx3 (f := (ci .i64)) zh1
     try simp only [Int.reduceToNat, Int.toNat_natCast] at zg1
     refine a_regC _ rfl ?_
     refine sA_n ?_
     refine a_cut (fun s => ∃ (v2 : Bool) (t0 : Nat → Dat), chain_Right_J2 (chain_Right_L1 c1 disks1 m_chain_Right_L1) v1 v2 = some r ∧ s = ⟨tl t0 [(1, .list 3 (disks1.map Disk.c)), (2, .ptr 0 0 0 3), (8, .list 1 (c1.servers.map (ci .i64))), (9, .int .i64 (c1.servers.length : Int)), (10, .int .i64 v1), (30, .bool v2)], hl [⟨30, 3, false, [Chain.c c1]⟩], 1, 62⟩) ?_ ?_
     ·refine cnd H (fun zc8 H => ?_) (fun zc8 H => ?_)
      ·refine a_regC _ rfl ?_
       refine cA_n ?_
       exact wk_lA [(some 0, _)] [] (fun t0 => ⟨true, t0, H, rfl⟩)
      ·refine cnd H (fun zc9 H => ?_) (fun zc9 H => ?_)
       ·refine a_regC _ rfl ?_
        refine cA_n ?_
        exact wk_lA [(some 0, _)] [] (fun t0 => ⟨true, t0, H, rfl⟩)
       ·obtain ⟨zh2, H⟩ := chk_some H
        obtain ⟨r1, zh3, H⟩ := bind_some H
        have zk1 := slices_Contains_pc zh3
        refine a_reg _ rfl (s := ?zs15) ?_ ?_
        rotate_left
        ·try simp only [EVT, stepR, evOp, St.ev, St.app, St.put, wrs, datOf, datOf1, evBin, binInt, evBuiltin, evFieldAddr, evLoad, cut, evSlice, sliceOk, sl_if0, sl_if1, sl_if2, sl_if3, tk_map, dp_map, frz, TIS, CS, reduceAdd, reduceMul, reduceEqDiff, ↓reduceIte, reduceCtorEq, reduceLT, reduceLeDiff, Array.reduceGetElem?, Int.reduceToNat, reduceSub, Nat.reduceBEq, ↓zc6, zg1, ↓zc8, ↓zc9]
         repeat' with_reducible apply And.intro
         all_goals try ((with_reducible show CallR _ _ _ _ _ _ _); refine cR_s zk1 (.cons (.lst _ _ _ (ci_pu .i64) rfl) (.cons (.int' rfl) .nil)) (.bool _) ?_; simp only [EVT, stepR, evOp, St.ev, St.app, St.put, wrs, datOf, datOf1, evBin, binInt, evBuiltin, evFieldAddr, evLoad, cut, evSlice, sliceOk, sl_if0, sl_if1, sl_if2, sl_if3, tk_map, dp_map, frz, TIS, CS, reduceAdd, reduceMul, reduceEqDiff, ↓reduceIte, reduceCtorEq, reduceLT, reduceLeDiff, Array.reduceGetElem?, Int.reduceToNat, reduceSub, Nat.reduceBEq, ↓zc6, zg1, ↓zc8, ↓zc9])
         all_goals ((repeat' apply And.intro) <;> first | rfl | assumption | omega | (left; omega) | (simp; done) | (simp; omega) | (right; exact ⟨_, rfl, rfl, rfl, by decide, by first | omega | (simp; omega)⟩) | (simp_all; done))
        refine cA_n ?_
        refine wk_l [(some 0, ⟨30, 3, false, [[.int .i64 c1.id, .int .i64 c1.ver, .list 1 (c1.servers.map (ci .i64))]]⟩)] [] [(1, .list 3 (disks1.map Disk.c)), (2, .ptr 0 0 0 3), (8, .list 1 (c1.servers.map (ci .i64))), (9, .int .i64 (c1.servers.length : Int)), (10, .int .i64 v1), (30, .bool r1)] ND ND ?_ ?_ (fun t0 => ⟨r1, t0, H, rfl⟩)
        ·exact (allB_some (by rfl) rfl (.cons (.cons (.int' rfl) (.cons (.int' rfl) (.cons (.lst _ _ _ (ci_pu .i64) rfl) .nil))) .nil) trivial)
        ·(simp only [AllT, ATT, reduceEqDiff, ↓reduceIte, and_true]); exact ⟨(.lst _ _ _ Disk.pu rfl), (.ptr _ _ _ _ _ rfl), (.lst _ _ _ (ci_pu .i64) rfl), (.int' rfl), (.int' rfl), (.bool' (by first | rfl | assumption | (simp_all; done)))⟩
     ·rintro s ⟨v2, t0, H, rfl⟩
      unfold chain_Right_J2 at H
      refine a_cnd H (fun zc7 H => ?_) (fun zc7 H => ?_)
      ·refine a_srC _ rfl ?_
       exact a_ret (bA_r (sA_r (lA_r (bA_r (cA_r RT)))))
      ·refine a_skip ?_
       refine bA_n ?_
       refine sA_n ?_
       refine a_regC _ rfl ?_
       refine lA_n ?_
       exact wk_lA [(some 0, _)] [] (fun t0 => ⟨_, Nat.lt_succ_self _, (IntKind.wrap .i64 (v1 + 1)), t0, H, rfl⟩)
    ·refine a_exit ?_
     refine sA_e ?_
     refine lA_e ?_
     refine bA_hit ?_
     refine cA_n ?_
     exact wk_lA [(some 0, _)] [] (fun t0 => ⟨t0, H, rfl⟩)
 ·rintro s ⟨t0, H, rfl⟩
  unfold chain_Right_J1 at H
  refine a_seq ?_
  refine bool_split (b := (decide (0 ≤ c1.id))) (fun zc1 => ?_) (fun zc1 => ?_)
  ·rw [zc1] at H
   refine bool_split (b := (decide (c1.id < 200))) (fun zc2 => ?_) (fun zc2 => ?_)
   ·rw [zc2] at H
    refine bool_split (b := (decide (1 ≤ c1.ver))) (fun zc3 => ?_) (fun zc3 => ?_)
    ·rw [zc3] at H
     refine bool_split (b := (decide (c1.ver ≤ 1099511627776))) (fun zc4 => ?_) (fun zc4 => ?_)
     ·rw [zc4] at H
      refine bool_split (b := (decide (1 ≤ (c1.servers.length : Int)))) (fun zc5 => ?_) (fun zc5 => ?_)
      ·rw [zc5] at H
       refine a_regC _ rfl ?_
       refine sA_n ?_
       refine a_ret ?_
       obtain rfl := Option.some.inj H
       refine e_r2 (d := ?zd1) ?_ ?_
       rotate_left
       ·simp only [EVT, resR, single, evLoad, cut, TIS, CS, reduceAdd, reduceEqDiff, ↓reduceIte, reduceCtorEq, reduceLT, reduceLeDiff, reduceSub, Nat.reduceBEq, zc1, zc2, zc3, zc4, zc5]
        (repeat' apply And.intro) <;> first | rfl | assumption | omega | (simp; done)
       exact ZZ
      ·rw [zc5] at H
       refine a_regC _ rfl ?_
       refine sA_n ?_
       refine a_ret ?_
       obtain rfl := Option.some.inj H
       refine e_r2 (d := ?zd2) ?_ ?_
       rotate_left
       ·simp only [EVT, resR, single, evLoad, cut, TIS, CS, reduceAdd, reduceEqDiff, ↓reduceIte, reduceCtorEq, reduceLT, reduceLeDiff, reduceSub, Nat.reduceBEq, zc1, zc2, zc3, zc4, zc5]
        (repeat' apply And.intro) <;> first | rfl | assumption | omega | (simp; done)
       exact ZZ
     ·rw [zc4] at H
      refine a_regC _ rfl ?_
      refine sA_n ?_
      refine a_ret ?_
      obtain rfl := Option.some.inj H
      refine e_r2 (d := ?zd3) ?_ ?_
      rotate_left
      ·simp only [EVT, resR, single, evLoad, cut, TIS, CS, reduceAdd, reduceEqDiff, ↓reduceIte, reduceCtorEq, reduceLT, reduceLeDiff, reduceSub, Nat.reduceBEq, zc1, zc2, zc3, zc4]
       (repeat' apply And.intro) <;> first | rfl | assumption | omega | (simp; done)
      exact ZZ
    ·rw [zc3] at H
     refine a_regC _ rfl ?_
     refine sA_n ?_
     refine a_ret ?_
     obtain rfl := Option.some.inj H
     refine e_r2 (d := ?zd4) ?_ ?_
     rotate_left
     ·simp only [EVT, resR, single, evLoad, cut, TIS, CS, reduceAdd, reduceEqDiff, ↓reduceIte, reduceCtorEq, reduceLT, reduceLeDiff, reduceSub, Nat.reduceBEq, zc1, zc2, zc3]
      (repeat' apply And.intro) <;> first | rfl | assumption | omega | (simp; done)
     exact ZZ
   ·rw [zc2] at H
    refine a_regC _ rfl ?_
    refine sA_n ?_
    refine a_ret ?_
    obtain rfl := Option.some.inj H
    refine e_r2 (d := ?zd5) ?_ ?_
    rotate_left
    ·simp only [EVT, resR, single, evLoad, cut, TIS, CS, reduceAdd, reduceEqDiff, ↓reduceIte, reduceCtorEq, reduceLT, reduceLeDiff, reduceSub, Nat.reduceBEq, zc1, zc2]
     (repeat' apply And.intro) <;> first | rfl | assumption | omega | (simp; done)
    exact ZZ
  ·rw [zc1] at H
   refine a_regC _ rfl ?_
   refine sA_n ?_
   refine a_ret ?_
   obtain rfl := Option.some.inj H
   refine e_r2 (d := ?zd6) ?_ ?_
   rotate_left
   ·simp only [EVT, resR, single, evLoad, cut, TIS, CS, reduceAdd, reduceEqDiff, ↓reduceIte, reduceCtorEq, reduceLT, reduceLeDiff, reduceSub, Nat.reduceBEq, zc1]
    (repeat' apply And.intro) <;> first | rfl | assumption | omega | (simp; done)
   exact ZZ
def slices_Clone_83_f (s1 : List Disk) : Option (List Disk) :=
 nilq s1 (some (([] : List Disk))) (chk ((s1.length) * 56 ≤ 140737488355328) (some (s1)))
theorem slices_Clone_83_rc {s1 : List Disk} {r : (List Disk)} (H : slices_Clone_83_f s1 = some r) : RC Tryz.prog 83 [.list 3 (s1.map Disk.c)] [] 0 (.ref 0 0 r.length 3) [some ⟨44, 3, false, r.map Disk.c⟩] := by
 refine rcA_of Tryz.func83 (by rfl) (by decide) 8 (by rfl) [.tmp 2] (by rfl) ?_
 unfold slices_Clone_83_f at H
 simp only [hent, List.length_cons, List.length_nil, reduceAdd]
 refine a_srC _ rfl ?_
 refine a_seq ?_
 refine a_seq ?_
 obtain ⟨zh1a, zh1b⟩ := nilq_some H
 refine a_reg2 _ rfl (s1 = []) (s1 := ?zs2a) (s2 := ?zs2b) ?_ ?_ ?_
 rotate_left 2
 ·refine goS ?_
  refine nilq_list rfl Tryz.underlying24 rfl ?_ ?_
  ·intro zb
   simp only [St.put, reduceLT, reduceLeDiff, ↓reduceIte]
   try refine goS ?_
   refine .inl ⟨by simpa using zb, ?_⟩
   rfl
  ·simp only [St.put, reduceLT, reduceLeDiff, ↓reduceIte]
   try refine goS ?_
   refine .inr ?_
   rfl
 ·intro zn; have H := zh1a zn
  refine sA_n ?_
  refine a_condb true (by first | rfl | (simp only [EVT, St.ev, datOf, datOf1, reduceEqDiff, ↓reduceIte]; done) | (simp only [EVT, St.ev, datOf, datOf1, reduceEqDiff, ↓reduceIte]; rfl) | (simp only [EVT, St.ev, datOf, datOf1, reduceEqDiff, ↓reduceIte]; simp_all; done)) (fun zc1 => ?_) (fun zc1 => absurd zc1 (by decide))
  refine a_srC _ rfl ?_
  refine a_ret ?_
  refine sA_r ?_
  obtain rfl := Option.some.inj H
  refine eR_r ?_
  exact wk_lnA 0 [(none, ⟨44, 3, false, ([] : List Disk).map Disk.c⟩)] [] (L := [(2, .ref 0 0 ([] : List Disk).length 3)]) (fun t0 => ⟨RS2, RJ⟩) (fun i h => absurd h (Nat.not_lt_zero i))
 ·have H := zh1b
  refine sA_n ?_
  refine a_condb false (by first | rfl | (simp only [EVT, St.ev, datOf, datOf1, reduceEqDiff, ↓reduceIte]; done) | (simp only [EVT, St.ev, datOf, datOf1, reduceEqDiff, ↓reduceIte]; rfl) | (simp only [EVT, St.ev, datOf, datOf1, reduceEqDiff, ↓reduceIte]; simp_all; done)) (fun zc2 => absurd zc2 (by decide)) (fun zc2 => ?_)
  refine a_skip ?_
  refine sA_n ?_
  refine a_seq ?_
  obtain ⟨zh2, H⟩ := chk_some H
  refine a_regC _ rfl ?_
  refine sA_n ?_
  refine a_ret ?_
  obtain rfl := Option.some.inj H
  refine eR_r ?_
  exact wk_lnA 0 [(some 26, ⟨44, 3, false, s1.map Disk.c⟩)] [] (L := [(2, .ref 0 0 s1.length 3)]) (fun t0 => ⟨RS2, RJ⟩) (fun i h => absurd h (Nat.not_lt_zero i))
def chain_laying_f (c1 : Chain) (disks1 : List Disk) (data1 : List Int) : Option (List Disk) :=
 (slices_Clone_83_f disks1).bind fun r1 => some (r1)
theorem chain_laying_rc {c1 : Chain} {disks1 : List Disk} {data1 : List Int} {r : (List Disk)} (H : chain_laying_f c1 disks1 data1 = some r) : RC Tryz.prog 34 [.agg (Chain.c c1), .list 3 (disks1.map Disk.c), .list 1 (data1.map (ci .u8))] [] 0 (.tup [.ref 0 0 r.length 3, .fn (.func 84) [] [.rop [.ref 0 0 r.length 3] 0 1, .rop (Chain.c c1) 0 3, .rop ((cl 1 (ci .u8)) data1) 0 1]]) [some ⟨44, 3, false, r.map Disk.c⟩] := by
 refine rcA_of Tryz.func34 (by rfl) (by decide) 13 (by rfl) [.tmp 6, .tmp 7] (by rfl) ?_
 unfold chain_laying_f at H
 simp only [hent, List.length_cons, List.length_nil, reduceAdd]
 refine a_srC _ rfl ?_
 refine a_seq ?_
 obtain ⟨r1, zh1, H⟩ := bind_some H
 have zk1 := slices_Clone_83_rc zh1
 refine a_reg _ rfl (s := ?zs2) ?_ ?_
 rotate_left
 ·try refine goS ?_
  repeat' with_reducible apply And.intro
  all_goals try ((with_reducible show CallR _ _ _ _ _ _ _); refine callR_rcw (r' := .ref 33 0 r1.length 3) [(33, some ⟨44, 3, false, r1.map Disk.c⟩)] [] [] [(33, 0, _)] EQA zk1 (by simp) ND ZZ ZZ ND ND ZZ ZZ ?_; refine goS ?_)
  all_goals ((repeat' apply And.intro) <;> first|rfl|assumption|omega|(simp;done)|(simp;omega)|(simp_all;done))
 refine sA_n ?_
 refine a_srC _ rfl ?_
 refine a_ret ?_
 obtain rfl := Option.some.inj H
 refine eR_r ?_
 exact wk_lnA 0 [(some 33, ⟨44, 3, false, r1.map Disk.c⟩)] [0, 1, 34] (L := [(6, .ref 0 0 r1.length 3), (7, .fn (.func 84) [] [.rop [.ref 0 0 r1.length 3] 0 1, .rop (Chain.c c1) 0 3, .rop ((cl 1 (ci .u8)) data1) 0 1])]) (fun t0 => ⟨RS2, RJ⟩) (fun i h => absurd h (Nat.not_lt_zero i))
def slices_Clone_f (s1 : List Int) : Option (List Int) :=
 nilq s1 (some (([] : List Int))) (chk ((s1.length) * 8 ≤ 140737488355328) (some (s1)))
theorem slices_Clone_rc {s1 : List Int} {r : (List Int)} (H : slices_Clone_f s1 = some r) : RC Tryz.prog 37 [.list 1 (s1.map (ci .i64))] [] 0 (.ref 0 0 r.length 1) [some ⟨3, 1, false, r.map (ci .i64)⟩] := by
 refine rcA_of Tryz.func37 (by rfl) (by decide) 8 (by rfl) [.tmp 2] (by rfl) ?_
 unfold slices_Clone_f at H
 simp only [hent, List.length_cons, List.length_nil, reduceAdd]
 refine a_srC _ rfl ?_
 refine a_seq ?_
 refine a_seq ?_
 obtain ⟨zh1a, zh1b⟩ := nilq_some H
 refine a_reg2 _ rfl (s1 = []) (s1 := ?zs2a) (s2 := ?zs2b) ?_ ?_ ?_
 rotate_left 2
 ·refine goS ?_
  refine nilq_list rfl Tryz.underlying28 rfl ?_ ?_
  ·intro zb
   simp only [St.put, reduceLT, reduceLeDiff, ↓reduceIte]
   try refine goS ?_
   refine .inl ⟨by simpa using zb, ?_⟩
   rfl
  ·simp only [St.put, reduceLT, reduceLeDiff, ↓reduceIte]
   try refine goS ?_
   refine .inr ?_
   rfl
 ·intro zn; have H := zh1a zn
  refine sA_n ?_
  refine a_condb true (by first | rfl | (simp only [EVT, St.ev, datOf, datOf1, reduceEqDiff, ↓reduceIte]; done) | (simp only [EVT, St.ev, datOf, datOf1, reduceEqDiff, ↓reduceIte]; rfl) | (simp only [EVT, St.ev, datOf, datOf1, reduceEqDiff, ↓reduceIte]; simp_all; done)) (fun zc1 => ?_) (fun zc1 => absurd zc1 (by decide))
  refine a_srC _ rfl ?_
  refine a_ret ?_
  refine sA_r ?_
  obtain rfl := Option.some.inj H
  refine eR_r ?_
  exact wk_lnA 0 [(none, ⟨3, 1, false, ([] : List Int).map (ci .i64)⟩)] [] (L := [(2, .ref 0 0 ([] : List Int).length 1)]) (fun t0 => ⟨RS2, RJ⟩) (fun i h => absurd h (Nat.not_lt_zero i))
 ·have H := zh1b
  refine sA_n ?_
  refine a_condb false (by first | rfl | (simp only [EVT, St.ev, datOf, datOf1, reduceEqDiff, ↓reduceIte]; done) | (simp only [EVT, St.ev, datOf, datOf1, reduceEqDiff, ↓reduceIte]; rfl) | (simp only [EVT, St.ev, datOf, datOf1, reduceEqDiff, ↓reduceIte]; simp_all; done)) (fun zc2 => absurd zc2 (by decide)) (fun zc2 => ?_)
  refine a_skip ?_
  refine sA_n ?_
  refine a_seq ?_
  obtain ⟨zh2, H⟩ := chk_some H
  refine a_regC _ rfl ?_
  refine sA_n ?_
  refine a_ret ?_
  obtain rfl := Option.some.inj H
  refine eR_r ?_
  exact wk_lnA 0 [(some 26, ⟨3, 1, false, s1.map (ci .i64)⟩)] [] (L := [(2, .ref 0 0 s1.length 1)]) (fun t0 => ⟨RS2, RJ⟩) (fun i h => absurd h (Nat.not_lt_zero i))
def slices_IndexFunc_J1 : Option Int :=
 some ((-1))
def slices_IndexFunc_L1 (s1 : List Int) (f1 : Int → Option Bool) : Nat → Int → Option Int
 | 0, _ => none
 | m_ + 1, v1 => cond (decide (v1 < (s1.length : Int))) ((idx s1 v1).bind fun x1 => (f1 x1).bind fun r1 => cond r1 (some (v1)) (slices_IndexFunc_L1 s1 f1 m_ (IntKind.wrap .i64 (v1 + 1)))) (slices_IndexFunc_J1)
def slices_IndexFunc_f (s1 : List Int) (f1 : Int → Option Bool) : Option Int :=
 slices_IndexFunc_L1 s1 f1 BIG 0
theorem slices_IndexFunc_pc {s1 : List Int} {f1 : Int → Option Bool} {f1_F : FuncId} {f1_caps : List Dat} (f1_hp : ∀ (x0_ : Int) (r : Bool), f1 x0_ = some r → PC Tryz.prog f1_F (.int .i64 x0_ :: f1_caps) (.bool r)) (f1_pu : Pus f1_caps) {r : Int} (H : slices_IndexFunc_f s1 f1 = some r) : PC Tryz.prog 86 [.list 1 (s1.map (ci .i64)), .fn (.func f1_F) [] f1_caps] (.int .i64 r) := by
 refine pcA_of Tryz.func86 (by rfl) (by decide) 19 (by rfl) [.tmp 4] (by rfl) ?_
 unfold slices_IndexFunc_f at H
 simp only [ent]
 refine a_srC _ rfl ?_
 refine a_cut (fun s => ∃ (t0 : Nat → Dat), slices_IndexFunc_J1 = some r ∧ s = ⟨tl t0 [], hl [], 0, 19⟩) ?_ ?_
 ·refine a_srC _ rfl ?_
  refine a_blk ?_
  refine a_loop (fun m s => ∃ (v1 : Int) (t0 : Nat → Dat), slices_IndexFunc_L1 s1 f1 m v1 = some r ∧ s = ⟨tl t0 [(0, .list 1 (s1.map (ci .i64))), (1, .fn (.func f1_F) [] f1_caps), (7, .int .i64 (s1.length : Int)), (8, .int .i64 v1)], hl [], 0, 19⟩) BIG ?_ ?_
  ·refine wk_l [] [] [(0, .list 1 (s1.map (ci .i64))), (1, .fn (.func f1_F) [] f1_caps), (7, .int .i64 (s1.length : Int)), (8, .int .i64 0)] ND ND ?_ ?_ (fun t0 => ⟨0, t0, H, rfl⟩)
   ·exact trivial
   ·(simp only [AllT, ATT, reduceEqDiff, ↓reduceIte, and_true]); exact ⟨(.lst _ _ _ (ci_pu .i64) rfl), (.fn' .nil (RNs.pu f1_pu)), (.int' rfl), (.int' rfl)⟩
  ·rintro m_slices_IndexFunc_L1 s ⟨v1, t0, H, rfl⟩
   obtain _ | m_slices_IndexFunc_L1 := m_slices_IndexFunc_L1
   ·cases (show (none : Option _) = some _ from H)
   ·rw [slices_IndexFunc_L1] at H
    refine a_srC _ rfl ?_
    refine a_seq ?_
    refine a_cnd H (fun zc1 H => ?_) (fun zc1 H => ?_)
    ·refine a_skip ?_
     refine sA_n ?_
     refine a_seq ?_
     refine a_blk ?_
     refine a_srC _ rfl ?_
     refine a_seq ?_
     obtain ⟨x1, zh1, H⟩ := bind_some H
     obtain ⟨zg1, zh1a, zh1b⟩ := idx3 (f := (ci .i64)) zh1
     try simp only [Int.reduceToNat, Int.toNat_natCast] at zg1
     obtain ⟨r1, zh2, H⟩ := bind_some H
     have zk1 := f1_hp _ _ zh2
     refine a_reg _ rfl (s := ?zs6) ?_ ?_
     rotate_left
     ·try refine goS ?_
      repeat' with_reducible apply And.intro
      all_goals try ((with_reducible show CallR _ _ _ _ _ _ _); refine cR_s zk1 (.cons (.int' rfl) (Pus.purRs f1_pu)) (.bool _) ?_; refine goS ?_)
      all_goals ((repeat' apply And.intro) <;> first|rfl|assumption|omega|(simp;done)|(simp;omega)|(simp_all;done))
     refine sA_n ?_
     refine a_cnd H (fun zc2 H => ?_) (fun zc2 H => ?_)
     ·refine a_srC _ rfl ?_
      exact a_ret (bA_r (sA_r (lA_r (bA_r (cA_r RT)))))
     ·refine a_skip ?_
      refine bA_n ?_
      refine sA_n ?_
      refine a_regC _ rfl ?_
      refine lA_n ?_
      refine wk_l [] [] [(0, .list 1 (s1.map (ci .i64))), (1, .fn (.func f1_F) [] f1_caps), (7, .int .i64 (s1.length : Int)), (8, .int .i64 (IntKind.wrap .i64 (v1 + 1)))] ND ND ?_ ?_ (fun t0 => ⟨_, Nat.lt_succ_self _, (IntKind.wrap .i64 (v1 + 1)), t0, H, rfl⟩)
      ·exact trivial
      ·(simp only [AllT, ATT, reduceEqDiff, ↓reduceIte, and_true]); exact ⟨(.lst _ _ _ (ci_pu .i64) rfl), (.fn' .nil (RNs.pu f1_pu)), (.int' rfl), (.int' rfl)⟩
    ·refine a_exit ?_
     refine sA_e ?_
     refine lA_e ?_
     refine bA_hit ?_
     refine cA_n ?_
     exact wk_lA [] [] (fun t0 => ⟨t0, H, rfl⟩)
 ·rintro s ⟨t0, H, rfl⟩
  unfold slices_IndexFunc_J1 at H
  refine a_srC _ rfl ?_
  refine a_ret ?_
  obtain rfl := Option.some.inj H
  refine e_r2 (d := ?zd1) ?_ ?_
  rotate_left
  ·simp only [EVT, resR, single, evLoad, cut, TIS, CS, reduceAdd, reduceEqDiff, ↓reduceIte, reduceCtorEq, reduceLT, reduceLeDiff, reduceSub, Nat.reduceBEq]
   (repeat' apply And.intro) <;> first | rfl | assumption | omega | (simp; done)
  exact ZZ
def slices_ContainsFunc_68_f (s1 : List Int) (f1 : Int → Option Bool) : Option Bool :=
 (slices_IndexFunc_f s1 f1).bind fun r1 => some ((decide (0 ≤ r1)))
theorem slices_ContainsFunc_68_pc {s1 : List Int} {f1 : Int → Option Bool} {f1_F : FuncId} {f1_caps : List Dat} (f1_hp : ∀ (x0_ : Int) (r : Bool), f1 x0_ = some r → PC Tryz.prog f1_F (.int .i64 x0_ :: f1_caps) (.bool r)) (f1_pu : Pus f1_caps) {r : Bool} (H : slices_ContainsFunc_68_f s1 f1 = some r) : PC Tryz.prog 68 [.list 1 (s1.map (ci .i64)), .fn (.func f1_F) [] f1_caps] (.bool r) := by
 refine pcA_of Tryz.func68 (by rfl) (by decide) 9 (by rfl) [.tmp 4] (by rfl) ?_
 unfold slices_ContainsFunc_68_f at H
 simp only [ent]
 refine a_srC _ rfl ?_
 refine a_seq ?_
 obtain ⟨r1, zh1, H⟩ := bind_some H
 have zk1 := slices_IndexFunc_pc (f1 := f1) (f1_F := f1_F) (f1_caps := f1_caps) f1_hp f1_pu zh1
 refine a_reg _ rfl (s := ?zs2) ?_ ?_
 rotate_left
 ·try refine goS ?_
  repeat' with_reducible apply And.intro
  all_goals try ((with_reducible show CallR _ _ _ _ _ _ _); refine cR_s zk1 (.cons (.lst _ _ _ (ci_pu .i64) rfl) (.cons (.fn' .nil (Pus.purRs f1_pu)) .nil)) (.int _ _) ?_; refine goS ?_)
  all_goals ((repeat' apply And.intro) <;> first|rfl|assumption|omega|(simp;done)|(simp;omega)|(simp_all;done))
 refine sA_n ?_
 exact a_ret RT
def chain_Make_1_f (s1 : Int) (v1 : List Disk) : Option Bool :=
 (idx v1 s1).bind fun x1 => some (x1.down)
theorem chain_Make_1_pc {s1 : Int} {v1 : List Disk} {r : Bool} (H : chain_Make_1_f s1 v1 = some r) : PC Tryz.prog 82 [.int .i64 s1, .rop ((cl 3 Disk.c) v1) 0 1] (.bool r) := by
 refine pcA_of Tryz.func82 (by rfl) (by decide) 9 (by rfl) [.tmp 3] (by rfl) ?_
 unfold chain_Make_1_f at H
 simp only [ent]
 refine a_srC _ rfl ?_
 refine a_seq ?_
 obtain ⟨x1, zh1, H⟩ := bind_some H
 obtain ⟨zg1, zh1a, zh1b⟩ := idx3 (f := Disk.c) zh1
 try simp only [Int.reduceToNat, Int.toNat_natCast] at zg1
 refine a_regC _ rfl ?_
 refine sA_n ?_
 exact a_ret RT
def chunk_within_f (id1 : Int) : Option Bool :=
 some ((decide (0 ≤ id1)) && (decide (id1 < 200)))
theorem chunk_within_pc {id1 : Int} {r : Bool} (H : chunk_within_f id1 = some r) : PC Tryz.prog 88 [.int .i64 id1] (.bool r) := by
 refine pcA_of Tryz.func88 (by rfl) (by decide) 9 (by rfl) [.tmp 2] (by rfl) ?_
 unfold chunk_within_f at H
 simp only [ent]
 refine a_srC _ rfl ?_
 refine a_seq ?_
 refine bool_split (b := (decide (0 ≤ id1))) (fun zc1 => ?_) (fun zc1 => ?_)
 ·rw [zc1] at H
  refine a_regC _ rfl ?_
  refine sA_n ?_
  exact a_ret RT
 ·rw [zc1] at H
  refine a_regC _ rfl ?_
  refine sA_n ?_
  refine a_ret ?_
  obtain rfl := Option.some.inj H
  refine e_r2 (d := ?zd2) ?_ ?_
  rotate_left
  ·simp only [EVT, resR, single, evLoad, cut, TIS, CS, reduceAdd, reduceEqDiff, ↓reduceIte, reduceCtorEq, reduceLT, reduceLeDiff, reduceSub, Nat.reduceBEq, zc1]
   (repeat' apply And.intro) <;> first | rfl | assumption | omega | (simp; done)
  exact ZZ
end
end Go.Proofs.YtjflkcfafijhfaaGreat
/- Functions of the program as Lean functions, and that they are so; printed by a program of mine. -/
set_option linter.unusedSimpArgs false
set_option linter.unusedVariables false
set_option maxHeartbeats 4000000
set_option maxRecDepth 20000
namespace Go.Proofs.YtjflkcfafijhfaaGreat
open Go.Ab
open Nat (reduceAdd reduceMul reduceEqDiff reduceLT reduceLeDiff reduceSub)
noncomputable section
def sum_Check_J1 (r1 : (List Int)) (sums1 : List Int) : Option Int :=
 cond ((((r1.length : Nat)) : Int) != (sums1.length : Int)) (some ((if (sums1.length : Int) < (((r1.length : Nat)) : Int) then (sums1.length : Int) else (((r1.length : Nat)) : Int)))) (some ((-1)))
def sum_Check_L1 (r1 : (List Int)) (sums1 : List Int) : Nat → Int → Int → Option Int
 | 0, _, _ => none
 | m_ + 1, v1, v2 => cond (decide (v2 < v1)) ((idx r1 v2).bind fun x1 => (idx sums1 v2).bind fun x2 => cond (x1 != x2) (some (v2)) (sum_Check_L1 r1 sums1 m_ v1 (IntKind.wrap .i64 (v2 + 1)))) (sum_Check_J1 r1 sums1)
def sum_Check_f (data1 : List Int) (sums1 : List Int) : Option Int :=
 (sum_Blocks_f data1).bind fun r1 => sum_Check_L1 r1 sums1 BIG (if (sums1.length : Int) < (((r1.length : Nat)) : Int) then (sums1.length : Int) else (((r1.length : Nat)) : Int)) 0
theorem sum_Check_pc {data1 : List Int} {sums1 : List Int} {r : Int} (H : sum_Check_f data1 sums1 = some r) : PC Tryz.prog 94 [.list 1 (data1.map (ci .u8)), .list 1 (sums1.map (ci .i64))] (.int .i64 r) := by
 refine pcA_of Tryz.func94 (by rfl) (by decide) 38 (by rfl) [.tmp 4] (by rfl) ?_
 unfold sum_Check_f at H
 simp only [ent]
 refine a_srC _ rfl ?_
 refine a_seq ?_
 obtain ⟨r1, zh1, H⟩ := bind_some H
 have zk1 := sum_Blocks_rc zh1
 refine a_reg _ rfl (s := ?zs2) ?_ ?_
 rotate_left
 ·try refine goS ?_
  repeat' with_reducible apply And.intro
  all_goals try ((with_reducible show CallR _ _ _ _ _ _ _); refine callR_ownm (l := r1) (c := (ci .i64)) [] zk1 (ci_sc .i64) (.cons (.lst _ _ _ (ci_pu .u8) rfl) .nil) ?_; refine goS ?_)
  all_goals ((repeat' apply And.intro) <;> first|rfl|assumption|omega|(simp;done)|(simp;omega)|(simp_all;done))
 refine sA_n ?_
 refine a_cut (fun s => ∃ (t0 : Nat → Dat), sum_Check_J1 r1 sums1 = some r ∧ s = ⟨tl t0 [(1, .list 1 (sums1.map (ci .i64))), (5, .ref 0 0 r1.length 1)], hl [⟨3, 1, false, r1.map (ci .i64)⟩], 1, 38⟩) ?_ ?_
 ·refine a_srC _ rfl ?_
  refine a_blk ?_
  refine a_loop (fun m s => ∃ (v1 : Int) (v2 : Int) (t0 : Nat → Dat), sum_Check_L1 r1 sums1 m v1 v2 = some r ∧ s = ⟨tl t0 [(1, .list 1 (sums1.map (ci .i64))), (5, .ref 0 0 r1.length 1), (13, .int .i64 v1), (14, .int .i64 v2)], hl [⟨3, 1, false, r1.map (ci .i64)⟩], 1, 38⟩) BIG ?_ ?_
  ·exact wk_lA [(some 9, _)] [] (fun t0 => ⟨(if (sums1.length : Int) < (((r1.length : Nat)) : Int) then (sums1.length : Int) else (((r1.length : Nat)) : Int)), 0, t0, H, rfl⟩)
  ·rintro m_sum_Check_L1 s ⟨v1, v2, t0, H, rfl⟩
   obtain _ | m_sum_Check_L1 := m_sum_Check_L1
   ·cases (show (none : Option _) = some _ from H)
   ·rw [sum_Check_L1] at H
    refine a_srC _ rfl ?_
    refine a_seq ?_
    refine a_cnd H (fun zc2 H => ?_) (fun zc2 H => ?_)
    ·refine a_skip ?_
     refine sA_n ?_
     refine a_seq ?_
     refine a_blk ?_
     refine a_srC _ rfl ?_
     refine a_seq ?_
     obtain ⟨x1, zh2, H⟩ := bind_some H
     obtain ⟨zg1, zh2a, zh2b⟩ := idx3 (f := (ci .i64)) zh2
     try simp only [Int.reduceToNat, Int.toNat_natCast] at zg1
     obtain ⟨x2, zh3, H⟩ := bind_some H
     obtain ⟨zg2, zh3a, zh3b⟩ := idx3 (f := (ci .i64)) zh3
     try simp only [Int.reduceToNat, Int.toNat_natCast] at zg2
     refine a_drW (by kernel_rfl) _ rfl (s := ?zs9) (by kernel_rfl) (by kernel_rfl) ?zs9f ?_ ?_ ?_
     rotate_left 2
     ·refine goS ?_
      exact CLS
     ·kernel_rfl
     refine sA_n ?_
     refine a_cnd H (fun zc3 H => ?_) (fun zc3 H => ?_)
     ·refine a_srC _ rfl ?_
      exact a_ret (bA_r (sA_r (lA_r (bA_r (cA_r RT)))))
     ·refine a_skip ?_
      refine bA_n ?_
      refine sA_n ?_
      refine a_regC _ rfl ?_
      refine lA_n ?_
      exact wk_lA [(some 0, _)] [] (fun t0 => ⟨_, Nat.lt_succ_self _, v1, (IntKind.wrap .i64 (v2 + 1)), t0, H, rfl⟩)
    ·refine a_exit ?_
     refine sA_e ?_
     refine lA_e ?_
     refine bA_hit ?_
     refine cA_n ?_
     exact wk_lA [(some 0, _)] [] (fun t0 => ⟨t0, H, rfl⟩)
 ·rintro s ⟨t0, H, rfl⟩
  unfold sum_Check_J1 at H
  refine a_seq ?_
  refine a_srC _ rfl ?_
  refine a_cnd H (fun zc1 H => ?_) (fun zc1 H => ?_)
  ·refine a_srC _ rfl ?_
   refine a_ret ?_
   refine sA_r ?_
   obtain rfl := Option.some.inj H
   refine e_r2 (d := ?zd1) ?_ ?_
   rotate_left
   ·simp only [EVT, resR, single, evLoad, cut, TIS, CS, reduceAdd, reduceEqDiff, ↓reduceIte, reduceCtorEq, reduceLT, reduceLeDiff, reduceSub, Nat.reduceBEq, zc1]
    (repeat' apply And.intro) <;> first | rfl | assumption | omega | (simp; done)
   exact ZZ
  ·refine a_skip ?_
   refine sA_n ?_
   refine a_srC _ rfl ?_
   refine a_ret ?_
   obtain rfl := Option.some.inj H
   refine e_r2 (d := ?zd2) ?_ ?_
   rotate_left
   ·simp only [EVT, resR, single, evLoad, cut, TIS, CS, reduceAdd, reduceEqDiff, ↓reduceIte, reduceCtorEq, reduceLT, reduceLeDiff, reduceSub, Nat.reduceBEq, zc1]
    (repeat' apply And.intro) <;> first | rfl | assumption | omega | (simp; done)
   exact ZZ
def chunk_may_f (c1 : Copy) : Option Bool :=
 (chunk_within_f c1.id).bind fun r1 => cond r1 (cond (decide (0 ≤ c1.ver)) (cond (decide (c1.ver ≤ 1099511627776)) (cond (decide ((c1.data.length : Int) ≤ 64)) ((sum_Check_f c1.data c1.sums).bind fun r2 => some ((r2 == (-1)))) (some (false))) (some (false))) (some (false))) (some (false))
theorem chunk_may_pc {c1 : Copy} {r : Bool} (H : chunk_may_f c1 = some r) : PC Tryz.prog 44 [.agg (Copy.c c1)] (.bool r) := by
 refine pcA_of Tryz.func44 (by rfl) (by decide) 30 (by rfl) [.tmp 2] (by rfl) ?_
 unfold chunk_may_f at H
 simp only [ent]
 refine a_srC _ rfl ?_
 refine a_seq ?_
 obtain ⟨r1, zh1, H⟩ := bind_some H
 have zk1 := chunk_within_pc zh1
 refine cnd H (fun zc1 H => ?_) (fun zc1 H => ?_)
 ·refine cnd H (fun zc2 H => ?_) (fun zc2 H => ?_)
  ·refine cnd H (fun zc3 H => ?_) (fun zc3 H => ?_)
   ·refine cnd H (fun zc4 H => ?_) (fun zc4 H => ?_)
    ·obtain ⟨r2, zh2, H⟩ := bind_some H
     have zk2 := sum_Check_pc zh2
     refine a_regK _ rfl ?_
     refine sA_n ?_
     exact a_ret RT
    ·refine a_reg _ rfl (s := ?zs3) ?_ ?_
     rotate_left
     ·try refine goS ?_
      repeat' with_reducible apply And.intro
      all_goals try ((with_reducible show CallR _ _ _ _ _ _ _); refine cR_s zk1 (.cons (.int' rfl) .nil) (.bool _) ?_; refine goZ4 ?_)
      all_goals ((repeat' apply And.intro) <;> first|rfl|assumption|omega|(simp;done)|(simp;omega)|(simp_all;done))
     refine sA_n ?_
     refine a_ret ?_
     obtain rfl := Option.some.inj H
     refine e_r2 (d := ?zd2) ?_ ?_
     rotate_left
     ·simp only [EVT, resR, single, evLoad, cut, TIS, CS, reduceAdd, reduceEqDiff, ↓reduceIte, reduceCtorEq, reduceLT, reduceLeDiff, reduceSub, Nat.reduceBEq, zc1, zc2, zc3, zc4]
      (repeat' apply And.intro) <;> first | rfl | assumption | omega | (simp; done)
     exact (.bool' (by first | rfl | assumption | (simp_all; done)))
   ·refine a_reg _ rfl (s := ?zs4) ?_ ?_
    rotate_left
    ·try refine goS ?_
     repeat' with_reducible apply And.intro
     all_goals try ((with_reducible show CallR _ _ _ _ _ _ _); refine cR_s zk1 (.cons (.int' rfl) .nil) (.bool _) ?_; refine goZ3 ?_)
     all_goals ((repeat' apply And.intro) <;> first|rfl|assumption|omega|(simp;done)|(simp;omega)|(simp_all;done))
    refine sA_n ?_
    refine a_ret ?_
    obtain rfl := Option.some.inj H
    refine e_r2 (d := ?zd3) ?_ ?_
    rotate_left
    ·simp only [EVT, resR, single, evLoad, cut, TIS, CS, reduceAdd, reduceEqDiff, ↓reduceIte, reduceCtorEq, reduceLT, reduceLeDiff, reduceSub, Nat.reduceBEq, zc1, zc2, zc3]
     (repeat' apply And.intro) <;> first | rfl | assumption | omega | (simp; done)
    exact (.bool' (by first | rfl | assumption | (simp_all; done)))
  ·refine a_reg _ rfl (s := ?zs5) ?_ ?_
   rotate_left
   ·try refine goS ?_
    repeat' with_reducible apply And.intro
    all_goals try ((with_reducible show CallR _ _ _ _ _ _ _); refine cR_s zk1 (.cons (.int' rfl) .nil) (.bool _) ?_; refine goZ2 ?_)
    all_goals ((repeat' apply And.intro) <;> first|rfl|assumption|omega|(simp;done)|(simp;omega)|(simp_all;done))
   refine sA_n ?_
   refine a_ret ?_
   obtain rfl := Option.some.inj H
   refine e_r2 (d := ?zd4) ?_ ?_
   rotate_left
   ·simp only [EVT, resR, single, evLoad, cut, TIS, CS, reduceAdd, reduceEqDiff, ↓reduceIte, reduceCtorEq, reduceLT, reduceLeDiff, reduceSub, Nat.reduceBEq, zc1, zc2]
    (repeat' apply And.intro) <;> first | rfl | assumption | omega | (simp; done)
   exact (.bool' (by first | rfl | assumption | (simp_all; done)))
 ·refine a_reg _ rfl (s := ?zs6) ?_ ?_
  rotate_left
  ·try refine goS ?_
   repeat' with_reducible apply And.intro
   all_goals try ((with_reducible show CallR _ _ _ _ _ _ _); refine cR_s zk1 (.cons (.int' rfl) .nil) (.bool _) ?_; refine goZ1 ?_)
   all_goals ((repeat' apply And.intro) <;> first|rfl|assumption|omega|(simp;done)|(simp;omega)|(simp_all;done))
  refine sA_n ?_
  refine a_ret ?_
  obtain rfl := Option.some.inj H
  refine e_r2 (d := ?zd5) ?_ ?_
  rotate_left
  ·simp only [EVT, resR, single, evLoad, cut, TIS, CS, reduceAdd, reduceEqDiff, ↓reduceIte, reduceCtorEq, reduceLT, reduceLeDiff, reduceSub, Nat.reduceBEq, zc1]
   (repeat' apply And.intro) <;> first | rfl | assumption | omega | (simp; done)
  exact (.bool' (by first | rfl | assumption | (simp_all; done)))
def slices_Concat_J2 (newslice1 : List Int) : Option (List Int) :=
 some (newslice1)
def slices_Concat_L1 (slices1 : List (List Int)) : Nat → (List Int) → Int → Option (List Int)
 | 0, _, _ => none
 | m_ + 1, newslice2, v1 => cond (decide (v1 < (slices1.length : Int))) ((idx slices1 v1).bind fun x1 => chk ((newslice2.length + x1.length) * 1 ≤ 140737488355328) (slices_Concat_L1 slices1 m_ (newslice2 ++ x1) (IntKind.wrap .i64 (v1 + 1)))) (slices_Concat_J2 newslice2)
def slices_Concat_J1 (slices1 : List (List Int)) (size1 : Int) : Option (List Int) :=
 (slices_Grow_f [] size1).bind fun r1 => slices_Concat_L1 slices1 BIG r1 0
def slices_Concat_J3 (k_slices_Concat_L2 : Int → Int → Option (List Int)) (v2 : Int) (size3 : Int) : Option (List Int) :=
 k_slices_Concat_L2 size3 (IntKind.wrap .i64 (v2 + 1))
def slices_Concat_L2 (slices1 : List (List Int)) : Nat → Int → Int → Option (List Int)
 | 0, _, _ => none
 | m_ + 1, size2, v2 => cond (decide (v2 < (slices1.length : Int))) ((idx slices1 v2).bind fun x2 => chk ((decide ((IntKind.wrap .i64 (size2 + (x2.length : Int))) < 0)) = false) (slices_Concat_J3 (slices_Concat_L2 slices1 m_) v2 (IntKind.wrap .i64 (size2 + (x2.length : Int))))) (slices_Concat_J1 slices1 size2)
def slices_Concat_f (slices1 : List (List Int)) : Option (List Int) :=
 slices_Concat_L2 slices1 BIG 0 0
theorem slices_Concat_rc {slices1 : List (List Int)} {r : (List Int)} (H : slices_Concat_f slices1 = some r) : RC Tryz.prog 95 [.list 1 (slices1.map (cl 1 (ci .u8)))] [] 0 (.ref 0 0 r.length 1) [some ⟨5, 1, false, r.map (ci .u8)⟩] := by
 refine rcA_of Tryz.func95 (by rfl) (by decide) 36 (by rfl) [.tmp 2] (by rfl) ?_
 unfold slices_Concat_f at H
 simp only [hent, List.length_cons, List.length_nil, reduceAdd]
 refine a_srC _ rfl ?_
 refine a_srC _ rfl ?_
 refine a_cut (fun s => ∃ (size1 : Int) (t0 : Nat → Dat), slices_Concat_J1 slices1 size1 = some r ∧ s = ⟨tl t0 [(0, .list 1 (slices1.map (cl 1 (ci .u8)))), (3, .int .i64 size1)], hl [], 0, 36⟩) ?_ ?_
 ·refine a_srC _ rfl ?_
  refine a_blk ?_
  refine a_loop (fun m s => ∃ (size2 : Int) (v2 : Int) (t0 : Nat → Dat), slices_Concat_L2 slices1 m size2 v2 = some r ∧ s = ⟨tl t0 [(0, .list 1 (slices1.map (cl 1 (ci .u8)))), (3, .int .i64 size2), (9, .list 1 (slices1.map (cl 1 (ci .u8)))), (10, .int .i64 (slices1.length : Int)), (11, .int .i64 v2)], hl [], 0, 36⟩) BIG ?_ ?_
  ·exact wk_lA [] [] (fun t0 => ⟨0, 0, t0, H, rfl⟩)
  ·rintro m_slices_Concat_L2 s ⟨size2, v2, t0, H, rfl⟩
   obtain _ | m_slices_Concat_L2 := m_slices_Concat_L2
   ·cases (show (none : Option _) = some _ from H)
   ·rw [slices_Concat_L2] at H
    refine a_srC _ rfl ?_
    refine a_seq ?_
    refine a_cnd H (fun zc2 H => ?_) (fun zc2 H => ?_)
    ·refine a_skip ?_
     refine sA_n ?_
     refine a_cut (fun s => ∃ (size3 : Int) (t0 : Nat → Dat), slices_Concat_J3 (slices_Concat_L2 slices1 m_slices_Concat_L2) v2 size3 = some r ∧ s = ⟨tl t0 [(0, .list 1 (slices1.map (cl 1 (ci .u8)))), (3, .int .i64 size3), (9, .list 1 (slices1.map (cl 1 (ci .u8)))), (10, .int .i64 (slices1.length : Int)), (11, .int .i64 v2)], hl [], 0, 36⟩) ?_ ?_
     ·refine a_blk ?_
      refine a_seq ?_
      obtain ⟨x2, zh4, H⟩ := bind_some H
      obtain ⟨zg2, zh4a, zh4b⟩ := idx3 (f := (cl 1 (ci .u8))) zh4
      try simp only [Int.reduceToNat, Int.toNat_natCast] at zg2
      refine a_regC _ rfl ?_
      refine sA_n ?_
      refine a_srC _ rfl ?_
      refine a_srC _ rfl ?_
      obtain ⟨zh5, H⟩ := chk_some H
      refine a_condb ((decide ((IntKind.wrap .i64 (size2 + (x2.length : Int))) < 0))) (by rfl) (fun zc3x => absurd (zc3x.symm.trans zh5) (by decide)) (fun zc3 => ?_)
      ·try skip
       refine a_skip ?_
       refine bA_n ?_
       refine cA_n ?_
       exact wk_lA [] [] (fun t0 => ⟨(IntKind.wrap .i64 (size2 + (x2.length : Int))), t0, H, rfl⟩)
     ·rintro s ⟨size3, t0, H, rfl⟩
      unfold slices_Concat_J3 at H
      refine a_regC _ rfl ?_
      refine lA_n ?_
      exact wk_lA [] [] (fun t0 => ⟨_, Nat.lt_succ_self _, size3, (IntKind.wrap .i64 (v2 + 1)), t0, H, rfl⟩)
    ·refine a_exit ?_
     refine sA_e ?_
     refine lA_e ?_
     refine bA_hit ?_
     refine cA_n ?_
     exact wk_lA [] [] (fun t0 => ⟨size2, t0, H, rfl⟩)
 ·rintro s ⟨size1, t0, H, rfl⟩
  unfold slices_Concat_J1 at H
  refine a_seq ?_
  obtain ⟨r1, zh1, H⟩ := bind_some H
  have zk1 := slices_Grow_rc zh1
  refine a_reg _ rfl (s := ?zs3) ?_ ?_
  rotate_left
  ·try refine goS ?_
   repeat' with_reducible apply And.intro
   all_goals try ((with_reducible show CallR _ _ _ _ _ _ _); refine callR_ownm (l := r1) (c := (ci .u8)) [] zk1 (ci_sc .u8) (.cons .nil' (.cons (.int' rfl) .nil)) ?_; refine goS ?_)
   all_goals ((repeat' apply And.intro) <;> first|rfl|assumption|omega|(simp;done)|(simp;omega)|(simp_all;done))
  refine sA_n ?_
  refine a_cut (fun s => ∃ (newslice1 : List Int) (t0 : Nat → Dat), slices_Concat_J2 newslice1 = some r ∧ s = ⟨tl t0 [(6, .ref 0 0 newslice1.length 1)], hl [⟨5, 1, false, newslice1.map (ci .u8)⟩], 1, 36⟩) ?_ ?_
  ·refine a_srC _ rfl ?_
   refine a_blk ?_
   refine a_loop (fun m s => ∃ (newslice2 : List Int) (v1 : Int) (t0 : Nat → Dat), slices_Concat_L1 slices1 m newslice2 v1 = some r ∧ s = ⟨tl t0 [(6, .ref 0 0 newslice2.length 1), (25, .list 1 (slices1.map (cl 1 (ci .u8)))), (26, .int .i64 (slices1.length : Int)), (27, .int .i64 v1)], hl [⟨5, 1, false, newslice2.map (ci .u8)⟩], 1, 36⟩) BIG ?_ ?_
   ·exact wk_lA [(some 1, _)] [] (fun t0 => ⟨r1, 0, t0, H, rfl⟩)
   ·rintro m_slices_Concat_L1 s ⟨newslice2, v1, t0, H, rfl⟩
    obtain _ | m_slices_Concat_L1 := m_slices_Concat_L1
    ·cases (show (none : Option _) = some _ from H)
    ·rw [slices_Concat_L1] at H
     refine a_srC _ rfl ?_
     refine a_seq ?_
     refine a_cnd H (fun zc1 H => ?_) (fun zc1 H => ?_)
     ·refine a_skip ?_
      refine sA_n ?_
      refine a_seq ?_
      refine a_blk ?_
      refine a_seq ?_
      obtain ⟨x1, zh2, H⟩ := bind_some H
      obtain ⟨zg1, zh2a, zh2b⟩ := idx3 (f := (cl 1 (ci .u8))) zh2
      try simp only [Int.reduceToNat, Int.toNat_natCast] at zg1
      refine a_regC _ rfl ?_
      refine sA_n ?_
      obtain ⟨zh3, H⟩ := chk_some H
      refine a_regC _ rfl ?_
      refine bA_n ?_
      refine sA_n ?_
      refine a_regC _ rfl ?_
      refine lA_n ?_
      exact wk_lA [(some 35, _)] [] (fun t0 => ⟨_, Nat.lt_succ_self _, (newslice2 ++ x1), (IntKind.wrap .i64 (v1 + 1)), t0, H, rfl⟩)
     ·refine a_exit ?_
      refine sA_e ?_
      refine lA_e ?_
      refine bA_hit ?_
      refine cA_n ?_
      exact wk_lA [(some 0, _)] [] (fun t0 => ⟨newslice2, t0, H, rfl⟩)
  ·rintro s ⟨newslice1, t0, H, rfl⟩
   unfold slices_Concat_J2 at H
   refine a_srC _ rfl ?_
   refine a_ret ?_
   obtain rfl := Option.some.inj H
   refine eR_r ?_
   exact wk_lnA 0 [(some 0, ⟨5, 1, false, newslice1.map (ci .u8)⟩)] [] (L := [(2, .ref 0 0 newslice1.length 1)]) (fun t0 => ⟨RS2, RJ⟩) (fun i h => absurd h (Nat.not_lt_zero i))
def pack_Int_J1 (out1 : List Int) (u1 : Int) : Option (List Int) :=
 chk ((out1.length + 1) * 1 ≤ 140737488355328) (some ((out1 ++ [(IntKind.wrap .u8 u1)])))
def pack_Int_L1 : Nat → (List Int) → Int → Option (List Int)
 | 0, _, _ => none
 | m_ + 1, out2, u2 => cond (decide (128 ≤ u2)) (chk ((out2.length + 1) * 1 ≤ 140737488355328) (pack_Int_L1 m_ (out2 ++ [(IntKind.wrap .u8 (BitVec.ofInt (IntKind.bits .u8) (IntKind.wrap .u8 u2) ||| BitVec.ofInt (IntKind.bits .u8) 128).toNat)]) (Int.fdiv u2 (2 ^ (min 7 (IntKind.bits .u64)))))) (pack_Int_J1 out2 u2)
def pack_Int_f (n1 : Int) : Option (List Int) :=
 pack_Int_L1 BIG [] (IntKind.wrap .u64 (BitVec.ofInt (IntKind.bits .u64) (IntKind.wrap .u64 ((IntKind.wrap .u64 n1) * 2 ^ (min 1 (IntKind.bits .u64)))) ^^^ BitVec.ofInt (IntKind.bits .u64) (IntKind.wrap .u64 (Int.fdiv n1 (2 ^ (min 63 (IntKind.bits .i64)))))).toNat)
theorem pack_Int_rc {n1 : Int} {r : (List Int)} (H : pack_Int_f n1 = some r) : RC Tryz.prog 96 [.int .i64 n1] [] 0 (.ref 0 0 r.length 1) [some ⟨5, 1, false, r.map (ci .u8)⟩] := by
 refine rcA_of Tryz.func96 (by rfl) (by decide) 27 (by rfl) [.tmp 2] (by rfl) ?_
 unfold pack_Int_f at H
 simp only [hent, List.length_cons, List.length_nil, reduceAdd]
 refine a_srC _ rfl ?_
 refine a_srC _ rfl ?_
 refine a_srC _ rfl ?_
 refine a_cut (fun s => ∃ (out1 : List Int) (u1 : Int) (t0 : Nat → Dat), pack_Int_J1 out1 u1 = some r ∧ s = ⟨tl t0 [(3, .ref 0 0 out1.length 1), (4, .int .u64 u1)], hl [⟨5, 1, false, out1.map (ci .u8)⟩], 1, 27⟩) ?_ ?_
 ·refine a_blk ?_
  refine a_loop (fun m s => ∃ (out2 : List Int) (u2 : Int) (t0 : Nat → Dat), pack_Int_L1 m out2 u2 = some r ∧ s = ⟨tl t0 [(3, .ref 0 0 out2.length 1), (4, .int .u64 u2)], hl [⟨5, 1, false, out2.map (ci .u8)⟩], 1, 27⟩) BIG ?_ ?_
  ·exact wk_lA [(none, _)] [] (fun t0 => ⟨[], (IntKind.wrap .u64 (BitVec.ofInt (IntKind.bits .u64) (IntKind.wrap .u64 ((IntKind.wrap .u64 n1) * 2 ^ (min 1 (IntKind.bits .u64)))) ^^^ BitVec.ofInt (IntKind.bits .u64) (IntKind.wrap .u64 (Int.fdiv n1 (2 ^ (min 63 (IntKind.bits .i64)))))).toNat), t0, H, rfl⟩)
  ·rintro m_pack_Int_L1 s ⟨out2, u2, t0, H, rfl⟩
   obtain _ | m_pack_Int_L1 := m_pack_Int_L1
   ·cases (show (none : Option _) = some _ from H)
   ·rw [pack_Int_L1] at H
    refine a_seq ?_
    refine a_srC _ rfl ?_
    refine a_cnd H (fun zc1 H => ?_) (fun zc1 H => ?_)
    ·refine a_skip ?_
     refine sA_n ?_
     refine a_seq ?_
     refine a_blk ?_
     obtain ⟨zh2, H⟩ := chk_some H
     refine a_regC _ rfl ?_
     refine bA_n ?_
     refine sA_n ?_
     refine a_regC _ rfl ?_
     refine lA_n ?_
     exact wk_lA [(some 22, _)] [] (fun t0 => ⟨_, Nat.lt_succ_self _, (out2 ++ [(IntKind.wrap .u8 (BitVec.ofInt (IntKind.bits .u8) (IntKind.wrap .u8 u2) ||| BitVec.ofInt (IntKind.bits .u8) 128).toNat)]), (Int.fdiv u2 (2 ^ (min 7 (IntKind.bits .u64)))), t0, H, rfl⟩)
    ·refine a_exit ?_
     refine sA_e ?_
     refine lA_e ?_
     refine bA_hit ?_
     refine cA_n ?_
     exact wk_lA [(some 0, _)] [] (fun t0 => ⟨out2, u2, t0, H, rfl⟩)
 ·rintro s ⟨out1, u1, t0, H, rfl⟩
  unfold pack_Int_J1 at H
  refine a_seq ?_
  obtain ⟨zh1, H⟩ := chk_some H
  refine a_regC _ rfl ?_
  refine sA_n ?_
  refine a_ret ?_
  obtain rfl := Option.some.inj H
  refine eR_r ?_
  exact wk_lnA 0 [(some 5, ⟨5, 1, false, (out1 ++ [(IntKind.wrap .u8 u1)]).map (ci .u8)⟩)] [] (L := [(2, .ref 0 0 (out1 ++ [(IntKind.wrap .u8 u1)]).length 1)]) (fun t0 => ⟨RS2, RJ⟩) (fun i h => absurd h (Nat.not_lt_zero i))
def pack_Str_f (s1 : ByteArray) : Option (List Int) :=
 (pack_Int_f (s1.size : Int)).bind fun r1 => chk ((r1.length + s1.size) * 1 ≤ 140737488355328) (some ((r1 ++ (strBytes s1))))
theorem pack_Str_rc {s1 : ByteArray} {r : (List Int)} (H : pack_Str_f s1 = some r) : RC Tryz.prog 97 [.str s1] [] 0 (.ref 0 0 r.length 1) [some ⟨5, 1, false, r.map (ci .u8)⟩] := by
 refine rcA_of Tryz.func97 (by rfl) (by decide) 8 (by rfl) [.tmp 2] (by rfl) ?_
 unfold pack_Str_f at H
 simp only [hent, List.length_cons, List.length_nil, reduceAdd]
 refine a_srC _ rfl ?_
 refine a_seq ?_
 obtain ⟨r1, zh1, H⟩ := bind_some H
 have zk1 := pack_Int_rc zh1
 obtain ⟨zh2, H⟩ := chk_some H
 refine a_reg _ rfl (s := ?zs2) ?_ ?_
 rotate_left
 ·try simp only [EVT, stepR, evOp, St.ev, St.app, St.put, wrs, evBuiltin, frz, evAppend, isAl, elems, Option.elim, TIS, othE, evAppStr, strCells_eq, strBytes_len, CS, reduceAdd, reduceMul, reduceEqDiff, ↓reduceIte, reduceCtorEq, reduceLT, reduceLeDiff, reduceSub, Nat.reduceBEq]
  repeat' with_reducible apply And.intro
  all_goals try ((with_reducible show CallR _ _ _ _ _ _ _); refine callR_ownm (l := r1) (c := (ci .u8)) [] zk1 (ci_sc .u8) (.cons (.int' rfl) .nil) ?_; simp only [EVT, stepR, evOp, St.ev, St.app, St.put, wrs, evBuiltin, frz, evAppend, isAl, elems, Option.elim, TIS, othE, evAppStr, strCells_eq, strBytes_len, CS, reduceAdd, reduceMul, reduceEqDiff, ↓reduceIte, reduceCtorEq, reduceLT, reduceLeDiff, reduceSub, Nat.reduceBEq])
  repeat' with_reducible apply And.intro
  all_goals try ((with_reducible show OthR _ _ _ _ _); refine oth_appstr rfl rfl Tryz.underlying9 ?_; simp only [EVT, stepR, evOp, St.ev, St.app, St.put, wrs, evBuiltin, frz, evAppend, isAl, elems, Option.elim, TIS, othE, evAppStr, strCells_eq, strBytes_len, CS, reduceAdd, reduceMul, reduceEqDiff, ↓reduceIte, reduceCtorEq, reduceLT, reduceLeDiff, reduceSub, Nat.reduceBEq])
  all_goals ((repeat' apply And.intro) <;> first|rfl|assumption|omega|(simp;done)|(simp;omega)|(simp_all;done))
 refine sA_n ?_
 refine a_ret ?_
 obtain rfl := Option.some.inj H
 refine eR_r ?_
 refine wk_ln 0 [(some 12, ⟨5, 1, false, (r1 ++ (strBytes s1)).map (ci .u8)⟩)] [] [(2, .ref 0 0 (r1 ++ (strBytes s1)).length 1)] (fun i h => absurd h (Nat.not_lt_zero i)) ND ND ?_ ?_ (fun t0 => ⟨RS2, RJ⟩)
 ·exact (allB_some (by rfl) rfl (.sm _ _ (ci_pu .u8)) trivial)
 ·(simp only [AllT, ATT, reduceEqDiff, ↓reduceIte, and_true]); exact (.refl' (by first | rfl | omega | (simp; done) | (simp [strBytes_len]; done) | (simp; omega) | (simp_all; done)) rfl)
def pack_numbers_J1 (out1 : List Int) : Option (List Int) :=
 some (out1)
def pack_numbers_L1 (l1 : List Int) : Nat → (List Int) → Int → Option (List Int)
 | 0, _, _ => none
 | m_ + 1, out2, v1 => cond (decide (v1 < (l1.length : Int))) ((idx l1 v1).bind fun x1 => (pack_Int_f x1).bind fun r1 => chk ((out2.length + r1.length) * 1 ≤ 140737488355328) (pack_numbers_L1 l1 m_ (out2 ++ r1) (IntKind.wrap .i64 (v1 + 1)))) (pack_numbers_J1 out2)
def pack_numbers_f (l1 : List Int) : Option (List Int) :=
 pack_numbers_L1 l1 BIG [] 0
theorem pack_numbers_rc {l1 : List Int} {r : (List Int)} (H : pack_numbers_f l1 = some r) : RC Tryz.prog 138 [.list 1 (l1.map (ci .i64))] [] 0 (.ref 0 0 r.length 1) [some ⟨5, 1, false, r.map (ci .u8)⟩] := by
 refine rcA_of Tryz.func138 (by rfl) (by decide) 18 (by rfl) [.tmp 2] (by rfl) ?_
 unfold pack_numbers_f at H
 simp only [hent, List.length_cons, List.length_nil, reduceAdd]
 refine a_srC _ rfl ?_
 refine a_srC _ rfl ?_
 refine a_cut (fun s => ∃ (out1 : List Int) (t0 : Nat → Dat), pack_numbers_J1 out1 = some r ∧ s = ⟨tl t0 [(3, .ref 0 0 out1.length 1)], hl [⟨5, 1, false, out1.map (ci .u8)⟩], 1, 18⟩) ?_ ?_
 ·refine a_srC _ rfl ?_
  refine a_blk ?_
  refine a_loop (fun m s => ∃ (out2 : List Int) (v1 : Int) (t0 : Nat → Dat), pack_numbers_L1 l1 m out2 v1 = some r ∧ s = ⟨tl t0 [(3, .ref 0 0 out2.length 1), (6, .list 1 (l1.map (ci .i64))), (7, .int .i64 (l1.length : Int)), (8, .int .i64 v1)], hl [⟨5, 1, false, out2.map (ci .u8)⟩], 1, 18⟩) BIG ?_ ?_
  ·exact wk_lA [(none, _)] [] (fun t0 => ⟨[], 0, t0, H, rfl⟩)
  ·rintro m_pack_numbers_L1 s ⟨out2, v1, t0, H, rfl⟩
   obtain _ | m_pack_numbers_L1 := m_pack_numbers_L1
   ·cases (show (none : Option _) = some _ from H)
   ·rw [pack_numbers_L1] at H
    refine a_srC _ rfl ?_
    refine a_seq ?_
    refine a_cnd H (fun zc1 H => ?_) (fun zc1 H => ?_)
    ·refine a_skip ?_
     refine sA_n ?_
     refine a_seq ?_
     refine a_blk ?_
     refine a_seq ?_
     obtain ⟨x1, zh1, H⟩ := bind_some H
     obtain ⟨zg1, zh1a, zh1b⟩ := idx3 (f := (ci .i64)) zh1
     try simp only [Int.reduceToNat, Int.toNat_natCast] at zg1
     refine a_regC _ rfl ?_
     refine sA_n ?_
     obtain ⟨r1, zh2, H⟩ := bind_some H
     have zk1 := pack_Int_rc zh2
     obtain ⟨zh3, H⟩ := chk_some H
     refine a_reg _ rfl (s := ?zs7) ?_ ?_
     rotate_left
     ·try refine goS ?_
      repeat' with_reducible apply And.intro
      all_goals try ((with_reducible show CallR _ _ _ _ _ _ _); refine callR_ownm (l := r1) (c := (ci .u8)) [] zk1 (ci_sc .u8) (.cons (.int' rfl) .nil) ?_; refine goS ?_)
      all_goals ((repeat' apply And.intro) <;> first|rfl|assumption|omega|(simp;done)|(simp;omega)|(simp_all;done))
     refine bA_n ?_
     refine sA_n ?_
     refine a_regC _ rfl ?_
     refine lA_n ?_
     exact wk_lA [(some 36, _)] [] (fun t0 => ⟨_, Nat.lt_succ_self _, (out2 ++ r1), (IntKind.wrap .i64 (v1 + 1)), t0, H, rfl⟩)
    ·refine a_exit ?_
     refine sA_e ?_
     refine lA_e ?_
     refine bA_hit ?_
     refine cA_n ?_
     exact wk_lA [(some 0, _)] [] (fun t0 => ⟨out2, t0, H, rfl⟩)
 ·rintro s ⟨out1, t0, H, rfl⟩
  unfold pack_numbers_J1 at H
  refine a_srC _ rfl ?_
  refine a_ret ?_
  obtain rfl := Option.some.inj H
  refine eR_r ?_
  exact wk_lnA 0 [(some 0, ⟨5, 1, false, out1.map (ci .u8)⟩)] [] (L := [(2, .ref 0 0 out1.length 1)]) (fun t0 => ⟨RS2, RJ⟩) (fun i h => absurd h (Nat.not_lt_zero i))
def pack_Ints_f (l1 : List Int) : Option (List Int) :=
 (pack_Int_f (l1.length : Int)).bind fun r1 => (pack_numbers_f l1).bind fun r2 => chk ((r1.length + r2.length) * 1 ≤ 140737488355328) (some ((r1 ++ r2)))
theorem pack_Ints_rc {l1 : List Int} {r : (List Int)} (H : pack_Ints_f l1 = some r) : RC Tryz.prog 98 [.list 1 (l1.map (ci .i64))] [] 0 (.ref 0 0 r.length 1) [some ⟨5, 1, false, r.map (ci .u8)⟩] := by
 refine rcA_of Tryz.func98 (by rfl) (by decide) 9 (by rfl) [.tmp 2] (by rfl) ?_
 unfold pack_Ints_f at H
 simp only [hent, List.length_cons, List.length_nil, reduceAdd]
 refine a_srC _ rfl ?_
 refine a_seq ?_
 obtain ⟨r1, zh1, H⟩ := bind_some H
 have zk1 := pack_Int_rc zh1
 obtain ⟨r2, zh2, H⟩ := bind_some H
 have zk2 := pack_numbers_rc zh2
 obtain ⟨zh3, H⟩ := chk_some H
 refine a_reg _ rfl (s := ?zs2) ?_ ?_
 rotate_left
 ·try refine goS ?_
  repeat' with_reducible apply And.intro
  all_goals try ((with_reducible show CallR _ _ _ _ _ _ _); refine callR_ownm (l := r1) (c := (ci .u8)) [] zk1 (ci_sc .u8) (.cons (.int' rfl) .nil) ?_; refine goS ?_)
  repeat' with_reducible apply And.intro
  all_goals try ((with_reducible show CallR _ _ _ _ _ _ _); refine callR_ownm (l := r2) (c := (ci .u8)) [] zk2 (ci_sc .u8) (.cons (.lst _ _ _ (ci_pu .i64) rfl) .nil) ?_; refine goS ?_)
  all_goals ((repeat' apply And.intro) <;> first|rfl|assumption|omega|(simp;done)|(simp;omega)|(simp_all;done))
 refine sA_n ?_
 refine a_ret ?_
 obtain rfl := Option.some.inj H
 refine eR_r ?_
 exact wk_lnA 0 [(some 13, ⟨5, 1, false, (r1 ++ r2).map (ci .u8)⟩)] [] (L := [(2, .ref 0 0 (r1 ++ r2).length 1)]) (fun t0 => ⟨RS2, RJ⟩) (fun i h => absurd h (Nat.not_lt_zero i))
def chunk_page_J1 (b1 : List Int) : Option (List Int) :=
 some (b1)
def chunk_page_L1 (r6 : Int) : Nat → (List Int) → Int → Option (List Int)
 | 0, _, _ => none
 | m_ + 1, b2, v1 => cond (decide (v1 < 4)) (chk (0 ≤ (IntKind.wrap .i64 (8 * v1))) (chk ((b2.length + 1) * 1 ≤ 140737488355328) (chunk_page_L1 r6 m_ (b2 ++ [(IntKind.wrap .u8 (Int.fdiv r6 (2 ^ (min (IntKind.wrap .i64 (8 * v1)).toNat (IntKind.bits .i64)))))]) (IntKind.wrap .i64 (v1 + 1))))) (chunk_page_J1 b2)
def chunk_page_f (c1 : Copy) : Option (List Int) :=
 (pack_Int_f c1.id).bind fun r1 => (pack_Int_f c1.ver).bind fun r2 => (pack_Str_f (strOfNums c1.data)).bind fun r3 => (pack_Ints_f c1.sums).bind fun r4 => (slices_Concat_f [r1, r2, r3, r4]).bind fun r5 => (sum_Of_f r5).bind fun r6 => chunk_page_L1 r6 BIG r5 0
theorem chunk_page_pc {c1 : Copy} {r : (List Int)} (H : chunk_page_f c1 = some r) : PC Tryz.prog 46 [.agg (Copy.c c1)] (.list 1 (r.map (ci .u8))) := by
 refine pcA_of Tryz.func46 (by rfl) (by decide) 36 (by rfl) [.tmp 2] (by rfl) ?_
 unfold chunk_page_f at H
 simp only [ent]
 refine a_srC _ rfl ?_
 refine a_seq ?_
 obtain ⟨r1, zh1, H⟩ := bind_some H
 have zk1 := pack_Int_rc zh1
 obtain ⟨r2, zh2, H⟩ := bind_some H
 have zk2 := pack_Int_rc zh2
 obtain ⟨r3, zh3, H⟩ := bind_some H
 have zk3 := pack_Str_rc zh3
 obtain ⟨r4, zh4, H⟩ := bind_some H
 have zk4 := pack_Ints_rc zh4
 obtain ⟨r5, zh5, H⟩ := bind_some H
 have zk5 := slices_Concat_rc zh5
 refine a_drW (by kernel_rfl) _ rfl (s := ?zs2) (by kernel_rfl) (by kernel_rfl) ?zs2f ?_ ?_ ?_
 rotate_left 2
 ·try refine goS ?_
  repeat' with_reducible apply And.intro
  all_goals try ((with_reducible show CallW _ _ _ _ _ _ _); refine callW_rcw (r' := .ref 18 0 r1.length 1) [] [(18, some ⟨5, 1, false, r1.map (ci .u8)⟩)] [] [] [(18, 0, _)] EQA (by decide) zk1 (by simp) ND (fun h2 e => ZZ) (fun h2 e => ZZ) ND ND ZZ ZZ ?_; refine goS ?_)
  repeat' with_reducible apply And.intro
  all_goals try ((with_reducible show CallW _ _ _ _ _ _ _); refine callW_rcw (r' := .ref 21 0 r2.length 1) [] [(21, some ⟨5, 1, false, r2.map (ci .u8)⟩)] [] [] [(21, 0, _)] EQA (by decide) zk2 (by simp) ND (fun h2 e => ZZ) (fun h2 e => ZZ) ND ND ZZ ZZ ?_; refine goS ?_)
  repeat' with_reducible apply And.intro
  all_goals try ((with_reducible show CallW _ _ _ _ _ _ _); refine callW_rcw (r' := .ref 25 0 r3.length 1) [] [(25, some ⟨5, 1, false, r3.map (ci .u8)⟩)] [] [] [(25, 0, _)] EQA (by decide) zk3 (by simp) ND (fun h2 e => ZZ) (fun h2 e => ZZ) ND ND ZZ ZZ ?_; refine goS ?_)
  repeat' with_reducible apply And.intro
  all_goals try ((with_reducible show CallW _ _ _ _ _ _ _); refine callW_rcw (r' := .ref 28 0 r4.length 1) [] [(28, some ⟨5, 1, false, r4.map (ci .u8)⟩)] [] [] [(28, 0, _)] EQA (by decide) zk4 (by simp) ND (fun h2 e => ZZ) (fun h2 e => ZZ) ND ND ZZ ZZ ?_; refine goS ?_)
  repeat' with_reducible apply And.intro
  all_goals try ((with_reducible show CallW _ _ _ _ _ _ _); refine callW_rcw (r' := .ref 30 0 r5.length 1) [18, 21, 25, 28, 29] [(18, some ⟨5, 1, true, r1.map (ci .u8)⟩), (21, some ⟨5, 1, true, r2.map (ci .u8)⟩), (25, some ⟨5, 1, true, r3.map (ci .u8)⟩), (28, some ⟨5, 1, true, r4.map (ci .u8)⟩), (29, some ⟨22, 1, true, [[.ref 18 0 r1.length 1], [.ref 21 0 r2.length 1], [.ref 25 0 r3.length 1], [.ref 28 0 r4.length 1]]⟩), (30, some ⟨5, 1, false, r5.map (ci .u8)⟩)] [] [18, 21, 25, 28, 29] [(30, 0, ⟨5, 1, false, r5.map (ci .u8)⟩)] rfl (by decide) zk5 (by simp) ND (fun h2 e => trivial) (fun h2 e => (.cons (.frz' ((e 29 (by simp)).trans (by rfl)) (by simp) rfl (by first | rfl | omega | (simp; done) | (simp [strBytes_len]; done) | (simp; omega) | (simp_all; done)) (by (simp only [MPT, List.map_replicate, CS, List.nil_append]); repeat' (first | exact RNL.nil | exact RNs.nil | exact RNL.repl _ _ | exact .int' rfl | exact .bool' rfl | exact .str' rfl | exact .nil _ | exact .lst _ _ _ (by first | exact ci_pu _ | exact cb_pu | exact cs_pu | exact Chain.pu | exact Copy.pu | exact Page.pu | exact Disk.pu | exact Find.pu | exact HurtR14.pu | exact Job.pu | exact Named.pu | exact Reader.pu | exact Spot.pu | exact Room.pu | exact Span.pu | exact Lease.pu | exact Rest.pu | exact Reader195.pu | exact cl_pu (by first | exact ci_pu _ | exact cb_pu | exact cs_pu | exact Chain.pu | exact Copy.pu | exact Page.pu | exact Disk.pu | exact Find.pu | exact HurtR14.pu | exact Job.pu | exact Named.pu | exact Reader.pu | exact Spot.pu | exact Room.pu | exact Span.pu | exact Lease.pu | exact Rest.pu | exact Reader195.pu | exact cl_pu (ci_pu _))) rfl | exact RNL.same _ _ (by first | exact ci_pu _ | exact cb_pu | exact cs_pu | exact Chain.pu | exact Copy.pu | exact Page.pu | exact Disk.pu | exact Find.pu | exact HurtR14.pu | exact Job.pu | exact Named.pu | exact Reader.pu | exact Spot.pu | exact Room.pu | exact Span.pu | exact Lease.pu | exact Rest.pu | exact Reader195.pu | exact cl_pu (by first | exact ci_pu _ | exact cb_pu | exact cs_pu | exact Chain.pu | exact Copy.pu | exact Page.pu | exact Disk.pu | exact Find.pu | exact HurtR14.pu | exact Job.pu | exact Named.pu | exact Reader.pu | exact Spot.pu | exact Room.pu | exact Span.pu | exact Lease.pu | exact Rest.pu | exact Reader195.pu | exact cl_pu (ci_pu _))) (by first | rfl | (simp only [List.map_append, List.map_cons, List.map_nil, List.map_set, List.map_take, List.map_drop, List.map_replicate, List.append_assoc, List.nil_append, List.append_nil]; rfl)) | (refine RNs.cons ?_ ?_) | (refine RNL.cons ?_ ?_) | (refine RNL.set ?_ ?_) | (refine .frz' (by first | rfl | exact (e _ (by simp)).trans (by rfl)) (by simp) rfl (by first | rfl | omega | (simp; done) | (simp [strBytes_len]; done) | (simp; omega) | (simp_all; done)) ?_) | exact .refl' (by first | rfl | omega | (simp; done) | (simp [strBytes_len]; done) | (simp; omega) | (simp_all; done)) rfl | (refine RNL.app ?_ ?_)))) .nil)) ND ND ⟨.inr ⟨rfl, by decide⟩, ⟨_, rfl, ⟨rfl, rfl, rfl, rfl⟩, .same _ _ (ci_pu .u8) rfl⟩, trivial⟩ (.refl' rfl rfl) ?_; refine goS ?_)
  all_goals exact CLS
 ·kernel_rfl
 refine sA_n ?_
 refine a_seq ?_
 obtain ⟨r6, zh6, H⟩ := bind_some H
 have zk6 := sum_Of_pc zh6
 refine a_regK _ rfl ?_
 refine sA_n ?_
 refine a_cut (fun s => ∃ (b1 : List Int) (t0 : Nat → Dat), chunk_page_J1 b1 = some r ∧ s = ⟨tl t0 [(3, .ref 0 0 b1.length 1)], hl [⟨5, 1, false, b1.map (ci .u8)⟩], 1, 36⟩) ?_ ?_
 ·refine a_srC _ rfl ?_
  refine a_blk ?_
  refine a_loop (fun m s => ∃ (b2 : List Int) (v1 : Int) (t0 : Nat → Dat), chunk_page_L1 r6 m b2 v1 = some r ∧ s = ⟨tl t0 [(3, .ref 0 0 b2.length 1), (4, .int .i64 r6), (23, .int .i64 v1)], hl [⟨5, 1, false, b2.map (ci .u8)⟩], 1, 36⟩) BIG ?_ ?_
  ·exact wk_lA [(some 30, _)] [] (fun t0 => ⟨r5, 0, t0, H, rfl⟩)
  ·rintro m_chunk_page_L1 s ⟨b2, v1, t0, H, rfl⟩
   obtain _ | m_chunk_page_L1 := m_chunk_page_L1
   ·cases (show (none : Option _) = some _ from H)
   ·rw [chunk_page_L1] at H
    refine a_srC _ rfl ?_
    refine a_seq ?_
    refine a_cnd H (fun zc1 H => ?_) (fun zc1 H => ?_)
    ·refine a_skip ?_
     refine sA_n ?_
     refine a_seq ?_
     refine a_blk ?_
     refine a_srC _ rfl ?_
     obtain ⟨zh7, H⟩ := chk_some H
     obtain ⟨zh8, H⟩ := chk_some H
     refine a_regC _ rfl ?_
     refine bA_n ?_
     refine sA_n ?_
     refine a_regC _ rfl ?_
     refine lA_n ?_
     exact wk_lA [(some 32, _)] [] (fun t0 => ⟨_, Nat.lt_succ_self _, (b2 ++ [(IntKind.wrap .u8 (Int.fdiv r6 (2 ^ (min (IntKind.wrap .i64 (8 * v1)).toNat (IntKind.bits .i64)))))]), (IntKind.wrap .i64 (v1 + 1)), t0, H, rfl⟩)
    ·refine a_exit ?_
     refine sA_e ?_
     refine lA_e ?_
     refine bA_hit ?_
     refine cA_n ?_
     exact wk_lA [(some 0, _)] [] (fun t0 => ⟨b2, t0, H, rfl⟩)
 ·rintro s ⟨b1, t0, H, rfl⟩
  unfold chunk_page_J1 at H
  refine a_srC _ rfl ?_
  exact a_ret RT
def bytes_Clone_f (b1 : List Int) : Option (List Int) :=
 nilq b1 (some (([] : List Int))) (chk ((b1.length) * 1 ≤ 140737488355328) (some (b1)))
theorem bytes_Clone_rc {b1 : List Int} {r : (List Int)} (H : bytes_Clone_f b1 = some r) : RC Tryz.prog 73 [.list 1 (b1.map (ci .u8))] [] 0 (.ref 0 0 r.length 1) [some ⟨5, 1, false, r.map (ci .u8)⟩] := by
 refine rcA_of Tryz.func73 (by rfl) (by decide) 8 (by rfl) [.tmp 2] (by rfl) ?_
 unfold bytes_Clone_f at H
 simp only [hent, List.length_cons, List.length_nil, reduceAdd]
 refine a_srC _ rfl ?_
 refine a_seq ?_
 refine a_seq ?_
 obtain ⟨zh1a, zh1b⟩ := nilq_some H
 refine a_reg2 _ rfl (b1 = []) (s1 := ?zs2a) (s2 := ?zs2b) ?_ ?_ ?_
 rotate_left 2
 ·refine goS ?_
  refine nilq_list rfl Tryz.underlying22 rfl ?_ ?_
  ·intro zb
   simp only [St.put, reduceLT, reduceLeDiff, ↓reduceIte]
   try refine goS ?_
   refine .inl ⟨by simpa using zb, ?_⟩
   rfl
  ·simp only [St.put, reduceLT, reduceLeDiff, ↓reduceIte]
   try refine goS ?_
   refine .inr ?_
   rfl
 ·intro zn; have H := zh1a zn
  refine sA_n ?_
  refine a_condb true (by first | rfl | (simp only [EVT, St.ev, datOf, datOf1, reduceEqDiff, ↓reduceIte]; done) | (simp only [EVT, St.ev, datOf, datOf1, reduceEqDiff, ↓reduceIte]; rfl) | (simp only [EVT, St.ev, datOf, datOf1, reduceEqDiff, ↓reduceIte]; simp_all; done)) (fun zc1 => ?_) (fun zc1 => absurd zc1 (by decide))
  refine a_srC _ rfl ?_
  refine a_ret ?_
  refine sA_r ?_
  obtain rfl := Option.some.inj H
  refine eR_r ?_
  exact wk_lnA 0 [(none, ⟨5, 1, false, ([] : List Int).map (ci .u8)⟩)] [] (L := [(2, .ref 0 0 ([] : List Int).length 1)]) (fun t0 => ⟨RS2, RJ⟩) (fun i h => absurd h (Nat.not_lt_zero i))
 ·have H := zh1b
  refine sA_n ?_
  refine a_condb false (by first | rfl | (simp only [EVT, St.ev, datOf, datOf1, reduceEqDiff, ↓reduceIte]; done) | (simp only [EVT, St.ev, datOf, datOf1, reduceEqDiff, ↓reduceIte]; rfl) | (simp only [EVT, St.ev, datOf, datOf1, reduceEqDiff, ↓reduceIte]; simp_all; done)) (fun zc2 => absurd zc2 (by decide)) (fun zc2 => ?_)
  refine a_skip ?_
  refine sA_n ?_
  refine a_seq ?_
  obtain ⟨zh2, H⟩ := chk_some H
  refine a_regC _ rfl ?_
  refine sA_n ?_
  refine a_ret ?_
  obtain rfl := Option.some.inj H
  refine eR_r ?_
  exact wk_lnA 0 [(some 26, ⟨5, 1, false, b1.map (ci .u8)⟩)] [] (L := [(2, .ref 0 0 b1.length 1)]) (fun t0 => ⟨RS2, RJ⟩) (fun i h => absurd h (Nat.not_lt_zero i))
def slices_Clone_74_f (s1 : List Page) : Option (List Page) :=
 nilq s1 (some (([] : List Page))) (chk ((s1.length) * 32 ≤ 140737488355328) (some (s1)))
theorem slices_Clone_74_rc {s1 : List Page} {r : (List Page)} (H : slices_Clone_74_f s1 = some r) : RC Tryz.prog 74 [.list 2 (s1.map Page.c)] [] 0 (.ref 0 0 r.length 2) [some ⟨130, 2, false, r.map Page.c⟩] := by
 refine rcA_of Tryz.func74 (by rfl) (by decide) 8 (by rfl) [.tmp 2] (by rfl) ?_
 unfold slices_Clone_74_f at H
 simp only [hent, List.length_cons, List.length_nil, reduceAdd]
 refine a_srC _ rfl ?_
 refine a_seq ?_
 refine a_seq ?_
 obtain ⟨zh1a, zh1b⟩ := nilq_some H
 refine a_reg2 _ rfl (s1 = []) (s1 := ?zs2a) (s2 := ?zs2b) ?_ ?_ ?_
 rotate_left 2
 ·refine goS ?_
  refine nilq_list rfl Tryz.underlying42 rfl ?_ ?_
  ·intro zb
   simp only [St.put, reduceLT, reduceLeDiff, ↓reduceIte]
   try refine goS ?_
   refine .inl ⟨by simpa using zb, ?_⟩
   rfl
  ·simp only [St.put, reduceLT, reduceLeDiff, ↓reduceIte]
   try refine goS ?_
   refine .inr ?_
   rfl
 ·intro zn; have H := zh1a zn
  refine sA_n ?_
  refine a_condb true (by first | rfl | (simp only [EVT, St.ev, datOf, datOf1, reduceEqDiff, ↓reduceIte]; done) | (simp only [EVT, St.ev, datOf, datOf1, reduceEqDiff, ↓reduceIte]; rfl) | (simp only [EVT, St.ev, datOf, datOf1, reduceEqDiff, ↓reduceIte]; simp_all; done)) (fun zc1 => ?_) (fun zc1 => absurd zc1 (by decide))
  refine a_srC _ rfl ?_
  refine a_ret ?_
  refine sA_r ?_
  obtain rfl := Option.some.inj H
  refine eR_r ?_
  exact wk_lnA 0 [(none, ⟨130, 2, false, ([] : List Page).map Page.c⟩)] [] (L := [(2, .ref 0 0 ([] : List Page).length 2)]) (fun t0 => ⟨RS2, RJ⟩) (fun i h => absurd h (Nat.not_lt_zero i))
 ·have H := zh1b
  refine sA_n ?_
  refine a_condb false (by first | rfl | (simp only [EVT, St.ev, datOf, datOf1, reduceEqDiff, ↓reduceIte]; done) | (simp only [EVT, St.ev, datOf, datOf1, reduceEqDiff, ↓reduceIte]; rfl) | (simp only [EVT, St.ev, datOf, datOf1, reduceEqDiff, ↓reduceIte]; simp_all; done)) (fun zc2 => absurd zc2 (by decide)) (fun zc2 => ?_)
  refine a_skip ?_
  refine sA_n ?_
  refine a_seq ?_
  obtain ⟨zh2, H⟩ := chk_some H
  refine a_regC _ rfl ?_
  refine sA_n ?_
  refine a_ret ?_
  obtain rfl := Option.some.inj H
  refine eR_r ?_
  exact wk_lnA 0 [(some 26, ⟨130, 2, false, s1.map Page.c⟩)] [] (L := [(2, .ref 0 0 s1.length 2)]) (fun t0 => ⟨RS2, RJ⟩) (fun i h => absurd h (Nat.not_lt_zero i))
def disk_may_f (at1 : Int) (data1 : List Int) : Option Bool :=
 some ((decide (0 ≤ at1)) && ((decide (at1 < 1000)) && (decide ((data1.length : Int) ≤ 200))))
theorem disk_may_pc {at1 : Int} {data1 : List Int} {r : Bool} (H : disk_may_f at1 data1 = some r) : PC Tryz.prog 103 [.int .i64 at1, .list 1 (data1.map (ci .u8))] (.bool r) := by
 refine pcA_of Tryz.func103 (by rfl) (by decide) 16 (by rfl) [.tmp 4] (by rfl) ?_
 unfold disk_may_f at H
 simp only [ent]
 refine a_srC _ rfl ?_
 refine a_seq ?_
 refine bool_split (b := (decide (0 ≤ at1))) (fun zc1 => ?_) (fun zc1 => ?_)
 ·rw [zc1] at H
  refine bool_split (b := (decide (at1 < 1000))) (fun zc2 => ?_) (fun zc2 => ?_)
  ·rw [zc2] at H
   refine a_regC _ rfl ?_
   refine sA_n ?_
   exact a_ret RT
  ·rw [zc2] at H
   refine a_regC _ rfl ?_
   refine sA_n ?_
   refine a_ret ?_
   obtain rfl := Option.some.inj H
   refine e_r2 (d := ?zd2) ?_ ?_
   rotate_left
   ·simp only [EVT, resR, single, evLoad, cut, TIS, CS, reduceAdd, reduceEqDiff, ↓reduceIte, reduceCtorEq, reduceLT, reduceLeDiff, reduceSub, Nat.reduceBEq, zc1, zc2]
    (repeat' apply And.intro) <;> first | rfl | assumption | omega | (simp; done)
   exact ZZ
 ·rw [zc1] at H
  refine a_regC _ rfl ?_
  refine sA_n ?_
  refine a_ret ?_
  obtain rfl := Option.some.inj H
  refine e_r2 (d := ?zd3) ?_ ?_
  rotate_left
  ·simp only [EVT, resR, single, evLoad, cut, TIS, CS, reduceAdd, reduceEqDiff, ↓reduceIte, reduceCtorEq, reduceLT, reduceLeDiff, reduceSub, Nat.reduceBEq, zc1]
   (repeat' apply And.intro) <;> first | rfl | assumption | omega | (simp; done)
  exact ZZ
def disk_Write_f (d1 : Disk) (at1 : Int) (data1 : List Int) : Option (Disk × Int) :=
 cond d1.down (some (d1, 40)) ((disk_may_f at1 data1).bind fun r1 => cond (!r1) (some (d1, 1)) ((slices_Clone_74_f d1.loose).bind fun r2 => (bytes_Clone_f data1).bind fun r3 => chk ((r2.length + 1) * 32 ≤ 140737488355328) (some ((⟨d1.synced, (r2 ++ [(⟨at1, r3⟩ : Page)]), d1.down⟩ : Disk), 0))))
theorem disk_Write_pc {d1 : Disk} {at1 : Int} {data1 : List Int} {r : Disk × Int} (H : disk_Write_f d1 at1 data1 = some r) : PC Tryz.prog 100 [.agg (Disk.c d1), .int .i64 at1, .list 1 (data1.map (ci .u8))] (.tup [.agg (Disk.c r.1), .int .i64 r.2]) := by
 refine pcA_of Tryz.func100 (by rfl) (by decide) 29 (by rfl) [.cell 6 44, .tmp 7] (by rfl) ?_
 unfold disk_Write_f at H
 simp only [ent]
 refine a_seq ?_
 refine a_regC _ rfl ?_
 refine sA_n ?_
 refine a_seq ?_
 refine a_blk ?_
 refine a_seq ?_
 refine a_regC _ rfl ?_
 refine sA_n ?_
 refine a_cnd H (fun zc1 H => ?_) (fun zc1 H => ?_)
 ·refine a_seq ?_
  refine a_regC _ rfl ?_
  refine sA_n ?_
  exact a_ret (bA_r (sA_r RT))
 ·refine a_seq ?_
  obtain ⟨r1, zh1, H⟩ := bind_some H
  have zk1 := disk_may_pc zh1
  refine a_regK _ rfl ?_
  refine sA_n ?_
  refine a_cnd H (fun zc2 H => ?_) (fun zc2 H => ?_)
  ·refine a_seq ?_
   refine a_regC _ rfl ?_
   refine sA_n ?_
   refine a_ret ?_
   refine bA_r ?_
   refine sA_r ?_
   obtain rfl := Option.some.inj H
   refine e_r2 (d := ?zd2) ?_ ?_
   rotate_left
   ·simp only [EVT, resR, single, evLoad, cut, TIS, CS, reduceAdd, reduceEqDiff, ↓reduceIte, reduceCtorEq, reduceLT, reduceLeDiff, reduceSub, Nat.reduceBEq, zc1, zc2]
    (repeat' apply And.intro) <;> first | rfl | assumption | omega | (simp; done)
   exact ZZ
  ·refine a_skip ?_
   refine bA_n ?_
   refine sA_n ?_
   refine a_seq ?_
   obtain ⟨r2, zh2, H⟩ := bind_some H
   have zk2 := slices_Clone_74_rc zh2
   obtain ⟨r3, zh3, H⟩ := bind_some H
   have zk3 := bytes_Clone_rc zh3
   obtain ⟨zh4, H⟩ := chk_some H
   refine a_reg _ rfl (s := ?zs6) ?_ ?_
   rotate_left
   ·try refine goZ2 ?_
    repeat' with_reducible apply And.intro
    all_goals try ((with_reducible show CallR _ _ _ _ _ _ _); refine callR_rcw (r' := .ref 90 0 r2.length 2) [(90, some ⟨130, 2, false, r2.map Page.c⟩)] [] [] [(90, 0, ⟨130, 2, false, r2.map Page.c⟩)] (by first | rfl | (simp only [List.map_set, List.map_append, List.map_cons, List.map_nil]; rfl)) zk2 (by simp) ND trivial (.cons (.lst _ _ _ Page.pu rfl) .nil) ND ND ⟨.inr ⟨rfl, by decide⟩, ⟨_, rfl, ⟨rfl, rfl, rfl, rfl⟩, .same _ _ Page.pu rfl⟩, trivial⟩ (.refl' rfl rfl) ?_; refine goZ2 ?_)
    repeat' with_reducible apply And.intro
    all_goals try ((with_reducible show CallR _ _ _ _ _ _ _); refine callR_ownm (l := r3) (c := (ci .u8)) [] zk3 (ci_sc .u8) (.cons (.lst _ _ _ (ci_pu .u8) rfl) .nil) ?_; refine goZ2 ?_)
    all_goals ((repeat' apply And.intro) <;> first|rfl|assumption|omega|(simp;done)|(simp;omega)|(simp_all;done))
   refine sA_n ?_
   refine a_seq ?_
   refine a_reg _ rfl (s := ?zs7) ?_ ?_
   rotate_left
   ·refine goZ2 ?_
    (repeat' apply And.intro) <;> first|rfl|assumption|omega|(simp;done)|(simp;omega)|(simp_all;done)
   refine sA_n ?_
   refine a_ret ?_
   obtain rfl := Option.some.inj H
   refine e_r2 (d := ?zd3) ?_ ?_
   rotate_left
   ·simp only [EVT, resR, single, evLoad, cut, TIS, CS, reduceAdd, reduceEqDiff, ↓reduceIte, reduceCtorEq, reduceLT, reduceLeDiff, reduceSub, Nat.reduceBEq, zc1, zc2]
    (repeat' apply And.intro) <;> first | rfl | assumption | omega | (simp; done)
   exact (.tup' (.cons (.agg' (.cons (.lst _ _ _ Page.pu rfl) (.cons (.ownL (by rfl) (fun e => by cases e) rfl (by first | rfl | omega | (simp; done) | (simp [strBytes_len]; done) | (simp; omega) | (simp_all; done)) (by (simp only [List.map_append, List.map_cons, List.map_nil, List.map_set, List.map_take, List.map_drop, List.map_replicate, List.append_assoc, List.nil_append, List.append_nil, ci_eq, cb_eq, cs_eq, cl_eq, CS, List.nil_append]); repeat' (first | exact PL.nil | exact PurRs.nil |  exact .int' rfl | exact .bool' rfl | exact .str' rfl | exact .nil _ | exact .lst _ _ _ (by first | exact ci_pu _ | exact cb_pu | exact cs_pu | exact Chain.pu | exact Copy.pu | exact Page.pu | exact Disk.pu | exact Find.pu | exact HurtR14.pu | exact Job.pu | exact Named.pu | exact Reader.pu | exact Spot.pu | exact Room.pu | exact Span.pu | exact Lease.pu | exact Rest.pu | exact Reader195.pu | exact cl_pu (by first | exact ci_pu _ | exact cb_pu | exact cs_pu | exact Chain.pu | exact Copy.pu | exact Page.pu | exact Disk.pu | exact Find.pu | exact HurtR14.pu | exact Job.pu | exact Named.pu | exact Reader.pu | exact Spot.pu | exact Room.pu | exact Span.pu | exact Lease.pu | exact Rest.pu | exact Reader195.pu | exact cl_pu (ci_pu _))) rfl | exact PL.same _ _ (by first | exact ci_pu _ | exact cb_pu | exact cs_pu | exact Chain.pu | exact Copy.pu | exact Page.pu | exact Disk.pu | exact Find.pu | exact HurtR14.pu | exact Job.pu | exact Named.pu | exact Reader.pu | exact Spot.pu | exact Room.pu | exact Span.pu | exact Lease.pu | exact Rest.pu | exact Reader195.pu | exact cl_pu (by first | exact ci_pu _ | exact cb_pu | exact cs_pu | exact Chain.pu | exact Copy.pu | exact Page.pu | exact Disk.pu | exact Find.pu | exact HurtR14.pu | exact Job.pu | exact Named.pu | exact Reader.pu | exact Spot.pu | exact Room.pu | exact Span.pu | exact Lease.pu | exact Rest.pu | exact Reader195.pu | exact cl_pu (ci_pu _))) (by first | rfl | (simp only [List.map_append, List.map_cons, List.map_nil, List.map_set, List.map_take, List.map_drop, List.map_replicate, List.append_assoc, List.nil_append, List.append_nil]; rfl)) | (refine PurRs.cons ?_ ?_) | (refine PL.cons ?_ ?_) | (refine PL.set ?_ ?_) | (refine .ownL (by first | rfl | exact (wrs_frz _ _ _ _).trans (by rfl) | exact (e _ (by simp)).trans (by rfl) | exact (wrs_frz h2 _ h2 _).trans (by rw [e _ (by simp)]; rfl)) (by first | exact (fun e => by cases e) | exact (fun _ => rfl)) rfl (by first | rfl | omega | (simp; done) | (simp [strBytes_len]; done) | (simp; omega) | (simp_all; done)) ?_) | (refine PL.app ?_ ?_)))) (.cons (.bool' (by first | rfl | assumption | (simp_all; done))) .nil)))) (.cons (.int' rfl) .nil)))
end
end Go.Proofs.YtjflkcfafijhfaaGreat
/- Functions of the program as Lean functions, and that they are so; printed by a program of mine. -/
set_option linter.unusedSimpArgs false
set_option linter.unusedVariables false
set_option maxHeartbeats 4000000
set_option maxRecDepth 20000
namespace Go.Proofs.YtjflkcfafijhfaaGreat
open Go.Ab
open Nat (reduceAdd reduceMul reduceEqDiff reduceLT reduceLeDiff reduceSub)
noncomputable section
def chunk_Put_f (d1 : Disk) (c1 : Copy) : Option (Disk × Int) :=
 (chunk_may_f c1).bind fun r1 => cond (!r1) (some (d1, 1)) ((chunk_page_f c1).bind fun r2 => (disk_Write_f d1 c1.id r2).bind fun r3 => some (r3.1, r3.2))
theorem chunk_Put_pc {d1 : Disk} {c1 : Copy} {r : Disk × Int} (H : chunk_Put_f d1 c1 = some r) : PC Tryz.prog 56 [.agg (Disk.c d1), .agg (Copy.c c1)] (.tup [.agg (Disk.c r.1), .int .i64 r.2]) := by
 refine pcA_of Tryz.func56 (by rfl) (by decide) 18 (by rfl) [.cell 4 44, .tmp 5] (by rfl) ?_
 unfold chunk_Put_f at H
 simp only [ent]
 refine a_srC _ rfl ?_
 refine a_seq ?_
 refine a_seq ?_
 obtain ⟨r1, zh1, H⟩ := bind_some H
 have zk1 := chunk_may_pc zh1
 refine a_regK _ rfl ?_
 refine sA_n ?_
 refine a_cnd H (fun zc1 H => ?_) (fun zc1 H => ?_)
 ·refine a_srC _ rfl ?_
  exact a_ret (sA_r RT)
 ·refine a_skip ?_
  refine sA_n ?_
  refine a_seq ?_
  obtain ⟨r2, zh2, H⟩ := bind_some H
  have zk2 := chunk_page_pc zh2
  obtain ⟨r3, zh3, H⟩ := bind_some H
  have zk3 := disk_Write_pc zh3
  refine a_drW (by kernel_rfl) _ rfl (s := ?zs4) (by kernel_rfl) (by kernel_rfl) ?zs4f ?_ ?_ ?_
  rotate_left 2
  ·try refine goS ?_
   repeat' with_reducible apply And.intro
   all_goals try ((with_reducible show CallW _ _ _ _ _ _ _); refine cW_p [] zk2 (fun h2 e => ZZ) ?_; refine goS ?_)
   repeat' with_reducible apply And.intro
   all_goals try ((with_reducible show CallW _ _ _ _ _ _ _); refine cW_p [] zk3 (fun h2 e => ZZ) ?_; refine goS ?_)
   all_goals exact CLS
  ·kernel_rfl
  refine sA_n ?_
  refine a_ret ?_
  obtain rfl := Option.some.inj H
  refine e_r2 (d := ?zd2) ?_ ?_
  rotate_left
  ·simp only [EVT, resR, single, evLoad, cut, TIS, CS, reduceAdd, reduceEqDiff, ↓reduceIte, reduceCtorEq, reduceLT, reduceLeDiff, reduceSub, Nat.reduceBEq, zc1]
   (repeat' apply And.intro) <;> first | rfl | assumption | omega | (simp; done)
  exact ZZ
def slices_Clone_108_f (s1 : List Int) : Option (List Int) :=
 nilq s1 (some (([] : List Int))) (chk ((s1.length) * 1 ≤ 140737488355328) (some (s1)))
theorem slices_Clone_108_rc {s1 : List Int} {r : (List Int)} (H : slices_Clone_108_f s1 = some r) : RC Tryz.prog 108 [.list 1 (s1.map (ci .u8))] [] 0 (.ref 0 0 r.length 1) [some ⟨5, 1, false, r.map (ci .u8)⟩] := by
 refine rcA_of Tryz.func108 (by rfl) (by decide) 8 (by rfl) [.tmp 2] (by rfl) ?_
 unfold slices_Clone_108_f at H
 simp only [hent, List.length_cons, List.length_nil, reduceAdd]
 refine a_srC _ rfl ?_
 refine a_seq ?_
 refine a_seq ?_
 obtain ⟨zh1a, zh1b⟩ := nilq_some H
 refine a_reg2 _ rfl (s1 = []) (s1 := ?zs2a) (s2 := ?zs2b) ?_ ?_ ?_
 rotate_left 2
 ·refine goS ?_
  refine nilq_list rfl Tryz.underlying22 rfl ?_ ?_
  ·intro zb
   simp only [St.put, reduceLT, reduceLeDiff, ↓reduceIte]
   try refine goS ?_
   refine .inl ⟨by simpa using zb, ?_⟩
   rfl
  ·simp only [St.put, reduceLT, reduceLeDiff, ↓reduceIte]
   try refine goS ?_
   refine .inr ?_
   rfl
 ·intro zn; have H := zh1a zn
  refine sA_n ?_
  refine a_condb true (by first | rfl | (simp only [EVT, St.ev, datOf, datOf1, reduceEqDiff, ↓reduceIte]; done) | (simp only [EVT, St.ev, datOf, datOf1, reduceEqDiff, ↓reduceIte]; rfl) | (simp only [EVT, St.ev, datOf, datOf1, reduceEqDiff, ↓reduceIte]; simp_all; done)) (fun zc1 => ?_) (fun zc1 => absurd zc1 (by decide))
  refine a_srC _ rfl ?_
  refine a_ret ?_
  refine sA_r ?_
  obtain rfl := Option.some.inj H
  refine eR_r ?_
  exact wk_lnA 0 [(none, ⟨5, 1, false, ([] : List Int).map (ci .u8)⟩)] [] (L := [(2, .ref 0 0 ([] : List Int).length 1)]) (fun t0 => ⟨RS2, RJ⟩) (fun i h => absurd h (Nat.not_lt_zero i))
 ·have H := zh1b
  refine sA_n ?_
  refine a_condb false (by first | rfl | (simp only [EVT, St.ev, datOf, datOf1, reduceEqDiff, ↓reduceIte]; done) | (simp only [EVT, St.ev, datOf, datOf1, reduceEqDiff, ↓reduceIte]; rfl) | (simp only [EVT, St.ev, datOf, datOf1, reduceEqDiff, ↓reduceIte]; simp_all; done)) (fun zc2 => absurd zc2 (by decide)) (fun zc2 => ?_)
  refine a_skip ?_
  refine sA_n ?_
  refine a_seq ?_
  obtain ⟨zh2, H⟩ := chk_some H
  refine a_regC _ rfl ?_
  refine sA_n ?_
  refine a_ret ?_
  obtain rfl := Option.some.inj H
  refine eR_r ?_
  exact wk_lnA 0 [(some 26, ⟨5, 1, false, s1.map (ci .u8)⟩)] [] (L := [(2, .ref 0 0 s1.length 1)]) (fun t0 => ⟨RS2, RJ⟩) (fun i h => absurd h (Nat.not_lt_zero i))
def chunk_New_f (id1 : Int) (ver1 : Int) (data1 : List Int) : Option Copy :=
 (slices_Clone_108_f data1).bind fun r1 => (sum_Blocks_f data1).bind fun r2 => some ((⟨id1, ver1, r1, r2⟩ : Copy))
theorem chunk_New_pc {id1 : Int} {ver1 : Int} {data1 : List Int} {r : Copy} (H : chunk_New_f id1 ver1 data1 = some r) : PC Tryz.prog 57 [.int .i64 id1, .int .i64 ver1, .list 1 (data1.map (ci .u8))] (.agg (Copy.c r)) := by
 refine pcA_of Tryz.func57 (by rfl) (by decide) 14 (by rfl) [.cell 6 39] (by rfl) ?_
 unfold chunk_New_f at H
 simp only [ent]
 refine a_srC _ rfl ?_
 refine a_seq ?_
 obtain ⟨r1, zh1, H⟩ := bind_some H
 have zk1 := slices_Clone_108_rc zh1
 obtain ⟨r2, zh2, H⟩ := bind_some H
 have zk2 := sum_Blocks_rc zh2
 refine a_reg _ rfl (s := ?zs2) ?_ ?_
 rotate_left
 ·try refine goS ?_
  repeat' with_reducible apply And.intro
  all_goals try ((with_reducible show CallR _ _ _ _ _ _ _); refine callR_ownm (l := r1) (c := (ci .u8)) [] zk1 (ci_sc .u8) (.cons (.lst _ _ _ (ci_pu .u8) rfl) .nil) ?_; refine goS ?_)
  repeat' with_reducible apply And.intro
  all_goals try ((with_reducible show CallR _ _ _ _ _ _ _); refine callR_ownm (l := r2) (c := (ci .i64)) [] zk2 (ci_sc .i64) (.cons (.lst _ _ _ (ci_pu .u8) rfl) .nil) ?_; refine goS ?_)
  all_goals ((repeat' apply And.intro) <;> first|rfl|assumption|omega|(simp;done)|(simp;omega)|(simp_all;done))
 refine sA_n ?_
 exact a_ret RT
def disk_Sync_f (d1 : Disk) : Option (Disk × Int) :=
 cond d1.down (some (d1, 40)) ((disk_laid_f d1.synced d1.loose).bind fun r1 => some ((⟨r1, [], false⟩ : Disk), 0))
theorem disk_Sync_pc {d1 : Disk} {r : Disk × Int} (H : disk_Sync_f d1 = some r) : PC Tryz.prog 85 [.agg (Disk.c d1)] (.tup [.agg (Disk.c r.1), .int .i64 r.2]) := by
 refine pcA_of Tryz.func85 (by rfl) (by decide) 13 (by rfl) [.cell 2 44, .tmp 3] (by rfl) ?_
 unfold disk_Sync_f at H
 simp only [ent]
 refine a_srC _ rfl ?_
 refine a_seq ?_
 refine a_srC _ rfl ?_
 refine a_cnd H (fun zc1 H => ?_) (fun zc1 H => ?_)
 ·refine a_srC _ rfl ?_
  exact a_ret (sA_r RT)
 ·refine a_skip ?_
  refine sA_n ?_
  refine a_seq ?_
  obtain ⟨r1, zh1, H⟩ := bind_some H
  have zk1 := disk_laid_pc zh1
  refine a_regK _ rfl ?_
  refine sA_n ?_
  refine a_ret ?_
  obtain rfl := Option.some.inj H
  refine e_r2 (d := ?zd2) ?_ ?_
  rotate_left
  ·simp only [EVT, resR, single, evLoad, cut, TIS, CS, reduceAdd, reduceEqDiff, ↓reduceIte, reduceCtorEq, reduceLT, reduceLeDiff, reduceSub, Nat.reduceBEq, zc1]
   (repeat' apply And.intro) <;> first | rfl | assumption | omega | (simp; done)
  exact ZZ
def chain_laying_1_f (server1 : Int) (v1 : List Disk) (v2 : Chain) (v3 : List Int) : Option (List Disk) :=
 (idx v1 server1).bind fun x1 => (chunk_New_f v2.id v2.ver v3).bind fun r1 => (chunk_Put_f x1 r1).bind fun r2 => (disk_Sync_f r2.1).bind fun r3 => some ((v1.set server1.toNat r3.1))
theorem chain_laying_1_rc {server1 : Int} {v1 : List Disk} {v2 : Chain} {v3 : List Int} {r : (List Disk)} (H : chain_laying_1_f server1 v1 v2 v3 = some r) : RC Tryz.prog 84 [.int .i64 server1, .rop [.ref 0 0 v1.length 3] 0 1, .rop (Chain.c v2) 0 3, .rop ((cl 1 (ci .u8)) v3) 0 1] [⟨44, 3, false, v1.map Disk.c⟩] 1 (.tup []) [some ⟨44, 3, false, r.map Disk.c⟩] := by
 refine rcA_of Tryz.func84 (by rfl) (by decide) 29 (by rfl) [] (by rfl) ?_
 unfold chain_laying_1_f at H
 simp only [hent, List.length_cons, List.length_nil, reduceAdd]
 refine a_seq ?_
 obtain ⟨x1, zh1, H⟩ := bind_some H
 obtain ⟨zg1, zh1a, zh1b⟩ := idx3 (f := Disk.c) zh1
 try simp only [Int.reduceToNat, Int.toNat_natCast] at zg1
 obtain ⟨r1, zh2, H⟩ := bind_some H
 have zk1 := chunk_New_pc zh2
 obtain ⟨r2, zh3, H⟩ := bind_some H
 have zk2 := chunk_Put_pc zh3
 refine a_drW (by kernel_rfl) _ rfl (s := ?zs1) (by kernel_rfl) (by kernel_rfl) ?zs1f ?_ ?_ ?_
 rotate_left 2
 ·try refine goS ?_
  repeat' with_reducible apply And.intro
  all_goals try ((with_reducible show CallW _ _ _ _ _ _ _); refine cW_p [] zk1 (fun h2 e => ZZ) ?_; refine goS ?_)
  repeat' with_reducible apply And.intro
  all_goals try ((with_reducible show CallW _ _ _ _ _ _ _); refine cW_p [] zk2 (fun h2 e => ZZ) ?_; refine goS ?_)
  all_goals exact CLS
 ·kernel_rfl
 refine sA_n ?_
 obtain ⟨r3, zh4, H⟩ := bind_some H
 have zk3 := disk_Sync_pc zh4
 refine a_drW (by kernel_rfl) _ rfl (s := ?zs2) (by kernel_rfl) (by kernel_rfl) ?zs2f ?_ ?_ ?_
 rotate_left 2
 ·try refine goS ?_
  repeat' with_reducible apply And.intro
  all_goals try ((with_reducible show CallW _ _ _ _ _ _ _); refine cW_p [] zk3 (fun h2 e => ZZ) ?_; refine goS ?_)
  all_goals exact CLS
 ·kernel_rfl
 obtain rfl := Option.some.inj H
 refine eR_n ?_
 exact wk_lnA 1 [(some 0, ⟨44, 3, false, (v1.set server1.toNat r3.1).map Disk.c⟩)] [] (L := []) (fun t0 => ⟨RS2, RJ⟩)
def chain_Make_J2 (id1 : Int) (r1 : (List Int)) (own1 : List Disk) : Option (Chain × (List Disk) × Int) :=
 some ((⟨id1, 1, r1⟩ : Chain), own1, 0)
def chain_Make_L1 (servers1 : List Int) (id1 : Int) (r1 : (List Int)) (data1 : List Int) : Nat → (List Disk) → Int → Option (Chain × (List Disk) × Int)
 | 0, _, _ => none
 | m_ + 1, own2, v2 => cond (decide (v2 < (servers1.length : Int))) ((idx servers1 v2).bind fun x1 => (chain_laying_1_f x1 own2 (⟨id1, 1, r1⟩ : Chain) data1).bind fun r4 => chk (r4.length = own2.length) (chain_Make_L1 servers1 id1 r1 data1 m_ r4 (IntKind.wrap .i64 (v2 + 1)))) (chain_Make_J2 id1 r1 own2)
def chain_Make_J1 (disks1 : List Disk) (servers1 : List Int) (id1 : Int) (r1 : (List Int)) (data1 : List Int) (v1 : Bool) : Option (Chain × (List Disk) × Int) :=
 cond v1 (some ((⟨0, 0, []⟩ : Chain), disks1, 1)) ((slices_ContainsFunc_68_f servers1 (fun y0_ => chain_Make_1_f y0_ disks1)).bind fun r2 => cond r2 (some ((⟨0, 0, []⟩ : Chain), disks1, 40)) ((chain_laying_f (⟨id1, 1, r1⟩ : Chain) disks1 data1).bind fun r3 => chain_Make_L1 servers1 id1 r1 data1 BIG r3 0))
def chain_Make_f (id1 : Int) (servers1 : List Int) (disks1 : List Disk) (data1 : List Int) : Option (Chain × (List Disk) × Int) :=
 (slices_Clone_f servers1).bind fun r1 => (chain_Right_f (⟨id1, 1, r1⟩ : Chain) disks1).bind fun r5 => chain_Make_J1 disks1 servers1 id1 r1 data1 ((!r5) || (decide (64 < (data1.length : Int))))
theorem chain_Make_pc {id1 : Int} {servers1 : List Int} {disks1 : List Disk} {data1 : List Int} {r : Chain × (List Disk) × Int} (H : chain_Make_f id1 servers1 disks1 data1 = some r) : PC Tryz.prog 33 [.int .i64 id1, .list 1 (servers1.map (ci .i64)), .list 3 (disks1.map Disk.c), .list 1 (data1.map (ci .u8))] (.tup [.agg (Chain.c r.1), .list 3 (r.2.1.map Disk.c), .int .i64 r.2.2]) := by
 refine pcA_of Tryz.func33 (by rfl) (by decide) 57 (by rfl) [.cell 8 30, .tmp 9, .tmp 10] (by rfl) ?_
 unfold chain_Make_f at H
 simp only [ent]
 refine a_srC _ rfl ?_
 refine a_seq ?_
 obtain ⟨r1, zh1, H⟩ := bind_some H
 have zk1 := slices_Clone_rc zh1
 refine a_reg _ rfl (s := ?zs2) ?_ ?_
 rotate_left
 ·try refine goS ?_
  repeat' with_reducible apply And.intro
  all_goals try ((with_reducible show CallR _ _ _ _ _ _ _); refine callR_ownm (l := r1) (c := (ci .i64)) [] zk1 (ci_sc .i64) (.cons (.lst _ _ _ (ci_pu .i64) rfl) .nil) ?_; refine goS ?_)
  all_goals ((repeat' apply And.intro) <;> first|rfl|assumption|omega|(simp;done)|(simp;omega)|(simp_all;done))
 refine sA_n ?_
 refine a_seq ?_
 refine a_blk ?_
 refine a_cut (fun s => ∃ (v1 : Bool) (t0 : Nat → Dat), chain_Make_J1 disks1 servers1 id1 r1 data1 v1 = some r ∧ s = ⟨tl t0 [(1, .list 1 (servers1.map (ci .i64))), (3, .list 1 (data1.map (ci .u8))), (6, .ptr 0 0 0 1), (8, .ptr 1 0 0 3), (11, .ptr 2 0 0 3), (20, .bool v1)], hl [⟨24, 1, false, [[.list 3 (disks1.map Disk.c)]]⟩, ⟨30, 3, false, [[.int .i64 0, .int .i64 0, .nil]]⟩, ⟨30, 3, false, [[.int .i64 id1, .int .i64 1, .ref 3 0 r1.length 1]]⟩, ⟨3, 1, false, r1.map (ci .i64)⟩], 4, 57⟩) ?_ ?_
 ·obtain ⟨r5, zh7, H⟩ := bind_some H
  have zk5 := chain_Right_pc zh7
  refine bool_split (b := (!r5)) (fun zc4 => ?_) (fun zc4 => ?_)
  ·rw [zc4] at H
   refine a_regK _ rfl ?_
   refine cA_n ?_
   exact wk_lA [(some 0, _), (some 1, _), (some 36, _), (some 34, _)] [] (fun t0 => ⟨true, t0, H, rfl⟩)
  ·rw [zc4] at H
   refine a_regK _ rfl ?_
   refine cA_n ?_
   exact wk_lA [(some 0, _), (some 1, _), (some 36, _), (some 34, _)] [] (fun t0 => ⟨(decide (64 < (data1.length : Int))), t0, H, rfl⟩)
 ·rintro s ⟨v1, t0, H, rfl⟩
  unfold chain_Make_J1 at H
  refine a_cnd H (fun zc1 H => ?_) (fun zc1 H => ?_)
  ·refine a_seq ?_
   refine a_drW (by kernel_rfl) _ rfl (s := ?zs3) (by kernel_rfl) (by kernel_rfl) ?zs3f ?_ ?_ ?_
   rotate_left 2
   ·refine goS ?_
    exact CLS
   ·kernel_rfl
   refine sA_n ?_
   exact a_ret (bA_r (sA_r RT))
  ·refine a_seq ?_
   obtain ⟨r2, zh2, H⟩ := bind_some H
   have zk2 := slices_ContainsFunc_68_pc (f1 := (fun y0_ => chain_Make_1_f y0_ disks1)) (f1_F := 82) (f1_caps := [.rop ((cl 3 Disk.c) disks1) 0 1]) (fun _ _ h => chain_Make_1_pc h) (.cons (.rop _ _ _ ((cl_pu Disk.pu) _)) .nil) zh2
   refine a_regK _ rfl ?_
   refine sA_n ?_
   refine a_cnd H (fun zc2 H => ?_) (fun zc2 H => ?_)
   ·refine a_seq ?_
    refine a_drW (by kernel_rfl) _ rfl (s := ?zs5) (by kernel_rfl) (by kernel_rfl) ?zs5f ?_ ?_ ?_
    rotate_left 2
    ·refine goS ?_
     exact CLS
    ·kernel_rfl
    refine sA_n ?_
    refine a_ret ?_
    refine bA_r ?_
    refine sA_r ?_
    obtain rfl := Option.some.inj H
    refine e_r2 (d := ?zd2) ?_ ?_
    rotate_left
    ·simp only [EVT, resR, single, evLoad, cut, TIS, CS, reduceAdd, reduceEqDiff, ↓reduceIte, reduceCtorEq, reduceLT, reduceLeDiff, reduceSub, Nat.reduceBEq, zc1, zc2]
     (repeat' apply And.intro) <;> first | rfl | assumption | omega | (simp; done)
    exact ZZ
   ·refine a_skip ?_
    refine bA_n ?_
    refine sA_n ?_
    refine a_seq ?_
    obtain ⟨r3, zh3, H⟩ := bind_some H
    have zk3 := chain_laying_rc zh3
    refine a_reg _ rfl (s := ?zs6) ?_ ?_
    rotate_left
    ·try refine goS ?_
     repeat' with_reducible apply And.intro
     all_goals try ((with_reducible show CallR _ _ _ _ _ _ _); refine callR_rcw (r' := .tup [.ref 39 0 r3.length 3, .fn (.func 84) [] [.rop [.ref 39 0 r3.length 3] 0 1, .rop [.int .i64 ((⟨id1, 1, r1⟩ : Chain).id), .int .i64 ((⟨id1, 1, r1⟩ : Chain).ver), .list 1 (((⟨id1, 1, r1⟩ : Chain).servers).map (ci .i64))] 0 3, .rop [.list 1 (data1.map (ci .u8))] 0 1]]) [(3, some ⟨3, 1, true, r1.map (ci .i64)⟩), (39, some ⟨44, 3, false, r3.map Disk.c⟩)] [] [3] [(39, 0, ⟨44, 3, false, r3.map Disk.c⟩)] (by first | rfl | (simp only [List.map_set, List.map_append, List.map_cons, List.map_nil]; rfl)) zk3 (by simp) ND trivial (.cons (.agg' (.cons (.int' rfl) (.cons (.int' rfl) (.cons (.frz' (by rfl) (by simp) rfl (by first|rfl|omega|(simp;done)|(simp;omega)|(simp_all;done)) (.sm _ _ (ci_pu .i64))) .nil)))) (.cons (.lst _ _ _ Disk.pu rfl) (.cons (.lst _ _ _ (ci_pu .u8) rfl) .nil))) ND ND ⟨.inr ⟨rfl, by decide⟩, ⟨_, rfl, ⟨rfl, rfl, rfl, rfl⟩, .same _ _ Disk.pu rfl⟩, trivial⟩ (.tup' (.cons (.refl' rfl rfl) (.cons (.fn' .nil (.cons (.rop' (.cons (.refl' rfl rfl) .nil)) (.cons (.rop' (RNs.pu (Chain.pu _))) (.cons (.rop' (RNs.pu ((cl_pu (ci_pu .u8)) _))) .nil)))) .nil))) ?_; refine goS ?_)
     all_goals ((repeat' apply And.intro) <;> first|rfl|assumption|omega|(simp;done)|(simp;omega)|(simp_all;done))
    refine sA_n ?_
    refine a_cut (fun s => ∃ (own1 : List Disk) (t0 : Nat → Dat), chain_Make_J2 id1 r1 own1 = some r ∧ s = ⟨tl t0 [(8, .ptr 0 0 0 3), (11, .ptr 1 0 0 3), (12, .ref 2 0 own1.length 3)], hl [⟨30, 3, false, [[.int .i64 0, .int .i64 0, .nil]]⟩, ⟨30, 3, false, [[.int .i64 id1, .int .i64 1, .list 1 (r1.map (ci .i64))]]⟩, ⟨44, 3, false, own1.map Disk.c⟩], 3, 57⟩) ?_ ?_
    ·refine a_srC _ rfl ?_
     refine a_blk ?_
     refine a_loop (fun m s => ∃ (own2 : List Disk) (v2 : Int) (t0 : Nat → Dat), chain_Make_L1 servers1 id1 r1 data1 m own2 v2 = some r ∧ s = ⟨tl t0 [(8, .ptr 0 0 0 3), (11, .ptr 1 0 0 3), (12, .ref 2 0 own2.length 3), (13, .fn (.func 84) [] [.rop [.ref 2 0 own2.length 3] 0 1, .rop [.int .i64 ((⟨id1, 1, r1⟩ : Chain).id), .int .i64 ((⟨id1, 1, r1⟩ : Chain).ver), .list 1 (((⟨id1, 1, r1⟩ : Chain).servers).map (ci .i64))] 0 3, .rop [.list 1 (data1.map (ci .u8))] 0 1]), (45, .list 1 (servers1.map (ci .i64))), (46, .int .i64 (servers1.length : Int)), (47, .int .i64 v2)], hl [⟨30, 3, false, [[.int .i64 0, .int .i64 0, .nil]]⟩, ⟨30, 3, false, [[.int .i64 id1, .int .i64 1, .list 1 (r1.map (ci .i64))]]⟩, ⟨44, 3, false, own2.map Disk.c⟩], 3, 57⟩) BIG ?_ ?_
     ·refine wk_l [(some 1, ⟨30, 3, false, [[.int .i64 0, .int .i64 0, .nil]]⟩), (some 2, ⟨30, 3, false, [[.int .i64 id1, .int .i64 1, .list 1 (r1.map (ci .i64))]]⟩), (some 39, ⟨44, 3, false, r3.map Disk.c⟩)] [3] [(8, .ptr 0 0 0 3), (11, .ptr 1 0 0 3), (12, .ref 2 0 r3.length 3), (13, .fn (.func 84) [] [.rop [.ref 2 0 r3.length 3] 0 1, .rop [.int .i64 ((⟨id1, 1, r1⟩ : Chain).id), .int .i64 ((⟨id1, 1, r1⟩ : Chain).ver), .list 1 (((⟨id1, 1, r1⟩ : Chain).servers).map (ci .i64))] 0 3, .rop [.list 1 (data1.map (ci .u8))] 0 1]), (45, .list 1 (servers1.map (ci .i64))), (46, .int .i64 (servers1.length : Int)), (47, .int .i64 0)] ND ND ?_ ?_ (fun t0 => ⟨r3, 0, t0, H, rfl⟩)
      ·exact (allB_some (by rfl) rfl (.cons (.cons (.int' rfl) (.cons (.int' rfl) (.cons .nil' .nil))) .nil) (allB_some (by rfl) rfl (.cons (.cons (.int' rfl) (.cons (.int' rfl) (.cons (.frz' (by rfl) (by simp) rfl (by first|rfl|omega|(simp;done)|(simp;omega)|(simp_all;done)) (.sm _ _ (ci_pu .i64))) .nil))) .nil) (allB_some (by rfl) rfl (.sm _ _ Disk.pu) trivial)))
      ·(simp only [AllT, ATT, reduceEqDiff, ↓reduceIte, and_true]); exact ⟨(.ptr _ _ _ _ _ rfl), (.ptr _ _ _ _ _ rfl), (.refl' (by first|rfl|omega|(simp;done)|(simp;omega)|(simp_all;done)) rfl), (.fn' .nil (.cons (.rop' (.cons (.refl' (by first|rfl|omega|(simp;done)|(simp;omega)|(simp_all;done)) rfl) .nil)) (.cons (.rop' (.cons (.int' rfl) (.cons (.int' rfl) (.cons (.lst _ _ _ (ci_pu .i64) rfl) .nil)))) (.cons (.rop' (.cons (.lst _ _ _ (ci_pu .u8) rfl) .nil)) .nil)))), (.lst _ _ _ (ci_pu .i64) rfl), (.int' rfl), (.int' rfl)⟩
     ·rintro m_chain_Make_L1 s ⟨own2, v2, t0, H, rfl⟩
      obtain _ | m_chain_Make_L1 := m_chain_Make_L1
      ·cases (show (none : Option _) = some _ from H)
      ·rw [chain_Make_L1] at H
       refine a_srC _ rfl ?_
       refine a_seq ?_
       refine a_cnd H (fun zc3 H => ?_) (fun zc3 H => ?_)
       ·refine a_skip ?_
        refine sA_n ?_
        refine a_seq ?_
        refine a_blk ?_
        refine a_seq ?_
        obtain ⟨x1, zh4, H⟩ := bind_some H
        obtain ⟨zg1, zh4a, zh4b⟩ := idx3 (f := (ci .i64)) zh4
        try simp only [Int.reduceToNat, Int.toNat_natCast] at zg1
        refine a_regC _ rfl ?_
        refine sA_n ?_
        obtain ⟨r4, zh5, H⟩ := bind_some H
        have zk4 := chain_laying_1_rc zh5
        obtain ⟨zh6, H⟩ := chk_some H
        refine a_reg _ rfl (s := ?zs11) ?_ ?_
        rotate_left
        ·try refine goS ?_
         repeat' with_reducible apply And.intro
         all_goals try ((with_reducible show CallR _ _ _ _ _ _ _); refine callR_rcw (r' := .tup []) [(2, none), (2, some ⟨44, 3, false, r4.map Disk.c⟩)] [(some 2, _)] [] [(2, 0, _)] EQA zk4 (by simp) ND ZZ ZZ ND ND ZZ ZZ ?_; refine goS ?_)
         all_goals ((repeat' apply And.intro) <;> first|rfl|assumption|omega|(simp;done)|(simp;omega)|(simp_all;done))
        refine bA_n ?_
        refine sA_n ?_
        refine a_regC _ rfl ?_
        refine lA_n ?_
        exact wk_lA [(some 0, _), (some 1, _), (some 2, _)] [] (fun t0 => ⟨_, Nat.lt_succ_self _, r4, (IntKind.wrap .i64 (v2 + 1)), t0, H, rfl⟩)
       ·refine a_exit ?_
        refine sA_e ?_
        refine lA_e ?_
        refine bA_hit ?_
        refine cA_n ?_
        exact wk_lA [(some 0, _), (some 1, _), (some 2, _)] [] (fun t0 => ⟨own2, t0, H, rfl⟩)
    ·rintro s ⟨own1, t0, H, rfl⟩
     unfold chain_Make_J2 at H
     refine a_srC _ rfl ?_
     refine a_ret ?_
     obtain rfl := Option.some.inj H
     refine e_r2 (d := ?zd3) ?_ ?_
     rotate_left
     ·simp only [EVT, resR, single, evLoad, cut, TIS, CS, reduceAdd, reduceEqDiff, ↓reduceIte, reduceCtorEq, reduceLT, reduceLeDiff, reduceSub, Nat.reduceBEq]
      (repeat' apply And.intro) <;> first | rfl | assumption | omega | (simp; done)
     exact ZZ
def top_farmR14_J2 (disks3 : List Disk) (l2 : List Chain) : Option ((List Disk) × (List Chain) × Bool) :=
 some (disks3, l2, true)
def top_farmR14_J3 (k_top_farmR14_L1 : (List Disk) → (List Chain) → Int → Option ((List Disk) × (List Chain) × Bool)) (l4 : List Chain) (r2 : Chain × (List Disk) × Int) (id2 : Int) (v1 : Bool) : Option ((List Disk) × (List Chain) × Bool) :=
 cond v1 (some ([], [], false)) (chk ((l4.length + 1) * 40 ≤ 140737488355328) (k_top_farmR14_L1 r2.2.1 (l4 ++ [r2.1]) (IntKind.wrap .i64 (id2 + 1))))
def top_farmR14_L1 (chunks1 : Int) (servers1 : Int) : Nat → (List Disk) → (List Chain) → Int → Option ((List Disk) × (List Chain) × Bool)
 | 0, _, _, _ => none
 | m_ + 1, disks5, l4, id2 => cond (decide (id2 < chunks1)) (chk (servers1 ≠ 0) (chk (servers1 ≠ 0) (chk (servers1 ≠ 0) ((top_bytesR14_f id2).bind fun r1 => (chain_Make_f id2 [(Int.tmod id2 servers1), (Int.tmod (IntKind.wrap .i64 (id2 + 1)) servers1), (Int.tmod (IntKind.wrap .i64 (id2 + 2)) servers1)] disks5 r1).bind fun r2 => top_farmR14_J3 (top_farmR14_L1 chunks1 servers1 m_) l4 r2 id2 ((r2.2.2 != 0) || ((r2.2.1.length : Int) != (disks5.length : Int))))))) (top_farmR14_J2 disks5 l4)
def top_farmR14_J1 (chunks1 : Int) (servers1 : Int) (disks1 : List Disk) : Option ((List Disk) × (List Chain) × Bool) :=
 top_farmR14_L1 chunks1 servers1 BIG disks1 [] 0
def top_farmR14_L2 (servers1 : Int) (chunks1 : Int) : Nat → (List Disk) → Int → Option ((List Disk) × (List Chain) × Bool)
 | 0, _, _ => none
 | m_ + 1, disks6, i1 => cond (decide (i1 < servers1)) ((disk_New_f).bind fun r3 => chk ((disks6.length + 1) * 56 ≤ 140737488355328) (top_farmR14_L2 servers1 chunks1 m_ (disks6 ++ [r3]) (IntKind.wrap .i64 (i1 + 1)))) (top_farmR14_J1 chunks1 servers1 disks6)
def top_farmR14_f (servers1 : Int) (chunks1 : Int) : Option ((List Disk) × (List Chain) × Bool) :=
 top_farmR14_L2 servers1 chunks1 BIG [] 0
theorem top_farmR14_pc {servers1 : Int} {chunks1 : Int} {r : (List Disk) × (List Chain) × Bool} (H : top_farmR14_f servers1 chunks1 = some r) : PC Tryz.prog 6 [.int .i64 servers1, .int .i64 chunks1] (.tup [.list 3 (r.1.map Disk.c), .list 3 (r.2.1.map Chain.c), .bool r.2.2]) := by
 refine pcA_of Tryz.func6 (by rfl) (by decide) 65 (by rfl) [.tmp 4, .tmp 5, .tmp 6] (by rfl) ?_
 unfold top_farmR14_f at H
 simp only [ent]
 refine a_srC _ rfl ?_
 refine a_srC _ rfl ?_
 refine a_cut (fun s => ∃ (disks1 : List Disk) (t0 : Nat → Dat), top_farmR14_J1 chunks1 servers1 disks1 = some r ∧ s = ⟨tl t0 [(0, .int .i64 servers1), (1, .int .i64 chunks1), (7, .ref 0 0 disks1.length 3)], hl [⟨44, 3, false, disks1.map Disk.c⟩], 1, 65⟩) ?_ ?_
 ·refine a_srC _ rfl ?_
  refine a_blk ?_
  refine a_loop (fun m s => ∃ (disks6 : List Disk) (i1 : Int) (t0 : Nat → Dat), top_farmR14_L2 servers1 chunks1 m disks6 i1 = some r ∧ s = ⟨tl t0 [(0, .int .i64 servers1), (1, .int .i64 chunks1), (7, .ref 0 0 disks6.length 3), (8, .int .i64 i1)], hl [⟨44, 3, false, disks6.map Disk.c⟩], 1, 65⟩) BIG ?_ ?_
  ·exact wk_lA [(none, _)] [] (fun t0 => ⟨[], 0, t0, H, rfl⟩)
  ·rintro m_top_farmR14_L2 s ⟨disks6, i1, t0, H, rfl⟩
   obtain _ | m_top_farmR14_L2 := m_top_farmR14_L2
   ·cases (show (none : Option _) = some _ from H)
   ·rw [top_farmR14_L2] at H
    refine a_seq ?_
    refine a_srC _ rfl ?_
    refine a_cnd H (fun zc4 H => ?_) (fun zc4 H => ?_)
    ·refine a_skip ?_
     refine sA_n ?_
     refine a_seq ?_
     refine a_blk ?_
     obtain ⟨r3, zh7, H⟩ := bind_some H
     have zk3 := disk_New_pc zh7
     obtain ⟨zh8, H⟩ := chk_some H
     refine a_regK _ rfl ?_
     refine bA_n ?_
     refine sA_n ?_
     refine a_regC _ rfl ?_
     refine lA_n ?_
     exact wk_lA [(some 28, _)] [] (fun t0 => ⟨_, Nat.lt_succ_self _, (disks6 ++ [r3]), (IntKind.wrap .i64 (i1 + 1)), t0, H, rfl⟩)
    ·refine a_exit ?_
     refine sA_e ?_
     refine lA_e ?_
     refine bA_hit ?_
     refine cA_n ?_
     exact wk_lA [(some 0, _)] [] (fun t0 => ⟨disks6, t0, H, rfl⟩)
 ·rintro s ⟨disks1, t0, H, rfl⟩
  unfold top_farmR14_J1 at H
  refine a_srC _ rfl ?_
  refine a_cut (fun s => ∃ (disks3 : List Disk) (l2 : List Chain) (t0 : Nat → Dat), top_farmR14_J2 disks3 l2 = some r ∧ s = ⟨tl t0 [(7, .list 3 (disks3.map Disk.c)), (9, .ref 0 0 l2.length 3)], hl [⟨30, 3, false, l2.map Chain.c⟩], 1, 65⟩) ?_ ?_
  ·refine a_srC _ rfl ?_
   refine a_blk ?_
   refine a_loop (fun m s => ∃ (disks5 : List Disk) (l4 : List Chain) (id2 : Int) (t0 : Nat → Dat), top_farmR14_L1 chunks1 servers1 m disks5 l4 id2 = some r ∧ s = ⟨tl t0 [(0, .int .i64 servers1), (1, .int .i64 chunks1), (7, .list 3 (disks5.map Disk.c)), (9, .ref 0 0 l4.length 3), (10, .int .i64 id2)], hl [⟨30, 3, false, l4.map Chain.c⟩], 1, 65⟩) BIG ?_ ?_
   ·refine wk_l [(none, ⟨30, 3, false, [].map Chain.c⟩)] [0] [(0, .int .i64 servers1), (1, .int .i64 chunks1), (7, .list 3 (disks1.map Disk.c)), (9, .ref 0 0 [].length 3), (10, .int .i64 0)] ND ND ?_ ?_ (fun t0 => ⟨disks1, [], 0, t0, H, rfl⟩)
    ·exact (allB_none rfl trivial)
    ·(simp only [AllT, ATT, reduceEqDiff, ↓reduceIte, and_true]); exact ⟨(.int' rfl), (.int' rfl), (.frz' (by rfl) (by simp) rfl (by first|rfl|omega|(simp;done)|(simp;omega)|(simp_all;done)) (.sm _ _ Disk.pu)), (.nilv _ _ rfl rfl), (.int' rfl)⟩
   ·rintro m_top_farmR14_L1 s ⟨disks5, l4, id2, t0, H, rfl⟩
    obtain _ | m_top_farmR14_L1 := m_top_farmR14_L1
    ·cases (show (none : Option _) = some _ from H)
    ·rw [top_farmR14_L1] at H
     refine a_seq ?_
     refine a_srC _ rfl ?_
     refine a_cnd H (fun zc1 H => ?_) (fun zc1 H => ?_)
     ·refine a_skip ?_
      refine sA_n ?_
      refine a_seq ?_
      refine a_blk ?_
      refine a_seq ?_
      obtain ⟨zh1, H⟩ := chk_some H
      obtain ⟨zh2, H⟩ := chk_some H
      obtain ⟨zh3, H⟩ := chk_some H
      obtain ⟨r1, zh4, H⟩ := bind_some H
      have zk1 := top_bytesR14_pc zh4
      obtain ⟨r2, zh5, H⟩ := bind_some H
      have zk2 := chain_Make_pc zh5
      refine a_drW (by kernel_rfl) _ rfl (s := ?zs7) (by kernel_rfl) (by kernel_rfl) ?zs7f ?_ ?_ ?_
      rotate_left 2
      ·try refine goS ?_
       repeat' with_reducible apply And.intro
       all_goals try ((with_reducible show CallW _ _ _ _ _ _ _); refine cW_p [] zk1 (fun h2 e => ZZ) ?_; refine goS ?_)
       repeat' with_reducible apply And.intro
       all_goals try ((with_reducible show CallW _ _ _ _ _ _ _); refine cW_f [37] [37] (by decide) zk2 (fun h2 e => (.cons (.int' rfl) (.cons (.ownL ((wrs_frz h2 _ h2 37).trans (by rw [e 37 (by simp)]; rfl)) (fun _ => rfl) rfl (by first|rfl|omega|(simp;done)|(simp;omega)|(simp_all;done)) (.sm _ _ (ci_pu .i64))) (.cons (.lst _ _ _ Disk.pu rfl) (.cons (.lst _ _ _ (ci_pu .u8) rfl) .nil))))) ?_; refine goS ?_)
       all_goals exact CLS
      ·kernel_rfl
      refine sA_n ?_
      refine a_seq ?_
      refine a_cut (fun s => ∃ (v1 : Bool) (t0 : Nat → Dat), top_farmR14_J3 (top_farmR14_L1 chunks1 servers1 m_top_farmR14_L1) l4 r2 id2 v1 = some r ∧ s = ⟨tl t0 [(0, .int .i64 servers1), (1, .int .i64 chunks1), (9, .ref 0 0 l4.length 3), (10, .int .i64 id2), (11, .ptr 1 0 0 3), (12, .list 3 (r2.2.1.map Disk.c)), (57, .bool v1)], hl [⟨30, 3, false, l4.map Chain.c⟩, ⟨30, 3, false, [Chain.c r2.1]⟩], 2, 65⟩) ?_ ?_
      ·refine bool_split (b := (r2.2.2 != 0)) (fun zc3 => ?_) (fun zc3 => ?_)
       ·rw [zc3] at H
        refine a_regC _ rfl ?_
        refine cA_n ?_
        exact wk_lA [(some 0, _), (some 46, _)] [] (fun t0 => ⟨true, t0, H, rfl⟩)
       ·rw [zc3] at H
        refine a_regC _ rfl ?_
        refine cA_n ?_
        exact wk_lA [(some 0, _), (some 46, _)] [] (fun t0 => ⟨((r2.2.1.length : Int) != (disks5.length : Int)), t0, H, rfl⟩)
      ·rintro s ⟨v1, t0, H, rfl⟩
       unfold top_farmR14_J3 at H
       refine a_cnd H (fun zc2 H => ?_) (fun zc2 H => ?_)
       ·refine a_srC _ rfl ?_
        exact a_ret (sA_r (bA_r (sA_r (lA_r (bA_r (cA_r RT))))))
       ·refine a_skip ?_
        refine sA_n ?_
        refine a_srC _ rfl ?_
        obtain ⟨zh6, H⟩ := chk_some H
        refine a_regC _ rfl ?_
        refine bA_n ?_
        refine sA_n ?_
        refine a_regC _ rfl ?_
        refine lA_n ?_
        exact wk_lA [(some 21, _)] [] (fun t0 => ⟨_, Nat.lt_succ_self _, r2.2.1, (l4 ++ [r2.1]), (IntKind.wrap .i64 (id2 + 1)), t0, H, rfl⟩)
     ·refine a_exit ?_
      refine sA_e ?_
      refine lA_e ?_
      refine bA_hit ?_
      refine cA_n ?_
      exact wk_lA [(some 0, _)] [] (fun t0 => ⟨disks5, l4, t0, H, rfl⟩)
  ·rintro s ⟨disks3, l2, t0, H, rfl⟩
   unfold top_farmR14_J2 at H
   refine a_srC _ rfl ?_
   refine a_ret ?_
   obtain rfl := Option.some.inj H
   refine e_r2 (d := ?zd1) ?_ ?_
   rotate_left
   ·simp only [EVT, resR, single, evLoad, cut, TIS, CS, reduceAdd, reduceEqDiff, ↓reduceIte, reduceCtorEq, reduceLT, reduceLeDiff, reduceSub, Nat.reduceBEq]
    (repeat' apply And.intro) <;> first | rfl | assumption | omega | (simp; done)
   exact ZZ
end
end Go.Proofs.YtjflkcfafijhfaaGreat
/- Functions of the program as Lean functions, and that they are so; printed by a program of mine. -/
set_option linter.unusedSimpArgs false
set_option linter.unusedVariables false
set_option maxHeartbeats 4000000
set_option maxRecDepth 20000
namespace Go.Proofs.YtjflkcfafijhfaaGreat
open Go.Ab
open Nat (reduceAdd reduceMul reduceEqDiff reduceLT reduceLeDiff reduceSub)
noncomputable section
def slices_IndexFunc_119_J1 : Option Int :=
 some ((-1))
def slices_IndexFunc_119_L1 (s1 : List Page) (f1 : Page → Option Bool) : Nat → Int → Option Int
 | 0, _ => none
 | m_ + 1, v1 => cond (decide (v1 < (s1.length : Int))) ((idx s1 v1).bind fun x1 => (f1 x1).bind fun r1 => cond r1 (some (v1)) (slices_IndexFunc_119_L1 s1 f1 m_ (IntKind.wrap .i64 (v1 + 1)))) (slices_IndexFunc_119_J1)
def slices_IndexFunc_119_f (s1 : List Page) (f1 : Page → Option Bool) : Option Int :=
 slices_IndexFunc_119_L1 s1 f1 BIG 0
theorem slices_IndexFunc_119_pc {s1 : List Page} {f1 : Page → Option Bool} {f1_F : FuncId} {f1_caps : List Dat} (f1_hp : ∀ (x0_ : Page) (r : Bool), f1 x0_ = some r → PC Tryz.prog f1_F (.agg (Page.c x0_) :: f1_caps) (.bool r)) (f1_pu : Pus f1_caps) {r : Int} (H : slices_IndexFunc_119_f s1 f1 = some r) : PC Tryz.prog 119 [.list 2 (s1.map Page.c), .fn (.func f1_F) [] f1_caps] (.int .i64 r) := by
 refine pcA_of Tryz.func119 (by rfl) (by decide) 19 (by rfl) [.tmp 4] (by rfl) ?_
 unfold slices_IndexFunc_119_f at H
 simp only [ent]
 refine a_srC _ rfl ?_
 refine a_cut (fun s => ∃ (t0 : Nat → Dat), slices_IndexFunc_119_J1 = some r ∧ s = ⟨tl t0 [], hl [], 0, 19⟩) ?_ ?_
 ·refine a_srC _ rfl ?_
  refine a_blk ?_
  refine a_loop (fun m s => ∃ (v1 : Int) (t0 : Nat → Dat), slices_IndexFunc_119_L1 s1 f1 m v1 = some r ∧ s = ⟨tl t0 [(0, .list 2 (s1.map Page.c)), (1, .fn (.func f1_F) [] f1_caps), (7, .int .i64 (s1.length : Int)), (8, .int .i64 v1)], hl [], 0, 19⟩) BIG ?_ ?_
  ·refine wk_l [] [] [(0, .list 2 (s1.map Page.c)), (1, .fn (.func f1_F) [] f1_caps), (7, .int .i64 (s1.length : Int)), (8, .int .i64 0)] ND ND ?_ ?_ (fun t0 => ⟨0, t0, H, rfl⟩)
   ·exact trivial
   ·(simp only [AllT, ATT, reduceEqDiff, ↓reduceIte, and_true]); exact ⟨(.lst _ _ _ Page.pu rfl), (.fn' .nil (RNs.pu f1_pu)), (.int' rfl), (.int' rfl)⟩
  ·rintro m_slices_IndexFunc_119_L1 s ⟨v1, t0, H, rfl⟩
   obtain _ | m_slices_IndexFunc_119_L1 := m_slices_IndexFunc_119_L1
   ·cases (show (none : Option _) = some _ from H)
   ·rw [slices_IndexFunc_119_L1] at H
    refine a_srC _ rfl ?_
    refine a_seq ?_
    refine a_cnd H (fun zc1 H => ?_) (fun zc1 H => ?_)
    ·refine a_skip ?_
     refine sA_n ?_
     refine a_seq ?_
     refine a_blk ?_
     refine a_srC _ rfl ?_
     refine a_seq ?_
     obtain ⟨x1, zh1, H⟩ := bind_some H
     obtain ⟨zg1, zh1a, zh1b⟩ := idx3 (f := Page.c) zh1
     try simp only [Int.reduceToNat, Int.toNat_natCast] at zg1
     obtain ⟨r1, zh2, H⟩ := bind_some H
     have zk1 := f1_hp _ _ zh2
     refine a_reg _ rfl (s := ?zs6) ?_ ?_
     rotate_left
     ·try refine goS ?_
      repeat' with_reducible apply And.intro
      all_goals try ((with_reducible show CallR _ _ _ _ _ _ _); refine cR_s zk1 (.cons (.agg' (.cons (.int' rfl) (.cons (.lst _ _ _ (ci_pu .u8) rfl) .nil))) (Pus.purRs f1_pu)) (.bool _) ?_; refine goS ?_)
      all_goals ((repeat' apply And.intro) <;> first|rfl|assumption|omega|(simp;done)|(simp;omega)|(simp_all;done))
     refine sA_n ?_
     refine a_cnd H (fun zc2 H => ?_) (fun zc2 H => ?_)
     ·refine a_srC _ rfl ?_
      exact a_ret (bA_r (sA_r (lA_r (bA_r (cA_r RT)))))
     ·refine a_skip ?_
      refine bA_n ?_
      refine sA_n ?_
      refine a_regC _ rfl ?_
      refine lA_n ?_
      refine wk_l [] [] [(0, .list 2 (s1.map Page.c)), (1, .fn (.func f1_F) [] f1_caps), (7, .int .i64 (s1.length : Int)), (8, .int .i64 (IntKind.wrap .i64 (v1 + 1)))] ND ND ?_ ?_ (fun t0 => ⟨_, Nat.lt_succ_self _, (IntKind.wrap .i64 (v1 + 1)), t0, H, rfl⟩)
      ·exact trivial
      ·(simp only [AllT, ATT, reduceEqDiff, ↓reduceIte, and_true]); exact ⟨(.lst _ _ _ Page.pu rfl), (.fn' .nil (RNs.pu f1_pu)), (.int' rfl), (.int' rfl)⟩
    ·refine a_exit ?_
     refine sA_e ?_
     refine lA_e ?_
     refine bA_hit ?_
     refine cA_n ?_
     exact wk_lA [] [] (fun t0 => ⟨t0, H, rfl⟩)
 ·rintro s ⟨t0, H, rfl⟩
  unfold slices_IndexFunc_119_J1 at H
  refine a_srC _ rfl ?_
  refine a_ret ?_
  obtain rfl := Option.some.inj H
  refine e_r2 (d := ?zd1) ?_ ?_
  rotate_left
  ·simp only [EVT, resR, single, evLoad, cut, TIS, CS, reduceAdd, reduceEqDiff, ↓reduceIte, reduceCtorEq, reduceLT, reduceLeDiff, reduceSub, Nat.reduceBEq]
   (repeat' apply And.intro) <;> first | rfl | assumption | omega | (simp; done)
  exact ZZ
def disk_find_f (l1 : List Page) (is1 : Page → Option Bool) : Option Int :=
 (slices_IndexFunc_119_f l1 is1).bind fun r1 => some (r1)
theorem disk_find_pc {l1 : List Page} {is1 : Page → Option Bool} {is1_F : FuncId} {is1_caps : List Dat} (is1_hp : ∀ (x0_ : Page) (r : Bool), is1 x0_ = some r → PC Tryz.prog is1_F (.agg (Page.c x0_) :: is1_caps) (.bool r)) (is1_pu : Pus is1_caps) {r : Int} (H : disk_find_f l1 is1 = some r) : PC Tryz.prog 71 [.list 2 (l1.map Page.c), .fn (.func is1_F) [] is1_caps] (.int .i64 r) := by
 refine pcA_of Tryz.func71 (by rfl) (by decide) 8 (by rfl) [.tmp 4] (by rfl) ?_
 unfold disk_find_f at H
 simp only [ent]
 refine a_srC _ rfl ?_
 refine a_seq ?_
 obtain ⟨r1, zh1, H⟩ := bind_some H
 have zk1 := slices_IndexFunc_119_pc (f1 := is1) (f1_F := is1_F) (f1_caps := is1_caps) is1_hp is1_pu zh1
 refine a_reg _ rfl (s := ?zs2) ?_ ?_
 rotate_left
 ·try refine goS ?_
  repeat' with_reducible apply And.intro
  all_goals try ((with_reducible show CallR _ _ _ _ _ _ _); refine cR_s zk1 (.cons (.lst _ _ _ Page.pu rfl) (.cons (.fn' .nil (Pus.purRs is1_pu)) .nil)) (.int _ _) ?_; refine goS ?_)
  all_goals ((repeat' apply And.intro) <;> first|rfl|assumption|omega|(simp;done)|(simp;omega)|(simp_all;done))
 refine sA_n ?_
 exact a_ret RT
def slices_Reverse_L1 : Nat → (List Page) → Int → Int → Option (List Page)
 | 0, _, _, _ => none
 | m_ + 1, s2, i1, j1 => cond (decide (i1 < j1)) ((idx s2 j1).bind fun x1 => (idx s2 i1).bind fun x2 => (idx (s2.set i1.toNat x1) j1).bind fun x3 => slices_Reverse_L1 m_ ((s2.set i1.toNat x1).set j1.toNat x2) (IntKind.wrap .i64 (i1 + 1)) (IntKind.wrap .i64 (j1 - 1))) (some (s2))
def slices_Reverse_f (s1 : List Page) : Option (List Page) :=
 slices_Reverse_L1 BIG s1 0 (IntKind.wrap .i64 ((((s1.length : Nat)) : Int) - 1))
theorem slices_Reverse_rc {s1 : List Page} {r : (List Page)} (H : slices_Reverse_f s1 = some r) : RC Tryz.prog 105 [.ref 0 0 s1.length 2] [⟨130, 2, false, s1.map Page.c⟩] 1 (.tup []) [some ⟨130, 2, false, r.map Page.c⟩] := by
 refine rcA_of Tryz.func105 (by rfl) (by decide) 28 (by rfl) [] (by rfl) ?_
 unfold slices_Reverse_f at H
 simp only [hent, List.length_cons, List.length_nil, reduceAdd]
 refine a_srC _ rfl ?_
 refine a_blk ?_
 refine a_loop (fun m s => ∃ (s2 : List Page) (i1 : Int) (j1 : Int) (t0 : Nat → Dat), slices_Reverse_L1 m s2 i1 j1 = some r ∧ s = ⟨tl t0 [(0, .ref 0 0 s2.length 2), (2, .int .i64 i1), (3, .int .i64 j1)], hl [⟨130, 2, false, s2.map Page.c⟩], 1, 28⟩) BIG ?_ ?_
 ·exact wk_lnA 1 [(some 0, _)] [] (fun t0 => ⟨s1, 0, (IntKind.wrap .i64 ((((s1.length : Nat)) : Int) - 1)), t0, H, rfl⟩)
 ·rintro m_slices_Reverse_L1 s ⟨s2, i1, j1, t0, H, rfl⟩
  obtain _ | m_slices_Reverse_L1 := m_slices_Reverse_L1
  ·cases (show (none : Option _) = some _ from H)
  ·rw [slices_Reverse_L1] at H
   refine a_seq ?_
   refine a_srC _ rfl ?_
   refine a_cnd H (fun zc1 H => ?_) (fun zc1 H => ?_)
   ·refine a_skip ?_
    refine sA_n ?_
    refine a_seq ?_
    refine a_blk ?_
    obtain ⟨x1, zh1, H⟩ := bind_some H
    obtain ⟨zg1, zh1a, zh1b⟩ := idx3 (f := Page.c) zh1
    try simp only [Int.reduceToNat, Int.toNat_natCast] at zg1
    obtain ⟨x2, zh2, H⟩ := bind_some H
    obtain ⟨zg2, zh2a, zh2b⟩ := idx3 (f := Page.c) zh2
    try simp only [Int.reduceToNat, Int.toNat_natCast] at zg2
    obtain ⟨x3, zh3, H⟩ := bind_some H
    have zg3 := idx_map zh3 Page.c
    try simp only [Int.reduceToNat, Int.toNat_natCast, List.map_set, ci_eq, cb_eq, cs_eq] at zg3
    obtain ⟨zh3a, zh3b, _⟩ := idx_some zh3
    refine a_drW (by kernel_rfl) _ rfl (s := ?zs3) (by kernel_rfl) (by kernel_rfl) ?zs3f ?_ ?_ ?_
    rotate_left 2
    ·refine goS ?_
     exact CLS
    ·kernel_rfl
    refine bA_n ?_
    refine sA_n ?_
    refine a_regC _ rfl ?_
    refine lA_n ?_
    exact wk_lnA 1 [(some 0, _)] [] (fun t0 => ⟨_, Nat.lt_succ_self _, ((s2.set i1.toNat x1).set j1.toNat x2), (IntKind.wrap .i64 (i1 + 1)), (IntKind.wrap .i64 (j1 - 1)), t0, H, rfl⟩)
   ·refine a_exit ?_
    refine sA_e ?_
    refine lA_e ?_
    refine bA_hit ?_
    obtain rfl := Option.some.inj H
    refine eR_n ?_
    exact wk_lnA 1 [(some 0, ⟨130, 2, false, s2.map Page.c⟩)] [] (L := []) (fun t0 => ⟨RS2, RJ⟩)
def disk_Read_1_f (p1 : Page) (v1 : Int) : Option Bool :=
 some ((p1.at_ == v1))
theorem disk_Read_1_pc {p1 : Page} {v1 : Int} {r : Bool} (H : disk_Read_1_f p1 v1 = some r) : PC Tryz.prog 106 [.agg (Page.c p1), .rop ((ci .i64) v1) 0 1] (.bool r) := by
 refine pcA_of Tryz.func106 (by rfl) (by decide) 8 (by rfl) [.tmp 3] (by rfl) ?_
 unfold disk_Read_1_f at H
 simp only [ent]
 refine a_srC _ rfl ?_
 refine a_srC _ rfl ?_
 exact a_ret RT
def disk_Read_f (d1 : Disk) (at1 : Int) : Option ((List Int) × Int) :=
 cond d1.down (some ([], 40)) ((disk_may_f at1 []).bind fun r1 => cond (!r1) (some ([], 1)) ((slices_Concat_104_f [d1.synced, d1.loose]).bind fun r2 => (slices_Reverse_f r2).bind fun r3 => chk (r3.length = r2.length) ((disk_find_f r3 (fun y0_ => disk_Read_1_f y0_ at1)).bind fun r4 => cond (decide (r4 < 0)) (some ([], 41)) ((idx r3 r4).bind fun x1 => (bytes_Clone_f x1.data).bind fun r5 => some (r5, 0)))))
theorem disk_Read_pc {d1 : Disk} {at1 : Int} {r : (List Int) × Int} (H : disk_Read_f d1 at1 = some r) : PC Tryz.prog 52 [.agg (Disk.c d1), .int .i64 at1] (.tup [.list 1 (r.1.map (ci .u8)), .int .i64 r.2]) := by
 refine pcA_of Tryz.func52 (by rfl) (by decide) 34 (by rfl) [.tmp 4, .tmp 5] (by rfl) ?_
 unfold disk_Read_f at H
 simp only [ent]
 refine a_srC _ rfl ?_
 refine a_seq ?_
 refine a_blk ?_
 refine a_srC _ rfl ?_
 refine a_cnd H (fun zc1 H => ?_) (fun zc1 H => ?_)
 ·refine a_srC _ rfl ?_
  exact a_ret (bA_r (sA_r RT))
 ·refine a_seq ?_
  obtain ⟨r1, zh1, H⟩ := bind_some H
  have zk1 := disk_may_pc zh1
  refine a_regK _ rfl ?_
  refine sA_n ?_
  refine a_cnd H (fun zc2 H => ?_) (fun zc2 H => ?_)
  ·refine a_srC _ rfl ?_
   refine a_ret ?_
   refine bA_r ?_
   refine sA_r ?_
   obtain rfl := Option.some.inj H
   refine e_r2 (d := ?zd2) ?_ ?_
   rotate_left
   ·simp only [EVT, resR, single, evLoad, cut, TIS, CS, reduceAdd, reduceEqDiff, ↓reduceIte, reduceCtorEq, reduceLT, reduceLeDiff, reduceSub, Nat.reduceBEq, zc1, zc2]
    (repeat' apply And.intro) <;> first | rfl | assumption | omega | (simp; done)
   exact ZZ
  ·refine a_skip ?_
   refine bA_n ?_
   refine sA_n ?_
   refine a_seq ?_
   obtain ⟨r2, zh2, H⟩ := bind_some H
   have zk2 := slices_Concat_104_rc zh2
   refine a_reg _ rfl (s := ?zs6) ?_ ?_
   rotate_left
   ·try refine goS ?_
    repeat' with_reducible apply And.intro
    all_goals try ((with_reducible show CallR _ _ _ _ _ _ _); refine callR_rcw (r' := .ref 93 0 r2.length 2) [(92, some ⟨42, 1, true, [d1.synced, d1.loose].map (cl 2 Page.c)⟩), (93, some ⟨130, 2, false, r2.map Page.c⟩)] [] [92] [(93, 0, ⟨130, 2, false, r2.map Page.c⟩)] (by first | rfl | (simp only [List.map_set, List.map_append, List.map_cons, List.map_nil]; rfl)) zk2 (by simp) ND trivial (.cons (.frz' (by rfl) (by simp) rfl (by first|rfl|omega|(simp;done)|(simp;omega)|(simp_all;done)) (.sm _ _ (cl_pu Page.pu))) .nil) ND ND ⟨.inr ⟨rfl, by decide⟩, ⟨_, rfl, ⟨rfl, rfl, rfl, rfl⟩, .same _ _ Page.pu rfl⟩, trivial⟩ (.refl' rfl rfl) ?_; refine goS ?_)
    all_goals ((repeat' apply And.intro) <;> first|rfl|assumption|omega|(simp;done)|(simp;omega)|(simp_all;done))
   refine sA_n ?_
   refine a_seq ?_
   obtain ⟨r3, zh3, H⟩ := bind_some H
   have zk3 := slices_Reverse_rc zh3
   obtain ⟨zh4, H⟩ := chk_some H
   refine a_reg _ rfl (s := ?zs7) ?_ ?_
   rotate_left
   ·try refine goS ?_
    repeat' with_reducible apply And.intro
    all_goals try ((with_reducible show CallR _ _ _ _ _ _ _); refine callR_rcw (r' := .tup []) [(93, none), (93, some ⟨130, 2, false, r3.map Page.c⟩)] [(some 93, _)] [] [(93, 0, _)] EQA zk3 (by simp) ND ZZ ZZ ND ND ZZ ZZ ?_; refine goS ?_)
    all_goals ((repeat' apply And.intro) <;> first|rfl|assumption|omega|(simp;done)|(simp;omega)|(simp_all;done))
   refine sA_n ?_
   refine a_seq ?_
   obtain ⟨r4, zh5, H⟩ := bind_some H
   have zk4 := disk_find_pc (is1 := (fun y0_ => disk_Read_1_f y0_ at1)) (is1_F := 106) (is1_caps := [.rop ((ci .i64) at1) 0 1]) (fun _ _ h => disk_Read_1_pc h) (.cons (.rop _ _ _ ((ci_pu .i64) _)) .nil) zh5
   refine a_regK _ rfl ?_
   refine sA_n ?_
   refine a_seq ?_
   refine a_srC _ rfl ?_
   refine a_cnd H (fun zc3 H => ?_) (fun zc3 H => ?_)
   ·refine a_srC _ rfl ?_
    refine a_ret ?_
    refine sA_r ?_
    obtain rfl := Option.some.inj H
    refine e_r2 (d := ?zd3) ?_ ?_
    rotate_left
    ·simp only [EVT, resR, single, evLoad, cut, TIS, CS, reduceAdd, reduceEqDiff, ↓reduceIte, reduceCtorEq, reduceLT, reduceLeDiff, reduceSub, Nat.reduceBEq, zc1, zc2, zc3]
     (repeat' apply And.intro) <;> first | rfl | assumption | omega | (simp; done)
    exact ZZ
   ·refine a_skip ?_
    refine sA_n ?_
    refine a_seq ?_
    obtain ⟨x1, zh6, H⟩ := bind_some H
    obtain ⟨zg1, zh6a, zh6b⟩ := idx3 (f := Page.c) zh6
    try simp only [Int.reduceToNat, Int.toNat_natCast] at zg1
    obtain ⟨r5, zh7, H⟩ := bind_some H
    have zk5 := bytes_Clone_rc zh7
    refine a_reg _ rfl (s := ?zs11) ?_ ?_
    rotate_left
    ·try refine goS ?_
     repeat' with_reducible apply And.intro
     all_goals try ((with_reducible show CallR _ _ _ _ _ _ _); refine callR_ownm (l := r5) (c := (ci .u8)) [] zk5 (ci_sc .u8) (.cons (.lst _ _ _ (ci_pu .u8) rfl) .nil) ?_; refine goS ?_)
     all_goals ((repeat' apply And.intro) <;> first|rfl|assumption|omega|(simp;done)|(simp;omega)|(simp_all;done))
    refine sA_n ?_
    refine a_ret ?_
    obtain rfl := Option.some.inj H
    refine e_r2 (d := ?zd4) ?_ ?_
    rotate_left
    ·simp only [EVT, resR, single, evLoad, cut, TIS, CS, reduceAdd, reduceEqDiff, ↓reduceIte, reduceCtorEq, reduceLT, reduceLeDiff, reduceSub, Nat.reduceBEq, zc1, zc2, zc3, zg1]
     (repeat' apply And.intro) <;> first | rfl | assumption | omega | (simp; done)
    exact ZZ
def chunk_there_J1 (r2 : (List Int) × Int) (v1 : Bool) : Option ((List Int) × Int) :=
 cond v1 (some ([], 41)) (some (r2.1, r2.2))
def chunk_there_f (d1 : Disk) (id1 : Int) : Option ((List Int) × Int) :=
 (chunk_within_f id1).bind fun r1 => cond (!r1) (some ([], 1)) ((disk_Read_f d1 id1).bind fun r2 => chunk_there_J1 r2 ((r2.2 == 0) && ((r2.1.length : Int) == 0)))
theorem chunk_there_pc {d1 : Disk} {id1 : Int} {r : (List Int) × Int} (H : chunk_there_f d1 id1 = some r) : PC Tryz.prog 42 [.agg (Disk.c d1), .int .i64 id1] (.tup [.list 1 (r.1.map (ci .u8)), .int .i64 r.2]) := by
 refine pcA_of Tryz.func42 (by rfl) (by decide) 26 (by rfl) [.tmp 4, .tmp 5] (by rfl) ?_
 unfold chunk_there_f at H
 simp only [ent]
 refine a_srC _ rfl ?_
 refine a_seq ?_
 refine a_seq ?_
 obtain ⟨r1, zh1, H⟩ := bind_some H
 have zk1 := chunk_within_pc zh1
 refine a_regK _ rfl ?_
 refine sA_n ?_
 refine a_cnd H (fun zc1 H => ?_) (fun zc1 H => ?_)
 ·refine a_srC _ rfl ?_
  exact a_ret (sA_r RT)
 ·refine a_skip ?_
  refine sA_n ?_
  refine a_seq ?_
  obtain ⟨r2, zh2, H⟩ := bind_some H
  have zk2 := disk_Read_pc zh2
  refine a_regK _ rfl ?_
  refine sA_n ?_
  refine a_seq ?_
  refine a_cut (fun s => ∃ (v1 : Bool) (t0 : Nat → Dat), chunk_there_J1 r2 v1 = some r ∧ s = ⟨tl t0 [(6, .list 1 (r2.1.map (ci .u8))), (7, .int .i64 r2.2), (23, .bool v1)], hl [], 0, 26⟩) ?_ ?_
  ·refine bool_split (b := (r2.2 == 0)) (fun zc3 => ?_) (fun zc3 => ?_)
   ·rw [zc3] at H
    refine a_regC _ rfl ?_
    refine cA_n ?_
    exact wk_lA [] [] (fun t0 => ⟨((r2.1.length : Int) == 0), t0, H, rfl⟩)
   ·rw [zc3] at H
    refine a_regC _ rfl ?_
    refine cA_n ?_
    exact wk_lA [] [] (fun t0 => ⟨false, t0, H, rfl⟩)
  ·rintro s ⟨v1, t0, H, rfl⟩
   unfold chunk_there_J1 at H
   refine a_cnd H (fun zc2 H => ?_) (fun zc2 H => ?_)
   ·refine a_srC _ rfl ?_
    refine a_ret ?_
    refine sA_r ?_
    obtain rfl := Option.some.inj H
    refine e_r2 (d := ?zd2) ?_ ?_
    rotate_left
    ·simp only [EVT, resR, single, evLoad, cut, TIS, CS, reduceAdd, reduceEqDiff, ↓reduceIte, reduceCtorEq, reduceLT, reduceLeDiff, reduceSub, Nat.reduceBEq, zc2]
     (repeat' apply And.intro) <;> first | rfl | assumption | omega | (simp; done)
    exact ZZ
   ·refine a_skip ?_
    refine sA_n ?_
    refine a_srC _ rfl ?_
    refine a_ret ?_
    obtain rfl := Option.some.inj H
    refine e_r2 (d := ?zd3) ?_ ?_
    rotate_left
    ·simp only [EVT, resR, single, evLoad, cut, TIS, CS, reduceAdd, reduceEqDiff, ↓reduceIte, reduceCtorEq, reduceLT, reduceLeDiff, reduceSub, Nat.reduceBEq, zc2]
     (repeat' apply And.intro) <;> first | rfl | assumption | omega | (simp; done)
    exact ZZ
end
end Go.Proofs.YtjflkcfafijhfaaGreat
