import Derived.Test.YtmkpokcfefjifaaDoorF10
import Derived.Test.YtmkpokcfefjifaaDoorL2
set_option linter.unusedSectionVars false
/- Functions of the program as Lean functions, and that they are so; printed by a program of mine. -/
set_option linter.unusedSimpArgs false
set_option linter.unusedVariables false
namespace Go.Proofs.YtmkpokcfefjifaaDoor
open Go.Ab
open Nat (reduceAdd reduceMul reduceEqDiff reduceLT reduceLeDiff reduceSub)
noncomputable section

def law15_small_J1 : Option Bool :=
 some (true)
def law15_small_L1 (l1 : List Step) : Nat → Int → Option Bool
 | 0, _ => none
 | m_ + 1, i1 => cond (decide (i1 < (l1.length : Int))) ((idx l1 i1).bind fun x1 => (law15_Fits_f x1.m).bind fun r1 => cond (!r1) (some (false)) (law15_small_L1 l1 m_ (IntKind.wrap .i64 (i1 + 1)))) (law15_small_J1)
def law15_small_f (l1 : List Step) : Option Bool :=
 cond (decide (40 < (l1.length : Int))) (some (false)) (law15_small_L1 l1 BIG 0)
set_option maxHeartbeats 4000000 in
set_option maxRecDepth 20000 in
theorem law15_small_pc {l1 : List Step} {r : Bool} (H : law15_small_f l1 = some r) : PC Tryd.prog 18 [.list 6 (l1.map Step.c)] (.bool r) := by
 refine pcA_of Tryd.func18 (by rfl) (by decide) 20 (by rfl) [.tmp 2] (by rfl) ?_
 unfold law15_small_f at H
 simp only [ent]
 refine a_seq ?_
 refine a_regC _ rfl ?_
 refine sA_n ?_
 refine a_seq ?_
 refine a_seq ?_
 refine a_regC _ rfl ?_
 refine sA_n ?_
 refine a_cnd H (fun zc1 H => ?_) (fun zc1 H => ?_)
 ·refine a_seq ?_
  refine a_regC _ rfl ?_
  refine sA_n ?_
  exact a_ret (sA_r RT)
 ·refine a_skip ?_
  refine sA_n ?_
  refine a_cut (fun s => ∃ (t0 : Nat → Dat), law15_small_J1 = some r ∧ s = ⟨tl t0 [], hl [], 0, 20⟩) ?_ ?_
  ·refine a_seq ?_
   refine a_regC _ rfl ?_
   refine sA_n ?_
   refine a_blk ?_
   refine a_loop (fun m s => ∃ (i1 : Int) (t0 : Nat → Dat), law15_small_L1 l1 m i1 = some r ∧ s = ⟨tl t0 [(0, .list 6 (l1.map Step.c)), (3, .int .i64 i1)], hl [], 0, 20⟩) BIG ?_ ?_
   ·exact wk_lA [] [] (fun t0 => ⟨0, t0, H, rfl⟩)
   ·rintro m_law15_small_L1 s ⟨i1, t0, H, rfl⟩
    obtain _ | m_law15_small_L1 := m_law15_small_L1
    ·cases (show (none : Option _) = some _ from H)
    ·rw [law15_small_L1] at H
     refine a_seq ?_
     refine a_seq ?_
     refine a_regC _ rfl ?_
     refine sA_n ?_
     refine a_cnd H (fun zc2 H => ?_) (fun zc2 H => ?_)
     ·refine a_skip ?_
      refine sA_n ?_
      refine a_seq ?_
      refine a_blk ?_
      refine a_seq ?_
      obtain ⟨x1, zh1, H⟩ := bind_some H
      obtain ⟨zg1, zh1a, zh1b⟩ := idx3 (f := Step.c) zh1
      try simp only [Int.reduceToNat, Int.toNat_natCast] at zg1
      obtain ⟨r1, zh2, H⟩ := bind_some H
      have zk1 := law15_Fits_pc zh2
      refine a_regK _ rfl ?_
      refine sA_n ?_
      refine a_cnd H (fun zc3 H => ?_) (fun zc3 H => ?_)
      ·refine a_seq ?_
       refine a_regC _ rfl ?_
       refine sA_n ?_
       refine a_ret ?_
       refine bA_r ?_
       refine sA_r ?_
       refine lA_r ?_
       refine bA_r ?_
       refine cA_r ?_
       obtain rfl := Option.some.inj H
       refine e_r2 (d := ?zd3) ?_ ?_
       rotate_left
       ·simp only [EVT, resR, single, evLoad, cut, TIS, CS, reduceAdd, reduceEqDiff, ↓reduceIte, reduceCtorEq, reduceLT, reduceLeDiff, reduceSub, Nat.reduceBEq, zc2, zg1, zc3]
        (repeat' apply And.intro) <;> first | rfl | assumption | omega | (simp; done)
       exact ZZ
      ·refine a_skip ?_
       refine bA_n ?_
       refine sA_n ?_
       refine a_regC _ rfl ?_
       refine lA_n ?_
       exact wk_lA [] [] (fun t0 => ⟨_, Nat.lt_succ_self _, (IntKind.wrap .i64 (i1 + 1)), t0, H, rfl⟩)
     ·refine a_exit ?_
      refine sA_e ?_
      refine lA_e ?_
      refine bA_hit ?_
      refine cA_n ?_
      exact wk_lA [] [] (fun t0 => ⟨t0, H, rfl⟩)
  ·rintro s ⟨t0, H, rfl⟩
   unfold law15_small_J1 at H
   refine a_seq ?_
   refine a_regC _ rfl ?_
   refine sA_n ?_
   refine a_ret ?_
   obtain rfl := Option.some.inj H
   refine e_r2 (d := ?zd2) ?_ ?_
   rotate_left
   ·simp only [EVT, resR, single, evLoad, cut, TIS, CS, reduceAdd, reduceEqDiff, ↓reduceIte, reduceCtorEq, reduceLT, reduceLeDiff, reduceSub, Nat.reduceBEq]
    (repeat' apply And.intro) <;> first | rfl | assumption | omega | (simp; done)
   exact ZZ
def law15_step_f (s1 : Seat) (x1 : Step) : Option (Seat × (List Msg)) :=
 cond (x1.do_ == 0) ((seat_Late_f s1).bind fun r1 => some (r1.1, r1.2)) (cond (x1.do_ == 1) ((seat_Beat_f s1).bind fun r2 => some (r2.1, r2.2)) (cond (x1.do_ == 2) ((seat_Offer_f s1 x1.m.data).bind fun r3 => some (r3.1, [])) (cond (x1.do_ == 3) ((seat_Back_f s1).bind fun r4 => some (r4, [])) ((seat_Hear_f s1 x1.m).bind fun r5 => some (r5.1, r5.2)))))
set_option maxHeartbeats 4000000 in
set_option maxRecDepth 20000 in
theorem law15_step_pc {s1 : Seat} {x1 : Step} {r : Seat × (List Msg)} (H : law15_step_f s1 x1 = some r) : PC Tryd.prog 19 [.agg (Seat.c s1), .agg (Step.c x1)] (.tup [.agg (Seat.c r.1), .list 5 (r.2.map Msg.c)]) := by
 refine pcA_of Tryd.func19 (by rfl) (by decide) 45 (by rfl) [.cell 4 25, .tmp 5] (by rfl) ?_
 unfold law15_step_f at H
 simp only [ent]
 refine a_seq ?_
 refine a_regC _ rfl ?_
 refine sA_n ?_
 refine a_seq ?_
 refine a_seq ?_
 refine a_regC _ rfl ?_
 refine sA_n ?_
 refine a_blk ?_
 refine a_seq ?_
 refine a_regC _ rfl ?_
 refine sA_n ?_
 refine a_cnd H (fun zc1 H => ?_) (fun zc1 H => ?_)
 ·refine a_seq ?_
  obtain ⟨r1, zh1, H⟩ := bind_some H
  have zk1 := seat_Late_pc zh1
  refine a_regK _ rfl ?_
  refine sA_n ?_
  exact a_ret (bA_r (sA_r RT))
 ·refine a_seq ?_
  refine a_regC _ rfl ?_
  refine sA_n ?_
  refine a_cnd H (fun zc2 H => ?_) (fun zc2 H => ?_)
  ·refine a_seq ?_
   obtain ⟨r2, zh2, H⟩ := bind_some H
   have zk2 := seat_Beat_pc zh2
   refine a_regK _ rfl ?_
   refine sA_n ?_
   refine a_ret ?_
   refine bA_r ?_
   refine sA_r ?_
   obtain rfl := Option.some.inj H
   refine e_r2 (d := ?zd2) ?_ ?_
   rotate_left
   ·simp only [EVT, resR, single, evLoad, cut, TIS, CS, reduceAdd, reduceEqDiff, ↓reduceIte, reduceCtorEq, reduceLT, reduceLeDiff, reduceSub, Nat.reduceBEq, zc1, zc2]
    (repeat' apply And.intro) <;> first | rfl | assumption | omega | (simp; done)
   exact ZZ
  ·refine a_seq ?_
   refine a_regC _ rfl ?_
   refine sA_n ?_
   refine a_cnd H (fun zc3 H => ?_) (fun zc3 H => ?_)
   ·refine a_seq ?_
    obtain ⟨r3, zh3, H⟩ := bind_some H
    have zk3 := seat_Offer_pc zh3
    refine a_regK _ rfl ?_
    refine sA_n ?_
    refine a_seq ?_
    refine a_regC _ rfl ?_
    refine sA_n ?_
    refine a_ret ?_
    refine bA_r ?_
    refine sA_r ?_
    obtain rfl := Option.some.inj H
    refine e_r2 (d := ?zd3) ?_ ?_
    rotate_left
    ·simp only [EVT, resR, single, evLoad, cut, TIS, CS, reduceAdd, reduceEqDiff, ↓reduceIte, reduceCtorEq, reduceLT, reduceLeDiff, reduceSub, Nat.reduceBEq, zc1, zc2, zc3]
     (repeat' apply And.intro) <;> first | rfl | assumption | omega | (simp; done)
    exact ZZ
   ·refine a_seq ?_
    refine a_regC _ rfl ?_
    refine sA_n ?_
    refine a_cnd H (fun zc4 H => ?_) (fun zc4 H => ?_)
    ·refine a_seq ?_
     obtain ⟨r4, zh4, H⟩ := bind_some H
     have zk4 := seat_Back_pc zh4
     refine a_regK _ rfl ?_
     refine sA_n ?_
     refine a_ret ?_
     refine bA_r ?_
     refine sA_r ?_
     obtain rfl := Option.some.inj H
     refine e_r2 (d := ?zd4) ?_ ?_
     rotate_left
     ·simp only [EVT, resR, single, evLoad, cut, TIS, CS, reduceAdd, reduceEqDiff, ↓reduceIte, reduceCtorEq, reduceLT, reduceLeDiff, reduceSub, Nat.reduceBEq, zc1, zc2, zc3, zc4]
      (repeat' apply And.intro) <;> first | rfl | assumption | omega | (simp; done)
     exact ZZ
    ·refine a_skip ?_
     refine bA_n ?_
     refine sA_n ?_
     refine a_seq ?_
     obtain ⟨r5, zh5, H⟩ := bind_some H
     have zk5 := seat_Hear_pc zh5
     refine a_regK _ rfl ?_
     refine sA_n ?_
     refine a_ret ?_
     obtain rfl := Option.some.inj H
     refine e_r2 (d := ?zd5) ?_ ?_
     rotate_left
     ·simp only [EVT, resR, single, evLoad, cut, TIS, CS, reduceAdd, reduceEqDiff, ↓reduceIte, reduceCtorEq, reduceLT, reduceLeDiff, reduceSub, Nat.reduceBEq, zc1, zc2, zc3, zc4]
      (repeat' apply And.intro) <;> first | rfl | assumption | omega | (simp; done)
     exact ZZ
def law15_head_J3 (one1 : Bool) (two1 : Bool) (r4 : Seat × (List Msg)) (r10 : Seat × Int × Bool) (r11 : Seat) (three1 : Bool) : Option Bool :=
 cond one1 (cond two1 (cond three1 (cond ((r4.1.log.length : Int) == 1) (cond (!r10.2.2) (cond (r11.role == 1) (cond ((r11.log.length : Int) == 1) (cond (r11.commit == 0) (cond (r11.term == 1) ((seat_Right_f r11).bind fun r12 => cond r12 ((seat_Right_f (⟨0, [], 0, 0, 0, [], 0, [], [], []⟩ : Seat)).bind fun r13 => cond (!r13) ((seat_New_f (-1) []).bind fun r14 => some (((r14.peers.length : Int) == 0))) (some (false))) (some (false))) (some (false))) (some (false))) (some (false))) (some (false))) (some (false))) (some (false))) (some (false))) (some (false))) (some (false))
def law15_head_J2 (one1 : Bool) (r4 : Seat × (List Msg)) (r10 : Seat × Int × Bool) (r11 : Seat) (r6 : Seat × (List Msg)) (r7 : Seat × (List Msg)) (r8 : Seat × Int × Bool) (r9 : Seat × (List Msg)) (two1 : Bool) : Option Bool :=
 law15_head_J3 one1 two1 r4 r10 r11 (((r6.2.length : Int) == 2) && ((r6.1.role == 2) && ((r7.1.role == 3) && (((r7.2.length : Int) == 2) && (r8.2.2 && ((r8.2.1 == 1) && ((r8.1.commit == 0) && ((r9.1.commit == 1) && ((r9.2.length : Int) == 0)))))))))
def law15_head_J1 (r4 : Seat × (List Msg)) (r5 : Seat × (List Msg)) (r10 : Seat × Int × Bool) (r11 : Seat) (r6 : Seat × (List Msg)) (r7 : Seat × (List Msg)) (r8 : Seat × Int × Bool) (r9 : Seat × (List Msg)) (one1 : Bool) : Option Bool :=
 (ref15_SameMsgs_f r4.2 [(⟨2, 1, 4, [1, 1, 1], []⟩ : Msg)]).bind fun r15 => cond r15 ((ref15_SameMsgs_f r5.2 [(⟨2, 1, 4, [1, 0, 0], []⟩ : Msg)]).bind fun r16 => law15_head_J2 one1 r4 r10 r11 r6 r7 r8 r9 r16) (law15_head_J2 one1 r4 r10 r11 r6 r7 r8 r9 false)
def law15_head_f : Option Bool :=
 (seat_New_f 2 [3, 1]).bind fun r1 => (seat_Hear_f r1 (⟨1, 2, 1, [1, 0, 0], []⟩ : Msg)).bind fun r2 => (seat_Hear_f r2.1 (⟨3, 2, 1, [1, 0, 0], []⟩ : Msg)).bind fun r3 => (seat_Hear_f r2.1 (⟨1, 2, 3, [1, 0, 0, 0, 1, 2], [5, 6]⟩ : Msg)).bind fun r4 => (seat_Hear_f r1 (⟨1, 2, 3, [1, 3, 1, 0], []⟩ : Msg)).bind fun r5 => (seat_Late_f r1).bind fun r6 => (seat_Hear_f r6.1 (⟨3, 2, 2, [1, 1], []⟩ : Msg)).bind fun r7 => (seat_Offer_f r7.1 [9]).bind fun r8 => (seat_Hear_f r8.1 (⟨1, 2, 4, [1, 1, 1], []⟩ : Msg)).bind fun r9 => (seat_Offer_f r1 []).bind fun r10 => (seat_Back_f r9.1).bind fun r11 => (ref15_SameMsgs_f r2.2 [(⟨2, 1, 2, [1, 1], []⟩ : Msg)]).bind fun r17 => cond r17 ((ref15_SameMsgs_f r3.2 [(⟨2, 3, 2, [1, 0], []⟩ : Msg)]).bind fun r18 => law15_head_J1 r4 r5 r10 r11 r6 r7 r8 r9 r18) (law15_head_J1 r4 r5 r10 r11 r6 r7 r8 r9 false)
set_option maxHeartbeats 4000000 in
set_option maxRecDepth 20000 in
theorem law15_head_pc {r : Bool} (H : law15_head_f = some r) : PC Tryd.prog 8 [] (.bool r) := by
 refine pcA_of Tryd.func8 (by rfl) (by decide) 208 (by rfl) [.tmp 0] (by rfl) ?_
 unfold law15_head_f at H
 simp only [ent]
 refine a_seq ?_
 refine a_regC _ rfl ?_
 refine sA_n ?_
 refine a_seq ?_
 obtain ⟨r1, zh1, H⟩ := bind_some H
 have zk1 := seat_New_pc zh1
 refine a_reg _ rfl (s := ?zs2) ?_ ?_
 rotate_left
 ·try refine goS ?_
  repeat' with_reducible apply And.intro
  all_goals try ((with_reducible show CallR _ _ _ _ _ _ _); refine cR_f [8] zk1 (.cons (.int' rfl) (.cons (.ownL ((wrs_frz _ _ _ 8).trans (by rfl)) (fun _ => rfl) rfl (by first|rfl|omega|(simp;done)|(simp;omega)|(simp_all;done)) (.sm _ _ (ci_pu .i64))) .nil)) ?_; refine goS ?_)
  all_goals ((repeat' apply And.intro) <;> first|rfl|assumption|omega|(simp;done)|(simp;omega)|(simp_all;done))
 refine sA_n ?_
 refine a_seq ?_
 obtain ⟨r2, zh2, H⟩ := bind_some H
 have zk2 := seat_Hear_pc zh2
 refine a_reg _ rfl (s := ?zs3) ?_ ?_
 rotate_left
 ·try refine goS ?_
  repeat' with_reducible apply And.intro
  all_goals try ((with_reducible show CallR _ _ _ _ _ _ _); refine cR_f [41] zk2 (.cons (.agg' (.cons (.int' rfl) (.cons (.lst _ _ _ (ci_pu .i64) rfl) (.cons (.int' rfl) (.cons (.int' rfl) (.cons (.int' rfl) (.cons (.lst _ _ _ Entry.pu rfl) (.cons (.int' rfl) (.cons (.lst _ _ _ (ci_pu .i64) rfl) (.cons (.lst _ _ _ (ci_pu .i64) rfl) (.cons (.lst _ _ _ (ci_pu .i64) rfl) .nil))))))))))) (.cons (.agg' (.cons (.int' rfl) (.cons (.int' rfl) (.cons (.int' rfl) (.cons (.ownL ((wrs_frz _ _ _ 41).trans (by rfl)) (fun _ => rfl) rfl (by first|rfl|omega|(simp;done)|(simp;omega)|(simp_all;done)) (.sm _ _ (ci_pu .i64))) (.cons (.nil _) .nil)))))) .nil)) ?_; refine goS ?_)
  all_goals ((repeat' apply And.intro) <;> first|rfl|assumption|omega|(simp;done)|(simp;omega)|(simp_all;done))
 refine sA_n ?_
 refine a_seq ?_
 obtain ⟨r3, zh3, H⟩ := bind_some H
 have zk3 := seat_Hear_pc zh3
 refine a_reg _ rfl (s := ?zs4) ?_ ?_
 rotate_left
 ·try refine goS ?_
  repeat' with_reducible apply And.intro
  all_goals try ((with_reducible show CallR _ _ _ _ _ _ _); refine cR_f [121] zk3 (.cons (.agg' (.cons (.int' rfl) (.cons (.lst _ _ _ (ci_pu .i64) rfl) (.cons (.int' rfl) (.cons (.int' rfl) (.cons (.int' rfl) (.cons (.lst _ _ _ Entry.pu rfl) (.cons (.int' rfl) (.cons (.lst _ _ _ (ci_pu .i64) rfl) (.cons (.lst _ _ _ (ci_pu .i64) rfl) (.cons (.lst _ _ _ (ci_pu .i64) rfl) .nil))))))))))) (.cons (.agg' (.cons (.int' rfl) (.cons (.int' rfl) (.cons (.int' rfl) (.cons (.ownL ((wrs_frz _ _ _ 121).trans (by rfl)) (fun _ => rfl) rfl (by first|rfl|omega|(simp;done)|(simp;omega)|(simp_all;done)) (.sm _ _ (ci_pu .i64))) (.cons (.nil _) .nil)))))) .nil)) ?_; refine goS ?_)
  all_goals ((repeat' apply And.intro) <;> first|rfl|assumption|omega|(simp;done)|(simp;omega)|(simp_all;done))
 refine sA_n ?_
 refine a_seq ?_
 obtain ⟨r4, zh4, H⟩ := bind_some H
 have zk4 := seat_Hear_pc zh4
 refine a_reg _ rfl (s := ?zs5) ?_ ?_
 rotate_left
 ·try refine goS ?_
  repeat' with_reducible apply And.intro
  all_goals try ((with_reducible show CallR _ _ _ _ _ _ _); refine cR_f [201, 202] zk4 (.cons (.agg' (.cons (.int' rfl) (.cons (.lst _ _ _ (ci_pu .i64) rfl) (.cons (.int' rfl) (.cons (.int' rfl) (.cons (.int' rfl) (.cons (.lst _ _ _ Entry.pu rfl) (.cons (.int' rfl) (.cons (.lst _ _ _ (ci_pu .i64) rfl) (.cons (.lst _ _ _ (ci_pu .i64) rfl) (.cons (.lst _ _ _ (ci_pu .i64) rfl) .nil))))))))))) (.cons (.agg' (.cons (.int' rfl) (.cons (.int' rfl) (.cons (.int' rfl) (.cons (.ownL ((wrs_frz _ _ _ 201).trans (by rfl)) (fun _ => rfl) rfl (by first|rfl|omega|(simp;done)|(simp;omega)|(simp_all;done)) (.sm _ _ (ci_pu .i64))) (.cons (.ownL ((wrs_frz _ _ _ 202).trans (by rfl)) (fun _ => rfl) rfl (by first|rfl|omega|(simp;done)|(simp;omega)|(simp_all;done)) (.sm _ _ (ci_pu .u8))) .nil)))))) .nil)) ?_; refine goS ?_)
  all_goals ((repeat' apply And.intro) <;> first|rfl|assumption|omega|(simp;done)|(simp;omega)|(simp_all;done))
 refine sA_n ?_
 refine a_seq ?_
 obtain ⟨r5, zh5, H⟩ := bind_some H
 have zk5 := seat_Hear_pc zh5
 refine a_reg _ rfl (s := ?zs6) ?_ ?_
 rotate_left
 ·try refine goS ?_
  repeat' with_reducible apply And.intro
  all_goals try ((with_reducible show CallR _ _ _ _ _ _ _); refine cR_f [289] zk5 (.cons (.agg' (.cons (.int' rfl) (.cons (.lst _ _ _ (ci_pu .i64) rfl) (.cons (.int' rfl) (.cons (.int' rfl) (.cons (.int' rfl) (.cons (.lst _ _ _ Entry.pu rfl) (.cons (.int' rfl) (.cons (.lst _ _ _ (ci_pu .i64) rfl) (.cons (.lst _ _ _ (ci_pu .i64) rfl) (.cons (.lst _ _ _ (ci_pu .i64) rfl) .nil))))))))))) (.cons (.agg' (.cons (.int' rfl) (.cons (.int' rfl) (.cons (.int' rfl) (.cons (.ownL ((wrs_frz _ _ _ 289).trans (by rfl)) (fun _ => rfl) rfl (by first|rfl|omega|(simp;done)|(simp;omega)|(simp_all;done)) (.sm _ _ (ci_pu .i64))) (.cons (.nil _) .nil)))))) .nil)) ?_; refine goS ?_)
  all_goals ((repeat' apply And.intro) <;> first|rfl|assumption|omega|(simp;done)|(simp;omega)|(simp_all;done))
 refine sA_n ?_
 refine a_seq ?_
 obtain ⟨r6, zh6, H⟩ := bind_some H
 have zk6 := seat_Late_pc zh6
 refine a_regK _ rfl ?_
 refine sA_n ?_
 refine a_seq ?_
 obtain ⟨r7, zh7, H⟩ := bind_some H
 have zk7 := seat_Hear_pc zh7
 refine a_reg _ rfl (s := ?zs8) ?_ ?_
 rotate_left
 ·try refine goS ?_
  repeat' with_reducible apply And.intro
  all_goals try ((with_reducible show CallR _ _ _ _ _ _ _); refine cR_f [433] zk7 (.cons (.agg' (.cons (.int' rfl) (.cons (.lst _ _ _ (ci_pu .i64) rfl) (.cons (.int' rfl) (.cons (.int' rfl) (.cons (.int' rfl) (.cons (.lst _ _ _ Entry.pu rfl) (.cons (.int' rfl) (.cons (.lst _ _ _ (ci_pu .i64) rfl) (.cons (.lst _ _ _ (ci_pu .i64) rfl) (.cons (.lst _ _ _ (ci_pu .i64) rfl) .nil))))))))))) (.cons (.agg' (.cons (.int' rfl) (.cons (.int' rfl) (.cons (.int' rfl) (.cons (.ownL ((wrs_frz _ _ _ 433).trans (by rfl)) (fun _ => rfl) rfl (by first|rfl|omega|(simp;done)|(simp;omega)|(simp_all;done)) (.sm _ _ (ci_pu .i64))) (.cons (.nil _) .nil)))))) .nil)) ?_; refine goS ?_)
  all_goals ((repeat' apply And.intro) <;> first|rfl|assumption|omega|(simp;done)|(simp;omega)|(simp_all;done))
 refine sA_n ?_
 refine a_seq ?_
 obtain ⟨r8, zh8, H⟩ := bind_some H
 have zk8 := seat_Offer_pc zh8
 refine a_reg _ rfl (s := ?zs9) ?_ ?_
 rotate_left
 ·try refine goS ?_
  repeat' with_reducible apply And.intro
  all_goals try ((with_reducible show CallR _ _ _ _ _ _ _); refine cR_f [513] zk8 (.cons (.agg' (.cons (.int' rfl) (.cons (.lst _ _ _ (ci_pu .i64) rfl) (.cons (.int' rfl) (.cons (.int' rfl) (.cons (.int' rfl) (.cons (.lst _ _ _ Entry.pu rfl) (.cons (.int' rfl) (.cons (.lst _ _ _ (ci_pu .i64) rfl) (.cons (.lst _ _ _ (ci_pu .i64) rfl) (.cons (.lst _ _ _ (ci_pu .i64) rfl) .nil))))))))))) (.cons (.ownL ((wrs_frz _ _ _ 513).trans (by rfl)) (fun _ => rfl) rfl (by first|rfl|omega|(simp;done)|(simp;omega)|(simp_all;done)) (.sm _ _ (ci_pu .u8))) .nil)) ?_; refine goS ?_)
  all_goals ((repeat' apply And.intro) <;> first|rfl|assumption|omega|(simp;done)|(simp;omega)|(simp_all;done))
 refine sA_n ?_
 refine a_seq ?_
 obtain ⟨r9, zh9, H⟩ := bind_some H
 have zk9 := seat_Hear_pc zh9
 refine a_reg _ rfl (s := ?zs10) ?_ ?_
 rotate_left
 ·try refine goS ?_
  repeat' with_reducible apply And.intro
  all_goals try ((with_reducible show CallR _ _ _ _ _ _ _); refine cR_f [601] zk9 (.cons (.agg' (.cons (.int' rfl) (.cons (.lst _ _ _ (ci_pu .i64) rfl) (.cons (.int' rfl) (.cons (.int' rfl) (.cons (.int' rfl) (.cons (.lst _ _ _ Entry.pu rfl) (.cons (.int' rfl) (.cons (.lst _ _ _ (ci_pu .i64) rfl) (.cons (.lst _ _ _ (ci_pu .i64) rfl) (.cons (.lst _ _ _ (ci_pu .i64) rfl) .nil))))))))))) (.cons (.agg' (.cons (.int' rfl) (.cons (.int' rfl) (.cons (.int' rfl) (.cons (.ownL ((wrs_frz _ _ _ 601).trans (by rfl)) (fun _ => rfl) rfl (by first|rfl|omega|(simp;done)|(simp;omega)|(simp_all;done)) (.sm _ _ (ci_pu .i64))) (.cons (.nil _) .nil)))))) .nil)) ?_; refine goS ?_)
  all_goals ((repeat' apply And.intro) <;> first|rfl|assumption|omega|(simp;done)|(simp;omega)|(simp_all;done))
 refine sA_n ?_
 refine a_seq ?_
 obtain ⟨r10, zh10, H⟩ := bind_some H
 have zk10 := seat_Offer_pc zh10
 refine a_regK _ rfl ?_
 refine sA_n ?_
 refine a_seq ?_
 obtain ⟨r11, zh11, H⟩ := bind_some H
 have zk11 := seat_Back_pc zh11
 refine a_regK _ rfl ?_
 refine sA_n ?_
 refine a_cut (fun s => ∃ (one1 : Bool) (t0 : Nat → Dat), law15_head_J1 r4 r5 r10 r11 r6 r7 r8 r9 one1 = some r ∧ s = ⟨tl t0 [(6, .ptr 0 0 0 10), (7, .list 5 (r4.2.map Msg.c)), (9, .list 5 (r5.2.map Msg.c)), (10, .ptr 1 0 0 10), (11, .list 5 (r6.2.map Msg.c)), (12, .ptr 2 0 0 10), (13, .list 5 (r7.2.map Msg.c)), (14, .ptr 3 0 0 10), (15, .int .i64 r8.2.1), (16, .bool r8.2.2), (17, .ptr 4 0 0 10), (18, .list 5 (r9.2.map Msg.c)), (21, .bool r10.2.2), (22, .ptr 5 0 0 10), (23, .bool one1)], hl [⟨25, 10, false, [Seat.c r4.1]⟩, ⟨25, 10, false, [Seat.c r6.1]⟩, ⟨25, 10, false, [Seat.c r7.1]⟩, ⟨25, 10, false, [Seat.c r8.1]⟩, ⟨25, 10, false, [Seat.c r9.1]⟩, ⟨25, 10, false, [Seat.c r11]⟩], 6, 208⟩) ?_ ?_
 ·obtain ⟨r17, zh17, H⟩ := bind_some H
  have zk17 := ref15_SameMsgs_pc zh17
  refine cnd H (fun zc21 H => ?_) (fun zc21 H => ?_)
  ·obtain ⟨r18, zh18, H⟩ := bind_some H
   have zk18 := ref15_SameMsgs_pc zh18
   refine a_reg _ rfl (s := ?zs36) ?_ ?_
   rotate_left
   ·try refine goS ?_
    repeat' with_reducible apply And.intro
    all_goals try ((with_reducible show CallR _ _ _ _ _ _ _); refine cR_s zk17 ZZ (.bool _) ?_; refine goS ?_)
    repeat' with_reducible apply And.intro
    all_goals try ((with_reducible show CallR _ _ _ _ _ _ _); refine cR_s zk18 ZZ (.bool _) ?_; refine goS ?_)
    all_goals ((repeat' apply And.intro) <;> first|rfl|assumption|omega|(simp;done)|(simp;omega)|(simp_all;done))
   refine cA_n ?_
   exact wk_lA [(some 208, _), (some 373, _), (some 439, _), (some 519, _), (some 607, _), (some 762, _)] [] (fun t0 => ⟨r18, t0, H, rfl⟩)
  ·refine a_regK _ rfl ?_
   refine cA_n ?_
   exact wk_lA [(some 208, _), (some 373, _), (some 439, _), (some 519, _), (some 607, _), (some 762, _)] [] (fun t0 => ⟨false, t0, H, rfl⟩)
 ·rintro s ⟨one1, t0, H, rfl⟩
  unfold law15_head_J1 at H
  refine a_cut (fun s => ∃ (two1 : Bool) (t0 : Nat → Dat), law15_head_J2 one1 r4 r10 r11 r6 r7 r8 r9 two1 = some r ∧ s = ⟨tl t0 [(6, .ptr 0 0 0 10), (10, .ptr 1 0 0 10), (11, .list 5 (r6.2.map Msg.c)), (12, .ptr 2 0 0 10), (13, .list 5 (r7.2.map Msg.c)), (14, .ptr 3 0 0 10), (15, .int .i64 r8.2.1), (16, .bool r8.2.2), (17, .ptr 4 0 0 10), (18, .list 5 (r9.2.map Msg.c)), (21, .bool r10.2.2), (22, .ptr 5 0 0 10), (23, .bool one1), (24, .bool two1)], hl [⟨25, 10, false, [Seat.c r4.1]⟩, ⟨25, 10, false, [Seat.c r6.1]⟩, ⟨25, 10, false, [Seat.c r7.1]⟩, ⟨25, 10, false, [Seat.c r8.1]⟩, ⟨25, 10, false, [Seat.c r9.1]⟩, ⟨25, 10, false, [Seat.c r11]⟩], 6, 208⟩) ?_ ?_
  ·obtain ⟨r15, zh15, H⟩ := bind_some H
   have zk15 := ref15_SameMsgs_pc zh15
   refine cnd H (fun zc20 H => ?_) (fun zc20 H => ?_)
   ·obtain ⟨r16, zh16, H⟩ := bind_some H
    have zk16 := ref15_SameMsgs_pc zh16
    refine a_reg _ rfl (s := ?zs34) ?_ ?_
    rotate_left
    ·try refine goS ?_
     repeat' with_reducible apply And.intro
     all_goals try ((with_reducible show CallR _ _ _ _ _ _ _); refine cR_s zk15 ZZ (.bool _) ?_; refine goS ?_)
     repeat' with_reducible apply And.intro
     all_goals try ((with_reducible show CallR _ _ _ _ _ _ _); refine cR_s zk16 ZZ (.bool _) ?_; refine goS ?_)
     all_goals ((repeat' apply And.intro) <;> first|rfl|assumption|omega|(simp;done)|(simp;omega)|(simp_all;done))
    refine cA_n ?_
    exact wk_lA [(some 0, _), (some 1, _), (some 2, _), (some 3, _), (some 4, _), (some 5, _)] [] (fun t0 => ⟨r16, t0, H, rfl⟩)
   ·refine a_regK _ rfl ?_
    refine cA_n ?_
    exact wk_lA [(some 0, _), (some 1, _), (some 2, _), (some 3, _), (some 4, _), (some 5, _)] [] (fun t0 => ⟨false, t0, H, rfl⟩)
  ·rintro s ⟨two1, t0, H, rfl⟩
   unfold law15_head_J2 at H
   refine a_cut (fun s => ∃ (three1 : Bool) (t0 : Nat → Dat), law15_head_J3 one1 two1 r4 r10 r11 three1 = some r ∧ s = ⟨tl t0 [(6, .ptr 0 0 0 10), (21, .bool r10.2.2), (22, .ptr 1 0 0 10), (23, .bool one1), (24, .bool two1), (25, .bool three1)], hl [⟨25, 10, false, [Seat.c r4.1]⟩, ⟨25, 10, false, [Seat.c r11]⟩], 2, 208⟩) ?_ ?_
   ·refine bool_split (b := ((r6.2.length : Int) == 2)) (fun zc12 => ?_) (fun zc12 => ?_)
    ·rw [zc12] at H
     refine bool_split (b := (r6.1.role == 2)) (fun zc13 => ?_) (fun zc13 => ?_)
     ·rw [zc13] at H
      refine bool_split (b := (r7.1.role == 3)) (fun zc14 => ?_) (fun zc14 => ?_)
      ·rw [zc14] at H
       refine bool_split (b := ((r7.2.length : Int) == 2)) (fun zc15 => ?_) (fun zc15 => ?_)
       ·rw [zc15] at H
        refine bool_split (b := r8.2.2) (fun zc16 => ?_) (fun zc16 => ?_)
        ·rw [zc16] at H
         refine bool_split (b := (r8.2.1 == 1)) (fun zc17 => ?_) (fun zc17 => ?_)
         ·rw [zc17] at H
          refine bool_split (b := (r8.1.commit == 0)) (fun zc18 => ?_) (fun zc18 => ?_)
          ·rw [zc18] at H
           refine bool_split (b := (r9.1.commit == 1)) (fun zc19 => ?_) (fun zc19 => ?_)
           ·rw [zc19] at H
            refine a_regC _ rfl ?_
            refine cA_n ?_
            exact wk_lA [(some 0, _), (some 5, _)] [] (fun t0 => ⟨((r9.2.length : Int) == 0), t0, H, rfl⟩)
           ·rw [zc19] at H
            refine a_regC _ rfl ?_
            refine cA_n ?_
            exact wk_lA [(some 0, _), (some 5, _)] [] (fun t0 => ⟨false, t0, H, rfl⟩)
          ·rw [zc18] at H
           refine a_regC _ rfl ?_
           refine cA_n ?_
           exact wk_lA [(some 0, _), (some 5, _)] [] (fun t0 => ⟨false, t0, H, rfl⟩)
         ·rw [zc17] at H
          refine a_regC _ rfl ?_
          refine cA_n ?_
          exact wk_lA [(some 0, _), (some 5, _)] [] (fun t0 => ⟨false, t0, H, rfl⟩)
        ·rw [zc16] at H
         refine a_regC _ rfl ?_
         refine cA_n ?_
         exact wk_lA [(some 0, _), (some 5, _)] [] (fun t0 => ⟨false, t0, H, rfl⟩)
       ·rw [zc15] at H
        refine a_regC _ rfl ?_
        refine cA_n ?_
        exact wk_lA [(some 0, _), (some 5, _)] [] (fun t0 => ⟨false, t0, H, rfl⟩)
      ·rw [zc14] at H
       refine a_regC _ rfl ?_
       refine cA_n ?_
       exact wk_lA [(some 0, _), (some 5, _)] [] (fun t0 => ⟨false, t0, H, rfl⟩)
     ·rw [zc13] at H
      refine a_regC _ rfl ?_
      refine cA_n ?_
      exact wk_lA [(some 0, _), (some 5, _)] [] (fun t0 => ⟨false, t0, H, rfl⟩)
    ·rw [zc12] at H
     refine a_regC _ rfl ?_
     refine cA_n ?_
     exact wk_lA [(some 0, _), (some 5, _)] [] (fun t0 => ⟨false, t0, H, rfl⟩)
   ·rintro s ⟨three1, t0, H, rfl⟩
    unfold law15_head_J3 at H
    refine a_seq ?_
    refine cnd H (fun zc1 H => ?_) (fun zc1 H => ?_)
    ·refine cnd H (fun zc2 H => ?_) (fun zc2 H => ?_)
     ·refine cnd H (fun zc3 H => ?_) (fun zc3 H => ?_)
      ·refine cnd H (fun zc4 H => ?_) (fun zc4 H => ?_)
       ·refine cnd H (fun zc5 H => ?_) (fun zc5 H => ?_)
        ·refine cnd H (fun zc6 H => ?_) (fun zc6 H => ?_)
         ·refine cnd H (fun zc7 H => ?_) (fun zc7 H => ?_)
          ·refine cnd H (fun zc8 H => ?_) (fun zc8 H => ?_)
           ·refine cnd H (fun zc9 H => ?_) (fun zc9 H => ?_)
            ·obtain ⟨r12, zh12, H⟩ := bind_some H
             have zk12 := seat_Right_pc zh12
             refine cnd H (fun zc10 H => ?_) (fun zc10 H => ?_)
             ·obtain ⟨r13, zh13, H⟩ := bind_some H
              have zk13 := seat_Right_pc zh13
              refine bool_split (b := (!r13)) (fun zc11 => ?_) (fun zc11 => ?_)
              ·have H := cond_t zc11 H
               obtain ⟨r14, zh14, H⟩ := bind_some H
               have zk14 := seat_New_pc zh14
               refine a_reg _ rfl (s := ?zs13) ?_ ?_
               rotate_left
               ·try refine goS ?_
                repeat' with_reducible apply And.intro
                all_goals try ((with_reducible show CallR _ _ _ _ _ _ _); refine cR_s zk12 (.cons (.agg' (.cons (.int' rfl) (.cons (.lst _ _ _ (ci_pu .i64) rfl) (.cons (.int' rfl) (.cons (.int' rfl) (.cons (.int' rfl) (.cons (.lst _ _ _ Entry.pu rfl) (.cons (.int' rfl) (.cons (.lst _ _ _ (ci_pu .i64) rfl) (.cons (.lst _ _ _ (ci_pu .i64) rfl) (.cons (.lst _ _ _ (ci_pu .i64) rfl) .nil))))))))))) .nil) (.bool _) ?_; simp only [EVT, stepR, evOp, St.ev, St.app, St.put, wrs, datOf, datOf1, evFieldAddr, evLoad, cut, evBuiltin, evBin, binInt, evUn, frz, fillD, setR, evField, TIS, CS, reduceAdd, reduceMul, reduceEqDiff, ↓reduceIte, reduceCtorEq, reduceLT, reduceLeDiff, Array.reduceGetElem?, Nat.reduceGT, reduceSub, Nat.reduceBEq, ↓zc1, ↓zc2, ↓zc3, ↓zc4, ↓zc5, ↓zc6, ↓zc7, ↓zc8, ↓zc9, ↓zc10, ↓zc11])
                repeat' with_reducible apply And.intro
                all_goals try ((with_reducible show CallR _ _ _ _ _ _ _); refine cR_s zk13 (.cons (.agg' (.cons (.int' rfl) (.cons (.nil _) (.cons (.int' rfl) (.cons (.int' rfl) (.cons (.int' rfl) (.cons (.nil _) (.cons (.int' rfl) (.cons (.nil _) (.cons (.nil _) (.cons (.nil _) .nil))))))))))) .nil) (.bool _) ?_; simp only [EVT, stepR, evOp, St.ev, St.app, St.put, wrs, datOf, datOf1, evFieldAddr, evLoad, cut, evBuiltin, evBin, binInt, evUn, frz, fillD, setR, evField, TIS, CS, reduceAdd, reduceMul, reduceEqDiff, ↓reduceIte, reduceCtorEq, reduceLT, reduceLeDiff, Array.reduceGetElem?, Nat.reduceGT, reduceSub, Nat.reduceBEq, ↓zc1, ↓zc2, ↓zc3, ↓zc4, ↓zc5, ↓zc6, ↓zc7, ↓zc8, ↓zc9, ↓zc10, ↓zc11])
                repeat' with_reducible apply And.intro
                all_goals try ((with_reducible show CallR _ _ _ _ _ _ _); refine cR_p zk14 (.cons (.int' rfl) (.cons (.nil _) .nil)) ?_; simp only [EVT, stepR, evOp, St.ev, St.app, St.put, wrs, datOf, datOf1, evFieldAddr, evLoad, cut, evBuiltin, evBin, binInt, evUn, frz, fillD, setR, evField, TIS, CS, reduceAdd, reduceMul, reduceEqDiff, ↓reduceIte, reduceCtorEq, reduceLT, reduceLeDiff, Array.reduceGetElem?, Nat.reduceGT, reduceSub, Nat.reduceBEq, ↓zc1, ↓zc2, ↓zc3, ↓zc4, ↓zc5, ↓zc6, ↓zc7, ↓zc8, ↓zc9, ↓zc10, ↓zc11])
                all_goals ((repeat' apply And.intro) <;> first|rfl|assumption|omega|(simp;done)|(simp;omega)|(simp_all;done))
               refine sA_n ?_
               refine a_ret ?_
               obtain rfl := Option.some.inj H
               refine e_r2 (d := ?zd1) ?_ ?_
               rotate_left
               ·simp only [EVT, resR, single, evLoad, cut, TIS, CS, reduceAdd, reduceEqDiff, ↓reduceIte, reduceCtorEq, reduceLT, reduceLeDiff, reduceSub, Nat.reduceBEq, zc1, zc2, zc3, zc4, zc5, zc6, zc7, zc8, zc9, zc10, zc11]
                (repeat' apply And.intro) <;> first | rfl | assumption | omega | (simp; done)
               exact (.bool' rfl)
              ·have H := cond_f zc11 H
               refine a_reg _ rfl (s := ?zs14) ?_ ?_
               rotate_left
               ·try refine goS ?_
                repeat' with_reducible apply And.intro
                all_goals try ((with_reducible show CallR _ _ _ _ _ _ _); refine cR_s zk12 (.cons (.agg' (.cons (.int' rfl) (.cons (.lst _ _ _ (ci_pu .i64) rfl) (.cons (.int' rfl) (.cons (.int' rfl) (.cons (.int' rfl) (.cons (.lst _ _ _ Entry.pu rfl) (.cons (.int' rfl) (.cons (.lst _ _ _ (ci_pu .i64) rfl) (.cons (.lst _ _ _ (ci_pu .i64) rfl) (.cons (.lst _ _ _ (ci_pu .i64) rfl) .nil))))))))))) .nil) (.bool _) ?_; simp only [EVT, stepR, evOp, St.ev, St.app, St.put, wrs, datOf, datOf1, evFieldAddr, evLoad, cut, evBuiltin, evBin, binInt, evUn, frz, fillD, setR, evField, TIS, CS, reduceAdd, reduceMul, reduceEqDiff, ↓reduceIte, reduceCtorEq, reduceLT, reduceLeDiff, Array.reduceGetElem?, Nat.reduceGT, reduceSub, Nat.reduceBEq, ↓zc1, ↓zc2, ↓zc3, ↓zc4, ↓zc5, ↓zc6, ↓zc7, ↓zc8, ↓zc9, ↓zc10, ↓zc11])
                repeat' with_reducible apply And.intro
                all_goals try ((with_reducible show CallR _ _ _ _ _ _ _); refine cR_s zk13 (.cons (.agg' (.cons (.int' rfl) (.cons (.nil _) (.cons (.int' rfl) (.cons (.int' rfl) (.cons (.int' rfl) (.cons (.nil _) (.cons (.int' rfl) (.cons (.nil _) (.cons (.nil _) (.cons (.nil _) .nil))))))))))) .nil) (.bool _) ?_; simp only [EVT, stepR, evOp, St.ev, St.app, St.put, wrs, datOf, datOf1, evFieldAddr, evLoad, cut, evBuiltin, evBin, binInt, evUn, frz, fillD, setR, evField, TIS, CS, reduceAdd, reduceMul, reduceEqDiff, ↓reduceIte, reduceCtorEq, reduceLT, reduceLeDiff, Array.reduceGetElem?, Nat.reduceGT, reduceSub, Nat.reduceBEq, ↓zc1, ↓zc2, ↓zc3, ↓zc4, ↓zc5, ↓zc6, ↓zc7, ↓zc8, ↓zc9, ↓zc10, ↓zc11])
                all_goals ((repeat' apply And.intro) <;> first|rfl|assumption|omega|(simp;done)|(simp;omega)|(simp_all;done))
               refine sA_n ?_
               refine a_ret ?_
               obtain rfl := Option.some.inj H
               refine e_r2 (d := ?zd2) ?_ ?_
               rotate_left
               ·simp only [EVT, resR, single, evLoad, cut, TIS, CS, reduceAdd, reduceEqDiff, ↓reduceIte, reduceCtorEq, reduceLT, reduceLeDiff, reduceSub, Nat.reduceBEq, zc1, zc2, zc3, zc4, zc5, zc6, zc7, zc8, zc9, zc10, zc11]
                (repeat' apply And.intro) <;> first | rfl | assumption | omega | (simp; done)
               exact (.bool' (by first | rfl | assumption | (simp_all; done)))
             ·refine a_reg _ rfl (s := ?zs15) ?_ ?_
              rotate_left
              ·try refine goS ?_
               repeat' with_reducible apply And.intro
               all_goals try ((with_reducible show CallR _ _ _ _ _ _ _); refine cR_s zk12 (.cons (.agg' (.cons (.int' rfl) (.cons (.lst _ _ _ (ci_pu .i64) rfl) (.cons (.int' rfl) (.cons (.int' rfl) (.cons (.int' rfl) (.cons (.lst _ _ _ Entry.pu rfl) (.cons (.int' rfl) (.cons (.lst _ _ _ (ci_pu .i64) rfl) (.cons (.lst _ _ _ (ci_pu .i64) rfl) (.cons (.lst _ _ _ (ci_pu .i64) rfl) .nil))))))))))) .nil) (.bool _) ?_; simp only [EVT, stepR, evOp, St.ev, St.app, St.put, wrs, datOf, datOf1, evFieldAddr, evLoad, cut, evBuiltin, evBin, binInt, evUn, frz, fillD, setR, evField, TIS, CS, reduceAdd, reduceMul, reduceEqDiff, ↓reduceIte, reduceCtorEq, reduceLT, reduceLeDiff, Array.reduceGetElem?, Nat.reduceGT, reduceSub, Nat.reduceBEq, ↓zc1, ↓zc2, ↓zc3, ↓zc4, ↓zc5, ↓zc6, ↓zc7, ↓zc8, ↓zc9, ↓zc10])
               all_goals ((repeat' apply And.intro) <;> first|rfl|assumption|omega|(simp;done)|(simp;omega)|(simp_all;done))
              refine sA_n ?_
              refine a_ret ?_
              obtain rfl := Option.some.inj H
              refine e_r2 (d := ?zd3) ?_ ?_
              rotate_left
              ·simp only [EVT, resR, single, evLoad, cut, TIS, CS, reduceAdd, reduceEqDiff, ↓reduceIte, reduceCtorEq, reduceLT, reduceLeDiff, reduceSub, Nat.reduceBEq, zc1, zc2, zc3, zc4, zc5, zc6, zc7, zc8, zc9, zc10]
               (repeat' apply And.intro) <;> first | rfl | assumption | omega | (simp; done)
              exact (.bool' (by first | rfl | assumption | (simp_all; done)))
            ·refine a_reg _ rfl (s := ?zs16) ?_ ?_
             rotate_left
             ·simp only [EVT, stepR, evOp, St.ev, St.app, St.put, wrs, datOf, datOf1, evFieldAddr, evLoad, cut, evBuiltin, evBin, binInt, evUn, frz, fillD, setR, evField, TIS, CS, reduceAdd, reduceMul, reduceEqDiff, ↓reduceIte, reduceCtorEq, reduceLT, reduceLeDiff, Array.reduceGetElem?, Nat.reduceGT, reduceSub, Nat.reduceBEq, ↓zc1, ↓zc2, ↓zc3, ↓zc4, ↓zc5, ↓zc6, ↓zc7, ↓zc8, ↓zc9]
              try simp only [EVT, stepR, evOp, St.ev, St.app, St.put, wrs, datOf, datOf1, evFieldAddr, evLoad, cut, evBuiltin, evBin, binInt, evUn, frz, fillD, setR, evField, TIS, CS, reduceAdd, reduceMul, reduceEqDiff, ↓reduceIte, reduceCtorEq, reduceLT, reduceLeDiff, Array.reduceGetElem?, Nat.reduceGT, reduceSub, Nat.reduceBEq, ↓zc1, ↓zc2, ↓zc3, ↓zc4, ↓zc5, ↓zc6, ↓zc7, ↓zc8, ↓zc9]
              (repeat' apply And.intro) <;> first|rfl|assumption|omega|(simp;done)|(simp;omega)|(simp_all;done)
             refine sA_n ?_
             refine a_ret ?_
             obtain rfl := Option.some.inj H
             refine e_r2 (d := ?zd4) ?_ ?_
             rotate_left
             ·simp only [EVT, resR, single, evLoad, cut, TIS, CS, reduceAdd, reduceEqDiff, ↓reduceIte, reduceCtorEq, reduceLT, reduceLeDiff, reduceSub, Nat.reduceBEq, zc1, zc2, zc3, zc4, zc5, zc6, zc7, zc8, zc9]
              (repeat' apply And.intro) <;> first | rfl | assumption | omega | (simp; done)
             exact ZZ
           ·refine a_reg _ rfl (s := ?zs17) ?_ ?_
            rotate_left
            ·simp only [EVT, stepR, evOp, St.ev, St.app, St.put, wrs, datOf, datOf1, evFieldAddr, evLoad, cut, evBuiltin, evBin, binInt, evUn, frz, fillD, setR, evField, TIS, CS, reduceAdd, reduceMul, reduceEqDiff, ↓reduceIte, reduceCtorEq, reduceLT, reduceLeDiff, Array.reduceGetElem?, Nat.reduceGT, reduceSub, Nat.reduceBEq, ↓zc1, ↓zc2, ↓zc3, ↓zc4, ↓zc5, ↓zc6, ↓zc7, ↓zc8]
             try simp only [EVT, stepR, evOp, St.ev, St.app, St.put, wrs, datOf, datOf1, evFieldAddr, evLoad, cut, evBuiltin, evBin, binInt, evUn, frz, fillD, setR, evField, TIS, CS, reduceAdd, reduceMul, reduceEqDiff, ↓reduceIte, reduceCtorEq, reduceLT, reduceLeDiff, Array.reduceGetElem?, Nat.reduceGT, reduceSub, Nat.reduceBEq, ↓zc1, ↓zc2, ↓zc3, ↓zc4, ↓zc5, ↓zc6, ↓zc7, ↓zc8]
             (repeat' apply And.intro) <;> first|rfl|assumption|omega|(simp;done)|(simp;omega)|(simp_all;done)
            refine sA_n ?_
            refine a_ret ?_
            obtain rfl := Option.some.inj H
            refine e_r2 (d := ?zd5) ?_ ?_
            rotate_left
            ·simp only [EVT, resR, single, evLoad, cut, TIS, CS, reduceAdd, reduceEqDiff, ↓reduceIte, reduceCtorEq, reduceLT, reduceLeDiff, reduceSub, Nat.reduceBEq, zc1, zc2, zc3, zc4, zc5, zc6, zc7, zc8]
             (repeat' apply And.intro) <;> first | rfl | assumption | omega | (simp; done)
            exact ZZ
          ·refine a_reg _ rfl (s := ?zs18) ?_ ?_
           rotate_left
           ·simp only [EVT, stepR, evOp, St.ev, St.app, St.put, wrs, datOf, datOf1, evFieldAddr, evLoad, cut, evBuiltin, evBin, binInt, evUn, frz, fillD, setR, evField, TIS, CS, reduceAdd, reduceMul, reduceEqDiff, ↓reduceIte, reduceCtorEq, reduceLT, reduceLeDiff, Array.reduceGetElem?, Nat.reduceGT, reduceSub, Nat.reduceBEq, ↓zc1, ↓zc2, ↓zc3, ↓zc4, ↓zc5, ↓zc6, ↓zc7]
            try simp only [EVT, stepR, evOp, St.ev, St.app, St.put, wrs, datOf, datOf1, evFieldAddr, evLoad, cut, evBuiltin, evBin, binInt, evUn, frz, fillD, setR, evField, TIS, CS, reduceAdd, reduceMul, reduceEqDiff, ↓reduceIte, reduceCtorEq, reduceLT, reduceLeDiff, Array.reduceGetElem?, Nat.reduceGT, reduceSub, Nat.reduceBEq, ↓zc1, ↓zc2, ↓zc3, ↓zc4, ↓zc5, ↓zc6, ↓zc7]
            (repeat' apply And.intro) <;> first|rfl|assumption|omega|(simp;done)|(simp;omega)|(simp_all;done)
           refine sA_n ?_
           refine a_ret ?_
           obtain rfl := Option.some.inj H
           refine e_r2 (d := ?zd6) ?_ ?_
           rotate_left
           ·simp only [EVT, resR, single, evLoad, cut, TIS, CS, reduceAdd, reduceEqDiff, ↓reduceIte, reduceCtorEq, reduceLT, reduceLeDiff, reduceSub, Nat.reduceBEq, zc1, zc2, zc3, zc4, zc5, zc6, zc7]
            (repeat' apply And.intro) <;> first | rfl | assumption | omega | (simp; done)
           exact ZZ
         ·refine a_reg _ rfl (s := ?zs19) ?_ ?_
          rotate_left
          ·simp only [EVT, stepR, evOp, St.ev, St.app, St.put, wrs, datOf, datOf1, evFieldAddr, evLoad, cut, evBuiltin, evBin, binInt, evUn, frz, fillD, setR, evField, TIS, CS, reduceAdd, reduceMul, reduceEqDiff, ↓reduceIte, reduceCtorEq, reduceLT, reduceLeDiff, Array.reduceGetElem?, Nat.reduceGT, reduceSub, Nat.reduceBEq, ↓zc1, ↓zc2, ↓zc3, ↓zc4, ↓zc5, ↓zc6]
           try simp only [EVT, stepR, evOp, St.ev, St.app, St.put, wrs, datOf, datOf1, evFieldAddr, evLoad, cut, evBuiltin, evBin, binInt, evUn, frz, fillD, setR, evField, TIS, CS, reduceAdd, reduceMul, reduceEqDiff, ↓reduceIte, reduceCtorEq, reduceLT, reduceLeDiff, Array.reduceGetElem?, Nat.reduceGT, reduceSub, Nat.reduceBEq, ↓zc1, ↓zc2, ↓zc3, ↓zc4, ↓zc5, ↓zc6]
           (repeat' apply And.intro) <;> first|rfl|assumption|omega|(simp;done)|(simp;omega)|(simp_all;done)
          refine sA_n ?_
          refine a_ret ?_
          obtain rfl := Option.some.inj H
          refine e_r2 (d := ?zd7) ?_ ?_
          rotate_left
          ·simp only [EVT, resR, single, evLoad, cut, TIS, CS, reduceAdd, reduceEqDiff, ↓reduceIte, reduceCtorEq, reduceLT, reduceLeDiff, reduceSub, Nat.reduceBEq, zc1, zc2, zc3, zc4, zc5, zc6]
           (repeat' apply And.intro) <;> first | rfl | assumption | omega | (simp; done)
          exact ZZ
        ·refine a_reg _ rfl (s := ?zs20) ?_ ?_
         rotate_left
         ·simp only [EVT, stepR, evOp, St.ev, St.app, St.put, wrs, datOf, datOf1, evFieldAddr, evLoad, cut, evBuiltin, evBin, binInt, evUn, frz, fillD, setR, evField, TIS, CS, reduceAdd, reduceMul, reduceEqDiff, ↓reduceIte, reduceCtorEq, reduceLT, reduceLeDiff, Array.reduceGetElem?, Nat.reduceGT, reduceSub, Nat.reduceBEq, ↓zc1, ↓zc2, ↓zc3, ↓zc4, ↓zc5]
          try simp only [EVT, stepR, evOp, St.ev, St.app, St.put, wrs, datOf, datOf1, evFieldAddr, evLoad, cut, evBuiltin, evBin, binInt, evUn, frz, fillD, setR, evField, TIS, CS, reduceAdd, reduceMul, reduceEqDiff, ↓reduceIte, reduceCtorEq, reduceLT, reduceLeDiff, Array.reduceGetElem?, Nat.reduceGT, reduceSub, Nat.reduceBEq, ↓zc1, ↓zc2, ↓zc3, ↓zc4, ↓zc5]
          (repeat' apply And.intro) <;> first|rfl|assumption|omega|(simp;done)|(simp;omega)|(simp_all;done)
         refine sA_n ?_
         refine a_ret ?_
         obtain rfl := Option.some.inj H
         refine e_r2 (d := ?zd8) ?_ ?_
         rotate_left
         ·simp only [EVT, resR, single, evLoad, cut, TIS, CS, reduceAdd, reduceEqDiff, ↓reduceIte, reduceCtorEq, reduceLT, reduceLeDiff, reduceSub, Nat.reduceBEq, zc1, zc2, zc3, zc4, zc5]
          (repeat' apply And.intro) <;> first | rfl | assumption | omega | (simp; done)
         exact ZZ
       ·refine a_reg _ rfl (s := ?zs21) ?_ ?_
        rotate_left
        ·simp only [EVT, stepR, evOp, St.ev, St.app, St.put, wrs, datOf, datOf1, evFieldAddr, evLoad, cut, evBuiltin, evBin, binInt, evUn, frz, fillD, setR, evField, TIS, CS, reduceAdd, reduceMul, reduceEqDiff, ↓reduceIte, reduceCtorEq, reduceLT, reduceLeDiff, Array.reduceGetElem?, Nat.reduceGT, reduceSub, Nat.reduceBEq, ↓zc1, ↓zc2, ↓zc3, ↓zc4]
         try simp only [EVT, stepR, evOp, St.ev, St.app, St.put, wrs, datOf, datOf1, evFieldAddr, evLoad, cut, evBuiltin, evBin, binInt, evUn, frz, fillD, setR, evField, TIS, CS, reduceAdd, reduceMul, reduceEqDiff, ↓reduceIte, reduceCtorEq, reduceLT, reduceLeDiff, Array.reduceGetElem?, Nat.reduceGT, reduceSub, Nat.reduceBEq, ↓zc1, ↓zc2, ↓zc3, ↓zc4]
         (repeat' apply And.intro) <;> first|rfl|assumption|omega|(simp;done)|(simp;omega)|(simp_all;done)
        refine sA_n ?_
        refine a_ret ?_
        obtain rfl := Option.some.inj H
        refine e_r2 (d := ?zd9) ?_ ?_
        rotate_left
        ·simp only [EVT, resR, single, evLoad, cut, TIS, CS, reduceAdd, reduceEqDiff, ↓reduceIte, reduceCtorEq, reduceLT, reduceLeDiff, reduceSub, Nat.reduceBEq, zc1, zc2, zc3, zc4]
         (repeat' apply And.intro) <;> first | rfl | assumption | omega | (simp; done)
        exact ZZ
      ·refine a_reg _ rfl (s := ?zs22) ?_ ?_
       rotate_left
       ·simp only [EVT, stepR, evOp, St.ev, St.app, St.put, wrs, datOf, datOf1, evFieldAddr, evLoad, cut, evBuiltin, evBin, binInt, evUn, frz, fillD, setR, evField, TIS, CS, reduceAdd, reduceMul, reduceEqDiff, ↓reduceIte, reduceCtorEq, reduceLT, reduceLeDiff, Array.reduceGetElem?, Nat.reduceGT, reduceSub, Nat.reduceBEq, ↓zc1, ↓zc2, ↓zc3]
        try simp only [EVT, stepR, evOp, St.ev, St.app, St.put, wrs, datOf, datOf1, evFieldAddr, evLoad, cut, evBuiltin, evBin, binInt, evUn, frz, fillD, setR, evField, TIS, CS, reduceAdd, reduceMul, reduceEqDiff, ↓reduceIte, reduceCtorEq, reduceLT, reduceLeDiff, Array.reduceGetElem?, Nat.reduceGT, reduceSub, Nat.reduceBEq, ↓zc1, ↓zc2, ↓zc3]
        (repeat' apply And.intro) <;> first|rfl|assumption|omega|(simp;done)|(simp;omega)|(simp_all;done)
       refine sA_n ?_
       refine a_ret ?_
       obtain rfl := Option.some.inj H
       refine e_r2 (d := ?zd10) ?_ ?_
       rotate_left
       ·simp only [EVT, resR, single, evLoad, cut, TIS, CS, reduceAdd, reduceEqDiff, ↓reduceIte, reduceCtorEq, reduceLT, reduceLeDiff, reduceSub, Nat.reduceBEq, zc1, zc2, zc3]
        (repeat' apply And.intro) <;> first | rfl | assumption | omega | (simp; done)
       exact ZZ
     ·refine a_reg _ rfl (s := ?zs23) ?_ ?_
      rotate_left
      ·simp only [EVT, stepR, evOp, St.ev, St.app, St.put, wrs, datOf, datOf1, evFieldAddr, evLoad, cut, evBuiltin, evBin, binInt, evUn, frz, fillD, setR, evField, TIS, CS, reduceAdd, reduceMul, reduceEqDiff, ↓reduceIte, reduceCtorEq, reduceLT, reduceLeDiff, Array.reduceGetElem?, Nat.reduceGT, reduceSub, Nat.reduceBEq, ↓zc1, ↓zc2]
       try simp only [EVT, stepR, evOp, St.ev, St.app, St.put, wrs, datOf, datOf1, evFieldAddr, evLoad, cut, evBuiltin, evBin, binInt, evUn, frz, fillD, setR, evField, TIS, CS, reduceAdd, reduceMul, reduceEqDiff, ↓reduceIte, reduceCtorEq, reduceLT, reduceLeDiff, Array.reduceGetElem?, Nat.reduceGT, reduceSub, Nat.reduceBEq, ↓zc1, ↓zc2]
       (repeat' apply And.intro) <;> first|rfl|assumption|omega|(simp;done)|(simp;omega)|(simp_all;done)
      refine sA_n ?_
      refine a_ret ?_
      obtain rfl := Option.some.inj H
      refine e_r2 (d := ?zd11) ?_ ?_
      rotate_left
      ·simp only [EVT, resR, single, evLoad, cut, TIS, CS, reduceAdd, reduceEqDiff, ↓reduceIte, reduceCtorEq, reduceLT, reduceLeDiff, reduceSub, Nat.reduceBEq, zc1, zc2]
       (repeat' apply And.intro) <;> first | rfl | assumption | omega | (simp; done)
      exact ZZ
    ·refine a_reg _ rfl (s := ?zs24) ?_ ?_
     rotate_left
     ·simp only [EVT, stepR, evOp, St.ev, St.app, St.put, wrs, datOf, datOf1, evFieldAddr, evLoad, cut, evBuiltin, evBin, binInt, evUn, frz, fillD, setR, evField, TIS, CS, reduceAdd, reduceMul, reduceEqDiff, ↓reduceIte, reduceCtorEq, reduceLT, reduceLeDiff, Array.reduceGetElem?, Nat.reduceGT, reduceSub, Nat.reduceBEq, ↓zc1]
      try simp only [EVT, stepR, evOp, St.ev, St.app, St.put, wrs, datOf, datOf1, evFieldAddr, evLoad, cut, evBuiltin, evBin, binInt, evUn, frz, fillD, setR, evField, TIS, CS, reduceAdd, reduceMul, reduceEqDiff, ↓reduceIte, reduceCtorEq, reduceLT, reduceLeDiff, Array.reduceGetElem?, Nat.reduceGT, reduceSub, Nat.reduceBEq, ↓zc1]
      (repeat' apply And.intro) <;> first|rfl|assumption|omega|(simp;done)|(simp;omega)|(simp_all;done)
     refine sA_n ?_
     refine a_ret ?_
     obtain rfl := Option.some.inj H
     refine e_r2 (d := ?zd12) ?_ ?_
     rotate_left
     ·simp only [EVT, resR, single, evLoad, cut, TIS, CS, reduceAdd, reduceEqDiff, ↓reduceIte, reduceCtorEq, reduceLT, reduceLeDiff, reduceSub, Nat.reduceBEq, zc1]
      (repeat' apply And.intro) <;> first | rfl | assumption | omega | (simp; done)
     exact ZZ
end
end Go.Proofs.YtmkpokcfefjifaaDoor
