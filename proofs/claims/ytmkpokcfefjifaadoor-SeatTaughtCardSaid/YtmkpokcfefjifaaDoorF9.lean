import Derived.Test.YtmkpokcfefjifaaDoorF8
set_option linter.unusedSectionVars false
/- Functions of the program as Lean functions, and that they are so; printed by a program of mine. -/
set_option linter.unusedSimpArgs false
set_option linter.unusedVariables false
namespace Go.Proofs.YtmkpokcfefjifaaDoor
open Go.Ab
open Nat (reduceAdd reduceMul reduceEqDiff reduceLT reduceLeDiff reduceSub)
noncomputable section

def seat_Right_2_f (id1 : Int) (v1 : Seat) : Option Bool :=
 (seat_Right_1_f id1 v1).bind fun r1 => some ((!r1))
set_option maxHeartbeats 4000000 in
set_option maxRecDepth 20000 in
theorem seat_Right_2_pc {id1 : Int} {v1 : Seat} {r : Bool} (H : seat_Right_2_f id1 v1 = some r) : PC Tryd.prog 35 [.int .i64 id1, .rop [.fn (.func 29) [] [.rop (Seat.c v1) 0 10]] 0 1] (.bool r) := by
 refine pcA_of Tryd.func35 (by rfl) (by decide) 8 (by rfl) [.tmp 3] (by rfl) ?_
 unfold seat_Right_2_f at H
 simp only [ent]
 refine a_seq ?_
 refine a_regC _ rfl ?_
 refine sA_n ?_
 refine a_seq ?_
 obtain ⟨r1, zh1, H⟩ := bind_some H
 have zk1 := seat_Right_1_pc zh1
 refine a_regK _ rfl ?_
 refine sA_n ?_
 exact a_ret RT
def seat_Right_J1 (s1 : Seat) (v1 : Bool) : Option Bool :=
 cond v1 (some (false)) (cond (s1.role == 1) (some (((IntKind.wrap .i64 ((IntKind.wrap .i64 ((s1.votes.length : Int) + (s1.next.length : Int))) + (s1.match_.length : Int))) == 0))) (cond (s1.role == 2) (cond (decide (0 < s1.term)) (cond (s1.voted == s1.id) ((slices_Contains_f s1.votes s1.id).bind fun r1 => some (r1 && ((IntKind.wrap .i64 ((s1.next.length : Int) + (s1.match_.length : Int))) == 0))) (some (false))) (some (false))) (cond (s1.role == 3) (cond (decide (0 < s1.term)) ((seat_leads_f s1).bind fun r2 => some (r2)) (some (false))) (some (false)))))
def seat_Right_f (s1 : Seat) : Option Bool :=
 (seat_peers_f s1.peers).bind fun r3 => cond (!r3) (seat_Right_J1 s1 true) ((seat_Right_1_f s1.id s1).bind fun r4 => cond (!r4) (seat_Right_J1 s1 true) (cond (decide (s1.term < 0)) (seat_Right_J1 s1 true) (cond (decide (1099511627776 < s1.term)) (seat_Right_J1 s1 true) (cond (s1.voted != (-1)) ((seat_Right_1_f s1.voted s1).bind fun r5 => cond (!r5) (seat_Right_J1 s1 true) ((seat_entries_f s1.log s1.term).bind fun r6 => cond (!r6) (seat_Right_J1 s1 true) (cond (decide (s1.commit < 0)) (seat_Right_J1 s1 true) (cond (decide ((s1.log.length : Int) < s1.commit)) (seat_Right_J1 s1 true) ((seat_rises_f s1.votes).bind fun r7 => cond (!r7) (seat_Right_J1 s1 true) ((slices_ContainsFunc_f s1.votes (fun y0_ => seat_Right_2_f y0_ s1)).bind fun r8 => seat_Right_J1 s1 r8)))))) ((seat_entries_f s1.log s1.term).bind fun r9 => cond (!r9) (seat_Right_J1 s1 true) (cond (decide (s1.commit < 0)) (seat_Right_J1 s1 true) (cond (decide ((s1.log.length : Int) < s1.commit)) (seat_Right_J1 s1 true) ((seat_rises_f s1.votes).bind fun r10 => cond (!r10) (seat_Right_J1 s1 true) ((slices_ContainsFunc_f s1.votes (fun y0_ => seat_Right_2_f y0_ s1)).bind fun r11 => seat_Right_J1 s1 r11)))))))))
set_option maxHeartbeats 4000000 in
set_option maxRecDepth 20000 in
theorem seat_Right_pc {s1 : Seat} {r : Bool} (H : seat_Right_f s1 = some r) : PC Tryd.prog 11 [.agg (Seat.c s1)] (.bool r) := by
 refine pcA_of Tryd.func11 (by rfl) (by decide) 125 (by rfl) [.tmp 2] (by rfl) ?_
 unfold seat_Right_f at H
 simp only [ent]
 refine a_seq ?_
 refine a_regC _ rfl ?_
 refine sA_n ?_
 refine a_seq ?_
 refine a_regC _ rfl ?_
 refine sA_n ?_
 refine a_seq ?_
 refine a_cut (fun s => ∃ (v1 : Bool) (t0 : Nat → Dat), seat_Right_J1 s1 v1 = some r ∧ s = ⟨tl t0 [(1, .ptr 0 0 0 10), (70, .bool v1)], hl [⟨25, 10, false, [Seat.c s1]⟩], 1, 125⟩) ?_ ?_
 ·obtain ⟨r3, zh3, H⟩ := bind_some H
  have zk3 := seat_peers_pc zh3
  refine cnd H (fun zc9 H => ?_) (fun zc9 H => ?_)
  ·refine a_regK _ rfl ?_
   refine cA_n ?_
   exact wk_lA [(some 0, _)] [] (fun t0 => ⟨true, t0, H, rfl⟩)
  ·obtain ⟨r4, zh4, H⟩ := bind_some H
   have zk4 := seat_Right_1_pc zh4
   refine cnd H (fun zc10 H => ?_) (fun zc10 H => ?_)
   ·refine a_regK _ rfl ?_
    refine cA_n ?_
    exact wk_lA [(some 0, _)] [] (fun t0 => ⟨true, t0, H, rfl⟩)
   ·refine cnd H (fun zc11 H => ?_) (fun zc11 H => ?_)
    ·refine a_regK _ rfl ?_
     refine cA_n ?_
     exact wk_lA [(some 0, _)] [] (fun t0 => ⟨true, t0, H, rfl⟩)
    ·refine cnd H (fun zc12 H => ?_) (fun zc12 H => ?_)
     ·refine a_regK _ rfl ?_
      refine cA_n ?_
      exact wk_lA [(some 0, _)] [] (fun t0 => ⟨true, t0, H, rfl⟩)
     ·refine cnd H (fun zc13 H => ?_) (fun zc13 H => ?_)
      ·obtain ⟨r5, zh5, H⟩ := bind_some H
       have zk5 := seat_Right_1_pc zh5
       refine cnd H (fun zc14 H => ?_) (fun zc14 H => ?_)
       ·refine a_reg _ rfl (s := ?zs20) ?_ ?_
        rotate_left
        ·try refine goS ?_
         repeat' with_reducible apply And.intro
         all_goals try ((with_reducible show CallR _ _ _ _ _ _ _); refine cR_s zk3 ZZ (.bool _) ?_; refine goS ?_)
         repeat' with_reducible apply And.intro
         all_goals try ((with_reducible show CallR _ _ _ _ _ _ _); refine cR_s zk4 ZZ (.bool _) ?_; refine goS ?_)
         repeat' with_reducible apply And.intro
         all_goals try ((with_reducible show CallR _ _ _ _ _ _ _); refine cR_s zk5 ZZ (.bool _) ?_; refine goS ?_)
         all_goals ((repeat' apply And.intro) <;> first|rfl|assumption|omega|(simp;done)|(simp;omega)|(simp_all;done))
        refine cA_n ?_
        exact wk_lA [(some 0, _)] [] (fun t0 => ⟨true, t0, H, rfl⟩)
       ·obtain ⟨r6, zh6, H⟩ := bind_some H
        have zk6 := seat_entries_pc zh6
        refine cnd H (fun zc15 H => ?_) (fun zc15 H => ?_)
        ·refine a_reg _ rfl (s := ?zs21) ?_ ?_
         rotate_left
         ·try refine goS ?_
          repeat' with_reducible apply And.intro
          all_goals try ((with_reducible show CallR _ _ _ _ _ _ _); refine cR_s zk3 ZZ (.bool _) ?_; refine goS ?_)
          repeat' with_reducible apply And.intro
          all_goals try ((with_reducible show CallR _ _ _ _ _ _ _); refine cR_s zk4 ZZ (.bool _) ?_; refine goS ?_)
          repeat' with_reducible apply And.intro
          all_goals try ((with_reducible show CallR _ _ _ _ _ _ _); refine cR_s zk5 ZZ (.bool _) ?_; refine goS ?_)
          repeat' with_reducible apply And.intro
          all_goals try ((with_reducible show CallR _ _ _ _ _ _ _); refine cR_s zk6 ZZ (.bool _) ?_; refine goS ?_)
          all_goals ((repeat' apply And.intro) <;> first|rfl|assumption|omega|(simp;done)|(simp;omega)|(simp_all;done))
         refine cA_n ?_
         exact wk_lA [(some 0, _)] [] (fun t0 => ⟨true, t0, H, rfl⟩)
        ·refine cnd H (fun zc16 H => ?_) (fun zc16 H => ?_)
         ·refine a_reg _ rfl (s := ?zs22) ?_ ?_
          rotate_left
          ·try refine goS ?_
           repeat' with_reducible apply And.intro
           all_goals try ((with_reducible show CallR _ _ _ _ _ _ _); refine cR_s zk3 ZZ (.bool _) ?_; refine goS ?_)
           repeat' with_reducible apply And.intro
           all_goals try ((with_reducible show CallR _ _ _ _ _ _ _); refine cR_s zk4 ZZ (.bool _) ?_; refine goS ?_)
           repeat' with_reducible apply And.intro
           all_goals try ((with_reducible show CallR _ _ _ _ _ _ _); refine cR_s zk5 ZZ (.bool _) ?_; refine goS ?_)
           repeat' with_reducible apply And.intro
           all_goals try ((with_reducible show CallR _ _ _ _ _ _ _); refine cR_s zk6 ZZ (.bool _) ?_; refine goS ?_)
           all_goals ((repeat' apply And.intro) <;> first|rfl|assumption|omega|(simp;done)|(simp;omega)|(simp_all;done))
          refine cA_n ?_
          exact wk_lA [(some 0, _)] [] (fun t0 => ⟨true, t0, H, rfl⟩)
         ·refine cnd H (fun zc17 H => ?_) (fun zc17 H => ?_)
          ·refine a_reg _ rfl (s := ?zs23) ?_ ?_
           rotate_left
           ·try refine goS ?_
            repeat' with_reducible apply And.intro
            all_goals try ((with_reducible show CallR _ _ _ _ _ _ _); refine cR_s zk3 ZZ (.bool _) ?_; refine goS ?_)
            repeat' with_reducible apply And.intro
            all_goals try ((with_reducible show CallR _ _ _ _ _ _ _); refine cR_s zk4 ZZ (.bool _) ?_; refine goS ?_)
            repeat' with_reducible apply And.intro
            all_goals try ((with_reducible show CallR _ _ _ _ _ _ _); refine cR_s zk5 ZZ (.bool _) ?_; refine goS ?_)
            repeat' with_reducible apply And.intro
            all_goals try ((with_reducible show CallR _ _ _ _ _ _ _); refine cR_s zk6 ZZ (.bool _) ?_; refine goS ?_)
            all_goals ((repeat' apply And.intro) <;> first|rfl|assumption|omega|(simp;done)|(simp;omega)|(simp_all;done))
           refine cA_n ?_
           exact wk_lA [(some 0, _)] [] (fun t0 => ⟨true, t0, H, rfl⟩)
          ·obtain ⟨r7, zh7, H⟩ := bind_some H
           have zk7 := seat_rises_pc zh7
           refine cnd H (fun zc18 H => ?_) (fun zc18 H => ?_)
           ·refine a_reg _ rfl (s := ?zs24) ?_ ?_
            rotate_left
            ·try refine goS ?_
             repeat' with_reducible apply And.intro
             all_goals try ((with_reducible show CallR _ _ _ _ _ _ _); refine cR_s zk3 ZZ (.bool _) ?_; refine goS ?_)
             repeat' with_reducible apply And.intro
             all_goals try ((with_reducible show CallR _ _ _ _ _ _ _); refine cR_s zk4 ZZ (.bool _) ?_; refine goS ?_)
             repeat' with_reducible apply And.intro
             all_goals try ((with_reducible show CallR _ _ _ _ _ _ _); refine cR_s zk5 ZZ (.bool _) ?_; refine goS ?_)
             repeat' with_reducible apply And.intro
             all_goals try ((with_reducible show CallR _ _ _ _ _ _ _); refine cR_s zk6 ZZ (.bool _) ?_; refine goS ?_)
             repeat' with_reducible apply And.intro
             all_goals try ((with_reducible show CallR _ _ _ _ _ _ _); refine cR_s zk7 ZZ (.bool _) ?_; refine goS ?_)
             all_goals ((repeat' apply And.intro) <;> first|rfl|assumption|omega|(simp;done)|(simp;omega)|(simp_all;done))
            refine cA_n ?_
            exact wk_lA [(some 0, _)] [] (fun t0 => ⟨true, t0, H, rfl⟩)
           ·obtain ⟨r8, zh8, H⟩ := bind_some H
            have zk8 := slices_ContainsFunc_pc (f1 := (fun y0_ => seat_Right_2_f y0_ s1)) (f1_F := 35) (f1_caps := [.rop [.fn (.func 29) [] [.rop (Seat.c s1) 0 10]] 0 1]) (fun _ _ h => seat_Right_2_pc h) (.cons (.rop _ _ _ (Pus.cons (.fn _ _ _ Pus.nil (Pus.cons (.rop _ _ _ (Seat.pu _)) Pus.nil)) Pus.nil)) .nil) zh8
            refine a_reg _ rfl (s := ?zs25) ?_ ?_
            rotate_left
            ·try refine goS ?_
             repeat' with_reducible apply And.intro
             all_goals try ((with_reducible show CallR _ _ _ _ _ _ _); refine cR_s zk3 ZZ (.bool _) ?_; refine goS ?_)
             repeat' with_reducible apply And.intro
             all_goals try ((with_reducible show CallR _ _ _ _ _ _ _); refine cR_s zk4 ZZ (.bool _) ?_; refine goS ?_)
             repeat' with_reducible apply And.intro
             all_goals try ((with_reducible show CallR _ _ _ _ _ _ _); refine cR_s zk5 ZZ (.bool _) ?_; refine goS ?_)
             repeat' with_reducible apply And.intro
             all_goals try ((with_reducible show CallR _ _ _ _ _ _ _); refine cR_s zk6 ZZ (.bool _) ?_; refine goS ?_)
             repeat' with_reducible apply And.intro
             all_goals try ((with_reducible show CallR _ _ _ _ _ _ _); refine cR_s zk7 ZZ (.bool _) ?_; refine goS ?_)
             repeat' with_reducible apply And.intro
             all_goals try ((with_reducible show CallR _ _ _ _ _ _ _); refine cR_s zk8 ZZ (.bool _) ?_; refine goS ?_)
             all_goals ((repeat' apply And.intro) <;> first|rfl|assumption|omega|(simp;done)|(simp;omega)|(simp_all;done))
            refine cA_n ?_
            exact wk_lA [(some 0, _)] [] (fun t0 => ⟨r8, t0, H, rfl⟩)
      ·obtain ⟨r9, zh9, H⟩ := bind_some H
       have zk9 := seat_entries_pc zh9
       refine cnd H (fun zc19 H => ?_) (fun zc19 H => ?_)
       ·refine a_regK _ rfl ?_
        refine cA_n ?_
        exact wk_lA [(some 0, _)] [] (fun t0 => ⟨true, t0, H, rfl⟩)
       ·refine cnd H (fun zc20 H => ?_) (fun zc20 H => ?_)
        ·refine a_regK _ rfl ?_
         refine cA_n ?_
         exact wk_lA [(some 0, _)] [] (fun t0 => ⟨true, t0, H, rfl⟩)
        ·refine cnd H (fun zc21 H => ?_) (fun zc21 H => ?_)
         ·refine a_regK _ rfl ?_
          refine cA_n ?_
          exact wk_lA [(some 0, _)] [] (fun t0 => ⟨true, t0, H, rfl⟩)
         ·obtain ⟨r10, zh10, H⟩ := bind_some H
          have zk10 := seat_rises_pc zh10
          refine cnd H (fun zc22 H => ?_) (fun zc22 H => ?_)
          ·refine a_reg _ rfl (s := ?zs29) ?_ ?_
           rotate_left
           ·try refine goS ?_
            repeat' with_reducible apply And.intro
            all_goals try ((with_reducible show CallR _ _ _ _ _ _ _); refine cR_s zk3 ZZ (.bool _) ?_; refine goS ?_)
            repeat' with_reducible apply And.intro
            all_goals try ((with_reducible show CallR _ _ _ _ _ _ _); refine cR_s zk4 ZZ (.bool _) ?_; refine goS ?_)
            repeat' with_reducible apply And.intro
            all_goals try ((with_reducible show CallR _ _ _ _ _ _ _); refine cR_s zk9 ZZ (.bool _) ?_; refine goS ?_)
            repeat' with_reducible apply And.intro
            all_goals try ((with_reducible show CallR _ _ _ _ _ _ _); refine cR_s zk10 ZZ (.bool _) ?_; refine goS ?_)
            all_goals ((repeat' apply And.intro) <;> first|rfl|assumption|omega|(simp;done)|(simp;omega)|(simp_all;done))
           refine cA_n ?_
           exact wk_lA [(some 0, _)] [] (fun t0 => ⟨true, t0, H, rfl⟩)
          ·obtain ⟨r11, zh11, H⟩ := bind_some H
           have zk11 := slices_ContainsFunc_pc (f1 := (fun y0_ => seat_Right_2_f y0_ s1)) (f1_F := 35) (f1_caps := [.rop [.fn (.func 29) [] [.rop (Seat.c s1) 0 10]] 0 1]) (fun _ _ h => seat_Right_2_pc h) (.cons (.rop _ _ _ (Pus.cons (.fn _ _ _ Pus.nil (Pus.cons (.rop _ _ _ (Seat.pu _)) Pus.nil)) Pus.nil)) .nil) zh11
           refine a_reg _ rfl (s := ?zs30) ?_ ?_
           rotate_left
           ·try refine goS ?_
            repeat' with_reducible apply And.intro
            all_goals try ((with_reducible show CallR _ _ _ _ _ _ _); refine cR_s zk3 ZZ (.bool _) ?_; refine goS ?_)
            repeat' with_reducible apply And.intro
            all_goals try ((with_reducible show CallR _ _ _ _ _ _ _); refine cR_s zk4 ZZ (.bool _) ?_; refine goS ?_)
            repeat' with_reducible apply And.intro
            all_goals try ((with_reducible show CallR _ _ _ _ _ _ _); refine cR_s zk9 ZZ (.bool _) ?_; refine goS ?_)
            repeat' with_reducible apply And.intro
            all_goals try ((with_reducible show CallR _ _ _ _ _ _ _); refine cR_s zk10 ZZ (.bool _) ?_; refine goS ?_)
            repeat' with_reducible apply And.intro
            all_goals try ((with_reducible show CallR _ _ _ _ _ _ _); refine cR_s zk11 ZZ (.bool _) ?_; refine goS ?_)
            all_goals ((repeat' apply And.intro) <;> first|rfl|assumption|omega|(simp;done)|(simp;omega)|(simp_all;done))
           refine cA_n ?_
           exact wk_lA [(some 0, _)] [] (fun t0 => ⟨r11, t0, H, rfl⟩)
 ·rintro s ⟨v1, t0, H, rfl⟩
  unfold seat_Right_J1 at H
  refine a_cnd H (fun zc1 H => ?_) (fun zc1 H => ?_)
  ·refine a_seq ?_
   refine a_regC _ rfl ?_
   refine sA_n ?_
   exact a_ret (sA_r RT)
  ·refine a_skip ?_
   refine sA_n ?_
   refine a_seq ?_
   refine a_seq ?_
   refine a_regC _ rfl ?_
   refine sA_n ?_
   refine a_blk ?_
   refine a_seq ?_
   refine a_regC _ rfl ?_
   refine sA_n ?_
   refine a_cnd H (fun zc2 H => ?_) (fun zc2 H => ?_)
   ·refine a_seq ?_
    refine a_regC _ rfl ?_
    refine sA_n ?_
    refine a_ret ?_
    refine bA_r ?_
    refine sA_r ?_
    obtain rfl := Option.some.inj H
    refine e_r2 (d := ?zd2) ?_ ?_
    rotate_left
    ·simp only [EVT, resR, single, evLoad, cut, TIS, CS, reduceAdd, reduceEqDiff, ↓reduceIte, reduceCtorEq, reduceLT, reduceLeDiff, reduceSub, Nat.reduceBEq, zc1, zc2]
     (repeat' apply And.intro) <;> first | rfl | assumption | omega | (simp; done)
    exact ZZ
   ·refine a_seq ?_
    refine a_regC _ rfl ?_
    refine sA_n ?_
    refine a_cnd H (fun zc3 H => ?_) (fun zc3 H => ?_)
    ·refine a_seq ?_
     refine cnd H (fun zc4 H => ?_) (fun zc4 H => ?_)
     ·refine cnd H (fun zc5 H => ?_) (fun zc5 H => ?_)
      ·obtain ⟨r1, zh1, H⟩ := bind_some H
       have zk1 := slices_Contains_pc zh1
       refine bool_split (b := r1) (fun zc6 => ?_) (fun zc6 => ?_)
       ·rw [zc6] at H
        refine a_regK _ rfl ?_
        refine sA_n ?_
        refine a_ret ?_
        refine bA_r ?_
        refine sA_r ?_
        obtain rfl := Option.some.inj H
        refine e_r2 (d := ?zd3) ?_ ?_
        rotate_left
        ·simp only [EVT, resR, single, evLoad, cut, TIS, CS, reduceAdd, reduceEqDiff, ↓reduceIte, reduceCtorEq, reduceLT, reduceLeDiff, reduceSub, Nat.reduceBEq, zc1, zc2, zc3, zc4, zc5, zc6]
         (repeat' apply And.intro) <;> first | rfl | assumption | omega | (simp; done)
        exact ZZ
       ·rw [zc6] at H
        refine a_regK _ rfl ?_
        refine sA_n ?_
        refine a_ret ?_
        refine bA_r ?_
        refine sA_r ?_
        obtain rfl := Option.some.inj H
        refine e_r2 (d := ?zd4) ?_ ?_
        rotate_left
        ·simp only [EVT, resR, single, evLoad, cut, TIS, CS, reduceAdd, reduceEqDiff, ↓reduceIte, reduceCtorEq, reduceLT, reduceLeDiff, reduceSub, Nat.reduceBEq, zc1, zc2, zc3, zc4, zc5, zc6]
         (repeat' apply And.intro) <;> first | rfl | assumption | omega | (simp; done)
        exact ZZ
      ·refine a_reg _ rfl (s := ?zs10) ?_ ?_
       rotate_left
       ·simp only [EVT, stepR, evOp, St.ev, St.app, St.put, wrs, evFieldAddr, evLoad, cut, datOf, datOf1, evBin, binInt, frz, evBuiltin, TIS, CS, reduceAdd, reduceMul, reduceEqDiff, ↓reduceIte, reduceCtorEq, reduceLT, reduceLeDiff, Array.reduceGetElem?, reduceSub, Nat.reduceBEq, ↓zc1, ↓zc2, ↓zc3, ↓zc4, ↓zc5]
        try simp only [EVT, stepR, evOp, St.ev, St.app, St.put, wrs, evFieldAddr, evLoad, cut, datOf, datOf1, evBin, binInt, frz, evBuiltin, TIS, CS, reduceAdd, reduceMul, reduceEqDiff, ↓reduceIte, reduceCtorEq, reduceLT, reduceLeDiff, Array.reduceGetElem?, reduceSub, Nat.reduceBEq, ↓zc1, ↓zc2, ↓zc3, ↓zc4, ↓zc5]
        (repeat' apply And.intro) <;> first|rfl|assumption|omega|(simp;done)|(simp;omega)|(simp_all;done)
       refine sA_n ?_
       refine a_ret ?_
       refine bA_r ?_
       refine sA_r ?_
       obtain rfl := Option.some.inj H
       refine e_r2 (d := ?zd5) ?_ ?_
       rotate_left
       ·simp only [EVT, resR, single, evLoad, cut, TIS, CS, reduceAdd, reduceEqDiff, ↓reduceIte, reduceCtorEq, reduceLT, reduceLeDiff, reduceSub, Nat.reduceBEq, zc1, zc2, zc3, zc4, zc5]
        (repeat' apply And.intro) <;> first | rfl | assumption | omega | (simp; done)
       exact ZZ
     ·refine a_reg _ rfl (s := ?zs11) ?_ ?_
      rotate_left
      ·simp only [EVT, stepR, evOp, St.ev, St.app, St.put, wrs, evFieldAddr, evLoad, cut, datOf, datOf1, evBin, binInt, frz, evBuiltin, TIS, CS, reduceAdd, reduceMul, reduceEqDiff, ↓reduceIte, reduceCtorEq, reduceLT, reduceLeDiff, Array.reduceGetElem?, reduceSub, Nat.reduceBEq, ↓zc1, ↓zc2, ↓zc3, ↓zc4]
       try simp only [EVT, stepR, evOp, St.ev, St.app, St.put, wrs, evFieldAddr, evLoad, cut, datOf, datOf1, evBin, binInt, frz, evBuiltin, TIS, CS, reduceAdd, reduceMul, reduceEqDiff, ↓reduceIte, reduceCtorEq, reduceLT, reduceLeDiff, Array.reduceGetElem?, reduceSub, Nat.reduceBEq, ↓zc1, ↓zc2, ↓zc3, ↓zc4]
       (repeat' apply And.intro) <;> first|rfl|assumption|omega|(simp;done)|(simp;omega)|(simp_all;done)
      refine sA_n ?_
      refine a_ret ?_
      refine bA_r ?_
      refine sA_r ?_
      obtain rfl := Option.some.inj H
      refine e_r2 (d := ?zd6) ?_ ?_
      rotate_left
      ·simp only [EVT, resR, single, evLoad, cut, TIS, CS, reduceAdd, reduceEqDiff, ↓reduceIte, reduceCtorEq, reduceLT, reduceLeDiff, reduceSub, Nat.reduceBEq, zc1, zc2, zc3, zc4]
       (repeat' apply And.intro) <;> first | rfl | assumption | omega | (simp; done)
      exact ZZ
    ·refine a_seq ?_
     refine a_regC _ rfl ?_
     refine sA_n ?_
     refine a_cnd H (fun zc7 H => ?_) (fun zc7 H => ?_)
     ·refine a_seq ?_
      refine cnd H (fun zc8 H => ?_) (fun zc8 H => ?_)
      ·obtain ⟨r2, zh2, H⟩ := bind_some H
       have zk2 := seat_leads_pc zh2
       refine a_regK _ rfl ?_
       refine sA_n ?_
       refine a_ret ?_
       refine bA_r ?_
       refine sA_r ?_
       obtain rfl := Option.some.inj H
       refine e_r2 (d := ?zd7) ?_ ?_
       rotate_left
       ·simp only [EVT, resR, single, evLoad, cut, TIS, CS, reduceAdd, reduceEqDiff, ↓reduceIte, reduceCtorEq, reduceLT, reduceLeDiff, reduceSub, Nat.reduceBEq, zc1, zc2, zc3, zc7, zc8]
        (repeat' apply And.intro) <;> first | rfl | assumption | omega | (simp; done)
       exact ZZ
      ·refine a_reg _ rfl (s := ?zs14) ?_ ?_
       rotate_left
       ·simp only [EVT, stepR, evOp, St.ev, St.app, St.put, wrs, evFieldAddr, evLoad, cut, datOf, datOf1, evBin, binInt, frz, TIS, CS, reduceAdd, reduceMul, reduceEqDiff, ↓reduceIte, reduceCtorEq, reduceLT, reduceLeDiff, Array.reduceGetElem?, reduceSub, Nat.reduceBEq, ↓zc1, ↓zc2, ↓zc3, ↓zc7, ↓zc8]
        try simp only [EVT, stepR, evOp, St.ev, St.app, St.put, wrs, evFieldAddr, evLoad, cut, datOf, datOf1, evBin, binInt, frz, TIS, CS, reduceAdd, reduceMul, reduceEqDiff, ↓reduceIte, reduceCtorEq, reduceLT, reduceLeDiff, Array.reduceGetElem?, reduceSub, Nat.reduceBEq, ↓zc1, ↓zc2, ↓zc3, ↓zc7, ↓zc8]
        (repeat' apply And.intro) <;> first|rfl|assumption|omega|(simp;done)|(simp;omega)|(simp_all;done)
       refine sA_n ?_
       refine a_ret ?_
       refine bA_r ?_
       refine sA_r ?_
       obtain rfl := Option.some.inj H
       refine e_r2 (d := ?zd8) ?_ ?_
       rotate_left
       ·simp only [EVT, resR, single, evLoad, cut, TIS, CS, reduceAdd, reduceEqDiff, ↓reduceIte, reduceCtorEq, reduceLT, reduceLeDiff, reduceSub, Nat.reduceBEq, zc1, zc2, zc3, zc7, zc8]
        (repeat' apply And.intro) <;> first | rfl | assumption | omega | (simp; done)
       exact ZZ
     ·refine a_skip ?_
      refine bA_n ?_
      refine sA_n ?_
      refine a_seq ?_
      refine a_regC _ rfl ?_
      refine sA_n ?_
      refine a_ret ?_
      obtain rfl := Option.some.inj H
      refine e_r2 (d := ?zd9) ?_ ?_
      rotate_left
      ·simp only [EVT, resR, single, evLoad, cut, TIS, CS, reduceAdd, reduceEqDiff, ↓reduceIte, reduceCtorEq, reduceLT, reduceLeDiff, reduceSub, Nat.reduceBEq, zc1, zc2, zc3, zc7]
       (repeat' apply And.intro) <;> first | rfl | assumption | omega | (simp; done)
      exact ZZ
end
end Go.Proofs.YtmkpokcfefjifaaDoor
