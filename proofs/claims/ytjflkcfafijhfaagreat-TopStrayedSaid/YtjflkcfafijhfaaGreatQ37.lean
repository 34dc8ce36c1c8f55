import Derived.Test.YtjflkcfafijhfaaGreatQ36
import Derived.Test.YtjflkcfafijhfaaGreatQ34
set_option linter.unusedSectionVars false
/- Functions of the program as Lean functions, and that they are so; printed by a program of mine. -/
set_option linter.unusedSimpArgs false
set_option linter.unusedVariables false
set_option maxHeartbeats 4000000
set_option maxRecDepth 20000
namespace Go.Proofs.YtjflkcfafijhfaaGreat
open Go.Ab
open Nat (reduceAdd reduceMul reduceEqDiff reduceLT reduceLeDiff reduceSub)
noncomputable section
def top_head29_J1 (r1 : (List Disk) × (List Chain) × Bool) (v1 : Bool) : Option Bool :=
 cond v1 (some (false)) (chk ((r1.1.length) * 56 ≤ 140737488355328) ((idx r1.1 0).bind fun x1 => (disk_Rot_f x1 0 3).bind fun r2 => (scrub_Plan_f (r1.1.set 0 r2) r1.2.1).bind fun r3 => (mend_Round_f (r1.1.set 0 r2) r1.2.1 [] 5).bind fun r4 => (mend_Round_f r4.1 r1.2.1 r4.2.1 5).bind fun r5 => (idx r1.2.1 0).bind fun x2 => (chain_Read_f x2 r5.1).bind fun r6 => (sweep_Gone_f [(⟨0, 0, 0, 0⟩ : Named)] [] [] 0 r5.1).bind fun r7 => cond ((r3.1.length : Int) == 1) (cond ((r3.2.length : Int) == 0) ((idx r3.1 0).bind fun x3 => cond (x3.from_ == 1) (cond (x3.left == 6) (cond ((r4.2.2.length : Int) == 0) (cond ((r4.2.1.length : Int) == 1) (cond ((r5.2.1.length : Int) == 0) (cond ((r5.2.2.length : Int) == 1) (cond (r6.2 == 0) ((top_bytesR14_f 0).bind fun r8 => (ref02_Bytes_f r6.1 r8).bind fun r9 => cond r9 ((ref02_Ints_f r7 [1]).bind fun r10 => some (r10)) (some (false))) (some (false))) (some (false))) (some (false))) (some (false))) (some (false))) (some (false))) (some (false))) (some (false))) (some (false))))
def top_head29_f : Option Bool :=
 (top_farmR14_f 4 2).bind fun r1 => top_head29_J1 r1 ((!r1.2.2) || (((r1.1.length : Int) != 4) || ((r1.2.1.length : Int) != 2)))
theorem top_head29_pc {r : Bool} (H : top_head29_f = some r) : PC Tryz.prog 5 [] (.bool r) := by
 refine pcA_of Tryz.func5 (by rfl) (by decide) 130 (by rfl) [.tmp 0] (by rfl) ?_
 unfold top_head29_f at H
 simp only [ent]
 refine a_srC _ rfl ?_
 refine a_seq ?_
 obtain ⟨r1, zh1, H⟩ := bind_some H
 have zk1 := top_farmR14_pc zh1
 refine a_regK _ rfl ?_
 refine sA_n ?_
 refine a_seq ?_
 refine a_cut (fun s => ∃ (v1 : Bool) (t0 : Nat → Dat), top_head29_J1 r1 v1 = some r ∧ s = ⟨tl t0 [(1, .list 3 (r1.1.map Disk.c)), (2, .list 3 (r1.2.1.map Chain.c)), (31, .bool v1)], hl [], 0, 130⟩) ?_ ?_
 ·refine bool_split (b := (!r1.2.2)) (fun zc12 => ?_) (fun zc12 => ?_)
  ·rw [zc12] at H
   refine a_regC _ rfl ?_
   refine cA_n ?_
   exact wk_lA [] [] (fun t0 => ⟨true, t0, H, rfl⟩)
  ·rw [zc12] at H
   refine bool_split (b := ((r1.1.length : Int) != 4)) (fun zc13 => ?_) (fun zc13 => ?_)
   ·rw [zc13] at H
    refine a_regC _ rfl ?_
    refine cA_n ?_
    exact wk_lA [] [] (fun t0 => ⟨true, t0, H, rfl⟩)
   ·rw [zc13] at H
    refine a_regC _ rfl ?_
    refine cA_n ?_
    exact wk_lA [] [] (fun t0 => ⟨((r1.2.1.length : Int) != 2), t0, H, rfl⟩)
 ·rintro s ⟨v1, t0, H, rfl⟩
  unfold top_head29_J1 at H
  refine a_cnd H (fun zc1 H => ?_) (fun zc1 H => ?_)
  ·refine a_srC _ rfl ?_
   exact a_ret (sA_r RT)
  ·refine a_skip ?_
   refine sA_n ?_
   refine a_seq ?_
   obtain ⟨zh2, H⟩ := chk_some H
   refine a_regC _ rfl ?_
   refine sA_n ?_
   refine a_seq ?_
   obtain ⟨x1, zh3, H⟩ := bind_some H
   obtain ⟨zg1, zh3a, zh3b⟩ := idx3 (f := Disk.c) zh3
   try simp only [Int.reduceToNat, Int.toNat_natCast] at zg1
   obtain ⟨r2, zh4, H⟩ := bind_some H
   have zk2 := disk_Rot_pc zh4
   refine a_regK _ rfl ?_
   refine sA_n ?_
   refine a_seq ?_
   obtain ⟨r3, zh5, H⟩ := bind_some H
   have zk3 := scrub_Plan_pc zh5
   refine a_reg _ rfl (s := ?zs6) ?_ ?_
   rotate_left
   ·try refine goS ?_
    repeat' with_reducible apply And.intro
    all_goals try ((with_reducible show CallR _ _ _ _ _ _ _); refine cR_f [2] zk3 (.cons (.ownL ((wrs_frz _ _ _ 2).trans (by rfl)) (fun _ => rfl) rfl (by first|rfl|omega|(simp;done)|(simp;omega)|(simp_all;done)) (.sm _ _ Disk.pu)) (.cons (.lst _ _ _ Chain.pu rfl) .nil)) ?_; refine goS ?_)
    all_goals ((repeat' apply And.intro) <;> first|rfl|assumption|omega|(simp;done)|(simp;omega)|(simp_all;done))
   refine sA_n ?_
   refine a_seq ?_
   obtain ⟨r4, zh6, H⟩ := bind_some H
   have zk4 := mend_Round_pc zh6
   refine a_reg _ rfl (s := ?zs7) ?_ ?_
   rotate_left
   ·try refine goS ?_
    repeat' with_reducible apply And.intro
    all_goals try ((with_reducible show CallR _ _ _ _ _ _ _); refine cR_p zk4 (.cons (.ownL (by rfl) (fun _ => rfl) rfl (by first|rfl|omega|(simp;done)|(simp;omega)|(simp_all;done)) (.sm _ _ Disk.pu)) (.cons (.lst _ _ _ Chain.pu rfl) (.cons (.nil _) (.cons (.int' rfl) .nil)))) ?_; refine goS ?_)
    all_goals ((repeat' apply And.intro) <;> first|rfl|assumption|omega|(simp;done)|(simp;omega)|(simp_all;done))
   refine sA_n ?_
   refine a_seq ?_
   obtain ⟨r5, zh7, H⟩ := bind_some H
   have zk5 := mend_Round_pc zh7
   refine a_regK _ rfl ?_
   refine sA_n ?_
   refine a_seq ?_
   obtain ⟨x2, zh8, H⟩ := bind_some H
   obtain ⟨zg2, zh8a, zh8b⟩ := idx3 (f := Chain.c) zh8
   try simp only [Int.reduceToNat, Int.toNat_natCast] at zg2
   obtain ⟨r6, zh9, H⟩ := bind_some H
   have zk6 := chain_Read_pc zh9
   refine a_regK _ rfl ?_
   refine sA_n ?_
   refine a_seq ?_
   obtain ⟨r7, zh10, H⟩ := bind_some H
   have zk7 := sweep_Gone_pc zh10
   refine a_reg _ rfl (s := ?zs10) ?_ ?_
   rotate_left
   ·try refine goS ?_
    repeat' with_reducible apply And.intro
    all_goals try ((with_reducible show CallR _ _ _ _ _ _ _); refine cR_f [401] zk7 (.cons (.ownL ((wrs_frz _ _ _ 401).trans (by rfl)) (fun _ => rfl) rfl (by first|rfl|omega|(simp;done)|(simp;omega)|(simp_all;done)) (.sm _ _ Named.pu)) (.cons (.nil _) (.cons (.nil _) (.cons (.int' rfl) (.cons (.lst _ _ _ Disk.pu rfl) .nil))))) ?_; refine goS ?_)
    all_goals ((repeat' apply And.intro) <;> first|rfl|assumption|omega|(simp;done)|(simp;omega)|(simp_all;done))
   refine sA_n ?_
   refine a_seq ?_
   refine cnd H (fun zc2 H => ?_) (fun zc2 H => ?_)
   ·refine cnd H (fun zc3 H => ?_) (fun zc3 H => ?_)
    ·obtain ⟨x3, zh11, H⟩ := bind_some H
     obtain ⟨zg3, zh11a, zh11b⟩ := idx3 (f := Job.c) zh11
     try simp only [Int.reduceToNat, Int.toNat_natCast] at zg3
     refine cnd H (fun zc4 H => ?_) (fun zc4 H => ?_)
     ·refine cnd H (fun zc5 H => ?_) (fun zc5 H => ?_)
      ·refine cnd H (fun zc6 H => ?_) (fun zc6 H => ?_)
       ·refine cnd H (fun zc7 H => ?_) (fun zc7 H => ?_)
        ·refine cnd H (fun zc8 H => ?_) (fun zc8 H => ?_)
         ·refine cnd H (fun zc9 H => ?_) (fun zc9 H => ?_)
          ·refine cnd H (fun zc10 H => ?_) (fun zc10 H => ?_)
           ·obtain ⟨r8, zh12, H⟩ := bind_some H
            have zk8 := top_bytesR14_pc zh12
            obtain ⟨r9, zh13, H⟩ := bind_some H
            have zk9 := ref02_Bytes_pc zh13
            refine cnd H (fun zc11 H => ?_) (fun zc11 H => ?_)
            ·obtain ⟨r10, zh14, H⟩ := bind_some H
             have zk10 := ref02_Ints_pc zh14
             refine a_regK _ rfl ?_
             refine sA_n ?_
             refine a_ret ?_
             obtain rfl := Option.some.inj H
             refine e_r2 (d := ?zd2) ?_ ?_
             rotate_left
             ·simp only [EVT, resR, single, evLoad, cut, TIS, CS, reduceAdd, reduceEqDiff, ↓reduceIte, reduceCtorEq, reduceLT, reduceLeDiff, reduceSub, Nat.reduceBEq, zc1, zg1, zg2, zc2, zc3, zg3, zc4, zc5, zc6, zc7, zc8, zc9, zc10, zc11]
              (repeat' apply And.intro) <;> first | rfl | assumption | omega | (simp; done)
             exact ZZ
            ·refine a_reg _ rfl (s := ?zs12) ?_ ?_
             rotate_left
             ·try refine goS ?_
              repeat' with_reducible apply And.intro
              all_goals try ((with_reducible show CallR _ _ _ _ _ _ _); refine cR_p zk8 (.cons (.int' rfl) .nil) ?_; simp only [EVT, stepR, evOp, St.ev, St.app, St.put, wrs, evBuiltin, datOf, datOf1, evBin, binInt, evIndexAddr, evFieldAddr, evLoad, cut, frz, allOne, TIS, CS, reduceAdd, reduceMul, reduceEqDiff, ↓reduceIte, reduceCtorEq, reduceLT, reduceLeDiff, Array.reduceGetElem?, Int.reduceToNat, reduceSub, Nat.reduceBEq, ↓zc1, zg1, zg2, ↓zc2, ↓zc3, zg3, ↓zc4, ↓zc5, ↓zc6, ↓zc7, ↓zc8, ↓zc9, ↓zc10, ↓zc11])
              repeat' with_reducible apply And.intro
              all_goals try ((with_reducible show CallR _ _ _ _ _ _ _); refine cR_s zk9 (.cons (.lst _ _ _ (ci_pu .u8) rfl) (.cons (.lst _ _ _ (ci_pu .u8) rfl) .nil)) (.bool _) ?_; simp only [EVT, stepR, evOp, St.ev, St.app, St.put, wrs, evBuiltin, datOf, datOf1, evBin, binInt, evIndexAddr, evFieldAddr, evLoad, cut, frz, allOne, TIS, CS, reduceAdd, reduceMul, reduceEqDiff, ↓reduceIte, reduceCtorEq, reduceLT, reduceLeDiff, Array.reduceGetElem?, Int.reduceToNat, reduceSub, Nat.reduceBEq, ↓zc1, zg1, zg2, ↓zc2, ↓zc3, zg3, ↓zc4, ↓zc5, ↓zc6, ↓zc7, ↓zc8, ↓zc9, ↓zc10, ↓zc11])
              all_goals ((repeat' apply And.intro) <;> first|rfl|assumption|omega|(simp;done)|(simp;omega)|(simp_all;done))
             refine sA_n ?_
             refine a_ret ?_
             obtain rfl := Option.some.inj H
             refine e_r2 (d := ?zd3) ?_ ?_
             rotate_left
             ·simp only [EVT, resR, single, evLoad, cut, TIS, CS, reduceAdd, reduceEqDiff, ↓reduceIte, reduceCtorEq, reduceLT, reduceLeDiff, reduceSub, Nat.reduceBEq, zc1, zg1, zg2, zc2, zc3, zg3, zc4, zc5, zc6, zc7, zc8, zc9, zc10, zc11]
              (repeat' apply And.intro) <;> first | rfl | assumption | omega | (simp; done)
             exact (.bool' (by first | rfl | assumption | (simp_all; done)))
           ·refine a_reg _ rfl (s := ?zs13) ?_ ?_
            rotate_left
            ·simp only [EVT, stepR, evOp, St.ev, St.app, St.put, wrs, evBuiltin, datOf, datOf1, evBin, binInt, evIndexAddr, evFieldAddr, evLoad, cut, frz, allOne, TIS, CS, reduceAdd, reduceMul, reduceEqDiff, ↓reduceIte, reduceCtorEq, reduceLT, reduceLeDiff, Array.reduceGetElem?, Int.reduceToNat, reduceSub, Nat.reduceBEq, ↓zc1, zg1, zg2, ↓zc2, ↓zc3, zg3, ↓zc4, ↓zc5, ↓zc6, ↓zc7, ↓zc8, ↓zc9, ↓zc10]
             try simp only [EVT, stepR, evOp, St.ev, St.app, St.put, wrs, evBuiltin, datOf, datOf1, evBin, binInt, evIndexAddr, evFieldAddr, evLoad, cut, frz, allOne, TIS, CS, reduceAdd, reduceMul, reduceEqDiff, ↓reduceIte, reduceCtorEq, reduceLT, reduceLeDiff, Array.reduceGetElem?, Int.reduceToNat, reduceSub, Nat.reduceBEq, ↓zc1, zg1, zg2, ↓zc2, ↓zc3, zg3, ↓zc4, ↓zc5, ↓zc6, ↓zc7, ↓zc8, ↓zc9, ↓zc10]
             (repeat' apply And.intro) <;> first|rfl|assumption|omega|(simp;done)|(simp;omega)|(simp_all;done)
            refine sA_n ?_
            refine a_ret ?_
            obtain rfl := Option.some.inj H
            refine e_r2 (d := ?zd4) ?_ ?_
            rotate_left
            ·simp only [EVT, resR, single, evLoad, cut, TIS, CS, reduceAdd, reduceEqDiff, ↓reduceIte, reduceCtorEq, reduceLT, reduceLeDiff, reduceSub, Nat.reduceBEq, zc1, zg1, zg2, zc2, zc3, zg3, zc4, zc5, zc6, zc7, zc8, zc9, zc10]
             (repeat' apply And.intro) <;> first | rfl | assumption | omega | (simp; done)
            exact ZZ
          ·refine a_reg _ rfl (s := ?zs14) ?_ ?_
           rotate_left
           ·simp only [EVT, stepR, evOp, St.ev, St.app, St.put, wrs, evBuiltin, datOf, datOf1, evBin, binInt, evIndexAddr, evFieldAddr, evLoad, cut, frz, allOne, TIS, CS, reduceAdd, reduceMul, reduceEqDiff, ↓reduceIte, reduceCtorEq, reduceLT, reduceLeDiff, Array.reduceGetElem?, Int.reduceToNat, reduceSub, Nat.reduceBEq, ↓zc1, zg1, zg2, ↓zc2, ↓zc3, zg3, ↓zc4, ↓zc5, ↓zc6, ↓zc7, ↓zc8, ↓zc9]
            try simp only [EVT, stepR, evOp, St.ev, St.app, St.put, wrs, evBuiltin, datOf, datOf1, evBin, binInt, evIndexAddr, evFieldAddr, evLoad, cut, frz, allOne, TIS, CS, reduceAdd, reduceMul, reduceEqDiff, ↓reduceIte, reduceCtorEq, reduceLT, reduceLeDiff, Array.reduceGetElem?, Int.reduceToNat, reduceSub, Nat.reduceBEq, ↓zc1, zg1, zg2, ↓zc2, ↓zc3, zg3, ↓zc4, ↓zc5, ↓zc6, ↓zc7, ↓zc8, ↓zc9]
            (repeat' apply And.intro) <;> first|rfl|assumption|omega|(simp;done)|(simp;omega)|(simp_all;done)
           refine sA_n ?_
           refine a_ret ?_
           obtain rfl := Option.some.inj H
           refine e_r2 (d := ?zd5) ?_ ?_
           rotate_left
           ·simp only [EVT, resR, single, evLoad, cut, TIS, CS, reduceAdd, reduceEqDiff, ↓reduceIte, reduceCtorEq, reduceLT, reduceLeDiff, reduceSub, Nat.reduceBEq, zc1, zg1, zg2, zc2, zc3, zg3, zc4, zc5, zc6, zc7, zc8, zc9]
            (repeat' apply And.intro) <;> first | rfl | assumption | omega | (simp; done)
           exact ZZ
         ·refine a_reg _ rfl (s := ?zs15) ?_ ?_
          rotate_left
          ·simp only [EVT, stepR, evOp, St.ev, St.app, St.put, wrs, evBuiltin, datOf, datOf1, evBin, binInt, evIndexAddr, evFieldAddr, evLoad, cut, frz, allOne, TIS, CS, reduceAdd, reduceMul, reduceEqDiff, ↓reduceIte, reduceCtorEq, reduceLT, reduceLeDiff, Array.reduceGetElem?, Int.reduceToNat, reduceSub, Nat.reduceBEq, ↓zc1, zg1, zg2, ↓zc2, ↓zc3, zg3, ↓zc4, ↓zc5, ↓zc6, ↓zc7, ↓zc8]
           try simp only [EVT, stepR, evOp, St.ev, St.app, St.put, wrs, evBuiltin, datOf, datOf1, evBin, binInt, evIndexAddr, evFieldAddr, evLoad, cut, frz, allOne, TIS, CS, reduceAdd, reduceMul, reduceEqDiff, ↓reduceIte, reduceCtorEq, reduceLT, reduceLeDiff, Array.reduceGetElem?, Int.reduceToNat, reduceSub, Nat.reduceBEq, ↓zc1, zg1, zg2, ↓zc2, ↓zc3, zg3, ↓zc4, ↓zc5, ↓zc6, ↓zc7, ↓zc8]
           (repeat' apply And.intro) <;> first|rfl|assumption|omega|(simp;done)|(simp;omega)|(simp_all;done)
          refine sA_n ?_
          refine a_ret ?_
          obtain rfl := Option.some.inj H
          refine e_r2 (d := ?zd6) ?_ ?_
          rotate_left
          ·simp only [EVT, resR, single, evLoad, cut, TIS, CS, reduceAdd, reduceEqDiff, ↓reduceIte, reduceCtorEq, reduceLT, reduceLeDiff, reduceSub, Nat.reduceBEq, zc1, zg1, zg2, zc2, zc3, zg3, zc4, zc5, zc6, zc7, zc8]
           (repeat' apply And.intro) <;> first | rfl | assumption | omega | (simp; done)
          exact ZZ
        ·refine a_reg _ rfl (s := ?zs16) ?_ ?_
         rotate_left
         ·simp only [EVT, stepR, evOp, St.ev, St.app, St.put, wrs, evBuiltin, datOf, datOf1, evBin, binInt, evIndexAddr, evFieldAddr, evLoad, cut, frz, allOne, TIS, CS, reduceAdd, reduceMul, reduceEqDiff, ↓reduceIte, reduceCtorEq, reduceLT, reduceLeDiff, Array.reduceGetElem?, Int.reduceToNat, reduceSub, Nat.reduceBEq, ↓zc1, zg1, zg2, ↓zc2, ↓zc3, zg3, ↓zc4, ↓zc5, ↓zc6, ↓zc7]
          try simp only [EVT, stepR, evOp, St.ev, St.app, St.put, wrs, evBuiltin, datOf, datOf1, evBin, binInt, evIndexAddr, evFieldAddr, evLoad, cut, frz, allOne, TIS, CS, reduceAdd, reduceMul, reduceEqDiff, ↓reduceIte, reduceCtorEq, reduceLT, reduceLeDiff, Array.reduceGetElem?, Int.reduceToNat, reduceSub, Nat.reduceBEq, ↓zc1, zg1, zg2, ↓zc2, ↓zc3, zg3, ↓zc4, ↓zc5, ↓zc6, ↓zc7]
          (repeat' apply And.intro) <;> first|rfl|assumption|omega|(simp;done)|(simp;omega)|(simp_all;done)
         refine sA_n ?_
         refine a_ret ?_
         obtain rfl := Option.some.inj H
         refine e_r2 (d := ?zd7) ?_ ?_
         rotate_left
         ·simp only [EVT, resR, single, evLoad, cut, TIS, CS, reduceAdd, reduceEqDiff, ↓reduceIte, reduceCtorEq, reduceLT, reduceLeDiff, reduceSub, Nat.reduceBEq, zc1, zg1, zg2, zc2, zc3, zg3, zc4, zc5, zc6, zc7]
          (repeat' apply And.intro) <;> first | rfl | assumption | omega | (simp; done)
         exact ZZ
       ·refine a_reg _ rfl (s := ?zs17) ?_ ?_
        rotate_left
        ·simp only [EVT, stepR, evOp, St.ev, St.app, St.put, wrs, evBuiltin, datOf, datOf1, evBin, binInt, evIndexAddr, evFieldAddr, evLoad, cut, frz, allOne, TIS, CS, reduceAdd, reduceMul, reduceEqDiff, ↓reduceIte, reduceCtorEq, reduceLT, reduceLeDiff, Array.reduceGetElem?, Int.reduceToNat, reduceSub, Nat.reduceBEq, ↓zc1, zg1, zg2, ↓zc2, ↓zc3, zg3, ↓zc4, ↓zc5, ↓zc6]
         try simp only [EVT, stepR, evOp, St.ev, St.app, St.put, wrs, evBuiltin, datOf, datOf1, evBin, binInt, evIndexAddr, evFieldAddr, evLoad, cut, frz, allOne, TIS, CS, reduceAdd, reduceMul, reduceEqDiff, ↓reduceIte, reduceCtorEq, reduceLT, reduceLeDiff, Array.reduceGetElem?, Int.reduceToNat, reduceSub, Nat.reduceBEq, ↓zc1, zg1, zg2, ↓zc2, ↓zc3, zg3, ↓zc4, ↓zc5, ↓zc6]
         (repeat' apply And.intro) <;> first|rfl|assumption|omega|(simp;done)|(simp;omega)|(simp_all;done)
        refine sA_n ?_
        refine a_ret ?_
        obtain rfl := Option.some.inj H
        refine e_r2 (d := ?zd8) ?_ ?_
        rotate_left
        ·simp only [EVT, resR, single, evLoad, cut, TIS, CS, reduceAdd, reduceEqDiff, ↓reduceIte, reduceCtorEq, reduceLT, reduceLeDiff, reduceSub, Nat.reduceBEq, zc1, zg1, zg2, zc2, zc3, zg3, zc4, zc5, zc6]
         (repeat' apply And.intro) <;> first | rfl | assumption | omega | (simp; done)
        exact ZZ
      ·refine a_reg _ rfl (s := ?zs18) ?_ ?_
       rotate_left
       ·simp only [EVT, stepR, evOp, St.ev, St.app, St.put, wrs, evBuiltin, datOf, datOf1, evBin, binInt, evIndexAddr, evFieldAddr, evLoad, cut, frz, allOne, TIS, CS, reduceAdd, reduceMul, reduceEqDiff, ↓reduceIte, reduceCtorEq, reduceLT, reduceLeDiff, Array.reduceGetElem?, Int.reduceToNat, reduceSub, Nat.reduceBEq, ↓zc1, zg1, zg2, ↓zc2, ↓zc3, zg3, ↓zc4, ↓zc5]
        try simp only [EVT, stepR, evOp, St.ev, St.app, St.put, wrs, evBuiltin, datOf, datOf1, evBin, binInt, evIndexAddr, evFieldAddr, evLoad, cut, frz, allOne, TIS, CS, reduceAdd, reduceMul, reduceEqDiff, ↓reduceIte, reduceCtorEq, reduceLT, reduceLeDiff, Array.reduceGetElem?, Int.reduceToNat, reduceSub, Nat.reduceBEq, ↓zc1, zg1, zg2, ↓zc2, ↓zc3, zg3, ↓zc4, ↓zc5]
        (repeat' apply And.intro) <;> first|rfl|assumption|omega|(simp;done)|(simp;omega)|(simp_all;done)
       refine sA_n ?_
       refine a_ret ?_
       obtain rfl := Option.some.inj H
       refine e_r2 (d := ?zd9) ?_ ?_
       rotate_left
       ·simp only [EVT, resR, single, evLoad, cut, TIS, CS, reduceAdd, reduceEqDiff, ↓reduceIte, reduceCtorEq, reduceLT, reduceLeDiff, reduceSub, Nat.reduceBEq, zc1, zg1, zg2, zc2, zc3, zg3, zc4, zc5]
        (repeat' apply And.intro) <;> first | rfl | assumption | omega | (simp; done)
       exact ZZ
     ·refine a_reg _ rfl (s := ?zs19) ?_ ?_
      rotate_left
      ·simp only [EVT, stepR, evOp, St.ev, St.app, St.put, wrs, evBuiltin, datOf, datOf1, evBin, binInt, evIndexAddr, evFieldAddr, evLoad, cut, frz, allOne, TIS, CS, reduceAdd, reduceMul, reduceEqDiff, ↓reduceIte, reduceCtorEq, reduceLT, reduceLeDiff, Array.reduceGetElem?, Int.reduceToNat, reduceSub, Nat.reduceBEq, ↓zc1, zg1, zg2, ↓zc2, ↓zc3, zg3, ↓zc4]
       try simp only [EVT, stepR, evOp, St.ev, St.app, St.put, wrs, evBuiltin, datOf, datOf1, evBin, binInt, evIndexAddr, evFieldAddr, evLoad, cut, frz, allOne, TIS, CS, reduceAdd, reduceMul, reduceEqDiff, ↓reduceIte, reduceCtorEq, reduceLT, reduceLeDiff, Array.reduceGetElem?, Int.reduceToNat, reduceSub, Nat.reduceBEq, ↓zc1, zg1, zg2, ↓zc2, ↓zc3, zg3, ↓zc4]
       (repeat' apply And.intro) <;> first|rfl|assumption|omega|(simp;done)|(simp;omega)|(simp_all;done)
      refine sA_n ?_
      refine a_ret ?_
      obtain rfl := Option.some.inj H
      refine e_r2 (d := ?zd10) ?_ ?_
      rotate_left
      ·simp only [EVT, resR, single, evLoad, cut, TIS, CS, reduceAdd, reduceEqDiff, ↓reduceIte, reduceCtorEq, reduceLT, reduceLeDiff, reduceSub, Nat.reduceBEq, zc1, zg1, zg2, zc2, zc3, zg3, zc4]
       (repeat' apply And.intro) <;> first | rfl | assumption | omega | (simp; done)
      exact ZZ
    ·refine a_reg _ rfl (s := ?zs20) ?_ ?_
     rotate_left
     ·simp only [EVT, stepR, evOp, St.ev, St.app, St.put, wrs, evBuiltin, datOf, datOf1, evBin, binInt, evIndexAddr, evFieldAddr, evLoad, cut, frz, allOne, TIS, CS, reduceAdd, reduceMul, reduceEqDiff, ↓reduceIte, reduceCtorEq, reduceLT, reduceLeDiff, Array.reduceGetElem?, Int.reduceToNat, reduceSub, Nat.reduceBEq, ↓zc1, zg1, zg2, ↓zc2, ↓zc3]
      try simp only [EVT, stepR, evOp, St.ev, St.app, St.put, wrs, evBuiltin, datOf, datOf1, evBin, binInt, evIndexAddr, evFieldAddr, evLoad, cut, frz, allOne, TIS, CS, reduceAdd, reduceMul, reduceEqDiff, ↓reduceIte, reduceCtorEq, reduceLT, reduceLeDiff, Array.reduceGetElem?, Int.reduceToNat, reduceSub, Nat.reduceBEq, ↓zc1, zg1, zg2, ↓zc2, ↓zc3]
      (repeat' apply And.intro) <;> first|rfl|assumption|omega|(simp;done)|(simp;omega)|(simp_all;done)
     refine sA_n ?_
     refine a_ret ?_
     obtain rfl := Option.some.inj H
     refine e_r2 (d := ?zd11) ?_ ?_
     rotate_left
     ·simp only [EVT, resR, single, evLoad, cut, TIS, CS, reduceAdd, reduceEqDiff, ↓reduceIte, reduceCtorEq, reduceLT, reduceLeDiff, reduceSub, Nat.reduceBEq, zc1, zg1, zg2, zc2, zc3]
      (repeat' apply And.intro) <;> first | rfl | assumption | omega | (simp; done)
     exact ZZ
   ·refine a_reg _ rfl (s := ?zs21) ?_ ?_
    rotate_left
    ·simp only [EVT, stepR, evOp, St.ev, St.app, St.put, wrs, evBuiltin, datOf, datOf1, evBin, binInt, evIndexAddr, evFieldAddr, evLoad, cut, frz, allOne, TIS, CS, reduceAdd, reduceMul, reduceEqDiff, ↓reduceIte, reduceCtorEq, reduceLT, reduceLeDiff, Array.reduceGetElem?, Int.reduceToNat, reduceSub, Nat.reduceBEq, ↓zc1, zg1, zg2, ↓zc2]
     try simp only [EVT, stepR, evOp, St.ev, St.app, St.put, wrs, evBuiltin, datOf, datOf1, evBin, binInt, evIndexAddr, evFieldAddr, evLoad, cut, frz, allOne, TIS, CS, reduceAdd, reduceMul, reduceEqDiff, ↓reduceIte, reduceCtorEq, reduceLT, reduceLeDiff, Array.reduceGetElem?, Int.reduceToNat, reduceSub, Nat.reduceBEq, ↓zc1, zg1, zg2, ↓zc2]
     (repeat' apply And.intro) <;> first|rfl|assumption|omega|(simp;done)|(simp;omega)|(simp_all;done)
    refine sA_n ?_
    refine a_ret ?_
    obtain rfl := Option.some.inj H
    refine e_r2 (d := ?zd12) ?_ ?_
    rotate_left
    ·simp only [EVT, resR, single, evLoad, cut, TIS, CS, reduceAdd, reduceEqDiff, ↓reduceIte, reduceCtorEq, reduceLT, reduceLeDiff, reduceSub, Nat.reduceBEq, zc1, zg1, zg2, zc2]
     (repeat' apply And.intro) <;> first | rfl | assumption | omega | (simp; done)
    exact ZZ
end
end Go.Proofs.YtjflkcfafijhfaaGreat
/- Functions of the program as Lean functions, and that they are so; printed by a program of mine. -/
set_option linter.unusedSimpArgs false
set_option linter.unusedVariables false
set_option maxHeartbeats 4000000
set_option maxRecDepth 20000
namespace Go.Proofs.YtjflkcfafijhfaaGreat
open Go.Ab
open Nat (reduceAdd reduceMul reduceEqDiff reduceLT reduceLeDiff reduceSub)
noncomputable section
def slices_IndexFunc_87_J1 : Option Int :=
 some ((-1))
def slices_IndexFunc_87_L1 (s1 : List Chain) (f1 : Chain → Option Bool) : Nat → Int → Option Int
 | 0, _ => none
 | m_ + 1, v1 => cond (decide (v1 < (s1.length : Int))) ((idx s1 v1).bind fun x1 => (f1 x1).bind fun r1 => cond r1 (some (v1)) (slices_IndexFunc_87_L1 s1 f1 m_ (IntKind.wrap .i64 (v1 + 1)))) (slices_IndexFunc_87_J1)
def slices_IndexFunc_87_f (s1 : List Chain) (f1 : Chain → Option Bool) : Option Int :=
 slices_IndexFunc_87_L1 s1 f1 BIG 0
theorem slices_IndexFunc_87_pc {s1 : List Chain} {f1 : Chain → Option Bool} {f1_F : FuncId} {f1_caps : List Dat} (f1_hp : ∀ (x0_ : Chain) (r : Bool), f1 x0_ = some r → PC Tryz.prog f1_F (.agg (Chain.c x0_) :: f1_caps) (.bool r)) (f1_pu : Pus f1_caps) {r : Int} (H : slices_IndexFunc_87_f s1 f1 = some r) : PC Tryz.prog 87 [.list 3 (s1.map Chain.c), .fn (.func f1_F) [] f1_caps] (.int .i64 r) := by
 refine pcA_of Tryz.func87 (by rfl) (by decide) 19 (by rfl) [.tmp 4] (by rfl) ?_
 unfold slices_IndexFunc_87_f at H
 simp only [ent]
 refine a_srC _ rfl ?_
 refine a_cut (fun s => ∃ (t0 : Nat → Dat), slices_IndexFunc_87_J1 = some r ∧ s = ⟨tl t0 [], hl [], 0, 19⟩) ?_ ?_
 ·refine a_srC _ rfl ?_
  refine a_blk ?_
  refine a_loop (fun m s => ∃ (v1 : Int) (t0 : Nat → Dat), slices_IndexFunc_87_L1 s1 f1 m v1 = some r ∧ s = ⟨tl t0 [(0, .list 3 (s1.map Chain.c)), (1, .fn (.func f1_F) [] f1_caps), (7, .int .i64 (s1.length : Int)), (8, .int .i64 v1)], hl [], 0, 19⟩) BIG ?_ ?_
  ·refine wk_l [] [] [(0, .list 3 (s1.map Chain.c)), (1, .fn (.func f1_F) [] f1_caps), (7, .int .i64 (s1.length : Int)), (8, .int .i64 0)] ND ND ?_ ?_ (fun t0 => ⟨0, t0, H, rfl⟩)
   ·exact trivial
   ·(simp only [AllT, ATT, reduceEqDiff, ↓reduceIte, and_true]); exact ⟨(.lst _ _ _ Chain.pu rfl), (.fn' .nil (RNs.pu f1_pu)), (.int' rfl), (.int' rfl)⟩
  ·rintro m_slices_IndexFunc_87_L1 s ⟨v1, t0, H, rfl⟩
   obtain _ | m_slices_IndexFunc_87_L1 := m_slices_IndexFunc_87_L1
   ·cases (show (none : Option _) = some _ from H)
   ·rw [slices_IndexFunc_87_L1] at H
    refine a_srC _ rfl ?_
    refine a_seq ?_
    refine a_cnd H (fun zc1 H => ?_) (fun zc1 H => ?_)
    ·refine a_skip ?_
     refine sA_n ?_
     refine a_seq ?_
     refine a_blk ?_
     refine a_srC _ rfl ?_
     refine a_seq ?_
     obtain ⟨x1, zh1, H⟩ := bind_some H
     obtain ⟨zg1, zh1a, zh1b⟩ := idx3 (f := Chain.c) zh1
     try simp only [Int.reduceToNat, Int.toNat_natCast] at zg1
     obtain ⟨r1, zh2, H⟩ := bind_some H
     have zk1 := f1_hp _ _ zh2
     refine a_reg _ rfl (s := ?zs6) ?_ ?_
     rotate_left
     ·try refine goS ?_
      repeat' with_reducible apply And.intro
      all_goals try ((with_reducible show CallR _ _ _ _ _ _ _); refine cR_s zk1 (.cons (.agg' (.cons (.int' rfl) (.cons (.int' rfl) (.cons (.lst _ _ _ (ci_pu .i64) rfl) .nil)))) (Pus.purRs f1_pu)) (.bool _) ?_; refine goS ?_)
      all_goals ((repeat' apply And.intro) <;> first|rfl|assumption|omega|(simp;done)|(simp;omega)|(simp_all;done))
     refine sA_n ?_
     refine a_cnd H (fun zc2 H => ?_) (fun zc2 H => ?_)
     ·refine a_srC _ rfl ?_
      exact a_ret (bA_r (sA_r (lA_r (bA_r (cA_r RT)))))
     ·refine a_skip ?_
      refine bA_n ?_
      refine sA_n ?_
      refine a_regC _ rfl ?_
      refine lA_n ?_
      refine wk_l [] [] [(0, .list 3 (s1.map Chain.c)), (1, .fn (.func f1_F) [] f1_caps), (7, .int .i64 (s1.length : Int)), (8, .int .i64 (IntKind.wrap .i64 (v1 + 1)))] ND ND ?_ ?_ (fun t0 => ⟨_, Nat.lt_succ_self _, (IntKind.wrap .i64 (v1 + 1)), t0, H, rfl⟩)
      ·exact trivial
      ·(simp only [AllT, ATT, reduceEqDiff, ↓reduceIte, and_true]); exact ⟨(.lst _ _ _ Chain.pu rfl), (.fn' .nil (RNs.pu f1_pu)), (.int' rfl), (.int' rfl)⟩
    ·refine a_exit ?_
     refine sA_e ?_
     refine lA_e ?_
     refine bA_hit ?_
     refine cA_n ?_
     exact wk_lA [] [] (fun t0 => ⟨t0, H, rfl⟩)
 ·rintro s ⟨t0, H, rfl⟩
  unfold slices_IndexFunc_87_J1 at H
  refine a_srC _ rfl ?_
  refine a_ret ?_
  obtain rfl := Option.some.inj H
  refine e_r2 (d := ?zd1) ?_ ?_
  rotate_left
  ·simp only [EVT, resR, single, evLoad, cut, TIS, CS, reduceAdd, reduceEqDiff, ↓reduceIte, reduceCtorEq, reduceLT, reduceLeDiff, reduceSub, Nat.reduceBEq]
   (repeat' apply And.intro) <;> first | rfl | assumption | omega | (simp; done)
  exact ZZ
def slices_ContainsFunc_f (s1 : List Chain) (f1 : Chain → Option Bool) : Option Bool :=
 (slices_IndexFunc_87_f s1 f1).bind fun r1 => some ((decide (0 ≤ r1)))
theorem slices_ContainsFunc_pc {s1 : List Chain} {f1 : Chain → Option Bool} {f1_F : FuncId} {f1_caps : List Dat} (f1_hp : ∀ (x0_ : Chain) (r : Bool), f1 x0_ = some r → PC Tryz.prog f1_F (.agg (Chain.c x0_) :: f1_caps) (.bool r)) (f1_pu : Pus f1_caps) {r : Bool} (H : slices_ContainsFunc_f s1 f1 = some r) : PC Tryz.prog 41 [.list 3 (s1.map Chain.c), .fn (.func f1_F) [] f1_caps] (.bool r) := by
 refine pcA_of Tryz.func41 (by rfl) (by decide) 9 (by rfl) [.tmp 4] (by rfl) ?_
 unfold slices_ContainsFunc_f at H
 simp only [ent]
 refine a_srC _ rfl ?_
 refine a_seq ?_
 obtain ⟨r1, zh1, H⟩ := bind_some H
 have zk1 := slices_IndexFunc_87_pc (f1 := f1) (f1_F := f1_F) (f1_caps := f1_caps) f1_hp f1_pu zh1
 refine a_reg _ rfl (s := ?zs2) ?_ ?_
 rotate_left
 ·try refine goS ?_
  repeat' with_reducible apply And.intro
  all_goals try ((with_reducible show CallR _ _ _ _ _ _ _); refine cR_s zk1 (.cons (.lst _ _ _ Chain.pu rfl) (.cons (.fn' .nil (Pus.purRs f1_pu)) .nil)) (.int _ _) ?_; refine goS ?_)
  all_goals ((repeat' apply And.intro) <;> first|rfl|assumption|omega|(simp;done)|(simp;omega)|(simp_all;done))
 refine sA_n ?_
 exact a_ret RT
def scrub_Strays_J1 (out1 : List Find) : Option (List Find) :=
 some (out1)
def scrub_Strays_J2 (k_scrub_Strays_L1 : (List Find) → Int → Option (List Find)) (v1 : Int) (out3 : List Find) : Option (List Find) :=
 k_scrub_Strays_L1 out3 (IntKind.wrap .i64 (v1 + 1))
def scrub_Strays_J3 (k_scrub_Strays_L2 : (List Find) → Int → Option (List Find)) (v2 : Int) (out5 : List Find) : Option (List Find) :=
 k_scrub_Strays_L2 out5 (IntKind.wrap .i64 (v2 + 1))
def scrub_Strays_L2 (k_scrub_Strays_L1 : (List Find) → Int → Option (List Find)) (r1 : (List Int)) (l1 : List Chain) (v1 : Int) : Nat → (List Find) → Int → Option (List Find)
 | 0, _, _ => none
 | m_ + 1, out4, v2 => cond (decide (v2 < (r1.length : Int))) ((idx r1 v2).bind fun x2 => (slices_ContainsFunc_f l1 (fun y0_ => scrub_Strays_1_f y0_ x2 v1)).bind fun r2 => cond (!r2) (chk ((out4.length + 1) * 24 ≤ 140737488355328) (scrub_Strays_J3 (scrub_Strays_L2 k_scrub_Strays_L1 r1 l1 v1 m_) v2 (out4 ++ [(⟨x2, v1, 6⟩ : Find)]))) (scrub_Strays_J3 (scrub_Strays_L2 k_scrub_Strays_L1 r1 l1 v1 m_) v2 out4)) (scrub_Strays_J2 k_scrub_Strays_L1 v1 out4)
def scrub_Strays_L1 (disks1 : List Disk) (l1 : List Chain) : Nat → (List Find) → Int → Option (List Find)
 | 0, _, _ => none
 | m_ + 1, out2, v1 => cond (decide (v1 < (disks1.length : Int))) ((idx disks1 v1).bind fun x1 => (chunk_Has_f x1).bind fun r1 => scrub_Strays_L2 (scrub_Strays_L1 disks1 l1 m_) r1 l1 v1 BIG out2 0) (scrub_Strays_J1 out2)
def scrub_Strays_f (disks1 : List Disk) (l1 : List Chain) : Option (List Find) :=
 scrub_Strays_L1 disks1 l1 BIG [] 0
theorem scrub_Strays_pc {disks1 : List Disk} {l1 : List Chain} {r : (List Find)} (H : scrub_Strays_f disks1 l1 = some r) : PC Tryz.prog 9 [.list 3 (disks1.map Disk.c), .list 3 (l1.map Chain.c)] (.list 3 (r.map Find.c)) := by
 refine pcA_of Tryz.func9 (by rfl) (by decide) 39 (by rfl) [.tmp 4] (by rfl) ?_
 unfold scrub_Strays_f at H
 simp only [ent]
 refine a_srC _ rfl ?_
 refine a_srC _ rfl ?_
 refine a_cut (fun s => ∃ (out1 : List Find) (t0 : Nat → Dat), scrub_Strays_J1 out1 = some r ∧ s = ⟨tl t0 [(5, .ref 0 0 out1.length 3)], hl [⟨47, 3, false, out1.map Find.c⟩], 1, 39⟩) ?_ ?_
 ·refine a_srC _ rfl ?_
  refine a_blk ?_
  refine a_loop (fun m s => ∃ (out2 : List Find) (v1 : Int) (t0 : Nat → Dat), scrub_Strays_L1 disks1 l1 m out2 v1 = some r ∧ s = ⟨tl t0 [(1, .list 3 (l1.map Chain.c)), (5, .ref 0 0 out2.length 3), (11, .list 3 (disks1.map Disk.c)), (12, .int .i64 (disks1.length : Int)), (13, .int .i64 v1)], hl [⟨47, 3, false, out2.map Find.c⟩], 1, 39⟩) BIG ?_ ?_
  ·exact wk_lA [(none, _)] [] (fun t0 => ⟨[], 0, t0, H, rfl⟩)
  ·rintro m_scrub_Strays_L1 s ⟨out2, v1, t0, H, rfl⟩
   obtain _ | m_scrub_Strays_L1 := m_scrub_Strays_L1
   ·cases (show (none : Option _) = some _ from H)
   ·rw [scrub_Strays_L1] at H
    refine a_srC _ rfl ?_
    refine a_seq ?_
    refine a_cnd H (fun zc1 H => ?_) (fun zc1 H => ?_)
    ·refine a_skip ?_
     refine sA_n ?_
     refine a_cut (fun s => ∃ (out3 : List Find) (t0 : Nat → Dat), scrub_Strays_J2 (scrub_Strays_L1 disks1 l1 m_scrub_Strays_L1) v1 out3 = some r ∧ s = ⟨tl t0 [(1, .list 3 (l1.map Chain.c)), (5, .ref 0 0 out3.length 3), (11, .list 3 (disks1.map Disk.c)), (12, .int .i64 (disks1.length : Int)), (13, .int .i64 v1)], hl [⟨47, 3, false, out3.map Find.c⟩], 1, 39⟩) ?_ ?_
     ·refine a_blk ?_
      refine a_seq ?_
      obtain ⟨x1, zh1, H⟩ := bind_some H
      obtain ⟨zg1, zh1a, zh1b⟩ := idx3 (f := Disk.c) zh1
      try simp only [Int.reduceToNat, Int.toNat_natCast] at zg1
      refine a_regC _ rfl ?_
      refine sA_n ?_
      refine a_seq ?_
      obtain ⟨r1, zh2, H⟩ := bind_some H
      have zk1 := chunk_Has_pc zh2
      refine a_regK _ rfl ?_
      refine sA_n ?_
      refine a_blk ?_
      refine a_loop (fun m s => ∃ (out4 : List Find) (v2 : Int) (t0 : Nat → Dat), scrub_Strays_L2 (scrub_Strays_L1 disks1 l1 m_scrub_Strays_L1) r1 l1 v1 m out4 v2 = some r ∧ s = ⟨tl t0 [(1, .list 3 (l1.map Chain.c)), (5, .ref 0 0 out4.length 3), (6, .ptr 1 0 0 1), (11, .list 3 (disks1.map Disk.c)), (12, .int .i64 (disks1.length : Int)), (13, .int .i64 v1), (19, .list 1 (r1.map (ci .i64))), (20, .int .i64 (r1.length : Int)), (21, .int .i64 v2)], hl [⟨47, 3, false, out4.map Find.c⟩, ⟨3, 1, false, [[.int .i64 v1]]⟩], 2, 39⟩) BIG ?_ ?_
      ·exact wk_lA [(some 0, _), (some 12, _)] [] (fun t0 => ⟨out2, 0, t0, H, rfl⟩)
      ·rintro m_scrub_Strays_L2 s ⟨out4, v2, t0, H, rfl⟩
       obtain _ | m_scrub_Strays_L2 := m_scrub_Strays_L2
       ·cases (show (none : Option _) = some _ from H)
       ·rw [scrub_Strays_L2] at H
        refine a_srC _ rfl ?_
        refine a_seq ?_
        refine a_cnd H (fun zc2 H => ?_) (fun zc2 H => ?_)
        ·refine a_skip ?_
         refine sA_n ?_
         refine a_cut (fun s => ∃ (out5 : List Find) (t0 : Nat → Dat), scrub_Strays_J3 (scrub_Strays_L2 (scrub_Strays_L1 disks1 l1 m_scrub_Strays_L1) r1 l1 v1 m_scrub_Strays_L2) v2 out5 = some r ∧ s = ⟨tl t0 [(1, .list 3 (l1.map Chain.c)), (5, .ref 0 0 out5.length 3), (6, .ptr 1 0 0 1), (11, .list 3 (disks1.map Disk.c)), (12, .int .i64 (disks1.length : Int)), (13, .int .i64 v1), (19, .list 1 (r1.map (ci .i64))), (20, .int .i64 (r1.length : Int)), (21, .int .i64 v2)], hl [⟨47, 3, false, out5.map Find.c⟩, ⟨3, 1, false, [[.int .i64 v1]]⟩], 2, 39⟩) ?_ ?_
         ·refine a_blk ?_
          refine a_seq ?_
          obtain ⟨x2, zh3, H⟩ := bind_some H
          obtain ⟨zg2, zh3a, zh3b⟩ := idx3 (f := (ci .i64)) zh3
          try simp only [Int.reduceToNat, Int.toNat_natCast] at zg2
          refine a_regC _ rfl ?_
          refine sA_n ?_
          refine a_srC _ rfl ?_
          refine a_seq ?_
          obtain ⟨r2, zh4, H⟩ := bind_some H
          have zk2 := slices_ContainsFunc_pc (f1 := (fun y0_ => scrub_Strays_1_f y0_ x2 v1)) (f1_F := 40) (f1_caps := [.rop ((ci .i64) x2) 0 1, .rop ((ci .i64) v1) 0 1]) (fun _ _ h => scrub_Strays_1_pc h) (.cons (.rop _ _ _ ((ci_pu .i64) _)) (.cons (.rop _ _ _ ((ci_pu .i64) _)) .nil)) zh4
          refine a_regK _ rfl ?_
          refine sA_n ?_
          refine a_cnd H (fun zc3 H => ?_) (fun zc3 H => ?_)
          ·obtain ⟨zh5, H⟩ := chk_some H
           refine a_regC _ rfl ?_
           refine bA_n ?_
           refine cA_n ?_
           exact wk_lA [(some 95, _), (some 1, _)] [] (fun t0 => ⟨(out4 ++ [(⟨x2, v1, 6⟩ : Find)]), t0, H, rfl⟩)
          ·refine a_skip ?_
           refine bA_n ?_
           refine cA_n ?_
           exact wk_lA [(some 0, _), (some 1, _)] [] (fun t0 => ⟨out4, t0, H, rfl⟩)
         ·rintro s ⟨out5, t0, H, rfl⟩
          unfold scrub_Strays_J3 at H
          refine a_regC _ rfl ?_
          refine lA_n ?_
          exact wk_lA [(some 0, _), (some 1, _)] [] (fun t0 => ⟨_, Nat.lt_succ_self _, out5, (IntKind.wrap .i64 (v2 + 1)), t0, H, rfl⟩)
        ·refine a_exit ?_
         refine sA_e ?_
         refine lA_e ?_
         refine bA_hit ?_
         refine bA_n ?_
         refine cA_n ?_
         exact wk_lA [(some 0, _)] [] (fun t0 => ⟨out4, t0, H, rfl⟩)
     ·rintro s ⟨out3, t0, H, rfl⟩
      unfold scrub_Strays_J2 at H
      refine a_regC _ rfl ?_
      refine lA_n ?_
      exact wk_lA [(some 0, _)] [] (fun t0 => ⟨_, Nat.lt_succ_self _, out3, (IntKind.wrap .i64 (v1 + 1)), t0, H, rfl⟩)
    ·refine a_exit ?_
     refine sA_e ?_
     refine lA_e ?_
     refine bA_hit ?_
     refine cA_n ?_
     exact wk_lA [(some 0, _)] [] (fun t0 => ⟨out2, t0, H, rfl⟩)
 ·rintro s ⟨out1, t0, H, rfl⟩
  unfold scrub_Strays_J1 at H
  refine a_srC _ rfl ?_
  exact a_ret RT
def ref27_SameFinds_J1 : Option Bool :=
 some (true)
def ref27_SameFinds_L1 (a1 : List Find) (b1 : List Find) : Nat → Int → Option Bool
 | 0, _ => none
 | m_ + 1, i1 => cond (decide (i1 < (a1.length : Int))) ((idx a1 i1).bind fun x1 => (idx b1 i1).bind fun x2 => cond (!((x1.id == x2.id) && (x1.server == x2.server) && (x1.what == x2.what))) (some (false)) (ref27_SameFinds_L1 a1 b1 m_ (IntKind.wrap .i64 (i1 + 1)))) (ref27_SameFinds_J1)
def ref27_SameFinds_f (a1 : List Find) (b1 : List Find) : Option Bool :=
 cond ((a1.length : Int) != (b1.length : Int)) (some (false)) (ref27_SameFinds_L1 a1 b1 BIG 0)
theorem ref27_SameFinds_pc {a1 : List Find} {b1 : List Find} {r : Bool} (H : ref27_SameFinds_f a1 b1 = some r) : PC Tryz.prog 11 [.list 3 (a1.map Find.c), .list 3 (b1.map Find.c)] (.bool r) := by
 refine pcA_of Tryz.func11 (by rfl) (by decide) 26 (by rfl) [.tmp 4] (by rfl) ?_
 unfold ref27_SameFinds_f at H
 simp only [ent]
 refine a_srC _ rfl ?_
 refine a_seq ?_
 refine a_srC _ rfl ?_
 refine a_cnd H (fun zc1 H => ?_) (fun zc1 H => ?_)
 ·refine a_srC _ rfl ?_
  exact a_ret (sA_r RT)
 ·refine a_skip ?_
  refine sA_n ?_
  refine a_cut (fun s => ∃ (t0 : Nat → Dat), ref27_SameFinds_J1 = some r ∧ s = ⟨tl t0 [], hl [], 0, 26⟩) ?_ ?_
  ·refine a_srC _ rfl ?_
   refine a_blk ?_
   refine a_loop (fun m s => ∃ (i1 : Int) (t0 : Nat → Dat), ref27_SameFinds_L1 a1 b1 m i1 = some r ∧ s = ⟨tl t0 [(0, .list 3 (a1.map Find.c)), (1, .list 3 (b1.map Find.c)), (5, .int .i64 i1)], hl [], 0, 26⟩) BIG ?_ ?_
   ·exact wk_lA [] [] (fun t0 => ⟨0, t0, H, rfl⟩)
   ·rintro m_ref27_SameFinds_L1 s ⟨i1, t0, H, rfl⟩
    obtain _ | m_ref27_SameFinds_L1 := m_ref27_SameFinds_L1
    ·cases (show (none : Option _) = some _ from H)
    ·rw [ref27_SameFinds_L1] at H
     refine a_seq ?_
     refine a_srC _ rfl ?_
     refine a_cnd H (fun zc2 H => ?_) (fun zc2 H => ?_)
     ·refine a_skip ?_
      refine sA_n ?_
      refine a_seq ?_
      refine a_blk ?_
      refine a_seq ?_
      obtain ⟨x1, zh1, H⟩ := bind_some H
      obtain ⟨zg1, zh1a, zh1b⟩ := idx3 (f := Find.c) zh1
      try simp only [Int.reduceToNat, Int.toNat_natCast] at zg1
      obtain ⟨x2, zh2, H⟩ := bind_some H
      obtain ⟨zg2, zh2a, zh2b⟩ := idx3 (f := Find.c) zh2
      try simp only [Int.reduceToNat, Int.toNat_natCast] at zg2
      refine a_drW (by kernel_rfl) _ rfl (s := ?zs7) (by kernel_rfl) (by kernel_rfl) ?zs7f ?_ ?_ ?_
      rotate_left 2
      ·try refine goS ?_
       repeat' with_reducible apply And.intro
       all_goals try ((with_reducible show OthW _ _ _ _ _); refine oth_rowsW (us := [(.i64, x1.id), (.i64, x1.server), (.i64, x1.what)]) (vs := [(.i64, x2.id), (.i64, x2.server), (.i64, x2.what)]) rfl rfl rfl (by kernel_rfl) (fun w => neq47 _ _ _ _ _ _ w) ?_; refine goS ?_)
       all_goals exact CLS
      ·kernel_rfl
      refine sA_n ?_
      refine a_cnd H (fun zc3 H => ?_) (fun zc3 H => ?_)
      ·refine a_srC _ rfl ?_
       refine a_ret ?_
       refine bA_r ?_
       refine sA_r ?_
       refine lA_r ?_
       refine bA_r ?_
       refine cA_r ?_
       obtain rfl := Option.some.inj H
       refine e_r2 (d := ?zd3) ?_ ?_
       rotate_left
       ·simp only [EVT, resR, single, evLoad, cut, TIS, CS, reduceAdd, reduceEqDiff, ↓reduceIte, reduceCtorEq, reduceLT, reduceLeDiff, reduceSub, Nat.reduceBEq, zc2, zg1, zg2, zc3]
        (repeat' apply And.intro) <;> first | rfl | assumption | omega | (simp; done)
       exact ZZ
      ·refine a_skip ?_
       refine bA_n ?_
       refine sA_n ?_
       refine a_regC _ rfl ?_
       refine lA_n ?_
       exact wk_lA [] [] (fun t0 => ⟨_, Nat.lt_succ_self _, (IntKind.wrap .i64 (i1 + 1)), t0, H, rfl⟩)
     ·refine a_exit ?_
      refine sA_e ?_
      refine lA_e ?_
      refine bA_hit ?_
      refine cA_n ?_
      exact wk_lA [] [] (fun t0 => ⟨t0, H, rfl⟩)
  ·rintro s ⟨t0, H, rfl⟩
   unfold ref27_SameFinds_J1 at H
   refine a_srC _ rfl ?_
   refine a_ret ?_
   obtain rfl := Option.some.inj H
   refine e_r2 (d := ?zd2) ?_ ?_
   rotate_left
   ·simp only [EVT, resR, single, evLoad, cut, TIS, CS, reduceAdd, reduceEqDiff, ↓reduceIte, reduceCtorEq, reduceLT, reduceLeDiff, reduceSub, Nat.reduceBEq]
    (repeat' apply And.intro) <;> first | rfl | assumption | omega | (simp; done)
   exact ZZ
def chunk_Lose_f (d1 : Disk) (id1 : Int) : Option (Disk × Int) :=
 (chunk_there_f d1 id1).bind fun r1 => cond (r1.2 != 0) (some (d1, r1.2)) ((disk_Write_f d1 id1 []).bind fun r2 => some (r2.1, r2.2))
theorem chunk_Lose_pc {d1 : Disk} {id1 : Int} {r : Disk × Int} (H : chunk_Lose_f d1 id1 = some r) : PC Tryz.prog 50 [.agg (Disk.c d1), .int .i64 id1] (.tup [.agg (Disk.c r.1), .int .i64 r.2]) := by
 refine pcA_of Tryz.func50 (by rfl) (by decide) 23 (by rfl) [.cell 4 44, .tmp 5] (by rfl) ?_
 unfold chunk_Lose_f at H
 simp only [ent]
 refine a_srC _ rfl ?_
 refine a_seq ?_
 refine a_seq ?_
 obtain ⟨r1, zh1, H⟩ := bind_some H
 have zk1 := chunk_there_pc zh1
 refine a_regK _ rfl ?_
 refine sA_n ?_
 refine a_srC _ rfl ?_
 refine a_cnd H (fun zc1 H => ?_) (fun zc1 H => ?_)
 ·refine a_srC _ rfl ?_
  exact a_ret (sA_r RT)
 ·refine a_skip ?_
  refine sA_n ?_
  refine a_seq ?_
  obtain ⟨r2, zh2, H⟩ := bind_some H
  have zk2 := disk_Write_pc zh2
  refine a_regK _ rfl ?_
  refine sA_n ?_
  refine a_ret ?_
  obtain rfl := Option.some.inj H
  refine e_r2 (d := ?zd2) ?_ ?_
  rotate_left
  ·simp only [EVT, resR, single, evLoad, cut, TIS, CS, reduceAdd, reduceEqDiff, ↓reduceIte, reduceCtorEq, reduceLT, reduceLeDiff, reduceSub, Nat.reduceBEq, zc1]
   (repeat' apply And.intro) <;> first | rfl | assumption | omega | (simp; done)
  exact ZZ
def scrub_Clean_1_f (d1 : Disk) (v1 : Find) : Option (Disk × Int) :=
 (chunk_Lose_f d1 v1.id).bind fun r1 => some (r1.1, r1.2)
theorem scrub_Clean_1_pc {d1 : Disk} {v1 : Find} {r : Disk × Int} (H : scrub_Clean_1_f d1 v1 = some r) : PC Tryz.prog 49 [.agg (Disk.c d1), .rop (Find.c v1) 0 3] (.tup [.agg (Disk.c r.1), .int .i64 r.2]) := by
 refine pcA_of Tryz.func49 (by rfl) (by decide) 11 (by rfl) [.cell 3 44, .tmp 4] (by rfl) ?_
 unfold scrub_Clean_1_f at H
 simp only [ent]
 refine a_srC _ rfl ?_
 refine a_seq ?_
 obtain ⟨r1, zh1, H⟩ := bind_some H
 have zk1 := chunk_Lose_pc zh1
 refine a_regK _ rfl ?_
 refine sA_n ?_
 exact a_ret RT
def scrub_Clean_f (disks1 : List Disk) (f1 : Find) : Option ((List Disk) × Int) :=
 (scrub_there_f disks1 f1.server).bind fun r1 => cond (!r1) (some (disks1, 1)) ((scrub_turn_f disks1 f1.server (fun y0_ => scrub_Clean_1_f y0_ f1)).bind fun r2 => some (r2.1, r2.2))
theorem scrub_Clean_pc {disks1 : List Disk} {f1 : Find} {r : (List Disk) × Int} (H : scrub_Clean_f disks1 f1 = some r) : PC Tryz.prog 12 [.list 3 (disks1.map Disk.c), .agg (Find.c f1)] (.tup [.list 3 (r.1.map Disk.c), .int .i64 r.2]) := by
 refine pcA_of Tryz.func12 (by rfl) (by decide) 19 (by rfl) [.tmp 4, .tmp 5] (by rfl) ?_
 unfold scrub_Clean_f at H
 simp only [ent]
 refine a_srC _ rfl ?_
 refine a_seq ?_
 refine a_seq ?_
 obtain ⟨r1, zh1, H⟩ := bind_some H
 have zk1 := scrub_there_pc zh1
 refine a_regK _ rfl ?_
 refine sA_n ?_
 refine a_cnd H (fun zc1 H => ?_) (fun zc1 H => ?_)
 ·refine a_srC _ rfl ?_
  exact a_ret (sA_r RT)
 ·refine a_skip ?_
  refine sA_n ?_
  refine a_seq ?_
  obtain ⟨r2, zh2, H⟩ := bind_some H
  have zk2 := scrub_turn_pc (how1 := (fun y0_ => scrub_Clean_1_f y0_ f1)) (how1_F := 49) (how1_caps := [.rop (Find.c f1) 0 3]) (fun _ _ h => scrub_Clean_1_pc h) (.cons (.rop _ _ _ (Find.pu _)) .nil) zh2
  refine a_reg _ rfl (s := ?zs4) ?_ ?_
  rotate_left
  ·try refine goS ?_
   repeat' with_reducible apply And.intro
   all_goals try ((with_reducible show CallR _ _ _ _ _ _ _); refine cR_f [0] zk2 (.cons (.lst _ _ _ Disk.pu rfl) (.cons (.int' rfl) (.cons (.fn' .nil (.cons (.box ((wrs_frz _ _ _ 0).trans (by rfl)) (fun _ => rfl) rfl rfl (.cons (.int' rfl) (.cons (.int' rfl) (.cons (.int' rfl) .nil)))) .nil)) .nil))) ?_; refine goS ?_)
   all_goals ((repeat' apply And.intro) <;> first|rfl|assumption|omega|(simp;done)|(simp;omega)|(simp_all;done))
  refine sA_n ?_
  refine a_ret ?_
  obtain rfl := Option.some.inj H
  refine e_r2 (d := ?zd2) ?_ ?_
  rotate_left
  ·simp only [EVT, resR, single, evLoad, cut, TIS, CS, reduceAdd, reduceEqDiff, ↓reduceIte, reduceCtorEq, reduceLT, reduceLeDiff, reduceSub, Nat.reduceBEq, zc1]
   (repeat' apply And.intro) <;> first | rfl | assumption | omega | (simp; done)
  exact ZZ
def chain_Mend_J1 (c1 : Chain) (disks1 : List Disk) (server1 : Int) (v1 : Bool) : Option (Chain × (List Disk) × Int) :=
 cond v1 (some (c1, disks1, 1)) (cond (decide (5 ≤ (c1.servers.length : Int))) (some (c1, disks1, 76)) ((idx disks1 server1).bind fun x1 => cond x1.down (some (c1, disks1, 40)) ((chain_Read_f c1 disks1).bind fun r1 => cond (r1.2 != 0) (some (c1, disks1, r1.2)) ((chain_laying_f c1 disks1 r1.1).bind fun r2 => (chain_laying_1_f server1 r2 c1 r1.1).bind fun r3 => chk (r3.length = r2.length) ((slices_Clone_f c1.servers).bind fun r4 => chk ((r4.length + 1) * 8 ≤ 140737488355328) (some ((⟨c1.id, c1.ver, (r4 ++ [server1])⟩ : Chain), r3, 0)))))))
def chain_Mend_f (c1 : Chain) (disks1 : List Disk) (server1 : Int) : Option (Chain × (List Disk) × Int) :=
 cond (decide (server1 < 0)) (chain_Mend_J1 c1 disks1 server1 true) (cond (decide ((disks1.length : Int) ≤ server1)) (chain_Mend_J1 c1 disks1 server1 true) ((slices_Contains_f c1.servers server1).bind fun r5 => chain_Mend_J1 c1 disks1 server1 r5))
theorem chain_Mend_pc {c1 : Chain} {disks1 : List Disk} {server1 : Int} {r : Chain × (List Disk) × Int} (H : chain_Mend_f c1 disks1 server1 = some r) : PC Tryz.prog 15 [.agg (Chain.c c1), .list 3 (disks1.map Disk.c), .int .i64 server1] (.tup [.agg (Chain.c r.1), .list 3 (r.2.1.map Disk.c), .int .i64 r.2.2]) := by
 refine pcA_of Tryz.func15 (by rfl) (by decide) 75 (by rfl) [.cell 6 30, .tmp 7, .tmp 8] (by rfl) ?_
 unfold chain_Mend_f at H
 simp only [ent]
 refine a_srC _ rfl ?_
 refine a_seq ?_
 refine a_blk ?_
 refine a_cut (fun s => ∃ (v1 : Bool) (t0 : Nat → Dat), chain_Mend_J1 c1 disks1 server1 v1 = some r ∧ s = ⟨tl t0 [(1, .list 3 (disks1.map Disk.c)), (2, .int .i64 server1), (3, .ptr 0 0 0 3), (6, .ptr 1 0 0 3), (13, .bool v1)], hl [⟨30, 3, false, [Chain.c c1]⟩, ⟨30, 3, false, [[.int .i64 0, .int .i64 0, .nil]]⟩], 2, 75⟩) ?_ ?_
 ·refine cnd H (fun zc5 H => ?_) (fun zc5 H => ?_)
  ·refine a_regC _ rfl ?_
   refine cA_n ?_
   exact wk_lA [(some 0, _), (some 1, _)] [] (fun t0 => ⟨true, t0, H, rfl⟩)
  ·refine cnd H (fun zc6 H => ?_) (fun zc6 H => ?_)
   ·refine a_regC _ rfl ?_
    refine cA_n ?_
    exact wk_lA [(some 0, _), (some 1, _)] [] (fun t0 => ⟨true, t0, H, rfl⟩)
   ·obtain ⟨r5, zh8, H⟩ := bind_some H
    have zk5 := slices_Contains_pc zh8
    refine a_regK _ rfl ?_
    refine cA_n ?_
    exact wk_lA [(some 0, _), (some 1, _)] [] (fun t0 => ⟨r5, t0, H, rfl⟩)
 ·rintro s ⟨v1, t0, H, rfl⟩
  unfold chain_Mend_J1 at H
  refine a_cnd H (fun zc1 H => ?_) (fun zc1 H => ?_)
  ·refine a_srC _ rfl ?_
   exact a_ret (bA_r (sA_r RT))
  ·refine a_srC _ rfl ?_
   refine a_cnd H (fun zc2 H => ?_) (fun zc2 H => ?_)
   ·refine a_srC _ rfl ?_
    refine a_ret ?_
    refine bA_r ?_
    refine sA_r ?_
    obtain rfl := Option.some.inj H
    refine e_r2 (d := ?zd2) ?_ ?_
    rotate_left
    ·simp only [EVT, resR, single, evLoad, cut, TIS, CS, reduceAdd, reduceEqDiff, ↓reduceIte, reduceCtorEq, reduceLT, reduceLeDiff, reduceSub, Nat.reduceBEq, zc1, zc2]
     (repeat' apply And.intro) <;> first | rfl | assumption | omega | (simp; done)
    exact ZZ
   ·refine a_seq ?_
    obtain ⟨x1, zh1, H⟩ := bind_some H
    obtain ⟨zg1, zh1a, zh1b⟩ := idx3 (f := Disk.c) zh1
    try simp only [Int.reduceToNat, Int.toNat_natCast] at zg1
    refine a_regC _ rfl ?_
    refine sA_n ?_
    refine a_cnd H (fun zc3 H => ?_) (fun zc3 H => ?_)
    ·refine a_srC _ rfl ?_
     refine a_ret ?_
     refine bA_r ?_
     refine sA_r ?_
     obtain rfl := Option.some.inj H
     refine e_r2 (d := ?zd3) ?_ ?_
     rotate_left
     ·simp only [EVT, resR, single, evLoad, cut, TIS, CS, reduceAdd, reduceEqDiff, ↓reduceIte, reduceCtorEq, reduceLT, reduceLeDiff, reduceSub, Nat.reduceBEq, zc1, zc2, zg1, zc3]
      (repeat' apply And.intro) <;> first | rfl | assumption | omega | (simp; done)
     exact ZZ
    ·refine a_skip ?_
     refine bA_n ?_
     refine sA_n ?_
     refine a_seq ?_
     obtain ⟨r1, zh2, H⟩ := bind_some H
     have zk1 := chain_Read_pc zh2
     refine a_regK _ rfl ?_
     refine sA_n ?_
     refine a_seq ?_
     refine a_srC _ rfl ?_
     refine a_cnd H (fun zc4 H => ?_) (fun zc4 H => ?_)
     ·refine a_srC _ rfl ?_
      refine a_ret ?_
      refine sA_r ?_
      obtain rfl := Option.some.inj H
      refine e_r2 (d := ?zd4) ?_ ?_
      rotate_left
      ·simp only [EVT, resR, single, evLoad, cut, TIS, CS, reduceAdd, reduceEqDiff, ↓reduceIte, reduceCtorEq, reduceLT, reduceLeDiff, reduceSub, Nat.reduceBEq, zc1, zc2, zg1, zc3, zc4]
       (repeat' apply And.intro) <;> first | rfl | assumption | omega | (simp; done)
      exact ZZ
     ·refine a_skip ?_
      refine sA_n ?_
      refine a_seq ?_
      obtain ⟨r2, zh3, H⟩ := bind_some H
      have zk2 := chain_laying_rc zh3
      refine a_reg _ rfl (s := ?zs10) ?_ ?_
      rotate_left
      ·try refine goS ?_
       repeat' with_reducible apply And.intro
       all_goals try ((with_reducible show CallR _ _ _ _ _ _ _); refine callR_rcw (r' := .tup [.ref 173 0 r2.length 3, .fn (.func 84) [] [.rop [.ref 173 0 r2.length 3] 0 1, .rop [.int .i64 c1.id, .int .i64 c1.ver, .list 1 (c1.servers.map (ci .i64))] 0 3, .rop [.list 1 (r1.1.map (ci .u8))] 0 1]]) [(173, some ⟨44, 3, false, r2.map Disk.c⟩)] [] [] [(173, 0, _)] EQA zk2 (by simp) ND ZZ ZZ ND ND ZZ ZZ ?_; refine goS ?_)
       all_goals ((repeat' apply And.intro) <;> first|rfl|assumption|omega|(simp;done)|(simp;omega)|(simp_all;done))
      refine sA_n ?_
      refine a_seq ?_
      obtain ⟨r3, zh4, H⟩ := bind_some H
      have zk3 := chain_laying_1_rc zh4
      obtain ⟨zh5, H⟩ := chk_some H
      refine a_reg _ rfl (s := ?zs11) ?_ ?_
      rotate_left
      ·try refine goS ?_
       repeat' with_reducible apply And.intro
       all_goals try ((with_reducible show CallR _ _ _ _ _ _ _); refine callR_rcw (r' := .tup []) [(173, none), (173, some ⟨44, 3, false, r3.map Disk.c⟩)] [(some 173, _)] [] [(173, 0, _)] EQA zk3 (by simp) ND ZZ ZZ ND ND ZZ ZZ ?_; refine goS ?_)
       all_goals ((repeat' apply And.intro) <;> first|rfl|assumption|omega|(simp;done)|(simp;omega)|(simp_all;done))
      refine sA_n ?_
      refine a_seq ?_
      obtain ⟨r4, zh6, H⟩ := bind_some H
      have zk4 := slices_Clone_rc zh6
      obtain ⟨zh7, H⟩ := chk_some H
      refine a_reg _ rfl (s := ?zs12) ?_ ?_
      rotate_left
      ·try refine goS ?_
       repeat' with_reducible apply And.intro
       all_goals try ((with_reducible show CallR _ _ _ _ _ _ _); refine callR_ownm (l := r4) (c := (ci .i64)) [] zk4 (ci_sc .i64) (.cons (.lst _ _ _ (ci_pu .i64) rfl) .nil) ?_; refine goS ?_)
       all_goals ((repeat' apply And.intro) <;> first|rfl|assumption|omega|(simp;done)|(simp;omega)|(simp_all;done))
      refine sA_n ?_
      refine a_srC _ rfl ?_
      refine a_ret ?_
      obtain rfl := Option.some.inj H
      refine e_r2 (d := ?zd5) ?_ ?_
      rotate_left
      ·simp only [EVT, resR, single, evLoad, cut, TIS, CS, reduceAdd, reduceEqDiff, ↓reduceIte, reduceCtorEq, reduceLT, reduceLeDiff, reduceSub, Nat.reduceBEq, zc1, zc2, zg1, zc3, zc4]
       (repeat' apply And.intro) <;> first | rfl | assumption | omega | (simp; done)
      exact ZZ
def top_TopStrayed_J4 (r4 : Chain × (List Disk) × Int) (r7 : (List Disk) × Int) (x2 : Int) (r1 : Bool) (data1 : List Int) (v4 : Bool) : Option Bool :=
 cond v4 (some (false)) ((chain_Read_f r4.1 r7.1).bind fun r8 => (chain_Mend_f r4.1 r7.1 x2).bind fun r9 => (chain_Read_f r9.1 r9.2.1).bind fun r10 => cond r1 (cond (r8.2 == 0) ((ref02_Bytes_f r8.1 data1).bind fun r11 => cond r11 (cond (r9.2.2 == 0) (cond (r10.2 == 0) ((ref02_Bytes_f r10.1 data1).bind fun r12 => cond r12 ((scrub_Look_f r9.2.1 r9.1).bind fun r13 => cond ((((r13.length : Nat)) : Int) == 0) ((scrub_Strays_f r9.2.1 [r9.1]).bind fun r14 => some (((r14.length : Int) == 0) && ((r9.1.servers.length : Int) == 3))) (some (false))) (some (false))) (some (false))) (some (false))) (some (false))) (some (false))) (some (false)))
def top_TopStrayed_J3 (r5 : (List Find)) (r4 : Chain × (List Disk) × Int) (x2 : Int) (r1 : Bool) (data1 : List Int) (n1 : Int) (v3 : Bool) : Option Bool :=
 cond v3 (some (false)) ((idx r5 0).bind fun x4 => (scrub_Clean_f r4.2.1 x4).bind fun r7 => cond (r7.2 != 0) (top_TopStrayed_J4 r4 r7 x2 r1 data1 true) (cond ((r7.1.length : Int) != n1) (top_TopStrayed_J4 r4 r7 x2 r1 data1 true) ((scrub_Strays_f r7.1 [r4.1]).bind fun r15 => cond (decide (0 < (r15.length : Int))) (top_TopStrayed_J4 r4 r7 x2 r1 data1 true) ((idx r7.1 x2).bind fun x5 => (chunk_Has_f x5).bind fun r16 => top_TopStrayed_J4 r4 r7 x2 r1 data1 (decide (0 < (r16.length : Int)))))))
def top_TopStrayed_J2 (r4 : Chain × (List Disk) × Int) (x2 : Int) (r1 : Bool) (data1 : List Int) (n1 : Int) (v2 : Bool) : Option Bool :=
 cond v2 (some (false)) ((scrub_Strays_f r4.2.1 [r4.1]).bind fun r5 => (idx r4.2.1 x2).bind fun x3 => (chunk_Get_f x3 r4.1.id).bind fun r6 => (ref27_SameFinds_f r5 [(⟨r4.1.id, x2, 6⟩ : Find)]).bind fun r17 => top_TopStrayed_J3 r5 r4 x2 r1 data1 n1 ((!r17) || ((r6.2 != 0) || (decide (r4.1.ver ≤ r6.1.ver)))))
def top_TopStrayed_J1 (r1 : Bool) (r2 : (List Disk) × (List Chain) × Bool) (which1 : Int) (data1 : List Int) (n1 : Int) (v1 : Bool) : Option Bool :=
 cond v1 (cond r1 (some (r2.2.2)) (some (false))) ((idx r2.2.1 0).bind fun x1 => (idx x1.servers (Int.tmod (IntKind.wrap .i64 which1) 3)).bind fun x2 => (chain_Write_f x1 r2.1 data1 3).bind fun r3 => (chain_Cut_f x1 r3.1 x2).bind fun r4 => top_TopStrayed_J2 r4 x2 r1 data1 n1 ((!r3.2) || ((r4.2.2 != 0) || ((r4.2.1.length : Int) != n1))))
def top_TopStrayed_f (servers1 : Int) (which1 : Int) (data1 : List Int) : Option Bool :=
 (top_head29_f).bind fun r1 => (top_farmR14_f (IntKind.wrap .i64 (3 + (Int.tmod (IntKind.wrap .i64 servers1) 4))) 1).bind fun r2 => top_TopStrayed_J1 r1 r2 which1 data1 (IntKind.wrap .i64 (3 + (Int.tmod (IntKind.wrap .i64 servers1) 4))) ((!r2.2.2) || (((r2.2.1.length : Int) != 1) || (decide (64 < (data1.length : Int)))))
theorem top_TopStrayed_pc {servers1 : Int} {which1 : Int} {data1 : List Int} {r : Bool} (H : top_TopStrayed_f servers1 which1 data1 = some r) : PC Tryz.prog 3 [.int .u8 servers1, .int .u8 which1, .list 1 (data1.map (ci .u8))] (.bool r) := by
 refine pcA_of Tryz.func3 (by rfl) (by decide) 226 (by rfl) [.tmp 6] (by rfl) ?_
 unfold top_TopStrayed_f at H
 simp only [ent]
 refine a_srC _ rfl ?_
 refine a_seq ?_
 obtain ⟨r1, zh1, H⟩ := bind_some H
 have zk1 := top_head29_pc zh1
 refine a_regK _ rfl ?_
 refine sA_n ?_
 refine a_srC _ rfl ?_
 refine a_seq ?_
 obtain ⟨r2, zh2, H⟩ := bind_some H
 have zk2 := top_farmR14_pc zh2
 refine a_regK _ rfl ?_
 refine sA_n ?_
 refine a_seq ?_
 refine a_cut (fun s => ∃ (n1 : Int) (v1 : Bool) (t0 : Nat → Dat), top_TopStrayed_J1 r1 r2 which1 data1 n1 v1 = some r ∧ s = ⟨tl t0 [(1, .int .u8 which1), (2, .list 1 (data1.map (ci .u8))), (7, .bool r1), (8, .int .i64 n1), (9, .list 3 (r2.1.map Disk.c)), (10, .list 3 (r2.2.1.map Chain.c)), (11, .bool r2.2.2), (51, .bool v1)], hl [], 0, 226⟩) ?_ ?_
 ·refine bool_split (b := (!r2.2.2)) (fun zc21 => ?_) (fun zc21 => ?_)
  ·rw [zc21] at H
   refine a_regC _ rfl ?_
   refine cA_n ?_
   exact wk_lA [] [] (fun t0 => ⟨(IntKind.wrap .i64 (3 + (Int.tmod (IntKind.wrap .i64 servers1) 4))), true, t0, H, rfl⟩)
  ·rw [zc21] at H
   refine bool_split (b := ((r2.2.1.length : Int) != 1)) (fun zc22 => ?_) (fun zc22 => ?_)
   ·rw [zc22] at H
    refine a_regC _ rfl ?_
    refine cA_n ?_
    exact wk_lA [] [] (fun t0 => ⟨(IntKind.wrap .i64 (3 + (Int.tmod (IntKind.wrap .i64 servers1) 4))), true, t0, H, rfl⟩)
   ·rw [zc22] at H
    refine a_regC _ rfl ?_
    refine cA_n ?_
    exact wk_lA [] [] (fun t0 => ⟨(IntKind.wrap .i64 (3 + (Int.tmod (IntKind.wrap .i64 servers1) 4))), (decide (64 < (data1.length : Int))), t0, H, rfl⟩)
 ·rintro s ⟨n1, v1, t0, H, rfl⟩
  unfold top_TopStrayed_J1 at H
  refine a_cnd H (fun zc1 H => ?_) (fun zc1 H => ?_)
  ·refine a_seq ?_
   refine cnd H (fun zc2 H => ?_) (fun zc2 H => ?_)
   ·refine a_regC _ rfl ?_
    refine sA_n ?_
    exact a_ret (sA_r RT)
   ·refine a_reg _ rfl (s := ?zs6) ?_ ?_
    rotate_left
    ·refine goZ2 ?_
     try refine goZ2 ?_
     (repeat' apply And.intro) <;> first|rfl|assumption|omega|(simp;done)|(simp;omega)|(simp_all;done)
    refine sA_n ?_
    refine a_ret ?_
    refine sA_r ?_
    obtain rfl := Option.some.inj H
    refine e_r2 (d := ?zd2) ?_ ?_
    rotate_left
    ·simp only [EVT, resR, single, evLoad, cut, TIS, CS, reduceAdd, reduceEqDiff, ↓reduceIte, reduceCtorEq, reduceLT, reduceLeDiff, reduceSub, Nat.reduceBEq, zc1, zc2]
     (repeat' apply And.intro) <;> first | rfl | assumption | omega | (simp; done)
    exact ZZ
  ·refine a_skip ?_
   refine sA_n ?_
   refine a_seq ?_
   obtain ⟨x1, zh3, H⟩ := bind_some H
   obtain ⟨zg1, zh3a, zh3b⟩ := idx3 (f := Chain.c) zh3
   try simp only [Int.reduceToNat, Int.toNat_natCast] at zg1
   obtain ⟨x2, zh4, H⟩ := bind_some H
   obtain ⟨zg2, zh4a, zh4b⟩ := idx3 (f := (ci .i64)) zh4
   try simp only [Int.reduceToNat, Int.toNat_natCast] at zg2
   refine a_regC _ rfl ?_
   refine sA_n ?_
   refine a_seq ?_
   obtain ⟨r3, zh5, H⟩ := bind_some H
   have zk3 := chain_Write_pc zh5
   refine a_regK _ rfl ?_
   refine sA_n ?_
   refine a_seq ?_
   obtain ⟨r4, zh6, H⟩ := bind_some H
   have zk4 := chain_Cut_pc zh6
   refine a_regK _ rfl ?_
   refine sA_n ?_
   refine a_seq ?_
   refine a_cut (fun s => ∃ (v2 : Bool) (t0 : Nat → Dat), top_TopStrayed_J2 r4 x2 r1 data1 n1 v2 = some r ∧ s = ⟨tl t0 [(2, .list 1 (data1.map (ci .u8))), (7, .bool r1), (8, .int .i64 n1), (12, .int .i64 x2), (14, .ptr 0 0 0 3), (15, .list 3 (r4.2.1.map Disk.c)), (95, .bool v2)], hl [⟨30, 3, false, [Chain.c r4.1]⟩], 1, 226⟩) ?_ ?_
   ·refine bool_split (b := (!r3.2)) (fun zc19 => ?_) (fun zc19 => ?_)
    ·rw [zc19] at H
     refine a_regC _ rfl ?_
     refine cA_n ?_
     exact wk_lA [(some 178, _)] [] (fun t0 => ⟨true, t0, H, rfl⟩)
    ·rw [zc19] at H
     refine bool_split (b := (r4.2.2 != 0)) (fun zc20 => ?_) (fun zc20 => ?_)
     ·rw [zc20] at H
      refine a_regC _ rfl ?_
      refine cA_n ?_
      exact wk_lA [(some 178, _)] [] (fun t0 => ⟨true, t0, H, rfl⟩)
     ·rw [zc20] at H
      refine a_regC _ rfl ?_
      refine cA_n ?_
      exact wk_lA [(some 178, _)] [] (fun t0 => ⟨((r4.2.1.length : Int) != n1), t0, H, rfl⟩)
   ·rintro s ⟨v2, t0, H, rfl⟩
    unfold top_TopStrayed_J2 at H
    refine a_cnd H (fun zc3 H => ?_) (fun zc3 H => ?_)
    ·refine a_srC _ rfl ?_
     refine a_ret ?_
     refine sA_r ?_
     obtain rfl := Option.some.inj H
     refine e_r2 (d := ?zd3) ?_ ?_
     rotate_left
     ·simp only [EVT, resR, single, evLoad, cut, TIS, CS, reduceAdd, reduceEqDiff, ↓reduceIte, reduceCtorEq, reduceLT, reduceLeDiff, reduceSub, Nat.reduceBEq, zc3]
      (repeat' apply And.intro) <;> first | rfl | assumption | omega | (simp; done)
     exact ZZ
    ·refine a_skip ?_
     refine sA_n ?_
     refine a_seq ?_
     obtain ⟨r5, zh7, H⟩ := bind_some H
     have zk5 := scrub_Strays_pc zh7
     refine a_reg _ rfl (s := ?zs11) ?_ ?_
     rotate_left
     ·try refine goS ?_
      repeat' with_reducible apply And.intro
      all_goals try ((with_reducible show CallR _ _ _ _ _ _ _); refine cR_f [3] zk5 (.cons (.lst _ _ _ Disk.pu rfl) (.cons (.ownL ((wrs_frz _ _ _ 3).trans (by rfl)) (fun _ => rfl) rfl (by first | rfl | omega | (simp; done) | (simp [strBytes_len]; done) | (simp; omega) | (simp_all; done)) (.sm _ _ Chain.pu)) .nil)) ?_; refine goS ?_)
      all_goals ((repeat' apply And.intro) <;> first|rfl|assumption|omega|(simp;done)|(simp;omega)|(simp_all;done))
     refine sA_n ?_
     refine a_seq ?_
     obtain ⟨x3, zh8, H⟩ := bind_some H
     obtain ⟨zg3, zh8a, zh8b⟩ := idx3 (f := Disk.c) zh8
     try simp only [Int.reduceToNat, Int.toNat_natCast] at zg3
     obtain ⟨r6, zh9, H⟩ := bind_some H
     have zk6 := chunk_Get_pc zh9
     refine a_drW (by kernel_rfl) _ rfl (s := ?zs12) (by kernel_rfl) (by kernel_rfl) ?zs12f ?_ ?_ ?_
     rotate_left 2
     ·try refine goS ?_
      repeat' with_reducible apply And.intro
      all_goals try ((with_reducible show CallW _ _ _ _ _ _ _); refine cW_p [] zk6 (fun h2 e => ZZ) ?_; refine goS ?_)
      all_goals exact CLS
     ·kernel_rfl
     refine sA_n ?_
     refine a_seq ?_
     refine a_cut (fun s => ∃ (v3 : Bool) (t0 : Nat → Dat), top_TopStrayed_J3 r5 r4 x2 r1 data1 n1 v3 = some r ∧ s = ⟨tl t0 [(2, .list 1 (data1.map (ci .u8))), (7, .bool r1), (8, .int .i64 n1), (12, .int .i64 x2), (14, .ptr 0 0 0 3), (15, .list 3 (r4.2.1.map Disk.c)), (17, .list 3 (r5.map Find.c)), (128, .bool v3)], hl [⟨30, 3, false, [Chain.c r4.1]⟩], 1, 226⟩) ?_ ?_
     ·obtain ⟨r17, zh22, H⟩ := bind_some H
      have zk17 := ref27_SameFinds_pc zh22
      refine bool_split (b := (!r17)) (fun zc17 => ?_) (fun zc17 => ?_)
      ·rw [zc17] at H
       refine a_regK _ rfl ?_
       refine cA_n ?_
       exact wk_lA [(some 0, _)] [] (fun t0 => ⟨true, t0, H, rfl⟩)
      ·rw [zc17] at H
       refine bool_split (b := (r6.2 != 0)) (fun zc18 => ?_) (fun zc18 => ?_)
       ·rw [zc18] at H
        refine a_regK _ rfl ?_
        refine cA_n ?_
        exact wk_lA [(some 0, _)] [] (fun t0 => ⟨true, t0, H, rfl⟩)
       ·rw [zc18] at H
        refine a_regK _ rfl ?_
        refine cA_n ?_
        exact wk_lA [(some 0, _)] [] (fun t0 => ⟨(decide (r4.1.ver ≤ r6.1.ver)), t0, H, rfl⟩)
     ·rintro s ⟨v3, t0, H, rfl⟩
      unfold top_TopStrayed_J3 at H
      refine a_cnd H (fun zc4 H => ?_) (fun zc4 H => ?_)
      ·refine a_srC _ rfl ?_
       refine a_ret ?_
       refine sA_r ?_
       obtain rfl := Option.some.inj H
       refine e_r2 (d := ?zd4) ?_ ?_
       rotate_left
       ·simp only [EVT, resR, single, evLoad, cut, TIS, CS, reduceAdd, reduceEqDiff, ↓reduceIte, reduceCtorEq, reduceLT, reduceLeDiff, reduceSub, Nat.reduceBEq, zc4]
        (repeat' apply And.intro) <;> first | rfl | assumption | omega | (simp; done)
       exact ZZ
      ·refine a_skip ?_
       refine sA_n ?_
       refine a_seq ?_
       obtain ⟨x4, zh10, H⟩ := bind_some H
       obtain ⟨zg4, zh10a, zh10b⟩ := idx3 (f := Find.c) zh10
       try simp only [Int.reduceToNat, Int.toNat_natCast] at zg4
       obtain ⟨r7, zh11, H⟩ := bind_some H
       have zk7 := scrub_Clean_pc zh11
       refine a_regK _ rfl ?_
       refine sA_n ?_
       refine a_seq ?_
       refine a_cut (fun s => ∃ (v4 : Bool) (t0 : Nat → Dat), top_TopStrayed_J4 r4 r7 x2 r1 data1 v4 = some r ∧ s = ⟨tl t0 [(2, .list 1 (data1.map (ci .u8))), (7, .bool r1), (12, .int .i64 x2), (14, .ptr 0 0 0 3), (20, .list 3 (r7.1.map Disk.c)), (161, .bool v4)], hl [⟨30, 3, false, [Chain.c r4.1]⟩], 1, 226⟩) ?_ ?_
       ·refine cnd H (fun zc14 H => ?_) (fun zc14 H => ?_)
        ·refine a_regC _ rfl ?_
         refine cA_n ?_
         exact wk_lA [(some 0, _)] [] (fun t0 => ⟨true, t0, H, rfl⟩)
        ·refine cnd H (fun zc15 H => ?_) (fun zc15 H => ?_)
         ·refine a_regC _ rfl ?_
          refine cA_n ?_
          exact wk_lA [(some 0, _)] [] (fun t0 => ⟨true, t0, H, rfl⟩)
         ·obtain ⟨r15, zh19, H⟩ := bind_some H
          have zk15 := scrub_Strays_pc zh19
          refine cnd H (fun zc16 H => ?_) (fun zc16 H => ?_)
          ·refine a_reg _ rfl (s := ?zs30) ?_ ?_
           rotate_left
           ·try refine goS ?_
            repeat' with_reducible apply And.intro
            all_goals try ((with_reducible show CallR _ _ _ _ _ _ _); refine cR_f [92] zk15 (.cons (.lst _ _ _ Disk.pu rfl) (.cons (.ownL ((wrs_frz _ _ _ 92).trans (by rfl)) (fun _ => rfl) rfl (by first | rfl | omega | (simp; done) | (simp [strBytes_len]; done) | (simp; omega) | (simp_all; done)) (.sm _ _ Chain.pu)) .nil)) ?_; refine goS ?_)
            all_goals ((repeat' apply And.intro) <;> first|rfl|assumption|omega|(simp;done)|(simp;omega)|(simp_all;done))
           refine cA_n ?_
           exact wk_lA [(some 0, _)] [] (fun t0 => ⟨true, t0, H, rfl⟩)
          ·obtain ⟨x5, zh20, H⟩ := bind_some H
           obtain ⟨zg5, zh20a, zh20b⟩ := idx3 (f := Disk.c) zh20
           try simp only [Int.reduceToNat, Int.toNat_natCast] at zg5
           obtain ⟨r16, zh21, H⟩ := bind_some H
           have zk16 := chunk_Has_pc zh21
           refine a_reg _ rfl (s := ?zs31) ?_ ?_
           rotate_left
           ·try refine goS ?_
            repeat' with_reducible apply And.intro
            all_goals try ((with_reducible show CallR _ _ _ _ _ _ _); refine cR_f [92] zk15 (.cons (.lst _ _ _ Disk.pu rfl) (.cons (.ownL ((wrs_frz _ _ _ 92).trans (by rfl)) (fun _ => rfl) rfl (by first | rfl | omega | (simp; done) | (simp [strBytes_len]; done) | (simp; omega) | (simp_all; done)) (.sm _ _ Chain.pu)) .nil)) ?_; refine goS ?_)
            repeat' with_reducible apply And.intro
            all_goals try ((with_reducible show CallR _ _ _ _ _ _ _); refine cR_p zk16 (.cons (.agg' (.cons (.lst _ _ _ Page.pu rfl) (.cons (.lst _ _ _ Page.pu rfl) (.cons (.bool' (by first | rfl | assumption | (simp_all; done))) .nil)))) .nil) ?_; refine goS ?_)
            all_goals ((repeat' apply And.intro) <;> first|rfl|assumption|omega|(simp;done)|(simp;omega)|(simp_all;done))
           refine cA_n ?_
           exact wk_lA [(some 0, _)] [] (fun t0 => ⟨(decide (0 < (r16.length : Int))), t0, H, rfl⟩)
       ·rintro s ⟨v4, t0, H, rfl⟩
        unfold top_TopStrayed_J4 at H
        refine a_cnd H (fun zc5 H => ?_) (fun zc5 H => ?_)
        ·refine a_srC _ rfl ?_
         refine a_ret ?_
         refine sA_r ?_
         obtain rfl := Option.some.inj H
         refine e_r2 (d := ?zd5) ?_ ?_
         rotate_left
         ·simp only [EVT, resR, single, evLoad, cut, TIS, CS, reduceAdd, reduceEqDiff, ↓reduceIte, reduceCtorEq, reduceLT, reduceLeDiff, reduceSub, Nat.reduceBEq, zc5]
          (repeat' apply And.intro) <;> first | rfl | assumption | omega | (simp; done)
         exact ZZ
        ·refine a_skip ?_
         refine sA_n ?_
         refine a_seq ?_
         obtain ⟨r8, zh12, H⟩ := bind_some H
         have zk8 := chain_Read_pc zh12
         refine a_regK _ rfl ?_
         refine sA_n ?_
         refine a_seq ?_
         obtain ⟨r9, zh13, H⟩ := bind_some H
         have zk9 := chain_Mend_pc zh13
         refine a_regK _ rfl ?_
         refine sA_n ?_
         refine a_seq ?_
         obtain ⟨r10, zh14, H⟩ := bind_some H
         have zk10 := chain_Read_pc zh14
         refine a_regK _ rfl ?_
         refine sA_n ?_
         refine a_seq ?_
         refine cnd H (fun zc6 H => ?_) (fun zc6 H => ?_)
         ·refine cnd H (fun zc7 H => ?_) (fun zc7 H => ?_)
          ·obtain ⟨r11, zh15, H⟩ := bind_some H
           have zk11 := ref02_Bytes_pc zh15
           refine cnd H (fun zc8 H => ?_) (fun zc8 H => ?_)
           ·refine cnd H (fun zc9 H => ?_) (fun zc9 H => ?_)
            ·refine cnd H (fun zc10 H => ?_) (fun zc10 H => ?_)
             ·obtain ⟨r12, zh16, H⟩ := bind_some H
              have zk12 := ref02_Bytes_pc zh16
              refine cnd H (fun zc11 H => ?_) (fun zc11 H => ?_)
              ·obtain ⟨r13, zh17, H⟩ := bind_some H
               have zk13 := scrub_Look_rc zh17
               refine cnd H (fun zc12 H => ?_) (fun zc12 H => ?_)
               ·obtain ⟨r14, zh18, H⟩ := bind_some H
                have zk14 := scrub_Strays_pc zh18
                refine bool_split (b := ((r14.length : Int) == 0)) (fun zc13 => ?_) (fun zc13 => ?_)
                ·rw [zc13] at H
                 refine a_reg _ rfl (s := ?zs19) ?_ ?_
                 rotate_left
                 ·try refine goS ?_
                  repeat' with_reducible apply And.intro
                  all_goals try ((with_reducible show CallR _ _ _ _ _ _ _); refine cR_s zk11 (.cons (.lst _ _ _ (ci_pu .u8) rfl) (.cons (.lst _ _ _ (ci_pu .u8) rfl) .nil)) (.bool _) ?_; refine goS ?_)
                  repeat' with_reducible apply And.intro
                  all_goals try ((with_reducible show CallR _ _ _ _ _ _ _); refine cR_s zk12 (.cons (.lst _ _ _ (ci_pu .u8) rfl) (.cons (.lst _ _ _ (ci_pu .u8) rfl) .nil)) (.bool _) ?_; refine goS ?_)
                  repeat' with_reducible apply And.intro
                  all_goals try ((with_reducible show CallR _ _ _ _ _ _ _); refine callR_ownm (l := r13) (c := Find.c) [] zk13 Find.sc (.cons (.lst _ _ _ Disk.pu rfl) (.cons (.agg' (.cons (.int' rfl) (.cons (.int' rfl) (.cons (.lst _ _ _ (ci_pu .i64) rfl) .nil)))) .nil)) ?_; simp only [EVT, stepR, evOp, St.ev, St.app, St.put, wrs, datOf, datOf1, evBin, binInt, frz, evLoad, cut, evBuiltin, allOne, evFieldAddr, TIS, CS, reduceAdd, reduceMul, reduceEqDiff, ↓reduceIte, reduceCtorEq, reduceLT, reduceLeDiff, Array.reduceGetElem?, reduceSub, Nat.reduceBEq, ↓zc5, ↓zc6, ↓zc7, ↓zc8, ↓zc9, ↓zc10, ↓zc11, ↓zc12, ↓zc13])
                  repeat' with_reducible apply And.intro
                  all_goals try ((with_reducible show CallR _ _ _ _ _ _ _); refine cR_f [258] zk14 (.cons (.lst _ _ _ Disk.pu rfl) (.cons (.ownL ((wrs_frz _ _ _ 258).trans (by rfl)) (fun _ => rfl) rfl (by first | rfl | omega | (simp; done) | (simp [strBytes_len]; done) | (simp; omega) | (simp_all; done)) (.sm _ _ Chain.pu)) .nil)) ?_; refine goS ?_)
                  all_goals ((repeat' apply And.intro) <;> first|rfl|assumption|omega|(simp;done)|(simp;omega)|(simp_all;done))
                 refine sA_n ?_
                 refine a_ret ?_
                 obtain rfl := Option.some.inj H
                 refine e_r2 (d := ?zd6) ?_ ?_
                 rotate_left
                 ·simp only [EVT, resR, single, evLoad, cut, TIS, CS, reduceAdd, reduceEqDiff, ↓reduceIte, reduceCtorEq, reduceLT, reduceLeDiff, reduceSub, Nat.reduceBEq, zc5, zc6, zc7, zc8, zc9, zc10, zc11, zc12, zc13]
                  (repeat' apply And.intro) <;> first | rfl | assumption | omega | (simp; done)
                 exact ZZ
                ·rw [zc13] at H
                 refine a_reg _ rfl (s := ?zs20) ?_ ?_
                 rotate_left
                 ·try refine goS ?_
                  repeat' with_reducible apply And.intro
                  all_goals try ((with_reducible show CallR _ _ _ _ _ _ _); refine cR_s zk11 (.cons (.lst _ _ _ (ci_pu .u8) rfl) (.cons (.lst _ _ _ (ci_pu .u8) rfl) .nil)) (.bool _) ?_; refine goS ?_)
                  repeat' with_reducible apply And.intro
                  all_goals try ((with_reducible show CallR _ _ _ _ _ _ _); refine cR_s zk12 (.cons (.lst _ _ _ (ci_pu .u8) rfl) (.cons (.lst _ _ _ (ci_pu .u8) rfl) .nil)) (.bool _) ?_; refine goS ?_)
                  repeat' with_reducible apply And.intro
                  all_goals try ((with_reducible show CallR _ _ _ _ _ _ _); refine callR_ownm (l := r13) (c := Find.c) [] zk13 Find.sc (.cons (.lst _ _ _ Disk.pu rfl) (.cons (.agg' (.cons (.int' rfl) (.cons (.int' rfl) (.cons (.lst _ _ _ (ci_pu .i64) rfl) .nil)))) .nil)) ?_; simp only [EVT, stepR, evOp, St.ev, St.app, St.put, wrs, datOf, datOf1, evBin, binInt, frz, evLoad, cut, evBuiltin, allOne, evFieldAddr, TIS, CS, reduceAdd, reduceMul, reduceEqDiff, ↓reduceIte, reduceCtorEq, reduceLT, reduceLeDiff, Array.reduceGetElem?, reduceSub, Nat.reduceBEq, ↓zc5, ↓zc6, ↓zc7, ↓zc8, ↓zc9, ↓zc10, ↓zc11, ↓zc12, ↓zc13])
                  repeat' with_reducible apply And.intro
                  all_goals try ((with_reducible show CallR _ _ _ _ _ _ _); refine cR_f [258] zk14 (.cons (.lst _ _ _ Disk.pu rfl) (.cons (.ownL ((wrs_frz _ _ _ 258).trans (by rfl)) (fun _ => rfl) rfl (by first | rfl | omega | (simp; done) | (simp [strBytes_len]; done) | (simp; omega) | (simp_all; done)) (.sm _ _ Chain.pu)) .nil)) ?_; refine goS ?_)
                  all_goals ((repeat' apply And.intro) <;> first|rfl|assumption|omega|(simp;done)|(simp;omega)|(simp_all;done))
                 refine sA_n ?_
                 refine a_ret ?_
                 obtain rfl := Option.some.inj H
                 refine e_r2 (d := ?zd7) ?_ ?_
                 rotate_left
                 ·simp only [EVT, resR, single, evLoad, cut, TIS, CS, reduceAdd, reduceEqDiff, ↓reduceIte, reduceCtorEq, reduceLT, reduceLeDiff, reduceSub, Nat.reduceBEq, zc5, zc6, zc7, zc8, zc9, zc10, zc11, zc12, zc13]
                  (repeat' apply And.intro) <;> first | rfl | assumption | omega | (simp; done)
                 exact ZZ
               ·refine a_reg _ rfl (s := ?zs21) ?_ ?_
                rotate_left
                ·try refine goS ?_
                 repeat' with_reducible apply And.intro
                 all_goals try ((with_reducible show CallR _ _ _ _ _ _ _); refine cR_s zk11 (.cons (.lst _ _ _ (ci_pu .u8) rfl) (.cons (.lst _ _ _ (ci_pu .u8) rfl) .nil)) (.bool _) ?_; refine goS ?_)
                 repeat' with_reducible apply And.intro
                 all_goals try ((with_reducible show CallR _ _ _ _ _ _ _); refine cR_s zk12 (.cons (.lst _ _ _ (ci_pu .u8) rfl) (.cons (.lst _ _ _ (ci_pu .u8) rfl) .nil)) (.bool _) ?_; refine goS ?_)
                 repeat' with_reducible apply And.intro
                 all_goals try ((with_reducible show CallR _ _ _ _ _ _ _); refine callR_ownm (l := r13) (c := Find.c) [] zk13 Find.sc (.cons (.lst _ _ _ Disk.pu rfl) (.cons (.agg' (.cons (.int' rfl) (.cons (.int' rfl) (.cons (.lst _ _ _ (ci_pu .i64) rfl) .nil)))) .nil)) ?_; simp only [EVT, stepR, evOp, St.ev, St.app, St.put, wrs, datOf, datOf1, evBin, binInt, frz, evLoad, cut, evBuiltin, allOne, evFieldAddr, TIS, CS, reduceAdd, reduceMul, reduceEqDiff, ↓reduceIte, reduceCtorEq, reduceLT, reduceLeDiff, Array.reduceGetElem?, reduceSub, Nat.reduceBEq, ↓zc5, ↓zc6, ↓zc7, ↓zc8, ↓zc9, ↓zc10, ↓zc11, ↓zc12])
                 all_goals ((repeat' apply And.intro) <;> first|rfl|assumption|omega|(simp;done)|(simp;omega)|(simp_all;done))
                refine sA_n ?_
                refine a_ret ?_
                obtain rfl := Option.some.inj H
                refine e_r2 (d := ?zd8) ?_ ?_
                rotate_left
                ·simp only [EVT, resR, single, evLoad, cut, TIS, CS, reduceAdd, reduceEqDiff, ↓reduceIte, reduceCtorEq, reduceLT, reduceLeDiff, reduceSub, Nat.reduceBEq, zc5, zc6, zc7, zc8, zc9, zc10, zc11, zc12]
                 (repeat' apply And.intro) <;> first | rfl | assumption | omega | (simp; done)
                exact ZZ
              ·refine a_reg _ rfl (s := ?zs22) ?_ ?_
               rotate_left
               ·try refine goS ?_
                repeat' with_reducible apply And.intro
                all_goals try ((with_reducible show CallR _ _ _ _ _ _ _); refine cR_s zk11 (.cons (.lst _ _ _ (ci_pu .u8) rfl) (.cons (.lst _ _ _ (ci_pu .u8) rfl) .nil)) (.bool _) ?_; simp only [EVT, stepR, evOp, St.ev, St.app, St.put, wrs, datOf, datOf1, evBin, binInt, frz, evLoad, cut, evBuiltin, allOne, evFieldAddr, TIS, CS, reduceAdd, reduceMul, reduceEqDiff, ↓reduceIte, reduceCtorEq, reduceLT, reduceLeDiff, Array.reduceGetElem?, reduceSub, Nat.reduceBEq, ↓zc5, ↓zc6, ↓zc7, ↓zc8, ↓zc9, ↓zc10, ↓zc11])
                repeat' with_reducible apply And.intro
                all_goals try ((with_reducible show CallR _ _ _ _ _ _ _); refine cR_s zk12 (.cons (.lst _ _ _ (ci_pu .u8) rfl) (.cons (.lst _ _ _ (ci_pu .u8) rfl) .nil)) (.bool _) ?_; simp only [EVT, stepR, evOp, St.ev, St.app, St.put, wrs, datOf, datOf1, evBin, binInt, frz, evLoad, cut, evBuiltin, allOne, evFieldAddr, TIS, CS, reduceAdd, reduceMul, reduceEqDiff, ↓reduceIte, reduceCtorEq, reduceLT, reduceLeDiff, Array.reduceGetElem?, reduceSub, Nat.reduceBEq, ↓zc5, ↓zc6, ↓zc7, ↓zc8, ↓zc9, ↓zc10, ↓zc11])
                all_goals ((repeat' apply And.intro) <;> first|rfl|assumption|omega|(simp;done)|(simp;omega)|(simp_all;done))
               refine sA_n ?_
               refine a_ret ?_
               obtain rfl := Option.some.inj H
               refine e_r2 (d := ?zd9) ?_ ?_
               rotate_left
               ·simp only [EVT, resR, single, evLoad, cut, TIS, CS, reduceAdd, reduceEqDiff, ↓reduceIte, reduceCtorEq, reduceLT, reduceLeDiff, reduceSub, Nat.reduceBEq, zc5, zc6, zc7, zc8, zc9, zc10, zc11]
                (repeat' apply And.intro) <;> first | rfl | assumption | omega | (simp; done)
               exact (.bool' (by first | rfl | assumption | (simp_all; done)))
             ·refine a_reg _ rfl (s := ?zs23) ?_ ?_
              rotate_left
              ·try refine goS ?_
               repeat' with_reducible apply And.intro
               all_goals try ((with_reducible show CallR _ _ _ _ _ _ _); refine cR_s zk11 (.cons (.lst _ _ _ (ci_pu .u8) rfl) (.cons (.lst _ _ _ (ci_pu .u8) rfl) .nil)) (.bool _) ?_; simp only [EVT, stepR, evOp, St.ev, St.app, St.put, wrs, datOf, datOf1, evBin, binInt, frz, evLoad, cut, evBuiltin, allOne, evFieldAddr, TIS, CS, reduceAdd, reduceMul, reduceEqDiff, ↓reduceIte, reduceCtorEq, reduceLT, reduceLeDiff, Array.reduceGetElem?, reduceSub, Nat.reduceBEq, ↓zc5, ↓zc6, ↓zc7, ↓zc8, ↓zc9, ↓zc10])
               all_goals ((repeat' apply And.intro) <;> first|rfl|assumption|omega|(simp;done)|(simp;omega)|(simp_all;done))
              refine sA_n ?_
              refine a_ret ?_
              obtain rfl := Option.some.inj H
              refine e_r2 (d := ?zd10) ?_ ?_
              rotate_left
              ·simp only [EVT, resR, single, evLoad, cut, TIS, CS, reduceAdd, reduceEqDiff, ↓reduceIte, reduceCtorEq, reduceLT, reduceLeDiff, reduceSub, Nat.reduceBEq, zc5, zc6, zc7, zc8, zc9, zc10]
               (repeat' apply And.intro) <;> first | rfl | assumption | omega | (simp; done)
              exact (.bool' (by first | rfl | assumption | (simp_all; done)))
            ·refine a_reg _ rfl (s := ?zs24) ?_ ?_
             rotate_left
             ·try refine goS ?_
              repeat' with_reducible apply And.intro
              all_goals try ((with_reducible show CallR _ _ _ _ _ _ _); refine cR_s zk11 (.cons (.lst _ _ _ (ci_pu .u8) rfl) (.cons (.lst _ _ _ (ci_pu .u8) rfl) .nil)) (.bool _) ?_; simp only [EVT, stepR, evOp, St.ev, St.app, St.put, wrs, datOf, datOf1, evBin, binInt, frz, evLoad, cut, evBuiltin, allOne, evFieldAddr, TIS, CS, reduceAdd, reduceMul, reduceEqDiff, ↓reduceIte, reduceCtorEq, reduceLT, reduceLeDiff, Array.reduceGetElem?, reduceSub, Nat.reduceBEq, ↓zc5, ↓zc6, ↓zc7, ↓zc8, ↓zc9])
              all_goals ((repeat' apply And.intro) <;> first|rfl|assumption|omega|(simp;done)|(simp;omega)|(simp_all;done))
             refine sA_n ?_
             refine a_ret ?_
             obtain rfl := Option.some.inj H
             refine e_r2 (d := ?zd11) ?_ ?_
             rotate_left
             ·simp only [EVT, resR, single, evLoad, cut, TIS, CS, reduceAdd, reduceEqDiff, ↓reduceIte, reduceCtorEq, reduceLT, reduceLeDiff, reduceSub, Nat.reduceBEq, zc5, zc6, zc7, zc8, zc9]
              (repeat' apply And.intro) <;> first | rfl | assumption | omega | (simp; done)
             exact (.bool' (by first | rfl | assumption | (simp_all; done)))
           ·refine a_reg _ rfl (s := ?zs25) ?_ ?_
            rotate_left
            ·try refine goS ?_
             repeat' with_reducible apply And.intro
             all_goals try ((with_reducible show CallR _ _ _ _ _ _ _); refine cR_s zk11 (.cons (.lst _ _ _ (ci_pu .u8) rfl) (.cons (.lst _ _ _ (ci_pu .u8) rfl) .nil)) (.bool _) ?_; simp only [EVT, stepR, evOp, St.ev, St.app, St.put, wrs, datOf, datOf1, evBin, binInt, frz, evLoad, cut, evBuiltin, allOne, evFieldAddr, TIS, CS, reduceAdd, reduceMul, reduceEqDiff, ↓reduceIte, reduceCtorEq, reduceLT, reduceLeDiff, Array.reduceGetElem?, reduceSub, Nat.reduceBEq, ↓zc5, ↓zc6, ↓zc7, ↓zc8])
             all_goals ((repeat' apply And.intro) <;> first|rfl|assumption|omega|(simp;done)|(simp;omega)|(simp_all;done))
            refine sA_n ?_
            refine a_ret ?_
            obtain rfl := Option.some.inj H
            refine e_r2 (d := ?zd12) ?_ ?_
            rotate_left
            ·simp only [EVT, resR, single, evLoad, cut, TIS, CS, reduceAdd, reduceEqDiff, ↓reduceIte, reduceCtorEq, reduceLT, reduceLeDiff, reduceSub, Nat.reduceBEq, zc5, zc6, zc7, zc8]
             (repeat' apply And.intro) <;> first | rfl | assumption | omega | (simp; done)
            exact (.bool' (by first | rfl | assumption | (simp_all; done)))
          ·refine a_reg _ rfl (s := ?zs26) ?_ ?_
           rotate_left
           ·simp only [EVT, stepR, evOp, St.ev, St.app, St.put, wrs, datOf, datOf1, evBin, binInt, frz, evLoad, cut, evBuiltin, allOne, evFieldAddr, TIS, CS, reduceAdd, reduceMul, reduceEqDiff, ↓reduceIte, reduceCtorEq, reduceLT, reduceLeDiff, Array.reduceGetElem?, reduceSub, Nat.reduceBEq, ↓zc5, ↓zc6, ↓zc7]
            try simp only [EVT, stepR, evOp, St.ev, St.app, St.put, wrs, datOf, datOf1, evBin, binInt, frz, evLoad, cut, evBuiltin, allOne, evFieldAddr, TIS, CS, reduceAdd, reduceMul, reduceEqDiff, ↓reduceIte, reduceCtorEq, reduceLT, reduceLeDiff, Array.reduceGetElem?, reduceSub, Nat.reduceBEq, ↓zc5, ↓zc6, ↓zc7]
            (repeat' apply And.intro) <;> first|rfl|assumption|omega|(simp;done)|(simp;omega)|(simp_all;done)
           refine sA_n ?_
           refine a_ret ?_
           obtain rfl := Option.some.inj H
           refine e_r2 (d := ?zd13) ?_ ?_
           rotate_left
           ·simp only [EVT, resR, single, evLoad, cut, TIS, CS, reduceAdd, reduceEqDiff, ↓reduceIte, reduceCtorEq, reduceLT, reduceLeDiff, reduceSub, Nat.reduceBEq, zc5, zc6, zc7]
            (repeat' apply And.intro) <;> first | rfl | assumption | omega | (simp; done)
           exact ZZ
         ·refine a_reg _ rfl (s := ?zs27) ?_ ?_
          rotate_left
          ·simp only [EVT, stepR, evOp, St.ev, St.app, St.put, wrs, datOf, datOf1, evBin, binInt, frz, evLoad, cut, evBuiltin, allOne, evFieldAddr, TIS, CS, reduceAdd, reduceMul, reduceEqDiff, ↓reduceIte, reduceCtorEq, reduceLT, reduceLeDiff, Array.reduceGetElem?, reduceSub, Nat.reduceBEq, ↓zc5, ↓zc6]
           try simp only [EVT, stepR, evOp, St.ev, St.app, St.put, wrs, datOf, datOf1, evBin, binInt, frz, evLoad, cut, evBuiltin, allOne, evFieldAddr, TIS, CS, reduceAdd, reduceMul, reduceEqDiff, ↓reduceIte, reduceCtorEq, reduceLT, reduceLeDiff, Array.reduceGetElem?, reduceSub, Nat.reduceBEq, ↓zc5, ↓zc6]
           (repeat' apply And.intro) <;> first|rfl|assumption|omega|(simp;done)|(simp;omega)|(simp_all;done)
          refine sA_n ?_
          refine a_ret ?_
          obtain rfl := Option.some.inj H
          refine e_r2 (d := ?zd14) ?_ ?_
          rotate_left
          ·simp only [EVT, resR, single, evLoad, cut, TIS, CS, reduceAdd, reduceEqDiff, ↓reduceIte, reduceCtorEq, reduceLT, reduceLeDiff, reduceSub, Nat.reduceBEq, zc5, zc6]
           (repeat' apply And.intro) <;> first | rfl | assumption | omega | (simp; done)
          exact ZZ
end
end Go.Proofs.YtjflkcfafijhfaaGreat
/- Functions of the program as Lean functions, and that they are so; printed by a program of mine. -/
set_option linter.unusedSimpArgs false
set_option linter.unusedVariables false
set_option maxHeartbeats 4000000
set_option maxRecDepth 20000
namespace Go.Proofs.YtjflkcfafijhfaaGreat
open Go.Ab
open Nat (reduceAdd reduceMul reduceEqDiff reduceLT reduceLeDiff reduceSub)
noncomputable section
end
end Go.Proofs.YtjflkcfafijhfaaGreat
/- Functions of the program as Lean functions, and that they are so; printed by a program of mine. -/
set_option linter.unusedSimpArgs false
set_option linter.unusedVariables false
set_option maxHeartbeats 4000000
set_option maxRecDepth 20000
namespace Go.Proofs.YtjflkcfafijhfaaGreat
open Go.Ab
open Nat (reduceAdd reduceMul reduceEqDiff reduceLT reduceLeDiff reduceSub)
noncomputable section
end
end Go.Proofs.YtjflkcfafijhfaaGreat
/- Copies with the fuel as a parameter, for the kernel; printed by a program of mine. -/
set_option linter.unusedSimpArgs false
set_option linter.unusedVariables false
set_option maxRecDepth 20000
namespace Go.Proofs.YtjflkcfafijhfaaGreat
open Go.Ab Go.RowKit
def nilqc {α β : Type} [DecidableEq β] (l : List α) (e1 e2 : Option β) : Option β := match l with | [] => if e1 = e2 then e1 else none | _ :: _ => e2
theorem nilq_c {α β : Type} [DecidableEq β] (l : List α) (e1 e2 : Option β) : nilq l e1 e2 = nilqc l e1 e2 := by
  unfold nilq nilqc
  cases l with
  | nil => simp only [if_true]; by_cases h : e1 = e2 <;> simp [h]
  | cons a l => simp
def gz6 (B_ : Nat) (slices1 : List (List Page)) (size1 : Int) : Option (List Page) :=
  (slices_Grow_141_f [] size1).bind fun r1 => slices_Concat_104_L1 slices1 B_ r1 0
theorem ez6 : slices_Concat_104_J1 = gz6 BIG := rfl
def gz7 (B_ : Nat) (slices1 : List (List Page)) : Nat → Int → Int → Option (List Page)
  | 0, _, _ => none
  | m_ + 1, size2, v2 => cond (decide (v2 < (slices1.length : Int))) ((idx slices1 v2).bind fun x2 => chk ((decide ((IntKind.wrap .i64 (size2 + (x2.length : Int))) < 0)) = false) (slices_Concat_104_J3 (gz7 B_ slices1 m_) v2 (IntKind.wrap .i64 (size2 + (x2.length : Int))))) (gz6 B_ slices1 size2)
theorem ez7 (slices1 : List (List Page)) (n_) : slices_Concat_104_L2 slices1 n_ = gz7 BIG slices1 n_ := by
 induction n_ with
 | zero => rfl
 | succ m ih => funext _ _; simp only [slices_Concat_104_L2, gz7, ih, ez6]
def gz8 (B_ : Nat) (slices1 : List (List Page)) : Option (List Page) :=
  gz7 B_ slices1 B_ 0 0
theorem ez8 : slices_Concat_104_f = gz8 BIG := by delta slices_Concat_104_f gz8; simp only [ez7]
def blocksF : Nat → List Nat → List Nat
  | 0, _ => []
  | k + 1, l => if l = [] then [] else Plain.crc (l.take 16) :: blocksF k (l.drop 16)
theorem blocksF_eq : ∀ (k : Nat) (l : List Nat), l.length ≤ k → blocks l = blocksF k l
  | 0, l, h => by
    have : l = [] := List.eq_nil_of_length_eq_zero (by omega)
    subst this
    unfold blocks; rfl
  | k + 1, l, h => by
    unfold blocks blocksF
    by_cases e : l = []
    · subst e; rfl
    · rw [dif_neg e, if_neg e, blocksF_eq k (l.drop 16) (by have := List.length_pos_iff.2 e; rw [List.length_drop]; omega)]
def gz9 (B_ : Nat) (data1 : List Int) : Option (List Int) := chk (isB8 data1 = true ∧ data1.length ≤ 1000000) (some ((blocksF data1.length (data1.map Int.toNat)).map fun n : Nat => (n : Int)))
theorem ez9 : sum_Blocks_f = gz9 BIG := by
  funext l
  unfold sum_Blocks_f gz9
  rw [blocksF_eq l.length _ (by simp)]
def gz10 (B_ : Nat) (l1 over1 : List Page) : Option (List Page) := (gz8 B_ [l1, over1]).bind fun all => chk (all.length ≤ 12 ∧ (all.all fun p => (Lit.int .i64 p.at_).wf) = true) (some (laidP all))
theorem ez10 : disk_laid_f = gz10 BIG := by delta disk_laid_f gz10; simp only [ez8]
def gz11 (B_ : Nat) (id1 : Int) : Option (List Int) :=
  top_bytesR14_L1 id1 B_ [] 0
theorem ez11 : top_bytesR14_f = gz11 BIG := rfl
def g_slices_Index_f (B_ : Nat) (s1 : List Int) (v1 : Int) : Option Int :=
  slices_Index_L1 s1 v1 B_ 0
theorem e_slices_Index_f : slices_Index_f = g_slices_Index_f BIG := rfl
def g_slices_Contains_f (B_ : Nat) (s1 : List Int) (v1 : Int) : Option Bool :=
  (g_slices_Index_f B_ s1 v1).bind fun r1 => some ((decide (0 ≤ r1)))
theorem e_slices_Contains_f : slices_Contains_f = g_slices_Contains_f BIG := by delta slices_Contains_f g_slices_Contains_f; simp only [e_slices_Index_f]
def gz14 (B_ : Nat) (c1 : Chain) (disks1 : List Disk) : Nat → Int → Option Bool
  | 0, _ => none
  | m_ + 1, v1 => cond (decide (v1 < (c1.servers.length : Int))) ((idx c1.servers v1).bind fun x1 => cond (decide (x1 < 0)) (chain_Right_J2 (gz14 B_ c1 disks1 m_) v1 true) (cond (decide ((disks1.length : Int) ≤ x1)) (chain_Right_J2 (gz14 B_ c1 disks1 m_) v1 true) (chk (0 ≤ 0 ∧ 0 ≤ v1 ∧ v1 ≤ (c1.servers.length : Int)) ((g_slices_Contains_f B_ ((c1.servers.take v1.toNat).drop 0) x1).bind fun r1 => chain_Right_J2 (gz14 B_ c1 disks1 m_) v1 r1)))) (chain_Right_J1 c1)
theorem ez14 (c1 : Chain) (disks1 : List Disk) (n_) : chain_Right_L1 c1 disks1 n_ = gz14 BIG c1 disks1 n_ := by
 induction n_ with
 | zero => rfl
 | succ m ih => funext _; simp only [chain_Right_L1, gz14, ih, e_slices_Contains_f]
def gz15 (B_ : Nat) (c1 : Chain) (disks1 : List Disk) : Option Bool :=
  gz14 B_ c1 disks1 B_ 0
theorem ez15 : chain_Right_f = gz15 BIG := by delta chain_Right_f gz15; simp only [ez14]
def gz16 (B_ : Nat) (s1 : List Disk) : Option (List Disk) :=
  nilqc s1 (some (([] : List Disk))) (chk ((s1.length) * 56 ≤ 140737488355328) (some (s1)))
theorem ez16 : slices_Clone_83_f = gz16 BIG := by delta slices_Clone_83_f gz16; simp only [nilq_c]
def gz17 (B_ : Nat) (c1 : Chain) (disks1 : List Disk) (data1 : List Int) : Option (List Disk) :=
  (gz16 B_ disks1).bind fun r1 => some (r1)
theorem ez17 : chain_laying_f = gz17 BIG := by delta chain_laying_f gz17; simp only [ez16]
def gz18 (B_ : Nat) (s1 : List Int) : Option (List Int) :=
  nilqc s1 (some (([] : List Int))) (chk ((s1.length) * 8 ≤ 140737488355328) (some (s1)))
theorem ez18 : slices_Clone_f = gz18 BIG := by delta slices_Clone_f gz18; simp only [nilq_c]
def gz19 (B_ : Nat) (s1 : List Int) (f1 : Int → Option Bool) : Option Int :=
  slices_IndexFunc_L1 s1 f1 B_ 0
theorem ez19 : slices_IndexFunc_f = gz19 BIG := rfl
def gz20 (B_ : Nat) (s1 : List Int) (f1 : Int → Option Bool) : Option Bool :=
  (gz19 B_ s1 f1).bind fun r1 => some ((decide (0 ≤ r1)))
theorem ez20 : slices_ContainsFunc_68_f = gz20 BIG := by delta slices_ContainsFunc_68_f gz20; simp only [ez19]
def gz21 (B_ : Nat) (data1 : List Int) (sums1 : List Int) : Option Int :=
  (gz9 B_ data1).bind fun r1 => sum_Check_L1 r1 sums1 B_ (if (sums1.length : Int) < (((r1.length : Nat)) : Int) then (sums1.length : Int) else (((r1.length : Nat)) : Int)) 0
theorem ez21 : sum_Check_f = gz21 BIG := by delta sum_Check_f gz21; simp only [ez9]
def gz22 (B_ : Nat) (c1 : Copy) : Option Bool :=
  (chunk_within_f c1.id).bind fun r1 => cond r1 (cond (decide (0 ≤ c1.ver)) (cond (decide (c1.ver ≤ 1099511627776)) (cond (decide ((c1.data.length : Int) ≤ 64)) ((gz21 B_ c1.data c1.sums).bind fun r2 => some ((r2 == (-1)))) (some (false))) (some (false))) (some (false))) (some (false))
theorem ez22 : chunk_may_f = gz22 BIG := by delta chunk_may_f gz22; simp only [ez21]
def gz23 (B_ : Nat) (slices1 : List (List Int)) (size1 : Int) : Option (List Int) :=
  (slices_Grow_f [] size1).bind fun r1 => slices_Concat_L1 slices1 B_ r1 0
theorem ez23 : slices_Concat_J1 = gz23 BIG := rfl
def gz24 (B_ : Nat) (slices1 : List (List Int)) : Nat → Int → Int → Option (List Int)
  | 0, _, _ => none
  | m_ + 1, size2, v2 => cond (decide (v2 < (slices1.length : Int))) ((idx slices1 v2).bind fun x2 => chk ((decide ((IntKind.wrap .i64 (size2 + (x2.length : Int))) < 0)) = false) (slices_Concat_J3 (gz24 B_ slices1 m_) v2 (IntKind.wrap .i64 (size2 + (x2.length : Int))))) (gz23 B_ slices1 size2)
theorem ez24 (slices1 : List (List Int)) (n_) : slices_Concat_L2 slices1 n_ = gz24 BIG slices1 n_ := by
 induction n_ with
 | zero => rfl
 | succ m ih => funext _ _; simp only [slices_Concat_L2, gz24, ih, ez23]
def gz25 (B_ : Nat) (slices1 : List (List Int)) : Option (List Int) :=
  gz24 B_ slices1 B_ 0 0
theorem ez25 : slices_Concat_f = gz25 BIG := by delta slices_Concat_f gz25; simp only [ez24]
def gz26 (B_ : Nat) (n1 : Int) : Option (List Int) :=
  pack_Int_L1 B_ [] (IntKind.wrap .u64 (BitVec.ofInt (IntKind.bits .u64) (IntKind.wrap .u64 ((IntKind.wrap .u64 n1) * 2 ^ (min 1 (IntKind.bits .u64)))) ^^^ BitVec.ofInt (IntKind.bits .u64) (IntKind.wrap .u64 (Int.fdiv n1 (2 ^ (min 63 (IntKind.bits .i64)))))).toNat)
theorem ez26 : pack_Int_f = gz26 BIG := rfl
def gz27 (B_ : Nat) (s1 : ByteArray) : Option (List Int) :=
  (gz26 B_ (s1.size : Int)).bind fun r1 => chk ((r1.length + s1.size) * 1 ≤ 140737488355328) (some ((r1 ++ (strBytes s1))))
theorem ez27 : pack_Str_f = gz27 BIG := by delta pack_Str_f gz27; simp only [ez26]
def gz28 (B_ : Nat) (l1 : List Int) : Nat → (List Int) → Int → Option (List Int)
  | 0, _, _ => none
  | m_ + 1, out2, v1 => cond (decide (v1 < (l1.length : Int))) ((idx l1 v1).bind fun x1 => (gz26 B_ x1).bind fun r1 => chk ((out2.length + r1.length) * 1 ≤ 140737488355328) (gz28 B_ l1 m_ (out2 ++ r1) (IntKind.wrap .i64 (v1 + 1)))) (pack_numbers_J1 out2)
theorem ez28 (l1 : List Int) (n_) : pack_numbers_L1 l1 n_ = gz28 BIG l1 n_ := by
 induction n_ with
 | zero => rfl
 | succ m ih => funext _ _; simp only [pack_numbers_L1, gz28, ih, ez26]
def gz29 (B_ : Nat) (l1 : List Int) : Option (List Int) :=
  gz28 B_ l1 B_ [] 0
theorem ez29 : pack_numbers_f = gz29 BIG := by delta pack_numbers_f gz29; simp only [ez28]
def gz30 (B_ : Nat) (l1 : List Int) : Option (List Int) :=
  (gz26 B_ (l1.length : Int)).bind fun r1 => (gz29 B_ l1).bind fun r2 => chk ((r1.length + r2.length) * 1 ≤ 140737488355328) (some ((r1 ++ r2)))
theorem ez30 : pack_Ints_f = gz30 BIG := by delta pack_Ints_f gz30; simp only [ez26, ez29]
def gz31 (B_ : Nat) (c1 : Copy) : Option (List Int) :=
  (gz26 B_ c1.id).bind fun r1 => (gz26 B_ c1.ver).bind fun r2 => (gz27 B_ (strOfNums c1.data)).bind fun r3 => (gz30 B_ c1.sums).bind fun r4 => (gz25 B_ [r1, r2, r3, r4]).bind fun r5 => (sum_Of_f r5).bind fun r6 => chunk_page_L1 r6 B_ r5 0
theorem ez31 : chunk_page_f = gz31 BIG := by delta chunk_page_f gz31; simp only [ez26, ez27, ez30, ez25]
def gz32 (B_ : Nat) (b1 : List Int) : Option (List Int) :=
  nilqc b1 (some (([] : List Int))) (chk ((b1.length) * 1 ≤ 140737488355328) (some (b1)))
theorem ez32 : bytes_Clone_f = gz32 BIG := by delta bytes_Clone_f gz32; simp only [nilq_c]
def gz33 (B_ : Nat) (s1 : List Page) : Option (List Page) :=
  nilqc s1 (some (([] : List Page))) (chk ((s1.length) * 32 ≤ 140737488355328) (some (s1)))
theorem ez33 : slices_Clone_74_f = gz33 BIG := by delta slices_Clone_74_f gz33; simp only [nilq_c]
def gz34 (B_ : Nat) (d1 : Disk) (at1 : Int) (data1 : List Int) : Option (Disk × Int) :=
  cond d1.down (some (d1, 40)) ((disk_may_f at1 data1).bind fun r1 => cond (!r1) (some (d1, 1)) ((gz33 B_ d1.loose).bind fun r2 => (gz32 B_ data1).bind fun r3 => chk ((r2.length + 1) * 32 ≤ 140737488355328) (some ((⟨d1.synced, (r2 ++ [(⟨at1, r3⟩ : Page)]), d1.down⟩ : Disk), 0))))
theorem ez34 : disk_Write_f = gz34 BIG := by delta disk_Write_f gz34; simp only [ez33, ez32]
def gz35 (B_ : Nat) (d1 : Disk) (c1 : Copy) : Option (Disk × Int) :=
  (gz22 B_ c1).bind fun r1 => cond (!r1) (some (d1, 1)) ((gz31 B_ c1).bind fun r2 => (gz34 B_ d1 c1.id r2).bind fun r3 => some (r3.1, r3.2))
theorem ez35 : chunk_Put_f = gz35 BIG := by delta chunk_Put_f gz35; simp only [ez22, ez31, ez34]
def gz36 (B_ : Nat) (s1 : List Int) : Option (List Int) :=
  nilqc s1 (some (([] : List Int))) (chk ((s1.length) * 1 ≤ 140737488355328) (some (s1)))
theorem ez36 : slices_Clone_108_f = gz36 BIG := by delta slices_Clone_108_f gz36; simp only [nilq_c]
def gz37 (B_ : Nat) (id1 : Int) (ver1 : Int) (data1 : List Int) : Option Copy :=
  (gz36 B_ data1).bind fun r1 => (gz9 B_ data1).bind fun r2 => some ((⟨id1, ver1, r1, r2⟩ : Copy))
theorem ez37 : chunk_New_f = gz37 BIG := by delta chunk_New_f gz37; simp only [ez36, ez9]
def gz38 (B_ : Nat) (d1 : Disk) : Option (Disk × Int) :=
  cond d1.down (some (d1, 40)) ((gz10 B_ d1.synced d1.loose).bind fun r1 => some ((⟨r1, [], false⟩ : Disk), 0))
theorem ez38 : disk_Sync_f = gz38 BIG := by delta disk_Sync_f gz38; simp only [ez10]
def gz39 (B_ : Nat) (server1 : Int) (v1 : List Disk) (v2 : Chain) (v3 : List Int) : Option (List Disk) :=
  (idx v1 server1).bind fun x1 => (gz37 B_ v2.id v2.ver v3).bind fun r1 => (gz35 B_ x1 r1).bind fun r2 => (gz38 B_ r2.1).bind fun r3 => some ((v1.set server1.toNat r3.1))
theorem ez39 : chain_laying_1_f = gz39 BIG := by delta chain_laying_1_f gz39; simp only [ez37, ez35, ez38]
def gz40 (B_ : Nat) (servers1 : List Int) (id1 : Int) (r1 : (List Int)) (data1 : List Int) : Nat → (List Disk) → Int → Option (Chain × (List Disk) × Int)
  | 0, _, _ => none
  | m_ + 1, own2, v2 => cond (decide (v2 < (servers1.length : Int))) ((idx servers1 v2).bind fun x1 => (gz39 B_ x1 own2 (⟨id1, 1, r1⟩ : Chain) data1).bind fun r4 => chk (r4.length = own2.length) (gz40 B_ servers1 id1 r1 data1 m_ r4 (IntKind.wrap .i64 (v2 + 1)))) (chain_Make_J2 id1 r1 own2)
theorem ez40 (servers1 : List Int) (id1 : Int) (r1 : (List Int)) (data1 : List Int) (n_) : chain_Make_L1 servers1 id1 r1 data1 n_ = gz40 BIG servers1 id1 r1 data1 n_ := by
 induction n_ with
 | zero => rfl
 | succ m ih => funext _ _; simp only [chain_Make_L1, gz40, ih, ez39]
def gz41 (B_ : Nat) (disks1 : List Disk) (servers1 : List Int) (id1 : Int) (r1 : (List Int)) (data1 : List Int) (v1 : Bool) : Option (Chain × (List Disk) × Int) :=
  cond v1 (some ((⟨0, 0, []⟩ : Chain), disks1, 1)) ((gz20 B_ servers1 (fun y0_ => chain_Make_1_f y0_ disks1)).bind fun r2 => cond r2 (some ((⟨0, 0, []⟩ : Chain), disks1, 40)) ((gz17 B_ (⟨id1, 1, r1⟩ : Chain) disks1 data1).bind fun r3 => gz40 B_ servers1 id1 r1 data1 B_ r3 0))
theorem ez41 : chain_Make_J1 = gz41 BIG := by delta chain_Make_J1 gz41; simp only [ez20, ez17, ez40]
def gz42 (B_ : Nat) (id1 : Int) (servers1 : List Int) (disks1 : List Disk) (data1 : List Int) : Option (Chain × (List Disk) × Int) :=
  (gz18 B_ servers1).bind fun r1 => (gz15 B_ (⟨id1, 1, r1⟩ : Chain) disks1).bind fun r5 => gz41 B_ disks1 servers1 id1 r1 data1 ((!r5) || (decide (64 < (data1.length : Int))))
theorem ez42 : chain_Make_f = gz42 BIG := by delta chain_Make_f gz42; simp only [ez18, ez15, ez41]
def gz43 (B_ : Nat) (chunks1 : Int) (servers1 : Int) : Nat → (List Disk) → (List Chain) → Int → Option ((List Disk) × (List Chain) × Bool)
  | 0, _, _, _ => none
  | m_ + 1, disks5, l4, id2 => cond (decide (id2 < chunks1)) (chk (servers1 ≠ 0) (chk (servers1 ≠ 0) (chk (servers1 ≠ 0) ((gz11 B_ id2).bind fun r1 => (gz42 B_ id2 [(Int.tmod id2 servers1), (Int.tmod (IntKind.wrap .i64 (id2 + 1)) servers1), (Int.tmod (IntKind.wrap .i64 (id2 + 2)) servers1)] disks5 r1).bind fun r2 => top_farmR14_J3 (gz43 B_ chunks1 servers1 m_) l4 r2 id2 ((r2.2.2 != 0) || ((r2.2.1.length : Int) != (disks5.length : Int))))))) (top_farmR14_J2 disks5 l4)
theorem ez43 (chunks1 : Int) (servers1 : Int) (n_) : top_farmR14_L1 chunks1 servers1 n_ = gz43 BIG chunks1 servers1 n_ := by
 induction n_ with
 | zero => rfl
 | succ m ih => funext _ _ _; simp only [top_farmR14_L1, gz43, ih, ez11, ez42]
def gz44 (B_ : Nat) (chunks1 : Int) (servers1 : Int) (disks1 : List Disk) : Option ((List Disk) × (List Chain) × Bool) :=
  gz43 B_ chunks1 servers1 B_ disks1 [] 0
theorem ez44 : top_farmR14_J1 = gz44 BIG := by delta top_farmR14_J1 gz44; simp only [ez43]
def gz45 (B_ : Nat) (servers1 : Int) (chunks1 : Int) : Nat → (List Disk) → Int → Option ((List Disk) × (List Chain) × Bool)
  | 0, _, _ => none
  | m_ + 1, disks6, i1 => cond (decide (i1 < servers1)) ((disk_New_f).bind fun r3 => chk ((disks6.length + 1) * 56 ≤ 140737488355328) (gz45 B_ servers1 chunks1 m_ (disks6 ++ [r3]) (IntKind.wrap .i64 (i1 + 1)))) (gz44 B_ chunks1 servers1 disks6)
theorem ez45 (servers1 : Int) (chunks1 : Int) (n_) : top_farmR14_L2 servers1 chunks1 n_ = gz45 BIG servers1 chunks1 n_ := by
 induction n_ with
 | zero => rfl
 | succ m ih => funext _ _; simp only [top_farmR14_L2, gz45, ih, ez44]
def g_top_farmR14_f (B_ : Nat) (servers1 : Int) (chunks1 : Int) : Option ((List Disk) × (List Chain) × Bool) :=
  gz45 B_ servers1 chunks1 B_ [] 0
theorem e_top_farmR14_f : top_farmR14_f = g_top_farmR14_f BIG := by delta top_farmR14_f g_top_farmR14_f; simp only [ez45]
def gz47 (B_ : Nat) (s1 : List Page) (f1 : Page → Option Bool) : Option Int :=
  slices_IndexFunc_119_L1 s1 f1 B_ 0
theorem ez47 : slices_IndexFunc_119_f = gz47 BIG := rfl
def gz48 (B_ : Nat) (l1 : List Page) (is1 : Page → Option Bool) : Option Int :=
  (gz47 B_ l1 is1).bind fun r1 => some (r1)
theorem ez48 : disk_find_f = gz48 BIG := by delta disk_find_f gz48; simp only [ez47]
def gz49 (B_ : Nat) (s1 : List Page) : Option (List Page) :=
  slices_Reverse_L1 B_ s1 0 (IntKind.wrap .i64 ((((s1.length : Nat)) : Int) - 1))
theorem ez49 : slices_Reverse_f = gz49 BIG := rfl
def gz50 (B_ : Nat) (d1 : Disk) (at1 : Int) : Option ((List Int) × Int) :=
  cond d1.down (some ([], 40)) ((disk_may_f at1 []).bind fun r1 => cond (!r1) (some ([], 1)) ((gz8 B_ [d1.synced, d1.loose]).bind fun r2 => (gz49 B_ r2).bind fun r3 => chk (r3.length = r2.length) ((gz48 B_ r3 (fun y0_ => disk_Read_1_f y0_ at1)).bind fun r4 => cond (decide (r4 < 0)) (some ([], 41)) ((idx r3 r4).bind fun x1 => (gz32 B_ x1.data).bind fun r5 => some (r5, 0)))))
theorem ez50 : disk_Read_f = gz50 BIG := by delta disk_Read_f gz50; simp only [ez8, ez49, ez48, ez32]
def gz51 (B_ : Nat) (d1 : Disk) (id1 : Int) : Option ((List Int) × Int) :=
  (chunk_within_f id1).bind fun r1 => cond (!r1) (some ([], 1)) ((gz50 B_ d1 id1).bind fun r2 => chunk_there_J1 r2 ((r2.2 == 0) && ((r2.1.length : Int) == 0)))
theorem ez51 : chunk_there_f = gz51 BIG := by delta chunk_there_f gz51; simp only [ez50]
def gz52 (B_ : Nat) (b1 : List Int) : Option (Int × (List Int) × Int) :=
  pack_ReadInt_L1 b1 B_ 0 0
theorem ez52 : pack_ReadInt_f = gz52 BIG := rfl
def gz53 (B_ : Nat) (r1 : Reader) : Option (Int × Reader) :=
  (chunk_take_132_f r1 (gz52 B_)).bind fun r2 => some (r2.1, r2.2)
theorem ez53 : chunk_reader_int_f = gz53 BIG := by delta chunk_reader_int_f gz53; simp only [ez52]
def gz54 (B_ : Nat) (r1 : Reader195) : Option (Int × Reader195) :=
  cond (r1.e != 0) (some (0, (⟨(⟨r1.rest.b⟩ : Rest), r1.e⟩ : Reader195))) ((gz52 B_ r1.rest.b).bind fun r2 => some (r2.1, (⟨(⟨r2.2.1⟩ : Rest), r2.2.2⟩ : Reader195)))
theorem ez54 : pack_reader_num_f = gz54 BIG := by delta pack_reader_num_f gz54; simp only [ez52]
def gz55 (B_ : Nat) (r1 : Reader195) : Option (Int × Reader195) :=
  (gz54 B_ (⟨(⟨r1.rest.b⟩ : Rest), r1.e⟩ : Reader195)).bind fun r2 => cond (r2.2.e != 0) (some (0, (⟨(⟨r2.2.rest.b⟩ : Rest), r2.2.e⟩ : Reader195))) (cond (decide (r2.1 < 0)) (pack_reader_count_J1 r2 11) (cond (decide ((r2.2.rest.b.length : Int) < r2.1)) (pack_reader_count_J1 r2 10) (some (r2.1, (⟨(⟨r2.2.rest.b⟩ : Rest), r2.2.e⟩ : Reader195)))))
theorem ez55 : pack_reader_count_f = gz55 BIG := by delta pack_reader_count_f gz55; simp only [ez54]
def gz56 (B_ : Nat) (r1 : Reader195) : Option (ByteArray × Reader195) :=
  (gz55 B_ (⟨(⟨r1.rest.b⟩ : Rest), r1.e⟩ : Reader195)).bind fun r2 => cond (r2.2.e != 0) (some ((⟨#[]⟩ : ByteArray), (⟨(⟨r2.2.rest.b⟩ : Rest), r2.2.e⟩ : Reader195))) ((pack_rest_take_f (⟨(⟨r2.2.rest.b⟩ : Rest), r2.2.e⟩ : Reader195) r2.1).bind fun r3 => some ((strOfNums r3.1), (⟨(⟨r3.2.rest.b⟩ : Rest), r3.2.e⟩ : Reader195)))
theorem ez56 : pack_reader_str_f = gz56 BIG := by delta pack_reader_str_f gz56; simp only [ez55]
def gz57 (B_ : Nat) (b1 : List Int) : Option (ByteArray × (List Int) × Int) :=
  (gz56 B_ (⟨(⟨b1⟩ : Rest), 0⟩ : Reader195)).bind fun r1 => cond (r1.2.e != 0) (some ((⟨#[]⟩ : ByteArray), [], r1.2.e)) (some (r1.1, r1.2.rest.b, 0))
theorem ez57 : pack_ReadStr_f = gz57 BIG := by delta pack_ReadStr_f gz57; simp only [ez56]
def gz58 (B_ : Nat) (r2 : Int × Reader195) : Nat → Reader195 → (List Int) → Int → Option ((List Int) × (List Int) × Int)
  | 0, _, _, _ => none
  | m_ + 1, r3, out2, v1 => cond (decide (v1 < r2.1)) ((gz54 B_ (⟨(⟨r3.rest.b⟩ : Rest), r3.e⟩ : Reader195)).bind fun r4 => chk ((out2.length + 1) * 8 ≤ 140737488355328) (cond (r4.2.e != 0) (pack_ReadInts_J1 (⟨(⟨r4.2.rest.b⟩ : Rest), r4.2.e⟩ : Reader195) (out2 ++ [r4.1])) (gz58 B_ r2 m_ (⟨(⟨r4.2.rest.b⟩ : Rest), r4.2.e⟩ : Reader195) (out2 ++ [r4.1]) (IntKind.wrap .i64 (v1 + 1))))) (pack_ReadInts_J1 (⟨(⟨r3.rest.b⟩ : Rest), r3.e⟩ : Reader195) out2)
theorem ez58 (r2 : Int × Reader195) (n_) : pack_ReadInts_L1 r2 n_ = gz58 BIG r2 n_ := by
 induction n_ with
 | zero => rfl
 | succ m ih => funext _ _ _; simp only [pack_ReadInts_L1, gz58, ih, ez54]
def gz59 (B_ : Nat) (b1 : List Int) : Option ((List Int) × (List Int) × Int) :=
  (gz55 B_ (⟨(⟨b1⟩ : Rest), 0⟩ : Reader195)).bind fun r2 => gz58 B_ r2 B_ (⟨(⟨r2.2.rest.b⟩ : Rest), r2.2.e⟩ : Reader195) [] 0
theorem ez59 : pack_ReadInts_f = gz59 BIG := by delta pack_ReadInts_f gz59; simp only [ez55, ez58]
def gz60 (B_ : Nat) (r1 : Reader) : Option (Copy × Bool × Reader) :=
  (gz53 B_ r1).bind fun r2 => (gz53 B_ r2.2).bind fun r3 => (chunk_take_f r3.2 (gz57 B_)).bind fun r4 => chk (r4.1.size ≤ 140737488355328) ((chunk_take_92_f r4.2 (gz59 B_)).bind fun r5 => cond (!r5.2.bad) (some ((⟨r2.1, r3.1, (strBytes r4.1), r5.1⟩ : Copy), ((r5.2.b.length : Int) == 0), r5.2)) (some ((⟨r2.1, r3.1, (strBytes r4.1), r5.1⟩ : Copy), false, r5.2)))
theorem ez60 : chunk_reader_copy_f = gz60 BIG := by delta chunk_reader_copy_f gz60; simp only [ez53, ez57, ez59]
def gz61 (B_ : Nat) (d1 : Disk) (id1 : Int) : Option (Copy × Int) :=
  (gz51 B_ d1 id1).bind fun r1 => cond (r1.2 != 0) (some ((⟨0, 0, [], []⟩ : Copy), r1.2)) (cond (decide ((r1.1.length : Int) < 4)) (some ((⟨0, 0, [], []⟩ : Copy), 251)) (chk (0 ≤ 0 ∧ 0 ≤ (IntKind.wrap .i64 ((r1.1.length : Int) - 4)) ∧ (IntKind.wrap .i64 ((r1.1.length : Int) - 4)) ≤ (r1.1.length : Int)) ((gz60 B_ (⟨((r1.1.take (IntKind.wrap .i64 ((r1.1.length : Int) - 4)).toNat).drop 0), false⟩ : Reader)).bind fun r2 => cond (!r2.2.1) (chunk_Get_J1 r2 true) ((gz22 B_ r2.1).bind fun r3 => cond (!r3) (chunk_Get_J1 r2 true) (cond (r2.1.id != id1) (chunk_Get_J1 r2 true) ((gz31 B_ r2.1).bind fun r4 => (bytes_Equal_f r4 r1.1).bind fun r5 => chunk_Get_J1 r2 (!r5)))))))
theorem ez61 : chunk_Get_f = gz61 BIG := by delta chunk_Get_f gz61; simp only [ez51, ez60, ez22, ez31]
def gz62 (B_ : Nat) (disks1 : List Disk) (s1 : Int) (c1 : Chain) (v1 : Bool) : Option Int :=
  cond v1 (some (1)) ((idx disks1 s1).bind fun x1 => (gz61 B_ x1 c1.id).bind fun r1 => cond (r1.2 == 41) (some (2)) (cond (r1.2 != 0) (some (3)) (cond (decide (r1.1.ver < c1.ver)) (some (4)) (cond (decide (c1.ver < r1.1.ver)) (some (5)) (some (0))))))
theorem ez62 : scrub_stands_J1 = gz62 BIG := by delta scrub_stands_J1 gz62; simp only [ez61]
def gz63 (B_ : Nat) (disks1 : List Disk) (c1 : Chain) (s1 : Int) : Option Int :=
  cond (decide ((disks1.length : Int) ≤ s1)) (gz62 B_ disks1 s1 c1 true) ((idx disks1 s1).bind fun x2 => gz62 B_ disks1 s1 c1 x2.down)
theorem ez63 : scrub_stands_f = gz63 BIG := by delta scrub_stands_f gz63; simp only [ez62]
def gz64 (B_ : Nat) (c : Chain) (disks : List Disk) : List Int → Option (List (Int × Int))
  | [] => some []
  | s :: l => (gz63 B_ disks c s).bind fun r => (gz64 B_ c disks l).bind fun t => some ((s, r) :: t)
theorem ez64 (c : Chain) (disks : List Disk) (n_) : allL c disks n_ = gz64 BIG c disks n_ := by
 induction n_ with
 | nil => first | rfl | simp only [allL, gz64, ez63]
 | cons y r ih => simp only [allL, gz64, ih, ez63]
def gz65 (B_ : Nat) (c1 : Chain) (disks1 : List Disk) : Option (List (Int × Int)) := gz64 B_ c1 disks1 c1.servers
theorem ez65 : scrub_all_1_f = gz65 BIG := by delta scrub_all_1_f gz65; simp only [ez64]
def gz66 (B_ : Nat) (c1 : Chain) (disks1 : List Disk) : Option ((List Int) × Int) :=
  (idx c1.servers (IntKind.wrap .i64 ((c1.servers.length : Int) - 1))).bind fun x1 => (idx disks1 x1).bind fun x2 => (gz61 B_ x2 c1.id).bind fun r1 => cond (r1.2 != 0) (some ([], r1.2)) (cond (r1.1.ver != c1.ver) (some ([], 250)) (some (r1.1.data, 0)))
theorem ez66 : chain_Read_f = gz66 BIG := by delta chain_Read_f gz66; simp only [ez61]
def gz67 (B_ : Nat) (a1 : List Int) (b1 : List Int) : Option Bool :=
  cond ((a1.length : Int) != (b1.length : Int)) (some (false)) (ref02_Bytes_L1 a1 b1 B_ 0)
theorem ez67 : ref02_Bytes_f = gz67 BIG := rfl
def gz68 (B_ : Nat) (a1 : List Int) (b1 : List Int) : Option Bool :=
  cond ((a1.length : Int) != (b1.length : Int)) (some (false)) (ref02_Ints_L1 a1 b1 B_ 0)
theorem ez68 : ref02_Ints_f = gz68 BIG := rfl
def gz69 (B_ : Nat) (disks1 : List Disk) (c1 : Chain) : Option (List Find) :=
  (scrub_all_f disks1 c1).bind fun r1 => (gz65 B_ c1 disks1).bind fun ys1 => scrub_Look_L1 c1 ys1 ([] : List Find)
theorem ez69 : scrub_Look_f = gz69 BIG := by delta scrub_Look_f gz69; simp only [ez65]
def gz70 (B_ : Nat) (disks1 : List Disk) (c1 : Chain) : Option (List Int) :=
  (scrub_all_f disks1 c1).bind fun r1 => (gz65 B_ c1 disks1).bind fun ys1 => scrub_Intact_L1 ys1 ([] : List Int)
theorem ez70 : scrub_Intact_f = gz70 BIG := by delta scrub_Intact_f gz70; simp only [ez65]
def gz71 (B_ : Nat) (b1 : Int) (a1 : Int) (cmp1 : Find → Find → Option Int) : Nat → (List Find) → Int → Option (List Find)
  | 0, _, _ => none
  | m_ + 1, data2, i1 => cond (decide (i1 < b1)) (slices_insertionSortCmpFunc_L2 (gz71 B_ b1 a1 cmp1 m_) a1 cmp1 i1 B_ data2 i1) (some (data2))
theorem ez71 (b1 : Int) (a1 : Int) (cmp1 : Find → Find → Option Int) (n_) : slices_insertionSortCmpFunc_L1 b1 a1 cmp1 n_ = gz71 BIG b1 a1 cmp1 n_ := by
 induction n_ with
 | zero => rfl
 | succ m ih => funext _ _; simp only [slices_insertionSortCmpFunc_L1, gz71, ih]
def gz72 (B_ : Nat) (data1 : List Find) (a1 : Int) (b1 : Int) (cmp1 : Find → Find → Option Int) : Option (List Find) :=
  gz71 B_ b1 a1 cmp1 B_ data1 (IntKind.wrap .i64 (a1 + 1))
theorem ez72 : slices_insertionSortCmpFunc_f = gz72 BIG := by delta slices_insertionSortCmpFunc_f gz72; simp only [ez71]
def gz73 (B_ : Nat) (b1 : Int) (a1 : Int) (data1 : List Find) (cmp1 : Find → Find → Option Int) : Nat → Option (List Find)
  | 0 => none
  | m_ + 1 => chk ((decide ((IntKind.wrap .i64 (b1 - a1)) ≤ 12)) = true) ((gz72 B_ data1 a1 b1 cmp1).bind fun r1 => chk (r1.length = data1.length) (some (r1)))
theorem ez73 (b1 : Int) (a1 : Int) (data1 : List Find) (cmp1 : Find → Find → Option Int) (n_) : slices_pdqsortCmpFunc_L1 b1 a1 data1 cmp1 n_ = gz73 BIG b1 a1 data1 cmp1 n_ := by
 induction n_ with
 | zero => rfl
 | succ m ih => simp only [slices_pdqsortCmpFunc_L1, gz73, ih, ez72]
def gz74 (B_ : Nat) (data1 : List Find) (a1 : Int) (b1 : Int) (limit1 : Int) (cmp1 : Find → Find → Option Int) : Option (List Find) :=
  gz73 B_ b1 a1 data1 cmp1 B_
theorem ez74 : slices_pdqsortCmpFunc_f = gz74 BIG := by delta slices_pdqsortCmpFunc_f gz74; simp only [ez73]
def gz75 (B_ : Nat) (x1 : List Find) (cmp1 : Find → Find → Option Int) : Option (List Find) :=
  (math_bits_Len_f (IntKind.wrap .u64 (((x1.length : Nat)) : Int))).bind fun r1 => (gz74 B_ x1 0 (((x1.length : Nat)) : Int) r1 cmp1).bind fun r2 => chk (r2.length = x1.length) (some (r2))
theorem ez75 : slices_SortFunc_f = gz75 BIG := by delta slices_SortFunc_f gz75; simp only [ez74]
def gz76 (B_ : Nat) (x1 : Int) (v1 : Chain) (v2 : Int) : Option Bool :=
  (g_slices_Index_f B_ v1.servers x1).bind fun r1 => some ((decide (v2 < r1)))
theorem ez76 : scrub_next_1_f = gz76 BIG := by delta scrub_next_1_f gz76; simp only [e_slices_Index_f]
def g_scrub_next_f (B_ : Nat) (c1 : Chain) (own1 : List Int) (s1 : Int) : Option Int :=
  (g_slices_Index_f B_ c1.servers s1).bind fun r1 => (gz19 B_ own1 (fun y0_ => gz76 B_ y0_ c1 r1)).bind fun r2 => cond (decide (0 ≤ r2)) ((idx own1 r2).bind fun x1 => some (x1)) ((idx own1 (IntKind.wrap .i64 ((own1.length : Int) - 1))).bind fun x2 => some (x2))
theorem e_scrub_next_f : scrub_next_f = g_scrub_next_f BIG := by delta scrub_next_f g_scrub_next_f; simp only [e_slices_Index_f, ez19, ez76]
def gz78 (B_ : Nat) (k_scrub_Plan_L1 : (List Job) → (List Int) → Int → Option ((List Job) × (List Int))) (r3 : (List Find)) (x1 : Chain) (r1 : (List Int)) (disks1 : List Disk) (v1 : Int) (lost2 : List Int) : Nat → (List Job) → Int → Int → Option ((List Job) × (List Int))
  | 0, _, _, _ => none
  | m_ + 1, out4, v2, v3 => cond (decide (v3 < v2)) ((idx r3 v3).bind fun x2 => cond (x2.what != 1) ((g_scrub_next_f B_ x1 r1 x2.server).bind fun r4 => (idx disks1 r4).bind fun x3 => (gz61 B_ x3 x1.id).bind fun r5 => chk ((out4.length + 1) * 48 ≤ 140737488355328) (scrub_Plan_J3 (gz78 B_ k_scrub_Plan_L1 r3 x1 r1 disks1 v1 lost2 m_) v2 v3 (out4 ++ [(⟨x1.id, x1.ver, r4, x2.server, (r1.length : Int), (IntKind.wrap .i64 ((r5.1.data.length : Int) + 1))⟩ : Job)]))) (scrub_Plan_J3 (gz78 B_ k_scrub_Plan_L1 r3 x1 r1 disks1 v1 lost2 m_) v2 v3 out4)) (scrub_Plan_J2 k_scrub_Plan_L1 v1 out4 lost2)
theorem ez78 (k_scrub_Plan_L1 : (List Job) → (List Int) → Int → Option ((List Job) × (List Int))) (r3 : (List Find)) (x1 : Chain) (r1 : (List Int)) (disks1 : List Disk) (v1 : Int) (lost2 : List Int) (n_) : scrub_Plan_L2 k_scrub_Plan_L1 r3 x1 r1 disks1 v1 lost2 n_ = gz78 BIG k_scrub_Plan_L1 r3 x1 r1 disks1 v1 lost2 n_ := by
 induction n_ with
 | zero => rfl
 | succ m ih => funext _ _ _; simp only [scrub_Plan_L2, gz78, ih, e_scrub_next_f, ez61]
def gz79 (B_ : Nat) (l1 : List Chain) (disks1 : List Disk) : Nat → (List Job) → (List Int) → Int → Option ((List Job) × (List Int))
  | 0, _, _, _ => none
  | m_ + 1, out2, lost2, v1 => cond (decide (v1 < (l1.length : Int))) ((idx l1 v1).bind fun x1 => (gz70 B_ disks1 x1).bind fun r1 => cond ((r1.length : Int) == 0) (chk ((lost2.length + 1) * 8 ≤ 140737488355328) (scrub_Plan_J2 (gz79 B_ l1 disks1 m_) v1 out2 (lost2 ++ [x1.id]))) ((gz69 B_ disks1 x1).bind fun r2 => (gz75 B_ r2 scrub_Plan_1_f).bind fun r3 => chk (r3.length = r2.length) (gz78 B_ (gz79 B_ l1 disks1 m_) r3 x1 r1 disks1 v1 lost2 B_ out2 (((r2.length : Nat)) : Int) 0))) (scrub_Plan_J1 out2 lost2)
theorem ez79 (l1 : List Chain) (disks1 : List Disk) (n_) : scrub_Plan_L1 l1 disks1 n_ = gz79 BIG l1 disks1 n_ := by
 induction n_ with
 | zero => rfl
 | succ m ih => funext _ _ _; simp only [scrub_Plan_L1, gz79, ih, ez70, ez69, ez75, ez78]
def gz80 (B_ : Nat) (disks1 : List Disk) (l1 : List Chain) : Option ((List Job) × (List Int)) :=
  gz79 B_ l1 disks1 B_ [] [] 0
theorem ez80 : scrub_Plan_f = gz80 BIG := by delta scrub_Plan_f gz80; simp only [ez79]
def gz81 (B_ : Nat) (d1 : Disk) (r1 : Int) (bit1 : Int) (v1 : Bool) : Option Disk :=
  cond v1 (some (d1)) ((idx d1.synced r1).bind fun x1 => (gz32 B_ x1.data).bind fun r2 => (idx r2 (IntKind.wrap .i64 (Int.tdiv bit1 8))).bind fun x2 => chk (0 ≤ (Int.tmod bit1 8)) ((gz33 B_ d1.synced).bind fun r3 => (idx r3 r1).bind fun x3 => some ((⟨(r3.set r1.toNat (⟨x3.at_, (r2.set ((IntKind.wrap .i64 (Int.tdiv bit1 8)).toNat) (IntKind.wrap .u8 (BitVec.ofInt (IntKind.bits .u8) x2 ^^^ BitVec.ofInt (IntKind.bits .u8) (IntKind.wrap .u8 (1 * 2 ^ (min (Int.tmod bit1 8).toNat (IntKind.bits .u8))))).toNat))⟩ : Page)), d1.loose, d1.down⟩ : Disk))))
theorem ez81 : disk_Rot_J1 = gz81 BIG := by delta disk_Rot_J1 gz81; simp only [ez32, ez33]
def gz82 (B_ : Nat) (d1 : Disk) (at1 : Int) (bit1 : Int) : Option Disk :=
  (gz48 B_ d1.synced (fun y0_ => disk_Rot_1_f y0_ at1)).bind fun r1 => cond (decide (r1 < 0)) (gz81 B_ d1 r1 bit1 true) (cond (decide (bit1 < 0)) (gz81 B_ d1 r1 bit1 true) ((idx d1.synced r1).bind fun x4 => gz81 B_ d1 r1 bit1 (decide ((IntKind.wrap .i64 (8 * (x4.data.length : Int))) ≤ bit1))))
theorem ez82 : disk_Rot_f = gz82 BIG := by delta disk_Rot_f gz82; simp only [ez48, ez81]
def gz83 (B_ : Nat) (s1 : List Job) : Option (List Job) :=
  nilqc s1 (some (([] : List Job))) (chk ((s1.length) * 48 ≤ 140737488355328) (some (s1)))
theorem ez83 : slices_Clone_120_f = gz83 BIG := by delta slices_Clone_120_f gz83; simp only [nilq_c]
def gz84 (B_ : Nat) (l1 : List Job) (budget1 : Int) : Option ((List Job) × (List Job)) :=
  (gz83 B_ l1).bind fun r1 => mend_Step_L1 r1 B_ budget1 [] 0 r1.length
theorem ez84 : mend_Step_f = gz84 BIG := by delta mend_Step_f gz84; simp only [ez83]
def gz85 (B_ : Nat) (s1 : List Job) (f1 : Job → Option Bool) : Option Int :=
  slices_IndexFunc_121_L1 s1 f1 B_ 0
theorem ez85 : slices_IndexFunc_121_f = gz85 BIG := rfl
def gz86 (B_ : Nat) (l1 : List Job) : Nat → (List Job) → Int → Int → Option (List Job)
  | 0, _, _, _ => none
  | m_ + 1, out2, v1, v2 => cond (decide (v2 < v1)) ((idx out2 v2).bind fun x1 => (mend_of_f x1).bind fun r2 => (gz85 B_ l1 (fun y0_ => mend_spot_is_f (⟨r2.id, r2.to_⟩ : Spot) y0_)).bind fun r3 => cond (decide (0 ≤ r3)) ((idx l1 r3).bind fun x4 => mend_Renew_J3 (gz86 B_ l1 m_) l1 r3 out2 v2 v1 x1 (x4.ver == x1.ver)) (mend_Renew_J3 (gz86 B_ l1 m_) l1 r3 out2 v2 v1 x1 false)) (mend_Renew_J1 out2)
theorem ez86 (l1 : List Job) (n_) : mend_Renew_L1 l1 n_ = gz86 BIG l1 n_ := by
 induction n_ with
 | zero => rfl
 | succ m ih => funext _ _ _; simp only [mend_Renew_L1, gz86, ih, ez85]
def gz87 (B_ : Nat) (l1 : List Job) (plan1 : List Job) : Option (List Job) :=
  (gz83 B_ plan1).bind fun r1 => gz86 B_ l1 B_ r1 (((r1.length : Nat)) : Int) 0
theorem ez87 : mend_Renew_f = gz87 BIG := by delta mend_Renew_f gz87; simp only [ez83, ez86]
def gz88 (B_ : Nat) (s1 : List Job) (f1 : Job → Option Bool) : Option Bool :=
  (gz85 B_ s1 f1).bind fun r1 => some ((decide (0 ≤ r1)))
theorem ez88 : slices_ContainsFunc_125_f = gz88 BIG := by delta slices_ContainsFunc_125_f gz88; simp only [ez85]
def gz89 (B_ : Nat) (b1 : Int) (a1 : Int) (cmp1 : Job → Job → Option Int) : Nat → (List Job) → Int → Option (List Job)
  | 0, _, _ => none
  | m_ + 1, data2, i1 => cond (decide (i1 < b1)) (slices_insertionSortCmpFunc_176_L2 (gz89 B_ b1 a1 cmp1 m_) a1 cmp1 i1 B_ data2 i1) (some (data2))
theorem ez89 (b1 : Int) (a1 : Int) (cmp1 : Job → Job → Option Int) (n_) : slices_insertionSortCmpFunc_176_L1 b1 a1 cmp1 n_ = gz89 BIG b1 a1 cmp1 n_ := by
 induction n_ with
 | zero => rfl
 | succ m ih => funext _ _; simp only [slices_insertionSortCmpFunc_176_L1, gz89, ih]
def gz90 (B_ : Nat) (data1 : List Job) (a1 : Int) (b1 : Int) (cmp1 : Job → Job → Option Int) : Option (List Job) :=
  gz89 B_ b1 a1 cmp1 B_ data1 (IntKind.wrap .i64 (a1 + 1))
theorem ez90 : slices_insertionSortCmpFunc_176_f = gz90 BIG := by delta slices_insertionSortCmpFunc_176_f gz90; simp only [ez89]
def gz91 (B_ : Nat) (b1 : Int) (a1 : Int) (data1 : List Job) (cmp1 : Job → Job → Option Int) : Nat → Option (List Job)
  | 0 => none
  | m_ + 1 => chk ((decide ((IntKind.wrap .i64 (b1 - a1)) ≤ 12)) = true) ((gz90 B_ data1 a1 b1 cmp1).bind fun r1 => chk (r1.length = data1.length) (some (r1)))
theorem ez91 (b1 : Int) (a1 : Int) (data1 : List Job) (cmp1 : Job → Job → Option Int) (n_) : slices_pdqsortCmpFunc_156_L1 b1 a1 data1 cmp1 n_ = gz91 BIG b1 a1 data1 cmp1 n_ := by
 induction n_ with
 | zero => rfl
 | succ m ih => simp only [slices_pdqsortCmpFunc_156_L1, gz91, ih, ez90]
def gz92 (B_ : Nat) (data1 : List Job) (a1 : Int) (b1 : Int) (limit1 : Int) (cmp1 : Job → Job → Option Int) : Option (List Job) :=
  gz91 B_ b1 a1 data1 cmp1 B_
theorem ez92 : slices_pdqsortCmpFunc_156_f = gz92 BIG := by delta slices_pdqsortCmpFunc_156_f gz92; simp only [ez91]
def gz93 (B_ : Nat) (x1 : List Job) (cmp1 : Job → Job → Option Int) : Option (List Job) :=
  (math_bits_Len_f (IntKind.wrap .u64 (((x1.length : Nat)) : Int))).bind fun r1 => (gz92 B_ x1 0 (((x1.length : Nat)) : Int) r1 cmp1).bind fun r2 => chk (r2.length = x1.length) (some (r2))
theorem ez93 : slices_SortFunc_126_f = gz93 BIG := by delta slices_SortFunc_126_f gz93; simp only [ez92]
def gz94 (B_ : Nat) (vals1 : List Int) : Option Int :=
  cmp_Or_L1 vals1 B_ 0
theorem ez94 : cmp_Or_f = gz94 BIG := rfl
def gz95 (B_ : Nat) (a1 : Job) (b1 : Job) : Option Int :=
  (cmp_Compare_f a1.have_ b1.have_).bind fun r1 => (cmp_Compare_f a1.id b1.id).bind fun r2 => (cmp_Compare_f a1.to_ b1.to_).bind fun r3 => (gz94 B_ [r1, r2, r3]).bind fun r4 => some (r4)
theorem ez95 : mend_against_f = gz95 BIG := by delta mend_against_f gz95; simp only [ez94]
def gz96 (B_ : Nat) (out1 : List Job) : Option (List Job) :=
  (gz93 B_ out1 (gz95 B_)).bind fun r1 => chk (r1.length = out1.length) (some (r1))
theorem ez96 : mend_Order_J1 = gz96 BIG := by delta mend_Order_J1 gz96; simp only [ez93, ez95]
def gz97 (B_ : Nat) (l1 : List Job) : Nat → (List Job) → Int → Option (List Job)
  | 0, _, _ => none
  | m_ + 1, out2, v1 => cond (decide (v1 < (l1.length : Int))) ((idx l1 v1).bind fun x1 => (mend_may_f x1).bind fun r2 => cond r2 ((mend_of_f x1).bind fun r3 => (gz88 B_ out2 (fun y0_ => mend_spot_is_f (⟨r3.id, r3.to_⟩ : Spot) y0_)).bind fun r4 => mend_Order_J3 (gz97 B_ l1 m_) out2 v1 x1 (!r4)) (mend_Order_J3 (gz97 B_ l1 m_) out2 v1 x1 false)) (gz96 B_ out2)
theorem ez97 (l1 : List Job) (n_) : mend_Order_L1 l1 n_ = gz97 BIG l1 n_ := by
 induction n_ with
 | zero => rfl
 | succ m ih => funext _ _; simp only [mend_Order_L1, gz97, ih, ez88, ez96]
def gz98 (B_ : Nat) (l1 : List Job) : Option (List Job) :=
  gz97 B_ l1 B_ [] 0
theorem ez98 : mend_Order_f = gz98 BIG := by delta mend_Order_f gz98; simp only [ez97]
def gz99 (B_ : Nat) (disks1 : List Disk) (s1 : Int) (d1 : Disk) (e1 : Int) : Option ((List Disk) × Int) :=
  cond (e1 != 0) (some (disks1, e1)) ((gz16 B_ disks1).bind fun r2 => (idx r2 s1).bind fun x2 => some ((r2.set s1.toNat d1), 0))
theorem ez99 : scrub_turn_J1 = gz99 BIG := by delta scrub_turn_J1 gz99; simp only [ez16]
def gz100 (B_ : Nat) (disks1 : List Disk) (s1 : Int) (how1 : Disk → Option (Disk × Int)) : Option ((List Disk) × Int) :=
  (idx disks1 s1).bind fun x1 => (how1 x1).bind fun r1 => cond (r1.2 == 0) ((gz38 B_ r1.1).bind fun r3 => gz99 B_ disks1 s1 r3.1 r3.2) (gz99 B_ disks1 s1 r1.1 r1.2)
theorem ez100 : scrub_turn_f = gz100 BIG := by delta scrub_turn_f gz100; simp only [ez38, ez99]
def gz101 (B_ : Nat) (d1 : Disk) (v1 : Copy) : Option (Disk × Int) :=
  (gz35 B_ d1 v1).bind fun r1 => some (r1.1, r1.2)
theorem ez101 : scrub_Copy_1_f = gz101 BIG := by delta scrub_Copy_1_f gz101; simp only [ez35]
def gz102 (B_ : Nat) (disks1 : List Disk) (j1 : Job) (v1 : Bool) : Option ((List Disk) × Int) :=
  cond v1 (some (disks1, 1)) ((idx disks1 j1.from_).bind fun x1 => (gz61 B_ x1 j1.id).bind fun r1 => cond (r1.2 != 0) (some (disks1, r1.2)) (cond (r1.1.ver != j1.ver) (some (disks1, 250)) ((gz100 B_ disks1 j1.to_ (fun y0_ => gz101 B_ y0_ r1.1)).bind fun r2 => some (r2.1, r2.2))))
theorem ez102 : scrub_Copy_J1 = gz102 BIG := by delta scrub_Copy_J1 gz102; simp only [ez61, ez100, ez101]
def gz103 (B_ : Nat) (disks1 : List Disk) (j1 : Job) : Option ((List Disk) × Int) :=
  (scrub_there_f disks1 j1.from_).bind fun r3 => cond (!r3) (gz102 B_ disks1 j1 true) ((scrub_there_f disks1 j1.to_).bind fun r4 => gz102 B_ disks1 j1 (!r4))
theorem ez103 : scrub_Copy_f = gz103 BIG := by delta scrub_Copy_f gz103; simp only [ez102]
def gz104 (B_ : Nat) (l1 : List Job) : Nat → (List Disk) → (List Job) → Int → Option ((List Disk) × (List Job))
  | 0, _, _, _ => none
  | m_ + 1, disks3, done2, v1 => cond (decide (v1 < (l1.length : Int))) ((idx l1 v1).bind fun x1 => (gz103 B_ disks3 x1).bind fun r1 => cond (r1.2 == 0) (chk ((done2.length + 1) * 48 ≤ 140737488355328) (mend_Do_J2 (gz104 B_ l1 m_) v1 r1.1 (done2 ++ [x1]))) (mend_Do_J2 (gz104 B_ l1 m_) v1 disks3 done2)) (mend_Do_J1 disks3 done2)
theorem ez104 (l1 : List Job) (n_) : mend_Do_L1 l1 n_ = gz104 BIG l1 n_ := by
 induction n_ with
 | zero => rfl
 | succ m ih => funext _ _ _; simp only [mend_Do_L1, gz104, ih, ez103]
def gz105 (B_ : Nat) (disks1 : List Disk) (l1 : List Job) : Option ((List Disk) × (List Job)) :=
  gz104 B_ l1 B_ disks1 [] 0
theorem ez105 : mend_Do_f = gz105 BIG := by delta mend_Do_f gz105; simp only [ez104]
def gz106 (B_ : Nat) (disks1 : List Disk) (chains1 : List Chain) (l1 : List Job) (budget1 : Int) : Option ((List Disk) × (List Job) × (List Job)) :=
  (gz80 B_ disks1 chains1).bind fun r1 => (gz98 B_ r1.1).bind fun r2 => (gz87 B_ l1 r2).bind fun r3 => (gz84 B_ r3 budget1).bind fun r4 => (gz105 B_ disks1 r4.2).bind fun r5 => some (r5.1, r4.1, r5.2)
theorem ez106 : mend_Round_f = gz106 BIG := by delta mend_Round_f gz106; simp only [ez80, ez98, ez87, ez84, ez105]
def gz107 (B_ : Nat) (d1 : Disk) : Nat → (List Int) → Int → Option (List Int)
  | 0, _, _ => none
  | m_ + 1, out2, v1 => cond (decide (v1 < 200)) ((gz51 B_ d1 v1).bind fun r1 => cond (r1.2 == 0) (chk ((out2.length + 1) * 8 ≤ 140737488355328) (chunk_Has_J2 (gz107 B_ d1 m_) v1 (out2 ++ [v1]))) (chunk_Has_J2 (gz107 B_ d1 m_) v1 out2)) (chunk_Has_J1 out2)
theorem ez107 (d1 : Disk) (n_) : chunk_Has_L1 d1 n_ = gz107 BIG d1 n_ := by
 induction n_ with
 | zero => rfl
 | succ m ih => funext _ _; simp only [chunk_Has_L1, gz107, ih, ez51]
def gz108 (B_ : Nat) (d1 : Disk) : Option (List Int) :=
  gz107 B_ d1 B_ [] 0
theorem ez108 : chunk_Has_f = gz108 BIG := by delta chunk_Has_f gz108; simp only [ez107]
def gz109 (B_ : Nat) : List Disk → Option (List (List Int))
  | [] => some []
  | d :: l => (gz108 B_ d).bind fun h => (gz109 B_ l).bind fun t => some (h :: t)
theorem ez109 (n_) : hasAll  n_ = gz109 BIG  n_ := by
 induction n_ with
 | nil => first | rfl | simp only [hasAll, gz109, ez108]
 | cons y r ih => simp only [hasAll, gz109, ih, ez108]
def gz110 (B_ : Nat) (named1 : List Named) (rooms1 : List Room) (leases1 : List Lease) (now1 : Int) (disks1 : List Disk) : Option (List Int) :=
  (gz109 B_ disks1).bind fun hss => chk (rooms1.isEmpty = true ∧ (named1.all fun p => (Lit.int .i64 p.id).wf) = true ∧ (hss.all fun hs => hs.all fun x => (Lit.int .i64 x).wf) = true ∧ (hss.flatMap (gone1 (named1.map (·.id)))).length ≤ 12) (some (sortI (hss.flatMap (gone1 (named1.map (·.id))))))
theorem ez110 : sweep_Gone_f = gz110 BIG := by delta sweep_Gone_f gz110; simp only [ez109]
def gz111 (B_ : Nat) (r1 : (List Disk) × (List Chain) × Bool) (v1 : Bool) : Option Bool :=
  cond v1 (some (false)) (chk ((r1.1.length) * 56 ≤ 140737488355328) ((idx r1.1 0).bind fun x1 => (gz82 B_ x1 0 3).bind fun r2 => (gz80 B_ (r1.1.set 0 r2) r1.2.1).bind fun r3 => (gz106 B_ (r1.1.set 0 r2) r1.2.1 [] 5).bind fun r4 => (gz106 B_ r4.1 r1.2.1 r4.2.1 5).bind fun r5 => (idx r1.2.1 0).bind fun x2 => (gz66 B_ x2 r5.1).bind fun r6 => (gz110 B_ [(⟨0, 0, 0, 0⟩ : Named)] [] [] 0 r5.1).bind fun r7 => cond ((r3.1.length : Int) == 1) (cond ((r3.2.length : Int) == 0) ((idx r3.1 0).bind fun x3 => cond (x3.from_ == 1) (cond (x3.left == 6) (cond ((r4.2.2.length : Int) == 0) (cond ((r4.2.1.length : Int) == 1) (cond ((r5.2.1.length : Int) == 0) (cond ((r5.2.2.length : Int) == 1) (cond (r6.2 == 0) ((gz11 B_ 0).bind fun r8 => (gz67 B_ r6.1 r8).bind fun r9 => cond r9 ((gz68 B_ r7 [1]).bind fun r10 => some (r10)) (some (false))) (some (false))) (some (false))) (some (false))) (some (false))) (some (false))) (some (false))) (some (false))) (some (false))) (some (false))))
theorem ez111 : top_head29_J1 = gz111 BIG := by delta top_head29_J1 gz111; simp only [ez82, ez80, ez106, ez66, ez110, ez11, ez67, ez68]
def g_top_head29_f (B_ : Nat) : Option Bool :=
  (g_top_farmR14_f B_ 4 2).bind fun r1 => gz111 B_ r1 ((!r1.2.2) || (((r1.1.length : Int) != 4) || ((r1.2.1.length : Int) != 2)))
theorem e_top_head29_f : top_head29_f = g_top_head29_f BIG := by delta top_head29_f g_top_head29_f; simp only [e_top_farmR14_f, ez111]
end Go.Proofs.YtjflkcfafijhfaaGreat
/- The head and the farm as plain laws, by the kernel. -/
namespace Go.Proofs.YtjflkcfafijhfaaGreat
open Go.Ab
set_option maxRecDepth 100000 in
theorem g_head_true : g_top_head29_f 1000000000000000000 = some true := by decide +kernel
theorem head_true : top_head29_f = some true := by rw [e_top_head29_f, BIG_eq]; exact g_head_true
def P0 : List Int := [0, 2, 10, 0, 1, 2, 3, 4, 2, 140, 196, 173, 194, 4, 57, 163, 163, 60]
def dk (b : List Int) : Disk := ⟨[⟨0, b⟩], [], false⟩
def dk0 : Disk := ⟨[], [], false⟩
def ch0 : Chain := ⟨0, 1, [0, 1, 2]⟩
def farm (n : Nat) : List Disk := [dk P0, dk P0, dk P0] ++ List.replicate (n - 3) dk0
set_option maxRecDepth 100000 in
theorem g_farm3 : g_top_farmR14_f 1000000000000000000 3 1 = some (farm 3, [ch0], true) := by decide +kernel
set_option maxRecDepth 100000 in
theorem g_farm4 : g_top_farmR14_f 1000000000000000000 4 1 = some (farm 4, [ch0], true) := by decide +kernel
set_option maxRecDepth 100000 in
theorem g_farm5 : g_top_farmR14_f 1000000000000000000 5 1 = some (farm 5, [ch0], true) := by decide +kernel
set_option maxRecDepth 100000 in
theorem g_farm6 : g_top_farmR14_f 1000000000000000000 6 1 = some (farm 6, [ch0], true) := by decide +kernel
theorem farm_eq {n : Nat} (h3 : 3 ≤ n) (h6 : n ≤ 6) : top_farmR14_f (n : Int) 1 = some (farm n, [ch0], true) := by
 rw [e_top_farmR14_f, BIG_eq]
 have : n = 3 ∨ n = 4 ∨ n = 5 ∨ n = 6 := by omega
 rcases this with rfl | rfl | rfl | rfl
 ·exact g_farm3
 ·exact g_farm4
 ·exact g_farm5
 ·exact g_farm6
end Go.Proofs.YtjflkcfafijhfaaGreat
/- Pages of copies, and whether a copy may be, as plain laws. -/
set_option linter.unusedSimpArgs false
set_option linter.unusedVariables false
namespace Go.Proofs.YtjflkcfafijhfaaGreat
open Go.Ab Go.RowKit
theorem Bs_b8 {l : List Int} (h : Bs l) : isB8 l = true := by
 unfold isB8
 rw [List.all_eq_true]
 intro x hx
 have := h x hx
 simpa [okI] using this
theorem Bs.nil : Bs [] := fun x hx => by cases hx
theorem cat_J1 {ls : List (List Int)} {n : Nat} (hn : n ≤ 100000) (hT : ls.flatten.length ≤ 100000) (hl : ls.length ≤ 100) : slices_Concat_J1 ls (n : Int) = some ls.flatten := by
 unfold slices_Concat_J1 slices_Grow_f
 rw [chk_pos ⟨by omega, by omega⟩, Option.bind_some]
 have key : ∀ m k, ls.length < m + k → k ≤ ls.length → slices_Concat_L1 ls m ((ls.take k).flatten) (k : Int) = some ls.flatten := by
  intro m
  induction m with
  | zero => intro k h1 h2; omega
  | succ m ih =>
   intro k h1 h2
   rw [slices_Concat_L1, cond_d]
   by_cases hk : k < ls.length
   ·have e : (ls.take (k + 1)).flatten = (ls.take k).flatten ++ ls[k] := by rw [take_snoc hk, List.flatten_append]; simp
    have hle : (ls.take (k + 1)).flatten.length ≤ ls.flatten.length := by
     conv => rhs; rw [← List.take_append_drop (k + 1) ls]
     rw [List.flatten_append, List.length_append]; omega
    rw [if_pos (by omega), idx_nat hk, Option.bind_some, chk_pos (by rw [e, List.length_append] at hle; omega), w64_succ (by omega), ← e]
    exact ih (k + 1) (by omega) (by omega)
   ·have : k = ls.length := by omega
    subst this
    rw [if_neg (by omega), List.take_length]; rfl
 have := key BIG 0 (by rw [BIG_eq]; omega) (Nat.zero_le _)
 simpa using this
theorem cat_eq {ls : List (List Int)} (hT : ls.flatten.length ≤ 100000) (hl : ls.length ≤ 100) : slices_Concat_f ls = some ls.flatten := by
 unfold slices_Concat_f
 have key : ∀ m k, ls.length < m + k → k ≤ ls.length → slices_Concat_L2 ls m (((ls.take k).flatten.length : Nat) : Int) (k : Int) = some ls.flatten := by
  intro m
  induction m with
  | zero => intro k h1 h2; omega
  | succ m ih =>
   intro k h1 h2
   rw [slices_Concat_L2, cond_d]
   have hle : ∀ j, (ls.take j).flatten.length ≤ ls.flatten.length := fun j => by
     conv => rhs; rw [← List.take_append_drop j ls]
     rw [List.flatten_append, List.length_append]; omega
   by_cases hk : k < ls.length
   ·have e : (ls.take (k + 1)).flatten.length = (ls.take k).flatten.length + ls[k].length := by rw [take_snoc hk, List.flatten_append]; simp
    have h3 := hle (k + 1)
    rw [if_pos (by omega), idx_nat hk, Option.bind_some, w64 (by omega) (by omega), chk_pos (by rw [decide_eq_false_iff_not]; omega)]
    unfold slices_Concat_J3
    rw [w64_succ (by omega), show ((ls.take k).flatten.length : Int) + (ls[k].length : Int) = (((ls.take (k + 1)).flatten.length : Nat) : Int) by omega]
    exact ih (k + 1) (by omega) (by omega)
   ·have : k = ls.length := by omega
    subst this
    have h3 := hle ls.length
    rw [if_neg (by omega)]
    exact cat_J1 (by omega) hT hl
 have := key BIG 0 (by rw [BIG_eq]; omega) (Nat.zero_le _)
 simpa using this
theorem catp_J1 {ls : List (List Page)} {n : Nat} (hn : n ≤ 100000) (hT : ls.flatten.length ≤ 100000) (hl : ls.length ≤ 100) : slices_Concat_104_J1 ls (n : Int) = some ls.flatten := by
 unfold slices_Concat_104_J1 slices_Grow_141_f
 rw [chk_pos ⟨by omega, by omega⟩, Option.bind_some]
 have key : ∀ m k, ls.length < m + k → k ≤ ls.length → slices_Concat_104_L1 ls m ((ls.take k).flatten) (k : Int) = some ls.flatten := by
  intro m
  induction m with
  | zero => intro k h1 h2; omega
  | succ m ih =>
   intro k h1 h2
   rw [slices_Concat_104_L1, cond_d]
   by_cases hk : k < ls.length
   ·have e : (ls.take (k + 1)).flatten = (ls.take k).flatten ++ ls[k] := by rw [take_snoc hk, List.flatten_append]; simp
    have hle : (ls.take (k + 1)).flatten.length ≤ ls.flatten.length := by
     conv => rhs; rw [← List.take_append_drop (k + 1) ls]
     rw [List.flatten_append, List.length_append]; omega
    rw [if_pos (by omega), idx_nat hk, Option.bind_some, chk_pos (by rw [e, List.length_append] at hle; omega), w64_succ (by omega), ← e]
    exact ih (k + 1) (by omega) (by omega)
   ·have : k = ls.length := by omega
    subst this
    rw [if_neg (by omega), List.take_length]; rfl
 have := key BIG 0 (by rw [BIG_eq]; omega) (Nat.zero_le _)
 simpa using this
theorem catp_eq {ls : List (List Page)} (hT : ls.flatten.length ≤ 100000) (hl : ls.length ≤ 100) : slices_Concat_104_f ls = some ls.flatten := by
 unfold slices_Concat_104_f
 have key : ∀ m k, ls.length < m + k → k ≤ ls.length → slices_Concat_104_L2 ls m (((ls.take k).flatten.length : Nat) : Int) (k : Int) = some ls.flatten := by
  intro m
  induction m with
  | zero => intro k h1 h2; omega
  | succ m ih =>
   intro k h1 h2
   rw [slices_Concat_104_L2, cond_d]
   have hle : ∀ j, (ls.take j).flatten.length ≤ ls.flatten.length := fun j => by
     conv => rhs; rw [← List.take_append_drop j ls]
     rw [List.flatten_append, List.length_append]; omega
   by_cases hk : k < ls.length
   ·have e : (ls.take (k + 1)).flatten.length = (ls.take k).flatten.length + ls[k].length := by rw [take_snoc hk, List.flatten_append]; simp
    have h3 := hle (k + 1)
    rw [if_pos (by omega), idx_nat hk, Option.bind_some, w64 (by omega) (by omega), chk_pos (by rw [decide_eq_false_iff_not]; omega)]
    unfold slices_Concat_104_J3
    rw [w64_succ (by omega), show ((ls.take k).flatten.length : Int) + (ls[k].length : Int) = (((ls.take (k + 1)).flatten.length : Nat) : Int) by omega]
    exact ih (k + 1) (by omega) (by omega)
   ·have : k = ls.length := by omega
    subst this
    have h3 := hle ls.length
    rw [if_neg (by omega)]
    exact catp_J1 (by omega) hT hl
 have := key BIG 0 (by rw [BIG_eq]; omega) (Nat.zero_le _)
 simpa using this
theorem catp2 {a b : List Page} (h : a.length + b.length ≤ 1000) : slices_Concat_104_f [a, b] = some (a ++ b) := by
 rw [catp_eq (by simp; omega) (by simp)]; simp
structure SC (c : Copy) : Prop where
 id : okI .i64 c.id
 ver : okI .i64 c.ver
 data : Bs c.data
 dl : c.data.length ≤ 1000
 sums : ∀ x ∈ c.sums, okI .i64 x
 sl : c.sums.length ≤ 1000
def body (c : Copy) : List Int := num c.id ++ (num c.ver ++ (str (strOfNums c.data) ++ ints c.sums))
def tailOf (n : Int) : List Int := [IntKind.wrap .u8 (Int.fdiv n (2 ^ 0)), IntKind.wrap .u8 (Int.fdiv n (2 ^ 8)), IntKind.wrap .u8 (Int.fdiv n (2 ^ 16)), IntKind.wrap .u8 (Int.fdiv n (2 ^ 24))]
def pg (c : Copy) : List Int := body c ++ tailOf ((Plain.crc ((body c).map Int.toNat) : Nat) : Int)
theorem tailOf_ok (n : Int) : Bs (tailOf n) := by
 intro x hx
 simp only [tailOf, List.mem_cons, List.not_mem_nil, or_false] at hx
 rcases hx with rfl | rfl | rfl | rfl <;> (rw [wu8]; simp only [okI]; omega)
theorem body_ok {c : Copy} (h : SC c) : Bs (body c) := by
 refine Bs.app (num_ok h.id) (Bs.app (num_ok h.ver) (Bs.app (str_ok ?_) (Bs.app (num_ok (okI_len (by have := h.sl; omega))) (nums_ok h.sums))))
 rw [nums_size]; have := h.dl; omega
theorem pg_ok {c : Copy} (h : SC c) : Bs (pg c) := Bs.app (body_ok h) (tailOf_ok _)
theorem body_len {c : Copy} (h : SC c) : 1 ≤ (body c).length ∧ (body c).length ≤ c.data.length + 10 * c.sums.length + 40 := by
 have h1 := num_len h.id
 have h2 := num_len h.ver
 have hd := h.dl
 have h3 := str_len (s := strOfNums c.data) (by rw [nums_size]; omega)
 rw [nums_size] at h3
 have hs := h.sl
 have h4 := num_len (okI_len (n := c.sums.length) (by omega))
 have h5 := nums_len h.sums
 unfold body ints
 simp only [List.length_append]
 omega
theorem page_L (n : Int) (b : List Int) (hb : b.length ≤ 1000000) : chunk_page_L1 n BIG b 0 = some (b ++ tailOf n) := by
 obtain ⟨m, hm⟩ := big_add 5 (by omega)
 rw [hm]
 have hl1 : ∀ x : Int, (b ++ [x]).length = b.length + 1 := fun x => by simp
 rw [chunk_page_L1, show decide ((0 : Int) < 4) = true from rfl, cond_true, show IntKind.wrap .i64 (8 * 0) = 0 from rfl, chk_pos (by omega), chk_pos (by omega), show IntKind.wrap .i64 (0 + 1) = 1 from rfl]
 rw [chunk_page_L1, show decide ((1 : Int) < 4) = true from rfl, cond_true, show IntKind.wrap .i64 (8 * 1) = 8 from rfl, chk_pos (by omega), chk_pos (by simp; omega), show IntKind.wrap .i64 (1 + 1) = 2 from rfl]
 rw [chunk_page_L1, show decide ((2 : Int) < 4) = true from rfl, cond_true, show IntKind.wrap .i64 (8 * 2) = 16 from rfl, chk_pos (by omega), chk_pos (by simp; omega), show IntKind.wrap .i64 (2 + 1) = 3 from rfl]
 rw [chunk_page_L1, show decide ((3 : Int) < 4) = true from rfl, cond_true, show IntKind.wrap .i64 (8 * 3) = 24 from rfl, chk_pos (by omega), chk_pos (by simp; omega), show IntKind.wrap .i64 (3 + 1) = 4 from rfl]
 rw [chunk_page_L1, show decide ((4 : Int) < 4) = false from rfl, cond_false, chunk_page_J1]
 simp only [List.append_assoc, List.cons_append, List.nil_append]
 rfl
theorem page_eq {c : Copy} (h : SC c) : chunk_page_f c = some (pg c) := by
 unfold chunk_page_f
 have hd := h.dl
 have hb := body_len h
 have hs := h.sl
 rw [pInt_eq h.id, Option.bind_some, pInt_eq h.ver, Option.bind_some, pStr_eq (by rw [nums_size]; omega), Option.bind_some, pInts_eq h.sums (by omega), Option.bind_some]
 have e : [num c.id, num c.ver, str (strOfNums c.data), ints c.sums].flatten = body c := by simp [body]
 rw [cat_eq (by rw [e]; omega) (by simp), Option.bind_some, e]
 unfold sum_Of_f
 rw [chk_pos (Bs_b8 (body_ok h)), Option.bind_some, page_L _ _ (by omega)]
 rfl
end Go.Proofs.YtjflkcfafijhfaaGreat
