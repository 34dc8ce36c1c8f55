import Derived.Test.YtmkpokcfefjifaaDoorF11
set_option linter.unusedSectionVars false
/- Functions of the program as Lean functions, and that they are so; printed by a program of mine. -/
set_option linter.unusedSimpArgs false
set_option linter.unusedVariables false
namespace Go.Proofs.YtmkpokcfefjifaaDoor
open Go.Ab
open Nat (reduceAdd reduceMul reduceEqDiff reduceLT reduceLeDiff reduceSub)
noncomputable section

def law15_SeatTwice_J1 (r1 : Bool) (s1 : Seat) (m1 : Msg) (v1 : Bool) : Option Bool :=
 cond v1 (some (r1)) ((seat_Hear_f s1 m1).bind fun r2 => (seat_Hear_f r2.1 m1).bind fun r3 => cond r1 ((ref14_Same_f r2.1 r3.1).bind fun r4 => some (r4)) (some (false)))
def law15_SeatTwice_f (s1 : Seat) (m1 : Msg) : Option Bool :=
 (law15_head_f).bind fun r1 => (law15_Great_f s1).bind fun r5 => cond r5 (law15_SeatTwice_J1 r1 s1 m1 true) ((law15_Fits_f m1).bind fun r6 => cond (!r6) (law15_SeatTwice_J1 r1 s1 m1 true) ((seat_Right_f s1).bind fun r7 => law15_SeatTwice_J1 r1 s1 m1 (!r7)))
set_option maxHeartbeats 4000000 in
set_option maxRecDepth 20000 in
theorem law15_SeatTwice_pc {s1 : Seat} {m1 : Msg} {r : Bool} (H : law15_SeatTwice_f s1 m1 = some r) : PC Tryd.prog 3 [.agg (Seat.c s1), .agg (Msg.c m1)] (.bool r) := by
 refine pcA_of Tryd.func3 (by rfl) (by decide) 42 (by rfl) [.tmp 4] (by rfl) ?_
 unfold law15_SeatTwice_f at H
 simp only [ent]
 refine a_seq ?_
 refine a_regC _ rfl ?_
 refine sA_n ?_
 refine a_seq ?_
 obtain ⟨r1, zh1, H⟩ := bind_some H
 have zk1 := law15_head_pc zh1
 refine a_regK _ rfl ?_
 refine sA_n ?_
 refine a_seq ?_
 refine a_cut (fun s => ∃ (v1 : Bool) (t0 : Nat → Dat), law15_SeatTwice_J1 r1 s1 m1 v1 = some r ∧ s = ⟨tl t0 [(2, .ptr 0 0 0 10), (3, .ptr 1 0 0 5), (5, .bool r1), (22, .bool v1)], hl [⟨25, 10, false, [Seat.c s1]⟩, ⟨28, 5, false, [Msg.c m1]⟩], 2, 42⟩) ?_ ?_
 ·obtain ⟨r5, zh5, H⟩ := bind_some H
  have zk5 := law15_Great_pc zh5
  refine cnd H (fun zc3 H => ?_) (fun zc3 H => ?_)
  ·refine a_regK _ rfl ?_
   refine cA_n ?_
   exact wk_lA [(some 0, _), (some 1, _)] [] (fun t0 => ⟨true, t0, H, rfl⟩)
  ·obtain ⟨r6, zh6, H⟩ := bind_some H
   have zk6 := law15_Fits_pc zh6
   refine cnd H (fun zc4 H => ?_) (fun zc4 H => ?_)
   ·refine a_regK _ rfl ?_
    refine cA_n ?_
    exact wk_lA [(some 0, _), (some 1, _)] [] (fun t0 => ⟨true, t0, H, rfl⟩)
   ·obtain ⟨r7, zh7, H⟩ := bind_some H
    have zk7 := seat_Right_pc zh7
    refine a_regK _ rfl ?_
    refine cA_n ?_
    exact wk_lA [(some 0, _), (some 1, _)] [] (fun t0 => ⟨(!r7), t0, H, rfl⟩)
 ·rintro s ⟨v1, t0, H, rfl⟩
  unfold law15_SeatTwice_J1 at H
  refine a_cnd H (fun zc1 H => ?_) (fun zc1 H => ?_)
  ·refine a_seq ?_
   refine a_regC _ rfl ?_
   refine sA_n ?_
   exact a_ret (sA_r RT)
  ·refine a_skip ?_
   refine sA_n ?_
   refine a_seq ?_
   obtain ⟨r2, zh2, H⟩ := bind_some H
   have zk2 := seat_Hear_pc zh2
   refine a_regK _ rfl ?_
   refine sA_n ?_
   refine a_seq ?_
   obtain ⟨r3, zh3, H⟩ := bind_some H
   have zk3 := seat_Hear_pc zh3
   refine a_regK _ rfl ?_
   refine sA_n ?_
   refine a_seq ?_
   refine cnd H (fun zc2 H => ?_) (fun zc2 H => ?_)
   ·obtain ⟨r4, zh4, H⟩ := bind_some H
    have zk4 := ref14_Same_pc zh4
    refine a_regK _ rfl ?_
    refine sA_n ?_
    refine a_ret ?_
    obtain rfl := Option.some.inj H
    refine e_r2 (d := ?zd2) ?_ ?_
    rotate_left
    ·simp only [EVT, resR, single, evLoad, cut, TIS, CS, reduceAdd, reduceEqDiff, ↓reduceIte, reduceCtorEq, reduceLT, reduceLeDiff, reduceSub, Nat.reduceBEq, zc1, zc2]
     (repeat' apply And.intro) <;> first | rfl | assumption | omega | (simp; done)
    exact ZZ
   ·refine a_reg _ rfl (s := ?zs7) ?_ ?_
    rotate_left
    ·simp only [EVT, stepR, evOp, St.ev, St.app, St.put, wrs, evLoad, cut, frz, datOf, datOf1, TIS, CS, reduceAdd, reduceMul, reduceEqDiff, ↓reduceIte, reduceCtorEq, reduceLT, reduceLeDiff, Array.reduceGetElem?, reduceSub, Nat.reduceBEq, ↓zc1, ↓zc2]
     try simp only [EVT, stepR, evOp, St.ev, St.app, St.put, wrs, evLoad, cut, frz, datOf, datOf1, TIS, CS, reduceAdd, reduceMul, reduceEqDiff, ↓reduceIte, reduceCtorEq, reduceLT, reduceLeDiff, Array.reduceGetElem?, reduceSub, Nat.reduceBEq, ↓zc1, ↓zc2]
     (repeat' apply And.intro) <;> first|rfl|assumption|omega|(simp;done)|(simp;omega)|(simp_all;done)
    refine sA_n ?_
    refine a_ret ?_
    obtain rfl := Option.some.inj H
    refine e_r2 (d := ?zd3) ?_ ?_
    rotate_left
    ·simp only [EVT, resR, single, evLoad, cut, TIS, CS, reduceAdd, reduceEqDiff, ↓reduceIte, reduceCtorEq, reduceLT, reduceLeDiff, reduceSub, Nat.reduceBEq, zc1, zc2]
     (repeat' apply And.intro) <;> first | rfl | assumption | omega | (simp; done)
    exact ZZ
end
end Go.Proofs.YtmkpokcfefjifaaDoor
