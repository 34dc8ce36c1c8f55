import Derived.Test.YtmkpokcfefjifaaDoorF7
set_option linter.unusedSectionVars false
/- Functions of the program as Lean functions, and that they are so; printed by a program of mine. -/
set_option linter.unusedSimpArgs false
set_option linter.unusedVariables false
namespace Go.Proofs.YtmkpokcfefjifaaDoor
open Go.Ab
open Nat (reduceAdd reduceMul reduceEqDiff reduceLT reduceLeDiff reduceSub)
noncomputable section

def seat_Late_f (s1 : Seat) : Option (Seat × (List Msg)) :=
 cond (s1.role == 3) (some (s1, [])) (cond (s1.term == 1099511627776) (some (s1, [])) ((vote_Begin_f s1).bind fun r1 => (seat_machine_lead_f (⟨r1, []⟩ : Machine)).bind fun r2 => cond (!r2.1) ((seat_machine_all_late_f r2.2 (fun _ => none)).bind fun r3 => some (r3.seat, r3.out)) (some (r2.2.seat, r2.2.out))))
set_option maxHeartbeats 4000000 in
set_option maxRecDepth 20000 in
theorem seat_Late_pc {s1 : Seat} {r : Seat × (List Msg)} (H : seat_Late_f s1 = some r) : PC Tryd.prog 14 [.agg (Seat.c s1)] (.tup [.agg (Seat.c r.1), .list 5 (r.2.map Msg.c)]) := by
 refine pcA_of Tryd.func14 (by rfl) (by decide) 32 (by rfl) [.cell 2 25, .tmp 3] (by rfl) ?_
 unfold seat_Late_f at H
 simp only [ent]
 refine a_seq ?_
 refine a_regC _ rfl ?_
 refine sA_n ?_
 refine a_seq ?_
 refine a_seq ?_
 refine cnd H (fun zc1 H => ?_) (fun zc1 H => ?_)
 ·refine a_regC _ rfl ?_
  refine sA_n ?_
  refine a_condb true (by first | rfl | (simp only [EVT, St.ev, datOf, datOf1, reduceEqDiff, ↓reduceIte]; done) | (simp only [EVT, St.ev, datOf, datOf1, reduceEqDiff, ↓reduceIte]; rfl) | (simp only [EVT, St.ev, datOf, datOf1, reduceEqDiff, ↓reduceIte]; simp_all; done)) (fun zc2 => ?_) (fun zc2 => absurd zc2 (by decide))
  refine a_seq ?_
  refine a_regC _ rfl ?_
  refine sA_n ?_
  exact a_ret (sA_r RT)
 ·refine a_regC _ rfl ?_
  refine sA_n ?_
  refine a_cnd H (fun zc3 H => ?_) (fun zc3 H => ?_)
  ·refine a_seq ?_
   refine a_regC _ rfl ?_
   refine sA_n ?_
   refine a_ret ?_
   refine sA_r ?_
   obtain rfl := Option.some.inj H
   refine e_r2 (d := ?zd2) ?_ ?_
   rotate_left
   ·simp only [EVT, resR, single, evLoad, cut, TIS, CS, reduceAdd, reduceEqDiff, ↓reduceIte, reduceCtorEq, reduceLT, reduceLeDiff, reduceSub, Nat.reduceBEq, zc1, zc3]
    (repeat' apply And.intro) <;> first | rfl | assumption | omega | (simp; done)
   exact ZZ
  ·refine a_skip ?_
   refine sA_n ?_
   refine a_seq ?_
   obtain ⟨r1, zh1, H⟩ := bind_some H
   have zk1 := vote_Begin_pc zh1
   refine a_regK _ rfl ?_
   refine sA_n ?_
   refine a_seq ?_
   refine a_seq ?_
   obtain ⟨r2, zh2, H⟩ := bind_some H
   have zk2 := seat_machine_lead_rc zh2
   refine a_reg _ rfl (s := ?zs7) ?_ ?_
   rotate_left
   ·try refine goS ?_
    repeat' with_reducible apply And.intro
    all_goals try ((with_reducible show CallR _ _ _ _ _ _ _); refine callR_rcw (r' := .bool r2.1) [(91, none), (91, some ⟨61, 11, false, [Machine.o r2.2 137]⟩), (137, some ⟨28, 5, false, r2.2.out.map Msg.c⟩)] [(some 91, _), (none, _)] [] [(91, 0, _), (137, 1, _)] EQA zk2 (by simp) ND ZZ ZZ ND ND ZZ ZZ ?_; refine goS ?_)
    all_goals ((repeat' apply And.intro) <;> first|rfl|assumption|omega|(simp;done)|(simp;omega)|(simp_all;done))
   refine sA_n ?_
   refine a_cnd H (fun zc4 H => ?_) (fun zc4 H => ?_)
   ·obtain ⟨r3, zh3, H⟩ := bind_some H
    have zk3 := seat_machine_all_late_rc zh3
    refine a_reg _ rfl (s := ?zs8) ?_ ?_
    rotate_left
    ·try refine goS ?_
     repeat' with_reducible apply And.intro
     all_goals try ((with_reducible show CallR _ _ _ _ _ _ _); refine callR_rcw (r' := .tup []) [(92, some ⟨59, 1, true, [[.ptr 91 0 0 11]]⟩), (91, none), (137, none), (91, some ⟨61, 11, false, [Machine.o r3 162]⟩), (162, some ⟨28, 5, false, r3.out.map Msg.c⟩)] [(some 91, _), (some 137, _)] [92] [(91, 0, _), (162, 1, _)] EQA zk3 (by simp) ND ZZ ZZ ND ND ZZ ZZ ?_; refine goS ?_)
     all_goals ((repeat' apply And.intro) <;> first|rfl|assumption|omega|(simp;done)|(simp;omega)|(simp_all;done))
    refine sA_n ?_
    refine a_seq ?_
    refine a_drW (by kernel_rfl) _ rfl (s := ?zs9) (by kernel_rfl) (by kernel_rfl) ?zs9f ?_ ?_ ?_
    rotate_left 2
    ·refine goS ?_
     (repeat' apply And.intro) <;> first|rfl|assumption|omega|(simp;done)|(simp;omega)|(simp_all;done)
    ·kernel_rfl
    refine sA_n ?_
    refine a_ret ?_
    obtain rfl := Option.some.inj H
    refine e_r2 (d := ?zd3) ?_ ?_
    rotate_left
    ·simp only [EVT, resR, single, evLoad, cut, TIS, CS, reduceAdd, reduceEqDiff, ↓reduceIte, reduceCtorEq, reduceLT, reduceLeDiff, reduceSub, Nat.reduceBEq, zc1, zc3, zc4]
     (repeat' apply And.intro) <;> first | rfl | assumption | omega | (simp; done)
    exact ZZ
   ·refine a_skip ?_
    refine sA_n ?_
    refine a_seq ?_
    refine a_drW (by kernel_rfl) _ rfl (s := ?zs10) (by kernel_rfl) (by kernel_rfl) ?zs10f ?_ ?_ ?_
    rotate_left 2
    ·refine goS ?_
     (repeat' apply And.intro) <;> first|rfl|assumption|omega|(simp;done)|(simp;omega)|(simp_all;done)
    ·kernel_rfl
    refine sA_n ?_
    refine a_ret ?_
    obtain rfl := Option.some.inj H
    refine e_r2 (d := ?zd4) ?_ ?_
    rotate_left
    ·simp only [EVT, resR, single, evLoad, cut, TIS, CS, reduceAdd, reduceEqDiff, ↓reduceIte, reduceCtorEq, reduceLT, reduceLeDiff, reduceSub, Nat.reduceBEq, zc1, zc3, zc4]
     (repeat' apply And.intro) <;> first | rfl | assumption | omega | (simp; done)
    exact ZZ
end
end Go.Proofs.YtmkpokcfefjifaaDoor
