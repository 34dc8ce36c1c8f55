/- Functions of the program as Lean functions, and that they are so; printed by a program of mine. -/
import Derived.Test.YtiomajfdphmgaaaF3
set_option linter.unusedSimpArgs false
set_option linter.unusedVariables false
namespace Go.Proofs.Ytiomajfdphmgaaa
open Go.Ab
noncomputable section

def law13_LogNewer_J3 (r1 : Bool) (a1 : List Entry) (r2 : Int) (v3 : Bool) : Option Bool :=
  cond v3 (some (false)) (cond r1 ((log_Newer_f a1 r2 (a1.length : Int)).bind fun r5 => cond r5 ((log_Newer_f a1 r2 (IntKind.wrap .i64 ((a1.length : Int) + 1))).bind fun r6 => cond r6 (cond ((a1.length : Int) == 0) (some (true)) ((log_Newer_f a1 r2 (IntKind.wrap .i64 ((a1.length : Int) - 1))).bind fun r7 => some ((!r7)))) (some (false))) (some (false))) (some (false)))
def law13_LogNewer_J2 (a1 : List Entry) (r3 : Int) (b1 : List Entry) (r4 : Int) (c1 : List Entry) (r1 : Bool) (r2 : Int) (v2 : Bool) : Option Bool :=
  cond v2 (some (false)) ((log_Newer_f a1 r3 (b1.length : Int)).bind fun r8 => cond r8 ((log_Newer_f b1 r4 (c1.length : Int)).bind fun r9 => cond r9 ((log_Newer_f a1 r4 (c1.length : Int)).bind fun r10 => law13_LogNewer_J3 r1 a1 r2 (!r10)) (law13_LogNewer_J3 r1 a1 r2 false)) (law13_LogNewer_J3 r1 a1 r2 false))
def law13_LogNewer_J1 (r1 : Bool) (a1 : List Entry) (b1 : List Entry) (c1 : List Entry) (v1 : Bool) : Option Bool :=
  cond v1 (some (r1)) ((ref13_Term_f a1 (a1.length : Int)).bind fun r2 => (ref13_Term_f b1 (b1.length : Int)).bind fun r3 => (ref13_Term_f c1 (c1.length : Int)).bind fun r4 => (log_Newer_f a1 r3 (b1.length : Int)).bind fun r11 => cond (!r11) ((log_Newer_f b1 r2 (a1.length : Int)).bind fun r12 => law13_LogNewer_J2 a1 r3 b1 r4 c1 r1 r2 (!r12)) (law13_LogNewer_J2 a1 r3 b1 r4 c1 r1 r2 false))
def law13_LogNewer_f (a1 : List Entry) (b1 : List Entry) (c1 : List Entry) : Option Bool :=
  (law13_head_f).bind fun r1 => (law13_Fits_f a1).bind fun r13 => cond (!r13) (law13_LogNewer_J1 r1 a1 b1 c1 true) ((law13_Fits_f b1).bind fun r14 => cond (!r14) (law13_LogNewer_J1 r1 a1 b1 c1 true) ((law13_Fits_f c1).bind fun r15 => law13_LogNewer_J1 r1 a1 b1 c1 (!r15)))
set_option maxHeartbeats 4000000 in
set_option maxRecDepth 20000 in
theorem law13_LogNewer_pc {a1 : List Entry} {b1 : List Entry} {c1 : List Entry} {r : Bool} (H : law13_LogNewer_f a1 b1 c1 = some r) : PC Try.prog 7 [.list 2 (a1.map Entry.c), .list 2 (b1.map Entry.c), .list 2 (c1.map Entry.c)] (.bool r) := by
  refine pcA_of Try.func7 (by rfl) (by decide) 102 (by rfl) [.tmp 6] (by rfl) ?_
  unfold law13_LogNewer_f at H
  simp only [ent]
  refine a_seq ?_
  refine a_reg _ rfl (s := ?zs1) ?_ ?_
  rotate_left
  · simp (maxSteps := 2000000) only [EVT, stepR, evOp, St.ev, St.app, St.put, wrs, datOf, datOf1, TIS, CS, Nat.reduceAdd, Nat.reduceMul, Nat.reduceEqDiff, ↓reduceIte, reduceCtorEq, Nat.reduceLT, Nat.reduceLeDiff]
    (repeat' apply And.intro) <;> first | rfl | assumption | omega | (simp; done) | (simp; omega) | (simp_all; done)
  refine sA_n ?_
  refine a_seq ?_
  obtain ⟨r1, zh1, H⟩ := bind_some H
  have zk1 := law13_head_pc zh1
  refine a_reg _ rfl (s := ?zs2) ?_ ?_
  rotate_left
  · try simp (maxSteps := 2000000) only [EVT, stepR, evOp, St.ev, St.app, St.put, wrs, frz, TIS, CS, Nat.reduceAdd, Nat.reduceMul, Nat.reduceEqDiff, ↓reduceIte, reduceCtorEq, Nat.reduceLT, Nat.reduceLeDiff, Nat.reduceSub, Nat.reduceBEq]
    repeat' with_reducible apply And.intro
    all_goals try ((with_reducible show CallR _ _ _ _ _ _ _); refine cR_s zk1 .nil (.bool _) ?_; simp (maxSteps := 2000000) only [EVT, stepR, evOp, St.ev, St.app, St.put, wrs, frz, TIS, CS, Nat.reduceAdd, Nat.reduceMul, Nat.reduceEqDiff, ↓reduceIte, reduceCtorEq, Nat.reduceLT, Nat.reduceLeDiff, Nat.reduceSub, Nat.reduceBEq])
    all_goals ((repeat' apply And.intro) <;> first | rfl | assumption | omega | (simp; done) | (simp; omega) | (simp_all; done))
  refine sA_n ?_
  refine a_seq ?_
  refine a_cut (fun s => ∃ (v1 : Bool) (t0 : Nat → Dat), law13_LogNewer_J1 r1 a1 b1 c1 v1 = some r ∧ s = ⟨tl t0 [(0, .list 2 (a1.map Entry.c)), (1, .list 2 (b1.map Entry.c)), (2, .list 2 (c1.map Entry.c)), (7, .bool r1), (24, .bool v1)], hl [], 0, 102⟩) ?_ ?_
  · obtain ⟨r13, zh13, H⟩ := bind_some H
    have zk13 := law13_Fits_pc zh13
    refine bool_split (b := (!r13)) (fun zc11 => ?_) (fun zc11 => ?_)
    · have H := cond_t zc11 H
      refine a_reg _ rfl (s := ?zs17) ?_ ?_
      rotate_left
      · try simp (maxSteps := 2000000) only [EVT, stepR, evOp, St.ev, St.app, St.put, wrs, frz, evUn, datOf, datOf1, TIS, CS, Nat.reduceAdd, Nat.reduceMul, Nat.reduceEqDiff, ↓reduceIte, reduceCtorEq, Nat.reduceLT, Nat.reduceLeDiff, Array.reduceGetElem?, Nat.reduceSub, Nat.reduceBEq, ↓zc11]
        repeat' with_reducible apply And.intro
        all_goals try ((with_reducible show CallR _ _ _ _ _ _ _); refine cR_s zk13 (.cons (.lst _ _ _ Entry.pu rfl) .nil) (.bool _) ?_; simp (maxSteps := 2000000) only [EVT, stepR, evOp, St.ev, St.app, St.put, wrs, frz, evUn, datOf, datOf1, TIS, CS, Nat.reduceAdd, Nat.reduceMul, Nat.reduceEqDiff, ↓reduceIte, reduceCtorEq, Nat.reduceLT, Nat.reduceLeDiff, Array.reduceGetElem?, Nat.reduceSub, Nat.reduceBEq, ↓zc11])
        all_goals ((repeat' apply And.intro) <;> first | rfl | assumption | omega | (simp; done) | (simp; omega) | (simp_all; done))
      refine cA_n ?_
      refine wk_l [] [] [(0, .list 2 (a1.map Entry.c)), (1, .list 2 (b1.map Entry.c)), (2, .list 2 (c1.map Entry.c)), (7, .bool r1), (24, .bool true)] (by show ([0, 1, 2, 7, 24] : List Nat).Nodup; decide) (by show ([] : List Nat).Nodup; decide) ?_ ?_ (fun t0 => ⟨true, t0, H, rfl⟩)
      · exact trivial
      · (simp only [AllT, tl_cons, tl_nil, upd_apply, List.getD_cons_zero, List.getD_cons_succ, Nat.reduceEqDiff, ↓reduceIte, and_true]); exact ⟨(.lst _ _ _ Entry.pu rfl), (.lst _ _ _ Entry.pu rfl), (.lst _ _ _ Entry.pu rfl), (.bool' rfl), (.bool' (by first | rfl | assumption | (simp_all; done)))⟩
    · have H := cond_f zc11 H
      obtain ⟨r14, zh14, H⟩ := bind_some H
      have zk14 := law13_Fits_pc zh14
      refine bool_split (b := (!r14)) (fun zc12 => ?_) (fun zc12 => ?_)
      · have H := cond_t zc12 H
        refine a_reg _ rfl (s := ?zs18) ?_ ?_
        rotate_left
        · try simp (maxSteps := 2000000) only [EVT, stepR, evOp, St.ev, St.app, St.put, wrs, frz, evUn, datOf, datOf1, TIS, CS, Nat.reduceAdd, Nat.reduceMul, Nat.reduceEqDiff, ↓reduceIte, reduceCtorEq, Nat.reduceLT, Nat.reduceLeDiff, Array.reduceGetElem?, Nat.reduceSub, Nat.reduceBEq, ↓zc11, ↓zc12]
          repeat' with_reducible apply And.intro
          all_goals try ((with_reducible show CallR _ _ _ _ _ _ _); refine cR_s zk13 (.cons (.lst _ _ _ Entry.pu rfl) .nil) (.bool _) ?_; simp (maxSteps := 2000000) only [EVT, stepR, evOp, St.ev, St.app, St.put, wrs, frz, evUn, datOf, datOf1, TIS, CS, Nat.reduceAdd, Nat.reduceMul, Nat.reduceEqDiff, ↓reduceIte, reduceCtorEq, Nat.reduceLT, Nat.reduceLeDiff, Array.reduceGetElem?, Nat.reduceSub, Nat.reduceBEq, ↓zc11, ↓zc12])
          repeat' with_reducible apply And.intro
          all_goals try ((with_reducible show CallR _ _ _ _ _ _ _); refine cR_s zk14 (.cons (.lst _ _ _ Entry.pu rfl) .nil) (.bool _) ?_; simp (maxSteps := 2000000) only [EVT, stepR, evOp, St.ev, St.app, St.put, wrs, frz, evUn, datOf, datOf1, TIS, CS, Nat.reduceAdd, Nat.reduceMul, Nat.reduceEqDiff, ↓reduceIte, reduceCtorEq, Nat.reduceLT, Nat.reduceLeDiff, Array.reduceGetElem?, Nat.reduceSub, Nat.reduceBEq, ↓zc11, ↓zc12])
          all_goals ((repeat' apply And.intro) <;> first | rfl | assumption | omega | (simp; done) | (simp; omega) | (simp_all; done))
        refine cA_n ?_
        refine wk_l [] [] [(0, .list 2 (a1.map Entry.c)), (1, .list 2 (b1.map Entry.c)), (2, .list 2 (c1.map Entry.c)), (7, .bool r1), (24, .bool true)] (by show ([0, 1, 2, 7, 24] : List Nat).Nodup; decide) (by show ([] : List Nat).Nodup; decide) ?_ ?_ (fun t0 => ⟨true, t0, H, rfl⟩)
        · exact trivial
        · (simp only [AllT, tl_cons, tl_nil, upd_apply, List.getD_cons_zero, List.getD_cons_succ, Nat.reduceEqDiff, ↓reduceIte, and_true]); exact ⟨(.lst _ _ _ Entry.pu rfl), (.lst _ _ _ Entry.pu rfl), (.lst _ _ _ Entry.pu rfl), (.bool' rfl), (.bool' (by first | rfl | assumption | (simp_all; done)))⟩
      · have H := cond_f zc12 H
        obtain ⟨r15, zh15, H⟩ := bind_some H
        have zk15 := law13_Fits_pc zh15
        refine a_reg _ rfl (s := ?zs19) ?_ ?_
        rotate_left
        · try simp (maxSteps := 2000000) only [EVT, stepR, evOp, St.ev, St.app, St.put, wrs, frz, evUn, datOf, datOf1, TIS, CS, Nat.reduceAdd, Nat.reduceMul, Nat.reduceEqDiff, ↓reduceIte, reduceCtorEq, Nat.reduceLT, Nat.reduceLeDiff, Array.reduceGetElem?, Nat.reduceSub, Nat.reduceBEq, ↓zc11, ↓zc12]
          repeat' with_reducible apply And.intro
          all_goals try ((with_reducible show CallR _ _ _ _ _ _ _); refine cR_s zk13 (.cons (.lst _ _ _ Entry.pu rfl) .nil) (.bool _) ?_; simp (maxSteps := 2000000) only [EVT, stepR, evOp, St.ev, St.app, St.put, wrs, frz, evUn, datOf, datOf1, TIS, CS, Nat.reduceAdd, Nat.reduceMul, Nat.reduceEqDiff, ↓reduceIte, reduceCtorEq, Nat.reduceLT, Nat.reduceLeDiff, Array.reduceGetElem?, Nat.reduceSub, Nat.reduceBEq, ↓zc11, ↓zc12])
          repeat' with_reducible apply And.intro
          all_goals try ((with_reducible show CallR _ _ _ _ _ _ _); refine cR_s zk14 (.cons (.lst _ _ _ Entry.pu rfl) .nil) (.bool _) ?_; simp (maxSteps := 2000000) only [EVT, stepR, evOp, St.ev, St.app, St.put, wrs, frz, evUn, datOf, datOf1, TIS, CS, Nat.reduceAdd, Nat.reduceMul, Nat.reduceEqDiff, ↓reduceIte, reduceCtorEq, Nat.reduceLT, Nat.reduceLeDiff, Array.reduceGetElem?, Nat.reduceSub, Nat.reduceBEq, ↓zc11, ↓zc12])
          repeat' with_reducible apply And.intro
          all_goals try ((with_reducible show CallR _ _ _ _ _ _ _); refine cR_s zk15 (.cons (.lst _ _ _ Entry.pu rfl) .nil) (.bool _) ?_; simp (maxSteps := 2000000) only [EVT, stepR, evOp, St.ev, St.app, St.put, wrs, frz, evUn, datOf, datOf1, TIS, CS, Nat.reduceAdd, Nat.reduceMul, Nat.reduceEqDiff, ↓reduceIte, reduceCtorEq, Nat.reduceLT, Nat.reduceLeDiff, Array.reduceGetElem?, Nat.reduceSub, Nat.reduceBEq, ↓zc11, ↓zc12])
          all_goals ((repeat' apply And.intro) <;> first | rfl | assumption | omega | (simp; done) | (simp; omega) | (simp_all; done))
        refine cA_n ?_
        refine wk_l [] [] [(0, .list 2 (a1.map Entry.c)), (1, .list 2 (b1.map Entry.c)), (2, .list 2 (c1.map Entry.c)), (7, .bool r1), (24, .bool (!r15))] (by show ([0, 1, 2, 7, 24] : List Nat).Nodup; decide) (by show ([] : List Nat).Nodup; decide) ?_ ?_ (fun t0 => ⟨(!r15), t0, H, rfl⟩)
        · exact trivial
        · (simp only [AllT, tl_cons, tl_nil, upd_apply, List.getD_cons_zero, List.getD_cons_succ, Nat.reduceEqDiff, ↓reduceIte, and_true]); exact ⟨(.lst _ _ _ Entry.pu rfl), (.lst _ _ _ Entry.pu rfl), (.lst _ _ _ Entry.pu rfl), (.bool' rfl), (.bool' rfl)⟩
  · rintro s ⟨v1, t0, H, rfl⟩
    unfold law13_LogNewer_J1 at H
    refine a_condb (v1) (by rfl) (fun zc1 => ?_) (fun zc1 => ?_)
    · have H := cond_t zc1 H
      refine a_seq ?_
      refine a_reg _ rfl (s := ?zs3) ?_ ?_
      rotate_left
      · simp (maxSteps := 2000000) only [EVT, stepR, evOp, St.ev, St.app, St.put, wrs, TIS, CS, Nat.reduceAdd, Nat.reduceMul, Nat.reduceEqDiff, ↓reduceIte, reduceCtorEq, Nat.reduceLT, Nat.reduceLeDiff, ↓zc1]
        (repeat' apply And.intro) <;> first | rfl | assumption | omega | (simp; done) | (simp; omega) | (simp_all; done)
      refine sA_n ?_
      refine a_ret ?_
      refine sA_r ?_
      obtain rfl := Option.some.inj H
      refine e_r2 (d := ?zd1) ?_ ?_
      rotate_left
      · simp only [EVT, resR, single, evLoad, cut, TIS, CS, Nat.reduceAdd, Nat.reduceEqDiff, ↓reduceIte, reduceCtorEq, Nat.reduceLT, Nat.reduceLeDiff, Nat.reduceSub, Nat.reduceBEq, zc1]
        (repeat' apply And.intro) <;> first | rfl | assumption | omega | (simp; done)
      exact (.bool' rfl)
    · have H := cond_f zc1 H
      refine a_skip ?_
      refine sA_n ?_
      refine a_seq ?_
      obtain ⟨r2, zh2, H⟩ := bind_some H
      have zk2 := ref13_Term_pc zh2
      obtain ⟨r3, zh3, H⟩ := bind_some H
      have zk3 := ref13_Term_pc zh3
      obtain ⟨r4, zh4, H⟩ := bind_some H
      have zk4 := ref13_Term_pc zh4
      refine a_reg _ rfl (s := ?zs4) ?_ ?_
      rotate_left
      · try simp (maxSteps := 2000000) only [EVT, stepR, evOp, St.ev, St.app, St.put, wrs, evBuiltin, frz, TIS, CS, Nat.reduceAdd, Nat.reduceMul, Nat.reduceEqDiff, ↓reduceIte, reduceCtorEq, Nat.reduceLT, Nat.reduceLeDiff, Nat.reduceSub, Nat.reduceBEq, ↓zc1]
        repeat' with_reducible apply And.intro
        all_goals try ((with_reducible show CallR _ _ _ _ _ _ _); refine cR_s zk2 (.cons (.lst _ _ _ Entry.pu rfl) (.cons (.int' rfl) .nil)) (.int _ _) ?_; simp (maxSteps := 2000000) only [EVT, stepR, evOp, St.ev, St.app, St.put, wrs, evBuiltin, frz, TIS, CS, Nat.reduceAdd, Nat.reduceMul, Nat.reduceEqDiff, ↓reduceIte, reduceCtorEq, Nat.reduceLT, Nat.reduceLeDiff, Nat.reduceSub, Nat.reduceBEq, ↓zc1])
        repeat' with_reducible apply And.intro
        all_goals try ((with_reducible show CallR _ _ _ _ _ _ _); refine cR_s zk3 (.cons (.lst _ _ _ Entry.pu rfl) (.cons (.int' rfl) .nil)) (.int _ _) ?_; simp (maxSteps := 2000000) only [EVT, stepR, evOp, St.ev, St.app, St.put, wrs, evBuiltin, frz, TIS, CS, Nat.reduceAdd, Nat.reduceMul, Nat.reduceEqDiff, ↓reduceIte, reduceCtorEq, Nat.reduceLT, Nat.reduceLeDiff, Nat.reduceSub, Nat.reduceBEq, ↓zc1])
        repeat' with_reducible apply And.intro
        all_goals try ((with_reducible show CallR _ _ _ _ _ _ _); refine cR_s zk4 (.cons (.lst _ _ _ Entry.pu rfl) (.cons (.int' rfl) .nil)) (.int _ _) ?_; simp (maxSteps := 2000000) only [EVT, stepR, evOp, St.ev, St.app, St.put, wrs, evBuiltin, frz, TIS, CS, Nat.reduceAdd, Nat.reduceMul, Nat.reduceEqDiff, ↓reduceIte, reduceCtorEq, Nat.reduceLT, Nat.reduceLeDiff, Nat.reduceSub, Nat.reduceBEq, ↓zc1])
        all_goals ((repeat' apply And.intro) <;> first | rfl | assumption | omega | (simp; done) | (simp; omega) | (simp_all; done))
      refine sA_n ?_
      refine a_seq ?_
      refine a_cut (fun s => ∃ (v2 : Bool) (t0 : Nat → Dat), law13_LogNewer_J2 a1 r3 b1 r4 c1 r1 r2 v2 = some r ∧ s = ⟨tl t0 [(0, .list 2 (a1.map Entry.c)), (1, .list 2 (b1.map Entry.c)), (2, .list 2 (c1.map Entry.c)), (7, .bool r1), (8, .int .i64 r2), (9, .int .i64 r3), (10, .int .i64 r4), (51, .bool v2)], hl [], 0, 102⟩) ?_ ?_
      · obtain ⟨r11, zh11, H⟩ := bind_some H
        have zk11 := log_Newer_pc zh11
        refine bool_split (b := (!r11)) (fun zc10 => ?_) (fun zc10 => ?_)
        · have H := cond_t zc10 H
          obtain ⟨r12, zh12, H⟩ := bind_some H
          have zk12 := log_Newer_pc zh12
          refine a_reg _ rfl (s := ?zs15) ?_ ?_
          rotate_left
          · try simp (maxSteps := 2000000) only [EVT, stepR, evOp, St.ev, St.app, St.put, wrs, evBuiltin, frz, evUn, datOf, datOf1, TIS, CS, Nat.reduceAdd, Nat.reduceMul, Nat.reduceEqDiff, ↓reduceIte, reduceCtorEq, Nat.reduceLT, Nat.reduceLeDiff, Array.reduceGetElem?, Nat.reduceSub, Nat.reduceBEq, ↓zc1, ↓zc10]
            repeat' with_reducible apply And.intro
            all_goals try ((with_reducible show CallR _ _ _ _ _ _ _); refine cR_s zk11 (.cons (.lst _ _ _ Entry.pu rfl) (.cons (.int' rfl) (.cons (.int' rfl) .nil))) (.bool _) ?_; simp (maxSteps := 2000000) only [EVT, stepR, evOp, St.ev, St.app, St.put, wrs, evBuiltin, frz, evUn, datOf, datOf1, TIS, CS, Nat.reduceAdd, Nat.reduceMul, Nat.reduceEqDiff, ↓reduceIte, reduceCtorEq, Nat.reduceLT, Nat.reduceLeDiff, Array.reduceGetElem?, Nat.reduceSub, Nat.reduceBEq, ↓zc1, ↓zc10])
            repeat' with_reducible apply And.intro
            all_goals try ((with_reducible show CallR _ _ _ _ _ _ _); refine cR_s zk12 (.cons (.lst _ _ _ Entry.pu rfl) (.cons (.int' rfl) (.cons (.int' rfl) .nil))) (.bool _) ?_; simp (maxSteps := 2000000) only [EVT, stepR, evOp, St.ev, St.app, St.put, wrs, evBuiltin, frz, evUn, datOf, datOf1, TIS, CS, Nat.reduceAdd, Nat.reduceMul, Nat.reduceEqDiff, ↓reduceIte, reduceCtorEq, Nat.reduceLT, Nat.reduceLeDiff, Array.reduceGetElem?, Nat.reduceSub, Nat.reduceBEq, ↓zc1, ↓zc10])
            all_goals ((repeat' apply And.intro) <;> first | rfl | assumption | omega | (simp; done) | (simp; omega) | (simp_all; done))
          refine cA_n ?_
          refine wk_l [] [] [(0, .list 2 (a1.map Entry.c)), (1, .list 2 (b1.map Entry.c)), (2, .list 2 (c1.map Entry.c)), (7, .bool r1), (8, .int .i64 r2), (9, .int .i64 r3), (10, .int .i64 r4), (51, .bool (!r12))] (by show ([0, 1, 2, 7, 8, 9, 10, 51] : List Nat).Nodup; decide) (by show ([] : List Nat).Nodup; decide) ?_ ?_ (fun t0 => ⟨(!r12), t0, H, rfl⟩)
          · exact trivial
          · (simp only [AllT, tl_cons, tl_nil, upd_apply, List.getD_cons_zero, List.getD_cons_succ, Nat.reduceEqDiff, ↓reduceIte, and_true]); exact ⟨(.lst _ _ _ Entry.pu rfl), (.lst _ _ _ Entry.pu rfl), (.lst _ _ _ Entry.pu rfl), (.bool' rfl), (.int' rfl), (.int' rfl), (.int' rfl), (.bool' rfl)⟩
        · have H := cond_f zc10 H
          refine a_reg _ rfl (s := ?zs16) ?_ ?_
          rotate_left
          · try simp (maxSteps := 2000000) only [EVT, stepR, evOp, St.ev, St.app, St.put, wrs, evBuiltin, frz, evUn, datOf, datOf1, TIS, CS, Nat.reduceAdd, Nat.reduceMul, Nat.reduceEqDiff, ↓reduceIte, reduceCtorEq, Nat.reduceLT, Nat.reduceLeDiff, Array.reduceGetElem?, Nat.reduceSub, Nat.reduceBEq, ↓zc1, ↓zc10]
            repeat' with_reducible apply And.intro
            all_goals try ((with_reducible show CallR _ _ _ _ _ _ _); refine cR_s zk11 (.cons (.lst _ _ _ Entry.pu rfl) (.cons (.int' rfl) (.cons (.int' rfl) .nil))) (.bool _) ?_; simp (maxSteps := 2000000) only [EVT, stepR, evOp, St.ev, St.app, St.put, wrs, evBuiltin, frz, evUn, datOf, datOf1, TIS, CS, Nat.reduceAdd, Nat.reduceMul, Nat.reduceEqDiff, ↓reduceIte, reduceCtorEq, Nat.reduceLT, Nat.reduceLeDiff, Array.reduceGetElem?, Nat.reduceSub, Nat.reduceBEq, ↓zc1, ↓zc10])
            all_goals ((repeat' apply And.intro) <;> first | rfl | assumption | omega | (simp; done) | (simp; omega) | (simp_all; done))
          refine cA_n ?_
          refine wk_l [] [] [(0, .list 2 (a1.map Entry.c)), (1, .list 2 (b1.map Entry.c)), (2, .list 2 (c1.map Entry.c)), (7, .bool r1), (8, .int .i64 r2), (9, .int .i64 r3), (10, .int .i64 r4), (51, .bool false)] (by show ([0, 1, 2, 7, 8, 9, 10, 51] : List Nat).Nodup; decide) (by show ([] : List Nat).Nodup; decide) ?_ ?_ (fun t0 => ⟨false, t0, H, rfl⟩)
          · exact trivial
          · (simp only [AllT, tl_cons, tl_nil, upd_apply, List.getD_cons_zero, List.getD_cons_succ, Nat.reduceEqDiff, ↓reduceIte, and_true]); exact ⟨(.lst _ _ _ Entry.pu rfl), (.lst _ _ _ Entry.pu rfl), (.lst _ _ _ Entry.pu rfl), (.bool' rfl), (.int' rfl), (.int' rfl), (.int' rfl), (.bool' (by first | rfl | assumption | (simp_all; done)))⟩
      · rintro s ⟨v2, t0, H, rfl⟩
        unfold law13_LogNewer_J2 at H
        refine a_condb (v2) (by rfl) (fun zc2 => ?_) (fun zc2 => ?_)
        · have H := cond_t zc2 H
          refine a_seq ?_
          refine a_reg _ rfl (s := ?zs5) ?_ ?_
          rotate_left
          · simp (maxSteps := 2000000) only [EVT, stepR, evOp, St.ev, St.app, St.put, wrs, datOf, datOf1, TIS, CS, Nat.reduceAdd, Nat.reduceMul, Nat.reduceEqDiff, ↓reduceIte, reduceCtorEq, Nat.reduceLT, Nat.reduceLeDiff, ↓zc2]
            (repeat' apply And.intro) <;> first | rfl | assumption | omega | (simp; done) | (simp; omega) | (simp_all; done)
          refine sA_n ?_
          refine a_ret ?_
          refine sA_r ?_
          obtain rfl := Option.some.inj H
          refine e_r2 (d := ?zd2) ?_ ?_
          rotate_left
          · simp only [EVT, resR, single, evLoad, cut, TIS, CS, Nat.reduceAdd, Nat.reduceEqDiff, ↓reduceIte, reduceCtorEq, Nat.reduceLT, Nat.reduceLeDiff, Nat.reduceSub, Nat.reduceBEq, zc2]
            (repeat' apply And.intro) <;> first | rfl | assumption | omega | (simp; done)
          exact (.bool' (by first | rfl | assumption | (simp_all; done)))
        · have H := cond_f zc2 H
          refine a_skip ?_
          refine sA_n ?_
          refine a_seq ?_
          refine a_cut (fun s => ∃ (v3 : Bool) (t0 : Nat → Dat), law13_LogNewer_J3 r1 a1 r2 v3 = some r ∧ s = ⟨tl t0 [(0, .list 2 (a1.map Entry.c)), (7, .bool r1), (8, .int .i64 r2), (71, .bool v3)], hl [], 0, 102⟩) ?_ ?_
          · obtain ⟨r8, zh8, H⟩ := bind_some H
            have zk8 := log_Newer_pc zh8
            refine bool_split (b := r8) (fun zc8 => ?_) (fun zc8 => ?_)
            · have H := cond_t zc8 H
              obtain ⟨r9, zh9, H⟩ := bind_some H
              have zk9 := log_Newer_pc zh9
              refine bool_split (b := r9) (fun zc9 => ?_) (fun zc9 => ?_)
              · have H := cond_t zc9 H
                obtain ⟨r10, zh10, H⟩ := bind_some H
                have zk10 := log_Newer_pc zh10
                refine a_reg _ rfl (s := ?zs12) ?_ ?_
                rotate_left
                · try simp (maxSteps := 2000000) only [EVT, stepR, evOp, St.ev, St.app, St.put, wrs, evBuiltin, frz, datOf, datOf1, evUn, TIS, CS, Nat.reduceAdd, Nat.reduceMul, Nat.reduceEqDiff, ↓reduceIte, reduceCtorEq, Nat.reduceLT, Nat.reduceLeDiff, Array.reduceGetElem?, Nat.reduceSub, Nat.reduceBEq, ↓zc2, ↓zc8, ↓zc9]
                  repeat' with_reducible apply And.intro
                  all_goals try ((with_reducible show CallR _ _ _ _ _ _ _); refine cR_s zk8 (.cons (.lst _ _ _ Entry.pu rfl) (.cons (.int' rfl) (.cons (.int' rfl) .nil))) (.bool _) ?_; simp (maxSteps := 2000000) only [EVT, stepR, evOp, St.ev, St.app, St.put, wrs, evBuiltin, frz, datOf, datOf1, evUn, TIS, CS, Nat.reduceAdd, Nat.reduceMul, Nat.reduceEqDiff, ↓reduceIte, reduceCtorEq, Nat.reduceLT, Nat.reduceLeDiff, Array.reduceGetElem?, Nat.reduceSub, Nat.reduceBEq, ↓zc2, ↓zc8, ↓zc9])
                  repeat' with_reducible apply And.intro
                  all_goals try ((with_reducible show CallR _ _ _ _ _ _ _); refine cR_s zk9 (.cons (.lst _ _ _ Entry.pu rfl) (.cons (.int' rfl) (.cons (.int' rfl) .nil))) (.bool _) ?_; simp (maxSteps := 2000000) only [EVT, stepR, evOp, St.ev, St.app, St.put, wrs, evBuiltin, frz, datOf, datOf1, evUn, TIS, CS, Nat.reduceAdd, Nat.reduceMul, Nat.reduceEqDiff, ↓reduceIte, reduceCtorEq, Nat.reduceLT, Nat.reduceLeDiff, Array.reduceGetElem?, Nat.reduceSub, Nat.reduceBEq, ↓zc2, ↓zc8, ↓zc9])
                  repeat' with_reducible apply And.intro
                  all_goals try ((with_reducible show CallR _ _ _ _ _ _ _); refine cR_s zk10 (.cons (.lst _ _ _ Entry.pu rfl) (.cons (.int' rfl) (.cons (.int' rfl) .nil))) (.bool _) ?_; simp (maxSteps := 2000000) only [EVT, stepR, evOp, St.ev, St.app, St.put, wrs, evBuiltin, frz, datOf, datOf1, evUn, TIS, CS, Nat.reduceAdd, Nat.reduceMul, Nat.reduceEqDiff, ↓reduceIte, reduceCtorEq, Nat.reduceLT, Nat.reduceLeDiff, Array.reduceGetElem?, Nat.reduceSub, Nat.reduceBEq, ↓zc2, ↓zc8, ↓zc9])
                  all_goals ((repeat' apply And.intro) <;> first | rfl | assumption | omega | (simp; done) | (simp; omega) | (simp_all; done))
                refine cA_n ?_
                refine wk_l [] [] [(0, .list 2 (a1.map Entry.c)), (7, .bool r1), (8, .int .i64 r2), (71, .bool (!r10))] (by show ([0, 7, 8, 71] : List Nat).Nodup; decide) (by show ([] : List Nat).Nodup; decide) ?_ ?_ (fun t0 => ⟨(!r10), t0, H, rfl⟩)
                · exact trivial
                · (simp only [AllT, tl_cons, tl_nil, upd_apply, List.getD_cons_zero, List.getD_cons_succ, Nat.reduceEqDiff, ↓reduceIte, and_true]); exact ⟨(.lst _ _ _ Entry.pu rfl), (.bool' rfl), (.int' rfl), (.bool' rfl)⟩
              · have H := cond_f zc9 H
                refine a_reg _ rfl (s := ?zs13) ?_ ?_
                rotate_left
                · try simp (maxSteps := 2000000) only [EVT, stepR, evOp, St.ev, St.app, St.put, wrs, evBuiltin, frz, datOf, datOf1, evUn, TIS, CS, Nat.reduceAdd, Nat.reduceMul, Nat.reduceEqDiff, ↓reduceIte, reduceCtorEq, Nat.reduceLT, Nat.reduceLeDiff, Array.reduceGetElem?, Nat.reduceSub, Nat.reduceBEq, ↓zc2, ↓zc8, ↓zc9]
                  repeat' with_reducible apply And.intro
                  all_goals try ((with_reducible show CallR _ _ _ _ _ _ _); refine cR_s zk8 (.cons (.lst _ _ _ Entry.pu rfl) (.cons (.int' rfl) (.cons (.int' rfl) .nil))) (.bool _) ?_; simp (maxSteps := 2000000) only [EVT, stepR, evOp, St.ev, St.app, St.put, wrs, evBuiltin, frz, datOf, datOf1, evUn, TIS, CS, Nat.reduceAdd, Nat.reduceMul, Nat.reduceEqDiff, ↓reduceIte, reduceCtorEq, Nat.reduceLT, Nat.reduceLeDiff, Array.reduceGetElem?, Nat.reduceSub, Nat.reduceBEq, ↓zc2, ↓zc8, ↓zc9])
                  repeat' with_reducible apply And.intro
                  all_goals try ((with_reducible show CallR _ _ _ _ _ _ _); refine cR_s zk9 (.cons (.lst _ _ _ Entry.pu rfl) (.cons (.int' rfl) (.cons (.int' rfl) .nil))) (.bool _) ?_; simp (maxSteps := 2000000) only [EVT, stepR, evOp, St.ev, St.app, St.put, wrs, evBuiltin, frz, datOf, datOf1, evUn, TIS, CS, Nat.reduceAdd, Nat.reduceMul, Nat.reduceEqDiff, ↓reduceIte, reduceCtorEq, Nat.reduceLT, Nat.reduceLeDiff, Array.reduceGetElem?, Nat.reduceSub, Nat.reduceBEq, ↓zc2, ↓zc8, ↓zc9])
                  all_goals ((repeat' apply And.intro) <;> first | rfl | assumption | omega | (simp; done) | (simp; omega) | (simp_all; done))
                refine cA_n ?_
                refine wk_l [] [] [(0, .list 2 (a1.map Entry.c)), (7, .bool r1), (8, .int .i64 r2), (71, .bool false)] (by show ([0, 7, 8, 71] : List Nat).Nodup; decide) (by show ([] : List Nat).Nodup; decide) ?_ ?_ (fun t0 => ⟨false, t0, H, rfl⟩)
                · exact trivial
                · (simp only [AllT, tl_cons, tl_nil, upd_apply, List.getD_cons_zero, List.getD_cons_succ, Nat.reduceEqDiff, ↓reduceIte, and_true]); exact ⟨(.lst _ _ _ Entry.pu rfl), (.bool' rfl), (.int' rfl), (.bool' (by first | rfl | assumption | (simp_all; done)))⟩
            · have H := cond_f zc8 H
              refine a_reg _ rfl (s := ?zs14) ?_ ?_
              rotate_left
              · try simp (maxSteps := 2000000) only [EVT, stepR, evOp, St.ev, St.app, St.put, wrs, evBuiltin, frz, datOf, datOf1, evUn, TIS, CS, Nat.reduceAdd, Nat.reduceMul, Nat.reduceEqDiff, ↓reduceIte, reduceCtorEq, Nat.reduceLT, Nat.reduceLeDiff, Array.reduceGetElem?, Nat.reduceSub, Nat.reduceBEq, ↓zc2, ↓zc8]
                repeat' with_reducible apply And.intro
                all_goals try ((with_reducible show CallR _ _ _ _ _ _ _); refine cR_s zk8 (.cons (.lst _ _ _ Entry.pu rfl) (.cons (.int' rfl) (.cons (.int' rfl) .nil))) (.bool _) ?_; simp (maxSteps := 2000000) only [EVT, stepR, evOp, St.ev, St.app, St.put, wrs, evBuiltin, frz, datOf, datOf1, evUn, TIS, CS, Nat.reduceAdd, Nat.reduceMul, Nat.reduceEqDiff, ↓reduceIte, reduceCtorEq, Nat.reduceLT, Nat.reduceLeDiff, Array.reduceGetElem?, Nat.reduceSub, Nat.reduceBEq, ↓zc2, ↓zc8])
                all_goals ((repeat' apply And.intro) <;> first | rfl | assumption | omega | (simp; done) | (simp; omega) | (simp_all; done))
              refine cA_n ?_
              refine wk_l [] [] [(0, .list 2 (a1.map Entry.c)), (7, .bool r1), (8, .int .i64 r2), (71, .bool false)] (by show ([0, 7, 8, 71] : List Nat).Nodup; decide) (by show ([] : List Nat).Nodup; decide) ?_ ?_ (fun t0 => ⟨false, t0, H, rfl⟩)
              · exact trivial
              · (simp only [AllT, tl_cons, tl_nil, upd_apply, List.getD_cons_zero, List.getD_cons_succ, Nat.reduceEqDiff, ↓reduceIte, and_true]); exact ⟨(.lst _ _ _ Entry.pu rfl), (.bool' rfl), (.int' rfl), (.bool' (by first | rfl | assumption | (simp_all; done)))⟩
          · rintro s ⟨v3, t0, H, rfl⟩
            unfold law13_LogNewer_J3 at H
            refine a_condb (v3) (by rfl) (fun zc3 => ?_) (fun zc3 => ?_)
            · have H := cond_t zc3 H
              refine a_seq ?_
              refine a_reg _ rfl (s := ?zs6) ?_ ?_
              rotate_left
              · simp (maxSteps := 2000000) only [EVT, stepR, evOp, St.ev, St.app, St.put, wrs, datOf, datOf1, TIS, CS, Nat.reduceAdd, Nat.reduceMul, Nat.reduceEqDiff, ↓reduceIte, reduceCtorEq, Nat.reduceLT, Nat.reduceLeDiff, ↓zc3]
                (repeat' apply And.intro) <;> first | rfl | assumption | omega | (simp; done) | (simp; omega) | (simp_all; done)
              refine sA_n ?_
              refine a_ret ?_
              refine sA_r ?_
              obtain rfl := Option.some.inj H
              refine e_r2 (d := ?zd3) ?_ ?_
              rotate_left
              · simp only [EVT, resR, single, evLoad, cut, TIS, CS, Nat.reduceAdd, Nat.reduceEqDiff, ↓reduceIte, reduceCtorEq, Nat.reduceLT, Nat.reduceLeDiff, Nat.reduceSub, Nat.reduceBEq, zc3]
                (repeat' apply And.intro) <;> first | rfl | assumption | omega | (simp; done)
              exact (.bool' (by first | rfl | assumption | (simp_all; done)))
            · have H := cond_f zc3 H
              refine a_skip ?_
              refine sA_n ?_
              refine a_seq ?_
              refine bool_split (b := r1) (fun zc4 => ?_) (fun zc4 => ?_)
              · have H := cond_t zc4 H
                obtain ⟨r5, zh5, H⟩ := bind_some H
                have zk5 := log_Newer_pc zh5
                refine bool_split (b := r5) (fun zc5 => ?_) (fun zc5 => ?_)
                · have H := cond_t zc5 H
                  obtain ⟨r6, zh6, H⟩ := bind_some H
                  have zk6 := log_Newer_pc zh6
                  refine bool_split (b := r6) (fun zc6 => ?_) (fun zc6 => ?_)
                  · have H := cond_t zc6 H
                    refine bool_split (b := ((a1.length : Int) == 0)) (fun zc7 => ?_) (fun zc7 => ?_)
                    · have H := cond_t zc7 H
                      refine a_reg _ rfl (s := ?zs7) ?_ ?_
                      rotate_left
                      · try simp (maxSteps := 2000000) only [EVT, stepR, evOp, St.ev, St.app, St.put, wrs, evBuiltin, frz, datOf, datOf1, evBin, binInt, evUn, TIS, CS, Nat.reduceAdd, Nat.reduceMul, Nat.reduceEqDiff, ↓reduceIte, reduceCtorEq, Nat.reduceLT, Nat.reduceLeDiff, Array.reduceGetElem?, Nat.reduceSub, Nat.reduceBEq, ↓zc3, ↓zc4, ↓zc5, ↓zc6, ↓zc7]
                        repeat' with_reducible apply And.intro
                        all_goals try ((with_reducible show CallR _ _ _ _ _ _ _); refine cR_s zk5 (.cons (.lst _ _ _ Entry.pu rfl) (.cons (.int' rfl) (.cons (.int' rfl) .nil))) (.bool _) ?_; simp (maxSteps := 2000000) only [EVT, stepR, evOp, St.ev, St.app, St.put, wrs, evBuiltin, frz, datOf, datOf1, evBin, binInt, evUn, TIS, CS, Nat.reduceAdd, Nat.reduceMul, Nat.reduceEqDiff, ↓reduceIte, reduceCtorEq, Nat.reduceLT, Nat.reduceLeDiff, Array.reduceGetElem?, Nat.reduceSub, Nat.reduceBEq, ↓zc3, ↓zc4, ↓zc5, ↓zc6, ↓zc7])
                        repeat' with_reducible apply And.intro
                        all_goals try ((with_reducible show CallR _ _ _ _ _ _ _); refine cR_s zk6 (.cons (.lst _ _ _ Entry.pu rfl) (.cons (.int' rfl) (.cons (.int' rfl) .nil))) (.bool _) ?_; simp (maxSteps := 2000000) only [EVT, stepR, evOp, St.ev, St.app, St.put, wrs, evBuiltin, frz, datOf, datOf1, evBin, binInt, evUn, TIS, CS, Nat.reduceAdd, Nat.reduceMul, Nat.reduceEqDiff, ↓reduceIte, reduceCtorEq, Nat.reduceLT, Nat.reduceLeDiff, Array.reduceGetElem?, Nat.reduceSub, Nat.reduceBEq, ↓zc3, ↓zc4, ↓zc5, ↓zc6, ↓zc7])
                        all_goals ((repeat' apply And.intro) <;> first | rfl | assumption | omega | (simp; done) | (simp; omega) | (simp_all; done))
                      refine sA_n ?_
                      refine a_ret ?_
                      obtain rfl := Option.some.inj H
                      refine e_r2 (d := ?zd4) ?_ ?_
                      rotate_left
                      · simp only [EVT, resR, single, evLoad, cut, TIS, CS, Nat.reduceAdd, Nat.reduceEqDiff, ↓reduceIte, reduceCtorEq, Nat.reduceLT, Nat.reduceLeDiff, Nat.reduceSub, Nat.reduceBEq, zc3, zc4, zc5, zc6, zc7]
                        (repeat' apply And.intro) <;> first | rfl | assumption | omega | (simp; done)
                      exact (.bool' (by first | rfl | assumption | (simp_all; done)))
                    · have H := cond_f zc7 H
                      obtain ⟨r7, zh7, H⟩ := bind_some H
                      have zk7 := log_Newer_pc zh7
                      refine a_reg _ rfl (s := ?zs8) ?_ ?_
                      rotate_left
                      · try simp (maxSteps := 2000000) only [EVT, stepR, evOp, St.ev, St.app, St.put, wrs, evBuiltin, frz, datOf, datOf1, evBin, binInt, evUn, TIS, CS, Nat.reduceAdd, Nat.reduceMul, Nat.reduceEqDiff, ↓reduceIte, reduceCtorEq, Nat.reduceLT, Nat.reduceLeDiff, Array.reduceGetElem?, Nat.reduceSub, Nat.reduceBEq, ↓zc3, ↓zc4, ↓zc5, ↓zc6, ↓zc7]
                        repeat' with_reducible apply And.intro
                        all_goals try ((with_reducible show CallR _ _ _ _ _ _ _); refine cR_s zk5 (.cons (.lst _ _ _ Entry.pu rfl) (.cons (.int' rfl) (.cons (.int' rfl) .nil))) (.bool _) ?_; simp (maxSteps := 2000000) only [EVT, stepR, evOp, St.ev, St.app, St.put, wrs, evBuiltin, frz, datOf, datOf1, evBin, binInt, evUn, TIS, CS, Nat.reduceAdd, Nat.reduceMul, Nat.reduceEqDiff, ↓reduceIte, reduceCtorEq, Nat.reduceLT, Nat.reduceLeDiff, Array.reduceGetElem?, Nat.reduceSub, Nat.reduceBEq, ↓zc3, ↓zc4, ↓zc5, ↓zc6, ↓zc7])
                        repeat' with_reducible apply And.intro
                        all_goals try ((with_reducible show CallR _ _ _ _ _ _ _); refine cR_s zk6 (.cons (.lst _ _ _ Entry.pu rfl) (.cons (.int' rfl) (.cons (.int' rfl) .nil))) (.bool _) ?_; simp (maxSteps := 2000000) only [EVT, stepR, evOp, St.ev, St.app, St.put, wrs, evBuiltin, frz, datOf, datOf1, evBin, binInt, evUn, TIS, CS, Nat.reduceAdd, Nat.reduceMul, Nat.reduceEqDiff, ↓reduceIte, reduceCtorEq, Nat.reduceLT, Nat.reduceLeDiff, Array.reduceGetElem?, Nat.reduceSub, Nat.reduceBEq, ↓zc3, ↓zc4, ↓zc5, ↓zc6, ↓zc7])
                        repeat' with_reducible apply And.intro
                        all_goals try ((with_reducible show CallR _ _ _ _ _ _ _); refine cR_s zk7 (.cons (.lst _ _ _ Entry.pu rfl) (.cons (.int' rfl) (.cons (.int' rfl) .nil))) (.bool _) ?_; simp (maxSteps := 2000000) only [EVT, stepR, evOp, St.ev, St.app, St.put, wrs, evBuiltin, frz, datOf, datOf1, evBin, binInt, evUn, TIS, CS, Nat.reduceAdd, Nat.reduceMul, Nat.reduceEqDiff, ↓reduceIte, reduceCtorEq, Nat.reduceLT, Nat.reduceLeDiff, Array.reduceGetElem?, Nat.reduceSub, Nat.reduceBEq, ↓zc3, ↓zc4, ↓zc5, ↓zc6, ↓zc7])
                        all_goals ((repeat' apply And.intro) <;> first | rfl | assumption | omega | (simp; done) | (simp; omega) | (simp_all; done))
                      refine sA_n ?_
                      refine a_ret ?_
                      obtain rfl := Option.some.inj H
                      refine e_r2 (d := ?zd5) ?_ ?_
                      rotate_left
                      · simp only [EVT, resR, single, evLoad, cut, TIS, CS, Nat.reduceAdd, Nat.reduceEqDiff, ↓reduceIte, reduceCtorEq, Nat.reduceLT, Nat.reduceLeDiff, Nat.reduceSub, Nat.reduceBEq, zc3, zc4, zc5, zc6, zc7]
                        (repeat' apply And.intro) <;> first | rfl | assumption | omega | (simp; done)
                      exact (.bool' rfl)
                  · have H := cond_f zc6 H
                    refine a_reg _ rfl (s := ?zs9) ?_ ?_
                    rotate_left
                    · try simp (maxSteps := 2000000) only [EVT, stepR, evOp, St.ev, St.app, St.put, wrs, evBuiltin, frz, datOf, datOf1, evBin, binInt, evUn, TIS, CS, Nat.reduceAdd, Nat.reduceMul, Nat.reduceEqDiff, ↓reduceIte, reduceCtorEq, Nat.reduceLT, Nat.reduceLeDiff, Array.reduceGetElem?, Nat.reduceSub, Nat.reduceBEq, ↓zc3, ↓zc4, ↓zc5, ↓zc6]
                      repeat' with_reducible apply And.intro
                      all_goals try ((with_reducible show CallR _ _ _ _ _ _ _); refine cR_s zk5 (.cons (.lst _ _ _ Entry.pu rfl) (.cons (.int' rfl) (.cons (.int' rfl) .nil))) (.bool _) ?_; simp (maxSteps := 2000000) only [EVT, stepR, evOp, St.ev, St.app, St.put, wrs, evBuiltin, frz, datOf, datOf1, evBin, binInt, evUn, TIS, CS, Nat.reduceAdd, Nat.reduceMul, Nat.reduceEqDiff, ↓reduceIte, reduceCtorEq, Nat.reduceLT, Nat.reduceLeDiff, Array.reduceGetElem?, Nat.reduceSub, Nat.reduceBEq, ↓zc3, ↓zc4, ↓zc5, ↓zc6])
                      repeat' with_reducible apply And.intro
                      all_goals try ((with_reducible show CallR _ _ _ _ _ _ _); refine cR_s zk6 (.cons (.lst _ _ _ Entry.pu rfl) (.cons (.int' rfl) (.cons (.int' rfl) .nil))) (.bool _) ?_; simp (maxSteps := 2000000) only [EVT, stepR, evOp, St.ev, St.app, St.put, wrs, evBuiltin, frz, datOf, datOf1, evBin, binInt, evUn, TIS, CS, Nat.reduceAdd, Nat.reduceMul, Nat.reduceEqDiff, ↓reduceIte, reduceCtorEq, Nat.reduceLT, Nat.reduceLeDiff, Array.reduceGetElem?, Nat.reduceSub, Nat.reduceBEq, ↓zc3, ↓zc4, ↓zc5, ↓zc6])
                      all_goals ((repeat' apply And.intro) <;> first | rfl | assumption | omega | (simp; done) | (simp; omega) | (simp_all; done))
                    refine sA_n ?_
                    refine a_ret ?_
                    obtain rfl := Option.some.inj H
                    refine e_r2 (d := ?zd6) ?_ ?_
                    rotate_left
                    · simp only [EVT, resR, single, evLoad, cut, TIS, CS, Nat.reduceAdd, Nat.reduceEqDiff, ↓reduceIte, reduceCtorEq, Nat.reduceLT, Nat.reduceLeDiff, Nat.reduceSub, Nat.reduceBEq, zc3, zc4, zc5, zc6]
                      (repeat' apply And.intro) <;> first | rfl | assumption | omega | (simp; done)
                    exact (.bool' (by first | rfl | assumption | (simp_all; done)))
                · have H := cond_f zc5 H
                  refine a_reg _ rfl (s := ?zs10) ?_ ?_
                  rotate_left
                  · try simp (maxSteps := 2000000) only [EVT, stepR, evOp, St.ev, St.app, St.put, wrs, evBuiltin, frz, datOf, datOf1, evBin, binInt, evUn, TIS, CS, Nat.reduceAdd, Nat.reduceMul, Nat.reduceEqDiff, ↓reduceIte, reduceCtorEq, Nat.reduceLT, Nat.reduceLeDiff, Array.reduceGetElem?, Nat.reduceSub, Nat.reduceBEq, ↓zc3, ↓zc4, ↓zc5]
                    repeat' with_reducible apply And.intro
                    all_goals try ((with_reducible show CallR _ _ _ _ _ _ _); refine cR_s zk5 (.cons (.lst _ _ _ Entry.pu rfl) (.cons (.int' rfl) (.cons (.int' rfl) .nil))) (.bool _) ?_; simp (maxSteps := 2000000) only [EVT, stepR, evOp, St.ev, St.app, St.put, wrs, evBuiltin, frz, datOf, datOf1, evBin, binInt, evUn, TIS, CS, Nat.reduceAdd, Nat.reduceMul, Nat.reduceEqDiff, ↓reduceIte, reduceCtorEq, Nat.reduceLT, Nat.reduceLeDiff, Array.reduceGetElem?, Nat.reduceSub, Nat.reduceBEq, ↓zc3, ↓zc4, ↓zc5])
                    all_goals ((repeat' apply And.intro) <;> first | rfl | assumption | omega | (simp; done) | (simp; omega) | (simp_all; done))
                  refine sA_n ?_
                  refine a_ret ?_
                  obtain rfl := Option.some.inj H
                  refine e_r2 (d := ?zd7) ?_ ?_
                  rotate_left
                  · simp only [EVT, resR, single, evLoad, cut, TIS, CS, Nat.reduceAdd, Nat.reduceEqDiff, ↓reduceIte, reduceCtorEq, Nat.reduceLT, Nat.reduceLeDiff, Nat.reduceSub, Nat.reduceBEq, zc3, zc4, zc5]
                    (repeat' apply And.intro) <;> first | rfl | assumption | omega | (simp; done)
                  exact (.bool' (by first | rfl | assumption | (simp_all; done)))
              · have H := cond_f zc4 H
                refine a_reg _ rfl (s := ?zs11) ?_ ?_
                rotate_left
                · simp (maxSteps := 2000000) only [EVT, stepR, evOp, St.ev, St.app, St.put, wrs, evBuiltin, frz, datOf, datOf1, evBin, binInt, evUn, TIS, CS, Nat.reduceAdd, Nat.reduceMul, Nat.reduceEqDiff, ↓reduceIte, reduceCtorEq, Nat.reduceLT, Nat.reduceLeDiff, Array.reduceGetElem?, Nat.reduceSub, Nat.reduceBEq, ↓zc3, ↓zc4]
                  try simp (maxSteps := 2000000) only [EVT, stepR, evOp, St.ev, St.app, St.put, wrs, evBuiltin, frz, datOf, datOf1, evBin, binInt, evUn, TIS, CS, Nat.reduceAdd, Nat.reduceMul, Nat.reduceEqDiff, ↓reduceIte, reduceCtorEq, Nat.reduceLT, Nat.reduceLeDiff, Array.reduceGetElem?, Nat.reduceSub, Nat.reduceBEq, ↓zc3, ↓zc4]
                  (repeat' apply And.intro) <;> first | rfl | assumption | omega | (simp; done) | (simp; omega) | (simp_all; done)
                refine sA_n ?_
                refine a_ret ?_
                obtain rfl := Option.some.inj H
                refine e_r2 (d := ?zd8) ?_ ?_
                rotate_left
                · simp only [EVT, resR, single, evLoad, cut, TIS, CS, Nat.reduceAdd, Nat.reduceEqDiff, ↓reduceIte, reduceCtorEq, Nat.reduceLT, Nat.reduceLeDiff, Nat.reduceSub, Nat.reduceBEq, zc3, zc4]
                  (repeat' apply And.intro) <;> first | rfl | assumption | omega | (simp; done)
                exact (.bool' (by first | rfl | assumption | (simp_all; done)))
end
end Go.Proofs.Ytiomajfdphmgaaa
