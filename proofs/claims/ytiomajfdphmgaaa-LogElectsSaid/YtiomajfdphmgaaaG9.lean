/- Functions of the program as Lean functions, and that they are so; printed by a program of mine. -/
import Derived.Test.YtiomajfdphmgaaaF3
set_option linter.unusedSimpArgs false
set_option linter.unusedVariables false
namespace Go.Proofs.Ytiomajfdphmgaaa
open Go.Ab
noncomputable section

def law13_LogElects_J3 (r1 : Bool) (l1 : List Entry) (voter1 : List Entry) (v3 : Bool) : Option Bool :=
  cond v3 (some (r1)) (cond r1 ((ref13_Term_f l1 (l1.length : Int)).bind fun r5 => (log_Newer_f voter1 r5 (l1.length : Int)).bind fun r6 => some ((!r6))) (some (false)))
def law13_LogElects_J2 (r1 : Bool) (leader1 : List Entry) (x1 : Entry) (at1 : Int) (voter1 : List Entry) (l1 : List Entry) (v2 : Bool) : Option Bool :=
  cond v2 (some (r1)) ((log_Commit_f leader1 x1.term [(IntKind.wrap .i64 (1 + (Int.tmod (IntKind.wrap .i64 at1) (leader1.length : Int)))), (IntKind.wrap .i64 (1 + (Int.tmod (IntKind.wrap .i64 at1) (leader1.length : Int)))), 0] (IntKind.wrap .i64 ((IntKind.wrap .i64 (1 + (Int.tmod (IntKind.wrap .i64 at1) (leader1.length : Int)))) - 1))).bind fun r2 => cond (r2 != (IntKind.wrap .i64 (1 + (Int.tmod (IntKind.wrap .i64 at1) (leader1.length : Int))))) (some (false)) ((log_Fits_f voter1 (IntKind.wrap .i64 (1 + (Int.tmod (IntKind.wrap .i64 at1) (leader1.length : Int)))) x1.term).bind fun r3 => (log_Fits_f l1 (IntKind.wrap .i64 (1 + (Int.tmod (IntKind.wrap .i64 at1) (leader1.length : Int)))) x1.term).bind fun r4 => cond (!r3) (law13_LogElects_J3 r1 l1 voter1 true) (cond (!(!r4)) (law13_LogElects_J3 r1 l1 voter1 true) ((ref13_Term_f l1 (l1.length : Int)).bind fun r7 => law13_LogElects_J3 r1 l1 voter1 (decide (x1.term < r7))))))
def law13_LogElects_J1 (r1 : Bool) (leader1 : List Entry) (at1 : Int) (voter1 : List Entry) (l1 : List Entry) (v1 : Bool) : Option Bool :=
  cond v1 (some (r1)) (chk ((leader1.length : Int) ≠ 0) ((idx leader1 (IntKind.wrap .i64 ((IntKind.wrap .i64 (1 + (Int.tmod (IntKind.wrap .i64 at1) (leader1.length : Int)))) - 1))).bind fun x1 => (ref13_Term_f leader1 (leader1.length : Int)).bind fun r8 => law13_LogElects_J2 r1 leader1 x1 at1 voter1 l1 ((x1.term != r8) || (decide ((leader1.length : Int) < (l1.length : Int))))))
def law13_LogElects_f (leader1 : List Entry) (l1 : List Entry) (voter1 : List Entry) (at1 : Int) : Option Bool :=
  (law13_head_f).bind fun r1 => (law13_Fits_f leader1).bind fun r9 => cond (!r9) (law13_LogElects_J1 r1 leader1 at1 voter1 l1 true) ((law13_Fits_f l1).bind fun r10 => cond (!r10) (law13_LogElects_J1 r1 leader1 at1 voter1 l1 true) ((law13_Fits_f voter1).bind fun r11 => cond (!r11) (law13_LogElects_J1 r1 leader1 at1 voter1 l1 true) (cond ((leader1.length : Int) == 0) (law13_LogElects_J1 r1 leader1 at1 voter1 l1 true) ((law13_rises_f leader1).bind fun r12 => cond (!r12) (law13_LogElects_J1 r1 leader1 at1 voter1 l1 true) ((law13_rises_f l1).bind fun r13 => cond (!r13) (law13_LogElects_J1 r1 leader1 at1 voter1 l1 true) ((law13_rises_f voter1).bind fun r14 => cond (!r14) (law13_LogElects_J1 r1 leader1 at1 voter1 l1 true) ((ref13_Meet_f l1 leader1).bind fun r15 => cond (!r15) (law13_LogElects_J1 r1 leader1 at1 voter1 l1 true) ((ref13_Meet_f voter1 leader1).bind fun r16 => law13_LogElects_J1 r1 leader1 at1 voter1 l1 (!r16)))))))))
set_option maxHeartbeats 4000000 in
set_option maxRecDepth 20000 in
theorem law13_LogElects_pc {leader1 : List Entry} {l1 : List Entry} {voter1 : List Entry} {at1 : Int} {r : Bool} (H : law13_LogElects_f leader1 l1 voter1 at1 = some r) : PC Try.prog 9 [.list 2 (leader1.map Entry.c), .list 2 (l1.map Entry.c), .list 2 (voter1.map Entry.c), .int .u8 at1] (.bool r) := by
  refine pcA_of Try.func9 (by rfl) (by decide) 133 (by rfl) [.tmp 8] (by rfl) ?_
  unfold law13_LogElects_f at H
  simp only [ent]
  refine a_seq ?_
  refine a_reg _ rfl (s := ?zs1) ?_ ?_
  rotate_left
  · simp (maxSteps := 2000000) only [EVT, stepR, evOp, St.ev, St.app, St.put, wrs, datOf, datOf1, TIS, CS, Nat.reduceAdd, Nat.reduceMul, Nat.reduceEqDiff, ↓reduceIte, reduceCtorEq, Nat.reduceLT, Nat.reduceLeDiff]
    (repeat' apply And.intro) <;> first | rfl | assumption | omega | (simp; done) | (simp; omega) | (simp_all; done)
  refine sA_n ?_
  refine a_seq ?_
  obtain ⟨r1, zh1, H⟩ := bind_some H
  have zk1 := law13_head_pc zh1
  refine a_reg _ rfl (s := ?zs2) ?_ ?_
  rotate_left
  · try simp (maxSteps := 2000000) only [EVT, stepR, evOp, St.ev, St.app, St.put, wrs, frz, TIS, CS, Nat.reduceAdd, Nat.reduceMul, Nat.reduceEqDiff, ↓reduceIte, reduceCtorEq, Nat.reduceLT, Nat.reduceLeDiff, Nat.reduceSub, Nat.reduceBEq]
    repeat' with_reducible apply And.intro
    all_goals try ((with_reducible show CallR _ _ _ _ _ _ _); refine cR_s zk1 .nil (.bool _) ?_; simp (maxSteps := 2000000) only [EVT, stepR, evOp, St.ev, St.app, St.put, wrs, frz, TIS, CS, Nat.reduceAdd, Nat.reduceMul, Nat.reduceEqDiff, ↓reduceIte, reduceCtorEq, Nat.reduceLT, Nat.reduceLeDiff, Nat.reduceSub, Nat.reduceBEq])
    all_goals ((repeat' apply And.intro) <;> first | rfl | assumption | omega | (simp; done) | (simp; omega) | (simp_all; done))
  refine sA_n ?_
  refine a_seq ?_
  refine a_cut (fun s => ∃ (v1 : Bool) (t0 : Nat → Dat), law13_LogElects_J1 r1 leader1 at1 voter1 l1 v1 = some r ∧ s = ⟨tl t0 [(0, .list 2 (leader1.map Entry.c)), (1, .list 2 (l1.map Entry.c)), (2, .list 2 (voter1.map Entry.c)), (3, .int .u8 at1), (9, .bool r1), (59, .bool v1)], hl [], 0, 133⟩) ?_ ?_
  · obtain ⟨r9, zh11, H⟩ := bind_some H
    have zk9 := law13_Fits_pc zh11
    refine bool_split (b := (!r9)) (fun zc9 => ?_) (fun zc9 => ?_)
    · have H := cond_t zc9 H
      refine a_reg _ rfl (s := ?zs18) ?_ ?_
      rotate_left
      · try simp (maxSteps := 2000000) only [EVT, stepR, evOp, St.ev, St.app, St.put, wrs, frz, evUn, datOf, datOf1, evBuiltin, evBin, binInt, TIS, CS, Nat.reduceAdd, Nat.reduceMul, Nat.reduceEqDiff, ↓reduceIte, reduceCtorEq, Nat.reduceLT, Nat.reduceLeDiff, Array.reduceGetElem?, Nat.reduceSub, Nat.reduceBEq, ↓zc9]
        repeat' with_reducible apply And.intro
        all_goals try ((with_reducible show CallR _ _ _ _ _ _ _); refine cR_s zk9 (.cons (.lst _ _ _ Entry.pu rfl) .nil) (.bool _) ?_; simp (maxSteps := 2000000) only [EVT, stepR, evOp, St.ev, St.app, St.put, wrs, frz, evUn, datOf, datOf1, evBuiltin, evBin, binInt, TIS, CS, Nat.reduceAdd, Nat.reduceMul, Nat.reduceEqDiff, ↓reduceIte, reduceCtorEq, Nat.reduceLT, Nat.reduceLeDiff, Array.reduceGetElem?, Nat.reduceSub, Nat.reduceBEq, ↓zc9])
        all_goals ((repeat' apply And.intro) <;> first | rfl | assumption | omega | (simp; done) | (simp; omega) | (simp_all; done))
      refine cA_n ?_
      refine wk_l [] [] [(0, .list 2 (leader1.map Entry.c)), (1, .list 2 (l1.map Entry.c)), (2, .list 2 (voter1.map Entry.c)), (3, .int .u8 at1), (9, .bool r1), (59, .bool true)] (by show ([0, 1, 2, 3, 9, 59] : List Nat).Nodup; decide) (by show ([] : List Nat).Nodup; decide) ?_ ?_ (fun t0 => ⟨true, t0, H, rfl⟩)
      · exact trivial
      · (simp only [AllT, tl_cons, tl_nil, upd_apply, List.getD_cons_zero, List.getD_cons_succ, Nat.reduceEqDiff, ↓reduceIte, and_true]); exact ⟨(.lst _ _ _ Entry.pu rfl), (.lst _ _ _ Entry.pu rfl), (.lst _ _ _ Entry.pu rfl), (.int' rfl), (.bool' rfl), (.bool' (by first | rfl | assumption | (simp_all; done)))⟩
    · have H := cond_f zc9 H
      obtain ⟨r10, zh12, H⟩ := bind_some H
      have zk10 := law13_Fits_pc zh12
      refine bool_split (b := (!r10)) (fun zc10 => ?_) (fun zc10 => ?_)
      · have H := cond_t zc10 H
        refine a_reg _ rfl (s := ?zs19) ?_ ?_
        rotate_left
        · try simp (maxSteps := 2000000) only [EVT, stepR, evOp, St.ev, St.app, St.put, wrs, frz, evUn, datOf, datOf1, evBuiltin, evBin, binInt, TIS, CS, Nat.reduceAdd, Nat.reduceMul, Nat.reduceEqDiff, ↓reduceIte, reduceCtorEq, Nat.reduceLT, Nat.reduceLeDiff, Array.reduceGetElem?, Nat.reduceSub, Nat.reduceBEq, ↓zc9, ↓zc10]
          repeat' with_reducible apply And.intro
          all_goals try ((with_reducible show CallR _ _ _ _ _ _ _); refine cR_s zk9 (.cons (.lst _ _ _ Entry.pu rfl) .nil) (.bool _) ?_; simp (maxSteps := 2000000) only [EVT, stepR, evOp, St.ev, St.app, St.put, wrs, frz, evUn, datOf, datOf1, evBuiltin, evBin, binInt, TIS, CS, Nat.reduceAdd, Nat.reduceMul, Nat.reduceEqDiff, ↓reduceIte, reduceCtorEq, Nat.reduceLT, Nat.reduceLeDiff, Array.reduceGetElem?, Nat.reduceSub, Nat.reduceBEq, ↓zc9, ↓zc10])
          repeat' with_reducible apply And.intro
          all_goals try ((with_reducible show CallR _ _ _ _ _ _ _); refine cR_s zk10 (.cons (.lst _ _ _ Entry.pu rfl) .nil) (.bool _) ?_; simp (maxSteps := 2000000) only [EVT, stepR, evOp, St.ev, St.app, St.put, wrs, frz, evUn, datOf, datOf1, evBuiltin, evBin, binInt, TIS, CS, Nat.reduceAdd, Nat.reduceMul, Nat.reduceEqDiff, ↓reduceIte, reduceCtorEq, Nat.reduceLT, Nat.reduceLeDiff, Array.reduceGetElem?, Nat.reduceSub, Nat.reduceBEq, ↓zc9, ↓zc10])
          all_goals ((repeat' apply And.intro) <;> first | rfl | assumption | omega | (simp; done) | (simp; omega) | (simp_all; done))
        refine cA_n ?_
        refine wk_l [] [] [(0, .list 2 (leader1.map Entry.c)), (1, .list 2 (l1.map Entry.c)), (2, .list 2 (voter1.map Entry.c)), (3, .int .u8 at1), (9, .bool r1), (59, .bool true)] (by show ([0, 1, 2, 3, 9, 59] : List Nat).Nodup; decide) (by show ([] : List Nat).Nodup; decide) ?_ ?_ (fun t0 => ⟨true, t0, H, rfl⟩)
        · exact trivial
        · (simp only [AllT, tl_cons, tl_nil, upd_apply, List.getD_cons_zero, List.getD_cons_succ, Nat.reduceEqDiff, ↓reduceIte, and_true]); exact ⟨(.lst _ _ _ Entry.pu rfl), (.lst _ _ _ Entry.pu rfl), (.lst _ _ _ Entry.pu rfl), (.int' rfl), (.bool' rfl), (.bool' (by first | rfl | assumption | (simp_all; done)))⟩
      · have H := cond_f zc10 H
        obtain ⟨r11, zh13, H⟩ := bind_some H
        have zk11 := law13_Fits_pc zh13
        refine bool_split (b := (!r11)) (fun zc11 => ?_) (fun zc11 => ?_)
        · have H := cond_t zc11 H
          refine a_reg _ rfl (s := ?zs20) ?_ ?_
          rotate_left
          · try simp (maxSteps := 2000000) only [EVT, stepR, evOp, St.ev, St.app, St.put, wrs, frz, evUn, datOf, datOf1, evBuiltin, evBin, binInt, TIS, CS, Nat.reduceAdd, Nat.reduceMul, Nat.reduceEqDiff, ↓reduceIte, reduceCtorEq, Nat.reduceLT, Nat.reduceLeDiff, Array.reduceGetElem?, Nat.reduceSub, Nat.reduceBEq, ↓zc9, ↓zc10, ↓zc11]
            repeat' with_reducible apply And.intro
            all_goals try ((with_reducible show CallR _ _ _ _ _ _ _); refine cR_s zk9 (.cons (.lst _ _ _ Entry.pu rfl) .nil) (.bool _) ?_; simp (maxSteps := 2000000) only [EVT, stepR, evOp, St.ev, St.app, St.put, wrs, frz, evUn, datOf, datOf1, evBuiltin, evBin, binInt, TIS, CS, Nat.reduceAdd, Nat.reduceMul, Nat.reduceEqDiff, ↓reduceIte, reduceCtorEq, Nat.reduceLT, Nat.reduceLeDiff, Array.reduceGetElem?, Nat.reduceSub, Nat.reduceBEq, ↓zc9, ↓zc10, ↓zc11])
            repeat' with_reducible apply And.intro
            all_goals try ((with_reducible show CallR _ _ _ _ _ _ _); refine cR_s zk10 (.cons (.lst _ _ _ Entry.pu rfl) .nil) (.bool _) ?_; simp (maxSteps := 2000000) only [EVT, stepR, evOp, St.ev, St.app, St.put, wrs, frz, evUn, datOf, datOf1, evBuiltin, evBin, binInt, TIS, CS, Nat.reduceAdd, Nat.reduceMul, Nat.reduceEqDiff, ↓reduceIte, reduceCtorEq, Nat.reduceLT, Nat.reduceLeDiff, Array.reduceGetElem?, Nat.reduceSub, Nat.reduceBEq, ↓zc9, ↓zc10, ↓zc11])
            repeat' with_reducible apply And.intro
            all_goals try ((with_reducible show CallR _ _ _ _ _ _ _); refine cR_s zk11 (.cons (.lst _ _ _ Entry.pu rfl) .nil) (.bool _) ?_; simp (maxSteps := 2000000) only [EVT, stepR, evOp, St.ev, St.app, St.put, wrs, frz, evUn, datOf, datOf1, evBuiltin, evBin, binInt, TIS, CS, Nat.reduceAdd, Nat.reduceMul, Nat.reduceEqDiff, ↓reduceIte, reduceCtorEq, Nat.reduceLT, Nat.reduceLeDiff, Array.reduceGetElem?, Nat.reduceSub, Nat.reduceBEq, ↓zc9, ↓zc10, ↓zc11])
            all_goals ((repeat' apply And.intro) <;> first | rfl | assumption | omega | (simp; done) | (simp; omega) | (simp_all; done))
          refine cA_n ?_
          refine wk_l [] [] [(0, .list 2 (leader1.map Entry.c)), (1, .list 2 (l1.map Entry.c)), (2, .list 2 (voter1.map Entry.c)), (3, .int .u8 at1), (9, .bool r1), (59, .bool true)] (by show ([0, 1, 2, 3, 9, 59] : List Nat).Nodup; decide) (by show ([] : List Nat).Nodup; decide) ?_ ?_ (fun t0 => ⟨true, t0, H, rfl⟩)
          · exact trivial
          · (simp only [AllT, tl_cons, tl_nil, upd_apply, List.getD_cons_zero, List.getD_cons_succ, Nat.reduceEqDiff, ↓reduceIte, and_true]); exact ⟨(.lst _ _ _ Entry.pu rfl), (.lst _ _ _ Entry.pu rfl), (.lst _ _ _ Entry.pu rfl), (.int' rfl), (.bool' rfl), (.bool' (by first | rfl | assumption | (simp_all; done)))⟩
        · have H := cond_f zc11 H
          refine bool_split (b := ((leader1.length : Int) == 0)) (fun zc12 => ?_) (fun zc12 => ?_)
          · have H := cond_t zc12 H
            refine a_reg _ rfl (s := ?zs21) ?_ ?_
            rotate_left
            · try simp (maxSteps := 2000000) only [EVT, stepR, evOp, St.ev, St.app, St.put, wrs, frz, evUn, datOf, datOf1, evBuiltin, evBin, binInt, TIS, CS, Nat.reduceAdd, Nat.reduceMul, Nat.reduceEqDiff, ↓reduceIte, reduceCtorEq, Nat.reduceLT, Nat.reduceLeDiff, Array.reduceGetElem?, Nat.reduceSub, Nat.reduceBEq, ↓zc9, ↓zc10, ↓zc11, ↓zc12]
              repeat' with_reducible apply And.intro
              all_goals try ((with_reducible show CallR _ _ _ _ _ _ _); refine cR_s zk9 (.cons (.lst _ _ _ Entry.pu rfl) .nil) (.bool _) ?_; simp (maxSteps := 2000000) only [EVT, stepR, evOp, St.ev, St.app, St.put, wrs, frz, evUn, datOf, datOf1, evBuiltin, evBin, binInt, TIS, CS, Nat.reduceAdd, Nat.reduceMul, Nat.reduceEqDiff, ↓reduceIte, reduceCtorEq, Nat.reduceLT, Nat.reduceLeDiff, Array.reduceGetElem?, Nat.reduceSub, Nat.reduceBEq, ↓zc9, ↓zc10, ↓zc11, ↓zc12])
              repeat' with_reducible apply And.intro
              all_goals try ((with_reducible show CallR _ _ _ _ _ _ _); refine cR_s zk10 (.cons (.lst _ _ _ Entry.pu rfl) .nil) (.bool _) ?_; simp (maxSteps := 2000000) only [EVT, stepR, evOp, St.ev, St.app, St.put, wrs, frz, evUn, datOf, datOf1, evBuiltin, evBin, binInt, TIS, CS, Nat.reduceAdd, Nat.reduceMul, Nat.reduceEqDiff, ↓reduceIte, reduceCtorEq, Nat.reduceLT, Nat.reduceLeDiff, Array.reduceGetElem?, Nat.reduceSub, Nat.reduceBEq, ↓zc9, ↓zc10, ↓zc11, ↓zc12])
              repeat' with_reducible apply And.intro
              all_goals try ((with_reducible show CallR _ _ _ _ _ _ _); refine cR_s zk11 (.cons (.lst _ _ _ Entry.pu rfl) .nil) (.bool _) ?_; simp (maxSteps := 2000000) only [EVT, stepR, evOp, St.ev, St.app, St.put, wrs, frz, evUn, datOf, datOf1, evBuiltin, evBin, binInt, TIS, CS, Nat.reduceAdd, Nat.reduceMul, Nat.reduceEqDiff, ↓reduceIte, reduceCtorEq, Nat.reduceLT, Nat.reduceLeDiff, Array.reduceGetElem?, Nat.reduceSub, Nat.reduceBEq, ↓zc9, ↓zc10, ↓zc11, ↓zc12])
              all_goals ((repeat' apply And.intro) <;> first | rfl | assumption | omega | (simp; done) | (simp; omega) | (simp_all; done))
            refine cA_n ?_
            refine wk_l [] [] [(0, .list 2 (leader1.map Entry.c)), (1, .list 2 (l1.map Entry.c)), (2, .list 2 (voter1.map Entry.c)), (3, .int .u8 at1), (9, .bool r1), (59, .bool true)] (by show ([0, 1, 2, 3, 9, 59] : List Nat).Nodup; decide) (by show ([] : List Nat).Nodup; decide) ?_ ?_ (fun t0 => ⟨true, t0, H, rfl⟩)
            · exact trivial
            · (simp only [AllT, tl_cons, tl_nil, upd_apply, List.getD_cons_zero, List.getD_cons_succ, Nat.reduceEqDiff, ↓reduceIte, and_true]); exact ⟨(.lst _ _ _ Entry.pu rfl), (.lst _ _ _ Entry.pu rfl), (.lst _ _ _ Entry.pu rfl), (.int' rfl), (.bool' rfl), (.bool' (by first | rfl | assumption | (simp_all; done)))⟩
          · have H := cond_f zc12 H
            obtain ⟨r12, zh14, H⟩ := bind_some H
            have zk12 := law13_rises_pc zh14
            refine bool_split (b := (!r12)) (fun zc13 => ?_) (fun zc13 => ?_)
            · have H := cond_t zc13 H
              refine a_reg _ rfl (s := ?zs22) ?_ ?_
              rotate_left
              · try simp (maxSteps := 2000000) only [EVT, stepR, evOp, St.ev, St.app, St.put, wrs, frz, evUn, datOf, datOf1, evBuiltin, evBin, binInt, TIS, CS, Nat.reduceAdd, Nat.reduceMul, Nat.reduceEqDiff, ↓reduceIte, reduceCtorEq, Nat.reduceLT, Nat.reduceLeDiff, Array.reduceGetElem?, Nat.reduceSub, Nat.reduceBEq, ↓zc9, ↓zc10, ↓zc11, ↓zc12, ↓zc13]
                repeat' with_reducible apply And.intro
                all_goals try ((with_reducible show CallR _ _ _ _ _ _ _); refine cR_s zk9 (.cons (.lst _ _ _ Entry.pu rfl) .nil) (.bool _) ?_; simp (maxSteps := 2000000) only [EVT, stepR, evOp, St.ev, St.app, St.put, wrs, frz, evUn, datOf, datOf1, evBuiltin, evBin, binInt, TIS, CS, Nat.reduceAdd, Nat.reduceMul, Nat.reduceEqDiff, ↓reduceIte, reduceCtorEq, Nat.reduceLT, Nat.reduceLeDiff, Array.reduceGetElem?, Nat.reduceSub, Nat.reduceBEq, ↓zc9, ↓zc10, ↓zc11, ↓zc12, ↓zc13])
                repeat' with_reducible apply And.intro
                all_goals try ((with_reducible show CallR _ _ _ _ _ _ _); refine cR_s zk10 (.cons (.lst _ _ _ Entry.pu rfl) .nil) (.bool _) ?_; simp (maxSteps := 2000000) only [EVT, stepR, evOp, St.ev, St.app, St.put, wrs, frz, evUn, datOf, datOf1, evBuiltin, evBin, binInt, TIS, CS, Nat.reduceAdd, Nat.reduceMul, Nat.reduceEqDiff, ↓reduceIte, reduceCtorEq, Nat.reduceLT, Nat.reduceLeDiff, Array.reduceGetElem?, Nat.reduceSub, Nat.reduceBEq, ↓zc9, ↓zc10, ↓zc11, ↓zc12, ↓zc13])
                repeat' with_reducible apply And.intro
                all_goals try ((with_reducible show CallR _ _ _ _ _ _ _); refine cR_s zk11 (.cons (.lst _ _ _ Entry.pu rfl) .nil) (.bool _) ?_; simp (maxSteps := 2000000) only [EVT, stepR, evOp, St.ev, St.app, St.put, wrs, frz, evUn, datOf, datOf1, evBuiltin, evBin, binInt, TIS, CS, Nat.reduceAdd, Nat.reduceMul, Nat.reduceEqDiff, ↓reduceIte, reduceCtorEq, Nat.reduceLT, Nat.reduceLeDiff, Array.reduceGetElem?, Nat.reduceSub, Nat.reduceBEq, ↓zc9, ↓zc10, ↓zc11, ↓zc12, ↓zc13])
                repeat' with_reducible apply And.intro
                all_goals try ((with_reducible show CallR _ _ _ _ _ _ _); refine cR_s zk12 (.cons (.lst _ _ _ Entry.pu rfl) .nil) (.bool _) ?_; simp (maxSteps := 2000000) only [EVT, stepR, evOp, St.ev, St.app, St.put, wrs, frz, evUn, datOf, datOf1, evBuiltin, evBin, binInt, TIS, CS, Nat.reduceAdd, Nat.reduceMul, Nat.reduceEqDiff, ↓reduceIte, reduceCtorEq, Nat.reduceLT, Nat.reduceLeDiff, Array.reduceGetElem?, Nat.reduceSub, Nat.reduceBEq, ↓zc9, ↓zc10, ↓zc11, ↓zc12, ↓zc13])
                all_goals ((repeat' apply And.intro) <;> first | rfl | assumption | omega | (simp; done) | (simp; omega) | (simp_all; done))
              refine cA_n ?_
              refine wk_l [] [] [(0, .list 2 (leader1.map Entry.c)), (1, .list 2 (l1.map Entry.c)), (2, .list 2 (voter1.map Entry.c)), (3, .int .u8 at1), (9, .bool r1), (59, .bool true)] (by show ([0, 1, 2, 3, 9, 59] : List Nat).Nodup; decide) (by show ([] : List Nat).Nodup; decide) ?_ ?_ (fun t0 => ⟨true, t0, H, rfl⟩)
              · exact trivial
              · (simp only [AllT, tl_cons, tl_nil, upd_apply, List.getD_cons_zero, List.getD_cons_succ, Nat.reduceEqDiff, ↓reduceIte, and_true]); exact ⟨(.lst _ _ _ Entry.pu rfl), (.lst _ _ _ Entry.pu rfl), (.lst _ _ _ Entry.pu rfl), (.int' rfl), (.bool' rfl), (.bool' (by first | rfl | assumption | (simp_all; done)))⟩
            · have H := cond_f zc13 H
              obtain ⟨r13, zh15, H⟩ := bind_some H
              have zk13 := law13_rises_pc zh15
              refine bool_split (b := (!r13)) (fun zc14 => ?_) (fun zc14 => ?_)
              · have H := cond_t zc14 H
                refine a_reg _ rfl (s := ?zs23) ?_ ?_
                rotate_left
                · try simp (maxSteps := 2000000) only [EVT, stepR, evOp, St.ev, St.app, St.put, wrs, frz, evUn, datOf, datOf1, evBuiltin, evBin, binInt, TIS, CS, Nat.reduceAdd, Nat.reduceMul, Nat.reduceEqDiff, ↓reduceIte, reduceCtorEq, Nat.reduceLT, Nat.reduceLeDiff, Array.reduceGetElem?, Nat.reduceSub, Nat.reduceBEq, ↓zc9, ↓zc10, ↓zc11, ↓zc12, ↓zc13, ↓zc14]
                  repeat' with_reducible apply And.intro
                  all_goals try ((with_reducible show CallR _ _ _ _ _ _ _); refine cR_s zk9 (.cons (.lst _ _ _ Entry.pu rfl) .nil) (.bool _) ?_; simp (maxSteps := 2000000) only [EVT, stepR, evOp, St.ev, St.app, St.put, wrs, frz, evUn, datOf, datOf1, evBuiltin, evBin, binInt, TIS, CS, Nat.reduceAdd, Nat.reduceMul, Nat.reduceEqDiff, ↓reduceIte, reduceCtorEq, Nat.reduceLT, Nat.reduceLeDiff, Array.reduceGetElem?, Nat.reduceSub, Nat.reduceBEq, ↓zc9, ↓zc10, ↓zc11, ↓zc12, ↓zc13, ↓zc14])
                  repeat' with_reducible apply And.intro
                  all_goals try ((with_reducible show CallR _ _ _ _ _ _ _); refine cR_s zk10 (.cons (.lst _ _ _ Entry.pu rfl) .nil) (.bool _) ?_; simp (maxSteps := 2000000) only [EVT, stepR, evOp, St.ev, St.app, St.put, wrs, frz, evUn, datOf, datOf1, evBuiltin, evBin, binInt, TIS, CS, Nat.reduceAdd, Nat.reduceMul, Nat.reduceEqDiff, ↓reduceIte, reduceCtorEq, Nat.reduceLT, Nat.reduceLeDiff, Array.reduceGetElem?, Nat.reduceSub, Nat.reduceBEq, ↓zc9, ↓zc10, ↓zc11, ↓zc12, ↓zc13, ↓zc14])
                  repeat' with_reducible apply And.intro
                  all_goals try ((with_reducible show CallR _ _ _ _ _ _ _); refine cR_s zk11 (.cons (.lst _ _ _ Entry.pu rfl) .nil) (.bool _) ?_; simp (maxSteps := 2000000) only [EVT, stepR, evOp, St.ev, St.app, St.put, wrs, frz, evUn, datOf, datOf1, evBuiltin, evBin, binInt, TIS, CS, Nat.reduceAdd, Nat.reduceMul, Nat.reduceEqDiff, ↓reduceIte, reduceCtorEq, Nat.reduceLT, Nat.reduceLeDiff, Array.reduceGetElem?, Nat.reduceSub, Nat.reduceBEq, ↓zc9, ↓zc10, ↓zc11, ↓zc12, ↓zc13, ↓zc14])
                  repeat' with_reducible apply And.intro
                  all_goals try ((with_reducible show CallR _ _ _ _ _ _ _); refine cR_s zk12 (.cons (.lst _ _ _ Entry.pu rfl) .nil) (.bool _) ?_; simp (maxSteps := 2000000) only [EVT, stepR, evOp, St.ev, St.app, St.put, wrs, frz, evUn, datOf, datOf1, evBuiltin, evBin, binInt, TIS, CS, Nat.reduceAdd, Nat.reduceMul, Nat.reduceEqDiff, ↓reduceIte, reduceCtorEq, Nat.reduceLT, Nat.reduceLeDiff, Array.reduceGetElem?, Nat.reduceSub, Nat.reduceBEq, ↓zc9, ↓zc10, ↓zc11, ↓zc12, ↓zc13, ↓zc14])
                  repeat' with_reducible apply And.intro
                  all_goals try ((with_reducible show CallR _ _ _ _ _ _ _); refine cR_s zk13 (.cons (.lst _ _ _ Entry.pu rfl) .nil) (.bool _) ?_; simp (maxSteps := 2000000) only [EVT, stepR, evOp, St.ev, St.app, St.put, wrs, frz, evUn, datOf, datOf1, evBuiltin, evBin, binInt, TIS, CS, Nat.reduceAdd, Nat.reduceMul, Nat.reduceEqDiff, ↓reduceIte, reduceCtorEq, Nat.reduceLT, Nat.reduceLeDiff, Array.reduceGetElem?, Nat.reduceSub, Nat.reduceBEq, ↓zc9, ↓zc10, ↓zc11, ↓zc12, ↓zc13, ↓zc14])
                  all_goals ((repeat' apply And.intro) <;> first | rfl | assumption | omega | (simp; done) | (simp; omega) | (simp_all; done))
                refine cA_n ?_
                refine wk_l [] [] [(0, .list 2 (leader1.map Entry.c)), (1, .list 2 (l1.map Entry.c)), (2, .list 2 (voter1.map Entry.c)), (3, .int .u8 at1), (9, .bool r1), (59, .bool true)] (by show ([0, 1, 2, 3, 9, 59] : List Nat).Nodup; decide) (by show ([] : List Nat).Nodup; decide) ?_ ?_ (fun t0 => ⟨true, t0, H, rfl⟩)
                · exact trivial
                · (simp only [AllT, tl_cons, tl_nil, upd_apply, List.getD_cons_zero, List.getD_cons_succ, Nat.reduceEqDiff, ↓reduceIte, and_true]); exact ⟨(.lst _ _ _ Entry.pu rfl), (.lst _ _ _ Entry.pu rfl), (.lst _ _ _ Entry.pu rfl), (.int' rfl), (.bool' rfl), (.bool' (by first | rfl | assumption | (simp_all; done)))⟩
              · have H := cond_f zc14 H
                obtain ⟨r14, zh16, H⟩ := bind_some H
                have zk14 := law13_rises_pc zh16
                refine bool_split (b := (!r14)) (fun zc15 => ?_) (fun zc15 => ?_)
                · have H := cond_t zc15 H
                  refine a_reg _ rfl (s := ?zs24) ?_ ?_
                  rotate_left
                  · try simp (maxSteps := 2000000) only [EVT, stepR, evOp, St.ev, St.app, St.put, wrs, frz, evUn, datOf, datOf1, evBuiltin, evBin, binInt, TIS, CS, Nat.reduceAdd, Nat.reduceMul, Nat.reduceEqDiff, ↓reduceIte, reduceCtorEq, Nat.reduceLT, Nat.reduceLeDiff, Array.reduceGetElem?, Nat.reduceSub, Nat.reduceBEq, ↓zc9, ↓zc10, ↓zc11, ↓zc12, ↓zc13, ↓zc14, ↓zc15]
                    repeat' with_reducible apply And.intro
                    all_goals try ((with_reducible show CallR _ _ _ _ _ _ _); refine cR_s zk9 (.cons (.lst _ _ _ Entry.pu rfl) .nil) (.bool _) ?_; simp (maxSteps := 2000000) only [EVT, stepR, evOp, St.ev, St.app, St.put, wrs, frz, evUn, datOf, datOf1, evBuiltin, evBin, binInt, TIS, CS, Nat.reduceAdd, Nat.reduceMul, Nat.reduceEqDiff, ↓reduceIte, reduceCtorEq, Nat.reduceLT, Nat.reduceLeDiff, Array.reduceGetElem?, Nat.reduceSub, Nat.reduceBEq, ↓zc9, ↓zc10, ↓zc11, ↓zc12, ↓zc13, ↓zc14, ↓zc15])
                    repeat' with_reducible apply And.intro
                    all_goals try ((with_reducible show CallR _ _ _ _ _ _ _); refine cR_s zk10 (.cons (.lst _ _ _ Entry.pu rfl) .nil) (.bool _) ?_; simp (maxSteps := 2000000) only [EVT, stepR, evOp, St.ev, St.app, St.put, wrs, frz, evUn, datOf, datOf1, evBuiltin, evBin, binInt, TIS, CS, Nat.reduceAdd, Nat.reduceMul, Nat.reduceEqDiff, ↓reduceIte, reduceCtorEq, Nat.reduceLT, Nat.reduceLeDiff, Array.reduceGetElem?, Nat.reduceSub, Nat.reduceBEq, ↓zc9, ↓zc10, ↓zc11, ↓zc12, ↓zc13, ↓zc14, ↓zc15])
                    repeat' with_reducible apply And.intro
                    all_goals try ((with_reducible show CallR _ _ _ _ _ _ _); refine cR_s zk11 (.cons (.lst _ _ _ Entry.pu rfl) .nil) (.bool _) ?_; simp (maxSteps := 2000000) only [EVT, stepR, evOp, St.ev, St.app, St.put, wrs, frz, evUn, datOf, datOf1, evBuiltin, evBin, binInt, TIS, CS, Nat.reduceAdd, Nat.reduceMul, Nat.reduceEqDiff, ↓reduceIte, reduceCtorEq, Nat.reduceLT, Nat.reduceLeDiff, Array.reduceGetElem?, Nat.reduceSub, Nat.reduceBEq, ↓zc9, ↓zc10, ↓zc11, ↓zc12, ↓zc13, ↓zc14, ↓zc15])
                    repeat' with_reducible apply And.intro
                    all_goals try ((with_reducible show CallR _ _ _ _ _ _ _); refine cR_s zk12 (.cons (.lst _ _ _ Entry.pu rfl) .nil) (.bool _) ?_; simp (maxSteps := 2000000) only [EVT, stepR, evOp, St.ev, St.app, St.put, wrs, frz, evUn, datOf, datOf1, evBuiltin, evBin, binInt, TIS, CS, Nat.reduceAdd, Nat.reduceMul, Nat.reduceEqDiff, ↓reduceIte, reduceCtorEq, Nat.reduceLT, Nat.reduceLeDiff, Array.reduceGetElem?, Nat.reduceSub, Nat.reduceBEq, ↓zc9, ↓zc10, ↓zc11, ↓zc12, ↓zc13, ↓zc14, ↓zc15])
                    repeat' with_reducible apply And.intro
                    all_goals try ((with_reducible show CallR _ _ _ _ _ _ _); refine cR_s zk13 (.cons (.lst _ _ _ Entry.pu rfl) .nil) (.bool _) ?_; simp (maxSteps := 2000000) only [EVT, stepR, evOp, St.ev, St.app, St.put, wrs, frz, evUn, datOf, datOf1, evBuiltin, evBin, binInt, TIS, CS, Nat.reduceAdd, Nat.reduceMul, Nat.reduceEqDiff, ↓reduceIte, reduceCtorEq, Nat.reduceLT, Nat.reduceLeDiff, Array.reduceGetElem?, Nat.reduceSub, Nat.reduceBEq, ↓zc9, ↓zc10, ↓zc11, ↓zc12, ↓zc13, ↓zc14, ↓zc15])
                    repeat' with_reducible apply And.intro
                    all_goals try ((with_reducible show CallR _ _ _ _ _ _ _); refine cR_s zk14 (.cons (.lst _ _ _ Entry.pu rfl) .nil) (.bool _) ?_; simp (maxSteps := 2000000) only [EVT, stepR, evOp, St.ev, St.app, St.put, wrs, frz, evUn, datOf, datOf1, evBuiltin, evBin, binInt, TIS, CS, Nat.reduceAdd, Nat.reduceMul, Nat.reduceEqDiff, ↓reduceIte, reduceCtorEq, Nat.reduceLT, Nat.reduceLeDiff, Array.reduceGetElem?, Nat.reduceSub, Nat.reduceBEq, ↓zc9, ↓zc10, ↓zc11, ↓zc12, ↓zc13, ↓zc14, ↓zc15])
                    all_goals ((repeat' apply And.intro) <;> first | rfl | assumption | omega | (simp; done) | (simp; omega) | (simp_all; done))
                  refine cA_n ?_
                  refine wk_l [] [] [(0, .list 2 (leader1.map Entry.c)), (1, .list 2 (l1.map Entry.c)), (2, .list 2 (voter1.map Entry.c)), (3, .int .u8 at1), (9, .bool r1), (59, .bool true)] (by show ([0, 1, 2, 3, 9, 59] : List Nat).Nodup; decide) (by show ([] : List Nat).Nodup; decide) ?_ ?_ (fun t0 => ⟨true, t0, H, rfl⟩)
                  · exact trivial
                  · (simp only [AllT, tl_cons, tl_nil, upd_apply, List.getD_cons_zero, List.getD_cons_succ, Nat.reduceEqDiff, ↓reduceIte, and_true]); exact ⟨(.lst _ _ _ Entry.pu rfl), (.lst _ _ _ Entry.pu rfl), (.lst _ _ _ Entry.pu rfl), (.int' rfl), (.bool' rfl), (.bool' (by first | rfl | assumption | (simp_all; done)))⟩
                · have H := cond_f zc15 H
                  obtain ⟨r15, zh17, H⟩ := bind_some H
                  have zk15 := ref13_Meet_pc zh17
                  refine bool_split (b := (!r15)) (fun zc16 => ?_) (fun zc16 => ?_)
                  · have H := cond_t zc16 H
                    refine a_reg _ rfl (s := ?zs25) ?_ ?_
                    rotate_left
                    · try simp (maxSteps := 2000000) only [EVT, stepR, evOp, St.ev, St.app, St.put, wrs, frz, evUn, datOf, datOf1, evBuiltin, evBin, binInt, TIS, CS, Nat.reduceAdd, Nat.reduceMul, Nat.reduceEqDiff, ↓reduceIte, reduceCtorEq, Nat.reduceLT, Nat.reduceLeDiff, Array.reduceGetElem?, Nat.reduceSub, Nat.reduceBEq, ↓zc9, ↓zc10, ↓zc11, ↓zc12, ↓zc13, ↓zc14, ↓zc15, ↓zc16]
                      repeat' with_reducible apply And.intro
                      all_goals try ((with_reducible show CallR _ _ _ _ _ _ _); refine cR_s zk9 (.cons (.lst _ _ _ Entry.pu rfl) .nil) (.bool _) ?_; simp (maxSteps := 2000000) only [EVT, stepR, evOp, St.ev, St.app, St.put, wrs, frz, evUn, datOf, datOf1, evBuiltin, evBin, binInt, TIS, CS, Nat.reduceAdd, Nat.reduceMul, Nat.reduceEqDiff, ↓reduceIte, reduceCtorEq, Nat.reduceLT, Nat.reduceLeDiff, Array.reduceGetElem?, Nat.reduceSub, Nat.reduceBEq, ↓zc9, ↓zc10, ↓zc11, ↓zc12, ↓zc13, ↓zc14, ↓zc15, ↓zc16])
                      repeat' with_reducible apply And.intro
                      all_goals try ((with_reducible show CallR _ _ _ _ _ _ _); refine cR_s zk10 (.cons (.lst _ _ _ Entry.pu rfl) .nil) (.bool _) ?_; simp (maxSteps := 2000000) only [EVT, stepR, evOp, St.ev, St.app, St.put, wrs, frz, evUn, datOf, datOf1, evBuiltin, evBin, binInt, TIS, CS, Nat.reduceAdd, Nat.reduceMul, Nat.reduceEqDiff, ↓reduceIte, reduceCtorEq, Nat.reduceLT, Nat.reduceLeDiff, Array.reduceGetElem?, Nat.reduceSub, Nat.reduceBEq, ↓zc9, ↓zc10, ↓zc11, ↓zc12, ↓zc13, ↓zc14, ↓zc15, ↓zc16])
                      repeat' with_reducible apply And.intro
                      all_goals try ((with_reducible show CallR _ _ _ _ _ _ _); refine cR_s zk11 (.cons (.lst _ _ _ Entry.pu rfl) .nil) (.bool _) ?_; simp (maxSteps := 2000000) only [EVT, stepR, evOp, St.ev, St.app, St.put, wrs, frz, evUn, datOf, datOf1, evBuiltin, evBin, binInt, TIS, CS, Nat.reduceAdd, Nat.reduceMul, Nat.reduceEqDiff, ↓reduceIte, reduceCtorEq, Nat.reduceLT, Nat.reduceLeDiff, Array.reduceGetElem?, Nat.reduceSub, Nat.reduceBEq, ↓zc9, ↓zc10, ↓zc11, ↓zc12, ↓zc13, ↓zc14, ↓zc15, ↓zc16])
                      repeat' with_reducible apply And.intro
                      all_goals try ((with_reducible show CallR _ _ _ _ _ _ _); refine cR_s zk12 (.cons (.lst _ _ _ Entry.pu rfl) .nil) (.bool _) ?_; simp (maxSteps := 2000000) only [EVT, stepR, evOp, St.ev, St.app, St.put, wrs, frz, evUn, datOf, datOf1, evBuiltin, evBin, binInt, TIS, CS, Nat.reduceAdd, Nat.reduceMul, Nat.reduceEqDiff, ↓reduceIte, reduceCtorEq, Nat.reduceLT, Nat.reduceLeDiff, Array.reduceGetElem?, Nat.reduceSub, Nat.reduceBEq, ↓zc9, ↓zc10, ↓zc11, ↓zc12, ↓zc13, ↓zc14, ↓zc15, ↓zc16])
                      repeat' with_reducible apply And.intro
                      all_goals try ((with_reducible show CallR _ _ _ _ _ _ _); refine cR_s zk13 (.cons (.lst _ _ _ Entry.pu rfl) .nil) (.bool _) ?_; simp (maxSteps := 2000000) only [EVT, stepR, evOp, St.ev, St.app, St.put, wrs, frz, evUn, datOf, datOf1, evBuiltin, evBin, binInt, TIS, CS, Nat.reduceAdd, Nat.reduceMul, Nat.reduceEqDiff, ↓reduceIte, reduceCtorEq, Nat.reduceLT, Nat.reduceLeDiff, Array.reduceGetElem?, Nat.reduceSub, Nat.reduceBEq, ↓zc9, ↓zc10, ↓zc11, ↓zc12, ↓zc13, ↓zc14, ↓zc15, ↓zc16])
                      repeat' with_reducible apply And.intro
                      all_goals try ((with_reducible show CallR _ _ _ _ _ _ _); refine cR_s zk14 (.cons (.lst _ _ _ Entry.pu rfl) .nil) (.bool _) ?_; simp (maxSteps := 2000000) only [EVT, stepR, evOp, St.ev, St.app, St.put, wrs, frz, evUn, datOf, datOf1, evBuiltin, evBin, binInt, TIS, CS, Nat.reduceAdd, Nat.reduceMul, Nat.reduceEqDiff, ↓reduceIte, reduceCtorEq, Nat.reduceLT, Nat.reduceLeDiff, Array.reduceGetElem?, Nat.reduceSub, Nat.reduceBEq, ↓zc9, ↓zc10, ↓zc11, ↓zc12, ↓zc13, ↓zc14, ↓zc15, ↓zc16])
                      repeat' with_reducible apply And.intro
                      all_goals try ((with_reducible show CallR _ _ _ _ _ _ _); refine cR_s zk15 (.cons (.lst _ _ _ Entry.pu rfl) (.cons (.lst _ _ _ Entry.pu rfl) .nil)) (.bool _) ?_; simp (maxSteps := 2000000) only [EVT, stepR, evOp, St.ev, St.app, St.put, wrs, frz, evUn, datOf, datOf1, evBuiltin, evBin, binInt, TIS, CS, Nat.reduceAdd, Nat.reduceMul, Nat.reduceEqDiff, ↓reduceIte, reduceCtorEq, Nat.reduceLT, Nat.reduceLeDiff, Array.reduceGetElem?, Nat.reduceSub, Nat.reduceBEq, ↓zc9, ↓zc10, ↓zc11, ↓zc12, ↓zc13, ↓zc14, ↓zc15, ↓zc16])
                      all_goals ((repeat' apply And.intro) <;> first | rfl | assumption | omega | (simp; done) | (simp; omega) | (simp_all; done))
                    refine cA_n ?_
                    refine wk_l [] [] [(0, .list 2 (leader1.map Entry.c)), (1, .list 2 (l1.map Entry.c)), (2, .list 2 (voter1.map Entry.c)), (3, .int .u8 at1), (9, .bool r1), (59, .bool true)] (by show ([0, 1, 2, 3, 9, 59] : List Nat).Nodup; decide) (by show ([] : List Nat).Nodup; decide) ?_ ?_ (fun t0 => ⟨true, t0, H, rfl⟩)
                    · exact trivial
                    · (simp only [AllT, tl_cons, tl_nil, upd_apply, List.getD_cons_zero, List.getD_cons_succ, Nat.reduceEqDiff, ↓reduceIte, and_true]); exact ⟨(.lst _ _ _ Entry.pu rfl), (.lst _ _ _ Entry.pu rfl), (.lst _ _ _ Entry.pu rfl), (.int' rfl), (.bool' rfl), (.bool' (by first | rfl | assumption | (simp_all; done)))⟩
                  · have H := cond_f zc16 H
                    obtain ⟨r16, zh18, H⟩ := bind_some H
                    have zk16 := ref13_Meet_pc zh18
                    refine a_reg _ rfl (s := ?zs26) ?_ ?_
                    rotate_left
                    · try simp (maxSteps := 2000000) only [EVT, stepR, evOp, St.ev, St.app, St.put, wrs, frz, evUn, datOf, datOf1, evBuiltin, evBin, binInt, TIS, CS, Nat.reduceAdd, Nat.reduceMul, Nat.reduceEqDiff, ↓reduceIte, reduceCtorEq, Nat.reduceLT, Nat.reduceLeDiff, Array.reduceGetElem?, Nat.reduceSub, Nat.reduceBEq, ↓zc9, ↓zc10, ↓zc11, ↓zc12, ↓zc13, ↓zc14, ↓zc15, ↓zc16]
                      repeat' with_reducible apply And.intro
                      all_goals try ((with_reducible show CallR _ _ _ _ _ _ _); refine cR_s zk9 (.cons (.lst _ _ _ Entry.pu rfl) .nil) (.bool _) ?_; simp (maxSteps := 2000000) only [EVT, stepR, evOp, St.ev, St.app, St.put, wrs, frz, evUn, datOf, datOf1, evBuiltin, evBin, binInt, TIS, CS, Nat.reduceAdd, Nat.reduceMul, Nat.reduceEqDiff, ↓reduceIte, reduceCtorEq, Nat.reduceLT, Nat.reduceLeDiff, Array.reduceGetElem?, Nat.reduceSub, Nat.reduceBEq, ↓zc9, ↓zc10, ↓zc11, ↓zc12, ↓zc13, ↓zc14, ↓zc15, ↓zc16])
                      repeat' with_reducible apply And.intro
                      all_goals try ((with_reducible show CallR _ _ _ _ _ _ _); refine cR_s zk10 (.cons (.lst _ _ _ Entry.pu rfl) .nil) (.bool _) ?_; simp (maxSteps := 2000000) only [EVT, stepR, evOp, St.ev, St.app, St.put, wrs, frz, evUn, datOf, datOf1, evBuiltin, evBin, binInt, TIS, CS, Nat.reduceAdd, Nat.reduceMul, Nat.reduceEqDiff, ↓reduceIte, reduceCtorEq, Nat.reduceLT, Nat.reduceLeDiff, Array.reduceGetElem?, Nat.reduceSub, Nat.reduceBEq, ↓zc9, ↓zc10, ↓zc11, ↓zc12, ↓zc13, ↓zc14, ↓zc15, ↓zc16])
                      repeat' with_reducible apply And.intro
                      all_goals try ((with_reducible show CallR _ _ _ _ _ _ _); refine cR_s zk11 (.cons (.lst _ _ _ Entry.pu rfl) .nil) (.bool _) ?_; simp (maxSteps := 2000000) only [EVT, stepR, evOp, St.ev, St.app, St.put, wrs, frz, evUn, datOf, datOf1, evBuiltin, evBin, binInt, TIS, CS, Nat.reduceAdd, Nat.reduceMul, Nat.reduceEqDiff, ↓reduceIte, reduceCtorEq, Nat.reduceLT, Nat.reduceLeDiff, Array.reduceGetElem?, Nat.reduceSub, Nat.reduceBEq, ↓zc9, ↓zc10, ↓zc11, ↓zc12, ↓zc13, ↓zc14, ↓zc15, ↓zc16])
                      repeat' with_reducible apply And.intro
                      all_goals try ((with_reducible show CallR _ _ _ _ _ _ _); refine cR_s zk12 (.cons (.lst _ _ _ Entry.pu rfl) .nil) (.bool _) ?_; simp (maxSteps := 2000000) only [EVT, stepR, evOp, St.ev, St.app, St.put, wrs, frz, evUn, datOf, datOf1, evBuiltin, evBin, binInt, TIS, CS, Nat.reduceAdd, Nat.reduceMul, Nat.reduceEqDiff, ↓reduceIte, reduceCtorEq, Nat.reduceLT, Nat.reduceLeDiff, Array.reduceGetElem?, Nat.reduceSub, Nat.reduceBEq, ↓zc9, ↓zc10, ↓zc11, ↓zc12, ↓zc13, ↓zc14, ↓zc15, ↓zc16])
                      repeat' with_reducible apply And.intro
                      all_goals try ((with_reducible show CallR _ _ _ _ _ _ _); refine cR_s zk13 (.cons (.lst _ _ _ Entry.pu rfl) .nil) (.bool _) ?_; simp (maxSteps := 2000000) only [EVT, stepR, evOp, St.ev, St.app, St.put, wrs, frz, evUn, datOf, datOf1, evBuiltin, evBin, binInt, TIS, CS, Nat.reduceAdd, Nat.reduceMul, Nat.reduceEqDiff, ↓reduceIte, reduceCtorEq, Nat.reduceLT, Nat.reduceLeDiff, Array.reduceGetElem?, Nat.reduceSub, Nat.reduceBEq, ↓zc9, ↓zc10, ↓zc11, ↓zc12, ↓zc13, ↓zc14, ↓zc15, ↓zc16])
                      repeat' with_reducible apply And.intro
                      all_goals try ((with_reducible show CallR _ _ _ _ _ _ _); refine cR_s zk14 (.cons (.lst _ _ _ Entry.pu rfl) .nil) (.bool _) ?_; simp (maxSteps := 2000000) only [EVT, stepR, evOp, St.ev, St.app, St.put, wrs, frz, evUn, datOf, datOf1, evBuiltin, evBin, binInt, TIS, CS, Nat.reduceAdd, Nat.reduceMul, Nat.reduceEqDiff, ↓reduceIte, reduceCtorEq, Nat.reduceLT, Nat.reduceLeDiff, Array.reduceGetElem?, Nat.reduceSub, Nat.reduceBEq, ↓zc9, ↓zc10, ↓zc11, ↓zc12, ↓zc13, ↓zc14, ↓zc15, ↓zc16])
                      repeat' with_reducible apply And.intro
                      all_goals try ((with_reducible show CallR _ _ _ _ _ _ _); refine cR_s zk15 (.cons (.lst _ _ _ Entry.pu rfl) (.cons (.lst _ _ _ Entry.pu rfl) .nil)) (.bool _) ?_; simp (maxSteps := 2000000) only [EVT, stepR, evOp, St.ev, St.app, St.put, wrs, frz, evUn, datOf, datOf1, evBuiltin, evBin, binInt, TIS, CS, Nat.reduceAdd, Nat.reduceMul, Nat.reduceEqDiff, ↓reduceIte, reduceCtorEq, Nat.reduceLT, Nat.reduceLeDiff, Array.reduceGetElem?, Nat.reduceSub, Nat.reduceBEq, ↓zc9, ↓zc10, ↓zc11, ↓zc12, ↓zc13, ↓zc14, ↓zc15, ↓zc16])
                      repeat' with_reducible apply And.intro
                      all_goals try ((with_reducible show CallR _ _ _ _ _ _ _); refine cR_s zk16 (.cons (.lst _ _ _ Entry.pu rfl) (.cons (.lst _ _ _ Entry.pu rfl) .nil)) (.bool _) ?_; simp (maxSteps := 2000000) only [EVT, stepR, evOp, St.ev, St.app, St.put, wrs, frz, evUn, datOf, datOf1, evBuiltin, evBin, binInt, TIS, CS, Nat.reduceAdd, Nat.reduceMul, Nat.reduceEqDiff, ↓reduceIte, reduceCtorEq, Nat.reduceLT, Nat.reduceLeDiff, Array.reduceGetElem?, Nat.reduceSub, Nat.reduceBEq, ↓zc9, ↓zc10, ↓zc11, ↓zc12, ↓zc13, ↓zc14, ↓zc15, ↓zc16])
                      all_goals ((repeat' apply And.intro) <;> first | rfl | assumption | omega | (simp; done) | (simp; omega) | (simp_all; done))
                    refine cA_n ?_
                    refine wk_l [] [] [(0, .list 2 (leader1.map Entry.c)), (1, .list 2 (l1.map Entry.c)), (2, .list 2 (voter1.map Entry.c)), (3, .int .u8 at1), (9, .bool r1), (59, .bool (!r16))] (by show ([0, 1, 2, 3, 9, 59] : List Nat).Nodup; decide) (by show ([] : List Nat).Nodup; decide) ?_ ?_ (fun t0 => ⟨(!r16), t0, H, rfl⟩)
                    · exact trivial
                    · (simp only [AllT, tl_cons, tl_nil, upd_apply, List.getD_cons_zero, List.getD_cons_succ, Nat.reduceEqDiff, ↓reduceIte, and_true]); exact ⟨(.lst _ _ _ Entry.pu rfl), (.lst _ _ _ Entry.pu rfl), (.lst _ _ _ Entry.pu rfl), (.int' rfl), (.bool' rfl), (.bool' rfl)⟩
  · rintro s ⟨v1, t0, H, rfl⟩
    unfold law13_LogElects_J1 at H
    refine a_condb (v1) (by rfl) (fun zc1 => ?_) (fun zc1 => ?_)
    · have H := cond_t zc1 H
      refine a_seq ?_
      refine a_reg _ rfl (s := ?zs3) ?_ ?_
      rotate_left
      · simp (maxSteps := 2000000) only [EVT, stepR, evOp, St.ev, St.app, St.put, wrs, TIS, CS, Nat.reduceAdd, Nat.reduceMul, Nat.reduceEqDiff, ↓reduceIte, reduceCtorEq, Nat.reduceLT, Nat.reduceLeDiff, ↓zc1]
        (repeat' apply And.intro) <;> first | rfl | assumption | omega | (simp; done) | (simp; omega) | (simp_all; done)
      refine sA_n ?_
      refine a_ret ?_
      refine sA_r ?_
      obtain rfl := Option.some.inj H
      refine e_r2 (d := ?zd1) ?_ ?_
      rotate_left
      · simp only [EVT, resR, single, evLoad, cut, TIS, CS, Nat.reduceAdd, Nat.reduceEqDiff, ↓reduceIte, reduceCtorEq, Nat.reduceLT, Nat.reduceLeDiff, Nat.reduceSub, Nat.reduceBEq, zc1]
        (repeat' apply And.intro) <;> first | rfl | assumption | omega | (simp; done)
      exact (.bool' rfl)
    · have H := cond_f zc1 H
      refine a_skip ?_
      refine sA_n ?_
      refine a_seq ?_
      obtain ⟨zh2, H⟩ := chk_some H
      refine a_reg _ rfl (s := ?zs4) ?_ ?_
      rotate_left
      · simp (maxSteps := 2000000) only [EVT, stepR, evOp, St.ev, St.app, St.put, wrs, evToStr, elems, evBuiltin, evBin, binInt, datOf, datOf1, TIS, CS, Nat.reduceAdd, Nat.reduceMul, Nat.reduceEqDiff, ↓reduceIte, reduceCtorEq, Nat.reduceLT, Nat.reduceLeDiff, Nat.reduceSub, Nat.reduceBEq, ↓zc1]
        (repeat' apply And.intro) <;> first | rfl | assumption | omega | (simp; done) | (simp; omega) | (simp_all; done)
      refine sA_n ?_
      refine a_seq ?_
      obtain ⟨x1, zh3, H⟩ := bind_some H
      have zg1 := idx_map zh3 Entry.c
      try simp only [Int.reduceToNat] at zg1
      obtain ⟨zh3a, zh3b, _⟩ := idx_some zh3
      refine a_reg _ rfl (s := ?zs5) ?_ ?_
      rotate_left
      · simp (maxSteps := 2000000) only [EVT, stepR, evOp, St.ev, St.app, St.put, wrs, datOf, datOf1, evBin, binInt, evIndexAddr, evFieldAddr, evLoad, cut, TIS, CS, Nat.reduceAdd, Nat.reduceMul, Nat.reduceEqDiff, ↓reduceIte, reduceCtorEq, Nat.reduceLT, Nat.reduceLeDiff, Int.reduceToNat, Nat.reduceSub, Nat.reduceBEq, ↓zc1, zg1]
        (repeat' apply And.intro) <;> first | rfl | assumption | omega | (simp; done) | (simp; omega) | (simp_all; done)
      refine sA_n ?_
      refine a_seq ?_
      refine a_cut (fun s => ∃ (v2 : Bool) (t0 : Nat → Dat), law13_LogElects_J2 r1 leader1 x1 at1 voter1 l1 v2 = some r ∧ s = ⟨tl t0 [(0, .list 2 (leader1.map Entry.c)), (1, .list 2 (l1.map Entry.c)), (2, .list 2 (voter1.map Entry.c)), (9, .bool r1), (10, .int .i64 (IntKind.wrap .i64 (1 + (Int.tmod (IntKind.wrap .i64 at1) (leader1.length : Int))))), (11, .int .i64 x1.term), (85, .bool v2)], hl [], 0, 133⟩) ?_ ?_
      · obtain ⟨r8, zh10, H⟩ := bind_some H
        have zk8 := ref13_Term_pc zh10
        refine bool_split (b := (x1.term != r8)) (fun zc8 => ?_) (fun zc8 => ?_)
        · rw [zc8] at H
          refine a_reg _ rfl (s := ?zs16) ?_ ?_
          rotate_left
          · try simp (maxSteps := 2000000) only [EVT, stepR, evOp, St.ev, St.app, St.put, wrs, evBuiltin, frz, evBin, binInt, datOf, datOf1, TIS, CS, Nat.reduceAdd, Nat.reduceMul, Nat.reduceEqDiff, ↓reduceIte, reduceCtorEq, Nat.reduceLT, Nat.reduceLeDiff, Array.reduceGetElem?, Nat.reduceSub, Nat.reduceBEq, ↓zc1, zg1, ↓zc8]
            repeat' with_reducible apply And.intro
            all_goals try ((with_reducible show CallR _ _ _ _ _ _ _); refine cR_s zk8 (.cons (.lst _ _ _ Entry.pu rfl) (.cons (.int' rfl) .nil)) (.int _ _) ?_; simp (maxSteps := 2000000) only [EVT, stepR, evOp, St.ev, St.app, St.put, wrs, evBuiltin, frz, evBin, binInt, datOf, datOf1, TIS, CS, Nat.reduceAdd, Nat.reduceMul, Nat.reduceEqDiff, ↓reduceIte, reduceCtorEq, Nat.reduceLT, Nat.reduceLeDiff, Array.reduceGetElem?, Nat.reduceSub, Nat.reduceBEq, ↓zc1, zg1, ↓zc8])
            all_goals ((repeat' apply And.intro) <;> first | rfl | assumption | omega | (simp; done) | (simp; omega) | (simp_all; done))
          refine cA_n ?_
          refine wk_l [] [] [(0, .list 2 (leader1.map Entry.c)), (1, .list 2 (l1.map Entry.c)), (2, .list 2 (voter1.map Entry.c)), (9, .bool r1), (10, .int .i64 (IntKind.wrap .i64 (1 + (Int.tmod (IntKind.wrap .i64 at1) (leader1.length : Int))))), (11, .int .i64 x1.term), (85, .bool true)] (by show ([0, 1, 2, 9, 10, 11, 85] : List Nat).Nodup; decide) (by show ([] : List Nat).Nodup; decide) ?_ ?_ (fun t0 => ⟨true, t0, H, rfl⟩)
          · exact trivial
          · (simp only [AllT, tl_cons, tl_nil, upd_apply, List.getD_cons_zero, List.getD_cons_succ, Nat.reduceEqDiff, ↓reduceIte, and_true]); exact ⟨(.lst _ _ _ Entry.pu rfl), (.lst _ _ _ Entry.pu rfl), (.lst _ _ _ Entry.pu rfl), (.bool' rfl), (.int' rfl), (.int' rfl), (.bool' (by first | rfl | assumption | (simp_all; done)))⟩
        · rw [zc8] at H
          refine a_reg _ rfl (s := ?zs17) ?_ ?_
          rotate_left
          · try simp (maxSteps := 2000000) only [EVT, stepR, evOp, St.ev, St.app, St.put, wrs, evBuiltin, frz, evBin, binInt, datOf, datOf1, TIS, CS, Nat.reduceAdd, Nat.reduceMul, Nat.reduceEqDiff, ↓reduceIte, reduceCtorEq, Nat.reduceLT, Nat.reduceLeDiff, Array.reduceGetElem?, Nat.reduceSub, Nat.reduceBEq, ↓zc1, zg1, ↓zc8]
            repeat' with_reducible apply And.intro
            all_goals try ((with_reducible show CallR _ _ _ _ _ _ _); refine cR_s zk8 (.cons (.lst _ _ _ Entry.pu rfl) (.cons (.int' rfl) .nil)) (.int _ _) ?_; simp (maxSteps := 2000000) only [EVT, stepR, evOp, St.ev, St.app, St.put, wrs, evBuiltin, frz, evBin, binInt, datOf, datOf1, TIS, CS, Nat.reduceAdd, Nat.reduceMul, Nat.reduceEqDiff, ↓reduceIte, reduceCtorEq, Nat.reduceLT, Nat.reduceLeDiff, Array.reduceGetElem?, Nat.reduceSub, Nat.reduceBEq, ↓zc1, zg1, ↓zc8])
            all_goals ((repeat' apply And.intro) <;> first | rfl | assumption | omega | (simp; done) | (simp; omega) | (simp_all; done))
          refine cA_n ?_
          refine wk_l [] [] [(0, .list 2 (leader1.map Entry.c)), (1, .list 2 (l1.map Entry.c)), (2, .list 2 (voter1.map Entry.c)), (9, .bool r1), (10, .int .i64 (IntKind.wrap .i64 (1 + (Int.tmod (IntKind.wrap .i64 at1) (leader1.length : Int))))), (11, .int .i64 x1.term), (85, .bool (decide ((leader1.length : Int) < (l1.length : Int))))] (by show ([0, 1, 2, 9, 10, 11, 85] : List Nat).Nodup; decide) (by show ([] : List Nat).Nodup; decide) ?_ ?_ (fun t0 => ⟨(decide ((leader1.length : Int) < (l1.length : Int))), t0, H, rfl⟩)
          · exact trivial
          · (simp only [AllT, tl_cons, tl_nil, upd_apply, List.getD_cons_zero, List.getD_cons_succ, Nat.reduceEqDiff, ↓reduceIte, and_true]); exact ⟨(.lst _ _ _ Entry.pu rfl), (.lst _ _ _ Entry.pu rfl), (.lst _ _ _ Entry.pu rfl), (.bool' rfl), (.int' rfl), (.int' rfl), (.bool' rfl)⟩
      · rintro s ⟨v2, t0, H, rfl⟩
        unfold law13_LogElects_J2 at H
        refine a_condb (v2) (by rfl) (fun zc2 => ?_) (fun zc2 => ?_)
        · have H := cond_t zc2 H
          refine a_seq ?_
          refine a_reg _ rfl (s := ?zs6) ?_ ?_
          rotate_left
          · simp (maxSteps := 2000000) only [EVT, stepR, evOp, St.ev, St.app, St.put, wrs, TIS, CS, Nat.reduceAdd, Nat.reduceMul, Nat.reduceEqDiff, ↓reduceIte, reduceCtorEq, Nat.reduceLT, Nat.reduceLeDiff, ↓zc2]
            (repeat' apply And.intro) <;> first | rfl | assumption | omega | (simp; done) | (simp; omega) | (simp_all; done)
          refine sA_n ?_
          refine a_ret ?_
          refine sA_r ?_
          obtain rfl := Option.some.inj H
          refine e_r2 (d := ?zd2) ?_ ?_
          rotate_left
          · simp only [EVT, resR, single, evLoad, cut, TIS, CS, Nat.reduceAdd, Nat.reduceEqDiff, ↓reduceIte, reduceCtorEq, Nat.reduceLT, Nat.reduceLeDiff, Nat.reduceSub, Nat.reduceBEq, zc2]
            (repeat' apply And.intro) <;> first | rfl | assumption | omega | (simp; done)
          exact (.bool' rfl)
        · have H := cond_f zc2 H
          refine a_skip ?_
          refine sA_n ?_
          refine a_seq ?_
          refine a_seq ?_
          obtain ⟨r2, zh4, H⟩ := bind_some H
          have zk2 := log_Commit_pc zh4
          refine a_reg _ rfl (s := ?zs7) ?_ ?_
          rotate_left
          · try simp (maxSteps := 2000000) only [EVT, stepR, evOp, St.ev, St.app, St.put, wrs, datOf, datOf1, allOne, evBin, binInt, frz, TIS, CS, Nat.reduceAdd, Nat.reduceMul, Nat.reduceEqDiff, ↓reduceIte, reduceCtorEq, Nat.reduceLT, Nat.reduceLeDiff, Nat.reduceSub, Nat.reduceBEq, ↓zc2]
            repeat' with_reducible apply And.intro
            all_goals try ((with_reducible show CallR _ _ _ _ _ _ _); refine cR_s zk2 (.cons (.lst _ _ _ Entry.pu rfl) (.cons (.int' rfl) (.cons (.ownL (by rfl) (fun e => by cases e) rfl (by first | rfl | omega | (simp; done) | (simp; omega) | (simp_all; done)) (.same _ _ (ci_pu .i64) (by first | rfl | (simp only [List.map_append, List.map_cons, List.map_nil, List.map_set, List.map_take, List.map_drop, List.map_replicate, List.append_assoc, List.nil_append, List.append_nil, ci_eq, cb_eq, cs_eq, cl_eq, CS,  List.nil_append]; done) | (simp [CS,  ci_eq, cb_eq, cs_eq, cl_eq]; done) | (simp [CS,  ci_eq, cb_eq, cs_eq, cl_eq]; intro hz; rw [List.take_of_length_le (by simp; omega)])))) (.cons (.int' rfl) .nil)))) (.int _ _) ?_; simp (maxSteps := 2000000) only [EVT, stepR, evOp, St.ev, St.app, St.put, wrs, datOf, datOf1, allOne, evBin, binInt, frz, TIS, CS, Nat.reduceAdd, Nat.reduceMul, Nat.reduceEqDiff, ↓reduceIte, reduceCtorEq, Nat.reduceLT, Nat.reduceLeDiff, Nat.reduceSub, Nat.reduceBEq, ↓zc2])
            all_goals ((repeat' apply And.intro) <;> first | rfl | assumption | omega | (simp; done) | (simp; omega) | (simp_all; done))
          refine sA_n ?_
          refine a_condb ((r2 != (IntKind.wrap .i64 (1 + (Int.tmod (IntKind.wrap .i64 at1) (leader1.length : Int)))))) (by rfl) (fun zc3 => ?_) (fun zc3 => ?_)
          · have H := cond_t zc3 H
            refine a_seq ?_
            refine a_reg _ rfl (s := ?zs8) ?_ ?_
            rotate_left
            · simp (maxSteps := 2000000) only [EVT, stepR, evOp, St.ev, St.app, St.put, wrs, datOf, datOf1, TIS, CS, Nat.reduceAdd, Nat.reduceMul, Nat.reduceEqDiff, ↓reduceIte, reduceCtorEq, Nat.reduceLT, Nat.reduceLeDiff, ↓zc2, ↓zc3]
              (repeat' apply And.intro) <;> first | rfl | assumption | omega | (simp; done) | (simp; omega) | (simp_all; done)
            refine sA_n ?_
            refine a_ret ?_
            refine sA_r ?_
            obtain rfl := Option.some.inj H
            refine e_r2 (d := ?zd3) ?_ ?_
            rotate_left
            · simp only [EVT, resR, single, evLoad, cut, TIS, CS, Nat.reduceAdd, Nat.reduceEqDiff, ↓reduceIte, reduceCtorEq, Nat.reduceLT, Nat.reduceLeDiff, Nat.reduceSub, Nat.reduceBEq, zc2, zc3]
              (repeat' apply And.intro) <;> first | rfl | assumption | omega | (simp; done)
            exact (.bool' (by first | rfl | assumption | (simp_all; done)))
          · have H := cond_f zc3 H
            refine a_skip ?_
            refine sA_n ?_
            refine a_seq ?_
            obtain ⟨r3, zh5, H⟩ := bind_some H
            have zk3 := log_Fits_pc zh5
            obtain ⟨r4, zh6, H⟩ := bind_some H
            have zk4 := log_Fits_pc zh6
            refine a_reg _ rfl (s := ?zs9) ?_ ?_
            rotate_left
            · try simp (maxSteps := 2000000) only [EVT, stepR, evOp, St.ev, St.app, St.put, wrs, frz, evUn, TIS, CS, Nat.reduceAdd, Nat.reduceMul, Nat.reduceEqDiff, ↓reduceIte, reduceCtorEq, Nat.reduceLT, Nat.reduceLeDiff, Nat.reduceSub, Nat.reduceBEq, ↓zc2, ↓zc3]
              repeat' with_reducible apply And.intro
              all_goals try ((with_reducible show CallR _ _ _ _ _ _ _); refine cR_s zk3 (.cons (.lst _ _ _ Entry.pu rfl) (.cons (.int' rfl) (.cons (.int' rfl) .nil))) (.bool _) ?_; simp (maxSteps := 2000000) only [EVT, stepR, evOp, St.ev, St.app, St.put, wrs, frz, evUn, TIS, CS, Nat.reduceAdd, Nat.reduceMul, Nat.reduceEqDiff, ↓reduceIte, reduceCtorEq, Nat.reduceLT, Nat.reduceLeDiff, Nat.reduceSub, Nat.reduceBEq, ↓zc2, ↓zc3])
              repeat' with_reducible apply And.intro
              all_goals try ((with_reducible show CallR _ _ _ _ _ _ _); refine cR_s zk4 (.cons (.lst _ _ _ Entry.pu rfl) (.cons (.int' rfl) (.cons (.int' rfl) .nil))) (.bool _) ?_; simp (maxSteps := 2000000) only [EVT, stepR, evOp, St.ev, St.app, St.put, wrs, frz, evUn, TIS, CS, Nat.reduceAdd, Nat.reduceMul, Nat.reduceEqDiff, ↓reduceIte, reduceCtorEq, Nat.reduceLT, Nat.reduceLeDiff, Nat.reduceSub, Nat.reduceBEq, ↓zc2, ↓zc3])
              all_goals ((repeat' apply And.intro) <;> first | rfl | assumption | omega | (simp; done) | (simp; omega) | (simp_all; done))
            refine sA_n ?_
            refine a_seq ?_
            refine a_cut (fun s => ∃ (v3 : Bool) (t0 : Nat → Dat), law13_LogElects_J3 r1 l1 voter1 v3 = some r ∧ s = ⟨tl t0 [(1, .list 2 (l1.map Entry.c)), (2, .list 2 (voter1.map Entry.c)), (9, .bool r1), (119, .bool v3)], hl [], 0, 133⟩) ?_ ?_
            · refine bool_split (b := (!r3)) (fun zc6 => ?_) (fun zc6 => ?_)
              · have H := cond_t zc6 H
                refine a_reg _ rfl (s := ?zs13) ?_ ?_
                rotate_left
                · simp (maxSteps := 2000000) only [EVT, stepR, evOp, St.ev, St.app, St.put, wrs, evUn, datOf, datOf1, evBuiltin, frz, evBin, binInt, TIS, CS, Nat.reduceAdd, Nat.reduceMul, Nat.reduceEqDiff, ↓reduceIte, reduceCtorEq, Nat.reduceLT, Nat.reduceLeDiff, Array.reduceGetElem?, Nat.reduceSub, Nat.reduceBEq, ↓zc2, ↓zc3, ↓zc6]
                  try simp (maxSteps := 2000000) only [EVT, stepR, evOp, St.ev, St.app, St.put, wrs, evUn, datOf, datOf1, evBuiltin, frz, evBin, binInt, TIS, CS, Nat.reduceAdd, Nat.reduceMul, Nat.reduceEqDiff, ↓reduceIte, reduceCtorEq, Nat.reduceLT, Nat.reduceLeDiff, Array.reduceGetElem?, Nat.reduceSub, Nat.reduceBEq, ↓zc2, ↓zc3, ↓zc6]
                  (repeat' apply And.intro) <;> first | rfl | assumption | omega | (simp; done) | (simp; omega) | (simp_all; done)
                refine cA_n ?_
                refine wk_l [] [] [(1, .list 2 (l1.map Entry.c)), (2, .list 2 (voter1.map Entry.c)), (9, .bool r1), (119, .bool true)] (by show ([1, 2, 9, 119] : List Nat).Nodup; decide) (by show ([] : List Nat).Nodup; decide) ?_ ?_ (fun t0 => ⟨true, t0, H, rfl⟩)
                · exact trivial
                · (simp only [AllT, tl_cons, tl_nil, upd_apply, List.getD_cons_zero, List.getD_cons_succ, Nat.reduceEqDiff, ↓reduceIte, and_true]); exact ⟨(.lst _ _ _ Entry.pu rfl), (.lst _ _ _ Entry.pu rfl), (.bool' rfl), (.bool' (by first | rfl | assumption | (simp_all; done)))⟩
              · have H := cond_f zc6 H
                refine bool_split (b := (!(!r4))) (fun zc7 => ?_) (fun zc7 => ?_)
                · have H := cond_t zc7 H
                  refine a_reg _ rfl (s := ?zs14) ?_ ?_
                  rotate_left
                  · simp (maxSteps := 2000000) only [EVT, stepR, evOp, St.ev, St.app, St.put, wrs, evUn, datOf, datOf1, evBuiltin, frz, evBin, binInt, TIS, CS, Nat.reduceAdd, Nat.reduceMul, Nat.reduceEqDiff, ↓reduceIte, reduceCtorEq, Nat.reduceLT, Nat.reduceLeDiff, Array.reduceGetElem?, Nat.reduceSub, Nat.reduceBEq, ↓zc2, ↓zc3, ↓zc6, ↓zc7]
                    try simp (maxSteps := 2000000) only [EVT, stepR, evOp, St.ev, St.app, St.put, wrs, evUn, datOf, datOf1, evBuiltin, frz, evBin, binInt, TIS, CS, Nat.reduceAdd, Nat.reduceMul, Nat.reduceEqDiff, ↓reduceIte, reduceCtorEq, Nat.reduceLT, Nat.reduceLeDiff, Array.reduceGetElem?, Nat.reduceSub, Nat.reduceBEq, ↓zc2, ↓zc3, ↓zc6, ↓zc7]
                    (repeat' apply And.intro) <;> first | rfl | assumption | omega | (simp; done) | (simp; omega) | (simp_all; done)
                  refine cA_n ?_
                  refine wk_l [] [] [(1, .list 2 (l1.map Entry.c)), (2, .list 2 (voter1.map Entry.c)), (9, .bool r1), (119, .bool true)] (by show ([1, 2, 9, 119] : List Nat).Nodup; decide) (by show ([] : List Nat).Nodup; decide) ?_ ?_ (fun t0 => ⟨true, t0, H, rfl⟩)
                  · exact trivial
                  · (simp only [AllT, tl_cons, tl_nil, upd_apply, List.getD_cons_zero, List.getD_cons_succ, Nat.reduceEqDiff, ↓reduceIte, and_true]); exact ⟨(.lst _ _ _ Entry.pu rfl), (.lst _ _ _ Entry.pu rfl), (.bool' rfl), (.bool' (by first | rfl | assumption | (simp_all; done)))⟩
                · have H := cond_f zc7 H
                  obtain ⟨r7, zh9, H⟩ := bind_some H
                  have zk7 := ref13_Term_pc zh9
                  refine a_reg _ rfl (s := ?zs15) ?_ ?_
                  rotate_left
                  · try simp (maxSteps := 2000000) only [EVT, stepR, evOp, St.ev, St.app, St.put, wrs, evUn, datOf, datOf1, evBuiltin, frz, evBin, binInt, TIS, CS, Nat.reduceAdd, Nat.reduceMul, Nat.reduceEqDiff, ↓reduceIte, reduceCtorEq, Nat.reduceLT, Nat.reduceLeDiff, Array.reduceGetElem?, Nat.reduceSub, Nat.reduceBEq, ↓zc2, ↓zc3, ↓zc6, ↓zc7]
                    repeat' with_reducible apply And.intro
                    all_goals try ((with_reducible show CallR _ _ _ _ _ _ _); refine cR_s zk7 (.cons (.lst _ _ _ Entry.pu rfl) (.cons (.int' rfl) .nil)) (.int _ _) ?_; simp (maxSteps := 2000000) only [EVT, stepR, evOp, St.ev, St.app, St.put, wrs, evUn, datOf, datOf1, evBuiltin, frz, evBin, binInt, TIS, CS, Nat.reduceAdd, Nat.reduceMul, Nat.reduceEqDiff, ↓reduceIte, reduceCtorEq, Nat.reduceLT, Nat.reduceLeDiff, Array.reduceGetElem?, Nat.reduceSub, Nat.reduceBEq, ↓zc2, ↓zc3, ↓zc6, ↓zc7])
                    all_goals ((repeat' apply And.intro) <;> first | rfl | assumption | omega | (simp; done) | (simp; omega) | (simp_all; done))
                  refine cA_n ?_
                  refine wk_l [] [] [(1, .list 2 (l1.map Entry.c)), (2, .list 2 (voter1.map Entry.c)), (9, .bool r1), (119, .bool (decide (x1.term < r7)))] (by show ([1, 2, 9, 119] : List Nat).Nodup; decide) (by show ([] : List Nat).Nodup; decide) ?_ ?_ (fun t0 => ⟨(decide (x1.term < r7)), t0, H, rfl⟩)
                  · exact trivial
                  · (simp only [AllT, tl_cons, tl_nil, upd_apply, List.getD_cons_zero, List.getD_cons_succ, Nat.reduceEqDiff, ↓reduceIte, and_true]); exact ⟨(.lst _ _ _ Entry.pu rfl), (.lst _ _ _ Entry.pu rfl), (.bool' rfl), (.bool' rfl)⟩
            · rintro s ⟨v3, t0, H, rfl⟩
              unfold law13_LogElects_J3 at H
              refine a_condb (v3) (by rfl) (fun zc4 => ?_) (fun zc4 => ?_)
              · have H := cond_t zc4 H
                refine a_seq ?_
                refine a_reg _ rfl (s := ?zs10) ?_ ?_
                rotate_left
                · simp (maxSteps := 2000000) only [EVT, stepR, evOp, St.ev, St.app, St.put, wrs, TIS, CS, Nat.reduceAdd, Nat.reduceMul, Nat.reduceEqDiff, ↓reduceIte, reduceCtorEq, Nat.reduceLT, Nat.reduceLeDiff, ↓zc4]
                  (repeat' apply And.intro) <;> first | rfl | assumption | omega | (simp; done) | (simp; omega) | (simp_all; done)
                refine sA_n ?_
                refine a_ret ?_
                refine sA_r ?_
                obtain rfl := Option.some.inj H
                refine e_r2 (d := ?zd4) ?_ ?_
                rotate_left
                · simp only [EVT, resR, single, evLoad, cut, TIS, CS, Nat.reduceAdd, Nat.reduceEqDiff, ↓reduceIte, reduceCtorEq, Nat.reduceLT, Nat.reduceLeDiff, Nat.reduceSub, Nat.reduceBEq, zc4]
                  (repeat' apply And.intro) <;> first | rfl | assumption | omega | (simp; done)
                exact (.bool' rfl)
              · have H := cond_f zc4 H
                refine a_skip ?_
                refine sA_n ?_
                refine a_seq ?_
                refine bool_split (b := r1) (fun zc5 => ?_) (fun zc5 => ?_)
                · have H := cond_t zc5 H
                  obtain ⟨r5, zh7, H⟩ := bind_some H
                  have zk5 := ref13_Term_pc zh7
                  obtain ⟨r6, zh8, H⟩ := bind_some H
                  have zk6 := log_Newer_pc zh8
                  refine a_reg _ rfl (s := ?zs11) ?_ ?_
                  rotate_left
                  · try simp (maxSteps := 2000000) only [EVT, stepR, evOp, St.ev, St.app, St.put, wrs, evBuiltin, frz, evUn, datOf, datOf1, TIS, CS, Nat.reduceAdd, Nat.reduceMul, Nat.reduceEqDiff, ↓reduceIte, reduceCtorEq, Nat.reduceLT, Nat.reduceLeDiff, Array.reduceGetElem?, Nat.reduceSub, Nat.reduceBEq, ↓zc4, ↓zc5]
                    repeat' with_reducible apply And.intro
                    all_goals try ((with_reducible show CallR _ _ _ _ _ _ _); refine cR_s zk5 (.cons (.lst _ _ _ Entry.pu rfl) (.cons (.int' rfl) .nil)) (.int _ _) ?_; simp (maxSteps := 2000000) only [EVT, stepR, evOp, St.ev, St.app, St.put, wrs, evBuiltin, frz, evUn, datOf, datOf1, TIS, CS, Nat.reduceAdd, Nat.reduceMul, Nat.reduceEqDiff, ↓reduceIte, reduceCtorEq, Nat.reduceLT, Nat.reduceLeDiff, Array.reduceGetElem?, Nat.reduceSub, Nat.reduceBEq, ↓zc4, ↓zc5])
                    repeat' with_reducible apply And.intro
                    all_goals try ((with_reducible show CallR _ _ _ _ _ _ _); refine cR_s zk6 (.cons (.lst _ _ _ Entry.pu rfl) (.cons (.int' rfl) (.cons (.int' rfl) .nil))) (.bool _) ?_; simp (maxSteps := 2000000) only [EVT, stepR, evOp, St.ev, St.app, St.put, wrs, evBuiltin, frz, evUn, datOf, datOf1, TIS, CS, Nat.reduceAdd, Nat.reduceMul, Nat.reduceEqDiff, ↓reduceIte, reduceCtorEq, Nat.reduceLT, Nat.reduceLeDiff, Array.reduceGetElem?, Nat.reduceSub, Nat.reduceBEq, ↓zc4, ↓zc5])
                    all_goals ((repeat' apply And.intro) <;> first | rfl | assumption | omega | (simp; done) | (simp; omega) | (simp_all; done))
                  refine sA_n ?_
                  refine a_ret ?_
                  obtain rfl := Option.some.inj H
                  refine e_r2 (d := ?zd5) ?_ ?_
                  rotate_left
                  · simp only [EVT, resR, single, evLoad, cut, TIS, CS, Nat.reduceAdd, Nat.reduceEqDiff, ↓reduceIte, reduceCtorEq, Nat.reduceLT, Nat.reduceLeDiff, Nat.reduceSub, Nat.reduceBEq, zc4, zc5]
                    (repeat' apply And.intro) <;> first | rfl | assumption | omega | (simp; done)
                  exact (.bool' rfl)
                · have H := cond_f zc5 H
                  refine a_reg _ rfl (s := ?zs12) ?_ ?_
                  rotate_left
                  · simp (maxSteps := 2000000) only [EVT, stepR, evOp, St.ev, St.app, St.put, wrs, evBuiltin, frz, evUn, datOf, datOf1, TIS, CS, Nat.reduceAdd, Nat.reduceMul, Nat.reduceEqDiff, ↓reduceIte, reduceCtorEq, Nat.reduceLT, Nat.reduceLeDiff, Array.reduceGetElem?, Nat.reduceSub, Nat.reduceBEq, ↓zc4, ↓zc5]
                    try simp (maxSteps := 2000000) only [EVT, stepR, evOp, St.ev, St.app, St.put, wrs, evBuiltin, frz, evUn, datOf, datOf1, TIS, CS, Nat.reduceAdd, Nat.reduceMul, Nat.reduceEqDiff, ↓reduceIte, reduceCtorEq, Nat.reduceLT, Nat.reduceLeDiff, Array.reduceGetElem?, Nat.reduceSub, Nat.reduceBEq, ↓zc4, ↓zc5]
                    (repeat' apply And.intro) <;> first | rfl | assumption | omega | (simp; done) | (simp; omega) | (simp_all; done)
                  refine sA_n ?_
                  refine a_ret ?_
                  obtain rfl := Option.some.inj H
                  refine e_r2 (d := ?zd6) ?_ ?_
                  rotate_left
                  · simp only [EVT, resR, single, evLoad, cut, TIS, CS, Nat.reduceAdd, Nat.reduceEqDiff, ↓reduceIte, reduceCtorEq, Nat.reduceLT, Nat.reduceLeDiff, Nat.reduceSub, Nat.reduceBEq, zc4, zc5]
                    (repeat' apply And.intro) <;> first | rfl | assumption | omega | (simp; done)
                  exact (.bool' (by first | rfl | assumption | (simp_all; done)))
end
end Go.Proofs.Ytiomajfdphmgaaa
