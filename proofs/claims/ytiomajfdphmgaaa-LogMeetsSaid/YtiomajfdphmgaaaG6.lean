/- Functions of the program as Lean functions, and that they are so; printed by a program of mine. -/
import Derived.Test.YtiomajfdphmgaaaF3
set_option linter.unusedSimpArgs false
set_option linter.unusedVariables false
namespace Go.Proofs.Ytiomajfdphmgaaa
open Go.Ab
noncomputable section

def law13_LogMeets_J1 (r1 : Bool) (leader1 : List Entry) (from1 : Int) (to1 : Int) (l1 : List Entry) (v1 : Bool) : Option Bool :=
  cond v1 (some (r1)) (chk ((IntKind.wrap .i64 ((leader1.length : Int) + 1)) ≠ 0) (chk ((IntKind.wrap .i64 ((IntKind.wrap .i64 ((leader1.length : Int) - (Int.tmod (IntKind.wrap .i64 from1) (IntKind.wrap .i64 ((leader1.length : Int) + 1))))) + 1)) ≠ 0) ((ref13_Term_f leader1 (Int.tmod (IntKind.wrap .i64 from1) (IntKind.wrap .i64 ((leader1.length : Int) + 1)))).bind fun r2 => chk (0 ≤ (Int.tmod (IntKind.wrap .i64 from1) (IntKind.wrap .i64 ((leader1.length : Int) + 1))) ∧ (Int.tmod (IntKind.wrap .i64 from1) (IntKind.wrap .i64 ((leader1.length : Int) + 1))) ≤ (IntKind.wrap .i64 ((Int.tmod (IntKind.wrap .i64 from1) (IntKind.wrap .i64 ((leader1.length : Int) + 1))) + (Int.tmod (IntKind.wrap .i64 to1) (IntKind.wrap .i64 ((IntKind.wrap .i64 ((leader1.length : Int) - (Int.tmod (IntKind.wrap .i64 from1) (IntKind.wrap .i64 ((leader1.length : Int) + 1))))) + 1))))) ∧ (IntKind.wrap .i64 ((Int.tmod (IntKind.wrap .i64 from1) (IntKind.wrap .i64 ((leader1.length : Int) + 1))) + (Int.tmod (IntKind.wrap .i64 to1) (IntKind.wrap .i64 ((IntKind.wrap .i64 ((leader1.length : Int) - (Int.tmod (IntKind.wrap .i64 from1) (IntKind.wrap .i64 ((leader1.length : Int) + 1))))) + 1))))) ≤ (leader1.length : Int)) ((log_Put_f l1 (Int.tmod (IntKind.wrap .i64 from1) (IntKind.wrap .i64 ((leader1.length : Int) + 1))) r2 ((leader1.take (IntKind.wrap .i64 ((Int.tmod (IntKind.wrap .i64 from1) (IntKind.wrap .i64 ((leader1.length : Int) + 1))) + (Int.tmod (IntKind.wrap .i64 to1) (IntKind.wrap .i64 ((IntKind.wrap .i64 ((leader1.length : Int) - (Int.tmod (IntKind.wrap .i64 from1) (IntKind.wrap .i64 ((leader1.length : Int) + 1))))) + 1))))).toNat).drop (Int.tmod (IntKind.wrap .i64 from1) (IntKind.wrap .i64 ((leader1.length : Int) + 1))).toNat)).bind fun r3 => cond (!r3.2) (cond r1 ((ref13_Term_f leader1 (Int.tmod (IntKind.wrap .i64 from1) (IntKind.wrap .i64 ((leader1.length : Int) + 1)))).bind fun r4 => (log_Fits_f l1 (Int.tmod (IntKind.wrap .i64 from1) (IntKind.wrap .i64 ((leader1.length : Int) + 1))) r4).bind fun r5 => some ((!r5))) (some (false))) (cond (decide ((r3.1.length : Int) < (IntKind.wrap .i64 ((Int.tmod (IntKind.wrap .i64 from1) (IntKind.wrap .i64 ((leader1.length : Int) + 1))) + (Int.tmod (IntKind.wrap .i64 to1) (IntKind.wrap .i64 ((IntKind.wrap .i64 ((leader1.length : Int) - (Int.tmod (IntKind.wrap .i64 from1) (IntKind.wrap .i64 ((leader1.length : Int) + 1))))) + 1))))))) (some (false)) (cond r1 ((ref13_Meet_f r3.1 leader1).bind fun r6 => cond r6 (chk (0 ≤ 0 ∧ 0 ≤ (IntKind.wrap .i64 ((Int.tmod (IntKind.wrap .i64 from1) (IntKind.wrap .i64 ((leader1.length : Int) + 1))) + (Int.tmod (IntKind.wrap .i64 to1) (IntKind.wrap .i64 ((IntKind.wrap .i64 ((leader1.length : Int) - (Int.tmod (IntKind.wrap .i64 from1) (IntKind.wrap .i64 ((leader1.length : Int) + 1))))) + 1))))) ∧ (IntKind.wrap .i64 ((Int.tmod (IntKind.wrap .i64 from1) (IntKind.wrap .i64 ((leader1.length : Int) + 1))) + (Int.tmod (IntKind.wrap .i64 to1) (IntKind.wrap .i64 ((IntKind.wrap .i64 ((leader1.length : Int) - (Int.tmod (IntKind.wrap .i64 from1) (IntKind.wrap .i64 ((leader1.length : Int) + 1))))) + 1))))) ≤ (r3.1.length : Int)) (chk (0 ≤ 0 ∧ 0 ≤ (IntKind.wrap .i64 ((Int.tmod (IntKind.wrap .i64 from1) (IntKind.wrap .i64 ((leader1.length : Int) + 1))) + (Int.tmod (IntKind.wrap .i64 to1) (IntKind.wrap .i64 ((IntKind.wrap .i64 ((leader1.length : Int) - (Int.tmod (IntKind.wrap .i64 from1) (IntKind.wrap .i64 ((leader1.length : Int) + 1))))) + 1))))) ∧ (IntKind.wrap .i64 ((Int.tmod (IntKind.wrap .i64 from1) (IntKind.wrap .i64 ((leader1.length : Int) + 1))) + (Int.tmod (IntKind.wrap .i64 to1) (IntKind.wrap .i64 ((IntKind.wrap .i64 ((leader1.length : Int) - (Int.tmod (IntKind.wrap .i64 from1) (IntKind.wrap .i64 ((leader1.length : Int) + 1))))) + 1))))) ≤ (leader1.length : Int)) ((log_Same_f ((r3.1.take (IntKind.wrap .i64 ((Int.tmod (IntKind.wrap .i64 from1) (IntKind.wrap .i64 ((leader1.length : Int) + 1))) + (Int.tmod (IntKind.wrap .i64 to1) (IntKind.wrap .i64 ((IntKind.wrap .i64 ((leader1.length : Int) - (Int.tmod (IntKind.wrap .i64 from1) (IntKind.wrap .i64 ((leader1.length : Int) + 1))))) + 1))))).toNat).drop 0) ((leader1.take (IntKind.wrap .i64 ((Int.tmod (IntKind.wrap .i64 from1) (IntKind.wrap .i64 ((leader1.length : Int) + 1))) + (Int.tmod (IntKind.wrap .i64 to1) (IntKind.wrap .i64 ((IntKind.wrap .i64 ((leader1.length : Int) - (Int.tmod (IntKind.wrap .i64 from1) (IntKind.wrap .i64 ((leader1.length : Int) + 1))))) + 1))))).toNat).drop 0)).bind fun r7 => some (r7)))) (some (false))) (some (false))))))))
def law13_LogMeets_f (l1 : List Entry) (leader1 : List Entry) (from1 : Int) (to1 : Int) : Option Bool :=
  (law13_head_f).bind fun r1 => (law13_Fits_f l1).bind fun r8 => cond (!r8) (law13_LogMeets_J1 r1 leader1 from1 to1 l1 true) ((law13_Fits_f leader1).bind fun r9 => cond (!r9) (law13_LogMeets_J1 r1 leader1 from1 to1 l1 true) ((ref13_Meet_f l1 leader1).bind fun r10 => law13_LogMeets_J1 r1 leader1 from1 to1 l1 (!r10)))
set_option maxHeartbeats 4000000 in
set_option maxRecDepth 20000 in
theorem law13_LogMeets_pc {l1 : List Entry} {leader1 : List Entry} {from1 : Int} {to1 : Int} {r : Bool} (H : law13_LogMeets_f l1 leader1 from1 to1 = some r) : PC Try.prog 6 [.list 2 (l1.map Entry.c), .list 2 (leader1.map Entry.c), .int .u8 from1, .int .u8 to1] (.bool r) := by
  refine pcA_of Try.func6 (by rfl) (by decide) 90 (by rfl) [.tmp 8] (by rfl) ?_
  unfold law13_LogMeets_f at H
  simp only [ent]
  refine a_seq ?_
  refine a_reg _ rfl (s := ?zs1) ?_ ?_
  rotate_left
  · simp (maxSteps := 2000000) only [EVT, stepR, evOp, St.ev, St.app, St.put, wrs, datOf, datOf1, TIS, CS, Nat.reduceAdd, Nat.reduceMul, Nat.reduceEqDiff, ↓reduceIte, reduceCtorEq, Nat.reduceLT, Nat.reduceLeDiff]
    (repeat' apply And.intro) <;> first | rfl | assumption | omega | (simp; done) | (simp; omega) | (simp_all; done)
  refine sA_n ?_
  refine a_seq ?_
  obtain ⟨r1, zh1, H⟩ := bind_some H
  have zk1 := law13_head_pc zh1
  refine a_reg _ rfl (s := ?zs2) ?_ ?_
  rotate_left
  · try simp (maxSteps := 2000000) only [EVT, stepR, evOp, St.ev, St.app, St.put, wrs, frz, TIS, CS, Nat.reduceAdd, Nat.reduceMul, Nat.reduceEqDiff, ↓reduceIte, reduceCtorEq, Nat.reduceLT, Nat.reduceLeDiff, Nat.reduceSub, Nat.reduceBEq]
    repeat' with_reducible apply And.intro
    all_goals try ((with_reducible show CallR _ _ _ _ _ _ _); refine cR_s zk1 .nil (.bool _) ?_; simp (maxSteps := 2000000) only [EVT, stepR, evOp, St.ev, St.app, St.put, wrs, frz, TIS, CS, Nat.reduceAdd, Nat.reduceMul, Nat.reduceEqDiff, ↓reduceIte, reduceCtorEq, Nat.reduceLT, Nat.reduceLeDiff, Nat.reduceSub, Nat.reduceBEq])
    all_goals ((repeat' apply And.intro) <;> first | rfl | assumption | omega | (simp; done) | (simp; omega) | (simp_all; done))
  refine sA_n ?_
  refine a_seq ?_
  refine a_cut (fun s => ∃ (v1 : Bool) (t0 : Nat → Dat), law13_LogMeets_J1 r1 leader1 from1 to1 l1 v1 = some r ∧ s = ⟨tl t0 [(0, .list 2 (l1.map Entry.c)), (1, .list 2 (leader1.map Entry.c)), (2, .int .u8 from1), (3, .int .u8 to1), (9, .bool r1), (28, .bool v1)], hl [], 0, 90⟩) ?_ ?_
  · obtain ⟨r8, zh13, H⟩ := bind_some H
    have zk8 := law13_Fits_pc zh13
    refine bool_split (b := (!r8)) (fun zc7 => ?_) (fun zc7 => ?_)
    · have H := cond_t zc7 H
      refine a_reg _ rfl (s := ?zs15) ?_ ?_
      rotate_left
      · try simp (maxSteps := 2000000) only [EVT, stepR, evOp, St.ev, St.app, St.put, wrs, frz, evUn, datOf, datOf1, TIS, CS, Nat.reduceAdd, Nat.reduceMul, Nat.reduceEqDiff, ↓reduceIte, reduceCtorEq, Nat.reduceLT, Nat.reduceLeDiff, Array.reduceGetElem?, Nat.reduceSub, Nat.reduceBEq, ↓zc7]
        repeat' with_reducible apply And.intro
        all_goals try ((with_reducible show CallR _ _ _ _ _ _ _); refine cR_s zk8 (.cons (.lst _ _ _ Entry.pu rfl) .nil) (.bool _) ?_; simp (maxSteps := 2000000) only [EVT, stepR, evOp, St.ev, St.app, St.put, wrs, frz, evUn, datOf, datOf1, TIS, CS, Nat.reduceAdd, Nat.reduceMul, Nat.reduceEqDiff, ↓reduceIte, reduceCtorEq, Nat.reduceLT, Nat.reduceLeDiff, Array.reduceGetElem?, Nat.reduceSub, Nat.reduceBEq, ↓zc7])
        all_goals ((repeat' apply And.intro) <;> first | rfl | assumption | omega | (simp; done) | (simp; omega) | (simp_all; done))
      refine cA_n ?_
      refine wk_l [] [] [(0, .list 2 (l1.map Entry.c)), (1, .list 2 (leader1.map Entry.c)), (2, .int .u8 from1), (3, .int .u8 to1), (9, .bool r1), (28, .bool true)] (by show ([0, 1, 2, 3, 9, 28] : List Nat).Nodup; decide) (by show ([] : List Nat).Nodup; decide) ?_ ?_ (fun t0 => ⟨true, t0, H, rfl⟩)
      · exact trivial
      · (simp only [AllT, tl_cons, tl_nil, upd_apply, List.getD_cons_zero, List.getD_cons_succ, Nat.reduceEqDiff, ↓reduceIte, and_true]); exact ⟨(.lst _ _ _ Entry.pu rfl), (.lst _ _ _ Entry.pu rfl), (.int' rfl), (.int' rfl), (.bool' rfl), (.bool' (by first | rfl | assumption | (simp_all; done)))⟩
    · have H := cond_f zc7 H
      obtain ⟨r9, zh14, H⟩ := bind_some H
      have zk9 := law13_Fits_pc zh14
      refine bool_split (b := (!r9)) (fun zc8 => ?_) (fun zc8 => ?_)
      · have H := cond_t zc8 H
        refine a_reg _ rfl (s := ?zs16) ?_ ?_
        rotate_left
        · try simp (maxSteps := 2000000) only [EVT, stepR, evOp, St.ev, St.app, St.put, wrs, frz, evUn, datOf, datOf1, TIS, CS, Nat.reduceAdd, Nat.reduceMul, Nat.reduceEqDiff, ↓reduceIte, reduceCtorEq, Nat.reduceLT, Nat.reduceLeDiff, Array.reduceGetElem?, Nat.reduceSub, Nat.reduceBEq, ↓zc7, ↓zc8]
          repeat' with_reducible apply And.intro
          all_goals try ((with_reducible show CallR _ _ _ _ _ _ _); refine cR_s zk8 (.cons (.lst _ _ _ Entry.pu rfl) .nil) (.bool _) ?_; simp (maxSteps := 2000000) only [EVT, stepR, evOp, St.ev, St.app, St.put, wrs, frz, evUn, datOf, datOf1, TIS, CS, Nat.reduceAdd, Nat.reduceMul, Nat.reduceEqDiff, ↓reduceIte, reduceCtorEq, Nat.reduceLT, Nat.reduceLeDiff, Array.reduceGetElem?, Nat.reduceSub, Nat.reduceBEq, ↓zc7, ↓zc8])
          repeat' with_reducible apply And.intro
          all_goals try ((with_reducible show CallR _ _ _ _ _ _ _); refine cR_s zk9 (.cons (.lst _ _ _ Entry.pu rfl) .nil) (.bool _) ?_; simp (maxSteps := 2000000) only [EVT, stepR, evOp, St.ev, St.app, St.put, wrs, frz, evUn, datOf, datOf1, TIS, CS, Nat.reduceAdd, Nat.reduceMul, Nat.reduceEqDiff, ↓reduceIte, reduceCtorEq, Nat.reduceLT, Nat.reduceLeDiff, Array.reduceGetElem?, Nat.reduceSub, Nat.reduceBEq, ↓zc7, ↓zc8])
          all_goals ((repeat' apply And.intro) <;> first | rfl | assumption | omega | (simp; done) | (simp; omega) | (simp_all; done))
        refine cA_n ?_
        refine wk_l [] [] [(0, .list 2 (l1.map Entry.c)), (1, .list 2 (leader1.map Entry.c)), (2, .int .u8 from1), (3, .int .u8 to1), (9, .bool r1), (28, .bool true)] (by show ([0, 1, 2, 3, 9, 28] : List Nat).Nodup; decide) (by show ([] : List Nat).Nodup; decide) ?_ ?_ (fun t0 => ⟨true, t0, H, rfl⟩)
        · exact trivial
        · (simp only [AllT, tl_cons, tl_nil, upd_apply, List.getD_cons_zero, List.getD_cons_succ, Nat.reduceEqDiff, ↓reduceIte, and_true]); exact ⟨(.lst _ _ _ Entry.pu rfl), (.lst _ _ _ Entry.pu rfl), (.int' rfl), (.int' rfl), (.bool' rfl), (.bool' (by first | rfl | assumption | (simp_all; done)))⟩
      · have H := cond_f zc8 H
        obtain ⟨r10, zh15, H⟩ := bind_some H
        have zk10 := ref13_Meet_pc zh15
        refine a_reg _ rfl (s := ?zs17) ?_ ?_
        rotate_left
        · try simp (maxSteps := 2000000) only [EVT, stepR, evOp, St.ev, St.app, St.put, wrs, frz, evUn, datOf, datOf1, TIS, CS, Nat.reduceAdd, Nat.reduceMul, Nat.reduceEqDiff, ↓reduceIte, reduceCtorEq, Nat.reduceLT, Nat.reduceLeDiff, Array.reduceGetElem?, Nat.reduceSub, Nat.reduceBEq, ↓zc7, ↓zc8]
          repeat' with_reducible apply And.intro
          all_goals try ((with_reducible show CallR _ _ _ _ _ _ _); refine cR_s zk8 (.cons (.lst _ _ _ Entry.pu rfl) .nil) (.bool _) ?_; simp (maxSteps := 2000000) only [EVT, stepR, evOp, St.ev, St.app, St.put, wrs, frz, evUn, datOf, datOf1, TIS, CS, Nat.reduceAdd, Nat.reduceMul, Nat.reduceEqDiff, ↓reduceIte, reduceCtorEq, Nat.reduceLT, Nat.reduceLeDiff, Array.reduceGetElem?, Nat.reduceSub, Nat.reduceBEq, ↓zc7, ↓zc8])
          repeat' with_reducible apply And.intro
          all_goals try ((with_reducible show CallR _ _ _ _ _ _ _); refine cR_s zk9 (.cons (.lst _ _ _ Entry.pu rfl) .nil) (.bool _) ?_; simp (maxSteps := 2000000) only [EVT, stepR, evOp, St.ev, St.app, St.put, wrs, frz, evUn, datOf, datOf1, TIS, CS, Nat.reduceAdd, Nat.reduceMul, Nat.reduceEqDiff, ↓reduceIte, reduceCtorEq, Nat.reduceLT, Nat.reduceLeDiff, Array.reduceGetElem?, Nat.reduceSub, Nat.reduceBEq, ↓zc7, ↓zc8])
          repeat' with_reducible apply And.intro
          all_goals try ((with_reducible show CallR _ _ _ _ _ _ _); refine cR_s zk10 (.cons (.lst _ _ _ Entry.pu rfl) (.cons (.lst _ _ _ Entry.pu rfl) .nil)) (.bool _) ?_; simp (maxSteps := 2000000) only [EVT, stepR, evOp, St.ev, St.app, St.put, wrs, frz, evUn, datOf, datOf1, TIS, CS, Nat.reduceAdd, Nat.reduceMul, Nat.reduceEqDiff, ↓reduceIte, reduceCtorEq, Nat.reduceLT, Nat.reduceLeDiff, Array.reduceGetElem?, Nat.reduceSub, Nat.reduceBEq, ↓zc7, ↓zc8])
          all_goals ((repeat' apply And.intro) <;> first | rfl | assumption | omega | (simp; done) | (simp; omega) | (simp_all; done))
        refine cA_n ?_
        refine wk_l [] [] [(0, .list 2 (l1.map Entry.c)), (1, .list 2 (leader1.map Entry.c)), (2, .int .u8 from1), (3, .int .u8 to1), (9, .bool r1), (28, .bool (!r10))] (by show ([0, 1, 2, 3, 9, 28] : List Nat).Nodup; decide) (by show ([] : List Nat).Nodup; decide) ?_ ?_ (fun t0 => ⟨(!r10), t0, H, rfl⟩)
        · exact trivial
        · (simp only [AllT, tl_cons, tl_nil, upd_apply, List.getD_cons_zero, List.getD_cons_succ, Nat.reduceEqDiff, ↓reduceIte, and_true]); exact ⟨(.lst _ _ _ Entry.pu rfl), (.lst _ _ _ Entry.pu rfl), (.int' rfl), (.int' rfl), (.bool' rfl), (.bool' rfl)⟩
  · rintro s ⟨v1, t0, H, rfl⟩
    unfold law13_LogMeets_J1 at H
    refine a_condb (v1) (by rfl) (fun zc1 => ?_) (fun zc1 => ?_)
    · have H := cond_t zc1 H
      refine a_seq ?_
      refine a_reg _ rfl (s := ?zs3) ?_ ?_
      rotate_left
      · simp (maxSteps := 2000000) only [EVT, stepR, evOp, St.ev, St.app, St.put, wrs, TIS, CS, Nat.reduceAdd, Nat.reduceMul, Nat.reduceEqDiff, ↓reduceIte, reduceCtorEq, Nat.reduceLT, Nat.reduceLeDiff, ↓zc1]
        (repeat' apply And.intro) <;> first | rfl | assumption | omega | (simp; done) | (simp; omega) | (simp_all; done)
      refine sA_n ?_
      refine a_ret ?_
      refine sA_r ?_
      obtain rfl := Option.some.inj H
      refine e_r2 (d := ?zd1) ?_ ?_
      rotate_left
      · simp only [EVT, resR, single, evLoad, cut, TIS, CS, Nat.reduceAdd, Nat.reduceEqDiff, ↓reduceIte, reduceCtorEq, Nat.reduceLT, Nat.reduceLeDiff, Nat.reduceSub, Nat.reduceBEq, zc1]
        (repeat' apply And.intro) <;> first | rfl | assumption | omega | (simp; done)
      exact (.bool' rfl)
    · have H := cond_f zc1 H
      refine a_skip ?_
      refine sA_n ?_
      refine a_seq ?_
      obtain ⟨zh2, H⟩ := chk_some H
      refine a_reg _ rfl (s := ?zs4) ?_ ?_
      rotate_left
      · simp (maxSteps := 2000000) only [EVT, stepR, evOp, St.ev, St.app, St.put, wrs, evToStr, elems, evBuiltin, datOf, datOf1, evBin, binInt, TIS, CS, Nat.reduceAdd, Nat.reduceMul, Nat.reduceEqDiff, ↓reduceIte, reduceCtorEq, Nat.reduceLT, Nat.reduceLeDiff, Nat.reduceSub, Nat.reduceBEq, ↓zc1]
        (repeat' apply And.intro) <;> first | rfl | assumption | omega | (simp; done) | (simp; omega) | (simp_all; done)
      refine sA_n ?_
      refine a_seq ?_
      obtain ⟨zh3, H⟩ := chk_some H
      refine a_reg _ rfl (s := ?zs5) ?_ ?_
      rotate_left
      · simp (maxSteps := 2000000) only [EVT, stepR, evOp, St.ev, St.app, St.put, wrs, evToStr, elems, evBuiltin, evBin, binInt, datOf, datOf1, TIS, CS, Nat.reduceAdd, Nat.reduceMul, Nat.reduceEqDiff, ↓reduceIte, reduceCtorEq, Nat.reduceLT, Nat.reduceLeDiff, Nat.reduceSub, Nat.reduceBEq, ↓zc1]
        (repeat' apply And.intro) <;> first | rfl | assumption | omega | (simp; done) | (simp; omega) | (simp_all; done)
      refine sA_n ?_
      refine a_seq ?_
      obtain ⟨r2, zh4, H⟩ := bind_some H
      have zk2 := ref13_Term_pc zh4
      obtain ⟨zh5, H⟩ := chk_some H
      obtain ⟨r3, zh6, H⟩ := bind_some H
      have zk3 := log_Put_pc zh6
      refine a_drW (by kernel_rfl) _ rfl (s := ?zs6) (by kernel_rfl) (by kernel_rfl) ?zs6f ?_ ?_ ?_
      rotate_left 2
      · try simp (maxSteps := 2000000) only [EVT, stepW, evOp, St.ev, St.app, St.put, wrs, frz, evSlice, sliceOk, sl_if0, sl_if1, sl_if2, sl_if3, tk_map, dp_map, TIS, CS, Nat.reduceAdd, Nat.reduceMul, Nat.reduceEqDiff, ↓reduceIte, reduceCtorEq, Nat.reduceLT, Nat.reduceLeDiff, Int.reduceToNat, Nat.reduceSub, Nat.reduceBEq, ↓zc1]
        repeat' with_reducible apply And.intro
        all_goals try ((with_reducible show CallW _ _ _ _ _ _ _); refine cW_s [] zk2 (fun h2 e => (.cons (.lst _ _ _ Entry.pu rfl) (.cons (.int' rfl) .nil))) (.int _ _) ?_; simp (maxSteps := 2000000) only [EVT, stepW, evOp, St.ev, St.app, St.put, wrs, frz, evSlice, sliceOk, sl_if0, sl_if1, sl_if2, sl_if3, tk_map, dp_map, TIS, CS, Nat.reduceAdd, Nat.reduceMul, Nat.reduceEqDiff, ↓reduceIte, reduceCtorEq, Nat.reduceLT, Nat.reduceLeDiff, Int.reduceToNat, Nat.reduceSub, Nat.reduceBEq, ↓zc1])
        repeat' with_reducible apply And.intro
        all_goals try ((with_reducible show CallW _ _ _ _ _ _ _); refine cW_p [] zk3 (fun h2 e => (.cons (.lst _ _ _ Entry.pu rfl) (.cons (.int' rfl) (.cons (.int' rfl) (.cons (.lst _ _ _ Entry.pu rfl) .nil))))) ?_; simp (maxSteps := 2000000) only [EVT, stepW, evOp, St.ev, St.app, St.put, wrs, frz, evSlice, sliceOk, sl_if0, sl_if1, sl_if2, sl_if3, tk_map, dp_map, TIS, CS, Nat.reduceAdd, Nat.reduceMul, Nat.reduceEqDiff, ↓reduceIte, reduceCtorEq, Nat.reduceLT, Nat.reduceLeDiff, Int.reduceToNat, Nat.reduceSub, Nat.reduceBEq, ↓zc1])
        all_goals ((repeat' apply And.intro) <;> first | rfl | assumption | omega | (simp; done) | (simp; omega) | (simp_all; done))
      · kernel_rfl
      refine sA_n ?_
      refine a_seq ?_
      refine a_seq ?_
      refine a_reg _ rfl (s := ?zs7) ?_ ?_
      rotate_left
      · simp (maxSteps := 2000000) only [EVT, stepR, evOp, St.ev, St.app, St.put, wrs, evUn, TIS, CS, Nat.reduceAdd, Nat.reduceMul, Nat.reduceEqDiff, ↓reduceIte, reduceCtorEq, Nat.reduceLT, Nat.reduceLeDiff, ↓zc1]
        (repeat' apply And.intro) <;> first | rfl | assumption | omega | (simp; done) | (simp; omega) | (simp_all; done)
      refine sA_n ?_
      refine a_condb ((!r3.2)) (by rfl) (fun zc2 => ?_) (fun zc2 => ?_)
      · have H := cond_t zc2 H
        refine a_seq ?_
        refine bool_split (b := r1) (fun zc3 => ?_) (fun zc3 => ?_)
        · have H := cond_t zc3 H
          obtain ⟨r4, zh7, H⟩ := bind_some H
          have zk4 := ref13_Term_pc zh7
          obtain ⟨r5, zh8, H⟩ := bind_some H
          have zk5 := log_Fits_pc zh8
          refine a_reg _ rfl (s := ?zs8) ?_ ?_
          rotate_left
          · try simp (maxSteps := 2000000) only [EVT, stepR, evOp, St.ev, St.app, St.put, wrs, frz, evUn, datOf, datOf1, TIS, CS, Nat.reduceAdd, Nat.reduceMul, Nat.reduceEqDiff, ↓reduceIte, reduceCtorEq, Nat.reduceLT, Nat.reduceLeDiff, Array.reduceGetElem?, Nat.reduceSub, Nat.reduceBEq, ↓zc1, ↓zc2, ↓zc3]
            repeat' with_reducible apply And.intro
            all_goals try ((with_reducible show CallR _ _ _ _ _ _ _); refine cR_s zk4 (.cons (.lst _ _ _ Entry.pu rfl) (.cons (.int' rfl) .nil)) (.int _ _) ?_; simp (maxSteps := 2000000) only [EVT, stepR, evOp, St.ev, St.app, St.put, wrs, frz, evUn, datOf, datOf1, TIS, CS, Nat.reduceAdd, Nat.reduceMul, Nat.reduceEqDiff, ↓reduceIte, reduceCtorEq, Nat.reduceLT, Nat.reduceLeDiff, Array.reduceGetElem?, Nat.reduceSub, Nat.reduceBEq, ↓zc1, ↓zc2, ↓zc3])
            repeat' with_reducible apply And.intro
            all_goals try ((with_reducible show CallR _ _ _ _ _ _ _); refine cR_s zk5 (.cons (.lst _ _ _ Entry.pu rfl) (.cons (.int' rfl) (.cons (.int' rfl) .nil))) (.bool _) ?_; simp (maxSteps := 2000000) only [EVT, stepR, evOp, St.ev, St.app, St.put, wrs, frz, evUn, datOf, datOf1, TIS, CS, Nat.reduceAdd, Nat.reduceMul, Nat.reduceEqDiff, ↓reduceIte, reduceCtorEq, Nat.reduceLT, Nat.reduceLeDiff, Array.reduceGetElem?, Nat.reduceSub, Nat.reduceBEq, ↓zc1, ↓zc2, ↓zc3])
            all_goals ((repeat' apply And.intro) <;> first | rfl | assumption | omega | (simp; done) | (simp; omega) | (simp_all; done))
          refine sA_n ?_
          refine a_ret ?_
          refine sA_r ?_
          obtain rfl := Option.some.inj H
          refine e_r2 (d := ?zd2) ?_ ?_
          rotate_left
          · simp only [EVT, resR, single, evLoad, cut, TIS, CS, Nat.reduceAdd, Nat.reduceEqDiff, ↓reduceIte, reduceCtorEq, Nat.reduceLT, Nat.reduceLeDiff, Nat.reduceSub, Nat.reduceBEq, zc1, zc2, zc3]
            (repeat' apply And.intro) <;> first | rfl | assumption | omega | (simp; done)
          exact (.bool' rfl)
        · have H := cond_f zc3 H
          refine a_reg _ rfl (s := ?zs9) ?_ ?_
          rotate_left
          · simp (maxSteps := 2000000) only [EVT, stepR, evOp, St.ev, St.app, St.put, wrs, frz, evUn, datOf, datOf1, TIS, CS, Nat.reduceAdd, Nat.reduceMul, Nat.reduceEqDiff, ↓reduceIte, reduceCtorEq, Nat.reduceLT, Nat.reduceLeDiff, Array.reduceGetElem?, Nat.reduceSub, Nat.reduceBEq, ↓zc1, ↓zc2, ↓zc3]
            try simp (maxSteps := 2000000) only [EVT, stepR, evOp, St.ev, St.app, St.put, wrs, frz, evUn, datOf, datOf1, TIS, CS, Nat.reduceAdd, Nat.reduceMul, Nat.reduceEqDiff, ↓reduceIte, reduceCtorEq, Nat.reduceLT, Nat.reduceLeDiff, Array.reduceGetElem?, Nat.reduceSub, Nat.reduceBEq, ↓zc1, ↓zc2, ↓zc3]
            (repeat' apply And.intro) <;> first | rfl | assumption | omega | (simp; done) | (simp; omega) | (simp_all; done)
          refine sA_n ?_
          refine a_ret ?_
          refine sA_r ?_
          obtain rfl := Option.some.inj H
          refine e_r2 (d := ?zd3) ?_ ?_
          rotate_left
          · simp only [EVT, resR, single, evLoad, cut, TIS, CS, Nat.reduceAdd, Nat.reduceEqDiff, ↓reduceIte, reduceCtorEq, Nat.reduceLT, Nat.reduceLeDiff, Nat.reduceSub, Nat.reduceBEq, zc1, zc2, zc3]
            (repeat' apply And.intro) <;> first | rfl | assumption | omega | (simp; done)
          exact (.bool' (by first | rfl | assumption | (simp_all; done)))
      · have H := cond_f zc2 H
        refine a_skip ?_
        refine sA_n ?_
        refine a_seq ?_
        refine a_seq ?_
        refine a_reg _ rfl (s := ?zs10) ?_ ?_
        rotate_left
        · simp (maxSteps := 2000000) only [EVT, stepR, evOp, St.ev, St.app, St.put, wrs, evBuiltin, evBin, binInt, TIS, CS, Nat.reduceAdd, Nat.reduceMul, Nat.reduceEqDiff, ↓reduceIte, reduceCtorEq, Nat.reduceLT, Nat.reduceLeDiff, Nat.reduceSub, Nat.reduceBEq, ↓zc1, ↓zc2]
          (repeat' apply And.intro) <;> first | rfl | assumption | omega | (simp; done) | (simp; omega) | (simp_all; done)
        refine sA_n ?_
        refine a_condb ((decide ((r3.1.length : Int) < (IntKind.wrap .i64 ((Int.tmod (IntKind.wrap .i64 from1) (IntKind.wrap .i64 ((leader1.length : Int) + 1))) + (Int.tmod (IntKind.wrap .i64 to1) (IntKind.wrap .i64 ((IntKind.wrap .i64 ((leader1.length : Int) - (Int.tmod (IntKind.wrap .i64 from1) (IntKind.wrap .i64 ((leader1.length : Int) + 1))))) + 1)))))))) (by rfl) (fun zc4 => ?_) (fun zc4 => ?_)
        · have H := cond_t zc4 H
          refine a_seq ?_
          refine a_reg _ rfl (s := ?zs11) ?_ ?_
          rotate_left
          · simp (maxSteps := 2000000) only [EVT, stepR, evOp, St.ev, St.app, St.put, wrs, datOf, datOf1, TIS, CS, Nat.reduceAdd, Nat.reduceMul, Nat.reduceEqDiff, ↓reduceIte, reduceCtorEq, Nat.reduceLT, Nat.reduceLeDiff, ↓zc1, ↓zc2, ↓zc4]
            (repeat' apply And.intro) <;> first | rfl | assumption | omega | (simp; done) | (simp; omega) | (simp_all; done)
          refine sA_n ?_
          refine a_ret ?_
          refine sA_r ?_
          obtain rfl := Option.some.inj H
          refine e_r2 (d := ?zd4) ?_ ?_
          rotate_left
          · simp only [EVT, resR, single, evLoad, cut, TIS, CS, Nat.reduceAdd, Nat.reduceEqDiff, ↓reduceIte, reduceCtorEq, Nat.reduceLT, Nat.reduceLeDiff, Nat.reduceSub, Nat.reduceBEq, zc1, zc2, zc4]
            (repeat' apply And.intro) <;> first | rfl | assumption | omega | (simp; done)
          exact (.bool' (by first | rfl | assumption | (simp_all; done)))
        · have H := cond_f zc4 H
          refine a_skip ?_
          refine sA_n ?_
          refine a_seq ?_
          refine bool_split (b := r1) (fun zc5 => ?_) (fun zc5 => ?_)
          · have H := cond_t zc5 H
            obtain ⟨r6, zh9, H⟩ := bind_some H
            have zk6 := ref13_Meet_pc zh9
            refine bool_split (b := r6) (fun zc6 => ?_) (fun zc6 => ?_)
            · have H := cond_t zc6 H
              obtain ⟨zh10, H⟩ := chk_some H
              obtain ⟨zh11, H⟩ := chk_some H
              obtain ⟨r7, zh12, H⟩ := bind_some H
              have zk7 := log_Same_pc zh12
              refine a_drW (by kernel_rfl) _ rfl (s := ?zs12) (by kernel_rfl) (by kernel_rfl) ?zs12f ?_ ?_ ?_
              rotate_left 2
              · try simp (maxSteps := 2000000) only [EVT, stepW, evOp, St.ev, St.app, St.put, wrs, frz, datOf, datOf1, evSlice, sliceOk, sl_if0, sl_if1, sl_if2, sl_if3, tk_map, dp_map, TIS, CS, Nat.reduceAdd, Nat.reduceMul, Nat.reduceEqDiff, ↓reduceIte, reduceCtorEq, Nat.reduceLT, Nat.reduceLeDiff, Array.reduceGetElem?, Int.reduceToNat, Nat.reduceSub, Nat.reduceBEq, ↓zc1, ↓zc2, ↓zc4, ↓zc5, ↓zc6]
                repeat' with_reducible apply And.intro
                all_goals try ((with_reducible show CallW _ _ _ _ _ _ _); refine cW_s [] zk6 (fun h2 e => (.cons (.lst _ _ _ Entry.pu rfl) (.cons (.lst _ _ _ Entry.pu rfl) .nil))) (.bool _) ?_; simp (maxSteps := 2000000) only [EVT, stepW, evOp, St.ev, St.app, St.put, wrs, frz, datOf, datOf1, evSlice, sliceOk, sl_if0, sl_if1, sl_if2, sl_if3, tk_map, dp_map, TIS, CS, Nat.reduceAdd, Nat.reduceMul, Nat.reduceEqDiff, ↓reduceIte, reduceCtorEq, Nat.reduceLT, Nat.reduceLeDiff, Array.reduceGetElem?, Int.reduceToNat, Nat.reduceSub, Nat.reduceBEq, ↓zc1, ↓zc2, ↓zc4, ↓zc5, ↓zc6])
                repeat' with_reducible apply And.intro
                all_goals try ((with_reducible show CallW _ _ _ _ _ _ _); refine cW_s [] zk7 (fun h2 e => (.cons (.lst _ _ _ Entry.pu rfl) (.cons (.lst _ _ _ Entry.pu rfl) .nil))) (.bool _) ?_; simp (maxSteps := 2000000) only [EVT, stepW, evOp, St.ev, St.app, St.put, wrs, frz, datOf, datOf1, evSlice, sliceOk, sl_if0, sl_if1, sl_if2, sl_if3, tk_map, dp_map, TIS, CS, Nat.reduceAdd, Nat.reduceMul, Nat.reduceEqDiff, ↓reduceIte, reduceCtorEq, Nat.reduceLT, Nat.reduceLeDiff, Array.reduceGetElem?, Int.reduceToNat, Nat.reduceSub, Nat.reduceBEq, ↓zc1, ↓zc2, ↓zc4, ↓zc5, ↓zc6])
                all_goals ((repeat' apply And.intro) <;> first | rfl | assumption | omega | (simp; done) | (simp; omega) | (simp_all; done))
              · kernel_rfl
              refine sA_n ?_
              refine a_ret ?_
              obtain rfl := Option.some.inj H
              refine e_r2 (d := ?zd5) ?_ ?_
              rotate_left
              · simp only [EVT, resR, single, evLoad, cut, TIS, CS, Nat.reduceAdd, Nat.reduceEqDiff, ↓reduceIte, reduceCtorEq, Nat.reduceLT, Nat.reduceLeDiff, Nat.reduceSub, Nat.reduceBEq, zc1, zc2, zc4, zc5, zc6]
                (repeat' apply And.intro) <;> first | rfl | assumption | omega | (simp; done)
              exact (.bool' rfl)
            · have H := cond_f zc6 H
              refine a_drW (by kernel_rfl) _ rfl (s := ?zs13) (by kernel_rfl) (by kernel_rfl) ?zs13f ?_ ?_ ?_
              rotate_left 2
              · try simp (maxSteps := 2000000) only [EVT, stepW, evOp, St.ev, St.app, St.put, wrs, frz, datOf, datOf1, evSlice, sliceOk, sl_if0, sl_if1, sl_if2, sl_if3, tk_map, dp_map, TIS, CS, Nat.reduceAdd, Nat.reduceMul, Nat.reduceEqDiff, ↓reduceIte, reduceCtorEq, Nat.reduceLT, Nat.reduceLeDiff, Array.reduceGetElem?, Int.reduceToNat, Nat.reduceSub, Nat.reduceBEq, ↓zc1, ↓zc2, ↓zc4, ↓zc5, ↓zc6]
                repeat' with_reducible apply And.intro
                all_goals try ((with_reducible show CallW _ _ _ _ _ _ _); refine cW_s [] zk6 (fun h2 e => (.cons (.lst _ _ _ Entry.pu rfl) (.cons (.lst _ _ _ Entry.pu rfl) .nil))) (.bool _) ?_; simp (maxSteps := 2000000) only [EVT, stepW, evOp, St.ev, St.app, St.put, wrs, frz, datOf, datOf1, evSlice, sliceOk, sl_if0, sl_if1, sl_if2, sl_if3, tk_map, dp_map, TIS, CS, Nat.reduceAdd, Nat.reduceMul, Nat.reduceEqDiff, ↓reduceIte, reduceCtorEq, Nat.reduceLT, Nat.reduceLeDiff, Array.reduceGetElem?, Int.reduceToNat, Nat.reduceSub, Nat.reduceBEq, ↓zc1, ↓zc2, ↓zc4, ↓zc5, ↓zc6])
                all_goals ((repeat' apply And.intro) <;> first | rfl | assumption | omega | (simp; done) | (simp; omega) | (simp_all; done))
              · kernel_rfl
              refine sA_n ?_
              refine a_ret ?_
              obtain rfl := Option.some.inj H
              refine e_r2 (d := ?zd6) ?_ ?_
              rotate_left
              · simp only [EVT, resR, single, evLoad, cut, TIS, CS, Nat.reduceAdd, Nat.reduceEqDiff, ↓reduceIte, reduceCtorEq, Nat.reduceLT, Nat.reduceLeDiff, Nat.reduceSub, Nat.reduceBEq, zc1, zc2, zc4, zc5, zc6]
                (repeat' apply And.intro) <;> first | rfl | assumption | omega | (simp; done)
              exact (.bool' (by first | rfl | assumption | (simp_all; done)))
          · have H := cond_f zc5 H
            refine a_drW (by kernel_rfl) _ rfl (s := ?zs14) (by kernel_rfl) (by kernel_rfl) ?zs14f ?_ ?_ ?_
            rotate_left 2
            · simp (maxSteps := 2000000) only [EVT, stepW, evOp, St.ev, St.app, St.put, wrs, frz, datOf, datOf1, evSlice, sliceOk, sl_if0, sl_if1, sl_if2, sl_if3, tk_map, dp_map, TIS, CS, Nat.reduceAdd, Nat.reduceMul, Nat.reduceEqDiff, ↓reduceIte, reduceCtorEq, Nat.reduceLT, Nat.reduceLeDiff, Array.reduceGetElem?, Int.reduceToNat, Nat.reduceSub, Nat.reduceBEq, ↓zc1, ↓zc2, ↓zc4, ↓zc5]
              try simp (maxSteps := 2000000) only [EVT, stepW, evOp, St.ev, St.app, St.put, wrs, frz, datOf, datOf1, evSlice, sliceOk, sl_if0, sl_if1, sl_if2, sl_if3, tk_map, dp_map, TIS, CS, Nat.reduceAdd, Nat.reduceMul, Nat.reduceEqDiff, ↓reduceIte, reduceCtorEq, Nat.reduceLT, Nat.reduceLeDiff, Array.reduceGetElem?, Int.reduceToNat, Nat.reduceSub, Nat.reduceBEq, ↓zc1, ↓zc2, ↓zc4, ↓zc5]
              (repeat' apply And.intro) <;> first | rfl | assumption | omega | (simp; done) | (simp; omega) | (simp_all; done)
            · kernel_rfl
            refine sA_n ?_
            refine a_ret ?_
            obtain rfl := Option.some.inj H
            refine e_r2 (d := ?zd7) ?_ ?_
            rotate_left
            · simp only [EVT, resR, single, evLoad, cut, TIS, CS, Nat.reduceAdd, Nat.reduceEqDiff, ↓reduceIte, reduceCtorEq, Nat.reduceLT, Nat.reduceLeDiff, Nat.reduceSub, Nat.reduceBEq, zc1, zc2, zc4, zc5]
              (repeat' apply And.intro) <;> first | rfl | assumption | omega | (simp; done)
            exact (.bool' (by first | rfl | assumption | (simp_all; done)))
end
end Go.Proofs.Ytiomajfdphmgaaa
