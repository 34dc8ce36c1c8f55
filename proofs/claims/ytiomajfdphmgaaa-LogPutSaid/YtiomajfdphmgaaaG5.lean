/- Functions of the program as Lean functions, and that they are so; printed by a program of mine. -/
import Derived.Test.YtiomajfdphmgaaaF3
set_option linter.unusedSimpArgs false
set_option linter.unusedVariables false
namespace Go.Proofs.Ytiomajfdphmgaaa
open Go.Ab
noncomputable section

def law13_LogPut_J2 (r3 : (List Entry) × Bool) (at1 : Int) (l1 : List Entry) (r2 : Int) (more1 : List Entry) (part1 : Int) (r1 : Bool) (v2 : Bool) : Option Bool :=
  cond v2 (some (false)) ((log_Put_f r3.1 (Int.tmod (IntKind.wrap .i64 at1) (IntKind.wrap .i64 ((l1.length : Int) + 1))) r2 more1).bind fun r4 => chk ((IntKind.wrap .i64 ((more1.length : Int) + 1)) ≠ 0) (chk (0 ≤ 0 ∧ 0 ≤ (Int.tmod (IntKind.wrap .i64 part1) (IntKind.wrap .i64 ((more1.length : Int) + 1))) ∧ (Int.tmod (IntKind.wrap .i64 part1) (IntKind.wrap .i64 ((more1.length : Int) + 1))) ≤ (more1.length : Int)) ((log_Put_f r3.1 (Int.tmod (IntKind.wrap .i64 at1) (IntKind.wrap .i64 ((l1.length : Int) + 1))) r2 ((more1.take (Int.tmod (IntKind.wrap .i64 part1) (IntKind.wrap .i64 ((more1.length : Int) + 1))).toNat).drop 0)).bind fun r5 => cond r1 (cond r4.2 (cond r5.2 ((log_Same_f r4.1 r3.1).bind fun r6 => cond r6 ((log_Same_f r5.1 r3.1).bind fun r7 => cond r7 (cond ((r3.1.length : Int) == (IntKind.wrap .i64 ((Int.tmod (IntKind.wrap .i64 at1) (IntKind.wrap .i64 ((l1.length : Int) + 1))) + (more1.length : Int)))) (some (true)) ((log_Same_f r3.1 l1).bind fun r8 => some (r8))) (some (false))) (some (false))) (some (false))) (some (false))) (some (false)))))
def law13_LogPut_J1 (r1 : Bool) (l1 : List Entry) (at1 : Int) (more1 : List Entry) (part1 : Int) (v1 : Bool) : Option Bool :=
  cond v1 (some (r1)) (chk ((IntKind.wrap .i64 ((l1.length : Int) + 1)) ≠ 0) ((ref13_Term_f l1 (Int.tmod (IntKind.wrap .i64 at1) (IntKind.wrap .i64 ((l1.length : Int) + 1)))).bind fun r2 => (log_Put_f l1 (Int.tmod (IntKind.wrap .i64 at1) (IntKind.wrap .i64 ((l1.length : Int) + 1))) r2 more1).bind fun r3 => cond (!r3.2) (law13_LogPut_J2 r3 at1 l1 r2 more1 part1 r1 true) (cond (decide ((r3.1.length : Int) < (IntKind.wrap .i64 ((Int.tmod (IntKind.wrap .i64 at1) (IntKind.wrap .i64 ((l1.length : Int) + 1))) + (more1.length : Int))))) (law13_LogPut_J2 r3 at1 l1 r2 more1 part1 r1 true) (chk (0 ≤ 0 ∧ 0 ≤ (Int.tmod (IntKind.wrap .i64 at1) (IntKind.wrap .i64 ((l1.length : Int) + 1))) ∧ (Int.tmod (IntKind.wrap .i64 at1) (IntKind.wrap .i64 ((l1.length : Int) + 1))) ≤ (r3.1.length : Int)) (chk (0 ≤ 0 ∧ 0 ≤ (Int.tmod (IntKind.wrap .i64 at1) (IntKind.wrap .i64 ((l1.length : Int) + 1))) ∧ (Int.tmod (IntKind.wrap .i64 at1) (IntKind.wrap .i64 ((l1.length : Int) + 1))) ≤ (l1.length : Int)) ((log_Same_f ((r3.1.take (Int.tmod (IntKind.wrap .i64 at1) (IntKind.wrap .i64 ((l1.length : Int) + 1))).toNat).drop 0) ((l1.take (Int.tmod (IntKind.wrap .i64 at1) (IntKind.wrap .i64 ((l1.length : Int) + 1))).toNat).drop 0)).bind fun r9 => cond (!r9) (law13_LogPut_J2 r3 at1 l1 r2 more1 part1 r1 true) (chk (0 ≤ (Int.tmod (IntKind.wrap .i64 at1) (IntKind.wrap .i64 ((l1.length : Int) + 1))) ∧ (Int.tmod (IntKind.wrap .i64 at1) (IntKind.wrap .i64 ((l1.length : Int) + 1))) ≤ (IntKind.wrap .i64 ((Int.tmod (IntKind.wrap .i64 at1) (IntKind.wrap .i64 ((l1.length : Int) + 1))) + (more1.length : Int))) ∧ (IntKind.wrap .i64 ((Int.tmod (IntKind.wrap .i64 at1) (IntKind.wrap .i64 ((l1.length : Int) + 1))) + (more1.length : Int))) ≤ (r3.1.length : Int)) ((log_Same_f ((r3.1.take (IntKind.wrap .i64 ((Int.tmod (IntKind.wrap .i64 at1) (IntKind.wrap .i64 ((l1.length : Int) + 1))) + (more1.length : Int))).toNat).drop (Int.tmod (IntKind.wrap .i64 at1) (IntKind.wrap .i64 ((l1.length : Int) + 1))).toNat) more1).bind fun r10 => law13_LogPut_J2 r3 at1 l1 r2 more1 part1 r1 (!r10)))))))))
def law13_LogPut_f (l1 : List Entry) (at1 : Int) (more1 : List Entry) (part1 : Int) : Option Bool :=
  (law13_head_f).bind fun r1 => (law13_Fits_f l1).bind fun r11 => cond (!r11) (law13_LogPut_J1 r1 l1 at1 more1 part1 true) ((law13_Fits_f more1).bind fun r12 => law13_LogPut_J1 r1 l1 at1 more1 part1 (!r12))
set_option maxHeartbeats 4000000 in
set_option maxRecDepth 20000 in
theorem law13_LogPut_pc {l1 : List Entry} {at1 : Int} {more1 : List Entry} {part1 : Int} {r : Bool} (H : law13_LogPut_f l1 at1 more1 part1 = some r) : PC Try.prog 5 [.list 2 (l1.map Entry.c), .int .u8 at1, .list 2 (more1.map Entry.c), .int .u8 part1] (.bool r) := by
  refine pcA_of Try.func5 (by rfl) (by decide) 132 (by rfl) [.tmp 8] (by rfl) ?_
  unfold law13_LogPut_f at H
  simp only [ent]
  refine a_seq ?_
  refine a_reg _ rfl (s := ?zs1) ?_ ?_
  rotate_left
  · simp (maxSteps := 2000000) only [EVT, stepR, evOp, St.ev, St.app, St.put, wrs, datOf, datOf1, TIS, CS, Nat.reduceAdd, Nat.reduceMul, Nat.reduceEqDiff, ↓reduceIte, reduceCtorEq, Nat.reduceLT, Nat.reduceLeDiff]
    (repeat' apply And.intro) <;> first | rfl | assumption | omega | (simp; done) | (simp; omega) | (simp_all; done)
  refine sA_n ?_
  refine a_seq ?_
  obtain ⟨r1, zh1, H⟩ := bind_some H
  have zk1 := law13_head_pc zh1
  refine a_reg _ rfl (s := ?zs2) ?_ ?_
  rotate_left
  · try simp (maxSteps := 2000000) only [EVT, stepR, evOp, St.ev, St.app, St.put, wrs, frz, TIS, CS, Nat.reduceAdd, Nat.reduceMul, Nat.reduceEqDiff, ↓reduceIte, reduceCtorEq, Nat.reduceLT, Nat.reduceLeDiff, Nat.reduceSub, Nat.reduceBEq]
    repeat' with_reducible apply And.intro
    all_goals try ((with_reducible show CallR _ _ _ _ _ _ _); refine cR_s zk1 .nil (.bool _) ?_; simp (maxSteps := 2000000) only [EVT, stepR, evOp, St.ev, St.app, St.put, wrs, frz, TIS, CS, Nat.reduceAdd, Nat.reduceMul, Nat.reduceEqDiff, ↓reduceIte, reduceCtorEq, Nat.reduceLT, Nat.reduceLeDiff, Nat.reduceSub, Nat.reduceBEq])
    all_goals ((repeat' apply And.intro) <;> first | rfl | assumption | omega | (simp; done) | (simp; omega) | (simp_all; done))
  refine sA_n ?_
  refine a_seq ?_
  refine a_cut (fun s => ∃ (v1 : Bool) (t0 : Nat → Dat), law13_LogPut_J1 r1 l1 at1 more1 part1 v1 = some r ∧ s = ⟨tl t0 [(0, .list 2 (l1.map Entry.c)), (1, .int .u8 at1), (2, .list 2 (more1.map Entry.c)), (3, .int .u8 part1), (9, .bool r1), (26, .bool v1)], hl [], 0, 132⟩) ?_ ?_
  · obtain ⟨r11, zh17, H⟩ := bind_some H
    have zk11 := law13_Fits_pc zh17
    refine bool_split (b := (!r11)) (fun zc12 => ?_) (fun zc12 => ?_)
    · have H := cond_t zc12 H
      refine a_reg _ rfl (s := ?zs21) ?_ ?_
      rotate_left
      · try simp (maxSteps := 2000000) only [EVT, stepR, evOp, St.ev, St.app, St.put, wrs, frz, evUn, datOf, datOf1, TIS, CS, Nat.reduceAdd, Nat.reduceMul, Nat.reduceEqDiff, ↓reduceIte, reduceCtorEq, Nat.reduceLT, Nat.reduceLeDiff, Array.reduceGetElem?, Nat.reduceSub, Nat.reduceBEq, ↓zc12]
        repeat' with_reducible apply And.intro
        all_goals try ((with_reducible show CallR _ _ _ _ _ _ _); refine cR_s zk11 (.cons (.lst _ _ _ Entry.pu rfl) .nil) (.bool _) ?_; simp (maxSteps := 2000000) only [EVT, stepR, evOp, St.ev, St.app, St.put, wrs, frz, evUn, datOf, datOf1, TIS, CS, Nat.reduceAdd, Nat.reduceMul, Nat.reduceEqDiff, ↓reduceIte, reduceCtorEq, Nat.reduceLT, Nat.reduceLeDiff, Array.reduceGetElem?, Nat.reduceSub, Nat.reduceBEq, ↓zc12])
        all_goals ((repeat' apply And.intro) <;> first | rfl | assumption | omega | (simp; done) | (simp; omega) | (simp_all; done))
      refine cA_n ?_
      refine wk_l [] [] [(0, .list 2 (l1.map Entry.c)), (1, .int .u8 at1), (2, .list 2 (more1.map Entry.c)), (3, .int .u8 part1), (9, .bool r1), (26, .bool true)] (by show ([0, 1, 2, 3, 9, 26] : List Nat).Nodup; decide) (by show ([] : List Nat).Nodup; decide) ?_ ?_ (fun t0 => ⟨true, t0, H, rfl⟩)
      · exact trivial
      · (simp only [AllT, tl_cons, tl_nil, upd_apply, List.getD_cons_zero, List.getD_cons_succ, Nat.reduceEqDiff, ↓reduceIte, and_true]); exact ⟨(.lst _ _ _ Entry.pu rfl), (.int' rfl), (.lst _ _ _ Entry.pu rfl), (.int' rfl), (.bool' rfl), (.bool' (by first | rfl | assumption | (simp_all; done)))⟩
    · have H := cond_f zc12 H
      obtain ⟨r12, zh18, H⟩ := bind_some H
      have zk12 := law13_Fits_pc zh18
      refine a_reg _ rfl (s := ?zs22) ?_ ?_
      rotate_left
      · try simp (maxSteps := 2000000) only [EVT, stepR, evOp, St.ev, St.app, St.put, wrs, frz, evUn, datOf, datOf1, TIS, CS, Nat.reduceAdd, Nat.reduceMul, Nat.reduceEqDiff, ↓reduceIte, reduceCtorEq, Nat.reduceLT, Nat.reduceLeDiff, Array.reduceGetElem?, Nat.reduceSub, Nat.reduceBEq, ↓zc12]
        repeat' with_reducible apply And.intro
        all_goals try ((with_reducible show CallR _ _ _ _ _ _ _); refine cR_s zk11 (.cons (.lst _ _ _ Entry.pu rfl) .nil) (.bool _) ?_; simp (maxSteps := 2000000) only [EVT, stepR, evOp, St.ev, St.app, St.put, wrs, frz, evUn, datOf, datOf1, TIS, CS, Nat.reduceAdd, Nat.reduceMul, Nat.reduceEqDiff, ↓reduceIte, reduceCtorEq, Nat.reduceLT, Nat.reduceLeDiff, Array.reduceGetElem?, Nat.reduceSub, Nat.reduceBEq, ↓zc12])
        repeat' with_reducible apply And.intro
        all_goals try ((with_reducible show CallR _ _ _ _ _ _ _); refine cR_s zk12 (.cons (.lst _ _ _ Entry.pu rfl) .nil) (.bool _) ?_; simp (maxSteps := 2000000) only [EVT, stepR, evOp, St.ev, St.app, St.put, wrs, frz, evUn, datOf, datOf1, TIS, CS, Nat.reduceAdd, Nat.reduceMul, Nat.reduceEqDiff, ↓reduceIte, reduceCtorEq, Nat.reduceLT, Nat.reduceLeDiff, Array.reduceGetElem?, Nat.reduceSub, Nat.reduceBEq, ↓zc12])
        all_goals ((repeat' apply And.intro) <;> first | rfl | assumption | omega | (simp; done) | (simp; omega) | (simp_all; done))
      refine cA_n ?_
      refine wk_l [] [] [(0, .list 2 (l1.map Entry.c)), (1, .int .u8 at1), (2, .list 2 (more1.map Entry.c)), (3, .int .u8 part1), (9, .bool r1), (26, .bool (!r12))] (by show ([0, 1, 2, 3, 9, 26] : List Nat).Nodup; decide) (by show ([] : List Nat).Nodup; decide) ?_ ?_ (fun t0 => ⟨(!r12), t0, H, rfl⟩)
      · exact trivial
      · (simp only [AllT, tl_cons, tl_nil, upd_apply, List.getD_cons_zero, List.getD_cons_succ, Nat.reduceEqDiff, ↓reduceIte, and_true]); exact ⟨(.lst _ _ _ Entry.pu rfl), (.int' rfl), (.lst _ _ _ Entry.pu rfl), (.int' rfl), (.bool' rfl), (.bool' rfl)⟩
  · rintro s ⟨v1, t0, H, rfl⟩
    unfold law13_LogPut_J1 at H
    refine a_condb (v1) (by rfl) (fun zc1 => ?_) (fun zc1 => ?_)
    · have H := cond_t zc1 H
      refine a_seq ?_
      refine a_reg _ rfl (s := ?zs3) ?_ ?_
      rotate_left
      · simp (maxSteps := 2000000) only [EVT, stepR, evOp, St.ev, St.app, St.put, wrs, TIS, CS, Nat.reduceAdd, Nat.reduceMul, Nat.reduceEqDiff, ↓reduceIte, reduceCtorEq, Nat.reduceLT, Nat.reduceLeDiff, ↓zc1]
        (repeat' apply And.intro) <;> first | rfl | assumption | omega | (simp; done) | (simp; omega) | (simp_all; done)
      refine sA_n ?_
      refine a_ret ?_
      refine sA_r ?_
      obtain rfl := Option.some.inj H
      refine e_r2 (d := ?zd1) ?_ ?_
      rotate_left
      · simp only [EVT, resR, single, evLoad, cut, TIS, CS, Nat.reduceAdd, Nat.reduceEqDiff, ↓reduceIte, reduceCtorEq, Nat.reduceLT, Nat.reduceLeDiff, Nat.reduceSub, Nat.reduceBEq, zc1]
        (repeat' apply And.intro) <;> first | rfl | assumption | omega | (simp; done)
      exact (.bool' rfl)
    · have H := cond_f zc1 H
      refine a_skip ?_
      refine sA_n ?_
      refine a_seq ?_
      obtain ⟨zh2, H⟩ := chk_some H
      refine a_reg _ rfl (s := ?zs4) ?_ ?_
      rotate_left
      · simp (maxSteps := 2000000) only [EVT, stepR, evOp, St.ev, St.app, St.put, wrs, evToStr, elems, evBuiltin, datOf, datOf1, evBin, binInt, TIS, CS, Nat.reduceAdd, Nat.reduceMul, Nat.reduceEqDiff, ↓reduceIte, reduceCtorEq, Nat.reduceLT, Nat.reduceLeDiff, Nat.reduceSub, Nat.reduceBEq, ↓zc1]
        (repeat' apply And.intro) <;> first | rfl | assumption | omega | (simp; done) | (simp; omega) | (simp_all; done)
      refine sA_n ?_
      refine a_seq ?_
      obtain ⟨r2, zh3, H⟩ := bind_some H
      have zk2 := ref13_Term_pc zh3
      refine a_reg _ rfl (s := ?zs5) ?_ ?_
      rotate_left
      · try simp (maxSteps := 2000000) only [EVT, stepR, evOp, St.ev, St.app, St.put, wrs, frz, TIS, CS, Nat.reduceAdd, Nat.reduceMul, Nat.reduceEqDiff, ↓reduceIte, reduceCtorEq, Nat.reduceLT, Nat.reduceLeDiff, Nat.reduceSub, Nat.reduceBEq, ↓zc1]
        repeat' with_reducible apply And.intro
        all_goals try ((with_reducible show CallR _ _ _ _ _ _ _); refine cR_s zk2 (.cons (.lst _ _ _ Entry.pu rfl) (.cons (.int' rfl) .nil)) (.int _ _) ?_; simp (maxSteps := 2000000) only [EVT, stepR, evOp, St.ev, St.app, St.put, wrs, frz, TIS, CS, Nat.reduceAdd, Nat.reduceMul, Nat.reduceEqDiff, ↓reduceIte, reduceCtorEq, Nat.reduceLT, Nat.reduceLeDiff, Nat.reduceSub, Nat.reduceBEq, ↓zc1])
        all_goals ((repeat' apply And.intro) <;> first | rfl | assumption | omega | (simp; done) | (simp; omega) | (simp_all; done))
      refine sA_n ?_
      refine a_seq ?_
      obtain ⟨r3, zh4, H⟩ := bind_some H
      have zk3 := log_Put_pc zh4
      refine a_reg _ rfl (s := ?zs6) ?_ ?_
      rotate_left
      · try simp (maxSteps := 2000000) only [EVT, stepR, evOp, St.ev, St.app, St.put, wrs, frz, TIS, CS, Nat.reduceAdd, Nat.reduceMul, Nat.reduceEqDiff, ↓reduceIte, reduceCtorEq, Nat.reduceLT, Nat.reduceLeDiff, Nat.reduceSub, Nat.reduceBEq, ↓zc1]
        repeat' with_reducible apply And.intro
        all_goals try ((with_reducible show CallR _ _ _ _ _ _ _); refine cR_p zk3 (.cons (.lst _ _ _ Entry.pu rfl) (.cons (.int' rfl) (.cons (.int' rfl) (.cons (.lst _ _ _ Entry.pu rfl) .nil)))) ?_; simp (maxSteps := 2000000) only [EVT, stepR, evOp, St.ev, St.app, St.put, wrs, frz, TIS, CS, Nat.reduceAdd, Nat.reduceMul, Nat.reduceEqDiff, ↓reduceIte, reduceCtorEq, Nat.reduceLT, Nat.reduceLeDiff, Nat.reduceSub, Nat.reduceBEq, ↓zc1])
        all_goals ((repeat' apply And.intro) <;> first | rfl | assumption | omega | (simp; done) | (simp; omega) | (simp_all; done))
      refine sA_n ?_
      refine a_seq ?_
      refine a_cut (fun s => ∃ (v2 : Bool) (t0 : Nat → Dat), law13_LogPut_J2 r3 at1 l1 r2 more1 part1 r1 v2 = some r ∧ s = ⟨tl t0 [(0, .list 2 (l1.map Entry.c)), (2, .list 2 (more1.map Entry.c)), (3, .int .u8 part1), (9, .bool r1), (10, .int .i64 (Int.tmod (IntKind.wrap .i64 at1) (IntKind.wrap .i64 ((l1.length : Int) + 1)))), (11, .int .i64 r2), (12, .list 2 (r3.1.map Entry.c)), (77, .bool v2)], hl [], 0, 132⟩) ?_ ?_
      · refine bool_split (b := (!r3.2)) (fun zc9 => ?_) (fun zc9 => ?_)
        · have H := cond_t zc9 H
          refine a_drW (by kernel_rfl) _ rfl (s := ?zs17) (by kernel_rfl) (by kernel_rfl) ?zs17f ?_ ?_ ?_
          rotate_left 2
          · simp (maxSteps := 2000000) only [EVT, stepW, evOp, St.ev, St.app, St.put, wrs, evUn, evBuiltin, evBin, binInt, datOf, datOf1, evSlice, sliceOk, sl_if0, sl_if1, sl_if2, sl_if3, tk_map, dp_map, frz, TIS, CS, Nat.reduceAdd, Nat.reduceMul, Nat.reduceEqDiff, ↓reduceIte, reduceCtorEq, Nat.reduceLT, Nat.reduceLeDiff, Array.reduceGetElem?, Int.reduceToNat, Nat.reduceSub, Nat.reduceBEq, ↓zc1, ↓zc9]
            try simp (maxSteps := 2000000) only [EVT, stepW, evOp, St.ev, St.app, St.put, wrs, evUn, evBuiltin, evBin, binInt, datOf, datOf1, evSlice, sliceOk, sl_if0, sl_if1, sl_if2, sl_if3, tk_map, dp_map, frz, TIS, CS, Nat.reduceAdd, Nat.reduceMul, Nat.reduceEqDiff, ↓reduceIte, reduceCtorEq, Nat.reduceLT, Nat.reduceLeDiff, Array.reduceGetElem?, Int.reduceToNat, Nat.reduceSub, Nat.reduceBEq, ↓zc1, ↓zc9]
            (repeat' apply And.intro) <;> first | rfl | assumption | omega | (simp; done) | (simp; omega) | (simp_all; done)
          · kernel_rfl
          refine cA_n ?_
          refine wk_l [] [] [(0, .list 2 (l1.map Entry.c)), (2, .list 2 (more1.map Entry.c)), (3, .int .u8 part1), (9, .bool r1), (10, .int .i64 (Int.tmod (IntKind.wrap .i64 at1) (IntKind.wrap .i64 ((l1.length : Int) + 1)))), (11, .int .i64 r2), (12, .list 2 (r3.1.map Entry.c)), (77, .bool true)] (by show ([0, 2, 3, 9, 10, 11, 12, 77] : List Nat).Nodup; decide) (by show ([] : List Nat).Nodup; decide) ?_ ?_ (fun t0 => ⟨true, t0, H, rfl⟩)
          · exact trivial
          · (simp only [AllT, tl_cons, tl_nil, upd_apply, List.getD_cons_zero, List.getD_cons_succ, Nat.reduceEqDiff, ↓reduceIte, and_true]); exact ⟨(.lst _ _ _ Entry.pu rfl), (.lst _ _ _ Entry.pu rfl), (.int' rfl), (.bool' rfl), (.int' rfl), (.int' rfl), (.lst _ _ _ Entry.pu rfl), (.bool' (by first | rfl | assumption | (simp_all; done)))⟩
        · have H := cond_f zc9 H
          refine bool_split (b := (decide ((r3.1.length : Int) < (IntKind.wrap .i64 ((Int.tmod (IntKind.wrap .i64 at1) (IntKind.wrap .i64 ((l1.length : Int) + 1))) + (more1.length : Int)))))) (fun zc10 => ?_) (fun zc10 => ?_)
          · have H := cond_t zc10 H
            refine a_drW (by kernel_rfl) _ rfl (s := ?zs18) (by kernel_rfl) (by kernel_rfl) ?zs18f ?_ ?_ ?_
            rotate_left 2
            · simp (maxSteps := 2000000) only [EVT, stepW, evOp, St.ev, St.app, St.put, wrs, evUn, evBuiltin, evBin, binInt, datOf, datOf1, evSlice, sliceOk, sl_if0, sl_if1, sl_if2, sl_if3, tk_map, dp_map, frz, TIS, CS, Nat.reduceAdd, Nat.reduceMul, Nat.reduceEqDiff, ↓reduceIte, reduceCtorEq, Nat.reduceLT, Nat.reduceLeDiff, Array.reduceGetElem?, Int.reduceToNat, Nat.reduceSub, Nat.reduceBEq, ↓zc1, ↓zc9, ↓zc10]
              try simp (maxSteps := 2000000) only [EVT, stepW, evOp, St.ev, St.app, St.put, wrs, evUn, evBuiltin, evBin, binInt, datOf, datOf1, evSlice, sliceOk, sl_if0, sl_if1, sl_if2, sl_if3, tk_map, dp_map, frz, TIS, CS, Nat.reduceAdd, Nat.reduceMul, Nat.reduceEqDiff, ↓reduceIte, reduceCtorEq, Nat.reduceLT, Nat.reduceLeDiff, Array.reduceGetElem?, Int.reduceToNat, Nat.reduceSub, Nat.reduceBEq, ↓zc1, ↓zc9, ↓zc10]
              (repeat' apply And.intro) <;> first | rfl | assumption | omega | (simp; done) | (simp; omega) | (simp_all; done)
            · kernel_rfl
            refine cA_n ?_
            refine wk_l [] [] [(0, .list 2 (l1.map Entry.c)), (2, .list 2 (more1.map Entry.c)), (3, .int .u8 part1), (9, .bool r1), (10, .int .i64 (Int.tmod (IntKind.wrap .i64 at1) (IntKind.wrap .i64 ((l1.length : Int) + 1)))), (11, .int .i64 r2), (12, .list 2 (r3.1.map Entry.c)), (77, .bool true)] (by show ([0, 2, 3, 9, 10, 11, 12, 77] : List Nat).Nodup; decide) (by show ([] : List Nat).Nodup; decide) ?_ ?_ (fun t0 => ⟨true, t0, H, rfl⟩)
            · exact trivial
            · (simp only [AllT, tl_cons, tl_nil, upd_apply, List.getD_cons_zero, List.getD_cons_succ, Nat.reduceEqDiff, ↓reduceIte, and_true]); exact ⟨(.lst _ _ _ Entry.pu rfl), (.lst _ _ _ Entry.pu rfl), (.int' rfl), (.bool' rfl), (.int' rfl), (.int' rfl), (.lst _ _ _ Entry.pu rfl), (.bool' (by first | rfl | assumption | (simp_all; done)))⟩
          · have H := cond_f zc10 H
            obtain ⟨zh12, H⟩ := chk_some H
            obtain ⟨zh13, H⟩ := chk_some H
            obtain ⟨r9, zh14, H⟩ := bind_some H
            have zk9 := log_Same_pc zh14
            refine bool_split (b := (!r9)) (fun zc11 => ?_) (fun zc11 => ?_)
            · have H := cond_t zc11 H
              refine a_drW (by kernel_rfl) _ rfl (s := ?zs19) (by kernel_rfl) (by kernel_rfl) ?zs19f ?_ ?_ ?_
              rotate_left 2
              · try simp (maxSteps := 2000000) only [EVT, stepW, evOp, St.ev, St.app, St.put, wrs, evUn, evBuiltin, evBin, binInt, datOf, datOf1, evSlice, sliceOk, sl_if0, sl_if1, sl_if2, sl_if3, tk_map, dp_map, frz, TIS, CS, Nat.reduceAdd, Nat.reduceMul, Nat.reduceEqDiff, ↓reduceIte, reduceCtorEq, Nat.reduceLT, Nat.reduceLeDiff, Array.reduceGetElem?, Int.reduceToNat, Nat.reduceSub, Nat.reduceBEq, ↓zc1, ↓zc9, ↓zc10, ↓zc11]
                repeat' with_reducible apply And.intro
                all_goals try ((with_reducible show CallW _ _ _ _ _ _ _); refine cW_s [] zk9 (fun h2 e => (.cons (.lst _ _ _ Entry.pu rfl) (.cons (.lst _ _ _ Entry.pu rfl) .nil))) (.bool _) ?_; simp (maxSteps := 2000000) only [EVT, stepW, evOp, St.ev, St.app, St.put, wrs, evUn, evBuiltin, evBin, binInt, datOf, datOf1, evSlice, sliceOk, sl_if0, sl_if1, sl_if2, sl_if3, tk_map, dp_map, frz, TIS, CS, Nat.reduceAdd, Nat.reduceMul, Nat.reduceEqDiff, ↓reduceIte, reduceCtorEq, Nat.reduceLT, Nat.reduceLeDiff, Array.reduceGetElem?, Int.reduceToNat, Nat.reduceSub, Nat.reduceBEq, ↓zc1, ↓zc9, ↓zc10, ↓zc11])
                all_goals ((repeat' apply And.intro) <;> first | rfl | assumption | omega | (simp; done) | (simp; omega) | (simp_all; done))
              · kernel_rfl
              refine cA_n ?_
              refine wk_l [] [] [(0, .list 2 (l1.map Entry.c)), (2, .list 2 (more1.map Entry.c)), (3, .int .u8 part1), (9, .bool r1), (10, .int .i64 (Int.tmod (IntKind.wrap .i64 at1) (IntKind.wrap .i64 ((l1.length : Int) + 1)))), (11, .int .i64 r2), (12, .list 2 (r3.1.map Entry.c)), (77, .bool true)] (by show ([0, 2, 3, 9, 10, 11, 12, 77] : List Nat).Nodup; decide) (by show ([] : List Nat).Nodup; decide) ?_ ?_ (fun t0 => ⟨true, t0, H, rfl⟩)
              · exact trivial
              · (simp only [AllT, tl_cons, tl_nil, upd_apply, List.getD_cons_zero, List.getD_cons_succ, Nat.reduceEqDiff, ↓reduceIte, and_true]); exact ⟨(.lst _ _ _ Entry.pu rfl), (.lst _ _ _ Entry.pu rfl), (.int' rfl), (.bool' rfl), (.int' rfl), (.int' rfl), (.lst _ _ _ Entry.pu rfl), (.bool' (by first | rfl | assumption | (simp_all; done)))⟩
            · have H := cond_f zc11 H
              obtain ⟨zh15, H⟩ := chk_some H
              obtain ⟨r10, zh16, H⟩ := bind_some H
              have zk10 := log_Same_pc zh16
              refine a_drW (by kernel_rfl) _ rfl (s := ?zs20) (by kernel_rfl) (by kernel_rfl) ?zs20f ?_ ?_ ?_
              rotate_left 2
              · try simp (maxSteps := 2000000) only [EVT, stepW, evOp, St.ev, St.app, St.put, wrs, evUn, evBuiltin, evBin, binInt, datOf, datOf1, evSlice, sliceOk, sl_if0, sl_if1, sl_if2, sl_if3, tk_map, dp_map, frz, TIS, CS, Nat.reduceAdd, Nat.reduceMul, Nat.reduceEqDiff, ↓reduceIte, reduceCtorEq, Nat.reduceLT, Nat.reduceLeDiff, Array.reduceGetElem?, Int.reduceToNat, Nat.reduceSub, Nat.reduceBEq, ↓zc1, ↓zc9, ↓zc10, ↓zc11]
                repeat' with_reducible apply And.intro
                all_goals try ((with_reducible show CallW _ _ _ _ _ _ _); refine cW_s [] zk9 (fun h2 e => (.cons (.lst _ _ _ Entry.pu rfl) (.cons (.lst _ _ _ Entry.pu rfl) .nil))) (.bool _) ?_; simp (maxSteps := 2000000) only [EVT, stepW, evOp, St.ev, St.app, St.put, wrs, evUn, evBuiltin, evBin, binInt, datOf, datOf1, evSlice, sliceOk, sl_if0, sl_if1, sl_if2, sl_if3, tk_map, dp_map, frz, TIS, CS, Nat.reduceAdd, Nat.reduceMul, Nat.reduceEqDiff, ↓reduceIte, reduceCtorEq, Nat.reduceLT, Nat.reduceLeDiff, Array.reduceGetElem?, Int.reduceToNat, Nat.reduceSub, Nat.reduceBEq, ↓zc1, ↓zc9, ↓zc10, ↓zc11])
                repeat' with_reducible apply And.intro
                all_goals try ((with_reducible show CallW _ _ _ _ _ _ _); refine cW_s [] zk10 (fun h2 e => (.cons (.lst _ _ _ Entry.pu rfl) (.cons (.lst _ _ _ Entry.pu rfl) .nil))) (.bool _) ?_; simp (maxSteps := 2000000) only [EVT, stepW, evOp, St.ev, St.app, St.put, wrs, evUn, evBuiltin, evBin, binInt, datOf, datOf1, evSlice, sliceOk, sl_if0, sl_if1, sl_if2, sl_if3, tk_map, dp_map, frz, TIS, CS, Nat.reduceAdd, Nat.reduceMul, Nat.reduceEqDiff, ↓reduceIte, reduceCtorEq, Nat.reduceLT, Nat.reduceLeDiff, Array.reduceGetElem?, Int.reduceToNat, Nat.reduceSub, Nat.reduceBEq, ↓zc1, ↓zc9, ↓zc10, ↓zc11])
                all_goals ((repeat' apply And.intro) <;> first | rfl | assumption | omega | (simp; done) | (simp; omega) | (simp_all; done))
              · kernel_rfl
              refine cA_n ?_
              refine wk_l [] [] [(0, .list 2 (l1.map Entry.c)), (2, .list 2 (more1.map Entry.c)), (3, .int .u8 part1), (9, .bool r1), (10, .int .i64 (Int.tmod (IntKind.wrap .i64 at1) (IntKind.wrap .i64 ((l1.length : Int) + 1)))), (11, .int .i64 r2), (12, .list 2 (r3.1.map Entry.c)), (77, .bool (!r10))] (by show ([0, 2, 3, 9, 10, 11, 12, 77] : List Nat).Nodup; decide) (by show ([] : List Nat).Nodup; decide) ?_ ?_ (fun t0 => ⟨(!r10), t0, H, rfl⟩)
              · exact trivial
              · (simp only [AllT, tl_cons, tl_nil, upd_apply, List.getD_cons_zero, List.getD_cons_succ, Nat.reduceEqDiff, ↓reduceIte, and_true]); exact ⟨(.lst _ _ _ Entry.pu rfl), (.lst _ _ _ Entry.pu rfl), (.int' rfl), (.bool' rfl), (.int' rfl), (.int' rfl), (.lst _ _ _ Entry.pu rfl), (.bool' rfl)⟩
      · rintro s ⟨v2, t0, H, rfl⟩
        unfold law13_LogPut_J2 at H
        refine a_condb (v2) (by rfl) (fun zc2 => ?_) (fun zc2 => ?_)
        · have H := cond_t zc2 H
          refine a_seq ?_
          refine a_reg _ rfl (s := ?zs7) ?_ ?_
          rotate_left
          · simp (maxSteps := 2000000) only [EVT, stepR, evOp, St.ev, St.app, St.put, wrs, datOf, datOf1, TIS, CS, Nat.reduceAdd, Nat.reduceMul, Nat.reduceEqDiff, ↓reduceIte, reduceCtorEq, Nat.reduceLT, Nat.reduceLeDiff, ↓zc2]
            (repeat' apply And.intro) <;> first | rfl | assumption | omega | (simp; done) | (simp; omega) | (simp_all; done)
          refine sA_n ?_
          refine a_ret ?_
          refine sA_r ?_
          obtain rfl := Option.some.inj H
          refine e_r2 (d := ?zd2) ?_ ?_
          rotate_left
          · simp only [EVT, resR, single, evLoad, cut, TIS, CS, Nat.reduceAdd, Nat.reduceEqDiff, ↓reduceIte, reduceCtorEq, Nat.reduceLT, Nat.reduceLeDiff, Nat.reduceSub, Nat.reduceBEq, zc2]
            (repeat' apply And.intro) <;> first | rfl | assumption | omega | (simp; done)
          exact (.bool' (by first | rfl | assumption | (simp_all; done)))
        · have H := cond_f zc2 H
          refine a_skip ?_
          refine sA_n ?_
          refine a_seq ?_
          obtain ⟨r4, zh5, H⟩ := bind_some H
          have zk4 := log_Put_pc zh5
          refine a_reg _ rfl (s := ?zs8) ?_ ?_
          rotate_left
          · try simp (maxSteps := 2000000) only [EVT, stepR, evOp, St.ev, St.app, St.put, wrs, frz, TIS, CS, Nat.reduceAdd, Nat.reduceMul, Nat.reduceEqDiff, ↓reduceIte, reduceCtorEq, Nat.reduceLT, Nat.reduceLeDiff, Nat.reduceSub, Nat.reduceBEq, ↓zc2]
            repeat' with_reducible apply And.intro
            all_goals try ((with_reducible show CallR _ _ _ _ _ _ _); refine cR_p zk4 (.cons (.lst _ _ _ Entry.pu rfl) (.cons (.int' rfl) (.cons (.int' rfl) (.cons (.lst _ _ _ Entry.pu rfl) .nil)))) ?_; simp (maxSteps := 2000000) only [EVT, stepR, evOp, St.ev, St.app, St.put, wrs, frz, TIS, CS, Nat.reduceAdd, Nat.reduceMul, Nat.reduceEqDiff, ↓reduceIte, reduceCtorEq, Nat.reduceLT, Nat.reduceLeDiff, Nat.reduceSub, Nat.reduceBEq, ↓zc2])
            all_goals ((repeat' apply And.intro) <;> first | rfl | assumption | omega | (simp; done) | (simp; omega) | (simp_all; done))
          refine sA_n ?_
          refine a_seq ?_
          obtain ⟨zh6, H⟩ := chk_some H
          obtain ⟨zh7, H⟩ := chk_some H
          obtain ⟨r5, zh8, H⟩ := bind_some H
          have zk5 := log_Put_pc zh8
          refine a_reg _ rfl (s := ?zs9) ?_ ?_
          rotate_left
          · try simp (maxSteps := 2000000) only [EVT, stepR, evOp, St.ev, St.app, St.put, wrs, evToStr, elems, evBuiltin, datOf, datOf1, evBin, binInt, evSlice, sliceOk, sl_if0, sl_if1, sl_if2, sl_if3, tk_map, dp_map, frz, TIS, CS, Nat.reduceAdd, Nat.reduceMul, Nat.reduceEqDiff, ↓reduceIte, reduceCtorEq, Nat.reduceLT, Nat.reduceLeDiff, Int.reduceToNat, Nat.reduceSub, Nat.reduceBEq, ↓zc2]
            repeat' with_reducible apply And.intro
            all_goals try ((with_reducible show CallR _ _ _ _ _ _ _); refine cR_p zk5 (.cons (.lst _ _ _ Entry.pu rfl) (.cons (.int' rfl) (.cons (.int' rfl) (.cons (.lst _ _ _ Entry.pu rfl) .nil)))) ?_; simp (maxSteps := 2000000) only [EVT, stepR, evOp, St.ev, St.app, St.put, wrs, evToStr, elems, evBuiltin, datOf, datOf1, evBin, binInt, evSlice, sliceOk, sl_if0, sl_if1, sl_if2, sl_if3, tk_map, dp_map, frz, TIS, CS, Nat.reduceAdd, Nat.reduceMul, Nat.reduceEqDiff, ↓reduceIte, reduceCtorEq, Nat.reduceLT, Nat.reduceLeDiff, Int.reduceToNat, Nat.reduceSub, Nat.reduceBEq, ↓zc2])
            all_goals ((repeat' apply And.intro) <;> first | rfl | assumption | omega | (simp; done) | (simp; omega) | (simp_all; done))
          refine sA_n ?_
          refine a_seq ?_
          refine bool_split (b := r1) (fun zc3 => ?_) (fun zc3 => ?_)
          · have H := cond_t zc3 H
            refine bool_split (b := r4.2) (fun zc4 => ?_) (fun zc4 => ?_)
            · have H := cond_t zc4 H
              refine bool_split (b := r5.2) (fun zc5 => ?_) (fun zc5 => ?_)
              · have H := cond_t zc5 H
                obtain ⟨r6, zh9, H⟩ := bind_some H
                have zk6 := log_Same_pc zh9
                refine bool_split (b := r6) (fun zc6 => ?_) (fun zc6 => ?_)
                · have H := cond_t zc6 H
                  obtain ⟨r7, zh10, H⟩ := bind_some H
                  have zk7 := log_Same_pc zh10
                  refine bool_split (b := r7) (fun zc7 => ?_) (fun zc7 => ?_)
                  · have H := cond_t zc7 H
                    refine bool_split (b := ((r3.1.length : Int) == (IntKind.wrap .i64 ((Int.tmod (IntKind.wrap .i64 at1) (IntKind.wrap .i64 ((l1.length : Int) + 1))) + (more1.length : Int))))) (fun zc8 => ?_) (fun zc8 => ?_)
                    · have H := cond_t zc8 H
                      refine a_reg _ rfl (s := ?zs10) ?_ ?_
                      rotate_left
                      · try simp (maxSteps := 2000000) only [EVT, stepR, evOp, St.ev, St.app, St.put, wrs, datOf, datOf1, frz, evBuiltin, evBin, binInt, TIS, CS, Nat.reduceAdd, Nat.reduceMul, Nat.reduceEqDiff, ↓reduceIte, reduceCtorEq, Nat.reduceLT, Nat.reduceLeDiff, Array.reduceGetElem?, Nat.reduceSub, Nat.reduceBEq, ↓zc2, ↓zc3, ↓zc4, ↓zc5, ↓zc6, ↓zc7, ↓zc8]
                        repeat' with_reducible apply And.intro
                        all_goals try ((with_reducible show CallR _ _ _ _ _ _ _); refine cR_s zk6 (.cons (.lst _ _ _ Entry.pu rfl) (.cons (.lst _ _ _ Entry.pu rfl) .nil)) (.bool _) ?_; simp (maxSteps := 2000000) only [EVT, stepR, evOp, St.ev, St.app, St.put, wrs, datOf, datOf1, frz, evBuiltin, evBin, binInt, TIS, CS, Nat.reduceAdd, Nat.reduceMul, Nat.reduceEqDiff, ↓reduceIte, reduceCtorEq, Nat.reduceLT, Nat.reduceLeDiff, Array.reduceGetElem?, Nat.reduceSub, Nat.reduceBEq, ↓zc2, ↓zc3, ↓zc4, ↓zc5, ↓zc6, ↓zc7, ↓zc8])
                        repeat' with_reducible apply And.intro
                        all_goals try ((with_reducible show CallR _ _ _ _ _ _ _); refine cR_s zk7 (.cons (.lst _ _ _ Entry.pu rfl) (.cons (.lst _ _ _ Entry.pu rfl) .nil)) (.bool _) ?_; simp (maxSteps := 2000000) only [EVT, stepR, evOp, St.ev, St.app, St.put, wrs, datOf, datOf1, frz, evBuiltin, evBin, binInt, TIS, CS, Nat.reduceAdd, Nat.reduceMul, Nat.reduceEqDiff, ↓reduceIte, reduceCtorEq, Nat.reduceLT, Nat.reduceLeDiff, Array.reduceGetElem?, Nat.reduceSub, Nat.reduceBEq, ↓zc2, ↓zc3, ↓zc4, ↓zc5, ↓zc6, ↓zc7, ↓zc8])
                        all_goals ((repeat' apply And.intro) <;> first | rfl | assumption | omega | (simp; done) | (simp; omega) | (simp_all; done))
                      refine sA_n ?_
                      refine a_ret ?_
                      obtain rfl := Option.some.inj H
                      refine e_r2 (d := ?zd3) ?_ ?_
                      rotate_left
                      · simp only [EVT, resR, single, evLoad, cut, TIS, CS, Nat.reduceAdd, Nat.reduceEqDiff, ↓reduceIte, reduceCtorEq, Nat.reduceLT, Nat.reduceLeDiff, Nat.reduceSub, Nat.reduceBEq, zc2, zc3, zc4, zc5, zc6, zc7, zc8]
                        (repeat' apply And.intro) <;> first | rfl | assumption | omega | (simp; done)
                      exact (.bool' (by first | rfl | assumption | (simp_all; done)))
                    · have H := cond_f zc8 H
                      obtain ⟨r8, zh11, H⟩ := bind_some H
                      have zk8 := log_Same_pc zh11
                      refine a_reg _ rfl (s := ?zs11) ?_ ?_
                      rotate_left
                      · try simp (maxSteps := 2000000) only [EVT, stepR, evOp, St.ev, St.app, St.put, wrs, datOf, datOf1, frz, evBuiltin, evBin, binInt, TIS, CS, Nat.reduceAdd, Nat.reduceMul, Nat.reduceEqDiff, ↓reduceIte, reduceCtorEq, Nat.reduceLT, Nat.reduceLeDiff, Array.reduceGetElem?, Nat.reduceSub, Nat.reduceBEq, ↓zc2, ↓zc3, ↓zc4, ↓zc5, ↓zc6, ↓zc7, ↓zc8]
                        repeat' with_reducible apply And.intro
                        all_goals try ((with_reducible show CallR _ _ _ _ _ _ _); refine cR_s zk6 (.cons (.lst _ _ _ Entry.pu rfl) (.cons (.lst _ _ _ Entry.pu rfl) .nil)) (.bool _) ?_; simp (maxSteps := 2000000) only [EVT, stepR, evOp, St.ev, St.app, St.put, wrs, datOf, datOf1, frz, evBuiltin, evBin, binInt, TIS, CS, Nat.reduceAdd, Nat.reduceMul, Nat.reduceEqDiff, ↓reduceIte, reduceCtorEq, Nat.reduceLT, Nat.reduceLeDiff, Array.reduceGetElem?, Nat.reduceSub, Nat.reduceBEq, ↓zc2, ↓zc3, ↓zc4, ↓zc5, ↓zc6, ↓zc7, ↓zc8])
                        repeat' with_reducible apply And.intro
                        all_goals try ((with_reducible show CallR _ _ _ _ _ _ _); refine cR_s zk7 (.cons (.lst _ _ _ Entry.pu rfl) (.cons (.lst _ _ _ Entry.pu rfl) .nil)) (.bool _) ?_; simp (maxSteps := 2000000) only [EVT, stepR, evOp, St.ev, St.app, St.put, wrs, datOf, datOf1, frz, evBuiltin, evBin, binInt, TIS, CS, Nat.reduceAdd, Nat.reduceMul, Nat.reduceEqDiff, ↓reduceIte, reduceCtorEq, Nat.reduceLT, Nat.reduceLeDiff, Array.reduceGetElem?, Nat.reduceSub, Nat.reduceBEq, ↓zc2, ↓zc3, ↓zc4, ↓zc5, ↓zc6, ↓zc7, ↓zc8])
                        repeat' with_reducible apply And.intro
                        all_goals try ((with_reducible show CallR _ _ _ _ _ _ _); refine cR_s zk8 (.cons (.lst _ _ _ Entry.pu rfl) (.cons (.lst _ _ _ Entry.pu rfl) .nil)) (.bool _) ?_; simp (maxSteps := 2000000) only [EVT, stepR, evOp, St.ev, St.app, St.put, wrs, datOf, datOf1, frz, evBuiltin, evBin, binInt, TIS, CS, Nat.reduceAdd, Nat.reduceMul, Nat.reduceEqDiff, ↓reduceIte, reduceCtorEq, Nat.reduceLT, Nat.reduceLeDiff, Array.reduceGetElem?, Nat.reduceSub, Nat.reduceBEq, ↓zc2, ↓zc3, ↓zc4, ↓zc5, ↓zc6, ↓zc7, ↓zc8])
                        all_goals ((repeat' apply And.intro) <;> first | rfl | assumption | omega | (simp; done) | (simp; omega) | (simp_all; done))
                      refine sA_n ?_
                      refine a_ret ?_
                      obtain rfl := Option.some.inj H
                      refine e_r2 (d := ?zd4) ?_ ?_
                      rotate_left
                      · simp only [EVT, resR, single, evLoad, cut, TIS, CS, Nat.reduceAdd, Nat.reduceEqDiff, ↓reduceIte, reduceCtorEq, Nat.reduceLT, Nat.reduceLeDiff, Nat.reduceSub, Nat.reduceBEq, zc2, zc3, zc4, zc5, zc6, zc7, zc8]
                        (repeat' apply And.intro) <;> first | rfl | assumption | omega | (simp; done)
                      exact (.bool' rfl)
                  · have H := cond_f zc7 H
                    refine a_reg _ rfl (s := ?zs12) ?_ ?_
                    rotate_left
                    · try simp (maxSteps := 2000000) only [EVT, stepR, evOp, St.ev, St.app, St.put, wrs, datOf, datOf1, frz, evBuiltin, evBin, binInt, TIS, CS, Nat.reduceAdd, Nat.reduceMul, Nat.reduceEqDiff, ↓reduceIte, reduceCtorEq, Nat.reduceLT, Nat.reduceLeDiff, Array.reduceGetElem?, Nat.reduceSub, Nat.reduceBEq, ↓zc2, ↓zc3, ↓zc4, ↓zc5, ↓zc6, ↓zc7]
                      repeat' with_reducible apply And.intro
                      all_goals try ((with_reducible show CallR _ _ _ _ _ _ _); refine cR_s zk6 (.cons (.lst _ _ _ Entry.pu rfl) (.cons (.lst _ _ _ Entry.pu rfl) .nil)) (.bool _) ?_; simp (maxSteps := 2000000) only [EVT, stepR, evOp, St.ev, St.app, St.put, wrs, datOf, datOf1, frz, evBuiltin, evBin, binInt, TIS, CS, Nat.reduceAdd, Nat.reduceMul, Nat.reduceEqDiff, ↓reduceIte, reduceCtorEq, Nat.reduceLT, Nat.reduceLeDiff, Array.reduceGetElem?, Nat.reduceSub, Nat.reduceBEq, ↓zc2, ↓zc3, ↓zc4, ↓zc5, ↓zc6, ↓zc7])
                      repeat' with_reducible apply And.intro
                      all_goals try ((with_reducible show CallR _ _ _ _ _ _ _); refine cR_s zk7 (.cons (.lst _ _ _ Entry.pu rfl) (.cons (.lst _ _ _ Entry.pu rfl) .nil)) (.bool _) ?_; simp (maxSteps := 2000000) only [EVT, stepR, evOp, St.ev, St.app, St.put, wrs, datOf, datOf1, frz, evBuiltin, evBin, binInt, TIS, CS, Nat.reduceAdd, Nat.reduceMul, Nat.reduceEqDiff, ↓reduceIte, reduceCtorEq, Nat.reduceLT, Nat.reduceLeDiff, Array.reduceGetElem?, Nat.reduceSub, Nat.reduceBEq, ↓zc2, ↓zc3, ↓zc4, ↓zc5, ↓zc6, ↓zc7])
                      all_goals ((repeat' apply And.intro) <;> first | rfl | assumption | omega | (simp; done) | (simp; omega) | (simp_all; done))
                    refine sA_n ?_
                    refine a_ret ?_
                    obtain rfl := Option.some.inj H
                    refine e_r2 (d := ?zd5) ?_ ?_
                    rotate_left
                    · simp only [EVT, resR, single, evLoad, cut, TIS, CS, Nat.reduceAdd, Nat.reduceEqDiff, ↓reduceIte, reduceCtorEq, Nat.reduceLT, Nat.reduceLeDiff, Nat.reduceSub, Nat.reduceBEq, zc2, zc3, zc4, zc5, zc6, zc7]
                      (repeat' apply And.intro) <;> first | rfl | assumption | omega | (simp; done)
                    exact (.bool' (by first | rfl | assumption | (simp_all; done)))
                · have H := cond_f zc6 H
                  refine a_reg _ rfl (s := ?zs13) ?_ ?_
                  rotate_left
                  · try simp (maxSteps := 2000000) only [EVT, stepR, evOp, St.ev, St.app, St.put, wrs, datOf, datOf1, frz, evBuiltin, evBin, binInt, TIS, CS, Nat.reduceAdd, Nat.reduceMul, Nat.reduceEqDiff, ↓reduceIte, reduceCtorEq, Nat.reduceLT, Nat.reduceLeDiff, Array.reduceGetElem?, Nat.reduceSub, Nat.reduceBEq, ↓zc2, ↓zc3, ↓zc4, ↓zc5, ↓zc6]
                    repeat' with_reducible apply And.intro
                    all_goals try ((with_reducible show CallR _ _ _ _ _ _ _); refine cR_s zk6 (.cons (.lst _ _ _ Entry.pu rfl) (.cons (.lst _ _ _ Entry.pu rfl) .nil)) (.bool _) ?_; simp (maxSteps := 2000000) only [EVT, stepR, evOp, St.ev, St.app, St.put, wrs, datOf, datOf1, frz, evBuiltin, evBin, binInt, TIS, CS, Nat.reduceAdd, Nat.reduceMul, Nat.reduceEqDiff, ↓reduceIte, reduceCtorEq, Nat.reduceLT, Nat.reduceLeDiff, Array.reduceGetElem?, Nat.reduceSub, Nat.reduceBEq, ↓zc2, ↓zc3, ↓zc4, ↓zc5, ↓zc6])
                    all_goals ((repeat' apply And.intro) <;> first | rfl | assumption | omega | (simp; done) | (simp; omega) | (simp_all; done))
                  refine sA_n ?_
                  refine a_ret ?_
                  obtain rfl := Option.some.inj H
                  refine e_r2 (d := ?zd6) ?_ ?_
                  rotate_left
                  · simp only [EVT, resR, single, evLoad, cut, TIS, CS, Nat.reduceAdd, Nat.reduceEqDiff, ↓reduceIte, reduceCtorEq, Nat.reduceLT, Nat.reduceLeDiff, Nat.reduceSub, Nat.reduceBEq, zc2, zc3, zc4, zc5, zc6]
                    (repeat' apply And.intro) <;> first | rfl | assumption | omega | (simp; done)
                  exact (.bool' (by first | rfl | assumption | (simp_all; done)))
              · have H := cond_f zc5 H
                refine a_reg _ rfl (s := ?zs14) ?_ ?_
                rotate_left
                · simp (maxSteps := 2000000) only [EVT, stepR, evOp, St.ev, St.app, St.put, wrs, datOf, datOf1, frz, evBuiltin, evBin, binInt, TIS, CS, Nat.reduceAdd, Nat.reduceMul, Nat.reduceEqDiff, ↓reduceIte, reduceCtorEq, Nat.reduceLT, Nat.reduceLeDiff, Array.reduceGetElem?, Nat.reduceSub, Nat.reduceBEq, ↓zc2, ↓zc3, ↓zc4, ↓zc5]
                  try simp (maxSteps := 2000000) only [EVT, stepR, evOp, St.ev, St.app, St.put, wrs, datOf, datOf1, frz, evBuiltin, evBin, binInt, TIS, CS, Nat.reduceAdd, Nat.reduceMul, Nat.reduceEqDiff, ↓reduceIte, reduceCtorEq, Nat.reduceLT, Nat.reduceLeDiff, Array.reduceGetElem?, Nat.reduceSub, Nat.reduceBEq, ↓zc2, ↓zc3, ↓zc4, ↓zc5]
                  (repeat' apply And.intro) <;> first | rfl | assumption | omega | (simp; done) | (simp; omega) | (simp_all; done)
                refine sA_n ?_
                refine a_ret ?_
                obtain rfl := Option.some.inj H
                refine e_r2 (d := ?zd7) ?_ ?_
                rotate_left
                · simp only [EVT, resR, single, evLoad, cut, TIS, CS, Nat.reduceAdd, Nat.reduceEqDiff, ↓reduceIte, reduceCtorEq, Nat.reduceLT, Nat.reduceLeDiff, Nat.reduceSub, Nat.reduceBEq, zc2, zc3, zc4, zc5]
                  (repeat' apply And.intro) <;> first | rfl | assumption | omega | (simp; done)
                exact (.bool' (by first | rfl | assumption | (simp_all; done)))
            · have H := cond_f zc4 H
              refine a_reg _ rfl (s := ?zs15) ?_ ?_
              rotate_left
              · simp (maxSteps := 2000000) only [EVT, stepR, evOp, St.ev, St.app, St.put, wrs, datOf, datOf1, frz, evBuiltin, evBin, binInt, TIS, CS, Nat.reduceAdd, Nat.reduceMul, Nat.reduceEqDiff, ↓reduceIte, reduceCtorEq, Nat.reduceLT, Nat.reduceLeDiff, Array.reduceGetElem?, Nat.reduceSub, Nat.reduceBEq, ↓zc2, ↓zc3, ↓zc4]
                try simp (maxSteps := 2000000) only [EVT, stepR, evOp, St.ev, St.app, St.put, wrs, datOf, datOf1, frz, evBuiltin, evBin, binInt, TIS, CS, Nat.reduceAdd, Nat.reduceMul, Nat.reduceEqDiff, ↓reduceIte, reduceCtorEq, Nat.reduceLT, Nat.reduceLeDiff, Array.reduceGetElem?, Nat.reduceSub, Nat.reduceBEq, ↓zc2, ↓zc3, ↓zc4]
                (repeat' apply And.intro) <;> first | rfl | assumption | omega | (simp; done) | (simp; omega) | (simp_all; done)
              refine sA_n ?_
              refine a_ret ?_
              obtain rfl := Option.some.inj H
              refine e_r2 (d := ?zd8) ?_ ?_
              rotate_left
              · simp only [EVT, resR, single, evLoad, cut, TIS, CS, Nat.reduceAdd, Nat.reduceEqDiff, ↓reduceIte, reduceCtorEq, Nat.reduceLT, Nat.reduceLeDiff, Nat.reduceSub, Nat.reduceBEq, zc2, zc3, zc4]
                (repeat' apply And.intro) <;> first | rfl | assumption | omega | (simp; done)
              exact (.bool' (by first | rfl | assumption | (simp_all; done)))
          · have H := cond_f zc3 H
            refine a_reg _ rfl (s := ?zs16) ?_ ?_
            rotate_left
            · simp (maxSteps := 2000000) only [EVT, stepR, evOp, St.ev, St.app, St.put, wrs, datOf, datOf1, frz, evBuiltin, evBin, binInt, TIS, CS, Nat.reduceAdd, Nat.reduceMul, Nat.reduceEqDiff, ↓reduceIte, reduceCtorEq, Nat.reduceLT, Nat.reduceLeDiff, Array.reduceGetElem?, Nat.reduceSub, Nat.reduceBEq, ↓zc2, ↓zc3]
              try simp (maxSteps := 2000000) only [EVT, stepR, evOp, St.ev, St.app, St.put, wrs, datOf, datOf1, frz, evBuiltin, evBin, binInt, TIS, CS, Nat.reduceAdd, Nat.reduceMul, Nat.reduceEqDiff, ↓reduceIte, reduceCtorEq, Nat.reduceLT, Nat.reduceLeDiff, Array.reduceGetElem?, Nat.reduceSub, Nat.reduceBEq, ↓zc2, ↓zc3]
              (repeat' apply And.intro) <;> first | rfl | assumption | omega | (simp; done) | (simp; omega) | (simp_all; done)
            refine sA_n ?_
            refine a_ret ?_
            obtain rfl := Option.some.inj H
            refine e_r2 (d := ?zd9) ?_ ?_
            rotate_left
            · simp only [EVT, resR, single, evLoad, cut, TIS, CS, Nat.reduceAdd, Nat.reduceEqDiff, ↓reduceIte, reduceCtorEq, Nat.reduceLT, Nat.reduceLeDiff, Nat.reduceSub, Nat.reduceBEq, zc2, zc3]
              (repeat' apply And.intro) <;> first | rfl | assumption | omega | (simp; done)
            exact (.bool' (by first | rfl | assumption | (simp_all; done)))
end
end Go.Proofs.Ytiomajfdphmgaaa
