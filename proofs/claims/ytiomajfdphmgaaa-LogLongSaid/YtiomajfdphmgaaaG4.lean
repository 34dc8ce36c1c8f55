/- Functions of the program as Lean functions, and that they are so; printed by a program of mine. -/
import Derived.Test.YtiomajfdphmgaaaF3
set_option linter.unusedSimpArgs false
set_option linter.unusedVariables false
namespace Go.Proofs.Ytiomajfdphmgaaa
open Go.Ab
noncomputable section

def law13_LogLong_J2 (e1 : Entry) (r1 : Bool) (full1 : List Entry) : Option Bool :=
  (log_Put_f full1 0 0 []).bind fun r2 => chk (0 ≤ 499 ∧ 499 ≤ (full1.length : Int)) ((idx full1 498).bind fun x1 => (log_Put_f (full1.take 499) 499 x1.term [e1]).bind fun r3 => (idx full1 499).bind fun x2 => (log_Put_f full1 500 x2.term [e1]).bind fun r4 => cond r1 (cond r2.2 ((ref13_Same_f r2.1 full1).bind fun r5 => some (r5 && (r3.2 && (((r3.1.length : Int) == 500) && ((!r4.2) && ((r4.1.length : Int) == 0)))))) (some (false))) (some (false)))
def law13_LogLong_L1 (e1 : Entry) (r1 : Bool) : Nat → (List Entry) → Option Bool
  | 0, _ => none
  | m_ + 1, full2 => cond (decide ((((full2.length : Nat)) : Int) < 500)) (chk ((full2.length + 1) * 32 ≤ 140737488355328) (law13_LogLong_L1 e1 r1 m_ (full2 ++ [e1]))) (law13_LogLong_J2 e1 r1 full2)
def law13_LogLong_J1 (r1 : Bool) (l1 : List Entry) (e1 : Entry) (v1 : Bool) : Option Bool :=
  cond v1 (some (r1)) (chk ((0 + l1.length) * 32 ≤ 140737488355328) (law13_LogLong_L1 e1 r1 BIG (([] : List Entry) ++ l1)))
def law13_LogLong_f (l1 : List Entry) (e1 : Entry) : Option Bool :=
  (law13_head_f).bind fun r1 => (law13_Fits_f l1).bind fun r6 => law13_LogLong_J1 r1 l1 e1 ((!r6) || (decide (40 < (e1.data.length : Int))))
set_option maxHeartbeats 4000000 in
set_option maxRecDepth 20000 in
theorem law13_LogLong_pc {l1 : List Entry} {e1 : Entry} {r : Bool} (H : law13_LogLong_f l1 e1 = some r) : PC Try.prog 4 [.list 2 (l1.map Entry.c), .agg (Entry.c e1)] (.bool r) := by
  refine pcA_of Try.func4 (by rfl) (by decide) 88 (by rfl) [.tmp 4] (by rfl) ?_
  unfold law13_LogLong_f at H
  simp only [ent]
  refine a_seq ?_
  refine a_reg _ rfl (s := ?zs1) ?_ ?_
  rotate_left
  · simp (maxSteps := 2000000) only [EVT, stepR, evOp, St.ev, St.app, St.put, wrs, allOne, datOf, datOf1, TIS, CS, Nat.reduceAdd, Nat.reduceMul, Nat.reduceEqDiff, ↓reduceIte, reduceCtorEq, Nat.reduceLT, Nat.reduceLeDiff]
    (repeat' apply And.intro) <;> first | rfl | assumption | omega | (simp; done) | (simp; omega) | (simp_all; done)
  refine sA_n ?_
  refine a_seq ?_
  obtain ⟨r1, zh1, H⟩ := bind_some H
  have zk1 := law13_head_pc zh1
  refine a_reg _ rfl (s := ?zs2) ?_ ?_
  rotate_left
  · try simp (maxSteps := 2000000) only [EVT, stepR, evOp, St.ev, St.app, St.put, wrs, frz, TIS, CS, Nat.reduceAdd, Nat.reduceMul, Nat.reduceEqDiff, ↓reduceIte, reduceCtorEq, Nat.reduceLT, Nat.reduceLeDiff, Nat.reduceSub, Nat.reduceBEq]
    repeat' with_reducible apply And.intro
    all_goals try ((with_reducible show CallR _ _ _ _ _ _ _); refine cR_s zk1 .nil (.bool _) ?_; simp (maxSteps := 2000000) only [EVT, stepR, evOp, St.ev, St.app, St.put, wrs, frz, TIS, CS, Nat.reduceAdd, Nat.reduceMul, Nat.reduceEqDiff, ↓reduceIte, reduceCtorEq, Nat.reduceLT, Nat.reduceLeDiff, Nat.reduceSub, Nat.reduceBEq])
    all_goals ((repeat' apply And.intro) <;> first | rfl | assumption | omega | (simp; done) | (simp; omega) | (simp_all; done))
  refine sA_n ?_
  refine a_seq ?_
  refine a_cut (fun s => ∃ (v1 : Bool) (t0 : Nat → Dat), law13_LogLong_J1 r1 l1 e1 v1 = some r ∧ s = ⟨tl t0 [(0, .list 2 (l1.map Entry.c)), (3, .ptr 0 0 0 2), (5, .bool r1), (22, .bool v1)], hl [⟨34, 2, false, [[.int .i64 e1.term, .list 1 (e1.data.map (ci .u8))]]⟩], 1, 88⟩) ?_ ?_
  · obtain ⟨r6, zh11, H⟩ := bind_some H
    have zk6 := law13_Fits_pc zh11
    refine bool_split (b := (!r6)) (fun zc9 => ?_) (fun zc9 => ?_)
    · rw [zc9] at H
      refine a_reg _ rfl (s := ?zs17) ?_ ?_
      rotate_left
      · try simp (maxSteps := 2000000) only [EVT, stepR, evOp, St.ev, St.app, St.put, wrs, frz, evUn, evFieldAddr, evLoad, cut, evBuiltin, datOf, datOf1, evBin, binInt, TIS, CS, Nat.reduceAdd, Nat.reduceMul, Nat.reduceEqDiff, ↓reduceIte, reduceCtorEq, Nat.reduceLT, Nat.reduceLeDiff, Array.reduceGetElem?, Nat.reduceSub, Nat.reduceBEq, ↓zc9]
        repeat' with_reducible apply And.intro
        all_goals try ((with_reducible show CallR _ _ _ _ _ _ _); refine cR_s zk6 (.cons (.lst _ _ _ Entry.pu rfl) .nil) (.bool _) ?_; simp (maxSteps := 2000000) only [EVT, stepR, evOp, St.ev, St.app, St.put, wrs, frz, evUn, evFieldAddr, evLoad, cut, evBuiltin, datOf, datOf1, evBin, binInt, TIS, CS, Nat.reduceAdd, Nat.reduceMul, Nat.reduceEqDiff, ↓reduceIte, reduceCtorEq, Nat.reduceLT, Nat.reduceLeDiff, Array.reduceGetElem?, Nat.reduceSub, Nat.reduceBEq, ↓zc9])
        all_goals ((repeat' apply And.intro) <;> first | rfl | assumption | omega | (simp; done) | (simp; omega) | (simp_all; done))
      refine cA_n ?_
      refine wk_l [(some 0, ⟨34, 2, false, [[.int .i64 e1.term, .list 1 (e1.data.map (ci .u8))]]⟩)] [] [(0, .list 2 (l1.map Entry.c)), (3, .ptr 0 0 0 2), (5, .bool r1), (22, .bool true)] (by show ([0, 3, 5, 22] : List Nat).Nodup; decide) (by show ([0] : List Nat).Nodup; decide) ?_ ?_ (fun t0 => ⟨true, t0, H, rfl⟩)
      · exact (allB_some (by rfl) rfl (.cons (.cons (.int' rfl) (.cons (.lst _ _ _ (ci_pu .u8) rfl) .nil)) .nil) trivial)
      · (simp only [AllT, tl_cons, tl_nil, upd_apply, List.getD_cons_zero, List.getD_cons_succ, Nat.reduceEqDiff, ↓reduceIte, and_true]); exact ⟨(.lst _ _ _ Entry.pu rfl), (.ptr _ _ _ _ _ rfl), (.bool' rfl), (.bool' (by first | rfl | assumption | (simp_all; done)))⟩
    · rw [zc9] at H
      refine a_reg _ rfl (s := ?zs18) ?_ ?_
      rotate_left
      · try simp (maxSteps := 2000000) only [EVT, stepR, evOp, St.ev, St.app, St.put, wrs, frz, evUn, evFieldAddr, evLoad, cut, evBuiltin, datOf, datOf1, evBin, binInt, TIS, CS, Nat.reduceAdd, Nat.reduceMul, Nat.reduceEqDiff, ↓reduceIte, reduceCtorEq, Nat.reduceLT, Nat.reduceLeDiff, Array.reduceGetElem?, Nat.reduceSub, Nat.reduceBEq, ↓zc9]
        repeat' with_reducible apply And.intro
        all_goals try ((with_reducible show CallR _ _ _ _ _ _ _); refine cR_s zk6 (.cons (.lst _ _ _ Entry.pu rfl) .nil) (.bool _) ?_; simp (maxSteps := 2000000) only [EVT, stepR, evOp, St.ev, St.app, St.put, wrs, frz, evUn, evFieldAddr, evLoad, cut, evBuiltin, datOf, datOf1, evBin, binInt, TIS, CS, Nat.reduceAdd, Nat.reduceMul, Nat.reduceEqDiff, ↓reduceIte, reduceCtorEq, Nat.reduceLT, Nat.reduceLeDiff, Array.reduceGetElem?, Nat.reduceSub, Nat.reduceBEq, ↓zc9])
        all_goals ((repeat' apply And.intro) <;> first | rfl | assumption | omega | (simp; done) | (simp; omega) | (simp_all; done))
      refine cA_n ?_
      refine wk_l [(some 0, ⟨34, 2, false, [[.int .i64 e1.term, .list 1 (e1.data.map (ci .u8))]]⟩)] [] [(0, .list 2 (l1.map Entry.c)), (3, .ptr 0 0 0 2), (5, .bool r1), (22, .bool (decide (40 < (e1.data.length : Int))))] (by show ([0, 3, 5, 22] : List Nat).Nodup; decide) (by show ([0] : List Nat).Nodup; decide) ?_ ?_ (fun t0 => ⟨(decide (40 < (e1.data.length : Int))), t0, H, rfl⟩)
      · exact (allB_some (by rfl) rfl (.cons (.cons (.int' rfl) (.cons (.lst _ _ _ (ci_pu .u8) rfl) .nil)) .nil) trivial)
      · (simp only [AllT, tl_cons, tl_nil, upd_apply, List.getD_cons_zero, List.getD_cons_succ, Nat.reduceEqDiff, ↓reduceIte, and_true]); exact ⟨(.lst _ _ _ Entry.pu rfl), (.ptr _ _ _ _ _ rfl), (.bool' rfl), (.bool' rfl)⟩
  · rintro s ⟨v1, t0, H, rfl⟩
    unfold law13_LogLong_J1 at H
    refine a_condb (v1) (by rfl) (fun zc1 => ?_) (fun zc1 => ?_)
    · have H := cond_t zc1 H
      refine a_seq ?_
      refine a_reg _ rfl (s := ?zs3) ?_ ?_
      rotate_left
      · simp (maxSteps := 2000000) only [EVT, stepR, evOp, St.ev, St.app, St.put, wrs, TIS, CS, Nat.reduceAdd, Nat.reduceMul, Nat.reduceEqDiff, ↓reduceIte, reduceCtorEq, Nat.reduceLT, Nat.reduceLeDiff, ↓zc1]
        (repeat' apply And.intro) <;> first | rfl | assumption | omega | (simp; done) | (simp; omega) | (simp_all; done)
      refine sA_n ?_
      refine a_ret ?_
      refine sA_r ?_
      obtain rfl := Option.some.inj H
      refine e_r2 (d := ?zd1) ?_ ?_
      rotate_left
      · simp only [EVT, resR, single, evLoad, cut, TIS, CS, Nat.reduceAdd, Nat.reduceEqDiff, ↓reduceIte, reduceCtorEq, Nat.reduceLT, Nat.reduceLeDiff, Nat.reduceSub, Nat.reduceBEq, zc1]
        (repeat' apply And.intro) <;> first | rfl | assumption | omega | (simp; done)
      exact (.bool' rfl)
    · have H := cond_f zc1 H
      refine a_skip ?_
      refine sA_n ?_
      refine a_seq ?_
      obtain ⟨zh2, H⟩ := chk_some H
      refine a_reg _ rfl (s := ?zs4) ?_ ?_
      rotate_left
      · simp (maxSteps := 2000000) only [EVT, stepR, evOp, St.ev, St.app, St.put, wrs, allOne, evBuiltin, evAppend, elems, Option.elim, TIS, CS, Nat.reduceAdd, Nat.reduceMul, Nat.reduceEqDiff, ↓reduceIte, reduceCtorEq, Nat.reduceLT, Nat.reduceLeDiff, Nat.reduceSub, Nat.reduceBEq, ↓zc1]
        (repeat' apply And.intro) <;> first | rfl | assumption | omega | (simp; done) | (simp; omega) | (simp_all; done)
      refine sA_n ?_
      refine a_cut (fun s => ∃ (full1 : List Entry) (t0 : Nat → Dat), law13_LogLong_J2 e1 r1 full1 = some r ∧ s = ⟨tl t0 [(3, .ptr 0 0 0 2), (5, .bool r1), (6, .ref 1 0 full1.length 2)], hl [⟨34, 2, false, [[.int .i64 e1.term, .list 1 (e1.data.map (ci .u8))]]⟩, ⟨34, 2, false, full1.map Entry.c⟩], 2, 88⟩) ?_ ?_
      · refine a_blk ?_
        refine a_loop (fun m s => ∃ (full2 : List Entry) (t0 : Nat → Dat), law13_LogLong_L1 e1 r1 m full2 = some r ∧ s = ⟨tl t0 [(3, .ptr 0 0 0 2), (5, .bool r1), (6, .ref 1 0 full2.length 2)], hl [⟨34, 2, false, [[.int .i64 e1.term, .list 1 (e1.data.map (ci .u8))]]⟩, ⟨34, 2, false, full2.map Entry.c⟩], 2, 88⟩) BIG ?_ ?_
        · refine wk_l [(some 0, ⟨34, 2, false, [[.int .i64 e1.term, .list 1 (e1.data.map (ci .u8))]]⟩), (some 3, ⟨34, 2, false, (([] : List Entry) ++ l1).map Entry.c⟩)] [] [(3, .ptr 0 0 0 2), (5, .bool r1), (6, .ref 1 0 (([] : List Entry) ++ l1).length 2)] (by show ([3, 5, 6] : List Nat).Nodup; decide) (by show ([0, 3] : List Nat).Nodup; decide) ?_ ?_ (fun t0 => ⟨(([] : List Entry) ++ l1), t0, H, rfl⟩)
          · exact (allB_some (by rfl) rfl (.cons (.cons (.int' rfl) (.cons (.lst _ _ _ (ci_pu .u8) rfl) .nil)) .nil) (allB_some (by rfl) rfl (.same _ _ Entry.pu (by first | rfl | (simp only [List.map_append, List.map_cons, List.map_nil, List.map_set, List.map_take, List.map_drop, List.map_replicate, List.append_assoc, List.nil_append, List.append_nil, ci_eq, cb_eq, cs_eq, cl_eq, CS,  List.nil_append]; done) | (simp [CS,  ci_eq, cb_eq, cs_eq, cl_eq]; done) | (simp [CS,  ci_eq, cb_eq, cs_eq, cl_eq]; intro hz; rw [List.take_of_length_le (by simp; omega)]))) trivial))
          · (simp only [AllT, tl_cons, tl_nil, upd_apply, List.getD_cons_zero, List.getD_cons_succ, Nat.reduceEqDiff, ↓reduceIte, and_true]); exact ⟨(.ptr _ _ _ _ _ rfl), (.bool' rfl), (.refl' (by first | rfl | omega | (simp; done) | (simp; omega) | (simp_all; done)) rfl)⟩
        · rintro m_law13_LogLong_L1 s ⟨full2, t0, H, rfl⟩
          obtain _ | m_law13_LogLong_L1 := m_law13_LogLong_L1
          · cases (show (none : Option _) = some _ from H)
          · rw [law13_LogLong_L1.eq_def] at H; dsimp only at H
            refine a_seq ?_
            refine a_seq ?_
            refine a_reg _ rfl (s := ?zs15) ?_ ?_
            rotate_left
            · simp (maxSteps := 2000000) only [EVT, stepR, evOp, St.ev, St.app, St.put, wrs, evBuiltin, datOf, datOf1, evBin, binInt, TIS, CS, Nat.reduceAdd, Nat.reduceMul, Nat.reduceEqDiff, ↓reduceIte, reduceCtorEq, Nat.reduceLT, Nat.reduceLeDiff, Nat.reduceSub, Nat.reduceBEq]
              (repeat' apply And.intro) <;> first | rfl | assumption | omega | (simp; done) | (simp; omega) | (simp_all; done)
            refine sA_n ?_
            refine a_condb ((decide ((((full2.length : Nat)) : Int) < 500))) (by rfl) (fun zc8 => ?_) (fun zc8 => ?_)
            · have H := cond_t zc8 H
              refine a_skip ?_
              refine sA_n ?_
              refine a_blk ?_
              obtain ⟨zh10, H⟩ := chk_some H
              refine a_reg _ rfl (s := ?zs16) ?_ ?_
              rotate_left
              · simp (maxSteps := 2000000) only [EVT, stepR, evOp, St.ev, St.app, St.put, wrs, evLoad, cut, allOne, evBuiltin, evAppend, elems, Option.elim, TIS, CS, Nat.reduceAdd, Nat.reduceMul, Nat.reduceEqDiff, ↓reduceIte, reduceCtorEq, Nat.reduceLT, Nat.reduceLeDiff, Nat.reduceSub, Nat.reduceBEq, ↓zc8]
                (repeat' apply And.intro) <;> first | rfl | assumption | omega | (simp; done) | (simp; omega) | (simp_all; done)
              refine bA_n ?_
              refine lA_n ?_
              refine wk_l [(some 0, ⟨34, 2, false, [[.int .i64 e1.term, .list 1 (e1.data.map (ci .u8))]]⟩), (some 29, ⟨34, 2, false, (full2 ++ [e1]).map Entry.c⟩)] [] [(3, .ptr 0 0 0 2), (5, .bool r1), (6, .ref 1 0 (full2 ++ [e1]).length 2)] (by show ([3, 5, 6] : List Nat).Nodup; decide) (by show ([0, 29] : List Nat).Nodup; decide) ?_ ?_ (fun t0 => ⟨_, Nat.lt_succ_self _, (full2 ++ [e1]), t0, H, rfl⟩)
              · exact (allB_some (by rfl) rfl (.cons (.cons (.int' rfl) (.cons (.lst _ _ _ (ci_pu .u8) rfl) .nil)) .nil) (allB_some (by rfl) rfl (.same _ _ Entry.pu (by first | rfl | (simp only [List.map_append, List.map_cons, List.map_nil, List.map_set, List.map_take, List.map_drop, List.map_replicate, List.append_assoc, List.nil_append, List.append_nil, ci_eq, cb_eq, cs_eq, cl_eq, CS,  List.nil_append]; done) | (simp [CS,  ci_eq, cb_eq, cs_eq, cl_eq]; done) | (simp [CS,  ci_eq, cb_eq, cs_eq, cl_eq]; intro hz; rw [List.take_of_length_le (by simp; omega)]))) trivial))
              · (simp only [AllT, tl_cons, tl_nil, upd_apply, List.getD_cons_zero, List.getD_cons_succ, Nat.reduceEqDiff, ↓reduceIte, and_true]); exact ⟨(.ptr _ _ _ _ _ rfl), (.bool' rfl), (.refl' (by first | rfl | omega | (simp; done) | (simp; omega) | (simp_all; done)) rfl)⟩
            · have H := cond_f zc8 H
              refine a_exit ?_
              refine sA_e ?_
              refine lA_e ?_
              refine bA_hit ?_
              refine cA_n ?_
              refine wk_l [(some 0, ⟨34, 2, false, [[.int .i64 e1.term, .list 1 (e1.data.map (ci .u8))]]⟩), (some 1, ⟨34, 2, false, full2.map Entry.c⟩)] [] [(3, .ptr 0 0 0 2), (5, .bool r1), (6, .ref 1 0 full2.length 2)] (by show ([3, 5, 6] : List Nat).Nodup; decide) (by show ([0, 1] : List Nat).Nodup; decide) ?_ ?_ (fun t0 => ⟨full2, t0, H, rfl⟩)
              · exact (allB_some (by rfl) rfl (.cons (.cons (.int' rfl) (.cons (.lst _ _ _ (ci_pu .u8) rfl) .nil)) .nil) (allB_some (by rfl) rfl (.same _ _ Entry.pu (by first | rfl | (simp only [List.map_append, List.map_cons, List.map_nil, List.map_set, List.map_take, List.map_drop, List.map_replicate, List.append_assoc, List.nil_append, List.append_nil, ci_eq, cb_eq, cs_eq, cl_eq, CS,  List.nil_append]; done) | (simp [CS,  ci_eq, cb_eq, cs_eq, cl_eq]; done) | (simp [CS,  ci_eq, cb_eq, cs_eq, cl_eq]; intro hz; rw [List.take_of_length_le (by simp; omega)]))) trivial))
              · (simp only [AllT, tl_cons, tl_nil, upd_apply, List.getD_cons_zero, List.getD_cons_succ, Nat.reduceEqDiff, ↓reduceIte, and_true]); exact ⟨(.ptr _ _ _ _ _ rfl), (.bool' rfl), (.refl' (by first | rfl | omega | (simp; done) | (simp; omega) | (simp_all; done)) rfl)⟩
      · rintro s ⟨full1, t0, H, rfl⟩
        unfold law13_LogLong_J2 at H
        refine a_seq ?_
        obtain ⟨r2, zh3, H⟩ := bind_some H
        have zk2 := log_Put_pc zh3
        refine a_reg _ rfl (s := ?zs5) ?_ ?_
        rotate_left
        · try simp (maxSteps := 2000000) only [EVT, stepR, evOp, St.ev, St.app, St.put, wrs, datOf, datOf1, frz, TIS, CS, Nat.reduceAdd, Nat.reduceMul, Nat.reduceEqDiff, ↓reduceIte, reduceCtorEq, Nat.reduceLT, Nat.reduceLeDiff, Nat.reduceSub, Nat.reduceBEq]
          repeat' with_reducible apply And.intro
          all_goals try ((with_reducible show CallR _ _ _ _ _ _ _); refine cR_f [1] zk2 (.cons (.ownL ((wrs_frz _ _ _ 1).trans (by rfl)) (fun _ => rfl) rfl (by first | rfl | omega | (simp; done) | (simp; omega) | (simp_all; done)) (.same _ _ Entry.pu (by first | rfl | (simp only [List.map_append, List.map_cons, List.map_nil, List.map_set, List.map_take, List.map_drop, List.map_replicate, List.append_assoc, List.nil_append, List.append_nil, ci_eq, cb_eq, cs_eq, cl_eq, CS,  List.nil_append]; done) | (simp [CS,  ci_eq, cb_eq, cs_eq, cl_eq]; done) | (simp [CS,  ci_eq, cb_eq, cs_eq, cl_eq]; intro hz; rw [List.take_of_length_le (by simp; omega)])))) (.cons (.int' rfl) (.cons (.int' rfl) (.cons (.nil _) .nil)))) ?_; simp (maxSteps := 2000000) only [EVT, stepR, evOp, St.ev, St.app, St.put, wrs, datOf, datOf1, frz, TIS, CS, Nat.reduceAdd, Nat.reduceMul, Nat.reduceEqDiff, ↓reduceIte, reduceCtorEq, Nat.reduceLT, Nat.reduceLeDiff, Nat.reduceSub, Nat.reduceBEq])
          all_goals ((repeat' apply And.intro) <;> first | rfl | assumption | omega | (simp; done) | (simp; omega) | (simp_all; done))
        refine sA_n ?_
        refine a_seq ?_
        obtain ⟨zh4, H⟩ := chk_some H
        obtain ⟨x1, zh5, H⟩ := bind_some H
        have zg1 := idx_map zh5 Entry.c
        try simp only [Int.reduceToNat] at zg1
        obtain ⟨zh5a, zh5b, _⟩ := idx_some zh5
        obtain ⟨r3, zh6, H⟩ := bind_some H
        have zk3 := log_Put_pc zh6
        refine a_drW (by kernel_rfl) _ rfl (s := ?zs6) (by kernel_rfl) (by kernel_rfl) ?zs6f ?_ ?_ ?_
        rotate_left 2
        · try simp (maxSteps := 2000000) only [EVT, stepW, evOp, St.ev, St.app, St.put, wrs, datOf, datOf1, evSlice, sliceOk, sl_if0, sl_if1, sl_if2, sl_if3, tk_map, dp_map, evIndexAddr, evFieldAddr, evLoad, cut, allOne, frz, TIS, CS, Nat.reduceAdd, Nat.reduceMul, Nat.reduceEqDiff, ↓reduceIte, reduceCtorEq, Nat.reduceLT, Nat.reduceLeDiff, Int.reduceToNat, Nat.reduceSub, Nat.reduceBEq, zg1]
          repeat' with_reducible apply And.intro
          all_goals try ((with_reducible show CallW _ _ _ _ _ _ _); refine cW_f [65] [1, 65] (by decide) zk3 (fun h2 e => (.cons (.ownP ((wrs_frz h2 _ h2 1).trans (by rw [e 1 (by simp)]; rfl)) (fun _ => rfl) rfl (by first | rfl | omega | (simp; done) | (simp; omega) | (simp_all; done)) (by first | rfl | omega | (simp; done) | (simp; omega) | (simp_all; done)) (.same _ _ Entry.pu (by first | rfl | (simp only [List.map_append, List.map_cons, List.map_nil, List.map_set, List.map_take, List.map_drop, List.map_replicate, List.append_assoc, List.nil_append, List.append_nil, ci_eq, cb_eq, cs_eq, cl_eq, CS,  List.nil_append]; done) | (simp [CS,  ci_eq, cb_eq, cs_eq, cl_eq]; done) | (simp [CS,  ci_eq, cb_eq, cs_eq, cl_eq]; intro hz; rw [List.take_of_length_le (by simp; omega)])))) (.cons (.int' rfl) (.cons (.int' rfl) (.cons (.ownL ((wrs_frz h2 _ h2 65).trans (by rw [e 65 (by simp)]; rfl)) (fun _ => rfl) rfl (by first | rfl | omega | (simp; done) | (simp; omega) | (simp_all; done)) (.same _ _ Entry.pu (by first | rfl | (simp only [List.map_append, List.map_cons, List.map_nil, List.map_set, List.map_take, List.map_drop, List.map_replicate, List.append_assoc, List.nil_append, List.append_nil, ci_eq, cb_eq, cs_eq, cl_eq, CS,  List.nil_append]; done) | (simp [CS,  ci_eq, cb_eq, cs_eq, cl_eq]; done) | (simp [CS,  ci_eq, cb_eq, cs_eq, cl_eq]; intro hz; rw [List.take_of_length_le (by simp; omega)])))) .nil))))) ?_; simp (maxSteps := 2000000) only [EVT, stepW, evOp, St.ev, St.app, St.put, wrs, datOf, datOf1, evSlice, sliceOk, sl_if0, sl_if1, sl_if2, sl_if3, tk_map, dp_map, evIndexAddr, evFieldAddr, evLoad, cut, allOne, frz, TIS, CS, Nat.reduceAdd, Nat.reduceMul, Nat.reduceEqDiff, ↓reduceIte, reduceCtorEq, Nat.reduceLT, Nat.reduceLeDiff, Int.reduceToNat, Nat.reduceSub, Nat.reduceBEq, zg1])
          all_goals ((repeat' apply And.intro) <;> first | rfl | assumption | omega | (simp; done) | (simp; omega) | (simp_all; done))
        · kernel_rfl
        refine sA_n ?_
        refine a_seq ?_
        obtain ⟨x2, zh7, H⟩ := bind_some H
        have zg2 := idx_map zh7 Entry.c
        try simp only [Int.reduceToNat] at zg2
        obtain ⟨zh7a, zh7b, _⟩ := idx_some zh7
        obtain ⟨r4, zh8, H⟩ := bind_some H
        have zk4 := log_Put_pc zh8
        refine a_drW (by kernel_rfl) _ rfl (s := ?zs7) (by kernel_rfl) (by kernel_rfl) ?zs7f ?_ ?_ ?_
        rotate_left 2
        · try simp (maxSteps := 2000000) only [EVT, stepW, evOp, St.ev, St.app, St.put, wrs, datOf, datOf1, evIndexAddr, evFieldAddr, evLoad, cut, allOne, frz, TIS, CS, Nat.reduceAdd, Nat.reduceMul, Nat.reduceEqDiff, ↓reduceIte, reduceCtorEq, Nat.reduceLT, Nat.reduceLeDiff, Int.reduceToNat, Nat.reduceSub, Nat.reduceBEq, zg1, zg2]
          repeat' with_reducible apply And.intro
          all_goals try ((with_reducible show CallW _ _ _ _ _ _ _); refine cW_f [176] [1, 176] (by decide) zk4 (fun h2 e => (.cons (.ownL ((wrs_frz h2 _ h2 1).trans (by rw [e 1 (by simp)]; rfl)) (fun _ => rfl) rfl (by first | rfl | omega | (simp; done) | (simp; omega) | (simp_all; done)) (.same _ _ Entry.pu (by first | rfl | (simp only [List.map_append, List.map_cons, List.map_nil, List.map_set, List.map_take, List.map_drop, List.map_replicate, List.append_assoc, List.nil_append, List.append_nil, ci_eq, cb_eq, cs_eq, cl_eq, CS,  List.nil_append]; done) | (simp [CS,  ci_eq, cb_eq, cs_eq, cl_eq]; done) | (simp [CS,  ci_eq, cb_eq, cs_eq, cl_eq]; intro hz; rw [List.take_of_length_le (by simp; omega)])))) (.cons (.int' rfl) (.cons (.int' rfl) (.cons (.ownL ((wrs_frz h2 _ h2 176).trans (by rw [e 176 (by simp)]; rfl)) (fun _ => rfl) rfl (by first | rfl | omega | (simp; done) | (simp; omega) | (simp_all; done)) (.same _ _ Entry.pu (by first | rfl | (simp only [List.map_append, List.map_cons, List.map_nil, List.map_set, List.map_take, List.map_drop, List.map_replicate, List.append_assoc, List.nil_append, List.append_nil, ci_eq, cb_eq, cs_eq, cl_eq, CS,  List.nil_append]; done) | (simp [CS,  ci_eq, cb_eq, cs_eq, cl_eq]; done) | (simp [CS,  ci_eq, cb_eq, cs_eq, cl_eq]; intro hz; rw [List.take_of_length_le (by simp; omega)])))) .nil))))) ?_; simp (maxSteps := 2000000) only [EVT, stepW, evOp, St.ev, St.app, St.put, wrs, datOf, datOf1, evIndexAddr, evFieldAddr, evLoad, cut, allOne, frz, TIS, CS, Nat.reduceAdd, Nat.reduceMul, Nat.reduceEqDiff, ↓reduceIte, reduceCtorEq, Nat.reduceLT, Nat.reduceLeDiff, Int.reduceToNat, Nat.reduceSub, Nat.reduceBEq, zg1, zg2])
          all_goals ((repeat' apply And.intro) <;> first | rfl | assumption | omega | (simp; done) | (simp; omega) | (simp_all; done))
        · kernel_rfl
        refine sA_n ?_
        refine a_seq ?_
        refine bool_split (b := r1) (fun zc2 => ?_) (fun zc2 => ?_)
        · have H := cond_t zc2 H
          refine bool_split (b := r2.2) (fun zc3 => ?_) (fun zc3 => ?_)
          · have H := cond_t zc3 H
            obtain ⟨r5, zh9, H⟩ := bind_some H
            have zk5 := ref13_Same_pc zh9
            refine bool_split (b := r5) (fun zc4 => ?_) (fun zc4 => ?_)
            · rw [zc4] at H
              refine bool_split (b := r3.2) (fun zc5 => ?_) (fun zc5 => ?_)
              · rw [zc5] at H
                refine bool_split (b := ((r3.1.length : Int) == 500)) (fun zc6 => ?_) (fun zc6 => ?_)
                · rw [zc6] at H
                  refine bool_split (b := (!r4.2)) (fun zc7 => ?_) (fun zc7 => ?_)
                  · rw [zc7] at H
                    refine a_reg _ rfl (s := ?zs8) ?_ ?_
                    rotate_left
                    · try simp (maxSteps := 2000000) only [EVT, stepR, evOp, St.ev, St.app, St.put, wrs, datOf, datOf1, frz, evBuiltin, evBin, binInt, evUn, TIS, CS, Nat.reduceAdd, Nat.reduceMul, Nat.reduceEqDiff, ↓reduceIte, reduceCtorEq, Nat.reduceLT, Nat.reduceLeDiff, Array.reduceGetElem?, Nat.reduceSub, Nat.reduceBEq, zg1, zg2, ↓zc2, ↓zc3, ↓zc4, ↓zc5, ↓zc6, ↓zc7]
                      repeat' with_reducible apply And.intro
                      all_goals try ((with_reducible show CallR _ _ _ _ _ _ _); refine cR_s zk5 (.cons (.lst _ _ _ Entry.pu rfl) (.cons (.ownL (by rfl) (fun _ => rfl) rfl (by first | rfl | omega | (simp; done) | (simp; omega) | (simp_all; done)) (.same _ _ Entry.pu (by first | rfl | (simp only [List.map_append, List.map_cons, List.map_nil, List.map_set, List.map_take, List.map_drop, List.map_replicate, List.append_assoc, List.nil_append, List.append_nil, ci_eq, cb_eq, cs_eq, cl_eq, CS,  List.nil_append]; done) | (simp [CS,  ci_eq, cb_eq, cs_eq, cl_eq]; done) | (simp [CS,  ci_eq, cb_eq, cs_eq, cl_eq]; intro hz; rw [List.take_of_length_le (by simp; omega)])))) .nil)) (.bool _) ?_; simp (maxSteps := 2000000) only [EVT, stepR, evOp, St.ev, St.app, St.put, wrs, datOf, datOf1, frz, evBuiltin, evBin, binInt, evUn, TIS, CS, Nat.reduceAdd, Nat.reduceMul, Nat.reduceEqDiff, ↓reduceIte, reduceCtorEq, Nat.reduceLT, Nat.reduceLeDiff, Array.reduceGetElem?, Nat.reduceSub, Nat.reduceBEq, zg1, zg2, ↓zc2, ↓zc3, ↓zc4, ↓zc5, ↓zc6, ↓zc7])
                      all_goals ((repeat' apply And.intro) <;> first | rfl | assumption | omega | (simp; done) | (simp; omega) | (simp_all; done))
                    refine sA_n ?_
                    refine a_ret ?_
                    obtain rfl := Option.some.inj H
                    refine e_r2 (d := ?zd2) ?_ ?_
                    rotate_left
                    · simp only [EVT, resR, single, evLoad, cut, TIS, CS, Nat.reduceAdd, Nat.reduceEqDiff, ↓reduceIte, reduceCtorEq, Nat.reduceLT, Nat.reduceLeDiff, Nat.reduceSub, Nat.reduceBEq, zg1, zg2, zc2, zc3, zc4, zc5, zc6, zc7]
                      (repeat' apply And.intro) <;> first | rfl | assumption | omega | (simp; done)
                    exact (.bool' rfl)
                  · rw [zc7] at H
                    refine a_reg _ rfl (s := ?zs9) ?_ ?_
                    rotate_left
                    · try simp (maxSteps := 2000000) only [EVT, stepR, evOp, St.ev, St.app, St.put, wrs, datOf, datOf1, frz, evBuiltin, evBin, binInt, evUn, TIS, CS, Nat.reduceAdd, Nat.reduceMul, Nat.reduceEqDiff, ↓reduceIte, reduceCtorEq, Nat.reduceLT, Nat.reduceLeDiff, Array.reduceGetElem?, Nat.reduceSub, Nat.reduceBEq, zg1, zg2, ↓zc2, ↓zc3, ↓zc4, ↓zc5, ↓zc6, ↓zc7]
                      repeat' with_reducible apply And.intro
                      all_goals try ((with_reducible show CallR _ _ _ _ _ _ _); refine cR_s zk5 (.cons (.lst _ _ _ Entry.pu rfl) (.cons (.ownL (by rfl) (fun _ => rfl) rfl (by first | rfl | omega | (simp; done) | (simp; omega) | (simp_all; done)) (.same _ _ Entry.pu (by first | rfl | (simp only [List.map_append, List.map_cons, List.map_nil, List.map_set, List.map_take, List.map_drop, List.map_replicate, List.append_assoc, List.nil_append, List.append_nil, ci_eq, cb_eq, cs_eq, cl_eq, CS,  List.nil_append]; done) | (simp [CS,  ci_eq, cb_eq, cs_eq, cl_eq]; done) | (simp [CS,  ci_eq, cb_eq, cs_eq, cl_eq]; intro hz; rw [List.take_of_length_le (by simp; omega)])))) .nil)) (.bool _) ?_; simp (maxSteps := 2000000) only [EVT, stepR, evOp, St.ev, St.app, St.put, wrs, datOf, datOf1, frz, evBuiltin, evBin, binInt, evUn, TIS, CS, Nat.reduceAdd, Nat.reduceMul, Nat.reduceEqDiff, ↓reduceIte, reduceCtorEq, Nat.reduceLT, Nat.reduceLeDiff, Array.reduceGetElem?, Nat.reduceSub, Nat.reduceBEq, zg1, zg2, ↓zc2, ↓zc3, ↓zc4, ↓zc5, ↓zc6, ↓zc7])
                      all_goals ((repeat' apply And.intro) <;> first | rfl | assumption | omega | (simp; done) | (simp; omega) | (simp_all; done))
                    refine sA_n ?_
                    refine a_ret ?_
                    obtain rfl := Option.some.inj H
                    refine e_r2 (d := ?zd3) ?_ ?_
                    rotate_left
                    · simp only [EVT, resR, single, evLoad, cut, TIS, CS, Nat.reduceAdd, Nat.reduceEqDiff, ↓reduceIte, reduceCtorEq, Nat.reduceLT, Nat.reduceLeDiff, Nat.reduceSub, Nat.reduceBEq, zg1, zg2, zc2, zc3, zc4, zc5, zc6, zc7]
                      (repeat' apply And.intro) <;> first | rfl | assumption | omega | (simp; done)
                    exact (.bool' (by first | rfl | assumption | (simp_all; done)))
                · rw [zc6] at H
                  refine a_reg _ rfl (s := ?zs10) ?_ ?_
                  rotate_left
                  · try simp (maxSteps := 2000000) only [EVT, stepR, evOp, St.ev, St.app, St.put, wrs, datOf, datOf1, frz, evBuiltin, evBin, binInt, evUn, TIS, CS, Nat.reduceAdd, Nat.reduceMul, Nat.reduceEqDiff, ↓reduceIte, reduceCtorEq, Nat.reduceLT, Nat.reduceLeDiff, Array.reduceGetElem?, Nat.reduceSub, Nat.reduceBEq, zg1, zg2, ↓zc2, ↓zc3, ↓zc4, ↓zc5, ↓zc6]
                    repeat' with_reducible apply And.intro
                    all_goals try ((with_reducible show CallR _ _ _ _ _ _ _); refine cR_s zk5 (.cons (.lst _ _ _ Entry.pu rfl) (.cons (.ownL (by rfl) (fun _ => rfl) rfl (by first | rfl | omega | (simp; done) | (simp; omega) | (simp_all; done)) (.same _ _ Entry.pu (by first | rfl | (simp only [List.map_append, List.map_cons, List.map_nil, List.map_set, List.map_take, List.map_drop, List.map_replicate, List.append_assoc, List.nil_append, List.append_nil, ci_eq, cb_eq, cs_eq, cl_eq, CS,  List.nil_append]; done) | (simp [CS,  ci_eq, cb_eq, cs_eq, cl_eq]; done) | (simp [CS,  ci_eq, cb_eq, cs_eq, cl_eq]; intro hz; rw [List.take_of_length_le (by simp; omega)])))) .nil)) (.bool _) ?_; simp (maxSteps := 2000000) only [EVT, stepR, evOp, St.ev, St.app, St.put, wrs, datOf, datOf1, frz, evBuiltin, evBin, binInt, evUn, TIS, CS, Nat.reduceAdd, Nat.reduceMul, Nat.reduceEqDiff, ↓reduceIte, reduceCtorEq, Nat.reduceLT, Nat.reduceLeDiff, Array.reduceGetElem?, Nat.reduceSub, Nat.reduceBEq, zg1, zg2, ↓zc2, ↓zc3, ↓zc4, ↓zc5, ↓zc6])
                    all_goals ((repeat' apply And.intro) <;> first | rfl | assumption | omega | (simp; done) | (simp; omega) | (simp_all; done))
                  refine sA_n ?_
                  refine a_ret ?_
                  obtain rfl := Option.some.inj H
                  refine e_r2 (d := ?zd4) ?_ ?_
                  rotate_left
                  · simp only [EVT, resR, single, evLoad, cut, TIS, CS, Nat.reduceAdd, Nat.reduceEqDiff, ↓reduceIte, reduceCtorEq, Nat.reduceLT, Nat.reduceLeDiff, Nat.reduceSub, Nat.reduceBEq, zg1, zg2, zc2, zc3, zc4, zc5, zc6]
                    (repeat' apply And.intro) <;> first | rfl | assumption | omega | (simp; done)
                  exact (.bool' (by first | rfl | assumption | (simp_all; done)))
              · rw [zc5] at H
                refine a_reg _ rfl (s := ?zs11) ?_ ?_
                rotate_left
                · try simp (maxSteps := 2000000) only [EVT, stepR, evOp, St.ev, St.app, St.put, wrs, datOf, datOf1, frz, evBuiltin, evBin, binInt, evUn, TIS, CS, Nat.reduceAdd, Nat.reduceMul, Nat.reduceEqDiff, ↓reduceIte, reduceCtorEq, Nat.reduceLT, Nat.reduceLeDiff, Array.reduceGetElem?, Nat.reduceSub, Nat.reduceBEq, zg1, zg2, ↓zc2, ↓zc3, ↓zc4, ↓zc5]
                  repeat' with_reducible apply And.intro
                  all_goals try ((with_reducible show CallR _ _ _ _ _ _ _); refine cR_s zk5 (.cons (.lst _ _ _ Entry.pu rfl) (.cons (.ownL (by rfl) (fun _ => rfl) rfl (by first | rfl | omega | (simp; done) | (simp; omega) | (simp_all; done)) (.same _ _ Entry.pu (by first | rfl | (simp only [List.map_append, List.map_cons, List.map_nil, List.map_set, List.map_take, List.map_drop, List.map_replicate, List.append_assoc, List.nil_append, List.append_nil, ci_eq, cb_eq, cs_eq, cl_eq, CS,  List.nil_append]; done) | (simp [CS,  ci_eq, cb_eq, cs_eq, cl_eq]; done) | (simp [CS,  ci_eq, cb_eq, cs_eq, cl_eq]; intro hz; rw [List.take_of_length_le (by simp; omega)])))) .nil)) (.bool _) ?_; simp (maxSteps := 2000000) only [EVT, stepR, evOp, St.ev, St.app, St.put, wrs, datOf, datOf1, frz, evBuiltin, evBin, binInt, evUn, TIS, CS, Nat.reduceAdd, Nat.reduceMul, Nat.reduceEqDiff, ↓reduceIte, reduceCtorEq, Nat.reduceLT, Nat.reduceLeDiff, Array.reduceGetElem?, Nat.reduceSub, Nat.reduceBEq, zg1, zg2, ↓zc2, ↓zc3, ↓zc4, ↓zc5])
                  all_goals ((repeat' apply And.intro) <;> first | rfl | assumption | omega | (simp; done) | (simp; omega) | (simp_all; done))
                refine sA_n ?_
                refine a_ret ?_
                obtain rfl := Option.some.inj H
                refine e_r2 (d := ?zd5) ?_ ?_
                rotate_left
                · simp only [EVT, resR, single, evLoad, cut, TIS, CS, Nat.reduceAdd, Nat.reduceEqDiff, ↓reduceIte, reduceCtorEq, Nat.reduceLT, Nat.reduceLeDiff, Nat.reduceSub, Nat.reduceBEq, zg1, zg2, zc2, zc3, zc4, zc5]
                  (repeat' apply And.intro) <;> first | rfl | assumption | omega | (simp; done)
                exact (.bool' (by first | rfl | assumption | (simp_all; done)))
            · rw [zc4] at H
              refine a_reg _ rfl (s := ?zs12) ?_ ?_
              rotate_left
              · try simp (maxSteps := 2000000) only [EVT, stepR, evOp, St.ev, St.app, St.put, wrs, datOf, datOf1, frz, evBuiltin, evBin, binInt, evUn, TIS, CS, Nat.reduceAdd, Nat.reduceMul, Nat.reduceEqDiff, ↓reduceIte, reduceCtorEq, Nat.reduceLT, Nat.reduceLeDiff, Array.reduceGetElem?, Nat.reduceSub, Nat.reduceBEq, zg1, zg2, ↓zc2, ↓zc3, ↓zc4]
                repeat' with_reducible apply And.intro
                all_goals try ((with_reducible show CallR _ _ _ _ _ _ _); refine cR_s zk5 (.cons (.lst _ _ _ Entry.pu rfl) (.cons (.ownL (by rfl) (fun _ => rfl) rfl (by first | rfl | omega | (simp; done) | (simp; omega) | (simp_all; done)) (.same _ _ Entry.pu (by first | rfl | (simp only [List.map_append, List.map_cons, List.map_nil, List.map_set, List.map_take, List.map_drop, List.map_replicate, List.append_assoc, List.nil_append, List.append_nil, ci_eq, cb_eq, cs_eq, cl_eq, CS,  List.nil_append]; done) | (simp [CS,  ci_eq, cb_eq, cs_eq, cl_eq]; done) | (simp [CS,  ci_eq, cb_eq, cs_eq, cl_eq]; intro hz; rw [List.take_of_length_le (by simp; omega)])))) .nil)) (.bool _) ?_; simp (maxSteps := 2000000) only [EVT, stepR, evOp, St.ev, St.app, St.put, wrs, datOf, datOf1, frz, evBuiltin, evBin, binInt, evUn, TIS, CS, Nat.reduceAdd, Nat.reduceMul, Nat.reduceEqDiff, ↓reduceIte, reduceCtorEq, Nat.reduceLT, Nat.reduceLeDiff, Array.reduceGetElem?, Nat.reduceSub, Nat.reduceBEq, zg1, zg2, ↓zc2, ↓zc3, ↓zc4])
                all_goals ((repeat' apply And.intro) <;> first | rfl | assumption | omega | (simp; done) | (simp; omega) | (simp_all; done))
              refine sA_n ?_
              refine a_ret ?_
              obtain rfl := Option.some.inj H
              refine e_r2 (d := ?zd6) ?_ ?_
              rotate_left
              · simp only [EVT, resR, single, evLoad, cut, TIS, CS, Nat.reduceAdd, Nat.reduceEqDiff, ↓reduceIte, reduceCtorEq, Nat.reduceLT, Nat.reduceLeDiff, Nat.reduceSub, Nat.reduceBEq, zg1, zg2, zc2, zc3, zc4]
                (repeat' apply And.intro) <;> first | rfl | assumption | omega | (simp; done)
              exact (.bool' (by first | rfl | assumption | (simp_all; done)))
          · have H := cond_f zc3 H
            refine a_reg _ rfl (s := ?zs13) ?_ ?_
            rotate_left
            · simp (maxSteps := 2000000) only [EVT, stepR, evOp, St.ev, St.app, St.put, wrs, datOf, datOf1, frz, evBuiltin, evBin, binInt, evUn, TIS, CS, Nat.reduceAdd, Nat.reduceMul, Nat.reduceEqDiff, ↓reduceIte, reduceCtorEq, Nat.reduceLT, Nat.reduceLeDiff, Array.reduceGetElem?, Nat.reduceSub, Nat.reduceBEq, zg1, zg2, ↓zc2, ↓zc3]
              try simp (maxSteps := 2000000) only [EVT, stepR, evOp, St.ev, St.app, St.put, wrs, datOf, datOf1, frz, evBuiltin, evBin, binInt, evUn, TIS, CS, Nat.reduceAdd, Nat.reduceMul, Nat.reduceEqDiff, ↓reduceIte, reduceCtorEq, Nat.reduceLT, Nat.reduceLeDiff, Array.reduceGetElem?, Nat.reduceSub, Nat.reduceBEq, zg1, zg2, ↓zc2, ↓zc3]
              (repeat' apply And.intro) <;> first | rfl | assumption | omega | (simp; done) | (simp; omega) | (simp_all; done)
            refine sA_n ?_
            refine a_ret ?_
            obtain rfl := Option.some.inj H
            refine e_r2 (d := ?zd7) ?_ ?_
            rotate_left
            · simp only [EVT, resR, single, evLoad, cut, TIS, CS, Nat.reduceAdd, Nat.reduceEqDiff, ↓reduceIte, reduceCtorEq, Nat.reduceLT, Nat.reduceLeDiff, Nat.reduceSub, Nat.reduceBEq, zg1, zg2, zc2, zc3]
              (repeat' apply And.intro) <;> first | rfl | assumption | omega | (simp; done)
            exact (.bool' (by first | rfl | assumption | (simp_all; done)))
        · have H := cond_f zc2 H
          refine a_reg _ rfl (s := ?zs14) ?_ ?_
          rotate_left
          · simp (maxSteps := 2000000) only [EVT, stepR, evOp, St.ev, St.app, St.put, wrs, datOf, datOf1, frz, evBuiltin, evBin, binInt, evUn, TIS, CS, Nat.reduceAdd, Nat.reduceMul, Nat.reduceEqDiff, ↓reduceIte, reduceCtorEq, Nat.reduceLT, Nat.reduceLeDiff, Array.reduceGetElem?, Nat.reduceSub, Nat.reduceBEq, zg1, zg2, ↓zc2]
            try simp (maxSteps := 2000000) only [EVT, stepR, evOp, St.ev, St.app, St.put, wrs, datOf, datOf1, frz, evBuiltin, evBin, binInt, evUn, TIS, CS, Nat.reduceAdd, Nat.reduceMul, Nat.reduceEqDiff, ↓reduceIte, reduceCtorEq, Nat.reduceLT, Nat.reduceLeDiff, Array.reduceGetElem?, Nat.reduceSub, Nat.reduceBEq, zg1, zg2, ↓zc2]
            (repeat' apply And.intro) <;> first | rfl | assumption | omega | (simp; done) | (simp; omega) | (simp_all; done)
          refine sA_n ?_
          refine a_ret ?_
          obtain rfl := Option.some.inj H
          refine e_r2 (d := ?zd8) ?_ ?_
          rotate_left
          · simp only [EVT, resR, single, evLoad, cut, TIS, CS, Nat.reduceAdd, Nat.reduceEqDiff, ↓reduceIte, reduceCtorEq, Nat.reduceLT, Nat.reduceLeDiff, Nat.reduceSub, Nat.reduceBEq, zg1, zg2, zc2]
            (repeat' apply And.intro) <;> first | rfl | assumption | omega | (simp; done)
          exact (.bool' (by first | rfl | assumption | (simp_all; done)))
end
end Go.Proofs.Ytiomajfdphmgaaa
