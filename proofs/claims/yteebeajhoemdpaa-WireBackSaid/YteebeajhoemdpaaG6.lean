/- Functions of the program as Lean functions, and that they are so; printed by a program of mine. -/
import Derived.Test.YteebeajhoemdpaaH
set_option linter.unusedSimpArgs false
set_option linter.unusedVariables false
namespace Go.Proofs.Yteebeajhoemdpaa
open Go.Ab
noncomputable section

def law05_WireBack_J1 (r1 : Bool) (w1 : List Msg) (m1 : Msg) (v1 : Bool) : Option Bool :=
  cond v1 (some (r1)) ((wire_Send_f w1 m1 1).bind fun r2 => (wire_Take_f r2 (w1.length : Int)).bind fun r3 => (wire_Send_f w1 m1 3).bind fun r4 => (wire_Take_f r4 (w1.length : Int)).bind fun r5 => (wire_Take_f r4 (IntKind.wrap .i64 ((w1.length : Int) + 1))).bind fun r6 => cond r1 (cond r3.2.2 ((ref05_Same_f r3.2.1 m1).bind fun r7 => cond r7 ((ref05_SameAll_f r3.1 w1).bind fun r8 => cond r8 (cond r5.2.2 (cond r6.2.2 ((ref05_Same_f r5.2.1 m1).bind fun r9 => cond r9 ((ref05_Same_f r6.2.1 m1).bind fun r10 => cond r10 ((ref05_SameAll_f r5.1 r2).bind fun r11 => cond r11 ((ref05_SameAll_f r6.1 r2).bind fun r12 => some (r12)) (some (false))) (some (false))) (some (false))) (some (false))) (some (false))) (some (false))) (some (false))) (some (false))) (some (false)))
def law05_WireBack_f (w1 : List Msg) (m1 : Msg) : Option Bool :=
  (law05_head_f).bind fun r1 => (law05_Great_f w1).bind fun r13 => cond r13 (law05_WireBack_J1 r1 w1 m1 true) ((law05_Great_f [m1]).bind fun r14 => law05_WireBack_J1 r1 w1 m1 (r14 || (decide (190 < (w1.length : Int)))))
set_option maxHeartbeats 4000000 in
set_option maxRecDepth 20000 in
theorem law05_WireBack_pc {w1 : List Msg} {m1 : Msg} {r : Bool} (H : law05_WireBack_f w1 m1 = some r) : PC Try.prog 6 [.list 5 (w1.map Msg.c), .agg (Msg.c m1)] (.bool r) := by
  refine pcA_of Try.func6 (by rfl) (by decide) 102 (by rfl) [.tmp 4] (by rfl) ?_
  unfold law05_WireBack_f at H
  simp only [ent]
  refine a_seq ?_
  refine a_reg _ rfl (s := ?zs1) ?_ ?_
  rotate_left
  · simp (maxSteps := 2000000) only [EVT, stepR, evOp, St.ev, St.app, St.put, wrs, allOne, datOf, datOf1, TIS, CS, Nat.reduceAdd, Nat.reduceMul, Nat.reduceEqDiff, ↓reduceIte, reduceCtorEq, Nat.reduceLT, Nat.reduceLeDiff]
    (repeat' apply And.intro) <;> first | rfl | assumption | omega | (left; omega) | (simp; done) | (simp; omega) | (right; exact ⟨_, rfl, rfl, rfl, by decide, by first | omega | (simp; omega)⟩) | (simp_all; done)
  refine sA_n ?_
  refine a_seq ?_
  obtain ⟨r1, zh1, H⟩ := bind_some H
  have zk1 := law05_head_pc zh1
  refine a_reg _ rfl (s := ?zs2) ?_ ?_
  rotate_left
  · try simp (maxSteps := 2000000) only [EVT, stepR, evOp, St.ev, St.app, St.put, wrs, frz, TIS, CS, Nat.reduceAdd, Nat.reduceMul, Nat.reduceEqDiff, ↓reduceIte, reduceCtorEq, Nat.reduceLT, Nat.reduceLeDiff, Nat.reduceSub, Nat.reduceBEq]
    repeat' with_reducible apply And.intro
    all_goals try ((with_reducible show CallR _ _ _ _ _ _ _); refine cR_s zk1 .nil (.bool _) ?_; simp (maxSteps := 2000000) only [EVT, stepR, evOp, St.ev, St.app, St.put, wrs, frz, TIS, CS, Nat.reduceAdd, Nat.reduceMul, Nat.reduceEqDiff, ↓reduceIte, reduceCtorEq, Nat.reduceLT, Nat.reduceLeDiff, Nat.reduceSub, Nat.reduceBEq])
    all_goals ((repeat' apply And.intro) <;> first | rfl | assumption | omega | (left; omega) | (simp; done) | (simp; omega) | (right; exact ⟨_, rfl, rfl, rfl, by decide, by first | omega | (simp; omega)⟩) | (simp_all; done))
  refine sA_n ?_
  refine a_seq ?_
  refine a_cut (fun s => ∃ (v1 : Bool) (t0 : Nat → Dat), law05_WireBack_J1 r1 w1 m1 v1 = some r ∧ s = ⟨tl t0 [(0, .list 5 (w1.map Msg.c)), (3, .ptr 0 0 0 5), (5, .bool r1), (29, .bool v1)], hl [⟨26, 5, false, [[.int .i64 m1.from_, .int .i64 m1.to_, .int .i64 m1.kind, .list 1 (m1.nums.map (ci .i64)), .list 1 (m1.data.map (ci .u8))]]⟩], 1, 102⟩) ?_ ?_
  · obtain ⟨r13, zh13, H⟩ := bind_some H
    have zk13 := law05_Great_pc zh13
    refine bool_split (b := r13) (fun zc11 => ?_) (fun zc11 => ?_)
    · have H := cond_t zc11 H
      refine a_reg _ rfl (s := ?zs19) ?_ ?_
      rotate_left
      · try simp (maxSteps := 2000000) only [EVT, stepR, evOp, St.ev, St.app, St.put, wrs, frz, evLoad, cut, allOne, datOf, datOf1, evBuiltin, evBin, binInt, TIS, CS, Nat.reduceAdd, Nat.reduceMul, Nat.reduceEqDiff, ↓reduceIte, reduceCtorEq, Nat.reduceLT, Nat.reduceLeDiff, Array.reduceGetElem?, Nat.reduceSub, Nat.reduceBEq, ↓zc11]
        repeat' with_reducible apply And.intro
        all_goals try ((with_reducible show CallR _ _ _ _ _ _ _); refine cR_s zk13 (.cons (.lst _ _ _ Msg.pu rfl) .nil) (.bool _) ?_; simp (maxSteps := 2000000) only [EVT, stepR, evOp, St.ev, St.app, St.put, wrs, frz, evLoad, cut, allOne, datOf, datOf1, evBuiltin, evBin, binInt, TIS, CS, Nat.reduceAdd, Nat.reduceMul, Nat.reduceEqDiff, ↓reduceIte, reduceCtorEq, Nat.reduceLT, Nat.reduceLeDiff, Array.reduceGetElem?, Nat.reduceSub, Nat.reduceBEq, ↓zc11])
        all_goals ((repeat' apply And.intro) <;> first | rfl | assumption | omega | (left; omega) | (simp; done) | (simp; omega) | (right; exact ⟨_, rfl, rfl, rfl, by decide, by first | omega | (simp; omega)⟩) | (simp_all; done))
      refine cA_n ?_
      refine wk_l [(some 0, ⟨26, 5, false, [[.int .i64 m1.from_, .int .i64 m1.to_, .int .i64 m1.kind, .list 1 (m1.nums.map (ci .i64)), .list 1 (m1.data.map (ci .u8))]]⟩)] [] [(0, .list 5 (w1.map Msg.c)), (3, .ptr 0 0 0 5), (5, .bool r1), (29, .bool true)] (by show ([0, 3, 5, 29] : List Nat).Nodup; decide) (by show ([0] : List Nat).Nodup; decide) ?_ ?_ (fun t0 => ⟨true, t0, H, rfl⟩)
      · exact (allB_some (by rfl) rfl (.cons (.cons (.int' rfl) (.cons (.int' rfl) (.cons (.int' rfl) (.cons (.lst _ _ _ (ci_pu .i64) rfl) (.cons (.lst _ _ _ (ci_pu .u8) rfl) .nil))))) .nil) trivial)
      · (simp only [AllT, tl_cons, tl_nil, upd_apply, List.getD_cons_zero, List.getD_cons_succ, Nat.reduceEqDiff, ↓reduceIte, and_true]); exact ⟨(.lst _ _ _ Msg.pu rfl), (.ptr _ _ _ _ _ rfl), (.bool' rfl), (.bool' (by first | rfl | assumption | (simp_all; done)))⟩
    · have H := cond_f zc11 H
      obtain ⟨r14, zh14, H⟩ := bind_some H
      have zk14 := law05_Great_pc zh14
      refine bool_split (b := r14) (fun zc12 => ?_) (fun zc12 => ?_)
      · rw [zc12] at H
        refine a_reg _ rfl (s := ?zs20) ?_ ?_
        rotate_left
        · try simp (maxSteps := 2000000) only [EVT, stepR, evOp, St.ev, St.app, St.put, wrs, frz, evLoad, cut, allOne, datOf, datOf1, evBuiltin, evBin, binInt, TIS, CS, Nat.reduceAdd, Nat.reduceMul, Nat.reduceEqDiff, ↓reduceIte, reduceCtorEq, Nat.reduceLT, Nat.reduceLeDiff, Array.reduceGetElem?, Nat.reduceSub, Nat.reduceBEq, ↓zc11, ↓zc12]
          repeat' with_reducible apply And.intro
          all_goals try ((with_reducible show CallR _ _ _ _ _ _ _); refine cR_s zk13 (.cons (.lst _ _ _ Msg.pu rfl) .nil) (.bool _) ?_; simp (maxSteps := 2000000) only [EVT, stepR, evOp, St.ev, St.app, St.put, wrs, frz, evLoad, cut, allOne, datOf, datOf1, evBuiltin, evBin, binInt, TIS, CS, Nat.reduceAdd, Nat.reduceMul, Nat.reduceEqDiff, ↓reduceIte, reduceCtorEq, Nat.reduceLT, Nat.reduceLeDiff, Array.reduceGetElem?, Nat.reduceSub, Nat.reduceBEq, ↓zc11, ↓zc12])
          repeat' with_reducible apply And.intro
          all_goals try ((with_reducible show CallR _ _ _ _ _ _ _); refine cR_s zk14 (.cons (.ownL (by rfl) (fun e => by cases e) rfl (by first | rfl | omega | (simp; done) | (simp [strBytes_len]; done) | (simp; omega) | (simp_all; done)) (.same _ _ Msg.pu (by first | rfl | (simp only [List.map_append, List.map_cons, List.map_nil, List.map_set, List.map_take, List.map_drop, List.map_replicate, List.append_assoc, List.nil_append, List.append_nil, ci_eq, cb_eq, cs_eq, cl_eq, CS,  List.nil_append]; done) | (simp [CS,  ci_eq, cb_eq, cs_eq, cl_eq]; done) | (simp [CS,  ci_eq, cb_eq, cs_eq, cl_eq]; intro hz; rw [List.take_of_length_le (by simp; omega)])))) .nil) (.bool _) ?_; simp (maxSteps := 2000000) only [EVT, stepR, evOp, St.ev, St.app, St.put, wrs, frz, evLoad, cut, allOne, datOf, datOf1, evBuiltin, evBin, binInt, TIS, CS, Nat.reduceAdd, Nat.reduceMul, Nat.reduceEqDiff, ↓reduceIte, reduceCtorEq, Nat.reduceLT, Nat.reduceLeDiff, Array.reduceGetElem?, Nat.reduceSub, Nat.reduceBEq, ↓zc11, ↓zc12])
          all_goals ((repeat' apply And.intro) <;> first | rfl | assumption | omega | (left; omega) | (simp; done) | (simp; omega) | (right; exact ⟨_, rfl, rfl, rfl, by decide, by first | omega | (simp; omega)⟩) | (simp_all; done))
        refine cA_n ?_
        refine wk_l [(some 0, ⟨26, 5, false, [[.int .i64 m1.from_, .int .i64 m1.to_, .int .i64 m1.kind, .list 1 (m1.nums.map (ci .i64)), .list 1 (m1.data.map (ci .u8))]]⟩)] [] [(0, .list 5 (w1.map Msg.c)), (3, .ptr 0 0 0 5), (5, .bool r1), (29, .bool true)] (by show ([0, 3, 5, 29] : List Nat).Nodup; decide) (by show ([0] : List Nat).Nodup; decide) ?_ ?_ (fun t0 => ⟨true, t0, H, rfl⟩)
        · exact (allB_some (by rfl) rfl (.cons (.cons (.int' rfl) (.cons (.int' rfl) (.cons (.int' rfl) (.cons (.lst _ _ _ (ci_pu .i64) rfl) (.cons (.lst _ _ _ (ci_pu .u8) rfl) .nil))))) .nil) trivial)
        · (simp only [AllT, tl_cons, tl_nil, upd_apply, List.getD_cons_zero, List.getD_cons_succ, Nat.reduceEqDiff, ↓reduceIte, and_true]); exact ⟨(.lst _ _ _ Msg.pu rfl), (.ptr _ _ _ _ _ rfl), (.bool' rfl), (.bool' (by first | rfl | assumption | (simp_all; done)))⟩
      · rw [zc12] at H
        refine a_reg _ rfl (s := ?zs21) ?_ ?_
        rotate_left
        · try simp (maxSteps := 2000000) only [EVT, stepR, evOp, St.ev, St.app, St.put, wrs, frz, evLoad, cut, allOne, datOf, datOf1, evBuiltin, evBin, binInt, TIS, CS, Nat.reduceAdd, Nat.reduceMul, Nat.reduceEqDiff, ↓reduceIte, reduceCtorEq, Nat.reduceLT, Nat.reduceLeDiff, Array.reduceGetElem?, Nat.reduceSub, Nat.reduceBEq, ↓zc11, ↓zc12]
          repeat' with_reducible apply And.intro
          all_goals try ((with_reducible show CallR _ _ _ _ _ _ _); refine cR_s zk13 (.cons (.lst _ _ _ Msg.pu rfl) .nil) (.bool _) ?_; simp (maxSteps := 2000000) only [EVT, stepR, evOp, St.ev, St.app, St.put, wrs, frz, evLoad, cut, allOne, datOf, datOf1, evBuiltin, evBin, binInt, TIS, CS, Nat.reduceAdd, Nat.reduceMul, Nat.reduceEqDiff, ↓reduceIte, reduceCtorEq, Nat.reduceLT, Nat.reduceLeDiff, Array.reduceGetElem?, Nat.reduceSub, Nat.reduceBEq, ↓zc11, ↓zc12])
          repeat' with_reducible apply And.intro
          all_goals try ((with_reducible show CallR _ _ _ _ _ _ _); refine cR_s zk14 (.cons (.ownL (by rfl) (fun e => by cases e) rfl (by first | rfl | omega | (simp; done) | (simp [strBytes_len]; done) | (simp; omega) | (simp_all; done)) (.same _ _ Msg.pu (by first | rfl | (simp only [List.map_append, List.map_cons, List.map_nil, List.map_set, List.map_take, List.map_drop, List.map_replicate, List.append_assoc, List.nil_append, List.append_nil, ci_eq, cb_eq, cs_eq, cl_eq, CS,  List.nil_append]; done) | (simp [CS,  ci_eq, cb_eq, cs_eq, cl_eq]; done) | (simp [CS,  ci_eq, cb_eq, cs_eq, cl_eq]; intro hz; rw [List.take_of_length_le (by simp; omega)])))) .nil) (.bool _) ?_; simp (maxSteps := 2000000) only [EVT, stepR, evOp, St.ev, St.app, St.put, wrs, frz, evLoad, cut, allOne, datOf, datOf1, evBuiltin, evBin, binInt, TIS, CS, Nat.reduceAdd, Nat.reduceMul, Nat.reduceEqDiff, ↓reduceIte, reduceCtorEq, Nat.reduceLT, Nat.reduceLeDiff, Array.reduceGetElem?, Nat.reduceSub, Nat.reduceBEq, ↓zc11, ↓zc12])
          all_goals ((repeat' apply And.intro) <;> first | rfl | assumption | omega | (left; omega) | (simp; done) | (simp; omega) | (right; exact ⟨_, rfl, rfl, rfl, by decide, by first | omega | (simp; omega)⟩) | (simp_all; done))
        refine cA_n ?_
        refine wk_l [(some 0, ⟨26, 5, false, [[.int .i64 m1.from_, .int .i64 m1.to_, .int .i64 m1.kind, .list 1 (m1.nums.map (ci .i64)), .list 1 (m1.data.map (ci .u8))]]⟩)] [] [(0, .list 5 (w1.map Msg.c)), (3, .ptr 0 0 0 5), (5, .bool r1), (29, .bool (decide (190 < (w1.length : Int))))] (by show ([0, 3, 5, 29] : List Nat).Nodup; decide) (by show ([0] : List Nat).Nodup; decide) ?_ ?_ (fun t0 => ⟨(decide (190 < (w1.length : Int))), t0, H, rfl⟩)
        · exact (allB_some (by rfl) rfl (.cons (.cons (.int' rfl) (.cons (.int' rfl) (.cons (.int' rfl) (.cons (.lst _ _ _ (ci_pu .i64) rfl) (.cons (.lst _ _ _ (ci_pu .u8) rfl) .nil))))) .nil) trivial)
        · (simp only [AllT, tl_cons, tl_nil, upd_apply, List.getD_cons_zero, List.getD_cons_succ, Nat.reduceEqDiff, ↓reduceIte, and_true]); exact ⟨(.lst _ _ _ Msg.pu rfl), (.ptr _ _ _ _ _ rfl), (.bool' rfl), (.bool' rfl)⟩
  · rintro s ⟨v1, t0, H, rfl⟩
    unfold law05_WireBack_J1 at H
    refine a_condb (v1) (by rfl) (fun zc1 => ?_) (fun zc1 => ?_)
    · have H := cond_t zc1 H
      refine a_seq ?_
      refine a_reg _ rfl (s := ?zs3) ?_ ?_
      rotate_left
      · simp (maxSteps := 2000000) only [EVT, stepR, evOp, St.ev, St.app, St.put, wrs, TIS, CS, Nat.reduceAdd, Nat.reduceMul, Nat.reduceEqDiff, ↓reduceIte, reduceCtorEq, Nat.reduceLT, Nat.reduceLeDiff, ↓zc1]
        (repeat' apply And.intro) <;> first | rfl | assumption | omega | (left; omega) | (simp; done) | (simp; omega) | (right; exact ⟨_, rfl, rfl, rfl, by decide, by first | omega | (simp; omega)⟩) | (simp_all; done)
      refine sA_n ?_
      refine a_ret ?_
      refine sA_r ?_
      obtain rfl := Option.some.inj H
      refine e_r2 (d := ?zd1) ?_ ?_
      rotate_left
      · simp only [EVT, resR, single, evLoad, cut, TIS, CS, Nat.reduceAdd, Nat.reduceEqDiff, ↓reduceIte, reduceCtorEq, Nat.reduceLT, Nat.reduceLeDiff, Nat.reduceSub, Nat.reduceBEq, zc1]
        (repeat' apply And.intro) <;> first | rfl | assumption | omega | (simp; done)
      exact (.bool' rfl)
    · have H := cond_f zc1 H
      refine a_skip ?_
      refine sA_n ?_
      refine a_seq ?_
      obtain ⟨r2, zh2, H⟩ := bind_some H
      have zk2 := wire_Send_pc zh2
      refine a_reg _ rfl (s := ?zs4) ?_ ?_
      rotate_left
      · try simp (maxSteps := 2000000) only [EVT, stepR, evOp, St.ev, St.app, St.put, wrs, evLoad, cut, datOf, datOf1, frz, TIS, CS, Nat.reduceAdd, Nat.reduceMul, Nat.reduceEqDiff, ↓reduceIte, reduceCtorEq, Nat.reduceLT, Nat.reduceLeDiff, Nat.reduceSub, Nat.reduceBEq, ↓zc1]
        repeat' with_reducible apply And.intro
        all_goals try ((with_reducible show CallR _ _ _ _ _ _ _); refine cR_p zk2 (.cons (.lst _ _ _ Msg.pu rfl) (.cons (.agg' (.cons (.int' rfl) (.cons (.int' rfl) (.cons (.int' rfl) (.cons (.lst _ _ _ (ci_pu .i64) rfl) (.cons (.lst _ _ _ (ci_pu .u8) rfl) .nil)))))) (.cons (.int' rfl) .nil))) ?_; simp (maxSteps := 2000000) only [EVT, stepR, evOp, St.ev, St.app, St.put, wrs, evLoad, cut, datOf, datOf1, frz, TIS, CS, Nat.reduceAdd, Nat.reduceMul, Nat.reduceEqDiff, ↓reduceIte, reduceCtorEq, Nat.reduceLT, Nat.reduceLeDiff, Nat.reduceSub, Nat.reduceBEq, ↓zc1])
        all_goals ((repeat' apply And.intro) <;> first | rfl | assumption | omega | (left; omega) | (simp; done) | (simp; omega) | (right; exact ⟨_, rfl, rfl, rfl, by decide, by first | omega | (simp; omega)⟩) | (simp_all; done))
      refine sA_n ?_
      refine a_seq ?_
      obtain ⟨r3, zh3, H⟩ := bind_some H
      have zk3 := wire_Take_pc zh3
      refine a_reg _ rfl (s := ?zs5) ?_ ?_
      rotate_left
      · try simp (maxSteps := 2000000) only [EVT, stepR, evOp, St.ev, St.app, St.put, wrs, evBuiltin, frz, allOne, evStore, setR, TIS, CS, Nat.reduceAdd, Nat.reduceMul, Nat.reduceEqDiff, ↓reduceIte, reduceCtorEq, Nat.reduceLT, Nat.reduceLeDiff, Nat.reduceSub, Nat.reduceBEq, ↓zc1]
        repeat' with_reducible apply And.intro
        all_goals try ((with_reducible show CallR _ _ _ _ _ _ _); refine cR_p zk3 (.cons (.lst _ _ _ Msg.pu rfl) (.cons (.int' rfl) .nil)) ?_; simp (maxSteps := 2000000) only [EVT, stepR, evOp, St.ev, St.app, St.put, wrs, evBuiltin, frz, allOne, evStore, setR, TIS, CS, Nat.reduceAdd, Nat.reduceMul, Nat.reduceEqDiff, ↓reduceIte, reduceCtorEq, Nat.reduceLT, Nat.reduceLeDiff, Nat.reduceSub, Nat.reduceBEq, ↓zc1])
        all_goals ((repeat' apply And.intro) <;> first | rfl | assumption | omega | (left; omega) | (simp; done) | (simp; omega) | (right; exact ⟨_, rfl, rfl, rfl, by decide, by first | omega | (simp; omega)⟩) | (simp_all; done))
      refine sA_n ?_
      refine a_seq ?_
      obtain ⟨r4, zh4, H⟩ := bind_some H
      have zk4 := wire_Send_pc zh4
      refine a_reg _ rfl (s := ?zs6) ?_ ?_
      rotate_left
      · try simp (maxSteps := 2000000) only [EVT, stepR, evOp, St.ev, St.app, St.put, wrs, evLoad, cut, datOf, datOf1, frz, TIS, CS, Nat.reduceAdd, Nat.reduceMul, Nat.reduceEqDiff, ↓reduceIte, reduceCtorEq, Nat.reduceLT, Nat.reduceLeDiff, Nat.reduceSub, Nat.reduceBEq, ↓zc1]
        repeat' with_reducible apply And.intro
        all_goals try ((with_reducible show CallR _ _ _ _ _ _ _); refine cR_p zk4 (.cons (.lst _ _ _ Msg.pu rfl) (.cons (.agg' (.cons (.int' rfl) (.cons (.int' rfl) (.cons (.int' rfl) (.cons (.lst _ _ _ (ci_pu .i64) rfl) (.cons (.lst _ _ _ (ci_pu .u8) rfl) .nil)))))) (.cons (.int' rfl) .nil))) ?_; simp (maxSteps := 2000000) only [EVT, stepR, evOp, St.ev, St.app, St.put, wrs, evLoad, cut, datOf, datOf1, frz, TIS, CS, Nat.reduceAdd, Nat.reduceMul, Nat.reduceEqDiff, ↓reduceIte, reduceCtorEq, Nat.reduceLT, Nat.reduceLeDiff, Nat.reduceSub, Nat.reduceBEq, ↓zc1])
        all_goals ((repeat' apply And.intro) <;> first | rfl | assumption | omega | (left; omega) | (simp; done) | (simp; omega) | (right; exact ⟨_, rfl, rfl, rfl, by decide, by first | omega | (simp; omega)⟩) | (simp_all; done))
      refine sA_n ?_
      refine a_seq ?_
      obtain ⟨r5, zh5, H⟩ := bind_some H
      have zk5 := wire_Take_pc zh5
      refine a_reg _ rfl (s := ?zs7) ?_ ?_
      rotate_left
      · try simp (maxSteps := 2000000) only [EVT, stepR, evOp, St.ev, St.app, St.put, wrs, evBuiltin, frz, allOne, evStore, setR, TIS, CS, Nat.reduceAdd, Nat.reduceMul, Nat.reduceEqDiff, ↓reduceIte, reduceCtorEq, Nat.reduceLT, Nat.reduceLeDiff, Nat.reduceSub, Nat.reduceBEq, ↓zc1]
        repeat' with_reducible apply And.intro
        all_goals try ((with_reducible show CallR _ _ _ _ _ _ _); refine cR_p zk5 (.cons (.lst _ _ _ Msg.pu rfl) (.cons (.int' rfl) .nil)) ?_; simp (maxSteps := 2000000) only [EVT, stepR, evOp, St.ev, St.app, St.put, wrs, evBuiltin, frz, allOne, evStore, setR, TIS, CS, Nat.reduceAdd, Nat.reduceMul, Nat.reduceEqDiff, ↓reduceIte, reduceCtorEq, Nat.reduceLT, Nat.reduceLeDiff, Nat.reduceSub, Nat.reduceBEq, ↓zc1])
        all_goals ((repeat' apply And.intro) <;> first | rfl | assumption | omega | (left; omega) | (simp; done) | (simp; omega) | (right; exact ⟨_, rfl, rfl, rfl, by decide, by first | omega | (simp; omega)⟩) | (simp_all; done))
      refine sA_n ?_
      refine a_seq ?_
      obtain ⟨r6, zh6, H⟩ := bind_some H
      have zk6 := wire_Take_pc zh6
      refine a_reg _ rfl (s := ?zs8) ?_ ?_
      rotate_left
      · try simp (maxSteps := 2000000) only [EVT, stepR, evOp, St.ev, St.app, St.put, wrs, evBuiltin, datOf, datOf1, evBin, binInt, frz, allOne, evStore, setR, TIS, CS, Nat.reduceAdd, Nat.reduceMul, Nat.reduceEqDiff, ↓reduceIte, reduceCtorEq, Nat.reduceLT, Nat.reduceLeDiff, Nat.reduceSub, Nat.reduceBEq, ↓zc1]
        repeat' with_reducible apply And.intro
        all_goals try ((with_reducible show CallR _ _ _ _ _ _ _); refine cR_p zk6 (.cons (.lst _ _ _ Msg.pu rfl) (.cons (.int' rfl) .nil)) ?_; simp (maxSteps := 2000000) only [EVT, stepR, evOp, St.ev, St.app, St.put, wrs, evBuiltin, datOf, datOf1, evBin, binInt, frz, allOne, evStore, setR, TIS, CS, Nat.reduceAdd, Nat.reduceMul, Nat.reduceEqDiff, ↓reduceIte, reduceCtorEq, Nat.reduceLT, Nat.reduceLeDiff, Nat.reduceSub, Nat.reduceBEq, ↓zc1])
        all_goals ((repeat' apply And.intro) <;> first | rfl | assumption | omega | (left; omega) | (simp; done) | (simp; omega) | (right; exact ⟨_, rfl, rfl, rfl, by decide, by first | omega | (simp; omega)⟩) | (simp_all; done))
      refine sA_n ?_
      refine a_seq ?_
      refine bool_split (b := r1) (fun zc2 => ?_) (fun zc2 => ?_)
      · have H := cond_t zc2 H
        refine bool_split (b := r3.2.2) (fun zc3 => ?_) (fun zc3 => ?_)
        · have H := cond_t zc3 H
          obtain ⟨r7, zh7, H⟩ := bind_some H
          have zk7 := ref05_Same_pc zh7
          refine bool_split (b := r7) (fun zc4 => ?_) (fun zc4 => ?_)
          · have H := cond_t zc4 H
            obtain ⟨r8, zh8, H⟩ := bind_some H
            have zk8 := ref05_SameAll_pc zh8
            refine bool_split (b := r8) (fun zc5 => ?_) (fun zc5 => ?_)
            · have H := cond_t zc5 H
              refine bool_split (b := r5.2.2) (fun zc6 => ?_) (fun zc6 => ?_)
              · have H := cond_t zc6 H
                refine bool_split (b := r6.2.2) (fun zc7 => ?_) (fun zc7 => ?_)
                · have H := cond_t zc7 H
                  obtain ⟨r9, zh9, H⟩ := bind_some H
                  have zk9 := ref05_Same_pc zh9
                  refine bool_split (b := r9) (fun zc8 => ?_) (fun zc8 => ?_)
                  · have H := cond_t zc8 H
                    obtain ⟨r10, zh10, H⟩ := bind_some H
                    have zk10 := ref05_Same_pc zh10
                    refine bool_split (b := r10) (fun zc9 => ?_) (fun zc9 => ?_)
                    · have H := cond_t zc9 H
                      obtain ⟨r11, zh11, H⟩ := bind_some H
                      have zk11 := ref05_SameAll_pc zh11
                      refine bool_split (b := r11) (fun zc10 => ?_) (fun zc10 => ?_)
                      · have H := cond_t zc10 H
                        obtain ⟨r12, zh12, H⟩ := bind_some H
                        have zk12 := ref05_SameAll_pc zh12
                        refine a_reg _ rfl (s := ?zs9) ?_ ?_
                        rotate_left
                        · try simp (maxSteps := 2000000) only [EVT, stepR, evOp, St.ev, St.app, St.put, wrs, datOf, datOf1, evLoad, cut, frz, TIS, CS, Nat.reduceAdd, Nat.reduceMul, Nat.reduceEqDiff, ↓reduceIte, reduceCtorEq, Nat.reduceLT, Nat.reduceLeDiff, Array.reduceGetElem?, Nat.reduceSub, Nat.reduceBEq, ↓zc1, ↓zc2, ↓zc3, ↓zc4, ↓zc5, ↓zc6, ↓zc7, ↓zc8, ↓zc9, ↓zc10]
                          repeat' with_reducible apply And.intro
                          all_goals try ((with_reducible show CallR _ _ _ _ _ _ _); refine cR_s zk7 (.cons (.agg' (.cons (.int' rfl) (.cons (.int' rfl) (.cons (.int' rfl) (.cons (.lst _ _ _ (ci_pu .i64) rfl) (.cons (.lst _ _ _ (ci_pu .u8) rfl) .nil)))))) (.cons (.agg' (.cons (.int' rfl) (.cons (.int' rfl) (.cons (.int' rfl) (.cons (.lst _ _ _ (ci_pu .i64) rfl) (.cons (.lst _ _ _ (ci_pu .u8) rfl) .nil)))))) .nil)) (.bool _) ?_; simp (maxSteps := 2000000) only [EVT, stepR, evOp, St.ev, St.app, St.put, wrs, datOf, datOf1, evLoad, cut, frz, TIS, CS, Nat.reduceAdd, Nat.reduceMul, Nat.reduceEqDiff, ↓reduceIte, reduceCtorEq, Nat.reduceLT, Nat.reduceLeDiff, Array.reduceGetElem?, Nat.reduceSub, Nat.reduceBEq, ↓zc1, ↓zc2, ↓zc3, ↓zc4, ↓zc5, ↓zc6, ↓zc7, ↓zc8, ↓zc9, ↓zc10])
                          repeat' with_reducible apply And.intro
                          all_goals try ((with_reducible show CallR _ _ _ _ _ _ _); refine cR_s zk8 (.cons (.lst _ _ _ Msg.pu rfl) (.cons (.lst _ _ _ Msg.pu rfl) .nil)) (.bool _) ?_; simp (maxSteps := 2000000) only [EVT, stepR, evOp, St.ev, St.app, St.put, wrs, datOf, datOf1, evLoad, cut, frz, TIS, CS, Nat.reduceAdd, Nat.reduceMul, Nat.reduceEqDiff, ↓reduceIte, reduceCtorEq, Nat.reduceLT, Nat.reduceLeDiff, Array.reduceGetElem?, Nat.reduceSub, Nat.reduceBEq, ↓zc1, ↓zc2, ↓zc3, ↓zc4, ↓zc5, ↓zc6, ↓zc7, ↓zc8, ↓zc9, ↓zc10])
                          repeat' with_reducible apply And.intro
                          all_goals try ((with_reducible show CallR _ _ _ _ _ _ _); refine cR_s zk9 (.cons (.agg' (.cons (.int' rfl) (.cons (.int' rfl) (.cons (.int' rfl) (.cons (.lst _ _ _ (ci_pu .i64) rfl) (.cons (.lst _ _ _ (ci_pu .u8) rfl) .nil)))))) (.cons (.agg' (.cons (.int' rfl) (.cons (.int' rfl) (.cons (.int' rfl) (.cons (.lst _ _ _ (ci_pu .i64) rfl) (.cons (.lst _ _ _ (ci_pu .u8) rfl) .nil)))))) .nil)) (.bool _) ?_; simp (maxSteps := 2000000) only [EVT, stepR, evOp, St.ev, St.app, St.put, wrs, datOf, datOf1, evLoad, cut, frz, TIS, CS, Nat.reduceAdd, Nat.reduceMul, Nat.reduceEqDiff, ↓reduceIte, reduceCtorEq, Nat.reduceLT, Nat.reduceLeDiff, Array.reduceGetElem?, Nat.reduceSub, Nat.reduceBEq, ↓zc1, ↓zc2, ↓zc3, ↓zc4, ↓zc5, ↓zc6, ↓zc7, ↓zc8, ↓zc9, ↓zc10])
                          repeat' with_reducible apply And.intro
                          all_goals try ((with_reducible show CallR _ _ _ _ _ _ _); refine cR_s zk10 (.cons (.agg' (.cons (.int' rfl) (.cons (.int' rfl) (.cons (.int' rfl) (.cons (.lst _ _ _ (ci_pu .i64) rfl) (.cons (.lst _ _ _ (ci_pu .u8) rfl) .nil)))))) (.cons (.agg' (.cons (.int' rfl) (.cons (.int' rfl) (.cons (.int' rfl) (.cons (.lst _ _ _ (ci_pu .i64) rfl) (.cons (.lst _ _ _ (ci_pu .u8) rfl) .nil)))))) .nil)) (.bool _) ?_; simp (maxSteps := 2000000) only [EVT, stepR, evOp, St.ev, St.app, St.put, wrs, datOf, datOf1, evLoad, cut, frz, TIS, CS, Nat.reduceAdd, Nat.reduceMul, Nat.reduceEqDiff, ↓reduceIte, reduceCtorEq, Nat.reduceLT, Nat.reduceLeDiff, Array.reduceGetElem?, Nat.reduceSub, Nat.reduceBEq, ↓zc1, ↓zc2, ↓zc3, ↓zc4, ↓zc5, ↓zc6, ↓zc7, ↓zc8, ↓zc9, ↓zc10])
                          repeat' with_reducible apply And.intro
                          all_goals try ((with_reducible show CallR _ _ _ _ _ _ _); refine cR_s zk11 (.cons (.lst _ _ _ Msg.pu rfl) (.cons (.lst _ _ _ Msg.pu rfl) .nil)) (.bool _) ?_; simp (maxSteps := 2000000) only [EVT, stepR, evOp, St.ev, St.app, St.put, wrs, datOf, datOf1, evLoad, cut, frz, TIS, CS, Nat.reduceAdd, Nat.reduceMul, Nat.reduceEqDiff, ↓reduceIte, reduceCtorEq, Nat.reduceLT, Nat.reduceLeDiff, Array.reduceGetElem?, Nat.reduceSub, Nat.reduceBEq, ↓zc1, ↓zc2, ↓zc3, ↓zc4, ↓zc5, ↓zc6, ↓zc7, ↓zc8, ↓zc9, ↓zc10])
                          repeat' with_reducible apply And.intro
                          all_goals try ((with_reducible show CallR _ _ _ _ _ _ _); refine cR_s zk12 (.cons (.lst _ _ _ Msg.pu rfl) (.cons (.lst _ _ _ Msg.pu rfl) .nil)) (.bool _) ?_; simp (maxSteps := 2000000) only [EVT, stepR, evOp, St.ev, St.app, St.put, wrs, datOf, datOf1, evLoad, cut, frz, TIS, CS, Nat.reduceAdd, Nat.reduceMul, Nat.reduceEqDiff, ↓reduceIte, reduceCtorEq, Nat.reduceLT, Nat.reduceLeDiff, Array.reduceGetElem?, Nat.reduceSub, Nat.reduceBEq, ↓zc1, ↓zc2, ↓zc3, ↓zc4, ↓zc5, ↓zc6, ↓zc7, ↓zc8, ↓zc9, ↓zc10])
                          all_goals ((repeat' apply And.intro) <;> first | rfl | assumption | omega | (left; omega) | (simp; done) | (simp; omega) | (right; exact ⟨_, rfl, rfl, rfl, by decide, by first | omega | (simp; omega)⟩) | (simp_all; done))
                        refine sA_n ?_
                        refine a_ret ?_
                        obtain rfl := Option.some.inj H
                        refine e_r2 (d := ?zd2) ?_ ?_
                        rotate_left
                        · simp only [EVT, resR, single, evLoad, cut, TIS, CS, Nat.reduceAdd, Nat.reduceEqDiff, ↓reduceIte, reduceCtorEq, Nat.reduceLT, Nat.reduceLeDiff, Nat.reduceSub, Nat.reduceBEq, zc1, zc2, zc3, zc4, zc5, zc6, zc7, zc8, zc9, zc10]
                          (repeat' apply And.intro) <;> first | rfl | assumption | omega | (simp; done)
                        exact (.bool' rfl)
                      · have H := cond_f zc10 H
                        refine a_reg _ rfl (s := ?zs10) ?_ ?_
                        rotate_left
                        · try simp (maxSteps := 2000000) only [EVT, stepR, evOp, St.ev, St.app, St.put, wrs, datOf, datOf1, evLoad, cut, frz, TIS, CS, Nat.reduceAdd, Nat.reduceMul, Nat.reduceEqDiff, ↓reduceIte, reduceCtorEq, Nat.reduceLT, Nat.reduceLeDiff, Array.reduceGetElem?, Nat.reduceSub, Nat.reduceBEq, ↓zc1, ↓zc2, ↓zc3, ↓zc4, ↓zc5, ↓zc6, ↓zc7, ↓zc8, ↓zc9, ↓zc10]
                          repeat' with_reducible apply And.intro
                          all_goals try ((with_reducible show CallR _ _ _ _ _ _ _); refine cR_s zk7 (.cons (.agg' (.cons (.int' rfl) (.cons (.int' rfl) (.cons (.int' rfl) (.cons (.lst _ _ _ (ci_pu .i64) rfl) (.cons (.lst _ _ _ (ci_pu .u8) rfl) .nil)))))) (.cons (.agg' (.cons (.int' rfl) (.cons (.int' rfl) (.cons (.int' rfl) (.cons (.lst _ _ _ (ci_pu .i64) rfl) (.cons (.lst _ _ _ (ci_pu .u8) rfl) .nil)))))) .nil)) (.bool _) ?_; simp (maxSteps := 2000000) only [EVT, stepR, evOp, St.ev, St.app, St.put, wrs, datOf, datOf1, evLoad, cut, frz, TIS, CS, Nat.reduceAdd, Nat.reduceMul, Nat.reduceEqDiff, ↓reduceIte, reduceCtorEq, Nat.reduceLT, Nat.reduceLeDiff, Array.reduceGetElem?, Nat.reduceSub, Nat.reduceBEq, ↓zc1, ↓zc2, ↓zc3, ↓zc4, ↓zc5, ↓zc6, ↓zc7, ↓zc8, ↓zc9, ↓zc10])
                          repeat' with_reducible apply And.intro
                          all_goals try ((with_reducible show CallR _ _ _ _ _ _ _); refine cR_s zk8 (.cons (.lst _ _ _ Msg.pu rfl) (.cons (.lst _ _ _ Msg.pu rfl) .nil)) (.bool _) ?_; simp (maxSteps := 2000000) only [EVT, stepR, evOp, St.ev, St.app, St.put, wrs, datOf, datOf1, evLoad, cut, frz, TIS, CS, Nat.reduceAdd, Nat.reduceMul, Nat.reduceEqDiff, ↓reduceIte, reduceCtorEq, Nat.reduceLT, Nat.reduceLeDiff, Array.reduceGetElem?, Nat.reduceSub, Nat.reduceBEq, ↓zc1, ↓zc2, ↓zc3, ↓zc4, ↓zc5, ↓zc6, ↓zc7, ↓zc8, ↓zc9, ↓zc10])
                          repeat' with_reducible apply And.intro
                          all_goals try ((with_reducible show CallR _ _ _ _ _ _ _); refine cR_s zk9 (.cons (.agg' (.cons (.int' rfl) (.cons (.int' rfl) (.cons (.int' rfl) (.cons (.lst _ _ _ (ci_pu .i64) rfl) (.cons (.lst _ _ _ (ci_pu .u8) rfl) .nil)))))) (.cons (.agg' (.cons (.int' rfl) (.cons (.int' rfl) (.cons (.int' rfl) (.cons (.lst _ _ _ (ci_pu .i64) rfl) (.cons (.lst _ _ _ (ci_pu .u8) rfl) .nil)))))) .nil)) (.bool _) ?_; simp (maxSteps := 2000000) only [EVT, stepR, evOp, St.ev, St.app, St.put, wrs, datOf, datOf1, evLoad, cut, frz, TIS, CS, Nat.reduceAdd, Nat.reduceMul, Nat.reduceEqDiff, ↓reduceIte, reduceCtorEq, Nat.reduceLT, Nat.reduceLeDiff, Array.reduceGetElem?, Nat.reduceSub, Nat.reduceBEq, ↓zc1, ↓zc2, ↓zc3, ↓zc4, ↓zc5, ↓zc6, ↓zc7, ↓zc8, ↓zc9, ↓zc10])
                          repeat' with_reducible apply And.intro
                          all_goals try ((with_reducible show CallR _ _ _ _ _ _ _); refine cR_s zk10 (.cons (.agg' (.cons (.int' rfl) (.cons (.int' rfl) (.cons (.int' rfl) (.cons (.lst _ _ _ (ci_pu .i64) rfl) (.cons (.lst _ _ _ (ci_pu .u8) rfl) .nil)))))) (.cons (.agg' (.cons (.int' rfl) (.cons (.int' rfl) (.cons (.int' rfl) (.cons (.lst _ _ _ (ci_pu .i64) rfl) (.cons (.lst _ _ _ (ci_pu .u8) rfl) .nil)))))) .nil)) (.bool _) ?_; simp (maxSteps := 2000000) only [EVT, stepR, evOp, St.ev, St.app, St.put, wrs, datOf, datOf1, evLoad, cut, frz, TIS, CS, Nat.reduceAdd, Nat.reduceMul, Nat.reduceEqDiff, ↓reduceIte, reduceCtorEq, Nat.reduceLT, Nat.reduceLeDiff, Array.reduceGetElem?, Nat.reduceSub, Nat.reduceBEq, ↓zc1, ↓zc2, ↓zc3, ↓zc4, ↓zc5, ↓zc6, ↓zc7, ↓zc8, ↓zc9, ↓zc10])
                          repeat' with_reducible apply And.intro
                          all_goals try ((with_reducible show CallR _ _ _ _ _ _ _); refine cR_s zk11 (.cons (.lst _ _ _ Msg.pu rfl) (.cons (.lst _ _ _ Msg.pu rfl) .nil)) (.bool _) ?_; simp (maxSteps := 2000000) only [EVT, stepR, evOp, St.ev, St.app, St.put, wrs, datOf, datOf1, evLoad, cut, frz, TIS, CS, Nat.reduceAdd, Nat.reduceMul, Nat.reduceEqDiff, ↓reduceIte, reduceCtorEq, Nat.reduceLT, Nat.reduceLeDiff, Array.reduceGetElem?, Nat.reduceSub, Nat.reduceBEq, ↓zc1, ↓zc2, ↓zc3, ↓zc4, ↓zc5, ↓zc6, ↓zc7, ↓zc8, ↓zc9, ↓zc10])
                          all_goals ((repeat' apply And.intro) <;> first | rfl | assumption | omega | (left; omega) | (simp; done) | (simp; omega) | (right; exact ⟨_, rfl, rfl, rfl, by decide, by first | omega | (simp; omega)⟩) | (simp_all; done))
                        refine sA_n ?_
                        refine a_ret ?_
                        obtain rfl := Option.some.inj H
                        refine e_r2 (d := ?zd3) ?_ ?_
                        rotate_left
                        · simp only [EVT, resR, single, evLoad, cut, TIS, CS, Nat.reduceAdd, Nat.reduceEqDiff, ↓reduceIte, reduceCtorEq, Nat.reduceLT, Nat.reduceLeDiff, Nat.reduceSub, Nat.reduceBEq, zc1, zc2, zc3, zc4, zc5, zc6, zc7, zc8, zc9, zc10]
                          (repeat' apply And.intro) <;> first | rfl | assumption | omega | (simp; done)
                        exact (.bool' (by first | rfl | assumption | (simp_all; done)))
                    · have H := cond_f zc9 H
                      refine a_reg _ rfl (s := ?zs11) ?_ ?_
                      rotate_left
                      · try simp (maxSteps := 2000000) only [EVT, stepR, evOp, St.ev, St.app, St.put, wrs, datOf, datOf1, evLoad, cut, frz, TIS, CS, Nat.reduceAdd, Nat.reduceMul, Nat.reduceEqDiff, ↓reduceIte, reduceCtorEq, Nat.reduceLT, Nat.reduceLeDiff, Array.reduceGetElem?, Nat.reduceSub, Nat.reduceBEq, ↓zc1, ↓zc2, ↓zc3, ↓zc4, ↓zc5, ↓zc6, ↓zc7, ↓zc8, ↓zc9]
                        repeat' with_reducible apply And.intro
                        all_goals try ((with_reducible show CallR _ _ _ _ _ _ _); refine cR_s zk7 (.cons (.agg' (.cons (.int' rfl) (.cons (.int' rfl) (.cons (.int' rfl) (.cons (.lst _ _ _ (ci_pu .i64) rfl) (.cons (.lst _ _ _ (ci_pu .u8) rfl) .nil)))))) (.cons (.agg' (.cons (.int' rfl) (.cons (.int' rfl) (.cons (.int' rfl) (.cons (.lst _ _ _ (ci_pu .i64) rfl) (.cons (.lst _ _ _ (ci_pu .u8) rfl) .nil)))))) .nil)) (.bool _) ?_; simp (maxSteps := 2000000) only [EVT, stepR, evOp, St.ev, St.app, St.put, wrs, datOf, datOf1, evLoad, cut, frz, TIS, CS, Nat.reduceAdd, Nat.reduceMul, Nat.reduceEqDiff, ↓reduceIte, reduceCtorEq, Nat.reduceLT, Nat.reduceLeDiff, Array.reduceGetElem?, Nat.reduceSub, Nat.reduceBEq, ↓zc1, ↓zc2, ↓zc3, ↓zc4, ↓zc5, ↓zc6, ↓zc7, ↓zc8, ↓zc9])
                        repeat' with_reducible apply And.intro
                        all_goals try ((with_reducible show CallR _ _ _ _ _ _ _); refine cR_s zk8 (.cons (.lst _ _ _ Msg.pu rfl) (.cons (.lst _ _ _ Msg.pu rfl) .nil)) (.bool _) ?_; simp (maxSteps := 2000000) only [EVT, stepR, evOp, St.ev, St.app, St.put, wrs, datOf, datOf1, evLoad, cut, frz, TIS, CS, Nat.reduceAdd, Nat.reduceMul, Nat.reduceEqDiff, ↓reduceIte, reduceCtorEq, Nat.reduceLT, Nat.reduceLeDiff, Array.reduceGetElem?, Nat.reduceSub, Nat.reduceBEq, ↓zc1, ↓zc2, ↓zc3, ↓zc4, ↓zc5, ↓zc6, ↓zc7, ↓zc8, ↓zc9])
                        repeat' with_reducible apply And.intro
                        all_goals try ((with_reducible show CallR _ _ _ _ _ _ _); refine cR_s zk9 (.cons (.agg' (.cons (.int' rfl) (.cons (.int' rfl) (.cons (.int' rfl) (.cons (.lst _ _ _ (ci_pu .i64) rfl) (.cons (.lst _ _ _ (ci_pu .u8) rfl) .nil)))))) (.cons (.agg' (.cons (.int' rfl) (.cons (.int' rfl) (.cons (.int' rfl) (.cons (.lst _ _ _ (ci_pu .i64) rfl) (.cons (.lst _ _ _ (ci_pu .u8) rfl) .nil)))))) .nil)) (.bool _) ?_; simp (maxSteps := 2000000) only [EVT, stepR, evOp, St.ev, St.app, St.put, wrs, datOf, datOf1, evLoad, cut, frz, TIS, CS, Nat.reduceAdd, Nat.reduceMul, Nat.reduceEqDiff, ↓reduceIte, reduceCtorEq, Nat.reduceLT, Nat.reduceLeDiff, Array.reduceGetElem?, Nat.reduceSub, Nat.reduceBEq, ↓zc1, ↓zc2, ↓zc3, ↓zc4, ↓zc5, ↓zc6, ↓zc7, ↓zc8, ↓zc9])
                        repeat' with_reducible apply And.intro
                        all_goals try ((with_reducible show CallR _ _ _ _ _ _ _); refine cR_s zk10 (.cons (.agg' (.cons (.int' rfl) (.cons (.int' rfl) (.cons (.int' rfl) (.cons (.lst _ _ _ (ci_pu .i64) rfl) (.cons (.lst _ _ _ (ci_pu .u8) rfl) .nil)))))) (.cons (.agg' (.cons (.int' rfl) (.cons (.int' rfl) (.cons (.int' rfl) (.cons (.lst _ _ _ (ci_pu .i64) rfl) (.cons (.lst _ _ _ (ci_pu .u8) rfl) .nil)))))) .nil)) (.bool _) ?_; simp (maxSteps := 2000000) only [EVT, stepR, evOp, St.ev, St.app, St.put, wrs, datOf, datOf1, evLoad, cut, frz, TIS, CS, Nat.reduceAdd, Nat.reduceMul, Nat.reduceEqDiff, ↓reduceIte, reduceCtorEq, Nat.reduceLT, Nat.reduceLeDiff, Array.reduceGetElem?, Nat.reduceSub, Nat.reduceBEq, ↓zc1, ↓zc2, ↓zc3, ↓zc4, ↓zc5, ↓zc6, ↓zc7, ↓zc8, ↓zc9])
                        all_goals ((repeat' apply And.intro) <;> first | rfl | assumption | omega | (left; omega) | (simp; done) | (simp; omega) | (right; exact ⟨_, rfl, rfl, rfl, by decide, by first | omega | (simp; omega)⟩) | (simp_all; done))
                      refine sA_n ?_
                      refine a_ret ?_
                      obtain rfl := Option.some.inj H
                      refine e_r2 (d := ?zd4) ?_ ?_
                      rotate_left
                      · simp only [EVT, resR, single, evLoad, cut, TIS, CS, Nat.reduceAdd, Nat.reduceEqDiff, ↓reduceIte, reduceCtorEq, Nat.reduceLT, Nat.reduceLeDiff, Nat.reduceSub, Nat.reduceBEq, zc1, zc2, zc3, zc4, zc5, zc6, zc7, zc8, zc9]
                        (repeat' apply And.intro) <;> first | rfl | assumption | omega | (simp; done)
                      exact (.bool' (by first | rfl | assumption | (simp_all; done)))
                  · have H := cond_f zc8 H
                    refine a_reg _ rfl (s := ?zs12) ?_ ?_
                    rotate_left
                    · try simp (maxSteps := 2000000) only [EVT, stepR, evOp, St.ev, St.app, St.put, wrs, datOf, datOf1, evLoad, cut, frz, TIS, CS, Nat.reduceAdd, Nat.reduceMul, Nat.reduceEqDiff, ↓reduceIte, reduceCtorEq, Nat.reduceLT, Nat.reduceLeDiff, Array.reduceGetElem?, Nat.reduceSub, Nat.reduceBEq, ↓zc1, ↓zc2, ↓zc3, ↓zc4, ↓zc5, ↓zc6, ↓zc7, ↓zc8]
                      repeat' with_reducible apply And.intro
                      all_goals try ((with_reducible show CallR _ _ _ _ _ _ _); refine cR_s zk7 (.cons (.agg' (.cons (.int' rfl) (.cons (.int' rfl) (.cons (.int' rfl) (.cons (.lst _ _ _ (ci_pu .i64) rfl) (.cons (.lst _ _ _ (ci_pu .u8) rfl) .nil)))))) (.cons (.agg' (.cons (.int' rfl) (.cons (.int' rfl) (.cons (.int' rfl) (.cons (.lst _ _ _ (ci_pu .i64) rfl) (.cons (.lst _ _ _ (ci_pu .u8) rfl) .nil)))))) .nil)) (.bool _) ?_; simp (maxSteps := 2000000) only [EVT, stepR, evOp, St.ev, St.app, St.put, wrs, datOf, datOf1, evLoad, cut, frz, TIS, CS, Nat.reduceAdd, Nat.reduceMul, Nat.reduceEqDiff, ↓reduceIte, reduceCtorEq, Nat.reduceLT, Nat.reduceLeDiff, Array.reduceGetElem?, Nat.reduceSub, Nat.reduceBEq, ↓zc1, ↓zc2, ↓zc3, ↓zc4, ↓zc5, ↓zc6, ↓zc7, ↓zc8])
                      repeat' with_reducible apply And.intro
                      all_goals try ((with_reducible show CallR _ _ _ _ _ _ _); refine cR_s zk8 (.cons (.lst _ _ _ Msg.pu rfl) (.cons (.lst _ _ _ Msg.pu rfl) .nil)) (.bool _) ?_; simp (maxSteps := 2000000) only [EVT, stepR, evOp, St.ev, St.app, St.put, wrs, datOf, datOf1, evLoad, cut, frz, TIS, CS, Nat.reduceAdd, Nat.reduceMul, Nat.reduceEqDiff, ↓reduceIte, reduceCtorEq, Nat.reduceLT, Nat.reduceLeDiff, Array.reduceGetElem?, Nat.reduceSub, Nat.reduceBEq, ↓zc1, ↓zc2, ↓zc3, ↓zc4, ↓zc5, ↓zc6, ↓zc7, ↓zc8])
                      repeat' with_reducible apply And.intro
                      all_goals try ((with_reducible show CallR _ _ _ _ _ _ _); refine cR_s zk9 (.cons (.agg' (.cons (.int' rfl) (.cons (.int' rfl) (.cons (.int' rfl) (.cons (.lst _ _ _ (ci_pu .i64) rfl) (.cons (.lst _ _ _ (ci_pu .u8) rfl) .nil)))))) (.cons (.agg' (.cons (.int' rfl) (.cons (.int' rfl) (.cons (.int' rfl) (.cons (.lst _ _ _ (ci_pu .i64) rfl) (.cons (.lst _ _ _ (ci_pu .u8) rfl) .nil)))))) .nil)) (.bool _) ?_; simp (maxSteps := 2000000) only [EVT, stepR, evOp, St.ev, St.app, St.put, wrs, datOf, datOf1, evLoad, cut, frz, TIS, CS, Nat.reduceAdd, Nat.reduceMul, Nat.reduceEqDiff, ↓reduceIte, reduceCtorEq, Nat.reduceLT, Nat.reduceLeDiff, Array.reduceGetElem?, Nat.reduceSub, Nat.reduceBEq, ↓zc1, ↓zc2, ↓zc3, ↓zc4, ↓zc5, ↓zc6, ↓zc7, ↓zc8])
                      all_goals ((repeat' apply And.intro) <;> first | rfl | assumption | omega | (left; omega) | (simp; done) | (simp; omega) | (right; exact ⟨_, rfl, rfl, rfl, by decide, by first | omega | (simp; omega)⟩) | (simp_all; done))
                    refine sA_n ?_
                    refine a_ret ?_
                    obtain rfl := Option.some.inj H
                    refine e_r2 (d := ?zd5) ?_ ?_
                    rotate_left
                    · simp only [EVT, resR, single, evLoad, cut, TIS, CS, Nat.reduceAdd, Nat.reduceEqDiff, ↓reduceIte, reduceCtorEq, Nat.reduceLT, Nat.reduceLeDiff, Nat.reduceSub, Nat.reduceBEq, zc1, zc2, zc3, zc4, zc5, zc6, zc7, zc8]
                      (repeat' apply And.intro) <;> first | rfl | assumption | omega | (simp; done)
                    exact (.bool' (by first | rfl | assumption | (simp_all; done)))
                · have H := cond_f zc7 H
                  refine a_reg _ rfl (s := ?zs13) ?_ ?_
                  rotate_left
                  · try simp (maxSteps := 2000000) only [EVT, stepR, evOp, St.ev, St.app, St.put, wrs, datOf, datOf1, evLoad, cut, frz, TIS, CS, Nat.reduceAdd, Nat.reduceMul, Nat.reduceEqDiff, ↓reduceIte, reduceCtorEq, Nat.reduceLT, Nat.reduceLeDiff, Array.reduceGetElem?, Nat.reduceSub, Nat.reduceBEq, ↓zc1, ↓zc2, ↓zc3, ↓zc4, ↓zc5, ↓zc6, ↓zc7]
                    repeat' with_reducible apply And.intro
                    all_goals try ((with_reducible show CallR _ _ _ _ _ _ _); refine cR_s zk7 (.cons (.agg' (.cons (.int' rfl) (.cons (.int' rfl) (.cons (.int' rfl) (.cons (.lst _ _ _ (ci_pu .i64) rfl) (.cons (.lst _ _ _ (ci_pu .u8) rfl) .nil)))))) (.cons (.agg' (.cons (.int' rfl) (.cons (.int' rfl) (.cons (.int' rfl) (.cons (.lst _ _ _ (ci_pu .i64) rfl) (.cons (.lst _ _ _ (ci_pu .u8) rfl) .nil)))))) .nil)) (.bool _) ?_; simp (maxSteps := 2000000) only [EVT, stepR, evOp, St.ev, St.app, St.put, wrs, datOf, datOf1, evLoad, cut, frz, TIS, CS, Nat.reduceAdd, Nat.reduceMul, Nat.reduceEqDiff, ↓reduceIte, reduceCtorEq, Nat.reduceLT, Nat.reduceLeDiff, Array.reduceGetElem?, Nat.reduceSub, Nat.reduceBEq, ↓zc1, ↓zc2, ↓zc3, ↓zc4, ↓zc5, ↓zc6, ↓zc7])
                    repeat' with_reducible apply And.intro
                    all_goals try ((with_reducible show CallR _ _ _ _ _ _ _); refine cR_s zk8 (.cons (.lst _ _ _ Msg.pu rfl) (.cons (.lst _ _ _ Msg.pu rfl) .nil)) (.bool _) ?_; simp (maxSteps := 2000000) only [EVT, stepR, evOp, St.ev, St.app, St.put, wrs, datOf, datOf1, evLoad, cut, frz, TIS, CS, Nat.reduceAdd, Nat.reduceMul, Nat.reduceEqDiff, ↓reduceIte, reduceCtorEq, Nat.reduceLT, Nat.reduceLeDiff, Array.reduceGetElem?, Nat.reduceSub, Nat.reduceBEq, ↓zc1, ↓zc2, ↓zc3, ↓zc4, ↓zc5, ↓zc6, ↓zc7])
                    all_goals ((repeat' apply And.intro) <;> first | rfl | assumption | omega | (left; omega) | (simp; done) | (simp; omega) | (right; exact ⟨_, rfl, rfl, rfl, by decide, by first | omega | (simp; omega)⟩) | (simp_all; done))
                  refine sA_n ?_
                  refine a_ret ?_
                  obtain rfl := Option.some.inj H
                  refine e_r2 (d := ?zd6) ?_ ?_
                  rotate_left
                  · simp only [EVT, resR, single, evLoad, cut, TIS, CS, Nat.reduceAdd, Nat.reduceEqDiff, ↓reduceIte, reduceCtorEq, Nat.reduceLT, Nat.reduceLeDiff, Nat.reduceSub, Nat.reduceBEq, zc1, zc2, zc3, zc4, zc5, zc6, zc7]
                    (repeat' apply And.intro) <;> first | rfl | assumption | omega | (simp; done)
                  exact (.bool' (by first | rfl | assumption | (simp_all; done)))
              · have H := cond_f zc6 H
                refine a_reg _ rfl (s := ?zs14) ?_ ?_
                rotate_left
                · try simp (maxSteps := 2000000) only [EVT, stepR, evOp, St.ev, St.app, St.put, wrs, datOf, datOf1, evLoad, cut, frz, TIS, CS, Nat.reduceAdd, Nat.reduceMul, Nat.reduceEqDiff, ↓reduceIte, reduceCtorEq, Nat.reduceLT, Nat.reduceLeDiff, Array.reduceGetElem?, Nat.reduceSub, Nat.reduceBEq, ↓zc1, ↓zc2, ↓zc3, ↓zc4, ↓zc5, ↓zc6]
                  repeat' with_reducible apply And.intro
                  all_goals try ((with_reducible show CallR _ _ _ _ _ _ _); refine cR_s zk7 (.cons (.agg' (.cons (.int' rfl) (.cons (.int' rfl) (.cons (.int' rfl) (.cons (.lst _ _ _ (ci_pu .i64) rfl) (.cons (.lst _ _ _ (ci_pu .u8) rfl) .nil)))))) (.cons (.agg' (.cons (.int' rfl) (.cons (.int' rfl) (.cons (.int' rfl) (.cons (.lst _ _ _ (ci_pu .i64) rfl) (.cons (.lst _ _ _ (ci_pu .u8) rfl) .nil)))))) .nil)) (.bool _) ?_; simp (maxSteps := 2000000) only [EVT, stepR, evOp, St.ev, St.app, St.put, wrs, datOf, datOf1, evLoad, cut, frz, TIS, CS, Nat.reduceAdd, Nat.reduceMul, Nat.reduceEqDiff, ↓reduceIte, reduceCtorEq, Nat.reduceLT, Nat.reduceLeDiff, Array.reduceGetElem?, Nat.reduceSub, Nat.reduceBEq, ↓zc1, ↓zc2, ↓zc3, ↓zc4, ↓zc5, ↓zc6])
                  repeat' with_reducible apply And.intro
                  all_goals try ((with_reducible show CallR _ _ _ _ _ _ _); refine cR_s zk8 (.cons (.lst _ _ _ Msg.pu rfl) (.cons (.lst _ _ _ Msg.pu rfl) .nil)) (.bool _) ?_; simp (maxSteps := 2000000) only [EVT, stepR, evOp, St.ev, St.app, St.put, wrs, datOf, datOf1, evLoad, cut, frz, TIS, CS, Nat.reduceAdd, Nat.reduceMul, Nat.reduceEqDiff, ↓reduceIte, reduceCtorEq, Nat.reduceLT, Nat.reduceLeDiff, Array.reduceGetElem?, Nat.reduceSub, Nat.reduceBEq, ↓zc1, ↓zc2, ↓zc3, ↓zc4, ↓zc5, ↓zc6])
                  all_goals ((repeat' apply And.intro) <;> first | rfl | assumption | omega | (left; omega) | (simp; done) | (simp; omega) | (right; exact ⟨_, rfl, rfl, rfl, by decide, by first | omega | (simp; omega)⟩) | (simp_all; done))
                refine sA_n ?_
                refine a_ret ?_
                obtain rfl := Option.some.inj H
                refine e_r2 (d := ?zd7) ?_ ?_
                rotate_left
                · simp only [EVT, resR, single, evLoad, cut, TIS, CS, Nat.reduceAdd, Nat.reduceEqDiff, ↓reduceIte, reduceCtorEq, Nat.reduceLT, Nat.reduceLeDiff, Nat.reduceSub, Nat.reduceBEq, zc1, zc2, zc3, zc4, zc5, zc6]
                  (repeat' apply And.intro) <;> first | rfl | assumption | omega | (simp; done)
                exact (.bool' (by first | rfl | assumption | (simp_all; done)))
            · have H := cond_f zc5 H
              refine a_reg _ rfl (s := ?zs15) ?_ ?_
              rotate_left
              · try simp (maxSteps := 2000000) only [EVT, stepR, evOp, St.ev, St.app, St.put, wrs, datOf, datOf1, evLoad, cut, frz, TIS, CS, Nat.reduceAdd, Nat.reduceMul, Nat.reduceEqDiff, ↓reduceIte, reduceCtorEq, Nat.reduceLT, Nat.reduceLeDiff, Array.reduceGetElem?, Nat.reduceSub, Nat.reduceBEq, ↓zc1, ↓zc2, ↓zc3, ↓zc4, ↓zc5]
                repeat' with_reducible apply And.intro
                all_goals try ((with_reducible show CallR _ _ _ _ _ _ _); refine cR_s zk7 (.cons (.agg' (.cons (.int' rfl) (.cons (.int' rfl) (.cons (.int' rfl) (.cons (.lst _ _ _ (ci_pu .i64) rfl) (.cons (.lst _ _ _ (ci_pu .u8) rfl) .nil)))))) (.cons (.agg' (.cons (.int' rfl) (.cons (.int' rfl) (.cons (.int' rfl) (.cons (.lst _ _ _ (ci_pu .i64) rfl) (.cons (.lst _ _ _ (ci_pu .u8) rfl) .nil)))))) .nil)) (.bool _) ?_; simp (maxSteps := 2000000) only [EVT, stepR, evOp, St.ev, St.app, St.put, wrs, datOf, datOf1, evLoad, cut, frz, TIS, CS, Nat.reduceAdd, Nat.reduceMul, Nat.reduceEqDiff, ↓reduceIte, reduceCtorEq, Nat.reduceLT, Nat.reduceLeDiff, Array.reduceGetElem?, Nat.reduceSub, Nat.reduceBEq, ↓zc1, ↓zc2, ↓zc3, ↓zc4, ↓zc5])
                repeat' with_reducible apply And.intro
                all_goals try ((with_reducible show CallR _ _ _ _ _ _ _); refine cR_s zk8 (.cons (.lst _ _ _ Msg.pu rfl) (.cons (.lst _ _ _ Msg.pu rfl) .nil)) (.bool _) ?_; simp (maxSteps := 2000000) only [EVT, stepR, evOp, St.ev, St.app, St.put, wrs, datOf, datOf1, evLoad, cut, frz, TIS, CS, Nat.reduceAdd, Nat.reduceMul, Nat.reduceEqDiff, ↓reduceIte, reduceCtorEq, Nat.reduceLT, Nat.reduceLeDiff, Array.reduceGetElem?, Nat.reduceSub, Nat.reduceBEq, ↓zc1, ↓zc2, ↓zc3, ↓zc4, ↓zc5])
                all_goals ((repeat' apply And.intro) <;> first | rfl | assumption | omega | (left; omega) | (simp; done) | (simp; omega) | (right; exact ⟨_, rfl, rfl, rfl, by decide, by first | omega | (simp; omega)⟩) | (simp_all; done))
              refine sA_n ?_
              refine a_ret ?_
              obtain rfl := Option.some.inj H
              refine e_r2 (d := ?zd8) ?_ ?_
              rotate_left
              · simp only [EVT, resR, single, evLoad, cut, TIS, CS, Nat.reduceAdd, Nat.reduceEqDiff, ↓reduceIte, reduceCtorEq, Nat.reduceLT, Nat.reduceLeDiff, Nat.reduceSub, Nat.reduceBEq, zc1, zc2, zc3, zc4, zc5]
                (repeat' apply And.intro) <;> first | rfl | assumption | omega | (simp; done)
              exact (.bool' (by first | rfl | assumption | (simp_all; done)))
          · have H := cond_f zc4 H
            refine a_reg _ rfl (s := ?zs16) ?_ ?_
            rotate_left
            · try simp (maxSteps := 2000000) only [EVT, stepR, evOp, St.ev, St.app, St.put, wrs, datOf, datOf1, evLoad, cut, frz, TIS, CS, Nat.reduceAdd, Nat.reduceMul, Nat.reduceEqDiff, ↓reduceIte, reduceCtorEq, Nat.reduceLT, Nat.reduceLeDiff, Array.reduceGetElem?, Nat.reduceSub, Nat.reduceBEq, ↓zc1, ↓zc2, ↓zc3, ↓zc4]
              repeat' with_reducible apply And.intro
              all_goals try ((with_reducible show CallR _ _ _ _ _ _ _); refine cR_s zk7 (.cons (.agg' (.cons (.int' rfl) (.cons (.int' rfl) (.cons (.int' rfl) (.cons (.lst _ _ _ (ci_pu .i64) rfl) (.cons (.lst _ _ _ (ci_pu .u8) rfl) .nil)))))) (.cons (.agg' (.cons (.int' rfl) (.cons (.int' rfl) (.cons (.int' rfl) (.cons (.lst _ _ _ (ci_pu .i64) rfl) (.cons (.lst _ _ _ (ci_pu .u8) rfl) .nil)))))) .nil)) (.bool _) ?_; simp (maxSteps := 2000000) only [EVT, stepR, evOp, St.ev, St.app, St.put, wrs, datOf, datOf1, evLoad, cut, frz, TIS, CS, Nat.reduceAdd, Nat.reduceMul, Nat.reduceEqDiff, ↓reduceIte, reduceCtorEq, Nat.reduceLT, Nat.reduceLeDiff, Array.reduceGetElem?, Nat.reduceSub, Nat.reduceBEq, ↓zc1, ↓zc2, ↓zc3, ↓zc4])
              all_goals ((repeat' apply And.intro) <;> first | rfl | assumption | omega | (left; omega) | (simp; done) | (simp; omega) | (right; exact ⟨_, rfl, rfl, rfl, by decide, by first | omega | (simp; omega)⟩) | (simp_all; done))
            refine sA_n ?_
            refine a_ret ?_
            obtain rfl := Option.some.inj H
            refine e_r2 (d := ?zd9) ?_ ?_
            rotate_left
            · simp only [EVT, resR, single, evLoad, cut, TIS, CS, Nat.reduceAdd, Nat.reduceEqDiff, ↓reduceIte, reduceCtorEq, Nat.reduceLT, Nat.reduceLeDiff, Nat.reduceSub, Nat.reduceBEq, zc1, zc2, zc3, zc4]
              (repeat' apply And.intro) <;> first | rfl | assumption | omega | (simp; done)
            exact (.bool' (by first | rfl | assumption | (simp_all; done)))
        · have H := cond_f zc3 H
          refine a_reg _ rfl (s := ?zs17) ?_ ?_
          rotate_left
          · simp (maxSteps := 2000000) only [EVT, stepR, evOp, St.ev, St.app, St.put, wrs, datOf, datOf1, evLoad, cut, frz, TIS, CS, Nat.reduceAdd, Nat.reduceMul, Nat.reduceEqDiff, ↓reduceIte, reduceCtorEq, Nat.reduceLT, Nat.reduceLeDiff, Array.reduceGetElem?, Nat.reduceSub, Nat.reduceBEq, ↓zc1, ↓zc2, ↓zc3]
            try simp (maxSteps := 2000000) only [EVT, stepR, evOp, St.ev, St.app, St.put, wrs, datOf, datOf1, evLoad, cut, frz, TIS, CS, Nat.reduceAdd, Nat.reduceMul, Nat.reduceEqDiff, ↓reduceIte, reduceCtorEq, Nat.reduceLT, Nat.reduceLeDiff, Array.reduceGetElem?, Nat.reduceSub, Nat.reduceBEq, ↓zc1, ↓zc2, ↓zc3]
            (repeat' apply And.intro) <;> first | rfl | assumption | omega | (left; omega) | (simp; done) | (simp; omega) | (right; exact ⟨_, rfl, rfl, rfl, by decide, by first | omega | (simp; omega)⟩) | (simp_all; done)
          refine sA_n ?_
          refine a_ret ?_
          obtain rfl := Option.some.inj H
          refine e_r2 (d := ?zd10) ?_ ?_
          rotate_left
          · simp only [EVT, resR, single, evLoad, cut, TIS, CS, Nat.reduceAdd, Nat.reduceEqDiff, ↓reduceIte, reduceCtorEq, Nat.reduceLT, Nat.reduceLeDiff, Nat.reduceSub, Nat.reduceBEq, zc1, zc2, zc3]
            (repeat' apply And.intro) <;> first | rfl | assumption | omega | (simp; done)
          exact (.bool' (by first | rfl | assumption | (simp_all; done)))
      · have H := cond_f zc2 H
        refine a_reg _ rfl (s := ?zs18) ?_ ?_
        rotate_left
        · simp (maxSteps := 2000000) only [EVT, stepR, evOp, St.ev, St.app, St.put, wrs, datOf, datOf1, evLoad, cut, frz, TIS, CS, Nat.reduceAdd, Nat.reduceMul, Nat.reduceEqDiff, ↓reduceIte, reduceCtorEq, Nat.reduceLT, Nat.reduceLeDiff, Array.reduceGetElem?, Nat.reduceSub, Nat.reduceBEq, ↓zc1, ↓zc2]
          try simp (maxSteps := 2000000) only [EVT, stepR, evOp, St.ev, St.app, St.put, wrs, datOf, datOf1, evLoad, cut, frz, TIS, CS, Nat.reduceAdd, Nat.reduceMul, Nat.reduceEqDiff, ↓reduceIte, reduceCtorEq, Nat.reduceLT, Nat.reduceLeDiff, Array.reduceGetElem?, Nat.reduceSub, Nat.reduceBEq, ↓zc1, ↓zc2]
          (repeat' apply And.intro) <;> first | rfl | assumption | omega | (left; omega) | (simp; done) | (simp; omega) | (right; exact ⟨_, rfl, rfl, rfl, by decide, by first | omega | (simp; omega)⟩) | (simp_all; done)
        refine sA_n ?_
        refine a_ret ?_
        obtain rfl := Option.some.inj H
        refine e_r2 (d := ?zd11) ?_ ?_
        rotate_left
        · simp only [EVT, resR, single, evLoad, cut, TIS, CS, Nat.reduceAdd, Nat.reduceEqDiff, ↓reduceIte, reduceCtorEq, Nat.reduceLT, Nat.reduceLeDiff, Nat.reduceSub, Nat.reduceBEq, zc1, zc2]
          (repeat' apply And.intro) <;> first | rfl | assumption | omega | (simp; done)
        exact (.bool' (by first | rfl | assumption | (simp_all; done)))
end
end Go.Proofs.Yteebeajhoemdpaa
