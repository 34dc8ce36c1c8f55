/- Functions of the program as Lean functions, and that they are so; printed by a program of mine. -/
import Derived.Test.YteebeajhoemdpaaH
set_option linter.unusedSimpArgs false
set_option linter.unusedVariables false
namespace Go.Proofs.Yteebeajhoemdpaa
open Go.Ab
noncomputable section

def law05_WireTo_J2 (w1 : List Msg) (m1 : Msg) (r1 : Bool) (r2 : (List Int)) (n1 : Int) : Option Bool :=
  (wire_Send_f w1 m1 1).bind fun r3 => (wire_To_f r3 m1.to_).bind fun r4 => cond r1 (cond (n1 == (r2.length : Int)) (chk ((r2.length) * 8 ≤ 140737488355328) (chk ((r2.length + 1) * 8 ≤ 140737488355328) ((ref02_Ints_f r4 ((([] : List Int) ++ r2) ++ [(w1.length : Int)])).bind fun r5 => some (r5)))) (some (false))) (some (false))
def law05_WireTo_J3 (k_law05_WireTo_L1 : Int → Int → Option Bool) (i1 : Int) (n3 : Int) : Option Bool :=
  k_law05_WireTo_L1 n3 (IntKind.wrap .i64 (i1 + 1))
def law05_WireTo_J4 (k_law05_WireTo_L1 : Int → Int → Option Bool) (w1 : List Msg) (i1 : Int) (m1 : Msg) (n2 : Int) (v2 : Bool) : Option Bool :=
  cond v2 ((idx w1 i1).bind fun x1 => cond (x1.to_ != m1.to_) (some (false)) (law05_WireTo_J3 k_law05_WireTo_L1 i1 (IntKind.wrap .i64 (n2 + 1)))) ((idx w1 i1).bind fun x2 => cond (x2.to_ == m1.to_) (some (false)) (law05_WireTo_J3 k_law05_WireTo_L1 i1 n2))
def law05_WireTo_L1 (w1 : List Msg) (r2 : (List Int)) (m1 : Msg) (r1 : Bool) : Nat → Int → Int → Option Bool
  | 0, _, _ => none
  | m_ + 1, n2, i1 => cond (decide (i1 < (w1.length : Int))) (cond (decide (n2 < (r2.length : Int))) ((idx r2 n2).bind fun x3 => law05_WireTo_J4 (law05_WireTo_L1 w1 r2 m1 r1 m_) w1 i1 m1 n2 (x3 == i1)) (law05_WireTo_J4 (law05_WireTo_L1 w1 r2 m1 r1 m_) w1 i1 m1 n2 false)) (law05_WireTo_J2 w1 m1 r1 r2 n2)
def law05_WireTo_J1 (r1 : Bool) (w1 : List Msg) (m1 : Msg) (v1 : Bool) : Option Bool :=
  cond v1 (some (r1)) ((wire_To_f w1 m1.to_).bind fun r2 => law05_WireTo_L1 w1 r2 m1 r1 BIG 0 0)
def law05_WireTo_f (w1 : List Msg) (m1 : Msg) : Option Bool :=
  (law05_head_f).bind fun r1 => (law05_Great_f w1).bind fun r6 => cond r6 (law05_WireTo_J1 r1 w1 m1 true) ((law05_Great_f [m1]).bind fun r7 => law05_WireTo_J1 r1 w1 m1 (r7 || (decide (190 < (w1.length : Int)))))
set_option maxHeartbeats 4000000 in
set_option maxRecDepth 20000 in
theorem law05_WireTo_pc {w1 : List Msg} {m1 : Msg} {r : Bool} (H : law05_WireTo_f w1 m1 = some r) : PC Try.prog 8 [.list 5 (w1.map Msg.c), .agg (Msg.c m1)] (.bool r) := by
  refine pcA_of Try.func8 (by rfl) (by decide) 88 (by rfl) [.tmp 4] (by rfl) ?_
  unfold law05_WireTo_f at H
  simp only [ent]
  refine a_seq ?_
  refine a_reg _ rfl (s := ?zs1) ?_ ?_
  rotate_left
  · simp (maxSteps := 2000000) only [EVT, stepR, evOp, St.ev, St.app, St.put, wrs, allOne, datOf, datOf1, TIS, CS, Nat.reduceAdd, Nat.reduceMul, Nat.reduceEqDiff, ↓reduceIte, reduceCtorEq, Nat.reduceLT, Nat.reduceLeDiff]
    (repeat' apply And.intro) <;> first | rfl | assumption | omega | (left; omega) | (simp; done) | (simp; omega) | (right; exact ⟨_, rfl, rfl, rfl, by decide, by first | omega | (simp; omega)⟩) | (simp_all; done)
  refine sA_n ?_
  refine a_seq ?_
  obtain ⟨r1, zh1, H⟩ := bind_some H
  have zk1 := law05_head_pc zh1
  refine a_reg _ rfl (s := ?zs2) ?_ ?_
  rotate_left
  · try simp (maxSteps := 2000000) only [EVT, stepR, evOp, St.ev, St.app, St.put, wrs, frz, TIS, CS, Nat.reduceAdd, Nat.reduceMul, Nat.reduceEqDiff, ↓reduceIte, reduceCtorEq, Nat.reduceLT, Nat.reduceLeDiff, Nat.reduceSub, Nat.reduceBEq]
    repeat' with_reducible apply And.intro
    all_goals try ((with_reducible show CallR _ _ _ _ _ _ _); refine cR_s zk1 .nil (.bool _) ?_; simp (maxSteps := 2000000) only [EVT, stepR, evOp, St.ev, St.app, St.put, wrs, frz, TIS, CS, Nat.reduceAdd, Nat.reduceMul, Nat.reduceEqDiff, ↓reduceIte, reduceCtorEq, Nat.reduceLT, Nat.reduceLeDiff, Nat.reduceSub, Nat.reduceBEq])
    all_goals ((repeat' apply And.intro) <;> first | rfl | assumption | omega | (left; omega) | (simp; done) | (simp; omega) | (right; exact ⟨_, rfl, rfl, rfl, by decide, by first | omega | (simp; omega)⟩) | (simp_all; done))
  refine sA_n ?_
  refine a_seq ?_
  refine a_cut (fun s => ∃ (v1 : Bool) (t0 : Nat → Dat), law05_WireTo_J1 r1 w1 m1 v1 = some r ∧ s = ⟨tl t0 [(0, .list 5 (w1.map Msg.c)), (3, .ptr 0 0 0 5), (5, .bool r1), (22, .bool v1)], hl [⟨26, 5, false, [[.int .i64 m1.from_, .int .i64 m1.to_, .int .i64 m1.kind, .list 1 (m1.nums.map (ci .i64)), .list 1 (m1.data.map (ci .u8))]]⟩], 1, 88⟩) ?_ ?_
  · obtain ⟨r6, zh11, H⟩ := bind_some H
    have zk6 := law05_Great_pc zh11
    refine bool_split (b := r6) (fun zc9 => ?_) (fun zc9 => ?_)
    · have H := cond_t zc9 H
      refine a_reg _ rfl (s := ?zs20) ?_ ?_
      rotate_left
      · try simp (maxSteps := 2000000) only [EVT, stepR, evOp, St.ev, St.app, St.put, wrs, frz, evLoad, cut, allOne, datOf, datOf1, evBuiltin, evBin, binInt, TIS, CS, Nat.reduceAdd, Nat.reduceMul, Nat.reduceEqDiff, ↓reduceIte, reduceCtorEq, Nat.reduceLT, Nat.reduceLeDiff, Array.reduceGetElem?, Nat.reduceSub, Nat.reduceBEq, ↓zc9]
        repeat' with_reducible apply And.intro
        all_goals try ((with_reducible show CallR _ _ _ _ _ _ _); refine cR_s zk6 (.cons (.lst _ _ _ Msg.pu rfl) .nil) (.bool _) ?_; simp (maxSteps := 2000000) only [EVT, stepR, evOp, St.ev, St.app, St.put, wrs, frz, evLoad, cut, allOne, datOf, datOf1, evBuiltin, evBin, binInt, TIS, CS, Nat.reduceAdd, Nat.reduceMul, Nat.reduceEqDiff, ↓reduceIte, reduceCtorEq, Nat.reduceLT, Nat.reduceLeDiff, Array.reduceGetElem?, Nat.reduceSub, Nat.reduceBEq, ↓zc9])
        all_goals ((repeat' apply And.intro) <;> first | rfl | assumption | omega | (left; omega) | (simp; done) | (simp; omega) | (right; exact ⟨_, rfl, rfl, rfl, by decide, by first | omega | (simp; omega)⟩) | (simp_all; done))
      refine cA_n ?_
      refine wk_l [(some 0, ⟨26, 5, false, [[.int .i64 m1.from_, .int .i64 m1.to_, .int .i64 m1.kind, .list 1 (m1.nums.map (ci .i64)), .list 1 (m1.data.map (ci .u8))]]⟩)] [] [(0, .list 5 (w1.map Msg.c)), (3, .ptr 0 0 0 5), (5, .bool r1), (22, .bool true)] (by show ([0, 3, 5, 22] : List Nat).Nodup; decide) (by show ([0] : List Nat).Nodup; decide) ?_ ?_ (fun t0 => ⟨true, t0, H, rfl⟩)
      · exact (allB_some (by rfl) rfl (.cons (.cons (.int' rfl) (.cons (.int' rfl) (.cons (.int' rfl) (.cons (.lst _ _ _ (ci_pu .i64) rfl) (.cons (.lst _ _ _ (ci_pu .u8) rfl) .nil))))) .nil) trivial)
      · (simp only [AllT, tl_cons, tl_nil, upd_apply, List.getD_cons_zero, List.getD_cons_succ, Nat.reduceEqDiff, ↓reduceIte, and_true]); exact ⟨(.lst _ _ _ Msg.pu rfl), (.ptr _ _ _ _ _ rfl), (.bool' rfl), (.bool' (by first | rfl | assumption | (simp_all; done)))⟩
    · have H := cond_f zc9 H
      obtain ⟨r7, zh12, H⟩ := bind_some H
      have zk7 := law05_Great_pc zh12
      refine bool_split (b := r7) (fun zc10 => ?_) (fun zc10 => ?_)
      · rw [zc10] at H
        refine a_reg _ rfl (s := ?zs21) ?_ ?_
        rotate_left
        · try simp (maxSteps := 2000000) only [EVT, stepR, evOp, St.ev, St.app, St.put, wrs, frz, evLoad, cut, allOne, datOf, datOf1, evBuiltin, evBin, binInt, TIS, CS, Nat.reduceAdd, Nat.reduceMul, Nat.reduceEqDiff, ↓reduceIte, reduceCtorEq, Nat.reduceLT, Nat.reduceLeDiff, Array.reduceGetElem?, Nat.reduceSub, Nat.reduceBEq, ↓zc9, ↓zc10]
          repeat' with_reducible apply And.intro
          all_goals try ((with_reducible show CallR _ _ _ _ _ _ _); refine cR_s zk6 (.cons (.lst _ _ _ Msg.pu rfl) .nil) (.bool _) ?_; simp (maxSteps := 2000000) only [EVT, stepR, evOp, St.ev, St.app, St.put, wrs, frz, evLoad, cut, allOne, datOf, datOf1, evBuiltin, evBin, binInt, TIS, CS, Nat.reduceAdd, Nat.reduceMul, Nat.reduceEqDiff, ↓reduceIte, reduceCtorEq, Nat.reduceLT, Nat.reduceLeDiff, Array.reduceGetElem?, Nat.reduceSub, Nat.reduceBEq, ↓zc9, ↓zc10])
          repeat' with_reducible apply And.intro
          all_goals try ((with_reducible show CallR _ _ _ _ _ _ _); refine cR_s zk7 (.cons (.ownL (by rfl) (fun e => by cases e) rfl (by first | rfl | omega | (simp; done) | (simp [strBytes_len]; done) | (simp; omega) | (simp_all; done)) (.same _ _ Msg.pu (by first | rfl | (simp only [List.map_append, List.map_cons, List.map_nil, List.map_set, List.map_take, List.map_drop, List.map_replicate, List.append_assoc, List.nil_append, List.append_nil, ci_eq, cb_eq, cs_eq, cl_eq, CS,  List.nil_append]; done) | (simp [CS,  ci_eq, cb_eq, cs_eq, cl_eq]; done) | (simp [CS,  ci_eq, cb_eq, cs_eq, cl_eq]; intro hz; rw [List.take_of_length_le (by simp; omega)])))) .nil) (.bool _) ?_; simp (maxSteps := 2000000) only [EVT, stepR, evOp, St.ev, St.app, St.put, wrs, frz, evLoad, cut, allOne, datOf, datOf1, evBuiltin, evBin, binInt, TIS, CS, Nat.reduceAdd, Nat.reduceMul, Nat.reduceEqDiff, ↓reduceIte, reduceCtorEq, Nat.reduceLT, Nat.reduceLeDiff, Array.reduceGetElem?, Nat.reduceSub, Nat.reduceBEq, ↓zc9, ↓zc10])
          all_goals ((repeat' apply And.intro) <;> first | rfl | assumption | omega | (left; omega) | (simp; done) | (simp; omega) | (right; exact ⟨_, rfl, rfl, rfl, by decide, by first | omega | (simp; omega)⟩) | (simp_all; done))
        refine cA_n ?_
        refine wk_l [(some 0, ⟨26, 5, false, [[.int .i64 m1.from_, .int .i64 m1.to_, .int .i64 m1.kind, .list 1 (m1.nums.map (ci .i64)), .list 1 (m1.data.map (ci .u8))]]⟩)] [] [(0, .list 5 (w1.map Msg.c)), (3, .ptr 0 0 0 5), (5, .bool r1), (22, .bool true)] (by show ([0, 3, 5, 22] : List Nat).Nodup; decide) (by show ([0] : List Nat).Nodup; decide) ?_ ?_ (fun t0 => ⟨true, t0, H, rfl⟩)
        · exact (allB_some (by rfl) rfl (.cons (.cons (.int' rfl) (.cons (.int' rfl) (.cons (.int' rfl) (.cons (.lst _ _ _ (ci_pu .i64) rfl) (.cons (.lst _ _ _ (ci_pu .u8) rfl) .nil))))) .nil) trivial)
        · (simp only [AllT, tl_cons, tl_nil, upd_apply, List.getD_cons_zero, List.getD_cons_succ, Nat.reduceEqDiff, ↓reduceIte, and_true]); exact ⟨(.lst _ _ _ Msg.pu rfl), (.ptr _ _ _ _ _ rfl), (.bool' rfl), (.bool' (by first | rfl | assumption | (simp_all; done)))⟩
      · rw [zc10] at H
        refine a_reg _ rfl (s := ?zs22) ?_ ?_
        rotate_left
        · try simp (maxSteps := 2000000) only [EVT, stepR, evOp, St.ev, St.app, St.put, wrs, frz, evLoad, cut, allOne, datOf, datOf1, evBuiltin, evBin, binInt, TIS, CS, Nat.reduceAdd, Nat.reduceMul, Nat.reduceEqDiff, ↓reduceIte, reduceCtorEq, Nat.reduceLT, Nat.reduceLeDiff, Array.reduceGetElem?, Nat.reduceSub, Nat.reduceBEq, ↓zc9, ↓zc10]
          repeat' with_reducible apply And.intro
          all_goals try ((with_reducible show CallR _ _ _ _ _ _ _); refine cR_s zk6 (.cons (.lst _ _ _ Msg.pu rfl) .nil) (.bool _) ?_; simp (maxSteps := 2000000) only [EVT, stepR, evOp, St.ev, St.app, St.put, wrs, frz, evLoad, cut, allOne, datOf, datOf1, evBuiltin, evBin, binInt, TIS, CS, Nat.reduceAdd, Nat.reduceMul, Nat.reduceEqDiff, ↓reduceIte, reduceCtorEq, Nat.reduceLT, Nat.reduceLeDiff, Array.reduceGetElem?, Nat.reduceSub, Nat.reduceBEq, ↓zc9, ↓zc10])
          repeat' with_reducible apply And.intro
          all_goals try ((with_reducible show CallR _ _ _ _ _ _ _); refine cR_s zk7 (.cons (.ownL (by rfl) (fun e => by cases e) rfl (by first | rfl | omega | (simp; done) | (simp [strBytes_len]; done) | (simp; omega) | (simp_all; done)) (.same _ _ Msg.pu (by first | rfl | (simp only [List.map_append, List.map_cons, List.map_nil, List.map_set, List.map_take, List.map_drop, List.map_replicate, List.append_assoc, List.nil_append, List.append_nil, ci_eq, cb_eq, cs_eq, cl_eq, CS,  List.nil_append]; done) | (simp [CS,  ci_eq, cb_eq, cs_eq, cl_eq]; done) | (simp [CS,  ci_eq, cb_eq, cs_eq, cl_eq]; intro hz; rw [List.take_of_length_le (by simp; omega)])))) .nil) (.bool _) ?_; simp (maxSteps := 2000000) only [EVT, stepR, evOp, St.ev, St.app, St.put, wrs, frz, evLoad, cut, allOne, datOf, datOf1, evBuiltin, evBin, binInt, TIS, CS, Nat.reduceAdd, Nat.reduceMul, Nat.reduceEqDiff, ↓reduceIte, reduceCtorEq, Nat.reduceLT, Nat.reduceLeDiff, Array.reduceGetElem?, Nat.reduceSub, Nat.reduceBEq, ↓zc9, ↓zc10])
          all_goals ((repeat' apply And.intro) <;> first | rfl | assumption | omega | (left; omega) | (simp; done) | (simp; omega) | (right; exact ⟨_, rfl, rfl, rfl, by decide, by first | omega | (simp; omega)⟩) | (simp_all; done))
        refine cA_n ?_
        refine wk_l [(some 0, ⟨26, 5, false, [[.int .i64 m1.from_, .int .i64 m1.to_, .int .i64 m1.kind, .list 1 (m1.nums.map (ci .i64)), .list 1 (m1.data.map (ci .u8))]]⟩)] [] [(0, .list 5 (w1.map Msg.c)), (3, .ptr 0 0 0 5), (5, .bool r1), (22, .bool (decide (190 < (w1.length : Int))))] (by show ([0, 3, 5, 22] : List Nat).Nodup; decide) (by show ([0] : List Nat).Nodup; decide) ?_ ?_ (fun t0 => ⟨(decide (190 < (w1.length : Int))), t0, H, rfl⟩)
        · exact (allB_some (by rfl) rfl (.cons (.cons (.int' rfl) (.cons (.int' rfl) (.cons (.int' rfl) (.cons (.lst _ _ _ (ci_pu .i64) rfl) (.cons (.lst _ _ _ (ci_pu .u8) rfl) .nil))))) .nil) trivial)
        · (simp only [AllT, tl_cons, tl_nil, upd_apply, List.getD_cons_zero, List.getD_cons_succ, Nat.reduceEqDiff, ↓reduceIte, and_true]); exact ⟨(.lst _ _ _ Msg.pu rfl), (.ptr _ _ _ _ _ rfl), (.bool' rfl), (.bool' rfl)⟩
  · rintro s ⟨v1, t0, H, rfl⟩
    unfold law05_WireTo_J1 at H
    refine a_condb (v1) (by rfl) (fun zc1 => ?_) (fun zc1 => ?_)
    · have H := cond_t zc1 H
      refine a_seq ?_
      refine a_reg _ rfl (s := ?zs3) ?_ ?_
      rotate_left
      · simp (maxSteps := 2000000) only [EVT, stepR, evOp, St.ev, St.app, St.put, wrs, TIS, CS, Nat.reduceAdd, Nat.reduceMul, Nat.reduceEqDiff, ↓reduceIte, reduceCtorEq, Nat.reduceLT, Nat.reduceLeDiff, ↓zc1]
        (repeat' apply And.intro) <;> first | rfl | assumption | omega | (left; omega) | (simp; done) | (simp; omega) | (right; exact ⟨_, rfl, rfl, rfl, by decide, by first | omega | (simp; omega)⟩) | (simp_all; done)
      refine sA_n ?_
      refine a_ret ?_
      refine sA_r ?_
      obtain rfl := Option.some.inj H
      refine e_r2 (d := ?zd1) ?_ ?_
      rotate_left
      · simp only [EVT, resR, single, evLoad, cut, TIS, CS, Nat.reduceAdd, Nat.reduceEqDiff, ↓reduceIte, reduceCtorEq, Nat.reduceLT, Nat.reduceLeDiff, Nat.reduceSub, Nat.reduceBEq, zc1]
        (repeat' apply And.intro) <;> first | rfl | assumption | omega | (simp; done)
      exact (.bool' rfl)
    · have H := cond_f zc1 H
      refine a_skip ?_
      refine sA_n ?_
      refine a_seq ?_
      obtain ⟨r2, zh2, H⟩ := bind_some H
      have zk2 := wire_To_pc zh2
      refine a_reg _ rfl (s := ?zs4) ?_ ?_
      rotate_left
      · try simp (maxSteps := 2000000) only [EVT, stepR, evOp, St.ev, St.app, St.put, wrs, evFieldAddr, evLoad, cut, frz, TIS, CS, Nat.reduceAdd, Nat.reduceMul, Nat.reduceEqDiff, ↓reduceIte, reduceCtorEq, Nat.reduceLT, Nat.reduceLeDiff, Nat.reduceSub, Nat.reduceBEq, ↓zc1]
        repeat' with_reducible apply And.intro
        all_goals try ((with_reducible show CallR _ _ _ _ _ _ _); refine cR_p zk2 (.cons (.lst _ _ _ Msg.pu rfl) (.cons (.int' rfl) .nil)) ?_; simp (maxSteps := 2000000) only [EVT, stepR, evOp, St.ev, St.app, St.put, wrs, evFieldAddr, evLoad, cut, frz, TIS, CS, Nat.reduceAdd, Nat.reduceMul, Nat.reduceEqDiff, ↓reduceIte, reduceCtorEq, Nat.reduceLT, Nat.reduceLeDiff, Nat.reduceSub, Nat.reduceBEq, ↓zc1])
        all_goals ((repeat' apply And.intro) <;> first | rfl | assumption | omega | (left; omega) | (simp; done) | (simp; omega) | (right; exact ⟨_, rfl, rfl, rfl, by decide, by first | omega | (simp; omega)⟩) | (simp_all; done))
      refine sA_n ?_
      refine a_seq ?_
      refine a_reg _ rfl (s := ?zs5) ?_ ?_
      rotate_left
      · simp (maxSteps := 2000000) only [EVT, stepR, evOp, St.ev, St.app, St.put, wrs, datOf, datOf1, TIS, CS, Nat.reduceAdd, Nat.reduceMul, Nat.reduceEqDiff, ↓reduceIte, reduceCtorEq, Nat.reduceLT, Nat.reduceLeDiff, ↓zc1]
        (repeat' apply And.intro) <;> first | rfl | assumption | omega | (left; omega) | (simp; done) | (simp; omega) | (right; exact ⟨_, rfl, rfl, rfl, by decide, by first | omega | (simp; omega)⟩) | (simp_all; done)
      refine sA_n ?_
      refine a_cut (fun s => ∃ (n1 : Int) (t0 : Nat → Dat), law05_WireTo_J2 w1 m1 r1 r2 n1 = some r ∧ s = ⟨tl t0 [(0, .list 5 (w1.map Msg.c)), (3, .ptr 0 0 0 5), (5, .bool r1), (6, .list 1 (r2.map (ci .i64))), (7, .int .i64 n1)], hl [⟨26, 5, false, [[.int .i64 m1.from_, .int .i64 m1.to_, .int .i64 m1.kind, .list 1 (m1.nums.map (ci .i64)), .list 1 (m1.data.map (ci .u8))]]⟩], 1, 88⟩) ?_ ?_
      · refine a_seq ?_
        refine a_reg _ rfl (s := ?zs10) ?_ ?_
        rotate_left
        · simp (maxSteps := 2000000) only [EVT, stepR, evOp, St.ev, St.app, St.put, wrs, datOf, datOf1, TIS, CS, Nat.reduceAdd, Nat.reduceMul, Nat.reduceEqDiff, ↓reduceIte, reduceCtorEq, Nat.reduceLT, Nat.reduceLeDiff, ↓zc1]
          (repeat' apply And.intro) <;> first | rfl | assumption | omega | (left; omega) | (simp; done) | (simp; omega) | (right; exact ⟨_, rfl, rfl, rfl, by decide, by first | omega | (simp; omega)⟩) | (simp_all; done)
        refine sA_n ?_
        refine a_blk ?_
        refine a_loop (fun m s => ∃ (n2 : Int) (i1 : Int) (t0 : Nat → Dat), law05_WireTo_L1 w1 r2 m1 r1 m n2 i1 = some r ∧ s = ⟨tl t0 [(0, .list 5 (w1.map Msg.c)), (3, .ptr 0 0 0 5), (5, .bool r1), (6, .list 1 (r2.map (ci .i64))), (7, .int .i64 n2), (8, .int .i64 i1)], hl [⟨26, 5, false, [[.int .i64 m1.from_, .int .i64 m1.to_, .int .i64 m1.kind, .list 1 (m1.nums.map (ci .i64)), .list 1 (m1.data.map (ci .u8))]]⟩], 1, 88⟩) BIG ?_ ?_
        · refine wk_l [(some 0, ⟨26, 5, false, [[.int .i64 m1.from_, .int .i64 m1.to_, .int .i64 m1.kind, .list 1 (m1.nums.map (ci .i64)), .list 1 (m1.data.map (ci .u8))]]⟩)] [] [(0, .list 5 (w1.map Msg.c)), (3, .ptr 0 0 0 5), (5, .bool r1), (6, .list 1 (r2.map (ci .i64))), (7, .int .i64 0), (8, .int .i64 0)] (by show ([0, 3, 5, 6, 7, 8] : List Nat).Nodup; decide) (by show ([0] : List Nat).Nodup; decide) ?_ ?_ (fun t0 => ⟨0, 0, t0, H, rfl⟩)
          · exact (allB_some (by rfl) rfl (.cons (.cons (.int' rfl) (.cons (.int' rfl) (.cons (.int' rfl) (.cons (.lst _ _ _ (ci_pu .i64) rfl) (.cons (.lst _ _ _ (ci_pu .u8) rfl) .nil))))) .nil) trivial)
          · (simp only [AllT, tl_cons, tl_nil, upd_apply, List.getD_cons_zero, List.getD_cons_succ, Nat.reduceEqDiff, ↓reduceIte, and_true]); exact ⟨(.lst _ _ _ Msg.pu rfl), (.ptr _ _ _ _ _ rfl), (.bool' rfl), (.lst _ _ _ (ci_pu .i64) rfl), (.int' rfl), (.int' rfl)⟩
        · rintro m_law05_WireTo_L1 s ⟨n2, i1, t0, H, rfl⟩
          obtain _ | m_law05_WireTo_L1 := m_law05_WireTo_L1
          · cases (show (none : Option _) = some _ from H)
          · rw [law05_WireTo_L1] at H
            refine a_seq ?_
            refine a_seq ?_
            refine a_reg _ rfl (s := ?zs11) ?_ ?_
            rotate_left
            · simp (maxSteps := 2000000) only [EVT, stepR, evOp, St.ev, St.app, St.put, wrs, evBuiltin, evBin, binInt, TIS, CS, Nat.reduceAdd, Nat.reduceMul, Nat.reduceEqDiff, ↓reduceIte, reduceCtorEq, Nat.reduceLT, Nat.reduceLeDiff, Nat.reduceSub, Nat.reduceBEq]
              (repeat' apply And.intro) <;> first | rfl | assumption | omega | (left; omega) | (simp; done) | (simp; omega) | (right; exact ⟨_, rfl, rfl, rfl, by decide, by first | omega | (simp; omega)⟩) | (simp_all; done)
            refine sA_n ?_
            refine a_condb ((decide (i1 < (w1.length : Int)))) (by rfl) (fun zc4 => ?_) (fun zc4 => ?_)
            · have H := cond_t zc4 H
              refine a_skip ?_
              refine sA_n ?_
              refine a_cut (fun s => ∃ (n3 : Int) (t0 : Nat → Dat), law05_WireTo_J3 (law05_WireTo_L1 w1 r2 m1 r1 m_law05_WireTo_L1) i1 n3 = some r ∧ s = ⟨tl t0 [(0, .list 5 (w1.map Msg.c)), (3, .ptr 0 0 0 5), (5, .bool r1), (6, .list 1 (r2.map (ci .i64))), (7, .int .i64 n3), (8, .int .i64 i1)], hl [⟨26, 5, false, [[.int .i64 m1.from_, .int .i64 m1.to_, .int .i64 m1.kind, .list 1 (m1.nums.map (ci .i64)), .list 1 (m1.data.map (ci .u8))]]⟩], 1, 88⟩) ?_ ?_
              · refine a_blk ?_
                refine a_cut (fun s => ∃ (v2 : Bool) (t0 : Nat → Dat), law05_WireTo_J4 (law05_WireTo_L1 w1 r2 m1 r1 m_law05_WireTo_L1) w1 i1 m1 n2 v2 = some r ∧ s = ⟨tl t0 [(0, .list 5 (w1.map Msg.c)), (3, .ptr 0 0 0 5), (5, .bool r1), (6, .list 1 (r2.map (ci .i64))), (7, .int .i64 n2), (8, .int .i64 i1), (45, .bool v2)], hl [⟨26, 5, false, [[.int .i64 m1.from_, .int .i64 m1.to_, .int .i64 m1.kind, .list 1 (m1.nums.map (ci .i64)), .list 1 (m1.data.map (ci .u8))]]⟩], 1, 88⟩) ?_ ?_
                · refine bool_split (b := (decide (n2 < (r2.length : Int)))) (fun zc8 => ?_) (fun zc8 => ?_)
                  · have H := cond_t zc8 H
                    obtain ⟨x3, zh10, H⟩ := bind_some H
                    have zg3 := idx_map zh10 (ci .i64)
                    try simp only [Int.reduceToNat] at zg3
                    obtain ⟨zh10a, zh10b, _⟩ := idx_some zh10
                    refine a_reg _ rfl (s := ?zs18) ?_ ?_
                    rotate_left
                    · simp (maxSteps := 2000000) only [EVT, stepR, evOp, St.ev, St.app, St.put, wrs, evBuiltin, evBin, binInt, evIndexAddr, evLoad, cut, datOf, datOf1, TIS, CS, Nat.reduceAdd, Nat.reduceMul, Nat.reduceEqDiff, ↓reduceIte, reduceCtorEq, Nat.reduceLT, Nat.reduceLeDiff, Array.reduceGetElem?, Int.reduceToNat, Nat.reduceSub, Nat.reduceBEq, ↓zc4, ↓zc8, zg3]
                      try simp (maxSteps := 2000000) only [EVT, stepR, evOp, St.ev, St.app, St.put, wrs, evBuiltin, evBin, binInt, evIndexAddr, evLoad, cut, datOf, datOf1, TIS, CS, Nat.reduceAdd, Nat.reduceMul, Nat.reduceEqDiff, ↓reduceIte, reduceCtorEq, Nat.reduceLT, Nat.reduceLeDiff, Array.reduceGetElem?, Int.reduceToNat, Nat.reduceSub, Nat.reduceBEq, ↓zc4, ↓zc8, zg3]
                      (repeat' apply And.intro) <;> first | rfl | assumption | omega | (left; omega) | (simp; done) | (simp; omega) | (right; exact ⟨_, rfl, rfl, rfl, by decide, by first | omega | (simp; omega)⟩) | (simp_all; done)
                    refine cA_n ?_
                    refine wk_l [(some 0, ⟨26, 5, false, [[.int .i64 m1.from_, .int .i64 m1.to_, .int .i64 m1.kind, .list 1 (m1.nums.map (ci .i64)), .list 1 (m1.data.map (ci .u8))]]⟩)] [] [(0, .list 5 (w1.map Msg.c)), (3, .ptr 0 0 0 5), (5, .bool r1), (6, .list 1 (r2.map (ci .i64))), (7, .int .i64 n2), (8, .int .i64 i1), (45, .bool (x3 == i1))] (by show ([0, 3, 5, 6, 7, 8, 45] : List Nat).Nodup; decide) (by show ([0] : List Nat).Nodup; decide) ?_ ?_ (fun t0 => ⟨(x3 == i1), t0, H, rfl⟩)
                    · exact (allB_some (by rfl) rfl (.cons (.cons (.int' rfl) (.cons (.int' rfl) (.cons (.int' rfl) (.cons (.lst _ _ _ (ci_pu .i64) rfl) (.cons (.lst _ _ _ (ci_pu .u8) rfl) .nil))))) .nil) trivial)
                    · (simp only [AllT, tl_cons, tl_nil, upd_apply, List.getD_cons_zero, List.getD_cons_succ, Nat.reduceEqDiff, ↓reduceIte, and_true]); exact ⟨(.lst _ _ _ Msg.pu rfl), (.ptr _ _ _ _ _ rfl), (.bool' rfl), (.lst _ _ _ (ci_pu .i64) rfl), (.int' rfl), (.int' rfl), (.bool' rfl)⟩
                  · have H := cond_f zc8 H
                    refine a_reg _ rfl (s := ?zs19) ?_ ?_
                    rotate_left
                    · simp (maxSteps := 2000000) only [EVT, stepR, evOp, St.ev, St.app, St.put, wrs, evBuiltin, evBin, binInt, evIndexAddr, evLoad, cut, datOf, datOf1, TIS, CS, Nat.reduceAdd, Nat.reduceMul, Nat.reduceEqDiff, ↓reduceIte, reduceCtorEq, Nat.reduceLT, Nat.reduceLeDiff, Array.reduceGetElem?, Int.reduceToNat, Nat.reduceSub, Nat.reduceBEq, ↓zc4, ↓zc8]
                      try simp (maxSteps := 2000000) only [EVT, stepR, evOp, St.ev, St.app, St.put, wrs, evBuiltin, evBin, binInt, evIndexAddr, evLoad, cut, datOf, datOf1, TIS, CS, Nat.reduceAdd, Nat.reduceMul, Nat.reduceEqDiff, ↓reduceIte, reduceCtorEq, Nat.reduceLT, Nat.reduceLeDiff, Array.reduceGetElem?, Int.reduceToNat, Nat.reduceSub, Nat.reduceBEq, ↓zc4, ↓zc8]
                      (repeat' apply And.intro) <;> first | rfl | assumption | omega | (left; omega) | (simp; done) | (simp; omega) | (right; exact ⟨_, rfl, rfl, rfl, by decide, by first | omega | (simp; omega)⟩) | (simp_all; done)
                    refine cA_n ?_
                    refine wk_l [(some 0, ⟨26, 5, false, [[.int .i64 m1.from_, .int .i64 m1.to_, .int .i64 m1.kind, .list 1 (m1.nums.map (ci .i64)), .list 1 (m1.data.map (ci .u8))]]⟩)] [] [(0, .list 5 (w1.map Msg.c)), (3, .ptr 0 0 0 5), (5, .bool r1), (6, .list 1 (r2.map (ci .i64))), (7, .int .i64 n2), (8, .int .i64 i1), (45, .bool false)] (by show ([0, 3, 5, 6, 7, 8, 45] : List Nat).Nodup; decide) (by show ([0] : List Nat).Nodup; decide) ?_ ?_ (fun t0 => ⟨false, t0, H, rfl⟩)
                    · exact (allB_some (by rfl) rfl (.cons (.cons (.int' rfl) (.cons (.int' rfl) (.cons (.int' rfl) (.cons (.lst _ _ _ (ci_pu .i64) rfl) (.cons (.lst _ _ _ (ci_pu .u8) rfl) .nil))))) .nil) trivial)
                    · (simp only [AllT, tl_cons, tl_nil, upd_apply, List.getD_cons_zero, List.getD_cons_succ, Nat.reduceEqDiff, ↓reduceIte, and_true]); exact ⟨(.lst _ _ _ Msg.pu rfl), (.ptr _ _ _ _ _ rfl), (.bool' rfl), (.lst _ _ _ (ci_pu .i64) rfl), (.int' rfl), (.int' rfl), (.bool' (by first | rfl | assumption | (simp_all; done)))⟩
                · rintro s ⟨v2, t0, H, rfl⟩
                  unfold law05_WireTo_J4 at H
                  refine a_condb (v2) (by rfl) (fun zc5 => ?_) (fun zc5 => ?_)
                  · have H := cond_t zc5 H
                    refine a_seq ?_
                    refine a_reg _ rfl (s := ?zs13) ?_ ?_
                    rotate_left
                    · simp (maxSteps := 2000000) only [EVT, stepR, evOp, St.ev, St.app, St.put, wrs, datOf, datOf1, evBin, binInt, TIS, CS, Nat.reduceAdd, Nat.reduceMul, Nat.reduceEqDiff, ↓reduceIte, reduceCtorEq, Nat.reduceLT, Nat.reduceLeDiff, ↓zc5]
                      (repeat' apply And.intro) <;> first | rfl | assumption | omega | (left; omega) | (simp; done) | (simp; omega) | (right; exact ⟨_, rfl, rfl, rfl, by decide, by first | omega | (simp; omega)⟩) | (simp_all; done)
                    refine sA_n ?_
                    refine a_seq ?_
                    obtain ⟨x1, zh8, H⟩ := bind_some H
                    have zg1 := idx_map zh8 Msg.c
                    try simp only [Int.reduceToNat] at zg1
                    obtain ⟨zh8a, zh8b, _⟩ := idx_some zh8
                    refine a_drW (by kernel_rfl) _ rfl (s := ?zs14) (by kernel_rfl) (by kernel_rfl) ?zs14f ?_ ?_ ?_
                    rotate_left 2
                    · simp (maxSteps := 2000000) only [EVT, stepW, evOp, St.ev, St.app, St.put, wrs, evIndexAddr, evFieldAddr, evLoad, cut, evBin, binInt, TIS, CS, Nat.reduceAdd, Nat.reduceMul, Nat.reduceEqDiff, ↓reduceIte, reduceCtorEq, Nat.reduceLT, Nat.reduceLeDiff, Int.reduceToNat, Nat.reduceSub, Nat.reduceBEq, ↓zc5, zg1]
                      (repeat' apply And.intro) <;> first | rfl | assumption | omega | (left; omega) | (simp; done) | (simp; omega) | (right; exact ⟨_, rfl, rfl, rfl, by decide, by first | omega | (simp; omega)⟩) | (simp_all; done)
                    · kernel_rfl
                    refine sA_n ?_
                    refine a_condb ((x1.to_ != m1.to_)) (by rfl) (fun zc6 => ?_) (fun zc6 => ?_)
                    · have H := cond_t zc6 H
                      refine a_seq ?_
                      refine a_reg _ rfl (s := ?zs15) ?_ ?_
                      rotate_left
                      · simp (maxSteps := 2000000) only [EVT, stepR, evOp, St.ev, St.app, St.put, wrs, datOf, datOf1, TIS, CS, Nat.reduceAdd, Nat.reduceMul, Nat.reduceEqDiff, ↓reduceIte, reduceCtorEq, Nat.reduceLT, Nat.reduceLeDiff, ↓zc5, zg1, ↓zc6]
                        (repeat' apply And.intro) <;> first | rfl | assumption | omega | (left; omega) | (simp; done) | (simp; omega) | (right; exact ⟨_, rfl, rfl, rfl, by decide, by first | omega | (simp; omega)⟩) | (simp_all; done)
                      refine sA_n ?_
                      refine a_ret ?_
                      refine bA_r ?_
                      refine cA_r ?_
                      refine lA_r ?_
                      refine bA_r ?_
                      refine cA_r ?_
                      obtain rfl := Option.some.inj H
                      refine e_r2 (d := ?zd5) ?_ ?_
                      rotate_left
                      · simp only [EVT, resR, single, evLoad, cut, TIS, CS, Nat.reduceAdd, Nat.reduceEqDiff, ↓reduceIte, reduceCtorEq, Nat.reduceLT, Nat.reduceLeDiff, Nat.reduceSub, Nat.reduceBEq, zc5, zg1, zc6]
                        (repeat' apply And.intro) <;> first | rfl | assumption | omega | (simp; done)
                      exact (.bool' (by first | rfl | assumption | (simp_all; done)))
                    · have H := cond_f zc6 H
                      refine a_skip ?_
                      refine bA_n ?_
                      refine cA_n ?_
                      refine wk_l [(some 0, ⟨26, 5, false, [[.int .i64 m1.from_, .int .i64 m1.to_, .int .i64 m1.kind, .list 1 (m1.nums.map (ci .i64)), .list 1 (m1.data.map (ci .u8))]]⟩)] [] [(0, .list 5 (w1.map Msg.c)), (3, .ptr 0 0 0 5), (5, .bool r1), (6, .list 1 (r2.map (ci .i64))), (7, .int .i64 (IntKind.wrap .i64 (n2 + 1))), (8, .int .i64 i1)] (by show ([0, 3, 5, 6, 7, 8] : List Nat).Nodup; decide) (by show ([0] : List Nat).Nodup; decide) ?_ ?_ (fun t0 => ⟨(IntKind.wrap .i64 (n2 + 1)), t0, H, rfl⟩)
                      · exact (allB_some (by rfl) rfl (.cons (.cons (.int' rfl) (.cons (.int' rfl) (.cons (.int' rfl) (.cons (.lst _ _ _ (ci_pu .i64) rfl) (.cons (.lst _ _ _ (ci_pu .u8) rfl) .nil))))) .nil) trivial)
                      · (simp only [AllT, tl_cons, tl_nil, upd_apply, List.getD_cons_zero, List.getD_cons_succ, Nat.reduceEqDiff, ↓reduceIte, and_true]); exact ⟨(.lst _ _ _ Msg.pu rfl), (.ptr _ _ _ _ _ rfl), (.bool' rfl), (.lst _ _ _ (ci_pu .i64) rfl), (.int' rfl), (.int' rfl)⟩
                  · have H := cond_f zc5 H
                    refine a_seq ?_
                    obtain ⟨x2, zh9, H⟩ := bind_some H
                    have zg2 := idx_map zh9 Msg.c
                    try simp only [Int.reduceToNat] at zg2
                    obtain ⟨zh9a, zh9b, _⟩ := idx_some zh9
                    refine a_drW (by kernel_rfl) _ rfl (s := ?zs16) (by kernel_rfl) (by kernel_rfl) ?zs16f ?_ ?_ ?_
                    rotate_left 2
                    · simp (maxSteps := 2000000) only [EVT, stepW, evOp, St.ev, St.app, St.put, wrs, evIndexAddr, evFieldAddr, evLoad, cut, evBin, binInt, TIS, CS, Nat.reduceAdd, Nat.reduceMul, Nat.reduceEqDiff, ↓reduceIte, reduceCtorEq, Nat.reduceLT, Nat.reduceLeDiff, Int.reduceToNat, Nat.reduceSub, Nat.reduceBEq, ↓zc5, zg2]
                      (repeat' apply And.intro) <;> first | rfl | assumption | omega | (left; omega) | (simp; done) | (simp; omega) | (right; exact ⟨_, rfl, rfl, rfl, by decide, by first | omega | (simp; omega)⟩) | (simp_all; done)
                    · kernel_rfl
                    refine sA_n ?_
                    refine a_condb ((x2.to_ == m1.to_)) (by rfl) (fun zc7 => ?_) (fun zc7 => ?_)
                    · have H := cond_t zc7 H
                      refine a_seq ?_
                      refine a_reg _ rfl (s := ?zs17) ?_ ?_
                      rotate_left
                      · simp (maxSteps := 2000000) only [EVT, stepR, evOp, St.ev, St.app, St.put, wrs, datOf, datOf1, TIS, CS, Nat.reduceAdd, Nat.reduceMul, Nat.reduceEqDiff, ↓reduceIte, reduceCtorEq, Nat.reduceLT, Nat.reduceLeDiff, ↓zc5, zg2, ↓zc7]
                        (repeat' apply And.intro) <;> first | rfl | assumption | omega | (left; omega) | (simp; done) | (simp; omega) | (right; exact ⟨_, rfl, rfl, rfl, by decide, by first | omega | (simp; omega)⟩) | (simp_all; done)
                      refine sA_n ?_
                      refine a_ret ?_
                      refine bA_r ?_
                      refine cA_r ?_
                      refine lA_r ?_
                      refine bA_r ?_
                      refine cA_r ?_
                      obtain rfl := Option.some.inj H
                      refine e_r2 (d := ?zd6) ?_ ?_
                      rotate_left
                      · simp only [EVT, resR, single, evLoad, cut, TIS, CS, Nat.reduceAdd, Nat.reduceEqDiff, ↓reduceIte, reduceCtorEq, Nat.reduceLT, Nat.reduceLeDiff, Nat.reduceSub, Nat.reduceBEq, zc5, zg2, zc7]
                        (repeat' apply And.intro) <;> first | rfl | assumption | omega | (simp; done)
                      exact (.bool' (by first | rfl | assumption | (simp_all; done)))
                    · have H := cond_f zc7 H
                      refine a_skip ?_
                      refine bA_n ?_
                      refine cA_n ?_
                      refine wk_l [(some 0, ⟨26, 5, false, [[.int .i64 m1.from_, .int .i64 m1.to_, .int .i64 m1.kind, .list 1 (m1.nums.map (ci .i64)), .list 1 (m1.data.map (ci .u8))]]⟩)] [] [(0, .list 5 (w1.map Msg.c)), (3, .ptr 0 0 0 5), (5, .bool r1), (6, .list 1 (r2.map (ci .i64))), (7, .int .i64 n2), (8, .int .i64 i1)] (by show ([0, 3, 5, 6, 7, 8] : List Nat).Nodup; decide) (by show ([0] : List Nat).Nodup; decide) ?_ ?_ (fun t0 => ⟨n2, t0, H, rfl⟩)
                      · exact (allB_some (by rfl) rfl (.cons (.cons (.int' rfl) (.cons (.int' rfl) (.cons (.int' rfl) (.cons (.lst _ _ _ (ci_pu .i64) rfl) (.cons (.lst _ _ _ (ci_pu .u8) rfl) .nil))))) .nil) trivial)
                      · (simp only [AllT, tl_cons, tl_nil, upd_apply, List.getD_cons_zero, List.getD_cons_succ, Nat.reduceEqDiff, ↓reduceIte, and_true]); exact ⟨(.lst _ _ _ Msg.pu rfl), (.ptr _ _ _ _ _ rfl), (.bool' rfl), (.lst _ _ _ (ci_pu .i64) rfl), (.int' rfl), (.int' rfl)⟩
              · rintro s ⟨n3, t0, H, rfl⟩
                unfold law05_WireTo_J3 at H
                refine a_reg _ rfl (s := ?zs12) ?_ ?_
                rotate_left
                · simp (maxSteps := 2000000) only [EVT, stepR, evOp, St.ev, St.app, St.put, wrs, datOf, datOf1, evBin, binInt, TIS, CS, Nat.reduceAdd, Nat.reduceMul, Nat.reduceEqDiff, ↓reduceIte, reduceCtorEq, Nat.reduceLT, Nat.reduceLeDiff]
                  (repeat' apply And.intro) <;> first | rfl | assumption | omega | (left; omega) | (simp; done) | (simp; omega) | (right; exact ⟨_, rfl, rfl, rfl, by decide, by first | omega | (simp; omega)⟩) | (simp_all; done)
                refine lA_n ?_
                refine wk_l [(some 0, ⟨26, 5, false, [[.int .i64 m1.from_, .int .i64 m1.to_, .int .i64 m1.kind, .list 1 (m1.nums.map (ci .i64)), .list 1 (m1.data.map (ci .u8))]]⟩)] [] [(0, .list 5 (w1.map Msg.c)), (3, .ptr 0 0 0 5), (5, .bool r1), (6, .list 1 (r2.map (ci .i64))), (7, .int .i64 n3), (8, .int .i64 (IntKind.wrap .i64 (i1 + 1)))] (by show ([0, 3, 5, 6, 7, 8] : List Nat).Nodup; decide) (by show ([0] : List Nat).Nodup; decide) ?_ ?_ (fun t0 => ⟨_, Nat.lt_succ_self _, n3, (IntKind.wrap .i64 (i1 + 1)), t0, H, rfl⟩)
                · exact (allB_some (by rfl) rfl (.cons (.cons (.int' rfl) (.cons (.int' rfl) (.cons (.int' rfl) (.cons (.lst _ _ _ (ci_pu .i64) rfl) (.cons (.lst _ _ _ (ci_pu .u8) rfl) .nil))))) .nil) trivial)
                · (simp only [AllT, tl_cons, tl_nil, upd_apply, List.getD_cons_zero, List.getD_cons_succ, Nat.reduceEqDiff, ↓reduceIte, and_true]); exact ⟨(.lst _ _ _ Msg.pu rfl), (.ptr _ _ _ _ _ rfl), (.bool' rfl), (.lst _ _ _ (ci_pu .i64) rfl), (.int' rfl), (.int' rfl)⟩
            · have H := cond_f zc4 H
              refine a_exit ?_
              refine sA_e ?_
              refine lA_e ?_
              refine bA_hit ?_
              refine cA_n ?_
              refine wk_l [(some 0, ⟨26, 5, false, [[.int .i64 m1.from_, .int .i64 m1.to_, .int .i64 m1.kind, .list 1 (m1.nums.map (ci .i64)), .list 1 (m1.data.map (ci .u8))]]⟩)] [] [(0, .list 5 (w1.map Msg.c)), (3, .ptr 0 0 0 5), (5, .bool r1), (6, .list 1 (r2.map (ci .i64))), (7, .int .i64 n2)] (by show ([0, 3, 5, 6, 7] : List Nat).Nodup; decide) (by show ([0] : List Nat).Nodup; decide) ?_ ?_ (fun t0 => ⟨n2, t0, H, rfl⟩)
              · exact (allB_some (by rfl) rfl (.cons (.cons (.int' rfl) (.cons (.int' rfl) (.cons (.int' rfl) (.cons (.lst _ _ _ (ci_pu .i64) rfl) (.cons (.lst _ _ _ (ci_pu .u8) rfl) .nil))))) .nil) trivial)
              · (simp only [AllT, tl_cons, tl_nil, upd_apply, List.getD_cons_zero, List.getD_cons_succ, Nat.reduceEqDiff, ↓reduceIte, and_true]); exact ⟨(.lst _ _ _ Msg.pu rfl), (.ptr _ _ _ _ _ rfl), (.bool' rfl), (.lst _ _ _ (ci_pu .i64) rfl), (.int' rfl)⟩
      · rintro s ⟨n1, t0, H, rfl⟩
        unfold law05_WireTo_J2 at H
        refine a_seq ?_
        obtain ⟨r3, zh3, H⟩ := bind_some H
        have zk3 := wire_Send_pc zh3
        obtain ⟨r4, zh4, H⟩ := bind_some H
        have zk4 := wire_To_pc zh4
        refine a_drW (by kernel_rfl) _ rfl (s := ?zs6) (by kernel_rfl) (by kernel_rfl) ?zs6f ?_ ?_ ?_
        rotate_left 2
        · try simp (maxSteps := 2000000) only [EVT, stepW, evOp, St.ev, St.app, St.put, wrs, evLoad, cut, datOf, datOf1, frz, evFieldAddr, TIS, CS, Nat.reduceAdd, Nat.reduceMul, Nat.reduceEqDiff, ↓reduceIte, reduceCtorEq, Nat.reduceLT, Nat.reduceLeDiff, Nat.reduceSub, Nat.reduceBEq]
          repeat' with_reducible apply And.intro
          all_goals try ((with_reducible show CallW _ _ _ _ _ _ _); refine cW_p [] zk3 (fun h2 e => (.cons (.lst _ _ _ Msg.pu rfl) (.cons (.agg' (.cons (.int' rfl) (.cons (.int' rfl) (.cons (.int' rfl) (.cons (.lst _ _ _ (ci_pu .i64) rfl) (.cons (.lst _ _ _ (ci_pu .u8) rfl) .nil)))))) (.cons (.int' rfl) .nil)))) ?_; simp (maxSteps := 2000000) only [EVT, stepW, evOp, St.ev, St.app, St.put, wrs, evLoad, cut, datOf, datOf1, frz, evFieldAddr, TIS, CS, Nat.reduceAdd, Nat.reduceMul, Nat.reduceEqDiff, ↓reduceIte, reduceCtorEq, Nat.reduceLT, Nat.reduceLeDiff, Nat.reduceSub, Nat.reduceBEq])
          repeat' with_reducible apply And.intro
          all_goals try ((with_reducible show CallW _ _ _ _ _ _ _); refine cW_p [] zk4 (fun h2 e => (.cons (.lst _ _ _ Msg.pu rfl) (.cons (.int' rfl) .nil))) ?_; simp (maxSteps := 2000000) only [EVT, stepW, evOp, St.ev, St.app, St.put, wrs, evLoad, cut, datOf, datOf1, frz, evFieldAddr, TIS, CS, Nat.reduceAdd, Nat.reduceMul, Nat.reduceEqDiff, ↓reduceIte, reduceCtorEq, Nat.reduceLT, Nat.reduceLeDiff, Nat.reduceSub, Nat.reduceBEq])
          all_goals ((repeat' apply And.intro) <;> first | rfl | assumption | omega | (left; omega) | (simp; done) | (simp; omega) | (right; exact ⟨_, rfl, rfl, rfl, by decide, by first | omega | (simp; omega)⟩) | (simp_all; done))
        · kernel_rfl
        refine sA_n ?_
        refine a_seq ?_
        refine bool_split (b := r1) (fun zc2 => ?_) (fun zc2 => ?_)
        · have H := cond_t zc2 H
          refine bool_split (b := (n1 == (r2.length : Int))) (fun zc3 => ?_) (fun zc3 => ?_)
          · have H := cond_t zc3 H
            obtain ⟨zh5, H⟩ := chk_some H
            obtain ⟨zh6, H⟩ := chk_some H
            obtain ⟨r5, zh7, H⟩ := bind_some H
            have zk5 := ref02_Ints_pc zh7
            refine a_reg _ rfl (s := ?zs7) ?_ ?_
            rotate_left
            · try simp (maxSteps := 2000000) only [EVT, stepR, evOp, St.ev, St.app, St.put, wrs, evBuiltin, evBin, binInt, datOf, datOf1, allOne, evAppend, isAl, elems, Option.elim, frz, TIS, CS, Nat.reduceAdd, Nat.reduceMul, Nat.reduceEqDiff, ↓reduceIte, reduceCtorEq, Nat.reduceLT, Nat.reduceLeDiff, Array.reduceGetElem?, Nat.reduceSub, Nat.reduceBEq, ↓zc2, ↓zc3]
              repeat' with_reducible apply And.intro
              all_goals try ((with_reducible show CallR _ _ _ _ _ _ _); refine cR_s zk5 (.cons (.lst _ _ _ (ci_pu .i64) rfl) (.cons (.ownL (by rfl) (fun e => by cases e) rfl (by first | rfl | omega | (simp; done) | (simp [strBytes_len]; done) | (simp; omega) | (simp_all; done)) (.same _ _ (ci_pu .i64) (by first | rfl | (simp only [List.map_append, List.map_cons, List.map_nil, List.map_set, List.map_take, List.map_drop, List.map_replicate, List.append_assoc, List.nil_append, List.append_nil, ci_eq, cb_eq, cs_eq, cl_eq, CS,  List.nil_append]; done) | (simp [CS,  ci_eq, cb_eq, cs_eq, cl_eq]; done) | (simp [CS,  ci_eq, cb_eq, cs_eq, cl_eq]; intro hz; rw [List.take_of_length_le (by simp; omega)])))) .nil)) (.bool _) ?_; simp (maxSteps := 2000000) only [EVT, stepR, evOp, St.ev, St.app, St.put, wrs, evBuiltin, evBin, binInt, datOf, datOf1, allOne, evAppend, isAl, elems, Option.elim, frz, TIS, CS, Nat.reduceAdd, Nat.reduceMul, Nat.reduceEqDiff, ↓reduceIte, reduceCtorEq, Nat.reduceLT, Nat.reduceLeDiff, Array.reduceGetElem?, Nat.reduceSub, Nat.reduceBEq, ↓zc2, ↓zc3])
              all_goals ((repeat' apply And.intro) <;> first | rfl | assumption | omega | (left; omega) | (simp; done) | (simp; omega) | (right; exact ⟨_, rfl, rfl, rfl, by decide, by first | omega | (simp; omega)⟩) | (simp_all; done))
            refine sA_n ?_
            refine a_ret ?_
            obtain rfl := Option.some.inj H
            refine e_r2 (d := ?zd2) ?_ ?_
            rotate_left
            · simp only [EVT, resR, single, evLoad, cut, TIS, CS, Nat.reduceAdd, Nat.reduceEqDiff, ↓reduceIte, reduceCtorEq, Nat.reduceLT, Nat.reduceLeDiff, Nat.reduceSub, Nat.reduceBEq, zc2, zc3]
              (repeat' apply And.intro) <;> first | rfl | assumption | omega | (simp; done)
            exact (.bool' rfl)
          · have H := cond_f zc3 H
            refine a_reg _ rfl (s := ?zs8) ?_ ?_
            rotate_left
            · simp (maxSteps := 2000000) only [EVT, stepR, evOp, St.ev, St.app, St.put, wrs, evBuiltin, evBin, binInt, datOf, datOf1, allOne, evAppend, isAl, elems, Option.elim, frz, TIS, CS, Nat.reduceAdd, Nat.reduceMul, Nat.reduceEqDiff, ↓reduceIte, reduceCtorEq, Nat.reduceLT, Nat.reduceLeDiff, Array.reduceGetElem?, Nat.reduceSub, Nat.reduceBEq, ↓zc2, ↓zc3]
              try simp (maxSteps := 2000000) only [EVT, stepR, evOp, St.ev, St.app, St.put, wrs, evBuiltin, evBin, binInt, datOf, datOf1, allOne, evAppend, isAl, elems, Option.elim, frz, TIS, CS, Nat.reduceAdd, Nat.reduceMul, Nat.reduceEqDiff, ↓reduceIte, reduceCtorEq, Nat.reduceLT, Nat.reduceLeDiff, Array.reduceGetElem?, Nat.reduceSub, Nat.reduceBEq, ↓zc2, ↓zc3]
              (repeat' apply And.intro) <;> first | rfl | assumption | omega | (left; omega) | (simp; done) | (simp; omega) | (right; exact ⟨_, rfl, rfl, rfl, by decide, by first | omega | (simp; omega)⟩) | (simp_all; done)
            refine sA_n ?_
            refine a_ret ?_
            obtain rfl := Option.some.inj H
            refine e_r2 (d := ?zd3) ?_ ?_
            rotate_left
            · simp only [EVT, resR, single, evLoad, cut, TIS, CS, Nat.reduceAdd, Nat.reduceEqDiff, ↓reduceIte, reduceCtorEq, Nat.reduceLT, Nat.reduceLeDiff, Nat.reduceSub, Nat.reduceBEq, zc2, zc3]
              (repeat' apply And.intro) <;> first | rfl | assumption | omega | (simp; done)
            exact (.bool' (by first | rfl | assumption | (simp_all; done)))
        · have H := cond_f zc2 H
          refine a_reg _ rfl (s := ?zs9) ?_ ?_
          rotate_left
          · simp (maxSteps := 2000000) only [EVT, stepR, evOp, St.ev, St.app, St.put, wrs, evBuiltin, evBin, binInt, datOf, datOf1, allOne, evAppend, isAl, elems, Option.elim, frz, TIS, CS, Nat.reduceAdd, Nat.reduceMul, Nat.reduceEqDiff, ↓reduceIte, reduceCtorEq, Nat.reduceLT, Nat.reduceLeDiff, Array.reduceGetElem?, Nat.reduceSub, Nat.reduceBEq, ↓zc2]
            try simp (maxSteps := 2000000) only [EVT, stepR, evOp, St.ev, St.app, St.put, wrs, evBuiltin, evBin, binInt, datOf, datOf1, allOne, evAppend, isAl, elems, Option.elim, frz, TIS, CS, Nat.reduceAdd, Nat.reduceMul, Nat.reduceEqDiff, ↓reduceIte, reduceCtorEq, Nat.reduceLT, Nat.reduceLeDiff, Array.reduceGetElem?, Nat.reduceSub, Nat.reduceBEq, ↓zc2]
            (repeat' apply And.intro) <;> first | rfl | assumption | omega | (left; omega) | (simp; done) | (simp; omega) | (right; exact ⟨_, rfl, rfl, rfl, by decide, by first | omega | (simp; omega)⟩) | (simp_all; done)
          refine sA_n ?_
          refine a_ret ?_
          obtain rfl := Option.some.inj H
          refine e_r2 (d := ?zd4) ?_ ?_
          rotate_left
          · simp only [EVT, resR, single, evLoad, cut, TIS, CS, Nat.reduceAdd, Nat.reduceEqDiff, ↓reduceIte, reduceCtorEq, Nat.reduceLT, Nat.reduceLeDiff, Nat.reduceSub, Nat.reduceBEq, zc2]
            (repeat' apply And.intro) <;> first | rfl | assumption | omega | (simp; done)
          exact (.bool' (by first | rfl | assumption | (simp_all; done)))
end
end Go.Proofs.Yteebeajhoemdpaa
