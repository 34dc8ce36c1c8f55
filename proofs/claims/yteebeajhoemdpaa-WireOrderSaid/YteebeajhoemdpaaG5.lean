/- Functions of the program as Lean functions, and that they are so; printed by a program of mine. -/
import Derived.Test.YteebeajhoemdpaaH
set_option linter.unusedSimpArgs false
set_option linter.unusedVariables false
namespace Go.Proofs.Yteebeajhoemdpaa
open Go.Ab
noncomputable section

def law05_WireOrder_J3 (r1 : Bool) (w1 : List Msg) (r2 : (List Msg)) (m1 : Msg) (v3 : Bool) : Option Bool :=
  cond v3 (cond r1 (chk (0 ≤ 0 ∧ 0 ≤ (w1.length : Int) ∧ (w1.length : Int) ≤ (r2.length : Int)) ((ref05_SameAll_f ((r2.take (w1.length : Int).toNat).drop 0) w1).bind fun r3 => some (r3))) (some (false))) (cond r1 (cond ((r2.length : Int) == (IntKind.wrap .i64 ((w1.length : Int) + 1))) (chk (0 ≤ 0 ∧ 0 ≤ (IntKind.wrap .i64 ((w1.length : Int) - 1)) ∧ (IntKind.wrap .i64 ((w1.length : Int) - 1)) ≤ (r2.length : Int)) (chk (0 ≤ 0 ∧ 0 ≤ (IntKind.wrap .i64 ((w1.length : Int) - 1)) ∧ (IntKind.wrap .i64 ((w1.length : Int) - 1)) ≤ (w1.length : Int)) ((ref05_SameAll_f ((r2.take (IntKind.wrap .i64 ((w1.length : Int) - 1)).toNat).drop 0) ((w1.take (IntKind.wrap .i64 ((w1.length : Int) - 1)).toNat).drop 0)).bind fun r4 => cond r4 ((idx r2 (IntKind.wrap .i64 ((w1.length : Int) - 1))).bind fun x1 => (ref05_Same_f x1 m1).bind fun r5 => cond r5 ((idx r2 (w1.length : Int)).bind fun x2 => (idx w1 (IntKind.wrap .i64 ((w1.length : Int) - 1))).bind fun x3 => (ref05_Same_f x2 x3).bind fun r6 => some (r6)) (some (false))) (some (false))))) (some (false))) (some (false)))
def law05_WireOrder_J2 (r1 : Bool) (w1 : List Msg) (r2 : (List Msg)) (m1 : Msg) (f1 : Int) (v2 : Bool) : Option Bool :=
  cond v2 (some (false)) (law05_WireOrder_J3 r1 w1 r2 m1 ((f1 != 4) || (((w1.length : Int) == 0) || (decide (200 ≤ (w1.length : Int))))))
def law05_WireOrder_J1 (r1 : Bool) (w1 : List Msg) (m1 : Msg) (fate1 : Int) (v1 : Bool) : Option Bool :=
  cond v1 (some (r1)) ((wire_Send_f w1 m1 (Int.tmod (IntKind.wrap .i64 fate1) 6)).bind fun r2 => law05_WireOrder_J2 r1 w1 r2 m1 (Int.tmod (IntKind.wrap .i64 fate1) 6) ((decide ((r2.length : Int) < (w1.length : Int))) || (cond (decide (200 ≤ (w1.length : Int))) ((decide ((w1.length : Int) < (r2.length : Int))) || (decide ((if (w1.length : Int) > 200 then (w1.length : Int) else 200) < (r2.length : Int)))) (decide ((if (w1.length : Int) > 200 then (w1.length : Int) else 200) < (r2.length : Int))))))
def law05_WireOrder_f (w1 : List Msg) (m1 : Msg) (fate1 : Int) : Option Bool :=
  (law05_head_f).bind fun r1 => (law05_Great_f w1).bind fun r7 => cond r7 (law05_WireOrder_J1 r1 w1 m1 fate1 true) ((law05_Great_f [m1]).bind fun r8 => law05_WireOrder_J1 r1 w1 m1 fate1 r8)
set_option maxHeartbeats 4000000 in
set_option maxRecDepth 20000 in
theorem law05_WireOrder_pc {w1 : List Msg} {m1 : Msg} {fate1 : Int} {r : Bool} (H : law05_WireOrder_f w1 m1 fate1 = some r) : PC Try.prog 5 [.list 5 (w1.map Msg.c), .agg (Msg.c m1), .int .u8 fate1] (.bool r) := by
  refine pcA_of Try.func5 (by rfl) (by decide) 118 (by rfl) [.tmp 6] (by rfl) ?_
  unfold law05_WireOrder_f at H
  simp only [ent]
  refine a_seq ?_
  refine a_reg _ rfl (s := ?zs1) ?_ ?_
  rotate_left
  · simp (maxSteps := 2000000) only [EVT, stepR, evOp, St.ev, St.app, St.put, wrs, allOne, datOf, datOf1, TIS, CS, Nat.reduceAdd, Nat.reduceMul, Nat.reduceEqDiff, ↓reduceIte, reduceCtorEq, Nat.reduceLT, Nat.reduceLeDiff]
    (repeat' apply And.intro) <;> first | rfl | assumption | omega | (left; omega) | (simp; done) | (simp; omega) | (right; exact ⟨_, rfl, rfl, rfl, by decide, by first | omega | (simp; omega)⟩) | (simp_all; done)
  refine sA_n ?_
  refine a_seq ?_
  obtain ⟨r1, zh1, H⟩ := bind_some H
  have zk1 := law05_head_pc zh1
  refine a_reg _ rfl (s := ?zs2) ?_ ?_
  rotate_left
  · try simp (maxSteps := 2000000) only [EVT, stepR, evOp, St.ev, St.app, St.put, wrs, frz, TIS, CS, Nat.reduceAdd, Nat.reduceMul, Nat.reduceEqDiff, ↓reduceIte, reduceCtorEq, Nat.reduceLT, Nat.reduceLeDiff, Nat.reduceSub, Nat.reduceBEq]
    repeat' with_reducible apply And.intro
    all_goals try ((with_reducible show CallR _ _ _ _ _ _ _); refine cR_s zk1 .nil (.bool _) ?_; simp (maxSteps := 2000000) only [EVT, stepR, evOp, St.ev, St.app, St.put, wrs, frz, TIS, CS, Nat.reduceAdd, Nat.reduceMul, Nat.reduceEqDiff, ↓reduceIte, reduceCtorEq, Nat.reduceLT, Nat.reduceLeDiff, Nat.reduceSub, Nat.reduceBEq])
    all_goals ((repeat' apply And.intro) <;> first | rfl | assumption | omega | (left; omega) | (simp; done) | (simp; omega) | (right; exact ⟨_, rfl, rfl, rfl, by decide, by first | omega | (simp; omega)⟩) | (simp_all; done))
  refine sA_n ?_
  refine a_seq ?_
  refine a_cut (fun s => ∃ (v1 : Bool) (t0 : Nat → Dat), law05_WireOrder_J1 r1 w1 m1 fate1 v1 = some r ∧ s = ⟨tl t0 [(0, .list 5 (w1.map Msg.c)), (2, .int .u8 fate1), (4, .ptr 0 0 0 5), (7, .bool r1), (17, .bool v1)], hl [⟨26, 5, false, [[.int .i64 m1.from_, .int .i64 m1.to_, .int .i64 m1.kind, .list 1 (m1.nums.map (ci .i64)), .list 1 (m1.data.map (ci .u8))]]⟩], 1, 118⟩) ?_ ?_
  · obtain ⟨r7, zh13, H⟩ := bind_some H
    have zk7 := law05_Great_pc zh13
    refine bool_split (b := r7) (fun zc14 => ?_) (fun zc14 => ?_)
    · have H := cond_t zc14 H
      refine a_reg _ rfl (s := ?zs21) ?_ ?_
      rotate_left
      · try simp (maxSteps := 2000000) only [EVT, stepR, evOp, St.ev, St.app, St.put, wrs, frz, evLoad, cut, allOne, datOf, datOf1, TIS, CS, Nat.reduceAdd, Nat.reduceMul, Nat.reduceEqDiff, ↓reduceIte, reduceCtorEq, Nat.reduceLT, Nat.reduceLeDiff, Array.reduceGetElem?, Nat.reduceSub, Nat.reduceBEq, ↓zc14]
        repeat' with_reducible apply And.intro
        all_goals try ((with_reducible show CallR _ _ _ _ _ _ _); refine cR_s zk7 (.cons (.lst _ _ _ Msg.pu rfl) .nil) (.bool _) ?_; simp (maxSteps := 2000000) only [EVT, stepR, evOp, St.ev, St.app, St.put, wrs, frz, evLoad, cut, allOne, datOf, datOf1, TIS, CS, Nat.reduceAdd, Nat.reduceMul, Nat.reduceEqDiff, ↓reduceIte, reduceCtorEq, Nat.reduceLT, Nat.reduceLeDiff, Array.reduceGetElem?, Nat.reduceSub, Nat.reduceBEq, ↓zc14])
        all_goals ((repeat' apply And.intro) <;> first | rfl | assumption | omega | (left; omega) | (simp; done) | (simp; omega) | (right; exact ⟨_, rfl, rfl, rfl, by decide, by first | omega | (simp; omega)⟩) | (simp_all; done))
      refine cA_n ?_
      refine wk_l [(some 0, ⟨26, 5, false, [[.int .i64 m1.from_, .int .i64 m1.to_, .int .i64 m1.kind, .list 1 (m1.nums.map (ci .i64)), .list 1 (m1.data.map (ci .u8))]]⟩)] [] [(0, .list 5 (w1.map Msg.c)), (2, .int .u8 fate1), (4, .ptr 0 0 0 5), (7, .bool r1), (17, .bool true)] (by show ([0, 2, 4, 7, 17] : List Nat).Nodup; decide) (by show ([0] : List Nat).Nodup; decide) ?_ ?_ (fun t0 => ⟨true, t0, H, rfl⟩)
      · exact (allB_some (by rfl) rfl (.cons (.cons (.int' rfl) (.cons (.int' rfl) (.cons (.int' rfl) (.cons (.lst _ _ _ (ci_pu .i64) rfl) (.cons (.lst _ _ _ (ci_pu .u8) rfl) .nil))))) .nil) trivial)
      · (simp only [AllT, tl_cons, tl_nil, upd_apply, List.getD_cons_zero, List.getD_cons_succ, Nat.reduceEqDiff, ↓reduceIte, and_true]); exact ⟨(.lst _ _ _ Msg.pu rfl), (.int' rfl), (.ptr _ _ _ _ _ rfl), (.bool' rfl), (.bool' (by first | rfl | assumption | (simp_all; done)))⟩
    · have H := cond_f zc14 H
      obtain ⟨r8, zh14, H⟩ := bind_some H
      have zk8 := law05_Great_pc zh14
      refine a_reg _ rfl (s := ?zs22) ?_ ?_
      rotate_left
      · try simp (maxSteps := 2000000) only [EVT, stepR, evOp, St.ev, St.app, St.put, wrs, frz, evLoad, cut, allOne, datOf, datOf1, TIS, CS, Nat.reduceAdd, Nat.reduceMul, Nat.reduceEqDiff, ↓reduceIte, reduceCtorEq, Nat.reduceLT, Nat.reduceLeDiff, Array.reduceGetElem?, Nat.reduceSub, Nat.reduceBEq, ↓zc14]
        repeat' with_reducible apply And.intro
        all_goals try ((with_reducible show CallR _ _ _ _ _ _ _); refine cR_s zk7 (.cons (.lst _ _ _ Msg.pu rfl) .nil) (.bool _) ?_; simp (maxSteps := 2000000) only [EVT, stepR, evOp, St.ev, St.app, St.put, wrs, frz, evLoad, cut, allOne, datOf, datOf1, TIS, CS, Nat.reduceAdd, Nat.reduceMul, Nat.reduceEqDiff, ↓reduceIte, reduceCtorEq, Nat.reduceLT, Nat.reduceLeDiff, Array.reduceGetElem?, Nat.reduceSub, Nat.reduceBEq, ↓zc14])
        repeat' with_reducible apply And.intro
        all_goals try ((with_reducible show CallR _ _ _ _ _ _ _); refine cR_s zk8 (.cons (.ownL (by rfl) (fun e => by cases e) rfl (by first | rfl | omega | (simp; done) | (simp [strBytes_len]; done) | (simp; omega) | (simp_all; done)) (.same _ _ Msg.pu (by first | rfl | (simp only [List.map_append, List.map_cons, List.map_nil, List.map_set, List.map_take, List.map_drop, List.map_replicate, List.append_assoc, List.nil_append, List.append_nil, ci_eq, cb_eq, cs_eq, cl_eq, CS,  List.nil_append]; done) | (simp [CS,  ci_eq, cb_eq, cs_eq, cl_eq]; done) | (simp [CS,  ci_eq, cb_eq, cs_eq, cl_eq]; intro hz; rw [List.take_of_length_le (by simp; omega)])))) .nil) (.bool _) ?_; simp (maxSteps := 2000000) only [EVT, stepR, evOp, St.ev, St.app, St.put, wrs, frz, evLoad, cut, allOne, datOf, datOf1, TIS, CS, Nat.reduceAdd, Nat.reduceMul, Nat.reduceEqDiff, ↓reduceIte, reduceCtorEq, Nat.reduceLT, Nat.reduceLeDiff, Array.reduceGetElem?, Nat.reduceSub, Nat.reduceBEq, ↓zc14])
        all_goals ((repeat' apply And.intro) <;> first | rfl | assumption | omega | (left; omega) | (simp; done) | (simp; omega) | (right; exact ⟨_, rfl, rfl, rfl, by decide, by first | omega | (simp; omega)⟩) | (simp_all; done))
      refine cA_n ?_
      refine wk_l [(some 0, ⟨26, 5, false, [[.int .i64 m1.from_, .int .i64 m1.to_, .int .i64 m1.kind, .list 1 (m1.nums.map (ci .i64)), .list 1 (m1.data.map (ci .u8))]]⟩)] [] [(0, .list 5 (w1.map Msg.c)), (2, .int .u8 fate1), (4, .ptr 0 0 0 5), (7, .bool r1), (17, .bool r8)] (by show ([0, 2, 4, 7, 17] : List Nat).Nodup; decide) (by show ([0] : List Nat).Nodup; decide) ?_ ?_ (fun t0 => ⟨r8, t0, H, rfl⟩)
      · exact (allB_some (by rfl) rfl (.cons (.cons (.int' rfl) (.cons (.int' rfl) (.cons (.int' rfl) (.cons (.lst _ _ _ (ci_pu .i64) rfl) (.cons (.lst _ _ _ (ci_pu .u8) rfl) .nil))))) .nil) trivial)
      · (simp only [AllT, tl_cons, tl_nil, upd_apply, List.getD_cons_zero, List.getD_cons_succ, Nat.reduceEqDiff, ↓reduceIte, and_true]); exact ⟨(.lst _ _ _ Msg.pu rfl), (.int' rfl), (.ptr _ _ _ _ _ rfl), (.bool' rfl), (.bool' rfl)⟩
  · rintro s ⟨v1, t0, H, rfl⟩
    unfold law05_WireOrder_J1 at H
    refine a_condb (v1) (by rfl) (fun zc1 => ?_) (fun zc1 => ?_)
    · have H := cond_t zc1 H
      refine a_seq ?_
      refine a_reg _ rfl (s := ?zs3) ?_ ?_
      rotate_left
      · simp (maxSteps := 2000000) only [EVT, stepR, evOp, St.ev, St.app, St.put, wrs, TIS, CS, Nat.reduceAdd, Nat.reduceMul, Nat.reduceEqDiff, ↓reduceIte, reduceCtorEq, Nat.reduceLT, Nat.reduceLeDiff, ↓zc1]
        (repeat' apply And.intro) <;> first | rfl | assumption | omega | (left; omega) | (simp; done) | (simp; omega) | (right; exact ⟨_, rfl, rfl, rfl, by decide, by first | omega | (simp; omega)⟩) | (simp_all; done)
      refine sA_n ?_
      refine a_ret ?_
      refine sA_r ?_
      obtain rfl := Option.some.inj H
      refine e_r2 (d := ?zd1) ?_ ?_
      rotate_left
      · simp only [EVT, resR, single, evLoad, cut, TIS, CS, Nat.reduceAdd, Nat.reduceEqDiff, ↓reduceIte, reduceCtorEq, Nat.reduceLT, Nat.reduceLeDiff, Nat.reduceSub, Nat.reduceBEq, zc1]
        (repeat' apply And.intro) <;> first | rfl | assumption | omega | (simp; done)
      exact (.bool' rfl)
    · have H := cond_f zc1 H
      refine a_skip ?_
      refine sA_n ?_
      refine a_seq ?_
      refine a_reg _ rfl (s := ?zs4) ?_ ?_
      rotate_left
      · simp (maxSteps := 2000000) only [EVT, stepR, evOp, St.ev, St.app, St.put, wrs, evToStr, elems, datOf, datOf1, evBin, binInt, TIS, CS, Nat.reduceAdd, Nat.reduceMul, Nat.reduceEqDiff, ↓reduceIte, reduceCtorEq, Nat.reduceLT, Nat.reduceLeDiff, ↓zc1]
        (repeat' apply And.intro) <;> first | rfl | assumption | omega | (left; omega) | (simp; done) | (simp; omega) | (right; exact ⟨_, rfl, rfl, rfl, by decide, by first | omega | (simp; omega)⟩) | (simp_all; done)
      refine sA_n ?_
      refine a_seq ?_
      obtain ⟨r2, zh2, H⟩ := bind_some H
      have zk2 := wire_Send_pc zh2
      refine a_reg _ rfl (s := ?zs5) ?_ ?_
      rotate_left
      · try simp (maxSteps := 2000000) only [EVT, stepR, evOp, St.ev, St.app, St.put, wrs, evLoad, cut, frz, TIS, CS, Nat.reduceAdd, Nat.reduceMul, Nat.reduceEqDiff, ↓reduceIte, reduceCtorEq, Nat.reduceLT, Nat.reduceLeDiff, Nat.reduceSub, Nat.reduceBEq, ↓zc1]
        repeat' with_reducible apply And.intro
        all_goals try ((with_reducible show CallR _ _ _ _ _ _ _); refine cR_p zk2 (.cons (.lst _ _ _ Msg.pu rfl) (.cons (.agg' (.cons (.int' rfl) (.cons (.int' rfl) (.cons (.int' rfl) (.cons (.lst _ _ _ (ci_pu .i64) rfl) (.cons (.lst _ _ _ (ci_pu .u8) rfl) .nil)))))) (.cons (.int' rfl) .nil))) ?_; simp (maxSteps := 2000000) only [EVT, stepR, evOp, St.ev, St.app, St.put, wrs, evLoad, cut, frz, TIS, CS, Nat.reduceAdd, Nat.reduceMul, Nat.reduceEqDiff, ↓reduceIte, reduceCtorEq, Nat.reduceLT, Nat.reduceLeDiff, Nat.reduceSub, Nat.reduceBEq, ↓zc1])
        all_goals ((repeat' apply And.intro) <;> first | rfl | assumption | omega | (left; omega) | (simp; done) | (simp; omega) | (right; exact ⟨_, rfl, rfl, rfl, by decide, by first | omega | (simp; omega)⟩) | (simp_all; done))
      refine sA_n ?_
      refine a_seq ?_
      refine a_cut (fun s => ∃ (f1 : Int) (v2 : Bool) (t0 : Nat → Dat), law05_WireOrder_J2 r1 w1 r2 m1 f1 v2 = some r ∧ s = ⟨tl t0 [(0, .list 5 (w1.map Msg.c)), (4, .ptr 0 0 0 5), (7, .bool r1), (8, .int .i64 f1), (9, .list 5 (r2.map Msg.c)), (50, .bool v2)], hl [⟨26, 5, false, [[.int .i64 m1.from_, .int .i64 m1.to_, .int .i64 m1.kind, .list 1 (m1.nums.map (ci .i64)), .list 1 (m1.data.map (ci .u8))]]⟩], 1, 118⟩) ?_ ?_
      · refine bool_split (b := (decide ((r2.length : Int) < (w1.length : Int)))) (fun zc11 => ?_) (fun zc11 => ?_)
        · rw [zc11] at H
          refine a_reg _ rfl (s := ?zs17) ?_ ?_
          rotate_left
          · simp (maxSteps := 2000000) only [EVT, stepR, evOp, St.ev, St.app, St.put, wrs, evBuiltin, evBin, binInt, datOf, datOf1, minMax, mmStep, TIS, CS, Nat.reduceAdd, Nat.reduceMul, Nat.reduceEqDiff, ↓reduceIte, reduceCtorEq, Nat.reduceLT, Nat.reduceLeDiff, Array.reduceGetElem?, Nat.reduceSub, Nat.reduceBEq, ↓zc1, ↓zc11]
            try simp (maxSteps := 2000000) only [EVT, stepR, evOp, St.ev, St.app, St.put, wrs, evBuiltin, evBin, binInt, datOf, datOf1, minMax, mmStep, TIS, CS, Nat.reduceAdd, Nat.reduceMul, Nat.reduceEqDiff, ↓reduceIte, reduceCtorEq, Nat.reduceLT, Nat.reduceLeDiff, Array.reduceGetElem?, Nat.reduceSub, Nat.reduceBEq, ↓zc1, ↓zc11]
            (repeat' apply And.intro) <;> first | rfl | assumption | omega | (left; omega) | (simp; done) | (simp; omega) | (right; exact ⟨_, rfl, rfl, rfl, by decide, by first | omega | (simp; omega)⟩) | (simp_all; done)
          refine cA_n ?_
          refine wk_l [(some 0, ⟨26, 5, false, [[.int .i64 m1.from_, .int .i64 m1.to_, .int .i64 m1.kind, .list 1 (m1.nums.map (ci .i64)), .list 1 (m1.data.map (ci .u8))]]⟩)] [] [(0, .list 5 (w1.map Msg.c)), (4, .ptr 0 0 0 5), (7, .bool r1), (8, .int .i64 (Int.tmod (IntKind.wrap .i64 fate1) 6)), (9, .list 5 (r2.map Msg.c)), (50, .bool true)] (by show ([0, 4, 7, 8, 9, 50] : List Nat).Nodup; decide) (by show ([0] : List Nat).Nodup; decide) ?_ ?_ (fun t0 => ⟨(Int.tmod (IntKind.wrap .i64 fate1) 6), true, t0, H, rfl⟩)
          · exact (allB_some (by rfl) rfl (.cons (.cons (.int' rfl) (.cons (.int' rfl) (.cons (.int' rfl) (.cons (.lst _ _ _ (ci_pu .i64) rfl) (.cons (.lst _ _ _ (ci_pu .u8) rfl) .nil))))) .nil) trivial)
          · (simp only [AllT, tl_cons, tl_nil, upd_apply, List.getD_cons_zero, List.getD_cons_succ, Nat.reduceEqDiff, ↓reduceIte, and_true]); exact ⟨(.lst _ _ _ Msg.pu rfl), (.ptr _ _ _ _ _ rfl), (.bool' rfl), (.int' rfl), (.lst _ _ _ Msg.pu rfl), (.bool' (by first | rfl | assumption | (simp_all; done)))⟩
        · rw [zc11] at H
          refine bool_split (b := (decide (200 ≤ (w1.length : Int)))) (fun zc12 => ?_) (fun zc12 => ?_)
          · rw [zc12] at H
            refine bool_split (b := (decide ((w1.length : Int) < (r2.length : Int)))) (fun zc13 => ?_) (fun zc13 => ?_)
            · rw [zc13] at H
              refine a_reg _ rfl (s := ?zs18) ?_ ?_
              rotate_left
              · simp (maxSteps := 2000000) only [EVT, stepR, evOp, St.ev, St.app, St.put, wrs, evBuiltin, evBin, binInt, datOf, datOf1, minMax, mmStep, TIS, CS, Nat.reduceAdd, Nat.reduceMul, Nat.reduceEqDiff, ↓reduceIte, reduceCtorEq, Nat.reduceLT, Nat.reduceLeDiff, Array.reduceGetElem?, Nat.reduceSub, Nat.reduceBEq, ↓zc1, ↓zc11, ↓zc12, ↓zc13]
                try simp (maxSteps := 2000000) only [EVT, stepR, evOp, St.ev, St.app, St.put, wrs, evBuiltin, evBin, binInt, datOf, datOf1, minMax, mmStep, TIS, CS, Nat.reduceAdd, Nat.reduceMul, Nat.reduceEqDiff, ↓reduceIte, reduceCtorEq, Nat.reduceLT, Nat.reduceLeDiff, Array.reduceGetElem?, Nat.reduceSub, Nat.reduceBEq, ↓zc1, ↓zc11, ↓zc12, ↓zc13]
                (repeat' apply And.intro) <;> first | rfl | assumption | omega | (left; omega) | (simp; done) | (simp; omega) | (right; exact ⟨_, rfl, rfl, rfl, by decide, by first | omega | (simp; omega)⟩) | (simp_all; done)
              refine cA_n ?_
              refine wk_l [(some 0, ⟨26, 5, false, [[.int .i64 m1.from_, .int .i64 m1.to_, .int .i64 m1.kind, .list 1 (m1.nums.map (ci .i64)), .list 1 (m1.data.map (ci .u8))]]⟩)] [] [(0, .list 5 (w1.map Msg.c)), (4, .ptr 0 0 0 5), (7, .bool r1), (8, .int .i64 (Int.tmod (IntKind.wrap .i64 fate1) 6)), (9, .list 5 (r2.map Msg.c)), (50, .bool true)] (by show ([0, 4, 7, 8, 9, 50] : List Nat).Nodup; decide) (by show ([0] : List Nat).Nodup; decide) ?_ ?_ (fun t0 => ⟨(Int.tmod (IntKind.wrap .i64 fate1) 6), true, t0, H, rfl⟩)
              · exact (allB_some (by rfl) rfl (.cons (.cons (.int' rfl) (.cons (.int' rfl) (.cons (.int' rfl) (.cons (.lst _ _ _ (ci_pu .i64) rfl) (.cons (.lst _ _ _ (ci_pu .u8) rfl) .nil))))) .nil) trivial)
              · (simp only [AllT, tl_cons, tl_nil, upd_apply, List.getD_cons_zero, List.getD_cons_succ, Nat.reduceEqDiff, ↓reduceIte, and_true]); exact ⟨(.lst _ _ _ Msg.pu rfl), (.ptr _ _ _ _ _ rfl), (.bool' rfl), (.int' rfl), (.lst _ _ _ Msg.pu rfl), (.bool' (by first | rfl | assumption | (simp_all; done)))⟩
            · rw [zc13] at H
              refine a_reg _ rfl (s := ?zs19) ?_ ?_
              rotate_left
              · simp (maxSteps := 2000000) only [EVT, stepR, evOp, St.ev, St.app, St.put, wrs, evBuiltin, evBin, binInt, datOf, datOf1, minMax, mmStep, TIS, CS, Nat.reduceAdd, Nat.reduceMul, Nat.reduceEqDiff, ↓reduceIte, reduceCtorEq, Nat.reduceLT, Nat.reduceLeDiff, Array.reduceGetElem?, Nat.reduceSub, Nat.reduceBEq, ↓zc1, ↓zc11, ↓zc12, ↓zc13]
                try simp (maxSteps := 2000000) only [EVT, stepR, evOp, St.ev, St.app, St.put, wrs, evBuiltin, evBin, binInt, datOf, datOf1, minMax, mmStep, TIS, CS, Nat.reduceAdd, Nat.reduceMul, Nat.reduceEqDiff, ↓reduceIte, reduceCtorEq, Nat.reduceLT, Nat.reduceLeDiff, Array.reduceGetElem?, Nat.reduceSub, Nat.reduceBEq, ↓zc1, ↓zc11, ↓zc12, ↓zc13]
                (repeat' apply And.intro) <;> first | rfl | assumption | omega | (left; omega) | (simp; done) | (simp; omega) | (right; exact ⟨_, rfl, rfl, rfl, by decide, by first | omega | (simp; omega)⟩) | (simp_all; done)
              refine cA_n ?_
              refine wk_l [(some 0, ⟨26, 5, false, [[.int .i64 m1.from_, .int .i64 m1.to_, .int .i64 m1.kind, .list 1 (m1.nums.map (ci .i64)), .list 1 (m1.data.map (ci .u8))]]⟩)] [] [(0, .list 5 (w1.map Msg.c)), (4, .ptr 0 0 0 5), (7, .bool r1), (8, .int .i64 (Int.tmod (IntKind.wrap .i64 fate1) 6)), (9, .list 5 (r2.map Msg.c)), (50, .bool (decide ((if (w1.length : Int) > 200 then (w1.length : Int) else 200) < (r2.length : Int))))] (by show ([0, 4, 7, 8, 9, 50] : List Nat).Nodup; decide) (by show ([0] : List Nat).Nodup; decide) ?_ ?_ (fun t0 => ⟨(Int.tmod (IntKind.wrap .i64 fate1) 6), (decide ((if (w1.length : Int) > 200 then (w1.length : Int) else 200) < (r2.length : Int))), t0, H, rfl⟩)
              · exact (allB_some (by rfl) rfl (.cons (.cons (.int' rfl) (.cons (.int' rfl) (.cons (.int' rfl) (.cons (.lst _ _ _ (ci_pu .i64) rfl) (.cons (.lst _ _ _ (ci_pu .u8) rfl) .nil))))) .nil) trivial)
              · (simp only [AllT, tl_cons, tl_nil, upd_apply, List.getD_cons_zero, List.getD_cons_succ, Nat.reduceEqDiff, ↓reduceIte, and_true]); exact ⟨(.lst _ _ _ Msg.pu rfl), (.ptr _ _ _ _ _ rfl), (.bool' rfl), (.int' rfl), (.lst _ _ _ Msg.pu rfl), (.bool' rfl)⟩
          · rw [zc12] at H
            refine a_reg _ rfl (s := ?zs20) ?_ ?_
            rotate_left
            · simp (maxSteps := 2000000) only [EVT, stepR, evOp, St.ev, St.app, St.put, wrs, evBuiltin, evBin, binInt, datOf, datOf1, minMax, mmStep, TIS, CS, Nat.reduceAdd, Nat.reduceMul, Nat.reduceEqDiff, ↓reduceIte, reduceCtorEq, Nat.reduceLT, Nat.reduceLeDiff, Array.reduceGetElem?, Nat.reduceSub, Nat.reduceBEq, ↓zc1, ↓zc11, ↓zc12]
              try simp (maxSteps := 2000000) only [EVT, stepR, evOp, St.ev, St.app, St.put, wrs, evBuiltin, evBin, binInt, datOf, datOf1, minMax, mmStep, TIS, CS, Nat.reduceAdd, Nat.reduceMul, Nat.reduceEqDiff, ↓reduceIte, reduceCtorEq, Nat.reduceLT, Nat.reduceLeDiff, Array.reduceGetElem?, Nat.reduceSub, Nat.reduceBEq, ↓zc1, ↓zc11, ↓zc12]
              (repeat' apply And.intro) <;> first | rfl | assumption | omega | (left; omega) | (simp; done) | (simp; omega) | (right; exact ⟨_, rfl, rfl, rfl, by decide, by first | omega | (simp; omega)⟩) | (simp_all; done)
            refine cA_n ?_
            refine wk_l [(some 0, ⟨26, 5, false, [[.int .i64 m1.from_, .int .i64 m1.to_, .int .i64 m1.kind, .list 1 (m1.nums.map (ci .i64)), .list 1 (m1.data.map (ci .u8))]]⟩)] [] [(0, .list 5 (w1.map Msg.c)), (4, .ptr 0 0 0 5), (7, .bool r1), (8, .int .i64 (Int.tmod (IntKind.wrap .i64 fate1) 6)), (9, .list 5 (r2.map Msg.c)), (50, .bool (decide ((if (w1.length : Int) > 200 then (w1.length : Int) else 200) < (r2.length : Int))))] (by show ([0, 4, 7, 8, 9, 50] : List Nat).Nodup; decide) (by show ([0] : List Nat).Nodup; decide) ?_ ?_ (fun t0 => ⟨(Int.tmod (IntKind.wrap .i64 fate1) 6), (decide ((if (w1.length : Int) > 200 then (w1.length : Int) else 200) < (r2.length : Int))), t0, H, rfl⟩)
            · exact (allB_some (by rfl) rfl (.cons (.cons (.int' rfl) (.cons (.int' rfl) (.cons (.int' rfl) (.cons (.lst _ _ _ (ci_pu .i64) rfl) (.cons (.lst _ _ _ (ci_pu .u8) rfl) .nil))))) .nil) trivial)
            · (simp only [AllT, tl_cons, tl_nil, upd_apply, List.getD_cons_zero, List.getD_cons_succ, Nat.reduceEqDiff, ↓reduceIte, and_true]); exact ⟨(.lst _ _ _ Msg.pu rfl), (.ptr _ _ _ _ _ rfl), (.bool' rfl), (.int' rfl), (.lst _ _ _ Msg.pu rfl), (.bool' rfl)⟩
      · rintro s ⟨f1, v2, t0, H, rfl⟩
        unfold law05_WireOrder_J2 at H
        refine a_condb (v2) (by rfl) (fun zc2 => ?_) (fun zc2 => ?_)
        · have H := cond_t zc2 H
          refine a_seq ?_
          refine a_reg _ rfl (s := ?zs6) ?_ ?_
          rotate_left
          · simp (maxSteps := 2000000) only [EVT, stepR, evOp, St.ev, St.app, St.put, wrs, datOf, datOf1, TIS, CS, Nat.reduceAdd, Nat.reduceMul, Nat.reduceEqDiff, ↓reduceIte, reduceCtorEq, Nat.reduceLT, Nat.reduceLeDiff, ↓zc2]
            (repeat' apply And.intro) <;> first | rfl | assumption | omega | (left; omega) | (simp; done) | (simp; omega) | (right; exact ⟨_, rfl, rfl, rfl, by decide, by first | omega | (simp; omega)⟩) | (simp_all; done)
          refine sA_n ?_
          refine a_ret ?_
          refine sA_r ?_
          obtain rfl := Option.some.inj H
          refine e_r2 (d := ?zd2) ?_ ?_
          rotate_left
          · simp only [EVT, resR, single, evLoad, cut, TIS, CS, Nat.reduceAdd, Nat.reduceEqDiff, ↓reduceIte, reduceCtorEq, Nat.reduceLT, Nat.reduceLeDiff, Nat.reduceSub, Nat.reduceBEq, zc2]
            (repeat' apply And.intro) <;> first | rfl | assumption | omega | (simp; done)
          exact (.bool' (by first | rfl | assumption | (simp_all; done)))
        · have H := cond_f zc2 H
          refine a_skip ?_
          refine sA_n ?_
          refine a_seq ?_
          refine a_cut (fun s => ∃ (v3 : Bool) (t0 : Nat → Dat), law05_WireOrder_J3 r1 w1 r2 m1 v3 = some r ∧ s = ⟨tl t0 [(0, .list 5 (w1.map Msg.c)), (4, .ptr 0 0 0 5), (7, .bool r1), (9, .list 5 (r2.map Msg.c)), (62, .bool v3)], hl [⟨26, 5, false, [[.int .i64 m1.from_, .int .i64 m1.to_, .int .i64 m1.kind, .list 1 (m1.nums.map (ci .i64)), .list 1 (m1.data.map (ci .u8))]]⟩], 1, 118⟩) ?_ ?_
          · refine bool_split (b := (f1 != 4)) (fun zc9 => ?_) (fun zc9 => ?_)
            · rw [zc9] at H
              refine a_reg _ rfl (s := ?zs14) ?_ ?_
              rotate_left
              · simp (maxSteps := 2000000) only [EVT, stepR, evOp, St.ev, St.app, St.put, wrs, datOf, datOf1, evBin, binInt, evBuiltin, TIS, CS, Nat.reduceAdd, Nat.reduceMul, Nat.reduceEqDiff, ↓reduceIte, reduceCtorEq, Nat.reduceLT, Nat.reduceLeDiff, Array.reduceGetElem?, Nat.reduceSub, Nat.reduceBEq, ↓zc2, ↓zc9]
                try simp (maxSteps := 2000000) only [EVT, stepR, evOp, St.ev, St.app, St.put, wrs, datOf, datOf1, evBin, binInt, evBuiltin, TIS, CS, Nat.reduceAdd, Nat.reduceMul, Nat.reduceEqDiff, ↓reduceIte, reduceCtorEq, Nat.reduceLT, Nat.reduceLeDiff, Array.reduceGetElem?, Nat.reduceSub, Nat.reduceBEq, ↓zc2, ↓zc9]
                (repeat' apply And.intro) <;> first | rfl | assumption | omega | (left; omega) | (simp; done) | (simp; omega) | (right; exact ⟨_, rfl, rfl, rfl, by decide, by first | omega | (simp; omega)⟩) | (simp_all; done)
              refine cA_n ?_
              refine wk_l [(some 0, ⟨26, 5, false, [[.int .i64 m1.from_, .int .i64 m1.to_, .int .i64 m1.kind, .list 1 (m1.nums.map (ci .i64)), .list 1 (m1.data.map (ci .u8))]]⟩)] [] [(0, .list 5 (w1.map Msg.c)), (4, .ptr 0 0 0 5), (7, .bool r1), (9, .list 5 (r2.map Msg.c)), (62, .bool true)] (by show ([0, 4, 7, 9, 62] : List Nat).Nodup; decide) (by show ([0] : List Nat).Nodup; decide) ?_ ?_ (fun t0 => ⟨true, t0, H, rfl⟩)
              · exact (allB_some (by rfl) rfl (.cons (.cons (.int' rfl) (.cons (.int' rfl) (.cons (.int' rfl) (.cons (.lst _ _ _ (ci_pu .i64) rfl) (.cons (.lst _ _ _ (ci_pu .u8) rfl) .nil))))) .nil) trivial)
              · (simp only [AllT, tl_cons, tl_nil, upd_apply, List.getD_cons_zero, List.getD_cons_succ, Nat.reduceEqDiff, ↓reduceIte, and_true]); exact ⟨(.lst _ _ _ Msg.pu rfl), (.ptr _ _ _ _ _ rfl), (.bool' rfl), (.lst _ _ _ Msg.pu rfl), (.bool' (by first | rfl | assumption | (simp_all; done)))⟩
            · rw [zc9] at H
              refine bool_split (b := ((w1.length : Int) == 0)) (fun zc10 => ?_) (fun zc10 => ?_)
              · rw [zc10] at H
                refine a_reg _ rfl (s := ?zs15) ?_ ?_
                rotate_left
                · simp (maxSteps := 2000000) only [EVT, stepR, evOp, St.ev, St.app, St.put, wrs, datOf, datOf1, evBin, binInt, evBuiltin, TIS, CS, Nat.reduceAdd, Nat.reduceMul, Nat.reduceEqDiff, ↓reduceIte, reduceCtorEq, Nat.reduceLT, Nat.reduceLeDiff, Array.reduceGetElem?, Nat.reduceSub, Nat.reduceBEq, ↓zc2, ↓zc9, ↓zc10]
                  try simp (maxSteps := 2000000) only [EVT, stepR, evOp, St.ev, St.app, St.put, wrs, datOf, datOf1, evBin, binInt, evBuiltin, TIS, CS, Nat.reduceAdd, Nat.reduceMul, Nat.reduceEqDiff, ↓reduceIte, reduceCtorEq, Nat.reduceLT, Nat.reduceLeDiff, Array.reduceGetElem?, Nat.reduceSub, Nat.reduceBEq, ↓zc2, ↓zc9, ↓zc10]
                  (repeat' apply And.intro) <;> first | rfl | assumption | omega | (left; omega) | (simp; done) | (simp; omega) | (right; exact ⟨_, rfl, rfl, rfl, by decide, by first | omega | (simp; omega)⟩) | (simp_all; done)
                refine cA_n ?_
                refine wk_l [(some 0, ⟨26, 5, false, [[.int .i64 m1.from_, .int .i64 m1.to_, .int .i64 m1.kind, .list 1 (m1.nums.map (ci .i64)), .list 1 (m1.data.map (ci .u8))]]⟩)] [] [(0, .list 5 (w1.map Msg.c)), (4, .ptr 0 0 0 5), (7, .bool r1), (9, .list 5 (r2.map Msg.c)), (62, .bool true)] (by show ([0, 4, 7, 9, 62] : List Nat).Nodup; decide) (by show ([0] : List Nat).Nodup; decide) ?_ ?_ (fun t0 => ⟨true, t0, H, rfl⟩)
                · exact (allB_some (by rfl) rfl (.cons (.cons (.int' rfl) (.cons (.int' rfl) (.cons (.int' rfl) (.cons (.lst _ _ _ (ci_pu .i64) rfl) (.cons (.lst _ _ _ (ci_pu .u8) rfl) .nil))))) .nil) trivial)
                · (simp only [AllT, tl_cons, tl_nil, upd_apply, List.getD_cons_zero, List.getD_cons_succ, Nat.reduceEqDiff, ↓reduceIte, and_true]); exact ⟨(.lst _ _ _ Msg.pu rfl), (.ptr _ _ _ _ _ rfl), (.bool' rfl), (.lst _ _ _ Msg.pu rfl), (.bool' (by first | rfl | assumption | (simp_all; done)))⟩
              · rw [zc10] at H
                refine a_reg _ rfl (s := ?zs16) ?_ ?_
                rotate_left
                · simp (maxSteps := 2000000) only [EVT, stepR, evOp, St.ev, St.app, St.put, wrs, datOf, datOf1, evBin, binInt, evBuiltin, TIS, CS, Nat.reduceAdd, Nat.reduceMul, Nat.reduceEqDiff, ↓reduceIte, reduceCtorEq, Nat.reduceLT, Nat.reduceLeDiff, Array.reduceGetElem?, Nat.reduceSub, Nat.reduceBEq, ↓zc2, ↓zc9, ↓zc10]
                  try simp (maxSteps := 2000000) only [EVT, stepR, evOp, St.ev, St.app, St.put, wrs, datOf, datOf1, evBin, binInt, evBuiltin, TIS, CS, Nat.reduceAdd, Nat.reduceMul, Nat.reduceEqDiff, ↓reduceIte, reduceCtorEq, Nat.reduceLT, Nat.reduceLeDiff, Array.reduceGetElem?, Nat.reduceSub, Nat.reduceBEq, ↓zc2, ↓zc9, ↓zc10]
                  (repeat' apply And.intro) <;> first | rfl | assumption | omega | (left; omega) | (simp; done) | (simp; omega) | (right; exact ⟨_, rfl, rfl, rfl, by decide, by first | omega | (simp; omega)⟩) | (simp_all; done)
                refine cA_n ?_
                refine wk_l [(some 0, ⟨26, 5, false, [[.int .i64 m1.from_, .int .i64 m1.to_, .int .i64 m1.kind, .list 1 (m1.nums.map (ci .i64)), .list 1 (m1.data.map (ci .u8))]]⟩)] [] [(0, .list 5 (w1.map Msg.c)), (4, .ptr 0 0 0 5), (7, .bool r1), (9, .list 5 (r2.map Msg.c)), (62, .bool (decide (200 ≤ (w1.length : Int))))] (by show ([0, 4, 7, 9, 62] : List Nat).Nodup; decide) (by show ([0] : List Nat).Nodup; decide) ?_ ?_ (fun t0 => ⟨(decide (200 ≤ (w1.length : Int))), t0, H, rfl⟩)
                · exact (allB_some (by rfl) rfl (.cons (.cons (.int' rfl) (.cons (.int' rfl) (.cons (.int' rfl) (.cons (.lst _ _ _ (ci_pu .i64) rfl) (.cons (.lst _ _ _ (ci_pu .u8) rfl) .nil))))) .nil) trivial)
                · (simp only [AllT, tl_cons, tl_nil, upd_apply, List.getD_cons_zero, List.getD_cons_succ, Nat.reduceEqDiff, ↓reduceIte, and_true]); exact ⟨(.lst _ _ _ Msg.pu rfl), (.ptr _ _ _ _ _ rfl), (.bool' rfl), (.lst _ _ _ Msg.pu rfl), (.bool' rfl)⟩
          · rintro s ⟨v3, t0, H, rfl⟩
            unfold law05_WireOrder_J3 at H
            refine a_condb (v3) (by rfl) (fun zc3 => ?_) (fun zc3 => ?_)
            · have H := cond_t zc3 H
              refine a_seq ?_
              refine bool_split (b := r1) (fun zc4 => ?_) (fun zc4 => ?_)
              · have H := cond_t zc4 H
                obtain ⟨zh3, H⟩ := chk_some H
                obtain ⟨r3, zh4, H⟩ := bind_some H
                have zk3 := ref05_SameAll_pc zh4
                refine a_reg _ rfl (s := ?zs7) ?_ ?_
                rotate_left
                · try simp (maxSteps := 2000000) only [EVT, stepR, evOp, St.ev, St.app, St.put, wrs, evBuiltin, evSlice, sliceOk, sl_if0, sl_if1, sl_if2, sl_if3, tk_map, dp_map, frz, datOf, datOf1, TIS, CS, Nat.reduceAdd, Nat.reduceMul, Nat.reduceEqDiff, ↓reduceIte, reduceCtorEq, Nat.reduceLT, Nat.reduceLeDiff, Array.reduceGetElem?, Int.reduceToNat, Nat.reduceSub, Nat.reduceBEq, ↓zc3, ↓zc4]
                  repeat' with_reducible apply And.intro
                  all_goals try ((with_reducible show CallR _ _ _ _ _ _ _); refine cR_s zk3 (.cons (.lst _ _ _ Msg.pu rfl) (.cons (.lst _ _ _ Msg.pu rfl) .nil)) (.bool _) ?_; simp (maxSteps := 2000000) only [EVT, stepR, evOp, St.ev, St.app, St.put, wrs, evBuiltin, evSlice, sliceOk, sl_if0, sl_if1, sl_if2, sl_if3, tk_map, dp_map, frz, datOf, datOf1, TIS, CS, Nat.reduceAdd, Nat.reduceMul, Nat.reduceEqDiff, ↓reduceIte, reduceCtorEq, Nat.reduceLT, Nat.reduceLeDiff, Array.reduceGetElem?, Int.reduceToNat, Nat.reduceSub, Nat.reduceBEq, ↓zc3, ↓zc4])
                  all_goals ((repeat' apply And.intro) <;> first | rfl | assumption | omega | (left; omega) | (simp; done) | (simp; omega) | (right; exact ⟨_, rfl, rfl, rfl, by decide, by first | omega | (simp; omega)⟩) | (simp_all; done))
                refine sA_n ?_
                refine a_ret ?_
                refine sA_r ?_
                obtain rfl := Option.some.inj H
                refine e_r2 (d := ?zd3) ?_ ?_
                rotate_left
                · simp only [EVT, resR, single, evLoad, cut, TIS, CS, Nat.reduceAdd, Nat.reduceEqDiff, ↓reduceIte, reduceCtorEq, Nat.reduceLT, Nat.reduceLeDiff, Nat.reduceSub, Nat.reduceBEq, zc3, zc4]
                  (repeat' apply And.intro) <;> first | rfl | assumption | omega | (simp; done)
                exact (.bool' rfl)
              · have H := cond_f zc4 H
                refine a_reg _ rfl (s := ?zs8) ?_ ?_
                rotate_left
                · simp (maxSteps := 2000000) only [EVT, stepR, evOp, St.ev, St.app, St.put, wrs, evBuiltin, evSlice, sliceOk, sl_if0, sl_if1, sl_if2, sl_if3, tk_map, dp_map, frz, datOf, datOf1, TIS, CS, Nat.reduceAdd, Nat.reduceMul, Nat.reduceEqDiff, ↓reduceIte, reduceCtorEq, Nat.reduceLT, Nat.reduceLeDiff, Array.reduceGetElem?, Int.reduceToNat, Nat.reduceSub, Nat.reduceBEq, ↓zc3, ↓zc4]
                  try simp (maxSteps := 2000000) only [EVT, stepR, evOp, St.ev, St.app, St.put, wrs, evBuiltin, evSlice, sliceOk, sl_if0, sl_if1, sl_if2, sl_if3, tk_map, dp_map, frz, datOf, datOf1, TIS, CS, Nat.reduceAdd, Nat.reduceMul, Nat.reduceEqDiff, ↓reduceIte, reduceCtorEq, Nat.reduceLT, Nat.reduceLeDiff, Array.reduceGetElem?, Int.reduceToNat, Nat.reduceSub, Nat.reduceBEq, ↓zc3, ↓zc4]
                  (repeat' apply And.intro) <;> first | rfl | assumption | omega | (left; omega) | (simp; done) | (simp; omega) | (right; exact ⟨_, rfl, rfl, rfl, by decide, by first | omega | (simp; omega)⟩) | (simp_all; done)
                refine sA_n ?_
                refine a_ret ?_
                refine sA_r ?_
                obtain rfl := Option.some.inj H
                refine e_r2 (d := ?zd4) ?_ ?_
                rotate_left
                · simp only [EVT, resR, single, evLoad, cut, TIS, CS, Nat.reduceAdd, Nat.reduceEqDiff, ↓reduceIte, reduceCtorEq, Nat.reduceLT, Nat.reduceLeDiff, Nat.reduceSub, Nat.reduceBEq, zc3, zc4]
                  (repeat' apply And.intro) <;> first | rfl | assumption | omega | (simp; done)
                exact (.bool' (by first | rfl | assumption | (simp_all; done)))
            · have H := cond_f zc3 H
              refine a_skip ?_
              refine sA_n ?_
              refine a_seq ?_
              refine bool_split (b := r1) (fun zc5 => ?_) (fun zc5 => ?_)
              · have H := cond_t zc5 H
                refine bool_split (b := ((r2.length : Int) == (IntKind.wrap .i64 ((w1.length : Int) + 1)))) (fun zc6 => ?_) (fun zc6 => ?_)
                · have H := cond_t zc6 H
                  obtain ⟨zh5, H⟩ := chk_some H
                  obtain ⟨zh6, H⟩ := chk_some H
                  obtain ⟨r4, zh7, H⟩ := bind_some H
                  have zk4 := ref05_SameAll_pc zh7
                  refine bool_split (b := r4) (fun zc7 => ?_) (fun zc7 => ?_)
                  · have H := cond_t zc7 H
                    obtain ⟨x1, zh8, H⟩ := bind_some H
                    have zg1 := idx_map zh8 Msg.c
                    try simp only [Int.reduceToNat] at zg1
                    try simp only [Int.toNat_natCast] at zg1
                    obtain ⟨zh8a, zh8b, _⟩ := idx_some zh8
                    obtain ⟨r5, zh9, H⟩ := bind_some H
                    have zk5 := ref05_Same_pc zh9
                    refine bool_split (b := r5) (fun zc8 => ?_) (fun zc8 => ?_)
                    · have H := cond_t zc8 H
                      obtain ⟨x2, zh10, H⟩ := bind_some H
                      have zg2 := idx_map zh10 Msg.c
                      try simp only [Int.reduceToNat] at zg2
                      try simp only [Int.toNat_natCast] at zg2
                      obtain ⟨zh10a, zh10b, _⟩ := idx_some zh10
                      obtain ⟨x3, zh11, H⟩ := bind_some H
                      have zg3 := idx_map zh11 Msg.c
                      try simp only [Int.reduceToNat] at zg3
                      try simp only [Int.toNat_natCast] at zg3
                      obtain ⟨zh11a, zh11b, _⟩ := idx_some zh11
                      obtain ⟨r6, zh12, H⟩ := bind_some H
                      have zk6 := ref05_Same_pc zh12
                      refine a_drW (by kernel_rfl) _ rfl (s := ?zs9) (by kernel_rfl) (by kernel_rfl) ?zs9f ?_ ?_ ?_
                      rotate_left 2
                      · try simp (maxSteps := 2000000) only [EVT, stepW, evOp, St.ev, St.app, St.put, wrs, evBuiltin, datOf, datOf1, evBin, binInt, evSlice, sliceOk, sl_if0, sl_if1, sl_if2, sl_if3, tk_map, dp_map, frz, evIndexAddr, evLoad, cut, TIS, CS, Nat.reduceAdd, Nat.reduceMul, Nat.reduceEqDiff, ↓reduceIte, reduceCtorEq, Nat.reduceLT, Nat.reduceLeDiff, Array.reduceGetElem?, Int.reduceToNat, Nat.reduceSub, Nat.reduceBEq, ↓zc3, ↓zc5, ↓zc6, ↓zc7, zg1, ↓zc8, zg2, zg3]
                        repeat' with_reducible apply And.intro
                        all_goals try ((with_reducible show CallW _ _ _ _ _ _ _); refine cW_s [] zk4 (fun h2 e => (.cons (.lst _ _ _ Msg.pu rfl) (.cons (.lst _ _ _ Msg.pu rfl) .nil))) (.bool _) ?_; simp (maxSteps := 2000000) only [EVT, stepW, evOp, St.ev, St.app, St.put, wrs, evBuiltin, datOf, datOf1, evBin, binInt, evSlice, sliceOk, sl_if0, sl_if1, sl_if2, sl_if3, tk_map, dp_map, frz, evIndexAddr, evLoad, cut, TIS, CS, Nat.reduceAdd, Nat.reduceMul, Nat.reduceEqDiff, ↓reduceIte, reduceCtorEq, Nat.reduceLT, Nat.reduceLeDiff, Array.reduceGetElem?, Int.reduceToNat, Nat.reduceSub, Nat.reduceBEq, ↓zc3, ↓zc5, ↓zc6, ↓zc7, zg1, ↓zc8, zg2, zg3])
                        repeat' with_reducible apply And.intro
                        all_goals try ((with_reducible show CallW _ _ _ _ _ _ _); refine cW_s [] zk5 (fun h2 e => (.cons (.agg' (.cons (.int' rfl) (.cons (.int' rfl) (.cons (.int' rfl) (.cons (.lst _ _ _ (ci_pu .i64) rfl) (.cons (.lst _ _ _ (ci_pu .u8) rfl) .nil)))))) (.cons (.agg' (.cons (.int' rfl) (.cons (.int' rfl) (.cons (.int' rfl) (.cons (.lst _ _ _ (ci_pu .i64) rfl) (.cons (.lst _ _ _ (ci_pu .u8) rfl) .nil)))))) .nil))) (.bool _) ?_; simp (maxSteps := 2000000) only [EVT, stepW, evOp, St.ev, St.app, St.put, wrs, evBuiltin, datOf, datOf1, evBin, binInt, evSlice, sliceOk, sl_if0, sl_if1, sl_if2, sl_if3, tk_map, dp_map, frz, evIndexAddr, evLoad, cut, TIS, CS, Nat.reduceAdd, Nat.reduceMul, Nat.reduceEqDiff, ↓reduceIte, reduceCtorEq, Nat.reduceLT, Nat.reduceLeDiff, Array.reduceGetElem?, Int.reduceToNat, Nat.reduceSub, Nat.reduceBEq, ↓zc3, ↓zc5, ↓zc6, ↓zc7, zg1, ↓zc8, zg2, zg3])
                        repeat' with_reducible apply And.intro
                        all_goals try ((with_reducible show CallW _ _ _ _ _ _ _); refine cW_s [] zk6 (fun h2 e => (.cons (PurR.agg' (Msg.pu x2).purRs) (.cons (.agg' (.cons (.int' rfl) (.cons (.int' rfl) (.cons (.int' rfl) (.cons (.lst _ _ _ (ci_pu .i64) rfl) (.cons (.lst _ _ _ (ci_pu .u8) rfl) .nil)))))) .nil))) (.bool _) ?_; simp (maxSteps := 2000000) only [EVT, stepW, evOp, St.ev, St.app, St.put, wrs, evBuiltin, datOf, datOf1, evBin, binInt, evSlice, sliceOk, sl_if0, sl_if1, sl_if2, sl_if3, tk_map, dp_map, frz, evIndexAddr, evLoad, cut, TIS, CS, Nat.reduceAdd, Nat.reduceMul, Nat.reduceEqDiff, ↓reduceIte, reduceCtorEq, Nat.reduceLT, Nat.reduceLeDiff, Array.reduceGetElem?, Int.reduceToNat, Nat.reduceSub, Nat.reduceBEq, ↓zc3, ↓zc5, ↓zc6, ↓zc7, zg1, ↓zc8, zg2, zg3])
                        all_goals ((repeat' apply And.intro) <;> first | rfl | assumption | omega | (left; omega) | (simp; done) | (simp; omega) | (right; exact ⟨_, rfl, rfl, rfl, by decide, by first | omega | (simp; omega)⟩) | (simp_all; done))
                      · kernel_rfl
                      refine sA_n ?_
                      refine a_ret ?_
                      obtain rfl := Option.some.inj H
                      refine e_r2 (d := ?zd5) ?_ ?_
                      rotate_left
                      · simp only [EVT, resR, single, evLoad, cut, TIS, CS, Nat.reduceAdd, Nat.reduceEqDiff, ↓reduceIte, reduceCtorEq, Nat.reduceLT, Nat.reduceLeDiff, Nat.reduceSub, Nat.reduceBEq, zc3, zc5, zc6, zc7, zg1, zc8, zg2, zg3]
                        (repeat' apply And.intro) <;> first | rfl | assumption | omega | (simp; done)
                      exact (.bool' rfl)
                    · have H := cond_f zc8 H
                      refine a_drW (by kernel_rfl) _ rfl (s := ?zs10) (by kernel_rfl) (by kernel_rfl) ?zs10f ?_ ?_ ?_
                      rotate_left 2
                      · try simp (maxSteps := 2000000) only [EVT, stepW, evOp, St.ev, St.app, St.put, wrs, evBuiltin, datOf, datOf1, evBin, binInt, evSlice, sliceOk, sl_if0, sl_if1, sl_if2, sl_if3, tk_map, dp_map, frz, evIndexAddr, evLoad, cut, TIS, CS, Nat.reduceAdd, Nat.reduceMul, Nat.reduceEqDiff, ↓reduceIte, reduceCtorEq, Nat.reduceLT, Nat.reduceLeDiff, Array.reduceGetElem?, Int.reduceToNat, Nat.reduceSub, Nat.reduceBEq, ↓zc3, ↓zc5, ↓zc6, ↓zc7, zg1, ↓zc8]
                        repeat' with_reducible apply And.intro
                        all_goals try ((with_reducible show CallW _ _ _ _ _ _ _); refine cW_s [] zk4 (fun h2 e => (.cons (.lst _ _ _ Msg.pu rfl) (.cons (.lst _ _ _ Msg.pu rfl) .nil))) (.bool _) ?_; simp (maxSteps := 2000000) only [EVT, stepW, evOp, St.ev, St.app, St.put, wrs, evBuiltin, datOf, datOf1, evBin, binInt, evSlice, sliceOk, sl_if0, sl_if1, sl_if2, sl_if3, tk_map, dp_map, frz, evIndexAddr, evLoad, cut, TIS, CS, Nat.reduceAdd, Nat.reduceMul, Nat.reduceEqDiff, ↓reduceIte, reduceCtorEq, Nat.reduceLT, Nat.reduceLeDiff, Array.reduceGetElem?, Int.reduceToNat, Nat.reduceSub, Nat.reduceBEq, ↓zc3, ↓zc5, ↓zc6, ↓zc7, zg1, ↓zc8])
                        repeat' with_reducible apply And.intro
                        all_goals try ((with_reducible show CallW _ _ _ _ _ _ _); refine cW_s [] zk5 (fun h2 e => (.cons (.agg' (.cons (.int' rfl) (.cons (.int' rfl) (.cons (.int' rfl) (.cons (.lst _ _ _ (ci_pu .i64) rfl) (.cons (.lst _ _ _ (ci_pu .u8) rfl) .nil)))))) (.cons (.agg' (.cons (.int' rfl) (.cons (.int' rfl) (.cons (.int' rfl) (.cons (.lst _ _ _ (ci_pu .i64) rfl) (.cons (.lst _ _ _ (ci_pu .u8) rfl) .nil)))))) .nil))) (.bool _) ?_; simp (maxSteps := 2000000) only [EVT, stepW, evOp, St.ev, St.app, St.put, wrs, evBuiltin, datOf, datOf1, evBin, binInt, evSlice, sliceOk, sl_if0, sl_if1, sl_if2, sl_if3, tk_map, dp_map, frz, evIndexAddr, evLoad, cut, TIS, CS, Nat.reduceAdd, Nat.reduceMul, Nat.reduceEqDiff, ↓reduceIte, reduceCtorEq, Nat.reduceLT, Nat.reduceLeDiff, Array.reduceGetElem?, Int.reduceToNat, Nat.reduceSub, Nat.reduceBEq, ↓zc3, ↓zc5, ↓zc6, ↓zc7, zg1, ↓zc8])
                        all_goals ((repeat' apply And.intro) <;> first | rfl | assumption | omega | (left; omega) | (simp; done) | (simp; omega) | (right; exact ⟨_, rfl, rfl, rfl, by decide, by first | omega | (simp; omega)⟩) | (simp_all; done))
                      · kernel_rfl
                      refine sA_n ?_
                      refine a_ret ?_
                      obtain rfl := Option.some.inj H
                      refine e_r2 (d := ?zd6) ?_ ?_
                      rotate_left
                      · simp only [EVT, resR, single, evLoad, cut, TIS, CS, Nat.reduceAdd, Nat.reduceEqDiff, ↓reduceIte, reduceCtorEq, Nat.reduceLT, Nat.reduceLeDiff, Nat.reduceSub, Nat.reduceBEq, zc3, zc5, zc6, zc7, zg1, zc8]
                        (repeat' apply And.intro) <;> first | rfl | assumption | omega | (simp; done)
                      exact (.bool' (by first | rfl | assumption | (simp_all; done)))
                  · have H := cond_f zc7 H
                    refine a_drW (by kernel_rfl) _ rfl (s := ?zs11) (by kernel_rfl) (by kernel_rfl) ?zs11f ?_ ?_ ?_
                    rotate_left 2
                    · try simp (maxSteps := 2000000) only [EVT, stepW, evOp, St.ev, St.app, St.put, wrs, evBuiltin, datOf, datOf1, evBin, binInt, evSlice, sliceOk, sl_if0, sl_if1, sl_if2, sl_if3, tk_map, dp_map, frz, evIndexAddr, evLoad, cut, TIS, CS, Nat.reduceAdd, Nat.reduceMul, Nat.reduceEqDiff, ↓reduceIte, reduceCtorEq, Nat.reduceLT, Nat.reduceLeDiff, Array.reduceGetElem?, Int.reduceToNat, Nat.reduceSub, Nat.reduceBEq, ↓zc3, ↓zc5, ↓zc6, ↓zc7]
                      repeat' with_reducible apply And.intro
                      all_goals try ((with_reducible show CallW _ _ _ _ _ _ _); refine cW_s [] zk4 (fun h2 e => (.cons (.lst _ _ _ Msg.pu rfl) (.cons (.lst _ _ _ Msg.pu rfl) .nil))) (.bool _) ?_; simp (maxSteps := 2000000) only [EVT, stepW, evOp, St.ev, St.app, St.put, wrs, evBuiltin, datOf, datOf1, evBin, binInt, evSlice, sliceOk, sl_if0, sl_if1, sl_if2, sl_if3, tk_map, dp_map, frz, evIndexAddr, evLoad, cut, TIS, CS, Nat.reduceAdd, Nat.reduceMul, Nat.reduceEqDiff, ↓reduceIte, reduceCtorEq, Nat.reduceLT, Nat.reduceLeDiff, Array.reduceGetElem?, Int.reduceToNat, Nat.reduceSub, Nat.reduceBEq, ↓zc3, ↓zc5, ↓zc6, ↓zc7])
                      all_goals ((repeat' apply And.intro) <;> first | rfl | assumption | omega | (left; omega) | (simp; done) | (simp; omega) | (right; exact ⟨_, rfl, rfl, rfl, by decide, by first | omega | (simp; omega)⟩) | (simp_all; done))
                    · kernel_rfl
                    refine sA_n ?_
                    refine a_ret ?_
                    obtain rfl := Option.some.inj H
                    refine e_r2 (d := ?zd7) ?_ ?_
                    rotate_left
                    · simp only [EVT, resR, single, evLoad, cut, TIS, CS, Nat.reduceAdd, Nat.reduceEqDiff, ↓reduceIte, reduceCtorEq, Nat.reduceLT, Nat.reduceLeDiff, Nat.reduceSub, Nat.reduceBEq, zc3, zc5, zc6, zc7]
                      (repeat' apply And.intro) <;> first | rfl | assumption | omega | (simp; done)
                    exact (.bool' (by first | rfl | assumption | (simp_all; done)))
                · have H := cond_f zc6 H
                  refine a_drW (by kernel_rfl) _ rfl (s := ?zs12) (by kernel_rfl) (by kernel_rfl) ?zs12f ?_ ?_ ?_
                  rotate_left 2
                  · simp (maxSteps := 2000000) only [EVT, stepW, evOp, St.ev, St.app, St.put, wrs, evBuiltin, datOf, datOf1, evBin, binInt, evSlice, sliceOk, sl_if0, sl_if1, sl_if2, sl_if3, tk_map, dp_map, frz, evIndexAddr, evLoad, cut, TIS, CS, Nat.reduceAdd, Nat.reduceMul, Nat.reduceEqDiff, ↓reduceIte, reduceCtorEq, Nat.reduceLT, Nat.reduceLeDiff, Array.reduceGetElem?, Int.reduceToNat, Nat.reduceSub, Nat.reduceBEq, ↓zc3, ↓zc5, ↓zc6]
                    try simp (maxSteps := 2000000) only [EVT, stepW, evOp, St.ev, St.app, St.put, wrs, evBuiltin, datOf, datOf1, evBin, binInt, evSlice, sliceOk, sl_if0, sl_if1, sl_if2, sl_if3, tk_map, dp_map, frz, evIndexAddr, evLoad, cut, TIS, CS, Nat.reduceAdd, Nat.reduceMul, Nat.reduceEqDiff, ↓reduceIte, reduceCtorEq, Nat.reduceLT, Nat.reduceLeDiff, Array.reduceGetElem?, Int.reduceToNat, Nat.reduceSub, Nat.reduceBEq, ↓zc3, ↓zc5, ↓zc6]
                    (repeat' apply And.intro) <;> first | rfl | assumption | omega | (left; omega) | (simp; done) | (simp; omega) | (right; exact ⟨_, rfl, rfl, rfl, by decide, by first | omega | (simp; omega)⟩) | (simp_all; done)
                  · kernel_rfl
                  refine sA_n ?_
                  refine a_ret ?_
                  obtain rfl := Option.some.inj H
                  refine e_r2 (d := ?zd8) ?_ ?_
                  rotate_left
                  · simp only [EVT, resR, single, evLoad, cut, TIS, CS, Nat.reduceAdd, Nat.reduceEqDiff, ↓reduceIte, reduceCtorEq, Nat.reduceLT, Nat.reduceLeDiff, Nat.reduceSub, Nat.reduceBEq, zc3, zc5, zc6]
                    (repeat' apply And.intro) <;> first | rfl | assumption | omega | (simp; done)
                  exact (.bool' (by first | rfl | assumption | (simp_all; done)))
              · have H := cond_f zc5 H
                refine a_drW (by kernel_rfl) _ rfl (s := ?zs13) (by kernel_rfl) (by kernel_rfl) ?zs13f ?_ ?_ ?_
                rotate_left 2
                · simp (maxSteps := 2000000) only [EVT, stepW, evOp, St.ev, St.app, St.put, wrs, evBuiltin, datOf, datOf1, evBin, binInt, evSlice, sliceOk, sl_if0, sl_if1, sl_if2, sl_if3, tk_map, dp_map, frz, evIndexAddr, evLoad, cut, TIS, CS, Nat.reduceAdd, Nat.reduceMul, Nat.reduceEqDiff, ↓reduceIte, reduceCtorEq, Nat.reduceLT, Nat.reduceLeDiff, Array.reduceGetElem?, Int.reduceToNat, Nat.reduceSub, Nat.reduceBEq, ↓zc3, ↓zc5]
                  try simp (maxSteps := 2000000) only [EVT, stepW, evOp, St.ev, St.app, St.put, wrs, evBuiltin, datOf, datOf1, evBin, binInt, evSlice, sliceOk, sl_if0, sl_if1, sl_if2, sl_if3, tk_map, dp_map, frz, evIndexAddr, evLoad, cut, TIS, CS, Nat.reduceAdd, Nat.reduceMul, Nat.reduceEqDiff, ↓reduceIte, reduceCtorEq, Nat.reduceLT, Nat.reduceLeDiff, Array.reduceGetElem?, Int.reduceToNat, Nat.reduceSub, Nat.reduceBEq, ↓zc3, ↓zc5]
                  (repeat' apply And.intro) <;> first | rfl | assumption | omega | (left; omega) | (simp; done) | (simp; omega) | (right; exact ⟨_, rfl, rfl, rfl, by decide, by first | omega | (simp; omega)⟩) | (simp_all; done)
                · kernel_rfl
                refine sA_n ?_
                refine a_ret ?_
                obtain rfl := Option.some.inj H
                refine e_r2 (d := ?zd9) ?_ ?_
                rotate_left
                · simp only [EVT, resR, single, evLoad, cut, TIS, CS, Nat.reduceAdd, Nat.reduceEqDiff, ↓reduceIte, reduceCtorEq, Nat.reduceLT, Nat.reduceLeDiff, Nat.reduceSub, Nat.reduceBEq, zc3, zc5]
                  (repeat' apply And.intro) <;> first | rfl | assumption | omega | (simp; done)
                exact (.bool' (by first | rfl | assumption | (simp_all; done)))
end
end Go.Proofs.Yteebeajhoemdpaa
