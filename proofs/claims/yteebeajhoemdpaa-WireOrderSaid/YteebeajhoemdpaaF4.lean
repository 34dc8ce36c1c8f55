/- Functions of the program as Lean functions, and that they are so; printed by a program of mine. -/
import Derived.Test.YteebeajhoemdpaaF1
set_option linter.unusedSimpArgs false
set_option linter.unusedVariables false
namespace Go.Proofs.Yteebeajhoemdpaa
open Go.Ab
noncomputable section

def ref05_Send_J4 (out4 : List Msg) : Option (List Msg) :=
  some (out4)
def ref05_Send_J5 (w1 : List Msg) (m1 : Msg) (out3 : List Msg) (v1 : Bool) : Option (List Msg) :=
  cond v1 (chk (0 ≤ 0 ∧ 0 ≤ (IntKind.wrap .i64 ((w1.length : Int) - 1)) ∧ (IntKind.wrap .i64 ((w1.length : Int) - 1)) ≤ (w1.length : Int)) (chk ((((w1.take (IntKind.wrap .i64 ((w1.length : Int) - 1)).toNat).drop 0).length) * 72 ≤ 140737488355328) (chk (((((w1.take (IntKind.wrap .i64 ((w1.length : Int) - 1)).toNat).drop 0).length) + 1) * 72 ≤ 140737488355328) ((idx w1 (IntKind.wrap .i64 ((w1.length : Int) - 1))).bind fun x1 => chk ((((((w1.take (IntKind.wrap .i64 ((w1.length : Int) - 1)).toNat).drop 0).length) + 1) + 1) * 72 ≤ 140737488355328) (ref05_Send_J4 (((([] : List Msg) ++ ((w1.take (IntKind.wrap .i64 ((w1.length : Int) - 1)).toNat).drop 0)) ++ [m1]) ++ [x1])))))) (ref05_Send_J4 out3)
def ref05_Send_J3 (w1 : List Msg) (m1 : Msg) (fate1 : Int) (out3 : List Msg) : Option (List Msg) :=
  ref05_Send_J5 w1 m1 out3 ((fate1 == 4) && (decide (0 < (w1.length : Int))))
def ref05_Send_J6 (out2 : List Msg) (w1 : List Msg) (m1 : Msg) (fate1 : Int) (v2 : Bool) : Option (List Msg) :=
  cond v2 (chk ((out2.length + 1) * 72 ≤ 140737488355328) (ref05_Send_J3 w1 m1 fate1 (out2 ++ [m1]))) (ref05_Send_J3 w1 m1 fate1 out2)
def ref05_Send_J2 (w1 : List Msg) (m1 : Msg) (fate1 : Int) (out2 : List Msg) : Option (List Msg) :=
  ref05_Send_J6 out2 w1 m1 fate1 ((fate1 == 4) && ((w1.length : Int) == 0))
def ref05_Send_J7 (out1 : List Msg) (w1 : List Msg) (m1 : Msg) (fate1 : Int) (v3 : Bool) : Option (List Msg) :=
  cond v3 (chk ((out1.length + 1) * 72 ≤ 140737488355328) (ref05_Send_J2 w1 m1 fate1 (out1 ++ [m1]))) (ref05_Send_J2 w1 m1 fate1 out1)
def ref05_Send_J1 (w1 : List Msg) (m1 : Msg) (fate1 : Int) (out1 : List Msg) : Option (List Msg) :=
  ref05_Send_J7 out1 w1 m1 fate1 ((fate1 == 3) && (decide ((((out1.length : Nat)) : Int) < 200)))
def ref05_Send_J8 (w1 : List Msg) (m1 : Msg) (fate1 : Int) (out5 : List Msg) (v4 : Bool) : Option (List Msg) :=
  cond v4 (chk ((out5.length + 1) * 72 ≤ 140737488355328) (ref05_Send_J1 w1 m1 fate1 (out5 ++ [m1]))) (ref05_Send_J1 w1 m1 fate1 out5)
def ref05_Send_f (w1 : List Msg) (m1 : Msg) (fate1 : Int) : Option (List Msg) :=
  chk ((w1.length) * 72 ≤ 140737488355328) (cond (decide (200 ≤ (w1.length : Int))) (some ((([] : List Msg) ++ w1))) (ref05_Send_J8 w1 m1 fate1 (([] : List Msg) ++ w1) ((fate1 == 1) || (fate1 == 3))))
set_option maxHeartbeats 4000000 in
set_option maxRecDepth 20000 in
theorem ref05_Send_pc {w1 : List Msg} {m1 : Msg} {fate1 : Int} {r : (List Msg)} (H : ref05_Send_f w1 m1 fate1 = some r) : PC Try.prog 15 [.list 5 (w1.map Msg.c), .agg (Msg.c m1), .int .i64 fate1] (.list 5 (r.map Msg.c)) := by
  refine pcA_of Try.func15 (by rfl) (by decide) 73 (by rfl) [.tmp 6] (by rfl) ?_
  unfold ref05_Send_f at H
  simp only [ent]
  refine a_seq ?_
  refine a_reg _ rfl (s := ?zs1) ?_ ?_
  rotate_left
  · simp (maxSteps := 2000000) only [EVT, stepR, evOp, St.ev, St.app, St.put, wrs, allOne, datOf, datOf1, TIS, CS, Nat.reduceAdd, Nat.reduceMul, Nat.reduceEqDiff, ↓reduceIte, reduceCtorEq, Nat.reduceLT, Nat.reduceLeDiff]
    (repeat' apply And.intro) <;> first | rfl | assumption | omega | (left; omega) | (simp; done) | (simp; omega) | (right; exact ⟨_, rfl, rfl, rfl, by decide, by first | omega | (simp; omega)⟩) | (simp_all; done)
  refine sA_n ?_
  refine a_seq ?_
  obtain ⟨zh1, H⟩ := chk_some H
  refine a_reg _ rfl (s := ?zs2) ?_ ?_
  rotate_left
  · simp (maxSteps := 2000000) only [EVT, stepR, evOp, St.ev, St.app, St.put, wrs, allOne, evBuiltin, evAppend, isAl, elems, Option.elim, TIS, CS, Nat.reduceAdd, Nat.reduceMul, Nat.reduceEqDiff, ↓reduceIte, reduceCtorEq, Nat.reduceLT, Nat.reduceLeDiff, Nat.reduceSub, Nat.reduceBEq]
    (repeat' apply And.intro) <;> first | rfl | assumption | omega | (left; omega) | (simp; done) | (simp; omega) | (right; exact ⟨_, rfl, rfl, rfl, by decide, by first | omega | (simp; omega)⟩) | (simp_all; done)
  refine sA_n ?_
  refine a_seq ?_
  refine a_seq ?_
  refine a_reg _ rfl (s := ?zs3) ?_ ?_
  rotate_left
  · simp (maxSteps := 2000000) only [EVT, stepR, evOp, St.ev, St.app, St.put, wrs, evBuiltin, datOf, datOf1, evBin, binInt, TIS, CS, Nat.reduceAdd, Nat.reduceMul, Nat.reduceEqDiff, ↓reduceIte, reduceCtorEq, Nat.reduceLT, Nat.reduceLeDiff, Nat.reduceSub, Nat.reduceBEq]
    (repeat' apply And.intro) <;> first | rfl | assumption | omega | (left; omega) | (simp; done) | (simp; omega) | (right; exact ⟨_, rfl, rfl, rfl, by decide, by first | omega | (simp; omega)⟩) | (simp_all; done)
  refine sA_n ?_
  refine a_condb ((decide (200 ≤ (w1.length : Int)))) (by rfl) (fun zc1 => ?_) (fun zc1 => ?_)
  · have H := cond_t zc1 H
    refine a_seq ?_
    refine a_reg _ rfl (s := ?zs4) ?_ ?_
    rotate_left
    · simp (maxSteps := 2000000) only [EVT, stepR, evOp, St.ev, St.app, St.put, wrs, TIS, CS, Nat.reduceAdd, Nat.reduceMul, Nat.reduceEqDiff, ↓reduceIte, reduceCtorEq, Nat.reduceLT, Nat.reduceLeDiff, ↓zc1]
      (repeat' apply And.intro) <;> first | rfl | assumption | omega | (left; omega) | (simp; done) | (simp; omega) | (right; exact ⟨_, rfl, rfl, rfl, by decide, by first | omega | (simp; omega)⟩) | (simp_all; done)
    refine sA_n ?_
    refine a_ret ?_
    refine sA_r ?_
    obtain rfl := Option.some.inj H
    refine e_r2 (d := ?zd1) ?_ ?_
    rotate_left
    · simp only [EVT, resR, single, evLoad, cut, TIS, CS, Nat.reduceAdd, Nat.reduceEqDiff, ↓reduceIte, reduceCtorEq, Nat.reduceLT, Nat.reduceLeDiff, Nat.reduceSub, Nat.reduceBEq, zc1]
      (repeat' apply And.intro) <;> first | rfl | assumption | omega | (simp; done)
    exact (.ownL (by rfl) (fun e => by cases e) rfl (by first | rfl | omega | (simp; done) | (simp [strBytes_len]; done) | (simp; omega) | (simp_all; done)) (.same _ _ Msg.pu (by first | rfl | (simp only [List.map_append, List.map_cons, List.map_nil, List.map_set, List.map_take, List.map_drop, List.map_replicate, List.append_assoc, List.nil_append, List.append_nil, ci_eq, cb_eq, cs_eq, cl_eq, CS,  List.nil_append]; done) | (simp [CS,  ci_eq, cb_eq, cs_eq, cl_eq]; done) | (simp [CS,  ci_eq, cb_eq, cs_eq, cl_eq]; intro hz; rw [List.take_of_length_le (by simp; omega)]))))
  · have H := cond_f zc1 H
    refine a_skip ?_
    refine sA_n ?_
    refine a_cut (fun s => ∃ (out1 : List Msg) (t0 : Nat → Dat), ref05_Send_J1 w1 m1 fate1 out1 = some r ∧ s = ⟨tl t0 [(0, .list 5 (w1.map Msg.c)), (2, .int .i64 fate1), (4, .ptr 0 0 0 5), (7, .ref 1 0 out1.length 5)], hl [⟨26, 5, false, [[.int .i64 m1.from_, .int .i64 m1.to_, .int .i64 m1.kind, .list 1 (m1.nums.map (ci .i64)), .list 1 (m1.data.map (ci .u8))]]⟩, ⟨26, 5, false, out1.map Msg.c⟩], 2, 73⟩) ?_ ?_
    · refine a_cut (fun s => ∃ (out5 : List Msg) (v4 : Bool) (t0 : Nat → Dat), ref05_Send_J8 w1 m1 fate1 out5 v4 = some r ∧ s = ⟨tl t0 [(0, .list 5 (w1.map Msg.c)), (2, .int .i64 fate1), (4, .ptr 0 0 0 5), (7, .ref 1 0 out5.length 5), (20, .bool v4)], hl [⟨26, 5, false, [[.int .i64 m1.from_, .int .i64 m1.to_, .int .i64 m1.kind, .list 1 (m1.nums.map (ci .i64)), .list 1 (m1.data.map (ci .u8))]]⟩, ⟨26, 5, false, out5.map Msg.c⟩], 2, 73⟩) ?_ ?_
      · refine bool_split (b := (fate1 == 1)) (fun zc9 => ?_) (fun zc9 => ?_)
        · rw [zc9] at H
          refine a_reg _ rfl (s := ?zs16) ?_ ?_
          rotate_left
          · simp (maxSteps := 2000000) only [EVT, stepR, evOp, St.ev, St.app, St.put, wrs, datOf, datOf1, evBin, binInt, TIS, CS, Nat.reduceAdd, Nat.reduceMul, Nat.reduceEqDiff, ↓reduceIte, reduceCtorEq, Nat.reduceLT, Nat.reduceLeDiff, Array.reduceGetElem?, ↓zc1, ↓zc9]
            try simp (maxSteps := 2000000) only [EVT, stepR, evOp, St.ev, St.app, St.put, wrs, datOf, datOf1, evBin, binInt, TIS, CS, Nat.reduceAdd, Nat.reduceMul, Nat.reduceEqDiff, ↓reduceIte, reduceCtorEq, Nat.reduceLT, Nat.reduceLeDiff, Array.reduceGetElem?, ↓zc1, ↓zc9]
            (repeat' apply And.intro) <;> first | rfl | assumption | omega | (left; omega) | (simp; done) | (simp; omega) | (right; exact ⟨_, rfl, rfl, rfl, by decide, by first | omega | (simp; omega)⟩) | (simp_all; done)
          refine cA_n ?_
          refine wk_l [(some 0, ⟨26, 5, false, [[.int .i64 m1.from_, .int .i64 m1.to_, .int .i64 m1.kind, .list 1 (m1.nums.map (ci .i64)), .list 1 (m1.data.map (ci .u8))]]⟩), (some 18, ⟨26, 5, false, (([] : List Msg) ++ w1).map Msg.c⟩)] [] [(0, .list 5 (w1.map Msg.c)), (2, .int .i64 fate1), (4, .ptr 0 0 0 5), (7, .ref 1 0 (([] : List Msg) ++ w1).length 5), (20, .bool true)] (by show ([0, 2, 4, 7, 20] : List Nat).Nodup; decide) (by show ([0, 18] : List Nat).Nodup; decide) ?_ ?_ (fun t0 => ⟨(([] : List Msg) ++ w1), true, t0, H, rfl⟩)
          · exact (allB_some (by rfl) rfl (.cons (.cons (.int' rfl) (.cons (.int' rfl) (.cons (.int' rfl) (.cons (.lst _ _ _ (ci_pu .i64) rfl) (.cons (.lst _ _ _ (ci_pu .u8) rfl) .nil))))) .nil) (allB_some (by rfl) rfl (.same _ _ Msg.pu (by first | rfl | (simp only [List.map_append, List.map_cons, List.map_nil, List.map_set, List.map_take, List.map_drop, List.map_replicate, List.append_assoc, List.nil_append, List.append_nil, ci_eq, cb_eq, cs_eq, cl_eq, CS,  List.nil_append]; done) | (simp [CS,  ci_eq, cb_eq, cs_eq, cl_eq]; done) | (simp [CS,  ci_eq, cb_eq, cs_eq, cl_eq]; intro hz; rw [List.take_of_length_le (by simp; omega)]))) trivial))
          · (simp only [AllT, tl_cons, tl_nil, upd_apply, List.getD_cons_zero, List.getD_cons_succ, Nat.reduceEqDiff, ↓reduceIte, and_true]); exact ⟨(.lst _ _ _ Msg.pu rfl), (.int' rfl), (.ptr _ _ _ _ _ rfl), (.refl' (by first | rfl | omega | (simp; done) | (simp [strBytes_len]; done) | (simp; omega) | (simp_all; done)) rfl), (.bool' (by first | rfl | assumption | (simp_all; done)))⟩
        · rw [zc9] at H
          refine a_reg _ rfl (s := ?zs17) ?_ ?_
          rotate_left
          · simp (maxSteps := 2000000) only [EVT, stepR, evOp, St.ev, St.app, St.put, wrs, datOf, datOf1, evBin, binInt, TIS, CS, Nat.reduceAdd, Nat.reduceMul, Nat.reduceEqDiff, ↓reduceIte, reduceCtorEq, Nat.reduceLT, Nat.reduceLeDiff, Array.reduceGetElem?, ↓zc1, ↓zc9]
            try simp (maxSteps := 2000000) only [EVT, stepR, evOp, St.ev, St.app, St.put, wrs, datOf, datOf1, evBin, binInt, TIS, CS, Nat.reduceAdd, Nat.reduceMul, Nat.reduceEqDiff, ↓reduceIte, reduceCtorEq, Nat.reduceLT, Nat.reduceLeDiff, Array.reduceGetElem?, ↓zc1, ↓zc9]
            (repeat' apply And.intro) <;> first | rfl | assumption | omega | (left; omega) | (simp; done) | (simp; omega) | (right; exact ⟨_, rfl, rfl, rfl, by decide, by first | omega | (simp; omega)⟩) | (simp_all; done)
          refine cA_n ?_
          refine wk_l [(some 0, ⟨26, 5, false, [[.int .i64 m1.from_, .int .i64 m1.to_, .int .i64 m1.kind, .list 1 (m1.nums.map (ci .i64)), .list 1 (m1.data.map (ci .u8))]]⟩), (some 18, ⟨26, 5, false, (([] : List Msg) ++ w1).map Msg.c⟩)] [] [(0, .list 5 (w1.map Msg.c)), (2, .int .i64 fate1), (4, .ptr 0 0 0 5), (7, .ref 1 0 (([] : List Msg) ++ w1).length 5), (20, .bool (fate1 == 3))] (by show ([0, 2, 4, 7, 20] : List Nat).Nodup; decide) (by show ([0, 18] : List Nat).Nodup; decide) ?_ ?_ (fun t0 => ⟨(([] : List Msg) ++ w1), (fate1 == 3), t0, H, rfl⟩)
          · exact (allB_some (by rfl) rfl (.cons (.cons (.int' rfl) (.cons (.int' rfl) (.cons (.int' rfl) (.cons (.lst _ _ _ (ci_pu .i64) rfl) (.cons (.lst _ _ _ (ci_pu .u8) rfl) .nil))))) .nil) (allB_some (by rfl) rfl (.same _ _ Msg.pu (by first | rfl | (simp only [List.map_append, List.map_cons, List.map_nil, List.map_set, List.map_take, List.map_drop, List.map_replicate, List.append_assoc, List.nil_append, List.append_nil, ci_eq, cb_eq, cs_eq, cl_eq, CS,  List.nil_append]; done) | (simp [CS,  ci_eq, cb_eq, cs_eq, cl_eq]; done) | (simp [CS,  ci_eq, cb_eq, cs_eq, cl_eq]; intro hz; rw [List.take_of_length_le (by simp; omega)]))) trivial))
          · (simp only [AllT, tl_cons, tl_nil, upd_apply, List.getD_cons_zero, List.getD_cons_succ, Nat.reduceEqDiff, ↓reduceIte, and_true]); exact ⟨(.lst _ _ _ Msg.pu rfl), (.int' rfl), (.ptr _ _ _ _ _ rfl), (.refl' (by first | rfl | omega | (simp; done) | (simp [strBytes_len]; done) | (simp; omega) | (simp_all; done)) rfl), (.bool' rfl)⟩
      · rintro s ⟨out5, v4, t0, H, rfl⟩
        unfold ref05_Send_J8 at H
        refine a_condb (v4) (by rfl) (fun zc8 => ?_) (fun zc8 => ?_)
        · have H := cond_t zc8 H
          obtain ⟨zh9, H⟩ := chk_some H
          refine a_reg _ rfl (s := ?zs15) ?_ ?_
          rotate_left
          · simp (maxSteps := 2000000) only [EVT, stepR, evOp, St.ev, St.app, St.put, wrs, evLoad, cut, allOne, evBuiltin, evAppend, isAl, elems, Option.elim, TIS, CS, Nat.reduceAdd, Nat.reduceMul, Nat.reduceEqDiff, ↓reduceIte, reduceCtorEq, Nat.reduceLT, Nat.reduceLeDiff, Nat.reduceSub, Nat.reduceBEq, ↓zc8]
            (repeat' apply And.intro) <;> first | rfl | assumption | omega | (left; omega) | (simp; done) | (simp; omega) | (right; exact ⟨_, rfl, rfl, rfl, by decide, by first | omega | (simp; omega)⟩) | (simp_all; done)
          refine cA_n ?_
          refine wk_l [(some 0, ⟨26, 5, false, [[.int .i64 m1.from_, .int .i64 m1.to_, .int .i64 m1.kind, .list 1 (m1.nums.map (ci .i64)), .list 1 (m1.data.map (ci .u8))]]⟩), (some 5, ⟨26, 5, false, (out5 ++ [m1]).map Msg.c⟩)] [] [(0, .list 5 (w1.map Msg.c)), (2, .int .i64 fate1), (4, .ptr 0 0 0 5), (7, .ref 1 0 (out5 ++ [m1]).length 5)] (by show ([0, 2, 4, 7] : List Nat).Nodup; decide) (by show ([0, 5] : List Nat).Nodup; decide) ?_ ?_ (fun t0 => ⟨(out5 ++ [m1]), t0, H, rfl⟩)
          · exact (allB_some (by rfl) rfl (.cons (.cons (.int' rfl) (.cons (.int' rfl) (.cons (.int' rfl) (.cons (.lst _ _ _ (ci_pu .i64) rfl) (.cons (.lst _ _ _ (ci_pu .u8) rfl) .nil))))) .nil) (allB_some (by rfl) rfl (.same _ _ Msg.pu (by first | rfl | (simp only [List.map_append, List.map_cons, List.map_nil, List.map_set, List.map_take, List.map_drop, List.map_replicate, List.append_assoc, List.nil_append, List.append_nil, ci_eq, cb_eq, cs_eq, cl_eq, CS,  List.nil_append]; done) | (simp [CS,  ci_eq, cb_eq, cs_eq, cl_eq]; done) | (simp [CS,  ci_eq, cb_eq, cs_eq, cl_eq]; intro hz; rw [List.take_of_length_le (by simp; omega)]))) trivial))
          · (simp only [AllT, tl_cons, tl_nil, upd_apply, List.getD_cons_zero, List.getD_cons_succ, Nat.reduceEqDiff, ↓reduceIte, and_true]); exact ⟨(.lst _ _ _ Msg.pu rfl), (.int' rfl), (.ptr _ _ _ _ _ rfl), (.refl' (by first | rfl | omega | (simp; done) | (simp [strBytes_len]; done) | (simp; omega) | (simp_all; done)) rfl)⟩
        · have H := cond_f zc8 H
          refine a_skip ?_
          refine cA_n ?_
          refine wk_l [(some 0, ⟨26, 5, false, [[.int .i64 m1.from_, .int .i64 m1.to_, .int .i64 m1.kind, .list 1 (m1.nums.map (ci .i64)), .list 1 (m1.data.map (ci .u8))]]⟩), (some 1, ⟨26, 5, false, out5.map Msg.c⟩)] [] [(0, .list 5 (w1.map Msg.c)), (2, .int .i64 fate1), (4, .ptr 0 0 0 5), (7, .ref 1 0 out5.length 5)] (by show ([0, 2, 4, 7] : List Nat).Nodup; decide) (by show ([0, 1] : List Nat).Nodup; decide) ?_ ?_ (fun t0 => ⟨out5, t0, H, rfl⟩)
          · exact (allB_some (by rfl) rfl (.cons (.cons (.int' rfl) (.cons (.int' rfl) (.cons (.int' rfl) (.cons (.lst _ _ _ (ci_pu .i64) rfl) (.cons (.lst _ _ _ (ci_pu .u8) rfl) .nil))))) .nil) (allB_some (by rfl) rfl (.same _ _ Msg.pu (by first | rfl | (simp only [List.map_append, List.map_cons, List.map_nil, List.map_set, List.map_take, List.map_drop, List.map_replicate, List.append_assoc, List.nil_append, List.append_nil, ci_eq, cb_eq, cs_eq, cl_eq, CS,  List.nil_append]; done) | (simp [CS,  ci_eq, cb_eq, cs_eq, cl_eq]; done) | (simp [CS,  ci_eq, cb_eq, cs_eq, cl_eq]; intro hz; rw [List.take_of_length_le (by simp; omega)]))) trivial))
          · (simp only [AllT, tl_cons, tl_nil, upd_apply, List.getD_cons_zero, List.getD_cons_succ, Nat.reduceEqDiff, ↓reduceIte, and_true]); exact ⟨(.lst _ _ _ Msg.pu rfl), (.int' rfl), (.ptr _ _ _ _ _ rfl), (.refl' (by first | rfl | omega | (simp; done) | (simp [strBytes_len]; done) | (simp; omega) | (simp_all; done)) rfl)⟩
    · rintro s ⟨out1, t0, H, rfl⟩
      unfold ref05_Send_J1 at H
      refine a_cut (fun s => ∃ (out2 : List Msg) (t0 : Nat → Dat), ref05_Send_J2 w1 m1 fate1 out2 = some r ∧ s = ⟨tl t0 [(0, .list 5 (w1.map Msg.c)), (2, .int .i64 fate1), (4, .ptr 0 0 0 5), (7, .ref 1 0 out2.length 5)], hl [⟨26, 5, false, [[.int .i64 m1.from_, .int .i64 m1.to_, .int .i64 m1.kind, .list 1 (m1.nums.map (ci .i64)), .list 1 (m1.data.map (ci .u8))]]⟩, ⟨26, 5, false, out2.map Msg.c⟩], 2, 73⟩) ?_ ?_
      · refine a_cut (fun s => ∃ (v3 : Bool) (t0 : Nat → Dat), ref05_Send_J7 out1 w1 m1 fate1 v3 = some r ∧ s = ⟨tl t0 [(0, .list 5 (w1.map Msg.c)), (2, .int .i64 fate1), (4, .ptr 0 0 0 5), (7, .ref 1 0 out1.length 5), (31, .bool v3)], hl [⟨26, 5, false, [[.int .i64 m1.from_, .int .i64 m1.to_, .int .i64 m1.kind, .list 1 (m1.nums.map (ci .i64)), .list 1 (m1.data.map (ci .u8))]]⟩, ⟨26, 5, false, out1.map Msg.c⟩], 2, 73⟩) ?_ ?_
        · refine bool_split (b := (fate1 == 3)) (fun zc7 => ?_) (fun zc7 => ?_)
          · rw [zc7] at H
            refine a_reg _ rfl (s := ?zs13) ?_ ?_
            rotate_left
            · simp (maxSteps := 2000000) only [EVT, stepR, evOp, St.ev, St.app, St.put, wrs, datOf, datOf1, evBin, binInt, evBuiltin, TIS, CS, Nat.reduceAdd, Nat.reduceMul, Nat.reduceEqDiff, ↓reduceIte, reduceCtorEq, Nat.reduceLT, Nat.reduceLeDiff, Array.reduceGetElem?, Nat.reduceSub, Nat.reduceBEq, ↓zc7]
              try simp (maxSteps := 2000000) only [EVT, stepR, evOp, St.ev, St.app, St.put, wrs, datOf, datOf1, evBin, binInt, evBuiltin, TIS, CS, Nat.reduceAdd, Nat.reduceMul, Nat.reduceEqDiff, ↓reduceIte, reduceCtorEq, Nat.reduceLT, Nat.reduceLeDiff, Array.reduceGetElem?, Nat.reduceSub, Nat.reduceBEq, ↓zc7]
              (repeat' apply And.intro) <;> first | rfl | assumption | omega | (left; omega) | (simp; done) | (simp; omega) | (right; exact ⟨_, rfl, rfl, rfl, by decide, by first | omega | (simp; omega)⟩) | (simp_all; done)
            refine cA_n ?_
            refine wk_l [(some 0, ⟨26, 5, false, [[.int .i64 m1.from_, .int .i64 m1.to_, .int .i64 m1.kind, .list 1 (m1.nums.map (ci .i64)), .list 1 (m1.data.map (ci .u8))]]⟩), (some 1, ⟨26, 5, false, out1.map Msg.c⟩)] [] [(0, .list 5 (w1.map Msg.c)), (2, .int .i64 fate1), (4, .ptr 0 0 0 5), (7, .ref 1 0 out1.length 5), (31, .bool (decide ((((out1.length : Nat)) : Int) < 200)))] (by show ([0, 2, 4, 7, 31] : List Nat).Nodup; decide) (by show ([0, 1] : List Nat).Nodup; decide) ?_ ?_ (fun t0 => ⟨(decide ((((out1.length : Nat)) : Int) < 200)), t0, H, rfl⟩)
            · exact (allB_some (by rfl) rfl (.cons (.cons (.int' rfl) (.cons (.int' rfl) (.cons (.int' rfl) (.cons (.lst _ _ _ (ci_pu .i64) rfl) (.cons (.lst _ _ _ (ci_pu .u8) rfl) .nil))))) .nil) (allB_some (by rfl) rfl (.same _ _ Msg.pu (by first | rfl | (simp only [List.map_append, List.map_cons, List.map_nil, List.map_set, List.map_take, List.map_drop, List.map_replicate, List.append_assoc, List.nil_append, List.append_nil, ci_eq, cb_eq, cs_eq, cl_eq, CS,  List.nil_append]; done) | (simp [CS,  ci_eq, cb_eq, cs_eq, cl_eq]; done) | (simp [CS,  ci_eq, cb_eq, cs_eq, cl_eq]; intro hz; rw [List.take_of_length_le (by simp; omega)]))) trivial))
            · (simp only [AllT, tl_cons, tl_nil, upd_apply, List.getD_cons_zero, List.getD_cons_succ, Nat.reduceEqDiff, ↓reduceIte, and_true]); exact ⟨(.lst _ _ _ Msg.pu rfl), (.int' rfl), (.ptr _ _ _ _ _ rfl), (.refl' (by first | rfl | omega | (simp; done) | (simp [strBytes_len]; done) | (simp; omega) | (simp_all; done)) rfl), (.bool' rfl)⟩
          · rw [zc7] at H
            refine a_reg _ rfl (s := ?zs14) ?_ ?_
            rotate_left
            · simp (maxSteps := 2000000) only [EVT, stepR, evOp, St.ev, St.app, St.put, wrs, datOf, datOf1, evBin, binInt, evBuiltin, TIS, CS, Nat.reduceAdd, Nat.reduceMul, Nat.reduceEqDiff, ↓reduceIte, reduceCtorEq, Nat.reduceLT, Nat.reduceLeDiff, Array.reduceGetElem?, Nat.reduceSub, Nat.reduceBEq, ↓zc7]
              try simp (maxSteps := 2000000) only [EVT, stepR, evOp, St.ev, St.app, St.put, wrs, datOf, datOf1, evBin, binInt, evBuiltin, TIS, CS, Nat.reduceAdd, Nat.reduceMul, Nat.reduceEqDiff, ↓reduceIte, reduceCtorEq, Nat.reduceLT, Nat.reduceLeDiff, Array.reduceGetElem?, Nat.reduceSub, Nat.reduceBEq, ↓zc7]
              (repeat' apply And.intro) <;> first | rfl | assumption | omega | (left; omega) | (simp; done) | (simp; omega) | (right; exact ⟨_, rfl, rfl, rfl, by decide, by first | omega | (simp; omega)⟩) | (simp_all; done)
            refine cA_n ?_
            refine wk_l [(some 0, ⟨26, 5, false, [[.int .i64 m1.from_, .int .i64 m1.to_, .int .i64 m1.kind, .list 1 (m1.nums.map (ci .i64)), .list 1 (m1.data.map (ci .u8))]]⟩), (some 1, ⟨26, 5, false, out1.map Msg.c⟩)] [] [(0, .list 5 (w1.map Msg.c)), (2, .int .i64 fate1), (4, .ptr 0 0 0 5), (7, .ref 1 0 out1.length 5), (31, .bool false)] (by show ([0, 2, 4, 7, 31] : List Nat).Nodup; decide) (by show ([0, 1] : List Nat).Nodup; decide) ?_ ?_ (fun t0 => ⟨false, t0, H, rfl⟩)
            · exact (allB_some (by rfl) rfl (.cons (.cons (.int' rfl) (.cons (.int' rfl) (.cons (.int' rfl) (.cons (.lst _ _ _ (ci_pu .i64) rfl) (.cons (.lst _ _ _ (ci_pu .u8) rfl) .nil))))) .nil) (allB_some (by rfl) rfl (.same _ _ Msg.pu (by first | rfl | (simp only [List.map_append, List.map_cons, List.map_nil, List.map_set, List.map_take, List.map_drop, List.map_replicate, List.append_assoc, List.nil_append, List.append_nil, ci_eq, cb_eq, cs_eq, cl_eq, CS,  List.nil_append]; done) | (simp [CS,  ci_eq, cb_eq, cs_eq, cl_eq]; done) | (simp [CS,  ci_eq, cb_eq, cs_eq, cl_eq]; intro hz; rw [List.take_of_length_le (by simp; omega)]))) trivial))
            · (simp only [AllT, tl_cons, tl_nil, upd_apply, List.getD_cons_zero, List.getD_cons_succ, Nat.reduceEqDiff, ↓reduceIte, and_true]); exact ⟨(.lst _ _ _ Msg.pu rfl), (.int' rfl), (.ptr _ _ _ _ _ rfl), (.refl' (by first | rfl | omega | (simp; done) | (simp [strBytes_len]; done) | (simp; omega) | (simp_all; done)) rfl), (.bool' (by first | rfl | assumption | (simp_all; done)))⟩
        · rintro s ⟨v3, t0, H, rfl⟩
          unfold ref05_Send_J7 at H
          refine a_condb (v3) (by rfl) (fun zc6 => ?_) (fun zc6 => ?_)
          · have H := cond_t zc6 H
            obtain ⟨zh8, H⟩ := chk_some H
            refine a_reg _ rfl (s := ?zs12) ?_ ?_
            rotate_left
            · simp (maxSteps := 2000000) only [EVT, stepR, evOp, St.ev, St.app, St.put, wrs, evLoad, cut, allOne, evBuiltin, evAppend, isAl, elems, Option.elim, TIS, CS, Nat.reduceAdd, Nat.reduceMul, Nat.reduceEqDiff, ↓reduceIte, reduceCtorEq, Nat.reduceLT, Nat.reduceLeDiff, Nat.reduceSub, Nat.reduceBEq, ↓zc6]
              (repeat' apply And.intro) <;> first | rfl | assumption | omega | (left; omega) | (simp; done) | (simp; omega) | (right; exact ⟨_, rfl, rfl, rfl, by decide, by first | omega | (simp; omega)⟩) | (simp_all; done)
            refine cA_n ?_
            refine wk_l [(some 0, ⟨26, 5, false, [[.int .i64 m1.from_, .int .i64 m1.to_, .int .i64 m1.kind, .list 1 (m1.nums.map (ci .i64)), .list 1 (m1.data.map (ci .u8))]]⟩), (some 5, ⟨26, 5, false, (out1 ++ [m1]).map Msg.c⟩)] [] [(0, .list 5 (w1.map Msg.c)), (2, .int .i64 fate1), (4, .ptr 0 0 0 5), (7, .ref 1 0 (out1 ++ [m1]).length 5)] (by show ([0, 2, 4, 7] : List Nat).Nodup; decide) (by show ([0, 5] : List Nat).Nodup; decide) ?_ ?_ (fun t0 => ⟨(out1 ++ [m1]), t0, H, rfl⟩)
            · exact (allB_some (by rfl) rfl (.cons (.cons (.int' rfl) (.cons (.int' rfl) (.cons (.int' rfl) (.cons (.lst _ _ _ (ci_pu .i64) rfl) (.cons (.lst _ _ _ (ci_pu .u8) rfl) .nil))))) .nil) (allB_some (by rfl) rfl (.same _ _ Msg.pu (by first | rfl | (simp only [List.map_append, List.map_cons, List.map_nil, List.map_set, List.map_take, List.map_drop, List.map_replicate, List.append_assoc, List.nil_append, List.append_nil, ci_eq, cb_eq, cs_eq, cl_eq, CS,  List.nil_append]; done) | (simp [CS,  ci_eq, cb_eq, cs_eq, cl_eq]; done) | (simp [CS,  ci_eq, cb_eq, cs_eq, cl_eq]; intro hz; rw [List.take_of_length_le (by simp; omega)]))) trivial))
            · (simp only [AllT, tl_cons, tl_nil, upd_apply, List.getD_cons_zero, List.getD_cons_succ, Nat.reduceEqDiff, ↓reduceIte, and_true]); exact ⟨(.lst _ _ _ Msg.pu rfl), (.int' rfl), (.ptr _ _ _ _ _ rfl), (.refl' (by first | rfl | omega | (simp; done) | (simp [strBytes_len]; done) | (simp; omega) | (simp_all; done)) rfl)⟩
          · have H := cond_f zc6 H
            refine a_skip ?_
            refine cA_n ?_
            refine wk_l [(some 0, ⟨26, 5, false, [[.int .i64 m1.from_, .int .i64 m1.to_, .int .i64 m1.kind, .list 1 (m1.nums.map (ci .i64)), .list 1 (m1.data.map (ci .u8))]]⟩), (some 1, ⟨26, 5, false, out1.map Msg.c⟩)] [] [(0, .list 5 (w1.map Msg.c)), (2, .int .i64 fate1), (4, .ptr 0 0 0 5), (7, .ref 1 0 out1.length 5)] (by show ([0, 2, 4, 7] : List Nat).Nodup; decide) (by show ([0, 1] : List Nat).Nodup; decide) ?_ ?_ (fun t0 => ⟨out1, t0, H, rfl⟩)
            · exact (allB_some (by rfl) rfl (.cons (.cons (.int' rfl) (.cons (.int' rfl) (.cons (.int' rfl) (.cons (.lst _ _ _ (ci_pu .i64) rfl) (.cons (.lst _ _ _ (ci_pu .u8) rfl) .nil))))) .nil) (allB_some (by rfl) rfl (.same _ _ Msg.pu (by first | rfl | (simp only [List.map_append, List.map_cons, List.map_nil, List.map_set, List.map_take, List.map_drop, List.map_replicate, List.append_assoc, List.nil_append, List.append_nil, ci_eq, cb_eq, cs_eq, cl_eq, CS,  List.nil_append]; done) | (simp [CS,  ci_eq, cb_eq, cs_eq, cl_eq]; done) | (simp [CS,  ci_eq, cb_eq, cs_eq, cl_eq]; intro hz; rw [List.take_of_length_le (by simp; omega)]))) trivial))
            · (simp only [AllT, tl_cons, tl_nil, upd_apply, List.getD_cons_zero, List.getD_cons_succ, Nat.reduceEqDiff, ↓reduceIte, and_true]); exact ⟨(.lst _ _ _ Msg.pu rfl), (.int' rfl), (.ptr _ _ _ _ _ rfl), (.refl' (by first | rfl | omega | (simp; done) | (simp [strBytes_len]; done) | (simp; omega) | (simp_all; done)) rfl)⟩
      · rintro s ⟨out2, t0, H, rfl⟩
        unfold ref05_Send_J2 at H
        refine a_cut (fun s => ∃ (out3 : List Msg) (t0 : Nat → Dat), ref05_Send_J3 w1 m1 fate1 out3 = some r ∧ s = ⟨tl t0 [(0, .list 5 (w1.map Msg.c)), (2, .int .i64 fate1), (4, .ptr 0 0 0 5), (7, .ref 1 0 out3.length 5)], hl [⟨26, 5, false, [[.int .i64 m1.from_, .int .i64 m1.to_, .int .i64 m1.kind, .list 1 (m1.nums.map (ci .i64)), .list 1 (m1.data.map (ci .u8))]]⟩, ⟨26, 5, false, out3.map Msg.c⟩], 2, 73⟩) ?_ ?_
        · refine a_cut (fun s => ∃ (v2 : Bool) (t0 : Nat → Dat), ref05_Send_J6 out2 w1 m1 fate1 v2 = some r ∧ s = ⟨tl t0 [(0, .list 5 (w1.map Msg.c)), (2, .int .i64 fate1), (4, .ptr 0 0 0 5), (7, .ref 1 0 out2.length 5), (42, .bool v2)], hl [⟨26, 5, false, [[.int .i64 m1.from_, .int .i64 m1.to_, .int .i64 m1.kind, .list 1 (m1.nums.map (ci .i64)), .list 1 (m1.data.map (ci .u8))]]⟩, ⟨26, 5, false, out2.map Msg.c⟩], 2, 73⟩) ?_ ?_
          · refine bool_split (b := (fate1 == 4)) (fun zc5 => ?_) (fun zc5 => ?_)
            · rw [zc5] at H
              refine a_reg _ rfl (s := ?zs10) ?_ ?_
              rotate_left
              · simp (maxSteps := 2000000) only [EVT, stepR, evOp, St.ev, St.app, St.put, wrs, datOf, datOf1, evBin, binInt, evBuiltin, TIS, CS, Nat.reduceAdd, Nat.reduceMul, Nat.reduceEqDiff, ↓reduceIte, reduceCtorEq, Nat.reduceLT, Nat.reduceLeDiff, Array.reduceGetElem?, Nat.reduceSub, Nat.reduceBEq, ↓zc5]
                try simp (maxSteps := 2000000) only [EVT, stepR, evOp, St.ev, St.app, St.put, wrs, datOf, datOf1, evBin, binInt, evBuiltin, TIS, CS, Nat.reduceAdd, Nat.reduceMul, Nat.reduceEqDiff, ↓reduceIte, reduceCtorEq, Nat.reduceLT, Nat.reduceLeDiff, Array.reduceGetElem?, Nat.reduceSub, Nat.reduceBEq, ↓zc5]
                (repeat' apply And.intro) <;> first | rfl | assumption | omega | (left; omega) | (simp; done) | (simp; omega) | (right; exact ⟨_, rfl, rfl, rfl, by decide, by first | omega | (simp; omega)⟩) | (simp_all; done)
              refine cA_n ?_
              refine wk_l [(some 0, ⟨26, 5, false, [[.int .i64 m1.from_, .int .i64 m1.to_, .int .i64 m1.kind, .list 1 (m1.nums.map (ci .i64)), .list 1 (m1.data.map (ci .u8))]]⟩), (some 1, ⟨26, 5, false, out2.map Msg.c⟩)] [] [(0, .list 5 (w1.map Msg.c)), (2, .int .i64 fate1), (4, .ptr 0 0 0 5), (7, .ref 1 0 out2.length 5), (42, .bool ((w1.length : Int) == 0))] (by show ([0, 2, 4, 7, 42] : List Nat).Nodup; decide) (by show ([0, 1] : List Nat).Nodup; decide) ?_ ?_ (fun t0 => ⟨((w1.length : Int) == 0), t0, H, rfl⟩)
              · exact (allB_some (by rfl) rfl (.cons (.cons (.int' rfl) (.cons (.int' rfl) (.cons (.int' rfl) (.cons (.lst _ _ _ (ci_pu .i64) rfl) (.cons (.lst _ _ _ (ci_pu .u8) rfl) .nil))))) .nil) (allB_some (by rfl) rfl (.same _ _ Msg.pu (by first | rfl | (simp only [List.map_append, List.map_cons, List.map_nil, List.map_set, List.map_take, List.map_drop, List.map_replicate, List.append_assoc, List.nil_append, List.append_nil, ci_eq, cb_eq, cs_eq, cl_eq, CS,  List.nil_append]; done) | (simp [CS,  ci_eq, cb_eq, cs_eq, cl_eq]; done) | (simp [CS,  ci_eq, cb_eq, cs_eq, cl_eq]; intro hz; rw [List.take_of_length_le (by simp; omega)]))) trivial))
              · (simp only [AllT, tl_cons, tl_nil, upd_apply, List.getD_cons_zero, List.getD_cons_succ, Nat.reduceEqDiff, ↓reduceIte, and_true]); exact ⟨(.lst _ _ _ Msg.pu rfl), (.int' rfl), (.ptr _ _ _ _ _ rfl), (.refl' (by first | rfl | omega | (simp; done) | (simp [strBytes_len]; done) | (simp; omega) | (simp_all; done)) rfl), (.bool' rfl)⟩
            · rw [zc5] at H
              refine a_reg _ rfl (s := ?zs11) ?_ ?_
              rotate_left
              · simp (maxSteps := 2000000) only [EVT, stepR, evOp, St.ev, St.app, St.put, wrs, datOf, datOf1, evBin, binInt, evBuiltin, TIS, CS, Nat.reduceAdd, Nat.reduceMul, Nat.reduceEqDiff, ↓reduceIte, reduceCtorEq, Nat.reduceLT, Nat.reduceLeDiff, Array.reduceGetElem?, Nat.reduceSub, Nat.reduceBEq, ↓zc5]
                try simp (maxSteps := 2000000) only [EVT, stepR, evOp, St.ev, St.app, St.put, wrs, datOf, datOf1, evBin, binInt, evBuiltin, TIS, CS, Nat.reduceAdd, Nat.reduceMul, Nat.reduceEqDiff, ↓reduceIte, reduceCtorEq, Nat.reduceLT, Nat.reduceLeDiff, Array.reduceGetElem?, Nat.reduceSub, Nat.reduceBEq, ↓zc5]
                (repeat' apply And.intro) <;> first | rfl | assumption | omega | (left; omega) | (simp; done) | (simp; omega) | (right; exact ⟨_, rfl, rfl, rfl, by decide, by first | omega | (simp; omega)⟩) | (simp_all; done)
              refine cA_n ?_
              refine wk_l [(some 0, ⟨26, 5, false, [[.int .i64 m1.from_, .int .i64 m1.to_, .int .i64 m1.kind, .list 1 (m1.nums.map (ci .i64)), .list 1 (m1.data.map (ci .u8))]]⟩), (some 1, ⟨26, 5, false, out2.map Msg.c⟩)] [] [(0, .list 5 (w1.map Msg.c)), (2, .int .i64 fate1), (4, .ptr 0 0 0 5), (7, .ref 1 0 out2.length 5), (42, .bool false)] (by show ([0, 2, 4, 7, 42] : List Nat).Nodup; decide) (by show ([0, 1] : List Nat).Nodup; decide) ?_ ?_ (fun t0 => ⟨false, t0, H, rfl⟩)
              · exact (allB_some (by rfl) rfl (.cons (.cons (.int' rfl) (.cons (.int' rfl) (.cons (.int' rfl) (.cons (.lst _ _ _ (ci_pu .i64) rfl) (.cons (.lst _ _ _ (ci_pu .u8) rfl) .nil))))) .nil) (allB_some (by rfl) rfl (.same _ _ Msg.pu (by first | rfl | (simp only [List.map_append, List.map_cons, List.map_nil, List.map_set, List.map_take, List.map_drop, List.map_replicate, List.append_assoc, List.nil_append, List.append_nil, ci_eq, cb_eq, cs_eq, cl_eq, CS,  List.nil_append]; done) | (simp [CS,  ci_eq, cb_eq, cs_eq, cl_eq]; done) | (simp [CS,  ci_eq, cb_eq, cs_eq, cl_eq]; intro hz; rw [List.take_of_length_le (by simp; omega)]))) trivial))
              · (simp only [AllT, tl_cons, tl_nil, upd_apply, List.getD_cons_zero, List.getD_cons_succ, Nat.reduceEqDiff, ↓reduceIte, and_true]); exact ⟨(.lst _ _ _ Msg.pu rfl), (.int' rfl), (.ptr _ _ _ _ _ rfl), (.refl' (by first | rfl | omega | (simp; done) | (simp [strBytes_len]; done) | (simp; omega) | (simp_all; done)) rfl), (.bool' (by first | rfl | assumption | (simp_all; done)))⟩
          · rintro s ⟨v2, t0, H, rfl⟩
            unfold ref05_Send_J6 at H
            refine a_condb (v2) (by rfl) (fun zc4 => ?_) (fun zc4 => ?_)
            · have H := cond_t zc4 H
              obtain ⟨zh7, H⟩ := chk_some H
              refine a_reg _ rfl (s := ?zs9) ?_ ?_
              rotate_left
              · simp (maxSteps := 2000000) only [EVT, stepR, evOp, St.ev, St.app, St.put, wrs, evLoad, cut, allOne, evBuiltin, evAppend, isAl, elems, Option.elim, TIS, CS, Nat.reduceAdd, Nat.reduceMul, Nat.reduceEqDiff, ↓reduceIte, reduceCtorEq, Nat.reduceLT, Nat.reduceLeDiff, Nat.reduceSub, Nat.reduceBEq, ↓zc4]
                (repeat' apply And.intro) <;> first | rfl | assumption | omega | (left; omega) | (simp; done) | (simp; omega) | (right; exact ⟨_, rfl, rfl, rfl, by decide, by first | omega | (simp; omega)⟩) | (simp_all; done)
              refine cA_n ?_
              refine wk_l [(some 0, ⟨26, 5, false, [[.int .i64 m1.from_, .int .i64 m1.to_, .int .i64 m1.kind, .list 1 (m1.nums.map (ci .i64)), .list 1 (m1.data.map (ci .u8))]]⟩), (some 5, ⟨26, 5, false, (out2 ++ [m1]).map Msg.c⟩)] [] [(0, .list 5 (w1.map Msg.c)), (2, .int .i64 fate1), (4, .ptr 0 0 0 5), (7, .ref 1 0 (out2 ++ [m1]).length 5)] (by show ([0, 2, 4, 7] : List Nat).Nodup; decide) (by show ([0, 5] : List Nat).Nodup; decide) ?_ ?_ (fun t0 => ⟨(out2 ++ [m1]), t0, H, rfl⟩)
              · exact (allB_some (by rfl) rfl (.cons (.cons (.int' rfl) (.cons (.int' rfl) (.cons (.int' rfl) (.cons (.lst _ _ _ (ci_pu .i64) rfl) (.cons (.lst _ _ _ (ci_pu .u8) rfl) .nil))))) .nil) (allB_some (by rfl) rfl (.same _ _ Msg.pu (by first | rfl | (simp only [List.map_append, List.map_cons, List.map_nil, List.map_set, List.map_take, List.map_drop, List.map_replicate, List.append_assoc, List.nil_append, List.append_nil, ci_eq, cb_eq, cs_eq, cl_eq, CS,  List.nil_append]; done) | (simp [CS,  ci_eq, cb_eq, cs_eq, cl_eq]; done) | (simp [CS,  ci_eq, cb_eq, cs_eq, cl_eq]; intro hz; rw [List.take_of_length_le (by simp; omega)]))) trivial))
              · (simp only [AllT, tl_cons, tl_nil, upd_apply, List.getD_cons_zero, List.getD_cons_succ, Nat.reduceEqDiff, ↓reduceIte, and_true]); exact ⟨(.lst _ _ _ Msg.pu rfl), (.int' rfl), (.ptr _ _ _ _ _ rfl), (.refl' (by first | rfl | omega | (simp; done) | (simp [strBytes_len]; done) | (simp; omega) | (simp_all; done)) rfl)⟩
            · have H := cond_f zc4 H
              refine a_skip ?_
              refine cA_n ?_
              refine wk_l [(some 0, ⟨26, 5, false, [[.int .i64 m1.from_, .int .i64 m1.to_, .int .i64 m1.kind, .list 1 (m1.nums.map (ci .i64)), .list 1 (m1.data.map (ci .u8))]]⟩), (some 1, ⟨26, 5, false, out2.map Msg.c⟩)] [] [(0, .list 5 (w1.map Msg.c)), (2, .int .i64 fate1), (4, .ptr 0 0 0 5), (7, .ref 1 0 out2.length 5)] (by show ([0, 2, 4, 7] : List Nat).Nodup; decide) (by show ([0, 1] : List Nat).Nodup; decide) ?_ ?_ (fun t0 => ⟨out2, t0, H, rfl⟩)
              · exact (allB_some (by rfl) rfl (.cons (.cons (.int' rfl) (.cons (.int' rfl) (.cons (.int' rfl) (.cons (.lst _ _ _ (ci_pu .i64) rfl) (.cons (.lst _ _ _ (ci_pu .u8) rfl) .nil))))) .nil) (allB_some (by rfl) rfl (.same _ _ Msg.pu (by first | rfl | (simp only [List.map_append, List.map_cons, List.map_nil, List.map_set, List.map_take, List.map_drop, List.map_replicate, List.append_assoc, List.nil_append, List.append_nil, ci_eq, cb_eq, cs_eq, cl_eq, CS,  List.nil_append]; done) | (simp [CS,  ci_eq, cb_eq, cs_eq, cl_eq]; done) | (simp [CS,  ci_eq, cb_eq, cs_eq, cl_eq]; intro hz; rw [List.take_of_length_le (by simp; omega)]))) trivial))
              · (simp only [AllT, tl_cons, tl_nil, upd_apply, List.getD_cons_zero, List.getD_cons_succ, Nat.reduceEqDiff, ↓reduceIte, and_true]); exact ⟨(.lst _ _ _ Msg.pu rfl), (.int' rfl), (.ptr _ _ _ _ _ rfl), (.refl' (by first | rfl | omega | (simp; done) | (simp [strBytes_len]; done) | (simp; omega) | (simp_all; done)) rfl)⟩
        · rintro s ⟨out3, t0, H, rfl⟩
          unfold ref05_Send_J3 at H
          refine a_cut (fun s => ∃ (out4 : List Msg) (t0 : Nat → Dat), ref05_Send_J4 out4 = some r ∧ s = ⟨tl t0 [(7, .ref 0 0 out4.length 5)], hl [⟨26, 5, false, out4.map Msg.c⟩], 1, 73⟩) ?_ ?_
          · refine a_cut (fun s => ∃ (v1 : Bool) (t0 : Nat → Dat), ref05_Send_J5 w1 m1 out3 v1 = some r ∧ s = ⟨tl t0 [(0, .list 5 (w1.map Msg.c)), (4, .ptr 0 0 0 5), (7, .ref 1 0 out3.length 5), (53, .bool v1)], hl [⟨26, 5, false, [[.int .i64 m1.from_, .int .i64 m1.to_, .int .i64 m1.kind, .list 1 (m1.nums.map (ci .i64)), .list 1 (m1.data.map (ci .u8))]]⟩, ⟨26, 5, false, out3.map Msg.c⟩], 2, 73⟩) ?_ ?_
            · refine bool_split (b := (fate1 == 4)) (fun zc3 => ?_) (fun zc3 => ?_)
              · rw [zc3] at H
                refine a_reg _ rfl (s := ?zs7) ?_ ?_
                rotate_left
                · simp (maxSteps := 2000000) only [EVT, stepR, evOp, St.ev, St.app, St.put, wrs, datOf, datOf1, evBin, binInt, evBuiltin, TIS, CS, Nat.reduceAdd, Nat.reduceMul, Nat.reduceEqDiff, ↓reduceIte, reduceCtorEq, Nat.reduceLT, Nat.reduceLeDiff, Array.reduceGetElem?, Nat.reduceSub, Nat.reduceBEq, ↓zc3]
                  try simp (maxSteps := 2000000) only [EVT, stepR, evOp, St.ev, St.app, St.put, wrs, datOf, datOf1, evBin, binInt, evBuiltin, TIS, CS, Nat.reduceAdd, Nat.reduceMul, Nat.reduceEqDiff, ↓reduceIte, reduceCtorEq, Nat.reduceLT, Nat.reduceLeDiff, Array.reduceGetElem?, Nat.reduceSub, Nat.reduceBEq, ↓zc3]
                  (repeat' apply And.intro) <;> first | rfl | assumption | omega | (left; omega) | (simp; done) | (simp; omega) | (right; exact ⟨_, rfl, rfl, rfl, by decide, by first | omega | (simp; omega)⟩) | (simp_all; done)
                refine cA_n ?_
                refine wk_l [(some 0, ⟨26, 5, false, [[.int .i64 m1.from_, .int .i64 m1.to_, .int .i64 m1.kind, .list 1 (m1.nums.map (ci .i64)), .list 1 (m1.data.map (ci .u8))]]⟩), (some 1, ⟨26, 5, false, out3.map Msg.c⟩)] [] [(0, .list 5 (w1.map Msg.c)), (4, .ptr 0 0 0 5), (7, .ref 1 0 out3.length 5), (53, .bool (decide (0 < (w1.length : Int))))] (by show ([0, 4, 7, 53] : List Nat).Nodup; decide) (by show ([0, 1] : List Nat).Nodup; decide) ?_ ?_ (fun t0 => ⟨(decide (0 < (w1.length : Int))), t0, H, rfl⟩)
                · exact (allB_some (by rfl) rfl (.cons (.cons (.int' rfl) (.cons (.int' rfl) (.cons (.int' rfl) (.cons (.lst _ _ _ (ci_pu .i64) rfl) (.cons (.lst _ _ _ (ci_pu .u8) rfl) .nil))))) .nil) (allB_some (by rfl) rfl (.same _ _ Msg.pu (by first | rfl | (simp only [List.map_append, List.map_cons, List.map_nil, List.map_set, List.map_take, List.map_drop, List.map_replicate, List.append_assoc, List.nil_append, List.append_nil, ci_eq, cb_eq, cs_eq, cl_eq, CS,  List.nil_append]; done) | (simp [CS,  ci_eq, cb_eq, cs_eq, cl_eq]; done) | (simp [CS,  ci_eq, cb_eq, cs_eq, cl_eq]; intro hz; rw [List.take_of_length_le (by simp; omega)]))) trivial))
                · (simp only [AllT, tl_cons, tl_nil, upd_apply, List.getD_cons_zero, List.getD_cons_succ, Nat.reduceEqDiff, ↓reduceIte, and_true]); exact ⟨(.lst _ _ _ Msg.pu rfl), (.ptr _ _ _ _ _ rfl), (.refl' (by first | rfl | omega | (simp; done) | (simp [strBytes_len]; done) | (simp; omega) | (simp_all; done)) rfl), (.bool' rfl)⟩
              · rw [zc3] at H
                refine a_reg _ rfl (s := ?zs8) ?_ ?_
                rotate_left
                · simp (maxSteps := 2000000) only [EVT, stepR, evOp, St.ev, St.app, St.put, wrs, datOf, datOf1, evBin, binInt, evBuiltin, TIS, CS, Nat.reduceAdd, Nat.reduceMul, Nat.reduceEqDiff, ↓reduceIte, reduceCtorEq, Nat.reduceLT, Nat.reduceLeDiff, Array.reduceGetElem?, Nat.reduceSub, Nat.reduceBEq, ↓zc3]
                  try simp (maxSteps := 2000000) only [EVT, stepR, evOp, St.ev, St.app, St.put, wrs, datOf, datOf1, evBin, binInt, evBuiltin, TIS, CS, Nat.reduceAdd, Nat.reduceMul, Nat.reduceEqDiff, ↓reduceIte, reduceCtorEq, Nat.reduceLT, Nat.reduceLeDiff, Array.reduceGetElem?, Nat.reduceSub, Nat.reduceBEq, ↓zc3]
                  (repeat' apply And.intro) <;> first | rfl | assumption | omega | (left; omega) | (simp; done) | (simp; omega) | (right; exact ⟨_, rfl, rfl, rfl, by decide, by first | omega | (simp; omega)⟩) | (simp_all; done)
                refine cA_n ?_
                refine wk_l [(some 0, ⟨26, 5, false, [[.int .i64 m1.from_, .int .i64 m1.to_, .int .i64 m1.kind, .list 1 (m1.nums.map (ci .i64)), .list 1 (m1.data.map (ci .u8))]]⟩), (some 1, ⟨26, 5, false, out3.map Msg.c⟩)] [] [(0, .list 5 (w1.map Msg.c)), (4, .ptr 0 0 0 5), (7, .ref 1 0 out3.length 5), (53, .bool false)] (by show ([0, 4, 7, 53] : List Nat).Nodup; decide) (by show ([0, 1] : List Nat).Nodup; decide) ?_ ?_ (fun t0 => ⟨false, t0, H, rfl⟩)
                · exact (allB_some (by rfl) rfl (.cons (.cons (.int' rfl) (.cons (.int' rfl) (.cons (.int' rfl) (.cons (.lst _ _ _ (ci_pu .i64) rfl) (.cons (.lst _ _ _ (ci_pu .u8) rfl) .nil))))) .nil) (allB_some (by rfl) rfl (.same _ _ Msg.pu (by first | rfl | (simp only [List.map_append, List.map_cons, List.map_nil, List.map_set, List.map_take, List.map_drop, List.map_replicate, List.append_assoc, List.nil_append, List.append_nil, ci_eq, cb_eq, cs_eq, cl_eq, CS,  List.nil_append]; done) | (simp [CS,  ci_eq, cb_eq, cs_eq, cl_eq]; done) | (simp [CS,  ci_eq, cb_eq, cs_eq, cl_eq]; intro hz; rw [List.take_of_length_le (by simp; omega)]))) trivial))
                · (simp only [AllT, tl_cons, tl_nil, upd_apply, List.getD_cons_zero, List.getD_cons_succ, Nat.reduceEqDiff, ↓reduceIte, and_true]); exact ⟨(.lst _ _ _ Msg.pu rfl), (.ptr _ _ _ _ _ rfl), (.refl' (by first | rfl | omega | (simp; done) | (simp [strBytes_len]; done) | (simp; omega) | (simp_all; done)) rfl), (.bool' (by first | rfl | assumption | (simp_all; done)))⟩
            · rintro s ⟨v1, t0, H, rfl⟩
              unfold ref05_Send_J5 at H
              refine a_condb (v1) (by rfl) (fun zc2 => ?_) (fun zc2 => ?_)
              · have H := cond_t zc2 H
                obtain ⟨zh2, H⟩ := chk_some H
                obtain ⟨zh3, H⟩ := chk_some H
                obtain ⟨zh4, H⟩ := chk_some H
                obtain ⟨x1, zh5, H⟩ := bind_some H
                have zg1 := idx_map zh5 Msg.c
                try simp only [Int.reduceToNat] at zg1
                obtain ⟨zh5a, zh5b, _⟩ := idx_some zh5
                obtain ⟨zh6, H⟩ := chk_some H
                have zh3d := zh3
                have zh4d := zh4
                have zh6d := zh6
                rw [List.drop_zero] at zh3d zh4d zh6d
                refine a_drW (by kernel_rfl) _ rfl (s := ?zs6) (by kernel_rfl) (by kernel_rfl) ?zs6f ?_ ?_ ?_
                rotate_left 2
                · simp (maxSteps := 2000000) only [EVT, stepW, evOp, St.ev, St.app, St.put, wrs, allOne, evBuiltin, datOf, datOf1, evBin, binInt, evSlice, sliceOk, sl_if0, sl_if1, sl_if2, sl_if3, tk_map, dp_map, evAppend, isAl, elems, Option.elim, evLoad, cut, evIndexAddr, TIS, CS, Nat.reduceAdd, Nat.reduceMul, Nat.reduceEqDiff, ↓reduceIte, reduceCtorEq, Nat.reduceLT, Nat.reduceLeDiff, Int.reduceToNat, Nat.reduceSub, Nat.reduceBEq, ↓zc2, zg1]
                  (repeat' with_reducible apply And.intro) <;> first | (with_reducible assumption) | (with_reducible rfl) | (exact zh2.2.2) | (exact zh3d) | (exact zh4d) | (exact zh6d) | (exact zh2.2.1) | (intro _; trivial) | (simp; done) | (right; exact ⟨_, rfl, rfl, rfl, by decide, by first | (simp; done) | omega | (simp; omega)⟩) | (left; simp; done)
                · kernel_rfl
                refine cA_n ?_
                refine wk_l [(some 19, ⟨26, 5, false, (((([] : List Msg) ++ ((w1.take (IntKind.wrap .i64 ((w1.length : Int) - 1)).toNat).drop 0)) ++ [m1]) ++ [x1]).map Msg.c⟩)] [] [(7, .ref 0 0 (((([] : List Msg) ++ ((w1.take (IntKind.wrap .i64 ((w1.length : Int) - 1)).toNat).drop 0)) ++ [m1]) ++ [x1]).length 5)] (by show ([7] : List Nat).Nodup; decide) (by show ([19] : List Nat).Nodup; decide) ?_ ?_ (fun t0 => ⟨(((([] : List Msg) ++ ((w1.take (IntKind.wrap .i64 ((w1.length : Int) - 1)).toNat).drop 0)) ++ [m1]) ++ [x1]), t0, H, rfl⟩)
                · exact (allB_some (by rfl) rfl (.same _ _ Msg.pu (by first | rfl | (simp only [List.map_append, List.map_cons, List.map_nil, List.map_set, List.map_take, List.map_drop, List.map_replicate, List.append_assoc, List.nil_append, List.append_nil, ci_eq, cb_eq, cs_eq, cl_eq, CS,  List.nil_append]; done) | (simp [CS,  ci_eq, cb_eq, cs_eq, cl_eq]; done) | (simp [CS,  ci_eq, cb_eq, cs_eq, cl_eq]; intro hz; rw [List.take_of_length_le (by simp; omega)]))) trivial)
                · (simp only [AllT, tl_cons, tl_nil, upd_apply, List.getD_cons_zero, List.getD_cons_succ, Nat.reduceEqDiff, ↓reduceIte, and_true]); exact (.refl' (by first | rfl | omega | (simp; done) | (simp [strBytes_len]; done) | (simp; omega) | (simp_all; done)) rfl)
              · have H := cond_f zc2 H
                refine a_skip ?_
                refine cA_n ?_
                refine wk_l [(some 1, ⟨26, 5, false, out3.map Msg.c⟩)] [] [(7, .ref 0 0 out3.length 5)] (by show ([7] : List Nat).Nodup; decide) (by show ([1] : List Nat).Nodup; decide) ?_ ?_ (fun t0 => ⟨out3, t0, H, rfl⟩)
                · exact (allB_some (by rfl) rfl (.same _ _ Msg.pu (by first | rfl | (simp only [List.map_append, List.map_cons, List.map_nil, List.map_set, List.map_take, List.map_drop, List.map_replicate, List.append_assoc, List.nil_append, List.append_nil, ci_eq, cb_eq, cs_eq, cl_eq, CS,  List.nil_append]; done) | (simp [CS,  ci_eq, cb_eq, cs_eq, cl_eq]; done) | (simp [CS,  ci_eq, cb_eq, cs_eq, cl_eq]; intro hz; rw [List.take_of_length_le (by simp; omega)]))) trivial)
                · (simp only [AllT, tl_cons, tl_nil, upd_apply, List.getD_cons_zero, List.getD_cons_succ, Nat.reduceEqDiff, ↓reduceIte, and_true]); exact (.refl' (by first | rfl | omega | (simp; done) | (simp [strBytes_len]; done) | (simp; omega) | (simp_all; done)) rfl)
          · rintro s ⟨out4, t0, H, rfl⟩
            unfold ref05_Send_J4 at H
            refine a_seq ?_
            refine a_reg _ rfl (s := ?zs5) ?_ ?_
            rotate_left
            · simp (maxSteps := 2000000) only [EVT, stepR, evOp, St.ev, St.app, St.put, wrs, TIS, CS, Nat.reduceAdd, Nat.reduceMul, Nat.reduceEqDiff, ↓reduceIte, reduceCtorEq, Nat.reduceLT, Nat.reduceLeDiff]
              (repeat' apply And.intro) <;> first | rfl | assumption | omega | (left; omega) | (simp; done) | (simp; omega) | (right; exact ⟨_, rfl, rfl, rfl, by decide, by first | omega | (simp; omega)⟩) | (simp_all; done)
            refine sA_n ?_
            refine a_ret ?_
            obtain rfl := Option.some.inj H
            refine e_r2 (d := ?zd2) ?_ ?_
            rotate_left
            · simp only [EVT, resR, single, evLoad, cut, TIS, CS, Nat.reduceAdd, Nat.reduceEqDiff, ↓reduceIte, reduceCtorEq, Nat.reduceLT, Nat.reduceLeDiff, Nat.reduceSub, Nat.reduceBEq]
              (repeat' apply And.intro) <;> first | rfl | assumption | omega | (simp; done)
            exact (.ownL (by rfl) (fun e => by cases e) rfl (by first | rfl | omega | (simp; done) | (simp [strBytes_len]; done) | (simp; omega) | (simp_all; done)) (.same _ _ Msg.pu (by first | rfl | (simp only [List.map_append, List.map_cons, List.map_nil, List.map_set, List.map_take, List.map_drop, List.map_replicate, List.append_assoc, List.nil_append, List.append_nil, ci_eq, cb_eq, cs_eq, cl_eq, CS,  List.nil_append]; done) | (simp [CS,  ci_eq, cb_eq, cs_eq, cl_eq]; done) | (simp [CS,  ci_eq, cb_eq, cs_eq, cl_eq]; intro hz; rw [List.take_of_length_le (by simp; omega)]))))
end
end Go.Proofs.Yteebeajhoemdpaa
