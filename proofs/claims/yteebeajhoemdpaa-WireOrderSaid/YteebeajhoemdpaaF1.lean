/- Functions of the program as Lean functions, and that they are so; printed by a program of mine. -/
import Derived.Test.YteebeajhoemdpaaTy
set_option linter.unusedSimpArgs false
set_option linter.unusedVariables false
namespace Go.Proofs.Yteebeajhoemdpaa
open Go.Ab
noncomputable section

def slices_Clone_f (s1 : List Msg) : Option (List Msg) :=
  nilq s1 (some (([] : List Msg))) (chk ((s1.length) * 72 ≤ 140737488355328) (some ((([] : List Msg) ++ s1))))
set_option maxHeartbeats 4000000 in
set_option maxRecDepth 20000 in
theorem slices_Clone_rc {s1 : List Msg} {r : (List Msg)} (H : slices_Clone_f s1 = some r) : RC Try.prog 26 [.list 5 (s1.map Msg.c)] [] 0 (.ref 0 0 r.length 5) [some ⟨26, 5, false, r.map Msg.c⟩] := by
  refine rcA_of Try.func26 (by rfl) (by decide) 8 (by rfl) [.tmp 2] (by rfl) ?_
  unfold slices_Clone_f at H
  simp only [hent, List.length_cons, List.length_nil, Nat.reduceAdd]
  refine a_seq ?_
  refine a_reg _ rfl (s := ?zs1) ?_ ?_
  rotate_left
  · simp (maxSteps := 2000000) only [EVT, stepR, evOp, St.ev, St.app, St.put, wrs, datOf, datOf1, TIS, CS, Nat.reduceAdd, Nat.reduceMul, Nat.reduceEqDiff, ↓reduceIte, reduceCtorEq, Nat.reduceLT, Nat.reduceLeDiff]
    (repeat' apply And.intro) <;> first | rfl | assumption | omega | (left; omega) | (simp; done) | (simp; omega) | (right; exact ⟨_, rfl, rfl, rfl, by decide, by first | omega | (simp; omega)⟩) | (simp_all; done)
  refine sA_n ?_
  refine a_seq ?_
  refine a_seq ?_
  obtain ⟨zh1a, zh1b⟩ := nilq_some H
  refine a_reg2 _ rfl (s1 = []) (s1 := ?zs2a) (s2 := ?zs2b) ?_ ?_ ?_
  rotate_left 2
  · simp (maxSteps := 2000000) only [EVT, stepR, evOp, St.ev, St.app, St.put, wrs, datOf, datOf1, evBin, binInt, TIS, CS, Nat.reduceAdd, Nat.reduceMul, Nat.reduceEqDiff, ↓reduceIte, reduceCtorEq, Nat.reduceLT, Nat.reduceLeDiff]
    refine nilq_list rfl Try.underlying22 rfl ?_ ?_
    · intro zb
      simp only [St.put, Nat.reduceLT, Nat.reduceLeDiff, ↓reduceIte]
      try simp (maxSteps := 2000000) only [EVT, stepR, evOp, St.ev, St.app, St.put, wrs, datOf, datOf1, evBin, binInt, TIS, CS, Nat.reduceAdd, Nat.reduceMul, Nat.reduceEqDiff, ↓reduceIte, reduceCtorEq, Nat.reduceLT, Nat.reduceLeDiff]
      refine .inl ⟨by simpa using zb, ?_⟩
      rfl
    · simp only [St.put, Nat.reduceLT, Nat.reduceLeDiff, ↓reduceIte]
      try simp (maxSteps := 2000000) only [EVT, stepR, evOp, St.ev, St.app, St.put, wrs, datOf, datOf1, evBin, binInt, TIS, CS, Nat.reduceAdd, Nat.reduceMul, Nat.reduceEqDiff, ↓reduceIte, reduceCtorEq, Nat.reduceLT, Nat.reduceLeDiff]
      refine .inr ?_
      rfl
  · intro zn; have H := zh1a zn
    refine sA_n ?_
    refine a_condb true (by first | rfl | (simp only [EVT, St.ev, datOf, datOf1, Nat.reduceEqDiff, ↓reduceIte]; done) | (simp only [EVT, St.ev, datOf, datOf1, Nat.reduceEqDiff, ↓reduceIte]; rfl) | (simp only [EVT, St.ev, datOf, datOf1, Nat.reduceEqDiff, ↓reduceIte]; simp_all; done)) (fun zc1 => ?_) (fun zc1 => absurd zc1 (by decide))
    refine a_seq ?_
    refine a_reg _ rfl (s := ?zs3) ?_ ?_
    rotate_left
    · simp (maxSteps := 2000000) only [EVT, stepR, evOp, St.ev, St.app, St.put, wrs, datOf, datOf1, TIS, CS, Nat.reduceAdd, Nat.reduceMul, Nat.reduceEqDiff, ↓reduceIte, reduceCtorEq, Nat.reduceLT, Nat.reduceLeDiff]
      (repeat' apply And.intro) <;> first | rfl | assumption | omega | (left; omega) | (simp; done) | (simp; omega) | (right; exact ⟨_, rfl, rfl, rfl, by decide, by first | omega | (simp; omega)⟩) | (simp_all; done)
    refine sA_n ?_
    refine a_ret ?_
    refine sA_r ?_
    obtain rfl := Option.some.inj H
    refine eR_r ?_
    refine wk_ln 0 [(none, ⟨26, 5, false, ([] : List Msg).map Msg.c⟩)] [] [(2, .ref 0 0 ([] : List Msg).length 5)] (fun i h => absurd h (Nat.not_lt_zero i)) (by show ([2] : List Nat).Nodup; decide) (by show ([] : List Nat).Nodup; decide) ?_ ?_ (fun t0 => ⟨by first | rfl | (simp only [EVT, resR, single, evLoad, cut, TIS, CS, Nat.reduceAdd, Nat.reduceEqDiff, ↓reduceIte, reduceCtorEq, Nat.reduceLT, Nat.reduceLeDiff, Nat.reduceSub, Nat.reduceBEq]; (repeat' apply And.intro) <;> first | rfl | (simp; done)), fun j B h => by rcases j with _ | _ <;> first | exact h | (exact absurd h (by simp [hh]))⟩)
    · exact (allB_none rfl trivial)
    · (simp only [AllT, tl_cons, tl_nil, upd_apply, List.getD_cons_zero, List.getD_cons_succ, Nat.reduceEqDiff, ↓reduceIte, and_true]); exact (.nilv _ _ rfl rfl)
  · have H := zh1b
    refine sA_n ?_
    refine a_condb false (by first | rfl | (simp only [EVT, St.ev, datOf, datOf1, Nat.reduceEqDiff, ↓reduceIte]; done) | (simp only [EVT, St.ev, datOf, datOf1, Nat.reduceEqDiff, ↓reduceIte]; rfl) | (simp only [EVT, St.ev, datOf, datOf1, Nat.reduceEqDiff, ↓reduceIte]; simp_all; done)) (fun zc2 => absurd zc2 (by decide)) (fun zc2 => ?_)
    refine a_skip ?_
    refine sA_n ?_
    refine a_seq ?_
    obtain ⟨zh2, H⟩ := chk_some H
    refine a_reg _ rfl (s := ?zs4) ?_ ?_
    rotate_left
    · simp (maxSteps := 2000000) only [EVT, stepR, evOp, St.ev, St.app, St.put, wrs, allOne, evBuiltin, evAppend, isAl, elems, Option.elim, TIS, CS, Nat.reduceAdd, Nat.reduceMul, Nat.reduceEqDiff, ↓reduceIte, reduceCtorEq, Nat.reduceLT, Nat.reduceLeDiff, Nat.reduceSub, Nat.reduceBEq]
      (repeat' apply And.intro) <;> first | rfl | assumption | omega | (left; omega) | (simp; done) | (simp; omega) | (right; exact ⟨_, rfl, rfl, rfl, by decide, by first | omega | (simp; omega)⟩) | (simp_all; done)
    refine sA_n ?_
    refine a_ret ?_
    obtain rfl := Option.some.inj H
    refine eR_r ?_
    refine wk_ln 0 [(some 26, ⟨26, 5, false, (([] : List Msg) ++ s1).map Msg.c⟩)] [] [(2, .ref 0 0 (([] : List Msg) ++ s1).length 5)] (fun i h => absurd h (Nat.not_lt_zero i)) (by show ([2] : List Nat).Nodup; decide) (by show ([26] : List Nat).Nodup; decide) ?_ ?_ (fun t0 => ⟨by first | rfl | (simp only [EVT, resR, single, evLoad, cut, TIS, CS, Nat.reduceAdd, Nat.reduceEqDiff, ↓reduceIte, reduceCtorEq, Nat.reduceLT, Nat.reduceLeDiff, Nat.reduceSub, Nat.reduceBEq]; (repeat' apply And.intro) <;> first | rfl | (simp; done)), fun j B h => by rcases j with _ | _ <;> first | exact h | (exact absurd h (by simp [hh]))⟩)
    · exact (allB_some (by rfl) rfl (.same _ _ Msg.pu (by first | rfl | (simp only [List.map_append, List.map_cons, List.map_nil, List.map_set, List.map_take, List.map_drop, List.map_replicate, List.append_assoc, List.nil_append, List.append_nil, ci_eq, cb_eq, cs_eq, cl_eq, CS,  List.nil_append]; done) | (simp [CS,  ci_eq, cb_eq, cs_eq, cl_eq]; done) | (simp [CS,  ci_eq, cb_eq, cs_eq, cl_eq]; intro hz; rw [List.take_of_length_le (by simp; omega)]))) trivial)
    · (simp only [AllT, tl_cons, tl_nil, upd_apply, List.getD_cons_zero, List.getD_cons_succ, Nat.reduceEqDiff, ↓reduceIte, and_true]); exact (.refl' (by first | rfl | omega | (simp; done) | (simp [strBytes_len]; done) | (simp; omega) | (simp_all; done)) rfl)
theorem slices_Clone_pc {s1 : List Msg} {r : (List Msg)} (H : slices_Clone_f s1 = some r) : PC Try.prog 26 [.list 5 (s1.map Msg.c)] (.list 5 (r.map Msg.c)) := rc_pc (slices_Clone_rc H) (.ownL rfl (fun e => by cases e) rfl (List.length_map _).symm (.same _ _ Msg.pu rfl))
def slices_Index_J1 : Option Int :=
  some ((-1))
def slices_Index_L1 (s1 : List Int) (v1 : Int) : Nat → Int → Option Int
  | 0, _ => none
  | m_ + 1, v2 => cond (decide (v2 < (s1.length : Int))) ((idx s1 v2).bind fun x1 => cond (v1 == x1) (some (v2)) (slices_Index_L1 s1 v1 m_ (IntKind.wrap .i64 (v2 + 1)))) (slices_Index_J1)
def slices_Index_f (s1 : List Int) (v1 : Int) : Option Int :=
  slices_Index_L1 s1 v1 BIG 0
set_option maxHeartbeats 4000000 in
set_option maxRecDepth 20000 in
theorem slices_Index_pc {s1 : List Int} {v1 : Int} {r : Int} (H : slices_Index_f s1 v1 = some r) : PC Try.prog 35 [.list 1 (s1.map (ci .i64)), .int .i64 v1] (.int .i64 r) := by
  refine pcA_of Try.func35 (by rfl) (by decide) 19 (by rfl) [.tmp 4] (by rfl) ?_
  unfold slices_Index_f at H
  simp only [ent]
  refine a_seq ?_
  refine a_reg _ rfl (s := ?zs1) ?_ ?_
  rotate_left
  · simp (maxSteps := 2000000) only [EVT, stepR, evOp, St.ev, St.app, St.put, wrs, datOf, datOf1, TIS, CS, Nat.reduceAdd, Nat.reduceMul, Nat.reduceEqDiff, ↓reduceIte, reduceCtorEq, Nat.reduceLT, Nat.reduceLeDiff]
    (repeat' apply And.intro) <;> first | rfl | assumption | omega | (left; omega) | (simp; done) | (simp; omega) | (right; exact ⟨_, rfl, rfl, rfl, by decide, by first | omega | (simp; omega)⟩) | (simp_all; done)
  refine sA_n ?_
  refine a_cut (fun s => ∃ (t0 : Nat → Dat), slices_Index_J1 = some r ∧ s = ⟨tl t0 [], hl [], 0, 19⟩) ?_ ?_
  · refine a_seq ?_
    refine a_reg _ rfl (s := ?zs3) ?_ ?_
    rotate_left
    · simp (maxSteps := 2000000) only [EVT, stepR, evOp, St.ev, St.app, St.put, wrs, evBuiltin, datOf, datOf1, TIS, CS, Nat.reduceAdd, Nat.reduceMul, Nat.reduceEqDiff, ↓reduceIte, reduceCtorEq, Nat.reduceLT, Nat.reduceLeDiff, Nat.reduceSub, Nat.reduceBEq]
      (repeat' apply And.intro) <;> first | rfl | assumption | omega | (left; omega) | (simp; done) | (simp; omega) | (right; exact ⟨_, rfl, rfl, rfl, by decide, by first | omega | (simp; omega)⟩) | (simp_all; done)
    refine sA_n ?_
    refine a_blk ?_
    refine a_loop (fun m s => ∃ (v2 : Int) (t0 : Nat → Dat), slices_Index_L1 s1 v1 m v2 = some r ∧ s = ⟨tl t0 [(0, .list 1 (s1.map (ci .i64))), (1, .int .i64 v1), (7, .int .i64 (s1.length : Int)), (8, .int .i64 v2)], hl [], 0, 19⟩) BIG ?_ ?_
    · refine wk_l [] [] [(0, .list 1 (s1.map (ci .i64))), (1, .int .i64 v1), (7, .int .i64 (s1.length : Int)), (8, .int .i64 0)] (by show ([0, 1, 7, 8] : List Nat).Nodup; decide) (by show ([] : List Nat).Nodup; decide) ?_ ?_ (fun t0 => ⟨0, t0, H, rfl⟩)
      · exact trivial
      · (simp only [AllT, tl_cons, tl_nil, upd_apply, List.getD_cons_zero, List.getD_cons_succ, Nat.reduceEqDiff, ↓reduceIte, and_true]); exact ⟨(.lst _ _ _ (ci_pu .i64) rfl), (.int' rfl), (.int' rfl), (.int' rfl)⟩
    · rintro m_slices_Index_L1 s ⟨v2, t0, H, rfl⟩
      obtain _ | m_slices_Index_L1 := m_slices_Index_L1
      · cases (show (none : Option _) = some _ from H)
      · rw [slices_Index_L1] at H
        refine a_seq ?_
        refine a_reg _ rfl (s := ?zs4) ?_ ?_
        rotate_left
        · simp (maxSteps := 2000000) only [EVT, stepR, evOp, St.ev, St.app, St.put, wrs, evBin, binInt, TIS, CS, Nat.reduceAdd, Nat.reduceMul, Nat.reduceEqDiff, ↓reduceIte, reduceCtorEq, Nat.reduceLT, Nat.reduceLeDiff]
          (repeat' apply And.intro) <;> first | rfl | assumption | omega | (left; omega) | (simp; done) | (simp; omega) | (right; exact ⟨_, rfl, rfl, rfl, by decide, by first | omega | (simp; omega)⟩) | (simp_all; done)
        refine sA_n ?_
        refine a_seq ?_
        refine a_condb ((decide (v2 < (s1.length : Int)))) (by rfl) (fun zc1 => ?_) (fun zc1 => ?_)
        · have H := cond_t zc1 H
          refine a_skip ?_
          refine sA_n ?_
          refine a_seq ?_
          refine a_blk ?_
          refine a_seq ?_
          refine a_reg _ rfl (s := ?zs5) ?_ ?_
          rotate_left
          · simp (maxSteps := 2000000) only [EVT, stepR, evOp, St.ev, St.app, St.put, wrs, TIS, CS, Nat.reduceAdd, Nat.reduceMul, Nat.reduceEqDiff, ↓reduceIte, reduceCtorEq, Nat.reduceLT, Nat.reduceLeDiff, ↓zc1]
            (repeat' apply And.intro) <;> first | rfl | assumption | omega | (left; omega) | (simp; done) | (simp; omega) | (right; exact ⟨_, rfl, rfl, rfl, by decide, by first | omega | (simp; omega)⟩) | (simp_all; done)
          refine sA_n ?_
          refine a_seq ?_
          obtain ⟨x1, zh1, H⟩ := bind_some H
          have zg1 := idx_map zh1 (ci .i64)
          try simp only [Int.reduceToNat] at zg1
          obtain ⟨zh1a, zh1b, _⟩ := idx_some zh1
          refine a_reg _ rfl (s := ?zs6) ?_ ?_
          rotate_left
          · simp (maxSteps := 2000000) only [EVT, stepR, evOp, St.ev, St.app, St.put, wrs, evIndexAddr, evLoad, cut, evBin, binInt, TIS, CS, Nat.reduceAdd, Nat.reduceMul, Nat.reduceEqDiff, ↓reduceIte, reduceCtorEq, Nat.reduceLT, Nat.reduceLeDiff, Int.reduceToNat, Nat.reduceSub, Nat.reduceBEq, ↓zc1, zg1]
            (repeat' apply And.intro) <;> first | rfl | assumption | omega | (left; omega) | (simp; done) | (simp; omega) | (right; exact ⟨_, rfl, rfl, rfl, by decide, by first | omega | (simp; omega)⟩) | (simp_all; done)
          refine sA_n ?_
          refine a_condb ((v1 == x1)) (by rfl) (fun zc2 => ?_) (fun zc2 => ?_)
          · have H := cond_t zc2 H
            refine a_seq ?_
            refine a_reg _ rfl (s := ?zs7) ?_ ?_
            rotate_left
            · simp (maxSteps := 2000000) only [EVT, stepR, evOp, St.ev, St.app, St.put, wrs, TIS, CS, Nat.reduceAdd, Nat.reduceMul, Nat.reduceEqDiff, ↓reduceIte, reduceCtorEq, Nat.reduceLT, Nat.reduceLeDiff, ↓zc1, zg1, ↓zc2]
              (repeat' apply And.intro) <;> first | rfl | assumption | omega | (left; omega) | (simp; done) | (simp; omega) | (right; exact ⟨_, rfl, rfl, rfl, by decide, by first | omega | (simp; omega)⟩) | (simp_all; done)
            refine sA_n ?_
            refine a_ret ?_
            refine bA_r ?_
            refine sA_r ?_
            refine lA_r ?_
            refine bA_r ?_
            refine cA_r ?_
            obtain rfl := Option.some.inj H
            refine e_r2 (d := ?zd2) ?_ ?_
            rotate_left
            · simp only [EVT, resR, single, evLoad, cut, TIS, CS, Nat.reduceAdd, Nat.reduceEqDiff, ↓reduceIte, reduceCtorEq, Nat.reduceLT, Nat.reduceLeDiff, Nat.reduceSub, Nat.reduceBEq, zc1, zg1, zc2]
              (repeat' apply And.intro) <;> first | rfl | assumption | omega | (simp; done)
            exact (.int' rfl)
          · have H := cond_f zc2 H
            refine a_skip ?_
            refine bA_n ?_
            refine sA_n ?_
            refine a_reg _ rfl (s := ?zs8) ?_ ?_
            rotate_left
            · simp (maxSteps := 2000000) only [EVT, stepR, evOp, St.ev, St.app, St.put, wrs, datOf, datOf1, evBin, binInt, TIS, CS, Nat.reduceAdd, Nat.reduceMul, Nat.reduceEqDiff, ↓reduceIte, reduceCtorEq, Nat.reduceLT, Nat.reduceLeDiff, ↓zc1, zg1, ↓zc2]
              (repeat' apply And.intro) <;> first | rfl | assumption | omega | (left; omega) | (simp; done) | (simp; omega) | (right; exact ⟨_, rfl, rfl, rfl, by decide, by first | omega | (simp; omega)⟩) | (simp_all; done)
            refine lA_n ?_
            refine wk_l [] [] [(0, .list 1 (s1.map (ci .i64))), (1, .int .i64 v1), (7, .int .i64 (s1.length : Int)), (8, .int .i64 (IntKind.wrap .i64 (v2 + 1)))] (by show ([0, 1, 7, 8] : List Nat).Nodup; decide) (by show ([] : List Nat).Nodup; decide) ?_ ?_ (fun t0 => ⟨_, Nat.lt_succ_self _, (IntKind.wrap .i64 (v2 + 1)), t0, H, rfl⟩)
            · exact trivial
            · (simp only [AllT, tl_cons, tl_nil, upd_apply, List.getD_cons_zero, List.getD_cons_succ, Nat.reduceEqDiff, ↓reduceIte, and_true]); exact ⟨(.lst _ _ _ (ci_pu .i64) rfl), (.int' rfl), (.int' rfl), (.int' rfl)⟩
        · have H := cond_f zc1 H
          refine a_exit ?_
          refine sA_e ?_
          refine lA_e ?_
          refine bA_hit ?_
          refine cA_n ?_
          refine wk_l [] [] [] (by show ([] : List Nat).Nodup; decide) (by show ([] : List Nat).Nodup; decide) ?_ ?_ (fun t0 => ⟨t0, H, rfl⟩)
          · exact trivial
          · exact trivial
  · rintro s ⟨t0, H, rfl⟩
    unfold slices_Index_J1 at H
    refine a_seq ?_
    refine a_reg _ rfl (s := ?zs2) ?_ ?_
    rotate_left
    · simp (maxSteps := 2000000) only [EVT, stepR, evOp, St.ev, St.app, St.put, wrs, datOf, datOf1, TIS, CS, Nat.reduceAdd, Nat.reduceMul, Nat.reduceEqDiff, ↓reduceIte, reduceCtorEq, Nat.reduceLT, Nat.reduceLeDiff]
      (repeat' apply And.intro) <;> first | rfl | assumption | omega | (left; omega) | (simp; done) | (simp; omega) | (right; exact ⟨_, rfl, rfl, rfl, by decide, by first | omega | (simp; omega)⟩) | (simp_all; done)
    refine sA_n ?_
    refine a_ret ?_
    obtain rfl := Option.some.inj H
    refine e_r2 (d := ?zd1) ?_ ?_
    rotate_left
    · simp only [EVT, resR, single, evLoad, cut, TIS, CS, Nat.reduceAdd, Nat.reduceEqDiff, ↓reduceIte, reduceCtorEq, Nat.reduceLT, Nat.reduceLeDiff, Nat.reduceSub, Nat.reduceBEq]
      (repeat' apply And.intro) <;> first | rfl | assumption | omega | (simp; done)
    exact (.int' rfl)
def slices_Contains_f (s1 : List Int) (v1 : Int) : Option Bool :=
  (slices_Index_f s1 v1).bind fun r1 => some ((decide (0 ≤ r1)))
set_option maxHeartbeats 4000000 in
set_option maxRecDepth 20000 in
theorem slices_Contains_pc {s1 : List Int} {v1 : Int} {r : Bool} (H : slices_Contains_f s1 v1 = some r) : PC Try.prog 32 [.list 1 (s1.map (ci .i64)), .int .i64 v1] (.bool r) := by
  refine pcA_of Try.func32 (by rfl) (by decide) 9 (by rfl) [.tmp 4] (by rfl) ?_
  unfold slices_Contains_f at H
  simp only [ent]
  refine a_seq ?_
  refine a_reg _ rfl (s := ?zs1) ?_ ?_
  rotate_left
  · simp (maxSteps := 2000000) only [EVT, stepR, evOp, St.ev, St.app, St.put, wrs, datOf, datOf1, TIS, CS, Nat.reduceAdd, Nat.reduceMul, Nat.reduceEqDiff, ↓reduceIte, reduceCtorEq, Nat.reduceLT, Nat.reduceLeDiff]
    (repeat' apply And.intro) <;> first | rfl | assumption | omega | (left; omega) | (simp; done) | (simp; omega) | (right; exact ⟨_, rfl, rfl, rfl, by decide, by first | omega | (simp; omega)⟩) | (simp_all; done)
  refine sA_n ?_
  refine a_seq ?_
  obtain ⟨r1, zh1, H⟩ := bind_some H
  have zk1 := slices_Index_pc zh1
  refine a_reg _ rfl (s := ?zs2) ?_ ?_
  rotate_left
  · try simp (maxSteps := 2000000) only [EVT, stepR, evOp, St.ev, St.app, St.put, wrs, frz, datOf, datOf1, evBin, binInt, TIS, CS, Nat.reduceAdd, Nat.reduceMul, Nat.reduceEqDiff, ↓reduceIte, reduceCtorEq, Nat.reduceLT, Nat.reduceLeDiff, Nat.reduceSub, Nat.reduceBEq]
    repeat' with_reducible apply And.intro
    all_goals try ((with_reducible show CallR _ _ _ _ _ _ _); refine cR_s zk1 (.cons (.lst _ _ _ (ci_pu .i64) rfl) (.cons (.int' rfl) .nil)) (.int _ _) ?_; simp (maxSteps := 2000000) only [EVT, stepR, evOp, St.ev, St.app, St.put, wrs, frz, datOf, datOf1, evBin, binInt, TIS, CS, Nat.reduceAdd, Nat.reduceMul, Nat.reduceEqDiff, ↓reduceIte, reduceCtorEq, Nat.reduceLT, Nat.reduceLeDiff, Nat.reduceSub, Nat.reduceBEq])
    all_goals ((repeat' apply And.intro) <;> first | rfl | assumption | omega | (left; omega) | (simp; done) | (simp; omega) | (right; exact ⟨_, rfl, rfl, rfl, by decide, by first | omega | (simp; omega)⟩) | (simp_all; done))
  refine sA_n ?_
  refine a_ret ?_
  obtain rfl := Option.some.inj H
  refine e_r2 (d := ?zd1) ?_ ?_
  rotate_left
  · simp only [EVT, resR, single, evLoad, cut, TIS, CS, Nat.reduceAdd, Nat.reduceEqDiff, ↓reduceIte, reduceCtorEq, Nat.reduceLT, Nat.reduceLeDiff, Nat.reduceSub, Nat.reduceBEq]
    (repeat' apply And.intro) <;> first | rfl | assumption | omega | (simp; done)
  exact (.bool' rfl)
def ref02_Ints_J1 : Option Bool :=
  some (true)
def ref02_Ints_L1 (a1 : List Int) (b1 : List Int) : Nat → Int → Option Bool
  | 0, _ => none
  | m_ + 1, i1 => cond (decide (i1 < (a1.length : Int))) ((idx a1 i1).bind fun x1 => (idx b1 i1).bind fun x2 => cond (x1 != x2) (some (false)) (ref02_Ints_L1 a1 b1 m_ (IntKind.wrap .i64 (i1 + 1)))) (ref02_Ints_J1)
def ref02_Ints_f (a1 : List Int) (b1 : List Int) : Option Bool :=
  cond ((a1.length : Int) != (b1.length : Int)) (some (false)) (ref02_Ints_L1 a1 b1 BIG 0)
set_option maxHeartbeats 4000000 in
set_option maxRecDepth 20000 in
theorem ref02_Ints_pc {a1 : List Int} {b1 : List Int} {r : Bool} (H : ref02_Ints_f a1 b1 = some r) : PC Try.prog 17 [.list 1 (a1.map (ci .i64)), .list 1 (b1.map (ci .i64))] (.bool r) := by
  refine pcA_of Try.func17 (by rfl) (by decide) 26 (by rfl) [.tmp 4] (by rfl) ?_
  unfold ref02_Ints_f at H
  simp only [ent]
  refine a_seq ?_
  refine a_reg _ rfl (s := ?zs1) ?_ ?_
  rotate_left
  · simp (maxSteps := 2000000) only [EVT, stepR, evOp, St.ev, St.app, St.put, wrs, datOf, datOf1, TIS, CS, Nat.reduceAdd, Nat.reduceMul, Nat.reduceEqDiff, ↓reduceIte, reduceCtorEq, Nat.reduceLT, Nat.reduceLeDiff]
    (repeat' apply And.intro) <;> first | rfl | assumption | omega | (left; omega) | (simp; done) | (simp; omega) | (right; exact ⟨_, rfl, rfl, rfl, by decide, by first | omega | (simp; omega)⟩) | (simp_all; done)
  refine sA_n ?_
  refine a_seq ?_
  refine a_seq ?_
  refine a_reg _ rfl (s := ?zs2) ?_ ?_
  rotate_left
  · simp (maxSteps := 2000000) only [EVT, stepR, evOp, St.ev, St.app, St.put, wrs, evBuiltin, evBin, binInt, TIS, CS, Nat.reduceAdd, Nat.reduceMul, Nat.reduceEqDiff, ↓reduceIte, reduceCtorEq, Nat.reduceLT, Nat.reduceLeDiff, Nat.reduceSub, Nat.reduceBEq]
    (repeat' apply And.intro) <;> first | rfl | assumption | omega | (left; omega) | (simp; done) | (simp; omega) | (right; exact ⟨_, rfl, rfl, rfl, by decide, by first | omega | (simp; omega)⟩) | (simp_all; done)
  refine sA_n ?_
  refine a_condb (((a1.length : Int) != (b1.length : Int))) (by rfl) (fun zc1 => ?_) (fun zc1 => ?_)
  · have H := cond_t zc1 H
    refine a_seq ?_
    refine a_reg _ rfl (s := ?zs3) ?_ ?_
    rotate_left
    · simp (maxSteps := 2000000) only [EVT, stepR, evOp, St.ev, St.app, St.put, wrs, datOf, datOf1, TIS, CS, Nat.reduceAdd, Nat.reduceMul, Nat.reduceEqDiff, ↓reduceIte, reduceCtorEq, Nat.reduceLT, Nat.reduceLeDiff, ↓zc1]
      (repeat' apply And.intro) <;> first | rfl | assumption | omega | (left; omega) | (simp; done) | (simp; omega) | (right; exact ⟨_, rfl, rfl, rfl, by decide, by first | omega | (simp; omega)⟩) | (simp_all; done)
    refine sA_n ?_
    refine a_ret ?_
    refine sA_r ?_
    obtain rfl := Option.some.inj H
    refine e_r2 (d := ?zd1) ?_ ?_
    rotate_left
    · simp only [EVT, resR, single, evLoad, cut, TIS, CS, Nat.reduceAdd, Nat.reduceEqDiff, ↓reduceIte, reduceCtorEq, Nat.reduceLT, Nat.reduceLeDiff, Nat.reduceSub, Nat.reduceBEq, zc1]
      (repeat' apply And.intro) <;> first | rfl | assumption | omega | (simp; done)
    exact (.bool' (by first | rfl | assumption | (simp_all; done)))
  · have H := cond_f zc1 H
    refine a_skip ?_
    refine sA_n ?_
    refine a_cut (fun s => ∃ (t0 : Nat → Dat), ref02_Ints_J1 = some r ∧ s = ⟨tl t0 [], hl [], 0, 26⟩) ?_ ?_
    · refine a_seq ?_
      refine a_reg _ rfl (s := ?zs5) ?_ ?_
      rotate_left
      · simp (maxSteps := 2000000) only [EVT, stepR, evOp, St.ev, St.app, St.put, wrs, datOf, datOf1, TIS, CS, Nat.reduceAdd, Nat.reduceMul, Nat.reduceEqDiff, ↓reduceIte, reduceCtorEq, Nat.reduceLT, Nat.reduceLeDiff, ↓zc1]
        (repeat' apply And.intro) <;> first | rfl | assumption | omega | (left; omega) | (simp; done) | (simp; omega) | (right; exact ⟨_, rfl, rfl, rfl, by decide, by first | omega | (simp; omega)⟩) | (simp_all; done)
      refine sA_n ?_
      refine a_blk ?_
      refine a_loop (fun m s => ∃ (i1 : Int) (t0 : Nat → Dat), ref02_Ints_L1 a1 b1 m i1 = some r ∧ s = ⟨tl t0 [(0, .list 1 (a1.map (ci .i64))), (1, .list 1 (b1.map (ci .i64))), (5, .int .i64 i1)], hl [], 0, 26⟩) BIG ?_ ?_
      · refine wk_l [] [] [(0, .list 1 (a1.map (ci .i64))), (1, .list 1 (b1.map (ci .i64))), (5, .int .i64 0)] (by show ([0, 1, 5] : List Nat).Nodup; decide) (by show ([] : List Nat).Nodup; decide) ?_ ?_ (fun t0 => ⟨0, t0, H, rfl⟩)
        · exact trivial
        · (simp only [AllT, tl_cons, tl_nil, upd_apply, List.getD_cons_zero, List.getD_cons_succ, Nat.reduceEqDiff, ↓reduceIte, and_true]); exact ⟨(.lst _ _ _ (ci_pu .i64) rfl), (.lst _ _ _ (ci_pu .i64) rfl), (.int' rfl)⟩
      · rintro m_ref02_Ints_L1 s ⟨i1, t0, H, rfl⟩
        obtain _ | m_ref02_Ints_L1 := m_ref02_Ints_L1
        · cases (show (none : Option _) = some _ from H)
        · rw [ref02_Ints_L1] at H
          refine a_seq ?_
          refine a_seq ?_
          refine a_reg _ rfl (s := ?zs6) ?_ ?_
          rotate_left
          · simp (maxSteps := 2000000) only [EVT, stepR, evOp, St.ev, St.app, St.put, wrs, evBuiltin, evBin, binInt, TIS, CS, Nat.reduceAdd, Nat.reduceMul, Nat.reduceEqDiff, ↓reduceIte, reduceCtorEq, Nat.reduceLT, Nat.reduceLeDiff, Nat.reduceSub, Nat.reduceBEq]
            (repeat' apply And.intro) <;> first | rfl | assumption | omega | (left; omega) | (simp; done) | (simp; omega) | (right; exact ⟨_, rfl, rfl, rfl, by decide, by first | omega | (simp; omega)⟩) | (simp_all; done)
          refine sA_n ?_
          refine a_condb ((decide (i1 < (a1.length : Int)))) (by rfl) (fun zc2 => ?_) (fun zc2 => ?_)
          · have H := cond_t zc2 H
            refine a_skip ?_
            refine sA_n ?_
            refine a_seq ?_
            refine a_blk ?_
            refine a_seq ?_
            obtain ⟨x1, zh1, H⟩ := bind_some H
            have zg1 := idx_map zh1 (ci .i64)
            try simp only [Int.reduceToNat] at zg1
            obtain ⟨zh1a, zh1b, _⟩ := idx_some zh1
            obtain ⟨x2, zh2, H⟩ := bind_some H
            have zg2 := idx_map zh2 (ci .i64)
            try simp only [Int.reduceToNat] at zg2
            obtain ⟨zh2a, zh2b, _⟩ := idx_some zh2
            refine a_drW (by kernel_rfl) _ rfl (s := ?zs7) (by kernel_rfl) (by kernel_rfl) ?zs7f ?_ ?_ ?_
            rotate_left 2
            · simp (maxSteps := 2000000) only [EVT, stepW, evOp, St.ev, St.app, St.put, wrs, evIndexAddr, evLoad, cut, evBin, binInt, TIS, CS, Nat.reduceAdd, Nat.reduceMul, Nat.reduceEqDiff, ↓reduceIte, reduceCtorEq, Nat.reduceLT, Nat.reduceLeDiff, Int.reduceToNat, Nat.reduceSub, Nat.reduceBEq, ↓zc2, zg1, zg2]
              (repeat' apply And.intro) <;> first | rfl | assumption | omega | (left; omega) | (simp; done) | (simp; omega) | (right; exact ⟨_, rfl, rfl, rfl, by decide, by first | omega | (simp; omega)⟩) | (simp_all; done)
            · kernel_rfl
            refine sA_n ?_
            refine a_condb ((x1 != x2)) (by rfl) (fun zc3 => ?_) (fun zc3 => ?_)
            · have H := cond_t zc3 H
              refine a_seq ?_
              refine a_reg _ rfl (s := ?zs8) ?_ ?_
              rotate_left
              · simp (maxSteps := 2000000) only [EVT, stepR, evOp, St.ev, St.app, St.put, wrs, datOf, datOf1, TIS, CS, Nat.reduceAdd, Nat.reduceMul, Nat.reduceEqDiff, ↓reduceIte, reduceCtorEq, Nat.reduceLT, Nat.reduceLeDiff, ↓zc2, zg1, zg2, ↓zc3]
                (repeat' apply And.intro) <;> first | rfl | assumption | omega | (left; omega) | (simp; done) | (simp; omega) | (right; exact ⟨_, rfl, rfl, rfl, by decide, by first | omega | (simp; omega)⟩) | (simp_all; done)
              refine sA_n ?_
              refine a_ret ?_
              refine bA_r ?_
              refine sA_r ?_
              refine lA_r ?_
              refine bA_r ?_
              refine cA_r ?_
              obtain rfl := Option.some.inj H
              refine e_r2 (d := ?zd3) ?_ ?_
              rotate_left
              · simp only [EVT, resR, single, evLoad, cut, TIS, CS, Nat.reduceAdd, Nat.reduceEqDiff, ↓reduceIte, reduceCtorEq, Nat.reduceLT, Nat.reduceLeDiff, Nat.reduceSub, Nat.reduceBEq, zc2, zg1, zg2, zc3]
                (repeat' apply And.intro) <;> first | rfl | assumption | omega | (simp; done)
              exact (.bool' (by first | rfl | assumption | (simp_all; done)))
            · have H := cond_f zc3 H
              refine a_skip ?_
              refine bA_n ?_
              refine sA_n ?_
              refine a_reg _ rfl (s := ?zs9) ?_ ?_
              rotate_left
              · simp (maxSteps := 2000000) only [EVT, stepR, evOp, St.ev, St.app, St.put, wrs, datOf, datOf1, evBin, binInt, TIS, CS, Nat.reduceAdd, Nat.reduceMul, Nat.reduceEqDiff, ↓reduceIte, reduceCtorEq, Nat.reduceLT, Nat.reduceLeDiff, ↓zc2, zg1, zg2, ↓zc3]
                (repeat' apply And.intro) <;> first | rfl | assumption | omega | (left; omega) | (simp; done) | (simp; omega) | (right; exact ⟨_, rfl, rfl, rfl, by decide, by first | omega | (simp; omega)⟩) | (simp_all; done)
              refine lA_n ?_
              refine wk_l [] [] [(0, .list 1 (a1.map (ci .i64))), (1, .list 1 (b1.map (ci .i64))), (5, .int .i64 (IntKind.wrap .i64 (i1 + 1)))] (by show ([0, 1, 5] : List Nat).Nodup; decide) (by show ([] : List Nat).Nodup; decide) ?_ ?_ (fun t0 => ⟨_, Nat.lt_succ_self _, (IntKind.wrap .i64 (i1 + 1)), t0, H, rfl⟩)
              · exact trivial
              · (simp only [AllT, tl_cons, tl_nil, upd_apply, List.getD_cons_zero, List.getD_cons_succ, Nat.reduceEqDiff, ↓reduceIte, and_true]); exact ⟨(.lst _ _ _ (ci_pu .i64) rfl), (.lst _ _ _ (ci_pu .i64) rfl), (.int' rfl)⟩
          · have H := cond_f zc2 H
            refine a_exit ?_
            refine sA_e ?_
            refine lA_e ?_
            refine bA_hit ?_
            refine cA_n ?_
            refine wk_l [] [] [] (by show ([] : List Nat).Nodup; decide) (by show ([] : List Nat).Nodup; decide) ?_ ?_ (fun t0 => ⟨t0, H, rfl⟩)
            · exact trivial
            · exact trivial
    · rintro s ⟨t0, H, rfl⟩
      unfold ref02_Ints_J1 at H
      refine a_seq ?_
      refine a_reg _ rfl (s := ?zs4) ?_ ?_
      rotate_left
      · simp (maxSteps := 2000000) only [EVT, stepR, evOp, St.ev, St.app, St.put, wrs, datOf, datOf1, TIS, CS, Nat.reduceAdd, Nat.reduceMul, Nat.reduceEqDiff, ↓reduceIte, reduceCtorEq, Nat.reduceLT, Nat.reduceLeDiff]
        (repeat' apply And.intro) <;> first | rfl | assumption | omega | (left; omega) | (simp; done) | (simp; omega) | (right; exact ⟨_, rfl, rfl, rfl, by decide, by first | omega | (simp; omega)⟩) | (simp_all; done)
      refine sA_n ?_
      refine a_ret ?_
      obtain rfl := Option.some.inj H
      refine e_r2 (d := ?zd2) ?_ ?_
      rotate_left
      · simp only [EVT, resR, single, evLoad, cut, TIS, CS, Nat.reduceAdd, Nat.reduceEqDiff, ↓reduceIte, reduceCtorEq, Nat.reduceLT, Nat.reduceLeDiff, Nat.reduceSub, Nat.reduceBEq]
        (repeat' apply And.intro) <;> first | rfl | assumption | omega | (simp; done)
      exact (.bool' (by first | rfl | assumption | (simp_all; done)))
def ref02_Bytes_J1 : Option Bool :=
  some (true)
def ref02_Bytes_L1 (a1 : List Int) (b1 : List Int) : Nat → Int → Option Bool
  | 0, _ => none
  | m_ + 1, i1 => cond (decide (i1 < (a1.length : Int))) ((idx a1 i1).bind fun x1 => (idx b1 i1).bind fun x2 => cond (x1 != x2) (some (false)) (ref02_Bytes_L1 a1 b1 m_ (IntKind.wrap .i64 (i1 + 1)))) (ref02_Bytes_J1)
def ref02_Bytes_f (a1 : List Int) (b1 : List Int) : Option Bool :=
  cond ((a1.length : Int) != (b1.length : Int)) (some (false)) (ref02_Bytes_L1 a1 b1 BIG 0)
set_option maxHeartbeats 4000000 in
set_option maxRecDepth 20000 in
theorem ref02_Bytes_pc {a1 : List Int} {b1 : List Int} {r : Bool} (H : ref02_Bytes_f a1 b1 = some r) : PC Try.prog 28 [.list 1 (a1.map (ci .u8)), .list 1 (b1.map (ci .u8))] (.bool r) := by
  refine pcA_of Try.func28 (by rfl) (by decide) 26 (by rfl) [.tmp 4] (by rfl) ?_
  unfold ref02_Bytes_f at H
  simp only [ent]
  refine a_seq ?_
  refine a_reg _ rfl (s := ?zs1) ?_ ?_
  rotate_left
  · simp (maxSteps := 2000000) only [EVT, stepR, evOp, St.ev, St.app, St.put, wrs, datOf, datOf1, TIS, CS, Nat.reduceAdd, Nat.reduceMul, Nat.reduceEqDiff, ↓reduceIte, reduceCtorEq, Nat.reduceLT, Nat.reduceLeDiff]
    (repeat' apply And.intro) <;> first | rfl | assumption | omega | (left; omega) | (simp; done) | (simp; omega) | (right; exact ⟨_, rfl, rfl, rfl, by decide, by first | omega | (simp; omega)⟩) | (simp_all; done)
  refine sA_n ?_
  refine a_seq ?_
  refine a_seq ?_
  refine a_reg _ rfl (s := ?zs2) ?_ ?_
  rotate_left
  · simp (maxSteps := 2000000) only [EVT, stepR, evOp, St.ev, St.app, St.put, wrs, evBuiltin, evBin, binInt, TIS, CS, Nat.reduceAdd, Nat.reduceMul, Nat.reduceEqDiff, ↓reduceIte, reduceCtorEq, Nat.reduceLT, Nat.reduceLeDiff, Nat.reduceSub, Nat.reduceBEq]
    (repeat' apply And.intro) <;> first | rfl | assumption | omega | (left; omega) | (simp; done) | (simp; omega) | (right; exact ⟨_, rfl, rfl, rfl, by decide, by first | omega | (simp; omega)⟩) | (simp_all; done)
  refine sA_n ?_
  refine a_condb (((a1.length : Int) != (b1.length : Int))) (by rfl) (fun zc1 => ?_) (fun zc1 => ?_)
  · have H := cond_t zc1 H
    refine a_seq ?_
    refine a_reg _ rfl (s := ?zs3) ?_ ?_
    rotate_left
    · simp (maxSteps := 2000000) only [EVT, stepR, evOp, St.ev, St.app, St.put, wrs, datOf, datOf1, TIS, CS, Nat.reduceAdd, Nat.reduceMul, Nat.reduceEqDiff, ↓reduceIte, reduceCtorEq, Nat.reduceLT, Nat.reduceLeDiff, ↓zc1]
      (repeat' apply And.intro) <;> first | rfl | assumption | omega | (left; omega) | (simp; done) | (simp; omega) | (right; exact ⟨_, rfl, rfl, rfl, by decide, by first | omega | (simp; omega)⟩) | (simp_all; done)
    refine sA_n ?_
    refine a_ret ?_
    refine sA_r ?_
    obtain rfl := Option.some.inj H
    refine e_r2 (d := ?zd1) ?_ ?_
    rotate_left
    · simp only [EVT, resR, single, evLoad, cut, TIS, CS, Nat.reduceAdd, Nat.reduceEqDiff, ↓reduceIte, reduceCtorEq, Nat.reduceLT, Nat.reduceLeDiff, Nat.reduceSub, Nat.reduceBEq, zc1]
      (repeat' apply And.intro) <;> first | rfl | assumption | omega | (simp; done)
    exact (.bool' (by first | rfl | assumption | (simp_all; done)))
  · have H := cond_f zc1 H
    refine a_skip ?_
    refine sA_n ?_
    refine a_cut (fun s => ∃ (t0 : Nat → Dat), ref02_Bytes_J1 = some r ∧ s = ⟨tl t0 [], hl [], 0, 26⟩) ?_ ?_
    · refine a_seq ?_
      refine a_reg _ rfl (s := ?zs5) ?_ ?_
      rotate_left
      · simp (maxSteps := 2000000) only [EVT, stepR, evOp, St.ev, St.app, St.put, wrs, datOf, datOf1, TIS, CS, Nat.reduceAdd, Nat.reduceMul, Nat.reduceEqDiff, ↓reduceIte, reduceCtorEq, Nat.reduceLT, Nat.reduceLeDiff, ↓zc1]
        (repeat' apply And.intro) <;> first | rfl | assumption | omega | (left; omega) | (simp; done) | (simp; omega) | (right; exact ⟨_, rfl, rfl, rfl, by decide, by first | omega | (simp; omega)⟩) | (simp_all; done)
      refine sA_n ?_
      refine a_blk ?_
      refine a_loop (fun m s => ∃ (i1 : Int) (t0 : Nat → Dat), ref02_Bytes_L1 a1 b1 m i1 = some r ∧ s = ⟨tl t0 [(0, .list 1 (a1.map (ci .u8))), (1, .list 1 (b1.map (ci .u8))), (5, .int .i64 i1)], hl [], 0, 26⟩) BIG ?_ ?_
      · refine wk_l [] [] [(0, .list 1 (a1.map (ci .u8))), (1, .list 1 (b1.map (ci .u8))), (5, .int .i64 0)] (by show ([0, 1, 5] : List Nat).Nodup; decide) (by show ([] : List Nat).Nodup; decide) ?_ ?_ (fun t0 => ⟨0, t0, H, rfl⟩)
        · exact trivial
        · (simp only [AllT, tl_cons, tl_nil, upd_apply, List.getD_cons_zero, List.getD_cons_succ, Nat.reduceEqDiff, ↓reduceIte, and_true]); exact ⟨(.lst _ _ _ (ci_pu .u8) rfl), (.lst _ _ _ (ci_pu .u8) rfl), (.int' rfl)⟩
      · rintro m_ref02_Bytes_L1 s ⟨i1, t0, H, rfl⟩
        obtain _ | m_ref02_Bytes_L1 := m_ref02_Bytes_L1
        · cases (show (none : Option _) = some _ from H)
        · rw [ref02_Bytes_L1] at H
          refine a_seq ?_
          refine a_seq ?_
          refine a_reg _ rfl (s := ?zs6) ?_ ?_
          rotate_left
          · simp (maxSteps := 2000000) only [EVT, stepR, evOp, St.ev, St.app, St.put, wrs, evBuiltin, evBin, binInt, TIS, CS, Nat.reduceAdd, Nat.reduceMul, Nat.reduceEqDiff, ↓reduceIte, reduceCtorEq, Nat.reduceLT, Nat.reduceLeDiff, Nat.reduceSub, Nat.reduceBEq]
            (repeat' apply And.intro) <;> first | rfl | assumption | omega | (left; omega) | (simp; done) | (simp; omega) | (right; exact ⟨_, rfl, rfl, rfl, by decide, by first | omega | (simp; omega)⟩) | (simp_all; done)
          refine sA_n ?_
          refine a_condb ((decide (i1 < (a1.length : Int)))) (by rfl) (fun zc2 => ?_) (fun zc2 => ?_)
          · have H := cond_t zc2 H
            refine a_skip ?_
            refine sA_n ?_
            refine a_seq ?_
            refine a_blk ?_
            refine a_seq ?_
            obtain ⟨x1, zh1, H⟩ := bind_some H
            have zg1 := idx_map zh1 (ci .u8)
            try simp only [Int.reduceToNat] at zg1
            obtain ⟨zh1a, zh1b, _⟩ := idx_some zh1
            obtain ⟨x2, zh2, H⟩ := bind_some H
            have zg2 := idx_map zh2 (ci .u8)
            try simp only [Int.reduceToNat] at zg2
            obtain ⟨zh2a, zh2b, _⟩ := idx_some zh2
            refine a_drW (by kernel_rfl) _ rfl (s := ?zs7) (by kernel_rfl) (by kernel_rfl) ?zs7f ?_ ?_ ?_
            rotate_left 2
            · simp (maxSteps := 2000000) only [EVT, stepW, evOp, St.ev, St.app, St.put, wrs, evIndexAddr, evLoad, cut, evBin, binInt, TIS, CS, Nat.reduceAdd, Nat.reduceMul, Nat.reduceEqDiff, ↓reduceIte, reduceCtorEq, Nat.reduceLT, Nat.reduceLeDiff, Int.reduceToNat, Nat.reduceSub, Nat.reduceBEq, ↓zc2, zg1, zg2]
              (repeat' apply And.intro) <;> first | rfl | assumption | omega | (left; omega) | (simp; done) | (simp; omega) | (right; exact ⟨_, rfl, rfl, rfl, by decide, by first | omega | (simp; omega)⟩) | (simp_all; done)
            · kernel_rfl
            refine sA_n ?_
            refine a_condb ((x1 != x2)) (by rfl) (fun zc3 => ?_) (fun zc3 => ?_)
            · have H := cond_t zc3 H
              refine a_seq ?_
              refine a_reg _ rfl (s := ?zs8) ?_ ?_
              rotate_left
              · simp (maxSteps := 2000000) only [EVT, stepR, evOp, St.ev, St.app, St.put, wrs, datOf, datOf1, TIS, CS, Nat.reduceAdd, Nat.reduceMul, Nat.reduceEqDiff, ↓reduceIte, reduceCtorEq, Nat.reduceLT, Nat.reduceLeDiff, ↓zc2, zg1, zg2, ↓zc3]
                (repeat' apply And.intro) <;> first | rfl | assumption | omega | (left; omega) | (simp; done) | (simp; omega) | (right; exact ⟨_, rfl, rfl, rfl, by decide, by first | omega | (simp; omega)⟩) | (simp_all; done)
              refine sA_n ?_
              refine a_ret ?_
              refine bA_r ?_
              refine sA_r ?_
              refine lA_r ?_
              refine bA_r ?_
              refine cA_r ?_
              obtain rfl := Option.some.inj H
              refine e_r2 (d := ?zd3) ?_ ?_
              rotate_left
              · simp only [EVT, resR, single, evLoad, cut, TIS, CS, Nat.reduceAdd, Nat.reduceEqDiff, ↓reduceIte, reduceCtorEq, Nat.reduceLT, Nat.reduceLeDiff, Nat.reduceSub, Nat.reduceBEq, zc2, zg1, zg2, zc3]
                (repeat' apply And.intro) <;> first | rfl | assumption | omega | (simp; done)
              exact (.bool' (by first | rfl | assumption | (simp_all; done)))
            · have H := cond_f zc3 H
              refine a_skip ?_
              refine bA_n ?_
              refine sA_n ?_
              refine a_reg _ rfl (s := ?zs9) ?_ ?_
              rotate_left
              · simp (maxSteps := 2000000) only [EVT, stepR, evOp, St.ev, St.app, St.put, wrs, datOf, datOf1, evBin, binInt, TIS, CS, Nat.reduceAdd, Nat.reduceMul, Nat.reduceEqDiff, ↓reduceIte, reduceCtorEq, Nat.reduceLT, Nat.reduceLeDiff, ↓zc2, zg1, zg2, ↓zc3]
                (repeat' apply And.intro) <;> first | rfl | assumption | omega | (left; omega) | (simp; done) | (simp; omega) | (right; exact ⟨_, rfl, rfl, rfl, by decide, by first | omega | (simp; omega)⟩) | (simp_all; done)
              refine lA_n ?_
              refine wk_l [] [] [(0, .list 1 (a1.map (ci .u8))), (1, .list 1 (b1.map (ci .u8))), (5, .int .i64 (IntKind.wrap .i64 (i1 + 1)))] (by show ([0, 1, 5] : List Nat).Nodup; decide) (by show ([] : List Nat).Nodup; decide) ?_ ?_ (fun t0 => ⟨_, Nat.lt_succ_self _, (IntKind.wrap .i64 (i1 + 1)), t0, H, rfl⟩)
              · exact trivial
              · (simp only [AllT, tl_cons, tl_nil, upd_apply, List.getD_cons_zero, List.getD_cons_succ, Nat.reduceEqDiff, ↓reduceIte, and_true]); exact ⟨(.lst _ _ _ (ci_pu .u8) rfl), (.lst _ _ _ (ci_pu .u8) rfl), (.int' rfl)⟩
          · have H := cond_f zc2 H
            refine a_exit ?_
            refine sA_e ?_
            refine lA_e ?_
            refine bA_hit ?_
            refine cA_n ?_
            refine wk_l [] [] [] (by show ([] : List Nat).Nodup; decide) (by show ([] : List Nat).Nodup; decide) ?_ ?_ (fun t0 => ⟨t0, H, rfl⟩)
            · exact trivial
            · exact trivial
    · rintro s ⟨t0, H, rfl⟩
      unfold ref02_Bytes_J1 at H
      refine a_seq ?_
      refine a_reg _ rfl (s := ?zs4) ?_ ?_
      rotate_left
      · simp (maxSteps := 2000000) only [EVT, stepR, evOp, St.ev, St.app, St.put, wrs, datOf, datOf1, TIS, CS, Nat.reduceAdd, Nat.reduceMul, Nat.reduceEqDiff, ↓reduceIte, reduceCtorEq, Nat.reduceLT, Nat.reduceLeDiff]
        (repeat' apply And.intro) <;> first | rfl | assumption | omega | (left; omega) | (simp; done) | (simp; omega) | (right; exact ⟨_, rfl, rfl, rfl, by decide, by first | omega | (simp; omega)⟩) | (simp_all; done)
      refine sA_n ?_
      refine a_ret ?_
      obtain rfl := Option.some.inj H
      refine e_r2 (d := ?zd2) ?_ ?_
      rotate_left
      · simp only [EVT, resR, single, evLoad, cut, TIS, CS, Nat.reduceAdd, Nat.reduceEqDiff, ↓reduceIte, reduceCtorEq, Nat.reduceLT, Nat.reduceLeDiff, Nat.reduceSub, Nat.reduceBEq]
        (repeat' apply And.intro) <;> first | rfl | assumption | omega | (simp; done)
      exact (.bool' (by first | rfl | assumption | (simp_all; done)))
def ref05_Same_f (a1 : Msg) (b1 : Msg) : Option Bool :=
  cond (a1.from_ == b1.from_) (cond (a1.to_ == b1.to_) (cond (a1.kind == b1.kind) ((ref02_Ints_f a1.nums b1.nums).bind fun r1 => cond r1 ((ref02_Bytes_f a1.data b1.data).bind fun r2 => some (r2)) (some (false))) (some (false))) (some (false))) (some (false))
set_option maxHeartbeats 4000000 in
set_option maxRecDepth 20000 in
theorem ref05_Same_pc {a1 : Msg} {b1 : Msg} {r : Bool} (H : ref05_Same_f a1 b1 = some r) : PC Try.prog 16 [.agg (Msg.c a1), .agg (Msg.c b1)] (.bool r) := by
  refine pcA_of Try.func16 (by rfl) (by decide) 38 (by rfl) [.tmp 4] (by rfl) ?_
  unfold ref05_Same_f at H
  simp only [ent]
  refine a_seq ?_
  refine a_reg _ rfl (s := ?zs1) ?_ ?_
  rotate_left
  · simp (maxSteps := 2000000) only [EVT, stepR, evOp, St.ev, St.app, St.put, wrs, allOne, datOf, datOf1, TIS, CS, Nat.reduceAdd, Nat.reduceMul, Nat.reduceEqDiff, ↓reduceIte, reduceCtorEq, Nat.reduceLT, Nat.reduceLeDiff]
    (repeat' apply And.intro) <;> first | rfl | assumption | omega | (left; omega) | (simp; done) | (simp; omega) | (right; exact ⟨_, rfl, rfl, rfl, by decide, by first | omega | (simp; omega)⟩) | (simp_all; done)
  refine sA_n ?_
  refine a_seq ?_
  refine bool_split (b := (a1.from_ == b1.from_)) (fun zc1 => ?_) (fun zc1 => ?_)
  · have H := cond_t zc1 H
    refine bool_split (b := (a1.to_ == b1.to_)) (fun zc2 => ?_) (fun zc2 => ?_)
    · have H := cond_t zc2 H
      refine bool_split (b := (a1.kind == b1.kind)) (fun zc3 => ?_) (fun zc3 => ?_)
      · have H := cond_t zc3 H
        obtain ⟨r1, zh1, H⟩ := bind_some H
        have zk1 := ref02_Ints_pc zh1
        refine bool_split (b := r1) (fun zc4 => ?_) (fun zc4 => ?_)
        · have H := cond_t zc4 H
          obtain ⟨r2, zh2, H⟩ := bind_some H
          have zk2 := ref02_Bytes_pc zh2
          refine a_reg _ rfl (s := ?zs2) ?_ ?_
          rotate_left
          · try simp (maxSteps := 2000000) only [EVT, stepR, evOp, St.ev, St.app, St.put, wrs, evFieldAddr, evLoad, cut, evBin, binInt, datOf, datOf1, frz, TIS, CS, Nat.reduceAdd, Nat.reduceMul, Nat.reduceEqDiff, ↓reduceIte, reduceCtorEq, Nat.reduceLT, Nat.reduceLeDiff, Array.reduceGetElem?, Nat.reduceSub, Nat.reduceBEq, ↓zc1, ↓zc2, ↓zc3, ↓zc4]
            repeat' with_reducible apply And.intro
            all_goals try ((with_reducible show CallR _ _ _ _ _ _ _); refine cR_s zk1 (.cons (.lst _ _ _ (ci_pu .i64) rfl) (.cons (.lst _ _ _ (ci_pu .i64) rfl) .nil)) (.bool _) ?_; simp (maxSteps := 2000000) only [EVT, stepR, evOp, St.ev, St.app, St.put, wrs, evFieldAddr, evLoad, cut, evBin, binInt, datOf, datOf1, frz, TIS, CS, Nat.reduceAdd, Nat.reduceMul, Nat.reduceEqDiff, ↓reduceIte, reduceCtorEq, Nat.reduceLT, Nat.reduceLeDiff, Array.reduceGetElem?, Nat.reduceSub, Nat.reduceBEq, ↓zc1, ↓zc2, ↓zc3, ↓zc4])
            repeat' with_reducible apply And.intro
            all_goals try ((with_reducible show CallR _ _ _ _ _ _ _); refine cR_s zk2 (.cons (.lst _ _ _ (ci_pu .u8) rfl) (.cons (.lst _ _ _ (ci_pu .u8) rfl) .nil)) (.bool _) ?_; simp (maxSteps := 2000000) only [EVT, stepR, evOp, St.ev, St.app, St.put, wrs, evFieldAddr, evLoad, cut, evBin, binInt, datOf, datOf1, frz, TIS, CS, Nat.reduceAdd, Nat.reduceMul, Nat.reduceEqDiff, ↓reduceIte, reduceCtorEq, Nat.reduceLT, Nat.reduceLeDiff, Array.reduceGetElem?, Nat.reduceSub, Nat.reduceBEq, ↓zc1, ↓zc2, ↓zc3, ↓zc4])
            all_goals ((repeat' apply And.intro) <;> first | rfl | assumption | omega | (left; omega) | (simp; done) | (simp; omega) | (right; exact ⟨_, rfl, rfl, rfl, by decide, by first | omega | (simp; omega)⟩) | (simp_all; done))
          refine sA_n ?_
          refine a_ret ?_
          obtain rfl := Option.some.inj H
          refine e_r2 (d := ?zd1) ?_ ?_
          rotate_left
          · simp only [EVT, resR, single, evLoad, cut, TIS, CS, Nat.reduceAdd, Nat.reduceEqDiff, ↓reduceIte, reduceCtorEq, Nat.reduceLT, Nat.reduceLeDiff, Nat.reduceSub, Nat.reduceBEq, zc1, zc2, zc3, zc4]
            (repeat' apply And.intro) <;> first | rfl | assumption | omega | (simp; done)
          exact (.bool' rfl)
        · have H := cond_f zc4 H
          refine a_reg _ rfl (s := ?zs3) ?_ ?_
          rotate_left
          · try simp (maxSteps := 2000000) only [EVT, stepR, evOp, St.ev, St.app, St.put, wrs, evFieldAddr, evLoad, cut, evBin, binInt, datOf, datOf1, frz, TIS, CS, Nat.reduceAdd, Nat.reduceMul, Nat.reduceEqDiff, ↓reduceIte, reduceCtorEq, Nat.reduceLT, Nat.reduceLeDiff, Array.reduceGetElem?, Nat.reduceSub, Nat.reduceBEq, ↓zc1, ↓zc2, ↓zc3, ↓zc4]
            repeat' with_reducible apply And.intro
            all_goals try ((with_reducible show CallR _ _ _ _ _ _ _); refine cR_s zk1 (.cons (.lst _ _ _ (ci_pu .i64) rfl) (.cons (.lst _ _ _ (ci_pu .i64) rfl) .nil)) (.bool _) ?_; simp (maxSteps := 2000000) only [EVT, stepR, evOp, St.ev, St.app, St.put, wrs, evFieldAddr, evLoad, cut, evBin, binInt, datOf, datOf1, frz, TIS, CS, Nat.reduceAdd, Nat.reduceMul, Nat.reduceEqDiff, ↓reduceIte, reduceCtorEq, Nat.reduceLT, Nat.reduceLeDiff, Array.reduceGetElem?, Nat.reduceSub, Nat.reduceBEq, ↓zc1, ↓zc2, ↓zc3, ↓zc4])
            all_goals ((repeat' apply And.intro) <;> first | rfl | assumption | omega | (left; omega) | (simp; done) | (simp; omega) | (right; exact ⟨_, rfl, rfl, rfl, by decide, by first | omega | (simp; omega)⟩) | (simp_all; done))
          refine sA_n ?_
          refine a_ret ?_
          obtain rfl := Option.some.inj H
          refine e_r2 (d := ?zd2) ?_ ?_
          rotate_left
          · simp only [EVT, resR, single, evLoad, cut, TIS, CS, Nat.reduceAdd, Nat.reduceEqDiff, ↓reduceIte, reduceCtorEq, Nat.reduceLT, Nat.reduceLeDiff, Nat.reduceSub, Nat.reduceBEq, zc1, zc2, zc3, zc4]
            (repeat' apply And.intro) <;> first | rfl | assumption | omega | (simp; done)
          exact (.bool' (by first | rfl | assumption | (simp_all; done)))
      · have H := cond_f zc3 H
        refine a_reg _ rfl (s := ?zs4) ?_ ?_
        rotate_left
        · simp (maxSteps := 2000000) only [EVT, stepR, evOp, St.ev, St.app, St.put, wrs, evFieldAddr, evLoad, cut, evBin, binInt, datOf, datOf1, frz, TIS, CS, Nat.reduceAdd, Nat.reduceMul, Nat.reduceEqDiff, ↓reduceIte, reduceCtorEq, Nat.reduceLT, Nat.reduceLeDiff, Array.reduceGetElem?, Nat.reduceSub, Nat.reduceBEq, ↓zc1, ↓zc2, ↓zc3]
          try simp (maxSteps := 2000000) only [EVT, stepR, evOp, St.ev, St.app, St.put, wrs, evFieldAddr, evLoad, cut, evBin, binInt, datOf, datOf1, frz, TIS, CS, Nat.reduceAdd, Nat.reduceMul, Nat.reduceEqDiff, ↓reduceIte, reduceCtorEq, Nat.reduceLT, Nat.reduceLeDiff, Array.reduceGetElem?, Nat.reduceSub, Nat.reduceBEq, ↓zc1, ↓zc2, ↓zc3]
          (repeat' apply And.intro) <;> first | rfl | assumption | omega | (left; omega) | (simp; done) | (simp; omega) | (right; exact ⟨_, rfl, rfl, rfl, by decide, by first | omega | (simp; omega)⟩) | (simp_all; done)
        refine sA_n ?_
        refine a_ret ?_
        obtain rfl := Option.some.inj H
        refine e_r2 (d := ?zd3) ?_ ?_
        rotate_left
        · simp only [EVT, resR, single, evLoad, cut, TIS, CS, Nat.reduceAdd, Nat.reduceEqDiff, ↓reduceIte, reduceCtorEq, Nat.reduceLT, Nat.reduceLeDiff, Nat.reduceSub, Nat.reduceBEq, zc1, zc2, zc3]
          (repeat' apply And.intro) <;> first | rfl | assumption | omega | (simp; done)
        exact (.bool' (by first | rfl | assumption | (simp_all; done)))
    · have H := cond_f zc2 H
      refine a_reg _ rfl (s := ?zs5) ?_ ?_
      rotate_left
      · simp (maxSteps := 2000000) only [EVT, stepR, evOp, St.ev, St.app, St.put, wrs, evFieldAddr, evLoad, cut, evBin, binInt, datOf, datOf1, frz, TIS, CS, Nat.reduceAdd, Nat.reduceMul, Nat.reduceEqDiff, ↓reduceIte, reduceCtorEq, Nat.reduceLT, Nat.reduceLeDiff, Array.reduceGetElem?, Nat.reduceSub, Nat.reduceBEq, ↓zc1, ↓zc2]
        try simp (maxSteps := 2000000) only [EVT, stepR, evOp, St.ev, St.app, St.put, wrs, evFieldAddr, evLoad, cut, evBin, binInt, datOf, datOf1, frz, TIS, CS, Nat.reduceAdd, Nat.reduceMul, Nat.reduceEqDiff, ↓reduceIte, reduceCtorEq, Nat.reduceLT, Nat.reduceLeDiff, Array.reduceGetElem?, Nat.reduceSub, Nat.reduceBEq, ↓zc1, ↓zc2]
        (repeat' apply And.intro) <;> first | rfl | assumption | omega | (left; omega) | (simp; done) | (simp; omega) | (right; exact ⟨_, rfl, rfl, rfl, by decide, by first | omega | (simp; omega)⟩) | (simp_all; done)
      refine sA_n ?_
      refine a_ret ?_
      obtain rfl := Option.some.inj H
      refine e_r2 (d := ?zd4) ?_ ?_
      rotate_left
      · simp only [EVT, resR, single, evLoad, cut, TIS, CS, Nat.reduceAdd, Nat.reduceEqDiff, ↓reduceIte, reduceCtorEq, Nat.reduceLT, Nat.reduceLeDiff, Nat.reduceSub, Nat.reduceBEq, zc1, zc2]
        (repeat' apply And.intro) <;> first | rfl | assumption | omega | (simp; done)
      exact (.bool' (by first | rfl | assumption | (simp_all; done)))
  · have H := cond_f zc1 H
    refine a_reg _ rfl (s := ?zs6) ?_ ?_
    rotate_left
    · simp (maxSteps := 2000000) only [EVT, stepR, evOp, St.ev, St.app, St.put, wrs, evFieldAddr, evLoad, cut, evBin, binInt, datOf, datOf1, frz, TIS, CS, Nat.reduceAdd, Nat.reduceMul, Nat.reduceEqDiff, ↓reduceIte, reduceCtorEq, Nat.reduceLT, Nat.reduceLeDiff, Array.reduceGetElem?, Nat.reduceSub, Nat.reduceBEq, ↓zc1]
      try simp (maxSteps := 2000000) only [EVT, stepR, evOp, St.ev, St.app, St.put, wrs, evFieldAddr, evLoad, cut, evBin, binInt, datOf, datOf1, frz, TIS, CS, Nat.reduceAdd, Nat.reduceMul, Nat.reduceEqDiff, ↓reduceIte, reduceCtorEq, Nat.reduceLT, Nat.reduceLeDiff, Array.reduceGetElem?, Nat.reduceSub, Nat.reduceBEq, ↓zc1]
      (repeat' apply And.intro) <;> first | rfl | assumption | omega | (left; omega) | (simp; done) | (simp; omega) | (right; exact ⟨_, rfl, rfl, rfl, by decide, by first | omega | (simp; omega)⟩) | (simp_all; done)
    refine sA_n ?_
    refine a_ret ?_
    obtain rfl := Option.some.inj H
    refine e_r2 (d := ?zd5) ?_ ?_
    rotate_left
    · simp only [EVT, resR, single, evLoad, cut, TIS, CS, Nat.reduceAdd, Nat.reduceEqDiff, ↓reduceIte, reduceCtorEq, Nat.reduceLT, Nat.reduceLeDiff, Nat.reduceSub, Nat.reduceBEq, zc1]
      (repeat' apply And.intro) <;> first | rfl | assumption | omega | (simp; done)
    exact (.bool' (by first | rfl | assumption | (simp_all; done)))
def ref05_SameAll_J1 : Option Bool :=
  some (true)
def ref05_SameAll_L1 (a1 : List Msg) (b1 : List Msg) : Nat → Int → Option Bool
  | 0, _ => none
  | m_ + 1, i1 => cond (decide (i1 < (a1.length : Int))) ((idx a1 i1).bind fun x1 => (idx b1 i1).bind fun x2 => (ref05_Same_f x1 x2).bind fun r1 => cond (!r1) (some (false)) (ref05_SameAll_L1 a1 b1 m_ (IntKind.wrap .i64 (i1 + 1)))) (ref05_SameAll_J1)
def ref05_SameAll_f (a1 : List Msg) (b1 : List Msg) : Option Bool :=
  cond ((a1.length : Int) != (b1.length : Int)) (some (false)) (ref05_SameAll_L1 a1 b1 BIG 0)
set_option maxHeartbeats 4000000 in
set_option maxRecDepth 20000 in
theorem ref05_SameAll_pc {a1 : List Msg} {b1 : List Msg} {r : Bool} (H : ref05_SameAll_f a1 b1 = some r) : PC Try.prog 13 [.list 5 (a1.map Msg.c), .list 5 (b1.map Msg.c)] (.bool r) := by
  refine pcA_of Try.func13 (by rfl) (by decide) 27 (by rfl) [.tmp 4] (by rfl) ?_
  unfold ref05_SameAll_f at H
  simp only [ent]
  refine a_seq ?_
  refine a_reg _ rfl (s := ?zs1) ?_ ?_
  rotate_left
  · simp (maxSteps := 2000000) only [EVT, stepR, evOp, St.ev, St.app, St.put, wrs, datOf, datOf1, TIS, CS, Nat.reduceAdd, Nat.reduceMul, Nat.reduceEqDiff, ↓reduceIte, reduceCtorEq, Nat.reduceLT, Nat.reduceLeDiff]
    (repeat' apply And.intro) <;> first | rfl | assumption | omega | (left; omega) | (simp; done) | (simp; omega) | (right; exact ⟨_, rfl, rfl, rfl, by decide, by first | omega | (simp; omega)⟩) | (simp_all; done)
  refine sA_n ?_
  refine a_seq ?_
  refine a_seq ?_
  refine a_reg _ rfl (s := ?zs2) ?_ ?_
  rotate_left
  · simp (maxSteps := 2000000) only [EVT, stepR, evOp, St.ev, St.app, St.put, wrs, evBuiltin, evBin, binInt, TIS, CS, Nat.reduceAdd, Nat.reduceMul, Nat.reduceEqDiff, ↓reduceIte, reduceCtorEq, Nat.reduceLT, Nat.reduceLeDiff, Nat.reduceSub, Nat.reduceBEq]
    (repeat' apply And.intro) <;> first | rfl | assumption | omega | (left; omega) | (simp; done) | (simp; omega) | (right; exact ⟨_, rfl, rfl, rfl, by decide, by first | omega | (simp; omega)⟩) | (simp_all; done)
  refine sA_n ?_
  refine a_condb (((a1.length : Int) != (b1.length : Int))) (by rfl) (fun zc1 => ?_) (fun zc1 => ?_)
  · have H := cond_t zc1 H
    refine a_seq ?_
    refine a_reg _ rfl (s := ?zs3) ?_ ?_
    rotate_left
    · simp (maxSteps := 2000000) only [EVT, stepR, evOp, St.ev, St.app, St.put, wrs, datOf, datOf1, TIS, CS, Nat.reduceAdd, Nat.reduceMul, Nat.reduceEqDiff, ↓reduceIte, reduceCtorEq, Nat.reduceLT, Nat.reduceLeDiff, ↓zc1]
      (repeat' apply And.intro) <;> first | rfl | assumption | omega | (left; omega) | (simp; done) | (simp; omega) | (right; exact ⟨_, rfl, rfl, rfl, by decide, by first | omega | (simp; omega)⟩) | (simp_all; done)
    refine sA_n ?_
    refine a_ret ?_
    refine sA_r ?_
    obtain rfl := Option.some.inj H
    refine e_r2 (d := ?zd1) ?_ ?_
    rotate_left
    · simp only [EVT, resR, single, evLoad, cut, TIS, CS, Nat.reduceAdd, Nat.reduceEqDiff, ↓reduceIte, reduceCtorEq, Nat.reduceLT, Nat.reduceLeDiff, Nat.reduceSub, Nat.reduceBEq, zc1]
      (repeat' apply And.intro) <;> first | rfl | assumption | omega | (simp; done)
    exact (.bool' (by first | rfl | assumption | (simp_all; done)))
  · have H := cond_f zc1 H
    refine a_skip ?_
    refine sA_n ?_
    refine a_cut (fun s => ∃ (t0 : Nat → Dat), ref05_SameAll_J1 = some r ∧ s = ⟨tl t0 [], hl [], 0, 27⟩) ?_ ?_
    · refine a_seq ?_
      refine a_reg _ rfl (s := ?zs5) ?_ ?_
      rotate_left
      · simp (maxSteps := 2000000) only [EVT, stepR, evOp, St.ev, St.app, St.put, wrs, datOf, datOf1, TIS, CS, Nat.reduceAdd, Nat.reduceMul, Nat.reduceEqDiff, ↓reduceIte, reduceCtorEq, Nat.reduceLT, Nat.reduceLeDiff, ↓zc1]
        (repeat' apply And.intro) <;> first | rfl | assumption | omega | (left; omega) | (simp; done) | (simp; omega) | (right; exact ⟨_, rfl, rfl, rfl, by decide, by first | omega | (simp; omega)⟩) | (simp_all; done)
      refine sA_n ?_
      refine a_blk ?_
      refine a_loop (fun m s => ∃ (i1 : Int) (t0 : Nat → Dat), ref05_SameAll_L1 a1 b1 m i1 = some r ∧ s = ⟨tl t0 [(0, .list 5 (a1.map Msg.c)), (1, .list 5 (b1.map Msg.c)), (5, .int .i64 i1)], hl [], 0, 27⟩) BIG ?_ ?_
      · refine wk_l [] [] [(0, .list 5 (a1.map Msg.c)), (1, .list 5 (b1.map Msg.c)), (5, .int .i64 0)] (by show ([0, 1, 5] : List Nat).Nodup; decide) (by show ([] : List Nat).Nodup; decide) ?_ ?_ (fun t0 => ⟨0, t0, H, rfl⟩)
        · exact trivial
        · (simp only [AllT, tl_cons, tl_nil, upd_apply, List.getD_cons_zero, List.getD_cons_succ, Nat.reduceEqDiff, ↓reduceIte, and_true]); exact ⟨(.lst _ _ _ Msg.pu rfl), (.lst _ _ _ Msg.pu rfl), (.int' rfl)⟩
      · rintro m_ref05_SameAll_L1 s ⟨i1, t0, H, rfl⟩
        obtain _ | m_ref05_SameAll_L1 := m_ref05_SameAll_L1
        · cases (show (none : Option _) = some _ from H)
        · rw [ref05_SameAll_L1] at H
          refine a_seq ?_
          refine a_seq ?_
          refine a_reg _ rfl (s := ?zs6) ?_ ?_
          rotate_left
          · simp (maxSteps := 2000000) only [EVT, stepR, evOp, St.ev, St.app, St.put, wrs, evBuiltin, evBin, binInt, TIS, CS, Nat.reduceAdd, Nat.reduceMul, Nat.reduceEqDiff, ↓reduceIte, reduceCtorEq, Nat.reduceLT, Nat.reduceLeDiff, Nat.reduceSub, Nat.reduceBEq]
            (repeat' apply And.intro) <;> first | rfl | assumption | omega | (left; omega) | (simp; done) | (simp; omega) | (right; exact ⟨_, rfl, rfl, rfl, by decide, by first | omega | (simp; omega)⟩) | (simp_all; done)
          refine sA_n ?_
          refine a_condb ((decide (i1 < (a1.length : Int)))) (by rfl) (fun zc2 => ?_) (fun zc2 => ?_)
          · have H := cond_t zc2 H
            refine a_skip ?_
            refine sA_n ?_
            refine a_seq ?_
            refine a_blk ?_
            refine a_seq ?_
            obtain ⟨x1, zh1, H⟩ := bind_some H
            have zg1 := idx_map zh1 Msg.c
            try simp only [Int.reduceToNat] at zg1
            obtain ⟨zh1a, zh1b, _⟩ := idx_some zh1
            obtain ⟨x2, zh2, H⟩ := bind_some H
            have zg2 := idx_map zh2 Msg.c
            try simp only [Int.reduceToNat] at zg2
            obtain ⟨zh2a, zh2b, _⟩ := idx_some zh2
            obtain ⟨r1, zh3, H⟩ := bind_some H
            have zk1 := ref05_Same_pc zh3
            refine a_drW (by kernel_rfl) _ rfl (s := ?zs7) (by kernel_rfl) (by kernel_rfl) ?zs7f ?_ ?_ ?_
            rotate_left 2
            · try simp (maxSteps := 2000000) only [EVT, stepW, evOp, St.ev, St.app, St.put, wrs, evIndexAddr, evLoad, cut, frz, evUn, TIS, CS, Nat.reduceAdd, Nat.reduceMul, Nat.reduceEqDiff, ↓reduceIte, reduceCtorEq, Nat.reduceLT, Nat.reduceLeDiff, Int.reduceToNat, Nat.reduceSub, Nat.reduceBEq, ↓zc2, zg1, zg2]
              repeat' with_reducible apply And.intro
              all_goals try ((with_reducible show CallW _ _ _ _ _ _ _); refine cW_s [] zk1 (fun h2 e => (.cons (.agg' (.cons (.int' rfl) (.cons (.int' rfl) (.cons (.int' rfl) (.cons (.lst _ _ _ (ci_pu .i64) rfl) (.cons (.lst _ _ _ (ci_pu .u8) rfl) .nil)))))) (.cons (.agg' (.cons (.int' rfl) (.cons (.int' rfl) (.cons (.int' rfl) (.cons (.lst _ _ _ (ci_pu .i64) rfl) (.cons (.lst _ _ _ (ci_pu .u8) rfl) .nil)))))) .nil))) (.bool _) ?_; simp (maxSteps := 2000000) only [EVT, stepW, evOp, St.ev, St.app, St.put, wrs, evIndexAddr, evLoad, cut, frz, evUn, TIS, CS, Nat.reduceAdd, Nat.reduceMul, Nat.reduceEqDiff, ↓reduceIte, reduceCtorEq, Nat.reduceLT, Nat.reduceLeDiff, Int.reduceToNat, Nat.reduceSub, Nat.reduceBEq, ↓zc2, zg1, zg2])
              all_goals ((repeat' apply And.intro) <;> first | rfl | assumption | omega | (left; omega) | (simp; done) | (simp; omega) | (right; exact ⟨_, rfl, rfl, rfl, by decide, by first | omega | (simp; omega)⟩) | (simp_all; done))
            · kernel_rfl
            refine sA_n ?_
            refine a_condb ((!r1)) (by rfl) (fun zc3 => ?_) (fun zc3 => ?_)
            · have H := cond_t zc3 H
              refine a_seq ?_
              refine a_reg _ rfl (s := ?zs8) ?_ ?_
              rotate_left
              · simp (maxSteps := 2000000) only [EVT, stepR, evOp, St.ev, St.app, St.put, wrs, datOf, datOf1, TIS, CS, Nat.reduceAdd, Nat.reduceMul, Nat.reduceEqDiff, ↓reduceIte, reduceCtorEq, Nat.reduceLT, Nat.reduceLeDiff, ↓zc2, zg1, zg2, ↓zc3]
                (repeat' apply And.intro) <;> first | rfl | assumption | omega | (left; omega) | (simp; done) | (simp; omega) | (right; exact ⟨_, rfl, rfl, rfl, by decide, by first | omega | (simp; omega)⟩) | (simp_all; done)
              refine sA_n ?_
              refine a_ret ?_
              refine bA_r ?_
              refine sA_r ?_
              refine lA_r ?_
              refine bA_r ?_
              refine cA_r ?_
              obtain rfl := Option.some.inj H
              refine e_r2 (d := ?zd3) ?_ ?_
              rotate_left
              · simp only [EVT, resR, single, evLoad, cut, TIS, CS, Nat.reduceAdd, Nat.reduceEqDiff, ↓reduceIte, reduceCtorEq, Nat.reduceLT, Nat.reduceLeDiff, Nat.reduceSub, Nat.reduceBEq, zc2, zg1, zg2, zc3]
                (repeat' apply And.intro) <;> first | rfl | assumption | omega | (simp; done)
              exact (.bool' (by first | rfl | assumption | (simp_all; done)))
            · have H := cond_f zc3 H
              refine a_skip ?_
              refine bA_n ?_
              refine sA_n ?_
              refine a_reg _ rfl (s := ?zs9) ?_ ?_
              rotate_left
              · simp (maxSteps := 2000000) only [EVT, stepR, evOp, St.ev, St.app, St.put, wrs, datOf, datOf1, evBin, binInt, TIS, CS, Nat.reduceAdd, Nat.reduceMul, Nat.reduceEqDiff, ↓reduceIte, reduceCtorEq, Nat.reduceLT, Nat.reduceLeDiff, ↓zc2, zg1, zg2, ↓zc3]
                (repeat' apply And.intro) <;> first | rfl | assumption | omega | (left; omega) | (simp; done) | (simp; omega) | (right; exact ⟨_, rfl, rfl, rfl, by decide, by first | omega | (simp; omega)⟩) | (simp_all; done)
              refine lA_n ?_
              refine wk_l [] [] [(0, .list 5 (a1.map Msg.c)), (1, .list 5 (b1.map Msg.c)), (5, .int .i64 (IntKind.wrap .i64 (i1 + 1)))] (by show ([0, 1, 5] : List Nat).Nodup; decide) (by show ([] : List Nat).Nodup; decide) ?_ ?_ (fun t0 => ⟨_, Nat.lt_succ_self _, (IntKind.wrap .i64 (i1 + 1)), t0, H, rfl⟩)
              · exact trivial
              · (simp only [AllT, tl_cons, tl_nil, upd_apply, List.getD_cons_zero, List.getD_cons_succ, Nat.reduceEqDiff, ↓reduceIte, and_true]); exact ⟨(.lst _ _ _ Msg.pu rfl), (.lst _ _ _ Msg.pu rfl), (.int' rfl)⟩
          · have H := cond_f zc2 H
            refine a_exit ?_
            refine sA_e ?_
            refine lA_e ?_
            refine bA_hit ?_
            refine cA_n ?_
            refine wk_l [] [] [] (by show ([] : List Nat).Nodup; decide) (by show ([] : List Nat).Nodup; decide) ?_ ?_ (fun t0 => ⟨t0, H, rfl⟩)
            · exact trivial
            · exact trivial
    · rintro s ⟨t0, H, rfl⟩
      unfold ref05_SameAll_J1 at H
      refine a_seq ?_
      refine a_reg _ rfl (s := ?zs4) ?_ ?_
      rotate_left
      · simp (maxSteps := 2000000) only [EVT, stepR, evOp, St.ev, St.app, St.put, wrs, datOf, datOf1, TIS, CS, Nat.reduceAdd, Nat.reduceMul, Nat.reduceEqDiff, ↓reduceIte, reduceCtorEq, Nat.reduceLT, Nat.reduceLeDiff]
        (repeat' apply And.intro) <;> first | rfl | assumption | omega | (left; omega) | (simp; done) | (simp; omega) | (right; exact ⟨_, rfl, rfl, rfl, by decide, by first | omega | (simp; omega)⟩) | (simp_all; done)
      refine sA_n ?_
      refine a_ret ?_
      obtain rfl := Option.some.inj H
      refine e_r2 (d := ?zd2) ?_ ?_
      rotate_left
      · simp only [EVT, resR, single, evLoad, cut, TIS, CS, Nat.reduceAdd, Nat.reduceEqDiff, ↓reduceIte, reduceCtorEq, Nat.reduceLT, Nat.reduceLeDiff, Nat.reduceSub, Nat.reduceBEq]
        (repeat' apply And.intro) <;> first | rfl | assumption | omega | (simp; done)
      exact (.bool' (by first | rfl | assumption | (simp_all; done)))
def ref05_Take_J1 (w1 : List Msg) (i1 : Int) (v1 : Bool) : Option ((List Msg) × Msg × Bool) :=
  cond v1 (some (w1, (⟨0, 0, 0, [], []⟩ : Msg), false)) (chk (0 ≤ 0 ∧ 0 ≤ i1 ∧ i1 ≤ (w1.length : Int)) (chk ((((w1.take i1.toNat).drop 0).length) * 72 ≤ 140737488355328) (chk (0 ≤ (IntKind.wrap .i64 (i1 + 1)) ∧ (IntKind.wrap .i64 (i1 + 1)) ≤ (w1.length : Int) ∧ (w1.length : Int) ≤ (w1.length : Int)) (chk (((((w1.take i1.toNat).drop 0).length) + ((w1.drop (IntKind.wrap .i64 (i1 + 1)).toNat).length)) * 72 ≤ 140737488355328) ((idx w1 i1).bind fun x1 => some (((([] : List Msg) ++ ((w1.take i1.toNat).drop 0)) ++ (w1.drop (IntKind.wrap .i64 (i1 + 1)).toNat)), x1, true))))))
def ref05_Take_f (w1 : List Msg) (i1 : Int) : Option ((List Msg) × Msg × Bool) :=
  ref05_Take_J1 w1 i1 ((decide (i1 < 0)) || (decide ((w1.length : Int) ≤ i1)))
set_option maxHeartbeats 4000000 in
set_option maxRecDepth 20000 in
theorem ref05_Take_pc {w1 : List Msg} {i1 : Int} {r : (List Msg) × Msg × Bool} (H : ref05_Take_f w1 i1 = some r) : PC Try.prog 12 [.list 5 (w1.map Msg.c), .int .i64 i1] (.tup [.list 5 (r.1.map Msg.c), .agg (Msg.c r.2.1), .bool r.2.2]) := by
  refine pcA_of Try.func12 (by rfl) (by decide) 31 (by rfl) [.tmp 4, .cell 5 26, .tmp 6] (by rfl) ?_
  unfold ref05_Take_f at H
  simp only [ent]
  refine a_seq ?_
  refine a_reg _ rfl (s := ?zs1) ?_ ?_
  rotate_left
  · simp (maxSteps := 2000000) only [EVT, stepR, evOp, St.ev, St.app, St.put, wrs, datOf, datOf1, allOne, TIS, CS, Nat.reduceAdd, Nat.reduceMul, Nat.reduceEqDiff, ↓reduceIte, reduceCtorEq, Nat.reduceLT, Nat.reduceLeDiff]
    (repeat' apply And.intro) <;> first | rfl | assumption | omega | (left; omega) | (simp; done) | (simp; omega) | (right; exact ⟨_, rfl, rfl, rfl, by decide, by first | omega | (simp; omega)⟩) | (simp_all; done)
  refine sA_n ?_
  refine a_seq ?_
  refine a_cut (fun s => ∃ (v1 : Bool) (t0 : Nat → Dat), ref05_Take_J1 w1 i1 v1 = some r ∧ s = ⟨tl t0 [(0, .list 5 (w1.map Msg.c)), (1, .int .i64 i1), (5, .ptr 0 0 0 5), (14, .bool v1)], hl [⟨26, 5, false, [[.int .i64 0, .int .i64 0, .int .i64 0, .nil, .nil]]⟩], 1, 31⟩) ?_ ?_
  · refine bool_split (b := (decide (i1 < 0))) (fun zc2 => ?_) (fun zc2 => ?_)
    · rw [zc2] at H
      refine a_reg _ rfl (s := ?zs4) ?_ ?_
      rotate_left
      · simp (maxSteps := 2000000) only [EVT, stepR, evOp, St.ev, St.app, St.put, wrs, datOf, datOf1, evBin, binInt, evBuiltin, TIS, CS, Nat.reduceAdd, Nat.reduceMul, Nat.reduceEqDiff, ↓reduceIte, reduceCtorEq, Nat.reduceLT, Nat.reduceLeDiff, Array.reduceGetElem?, Nat.reduceSub, Nat.reduceBEq, ↓zc2]
        try simp (maxSteps := 2000000) only [EVT, stepR, evOp, St.ev, St.app, St.put, wrs, datOf, datOf1, evBin, binInt, evBuiltin, TIS, CS, Nat.reduceAdd, Nat.reduceMul, Nat.reduceEqDiff, ↓reduceIte, reduceCtorEq, Nat.reduceLT, Nat.reduceLeDiff, Array.reduceGetElem?, Nat.reduceSub, Nat.reduceBEq, ↓zc2]
        (repeat' apply And.intro) <;> first | rfl | assumption | omega | (left; omega) | (simp; done) | (simp; omega) | (right; exact ⟨_, rfl, rfl, rfl, by decide, by first | omega | (simp; omega)⟩) | (simp_all; done)
      refine cA_n ?_
      refine wk_l [(some 1, ⟨26, 5, false, [[.int .i64 0, .int .i64 0, .int .i64 0, .nil, .nil]]⟩)] [] [(0, .list 5 (w1.map Msg.c)), (1, .int .i64 i1), (5, .ptr 0 0 0 5), (14, .bool true)] (by show ([0, 1, 5, 14] : List Nat).Nodup; decide) (by show ([1] : List Nat).Nodup; decide) ?_ ?_ (fun t0 => ⟨true, t0, H, rfl⟩)
      · exact (allB_some (by rfl) rfl (.cons (.cons (.int' rfl) (.cons (.int' rfl) (.cons (.int' rfl) (.cons .nil' (.cons .nil' .nil))))) .nil) trivial)
      · (simp only [AllT, tl_cons, tl_nil, upd_apply, List.getD_cons_zero, List.getD_cons_succ, Nat.reduceEqDiff, ↓reduceIte, and_true]); exact ⟨(.lst _ _ _ Msg.pu rfl), (.int' rfl), (.ptr _ _ _ _ _ rfl), (.bool' (by first | rfl | assumption | (simp_all; done)))⟩
    · rw [zc2] at H
      refine a_reg _ rfl (s := ?zs5) ?_ ?_
      rotate_left
      · simp (maxSteps := 2000000) only [EVT, stepR, evOp, St.ev, St.app, St.put, wrs, datOf, datOf1, evBin, binInt, evBuiltin, TIS, CS, Nat.reduceAdd, Nat.reduceMul, Nat.reduceEqDiff, ↓reduceIte, reduceCtorEq, Nat.reduceLT, Nat.reduceLeDiff, Array.reduceGetElem?, Nat.reduceSub, Nat.reduceBEq, ↓zc2]
        try simp (maxSteps := 2000000) only [EVT, stepR, evOp, St.ev, St.app, St.put, wrs, datOf, datOf1, evBin, binInt, evBuiltin, TIS, CS, Nat.reduceAdd, Nat.reduceMul, Nat.reduceEqDiff, ↓reduceIte, reduceCtorEq, Nat.reduceLT, Nat.reduceLeDiff, Array.reduceGetElem?, Nat.reduceSub, Nat.reduceBEq, ↓zc2]
        (repeat' apply And.intro) <;> first | rfl | assumption | omega | (left; omega) | (simp; done) | (simp; omega) | (right; exact ⟨_, rfl, rfl, rfl, by decide, by first | omega | (simp; omega)⟩) | (simp_all; done)
      refine cA_n ?_
      refine wk_l [(some 1, ⟨26, 5, false, [[.int .i64 0, .int .i64 0, .int .i64 0, .nil, .nil]]⟩)] [] [(0, .list 5 (w1.map Msg.c)), (1, .int .i64 i1), (5, .ptr 0 0 0 5), (14, .bool (decide ((w1.length : Int) ≤ i1)))] (by show ([0, 1, 5, 14] : List Nat).Nodup; decide) (by show ([1] : List Nat).Nodup; decide) ?_ ?_ (fun t0 => ⟨(decide ((w1.length : Int) ≤ i1)), t0, H, rfl⟩)
      · exact (allB_some (by rfl) rfl (.cons (.cons (.int' rfl) (.cons (.int' rfl) (.cons (.int' rfl) (.cons .nil' (.cons .nil' .nil))))) .nil) trivial)
      · (simp only [AllT, tl_cons, tl_nil, upd_apply, List.getD_cons_zero, List.getD_cons_succ, Nat.reduceEqDiff, ↓reduceIte, and_true]); exact ⟨(.lst _ _ _ Msg.pu rfl), (.int' rfl), (.ptr _ _ _ _ _ rfl), (.bool' rfl)⟩
  · rintro s ⟨v1, t0, H, rfl⟩
    unfold ref05_Take_J1 at H
    refine a_condb (v1) (by rfl) (fun zc1 => ?_) (fun zc1 => ?_)
    · have H := cond_t zc1 H
      refine a_seq ?_
      refine a_reg _ rfl (s := ?zs2) ?_ ?_
      rotate_left
      · simp (maxSteps := 2000000) only [EVT, stepR, evOp, St.ev, St.app, St.put, wrs, fillD, setR, evStore, allOne, datOf, datOf1, TIS, CS, Nat.reduceAdd, Nat.reduceMul, Nat.reduceEqDiff, ↓reduceIte, reduceCtorEq, Nat.reduceLT, Nat.reduceLeDiff, Nat.reduceSub, Nat.reduceBEq, ↓zc1]
        (repeat' apply And.intro) <;> first | rfl | assumption | omega | (left; omega) | (simp; done) | (simp; omega) | (right; exact ⟨_, rfl, rfl, rfl, by decide, by first | omega | (simp; omega)⟩) | (simp_all; done)
      refine sA_n ?_
      refine a_ret ?_
      refine sA_r ?_
      obtain rfl := Option.some.inj H
      refine e_r2 (d := ?zd1) ?_ ?_
      rotate_left
      · simp only [EVT, resR, single, evLoad, cut, TIS, CS, Nat.reduceAdd, Nat.reduceEqDiff, ↓reduceIte, reduceCtorEq, Nat.reduceLT, Nat.reduceLeDiff, Nat.reduceSub, Nat.reduceBEq, zc1]
        (repeat' apply And.intro) <;> first | rfl | assumption | omega | (simp; done)
      exact (.tup' (.cons (.lst _ _ _ Msg.pu rfl) (.cons (.agg' (.cons (.int' rfl) (.cons (.int' rfl) (.cons (.int' rfl) (.cons (.nil _) (.cons (.nil _) .nil)))))) (.cons (.bool' (by first | rfl | assumption | (simp_all; done))) .nil))))
    · have H := cond_f zc1 H
      refine a_skip ?_
      refine sA_n ?_
      refine a_seq ?_
      obtain ⟨zh1, H⟩ := chk_some H
      obtain ⟨zh2, H⟩ := chk_some H
      obtain ⟨zh3, H⟩ := chk_some H
      obtain ⟨zh4, H⟩ := chk_some H
      obtain ⟨x1, zh5, H⟩ := bind_some H
      have zg1 := idx_map zh5 Msg.c
      try simp only [Int.reduceToNat] at zg1
      obtain ⟨zh5a, zh5b, _⟩ := idx_some zh5
      refine a_drW (by kernel_rfl) _ rfl (s := ?zs3) (by kernel_rfl) (by kernel_rfl) ?zs3f ?_ ?_ ?_
      rotate_left 2
      · simp (maxSteps := 2000000) only [EVT, stepW, evOp, St.ev, St.app, St.put, wrs, allOne, evSlice, sliceOk, sl_if0, sl_if1, sl_if2, sl_if3, tk_map, dp_map, evBuiltin, evAppend, isAl, elems, Option.elim, datOf, datOf1, evBin, binInt, evIndexAddr, evLoad, cut, evStore, setR, TIS, CS, Nat.reduceAdd, Nat.reduceMul, Nat.reduceEqDiff, ↓reduceIte, reduceCtorEq, Nat.reduceLT, Nat.reduceLeDiff, Int.reduceToNat, Nat.reduceSub, Nat.reduceBEq, ↓zc1, zg1]
        (repeat' apply And.intro) <;> first | rfl | assumption | omega | (left; omega) | (simp; done) | (simp; omega) | (right; exact ⟨_, rfl, rfl, rfl, by decide, by first | omega | (simp; omega)⟩) | (simp_all; done)
      · kernel_rfl
      refine sA_n ?_
      refine a_ret ?_
      obtain rfl := Option.some.inj H
      refine e_r2 (d := ?zd2) ?_ ?_
      rotate_left
      · simp only [EVT, resR, single, evLoad, cut, TIS, CS, Nat.reduceAdd, Nat.reduceEqDiff, ↓reduceIte, reduceCtorEq, Nat.reduceLT, Nat.reduceLeDiff, Nat.reduceSub, Nat.reduceBEq, zc1, zg1]
        (repeat' apply And.intro) <;> first | rfl | assumption | omega | (simp; done)
      exact (.tup' (.cons (.ownL (by rfl) (fun e => by cases e) rfl (by first | rfl | omega | (simp; done) | (simp [strBytes_len]; done) | (simp; omega) | (simp_all; done)) (.same _ _ Msg.pu (by first | rfl | (simp only [List.map_append, List.map_cons, List.map_nil, List.map_set, List.map_take, List.map_drop, List.map_replicate, List.append_assoc, List.nil_append, List.append_nil, ci_eq, cb_eq, cs_eq, cl_eq, CS,  List.nil_append]; done) | (simp [CS,  ci_eq, cb_eq, cs_eq, cl_eq]; done) | (simp [CS,  ci_eq, cb_eq, cs_eq, cl_eq]; intro hz; rw [List.take_of_length_le (by simp; omega)])))) (.cons (.agg' (.cons (.int' rfl) (.cons (.int' rfl) (.cons (.int' rfl) (.cons (.lst _ _ _ (ci_pu .i64) rfl) (.cons (.lst _ _ _ (ci_pu .u8) rfl) .nil)))))) (.cons (.bool' (by first | rfl | assumption | (simp_all; done))) .nil))))
def law05_Great_J1 : Option Bool :=
  some (false)
def law05_Great_J2 (k_law05_Great_L1 : Int → Option Bool) (i1 : Int) (v1 : Bool) : Option Bool :=
  cond v1 (some (true)) (k_law05_Great_L1 (IntKind.wrap .i64 (i1 + 1)))
def law05_Great_L1 (w1 : List Msg) : Nat → Int → Option Bool
  | 0, _ => none
  | m_ + 1, i1 => cond (decide (i1 < (w1.length : Int))) ((idx w1 i1).bind fun x1 => law05_Great_J2 (law05_Great_L1 w1 m_) i1 ((decide (20 < (x1.nums.length : Int))) || (decide (100 < (x1.data.length : Int))))) (law05_Great_J1)
def law05_Great_f (w1 : List Msg) : Option Bool :=
  cond (decide (220 < (w1.length : Int))) (some (true)) (law05_Great_L1 w1 BIG 0)
set_option maxHeartbeats 4000000 in
set_option maxRecDepth 20000 in
theorem law05_Great_pc {w1 : List Msg} {r : Bool} (H : law05_Great_f w1 = some r) : PC Try.prog 10 [.list 5 (w1.map Msg.c)] (.bool r) := by
  refine pcA_of Try.func10 (by rfl) (by decide) 29 (by rfl) [.tmp 2] (by rfl) ?_
  unfold law05_Great_f at H
  simp only [ent]
  refine a_seq ?_
  refine a_reg _ rfl (s := ?zs1) ?_ ?_
  rotate_left
  · simp (maxSteps := 2000000) only [EVT, stepR, evOp, St.ev, St.app, St.put, wrs, datOf, datOf1, TIS, CS, Nat.reduceAdd, Nat.reduceMul, Nat.reduceEqDiff, ↓reduceIte, reduceCtorEq, Nat.reduceLT, Nat.reduceLeDiff]
    (repeat' apply And.intro) <;> first | rfl | assumption | omega | (left; omega) | (simp; done) | (simp; omega) | (right; exact ⟨_, rfl, rfl, rfl, by decide, by first | omega | (simp; omega)⟩) | (simp_all; done)
  refine sA_n ?_
  refine a_seq ?_
  refine a_seq ?_
  refine a_reg _ rfl (s := ?zs2) ?_ ?_
  rotate_left
  · simp (maxSteps := 2000000) only [EVT, stepR, evOp, St.ev, St.app, St.put, wrs, evBuiltin, datOf, datOf1, evBin, binInt, TIS, CS, Nat.reduceAdd, Nat.reduceMul, Nat.reduceEqDiff, ↓reduceIte, reduceCtorEq, Nat.reduceLT, Nat.reduceLeDiff, Nat.reduceSub, Nat.reduceBEq]
    (repeat' apply And.intro) <;> first | rfl | assumption | omega | (left; omega) | (simp; done) | (simp; omega) | (right; exact ⟨_, rfl, rfl, rfl, by decide, by first | omega | (simp; omega)⟩) | (simp_all; done)
  refine sA_n ?_
  refine a_condb ((decide (220 < (w1.length : Int)))) (by rfl) (fun zc1 => ?_) (fun zc1 => ?_)
  · have H := cond_t zc1 H
    refine a_seq ?_
    refine a_reg _ rfl (s := ?zs3) ?_ ?_
    rotate_left
    · simp (maxSteps := 2000000) only [EVT, stepR, evOp, St.ev, St.app, St.put, wrs, datOf, datOf1, TIS, CS, Nat.reduceAdd, Nat.reduceMul, Nat.reduceEqDiff, ↓reduceIte, reduceCtorEq, Nat.reduceLT, Nat.reduceLeDiff, ↓zc1]
      (repeat' apply And.intro) <;> first | rfl | assumption | omega | (left; omega) | (simp; done) | (simp; omega) | (right; exact ⟨_, rfl, rfl, rfl, by decide, by first | omega | (simp; omega)⟩) | (simp_all; done)
    refine sA_n ?_
    refine a_ret ?_
    refine sA_r ?_
    obtain rfl := Option.some.inj H
    refine e_r2 (d := ?zd1) ?_ ?_
    rotate_left
    · simp only [EVT, resR, single, evLoad, cut, TIS, CS, Nat.reduceAdd, Nat.reduceEqDiff, ↓reduceIte, reduceCtorEq, Nat.reduceLT, Nat.reduceLeDiff, Nat.reduceSub, Nat.reduceBEq, zc1]
      (repeat' apply And.intro) <;> first | rfl | assumption | omega | (simp; done)
    exact (.bool' (by first | rfl | assumption | (simp_all; done)))
  · have H := cond_f zc1 H
    refine a_skip ?_
    refine sA_n ?_
    refine a_cut (fun s => ∃ (t0 : Nat → Dat), law05_Great_J1 = some r ∧ s = ⟨tl t0 [], hl [], 0, 29⟩) ?_ ?_
    · refine a_seq ?_
      refine a_reg _ rfl (s := ?zs5) ?_ ?_
      rotate_left
      · simp (maxSteps := 2000000) only [EVT, stepR, evOp, St.ev, St.app, St.put, wrs, datOf, datOf1, TIS, CS, Nat.reduceAdd, Nat.reduceMul, Nat.reduceEqDiff, ↓reduceIte, reduceCtorEq, Nat.reduceLT, Nat.reduceLeDiff, ↓zc1]
        (repeat' apply And.intro) <;> first | rfl | assumption | omega | (left; omega) | (simp; done) | (simp; omega) | (right; exact ⟨_, rfl, rfl, rfl, by decide, by first | omega | (simp; omega)⟩) | (simp_all; done)
      refine sA_n ?_
      refine a_blk ?_
      refine a_loop (fun m s => ∃ (i1 : Int) (t0 : Nat → Dat), law05_Great_L1 w1 m i1 = some r ∧ s = ⟨tl t0 [(0, .list 5 (w1.map Msg.c)), (3, .int .i64 i1)], hl [], 0, 29⟩) BIG ?_ ?_
      · refine wk_l [] [] [(0, .list 5 (w1.map Msg.c)), (3, .int .i64 0)] (by show ([0, 3] : List Nat).Nodup; decide) (by show ([] : List Nat).Nodup; decide) ?_ ?_ (fun t0 => ⟨0, t0, H, rfl⟩)
        · exact trivial
        · (simp only [AllT, tl_cons, tl_nil, upd_apply, List.getD_cons_zero, List.getD_cons_succ, Nat.reduceEqDiff, ↓reduceIte, and_true]); exact ⟨(.lst _ _ _ Msg.pu rfl), (.int' rfl)⟩
      · rintro m_law05_Great_L1 s ⟨i1, t0, H, rfl⟩
        obtain _ | m_law05_Great_L1 := m_law05_Great_L1
        · cases (show (none : Option _) = some _ from H)
        · rw [law05_Great_L1] at H
          refine a_seq ?_
          refine a_seq ?_
          refine a_reg _ rfl (s := ?zs6) ?_ ?_
          rotate_left
          · simp (maxSteps := 2000000) only [EVT, stepR, evOp, St.ev, St.app, St.put, wrs, evBuiltin, evBin, binInt, TIS, CS, Nat.reduceAdd, Nat.reduceMul, Nat.reduceEqDiff, ↓reduceIte, reduceCtorEq, Nat.reduceLT, Nat.reduceLeDiff, Nat.reduceSub, Nat.reduceBEq]
            (repeat' apply And.intro) <;> first | rfl | assumption | omega | (left; omega) | (simp; done) | (simp; omega) | (right; exact ⟨_, rfl, rfl, rfl, by decide, by first | omega | (simp; omega)⟩) | (simp_all; done)
          refine sA_n ?_
          refine a_condb ((decide (i1 < (w1.length : Int)))) (by rfl) (fun zc2 => ?_) (fun zc2 => ?_)
          · have H := cond_t zc2 H
            refine a_skip ?_
            refine sA_n ?_
            refine a_seq ?_
            refine a_blk ?_
            refine a_cut (fun s => ∃ (v1 : Bool) (t0 : Nat → Dat), law05_Great_J2 (law05_Great_L1 w1 m_law05_Great_L1) i1 v1 = some r ∧ s = ⟨tl t0 [(0, .list 5 (w1.map Msg.c)), (3, .int .i64 i1), (28, .bool v1)], hl [], 0, 29⟩) ?_ ?_
            · obtain ⟨x1, zh1, H⟩ := bind_some H
              have zg1 := idx_map zh1 Msg.c
              try simp only [Int.reduceToNat] at zg1
              obtain ⟨zh1a, zh1b, _⟩ := idx_some zh1
              refine bool_split (b := (decide (20 < (x1.nums.length : Int)))) (fun zc4 => ?_) (fun zc4 => ?_)
              · rw [zc4] at H
                refine a_reg _ rfl (s := ?zs9) ?_ ?_
                rotate_left
                · simp (maxSteps := 2000000) only [EVT, stepR, evOp, St.ev, St.app, St.put, wrs, evIndexAddr, evFieldAddr, evLoad, cut, evBuiltin, datOf, datOf1, evBin, binInt, TIS, CS, Nat.reduceAdd, Nat.reduceMul, Nat.reduceEqDiff, ↓reduceIte, reduceCtorEq, Nat.reduceLT, Nat.reduceLeDiff, Array.reduceGetElem?, Int.reduceToNat, Nat.reduceSub, Nat.reduceBEq, ↓zc2, zg1, ↓zc4]
                  try simp (maxSteps := 2000000) only [EVT, stepR, evOp, St.ev, St.app, St.put, wrs, evIndexAddr, evFieldAddr, evLoad, cut, evBuiltin, datOf, datOf1, evBin, binInt, TIS, CS, Nat.reduceAdd, Nat.reduceMul, Nat.reduceEqDiff, ↓reduceIte, reduceCtorEq, Nat.reduceLT, Nat.reduceLeDiff, Array.reduceGetElem?, Int.reduceToNat, Nat.reduceSub, Nat.reduceBEq, ↓zc2, zg1, ↓zc4]
                  (repeat' apply And.intro) <;> first | rfl | assumption | omega | (left; omega) | (simp; done) | (simp; omega) | (right; exact ⟨_, rfl, rfl, rfl, by decide, by first | omega | (simp; omega)⟩) | (simp_all; done)
                refine cA_n ?_
                refine wk_l [] [] [(0, .list 5 (w1.map Msg.c)), (3, .int .i64 i1), (28, .bool true)] (by show ([0, 3, 28] : List Nat).Nodup; decide) (by show ([] : List Nat).Nodup; decide) ?_ ?_ (fun t0 => ⟨true, t0, H, rfl⟩)
                · exact trivial
                · (simp only [AllT, tl_cons, tl_nil, upd_apply, List.getD_cons_zero, List.getD_cons_succ, Nat.reduceEqDiff, ↓reduceIte, and_true]); exact ⟨(.lst _ _ _ Msg.pu rfl), (.int' rfl), (.bool' (by first | rfl | assumption | (simp_all; done)))⟩
              · rw [zc4] at H
                refine a_reg _ rfl (s := ?zs10) ?_ ?_
                rotate_left
                · simp (maxSteps := 2000000) only [EVT, stepR, evOp, St.ev, St.app, St.put, wrs, evIndexAddr, evFieldAddr, evLoad, cut, evBuiltin, datOf, datOf1, evBin, binInt, TIS, CS, Nat.reduceAdd, Nat.reduceMul, Nat.reduceEqDiff, ↓reduceIte, reduceCtorEq, Nat.reduceLT, Nat.reduceLeDiff, Array.reduceGetElem?, Int.reduceToNat, Nat.reduceSub, Nat.reduceBEq, ↓zc2, zg1, ↓zc4]
                  try simp (maxSteps := 2000000) only [EVT, stepR, evOp, St.ev, St.app, St.put, wrs, evIndexAddr, evFieldAddr, evLoad, cut, evBuiltin, datOf, datOf1, evBin, binInt, TIS, CS, Nat.reduceAdd, Nat.reduceMul, Nat.reduceEqDiff, ↓reduceIte, reduceCtorEq, Nat.reduceLT, Nat.reduceLeDiff, Array.reduceGetElem?, Int.reduceToNat, Nat.reduceSub, Nat.reduceBEq, ↓zc2, zg1, ↓zc4]
                  (repeat' apply And.intro) <;> first | rfl | assumption | omega | (left; omega) | (simp; done) | (simp; omega) | (right; exact ⟨_, rfl, rfl, rfl, by decide, by first | omega | (simp; omega)⟩) | (simp_all; done)
                refine cA_n ?_
                refine wk_l [] [] [(0, .list 5 (w1.map Msg.c)), (3, .int .i64 i1), (28, .bool (decide (100 < (x1.data.length : Int))))] (by show ([0, 3, 28] : List Nat).Nodup; decide) (by show ([] : List Nat).Nodup; decide) ?_ ?_ (fun t0 => ⟨(decide (100 < (x1.data.length : Int))), t0, H, rfl⟩)
                · exact trivial
                · (simp only [AllT, tl_cons, tl_nil, upd_apply, List.getD_cons_zero, List.getD_cons_succ, Nat.reduceEqDiff, ↓reduceIte, and_true]); exact ⟨(.lst _ _ _ Msg.pu rfl), (.int' rfl), (.bool' rfl)⟩
            · rintro s ⟨v1, t0, H, rfl⟩
              unfold law05_Great_J2 at H
              refine a_condb (v1) (by rfl) (fun zc3 => ?_) (fun zc3 => ?_)
              · have H := cond_t zc3 H
                refine a_seq ?_
                refine a_reg _ rfl (s := ?zs7) ?_ ?_
                rotate_left
                · simp (maxSteps := 2000000) only [EVT, stepR, evOp, St.ev, St.app, St.put, wrs, datOf, datOf1, TIS, CS, Nat.reduceAdd, Nat.reduceMul, Nat.reduceEqDiff, ↓reduceIte, reduceCtorEq, Nat.reduceLT, Nat.reduceLeDiff, ↓zc3]
                  (repeat' apply And.intro) <;> first | rfl | assumption | omega | (left; omega) | (simp; done) | (simp; omega) | (right; exact ⟨_, rfl, rfl, rfl, by decide, by first | omega | (simp; omega)⟩) | (simp_all; done)
                refine sA_n ?_
                refine a_ret ?_
                refine bA_r ?_
                refine sA_r ?_
                refine lA_r ?_
                refine bA_r ?_
                refine cA_r ?_
                obtain rfl := Option.some.inj H
                refine e_r2 (d := ?zd3) ?_ ?_
                rotate_left
                · simp only [EVT, resR, single, evLoad, cut, TIS, CS, Nat.reduceAdd, Nat.reduceEqDiff, ↓reduceIte, reduceCtorEq, Nat.reduceLT, Nat.reduceLeDiff, Nat.reduceSub, Nat.reduceBEq, zc3]
                  (repeat' apply And.intro) <;> first | rfl | assumption | omega | (simp; done)
                exact (.bool' (by first | rfl | assumption | (simp_all; done)))
              · have H := cond_f zc3 H
                refine a_skip ?_
                refine bA_n ?_
                refine sA_n ?_
                refine a_reg _ rfl (s := ?zs8) ?_ ?_
                rotate_left
                · simp (maxSteps := 2000000) only [EVT, stepR, evOp, St.ev, St.app, St.put, wrs, datOf, datOf1, evBin, binInt, TIS, CS, Nat.reduceAdd, Nat.reduceMul, Nat.reduceEqDiff, ↓reduceIte, reduceCtorEq, Nat.reduceLT, Nat.reduceLeDiff, ↓zc3]
                  (repeat' apply And.intro) <;> first | rfl | assumption | omega | (left; omega) | (simp; done) | (simp; omega) | (right; exact ⟨_, rfl, rfl, rfl, by decide, by first | omega | (simp; omega)⟩) | (simp_all; done)
                refine lA_n ?_
                refine wk_l [] [] [(0, .list 5 (w1.map Msg.c)), (3, .int .i64 (IntKind.wrap .i64 (i1 + 1)))] (by show ([0, 3] : List Nat).Nodup; decide) (by show ([] : List Nat).Nodup; decide) ?_ ?_ (fun t0 => ⟨_, Nat.lt_succ_self _, (IntKind.wrap .i64 (i1 + 1)), t0, H, rfl⟩)
                · exact trivial
                · (simp only [AllT, tl_cons, tl_nil, upd_apply, List.getD_cons_zero, List.getD_cons_succ, Nat.reduceEqDiff, ↓reduceIte, and_true]); exact ⟨(.lst _ _ _ Msg.pu rfl), (.int' rfl)⟩
          · have H := cond_f zc2 H
            refine a_exit ?_
            refine sA_e ?_
            refine lA_e ?_
            refine bA_hit ?_
            refine cA_n ?_
            refine wk_l [] [] [] (by show ([] : List Nat).Nodup; decide) (by show ([] : List Nat).Nodup; decide) ?_ ?_ (fun t0 => ⟨t0, H, rfl⟩)
            · exact trivial
            · exact trivial
    · rintro s ⟨t0, H, rfl⟩
      unfold law05_Great_J1 at H
      refine a_seq ?_
      refine a_reg _ rfl (s := ?zs4) ?_ ?_
      rotate_left
      · simp (maxSteps := 2000000) only [EVT, stepR, evOp, St.ev, St.app, St.put, wrs, datOf, datOf1, TIS, CS, Nat.reduceAdd, Nat.reduceMul, Nat.reduceEqDiff, ↓reduceIte, reduceCtorEq, Nat.reduceLT, Nat.reduceLeDiff]
        (repeat' apply And.intro) <;> first | rfl | assumption | omega | (left; omega) | (simp; done) | (simp; omega) | (right; exact ⟨_, rfl, rfl, rfl, by decide, by first | omega | (simp; omega)⟩) | (simp_all; done)
      refine sA_n ?_
      refine a_ret ?_
      obtain rfl := Option.some.inj H
      refine e_r2 (d := ?zd2) ?_ ?_
      rotate_left
      · simp only [EVT, resR, single, evLoad, cut, TIS, CS, Nat.reduceAdd, Nat.reduceEqDiff, ↓reduceIte, reduceCtorEq, Nat.reduceLT, Nat.reduceLeDiff, Nat.reduceSub, Nat.reduceBEq]
        (repeat' apply And.intro) <;> first | rfl | assumption | omega | (simp; done)
      exact (.bool' (by first | rfl | assumption | (simp_all; done)))
def law05_msg_f (from1 : Int) (to1 : Int) (kind1 : Int) : Option Msg :=
  some ((⟨from1, to1, kind1, [], []⟩ : Msg))
set_option maxHeartbeats 4000000 in
set_option maxRecDepth 20000 in
theorem law05_msg_pc {from1 : Int} {to1 : Int} {kind1 : Int} {r : Msg} (H : law05_msg_f from1 to1 kind1 = some r) : PC Try.prog 24 [.int .i64 from1, .int .i64 to1, .int .i64 kind1] (.agg (Msg.c r)) := by
  refine pcA_of Try.func24 (by rfl) (by decide) 11 (by rfl) [.cell 6 26] (by rfl) ?_
  unfold law05_msg_f at H
  simp only [ent]
  refine a_seq ?_
  refine a_reg _ rfl (s := ?zs1) ?_ ?_
  rotate_left
  · simp (maxSteps := 2000000) only [EVT, stepR, evOp, St.ev, St.app, St.put, wrs, allOne, TIS, CS, Nat.reduceAdd, Nat.reduceMul, Nat.reduceEqDiff, ↓reduceIte, reduceCtorEq, Nat.reduceLT, Nat.reduceLeDiff]
    (repeat' apply And.intro) <;> first | rfl | assumption | omega | (left; omega) | (simp; done) | (simp; omega) | (right; exact ⟨_, rfl, rfl, rfl, by decide, by first | omega | (simp; omega)⟩) | (simp_all; done)
  refine sA_n ?_
  refine a_seq ?_
  refine a_reg _ rfl (s := ?zs2) ?_ ?_
  rotate_left
  · simp (maxSteps := 2000000) only [EVT, stepR, evOp, St.ev, St.app, St.put, wrs, fillD, setR, evStore, allOne, TIS, CS, Nat.reduceAdd, Nat.reduceMul, Nat.reduceEqDiff, ↓reduceIte, reduceCtorEq, Nat.reduceLT, Nat.reduceLeDiff, Nat.reduceSub, Nat.reduceBEq]
    (repeat' apply And.intro) <;> first | rfl | assumption | omega | (left; omega) | (simp; done) | (simp; omega) | (right; exact ⟨_, rfl, rfl, rfl, by decide, by first | omega | (simp; omega)⟩) | (simp_all; done)
  refine sA_n ?_
  refine a_ret ?_
  obtain rfl := Option.some.inj H
  refine e_r2 (d := ?zd1) ?_ ?_
  rotate_left
  · simp only [EVT, resR, single, evLoad, cut, TIS, CS, Nat.reduceAdd, Nat.reduceEqDiff, ↓reduceIte, reduceCtorEq, Nat.reduceLT, Nat.reduceLeDiff, Nat.reduceSub, Nat.reduceBEq]
    (repeat' apply And.intro) <;> first | rfl | assumption | omega | (simp; done)
  exact (.agg' (.cons (.int' rfl) (.cons (.int' rfl) (.cons (.int' rfl) (.cons (.nil _) (.cons (.nil _) .nil))))))
def ref05_To_J1 (out1 : List Int) : Option (List Int) :=
  some (out1)
def ref05_To_J2 (k_ref05_To_L1 : (List Int) → Int → Option (List Int)) (i1 : Int) (out3 : List Int) : Option (List Int) :=
  k_ref05_To_L1 out3 (IntKind.wrap .i64 (i1 + 1))
def ref05_To_L1 (w1 : List Msg) (who1 : Int) : Nat → (List Int) → Int → Option (List Int)
  | 0, _, _ => none
  | m_ + 1, out2, i1 => cond (decide (i1 < (w1.length : Int))) ((idx w1 i1).bind fun x1 => cond (x1.to_ == who1) (chk ((out2.length + 1) * 8 ≤ 140737488355328) (ref05_To_J2 (ref05_To_L1 w1 who1 m_) i1 (out2 ++ [i1]))) (ref05_To_J2 (ref05_To_L1 w1 who1 m_) i1 out2)) (ref05_To_J1 out2)
def ref05_To_f (w1 : List Msg) (who1 : Int) : Option (List Int) :=
  ref05_To_L1 w1 who1 BIG [] 0
set_option maxHeartbeats 4000000 in
set_option maxRecDepth 20000 in
theorem ref05_To_pc {w1 : List Msg} {who1 : Int} {r : (List Int)} (H : ref05_To_f w1 who1 = some r) : PC Try.prog 19 [.list 5 (w1.map Msg.c), .int .i64 who1] (.list 1 (r.map (ci .i64))) := by
  refine pcA_of Try.func19 (by rfl) (by decide) 25 (by rfl) [.tmp 4] (by rfl) ?_
  unfold ref05_To_f at H
  simp only [ent]
  refine a_seq ?_
  refine a_reg _ rfl (s := ?zs1) ?_ ?_
  rotate_left
  · simp (maxSteps := 2000000) only [EVT, stepR, evOp, St.ev, St.app, St.put, wrs, datOf, datOf1, TIS, CS, Nat.reduceAdd, Nat.reduceMul, Nat.reduceEqDiff, ↓reduceIte, reduceCtorEq, Nat.reduceLT, Nat.reduceLeDiff]
    (repeat' apply And.intro) <;> first | rfl | assumption | omega | (left; omega) | (simp; done) | (simp; omega) | (right; exact ⟨_, rfl, rfl, rfl, by decide, by first | omega | (simp; omega)⟩) | (simp_all; done)
  refine sA_n ?_
  refine a_seq ?_
  refine a_reg _ rfl (s := ?zs2) ?_ ?_
  rotate_left
  · simp (maxSteps := 2000000) only [EVT, stepR, evOp, St.ev, St.app, St.put, wrs, datOf, datOf1, TIS, CS, Nat.reduceAdd, Nat.reduceMul, Nat.reduceEqDiff, ↓reduceIte, reduceCtorEq, Nat.reduceLT, Nat.reduceLeDiff]
    (repeat' apply And.intro) <;> first | rfl | assumption | omega | (left; omega) | (simp; done) | (simp; omega) | (right; exact ⟨_, rfl, rfl, rfl, by decide, by first | omega | (simp; omega)⟩) | (simp_all; done)
  refine sA_n ?_
  refine a_cut (fun s => ∃ (out1 : List Int) (t0 : Nat → Dat), ref05_To_J1 out1 = some r ∧ s = ⟨tl t0 [(5, .ref 0 0 out1.length 1)], hl [⟨3, 1, false, out1.map (ci .i64)⟩], 1, 25⟩) ?_ ?_
  · refine a_seq ?_
    refine a_reg _ rfl (s := ?zs4) ?_ ?_
    rotate_left
    · simp (maxSteps := 2000000) only [EVT, stepR, evOp, St.ev, St.app, St.put, wrs, datOf, datOf1, TIS, CS, Nat.reduceAdd, Nat.reduceMul, Nat.reduceEqDiff, ↓reduceIte, reduceCtorEq, Nat.reduceLT, Nat.reduceLeDiff]
      (repeat' apply And.intro) <;> first | rfl | assumption | omega | (left; omega) | (simp; done) | (simp; omega) | (right; exact ⟨_, rfl, rfl, rfl, by decide, by first | omega | (simp; omega)⟩) | (simp_all; done)
    refine sA_n ?_
    refine a_blk ?_
    refine a_loop (fun m s => ∃ (out2 : List Int) (i1 : Int) (t0 : Nat → Dat), ref05_To_L1 w1 who1 m out2 i1 = some r ∧ s = ⟨tl t0 [(0, .list 5 (w1.map Msg.c)), (1, .int .i64 who1), (5, .ref 0 0 out2.length 1), (6, .int .i64 i1)], hl [⟨3, 1, false, out2.map (ci .i64)⟩], 1, 25⟩) BIG ?_ ?_
    · refine wk_l [(none, ⟨3, 1, false, [].map (ci .i64)⟩)] [] [(0, .list 5 (w1.map Msg.c)), (1, .int .i64 who1), (5, .ref 0 0 [].length 1), (6, .int .i64 0)] (by show ([0, 1, 5, 6] : List Nat).Nodup; decide) (by show ([] : List Nat).Nodup; decide) ?_ ?_ (fun t0 => ⟨[], 0, t0, H, rfl⟩)
      · exact (allB_none rfl trivial)
      · (simp only [AllT, tl_cons, tl_nil, upd_apply, List.getD_cons_zero, List.getD_cons_succ, Nat.reduceEqDiff, ↓reduceIte, and_true]); exact ⟨(.lst _ _ _ Msg.pu rfl), (.int' rfl), (.nilv _ _ rfl rfl), (.int' rfl)⟩
    · rintro m_ref05_To_L1 s ⟨out2, i1, t0, H, rfl⟩
      obtain _ | m_ref05_To_L1 := m_ref05_To_L1
      · cases (show (none : Option _) = some _ from H)
      · rw [ref05_To_L1] at H
        refine a_seq ?_
        refine a_seq ?_
        refine a_reg _ rfl (s := ?zs5) ?_ ?_
        rotate_left
        · simp (maxSteps := 2000000) only [EVT, stepR, evOp, St.ev, St.app, St.put, wrs, evBuiltin, evBin, binInt, TIS, CS, Nat.reduceAdd, Nat.reduceMul, Nat.reduceEqDiff, ↓reduceIte, reduceCtorEq, Nat.reduceLT, Nat.reduceLeDiff, Nat.reduceSub, Nat.reduceBEq]
          (repeat' apply And.intro) <;> first | rfl | assumption | omega | (left; omega) | (simp; done) | (simp; omega) | (right; exact ⟨_, rfl, rfl, rfl, by decide, by first | omega | (simp; omega)⟩) | (simp_all; done)
        refine sA_n ?_
        refine a_condb ((decide (i1 < (w1.length : Int)))) (by rfl) (fun zc1 => ?_) (fun zc1 => ?_)
        · have H := cond_t zc1 H
          refine a_skip ?_
          refine sA_n ?_
          refine a_cut (fun s => ∃ (out3 : List Int) (t0 : Nat → Dat), ref05_To_J2 (ref05_To_L1 w1 who1 m_ref05_To_L1) i1 out3 = some r ∧ s = ⟨tl t0 [(0, .list 5 (w1.map Msg.c)), (1, .int .i64 who1), (5, .ref 0 0 out3.length 1), (6, .int .i64 i1)], hl [⟨3, 1, false, out3.map (ci .i64)⟩], 1, 25⟩) ?_ ?_
          · refine a_blk ?_
            refine a_seq ?_
            obtain ⟨x1, zh1, H⟩ := bind_some H
            have zg1 := idx_map zh1 Msg.c
            try simp only [Int.reduceToNat] at zg1
            obtain ⟨zh1a, zh1b, _⟩ := idx_some zh1
            refine a_reg _ rfl (s := ?zs7) ?_ ?_
            rotate_left
            · simp (maxSteps := 2000000) only [EVT, stepR, evOp, St.ev, St.app, St.put, wrs, evIndexAddr, evFieldAddr, evLoad, cut, evBin, binInt, TIS, CS, Nat.reduceAdd, Nat.reduceMul, Nat.reduceEqDiff, ↓reduceIte, reduceCtorEq, Nat.reduceLT, Nat.reduceLeDiff, Int.reduceToNat, Nat.reduceSub, Nat.reduceBEq, ↓zc1, zg1]
              (repeat' apply And.intro) <;> first | rfl | assumption | omega | (left; omega) | (simp; done) | (simp; omega) | (right; exact ⟨_, rfl, rfl, rfl, by decide, by first | omega | (simp; omega)⟩) | (simp_all; done)
            refine sA_n ?_
            refine a_condb ((x1.to_ == who1)) (by rfl) (fun zc2 => ?_) (fun zc2 => ?_)
            · have H := cond_t zc2 H
              obtain ⟨zh2, H⟩ := chk_some H
              refine a_reg _ rfl (s := ?zs8) ?_ ?_
              rotate_left
              · simp (maxSteps := 2000000) only [EVT, stepR, evOp, St.ev, St.app, St.put, wrs, allOne, evBuiltin, evAppend, isAl, elems, Option.elim, TIS, CS, Nat.reduceAdd, Nat.reduceMul, Nat.reduceEqDiff, ↓reduceIte, reduceCtorEq, Nat.reduceLT, Nat.reduceLeDiff, Nat.reduceSub, Nat.reduceBEq, ↓zc1, zg1, ↓zc2]
                (repeat' apply And.intro) <;> first | rfl | assumption | omega | (left; omega) | (simp; done) | (simp; omega) | (right; exact ⟨_, rfl, rfl, rfl, by decide, by first | omega | (simp; omega)⟩) | (simp_all; done)
              refine bA_n ?_
              refine cA_n ?_
              refine wk_l [(some 92, ⟨3, 1, false, (out2 ++ [i1]).map (ci .i64)⟩)] [] [(0, .list 5 (w1.map Msg.c)), (1, .int .i64 who1), (5, .ref 0 0 (out2 ++ [i1]).length 1), (6, .int .i64 i1)] (by show ([0, 1, 5, 6] : List Nat).Nodup; decide) (by show ([92] : List Nat).Nodup; decide) ?_ ?_ (fun t0 => ⟨(out2 ++ [i1]), t0, H, rfl⟩)
              · exact (allB_some (by rfl) rfl (.same _ _ (ci_pu .i64) (by first | rfl | (simp only [List.map_append, List.map_cons, List.map_nil, List.map_set, List.map_take, List.map_drop, List.map_replicate, List.append_assoc, List.nil_append, List.append_nil, ci_eq, cb_eq, cs_eq, cl_eq, CS,  List.nil_append]; done) | (simp [CS,  ci_eq, cb_eq, cs_eq, cl_eq]; done) | (simp [CS,  ci_eq, cb_eq, cs_eq, cl_eq]; intro hz; rw [List.take_of_length_le (by simp; omega)]))) trivial)
              · (simp only [AllT, tl_cons, tl_nil, upd_apply, List.getD_cons_zero, List.getD_cons_succ, Nat.reduceEqDiff, ↓reduceIte, and_true]); exact ⟨(.lst _ _ _ Msg.pu rfl), (.int' rfl), (.refl' (by first | rfl | omega | (simp; done) | (simp [strBytes_len]; done) | (simp; omega) | (simp_all; done)) rfl), (.int' rfl)⟩
            · have H := cond_f zc2 H
              refine a_skip ?_
              refine bA_n ?_
              refine cA_n ?_
              refine wk_l [(some 0, ⟨3, 1, false, out2.map (ci .i64)⟩)] [] [(0, .list 5 (w1.map Msg.c)), (1, .int .i64 who1), (5, .ref 0 0 out2.length 1), (6, .int .i64 i1)] (by show ([0, 1, 5, 6] : List Nat).Nodup; decide) (by show ([0] : List Nat).Nodup; decide) ?_ ?_ (fun t0 => ⟨out2, t0, H, rfl⟩)
              · exact (allB_some (by rfl) rfl (.same _ _ (ci_pu .i64) (by first | rfl | (simp only [List.map_append, List.map_cons, List.map_nil, List.map_set, List.map_take, List.map_drop, List.map_replicate, List.append_assoc, List.nil_append, List.append_nil, ci_eq, cb_eq, cs_eq, cl_eq, CS,  List.nil_append]; done) | (simp [CS,  ci_eq, cb_eq, cs_eq, cl_eq]; done) | (simp [CS,  ci_eq, cb_eq, cs_eq, cl_eq]; intro hz; rw [List.take_of_length_le (by simp; omega)]))) trivial)
              · (simp only [AllT, tl_cons, tl_nil, upd_apply, List.getD_cons_zero, List.getD_cons_succ, Nat.reduceEqDiff, ↓reduceIte, and_true]); exact ⟨(.lst _ _ _ Msg.pu rfl), (.int' rfl), (.refl' (by first | rfl | omega | (simp; done) | (simp [strBytes_len]; done) | (simp; omega) | (simp_all; done)) rfl), (.int' rfl)⟩
          · rintro s ⟨out3, t0, H, rfl⟩
            unfold ref05_To_J2 at H
            refine a_reg _ rfl (s := ?zs6) ?_ ?_
            rotate_left
            · simp (maxSteps := 2000000) only [EVT, stepR, evOp, St.ev, St.app, St.put, wrs, datOf, datOf1, evBin, binInt, TIS, CS, Nat.reduceAdd, Nat.reduceMul, Nat.reduceEqDiff, ↓reduceIte, reduceCtorEq, Nat.reduceLT, Nat.reduceLeDiff]
              (repeat' apply And.intro) <;> first | rfl | assumption | omega | (left; omega) | (simp; done) | (simp; omega) | (right; exact ⟨_, rfl, rfl, rfl, by decide, by first | omega | (simp; omega)⟩) | (simp_all; done)
            refine lA_n ?_
            refine wk_l [(some 0, ⟨3, 1, false, out3.map (ci .i64)⟩)] [] [(0, .list 5 (w1.map Msg.c)), (1, .int .i64 who1), (5, .ref 0 0 out3.length 1), (6, .int .i64 (IntKind.wrap .i64 (i1 + 1)))] (by show ([0, 1, 5, 6] : List Nat).Nodup; decide) (by show ([0] : List Nat).Nodup; decide) ?_ ?_ (fun t0 => ⟨_, Nat.lt_succ_self _, out3, (IntKind.wrap .i64 (i1 + 1)), t0, H, rfl⟩)
            · exact (allB_some (by rfl) rfl (.same _ _ (ci_pu .i64) (by first | rfl | (simp only [List.map_append, List.map_cons, List.map_nil, List.map_set, List.map_take, List.map_drop, List.map_replicate, List.append_assoc, List.nil_append, List.append_nil, ci_eq, cb_eq, cs_eq, cl_eq, CS,  List.nil_append]; done) | (simp [CS,  ci_eq, cb_eq, cs_eq, cl_eq]; done) | (simp [CS,  ci_eq, cb_eq, cs_eq, cl_eq]; intro hz; rw [List.take_of_length_le (by simp; omega)]))) trivial)
            · (simp only [AllT, tl_cons, tl_nil, upd_apply, List.getD_cons_zero, List.getD_cons_succ, Nat.reduceEqDiff, ↓reduceIte, and_true]); exact ⟨(.lst _ _ _ Msg.pu rfl), (.int' rfl), (.refl' (by first | rfl | omega | (simp; done) | (simp [strBytes_len]; done) | (simp; omega) | (simp_all; done)) rfl), (.int' rfl)⟩
        · have H := cond_f zc1 H
          refine a_exit ?_
          refine sA_e ?_
          refine lA_e ?_
          refine bA_hit ?_
          refine cA_n ?_
          refine wk_l [(some 0, ⟨3, 1, false, out2.map (ci .i64)⟩)] [] [(5, .ref 0 0 out2.length 1)] (by show ([5] : List Nat).Nodup; decide) (by show ([0] : List Nat).Nodup; decide) ?_ ?_ (fun t0 => ⟨out2, t0, H, rfl⟩)
          · exact (allB_some (by rfl) rfl (.same _ _ (ci_pu .i64) (by first | rfl | (simp only [List.map_append, List.map_cons, List.map_nil, List.map_set, List.map_take, List.map_drop, List.map_replicate, List.append_assoc, List.nil_append, List.append_nil, ci_eq, cb_eq, cs_eq, cl_eq, CS,  List.nil_append]; done) | (simp [CS,  ci_eq, cb_eq, cs_eq, cl_eq]; done) | (simp [CS,  ci_eq, cb_eq, cs_eq, cl_eq]; intro hz; rw [List.take_of_length_le (by simp; omega)]))) trivial)
          · (simp only [AllT, tl_cons, tl_nil, upd_apply, List.getD_cons_zero, List.getD_cons_succ, Nat.reduceEqDiff, ↓reduceIte, and_true]); exact (.refl' (by first | rfl | omega | (simp; done) | (simp [strBytes_len]; done) | (simp; omega) | (simp_all; done)) rfl)
  · rintro s ⟨out1, t0, H, rfl⟩
    unfold ref05_To_J1 at H
    refine a_seq ?_
    refine a_reg _ rfl (s := ?zs3) ?_ ?_
    rotate_left
    · simp (maxSteps := 2000000) only [EVT, stepR, evOp, St.ev, St.app, St.put, wrs, TIS, CS, Nat.reduceAdd, Nat.reduceMul, Nat.reduceEqDiff, ↓reduceIte, reduceCtorEq, Nat.reduceLT, Nat.reduceLeDiff]
      (repeat' apply And.intro) <;> first | rfl | assumption | omega | (left; omega) | (simp; done) | (simp; omega) | (right; exact ⟨_, rfl, rfl, rfl, by decide, by first | omega | (simp; omega)⟩) | (simp_all; done)
    refine sA_n ?_
    refine a_ret ?_
    obtain rfl := Option.some.inj H
    refine e_r2 (d := ?zd1) ?_ ?_
    rotate_left
    · simp only [EVT, resR, single, evLoad, cut, TIS, CS, Nat.reduceAdd, Nat.reduceEqDiff, ↓reduceIte, reduceCtorEq, Nat.reduceLT, Nat.reduceLeDiff, Nat.reduceSub, Nat.reduceBEq]
      (repeat' apply And.intro) <;> first | rfl | assumption | omega | (simp; done)
    exact (.ownL (by rfl) (fun e => by cases e) rfl (by first | rfl | omega | (simp; done) | (simp [strBytes_len]; done) | (simp; omega) | (simp_all; done)) (.same _ _ (ci_pu .i64) (by first | rfl | (simp only [List.map_append, List.map_cons, List.map_nil, List.map_set, List.map_take, List.map_drop, List.map_replicate, List.append_assoc, List.nil_append, List.append_nil, ci_eq, cb_eq, cs_eq, cl_eq, CS,  List.nil_append]; done) | (simp [CS,  ci_eq, cb_eq, cs_eq, cl_eq]; done) | (simp [CS,  ci_eq, cb_eq, cs_eq, cl_eq]; intro hz; rw [List.take_of_length_le (by simp; omega)]))))
def ref05_In_J1 : Option Bool :=
  some (false)
def ref05_In_L1 (l1 : List Int) (x1 : Int) : Nat → Int → Option Bool
  | 0, _ => none
  | m_ + 1, i1 => cond (decide (i1 < (l1.length : Int))) ((idx l1 i1).bind fun x2 => cond (x2 == x1) (some (true)) (ref05_In_L1 l1 x1 m_ (IntKind.wrap .i64 (i1 + 1)))) (ref05_In_J1)
def ref05_In_f (l1 : List Int) (x1 : Int) : Option Bool :=
  ref05_In_L1 l1 x1 BIG 0
set_option maxHeartbeats 4000000 in
set_option maxRecDepth 20000 in
theorem ref05_In_pc {l1 : List Int} {x1 : Int} {r : Bool} (H : ref05_In_f l1 x1 = some r) : PC Try.prog 23 [.list 1 (l1.map (ci .i64)), .int .i64 x1] (.bool r) := by
  refine pcA_of Try.func23 (by rfl) (by decide) 18 (by rfl) [.tmp 4] (by rfl) ?_
  unfold ref05_In_f at H
  simp only [ent]
  refine a_seq ?_
  refine a_reg _ rfl (s := ?zs1) ?_ ?_
  rotate_left
  · simp (maxSteps := 2000000) only [EVT, stepR, evOp, St.ev, St.app, St.put, wrs, datOf, datOf1, TIS, CS, Nat.reduceAdd, Nat.reduceMul, Nat.reduceEqDiff, ↓reduceIte, reduceCtorEq, Nat.reduceLT, Nat.reduceLeDiff]
    (repeat' apply And.intro) <;> first | rfl | assumption | omega | (left; omega) | (simp; done) | (simp; omega) | (right; exact ⟨_, rfl, rfl, rfl, by decide, by first | omega | (simp; omega)⟩) | (simp_all; done)
  refine sA_n ?_
  refine a_cut (fun s => ∃ (t0 : Nat → Dat), ref05_In_J1 = some r ∧ s = ⟨tl t0 [], hl [], 0, 18⟩) ?_ ?_
  · refine a_seq ?_
    refine a_reg _ rfl (s := ?zs3) ?_ ?_
    rotate_left
    · simp (maxSteps := 2000000) only [EVT, stepR, evOp, St.ev, St.app, St.put, wrs, datOf, datOf1, TIS, CS, Nat.reduceAdd, Nat.reduceMul, Nat.reduceEqDiff, ↓reduceIte, reduceCtorEq, Nat.reduceLT, Nat.reduceLeDiff]
      (repeat' apply And.intro) <;> first | rfl | assumption | omega | (left; omega) | (simp; done) | (simp; omega) | (right; exact ⟨_, rfl, rfl, rfl, by decide, by first | omega | (simp; omega)⟩) | (simp_all; done)
    refine sA_n ?_
    refine a_blk ?_
    refine a_loop (fun m s => ∃ (i1 : Int) (t0 : Nat → Dat), ref05_In_L1 l1 x1 m i1 = some r ∧ s = ⟨tl t0 [(0, .list 1 (l1.map (ci .i64))), (1, .int .i64 x1), (5, .int .i64 i1)], hl [], 0, 18⟩) BIG ?_ ?_
    · refine wk_l [] [] [(0, .list 1 (l1.map (ci .i64))), (1, .int .i64 x1), (5, .int .i64 0)] (by show ([0, 1, 5] : List Nat).Nodup; decide) (by show ([] : List Nat).Nodup; decide) ?_ ?_ (fun t0 => ⟨0, t0, H, rfl⟩)
      · exact trivial
      · (simp only [AllT, tl_cons, tl_nil, upd_apply, List.getD_cons_zero, List.getD_cons_succ, Nat.reduceEqDiff, ↓reduceIte, and_true]); exact ⟨(.lst _ _ _ (ci_pu .i64) rfl), (.int' rfl), (.int' rfl)⟩
    · rintro m_ref05_In_L1 s ⟨i1, t0, H, rfl⟩
      obtain _ | m_ref05_In_L1 := m_ref05_In_L1
      · cases (show (none : Option _) = some _ from H)
      · rw [ref05_In_L1] at H
        refine a_seq ?_
        refine a_seq ?_
        refine a_reg _ rfl (s := ?zs4) ?_ ?_
        rotate_left
        · simp (maxSteps := 2000000) only [EVT, stepR, evOp, St.ev, St.app, St.put, wrs, evBuiltin, evBin, binInt, TIS, CS, Nat.reduceAdd, Nat.reduceMul, Nat.reduceEqDiff, ↓reduceIte, reduceCtorEq, Nat.reduceLT, Nat.reduceLeDiff, Nat.reduceSub, Nat.reduceBEq]
          (repeat' apply And.intro) <;> first | rfl | assumption | omega | (left; omega) | (simp; done) | (simp; omega) | (right; exact ⟨_, rfl, rfl, rfl, by decide, by first | omega | (simp; omega)⟩) | (simp_all; done)
        refine sA_n ?_
        refine a_condb ((decide (i1 < (l1.length : Int)))) (by rfl) (fun zc1 => ?_) (fun zc1 => ?_)
        · have H := cond_t zc1 H
          refine a_skip ?_
          refine sA_n ?_
          refine a_seq ?_
          refine a_blk ?_
          refine a_seq ?_
          obtain ⟨x2, zh1, H⟩ := bind_some H
          have zg1 := idx_map zh1 (ci .i64)
          try simp only [Int.reduceToNat] at zg1
          obtain ⟨zh1a, zh1b, _⟩ := idx_some zh1
          refine a_reg _ rfl (s := ?zs5) ?_ ?_
          rotate_left
          · simp (maxSteps := 2000000) only [EVT, stepR, evOp, St.ev, St.app, St.put, wrs, evIndexAddr, evLoad, cut, evBin, binInt, TIS, CS, Nat.reduceAdd, Nat.reduceMul, Nat.reduceEqDiff, ↓reduceIte, reduceCtorEq, Nat.reduceLT, Nat.reduceLeDiff, Int.reduceToNat, Nat.reduceSub, Nat.reduceBEq, ↓zc1, zg1]
            (repeat' apply And.intro) <;> first | rfl | assumption | omega | (left; omega) | (simp; done) | (simp; omega) | (right; exact ⟨_, rfl, rfl, rfl, by decide, by first | omega | (simp; omega)⟩) | (simp_all; done)
          refine sA_n ?_
          refine a_condb ((x2 == x1)) (by rfl) (fun zc2 => ?_) (fun zc2 => ?_)
          · have H := cond_t zc2 H
            refine a_seq ?_
            refine a_reg _ rfl (s := ?zs6) ?_ ?_
            rotate_left
            · simp (maxSteps := 2000000) only [EVT, stepR, evOp, St.ev, St.app, St.put, wrs, datOf, datOf1, TIS, CS, Nat.reduceAdd, Nat.reduceMul, Nat.reduceEqDiff, ↓reduceIte, reduceCtorEq, Nat.reduceLT, Nat.reduceLeDiff, ↓zc1, zg1, ↓zc2]
              (repeat' apply And.intro) <;> first | rfl | assumption | omega | (left; omega) | (simp; done) | (simp; omega) | (right; exact ⟨_, rfl, rfl, rfl, by decide, by first | omega | (simp; omega)⟩) | (simp_all; done)
            refine sA_n ?_
            refine a_ret ?_
            refine bA_r ?_
            refine sA_r ?_
            refine lA_r ?_
            refine bA_r ?_
            refine cA_r ?_
            obtain rfl := Option.some.inj H
            refine e_r2 (d := ?zd2) ?_ ?_
            rotate_left
            · simp only [EVT, resR, single, evLoad, cut, TIS, CS, Nat.reduceAdd, Nat.reduceEqDiff, ↓reduceIte, reduceCtorEq, Nat.reduceLT, Nat.reduceLeDiff, Nat.reduceSub, Nat.reduceBEq, zc1, zg1, zc2]
              (repeat' apply And.intro) <;> first | rfl | assumption | omega | (simp; done)
            exact (.bool' (by first | rfl | assumption | (simp_all; done)))
          · have H := cond_f zc2 H
            refine a_skip ?_
            refine bA_n ?_
            refine sA_n ?_
            refine a_reg _ rfl (s := ?zs7) ?_ ?_
            rotate_left
            · simp (maxSteps := 2000000) only [EVT, stepR, evOp, St.ev, St.app, St.put, wrs, datOf, datOf1, evBin, binInt, TIS, CS, Nat.reduceAdd, Nat.reduceMul, Nat.reduceEqDiff, ↓reduceIte, reduceCtorEq, Nat.reduceLT, Nat.reduceLeDiff, ↓zc1, zg1, ↓zc2]
              (repeat' apply And.intro) <;> first | rfl | assumption | omega | (left; omega) | (simp; done) | (simp; omega) | (right; exact ⟨_, rfl, rfl, rfl, by decide, by first | omega | (simp; omega)⟩) | (simp_all; done)
            refine lA_n ?_
            refine wk_l [] [] [(0, .list 1 (l1.map (ci .i64))), (1, .int .i64 x1), (5, .int .i64 (IntKind.wrap .i64 (i1 + 1)))] (by show ([0, 1, 5] : List Nat).Nodup; decide) (by show ([] : List Nat).Nodup; decide) ?_ ?_ (fun t0 => ⟨_, Nat.lt_succ_self _, (IntKind.wrap .i64 (i1 + 1)), t0, H, rfl⟩)
            · exact trivial
            · (simp only [AllT, tl_cons, tl_nil, upd_apply, List.getD_cons_zero, List.getD_cons_succ, Nat.reduceEqDiff, ↓reduceIte, and_true]); exact ⟨(.lst _ _ _ (ci_pu .i64) rfl), (.int' rfl), (.int' rfl)⟩
        · have H := cond_f zc1 H
          refine a_exit ?_
          refine sA_e ?_
          refine lA_e ?_
          refine bA_hit ?_
          refine cA_n ?_
          refine wk_l [] [] [] (by show ([] : List Nat).Nodup; decide) (by show ([] : List Nat).Nodup; decide) ?_ ?_ (fun t0 => ⟨t0, H, rfl⟩)
          · exact trivial
          · exact trivial
  · rintro s ⟨t0, H, rfl⟩
    unfold ref05_In_J1 at H
    refine a_seq ?_
    refine a_reg _ rfl (s := ?zs2) ?_ ?_
    rotate_left
    · simp (maxSteps := 2000000) only [EVT, stepR, evOp, St.ev, St.app, St.put, wrs, datOf, datOf1, TIS, CS, Nat.reduceAdd, Nat.reduceMul, Nat.reduceEqDiff, ↓reduceIte, reduceCtorEq, Nat.reduceLT, Nat.reduceLeDiff]
      (repeat' apply And.intro) <;> first | rfl | assumption | omega | (left; omega) | (simp; done) | (simp; omega) | (right; exact ⟨_, rfl, rfl, rfl, by decide, by first | omega | (simp; omega)⟩) | (simp_all; done)
    refine sA_n ?_
    refine a_ret ?_
    obtain rfl := Option.some.inj H
    refine e_r2 (d := ?zd1) ?_ ?_
    rotate_left
    · simp only [EVT, resR, single, evLoad, cut, TIS, CS, Nat.reduceAdd, Nat.reduceEqDiff, ↓reduceIte, reduceCtorEq, Nat.reduceLT, Nat.reduceLeDiff, Nat.reduceSub, Nat.reduceBEq]
      (repeat' apply And.intro) <;> first | rfl | assumption | omega | (simp; done)
    exact (.bool' (by first | rfl | assumption | (simp_all; done)))
def ref05_Cut_J1 (out1 : List Msg) : Option (List Msg) :=
  some (out1)
def ref05_Cut_J2 (k_ref05_Cut_L1 : (List Msg) → Int → Option (List Msg)) (i1 : Int) (out3 : List Msg) : Option (List Msg) :=
  k_ref05_Cut_L1 out3 (IntKind.wrap .i64 (i1 + 1))
def ref05_Cut_L1 (w1 : List Msg) (side1 : List Int) : Nat → (List Msg) → Int → Option (List Msg)
  | 0, _, _ => none
  | m_ + 1, out2, i1 => cond (decide (i1 < (w1.length : Int))) ((idx w1 i1).bind fun x1 => (ref05_In_f side1 x1.from_).bind fun r1 => (ref05_In_f side1 x1.to_).bind fun r2 => cond (r1 == r2) (chk ((out2.length + 1) * 72 ≤ 140737488355328) (ref05_Cut_J2 (ref05_Cut_L1 w1 side1 m_) i1 (out2 ++ [x1]))) (ref05_Cut_J2 (ref05_Cut_L1 w1 side1 m_) i1 out2)) (ref05_Cut_J1 out2)
def ref05_Cut_f (w1 : List Msg) (side1 : List Int) : Option (List Msg) :=
  ref05_Cut_L1 w1 side1 BIG [] 0
set_option maxHeartbeats 4000000 in
set_option maxRecDepth 20000 in
theorem ref05_Cut_pc {w1 : List Msg} {side1 : List Int} {r : (List Msg)} (H : ref05_Cut_f w1 side1 = some r) : PC Try.prog 21 [.list 5 (w1.map Msg.c), .list 1 (side1.map (ci .i64))] (.list 5 (r.map Msg.c)) := by
  refine pcA_of Try.func21 (by rfl) (by decide) 36 (by rfl) [.tmp 4] (by rfl) ?_
  unfold ref05_Cut_f at H
  simp only [ent]
  refine a_seq ?_
  refine a_reg _ rfl (s := ?zs1) ?_ ?_
  rotate_left
  · simp (maxSteps := 2000000) only [EVT, stepR, evOp, St.ev, St.app, St.put, wrs, datOf, datOf1, TIS, CS, Nat.reduceAdd, Nat.reduceMul, Nat.reduceEqDiff, ↓reduceIte, reduceCtorEq, Nat.reduceLT, Nat.reduceLeDiff]
    (repeat' apply And.intro) <;> first | rfl | assumption | omega | (left; omega) | (simp; done) | (simp; omega) | (right; exact ⟨_, rfl, rfl, rfl, by decide, by first | omega | (simp; omega)⟩) | (simp_all; done)
  refine sA_n ?_
  refine a_seq ?_
  refine a_reg _ rfl (s := ?zs2) ?_ ?_
  rotate_left
  · simp (maxSteps := 2000000) only [EVT, stepR, evOp, St.ev, St.app, St.put, wrs, datOf, datOf1, TIS, CS, Nat.reduceAdd, Nat.reduceMul, Nat.reduceEqDiff, ↓reduceIte, reduceCtorEq, Nat.reduceLT, Nat.reduceLeDiff]
    (repeat' apply And.intro) <;> first | rfl | assumption | omega | (left; omega) | (simp; done) | (simp; omega) | (right; exact ⟨_, rfl, rfl, rfl, by decide, by first | omega | (simp; omega)⟩) | (simp_all; done)
  refine sA_n ?_
  refine a_cut (fun s => ∃ (out1 : List Msg) (t0 : Nat → Dat), ref05_Cut_J1 out1 = some r ∧ s = ⟨tl t0 [(5, .ref 0 0 out1.length 5)], hl [⟨26, 5, false, out1.map Msg.c⟩], 1, 36⟩) ?_ ?_
  · refine a_seq ?_
    refine a_reg _ rfl (s := ?zs4) ?_ ?_
    rotate_left
    · simp (maxSteps := 2000000) only [EVT, stepR, evOp, St.ev, St.app, St.put, wrs, datOf, datOf1, TIS, CS, Nat.reduceAdd, Nat.reduceMul, Nat.reduceEqDiff, ↓reduceIte, reduceCtorEq, Nat.reduceLT, Nat.reduceLeDiff]
      (repeat' apply And.intro) <;> first | rfl | assumption | omega | (left; omega) | (simp; done) | (simp; omega) | (right; exact ⟨_, rfl, rfl, rfl, by decide, by first | omega | (simp; omega)⟩) | (simp_all; done)
    refine sA_n ?_
    refine a_blk ?_
    refine a_loop (fun m s => ∃ (out2 : List Msg) (i1 : Int) (t0 : Nat → Dat), ref05_Cut_L1 w1 side1 m out2 i1 = some r ∧ s = ⟨tl t0 [(0, .list 5 (w1.map Msg.c)), (1, .list 1 (side1.map (ci .i64))), (5, .ref 0 0 out2.length 5), (6, .int .i64 i1)], hl [⟨26, 5, false, out2.map Msg.c⟩], 1, 36⟩) BIG ?_ ?_
    · refine wk_l [(none, ⟨26, 5, false, [].map Msg.c⟩)] [] [(0, .list 5 (w1.map Msg.c)), (1, .list 1 (side1.map (ci .i64))), (5, .ref 0 0 [].length 5), (6, .int .i64 0)] (by show ([0, 1, 5, 6] : List Nat).Nodup; decide) (by show ([] : List Nat).Nodup; decide) ?_ ?_ (fun t0 => ⟨[], 0, t0, H, rfl⟩)
      · exact (allB_none rfl trivial)
      · (simp only [AllT, tl_cons, tl_nil, upd_apply, List.getD_cons_zero, List.getD_cons_succ, Nat.reduceEqDiff, ↓reduceIte, and_true]); exact ⟨(.lst _ _ _ Msg.pu rfl), (.lst _ _ _ (ci_pu .i64) rfl), (.nilv _ _ rfl rfl), (.int' rfl)⟩
    · rintro m_ref05_Cut_L1 s ⟨out2, i1, t0, H, rfl⟩
      obtain _ | m_ref05_Cut_L1 := m_ref05_Cut_L1
      · cases (show (none : Option _) = some _ from H)
      · rw [ref05_Cut_L1] at H
        refine a_seq ?_
        refine a_seq ?_
        refine a_reg _ rfl (s := ?zs5) ?_ ?_
        rotate_left
        · simp (maxSteps := 2000000) only [EVT, stepR, evOp, St.ev, St.app, St.put, wrs, evBuiltin, evBin, binInt, TIS, CS, Nat.reduceAdd, Nat.reduceMul, Nat.reduceEqDiff, ↓reduceIte, reduceCtorEq, Nat.reduceLT, Nat.reduceLeDiff, Nat.reduceSub, Nat.reduceBEq]
          (repeat' apply And.intro) <;> first | rfl | assumption | omega | (left; omega) | (simp; done) | (simp; omega) | (right; exact ⟨_, rfl, rfl, rfl, by decide, by first | omega | (simp; omega)⟩) | (simp_all; done)
        refine sA_n ?_
        refine a_condb ((decide (i1 < (w1.length : Int)))) (by rfl) (fun zc1 => ?_) (fun zc1 => ?_)
        · have H := cond_t zc1 H
          refine a_skip ?_
          refine sA_n ?_
          refine a_cut (fun s => ∃ (out3 : List Msg) (t0 : Nat → Dat), ref05_Cut_J2 (ref05_Cut_L1 w1 side1 m_ref05_Cut_L1) i1 out3 = some r ∧ s = ⟨tl t0 [(0, .list 5 (w1.map Msg.c)), (1, .list 1 (side1.map (ci .i64))), (5, .ref 0 0 out3.length 5), (6, .int .i64 i1)], hl [⟨26, 5, false, out3.map Msg.c⟩], 1, 36⟩) ?_ ?_
          · refine a_blk ?_
            refine a_seq ?_
            obtain ⟨x1, zh1, H⟩ := bind_some H
            have zg1 := idx_map zh1 Msg.c
            try simp only [Int.reduceToNat] at zg1
            obtain ⟨zh1a, zh1b, _⟩ := idx_some zh1
            obtain ⟨r1, zh2, H⟩ := bind_some H
            have zk1 := ref05_In_pc zh2
            obtain ⟨r2, zh3, H⟩ := bind_some H
            have zk2 := ref05_In_pc zh3
            refine a_drW (by kernel_rfl) _ rfl (s := ?zs7) (by kernel_rfl) (by kernel_rfl) ?zs7f ?_ ?_ ?_
            rotate_left 2
            · try simp (maxSteps := 2000000) only [EVT, stepW, evOp, St.ev, St.app, St.put, wrs, evIndexAddr, evFieldAddr, evLoad, cut, frz, evBin, binInt, TIS, CS, Nat.reduceAdd, Nat.reduceMul, Nat.reduceEqDiff, ↓reduceIte, reduceCtorEq, Nat.reduceLT, Nat.reduceLeDiff, Int.reduceToNat, Nat.reduceSub, Nat.reduceBEq, ↓zc1, zg1]
              repeat' with_reducible apply And.intro
              all_goals try ((with_reducible show CallW _ _ _ _ _ _ _); refine cW_s [] zk1 (fun h2 e => (.cons (.lst _ _ _ (ci_pu .i64) rfl) (.cons (.int' rfl) .nil))) (.bool _) ?_; simp (maxSteps := 2000000) only [EVT, stepW, evOp, St.ev, St.app, St.put, wrs, evIndexAddr, evFieldAddr, evLoad, cut, frz, evBin, binInt, TIS, CS, Nat.reduceAdd, Nat.reduceMul, Nat.reduceEqDiff, ↓reduceIte, reduceCtorEq, Nat.reduceLT, Nat.reduceLeDiff, Int.reduceToNat, Nat.reduceSub, Nat.reduceBEq, ↓zc1, zg1])
              repeat' with_reducible apply And.intro
              all_goals try ((with_reducible show CallW _ _ _ _ _ _ _); refine cW_s [] zk2 (fun h2 e => (.cons (.lst _ _ _ (ci_pu .i64) rfl) (.cons (.int' rfl) .nil))) (.bool _) ?_; simp (maxSteps := 2000000) only [EVT, stepW, evOp, St.ev, St.app, St.put, wrs, evIndexAddr, evFieldAddr, evLoad, cut, frz, evBin, binInt, TIS, CS, Nat.reduceAdd, Nat.reduceMul, Nat.reduceEqDiff, ↓reduceIte, reduceCtorEq, Nat.reduceLT, Nat.reduceLeDiff, Int.reduceToNat, Nat.reduceSub, Nat.reduceBEq, ↓zc1, zg1])
              all_goals ((repeat' apply And.intro) <;> first | rfl | assumption | omega | (left; omega) | (simp; done) | (simp; omega) | (right; exact ⟨_, rfl, rfl, rfl, by decide, by first | omega | (simp; omega)⟩) | (simp_all; done))
            · kernel_rfl
            refine sA_n ?_
            refine a_condb ((r1 == r2)) (by rfl) (fun zc2 => ?_) (fun zc2 => ?_)
            · have H := cond_t zc2 H
              obtain ⟨zh4, H⟩ := chk_some H
              refine a_reg _ rfl (s := ?zs8) ?_ ?_
              rotate_left
              · simp (maxSteps := 2000000) only [EVT, stepR, evOp, St.ev, St.app, St.put, wrs, evIndexAddr, evLoad, cut, allOne, evBuiltin, evAppend, isAl, elems, Option.elim, TIS, CS, Nat.reduceAdd, Nat.reduceMul, Nat.reduceEqDiff, ↓reduceIte, reduceCtorEq, Nat.reduceLT, Nat.reduceLeDiff, Int.reduceToNat, Nat.reduceSub, Nat.reduceBEq, ↓zc1, zg1, ↓zc2]
                (repeat' apply And.intro) <;> first | rfl | assumption | omega | (left; omega) | (simp; done) | (simp; omega) | (right; exact ⟨_, rfl, rfl, rfl, by decide, by first | omega | (simp; omega)⟩) | (simp_all; done)
              refine bA_n ?_
              refine cA_n ?_
              refine wk_l [(some 159, ⟨26, 5, false, (out2 ++ [x1]).map Msg.c⟩)] [] [(0, .list 5 (w1.map Msg.c)), (1, .list 1 (side1.map (ci .i64))), (5, .ref 0 0 (out2 ++ [x1]).length 5), (6, .int .i64 i1)] (by show ([0, 1, 5, 6] : List Nat).Nodup; decide) (by show ([159] : List Nat).Nodup; decide) ?_ ?_ (fun t0 => ⟨(out2 ++ [x1]), t0, H, rfl⟩)
              · exact (allB_some (by rfl) rfl (.same _ _ Msg.pu (by first | rfl | (simp only [List.map_append, List.map_cons, List.map_nil, List.map_set, List.map_take, List.map_drop, List.map_replicate, List.append_assoc, List.nil_append, List.append_nil, ci_eq, cb_eq, cs_eq, cl_eq, CS,  List.nil_append]; done) | (simp [CS,  ci_eq, cb_eq, cs_eq, cl_eq]; done) | (simp [CS,  ci_eq, cb_eq, cs_eq, cl_eq]; intro hz; rw [List.take_of_length_le (by simp; omega)]))) trivial)
              · (simp only [AllT, tl_cons, tl_nil, upd_apply, List.getD_cons_zero, List.getD_cons_succ, Nat.reduceEqDiff, ↓reduceIte, and_true]); exact ⟨(.lst _ _ _ Msg.pu rfl), (.lst _ _ _ (ci_pu .i64) rfl), (.refl' (by first | rfl | omega | (simp; done) | (simp [strBytes_len]; done) | (simp; omega) | (simp_all; done)) rfl), (.int' rfl)⟩
            · have H := cond_f zc2 H
              refine a_skip ?_
              refine bA_n ?_
              refine cA_n ?_
              refine wk_l [(some 0, ⟨26, 5, false, out2.map Msg.c⟩)] [] [(0, .list 5 (w1.map Msg.c)), (1, .list 1 (side1.map (ci .i64))), (5, .ref 0 0 out2.length 5), (6, .int .i64 i1)] (by show ([0, 1, 5, 6] : List Nat).Nodup; decide) (by show ([0] : List Nat).Nodup; decide) ?_ ?_ (fun t0 => ⟨out2, t0, H, rfl⟩)
              · exact (allB_some (by rfl) rfl (.same _ _ Msg.pu (by first | rfl | (simp only [List.map_append, List.map_cons, List.map_nil, List.map_set, List.map_take, List.map_drop, List.map_replicate, List.append_assoc, List.nil_append, List.append_nil, ci_eq, cb_eq, cs_eq, cl_eq, CS,  List.nil_append]; done) | (simp [CS,  ci_eq, cb_eq, cs_eq, cl_eq]; done) | (simp [CS,  ci_eq, cb_eq, cs_eq, cl_eq]; intro hz; rw [List.take_of_length_le (by simp; omega)]))) trivial)
              · (simp only [AllT, tl_cons, tl_nil, upd_apply, List.getD_cons_zero, List.getD_cons_succ, Nat.reduceEqDiff, ↓reduceIte, and_true]); exact ⟨(.lst _ _ _ Msg.pu rfl), (.lst _ _ _ (ci_pu .i64) rfl), (.refl' (by first | rfl | omega | (simp; done) | (simp [strBytes_len]; done) | (simp; omega) | (simp_all; done)) rfl), (.int' rfl)⟩
          · rintro s ⟨out3, t0, H, rfl⟩
            unfold ref05_Cut_J2 at H
            refine a_reg _ rfl (s := ?zs6) ?_ ?_
            rotate_left
            · simp (maxSteps := 2000000) only [EVT, stepR, evOp, St.ev, St.app, St.put, wrs, datOf, datOf1, evBin, binInt, TIS, CS, Nat.reduceAdd, Nat.reduceMul, Nat.reduceEqDiff, ↓reduceIte, reduceCtorEq, Nat.reduceLT, Nat.reduceLeDiff]
              (repeat' apply And.intro) <;> first | rfl | assumption | omega | (left; omega) | (simp; done) | (simp; omega) | (right; exact ⟨_, rfl, rfl, rfl, by decide, by first | omega | (simp; omega)⟩) | (simp_all; done)
            refine lA_n ?_
            refine wk_l [(some 0, ⟨26, 5, false, out3.map Msg.c⟩)] [] [(0, .list 5 (w1.map Msg.c)), (1, .list 1 (side1.map (ci .i64))), (5, .ref 0 0 out3.length 5), (6, .int .i64 (IntKind.wrap .i64 (i1 + 1)))] (by show ([0, 1, 5, 6] : List Nat).Nodup; decide) (by show ([0] : List Nat).Nodup; decide) ?_ ?_ (fun t0 => ⟨_, Nat.lt_succ_self _, out3, (IntKind.wrap .i64 (i1 + 1)), t0, H, rfl⟩)
            · exact (allB_some (by rfl) rfl (.same _ _ Msg.pu (by first | rfl | (simp only [List.map_append, List.map_cons, List.map_nil, List.map_set, List.map_take, List.map_drop, List.map_replicate, List.append_assoc, List.nil_append, List.append_nil, ci_eq, cb_eq, cs_eq, cl_eq, CS,  List.nil_append]; done) | (simp [CS,  ci_eq, cb_eq, cs_eq, cl_eq]; done) | (simp [CS,  ci_eq, cb_eq, cs_eq, cl_eq]; intro hz; rw [List.take_of_length_le (by simp; omega)]))) trivial)
            · (simp only [AllT, tl_cons, tl_nil, upd_apply, List.getD_cons_zero, List.getD_cons_succ, Nat.reduceEqDiff, ↓reduceIte, and_true]); exact ⟨(.lst _ _ _ Msg.pu rfl), (.lst _ _ _ (ci_pu .i64) rfl), (.refl' (by first | rfl | omega | (simp; done) | (simp [strBytes_len]; done) | (simp; omega) | (simp_all; done)) rfl), (.int' rfl)⟩
        · have H := cond_f zc1 H
          refine a_exit ?_
          refine sA_e ?_
          refine lA_e ?_
          refine bA_hit ?_
          refine cA_n ?_
          refine wk_l [(some 0, ⟨26, 5, false, out2.map Msg.c⟩)] [] [(5, .ref 0 0 out2.length 5)] (by show ([5] : List Nat).Nodup; decide) (by show ([0] : List Nat).Nodup; decide) ?_ ?_ (fun t0 => ⟨out2, t0, H, rfl⟩)
          · exact (allB_some (by rfl) rfl (.same _ _ Msg.pu (by first | rfl | (simp only [List.map_append, List.map_cons, List.map_nil, List.map_set, List.map_take, List.map_drop, List.map_replicate, List.append_assoc, List.nil_append, List.append_nil, ci_eq, cb_eq, cs_eq, cl_eq, CS,  List.nil_append]; done) | (simp [CS,  ci_eq, cb_eq, cs_eq, cl_eq]; done) | (simp [CS,  ci_eq, cb_eq, cs_eq, cl_eq]; intro hz; rw [List.take_of_length_le (by simp; omega)]))) trivial)
          · (simp only [AllT, tl_cons, tl_nil, upd_apply, List.getD_cons_zero, List.getD_cons_succ, Nat.reduceEqDiff, ↓reduceIte, and_true]); exact (.refl' (by first | rfl | omega | (simp; done) | (simp [strBytes_len]; done) | (simp; omega) | (simp_all; done)) rfl)
  · rintro s ⟨out1, t0, H, rfl⟩
    unfold ref05_Cut_J1 at H
    refine a_seq ?_
    refine a_reg _ rfl (s := ?zs3) ?_ ?_
    rotate_left
    · simp (maxSteps := 2000000) only [EVT, stepR, evOp, St.ev, St.app, St.put, wrs, TIS, CS, Nat.reduceAdd, Nat.reduceMul, Nat.reduceEqDiff, ↓reduceIte, reduceCtorEq, Nat.reduceLT, Nat.reduceLeDiff]
      (repeat' apply And.intro) <;> first | rfl | assumption | omega | (left; omega) | (simp; done) | (simp; omega) | (right; exact ⟨_, rfl, rfl, rfl, by decide, by first | omega | (simp; omega)⟩) | (simp_all; done)
    refine sA_n ?_
    refine a_ret ?_
    obtain rfl := Option.some.inj H
    refine e_r2 (d := ?zd1) ?_ ?_
    rotate_left
    · simp only [EVT, resR, single, evLoad, cut, TIS, CS, Nat.reduceAdd, Nat.reduceEqDiff, ↓reduceIte, reduceCtorEq, Nat.reduceLT, Nat.reduceLeDiff, Nat.reduceSub, Nat.reduceBEq]
      (repeat' apply And.intro) <;> first | rfl | assumption | omega | (simp; done)
    exact (.ownL (by rfl) (fun e => by cases e) rfl (by first | rfl | omega | (simp; done) | (simp [strBytes_len]; done) | (simp; omega) | (simp_all; done)) (.same _ _ Msg.pu (by first | rfl | (simp only [List.map_append, List.map_cons, List.map_nil, List.map_set, List.map_take, List.map_drop, List.map_replicate, List.append_assoc, List.nil_append, List.append_nil, ci_eq, cb_eq, cs_eq, cl_eq, CS,  List.nil_append]; done) | (simp [CS,  ci_eq, cb_eq, cs_eq, cl_eq]; done) | (simp [CS,  ci_eq, cb_eq, cs_eq, cl_eq]; intro hz; rw [List.take_of_length_le (by simp; omega)]))))
def ref05_Many_J1 (n1 : Int) : Option Int :=
  some (n1)
def ref05_Many_J2 (k_ref05_Many_L1 : Int → Int → Option Int) (i1 : Int) (n3 : Int) : Option Int :=
  k_ref05_Many_L1 n3 (IntKind.wrap .i64 (i1 + 1))
def ref05_Many_L1 (w1 : List Msg) (m1 : Msg) : Nat → Int → Int → Option Int
  | 0, _, _ => none
  | m_ + 1, n2, i1 => cond (decide (i1 < (w1.length : Int))) ((idx w1 i1).bind fun x1 => (ref05_Same_f x1 m1).bind fun r1 => cond r1 (ref05_Many_J2 (ref05_Many_L1 w1 m1 m_) i1 (IntKind.wrap .i64 (n2 + 1))) (ref05_Many_J2 (ref05_Many_L1 w1 m1 m_) i1 n2)) (ref05_Many_J1 n2)
def ref05_Many_f (w1 : List Msg) (m1 : Msg) : Option Int :=
  ref05_Many_L1 w1 m1 BIG 0 0
set_option maxHeartbeats 4000000 in
set_option maxRecDepth 20000 in
theorem ref05_Many_pc {w1 : List Msg} {m1 : Msg} {r : Int} (H : ref05_Many_f w1 m1 = some r) : PC Try.prog 22 [.list 5 (w1.map Msg.c), .agg (Msg.c m1)] (.int .i64 r) := by
  refine pcA_of Try.func22 (by rfl) (by decide) 22 (by rfl) [.tmp 4] (by rfl) ?_
  unfold ref05_Many_f at H
  simp only [ent]
  refine a_seq ?_
  refine a_reg _ rfl (s := ?zs1) ?_ ?_
  rotate_left
  · simp (maxSteps := 2000000) only [EVT, stepR, evOp, St.ev, St.app, St.put, wrs, allOne, datOf, datOf1, TIS, CS, Nat.reduceAdd, Nat.reduceMul, Nat.reduceEqDiff, ↓reduceIte, reduceCtorEq, Nat.reduceLT, Nat.reduceLeDiff]
    (repeat' apply And.intro) <;> first | rfl | assumption | omega | (left; omega) | (simp; done) | (simp; omega) | (right; exact ⟨_, rfl, rfl, rfl, by decide, by first | omega | (simp; omega)⟩) | (simp_all; done)
  refine sA_n ?_
  refine a_seq ?_
  refine a_reg _ rfl (s := ?zs2) ?_ ?_
  rotate_left
  · simp (maxSteps := 2000000) only [EVT, stepR, evOp, St.ev, St.app, St.put, wrs, datOf, datOf1, TIS, CS, Nat.reduceAdd, Nat.reduceMul, Nat.reduceEqDiff, ↓reduceIte, reduceCtorEq, Nat.reduceLT, Nat.reduceLeDiff]
    (repeat' apply And.intro) <;> first | rfl | assumption | omega | (left; omega) | (simp; done) | (simp; omega) | (right; exact ⟨_, rfl, rfl, rfl, by decide, by first | omega | (simp; omega)⟩) | (simp_all; done)
  refine sA_n ?_
  refine a_cut (fun s => ∃ (n1 : Int) (t0 : Nat → Dat), ref05_Many_J1 n1 = some r ∧ s = ⟨tl t0 [(5, .int .i64 n1)], hl [], 0, 22⟩) ?_ ?_
  · refine a_seq ?_
    refine a_reg _ rfl (s := ?zs4) ?_ ?_
    rotate_left
    · simp (maxSteps := 2000000) only [EVT, stepR, evOp, St.ev, St.app, St.put, wrs, datOf, datOf1, TIS, CS, Nat.reduceAdd, Nat.reduceMul, Nat.reduceEqDiff, ↓reduceIte, reduceCtorEq, Nat.reduceLT, Nat.reduceLeDiff]
      (repeat' apply And.intro) <;> first | rfl | assumption | omega | (left; omega) | (simp; done) | (simp; omega) | (right; exact ⟨_, rfl, rfl, rfl, by decide, by first | omega | (simp; omega)⟩) | (simp_all; done)
    refine sA_n ?_
    refine a_blk ?_
    refine a_loop (fun m s => ∃ (n2 : Int) (i1 : Int) (t0 : Nat → Dat), ref05_Many_L1 w1 m1 m n2 i1 = some r ∧ s = ⟨tl t0 [(0, .list 5 (w1.map Msg.c)), (3, .ptr 0 0 0 5), (5, .int .i64 n2), (6, .int .i64 i1)], hl [⟨26, 5, false, [[.int .i64 m1.from_, .int .i64 m1.to_, .int .i64 m1.kind, .list 1 (m1.nums.map (ci .i64)), .list 1 (m1.data.map (ci .u8))]]⟩], 1, 22⟩) BIG ?_ ?_
    · refine wk_l [(some 0, ⟨26, 5, false, [[.int .i64 m1.from_, .int .i64 m1.to_, .int .i64 m1.kind, .list 1 (m1.nums.map (ci .i64)), .list 1 (m1.data.map (ci .u8))]]⟩)] [] [(0, .list 5 (w1.map Msg.c)), (3, .ptr 0 0 0 5), (5, .int .i64 0), (6, .int .i64 0)] (by show ([0, 3, 5, 6] : List Nat).Nodup; decide) (by show ([0] : List Nat).Nodup; decide) ?_ ?_ (fun t0 => ⟨0, 0, t0, H, rfl⟩)
      · exact (allB_some (by rfl) rfl (.cons (.cons (.int' rfl) (.cons (.int' rfl) (.cons (.int' rfl) (.cons (.lst _ _ _ (ci_pu .i64) rfl) (.cons (.lst _ _ _ (ci_pu .u8) rfl) .nil))))) .nil) trivial)
      · (simp only [AllT, tl_cons, tl_nil, upd_apply, List.getD_cons_zero, List.getD_cons_succ, Nat.reduceEqDiff, ↓reduceIte, and_true]); exact ⟨(.lst _ _ _ Msg.pu rfl), (.ptr _ _ _ _ _ rfl), (.int' rfl), (.int' rfl)⟩
    · rintro m_ref05_Many_L1 s ⟨n2, i1, t0, H, rfl⟩
      obtain _ | m_ref05_Many_L1 := m_ref05_Many_L1
      · cases (show (none : Option _) = some _ from H)
      · rw [ref05_Many_L1] at H
        refine a_seq ?_
        refine a_seq ?_
        refine a_reg _ rfl (s := ?zs5) ?_ ?_
        rotate_left
        · simp (maxSteps := 2000000) only [EVT, stepR, evOp, St.ev, St.app, St.put, wrs, evBuiltin, evBin, binInt, TIS, CS, Nat.reduceAdd, Nat.reduceMul, Nat.reduceEqDiff, ↓reduceIte, reduceCtorEq, Nat.reduceLT, Nat.reduceLeDiff, Nat.reduceSub, Nat.reduceBEq]
          (repeat' apply And.intro) <;> first | rfl | assumption | omega | (left; omega) | (simp; done) | (simp; omega) | (right; exact ⟨_, rfl, rfl, rfl, by decide, by first | omega | (simp; omega)⟩) | (simp_all; done)
        refine sA_n ?_
        refine a_condb ((decide (i1 < (w1.length : Int)))) (by rfl) (fun zc1 => ?_) (fun zc1 => ?_)
        · have H := cond_t zc1 H
          refine a_skip ?_
          refine sA_n ?_
          refine a_cut (fun s => ∃ (n3 : Int) (t0 : Nat → Dat), ref05_Many_J2 (ref05_Many_L1 w1 m1 m_ref05_Many_L1) i1 n3 = some r ∧ s = ⟨tl t0 [(0, .list 5 (w1.map Msg.c)), (3, .ptr 0 0 0 5), (5, .int .i64 n3), (6, .int .i64 i1)], hl [⟨26, 5, false, [[.int .i64 m1.from_, .int .i64 m1.to_, .int .i64 m1.kind, .list 1 (m1.nums.map (ci .i64)), .list 1 (m1.data.map (ci .u8))]]⟩], 1, 22⟩) ?_ ?_
          · refine a_blk ?_
            refine a_seq ?_
            obtain ⟨x1, zh1, H⟩ := bind_some H
            have zg1 := idx_map zh1 Msg.c
            try simp only [Int.reduceToNat] at zg1
            obtain ⟨zh1a, zh1b, _⟩ := idx_some zh1
            obtain ⟨r1, zh2, H⟩ := bind_some H
            have zk1 := ref05_Same_pc zh2
            refine a_drW (by kernel_rfl) _ rfl (s := ?zs7) (by kernel_rfl) (by kernel_rfl) ?zs7f ?_ ?_ ?_
            rotate_left 2
            · try simp (maxSteps := 2000000) only [EVT, stepW, evOp, St.ev, St.app, St.put, wrs, evIndexAddr, evLoad, cut, frz, TIS, CS, Nat.reduceAdd, Nat.reduceMul, Nat.reduceEqDiff, ↓reduceIte, reduceCtorEq, Nat.reduceLT, Nat.reduceLeDiff, Int.reduceToNat, Nat.reduceSub, Nat.reduceBEq, ↓zc1, zg1]
              repeat' with_reducible apply And.intro
              all_goals try ((with_reducible show CallW _ _ _ _ _ _ _); refine cW_s [] zk1 (fun h2 e => (.cons (.agg' (.cons (.int' rfl) (.cons (.int' rfl) (.cons (.int' rfl) (.cons (.lst _ _ _ (ci_pu .i64) rfl) (.cons (.lst _ _ _ (ci_pu .u8) rfl) .nil)))))) (.cons (.agg' (.cons (.int' rfl) (.cons (.int' rfl) (.cons (.int' rfl) (.cons (.lst _ _ _ (ci_pu .i64) rfl) (.cons (.lst _ _ _ (ci_pu .u8) rfl) .nil)))))) .nil))) (.bool _) ?_; simp (maxSteps := 2000000) only [EVT, stepW, evOp, St.ev, St.app, St.put, wrs, evIndexAddr, evLoad, cut, frz, TIS, CS, Nat.reduceAdd, Nat.reduceMul, Nat.reduceEqDiff, ↓reduceIte, reduceCtorEq, Nat.reduceLT, Nat.reduceLeDiff, Int.reduceToNat, Nat.reduceSub, Nat.reduceBEq, ↓zc1, zg1])
              all_goals ((repeat' apply And.intro) <;> first | rfl | assumption | omega | (left; omega) | (simp; done) | (simp; omega) | (right; exact ⟨_, rfl, rfl, rfl, by decide, by first | omega | (simp; omega)⟩) | (simp_all; done))
            · kernel_rfl
            refine sA_n ?_
            refine a_condb (r1) (by rfl) (fun zc2 => ?_) (fun zc2 => ?_)
            · have H := cond_t zc2 H
              refine a_reg _ rfl (s := ?zs8) ?_ ?_
              rotate_left
              · simp (maxSteps := 2000000) only [EVT, stepR, evOp, St.ev, St.app, St.put, wrs, datOf, datOf1, evBin, binInt, TIS, CS, Nat.reduceAdd, Nat.reduceMul, Nat.reduceEqDiff, ↓reduceIte, reduceCtorEq, Nat.reduceLT, Nat.reduceLeDiff, ↓zc1, zg1, ↓zc2]
                (repeat' apply And.intro) <;> first | rfl | assumption | omega | (left; omega) | (simp; done) | (simp; omega) | (right; exact ⟨_, rfl, rfl, rfl, by decide, by first | omega | (simp; omega)⟩) | (simp_all; done)
              refine bA_n ?_
              refine cA_n ?_
              refine wk_l [(some 0, ⟨26, 5, false, [[.int .i64 m1.from_, .int .i64 m1.to_, .int .i64 m1.kind, .list 1 (m1.nums.map (ci .i64)), .list 1 (m1.data.map (ci .u8))]]⟩)] [] [(0, .list 5 (w1.map Msg.c)), (3, .ptr 0 0 0 5), (5, .int .i64 (IntKind.wrap .i64 (n2 + 1))), (6, .int .i64 i1)] (by show ([0, 3, 5, 6] : List Nat).Nodup; decide) (by show ([0] : List Nat).Nodup; decide) ?_ ?_ (fun t0 => ⟨(IntKind.wrap .i64 (n2 + 1)), t0, H, rfl⟩)
              · exact (allB_some (by rfl) rfl (.cons (.cons (.int' rfl) (.cons (.int' rfl) (.cons (.int' rfl) (.cons (.lst _ _ _ (ci_pu .i64) rfl) (.cons (.lst _ _ _ (ci_pu .u8) rfl) .nil))))) .nil) trivial)
              · (simp only [AllT, tl_cons, tl_nil, upd_apply, List.getD_cons_zero, List.getD_cons_succ, Nat.reduceEqDiff, ↓reduceIte, and_true]); exact ⟨(.lst _ _ _ Msg.pu rfl), (.ptr _ _ _ _ _ rfl), (.int' rfl), (.int' rfl)⟩
            · have H := cond_f zc2 H
              refine a_skip ?_
              refine bA_n ?_
              refine cA_n ?_
              refine wk_l [(some 0, ⟨26, 5, false, [[.int .i64 m1.from_, .int .i64 m1.to_, .int .i64 m1.kind, .list 1 (m1.nums.map (ci .i64)), .list 1 (m1.data.map (ci .u8))]]⟩)] [] [(0, .list 5 (w1.map Msg.c)), (3, .ptr 0 0 0 5), (5, .int .i64 n2), (6, .int .i64 i1)] (by show ([0, 3, 5, 6] : List Nat).Nodup; decide) (by show ([0] : List Nat).Nodup; decide) ?_ ?_ (fun t0 => ⟨n2, t0, H, rfl⟩)
              · exact (allB_some (by rfl) rfl (.cons (.cons (.int' rfl) (.cons (.int' rfl) (.cons (.int' rfl) (.cons (.lst _ _ _ (ci_pu .i64) rfl) (.cons (.lst _ _ _ (ci_pu .u8) rfl) .nil))))) .nil) trivial)
              · (simp only [AllT, tl_cons, tl_nil, upd_apply, List.getD_cons_zero, List.getD_cons_succ, Nat.reduceEqDiff, ↓reduceIte, and_true]); exact ⟨(.lst _ _ _ Msg.pu rfl), (.ptr _ _ _ _ _ rfl), (.int' rfl), (.int' rfl)⟩
          · rintro s ⟨n3, t0, H, rfl⟩
            unfold ref05_Many_J2 at H
            refine a_reg _ rfl (s := ?zs6) ?_ ?_
            rotate_left
            · simp (maxSteps := 2000000) only [EVT, stepR, evOp, St.ev, St.app, St.put, wrs, datOf, datOf1, evBin, binInt, TIS, CS, Nat.reduceAdd, Nat.reduceMul, Nat.reduceEqDiff, ↓reduceIte, reduceCtorEq, Nat.reduceLT, Nat.reduceLeDiff]
              (repeat' apply And.intro) <;> first | rfl | assumption | omega | (left; omega) | (simp; done) | (simp; omega) | (right; exact ⟨_, rfl, rfl, rfl, by decide, by first | omega | (simp; omega)⟩) | (simp_all; done)
            refine lA_n ?_
            refine wk_l [(some 0, ⟨26, 5, false, [[.int .i64 m1.from_, .int .i64 m1.to_, .int .i64 m1.kind, .list 1 (m1.nums.map (ci .i64)), .list 1 (m1.data.map (ci .u8))]]⟩)] [] [(0, .list 5 (w1.map Msg.c)), (3, .ptr 0 0 0 5), (5, .int .i64 n3), (6, .int .i64 (IntKind.wrap .i64 (i1 + 1)))] (by show ([0, 3, 5, 6] : List Nat).Nodup; decide) (by show ([0] : List Nat).Nodup; decide) ?_ ?_ (fun t0 => ⟨_, Nat.lt_succ_self _, n3, (IntKind.wrap .i64 (i1 + 1)), t0, H, rfl⟩)
            · exact (allB_some (by rfl) rfl (.cons (.cons (.int' rfl) (.cons (.int' rfl) (.cons (.int' rfl) (.cons (.lst _ _ _ (ci_pu .i64) rfl) (.cons (.lst _ _ _ (ci_pu .u8) rfl) .nil))))) .nil) trivial)
            · (simp only [AllT, tl_cons, tl_nil, upd_apply, List.getD_cons_zero, List.getD_cons_succ, Nat.reduceEqDiff, ↓reduceIte, and_true]); exact ⟨(.lst _ _ _ Msg.pu rfl), (.ptr _ _ _ _ _ rfl), (.int' rfl), (.int' rfl)⟩
        · have H := cond_f zc1 H
          refine a_exit ?_
          refine sA_e ?_
          refine lA_e ?_
          refine bA_hit ?_
          refine cA_n ?_
          refine wk_l [] [] [(5, .int .i64 n2)] (by show ([5] : List Nat).Nodup; decide) (by show ([] : List Nat).Nodup; decide) ?_ ?_ (fun t0 => ⟨n2, t0, H, rfl⟩)
          · exact trivial
          · (simp only [AllT, tl_cons, tl_nil, upd_apply, List.getD_cons_zero, List.getD_cons_succ, Nat.reduceEqDiff, ↓reduceIte, and_true]); exact (.int' rfl)
  · rintro s ⟨n1, t0, H, rfl⟩
    unfold ref05_Many_J1 at H
    refine a_seq ?_
    refine a_reg _ rfl (s := ?zs3) ?_ ?_
    rotate_left
    · simp (maxSteps := 2000000) only [EVT, stepR, evOp, St.ev, St.app, St.put, wrs, TIS, CS, Nat.reduceAdd, Nat.reduceMul, Nat.reduceEqDiff, ↓reduceIte, reduceCtorEq, Nat.reduceLT, Nat.reduceLeDiff]
      (repeat' apply And.intro) <;> first | rfl | assumption | omega | (left; omega) | (simp; done) | (simp; omega) | (right; exact ⟨_, rfl, rfl, rfl, by decide, by first | omega | (simp; omega)⟩) | (simp_all; done)
    refine sA_n ?_
    refine a_ret ?_
    obtain rfl := Option.some.inj H
    refine e_r2 (d := ?zd1) ?_ ?_
    rotate_left
    · simp only [EVT, resR, single, evLoad, cut, TIS, CS, Nat.reduceAdd, Nat.reduceEqDiff, ↓reduceIte, reduceCtorEq, Nat.reduceLT, Nat.reduceLeDiff, Nat.reduceSub, Nat.reduceBEq]
      (repeat' apply And.intro) <;> first | rfl | assumption | omega | (simp; done)
    exact (.int' rfl)
def wire_To_1_f (m1 : Msg) (v1 : Int) : Option Bool :=
  some ((m1.to_ == v1))
set_option maxHeartbeats 4000000 in
set_option maxRecDepth 20000 in
theorem wire_To_1_pc {m1 : Msg} {v1 : Int} {r : Bool} (H : wire_To_1_f m1 v1 = some r) : PC Try.prog 30 [.agg (Msg.c m1), .rop ((ci .i64) v1) 0 1] (.bool r) := by
  refine pcA_of Try.func30 (by rfl) (by decide) 8 (by rfl) [.tmp 3] (by rfl) ?_
  unfold wire_To_1_f at H
  simp only [ent]
  refine a_seq ?_
  refine a_reg _ rfl (s := ?zs1) ?_ ?_
  rotate_left
  · simp (maxSteps := 2000000) only [EVT, stepR, evOp, St.ev, St.app, St.put, wrs, allOne, datOf, datOf1, TIS, CS, Nat.reduceAdd, Nat.reduceMul, Nat.reduceEqDiff, ↓reduceIte, reduceCtorEq, Nat.reduceLT, Nat.reduceLeDiff]
    (repeat' apply And.intro) <;> first | rfl | assumption | omega | (left; omega) | (simp; done) | (simp; omega) | (right; exact ⟨_, rfl, rfl, rfl, by decide, by first | omega | (simp; omega)⟩) | (simp_all; done)
  refine sA_n ?_
  refine a_seq ?_
  refine a_reg _ rfl (s := ?zs2) ?_ ?_
  rotate_left
  · simp (maxSteps := 2000000) only [EVT, stepR, evOp, St.ev, St.app, St.put, wrs, evFieldAddr, evLoad, cut, evBin, binInt, TIS, CS, Nat.reduceAdd, Nat.reduceMul, Nat.reduceEqDiff, ↓reduceIte, reduceCtorEq, Nat.reduceLT, Nat.reduceLeDiff, Nat.reduceSub, Nat.reduceBEq]
    (repeat' apply And.intro) <;> first | rfl | assumption | omega | (left; omega) | (simp; done) | (simp; omega) | (right; exact ⟨_, rfl, rfl, rfl, by decide, by first | omega | (simp; omega)⟩) | (simp_all; done)
  refine sA_n ?_
  refine a_ret ?_
  obtain rfl := Option.some.inj H
  refine e_r2 (d := ?zd1) ?_ ?_
  rotate_left
  · simp only [EVT, resR, single, evLoad, cut, TIS, CS, Nat.reduceAdd, Nat.reduceEqDiff, ↓reduceIte, reduceCtorEq, Nat.reduceLT, Nat.reduceLeDiff, Nat.reduceSub, Nat.reduceBEq]
    (repeat' apply And.intro) <;> first | rfl | assumption | omega | (simp; done)
  exact (.bool' rfl)
def wire_Cut_1_f (m1 : Msg) (v1 : List Int) : Option Bool :=
  (slices_Contains_f v1 m1.from_).bind fun r1 => (slices_Contains_f v1 m1.to_).bind fun r2 => some ((!(r1 == r2)))
set_option maxHeartbeats 4000000 in
set_option maxRecDepth 20000 in
theorem wire_Cut_1_pc {m1 : Msg} {v1 : List Int} {r : Bool} (H : wire_Cut_1_f m1 v1 = some r) : PC Try.prog 31 [.agg (Msg.c m1), .rop ((cl 1 (ci .i64)) v1) 0 1] (.bool r) := by
  refine pcA_of Try.func31 (by rfl) (by decide) 13 (by rfl) [.tmp 3] (by rfl) ?_
  unfold wire_Cut_1_f at H
  simp only [ent]
  refine a_seq ?_
  refine a_reg _ rfl (s := ?zs1) ?_ ?_
  rotate_left
  · simp (maxSteps := 2000000) only [EVT, stepR, evOp, St.ev, St.app, St.put, wrs, allOne, datOf, datOf1, TIS, CS, Nat.reduceAdd, Nat.reduceMul, Nat.reduceEqDiff, ↓reduceIte, reduceCtorEq, Nat.reduceLT, Nat.reduceLeDiff]
    (repeat' apply And.intro) <;> first | rfl | assumption | omega | (left; omega) | (simp; done) | (simp; omega) | (right; exact ⟨_, rfl, rfl, rfl, by decide, by first | omega | (simp; omega)⟩) | (simp_all; done)
  refine sA_n ?_
  refine a_seq ?_
  obtain ⟨r1, zh1, H⟩ := bind_some H
  have zk1 := slices_Contains_pc zh1
  obtain ⟨r2, zh2, H⟩ := bind_some H
  have zk2 := slices_Contains_pc zh2
  refine a_drW (by kernel_rfl) _ rfl (s := ?zs2) (by kernel_rfl) (by kernel_rfl) ?zs2f ?_ ?_ ?_
  rotate_left 2
  · try simp (maxSteps := 2000000) only [EVT, stepW, evOp, St.ev, St.app, St.put, wrs, evLoad, cut, evFieldAddr, frz, evBin, binInt, TIS, CS, Nat.reduceAdd, Nat.reduceMul, Nat.reduceEqDiff, ↓reduceIte, reduceCtorEq, Nat.reduceLT, Nat.reduceLeDiff, Nat.reduceSub, Nat.reduceBEq]
    repeat' with_reducible apply And.intro
    all_goals try ((with_reducible show CallW _ _ _ _ _ _ _); refine cW_s [] zk1 (fun h2 e => (.cons (.lst _ _ _ (ci_pu .i64) rfl) (.cons (.int' rfl) .nil))) (.bool _) ?_; simp (maxSteps := 2000000) only [EVT, stepW, evOp, St.ev, St.app, St.put, wrs, evLoad, cut, evFieldAddr, frz, evBin, binInt, TIS, CS, Nat.reduceAdd, Nat.reduceMul, Nat.reduceEqDiff, ↓reduceIte, reduceCtorEq, Nat.reduceLT, Nat.reduceLeDiff, Nat.reduceSub, Nat.reduceBEq])
    repeat' with_reducible apply And.intro
    all_goals try ((with_reducible show CallW _ _ _ _ _ _ _); refine cW_s [] zk2 (fun h2 e => (.cons (.lst _ _ _ (ci_pu .i64) rfl) (.cons (.int' rfl) .nil))) (.bool _) ?_; simp (maxSteps := 2000000) only [EVT, stepW, evOp, St.ev, St.app, St.put, wrs, evLoad, cut, evFieldAddr, frz, evBin, binInt, TIS, CS, Nat.reduceAdd, Nat.reduceMul, Nat.reduceEqDiff, ↓reduceIte, reduceCtorEq, Nat.reduceLT, Nat.reduceLeDiff, Nat.reduceSub, Nat.reduceBEq])
    all_goals ((repeat' apply And.intro) <;> first | rfl | assumption | omega | (left; omega) | (simp; done) | (simp; omega) | (right; exact ⟨_, rfl, rfl, rfl, by decide, by first | omega | (simp; omega)⟩) | (simp_all; done))
  · kernel_rfl
  refine sA_n ?_
  refine a_ret ?_
  obtain rfl := Option.some.inj H
  refine e_r2 (d := ?zd1) ?_ ?_
  rotate_left
  · simp only [EVT, resR, single, evLoad, cut, TIS, CS, Nat.reduceAdd, Nat.reduceEqDiff, ↓reduceIte, reduceCtorEq, Nat.reduceLT, Nat.reduceLeDiff, Nat.reduceSub, Nat.reduceBEq]
    (repeat' apply And.intro) <;> first | rfl | assumption | omega | (simp; done)
  exact (.bool' rfl)
def slices_IndexFunc_J1 : Option Int :=
  some ((-1))
def slices_IndexFunc_L1 (s1 : List Msg) (f1 : Msg → Option Bool) : Nat → Int → Option Int
  | 0, _ => none
  | m_ + 1, v1 => cond (decide (v1 < (s1.length : Int))) ((idx s1 v1).bind fun x1 => (f1 x1).bind fun r1 => cond r1 (some (v1)) (slices_IndexFunc_L1 s1 f1 m_ (IntKind.wrap .i64 (v1 + 1)))) (slices_IndexFunc_J1)
def slices_IndexFunc_f (s1 : List Msg) (f1 : Msg → Option Bool) : Option Int :=
  slices_IndexFunc_L1 s1 f1 BIG 0
set_option maxHeartbeats 4000000 in
set_option maxRecDepth 20000 in
theorem slices_IndexFunc_pc {s1 : List Msg} {f1 : Msg → Option Bool} {f1_F : FuncId} {f1_caps : List Dat} (f1_hp : ∀ (x0_ : Msg) (r : Bool), f1 x0_ = some r → PC Try.prog f1_F (.agg (Msg.c x0_) :: f1_caps) (.bool r)) (f1_pu : Pus f1_caps) {r : Int} (H : slices_IndexFunc_f s1 f1 = some r) : PC Try.prog 36 [.list 5 (s1.map Msg.c), .fn (.func f1_F) [] f1_caps] (.int .i64 r) := by
  refine pcA_of Try.func36 (by rfl) (by decide) 19 (by rfl) [.tmp 4] (by rfl) ?_
  unfold slices_IndexFunc_f at H
  simp only [ent]
  refine a_seq ?_
  refine a_reg _ rfl (s := ?zs1) ?_ ?_
  rotate_left
  · simp (maxSteps := 2000000) only [EVT, stepR, evOp, St.ev, St.app, St.put, wrs, datOf, datOf1, TIS, CS, Nat.reduceAdd, Nat.reduceMul, Nat.reduceEqDiff, ↓reduceIte, reduceCtorEq, Nat.reduceLT, Nat.reduceLeDiff]
    (repeat' apply And.intro) <;> first | rfl | assumption | omega | (left; omega) | (simp; done) | (simp; omega) | (right; exact ⟨_, rfl, rfl, rfl, by decide, by first | omega | (simp; omega)⟩) | (simp_all; done)
  refine sA_n ?_
  refine a_cut (fun s => ∃ (t0 : Nat → Dat), slices_IndexFunc_J1 = some r ∧ s = ⟨tl t0 [], hl [], 0, 19⟩) ?_ ?_
  · refine a_seq ?_
    refine a_reg _ rfl (s := ?zs3) ?_ ?_
    rotate_left
    · simp (maxSteps := 2000000) only [EVT, stepR, evOp, St.ev, St.app, St.put, wrs, evBuiltin, datOf, datOf1, TIS, CS, Nat.reduceAdd, Nat.reduceMul, Nat.reduceEqDiff, ↓reduceIte, reduceCtorEq, Nat.reduceLT, Nat.reduceLeDiff, Nat.reduceSub, Nat.reduceBEq]
      (repeat' apply And.intro) <;> first | rfl | assumption | omega | (left; omega) | (simp; done) | (simp; omega) | (right; exact ⟨_, rfl, rfl, rfl, by decide, by first | omega | (simp; omega)⟩) | (simp_all; done)
    refine sA_n ?_
    refine a_blk ?_
    refine a_loop (fun m s => ∃ (v1 : Int) (t0 : Nat → Dat), slices_IndexFunc_L1 s1 f1 m v1 = some r ∧ s = ⟨tl t0 [(0, .list 5 (s1.map Msg.c)), (1, .fn (.func f1_F) [] f1_caps), (7, .int .i64 (s1.length : Int)), (8, .int .i64 v1)], hl [], 0, 19⟩) BIG ?_ ?_
    · refine wk_l [] [] [(0, .list 5 (s1.map Msg.c)), (1, .fn (.func f1_F) [] f1_caps), (7, .int .i64 (s1.length : Int)), (8, .int .i64 0)] (by show ([0, 1, 7, 8] : List Nat).Nodup; decide) (by show ([] : List Nat).Nodup; decide) ?_ ?_ (fun t0 => ⟨0, t0, H, rfl⟩)
      · exact trivial
      · (simp only [AllT, tl_cons, tl_nil, upd_apply, List.getD_cons_zero, List.getD_cons_succ, Nat.reduceEqDiff, ↓reduceIte, and_true]); exact ⟨(.lst _ _ _ Msg.pu rfl), (.fn' .nil (RNs.pu f1_pu)), (.int' rfl), (.int' rfl)⟩
    · rintro m_slices_IndexFunc_L1 s ⟨v1, t0, H, rfl⟩
      obtain _ | m_slices_IndexFunc_L1 := m_slices_IndexFunc_L1
      · cases (show (none : Option _) = some _ from H)
      · rw [slices_IndexFunc_L1] at H
        refine a_seq ?_
        refine a_reg _ rfl (s := ?zs4) ?_ ?_
        rotate_left
        · simp (maxSteps := 2000000) only [EVT, stepR, evOp, St.ev, St.app, St.put, wrs, evBin, binInt, TIS, CS, Nat.reduceAdd, Nat.reduceMul, Nat.reduceEqDiff, ↓reduceIte, reduceCtorEq, Nat.reduceLT, Nat.reduceLeDiff]
          (repeat' apply And.intro) <;> first | rfl | assumption | omega | (left; omega) | (simp; done) | (simp; omega) | (right; exact ⟨_, rfl, rfl, rfl, by decide, by first | omega | (simp; omega)⟩) | (simp_all; done)
        refine sA_n ?_
        refine a_seq ?_
        refine a_condb ((decide (v1 < (s1.length : Int)))) (by rfl) (fun zc1 => ?_) (fun zc1 => ?_)
        · have H := cond_t zc1 H
          refine a_skip ?_
          refine sA_n ?_
          refine a_seq ?_
          refine a_blk ?_
          refine a_seq ?_
          refine a_reg _ rfl (s := ?zs5) ?_ ?_
          rotate_left
          · simp (maxSteps := 2000000) only [EVT, stepR, evOp, St.ev, St.app, St.put, wrs, TIS, CS, Nat.reduceAdd, Nat.reduceMul, Nat.reduceEqDiff, ↓reduceIte, reduceCtorEq, Nat.reduceLT, Nat.reduceLeDiff, ↓zc1]
            (repeat' apply And.intro) <;> first | rfl | assumption | omega | (left; omega) | (simp; done) | (simp; omega) | (right; exact ⟨_, rfl, rfl, rfl, by decide, by first | omega | (simp; omega)⟩) | (simp_all; done)
          refine sA_n ?_
          refine a_seq ?_
          obtain ⟨x1, zh1, H⟩ := bind_some H
          have zg1 := idx_map zh1 Msg.c
          try simp only [Int.reduceToNat] at zg1
          obtain ⟨zh1a, zh1b, _⟩ := idx_some zh1
          obtain ⟨r1, zh2, H⟩ := bind_some H
          have zk1 := f1_hp _ _ zh2
          refine a_reg _ rfl (s := ?zs6) ?_ ?_
          rotate_left
          · try simp (maxSteps := 2000000) only [EVT, stepR, evOp, St.ev, St.app, St.put, wrs, evIndexAddr, evLoad, cut, frz, TIS, CS, Nat.reduceAdd, Nat.reduceMul, Nat.reduceEqDiff, ↓reduceIte, reduceCtorEq, Nat.reduceLT, Nat.reduceLeDiff, Int.reduceToNat, Nat.reduceSub, Nat.reduceBEq, ↓zc1, zg1]
            repeat' with_reducible apply And.intro
            all_goals try ((with_reducible show CallR _ _ _ _ _ _ _); refine cR_s zk1 (.cons (.agg' (.cons (.int' rfl) (.cons (.int' rfl) (.cons (.int' rfl) (.cons (.lst _ _ _ (ci_pu .i64) rfl) (.cons (.lst _ _ _ (ci_pu .u8) rfl) .nil)))))) (Pus.purRs f1_pu)) (.bool _) ?_; simp (maxSteps := 2000000) only [EVT, stepR, evOp, St.ev, St.app, St.put, wrs, evIndexAddr, evLoad, cut, frz, TIS, CS, Nat.reduceAdd, Nat.reduceMul, Nat.reduceEqDiff, ↓reduceIte, reduceCtorEq, Nat.reduceLT, Nat.reduceLeDiff, Int.reduceToNat, Nat.reduceSub, Nat.reduceBEq, ↓zc1, zg1])
            all_goals ((repeat' apply And.intro) <;> first | rfl | assumption | omega | (left; omega) | (simp; done) | (simp; omega) | (right; exact ⟨_, rfl, rfl, rfl, by decide, by first | omega | (simp; omega)⟩) | (simp_all; done))
          refine sA_n ?_
          refine a_condb (r1) (by rfl) (fun zc2 => ?_) (fun zc2 => ?_)
          · have H := cond_t zc2 H
            refine a_seq ?_
            refine a_reg _ rfl (s := ?zs7) ?_ ?_
            rotate_left
            · simp (maxSteps := 2000000) only [EVT, stepR, evOp, St.ev, St.app, St.put, wrs, TIS, CS, Nat.reduceAdd, Nat.reduceMul, Nat.reduceEqDiff, ↓reduceIte, reduceCtorEq, Nat.reduceLT, Nat.reduceLeDiff, ↓zc1, zg1, ↓zc2]
              (repeat' apply And.intro) <;> first | rfl | assumption | omega | (left; omega) | (simp; done) | (simp; omega) | (right; exact ⟨_, rfl, rfl, rfl, by decide, by first | omega | (simp; omega)⟩) | (simp_all; done)
            refine sA_n ?_
            refine a_ret ?_
            refine bA_r ?_
            refine sA_r ?_
            refine lA_r ?_
            refine bA_r ?_
            refine cA_r ?_
            obtain rfl := Option.some.inj H
            refine e_r2 (d := ?zd2) ?_ ?_
            rotate_left
            · simp only [EVT, resR, single, evLoad, cut, TIS, CS, Nat.reduceAdd, Nat.reduceEqDiff, ↓reduceIte, reduceCtorEq, Nat.reduceLT, Nat.reduceLeDiff, Nat.reduceSub, Nat.reduceBEq, zc1, zg1, zc2]
              (repeat' apply And.intro) <;> first | rfl | assumption | omega | (simp; done)
            exact (.int' rfl)
          · have H := cond_f zc2 H
            refine a_skip ?_
            refine bA_n ?_
            refine sA_n ?_
            refine a_reg _ rfl (s := ?zs8) ?_ ?_
            rotate_left
            · simp (maxSteps := 2000000) only [EVT, stepR, evOp, St.ev, St.app, St.put, wrs, datOf, datOf1, evBin, binInt, TIS, CS, Nat.reduceAdd, Nat.reduceMul, Nat.reduceEqDiff, ↓reduceIte, reduceCtorEq, Nat.reduceLT, Nat.reduceLeDiff, ↓zc1, zg1, ↓zc2]
              (repeat' apply And.intro) <;> first | rfl | assumption | omega | (left; omega) | (simp; done) | (simp; omega) | (right; exact ⟨_, rfl, rfl, rfl, by decide, by first | omega | (simp; omega)⟩) | (simp_all; done)
            refine lA_n ?_
            refine wk_l [] [] [(0, .list 5 (s1.map Msg.c)), (1, .fn (.func f1_F) [] f1_caps), (7, .int .i64 (s1.length : Int)), (8, .int .i64 (IntKind.wrap .i64 (v1 + 1)))] (by show ([0, 1, 7, 8] : List Nat).Nodup; decide) (by show ([] : List Nat).Nodup; decide) ?_ ?_ (fun t0 => ⟨_, Nat.lt_succ_self _, (IntKind.wrap .i64 (v1 + 1)), t0, H, rfl⟩)
            · exact trivial
            · (simp only [AllT, tl_cons, tl_nil, upd_apply, List.getD_cons_zero, List.getD_cons_succ, Nat.reduceEqDiff, ↓reduceIte, and_true]); exact ⟨(.lst _ _ _ Msg.pu rfl), (.fn' .nil (RNs.pu f1_pu)), (.int' rfl), (.int' rfl)⟩
        · have H := cond_f zc1 H
          refine a_exit ?_
          refine sA_e ?_
          refine lA_e ?_
          refine bA_hit ?_
          refine cA_n ?_
          refine wk_l [] [] [] (by show ([] : List Nat).Nodup; decide) (by show ([] : List Nat).Nodup; decide) ?_ ?_ (fun t0 => ⟨t0, H, rfl⟩)
          · exact trivial
          · exact trivial
  · rintro s ⟨t0, H, rfl⟩
    unfold slices_IndexFunc_J1 at H
    refine a_seq ?_
    refine a_reg _ rfl (s := ?zs2) ?_ ?_
    rotate_left
    · simp (maxSteps := 2000000) only [EVT, stepR, evOp, St.ev, St.app, St.put, wrs, datOf, datOf1, TIS, CS, Nat.reduceAdd, Nat.reduceMul, Nat.reduceEqDiff, ↓reduceIte, reduceCtorEq, Nat.reduceLT, Nat.reduceLeDiff]
      (repeat' apply And.intro) <;> first | rfl | assumption | omega | (left; omega) | (simp; done) | (simp; omega) | (right; exact ⟨_, rfl, rfl, rfl, by decide, by first | omega | (simp; omega)⟩) | (simp_all; done)
    refine sA_n ?_
    refine a_ret ?_
    obtain rfl := Option.some.inj H
    refine e_r2 (d := ?zd1) ?_ ?_
    rotate_left
    · simp only [EVT, resR, single, evLoad, cut, TIS, CS, Nat.reduceAdd, Nat.reduceEqDiff, ↓reduceIte, reduceCtorEq, Nat.reduceLT, Nat.reduceLeDiff, Nat.reduceSub, Nat.reduceBEq]
      (repeat' apply And.intro) <;> first | rfl | assumption | omega | (simp; done)
    exact (.int' rfl)
end
end Go.Proofs.Yteebeajhoemdpaa
