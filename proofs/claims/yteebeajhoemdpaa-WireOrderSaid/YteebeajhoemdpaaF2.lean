/- Functions of the program as Lean functions, and that they are so; printed by a program of mine. -/
import Derived.Test.YteebeajhoemdpaaF1
set_option linter.unusedSimpArgs false
set_option linter.unusedVariables false
namespace Go.Proofs.Yteebeajhoemdpaa
open Go.Ab
noncomputable section

def wire_room_f (w1 : List Msg) (l1 : List Msg) : Option (List Msg) :=
  (slices_Clone_f w1).bind fun r1 => chk (0 ≤ 0 ∧ 0 ≤ (if (if (IntKind.wrap .i64 (200 - (w1.length : Int))) < (l1.length : Int) then (IntKind.wrap .i64 (200 - (w1.length : Int))) else (l1.length : Int)) > 0 then (if (IntKind.wrap .i64 (200 - (w1.length : Int))) < (l1.length : Int) then (IntKind.wrap .i64 (200 - (w1.length : Int))) else (l1.length : Int)) else 0) ∧ (if (if (IntKind.wrap .i64 (200 - (w1.length : Int))) < (l1.length : Int) then (IntKind.wrap .i64 (200 - (w1.length : Int))) else (l1.length : Int)) > 0 then (if (IntKind.wrap .i64 (200 - (w1.length : Int))) < (l1.length : Int) then (IntKind.wrap .i64 (200 - (w1.length : Int))) else (l1.length : Int)) else 0) ≤ (l1.length : Int)) (chk ((r1.length + (((l1.take (if (if (IntKind.wrap .i64 (200 - (w1.length : Int))) < (l1.length : Int) then (IntKind.wrap .i64 (200 - (w1.length : Int))) else (l1.length : Int)) > 0 then (if (IntKind.wrap .i64 (200 - (w1.length : Int))) < (l1.length : Int) then (IntKind.wrap .i64 (200 - (w1.length : Int))) else (l1.length : Int)) else 0).toNat).drop 0).length)) * 72 ≤ 140737488355328) (some ((r1 ++ ((l1.take (if (if (IntKind.wrap .i64 (200 - (w1.length : Int))) < (l1.length : Int) then (IntKind.wrap .i64 (200 - (w1.length : Int))) else (l1.length : Int)) > 0 then (if (IntKind.wrap .i64 (200 - (w1.length : Int))) < (l1.length : Int) then (IntKind.wrap .i64 (200 - (w1.length : Int))) else (l1.length : Int)) else 0).toNat).drop 0)))))
set_option maxHeartbeats 4000000 in
set_option maxRecDepth 20000 in
theorem wire_room_rc {w1 : List Msg} {l1 : List Msg} {r : (List Msg)} (H : wire_room_f w1 l1 = some r) : RC Try.prog 27 [.list 5 (w1.map Msg.c), .list 5 (l1.map Msg.c)] [] 0 (.ref 0 0 r.length 5) [some ⟨26, 5, false, r.map Msg.c⟩] := by
  refine rcA_of Try.func27 (by rfl) (by decide) 19 (by rfl) [.tmp 4] (by rfl) ?_
  unfold wire_room_f at H
  simp only [hent, List.length_cons, List.length_nil, Nat.reduceAdd]
  refine a_seq ?_
  refine a_reg _ rfl (s := ?zs1) ?_ ?_
  rotate_left
  · simp (maxSteps := 2000000) only [EVT, stepR, evOp, St.ev, St.app, St.put, wrs, datOf, datOf1, TIS, CS, Nat.reduceAdd, Nat.reduceMul, Nat.reduceEqDiff, ↓reduceIte, reduceCtorEq, Nat.reduceLT, Nat.reduceLeDiff]
    (repeat' apply And.intro) <;> first | rfl | assumption | omega | (left; omega) | (simp; done) | (simp; omega) | (right; exact ⟨_, rfl, rfl, rfl, by decide, by first | omega | (simp; omega)⟩) | (simp_all; done)
  refine sA_n ?_
  refine a_seq ?_
  refine a_reg _ rfl (s := ?zs2) ?_ ?_
  rotate_left
  · simp (maxSteps := 2000000) only [EVT, stepR, evOp, St.ev, St.app, St.put, wrs, evBuiltin, datOf, datOf1, evBin, binInt, minMax, mmStep, TIS, CS, Nat.reduceAdd, Nat.reduceMul, Nat.reduceEqDiff, ↓reduceIte, reduceCtorEq, Nat.reduceLT, Nat.reduceLeDiff, Nat.reduceSub, Nat.reduceBEq]
    (repeat' apply And.intro) <;> first | rfl | assumption | omega | (left; omega) | (simp; done) | (simp; omega) | (right; exact ⟨_, rfl, rfl, rfl, by decide, by first | omega | (simp; omega)⟩) | (simp_all; done)
  refine sA_n ?_
  refine a_seq ?_
  obtain ⟨r1, zh1, H⟩ := bind_some H
  have zk1 := slices_Clone_rc zh1
  obtain ⟨zh2, H⟩ := chk_some H
  obtain ⟨zh3, H⟩ := chk_some H
  refine a_drW (by kernel_rfl) _ rfl (s := ?zs3) (by kernel_rfl) (by kernel_rfl) ?zs3f ?_ ?_ ?_
  rotate_left 2
  · try simp (maxSteps := 2000000) only [EVT, stepW, evOp, St.ev, St.app, St.put, wrs, frz, evSlice, sliceOk, sl_if0, sl_if1, sl_if2, sl_if3, tk_map, dp_map, evBuiltin, evAppend, isAl, elems, Option.elim, TIS, CS, Nat.reduceAdd, Nat.reduceMul, Nat.reduceEqDiff, ↓reduceIte, reduceCtorEq, Nat.reduceLT, Nat.reduceLeDiff, Int.reduceToNat, Nat.reduceSub, Nat.reduceBEq]
    repeat' with_reducible apply And.intro
    all_goals try ((with_reducible show CallW _ _ _ _ _ _ _); refine callW_rcw (r' := .ref 73 0 r1.length 5) [] [(73, some ⟨26, 5, false, r1.map Msg.c⟩)] [] [] [(73, 0, ⟨26, 5, false, r1.map Msg.c⟩)] rfl (by decide) zk1 (by simp) (by show ([] : List Nat).Nodup; decide) (fun h2 e => trivial) (fun h2 e => (.cons (.lst _ _ _ Msg.pu rfl) .nil)) (by show ([73] : List Nat).Nodup; decide) (by show ([0] : List Nat).Nodup; decide) ⟨.inr ⟨rfl, by decide⟩, ⟨_, rfl, ⟨rfl, rfl, rfl, rfl⟩, .same _ _ Msg.pu rfl⟩, trivial⟩ (.refl' rfl rfl) ?_; simp (maxSteps := 2000000) only [EVT, stepW, evOp, St.ev, St.app, St.put, wrs, frz, evSlice, sliceOk, sl_if0, sl_if1, sl_if2, sl_if3, tk_map, dp_map, evBuiltin, evAppend, isAl, elems, Option.elim, TIS, CS, Nat.reduceAdd, Nat.reduceMul, Nat.reduceEqDiff, ↓reduceIte, reduceCtorEq, Nat.reduceLT, Nat.reduceLeDiff, Int.reduceToNat, Nat.reduceSub, Nat.reduceBEq])
    all_goals ((repeat' apply And.intro) <;> first | rfl | assumption | omega | (left; omega) | (simp; done) | (simp; omega) | (right; exact ⟨_, rfl, rfl, rfl, by decide, by first | omega | (simp; omega)⟩) | (simp_all; done))
  · kernel_rfl
  refine sA_n ?_
  refine a_ret ?_
  obtain rfl := Option.some.inj H
  refine eR_r ?_
  refine wk_ln 0 [(some 77, ⟨26, 5, false, (r1 ++ ((l1.take (if (if (IntKind.wrap .i64 (200 - (w1.length : Int))) < (l1.length : Int) then (IntKind.wrap .i64 (200 - (w1.length : Int))) else (l1.length : Int)) > 0 then (if (IntKind.wrap .i64 (200 - (w1.length : Int))) < (l1.length : Int) then (IntKind.wrap .i64 (200 - (w1.length : Int))) else (l1.length : Int)) else 0).toNat).drop 0)).map Msg.c⟩)] [] [(4, .ref 0 0 (r1 ++ ((l1.take (if (if (IntKind.wrap .i64 (200 - (w1.length : Int))) < (l1.length : Int) then (IntKind.wrap .i64 (200 - (w1.length : Int))) else (l1.length : Int)) > 0 then (if (IntKind.wrap .i64 (200 - (w1.length : Int))) < (l1.length : Int) then (IntKind.wrap .i64 (200 - (w1.length : Int))) else (l1.length : Int)) else 0).toNat).drop 0)).length 5)] (fun i h => absurd h (Nat.not_lt_zero i)) (by show ([4] : List Nat).Nodup; decide) (by show ([77] : List Nat).Nodup; decide) ?_ ?_ (fun t0 => ⟨by first | rfl | (simp only [EVT, resR, single, evLoad, cut, TIS, CS, Nat.reduceAdd, Nat.reduceEqDiff, ↓reduceIte, reduceCtorEq, Nat.reduceLT, Nat.reduceLeDiff, Nat.reduceSub, Nat.reduceBEq]; (repeat' apply And.intro) <;> first | rfl | (simp; done)), fun j B h => by rcases j with _ | _ <;> first | exact h | (exact absurd h (by simp [hh]))⟩)
  · exact (allB_some (by rfl) rfl (.same _ _ Msg.pu (by first | rfl | (simp only [List.map_append, List.map_cons, List.map_nil, List.map_set, List.map_take, List.map_drop, List.map_replicate, List.append_assoc, List.nil_append, List.append_nil, ci_eq, cb_eq, cs_eq, cl_eq, CS,  List.nil_append]; done) | (simp [CS,  ci_eq, cb_eq, cs_eq, cl_eq]; done) | (simp [CS,  ci_eq, cb_eq, cs_eq, cl_eq]; intro hz; rw [List.take_of_length_le (by simp; omega)]))) trivial)
  · (simp only [AllT, tl_cons, tl_nil, upd_apply, List.getD_cons_zero, List.getD_cons_succ, Nat.reduceEqDiff, ↓reduceIte, and_true]); exact (.refl' (by first | rfl | omega | (simp; done) | (simp [strBytes_len]; done) | (simp; omega) | (simp_all; done)) rfl)
theorem wire_room_pc {w1 : List Msg} {l1 : List Msg} {r : (List Msg)} (H : wire_room_f w1 l1 = some r) : PC Try.prog 27 [.list 5 (w1.map Msg.c), .list 5 (l1.map Msg.c)] (.list 5 (r.map Msg.c)) := rc_pc (wire_room_rc H) (.ownL rfl (fun e => by cases e) rfl (List.length_map _).symm (.same _ _ Msg.pu rfl))
def slices_Delete_f (s1 : List Msg) (i1 : Int) (j1 : Int) : Option (List Msg) :=
  chk (0 ≤ i1 ∧ i1 ≤ j1 ∧ j1 ≤ (((s1.length : Nat)) : Int) ∧ (((s1.length : Nat)) : Int) ≤ (s1.length : Int)) (cond (i1 == j1) (some (s1)) (chk (0 ≤ i1 ∧ i1 ≤ (s1.length : Int)) (chk (0 ≤ j1 ∧ j1 ≤ (s1.length : Int) ∧ (s1.length : Int) ≤ (s1.length : Int)) (chk ((i1.toNat + (s1.length - j1.toNat)) ≤ s1.length) (chk (0 ≤ ((((i1.toNat + (s1.length - j1.toNat)) : Nat)) : Int) ∧ ((((i1.toNat + (s1.length - j1.toNat)) : Nat)) : Int) ≤ (((s1.length : Nat)) : Int) ∧ (((s1.length : Nat)) : Int) ≤ (s1.length : Int)) (some (((s1.take i1.toNat) ++ (s1.drop j1.toNat)))))))))
set_option maxHeartbeats 4000000 in
set_option maxRecDepth 20000 in
theorem slices_Delete_rc {s1 : List Msg} {i1 : Int} {j1 : Int} {r : (List Msg)} (H : slices_Delete_f s1 i1 j1 = some r) : RC Try.prog 25 [.ref 0 0 s1.length 5, .int .i64 i1, .int .i64 j1] [⟨26, 5, false, s1.map Msg.c⟩] 0 (.list 5 (r.map Msg.c)) [] := by
  refine rcA_of Try.func25 (by rfl) (by decide) 33 (by rfl) [.tmp 6] (by rfl) ?_
  unfold slices_Delete_f at H
  simp only [hent, List.length_cons, List.length_nil, Nat.reduceAdd]
  refine a_seq ?_
  refine a_reg _ rfl (s := ?zs1) ?_ ?_
  rotate_left
  · simp (maxSteps := 2000000) only [EVT, stepR, evOp, St.ev, St.app, St.put, wrs, datOf, datOf1, TIS, CS, Nat.reduceAdd, Nat.reduceMul, Nat.reduceEqDiff, ↓reduceIte, reduceCtorEq, Nat.reduceLT, Nat.reduceLeDiff]
    (repeat' apply And.intro) <;> first | rfl | assumption | omega | (left; omega) | (simp; done) | (simp; omega) | (right; exact ⟨_, rfl, rfl, rfl, by decide, by first | omega | (simp; omega)⟩) | (simp_all; done)
  refine sA_n ?_
  refine a_seq ?_
  obtain ⟨zh1, H⟩ := chk_some H
  refine a_reg _ rfl (s := ?zs2) ?_ ?_
  rotate_left
  · try simp (maxSteps := 2000000) only [EVT, stepR, evOp, St.ev, St.app, St.put, wrs, evBuiltin, evSlice, sliceOk, sl_if0, sl_if1, sl_if2, sl_if3, tk_map, dp_map, TIS, othE, evAppStr, strCells_eq, strBytes_len, CS, Nat.reduceAdd, Nat.reduceMul, Nat.reduceEqDiff, ↓reduceIte, reduceCtorEq, Nat.reduceLT, Nat.reduceLeDiff, Int.reduceToNat, Nat.reduceSub, Nat.reduceBEq]
    repeat' with_reducible apply And.intro
    all_goals try ((with_reducible show OthR _ _ _ _ _); refine oth_slice3 rfl Try.underlying22 ti26 rfl rfl rfl rfl (by first | assumption | omega | (simp; omega)) ?_; simp (maxSteps := 2000000) only [EVT, stepR, evOp, St.ev, St.app, St.put, wrs, evBuiltin, evSlice, sliceOk, sl_if0, sl_if1, sl_if2, sl_if3, tk_map, dp_map, TIS, othE, evAppStr, strCells_eq, strBytes_len, CS, Nat.reduceAdd, Nat.reduceMul, Nat.reduceEqDiff, ↓reduceIte, reduceCtorEq, Nat.reduceLT, Nat.reduceLeDiff, Int.reduceToNat, Nat.reduceSub, Nat.reduceBEq])
    all_goals ((repeat' apply And.intro) <;> first | rfl | assumption | omega | (left; omega) | (simp; done) | (simp; omega) | (right; exact ⟨_, rfl, rfl, rfl, by decide, by first | omega | (simp; omega)⟩) | (simp_all; done))
  refine sA_n ?_
  refine a_seq ?_
  refine a_seq ?_
  refine a_reg _ rfl (s := ?zs3) ?_ ?_
  rotate_left
  · simp (maxSteps := 2000000) only [EVT, stepR, evOp, St.ev, St.app, St.put, wrs, evBin, binInt, TIS, CS, Nat.reduceAdd, Nat.reduceMul, Nat.reduceEqDiff, ↓reduceIte, reduceCtorEq, Nat.reduceLT, Nat.reduceLeDiff]
    (repeat' apply And.intro) <;> first | rfl | assumption | omega | (left; omega) | (simp; done) | (simp; omega) | (right; exact ⟨_, rfl, rfl, rfl, by decide, by first | omega | (simp; omega)⟩) | (simp_all; done)
  refine sA_n ?_
  refine a_condb ((i1 == j1)) (by rfl) (fun zc1 => ?_) (fun zc1 => ?_)
  · have H := cond_t zc1 H
    refine a_seq ?_
    refine a_reg _ rfl (s := ?zs4) ?_ ?_
    rotate_left
    · simp (maxSteps := 2000000) only [EVT, stepR, evOp, St.ev, St.app, St.put, wrs, TIS, CS, Nat.reduceAdd, Nat.reduceMul, Nat.reduceEqDiff, ↓reduceIte, reduceCtorEq, Nat.reduceLT, Nat.reduceLeDiff, ↓zc1]
      (repeat' apply And.intro) <;> first | rfl | assumption | omega | (left; omega) | (simp; done) | (simp; omega) | (right; exact ⟨_, rfl, rfl, rfl, by decide, by first | omega | (simp; omega)⟩) | (simp_all; done)
    refine sA_n ?_
    refine a_ret ?_
    refine sA_r ?_
    obtain rfl := Option.some.inj H
    refine eR_r ?_
    refine wk_ln 0 [] [0] [(6, .list 5 (s1.map Msg.c))] (fun i h => absurd h (Nat.not_lt_zero i)) (by show ([6] : List Nat).Nodup; decide) (by show ([] : List Nat).Nodup; decide) ?_ ?_ (fun t0 => ⟨by first | rfl | (simp only [EVT, resR, single, evLoad, cut, TIS, CS, Nat.reduceAdd, Nat.reduceEqDiff, ↓reduceIte, reduceCtorEq, Nat.reduceLT, Nat.reduceLeDiff, Nat.reduceSub, Nat.reduceBEq]; (repeat' apply And.intro) <;> first | rfl | (simp; done)), fun j B h => by rcases j with _ <;> first | exact h | (exact absurd h (by simp [hh]))⟩)
    · exact trivial
    · (simp only [AllT, tl_cons, tl_nil, upd_apply, List.getD_cons_zero, List.getD_cons_succ, Nat.reduceEqDiff, ↓reduceIte, and_true]); exact (.frz' (by rfl) (by simp) rfl (by first | rfl | omega | (simp; done) | (simp [strBytes_len]; done) | (simp; omega) | (simp_all; done)) (.same _ _ Msg.pu (by first | rfl | (simp only [List.map_append, List.map_cons, List.map_nil, List.map_set, List.map_take, List.map_drop, List.map_replicate, List.append_assoc, List.nil_append, List.append_nil, ci_eq, cb_eq, cs_eq, cl_eq, CS,  List.nil_append]; done) | (simp [CS,  ci_eq, cb_eq, cs_eq, cl_eq]; done) | (simp [CS,  ci_eq, cb_eq, cs_eq, cl_eq]; intro hz; rw [List.take_of_length_le (by simp; omega)]))))
  · have H := cond_f zc1 H
    refine a_skip ?_
    refine sA_n ?_
    refine a_seq ?_
    refine a_reg _ rfl (s := ?zs5) ?_ ?_
    rotate_left
    · simp (maxSteps := 2000000) only [EVT, stepR, evOp, St.ev, St.app, St.put, wrs, evBuiltin, TIS, CS, Nat.reduceAdd, Nat.reduceMul, Nat.reduceEqDiff, ↓reduceIte, reduceCtorEq, Nat.reduceLT, Nat.reduceLeDiff, Nat.reduceSub, Nat.reduceBEq, ↓zc1]
      (repeat' apply And.intro) <;> first | rfl | assumption | omega | (left; omega) | (simp; done) | (simp; omega) | (right; exact ⟨_, rfl, rfl, rfl, by decide, by first | omega | (simp; omega)⟩) | (simp_all; done)
    refine sA_n ?_
    refine a_seq ?_
    obtain ⟨zh2, H⟩ := chk_some H
    obtain ⟨zh3, H⟩ := chk_some H
    obtain ⟨zh4, H⟩ := chk_some H
    refine a_drW (by kernel_rfl) _ rfl (s := ?zs6) (by kernel_rfl) (by kernel_rfl) ?zs6f ?_ ?_ ?_
    rotate_left 2
    · simp (maxSteps := 2000000) only [EVT, stepW, evOp, St.ev, St.app, St.put, wrs, evSlice, sliceOk, sl_if0, sl_if1, sl_if2, sl_if3, tk_map, dp_map, evBuiltin, evAppend, isAl, elems, Option.elim, TIS, CS, Nat.reduceAdd, Nat.reduceMul, Nat.reduceEqDiff, ↓reduceIte, reduceCtorEq, Nat.reduceLT, Nat.reduceLeDiff, Int.reduceToNat, Nat.reduceSub, Nat.reduceBEq, ↓zc1, els_if, els_if2, els_if3, els_if4]
      (repeat' apply And.intro) <;> first | rfl | assumption | omega | (left; omega) | (simp; done) | (simp; omega) | (right; exact ⟨_, rfl, rfl, rfl, by decide, by first | omega | (simp; omega)⟩) | (simp_all; done)
    · kernel_rfl
    refine sA_n ?_
    refine a_seq ?_
    obtain ⟨zh5, H⟩ := chk_some H
    refine a_reg _ rfl (s := ?zs7) ?_ ?_
    rotate_left
    · simp (maxSteps := 2000000) only [EVT, stepR, evOp, St.ev, St.app, St.put, wrs, evBuiltin, evSlice, sliceOk, sl_if0, sl_if1, sl_if2, sl_if3, tk_map, dp_map, evClear, allOne, TIS, CS, Nat.reduceAdd, Nat.reduceMul, Nat.reduceEqDiff, ↓reduceIte, reduceCtorEq, Nat.reduceLT, Nat.reduceLeDiff, Int.reduceToNat, Nat.reduceSub, Nat.reduceBEq, ↓zc1]
      (repeat' apply And.intro) <;> first | rfl | assumption | omega | (left; omega) | (simp; done) | (simp; omega) | (right; exact ⟨_, rfl, rfl, rfl, by decide, by first | omega | (simp; omega)⟩) | (simp_all; done)
    refine sA_n ?_
    refine a_seq ?_
    refine a_reg _ rfl (s := ?zs8) ?_ ?_
    rotate_left
    · simp (maxSteps := 2000000) only [EVT, stepR, evOp, St.ev, St.app, St.put, wrs, TIS, CS, Nat.reduceAdd, Nat.reduceMul, Nat.reduceEqDiff, ↓reduceIte, reduceCtorEq, Nat.reduceLT, Nat.reduceLeDiff, ↓zc1]
      (repeat' apply And.intro) <;> first | rfl | assumption | omega | (left; omega) | (simp; done) | (simp; omega) | (right; exact ⟨_, rfl, rfl, rfl, by decide, by first | omega | (simp; omega)⟩) | (simp_all; done)
    refine sA_n ?_
    refine a_ret ?_
    obtain rfl := Option.some.inj H
    refine eR_r ?_
    refine wk_ln 0 [] [0] [(6, .list 5 (((s1.take i1.toNat) ++ (s1.drop j1.toNat)).map Msg.c))] (fun i h => absurd h (Nat.not_lt_zero i)) (by show ([6] : List Nat).Nodup; decide) (by show ([] : List Nat).Nodup; decide) ?_ ?_ (fun t0 => ⟨by first | rfl | (simp only [EVT, resR, single, evLoad, cut, TIS, CS, Nat.reduceAdd, Nat.reduceEqDiff, ↓reduceIte, reduceCtorEq, Nat.reduceLT, Nat.reduceLeDiff, Nat.reduceSub, Nat.reduceBEq]; (repeat' apply And.intro) <;> first | rfl | (simp; done)), fun j B h => by rcases j with _ <;> first | exact h | (exact absurd h (by simp [hh]))⟩)
    · exact trivial
    · (simp only [AllT, tl_cons, tl_nil, upd_apply, List.getD_cons_zero, List.getD_cons_succ, Nat.reduceEqDiff, ↓reduceIte, and_true]); exact (.frzs (by rfl) (by simp) rfl (by first | rfl | omega | (simp; done) | (simp [strBytes_len]; done) | (simp; omega) | (simp_all; done)) (by first | rfl | omega | (simp; done) | (simp [strBytes_len]; done) | (simp; omega) | (simp_all; done)) (.same _ _ Msg.pu (by (refine tk_garb _ _ (by first | (simp; done) | (simp; omega)) ?_); first | rfl | (rw [List.take_append_of_le_length (by simp; omega), List.take_of_length_le (by simp; omega)]; simp only [tk_dr, List.map_append]; done) | (simp; done) | (simp; omega))))
def slices_DeleteFunc_J1 (s2 : List Msg) (i1 : Int) : Option (List Msg) :=
  chk (0 ≤ i1 ∧ i1 ≤ (s2.length : Int) ∧ (s2.length : Int) ≤ (s2.length : Int)) (chk (0 ≤ i1 ∧ i1 ≤ (s2.length : Int)) (some ((s2.take i1.toNat))))
def slices_DeleteFunc_J2 (k_slices_DeleteFunc_L1 : (List Msg) → Int → Int → Option (List Msg)) (j1 : Int) (s4 : List Msg) (i3 : Int) : Option (List Msg) :=
  k_slices_DeleteFunc_L1 s4 i3 (IntKind.wrap .i64 (j1 + 1))
def slices_DeleteFunc_L1 (del1 : Msg → Option Bool) : Nat → (List Msg) → Int → Int → Option (List Msg)
  | 0, _, _, _ => none
  | m_ + 1, s3, i2, j1 => cond (decide (j1 < (((s3.length : Nat)) : Int))) ((idx s3 j1).bind fun x1 => (del1 x1).bind fun r2 => cond (!r2) ((idx s3 i2).bind fun x2 => slices_DeleteFunc_J2 (slices_DeleteFunc_L1 del1 m_) j1 (s3.set i2.toNat x1) (IntKind.wrap .i64 (i2 + 1))) (slices_DeleteFunc_J2 (slices_DeleteFunc_L1 del1 m_) j1 s3 i2)) (slices_DeleteFunc_J1 s3 i2)
def slices_DeleteFunc_f (s1 : List Msg) (del1 : Msg → Option Bool) : Option (List Msg) :=
  (slices_IndexFunc_f s1 del1).bind fun r1 => cond (r1 == (-1)) (some (s1)) (slices_DeleteFunc_L1 del1 BIG s1 r1 (IntKind.wrap .i64 (r1 + 1)))
set_option maxHeartbeats 4000000 in
set_option maxRecDepth 20000 in
theorem slices_DeleteFunc_rc {s1 : List Msg} {del1 : Msg → Option Bool} {del1_F : FuncId} {del1_caps : List Dat} (del1_hp : ∀ (x0_ : Msg) (r : Bool), del1 x0_ = some r → PC Try.prog del1_F (.agg (Msg.c x0_) :: del1_caps) (.bool r)) (del1_pu : Pus del1_caps) {r : (List Msg)} (H : slices_DeleteFunc_f s1 del1 = some r) : RC Try.prog 33 [.ref 0 0 s1.length 5, .fn (.func del1_F) [] del1_caps] [⟨26, 5, false, s1.map Msg.c⟩] 0 (.list 5 (r.map Msg.c)) [] := by
  refine rcA_of Try.func33 (by rfl) (by decide) 42 (by rfl) [.tmp 4] (by rfl) ?_
  unfold slices_DeleteFunc_f at H
  simp only [hent, List.length_cons, List.length_nil, Nat.reduceAdd]
  refine a_seq ?_
  refine a_reg _ rfl (s := ?zs1) ?_ ?_
  rotate_left
  · simp (maxSteps := 2000000) only [EVT, stepR, evOp, St.ev, St.app, St.put, wrs, datOf, datOf1, TIS, CS, Nat.reduceAdd, Nat.reduceMul, Nat.reduceEqDiff, ↓reduceIte, reduceCtorEq, Nat.reduceLT, Nat.reduceLeDiff]
    (repeat' apply And.intro) <;> first | rfl | assumption | omega | (left; omega) | (simp; done) | (simp; omega) | (right; exact ⟨_, rfl, rfl, rfl, by decide, by first | omega | (simp; omega)⟩) | (simp_all; done)
  refine sA_n ?_
  refine a_seq ?_
  obtain ⟨r1, zh1, H⟩ := bind_some H
  have zk1 := slices_IndexFunc_pc (f1 := del1) (f1_F := del1_F) (f1_caps := del1_caps) del1_hp del1_pu zh1
  refine a_reg _ rfl (s := ?zs2) ?_ ?_
  rotate_left
  · try simp (maxSteps := 2000000) only [EVT, stepR, evOp, St.ev, St.app, St.put, wrs, frz, TIS, CS, Nat.reduceAdd, Nat.reduceMul, Nat.reduceEqDiff, ↓reduceIte, reduceCtorEq, Nat.reduceLT, Nat.reduceLeDiff, Nat.reduceSub, Nat.reduceBEq]
    repeat' with_reducible apply And.intro
    all_goals try ((with_reducible show CallR _ _ _ _ _ _ _); refine cR_s zk1 (.cons (.ownL (by rfl) (fun e => by cases e) rfl (by first | rfl | omega | (simp; done) | (simp [strBytes_len]; done) | (simp; omega) | (simp_all; done)) (.same _ _ Msg.pu (by first | rfl | (simp only [List.map_append, List.map_cons, List.map_nil, List.map_set, List.map_take, List.map_drop, List.map_replicate, List.append_assoc, List.nil_append, List.append_nil, ci_eq, cb_eq, cs_eq, cl_eq, CS,  List.nil_append]; done) | (simp [CS,  ci_eq, cb_eq, cs_eq, cl_eq]; done) | (simp [CS,  ci_eq, cb_eq, cs_eq, cl_eq]; intro hz; rw [List.take_of_length_le (by simp; omega)])))) (.cons (.fn' .nil (Pus.purRs del1_pu)) .nil)) (.int _ _) ?_; simp (maxSteps := 2000000) only [EVT, stepR, evOp, St.ev, St.app, St.put, wrs, frz, TIS, CS, Nat.reduceAdd, Nat.reduceMul, Nat.reduceEqDiff, ↓reduceIte, reduceCtorEq, Nat.reduceLT, Nat.reduceLeDiff, Nat.reduceSub, Nat.reduceBEq])
    all_goals ((repeat' apply And.intro) <;> first | rfl | assumption | omega | (left; omega) | (simp; done) | (simp; omega) | (right; exact ⟨_, rfl, rfl, rfl, by decide, by first | omega | (simp; omega)⟩) | (simp_all; done))
  refine sA_n ?_
  refine a_seq ?_
  refine a_seq ?_
  refine a_reg _ rfl (s := ?zs3) ?_ ?_
  rotate_left
  · simp (maxSteps := 2000000) only [EVT, stepR, evOp, St.ev, St.app, St.put, wrs, datOf, datOf1, evBin, binInt, TIS, CS, Nat.reduceAdd, Nat.reduceMul, Nat.reduceEqDiff, ↓reduceIte, reduceCtorEq, Nat.reduceLT, Nat.reduceLeDiff]
    (repeat' apply And.intro) <;> first | rfl | assumption | omega | (left; omega) | (simp; done) | (simp; omega) | (right; exact ⟨_, rfl, rfl, rfl, by decide, by first | omega | (simp; omega)⟩) | (simp_all; done)
  refine sA_n ?_
  refine a_condb ((r1 == (-1))) (by rfl) (fun zc1 => ?_) (fun zc1 => ?_)
  · have H := cond_t zc1 H
    refine a_seq ?_
    refine a_reg _ rfl (s := ?zs4) ?_ ?_
    rotate_left
    · simp (maxSteps := 2000000) only [EVT, stepR, evOp, St.ev, St.app, St.put, wrs, TIS, CS, Nat.reduceAdd, Nat.reduceMul, Nat.reduceEqDiff, ↓reduceIte, reduceCtorEq, Nat.reduceLT, Nat.reduceLeDiff, ↓zc1]
      (repeat' apply And.intro) <;> first | rfl | assumption | omega | (left; omega) | (simp; done) | (simp; omega) | (right; exact ⟨_, rfl, rfl, rfl, by decide, by first | omega | (simp; omega)⟩) | (simp_all; done)
    refine sA_n ?_
    refine a_ret ?_
    refine sA_r ?_
    obtain rfl := Option.some.inj H
    refine eR_r ?_
    refine wk_ln 0 [] [0] [(4, .list 5 (s1.map Msg.c))] (fun i h => absurd h (Nat.not_lt_zero i)) (by show ([4] : List Nat).Nodup; decide) (by show ([] : List Nat).Nodup; decide) ?_ ?_ (fun t0 => ⟨by first | rfl | (simp only [EVT, resR, single, evLoad, cut, TIS, CS, Nat.reduceAdd, Nat.reduceEqDiff, ↓reduceIte, reduceCtorEq, Nat.reduceLT, Nat.reduceLeDiff, Nat.reduceSub, Nat.reduceBEq]; (repeat' apply And.intro) <;> first | rfl | (simp; done)), fun j B h => by rcases j with _ <;> first | exact h | (exact absurd h (by simp [hh]))⟩)
    · exact trivial
    · (simp only [AllT, tl_cons, tl_nil, upd_apply, List.getD_cons_zero, List.getD_cons_succ, Nat.reduceEqDiff, ↓reduceIte, and_true]); exact (.frz' (by rfl) (by simp) rfl (by first | rfl | omega | (simp; done) | (simp [strBytes_len]; done) | (simp; omega) | (simp_all; done)) (.same _ _ Msg.pu (by first | rfl | (simp only [List.map_append, List.map_cons, List.map_nil, List.map_set, List.map_take, List.map_drop, List.map_replicate, List.append_assoc, List.nil_append, List.append_nil, ci_eq, cb_eq, cs_eq, cl_eq, CS,  List.nil_append]; done) | (simp [CS,  ci_eq, cb_eq, cs_eq, cl_eq]; done) | (simp [CS,  ci_eq, cb_eq, cs_eq, cl_eq]; intro hz; rw [List.take_of_length_le (by simp; omega)]))))
  · have H := cond_f zc1 H
    refine a_skip ?_
    refine sA_n ?_
    refine a_cut (fun s => ∃ (s2 : List Msg) (i1 : Int) (t0 : Nat → Dat), slices_DeleteFunc_J1 s2 i1 = some r ∧ s = ⟨tl t0 [(0, .ref 0 0 s2.length 5), (5, .int .i64 i1)], hl [⟨26, 5, false, s2.map Msg.c⟩], 1, 42⟩) ?_ ?_
    · refine a_seq ?_
      refine a_reg _ rfl (s := ?zs7) ?_ ?_
      rotate_left
      · simp (maxSteps := 2000000) only [EVT, stepR, evOp, St.ev, St.app, St.put, wrs, datOf, datOf1, evBin, binInt, TIS, CS, Nat.reduceAdd, Nat.reduceMul, Nat.reduceEqDiff, ↓reduceIte, reduceCtorEq, Nat.reduceLT, Nat.reduceLeDiff, ↓zc1]
        (repeat' apply And.intro) <;> first | rfl | assumption | omega | (left; omega) | (simp; done) | (simp; omega) | (right; exact ⟨_, rfl, rfl, rfl, by decide, by first | omega | (simp; omega)⟩) | (simp_all; done)
      refine sA_n ?_
      refine a_blk ?_
      refine a_loop (fun m s => ∃ (s3 : List Msg) (i2 : Int) (j1 : Int) (t0 : Nat → Dat), slices_DeleteFunc_L1 del1 m s3 i2 j1 = some r ∧ s = ⟨tl t0 [(0, .ref 0 0 s3.length 5), (1, .fn (.func del1_F) [] del1_caps), (5, .int .i64 i2), (6, .int .i64 j1)], hl [⟨26, 5, false, s3.map Msg.c⟩], 1, 42⟩) BIG ?_ ?_
      · refine wk_l [(some 0, ⟨26, 5, false, s1.map Msg.c⟩)] [] [(0, .ref 0 0 s1.length 5), (1, .fn (.func del1_F) [] del1_caps), (5, .int .i64 r1), (6, .int .i64 (IntKind.wrap .i64 (r1 + 1)))] (by show ([0, 1, 5, 6] : List Nat).Nodup; decide) (by show ([0] : List Nat).Nodup; decide) ?_ ?_ (fun t0 => ⟨s1, r1, (IntKind.wrap .i64 (r1 + 1)), t0, H, rfl⟩)
        · exact (allB_some (by rfl) rfl (.same _ _ Msg.pu (by first | rfl | (simp only [List.map_append, List.map_cons, List.map_nil, List.map_set, List.map_take, List.map_drop, List.map_replicate, List.append_assoc, List.nil_append, List.append_nil, ci_eq, cb_eq, cs_eq, cl_eq, CS,  List.nil_append]; done) | (simp [CS,  ci_eq, cb_eq, cs_eq, cl_eq]; done) | (simp [CS,  ci_eq, cb_eq, cs_eq, cl_eq]; intro hz; rw [List.take_of_length_le (by simp; omega)]))) trivial)
        · (simp only [AllT, tl_cons, tl_nil, upd_apply, List.getD_cons_zero, List.getD_cons_succ, Nat.reduceEqDiff, ↓reduceIte, and_true]); exact ⟨(.refl' (by first | rfl | omega | (simp; done) | (simp [strBytes_len]; done) | (simp; omega) | (simp_all; done)) rfl), (.fn' .nil (RNs.pu del1_pu)), (.int' rfl), (.int' rfl)⟩
      · rintro m_slices_DeleteFunc_L1 s ⟨s3, i2, j1, t0, H, rfl⟩
        obtain _ | m_slices_DeleteFunc_L1 := m_slices_DeleteFunc_L1
        · cases (show (none : Option _) = some _ from H)
        · rw [slices_DeleteFunc_L1] at H
          refine a_seq ?_
          refine a_seq ?_
          refine a_reg _ rfl (s := ?zs8) ?_ ?_
          rotate_left
          · simp (maxSteps := 2000000) only [EVT, stepR, evOp, St.ev, St.app, St.put, wrs, evBuiltin, evBin, binInt, TIS, CS, Nat.reduceAdd, Nat.reduceMul, Nat.reduceEqDiff, ↓reduceIte, reduceCtorEq, Nat.reduceLT, Nat.reduceLeDiff, Nat.reduceSub, Nat.reduceBEq]
            (repeat' apply And.intro) <;> first | rfl | assumption | omega | (left; omega) | (simp; done) | (simp; omega) | (right; exact ⟨_, rfl, rfl, rfl, by decide, by first | omega | (simp; omega)⟩) | (simp_all; done)
          refine sA_n ?_
          refine a_condb ((decide (j1 < (((s3.length : Nat)) : Int)))) (by rfl) (fun zc2 => ?_) (fun zc2 => ?_)
          · have H := cond_t zc2 H
            refine a_skip ?_
            refine sA_n ?_
            refine a_cut (fun s => ∃ (s4 : List Msg) (i3 : Int) (t0 : Nat → Dat), slices_DeleteFunc_J2 (slices_DeleteFunc_L1 del1 m_slices_DeleteFunc_L1) j1 s4 i3 = some r ∧ s = ⟨tl t0 [(0, .ref 0 0 s4.length 5), (1, .fn (.func del1_F) [] del1_caps), (5, .int .i64 i3), (6, .int .i64 j1)], hl [⟨26, 5, false, s4.map Msg.c⟩], 1, 42⟩) ?_ ?_
            · refine a_blk ?_
              refine a_seq ?_
              obtain ⟨x1, zh4, H⟩ := bind_some H
              have zg1 := idx_map zh4 Msg.c
              try simp only [Int.reduceToNat] at zg1
              obtain ⟨zh4a, zh4b, _⟩ := idx_some zh4
              refine a_reg _ rfl (s := ?zs10) ?_ ?_
              rotate_left
              · simp (maxSteps := 2000000) only [EVT, stepR, evOp, St.ev, St.app, St.put, wrs, evIndexAddr, evLoad, cut, allOne, evStore, setR, TIS, CS, Nat.reduceAdd, Nat.reduceMul, Nat.reduceEqDiff, ↓reduceIte, reduceCtorEq, Nat.reduceLT, Nat.reduceLeDiff, Int.reduceToNat, Nat.reduceSub, Nat.reduceBEq, ↓zc2, zg1]
                (repeat' apply And.intro) <;> first | rfl | assumption | omega | (left; omega) | (simp; done) | (simp; omega) | (right; exact ⟨_, rfl, rfl, rfl, by decide, by first | omega | (simp; omega)⟩) | (simp_all; done)
              refine sA_n ?_
              refine a_seq ?_
              obtain ⟨r2, zh5, H⟩ := bind_some H
              have zk2 := del1_hp _ _ zh5
              refine a_reg _ rfl (s := ?zs11) ?_ ?_
              rotate_left
              · try simp (maxSteps := 2000000) only [EVT, stepR, evOp, St.ev, St.app, St.put, wrs, evLoad, cut, frz, evUn, TIS, CS, Nat.reduceAdd, Nat.reduceMul, Nat.reduceEqDiff, ↓reduceIte, reduceCtorEq, Nat.reduceLT, Nat.reduceLeDiff, Nat.reduceSub, Nat.reduceBEq, ↓zc2, zg1]
                repeat' with_reducible apply And.intro
                all_goals try ((with_reducible show CallR _ _ _ _ _ _ _); refine cR_s zk2 (.cons (.agg' (.cons (.int' rfl) (.cons (.int' rfl) (.cons (.int' rfl) (.cons (.lst _ _ _ (ci_pu .i64) rfl) (.cons (.lst _ _ _ (ci_pu .u8) rfl) .nil)))))) (Pus.purRs del1_pu)) (.bool _) ?_; simp (maxSteps := 2000000) only [EVT, stepR, evOp, St.ev, St.app, St.put, wrs, evLoad, cut, frz, evUn, TIS, CS, Nat.reduceAdd, Nat.reduceMul, Nat.reduceEqDiff, ↓reduceIte, reduceCtorEq, Nat.reduceLT, Nat.reduceLeDiff, Nat.reduceSub, Nat.reduceBEq, ↓zc2, zg1])
                all_goals ((repeat' apply And.intro) <;> first | rfl | assumption | omega | (left; omega) | (simp; done) | (simp; omega) | (right; exact ⟨_, rfl, rfl, rfl, by decide, by first | omega | (simp; omega)⟩) | (simp_all; done))
              refine sA_n ?_
              refine a_condb ((!r2)) (by rfl) (fun zc3 => ?_) (fun zc3 => ?_)
              · have H := cond_t zc3 H
                refine a_seq ?_
                obtain ⟨x2, zh6, H⟩ := bind_some H
                have zg2 := idx_map zh6 Msg.c
                try simp only [Int.reduceToNat] at zg2
                obtain ⟨zh6a, zh6b, _⟩ := idx_some zh6
                refine a_reg _ rfl (s := ?zs12) ?_ ?_
                rotate_left
                · simp (maxSteps := 2000000) only [EVT, stepR, evOp, St.ev, St.app, St.put, wrs, evLoad, cut, evIndexAddr, evStore, setR, allOne, TIS, CS, Nat.reduceAdd, Nat.reduceMul, Nat.reduceEqDiff, ↓reduceIte, reduceCtorEq, Nat.reduceLT, Nat.reduceLeDiff, Int.reduceToNat, Nat.reduceSub, Nat.reduceBEq, ↓zc2, zg1, ↓zc3, zg2]
                  (repeat' apply And.intro) <;> first | rfl | assumption | omega | (left; omega) | (simp; done) | (simp; omega) | (right; exact ⟨_, rfl, rfl, rfl, by decide, by first | omega | (simp; omega)⟩) | (simp_all; done)
                refine sA_n ?_
                refine a_reg _ rfl (s := ?zs13) ?_ ?_
                rotate_left
                · simp (maxSteps := 2000000) only [EVT, stepR, evOp, St.ev, St.app, St.put, wrs, datOf, datOf1, evBin, binInt, TIS, CS, Nat.reduceAdd, Nat.reduceMul, Nat.reduceEqDiff, ↓reduceIte, reduceCtorEq, Nat.reduceLT, Nat.reduceLeDiff, ↓zc2, zg1, ↓zc3, zg2]
                  (repeat' apply And.intro) <;> first | rfl | assumption | omega | (left; omega) | (simp; done) | (simp; omega) | (right; exact ⟨_, rfl, rfl, rfl, by decide, by first | omega | (simp; omega)⟩) | (simp_all; done)
                refine bA_n ?_
                refine cA_n ?_
                refine wk_l [(some 0, ⟨26, 5, false, (s3.set i2.toNat x1).map Msg.c⟩)] [] [(0, .ref 0 0 (s3.set i2.toNat x1).length 5), (1, .fn (.func del1_F) [] del1_caps), (5, .int .i64 (IntKind.wrap .i64 (i2 + 1))), (6, .int .i64 j1)] (by show ([0, 1, 5, 6] : List Nat).Nodup; decide) (by show ([0] : List Nat).Nodup; decide) ?_ ?_ (fun t0 => ⟨(s3.set i2.toNat x1), (IntKind.wrap .i64 (i2 + 1)), t0, H, rfl⟩)
                · exact (allB_some (by rfl) rfl (.same _ _ Msg.pu (by first | rfl | (simp only [List.map_append, List.map_cons, List.map_nil, List.map_set, List.map_take, List.map_drop, List.map_replicate, List.append_assoc, List.nil_append, List.append_nil, ci_eq, cb_eq, cs_eq, cl_eq, CS,  List.nil_append]; done) | (simp [CS,  ci_eq, cb_eq, cs_eq, cl_eq]; done) | (simp [CS,  ci_eq, cb_eq, cs_eq, cl_eq]; intro hz; rw [List.take_of_length_le (by simp; omega)]))) trivial)
                · (simp only [AllT, tl_cons, tl_nil, upd_apply, List.getD_cons_zero, List.getD_cons_succ, Nat.reduceEqDiff, ↓reduceIte, and_true]); exact ⟨(.refl' (by first | rfl | omega | (simp; done) | (simp [strBytes_len]; done) | (simp; omega) | (simp_all; done)) rfl), (.fn' .nil (RNs.pu del1_pu)), (.int' rfl), (.int' rfl)⟩
              · have H := cond_f zc3 H
                refine a_skip ?_
                refine bA_n ?_
                refine cA_n ?_
                refine wk_l [(some 0, ⟨26, 5, false, s3.map Msg.c⟩)] [] [(0, .ref 0 0 s3.length 5), (1, .fn (.func del1_F) [] del1_caps), (5, .int .i64 i2), (6, .int .i64 j1)] (by show ([0, 1, 5, 6] : List Nat).Nodup; decide) (by show ([0] : List Nat).Nodup; decide) ?_ ?_ (fun t0 => ⟨s3, i2, t0, H, rfl⟩)
                · exact (allB_some (by rfl) rfl (.same _ _ Msg.pu (by first | rfl | (simp only [List.map_append, List.map_cons, List.map_nil, List.map_set, List.map_take, List.map_drop, List.map_replicate, List.append_assoc, List.nil_append, List.append_nil, ci_eq, cb_eq, cs_eq, cl_eq, CS,  List.nil_append]; done) | (simp [CS,  ci_eq, cb_eq, cs_eq, cl_eq]; done) | (simp [CS,  ci_eq, cb_eq, cs_eq, cl_eq]; intro hz; rw [List.take_of_length_le (by simp; omega)]))) trivial)
                · (simp only [AllT, tl_cons, tl_nil, upd_apply, List.getD_cons_zero, List.getD_cons_succ, Nat.reduceEqDiff, ↓reduceIte, and_true]); exact ⟨(.refl' (by first | rfl | omega | (simp; done) | (simp [strBytes_len]; done) | (simp; omega) | (simp_all; done)) rfl), (.fn' .nil (RNs.pu del1_pu)), (.int' rfl), (.int' rfl)⟩
            · rintro s ⟨s4, i3, t0, H, rfl⟩
              unfold slices_DeleteFunc_J2 at H
              refine a_reg _ rfl (s := ?zs9) ?_ ?_
              rotate_left
              · simp (maxSteps := 2000000) only [EVT, stepR, evOp, St.ev, St.app, St.put, wrs, datOf, datOf1, evBin, binInt, TIS, CS, Nat.reduceAdd, Nat.reduceMul, Nat.reduceEqDiff, ↓reduceIte, reduceCtorEq, Nat.reduceLT, Nat.reduceLeDiff]
                (repeat' apply And.intro) <;> first | rfl | assumption | omega | (left; omega) | (simp; done) | (simp; omega) | (right; exact ⟨_, rfl, rfl, rfl, by decide, by first | omega | (simp; omega)⟩) | (simp_all; done)
              refine lA_n ?_
              refine wk_l [(some 0, ⟨26, 5, false, s4.map Msg.c⟩)] [] [(0, .ref 0 0 s4.length 5), (1, .fn (.func del1_F) [] del1_caps), (5, .int .i64 i3), (6, .int .i64 (IntKind.wrap .i64 (j1 + 1)))] (by show ([0, 1, 5, 6] : List Nat).Nodup; decide) (by show ([0] : List Nat).Nodup; decide) ?_ ?_ (fun t0 => ⟨_, Nat.lt_succ_self _, s4, i3, (IntKind.wrap .i64 (j1 + 1)), t0, H, rfl⟩)
              · exact (allB_some (by rfl) rfl (.same _ _ Msg.pu (by first | rfl | (simp only [List.map_append, List.map_cons, List.map_nil, List.map_set, List.map_take, List.map_drop, List.map_replicate, List.append_assoc, List.nil_append, List.append_nil, ci_eq, cb_eq, cs_eq, cl_eq, CS,  List.nil_append]; done) | (simp [CS,  ci_eq, cb_eq, cs_eq, cl_eq]; done) | (simp [CS,  ci_eq, cb_eq, cs_eq, cl_eq]; intro hz; rw [List.take_of_length_le (by simp; omega)]))) trivial)
              · (simp only [AllT, tl_cons, tl_nil, upd_apply, List.getD_cons_zero, List.getD_cons_succ, Nat.reduceEqDiff, ↓reduceIte, and_true]); exact ⟨(.refl' (by first | rfl | omega | (simp; done) | (simp [strBytes_len]; done) | (simp; omega) | (simp_all; done)) rfl), (.fn' .nil (RNs.pu del1_pu)), (.int' rfl), (.int' rfl)⟩
          · have H := cond_f zc2 H
            refine a_exit ?_
            refine sA_e ?_
            refine lA_e ?_
            refine bA_hit ?_
            refine cA_n ?_
            refine wk_l [(some 0, ⟨26, 5, false, s3.map Msg.c⟩)] [] [(0, .ref 0 0 s3.length 5), (5, .int .i64 i2)] (by show ([0, 5] : List Nat).Nodup; decide) (by show ([0] : List Nat).Nodup; decide) ?_ ?_ (fun t0 => ⟨s3, i2, t0, H, rfl⟩)
            · exact (allB_some (by rfl) rfl (.same _ _ Msg.pu (by first | rfl | (simp only [List.map_append, List.map_cons, List.map_nil, List.map_set, List.map_take, List.map_drop, List.map_replicate, List.append_assoc, List.nil_append, List.append_nil, ci_eq, cb_eq, cs_eq, cl_eq, CS,  List.nil_append]; done) | (simp [CS,  ci_eq, cb_eq, cs_eq, cl_eq]; done) | (simp [CS,  ci_eq, cb_eq, cs_eq, cl_eq]; intro hz; rw [List.take_of_length_le (by simp; omega)]))) trivial)
            · (simp only [AllT, tl_cons, tl_nil, upd_apply, List.getD_cons_zero, List.getD_cons_succ, Nat.reduceEqDiff, ↓reduceIte, and_true]); exact ⟨(.refl' (by first | rfl | omega | (simp; done) | (simp [strBytes_len]; done) | (simp; omega) | (simp_all; done)) rfl), (.int' rfl)⟩
    · rintro s ⟨s2, i1, t0, H, rfl⟩
      unfold slices_DeleteFunc_J1 at H
      refine a_seq ?_
      obtain ⟨zh2, H⟩ := chk_some H
      refine a_reg _ rfl (s := ?zs5) ?_ ?_
      rotate_left
      · simp (maxSteps := 2000000) only [EVT, stepR, evOp, St.ev, St.app, St.put, wrs, evSlice, sliceOk, sl_if0, sl_if1, sl_if2, sl_if3, tk_map, dp_map, evBuiltin, evClear, allOne, TIS, CS, Nat.reduceAdd, Nat.reduceMul, Nat.reduceEqDiff, ↓reduceIte, reduceCtorEq, Nat.reduceLT, Nat.reduceLeDiff, Int.reduceToNat, Nat.reduceSub, Nat.reduceBEq]
        (repeat' apply And.intro) <;> first | rfl | assumption | omega | (left; omega) | (simp; done) | (simp; omega) | (right; exact ⟨_, rfl, rfl, rfl, by decide, by first | omega | (simp; omega)⟩) | (simp_all; done)
      refine sA_n ?_
      refine a_seq ?_
      obtain ⟨zh3, H⟩ := chk_some H
      refine a_reg _ rfl (s := ?zs6) ?_ ?_
      rotate_left
      · simp (maxSteps := 2000000) only [EVT, stepR, evOp, St.ev, St.app, St.put, wrs, evSlice, sliceOk, sl_if0, sl_if1, sl_if2, sl_if3, tk_map, dp_map, TIS, CS, Nat.reduceAdd, Nat.reduceMul, Nat.reduceEqDiff, ↓reduceIte, reduceCtorEq, Nat.reduceLT, Nat.reduceLeDiff, Int.reduceToNat, Nat.reduceSub]
        (repeat' apply And.intro) <;> first | rfl | assumption | omega | (left; omega) | (simp; done) | (simp; omega) | (right; exact ⟨_, rfl, rfl, rfl, by decide, by first | omega | (simp; omega)⟩) | (simp_all; done)
      refine sA_n ?_
      refine a_ret ?_
      obtain rfl := Option.some.inj H
      refine eR_r ?_
      refine wk_ln 0 [] [0] [(4, .list 5 ((s2.take i1.toNat).map Msg.c))] (fun i h => absurd h (Nat.not_lt_zero i)) (by show ([4] : List Nat).Nodup; decide) (by show ([] : List Nat).Nodup; decide) ?_ ?_ (fun t0 => ⟨by first | rfl | (simp only [EVT, resR, single, evLoad, cut, TIS, CS, Nat.reduceAdd, Nat.reduceEqDiff, ↓reduceIte, reduceCtorEq, Nat.reduceLT, Nat.reduceLeDiff, Nat.reduceSub, Nat.reduceBEq]; (repeat' apply And.intro) <;> first | rfl | (simp; done)), fun j B h => by rcases j with _ <;> first | exact h | (exact absurd h (by simp [hh]))⟩)
      · exact trivial
      · (simp only [AllT, tl_cons, tl_nil, upd_apply, List.getD_cons_zero, List.getD_cons_succ, Nat.reduceEqDiff, ↓reduceIte, and_true]); exact (.frzs (by rfl) (by simp) rfl (by first | rfl | omega | (simp; done) | (simp [strBytes_len]; done) | (simp; omega) | (simp_all; done)) (by first | rfl | omega | (simp; done) | (simp [strBytes_len]; done) | (simp; omega) | (simp_all; done)) (.same _ _ Msg.pu (by (refine tk_garb _ _ (by first | (simp; done) | (simp; omega)) ?_); first | rfl | (rw [List.take_append_of_le_length (by simp; omega), List.take_of_length_le (by simp; omega)]; simp only [tk_dr, List.map_append]; done) | (simp; done) | (simp; omega))))
end
end Go.Proofs.Yteebeajhoemdpaa
