/- Functions of the program as Lean functions, and that they are so; printed by a program of mine. -/
import Derived.Test.YtecdonbjabjaeaaF1
set_option linter.unusedSimpArgs false
set_option linter.unusedVariables false
namespace Go.Proofs.Ytecdonbjabjaeaa
open Go.Ab
noncomputable section

def law14_Group_J2 (out1 : List Seat) : Option (List Seat) :=
  some (out1)
def law14_Group_J3 (k_law14_Group_L1 : (List Seat) → Int → Option (List Seat)) (i2 : Int) (out4 : List Seat) : Option (List Seat) :=
  k_law14_Group_L1 out4 (IntKind.wrap .i64 (i2 + 1))
def law14_Group_J4 (k_law14_Group_L1 : (List Seat) → Int → Option (List Seat)) (out3 : List Seat) (i2 : Int) (peers1 : List Int) (log1 : List Entry) : Option (List Seat) :=
  chk ((out3.length + 1) * 160 ≤ 140737488355328) (law14_Group_J3 k_law14_Group_L1 i2 (out3 ++ [(⟨i2, peers1, 4, (-1), 1, log1, 0, [], [], []⟩ : Seat)]))
def law14_Group_L2 (k_law14_Group_L1 : (List Seat) → Int → Option (List Seat)) (logs1 : List (List Int)) (i2 : Int) (out3 : List Seat) (peers1 : List Int) : Nat → (List Entry) → Int → Int → Option (List Seat)
  | 0, _, _, _ => none
  | m_ + 1, log2, last1, k1 => (idx logs1 i2).bind fun x1 => cond (decide (k1 < (x1.length : Int))) ((idx x1 k1).bind fun x2 => chk ((log2.length + 1) * 32 ≤ 140737488355328) (law14_Group_L2 k_law14_Group_L1 logs1 i2 out3 peers1 m_ (log2 ++ [(⟨(if (IntKind.wrap .i64 (last1 + (Int.tmod (IntKind.wrap .i64 x2) 3))) < 4 then (IntKind.wrap .i64 (last1 + (Int.tmod (IntKind.wrap .i64 x2) 3))) else 4), []⟩ : Entry)]) (if (IntKind.wrap .i64 (last1 + (Int.tmod (IntKind.wrap .i64 x2) 3))) < 4 then (IntKind.wrap .i64 (last1 + (Int.tmod (IntKind.wrap .i64 x2) 3))) else 4) (IntKind.wrap .i64 (k1 + 1)))) (law14_Group_J4 k_law14_Group_L1 out3 i2 peers1 log2)
def law14_Group_L1 (logs1 : List (List Int)) (peers1 : List Int) : Nat → (List Seat) → Int → Option (List Seat)
  | 0, _, _ => none
  | m_ + 1, out3, i2 => cond (decide (i2 < (logs1.length : Int))) (law14_Group_L2 (law14_Group_L1 logs1 peers1 m_) logs1 i2 out3 peers1 BIG [] 0 0) (law14_Group_J2 out3)
def law14_Group_J1 (logs1 : List (List Int)) (peers1 : List Int) : Option (List Seat) :=
  law14_Group_L1 logs1 peers1 BIG [] 0
def law14_Group_L3 (logs1 : List (List Int)) : Nat → (List Int) → Int → Option (List Seat)
  | 0, _, _ => none
  | m_ + 1, peers2, i3 => cond (decide (i3 < (logs1.length : Int))) (chk ((peers2.length + 1) * 8 ≤ 140737488355328) (law14_Group_L3 logs1 m_ (peers2 ++ [i3]) (IntKind.wrap .i64 (i3 + 1)))) (law14_Group_J1 logs1 peers2)
def law14_Group_f (logs1 : List (List Int)) : Option (List Seat) :=
  law14_Group_L3 logs1 BIG [] 0
set_option maxHeartbeats 4000000 in
set_option maxRecDepth 20000 in
theorem law14_Group_rc {logs1 : List (List Int)} {r : (List Seat)} (H : law14_Group_f logs1 = some r) : RC Try.prog 19 [.list 1 (logs1.map (cl 1 (ci .u8)))] [] 0 (.ref 0 0 r.length 10) [some ⟨25, 10, false, r.map Seat.c⟩] := by
  refine rcA_of Try.func19 (by rfl) (by decide) 62 (by rfl) [.tmp 2] (by rfl) ?_
  unfold law14_Group_f at H
  simp only [hent, List.length_cons, List.length_nil, Nat.reduceAdd]
  refine a_seq ?_
  refine a_reg _ rfl (s := ?zs1) ?_ ?_
  rotate_left
  · simp (maxSteps := 2000000) only [EVT, stepR, evOp, St.ev, St.app, St.put, wrs, datOf, datOf1, TIS, CS, Nat.reduceAdd, Nat.reduceMul, Nat.reduceEqDiff, ↓reduceIte, reduceCtorEq, Nat.reduceLT, Nat.reduceLeDiff]
    (repeat' apply And.intro) <;> first | rfl | assumption | omega | (simp; done) | (simp; omega) | (simp_all; done)
  refine sA_n ?_
  refine a_seq ?_
  refine a_reg _ rfl (s := ?zs2) ?_ ?_
  rotate_left
  · simp (maxSteps := 2000000) only [EVT, stepR, evOp, St.ev, St.app, St.put, wrs, datOf, datOf1, TIS, CS, Nat.reduceAdd, Nat.reduceMul, Nat.reduceEqDiff, ↓reduceIte, reduceCtorEq, Nat.reduceLT, Nat.reduceLeDiff]
    (repeat' apply And.intro) <;> first | rfl | assumption | omega | (simp; done) | (simp; omega) | (simp_all; done)
  refine sA_n ?_
  refine a_cut (fun s => ∃ (peers1 : List Int) (t0 : Nat → Dat), law14_Group_J1 logs1 peers1 = some r ∧ s = ⟨tl t0 [(0, .list 1 (logs1.map (cl 1 (ci .u8)))), (3, .ref 0 0 peers1.length 1)], hl [⟨3, 1, false, peers1.map (ci .i64)⟩], 1, 62⟩) ?_ ?_
  · refine a_seq ?_
    refine a_reg _ rfl (s := ?zs16) ?_ ?_
    rotate_left
    · simp (maxSteps := 2000000) only [EVT, stepR, evOp, St.ev, St.app, St.put, wrs, datOf, datOf1, TIS, CS, Nat.reduceAdd, Nat.reduceMul, Nat.reduceEqDiff, ↓reduceIte, reduceCtorEq, Nat.reduceLT, Nat.reduceLeDiff]
      (repeat' apply And.intro) <;> first | rfl | assumption | omega | (simp; done) | (simp; omega) | (simp_all; done)
    refine sA_n ?_
    refine a_blk ?_
    refine a_loop (fun m s => ∃ (peers2 : List Int) (i3 : Int) (t0 : Nat → Dat), law14_Group_L3 logs1 m peers2 i3 = some r ∧ s = ⟨tl t0 [(0, .list 1 (logs1.map (cl 1 (ci .u8)))), (3, .ref 0 0 peers2.length 1), (4, .int .i64 i3)], hl [⟨3, 1, false, peers2.map (ci .i64)⟩], 1, 62⟩) BIG ?_ ?_
    · refine wk_l [(none, ⟨3, 1, false, [].map (ci .i64)⟩)] [] [(0, .list 1 (logs1.map (cl 1 (ci .u8)))), (3, .ref 0 0 [].length 1), (4, .int .i64 0)] (by show ([0, 3, 4] : List Nat).Nodup; decide) (by show ([] : List Nat).Nodup; decide) ?_ ?_ (fun t0 => ⟨[], 0, t0, H, rfl⟩)
      · exact (allB_none rfl trivial)
      · (simp only [AllT, tl_cons, tl_nil, upd_apply, List.getD_cons_zero, List.getD_cons_succ, Nat.reduceEqDiff, ↓reduceIte, and_true]); exact ⟨(.lst _ _ _ (cl_pu (ci_pu .u8)) rfl), (.nilv _ _ rfl rfl), (.int' rfl)⟩
    · rintro m_law14_Group_L3 s ⟨peers2, i3, t0, H, rfl⟩
      obtain _ | m_law14_Group_L3 := m_law14_Group_L3
      · cases (show (none : Option _) = some _ from H)
      · rw [law14_Group_L3] at H
        refine a_seq ?_
        refine a_seq ?_
        refine a_reg _ rfl (s := ?zs17) ?_ ?_
        rotate_left
        · simp (maxSteps := 2000000) only [EVT, stepR, evOp, St.ev, St.app, St.put, wrs, evBuiltin, evBin, binInt, TIS, CS, Nat.reduceAdd, Nat.reduceMul, Nat.reduceEqDiff, ↓reduceIte, reduceCtorEq, Nat.reduceLT, Nat.reduceLeDiff, Nat.reduceSub, Nat.reduceBEq]
          (repeat' apply And.intro) <;> first | rfl | assumption | omega | (simp; done) | (simp; omega) | (simp_all; done)
        refine sA_n ?_
        refine a_condb ((decide (i3 < (logs1.length : Int)))) (by rfl) (fun zc3 => ?_) (fun zc3 => ?_)
        · have H := cond_t zc3 H
          refine a_skip ?_
          refine sA_n ?_
          refine a_seq ?_
          refine a_blk ?_
          obtain ⟨zh5, H⟩ := chk_some H
          refine a_reg _ rfl (s := ?zs18) ?_ ?_
          rotate_left
          · simp (maxSteps := 2000000) only [EVT, stepR, evOp, St.ev, St.app, St.put, wrs, allOne, evBuiltin, evAppend, elems, Option.elim, TIS, CS, Nat.reduceAdd, Nat.reduceMul, Nat.reduceEqDiff, ↓reduceIte, reduceCtorEq, Nat.reduceLT, Nat.reduceLeDiff, Nat.reduceSub, Nat.reduceBEq, ↓zc3]
            (repeat' apply And.intro) <;> first | rfl | assumption | omega | (simp; done) | (simp; omega) | (simp_all; done)
          refine bA_n ?_
          refine sA_n ?_
          refine a_reg _ rfl (s := ?zs19) ?_ ?_
          rotate_left
          · simp (maxSteps := 2000000) only [EVT, stepR, evOp, St.ev, St.app, St.put, wrs, datOf, datOf1, evBin, binInt, TIS, CS, Nat.reduceAdd, Nat.reduceMul, Nat.reduceEqDiff, ↓reduceIte, reduceCtorEq, Nat.reduceLT, Nat.reduceLeDiff, ↓zc3]
            (repeat' apply And.intro) <;> first | rfl | assumption | omega | (simp; done) | (simp; omega) | (simp_all; done)
          refine lA_n ?_
          refine wk_l [(some 36, ⟨3, 1, false, (peers2 ++ [i3]).map (ci .i64)⟩)] [] [(0, .list 1 (logs1.map (cl 1 (ci .u8)))), (3, .ref 0 0 (peers2 ++ [i3]).length 1), (4, .int .i64 (IntKind.wrap .i64 (i3 + 1)))] (by show ([0, 3, 4] : List Nat).Nodup; decide) (by show ([36] : List Nat).Nodup; decide) ?_ ?_ (fun t0 => ⟨_, Nat.lt_succ_self _, (peers2 ++ [i3]), (IntKind.wrap .i64 (i3 + 1)), t0, H, rfl⟩)
          · exact (allB_some (by rfl) rfl (.same _ _ (ci_pu .i64) (by first | rfl | (simp only [List.map_append, List.map_cons, List.map_nil, List.map_set, List.map_take, List.map_drop, List.map_replicate, List.append_assoc, List.nil_append, List.append_nil, ci_eq, cb_eq, cs_eq, cl_eq, CS,  List.nil_append]; done) | (simp [CS,  ci_eq, cb_eq, cs_eq, cl_eq]; done))) trivial)
          · (simp only [AllT, tl_cons, tl_nil, upd_apply, List.getD_cons_zero, List.getD_cons_succ, Nat.reduceEqDiff, ↓reduceIte, and_true]); exact ⟨(.lst _ _ _ (cl_pu (ci_pu .u8)) rfl), (.refl' (by first | rfl | omega | (simp; done) | (simp_all; done)) rfl), (.int' rfl)⟩
        · have H := cond_f zc3 H
          refine a_exit ?_
          refine sA_e ?_
          refine lA_e ?_
          refine bA_hit ?_
          refine cA_n ?_
          refine wk_l [(some 0, ⟨3, 1, false, peers2.map (ci .i64)⟩)] [] [(0, .list 1 (logs1.map (cl 1 (ci .u8)))), (3, .ref 0 0 peers2.length 1)] (by show ([0, 3] : List Nat).Nodup; decide) (by show ([0] : List Nat).Nodup; decide) ?_ ?_ (fun t0 => ⟨peers2, t0, H, rfl⟩)
          · exact (allB_some (by rfl) rfl (.same _ _ (ci_pu .i64) (by first | rfl | (simp only [List.map_append, List.map_cons, List.map_nil, List.map_set, List.map_take, List.map_drop, List.map_replicate, List.append_assoc, List.nil_append, List.append_nil, ci_eq, cb_eq, cs_eq, cl_eq, CS,  List.nil_append]; done) | (simp [CS,  ci_eq, cb_eq, cs_eq, cl_eq]; done))) trivial)
          · (simp only [AllT, tl_cons, tl_nil, upd_apply, List.getD_cons_zero, List.getD_cons_succ, Nat.reduceEqDiff, ↓reduceIte, and_true]); exact ⟨(.lst _ _ _ (cl_pu (ci_pu .u8)) rfl), (.refl' (by first | rfl | omega | (simp; done) | (simp_all; done)) rfl)⟩
  · rintro s ⟨peers1, t0, H, rfl⟩
    unfold law14_Group_J1 at H
    refine a_seq ?_
    refine a_reg _ rfl (s := ?zs3) ?_ ?_
    rotate_left
    · simp (maxSteps := 2000000) only [EVT, stepR, evOp, St.ev, St.app, St.put, wrs, datOf, datOf1, TIS, CS, Nat.reduceAdd, Nat.reduceMul, Nat.reduceEqDiff, ↓reduceIte, reduceCtorEq, Nat.reduceLT, Nat.reduceLeDiff]
      (repeat' apply And.intro) <;> first | rfl | assumption | omega | (simp; done) | (simp; omega) | (simp_all; done)
    refine sA_n ?_
    refine a_cut (fun s => ∃ (out1 : List Seat) (t0 : Nat → Dat), law14_Group_J2 out1 = some r ∧ s = ⟨tl t0 [(5, .ref 0 0 out1.length 10)], hl [⟨25, 10, false, out1.map Seat.c⟩], 1, 62⟩) ?_ ?_
    · refine a_seq ?_
      refine a_reg _ rfl (s := ?zs5) ?_ ?_
      rotate_left
      · simp (maxSteps := 2000000) only [EVT, stepR, evOp, St.ev, St.app, St.put, wrs, datOf, datOf1, TIS, CS, Nat.reduceAdd, Nat.reduceMul, Nat.reduceEqDiff, ↓reduceIte, reduceCtorEq, Nat.reduceLT, Nat.reduceLeDiff]
        (repeat' apply And.intro) <;> first | rfl | assumption | omega | (simp; done) | (simp; omega) | (simp_all; done)
      refine sA_n ?_
      refine a_blk ?_
      refine a_loop (fun m s => ∃ (out3 : List Seat) (i2 : Int) (t0 : Nat → Dat), law14_Group_L1 logs1 peers1 m out3 i2 = some r ∧ s = ⟨tl t0 [(0, .list 1 (logs1.map (cl 1 (ci .u8)))), (3, .list 1 (peers1.map (ci .i64))), (5, .ref 0 0 out3.length 10), (6, .int .i64 i2)], hl [⟨25, 10, false, out3.map Seat.c⟩], 1, 62⟩) BIG ?_ ?_
      · refine wk_l [(none, ⟨25, 10, false, [].map Seat.c⟩)] [0] [(0, .list 1 (logs1.map (cl 1 (ci .u8)))), (3, .list 1 (peers1.map (ci .i64))), (5, .ref 0 0 [].length 10), (6, .int .i64 0)] (by show ([0, 3, 5, 6] : List Nat).Nodup; decide) (by show ([] : List Nat).Nodup; decide) ?_ ?_ (fun t0 => ⟨[], 0, t0, H, rfl⟩)
        · exact (allB_none rfl trivial)
        · (simp only [AllT, tl_cons, tl_nil, upd_apply, List.getD_cons_zero, List.getD_cons_succ, Nat.reduceEqDiff, ↓reduceIte, and_true]); exact ⟨(.lst _ _ _ (cl_pu (ci_pu .u8)) rfl), (.frz' (by rfl) (by simp) rfl (by first | rfl | omega | (simp; done) | (simp_all; done)) (.same _ _ (ci_pu .i64) (by first | rfl | (simp only [List.map_append, List.map_cons, List.map_nil, List.map_set, List.map_take, List.map_drop, List.map_replicate, List.append_assoc, List.nil_append, List.append_nil, ci_eq, cb_eq, cs_eq, cl_eq, CS,  List.nil_append]; done) | (simp [CS,  ci_eq, cb_eq, cs_eq, cl_eq]; done)))), (.nilv _ _ rfl rfl), (.int' rfl)⟩
      · rintro m_law14_Group_L1 s ⟨out3, i2, t0, H, rfl⟩
        obtain _ | m_law14_Group_L1 := m_law14_Group_L1
        · cases (show (none : Option _) = some _ from H)
        · rw [law14_Group_L1] at H
          refine a_seq ?_
          refine a_seq ?_
          refine a_reg _ rfl (s := ?zs6) ?_ ?_
          rotate_left
          · simp (maxSteps := 2000000) only [EVT, stepR, evOp, St.ev, St.app, St.put, wrs, evBuiltin, evBin, binInt, TIS, CS, Nat.reduceAdd, Nat.reduceMul, Nat.reduceEqDiff, ↓reduceIte, reduceCtorEq, Nat.reduceLT, Nat.reduceLeDiff, Nat.reduceSub, Nat.reduceBEq]
            (repeat' apply And.intro) <;> first | rfl | assumption | omega | (simp; done) | (simp; omega) | (simp_all; done)
          refine sA_n ?_
          refine a_condb ((decide (i2 < (logs1.length : Int)))) (by rfl) (fun zc1 => ?_) (fun zc1 => ?_)
          · have H := cond_t zc1 H
            refine a_skip ?_
            refine sA_n ?_
            refine a_cut (fun s => ∃ (out4 : List Seat) (t0 : Nat → Dat), law14_Group_J3 (law14_Group_L1 logs1 peers1 m_law14_Group_L1) i2 out4 = some r ∧ s = ⟨tl t0 [(0, .list 1 (logs1.map (cl 1 (ci .u8)))), (3, .list 1 (peers1.map (ci .i64))), (5, .ref 0 0 out4.length 10), (6, .int .i64 i2)], hl [⟨25, 10, false, out4.map Seat.c⟩], 1, 62⟩) ?_ ?_
            · refine a_blk ?_
              refine a_seq ?_
              refine a_reg _ rfl (s := ?zs8) ?_ ?_
              rotate_left
              · simp (maxSteps := 2000000) only [EVT, stepR, evOp, St.ev, St.app, St.put, wrs, datOf, datOf1, fillD, setR, allOne, evStore, TIS, CS, Nat.reduceAdd, Nat.reduceMul, Nat.reduceEqDiff, ↓reduceIte, reduceCtorEq, Nat.reduceLT, Nat.reduceLeDiff, Nat.reduceSub, Nat.reduceBEq, ↓zc1]
                (repeat' apply And.intro) <;> first | rfl | assumption | omega | (simp; done) | (simp; omega) | (simp_all; done)
              refine sA_n ?_
              refine a_seq ?_
              refine a_reg _ rfl (s := ?zs9) ?_ ?_
              rotate_left
              · simp (maxSteps := 2000000) only [EVT, stepR, evOp, St.ev, St.app, St.put, wrs, datOf, datOf1, TIS, CS, Nat.reduceAdd, Nat.reduceMul, Nat.reduceEqDiff, ↓reduceIte, reduceCtorEq, Nat.reduceLT, Nat.reduceLeDiff, ↓zc1]
                (repeat' apply And.intro) <;> first | rfl | assumption | omega | (simp; done) | (simp; omega) | (simp_all; done)
              refine sA_n ?_
              refine a_cut (fun s => ∃ (log1 : List Entry) (t0 : Nat → Dat), law14_Group_J4 (law14_Group_L1 logs1 peers1 m_law14_Group_L1) out3 i2 peers1 log1 = some r ∧ s = ⟨tl t0 [(0, .list 1 (logs1.map (cl 1 (ci .u8)))), (3, .list 1 (peers1.map (ci .i64))), (5, .ref 0 0 out3.length 10), (6, .int .i64 i2), (7, .ptr 1 0 0 10)], hl [⟨25, 10, false, out3.map Seat.c⟩, ⟨25, 10, false, [[.int .i64 i2, .list 1 (peers1.map (ci .i64)), .int .i64 4, .int .i64 (-1), .int .i64 1, .ref 2 0 log1.length 2, .int .i64 0, .nil, .nil, .nil]]⟩, ⟨55, 2, false, log1.map Entry.c⟩], 3, 62⟩) ?_ ?_
              · refine a_seq ?_
                refine a_reg _ rfl (s := ?zs11) ?_ ?_
                rotate_left
                · simp (maxSteps := 2000000) only [EVT, stepR, evOp, St.ev, St.app, St.put, wrs, datOf, datOf1, TIS, CS, Nat.reduceAdd, Nat.reduceMul, Nat.reduceEqDiff, ↓reduceIte, reduceCtorEq, Nat.reduceLT, Nat.reduceLeDiff, ↓zc1]
                  (repeat' apply And.intro) <;> first | rfl | assumption | omega | (simp; done) | (simp; omega) | (simp_all; done)
                refine sA_n ?_
                refine a_blk ?_
                refine a_loop (fun m s => ∃ (log2 : List Entry) (last1 : Int) (k1 : Int) (t0 : Nat → Dat), law14_Group_L2 (law14_Group_L1 logs1 peers1 m_law14_Group_L1) logs1 i2 out3 peers1 m log2 last1 k1 = some r ∧ s = ⟨tl t0 [(0, .list 1 (logs1.map (cl 1 (ci .u8)))), (3, .list 1 (peers1.map (ci .i64))), (5, .ref 0 0 out3.length 10), (6, .int .i64 i2), (7, .ptr 1 0 0 10), (8, .int .i64 last1), (9, .int .i64 k1)], hl [⟨25, 10, false, out3.map Seat.c⟩, ⟨25, 10, false, [[.int .i64 i2, .list 1 (peers1.map (ci .i64)), .int .i64 4, .int .i64 (-1), .int .i64 1, .ref 2 0 log2.length 2, .int .i64 0, .nil, .nil, .nil]]⟩, ⟨55, 2, false, log2.map Entry.c⟩], 3, 62⟩) BIG ?_ ?_
                · refine wk_l [(some 0, ⟨25, 10, false, out3.map Seat.c⟩), (some 36, ⟨25, 10, false, [[.int .i64 i2, .list 1 (peers1.map (ci .i64)), .int .i64 4, .int .i64 (-1), .int .i64 1, .ref 2 0 [].length 2, .int .i64 0, .nil, .nil, .nil]]⟩), (none, ⟨55, 2, false, [].map Entry.c⟩)] [] [(0, .list 1 (logs1.map (cl 1 (ci .u8)))), (3, .list 1 (peers1.map (ci .i64))), (5, .ref 0 0 out3.length 10), (6, .int .i64 i2), (7, .ptr 1 0 0 10), (8, .int .i64 0), (9, .int .i64 0)] (by show ([0, 3, 5, 6, 7, 8, 9] : List Nat).Nodup; decide) (by show ([0, 36] : List Nat).Nodup; decide) ?_ ?_ (fun t0 => ⟨[], 0, 0, t0, H, rfl⟩)
                  · exact (allB_some (by rfl) rfl (.same _ _ Seat.pu (by first | rfl | (simp only [List.map_append, List.map_cons, List.map_nil, List.map_set, List.map_take, List.map_drop, List.map_replicate, List.append_assoc, List.nil_append, List.append_nil, ci_eq, cb_eq, cs_eq, cl_eq, CS,  List.nil_append]; done) | (simp [CS,  ci_eq, cb_eq, cs_eq, cl_eq]; done))) (allB_some (by rfl) rfl (.cons (.cons (.int' rfl) (.cons (.lst _ _ _ (ci_pu .i64) rfl) (.cons (.int' rfl) (.cons (.int' rfl) (.cons (.int' rfl) (.cons (.nilv _ _ rfl rfl) (.cons (.int' rfl) (.cons .nil' (.cons .nil' (.cons .nil' .nil)))))))))) .nil) (allB_none rfl trivial)))
                  · (simp only [AllT, tl_cons, tl_nil, upd_apply, List.getD_cons_zero, List.getD_cons_succ, Nat.reduceEqDiff, ↓reduceIte, and_true]); exact ⟨(.lst _ _ _ (cl_pu (ci_pu .u8)) rfl), (.lst _ _ _ (ci_pu .i64) rfl), (.refl' (by first | rfl | omega | (simp; done) | (simp_all; done)) rfl), (.int' rfl), (.ptr _ _ _ _ _ rfl), (.int' rfl), (.int' rfl)⟩
                · rintro m_law14_Group_L2 s ⟨log2, last1, k1, t0, H, rfl⟩
                  obtain _ | m_law14_Group_L2 := m_law14_Group_L2
                  · cases (show (none : Option _) = some _ from H)
                  · rw [law14_Group_L2] at H
                    refine a_seq ?_
                    refine a_seq ?_
                    obtain ⟨x1, zh2, H⟩ := bind_some H
                    have zg1 := idx_map zh2 (cl 1 (ci .u8))
                    obtain ⟨zh2a, zh2b, _⟩ := idx_some zh2
                    refine a_reg _ rfl (s := ?zs12) ?_ ?_
                    rotate_left
                    · simp (maxSteps := 2000000) only [EVT, stepR, evOp, St.ev, St.app, St.put, wrs, evIndexAddr, evLoad, cut, evBuiltin, evBin, binInt, TIS, CS, Nat.reduceAdd, Nat.reduceMul, Nat.reduceEqDiff, ↓reduceIte, reduceCtorEq, Nat.reduceLT, Nat.reduceLeDiff, Int.reduceToNat, Nat.reduceSub, Nat.reduceBEq, zg1]
                      (repeat' apply And.intro) <;> first | rfl | assumption | omega | (simp; done) | (simp; omega) | (simp_all; done)
                    refine sA_n ?_
                    refine a_condb ((decide (k1 < (x1.length : Int)))) (by rfl) (fun zc2 => ?_) (fun zc2 => ?_)
                    · have H := cond_t zc2 H
                      refine a_skip ?_
                      refine sA_n ?_
                      refine a_seq ?_
                      refine a_blk ?_
                      refine a_seq ?_
                      obtain ⟨x2, zh3, H⟩ := bind_some H
                      have zg2 := idx_map zh3 (ci .u8)
                      obtain ⟨zh3a, zh3b, _⟩ := idx_some zh3
                      refine a_reg _ rfl (s := ?zs13) ?_ ?_
                      rotate_left
                      · simp (maxSteps := 2000000) only [EVT, stepR, evOp, St.ev, St.app, St.put, wrs, evIndexAddr, evLoad, cut, datOf, datOf1, evBin, binInt, evBuiltin, minMax, mmStep, TIS, CS, Nat.reduceAdd, Nat.reduceMul, Nat.reduceEqDiff, ↓reduceIte, reduceCtorEq, Nat.reduceLT, Nat.reduceLeDiff, Int.reduceToNat, Nat.reduceSub, Nat.reduceBEq, zg1, ↓zc2, zg2]
                        (repeat' apply And.intro) <;> first | rfl | assumption | omega | (simp; done) | (simp; omega) | (simp_all; done)
                      refine sA_n ?_
                      obtain ⟨zh4, H⟩ := chk_some H
                      refine a_reg _ rfl (s := ?zs14) ?_ ?_
                      rotate_left
                      · simp (maxSteps := 2000000) only [EVT, stepR, evOp, St.ev, St.app, St.put, wrs, evFieldAddr, evLoad, cut, fillD, setR, allOne, evBuiltin, evAppend, elems, Option.elim, evStore, TIS, CS, Nat.reduceAdd, Nat.reduceMul, Nat.reduceEqDiff, ↓reduceIte, reduceCtorEq, Nat.reduceLT, Nat.reduceLeDiff, Nat.reduceSub, Nat.reduceBEq, zg1, ↓zc2, zg2]
                        (repeat' apply And.intro) <;> first | rfl | assumption | omega | (simp; done) | (simp; omega) | (simp_all; done)
                      refine bA_n ?_
                      refine sA_n ?_
                      refine a_reg _ rfl (s := ?zs15) ?_ ?_
                      rotate_left
                      · simp (maxSteps := 2000000) only [EVT, stepR, evOp, St.ev, St.app, St.put, wrs, datOf, datOf1, evBin, binInt, TIS, CS, Nat.reduceAdd, Nat.reduceMul, Nat.reduceEqDiff, ↓reduceIte, reduceCtorEq, Nat.reduceLT, Nat.reduceLeDiff, zg1, ↓zc2, zg2]
                        (repeat' apply And.intro) <;> first | rfl | assumption | omega | (simp; done) | (simp; omega) | (simp_all; done)
                      refine lA_n ?_
                      refine wk_l [(some 0, ⟨25, 10, false, out3.map Seat.c⟩), (some 1, ⟨25, 10, false, [[.int .i64 i2, .list 1 (peers1.map (ci .i64)), .int .i64 4, .int .i64 (-1), .int .i64 1, .ref 2 0 (log2 ++ [(⟨(if (IntKind.wrap .i64 (last1 + (Int.tmod (IntKind.wrap .i64 x2) 3))) < 4 then (IntKind.wrap .i64 (last1 + (Int.tmod (IntKind.wrap .i64 x2) 3))) else 4), []⟩ : Entry)]).length 2, .int .i64 0, .nil, .nil, .nil]]⟩), (some 168, ⟨55, 2, false, (log2 ++ [(⟨(if (IntKind.wrap .i64 (last1 + (Int.tmod (IntKind.wrap .i64 x2) 3))) < 4 then (IntKind.wrap .i64 (last1 + (Int.tmod (IntKind.wrap .i64 x2) 3))) else 4), []⟩ : Entry)]).map Entry.c⟩)] [] [(0, .list 1 (logs1.map (cl 1 (ci .u8)))), (3, .list 1 (peers1.map (ci .i64))), (5, .ref 0 0 out3.length 10), (6, .int .i64 i2), (7, .ptr 1 0 0 10), (8, .int .i64 (if (IntKind.wrap .i64 (last1 + (Int.tmod (IntKind.wrap .i64 x2) 3))) < 4 then (IntKind.wrap .i64 (last1 + (Int.tmod (IntKind.wrap .i64 x2) 3))) else 4)), (9, .int .i64 (IntKind.wrap .i64 (k1 + 1)))] (by show ([0, 3, 5, 6, 7, 8, 9] : List Nat).Nodup; decide) (by show ([0, 1, 168] : List Nat).Nodup; decide) ?_ ?_ (fun t0 => ⟨_, Nat.lt_succ_self _, (log2 ++ [(⟨(if (IntKind.wrap .i64 (last1 + (Int.tmod (IntKind.wrap .i64 x2) 3))) < 4 then (IntKind.wrap .i64 (last1 + (Int.tmod (IntKind.wrap .i64 x2) 3))) else 4), []⟩ : Entry)]), (if (IntKind.wrap .i64 (last1 + (Int.tmod (IntKind.wrap .i64 x2) 3))) < 4 then (IntKind.wrap .i64 (last1 + (Int.tmod (IntKind.wrap .i64 x2) 3))) else 4), (IntKind.wrap .i64 (k1 + 1)), t0, H, rfl⟩)
                      · exact (allB_some (by rfl) rfl (.same _ _ Seat.pu (by first | rfl | (simp only [List.map_append, List.map_cons, List.map_nil, List.map_set, List.map_take, List.map_drop, List.map_replicate, List.append_assoc, List.nil_append, List.append_nil, ci_eq, cb_eq, cs_eq, cl_eq, CS,  List.nil_append]; done) | (simp [CS,  ci_eq, cb_eq, cs_eq, cl_eq]; done))) (allB_some (by rfl) rfl (.cons (.cons (.int' rfl) (.cons (.lst _ _ _ (ci_pu .i64) rfl) (.cons (.int' rfl) (.cons (.int' rfl) (.cons (.int' rfl) (.cons (.refl' (by first | rfl | omega | (simp; done) | (simp_all; done)) rfl) (.cons (.int' rfl) (.cons .nil' (.cons .nil' (.cons .nil' .nil)))))))))) .nil) (allB_some (by rfl) rfl (by (simp only [List.map_append, List.map_cons, List.map_nil, List.map_set, List.map_take, List.map_drop, List.map_replicate, List.append_assoc, List.nil_append, List.append_nil, ci_eq, cb_eq, cs_eq, cl_eq, CS, List.nil_append]); repeat' (first | exact RNL.nil | exact RNs.nil | exact .int' rfl | exact .bool' rfl | exact .str' rfl | exact .nil _ | exact .lst _ _ _ (by first | exact ci_pu _ | exact cb_pu | exact cs_pu | exact Entry.pu | exact Seat.pu | exact Call30.pu | exact cl_pu (by first | exact ci_pu _ | exact cb_pu | exact cs_pu | exact Entry.pu | exact Seat.pu | exact Call30.pu | exact cl_pu (ci_pu _))) rfl | exact RNL.same _ _ (by first | exact ci_pu _ | exact cb_pu | exact cs_pu | exact Entry.pu | exact Seat.pu | exact Call30.pu | exact cl_pu (by first | exact ci_pu _ | exact cb_pu | exact cs_pu | exact Entry.pu | exact Seat.pu | exact Call30.pu | exact cl_pu (ci_pu _))) (by first | rfl | (simp only [List.map_append, List.map_cons, List.map_nil, List.map_set, List.map_take, List.map_drop, List.map_replicate, List.append_assoc, List.nil_append, List.append_nil]; rfl)) | (refine RNs.cons ?_ ?_) | (refine RNL.cons ?_ ?_) | (refine .frz' rfl (by simp) rfl (by first | rfl | omega | (simp; done) | (simp_all; done)) ?_) | exact .refl' (by first | rfl | omega | (simp; done) | (simp_all; done)) rfl | (refine RNL.app ?_ ?_))) trivial)))
                      · (simp only [AllT, tl_cons, tl_nil, upd_apply, List.getD_cons_zero, List.getD_cons_succ, Nat.reduceEqDiff, ↓reduceIte, and_true]); exact ⟨(.lst _ _ _ (cl_pu (ci_pu .u8)) rfl), (.lst _ _ _ (ci_pu .i64) rfl), (.refl' (by first | rfl | omega | (simp; done) | (simp_all; done)) rfl), (.int' rfl), (.ptr _ _ _ _ _ rfl), (.int' rfl), (.int' rfl)⟩
                    · have H := cond_f zc2 H
                      refine a_exit ?_
                      refine sA_e ?_
                      refine lA_e ?_
                      refine bA_hit ?_
                      refine cA_n ?_
                      refine wk_l [(some 0, ⟨25, 10, false, out3.map Seat.c⟩), (some 1, ⟨25, 10, false, [[.int .i64 i2, .list 1 (peers1.map (ci .i64)), .int .i64 4, .int .i64 (-1), .int .i64 1, .ref 2 0 log2.length 2, .int .i64 0, .nil, .nil, .nil]]⟩), (some 2, ⟨55, 2, false, log2.map Entry.c⟩)] [] [(0, .list 1 (logs1.map (cl 1 (ci .u8)))), (3, .list 1 (peers1.map (ci .i64))), (5, .ref 0 0 out3.length 10), (6, .int .i64 i2), (7, .ptr 1 0 0 10)] (by show ([0, 3, 5, 6, 7] : List Nat).Nodup; decide) (by show ([0, 1, 2] : List Nat).Nodup; decide) ?_ ?_ (fun t0 => ⟨log2, t0, H, rfl⟩)
                      · exact (allB_some (by rfl) rfl (.same _ _ Seat.pu (by first | rfl | (simp only [List.map_append, List.map_cons, List.map_nil, List.map_set, List.map_take, List.map_drop, List.map_replicate, List.append_assoc, List.nil_append, List.append_nil, ci_eq, cb_eq, cs_eq, cl_eq, CS,  List.nil_append]; done) | (simp [CS,  ci_eq, cb_eq, cs_eq, cl_eq]; done))) (allB_some (by rfl) rfl (.cons (.cons (.int' rfl) (.cons (.lst _ _ _ (ci_pu .i64) rfl) (.cons (.int' rfl) (.cons (.int' rfl) (.cons (.int' rfl) (.cons (.refl' (by first | rfl | omega | (simp; done) | (simp_all; done)) rfl) (.cons (.int' rfl) (.cons .nil' (.cons .nil' (.cons .nil' .nil)))))))))) .nil) (allB_some (by rfl) rfl (.same _ _ Entry.pu (by first | rfl | (simp only [List.map_append, List.map_cons, List.map_nil, List.map_set, List.map_take, List.map_drop, List.map_replicate, List.append_assoc, List.nil_append, List.append_nil, ci_eq, cb_eq, cs_eq, cl_eq, CS,  List.nil_append]; done) | (simp [CS,  ci_eq, cb_eq, cs_eq, cl_eq]; done))) trivial)))
                      · (simp only [AllT, tl_cons, tl_nil, upd_apply, List.getD_cons_zero, List.getD_cons_succ, Nat.reduceEqDiff, ↓reduceIte, and_true]); exact ⟨(.lst _ _ _ (cl_pu (ci_pu .u8)) rfl), (.lst _ _ _ (ci_pu .i64) rfl), (.refl' (by first | rfl | omega | (simp; done) | (simp_all; done)) rfl), (.int' rfl), (.ptr _ _ _ _ _ rfl)⟩
              · rintro s ⟨log1, t0, H, rfl⟩
                unfold law14_Group_J4 at H
                obtain ⟨zh1, H⟩ := chk_some H
                refine a_reg _ rfl (s := ?zs10) ?_ ?_
                rotate_left
                · simp (maxSteps := 2000000) only [EVT, stepR, evOp, St.ev, St.app, St.put, wrs, evLoad, cut, allOne, evBuiltin, evAppend, elems, Option.elim, TIS, CS, Nat.reduceAdd, Nat.reduceMul, Nat.reduceEqDiff, ↓reduceIte, reduceCtorEq, Nat.reduceLT, Nat.reduceLeDiff, Nat.reduceSub, Nat.reduceBEq]
                  (repeat' apply And.intro) <;> first | rfl | assumption | omega | (simp; done) | (simp; omega) | (simp_all; done)
                refine bA_n ?_
                refine cA_n ?_
                refine wk_l [(some 6, ⟨25, 10, false, (out3 ++ [(⟨i2, peers1, 4, (-1), 1, log1, 0, [], [], []⟩ : Seat)]).map Seat.c⟩)] [2] [(0, .list 1 (logs1.map (cl 1 (ci .u8)))), (3, .list 1 (peers1.map (ci .i64))), (5, .ref 0 0 (out3 ++ [(⟨i2, peers1, 4, (-1), 1, log1, 0, [], [], []⟩ : Seat)]).length 10), (6, .int .i64 i2)] (by show ([0, 3, 5, 6] : List Nat).Nodup; decide) (by show ([6] : List Nat).Nodup; decide) ?_ ?_ (fun t0 => ⟨(out3 ++ [(⟨i2, peers1, 4, (-1), 1, log1, 0, [], [], []⟩ : Seat)]), t0, H, rfl⟩)
                · exact (allB_some (by rfl) rfl (by (simp only [List.map_append, List.map_cons, List.map_nil, List.map_set, List.map_take, List.map_drop, List.map_replicate, List.append_assoc, List.nil_append, List.append_nil, ci_eq, cb_eq, cs_eq, cl_eq, CS, List.nil_append]); repeat' (first | exact RNL.nil | exact RNs.nil | exact .int' rfl | exact .bool' rfl | exact .str' rfl | exact .nil _ | exact .lst _ _ _ (by first | exact ci_pu _ | exact cb_pu | exact cs_pu | exact Entry.pu | exact Seat.pu | exact Call30.pu | exact cl_pu (by first | exact ci_pu _ | exact cb_pu | exact cs_pu | exact Entry.pu | exact Seat.pu | exact Call30.pu | exact cl_pu (ci_pu _))) rfl | exact RNL.same _ _ (by first | exact ci_pu _ | exact cb_pu | exact cs_pu | exact Entry.pu | exact Seat.pu | exact Call30.pu | exact cl_pu (by first | exact ci_pu _ | exact cb_pu | exact cs_pu | exact Entry.pu | exact Seat.pu | exact Call30.pu | exact cl_pu (ci_pu _))) (by first | rfl | (simp only [List.map_append, List.map_cons, List.map_nil, List.map_set, List.map_take, List.map_drop, List.map_replicate, List.append_assoc, List.nil_append, List.append_nil]; rfl)) | (refine RNs.cons ?_ ?_) | (refine RNL.cons ?_ ?_) | (refine .frz' rfl (by simp) rfl (by first | rfl | omega | (simp; done) | (simp_all; done)) ?_) | exact .refl' (by first | rfl | omega | (simp; done) | (simp_all; done)) rfl | (refine RNL.app ?_ ?_))) trivial)
                · (simp only [AllT, tl_cons, tl_nil, upd_apply, List.getD_cons_zero, List.getD_cons_succ, Nat.reduceEqDiff, ↓reduceIte, and_true]); exact ⟨(.lst _ _ _ (cl_pu (ci_pu .u8)) rfl), (.lst _ _ _ (ci_pu .i64) rfl), (.refl' (by first | rfl | omega | (simp; done) | (simp_all; done)) rfl), (.int' rfl)⟩
            · rintro s ⟨out4, t0, H, rfl⟩
              unfold law14_Group_J3 at H
              refine a_reg _ rfl (s := ?zs7) ?_ ?_
              rotate_left
              · simp (maxSteps := 2000000) only [EVT, stepR, evOp, St.ev, St.app, St.put, wrs, datOf, datOf1, evBin, binInt, TIS, CS, Nat.reduceAdd, Nat.reduceMul, Nat.reduceEqDiff, ↓reduceIte, reduceCtorEq, Nat.reduceLT, Nat.reduceLeDiff]
                (repeat' apply And.intro) <;> first | rfl | assumption | omega | (simp; done) | (simp; omega) | (simp_all; done)
              refine lA_n ?_
              refine wk_l [(some 0, ⟨25, 10, false, out4.map Seat.c⟩)] [] [(0, .list 1 (logs1.map (cl 1 (ci .u8)))), (3, .list 1 (peers1.map (ci .i64))), (5, .ref 0 0 out4.length 10), (6, .int .i64 (IntKind.wrap .i64 (i2 + 1)))] (by show ([0, 3, 5, 6] : List Nat).Nodup; decide) (by show ([0] : List Nat).Nodup; decide) ?_ ?_ (fun t0 => ⟨_, Nat.lt_succ_self _, out4, (IntKind.wrap .i64 (i2 + 1)), t0, H, rfl⟩)
              · exact (allB_some (by rfl) rfl (.same _ _ Seat.pu (by first | rfl | (simp only [List.map_append, List.map_cons, List.map_nil, List.map_set, List.map_take, List.map_drop, List.map_replicate, List.append_assoc, List.nil_append, List.append_nil, ci_eq, cb_eq, cs_eq, cl_eq, CS,  List.nil_append]; done) | (simp [CS,  ci_eq, cb_eq, cs_eq, cl_eq]; done))) trivial)
              · (simp only [AllT, tl_cons, tl_nil, upd_apply, List.getD_cons_zero, List.getD_cons_succ, Nat.reduceEqDiff, ↓reduceIte, and_true]); exact ⟨(.lst _ _ _ (cl_pu (ci_pu .u8)) rfl), (.lst _ _ _ (ci_pu .i64) rfl), (.refl' (by first | rfl | omega | (simp; done) | (simp_all; done)) rfl), (.int' rfl)⟩
          · have H := cond_f zc1 H
            refine a_exit ?_
            refine sA_e ?_
            refine lA_e ?_
            refine bA_hit ?_
            refine cA_n ?_
            refine wk_l [(some 0, ⟨25, 10, false, out3.map Seat.c⟩)] [] [(5, .ref 0 0 out3.length 10)] (by show ([5] : List Nat).Nodup; decide) (by show ([0] : List Nat).Nodup; decide) ?_ ?_ (fun t0 => ⟨out3, t0, H, rfl⟩)
            · exact (allB_some (by rfl) rfl (.same _ _ Seat.pu (by first | rfl | (simp only [List.map_append, List.map_cons, List.map_nil, List.map_set, List.map_take, List.map_drop, List.map_replicate, List.append_assoc, List.nil_append, List.append_nil, ci_eq, cb_eq, cs_eq, cl_eq, CS,  List.nil_append]; done) | (simp [CS,  ci_eq, cb_eq, cs_eq, cl_eq]; done))) trivial)
            · (simp only [AllT, tl_cons, tl_nil, upd_apply, List.getD_cons_zero, List.getD_cons_succ, Nat.reduceEqDiff, ↓reduceIte, and_true]); exact (.refl' (by first | rfl | omega | (simp; done) | (simp_all; done)) rfl)
    · rintro s ⟨out1, t0, H, rfl⟩
      unfold law14_Group_J2 at H
      refine a_seq ?_
      refine a_reg _ rfl (s := ?zs4) ?_ ?_
      rotate_left
      · simp (maxSteps := 2000000) only [EVT, stepR, evOp, St.ev, St.app, St.put, wrs, TIS, CS, Nat.reduceAdd, Nat.reduceMul, Nat.reduceEqDiff, ↓reduceIte, reduceCtorEq, Nat.reduceLT, Nat.reduceLeDiff]
        (repeat' apply And.intro) <;> first | rfl | assumption | omega | (simp; done) | (simp; omega) | (simp_all; done)
      refine sA_n ?_
      refine a_ret ?_
      obtain rfl := Option.some.inj H
      refine eR_r ?_
      refine wk_ln 0 [(some 0, ⟨25, 10, false, out1.map Seat.c⟩)] [] [(2, .ref 0 0 out1.length 10)] (fun i h => absurd h (Nat.not_lt_zero i)) (by show ([2] : List Nat).Nodup; decide) (by show ([0] : List Nat).Nodup; decide) ?_ ?_ (fun t0 => ⟨by first | rfl | (simp only [EVT, resR, single, evLoad, cut, TIS, CS, Nat.reduceAdd, Nat.reduceEqDiff, ↓reduceIte, reduceCtorEq, Nat.reduceLT, Nat.reduceLeDiff, Nat.reduceSub, Nat.reduceBEq]; (repeat' apply And.intro) <;> first | rfl | (simp; done)), fun j B h => by rcases j with _ | _ <;> first | exact h | (exact absurd h (by simp [hh]))⟩)
      · exact (allB_some (by rfl) rfl (.same _ _ Seat.pu (by first | rfl | (simp only [List.map_append, List.map_cons, List.map_nil, List.map_set, List.map_take, List.map_drop, List.map_replicate, List.append_assoc, List.nil_append, List.append_nil, ci_eq, cb_eq, cs_eq, cl_eq, CS,  List.nil_append]; done) | (simp [CS,  ci_eq, cb_eq, cs_eq, cl_eq]; done))) trivial)
      · (simp only [AllT, tl_cons, tl_nil, upd_apply, List.getD_cons_zero, List.getD_cons_succ, Nat.reduceEqDiff, ↓reduceIte, and_true]); exact (.refl' (by first | rfl | omega | (simp; done) | (simp_all; done)) rfl)
end
end Go.Proofs.Ytecdonbjabjaeaa
