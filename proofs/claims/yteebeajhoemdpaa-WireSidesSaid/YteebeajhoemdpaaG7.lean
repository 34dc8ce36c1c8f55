/- Functions of the program as Lean functions, and that they are so; printed by a program of mine. -/
import Derived.Test.YteebeajhoemdpaaH
set_option linter.unusedSimpArgs false
set_option linter.unusedVariables false
namespace Go.Proofs.Yteebeajhoemdpaa
open Go.Ab
noncomputable section

def law05_WireSides_J2 (r1 : Bool) (r2 : (List Msg)) (w1 : List Msg) (side1 : List Int) (others1 : List Int) (at1 : Int) : Option Bool :=
  cond r1 (cond (at1 == (r2.length : Int)) ((wire_Cut_f w1 others1).bind fun r3 => (ref05_SameAll_f r3 r2).bind fun r4 => cond r4 ((wire_Cut_f r2 side1).bind fun r5 => (ref05_SameAll_f r5 r2).bind fun r6 => cond r6 ((wire_Cut_f w1 []).bind fun r7 => (ref05_SameAll_f r7 w1).bind fun r8 => some (r8)) (some (false))) (some (false))) (some (false))) (some (false))
def law05_WireSides_J3 (k_law05_WireSides_L1 : (List Int) → Int → Int → Option Bool) (i1 : Int) (others3 : List Int) (at3 : Int) : Option Bool :=
  k_law05_WireSides_L1 others3 at3 (IntKind.wrap .i64 (i1 + 1))
def law05_WireSides_J6 (k_law05_WireSides_L1 : (List Int) → Int → Int → Option Bool) (i1 : Int) (others5 : List Int) (at2 : Int) (v2 : Bool) : Option Bool :=
  cond v2 (some (false)) (law05_WireSides_J3 k_law05_WireSides_L1 i1 others5 (IntKind.wrap .i64 (at2 + 1)))
def law05_WireSides_J5 (k_law05_WireSides_L1 : (List Int) → Int → Int → Option Bool) (w1 : List Msg) (i1 : Int) (side1 : List Int) (r2 : (List Msg)) (at2 : Int) (others5 : List Int) : Option Bool :=
  (idx w1 i1).bind fun x1 => (ref05_In_f side1 x1.from_).bind fun r9 => (ref05_In_f side1 x1.to_).bind fun r10 => cond (r9 == r10) (cond (decide ((r2.length : Int) ≤ at2)) (law05_WireSides_J6 k_law05_WireSides_L1 i1 others5 at2 true) ((idx r2 at2).bind fun x2 => (ref05_Same_f x2 x1).bind fun r11 => law05_WireSides_J6 k_law05_WireSides_L1 i1 others5 at2 (!r11))) (law05_WireSides_J3 k_law05_WireSides_L1 i1 others5 at2)
def law05_WireSides_J4 (k_law05_WireSides_L1 : (List Int) → Int → Int → Option Bool) (w1 : List Msg) (i1 : Int) (side1 : List Int) (r2 : (List Msg)) (at2 : Int) (others4 : List Int) : Option Bool :=
  (idx w1 i1).bind fun x3 => (ref05_In_f side1 x3.to_).bind fun r12 => cond (!r12) (chk ((others4.length + 1) * 8 ≤ 140737488355328) (law05_WireSides_J5 k_law05_WireSides_L1 w1 i1 side1 r2 at2 (others4 ++ [x3.to_]))) (law05_WireSides_J5 k_law05_WireSides_L1 w1 i1 side1 r2 at2 others4)
def law05_WireSides_L1 (w1 : List Msg) (side1 : List Int) (r2 : (List Msg)) (r1 : Bool) : Nat → (List Int) → Int → Int → Option Bool
  | 0, _, _, _ => none
  | m_ + 1, others2, at2, i1 => cond (decide (i1 < (w1.length : Int))) ((idx w1 i1).bind fun x4 => (ref05_In_f side1 x4.from_).bind fun r13 => cond (!r13) (chk ((others2.length + 1) * 8 ≤ 140737488355328) (law05_WireSides_J4 (law05_WireSides_L1 w1 side1 r2 r1 m_) w1 i1 side1 r2 at2 (others2 ++ [x4.from_]))) (law05_WireSides_J4 (law05_WireSides_L1 w1 side1 r2 r1 m_) w1 i1 side1 r2 at2 others2)) (law05_WireSides_J2 r1 r2 w1 side1 others2 at2)
def law05_WireSides_J1 (r1 : Bool) (w1 : List Msg) (side1 : List Int) (v1 : Bool) : Option Bool :=
  cond v1 (some (r1)) ((wire_Cut_f w1 side1).bind fun r2 => law05_WireSides_L1 w1 side1 r2 r1 BIG [] 0 0)
def law05_WireSides_f (w1 : List Msg) (side1 : List Int) : Option Bool :=
  (law05_head_f).bind fun r1 => (law05_Great_f w1).bind fun r14 => law05_WireSides_J1 r1 w1 side1 (r14 || (decide (20 < (side1.length : Int))))
set_option maxHeartbeats 4000000 in
set_option maxRecDepth 20000 in
theorem law05_WireSides_pc {w1 : List Msg} {side1 : List Int} {r : Bool} (H : law05_WireSides_f w1 side1 = some r) : PC Try.prog 7 [.list 5 (w1.map Msg.c), .list 1 (side1.map (ci .i64))] (.bool r) := by
  refine pcA_of Try.func7 (by rfl) (by decide) 120 (by rfl) [.tmp 4] (by rfl) ?_
  unfold law05_WireSides_f at H
  simp only [ent]
  refine a_seq ?_
  refine a_reg _ rfl (s := ?zs1) ?_ ?_
  rotate_left
  · simp (maxSteps := 2000000) only [EVT, stepR, evOp, St.ev, St.app, St.put, wrs, datOf, datOf1, TIS, CS, Nat.reduceAdd, Nat.reduceMul, Nat.reduceEqDiff, ↓reduceIte, reduceCtorEq, Nat.reduceLT, Nat.reduceLeDiff]
    (repeat' apply And.intro) <;> first | rfl | assumption | omega | (left; omega) | (simp; done) | (simp; omega) | (right; exact ⟨_, rfl, rfl, rfl, by decide, by first | omega | (simp; omega)⟩) | (simp_all; done)
  refine sA_n ?_
  refine a_seq ?_
  obtain ⟨r1, zh1, H⟩ := bind_some H
  have zk1 := law05_head_pc zh1
  refine a_reg _ rfl (s := ?zs2) ?_ ?_
  rotate_left
  · try simp (maxSteps := 2000000) only [EVT, stepR, evOp, St.ev, St.app, St.put, wrs, frz, TIS, CS, Nat.reduceAdd, Nat.reduceMul, Nat.reduceEqDiff, ↓reduceIte, reduceCtorEq, Nat.reduceLT, Nat.reduceLeDiff, Nat.reduceSub, Nat.reduceBEq]
    repeat' with_reducible apply And.intro
    all_goals try ((with_reducible show CallR _ _ _ _ _ _ _); refine cR_s zk1 .nil (.bool _) ?_; simp (maxSteps := 2000000) only [EVT, stepR, evOp, St.ev, St.app, St.put, wrs, frz, TIS, CS, Nat.reduceAdd, Nat.reduceMul, Nat.reduceEqDiff, ↓reduceIte, reduceCtorEq, Nat.reduceLT, Nat.reduceLeDiff, Nat.reduceSub, Nat.reduceBEq])
    all_goals ((repeat' apply And.intro) <;> first | rfl | assumption | omega | (left; omega) | (simp; done) | (simp; omega) | (right; exact ⟨_, rfl, rfl, rfl, by decide, by first | omega | (simp; omega)⟩) | (simp_all; done))
  refine sA_n ?_
  refine a_seq ?_
  refine a_cut (fun s => ∃ (v1 : Bool) (t0 : Nat → Dat), law05_WireSides_J1 r1 w1 side1 v1 = some r ∧ s = ⟨tl t0 [(0, .list 5 (w1.map Msg.c)), (1, .list 1 (side1.map (ci .i64))), (5, .bool r1), (17, .bool v1)], hl [], 0, 120⟩) ?_ ?_
  · obtain ⟨r14, zh20, H⟩ := bind_some H
    have zk14 := law05_Great_pc zh20
    refine bool_split (b := r14) (fun zc12 => ?_) (fun zc12 => ?_)
    · rw [zc12] at H
      refine a_reg _ rfl (s := ?zs24) ?_ ?_
      rotate_left
      · try simp (maxSteps := 2000000) only [EVT, stepR, evOp, St.ev, St.app, St.put, wrs, frz, evBuiltin, datOf, datOf1, evBin, binInt, TIS, CS, Nat.reduceAdd, Nat.reduceMul, Nat.reduceEqDiff, ↓reduceIte, reduceCtorEq, Nat.reduceLT, Nat.reduceLeDiff, Array.reduceGetElem?, Nat.reduceSub, Nat.reduceBEq, ↓zc12]
        repeat' with_reducible apply And.intro
        all_goals try ((with_reducible show CallR _ _ _ _ _ _ _); refine cR_s zk14 (.cons (.lst _ _ _ Msg.pu rfl) .nil) (.bool _) ?_; simp (maxSteps := 2000000) only [EVT, stepR, evOp, St.ev, St.app, St.put, wrs, frz, evBuiltin, datOf, datOf1, evBin, binInt, TIS, CS, Nat.reduceAdd, Nat.reduceMul, Nat.reduceEqDiff, ↓reduceIte, reduceCtorEq, Nat.reduceLT, Nat.reduceLeDiff, Array.reduceGetElem?, Nat.reduceSub, Nat.reduceBEq, ↓zc12])
        all_goals ((repeat' apply And.intro) <;> first | rfl | assumption | omega | (left; omega) | (simp; done) | (simp; omega) | (right; exact ⟨_, rfl, rfl, rfl, by decide, by first | omega | (simp; omega)⟩) | (simp_all; done))
      refine cA_n ?_
      refine wk_l [] [] [(0, .list 5 (w1.map Msg.c)), (1, .list 1 (side1.map (ci .i64))), (5, .bool r1), (17, .bool true)] (by show ([0, 1, 5, 17] : List Nat).Nodup; decide) (by show ([] : List Nat).Nodup; decide) ?_ ?_ (fun t0 => ⟨true, t0, H, rfl⟩)
      · exact trivial
      · (simp only [AllT, tl_cons, tl_nil, upd_apply, List.getD_cons_zero, List.getD_cons_succ, Nat.reduceEqDiff, ↓reduceIte, and_true]); exact ⟨(.lst _ _ _ Msg.pu rfl), (.lst _ _ _ (ci_pu .i64) rfl), (.bool' rfl), (.bool' (by first | rfl | assumption | (simp_all; done)))⟩
    · rw [zc12] at H
      refine a_reg _ rfl (s := ?zs25) ?_ ?_
      rotate_left
      · try simp (maxSteps := 2000000) only [EVT, stepR, evOp, St.ev, St.app, St.put, wrs, frz, evBuiltin, datOf, datOf1, evBin, binInt, TIS, CS, Nat.reduceAdd, Nat.reduceMul, Nat.reduceEqDiff, ↓reduceIte, reduceCtorEq, Nat.reduceLT, Nat.reduceLeDiff, Array.reduceGetElem?, Nat.reduceSub, Nat.reduceBEq, ↓zc12]
        repeat' with_reducible apply And.intro
        all_goals try ((with_reducible show CallR _ _ _ _ _ _ _); refine cR_s zk14 (.cons (.lst _ _ _ Msg.pu rfl) .nil) (.bool _) ?_; simp (maxSteps := 2000000) only [EVT, stepR, evOp, St.ev, St.app, St.put, wrs, frz, evBuiltin, datOf, datOf1, evBin, binInt, TIS, CS, Nat.reduceAdd, Nat.reduceMul, Nat.reduceEqDiff, ↓reduceIte, reduceCtorEq, Nat.reduceLT, Nat.reduceLeDiff, Array.reduceGetElem?, Nat.reduceSub, Nat.reduceBEq, ↓zc12])
        all_goals ((repeat' apply And.intro) <;> first | rfl | assumption | omega | (left; omega) | (simp; done) | (simp; omega) | (right; exact ⟨_, rfl, rfl, rfl, by decide, by first | omega | (simp; omega)⟩) | (simp_all; done))
      refine cA_n ?_
      refine wk_l [] [] [(0, .list 5 (w1.map Msg.c)), (1, .list 1 (side1.map (ci .i64))), (5, .bool r1), (17, .bool (decide (20 < (side1.length : Int))))] (by show ([0, 1, 5, 17] : List Nat).Nodup; decide) (by show ([] : List Nat).Nodup; decide) ?_ ?_ (fun t0 => ⟨(decide (20 < (side1.length : Int))), t0, H, rfl⟩)
      · exact trivial
      · (simp only [AllT, tl_cons, tl_nil, upd_apply, List.getD_cons_zero, List.getD_cons_succ, Nat.reduceEqDiff, ↓reduceIte, and_true]); exact ⟨(.lst _ _ _ Msg.pu rfl), (.lst _ _ _ (ci_pu .i64) rfl), (.bool' rfl), (.bool' rfl)⟩
  · rintro s ⟨v1, t0, H, rfl⟩
    unfold law05_WireSides_J1 at H
    refine a_condb (v1) (by rfl) (fun zc1 => ?_) (fun zc1 => ?_)
    · have H := cond_t zc1 H
      refine a_seq ?_
      refine a_reg _ rfl (s := ?zs3) ?_ ?_
      rotate_left
      · simp (maxSteps := 2000000) only [EVT, stepR, evOp, St.ev, St.app, St.put, wrs, TIS, CS, Nat.reduceAdd, Nat.reduceMul, Nat.reduceEqDiff, ↓reduceIte, reduceCtorEq, Nat.reduceLT, Nat.reduceLeDiff, ↓zc1]
        (repeat' apply And.intro) <;> first | rfl | assumption | omega | (left; omega) | (simp; done) | (simp; omega) | (right; exact ⟨_, rfl, rfl, rfl, by decide, by first | omega | (simp; omega)⟩) | (simp_all; done)
      refine sA_n ?_
      refine a_ret ?_
      refine sA_r ?_
      obtain rfl := Option.some.inj H
      refine e_r2 (d := ?zd1) ?_ ?_
      rotate_left
      · simp only [EVT, resR, single, evLoad, cut, TIS, CS, Nat.reduceAdd, Nat.reduceEqDiff, ↓reduceIte, reduceCtorEq, Nat.reduceLT, Nat.reduceLeDiff, Nat.reduceSub, Nat.reduceBEq, zc1]
        (repeat' apply And.intro) <;> first | rfl | assumption | omega | (simp; done)
      exact (.bool' rfl)
    · have H := cond_f zc1 H
      refine a_skip ?_
      refine sA_n ?_
      refine a_seq ?_
      obtain ⟨r2, zh2, H⟩ := bind_some H
      have zk2 := wire_Cut_pc zh2
      refine a_reg _ rfl (s := ?zs4) ?_ ?_
      rotate_left
      · try simp (maxSteps := 2000000) only [EVT, stepR, evOp, St.ev, St.app, St.put, wrs, frz, TIS, CS, Nat.reduceAdd, Nat.reduceMul, Nat.reduceEqDiff, ↓reduceIte, reduceCtorEq, Nat.reduceLT, Nat.reduceLeDiff, Nat.reduceSub, Nat.reduceBEq, ↓zc1]
        repeat' with_reducible apply And.intro
        all_goals try ((with_reducible show CallR _ _ _ _ _ _ _); refine cR_p zk2 (.cons (.lst _ _ _ Msg.pu rfl) (.cons (.lst _ _ _ (ci_pu .i64) rfl) .nil)) ?_; simp (maxSteps := 2000000) only [EVT, stepR, evOp, St.ev, St.app, St.put, wrs, frz, TIS, CS, Nat.reduceAdd, Nat.reduceMul, Nat.reduceEqDiff, ↓reduceIte, reduceCtorEq, Nat.reduceLT, Nat.reduceLeDiff, Nat.reduceSub, Nat.reduceBEq, ↓zc1])
        all_goals ((repeat' apply And.intro) <;> first | rfl | assumption | omega | (left; omega) | (simp; done) | (simp; omega) | (right; exact ⟨_, rfl, rfl, rfl, by decide, by first | omega | (simp; omega)⟩) | (simp_all; done))
      refine sA_n ?_
      refine a_seq ?_
      refine a_reg _ rfl (s := ?zs5) ?_ ?_
      rotate_left
      · simp (maxSteps := 2000000) only [EVT, stepR, evOp, St.ev, St.app, St.put, wrs, datOf, datOf1, TIS, CS, Nat.reduceAdd, Nat.reduceMul, Nat.reduceEqDiff, ↓reduceIte, reduceCtorEq, Nat.reduceLT, Nat.reduceLeDiff, ↓zc1]
        (repeat' apply And.intro) <;> first | rfl | assumption | omega | (left; omega) | (simp; done) | (simp; omega) | (right; exact ⟨_, rfl, rfl, rfl, by decide, by first | omega | (simp; omega)⟩) | (simp_all; done)
      refine sA_n ?_
      refine a_seq ?_
      refine a_reg _ rfl (s := ?zs6) ?_ ?_
      rotate_left
      · simp (maxSteps := 2000000) only [EVT, stepR, evOp, St.ev, St.app, St.put, wrs, datOf, datOf1, TIS, CS, Nat.reduceAdd, Nat.reduceMul, Nat.reduceEqDiff, ↓reduceIte, reduceCtorEq, Nat.reduceLT, Nat.reduceLeDiff, ↓zc1]
        (repeat' apply And.intro) <;> first | rfl | assumption | omega | (left; omega) | (simp; done) | (simp; omega) | (right; exact ⟨_, rfl, rfl, rfl, by decide, by first | omega | (simp; omega)⟩) | (simp_all; done)
      refine sA_n ?_
      refine a_cut (fun s => ∃ (others1 : List Int) (at1 : Int) (t0 : Nat → Dat), law05_WireSides_J2 r1 r2 w1 side1 others1 at1 = some r ∧ s = ⟨tl t0 [(0, .list 5 (w1.map Msg.c)), (1, .list 1 (side1.map (ci .i64))), (5, .bool r1), (6, .list 5 (r2.map Msg.c)), (7, .ref 0 0 others1.length 1), (8, .int .i64 at1)], hl [⟨3, 1, false, others1.map (ci .i64)⟩], 1, 120⟩) ?_ ?_
      · refine a_seq ?_
        refine a_reg _ rfl (s := ?zs12) ?_ ?_
        rotate_left
        · simp (maxSteps := 2000000) only [EVT, stepR, evOp, St.ev, St.app, St.put, wrs, datOf, datOf1, TIS, CS, Nat.reduceAdd, Nat.reduceMul, Nat.reduceEqDiff, ↓reduceIte, reduceCtorEq, Nat.reduceLT, Nat.reduceLeDiff, ↓zc1]
          (repeat' apply And.intro) <;> first | rfl | assumption | omega | (left; omega) | (simp; done) | (simp; omega) | (right; exact ⟨_, rfl, rfl, rfl, by decide, by first | omega | (simp; omega)⟩) | (simp_all; done)
        refine sA_n ?_
        refine a_blk ?_
        refine a_loop (fun m s => ∃ (others2 : List Int) (at2 : Int) (i1 : Int) (t0 : Nat → Dat), law05_WireSides_L1 w1 side1 r2 r1 m others2 at2 i1 = some r ∧ s = ⟨tl t0 [(0, .list 5 (w1.map Msg.c)), (1, .list 1 (side1.map (ci .i64))), (5, .bool r1), (6, .list 5 (r2.map Msg.c)), (7, .ref 0 0 others2.length 1), (8, .int .i64 at2), (9, .int .i64 i1)], hl [⟨3, 1, false, others2.map (ci .i64)⟩], 1, 120⟩) BIG ?_ ?_
        · refine wk_l [(none, ⟨3, 1, false, [].map (ci .i64)⟩)] [] [(0, .list 5 (w1.map Msg.c)), (1, .list 1 (side1.map (ci .i64))), (5, .bool r1), (6, .list 5 (r2.map Msg.c)), (7, .ref 0 0 [].length 1), (8, .int .i64 0), (9, .int .i64 0)] (by show ([0, 1, 5, 6, 7, 8, 9] : List Nat).Nodup; decide) (by show ([] : List Nat).Nodup; decide) ?_ ?_ (fun t0 => ⟨[], 0, 0, t0, H, rfl⟩)
          · exact (allB_none rfl trivial)
          · (simp only [AllT, tl_cons, tl_nil, upd_apply, List.getD_cons_zero, List.getD_cons_succ, Nat.reduceEqDiff, ↓reduceIte, and_true]); exact ⟨(.lst _ _ _ Msg.pu rfl), (.lst _ _ _ (ci_pu .i64) rfl), (.bool' rfl), (.lst _ _ _ Msg.pu rfl), (.nilv _ _ rfl rfl), (.int' rfl), (.int' rfl)⟩
        · rintro m_law05_WireSides_L1 s ⟨others2, at2, i1, t0, H, rfl⟩
          obtain _ | m_law05_WireSides_L1 := m_law05_WireSides_L1
          · cases (show (none : Option _) = some _ from H)
          · rw [law05_WireSides_L1] at H
            refine a_seq ?_
            refine a_seq ?_
            refine a_reg _ rfl (s := ?zs13) ?_ ?_
            rotate_left
            · simp (maxSteps := 2000000) only [EVT, stepR, evOp, St.ev, St.app, St.put, wrs, evBuiltin, evBin, binInt, TIS, CS, Nat.reduceAdd, Nat.reduceMul, Nat.reduceEqDiff, ↓reduceIte, reduceCtorEq, Nat.reduceLT, Nat.reduceLeDiff, Nat.reduceSub, Nat.reduceBEq]
              (repeat' apply And.intro) <;> first | rfl | assumption | omega | (left; omega) | (simp; done) | (simp; omega) | (right; exact ⟨_, rfl, rfl, rfl, by decide, by first | omega | (simp; omega)⟩) | (simp_all; done)
            refine sA_n ?_
            refine a_condb ((decide (i1 < (w1.length : Int)))) (by rfl) (fun zc6 => ?_) (fun zc6 => ?_)
            · have H := cond_t zc6 H
              refine a_skip ?_
              refine sA_n ?_
              refine a_cut (fun s => ∃ (others3 : List Int) (at3 : Int) (t0 : Nat → Dat), law05_WireSides_J3 (law05_WireSides_L1 w1 side1 r2 r1 m_law05_WireSides_L1) i1 others3 at3 = some r ∧ s = ⟨tl t0 [(0, .list 5 (w1.map Msg.c)), (1, .list 1 (side1.map (ci .i64))), (5, .bool r1), (6, .list 5 (r2.map Msg.c)), (7, .ref 0 0 others3.length 1), (8, .int .i64 at3), (9, .int .i64 i1)], hl [⟨3, 1, false, others3.map (ci .i64)⟩], 1, 120⟩) ?_ ?_
              · refine a_blk ?_
                refine a_cut (fun s => ∃ (others4 : List Int) (t0 : Nat → Dat), law05_WireSides_J4 (law05_WireSides_L1 w1 side1 r2 r1 m_law05_WireSides_L1) w1 i1 side1 r2 at2 others4 = some r ∧ s = ⟨tl t0 [(0, .list 5 (w1.map Msg.c)), (1, .list 1 (side1.map (ci .i64))), (5, .bool r1), (6, .list 5 (r2.map Msg.c)), (7, .ref 0 0 others4.length 1), (8, .int .i64 at2), (9, .int .i64 i1)], hl [⟨3, 1, false, others4.map (ci .i64)⟩], 1, 120⟩) ?_ ?_
                · refine a_seq ?_
                  obtain ⟨x4, zh17, H⟩ := bind_some H
                  have zg4 := idx_map zh17 Msg.c
                  try simp only [Int.reduceToNat] at zg4
                  obtain ⟨zh17a, zh17b, _⟩ := idx_some zh17
                  obtain ⟨r13, zh18, H⟩ := bind_some H
                  have zk13 := ref05_In_pc zh18
                  refine a_reg _ rfl (s := ?zs22) ?_ ?_
                  rotate_left
                  · try simp (maxSteps := 2000000) only [EVT, stepR, evOp, St.ev, St.app, St.put, wrs, evIndexAddr, evFieldAddr, evLoad, cut, frz, evUn, TIS, CS, Nat.reduceAdd, Nat.reduceMul, Nat.reduceEqDiff, ↓reduceIte, reduceCtorEq, Nat.reduceLT, Nat.reduceLeDiff, Int.reduceToNat, Nat.reduceSub, Nat.reduceBEq, ↓zc6, zg4]
                    repeat' with_reducible apply And.intro
                    all_goals try ((with_reducible show CallR _ _ _ _ _ _ _); refine cR_s zk13 (.cons (.lst _ _ _ (ci_pu .i64) rfl) (.cons (.int' rfl) .nil)) (.bool _) ?_; simp (maxSteps := 2000000) only [EVT, stepR, evOp, St.ev, St.app, St.put, wrs, evIndexAddr, evFieldAddr, evLoad, cut, frz, evUn, TIS, CS, Nat.reduceAdd, Nat.reduceMul, Nat.reduceEqDiff, ↓reduceIte, reduceCtorEq, Nat.reduceLT, Nat.reduceLeDiff, Int.reduceToNat, Nat.reduceSub, Nat.reduceBEq, ↓zc6, zg4])
                    all_goals ((repeat' apply And.intro) <;> first | rfl | assumption | omega | (left; omega) | (simp; done) | (simp; omega) | (right; exact ⟨_, rfl, rfl, rfl, by decide, by first | omega | (simp; omega)⟩) | (simp_all; done))
                  refine sA_n ?_
                  refine a_condb ((!r13)) (by rfl) (fun zc11 => ?_) (fun zc11 => ?_)
                  · have H := cond_t zc11 H
                    obtain ⟨zh19, H⟩ := chk_some H
                    refine a_reg _ rfl (s := ?zs23) ?_ ?_
                    rotate_left
                    · simp (maxSteps := 2000000) only [EVT, stepR, evOp, St.ev, St.app, St.put, wrs, evIndexAddr, evFieldAddr, evLoad, cut, allOne, evBuiltin, evAppend, isAl, elems, Option.elim, TIS, CS, Nat.reduceAdd, Nat.reduceMul, Nat.reduceEqDiff, ↓reduceIte, reduceCtorEq, Nat.reduceLT, Nat.reduceLeDiff, Int.reduceToNat, Nat.reduceSub, Nat.reduceBEq, ↓zc6, zg4, ↓zc11]
                      (repeat' apply And.intro) <;> first | rfl | assumption | omega | (left; omega) | (simp; done) | (simp; omega) | (right; exact ⟨_, rfl, rfl, rfl, by decide, by first | omega | (simp; omega)⟩) | (simp_all; done)
                    refine cA_n ?_
                    refine wk_l [(some 104, ⟨3, 1, false, (others2 ++ [x4.from_]).map (ci .i64)⟩)] [] [(0, .list 5 (w1.map Msg.c)), (1, .list 1 (side1.map (ci .i64))), (5, .bool r1), (6, .list 5 (r2.map Msg.c)), (7, .ref 0 0 (others2 ++ [x4.from_]).length 1), (8, .int .i64 at2), (9, .int .i64 i1)] (by show ([0, 1, 5, 6, 7, 8, 9] : List Nat).Nodup; decide) (by show ([104] : List Nat).Nodup; decide) ?_ ?_ (fun t0 => ⟨(others2 ++ [x4.from_]), t0, H, rfl⟩)
                    · exact (allB_some (by rfl) rfl (.same _ _ (ci_pu .i64) (by first | rfl | (simp only [List.map_append, List.map_cons, List.map_nil, List.map_set, List.map_take, List.map_drop, List.map_replicate, List.append_assoc, List.nil_append, List.append_nil, ci_eq, cb_eq, cs_eq, cl_eq, CS,  List.nil_append]; done) | (simp [CS,  ci_eq, cb_eq, cs_eq, cl_eq]; done) | (simp [CS,  ci_eq, cb_eq, cs_eq, cl_eq]; intro hz; rw [List.take_of_length_le (by simp; omega)]))) trivial)
                    · (simp only [AllT, tl_cons, tl_nil, upd_apply, List.getD_cons_zero, List.getD_cons_succ, Nat.reduceEqDiff, ↓reduceIte, and_true]); exact ⟨(.lst _ _ _ Msg.pu rfl), (.lst _ _ _ (ci_pu .i64) rfl), (.bool' rfl), (.lst _ _ _ Msg.pu rfl), (.refl' (by first | rfl | omega | (simp; done) | (simp [strBytes_len]; done) | (simp; omega) | (simp_all; done)) rfl), (.int' rfl), (.int' rfl)⟩
                  · have H := cond_f zc11 H
                    refine a_skip ?_
                    refine cA_n ?_
                    refine wk_l [(some 0, ⟨3, 1, false, others2.map (ci .i64)⟩)] [] [(0, .list 5 (w1.map Msg.c)), (1, .list 1 (side1.map (ci .i64))), (5, .bool r1), (6, .list 5 (r2.map Msg.c)), (7, .ref 0 0 others2.length 1), (8, .int .i64 at2), (9, .int .i64 i1)] (by show ([0, 1, 5, 6, 7, 8, 9] : List Nat).Nodup; decide) (by show ([0] : List Nat).Nodup; decide) ?_ ?_ (fun t0 => ⟨others2, t0, H, rfl⟩)
                    · exact (allB_some (by rfl) rfl (.same _ _ (ci_pu .i64) (by first | rfl | (simp only [List.map_append, List.map_cons, List.map_nil, List.map_set, List.map_take, List.map_drop, List.map_replicate, List.append_assoc, List.nil_append, List.append_nil, ci_eq, cb_eq, cs_eq, cl_eq, CS,  List.nil_append]; done) | (simp [CS,  ci_eq, cb_eq, cs_eq, cl_eq]; done) | (simp [CS,  ci_eq, cb_eq, cs_eq, cl_eq]; intro hz; rw [List.take_of_length_le (by simp; omega)]))) trivial)
                    · (simp only [AllT, tl_cons, tl_nil, upd_apply, List.getD_cons_zero, List.getD_cons_succ, Nat.reduceEqDiff, ↓reduceIte, and_true]); exact ⟨(.lst _ _ _ Msg.pu rfl), (.lst _ _ _ (ci_pu .i64) rfl), (.bool' rfl), (.lst _ _ _ Msg.pu rfl), (.refl' (by first | rfl | omega | (simp; done) | (simp [strBytes_len]; done) | (simp; omega) | (simp_all; done)) rfl), (.int' rfl), (.int' rfl)⟩
                · rintro s ⟨others4, t0, H, rfl⟩
                  unfold law05_WireSides_J4 at H
                  refine a_cut (fun s => ∃ (others5 : List Int) (t0 : Nat → Dat), law05_WireSides_J5 (law05_WireSides_L1 w1 side1 r2 r1 m_law05_WireSides_L1) w1 i1 side1 r2 at2 others5 = some r ∧ s = ⟨tl t0 [(0, .list 5 (w1.map Msg.c)), (1, .list 1 (side1.map (ci .i64))), (5, .bool r1), (6, .list 5 (r2.map Msg.c)), (7, .ref 0 0 others5.length 1), (8, .int .i64 at2), (9, .int .i64 i1)], hl [⟨3, 1, false, others5.map (ci .i64)⟩], 1, 120⟩) ?_ ?_
                  · refine a_seq ?_
                    obtain ⟨x3, zh14, H⟩ := bind_some H
                    have zg3 := idx_map zh14 Msg.c
                    try simp only [Int.reduceToNat] at zg3
                    obtain ⟨zh14a, zh14b, _⟩ := idx_some zh14
                    obtain ⟨r12, zh15, H⟩ := bind_some H
                    have zk12 := ref05_In_pc zh15
                    refine a_reg _ rfl (s := ?zs20) ?_ ?_
                    rotate_left
                    · try simp (maxSteps := 2000000) only [EVT, stepR, evOp, St.ev, St.app, St.put, wrs, evIndexAddr, evFieldAddr, evLoad, cut, frz, evUn, TIS, CS, Nat.reduceAdd, Nat.reduceMul, Nat.reduceEqDiff, ↓reduceIte, reduceCtorEq, Nat.reduceLT, Nat.reduceLeDiff, Int.reduceToNat, Nat.reduceSub, Nat.reduceBEq, zg3]
                      repeat' with_reducible apply And.intro
                      all_goals try ((with_reducible show CallR _ _ _ _ _ _ _); refine cR_s zk12 (.cons (.lst _ _ _ (ci_pu .i64) rfl) (.cons (.int' rfl) .nil)) (.bool _) ?_; simp (maxSteps := 2000000) only [EVT, stepR, evOp, St.ev, St.app, St.put, wrs, evIndexAddr, evFieldAddr, evLoad, cut, frz, evUn, TIS, CS, Nat.reduceAdd, Nat.reduceMul, Nat.reduceEqDiff, ↓reduceIte, reduceCtorEq, Nat.reduceLT, Nat.reduceLeDiff, Int.reduceToNat, Nat.reduceSub, Nat.reduceBEq, zg3])
                      all_goals ((repeat' apply And.intro) <;> first | rfl | assumption | omega | (left; omega) | (simp; done) | (simp; omega) | (right; exact ⟨_, rfl, rfl, rfl, by decide, by first | omega | (simp; omega)⟩) | (simp_all; done))
                    refine sA_n ?_
                    refine a_condb ((!r12)) (by rfl) (fun zc10 => ?_) (fun zc10 => ?_)
                    · have H := cond_t zc10 H
                      obtain ⟨zh16, H⟩ := chk_some H
                      refine a_reg _ rfl (s := ?zs21) ?_ ?_
                      rotate_left
                      · simp (maxSteps := 2000000) only [EVT, stepR, evOp, St.ev, St.app, St.put, wrs, evIndexAddr, evFieldAddr, evLoad, cut, allOne, evBuiltin, evAppend, isAl, elems, Option.elim, TIS, CS, Nat.reduceAdd, Nat.reduceMul, Nat.reduceEqDiff, ↓reduceIte, reduceCtorEq, Nat.reduceLT, Nat.reduceLeDiff, Int.reduceToNat, Nat.reduceSub, Nat.reduceBEq, zg3, ↓zc10]
                        (repeat' apply And.intro) <;> first | rfl | assumption | omega | (left; omega) | (simp; done) | (simp; omega) | (right; exact ⟨_, rfl, rfl, rfl, by decide, by first | omega | (simp; omega)⟩) | (simp_all; done)
                      refine cA_n ?_
                      refine wk_l [(some 72, ⟨3, 1, false, (others4 ++ [x3.to_]).map (ci .i64)⟩)] [] [(0, .list 5 (w1.map Msg.c)), (1, .list 1 (side1.map (ci .i64))), (5, .bool r1), (6, .list 5 (r2.map Msg.c)), (7, .ref 0 0 (others4 ++ [x3.to_]).length 1), (8, .int .i64 at2), (9, .int .i64 i1)] (by show ([0, 1, 5, 6, 7, 8, 9] : List Nat).Nodup; decide) (by show ([72] : List Nat).Nodup; decide) ?_ ?_ (fun t0 => ⟨(others4 ++ [x3.to_]), t0, H, rfl⟩)
                      · exact (allB_some (by rfl) rfl (.same _ _ (ci_pu .i64) (by first | rfl | (simp only [List.map_append, List.map_cons, List.map_nil, List.map_set, List.map_take, List.map_drop, List.map_replicate, List.append_assoc, List.nil_append, List.append_nil, ci_eq, cb_eq, cs_eq, cl_eq, CS,  List.nil_append]; done) | (simp [CS,  ci_eq, cb_eq, cs_eq, cl_eq]; done) | (simp [CS,  ci_eq, cb_eq, cs_eq, cl_eq]; intro hz; rw [List.take_of_length_le (by simp; omega)]))) trivial)
                      · (simp only [AllT, tl_cons, tl_nil, upd_apply, List.getD_cons_zero, List.getD_cons_succ, Nat.reduceEqDiff, ↓reduceIte, and_true]); exact ⟨(.lst _ _ _ Msg.pu rfl), (.lst _ _ _ (ci_pu .i64) rfl), (.bool' rfl), (.lst _ _ _ Msg.pu rfl), (.refl' (by first | rfl | omega | (simp; done) | (simp [strBytes_len]; done) | (simp; omega) | (simp_all; done)) rfl), (.int' rfl), (.int' rfl)⟩
                    · have H := cond_f zc10 H
                      refine a_skip ?_
                      refine cA_n ?_
                      refine wk_l [(some 0, ⟨3, 1, false, others4.map (ci .i64)⟩)] [] [(0, .list 5 (w1.map Msg.c)), (1, .list 1 (side1.map (ci .i64))), (5, .bool r1), (6, .list 5 (r2.map Msg.c)), (7, .ref 0 0 others4.length 1), (8, .int .i64 at2), (9, .int .i64 i1)] (by show ([0, 1, 5, 6, 7, 8, 9] : List Nat).Nodup; decide) (by show ([0] : List Nat).Nodup; decide) ?_ ?_ (fun t0 => ⟨others4, t0, H, rfl⟩)
                      · exact (allB_some (by rfl) rfl (.same _ _ (ci_pu .i64) (by first | rfl | (simp only [List.map_append, List.map_cons, List.map_nil, List.map_set, List.map_take, List.map_drop, List.map_replicate, List.append_assoc, List.nil_append, List.append_nil, ci_eq, cb_eq, cs_eq, cl_eq, CS,  List.nil_append]; done) | (simp [CS,  ci_eq, cb_eq, cs_eq, cl_eq]; done) | (simp [CS,  ci_eq, cb_eq, cs_eq, cl_eq]; intro hz; rw [List.take_of_length_le (by simp; omega)]))) trivial)
                      · (simp only [AllT, tl_cons, tl_nil, upd_apply, List.getD_cons_zero, List.getD_cons_succ, Nat.reduceEqDiff, ↓reduceIte, and_true]); exact ⟨(.lst _ _ _ Msg.pu rfl), (.lst _ _ _ (ci_pu .i64) rfl), (.bool' rfl), (.lst _ _ _ Msg.pu rfl), (.refl' (by first | rfl | omega | (simp; done) | (simp [strBytes_len]; done) | (simp; omega) | (simp_all; done)) rfl), (.int' rfl), (.int' rfl)⟩
                  · rintro s ⟨others5, t0, H, rfl⟩
                    unfold law05_WireSides_J5 at H
                    refine a_seq ?_
                    obtain ⟨x1, zh9, H⟩ := bind_some H
                    have zg1 := idx_map zh9 Msg.c
                    try simp only [Int.reduceToNat] at zg1
                    obtain ⟨zh9a, zh9b, _⟩ := idx_some zh9
                    obtain ⟨r9, zh10, H⟩ := bind_some H
                    have zk9 := ref05_In_pc zh10
                    obtain ⟨r10, zh11, H⟩ := bind_some H
                    have zk10 := ref05_In_pc zh11
                    refine a_drW (by kernel_rfl) _ rfl (s := ?zs15) (by kernel_rfl) (by kernel_rfl) ?zs15f ?_ ?_ ?_
                    rotate_left 2
                    · try simp (maxSteps := 2000000) only [EVT, stepW, evOp, St.ev, St.app, St.put, wrs, evIndexAddr, evFieldAddr, evLoad, cut, frz, evBin, binInt, TIS, CS, Nat.reduceAdd, Nat.reduceMul, Nat.reduceEqDiff, ↓reduceIte, reduceCtorEq, Nat.reduceLT, Nat.reduceLeDiff, Int.reduceToNat, Nat.reduceSub, Nat.reduceBEq, zg1]
                      repeat' with_reducible apply And.intro
                      all_goals try ((with_reducible show CallW _ _ _ _ _ _ _); refine cW_s [] zk9 (fun h2 e => (.cons (.lst _ _ _ (ci_pu .i64) rfl) (.cons (.int' rfl) .nil))) (.bool _) ?_; simp (maxSteps := 2000000) only [EVT, stepW, evOp, St.ev, St.app, St.put, wrs, evIndexAddr, evFieldAddr, evLoad, cut, frz, evBin, binInt, TIS, CS, Nat.reduceAdd, Nat.reduceMul, Nat.reduceEqDiff, ↓reduceIte, reduceCtorEq, Nat.reduceLT, Nat.reduceLeDiff, Int.reduceToNat, Nat.reduceSub, Nat.reduceBEq, zg1])
                      repeat' with_reducible apply And.intro
                      all_goals try ((with_reducible show CallW _ _ _ _ _ _ _); refine cW_s [] zk10 (fun h2 e => (.cons (.lst _ _ _ (ci_pu .i64) rfl) (.cons (.int' rfl) .nil))) (.bool _) ?_; simp (maxSteps := 2000000) only [EVT, stepW, evOp, St.ev, St.app, St.put, wrs, evIndexAddr, evFieldAddr, evLoad, cut, frz, evBin, binInt, TIS, CS, Nat.reduceAdd, Nat.reduceMul, Nat.reduceEqDiff, ↓reduceIte, reduceCtorEq, Nat.reduceLT, Nat.reduceLeDiff, Int.reduceToNat, Nat.reduceSub, Nat.reduceBEq, zg1])
                      all_goals ((repeat' apply And.intro) <;> first | rfl | assumption | omega | (left; omega) | (simp; done) | (simp; omega) | (right; exact ⟨_, rfl, rfl, rfl, by decide, by first | omega | (simp; omega)⟩) | (simp_all; done))
                    · kernel_rfl
                    refine sA_n ?_
                    refine a_condb ((r9 == r10)) (by rfl) (fun zc7 => ?_) (fun zc7 => ?_)
                    · have H := cond_t zc7 H
                      refine a_seq ?_
                      refine a_cut (fun s => ∃ (v2 : Bool) (t0 : Nat → Dat), law05_WireSides_J6 (law05_WireSides_L1 w1 side1 r2 r1 m_law05_WireSides_L1) i1 others5 at2 v2 = some r ∧ s = ⟨tl t0 [(0, .list 5 (w1.map Msg.c)), (1, .list 1 (side1.map (ci .i64))), (5, .bool r1), (6, .list 5 (r2.map Msg.c)), (7, .ref 0 0 others5.length 1), (8, .int .i64 at2), (9, .int .i64 i1), (90, .bool v2)], hl [⟨3, 1, false, others5.map (ci .i64)⟩], 1, 120⟩) ?_ ?_
                      · refine bool_split (b := (decide ((r2.length : Int) ≤ at2))) (fun zc9 => ?_) (fun zc9 => ?_)
                        · have H := cond_t zc9 H
                          refine a_drW (by kernel_rfl) _ rfl (s := ?zs18) (by kernel_rfl) (by kernel_rfl) ?zs18f ?_ ?_ ?_
                          rotate_left 2
                          · simp (maxSteps := 2000000) only [EVT, stepW, evOp, St.ev, St.app, St.put, wrs, evBuiltin, evBin, binInt, evIndexAddr, evLoad, cut, frz, evUn, datOf, datOf1, TIS, CS, Nat.reduceAdd, Nat.reduceMul, Nat.reduceEqDiff, ↓reduceIte, reduceCtorEq, Nat.reduceLT, Nat.reduceLeDiff, Array.reduceGetElem?, Int.reduceToNat, Nat.reduceSub, Nat.reduceBEq, zg1, ↓zc7, ↓zc9]
                            try simp (maxSteps := 2000000) only [EVT, stepW, evOp, St.ev, St.app, St.put, wrs, evBuiltin, evBin, binInt, evIndexAddr, evLoad, cut, frz, evUn, datOf, datOf1, TIS, CS, Nat.reduceAdd, Nat.reduceMul, Nat.reduceEqDiff, ↓reduceIte, reduceCtorEq, Nat.reduceLT, Nat.reduceLeDiff, Array.reduceGetElem?, Int.reduceToNat, Nat.reduceSub, Nat.reduceBEq, zg1, ↓zc7, ↓zc9]
                            (repeat' apply And.intro) <;> first | rfl | assumption | omega | (left; omega) | (simp; done) | (simp; omega) | (right; exact ⟨_, rfl, rfl, rfl, by decide, by first | omega | (simp; omega)⟩) | (simp_all; done)
                          · kernel_rfl
                          refine cA_n ?_
                          refine wk_l [(some 0, ⟨3, 1, false, others5.map (ci .i64)⟩)] [] [(0, .list 5 (w1.map Msg.c)), (1, .list 1 (side1.map (ci .i64))), (5, .bool r1), (6, .list 5 (r2.map Msg.c)), (7, .ref 0 0 others5.length 1), (8, .int .i64 at2), (9, .int .i64 i1), (90, .bool true)] (by show ([0, 1, 5, 6, 7, 8, 9, 90] : List Nat).Nodup; decide) (by show ([0] : List Nat).Nodup; decide) ?_ ?_ (fun t0 => ⟨true, t0, H, rfl⟩)
                          · exact (allB_some (by rfl) rfl (.same _ _ (ci_pu .i64) (by first | rfl | (simp only [List.map_append, List.map_cons, List.map_nil, List.map_set, List.map_take, List.map_drop, List.map_replicate, List.append_assoc, List.nil_append, List.append_nil, ci_eq, cb_eq, cs_eq, cl_eq, CS,  List.nil_append]; done) | (simp [CS,  ci_eq, cb_eq, cs_eq, cl_eq]; done) | (simp [CS,  ci_eq, cb_eq, cs_eq, cl_eq]; intro hz; rw [List.take_of_length_le (by simp; omega)]))) trivial)
                          · (simp only [AllT, tl_cons, tl_nil, upd_apply, List.getD_cons_zero, List.getD_cons_succ, Nat.reduceEqDiff, ↓reduceIte, and_true]); exact ⟨(.lst _ _ _ Msg.pu rfl), (.lst _ _ _ (ci_pu .i64) rfl), (.bool' rfl), (.lst _ _ _ Msg.pu rfl), (.refl' (by first | rfl | omega | (simp; done) | (simp [strBytes_len]; done) | (simp; omega) | (simp_all; done)) rfl), (.int' rfl), (.int' rfl), (.bool' (by first | rfl | assumption | (simp_all; done)))⟩
                        · have H := cond_f zc9 H
                          obtain ⟨x2, zh12, H⟩ := bind_some H
                          have zg2 := idx_map zh12 Msg.c
                          try simp only [Int.reduceToNat] at zg2
                          obtain ⟨zh12a, zh12b, _⟩ := idx_some zh12
                          obtain ⟨r11, zh13, H⟩ := bind_some H
                          have zk11 := ref05_Same_pc zh13
                          refine a_drW (by kernel_rfl) _ rfl (s := ?zs19) (by kernel_rfl) (by kernel_rfl) ?zs19f ?_ ?_ ?_
                          rotate_left 2
                          · try simp (maxSteps := 2000000) only [EVT, stepW, evOp, St.ev, St.app, St.put, wrs, evBuiltin, evBin, binInt, evIndexAddr, evLoad, cut, frz, evUn, datOf, datOf1, TIS, CS, Nat.reduceAdd, Nat.reduceMul, Nat.reduceEqDiff, ↓reduceIte, reduceCtorEq, Nat.reduceLT, Nat.reduceLeDiff, Array.reduceGetElem?, Int.reduceToNat, Nat.reduceSub, Nat.reduceBEq, zg1, ↓zc7, ↓zc9, zg2]
                            repeat' with_reducible apply And.intro
                            all_goals try ((with_reducible show CallW _ _ _ _ _ _ _); refine cW_s [] zk11 (fun h2 e => (.cons (.agg' (.cons (.int' rfl) (.cons (.int' rfl) (.cons (.int' rfl) (.cons (.lst _ _ _ (ci_pu .i64) rfl) (.cons (.lst _ _ _ (ci_pu .u8) rfl) .nil)))))) (.cons (.agg' (.cons (.int' rfl) (.cons (.int' rfl) (.cons (.int' rfl) (.cons (.lst _ _ _ (ci_pu .i64) rfl) (.cons (.lst _ _ _ (ci_pu .u8) rfl) .nil)))))) .nil))) (.bool _) ?_; simp (maxSteps := 2000000) only [EVT, stepW, evOp, St.ev, St.app, St.put, wrs, evBuiltin, evBin, binInt, evIndexAddr, evLoad, cut, frz, evUn, datOf, datOf1, TIS, CS, Nat.reduceAdd, Nat.reduceMul, Nat.reduceEqDiff, ↓reduceIte, reduceCtorEq, Nat.reduceLT, Nat.reduceLeDiff, Array.reduceGetElem?, Int.reduceToNat, Nat.reduceSub, Nat.reduceBEq, zg1, ↓zc7, ↓zc9, zg2])
                            all_goals ((repeat' apply And.intro) <;> first | rfl | assumption | omega | (left; omega) | (simp; done) | (simp; omega) | (right; exact ⟨_, rfl, rfl, rfl, by decide, by first | omega | (simp; omega)⟩) | (simp_all; done))
                          · kernel_rfl
                          refine cA_n ?_
                          refine wk_l [(some 0, ⟨3, 1, false, others5.map (ci .i64)⟩)] [] [(0, .list 5 (w1.map Msg.c)), (1, .list 1 (side1.map (ci .i64))), (5, .bool r1), (6, .list 5 (r2.map Msg.c)), (7, .ref 0 0 others5.length 1), (8, .int .i64 at2), (9, .int .i64 i1), (90, .bool (!r11))] (by show ([0, 1, 5, 6, 7, 8, 9, 90] : List Nat).Nodup; decide) (by show ([0] : List Nat).Nodup; decide) ?_ ?_ (fun t0 => ⟨(!r11), t0, H, rfl⟩)
                          · exact (allB_some (by rfl) rfl (.same _ _ (ci_pu .i64) (by first | rfl | (simp only [List.map_append, List.map_cons, List.map_nil, List.map_set, List.map_take, List.map_drop, List.map_replicate, List.append_assoc, List.nil_append, List.append_nil, ci_eq, cb_eq, cs_eq, cl_eq, CS,  List.nil_append]; done) | (simp [CS,  ci_eq, cb_eq, cs_eq, cl_eq]; done) | (simp [CS,  ci_eq, cb_eq, cs_eq, cl_eq]; intro hz; rw [List.take_of_length_le (by simp; omega)]))) trivial)
                          · (simp only [AllT, tl_cons, tl_nil, upd_apply, List.getD_cons_zero, List.getD_cons_succ, Nat.reduceEqDiff, ↓reduceIte, and_true]); exact ⟨(.lst _ _ _ Msg.pu rfl), (.lst _ _ _ (ci_pu .i64) rfl), (.bool' rfl), (.lst _ _ _ Msg.pu rfl), (.refl' (by first | rfl | omega | (simp; done) | (simp [strBytes_len]; done) | (simp; omega) | (simp_all; done)) rfl), (.int' rfl), (.int' rfl), (.bool' rfl)⟩
                      · rintro s ⟨v2, t0, H, rfl⟩
                        unfold law05_WireSides_J6 at H
                        refine a_condb (v2) (by rfl) (fun zc8 => ?_) (fun zc8 => ?_)
                        · have H := cond_t zc8 H
                          refine a_seq ?_
                          refine a_reg _ rfl (s := ?zs16) ?_ ?_
                          rotate_left
                          · simp (maxSteps := 2000000) only [EVT, stepR, evOp, St.ev, St.app, St.put, wrs, datOf, datOf1, TIS, CS, Nat.reduceAdd, Nat.reduceMul, Nat.reduceEqDiff, ↓reduceIte, reduceCtorEq, Nat.reduceLT, Nat.reduceLeDiff, ↓zc8]
                            (repeat' apply And.intro) <;> first | rfl | assumption | omega | (left; omega) | (simp; done) | (simp; omega) | (right; exact ⟨_, rfl, rfl, rfl, by decide, by first | omega | (simp; omega)⟩) | (simp_all; done)
                          refine sA_n ?_
                          refine a_ret ?_
                          refine sA_r ?_
                          refine bA_r ?_
                          refine cA_r ?_
                          refine lA_r ?_
                          refine bA_r ?_
                          refine cA_r ?_
                          obtain rfl := Option.some.inj H
                          refine e_r2 (d := ?zd7) ?_ ?_
                          rotate_left
                          · simp only [EVT, resR, single, evLoad, cut, TIS, CS, Nat.reduceAdd, Nat.reduceEqDiff, ↓reduceIte, reduceCtorEq, Nat.reduceLT, Nat.reduceLeDiff, Nat.reduceSub, Nat.reduceBEq, zc8]
                            (repeat' apply And.intro) <;> first | rfl | assumption | omega | (simp; done)
                          exact (.bool' (by first | rfl | assumption | (simp_all; done)))
                        · have H := cond_f zc8 H
                          refine a_skip ?_
                          refine sA_n ?_
                          refine a_reg _ rfl (s := ?zs17) ?_ ?_
                          rotate_left
                          · simp (maxSteps := 2000000) only [EVT, stepR, evOp, St.ev, St.app, St.put, wrs, datOf, datOf1, evBin, binInt, TIS, CS, Nat.reduceAdd, Nat.reduceMul, Nat.reduceEqDiff, ↓reduceIte, reduceCtorEq, Nat.reduceLT, Nat.reduceLeDiff, ↓zc8]
                            (repeat' apply And.intro) <;> first | rfl | assumption | omega | (left; omega) | (simp; done) | (simp; omega) | (right; exact ⟨_, rfl, rfl, rfl, by decide, by first | omega | (simp; omega)⟩) | (simp_all; done)
                          refine bA_n ?_
                          refine cA_n ?_
                          refine wk_l [(some 0, ⟨3, 1, false, others5.map (ci .i64)⟩)] [] [(0, .list 5 (w1.map Msg.c)), (1, .list 1 (side1.map (ci .i64))), (5, .bool r1), (6, .list 5 (r2.map Msg.c)), (7, .ref 0 0 others5.length 1), (8, .int .i64 (IntKind.wrap .i64 (at2 + 1))), (9, .int .i64 i1)] (by show ([0, 1, 5, 6, 7, 8, 9] : List Nat).Nodup; decide) (by show ([0] : List Nat).Nodup; decide) ?_ ?_ (fun t0 => ⟨others5, (IntKind.wrap .i64 (at2 + 1)), t0, H, rfl⟩)
                          · exact (allB_some (by rfl) rfl (.same _ _ (ci_pu .i64) (by first | rfl | (simp only [List.map_append, List.map_cons, List.map_nil, List.map_set, List.map_take, List.map_drop, List.map_replicate, List.append_assoc, List.nil_append, List.append_nil, ci_eq, cb_eq, cs_eq, cl_eq, CS,  List.nil_append]; done) | (simp [CS,  ci_eq, cb_eq, cs_eq, cl_eq]; done) | (simp [CS,  ci_eq, cb_eq, cs_eq, cl_eq]; intro hz; rw [List.take_of_length_le (by simp; omega)]))) trivial)
                          · (simp only [AllT, tl_cons, tl_nil, upd_apply, List.getD_cons_zero, List.getD_cons_succ, Nat.reduceEqDiff, ↓reduceIte, and_true]); exact ⟨(.lst _ _ _ Msg.pu rfl), (.lst _ _ _ (ci_pu .i64) rfl), (.bool' rfl), (.lst _ _ _ Msg.pu rfl), (.refl' (by first | rfl | omega | (simp; done) | (simp [strBytes_len]; done) | (simp; omega) | (simp_all; done)) rfl), (.int' rfl), (.int' rfl)⟩
                    · have H := cond_f zc7 H
                      refine a_skip ?_
                      refine bA_n ?_
                      refine cA_n ?_
                      refine wk_l [(some 0, ⟨3, 1, false, others5.map (ci .i64)⟩)] [] [(0, .list 5 (w1.map Msg.c)), (1, .list 1 (side1.map (ci .i64))), (5, .bool r1), (6, .list 5 (r2.map Msg.c)), (7, .ref 0 0 others5.length 1), (8, .int .i64 at2), (9, .int .i64 i1)] (by show ([0, 1, 5, 6, 7, 8, 9] : List Nat).Nodup; decide) (by show ([0] : List Nat).Nodup; decide) ?_ ?_ (fun t0 => ⟨others5, at2, t0, H, rfl⟩)
                      · exact (allB_some (by rfl) rfl (.same _ _ (ci_pu .i64) (by first | rfl | (simp only [List.map_append, List.map_cons, List.map_nil, List.map_set, List.map_take, List.map_drop, List.map_replicate, List.append_assoc, List.nil_append, List.append_nil, ci_eq, cb_eq, cs_eq, cl_eq, CS,  List.nil_append]; done) | (simp [CS,  ci_eq, cb_eq, cs_eq, cl_eq]; done) | (simp [CS,  ci_eq, cb_eq, cs_eq, cl_eq]; intro hz; rw [List.take_of_length_le (by simp; omega)]))) trivial)
                      · (simp only [AllT, tl_cons, tl_nil, upd_apply, List.getD_cons_zero, List.getD_cons_succ, Nat.reduceEqDiff, ↓reduceIte, and_true]); exact ⟨(.lst _ _ _ Msg.pu rfl), (.lst _ _ _ (ci_pu .i64) rfl), (.bool' rfl), (.lst _ _ _ Msg.pu rfl), (.refl' (by first | rfl | omega | (simp; done) | (simp [strBytes_len]; done) | (simp; omega) | (simp_all; done)) rfl), (.int' rfl), (.int' rfl)⟩
              · rintro s ⟨others3, at3, t0, H, rfl⟩
                unfold law05_WireSides_J3 at H
                refine a_reg _ rfl (s := ?zs14) ?_ ?_
                rotate_left
                · simp (maxSteps := 2000000) only [EVT, stepR, evOp, St.ev, St.app, St.put, wrs, datOf, datOf1, evBin, binInt, TIS, CS, Nat.reduceAdd, Nat.reduceMul, Nat.reduceEqDiff, ↓reduceIte, reduceCtorEq, Nat.reduceLT, Nat.reduceLeDiff]
                  (repeat' apply And.intro) <;> first | rfl | assumption | omega | (left; omega) | (simp; done) | (simp; omega) | (right; exact ⟨_, rfl, rfl, rfl, by decide, by first | omega | (simp; omega)⟩) | (simp_all; done)
                refine lA_n ?_
                refine wk_l [(some 0, ⟨3, 1, false, others3.map (ci .i64)⟩)] [] [(0, .list 5 (w1.map Msg.c)), (1, .list 1 (side1.map (ci .i64))), (5, .bool r1), (6, .list 5 (r2.map Msg.c)), (7, .ref 0 0 others3.length 1), (8, .int .i64 at3), (9, .int .i64 (IntKind.wrap .i64 (i1 + 1)))] (by show ([0, 1, 5, 6, 7, 8, 9] : List Nat).Nodup; decide) (by show ([0] : List Nat).Nodup; decide) ?_ ?_ (fun t0 => ⟨_, Nat.lt_succ_self _, others3, at3, (IntKind.wrap .i64 (i1 + 1)), t0, H, rfl⟩)
                · exact (allB_some (by rfl) rfl (.same _ _ (ci_pu .i64) (by first | rfl | (simp only [List.map_append, List.map_cons, List.map_nil, List.map_set, List.map_take, List.map_drop, List.map_replicate, List.append_assoc, List.nil_append, List.append_nil, ci_eq, cb_eq, cs_eq, cl_eq, CS,  List.nil_append]; done) | (simp [CS,  ci_eq, cb_eq, cs_eq, cl_eq]; done) | (simp [CS,  ci_eq, cb_eq, cs_eq, cl_eq]; intro hz; rw [List.take_of_length_le (by simp; omega)]))) trivial)
                · (simp only [AllT, tl_cons, tl_nil, upd_apply, List.getD_cons_zero, List.getD_cons_succ, Nat.reduceEqDiff, ↓reduceIte, and_true]); exact ⟨(.lst _ _ _ Msg.pu rfl), (.lst _ _ _ (ci_pu .i64) rfl), (.bool' rfl), (.lst _ _ _ Msg.pu rfl), (.refl' (by first | rfl | omega | (simp; done) | (simp [strBytes_len]; done) | (simp; omega) | (simp_all; done)) rfl), (.int' rfl), (.int' rfl)⟩
            · have H := cond_f zc6 H
              refine a_exit ?_
              refine sA_e ?_
              refine lA_e ?_
              refine bA_hit ?_
              refine cA_n ?_
              refine wk_l [(some 0, ⟨3, 1, false, others2.map (ci .i64)⟩)] [] [(0, .list 5 (w1.map Msg.c)), (1, .list 1 (side1.map (ci .i64))), (5, .bool r1), (6, .list 5 (r2.map Msg.c)), (7, .ref 0 0 others2.length 1), (8, .int .i64 at2)] (by show ([0, 1, 5, 6, 7, 8] : List Nat).Nodup; decide) (by show ([0] : List Nat).Nodup; decide) ?_ ?_ (fun t0 => ⟨others2, at2, t0, H, rfl⟩)
              · exact (allB_some (by rfl) rfl (.same _ _ (ci_pu .i64) (by first | rfl | (simp only [List.map_append, List.map_cons, List.map_nil, List.map_set, List.map_take, List.map_drop, List.map_replicate, List.append_assoc, List.nil_append, List.append_nil, ci_eq, cb_eq, cs_eq, cl_eq, CS,  List.nil_append]; done) | (simp [CS,  ci_eq, cb_eq, cs_eq, cl_eq]; done) | (simp [CS,  ci_eq, cb_eq, cs_eq, cl_eq]; intro hz; rw [List.take_of_length_le (by simp; omega)]))) trivial)
              · (simp only [AllT, tl_cons, tl_nil, upd_apply, List.getD_cons_zero, List.getD_cons_succ, Nat.reduceEqDiff, ↓reduceIte, and_true]); exact ⟨(.lst _ _ _ Msg.pu rfl), (.lst _ _ _ (ci_pu .i64) rfl), (.bool' rfl), (.lst _ _ _ Msg.pu rfl), (.refl' (by first | rfl | omega | (simp; done) | (simp [strBytes_len]; done) | (simp; omega) | (simp_all; done)) rfl), (.int' rfl)⟩
      · rintro s ⟨others1, at1, t0, H, rfl⟩
        unfold law05_WireSides_J2 at H
        refine a_seq ?_
        refine bool_split (b := r1) (fun zc2 => ?_) (fun zc2 => ?_)
        · have H := cond_t zc2 H
          refine bool_split (b := (at1 == (r2.length : Int))) (fun zc3 => ?_) (fun zc3 => ?_)
          · have H := cond_t zc3 H
            obtain ⟨r3, zh3, H⟩ := bind_some H
            have zk3 := wire_Cut_pc zh3
            obtain ⟨r4, zh4, H⟩ := bind_some H
            have zk4 := ref05_SameAll_pc zh4
            refine bool_split (b := r4) (fun zc4 => ?_) (fun zc4 => ?_)
            · have H := cond_t zc4 H
              obtain ⟨r5, zh5, H⟩ := bind_some H
              have zk5 := wire_Cut_pc zh5
              obtain ⟨r6, zh6, H⟩ := bind_some H
              have zk6 := ref05_SameAll_pc zh6
              refine bool_split (b := r6) (fun zc5 => ?_) (fun zc5 => ?_)
              · have H := cond_t zc5 H
                obtain ⟨r7, zh7, H⟩ := bind_some H
                have zk7 := wire_Cut_pc zh7
                obtain ⟨r8, zh8, H⟩ := bind_some H
                have zk8 := ref05_SameAll_pc zh8
                refine a_reg _ rfl (s := ?zs7) ?_ ?_
                rotate_left
                · try simp (maxSteps := 2000000) only [EVT, stepR, evOp, St.ev, St.app, St.put, wrs, evBuiltin, evBin, binInt, datOf, datOf1, frz, TIS, CS, Nat.reduceAdd, Nat.reduceMul, Nat.reduceEqDiff, ↓reduceIte, reduceCtorEq, Nat.reduceLT, Nat.reduceLeDiff, Array.reduceGetElem?, Nat.reduceSub, Nat.reduceBEq, ↓zc2, ↓zc3, ↓zc4, ↓zc5]
                  repeat' with_reducible apply And.intro
                  all_goals try ((with_reducible show CallR _ _ _ _ _ _ _); refine cR_f [0] zk3 (.cons (.lst _ _ _ Msg.pu rfl) (.cons (.ownL ((wrs_frz _ _ _ 0).trans (by rfl)) (fun _ => rfl) rfl (by first | rfl | omega | (simp; done) | (simp [strBytes_len]; done) | (simp; omega) | (simp_all; done)) (.same _ _ (ci_pu .i64) (by first | rfl | (simp only [List.map_append, List.map_cons, List.map_nil, List.map_set, List.map_take, List.map_drop, List.map_replicate, List.append_assoc, List.nil_append, List.append_nil, ci_eq, cb_eq, cs_eq, cl_eq, CS,  List.nil_append]; done) | (simp [CS,  ci_eq, cb_eq, cs_eq, cl_eq]; done) | (simp [CS,  ci_eq, cb_eq, cs_eq, cl_eq]; intro hz; rw [List.take_of_length_le (by simp; omega)])))) .nil)) ?_; simp (maxSteps := 2000000) only [EVT, stepR, evOp, St.ev, St.app, St.put, wrs, evBuiltin, evBin, binInt, datOf, datOf1, frz, TIS, CS, Nat.reduceAdd, Nat.reduceMul, Nat.reduceEqDiff, ↓reduceIte, reduceCtorEq, Nat.reduceLT, Nat.reduceLeDiff, Array.reduceGetElem?, Nat.reduceSub, Nat.reduceBEq, ↓zc2, ↓zc3, ↓zc4, ↓zc5])
                  repeat' with_reducible apply And.intro
                  all_goals try ((with_reducible show CallR _ _ _ _ _ _ _); refine cR_s zk4 (.cons (.lst _ _ _ Msg.pu rfl) (.cons (.lst _ _ _ Msg.pu rfl) .nil)) (.bool _) ?_; simp (maxSteps := 2000000) only [EVT, stepR, evOp, St.ev, St.app, St.put, wrs, evBuiltin, evBin, binInt, datOf, datOf1, frz, TIS, CS, Nat.reduceAdd, Nat.reduceMul, Nat.reduceEqDiff, ↓reduceIte, reduceCtorEq, Nat.reduceLT, Nat.reduceLeDiff, Array.reduceGetElem?, Nat.reduceSub, Nat.reduceBEq, ↓zc2, ↓zc3, ↓zc4, ↓zc5])
                  repeat' with_reducible apply And.intro
                  all_goals try ((with_reducible show CallR _ _ _ _ _ _ _); refine cR_p zk5 (.cons (.lst _ _ _ Msg.pu rfl) (.cons (.lst _ _ _ (ci_pu .i64) rfl) .nil)) ?_; simp (maxSteps := 2000000) only [EVT, stepR, evOp, St.ev, St.app, St.put, wrs, evBuiltin, evBin, binInt, datOf, datOf1, frz, TIS, CS, Nat.reduceAdd, Nat.reduceMul, Nat.reduceEqDiff, ↓reduceIte, reduceCtorEq, Nat.reduceLT, Nat.reduceLeDiff, Array.reduceGetElem?, Nat.reduceSub, Nat.reduceBEq, ↓zc2, ↓zc3, ↓zc4, ↓zc5])
                  repeat' with_reducible apply And.intro
                  all_goals try ((with_reducible show CallR _ _ _ _ _ _ _); refine cR_s zk6 (.cons (.lst _ _ _ Msg.pu rfl) (.cons (.lst _ _ _ Msg.pu rfl) .nil)) (.bool _) ?_; simp (maxSteps := 2000000) only [EVT, stepR, evOp, St.ev, St.app, St.put, wrs, evBuiltin, evBin, binInt, datOf, datOf1, frz, TIS, CS, Nat.reduceAdd, Nat.reduceMul, Nat.reduceEqDiff, ↓reduceIte, reduceCtorEq, Nat.reduceLT, Nat.reduceLeDiff, Array.reduceGetElem?, Nat.reduceSub, Nat.reduceBEq, ↓zc2, ↓zc3, ↓zc4, ↓zc5])
                  repeat' with_reducible apply And.intro
                  all_goals try ((with_reducible show CallR _ _ _ _ _ _ _); refine cR_p zk7 (.cons (.lst _ _ _ Msg.pu rfl) (.cons (.nil _) .nil)) ?_; simp (maxSteps := 2000000) only [EVT, stepR, evOp, St.ev, St.app, St.put, wrs, evBuiltin, evBin, binInt, datOf, datOf1, frz, TIS, CS, Nat.reduceAdd, Nat.reduceMul, Nat.reduceEqDiff, ↓reduceIte, reduceCtorEq, Nat.reduceLT, Nat.reduceLeDiff, Array.reduceGetElem?, Nat.reduceSub, Nat.reduceBEq, ↓zc2, ↓zc3, ↓zc4, ↓zc5])
                  repeat' with_reducible apply And.intro
                  all_goals try ((with_reducible show CallR _ _ _ _ _ _ _); refine cR_s zk8 (.cons (.lst _ _ _ Msg.pu rfl) (.cons (.lst _ _ _ Msg.pu rfl) .nil)) (.bool _) ?_; simp (maxSteps := 2000000) only [EVT, stepR, evOp, St.ev, St.app, St.put, wrs, evBuiltin, evBin, binInt, datOf, datOf1, frz, TIS, CS, Nat.reduceAdd, Nat.reduceMul, Nat.reduceEqDiff, ↓reduceIte, reduceCtorEq, Nat.reduceLT, Nat.reduceLeDiff, Array.reduceGetElem?, Nat.reduceSub, Nat.reduceBEq, ↓zc2, ↓zc3, ↓zc4, ↓zc5])
                  all_goals ((repeat' apply And.intro) <;> first | rfl | assumption | omega | (left; omega) | (simp; done) | (simp; omega) | (right; exact ⟨_, rfl, rfl, rfl, by decide, by first | omega | (simp; omega)⟩) | (simp_all; done))
                refine sA_n ?_
                refine a_ret ?_
                obtain rfl := Option.some.inj H
                refine e_r2 (d := ?zd2) ?_ ?_
                rotate_left
                · simp only [EVT, resR, single, evLoad, cut, TIS, CS, Nat.reduceAdd, Nat.reduceEqDiff, ↓reduceIte, reduceCtorEq, Nat.reduceLT, Nat.reduceLeDiff, Nat.reduceSub, Nat.reduceBEq, zc2, zc3, zc4, zc5]
                  (repeat' apply And.intro) <;> first | rfl | assumption | omega | (simp; done)
                exact (.bool' rfl)
              · have H := cond_f zc5 H
                refine a_reg _ rfl (s := ?zs8) ?_ ?_
                rotate_left
                · try simp (maxSteps := 2000000) only [EVT, stepR, evOp, St.ev, St.app, St.put, wrs, evBuiltin, evBin, binInt, datOf, datOf1, frz, TIS, CS, Nat.reduceAdd, Nat.reduceMul, Nat.reduceEqDiff, ↓reduceIte, reduceCtorEq, Nat.reduceLT, Nat.reduceLeDiff, Array.reduceGetElem?, Nat.reduceSub, Nat.reduceBEq, ↓zc2, ↓zc3, ↓zc4, ↓zc5]
                  repeat' with_reducible apply And.intro
                  all_goals try ((with_reducible show CallR _ _ _ _ _ _ _); refine cR_f [0] zk3 (.cons (.lst _ _ _ Msg.pu rfl) (.cons (.ownL ((wrs_frz _ _ _ 0).trans (by rfl)) (fun _ => rfl) rfl (by first | rfl | omega | (simp; done) | (simp [strBytes_len]; done) | (simp; omega) | (simp_all; done)) (.same _ _ (ci_pu .i64) (by first | rfl | (simp only [List.map_append, List.map_cons, List.map_nil, List.map_set, List.map_take, List.map_drop, List.map_replicate, List.append_assoc, List.nil_append, List.append_nil, ci_eq, cb_eq, cs_eq, cl_eq, CS,  List.nil_append]; done) | (simp [CS,  ci_eq, cb_eq, cs_eq, cl_eq]; done) | (simp [CS,  ci_eq, cb_eq, cs_eq, cl_eq]; intro hz; rw [List.take_of_length_le (by simp; omega)])))) .nil)) ?_; simp (maxSteps := 2000000) only [EVT, stepR, evOp, St.ev, St.app, St.put, wrs, evBuiltin, evBin, binInt, datOf, datOf1, frz, TIS, CS, Nat.reduceAdd, Nat.reduceMul, Nat.reduceEqDiff, ↓reduceIte, reduceCtorEq, Nat.reduceLT, Nat.reduceLeDiff, Array.reduceGetElem?, Nat.reduceSub, Nat.reduceBEq, ↓zc2, ↓zc3, ↓zc4, ↓zc5])
                  repeat' with_reducible apply And.intro
                  all_goals try ((with_reducible show CallR _ _ _ _ _ _ _); refine cR_s zk4 (.cons (.lst _ _ _ Msg.pu rfl) (.cons (.lst _ _ _ Msg.pu rfl) .nil)) (.bool _) ?_; simp (maxSteps := 2000000) only [EVT, stepR, evOp, St.ev, St.app, St.put, wrs, evBuiltin, evBin, binInt, datOf, datOf1, frz, TIS, CS, Nat.reduceAdd, Nat.reduceMul, Nat.reduceEqDiff, ↓reduceIte, reduceCtorEq, Nat.reduceLT, Nat.reduceLeDiff, Array.reduceGetElem?, Nat.reduceSub, Nat.reduceBEq, ↓zc2, ↓zc3, ↓zc4, ↓zc5])
                  repeat' with_reducible apply And.intro
                  all_goals try ((with_reducible show CallR _ _ _ _ _ _ _); refine cR_p zk5 (.cons (.lst _ _ _ Msg.pu rfl) (.cons (.lst _ _ _ (ci_pu .i64) rfl) .nil)) ?_; simp (maxSteps := 2000000) only [EVT, stepR, evOp, St.ev, St.app, St.put, wrs, evBuiltin, evBin, binInt, datOf, datOf1, frz, TIS, CS, Nat.reduceAdd, Nat.reduceMul, Nat.reduceEqDiff, ↓reduceIte, reduceCtorEq, Nat.reduceLT, Nat.reduceLeDiff, Array.reduceGetElem?, Nat.reduceSub, Nat.reduceBEq, ↓zc2, ↓zc3, ↓zc4, ↓zc5])
                  repeat' with_reducible apply And.intro
                  all_goals try ((with_reducible show CallR _ _ _ _ _ _ _); refine cR_s zk6 (.cons (.lst _ _ _ Msg.pu rfl) (.cons (.lst _ _ _ Msg.pu rfl) .nil)) (.bool _) ?_; simp (maxSteps := 2000000) only [EVT, stepR, evOp, St.ev, St.app, St.put, wrs, evBuiltin, evBin, binInt, datOf, datOf1, frz, TIS, CS, Nat.reduceAdd, Nat.reduceMul, Nat.reduceEqDiff, ↓reduceIte, reduceCtorEq, Nat.reduceLT, Nat.reduceLeDiff, Array.reduceGetElem?, Nat.reduceSub, Nat.reduceBEq, ↓zc2, ↓zc3, ↓zc4, ↓zc5])
                  all_goals ((repeat' apply And.intro) <;> first | rfl | assumption | omega | (left; omega) | (simp; done) | (simp; omega) | (right; exact ⟨_, rfl, rfl, rfl, by decide, by first | omega | (simp; omega)⟩) | (simp_all; done))
                refine sA_n ?_
                refine a_ret ?_
                obtain rfl := Option.some.inj H
                refine e_r2 (d := ?zd3) ?_ ?_
                rotate_left
                · simp only [EVT, resR, single, evLoad, cut, TIS, CS, Nat.reduceAdd, Nat.reduceEqDiff, ↓reduceIte, reduceCtorEq, Nat.reduceLT, Nat.reduceLeDiff, Nat.reduceSub, Nat.reduceBEq, zc2, zc3, zc4, zc5]
                  (repeat' apply And.intro) <;> first | rfl | assumption | omega | (simp; done)
                exact (.bool' (by first | rfl | assumption | (simp_all; done)))
            · have H := cond_f zc4 H
              refine a_reg _ rfl (s := ?zs9) ?_ ?_
              rotate_left
              · try simp (maxSteps := 2000000) only [EVT, stepR, evOp, St.ev, St.app, St.put, wrs, evBuiltin, evBin, binInt, datOf, datOf1, frz, TIS, CS, Nat.reduceAdd, Nat.reduceMul, Nat.reduceEqDiff, ↓reduceIte, reduceCtorEq, Nat.reduceLT, Nat.reduceLeDiff, Array.reduceGetElem?, Nat.reduceSub, Nat.reduceBEq, ↓zc2, ↓zc3, ↓zc4]
                repeat' with_reducible apply And.intro
                all_goals try ((with_reducible show CallR _ _ _ _ _ _ _); refine cR_f [0] zk3 (.cons (.lst _ _ _ Msg.pu rfl) (.cons (.ownL ((wrs_frz _ _ _ 0).trans (by rfl)) (fun _ => rfl) rfl (by first | rfl | omega | (simp; done) | (simp [strBytes_len]; done) | (simp; omega) | (simp_all; done)) (.same _ _ (ci_pu .i64) (by first | rfl | (simp only [List.map_append, List.map_cons, List.map_nil, List.map_set, List.map_take, List.map_drop, List.map_replicate, List.append_assoc, List.nil_append, List.append_nil, ci_eq, cb_eq, cs_eq, cl_eq, CS,  List.nil_append]; done) | (simp [CS,  ci_eq, cb_eq, cs_eq, cl_eq]; done) | (simp [CS,  ci_eq, cb_eq, cs_eq, cl_eq]; intro hz; rw [List.take_of_length_le (by simp; omega)])))) .nil)) ?_; simp (maxSteps := 2000000) only [EVT, stepR, evOp, St.ev, St.app, St.put, wrs, evBuiltin, evBin, binInt, datOf, datOf1, frz, TIS, CS, Nat.reduceAdd, Nat.reduceMul, Nat.reduceEqDiff, ↓reduceIte, reduceCtorEq, Nat.reduceLT, Nat.reduceLeDiff, Array.reduceGetElem?, Nat.reduceSub, Nat.reduceBEq, ↓zc2, ↓zc3, ↓zc4])
                repeat' with_reducible apply And.intro
                all_goals try ((with_reducible show CallR _ _ _ _ _ _ _); refine cR_s zk4 (.cons (.lst _ _ _ Msg.pu rfl) (.cons (.lst _ _ _ Msg.pu rfl) .nil)) (.bool _) ?_; simp (maxSteps := 2000000) only [EVT, stepR, evOp, St.ev, St.app, St.put, wrs, evBuiltin, evBin, binInt, datOf, datOf1, frz, TIS, CS, Nat.reduceAdd, Nat.reduceMul, Nat.reduceEqDiff, ↓reduceIte, reduceCtorEq, Nat.reduceLT, Nat.reduceLeDiff, Array.reduceGetElem?, Nat.reduceSub, Nat.reduceBEq, ↓zc2, ↓zc3, ↓zc4])
                all_goals ((repeat' apply And.intro) <;> first | rfl | assumption | omega | (left; omega) | (simp; done) | (simp; omega) | (right; exact ⟨_, rfl, rfl, rfl, by decide, by first | omega | (simp; omega)⟩) | (simp_all; done))
              refine sA_n ?_
              refine a_ret ?_
              obtain rfl := Option.some.inj H
              refine e_r2 (d := ?zd4) ?_ ?_
              rotate_left
              · simp only [EVT, resR, single, evLoad, cut, TIS, CS, Nat.reduceAdd, Nat.reduceEqDiff, ↓reduceIte, reduceCtorEq, Nat.reduceLT, Nat.reduceLeDiff, Nat.reduceSub, Nat.reduceBEq, zc2, zc3, zc4]
                (repeat' apply And.intro) <;> first | rfl | assumption | omega | (simp; done)
              exact (.bool' (by first | rfl | assumption | (simp_all; done)))
          · have H := cond_f zc3 H
            refine a_reg _ rfl (s := ?zs10) ?_ ?_
            rotate_left
            · simp (maxSteps := 2000000) only [EVT, stepR, evOp, St.ev, St.app, St.put, wrs, evBuiltin, evBin, binInt, datOf, datOf1, frz, TIS, CS, Nat.reduceAdd, Nat.reduceMul, Nat.reduceEqDiff, ↓reduceIte, reduceCtorEq, Nat.reduceLT, Nat.reduceLeDiff, Array.reduceGetElem?, Nat.reduceSub, Nat.reduceBEq, ↓zc2, ↓zc3]
              try simp (maxSteps := 2000000) only [EVT, stepR, evOp, St.ev, St.app, St.put, wrs, evBuiltin, evBin, binInt, datOf, datOf1, frz, TIS, CS, Nat.reduceAdd, Nat.reduceMul, Nat.reduceEqDiff, ↓reduceIte, reduceCtorEq, Nat.reduceLT, Nat.reduceLeDiff, Array.reduceGetElem?, Nat.reduceSub, Nat.reduceBEq, ↓zc2, ↓zc3]
              (repeat' apply And.intro) <;> first | rfl | assumption | omega | (left; omega) | (simp; done) | (simp; omega) | (right; exact ⟨_, rfl, rfl, rfl, by decide, by first | omega | (simp; omega)⟩) | (simp_all; done)
            refine sA_n ?_
            refine a_ret ?_
            obtain rfl := Option.some.inj H
            refine e_r2 (d := ?zd5) ?_ ?_
            rotate_left
            · simp only [EVT, resR, single, evLoad, cut, TIS, CS, Nat.reduceAdd, Nat.reduceEqDiff, ↓reduceIte, reduceCtorEq, Nat.reduceLT, Nat.reduceLeDiff, Nat.reduceSub, Nat.reduceBEq, zc2, zc3]
              (repeat' apply And.intro) <;> first | rfl | assumption | omega | (simp; done)
            exact (.bool' (by first | rfl | assumption | (simp_all; done)))
        · have H := cond_f zc2 H
          refine a_reg _ rfl (s := ?zs11) ?_ ?_
          rotate_left
          · simp (maxSteps := 2000000) only [EVT, stepR, evOp, St.ev, St.app, St.put, wrs, evBuiltin, evBin, binInt, datOf, datOf1, frz, TIS, CS, Nat.reduceAdd, Nat.reduceMul, Nat.reduceEqDiff, ↓reduceIte, reduceCtorEq, Nat.reduceLT, Nat.reduceLeDiff, Array.reduceGetElem?, Nat.reduceSub, Nat.reduceBEq, ↓zc2]
            try simp (maxSteps := 2000000) only [EVT, stepR, evOp, St.ev, St.app, St.put, wrs, evBuiltin, evBin, binInt, datOf, datOf1, frz, TIS, CS, Nat.reduceAdd, Nat.reduceMul, Nat.reduceEqDiff, ↓reduceIte, reduceCtorEq, Nat.reduceLT, Nat.reduceLeDiff, Array.reduceGetElem?, Nat.reduceSub, Nat.reduceBEq, ↓zc2]
            (repeat' apply And.intro) <;> first | rfl | assumption | omega | (left; omega) | (simp; done) | (simp; omega) | (right; exact ⟨_, rfl, rfl, rfl, by decide, by first | omega | (simp; omega)⟩) | (simp_all; done)
          refine sA_n ?_
          refine a_ret ?_
          obtain rfl := Option.some.inj H
          refine e_r2 (d := ?zd6) ?_ ?_
          rotate_left
          · simp only [EVT, resR, single, evLoad, cut, TIS, CS, Nat.reduceAdd, Nat.reduceEqDiff, ↓reduceIte, reduceCtorEq, Nat.reduceLT, Nat.reduceLeDiff, Nat.reduceSub, Nat.reduceBEq, zc2]
            (repeat' apply And.intro) <;> first | rfl | assumption | omega | (simp; done)
          exact (.bool' (by first | rfl | assumption | (simp_all; done)))
end
end Go.Proofs.Yteebeajhoemdpaa
