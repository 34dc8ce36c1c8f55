/- Functions of the program as Lean functions, and that they are so; printed by a program of mine. -/
import Derived.Test.YtiomajfdphmgaaaF3
set_option linter.unusedSimpArgs false
set_option linter.unusedVariables false
namespace Go.Proofs.Ytiomajfdphmgaaa
open Go.Ab
noncomputable section

def law13_LogCommits_J4 (r1 : Bool) (r2 : Int) (l1 : List Entry) (term1 : Int) (a1 : List Int) (n1 : Int) : Option Bool :=
  cond r1 (cond (decide (r2 ≤ (l1.length : Int))) (cond (decide (1 ≤ r2)) ((idx l1 (IntKind.wrap .i64 (r2 - 1))).bind fun x1 => cond (x1.term == term1) (cond (decide ((((a1.length : Nat)) : Int) < (IntKind.wrap .i64 (2 * n1)))) ((log_Commit_f l1 term1 a1 r2).bind fun r4 => some ((r4 == r2))) (some (false))) (some (false))) (some (false))) (some (false))) (some (false))
def law13_LogCommits_J5 (k_law13_LogCommits_L1 : Int → Int → Option Bool) (i1 : Int) (n3 : Int) : Option Bool :=
  k_law13_LogCommits_L1 n3 (IntKind.wrap .i64 (i1 + 1))
def law13_LogCommits_L1 (a1 : List Int) (r2 : Int) (r1 : Bool) (l1 : List Entry) (term1 : Int) : Nat → Int → Int → Option Bool
  | 0, _, _ => none
  | m_ + 1, n2, i1 => cond (decide (i1 < (((a1.length : Nat)) : Int))) ((idx a1 i1).bind fun x2 => cond (decide (r2 ≤ x2)) (law13_LogCommits_J5 (law13_LogCommits_L1 a1 r2 r1 l1 term1 m_) i1 (IntKind.wrap .i64 (n2 + 1))) (law13_LogCommits_J5 (law13_LogCommits_L1 a1 r2 r1 l1 term1 m_) i1 n2)) (law13_LogCommits_J4 r1 r2 l1 term1 a1 n2)
def law13_LogCommits_J3 (r2 : Int) (was1 : Int) (r1 : Bool) (a1 : List Int) (l1 : List Entry) (term1 : Int) (v2 : Bool) : Option Bool :=
  cond v2 (some (false)) (cond (r2 == (IntKind.wrap .i64 was1)) (some (r1)) (law13_LogCommits_L1 a1 r2 r1 l1 term1 BIG 0 0))
def law13_LogCommits_J2 (l1 : List Entry) (term1 : Int) (was1 : Int) (r1 : Bool) (a1 : List Int) (b1 : List Int) : Option Bool :=
  (log_Commit_f l1 term1 a1 (IntKind.wrap .i64 was1)).bind fun r2 => (log_Commit_f l1 term1 b1 (IntKind.wrap .i64 was1)).bind fun r3 => law13_LogCommits_J3 r2 was1 r1 a1 l1 term1 ((decide (r2 < (IntKind.wrap .i64 was1))) || (decide (r3 < r2)))
def law13_LogCommits_J6 (k_law13_LogCommits_L2 : (List Int) → (List Int) → Int → Option Bool) (b2 : List Int) (a2 : List Int) (x3 : Int) (i2 : Int) (n4 : Int) : Option Bool :=
  chk ((b2.length + 1) * 8 ≤ 140737488355328) (k_law13_LogCommits_L2 (a2 ++ [(IntKind.wrap .i64 x3)]) (b2 ++ [n4]) (IntKind.wrap .i64 (i2 + 1)))
def law13_LogCommits_L2 (match1 : List Int) (more1 : List Int) (l1 : List Entry) (term1 : Int) (was1 : Int) (r1 : Bool) : Nat → (List Int) → (List Int) → Int → Option Bool
  | 0, _, _, _ => none
  | m_ + 1, a2, b2, i2 => cond (decide (i2 < (match1.length : Int))) ((idx match1 i2).bind fun x3 => chk ((a2.length + 1) * 8 ≤ 140737488355328) (cond (decide (i2 < (more1.length : Int))) ((idx more1 i2).bind fun x4 => law13_LogCommits_J6 (law13_LogCommits_L2 match1 more1 l1 term1 was1 r1 m_) b2 a2 x3 i2 (IntKind.wrap .i64 ((IntKind.wrap .i64 x3) + (IntKind.wrap .i64 x4)))) (law13_LogCommits_J6 (law13_LogCommits_L2 match1 more1 l1 term1 was1 r1 m_) b2 a2 x3 i2 (IntKind.wrap .i64 x3)))) (law13_LogCommits_J2 l1 term1 was1 r1 a2 b2)
def law13_LogCommits_J1 (r1 : Bool) (match1 : List Int) (more1 : List Int) (l1 : List Entry) (term1 : Int) (was1 : Int) (v1 : Bool) : Option Bool :=
  cond v1 (some (r1)) (law13_LogCommits_L2 match1 more1 l1 term1 was1 r1 BIG ([] : List Int) ([] : List Int) 0)
def law13_LogCommits_f (l1 : List Entry) (term1 : Int) (match1 : List Int) (more1 : List Int) (was1 : Int) : Option Bool :=
  (law13_head_f).bind fun r1 => (law13_Fits_f l1).bind fun r5 => law13_LogCommits_J1 r1 match1 more1 l1 term1 was1 ((!r5) || (decide (9 < (match1.length : Int))))
set_option maxHeartbeats 4000000 in
set_option maxRecDepth 20000 in
theorem law13_LogCommits_pc {l1 : List Entry} {term1 : Int} {match1 : List Int} {more1 : List Int} {was1 : Int} {r : Bool} (H : law13_LogCommits_f l1 term1 match1 more1 was1 = some r) : PC Try.prog 8 [.list 2 (l1.map Entry.c), .int .i64 term1, .list 1 (match1.map (ci .u8)), .list 1 (more1.map (ci .u8)), .int .u8 was1] (.bool r) := by
  refine pcA_of Try.func8 (by rfl) (by decide) 143 (by rfl) [.tmp 10] (by rfl) ?_
  unfold law13_LogCommits_f at H
  simp only [ent]
  refine a_seq ?_
  refine a_reg _ rfl (s := ?zs1) ?_ ?_
  rotate_left
  · simp (maxSteps := 2000000) only [EVT, stepR, evOp, St.ev, St.app, St.put, wrs, datOf, datOf1, TIS, CS, Nat.reduceAdd, Nat.reduceMul, Nat.reduceEqDiff, ↓reduceIte, reduceCtorEq, Nat.reduceLT, Nat.reduceLeDiff]
    (repeat' apply And.intro) <;> first | rfl | assumption | omega | (simp; done) | (simp; omega) | (simp_all; done)
  refine sA_n ?_
  refine a_seq ?_
  obtain ⟨r1, zh1, H⟩ := bind_some H
  have zk1 := law13_head_pc zh1
  refine a_reg _ rfl (s := ?zs2) ?_ ?_
  rotate_left
  · try simp (maxSteps := 2000000) only [EVT, stepR, evOp, St.ev, St.app, St.put, wrs, frz, TIS, CS, Nat.reduceAdd, Nat.reduceMul, Nat.reduceEqDiff, ↓reduceIte, reduceCtorEq, Nat.reduceLT, Nat.reduceLeDiff, Nat.reduceSub, Nat.reduceBEq]
    repeat' with_reducible apply And.intro
    all_goals try ((with_reducible show CallR _ _ _ _ _ _ _); refine cR_s zk1 .nil (.bool _) ?_; simp (maxSteps := 2000000) only [EVT, stepR, evOp, St.ev, St.app, St.put, wrs, frz, TIS, CS, Nat.reduceAdd, Nat.reduceMul, Nat.reduceEqDiff, ↓reduceIte, reduceCtorEq, Nat.reduceLT, Nat.reduceLeDiff, Nat.reduceSub, Nat.reduceBEq])
    all_goals ((repeat' apply And.intro) <;> first | rfl | assumption | omega | (simp; done) | (simp; omega) | (simp_all; done))
  refine sA_n ?_
  refine a_seq ?_
  refine a_cut (fun s => ∃ (v1 : Bool) (t0 : Nat → Dat), law13_LogCommits_J1 r1 match1 more1 l1 term1 was1 v1 = some r ∧ s = ⟨tl t0 [(0, .list 2 (l1.map Entry.c)), (1, .int .i64 term1), (2, .list 1 (match1.map (ci .u8))), (3, .list 1 (more1.map (ci .u8))), (4, .int .u8 was1), (11, .bool r1), (28, .bool v1)], hl [], 0, 143⟩) ?_ ?_
  · obtain ⟨r5, zh11, H⟩ := bind_some H
    have zk5 := law13_Fits_pc zh11
    refine bool_split (b := (!r5)) (fun zc14 => ?_) (fun zc14 => ?_)
    · rw [zc14] at H
      refine a_reg _ rfl (s := ?zs31) ?_ ?_
      rotate_left
      · try simp (maxSteps := 2000000) only [EVT, stepR, evOp, St.ev, St.app, St.put, wrs, frz, evUn, evBuiltin, datOf, datOf1, evBin, binInt, TIS, CS, Nat.reduceAdd, Nat.reduceMul, Nat.reduceEqDiff, ↓reduceIte, reduceCtorEq, Nat.reduceLT, Nat.reduceLeDiff, Array.reduceGetElem?, Nat.reduceSub, Nat.reduceBEq, ↓zc14]
        repeat' with_reducible apply And.intro
        all_goals try ((with_reducible show CallR _ _ _ _ _ _ _); refine cR_s zk5 (.cons (.lst _ _ _ Entry.pu rfl) .nil) (.bool _) ?_; simp (maxSteps := 2000000) only [EVT, stepR, evOp, St.ev, St.app, St.put, wrs, frz, evUn, evBuiltin, datOf, datOf1, evBin, binInt, TIS, CS, Nat.reduceAdd, Nat.reduceMul, Nat.reduceEqDiff, ↓reduceIte, reduceCtorEq, Nat.reduceLT, Nat.reduceLeDiff, Array.reduceGetElem?, Nat.reduceSub, Nat.reduceBEq, ↓zc14])
        all_goals ((repeat' apply And.intro) <;> first | rfl | assumption | omega | (simp; done) | (simp; omega) | (simp_all; done))
      refine cA_n ?_
      refine wk_l [] [] [(0, .list 2 (l1.map Entry.c)), (1, .int .i64 term1), (2, .list 1 (match1.map (ci .u8))), (3, .list 1 (more1.map (ci .u8))), (4, .int .u8 was1), (11, .bool r1), (28, .bool true)] (by show ([0, 1, 2, 3, 4, 11, 28] : List Nat).Nodup; decide) (by show ([] : List Nat).Nodup; decide) ?_ ?_ (fun t0 => ⟨true, t0, H, rfl⟩)
      · exact trivial
      · (simp only [AllT, tl_cons, tl_nil, upd_apply, List.getD_cons_zero, List.getD_cons_succ, Nat.reduceEqDiff, ↓reduceIte, and_true]); exact ⟨(.lst _ _ _ Entry.pu rfl), (.int' rfl), (.lst _ _ _ (ci_pu .u8) rfl), (.lst _ _ _ (ci_pu .u8) rfl), (.int' rfl), (.bool' rfl), (.bool' (by first | rfl | assumption | (simp_all; done)))⟩
    · rw [zc14] at H
      refine a_reg _ rfl (s := ?zs32) ?_ ?_
      rotate_left
      · try simp (maxSteps := 2000000) only [EVT, stepR, evOp, St.ev, St.app, St.put, wrs, frz, evUn, evBuiltin, datOf, datOf1, evBin, binInt, TIS, CS, Nat.reduceAdd, Nat.reduceMul, Nat.reduceEqDiff, ↓reduceIte, reduceCtorEq, Nat.reduceLT, Nat.reduceLeDiff, Array.reduceGetElem?, Nat.reduceSub, Nat.reduceBEq, ↓zc14]
        repeat' with_reducible apply And.intro
        all_goals try ((with_reducible show CallR _ _ _ _ _ _ _); refine cR_s zk5 (.cons (.lst _ _ _ Entry.pu rfl) .nil) (.bool _) ?_; simp (maxSteps := 2000000) only [EVT, stepR, evOp, St.ev, St.app, St.put, wrs, frz, evUn, evBuiltin, datOf, datOf1, evBin, binInt, TIS, CS, Nat.reduceAdd, Nat.reduceMul, Nat.reduceEqDiff, ↓reduceIte, reduceCtorEq, Nat.reduceLT, Nat.reduceLeDiff, Array.reduceGetElem?, Nat.reduceSub, Nat.reduceBEq, ↓zc14])
        all_goals ((repeat' apply And.intro) <;> first | rfl | assumption | omega | (simp; done) | (simp; omega) | (simp_all; done))
      refine cA_n ?_
      refine wk_l [] [] [(0, .list 2 (l1.map Entry.c)), (1, .int .i64 term1), (2, .list 1 (match1.map (ci .u8))), (3, .list 1 (more1.map (ci .u8))), (4, .int .u8 was1), (11, .bool r1), (28, .bool (decide (9 < (match1.length : Int))))] (by show ([0, 1, 2, 3, 4, 11, 28] : List Nat).Nodup; decide) (by show ([] : List Nat).Nodup; decide) ?_ ?_ (fun t0 => ⟨(decide (9 < (match1.length : Int))), t0, H, rfl⟩)
      · exact trivial
      · (simp only [AllT, tl_cons, tl_nil, upd_apply, List.getD_cons_zero, List.getD_cons_succ, Nat.reduceEqDiff, ↓reduceIte, and_true]); exact ⟨(.lst _ _ _ Entry.pu rfl), (.int' rfl), (.lst _ _ _ (ci_pu .u8) rfl), (.lst _ _ _ (ci_pu .u8) rfl), (.int' rfl), (.bool' rfl), (.bool' rfl)⟩
  · rintro s ⟨v1, t0, H, rfl⟩
    unfold law13_LogCommits_J1 at H
    refine a_condb (v1) (by rfl) (fun zc1 => ?_) (fun zc1 => ?_)
    · have H := cond_t zc1 H
      refine a_seq ?_
      refine a_reg _ rfl (s := ?zs3) ?_ ?_
      rotate_left
      · simp (maxSteps := 2000000) only [EVT, stepR, evOp, St.ev, St.app, St.put, wrs, TIS, CS, Nat.reduceAdd, Nat.reduceMul, Nat.reduceEqDiff, ↓reduceIte, reduceCtorEq, Nat.reduceLT, Nat.reduceLeDiff, ↓zc1]
        (repeat' apply And.intro) <;> first | rfl | assumption | omega | (simp; done) | (simp; omega) | (simp_all; done)
      refine sA_n ?_
      refine a_ret ?_
      refine sA_r ?_
      obtain rfl := Option.some.inj H
      refine e_r2 (d := ?zd1) ?_ ?_
      rotate_left
      · simp only [EVT, resR, single, evLoad, cut, TIS, CS, Nat.reduceAdd, Nat.reduceEqDiff, ↓reduceIte, reduceCtorEq, Nat.reduceLT, Nat.reduceLeDiff, Nat.reduceSub, Nat.reduceBEq, zc1]
        (repeat' apply And.intro) <;> first | rfl | assumption | omega | (simp; done)
      exact (.bool' rfl)
    · have H := cond_f zc1 H
      refine a_skip ?_
      refine sA_n ?_
      refine a_seq ?_
      refine a_reg _ rfl (s := ?zs4) ?_ ?_
      rotate_left
      · simp (maxSteps := 2000000) only [EVT, stepR, evOp, St.ev, St.app, St.put, wrs, allOne, TIS, CS, Nat.reduceAdd, Nat.reduceMul, Nat.reduceEqDiff, ↓reduceIte, reduceCtorEq, Nat.reduceLT, Nat.reduceLeDiff, Nat.reduceSub, Nat.reduceBEq, ↓zc1]
        (repeat' apply And.intro) <;> first | rfl | assumption | omega | (simp; done) | (simp; omega) | (simp_all; done)
      refine sA_n ?_
      refine a_cut (fun s => ∃ (a1 : List Int) (b1 : List Int) (t0 : Nat → Dat), law13_LogCommits_J2 l1 term1 was1 r1 a1 b1 = some r ∧ s = ⟨tl t0 [(0, .list 2 (l1.map Entry.c)), (1, .int .i64 term1), (4, .int .u8 was1), (11, .bool r1), (12, .ref 0 0 a1.length 1), (13, .ref 1 0 b1.length 1)], hl [⟨3, 1, false, a1.map (ci .i64)⟩, ⟨3, 1, false, b1.map (ci .i64)⟩], 2, 143⟩) ?_ ?_
      · refine a_seq ?_
        refine a_reg _ rfl (s := ?zs23) ?_ ?_
        rotate_left
        · simp (maxSteps := 2000000) only [EVT, stepR, evOp, St.ev, St.app, St.put, wrs, datOf, datOf1, TIS, CS, Nat.reduceAdd, Nat.reduceMul, Nat.reduceEqDiff, ↓reduceIte, reduceCtorEq, Nat.reduceLT, Nat.reduceLeDiff, ↓zc1]
          (repeat' apply And.intro) <;> first | rfl | assumption | omega | (simp; done) | (simp; omega) | (simp_all; done)
        refine sA_n ?_
        refine a_blk ?_
        refine a_loop (fun m s => ∃ (a2 : List Int) (b2 : List Int) (i2 : Int) (t0 : Nat → Dat), law13_LogCommits_L2 match1 more1 l1 term1 was1 r1 m a2 b2 i2 = some r ∧ s = ⟨tl t0 [(0, .list 2 (l1.map Entry.c)), (1, .int .i64 term1), (2, .list 1 (match1.map (ci .u8))), (3, .list 1 (more1.map (ci .u8))), (4, .int .u8 was1), (11, .bool r1), (12, .ref 0 0 a2.length 1), (13, .ref 1 0 b2.length 1), (14, .int .i64 i2)], hl [⟨3, 1, false, a2.map (ci .i64)⟩, ⟨3, 1, false, b2.map (ci .i64)⟩], 2, 143⟩) BIG ?_ ?_
        · refine wk_l [(some 0, ⟨3, 1, false, ([] : List Int).map (ci .i64)⟩), (some 1, ⟨3, 1, false, ([] : List Int).map (ci .i64)⟩)] [] [(0, .list 2 (l1.map Entry.c)), (1, .int .i64 term1), (2, .list 1 (match1.map (ci .u8))), (3, .list 1 (more1.map (ci .u8))), (4, .int .u8 was1), (11, .bool r1), (12, .ref 0 0 ([] : List Int).length 1), (13, .ref 1 0 ([] : List Int).length 1), (14, .int .i64 0)] (by show ([0, 1, 2, 3, 4, 11, 12, 13, 14] : List Nat).Nodup; decide) (by show ([0, 1] : List Nat).Nodup; decide) ?_ ?_ (fun t0 => ⟨([] : List Int), ([] : List Int), 0, t0, H, rfl⟩)
          · exact (allB_some (by rfl) rfl (.same _ _ (ci_pu .i64) (by first | rfl | (simp only [List.map_append, List.map_cons, List.map_nil, List.map_set, List.map_take, List.map_drop, List.map_replicate, List.append_assoc, List.nil_append, List.append_nil, ci_eq, cb_eq, cs_eq, cl_eq, CS,  List.nil_append]; done) | (simp [CS,  ci_eq, cb_eq, cs_eq, cl_eq]; done) | (simp [CS,  ci_eq, cb_eq, cs_eq, cl_eq]; intro hz; rw [List.take_of_length_le (by simp; omega)]))) (allB_some (by rfl) rfl (.same _ _ (ci_pu .i64) (by first | rfl | (simp only [List.map_append, List.map_cons, List.map_nil, List.map_set, List.map_take, List.map_drop, List.map_replicate, List.append_assoc, List.nil_append, List.append_nil, ci_eq, cb_eq, cs_eq, cl_eq, CS,  List.nil_append]; done) | (simp [CS,  ci_eq, cb_eq, cs_eq, cl_eq]; done) | (simp [CS,  ci_eq, cb_eq, cs_eq, cl_eq]; intro hz; rw [List.take_of_length_le (by simp; omega)]))) trivial))
          · (simp only [AllT, tl_cons, tl_nil, upd_apply, List.getD_cons_zero, List.getD_cons_succ, Nat.reduceEqDiff, ↓reduceIte, and_true]); exact ⟨(.lst _ _ _ Entry.pu rfl), (.int' rfl), (.lst _ _ _ (ci_pu .u8) rfl), (.lst _ _ _ (ci_pu .u8) rfl), (.int' rfl), (.bool' rfl), (.refl' (by first | rfl | omega | (simp; done) | (simp; omega) | (simp_all; done)) rfl), (.refl' (by first | rfl | omega | (simp; done) | (simp; omega) | (simp_all; done)) rfl), (.int' rfl)⟩
        · rintro m_law13_LogCommits_L2 s ⟨a2, b2, i2, t0, H, rfl⟩
          obtain _ | m_law13_LogCommits_L2 := m_law13_LogCommits_L2
          · cases (show (none : Option _) = some _ from H)
          · rw [law13_LogCommits_L2] at H
            refine a_seq ?_
            refine a_seq ?_
            refine a_reg _ rfl (s := ?zs24) ?_ ?_
            rotate_left
            · simp (maxSteps := 2000000) only [EVT, stepR, evOp, St.ev, St.app, St.put, wrs, evBuiltin, evBin, binInt, TIS, CS, Nat.reduceAdd, Nat.reduceMul, Nat.reduceEqDiff, ↓reduceIte, reduceCtorEq, Nat.reduceLT, Nat.reduceLeDiff, Nat.reduceSub, Nat.reduceBEq]
              (repeat' apply And.intro) <;> first | rfl | assumption | omega | (simp; done) | (simp; omega) | (simp_all; done)
            refine sA_n ?_
            refine a_condb ((decide (i2 < (match1.length : Int)))) (by rfl) (fun zc12 => ?_) (fun zc12 => ?_)
            · have H := cond_t zc12 H
              refine a_skip ?_
              refine sA_n ?_
              refine a_seq ?_
              refine a_blk ?_
              refine a_seq ?_
              obtain ⟨x3, zh7, H⟩ := bind_some H
              have zg3 := idx_map zh7 (ci .u8)
              try simp only [Int.reduceToNat] at zg3
              obtain ⟨zh7a, zh7b, _⟩ := idx_some zh7
              obtain ⟨zh8, H⟩ := chk_some H
              refine a_reg _ rfl (s := ?zs25) ?_ ?_
              rotate_left
              · simp (maxSteps := 2000000) only [EVT, stepR, evOp, St.ev, St.app, St.put, wrs, evIndexAddr, evLoad, cut, evToStr, elems, allOne, evBuiltin, evAppend, Option.elim, TIS, CS, Nat.reduceAdd, Nat.reduceMul, Nat.reduceEqDiff, ↓reduceIte, reduceCtorEq, Nat.reduceLT, Nat.reduceLeDiff, Int.reduceToNat, Nat.reduceSub, Nat.reduceBEq, ↓zc12, zg3]
                (repeat' apply And.intro) <;> first | rfl | assumption | omega | (simp; done) | (simp; omega) | (simp_all; done)
              refine sA_n ?_
              refine a_seq ?_
              refine a_reg _ rfl (s := ?zs26) ?_ ?_
              rotate_left
              · simp (maxSteps := 2000000) only [EVT, stepR, evOp, St.ev, St.app, St.put, wrs, evIndexAddr, evLoad, cut, evToStr, elems, TIS, CS, Nat.reduceAdd, Nat.reduceMul, Nat.reduceEqDiff, ↓reduceIte, reduceCtorEq, Nat.reduceLT, Nat.reduceLeDiff, Int.reduceToNat, Nat.reduceSub, Nat.reduceBEq, ↓zc12, zg3]
                (repeat' apply And.intro) <;> first | rfl | assumption | omega | (simp; done) | (simp; omega) | (simp_all; done)
              refine sA_n ?_
              refine a_cut (fun s => ∃ (n4 : Int) (t0 : Nat → Dat), law13_LogCommits_J6 (law13_LogCommits_L2 match1 more1 l1 term1 was1 r1 m_law13_LogCommits_L2) b2 a2 x3 i2 n4 = some r ∧ s = ⟨tl t0 [(0, .list 2 (l1.map Entry.c)), (1, .int .i64 term1), (2, .list 1 (match1.map (ci .u8))), (3, .list 1 (more1.map (ci .u8))), (4, .int .u8 was1), (11, .bool r1), (12, .ref 0 0 ((a2 ++ [(IntKind.wrap .i64 x3)]).length) 1), (13, .ref 1 0 b2.length 1), (14, .int .i64 i2), (15, .int .i64 n4)], hl [⟨3, 1, false, (a2 ++ [(IntKind.wrap .i64 x3)]).map (ci .i64)⟩, ⟨3, 1, false, b2.map (ci .i64)⟩], 2, 143⟩) ?_ ?_
              · refine a_seq ?_
                refine a_reg _ rfl (s := ?zs29) ?_ ?_
                rotate_left
                · simp (maxSteps := 2000000) only [EVT, stepR, evOp, St.ev, St.app, St.put, wrs, evBuiltin, evBin, binInt, TIS, CS, Nat.reduceAdd, Nat.reduceMul, Nat.reduceEqDiff, ↓reduceIte, reduceCtorEq, Nat.reduceLT, Nat.reduceLeDiff, Nat.reduceSub, Nat.reduceBEq, ↓zc12, zg3]
                  (repeat' apply And.intro) <;> first | rfl | assumption | omega | (simp; done) | (simp; omega) | (simp_all; done)
                refine sA_n ?_
                refine a_condb ((decide (i2 < (more1.length : Int)))) (by rfl) (fun zc13 => ?_) (fun zc13 => ?_)
                · have H := cond_t zc13 H
                  obtain ⟨x4, zh10, H⟩ := bind_some H
                  have zg4 := idx_map zh10 (ci .u8)
                  try simp only [Int.reduceToNat] at zg4
                  obtain ⟨zh10a, zh10b, _⟩ := idx_some zh10
                  refine a_reg _ rfl (s := ?zs30) ?_ ?_
                  rotate_left
                  · simp (maxSteps := 2000000) only [EVT, stepR, evOp, St.ev, St.app, St.put, wrs, evIndexAddr, evLoad, cut, evToStr, elems, evBin, binInt, TIS, CS, Nat.reduceAdd, Nat.reduceMul, Nat.reduceEqDiff, ↓reduceIte, reduceCtorEq, Nat.reduceLT, Nat.reduceLeDiff, Int.reduceToNat, Nat.reduceSub, Nat.reduceBEq, ↓zc12, zg3, ↓zc13, zg4]
                    (repeat' apply And.intro) <;> first | rfl | assumption | omega | (simp; done) | (simp; omega) | (simp_all; done)
                  refine cA_n ?_
                  refine wk_l [(some 41, ⟨3, 1, false, (a2 ++ [(IntKind.wrap .i64 x3)]).map (ci .i64)⟩), (some 1, ⟨3, 1, false, b2.map (ci .i64)⟩)] [] [(0, .list 2 (l1.map Entry.c)), (1, .int .i64 term1), (2, .list 1 (match1.map (ci .u8))), (3, .list 1 (more1.map (ci .u8))), (4, .int .u8 was1), (11, .bool r1), (12, .ref 0 0 ((a2 ++ [(IntKind.wrap .i64 x3)]).length) 1), (13, .ref 1 0 b2.length 1), (14, .int .i64 i2), (15, .int .i64 (IntKind.wrap .i64 ((IntKind.wrap .i64 x3) + (IntKind.wrap .i64 x4))))] (by show ([0, 1, 2, 3, 4, 11, 12, 13, 14, 15] : List Nat).Nodup; decide) (by show ([41, 1] : List Nat).Nodup; decide) ?_ ?_ (fun t0 => ⟨(IntKind.wrap .i64 ((IntKind.wrap .i64 x3) + (IntKind.wrap .i64 x4))), t0, H, rfl⟩)
                  · exact (allB_some (by rfl) rfl (.same _ _ (ci_pu .i64) (by first | rfl | (simp only [List.map_append, List.map_cons, List.map_nil, List.map_set, List.map_take, List.map_drop, List.map_replicate, List.append_assoc, List.nil_append, List.append_nil, ci_eq, cb_eq, cs_eq, cl_eq, CS,  List.nil_append]; done) | (simp [CS,  ci_eq, cb_eq, cs_eq, cl_eq]; done) | (simp [CS,  ci_eq, cb_eq, cs_eq, cl_eq]; intro hz; rw [List.take_of_length_le (by simp; omega)]))) (allB_some (by rfl) rfl (.same _ _ (ci_pu .i64) (by first | rfl | (simp only [List.map_append, List.map_cons, List.map_nil, List.map_set, List.map_take, List.map_drop, List.map_replicate, List.append_assoc, List.nil_append, List.append_nil, ci_eq, cb_eq, cs_eq, cl_eq, CS,  List.nil_append]; done) | (simp [CS,  ci_eq, cb_eq, cs_eq, cl_eq]; done) | (simp [CS,  ci_eq, cb_eq, cs_eq, cl_eq]; intro hz; rw [List.take_of_length_le (by simp; omega)]))) trivial))
                  · (simp only [AllT, tl_cons, tl_nil, upd_apply, List.getD_cons_zero, List.getD_cons_succ, Nat.reduceEqDiff, ↓reduceIte, and_true]); exact ⟨(.lst _ _ _ Entry.pu rfl), (.int' rfl), (.lst _ _ _ (ci_pu .u8) rfl), (.lst _ _ _ (ci_pu .u8) rfl), (.int' rfl), (.bool' rfl), (.refl' (by first | rfl | omega | (simp; done) | (simp; omega) | (simp_all; done)) rfl), (.refl' (by first | rfl | omega | (simp; done) | (simp; omega) | (simp_all; done)) rfl), (.int' rfl), (.int' rfl)⟩
                · have H := cond_f zc13 H
                  refine a_skip ?_
                  refine cA_n ?_
                  refine wk_l [(some 41, ⟨3, 1, false, (a2 ++ [(IntKind.wrap .i64 x3)]).map (ci .i64)⟩), (some 1, ⟨3, 1, false, b2.map (ci .i64)⟩)] [] [(0, .list 2 (l1.map Entry.c)), (1, .int .i64 term1), (2, .list 1 (match1.map (ci .u8))), (3, .list 1 (more1.map (ci .u8))), (4, .int .u8 was1), (11, .bool r1), (12, .ref 0 0 ((a2 ++ [(IntKind.wrap .i64 x3)]).length) 1), (13, .ref 1 0 b2.length 1), (14, .int .i64 i2), (15, .int .i64 (IntKind.wrap .i64 x3))] (by show ([0, 1, 2, 3, 4, 11, 12, 13, 14, 15] : List Nat).Nodup; decide) (by show ([41, 1] : List Nat).Nodup; decide) ?_ ?_ (fun t0 => ⟨(IntKind.wrap .i64 x3), t0, H, rfl⟩)
                  · exact (allB_some (by rfl) rfl (.same _ _ (ci_pu .i64) (by first | rfl | (simp only [List.map_append, List.map_cons, List.map_nil, List.map_set, List.map_take, List.map_drop, List.map_replicate, List.append_assoc, List.nil_append, List.append_nil, ci_eq, cb_eq, cs_eq, cl_eq, CS,  List.nil_append]; done) | (simp [CS,  ci_eq, cb_eq, cs_eq, cl_eq]; done) | (simp [CS,  ci_eq, cb_eq, cs_eq, cl_eq]; intro hz; rw [List.take_of_length_le (by simp; omega)]))) (allB_some (by rfl) rfl (.same _ _ (ci_pu .i64) (by first | rfl | (simp only [List.map_append, List.map_cons, List.map_nil, List.map_set, List.map_take, List.map_drop, List.map_replicate, List.append_assoc, List.nil_append, List.append_nil, ci_eq, cb_eq, cs_eq, cl_eq, CS,  List.nil_append]; done) | (simp [CS,  ci_eq, cb_eq, cs_eq, cl_eq]; done) | (simp [CS,  ci_eq, cb_eq, cs_eq, cl_eq]; intro hz; rw [List.take_of_length_le (by simp; omega)]))) trivial))
                  · (simp only [AllT, tl_cons, tl_nil, upd_apply, List.getD_cons_zero, List.getD_cons_succ, Nat.reduceEqDiff, ↓reduceIte, and_true]); exact ⟨(.lst _ _ _ Entry.pu rfl), (.int' rfl), (.lst _ _ _ (ci_pu .u8) rfl), (.lst _ _ _ (ci_pu .u8) rfl), (.int' rfl), (.bool' rfl), (.refl' (by first | rfl | omega | (simp; done) | (simp; omega) | (simp_all; done)) rfl), (.refl' (by first | rfl | omega | (simp; done) | (simp; omega) | (simp_all; done)) rfl), (.int' rfl), (.int' rfl)⟩
              · rintro s ⟨n4, t0, H, rfl⟩
                unfold law13_LogCommits_J6 at H
                obtain ⟨zh9, H⟩ := chk_some H
                refine a_reg _ rfl (s := ?zs27) ?_ ?_
                rotate_left
                · simp (maxSteps := 2000000) only [EVT, stepR, evOp, St.ev, St.app, St.put, wrs, allOne, evBuiltin, evAppend, elems, Option.elim, TIS, CS, Nat.reduceAdd, Nat.reduceMul, Nat.reduceEqDiff, ↓reduceIte, reduceCtorEq, Nat.reduceLT, Nat.reduceLeDiff, Nat.reduceSub, Nat.reduceBEq]
                  (repeat' apply And.intro) <;> first | rfl | assumption | omega | (simp; done) | (simp; omega) | (simp_all; done)
                refine bA_n ?_
                refine sA_n ?_
                refine a_reg _ rfl (s := ?zs28) ?_ ?_
                rotate_left
                · simp (maxSteps := 2000000) only [EVT, stepR, evOp, St.ev, St.app, St.put, wrs, datOf, datOf1, evBin, binInt, TIS, CS, Nat.reduceAdd, Nat.reduceMul, Nat.reduceEqDiff, ↓reduceIte, reduceCtorEq, Nat.reduceLT, Nat.reduceLeDiff]
                  (repeat' apply And.intro) <;> first | rfl | assumption | omega | (simp; done) | (simp; omega) | (simp_all; done)
                refine lA_n ?_
                refine wk_l [(some 0, ⟨3, 1, false, (a2 ++ [(IntKind.wrap .i64 x3)]).map (ci .i64)⟩), (some 5, ⟨3, 1, false, (b2 ++ [n4]).map (ci .i64)⟩)] [] [(0, .list 2 (l1.map Entry.c)), (1, .int .i64 term1), (2, .list 1 (match1.map (ci .u8))), (3, .list 1 (more1.map (ci .u8))), (4, .int .u8 was1), (11, .bool r1), (12, .ref 0 0 (a2 ++ [(IntKind.wrap .i64 x3)]).length 1), (13, .ref 1 0 (b2 ++ [n4]).length 1), (14, .int .i64 (IntKind.wrap .i64 (i2 + 1)))] (by show ([0, 1, 2, 3, 4, 11, 12, 13, 14] : List Nat).Nodup; decide) (by show ([0, 5] : List Nat).Nodup; decide) ?_ ?_ (fun t0 => ⟨_, Nat.lt_succ_self _, (a2 ++ [(IntKind.wrap .i64 x3)]), (b2 ++ [n4]), (IntKind.wrap .i64 (i2 + 1)), t0, H, rfl⟩)
                · exact (allB_some (by rfl) rfl (.same _ _ (ci_pu .i64) (by first | rfl | (simp only [List.map_append, List.map_cons, List.map_nil, List.map_set, List.map_take, List.map_drop, List.map_replicate, List.append_assoc, List.nil_append, List.append_nil, ci_eq, cb_eq, cs_eq, cl_eq, CS,  List.nil_append]; done) | (simp [CS,  ci_eq, cb_eq, cs_eq, cl_eq]; done) | (simp [CS,  ci_eq, cb_eq, cs_eq, cl_eq]; intro hz; rw [List.take_of_length_le (by simp; omega)]))) (allB_some (by rfl) rfl (.same _ _ (ci_pu .i64) (by first | rfl | (simp only [List.map_append, List.map_cons, List.map_nil, List.map_set, List.map_take, List.map_drop, List.map_replicate, List.append_assoc, List.nil_append, List.append_nil, ci_eq, cb_eq, cs_eq, cl_eq, CS,  List.nil_append]; done) | (simp [CS,  ci_eq, cb_eq, cs_eq, cl_eq]; done) | (simp [CS,  ci_eq, cb_eq, cs_eq, cl_eq]; intro hz; rw [List.take_of_length_le (by simp; omega)]))) trivial))
                · (simp only [AllT, tl_cons, tl_nil, upd_apply, List.getD_cons_zero, List.getD_cons_succ, Nat.reduceEqDiff, ↓reduceIte, and_true]); exact ⟨(.lst _ _ _ Entry.pu rfl), (.int' rfl), (.lst _ _ _ (ci_pu .u8) rfl), (.lst _ _ _ (ci_pu .u8) rfl), (.int' rfl), (.bool' rfl), (.refl' (by first | rfl | omega | (simp; done) | (simp; omega) | (simp_all; done)) rfl), (.refl' (by first | rfl | omega | (simp; done) | (simp; omega) | (simp_all; done)) rfl), (.int' rfl)⟩
            · have H := cond_f zc12 H
              refine a_exit ?_
              refine sA_e ?_
              refine lA_e ?_
              refine bA_hit ?_
              refine cA_n ?_
              refine wk_l [(some 0, ⟨3, 1, false, a2.map (ci .i64)⟩), (some 1, ⟨3, 1, false, b2.map (ci .i64)⟩)] [] [(0, .list 2 (l1.map Entry.c)), (1, .int .i64 term1), (4, .int .u8 was1), (11, .bool r1), (12, .ref 0 0 a2.length 1), (13, .ref 1 0 b2.length 1)] (by show ([0, 1, 4, 11, 12, 13] : List Nat).Nodup; decide) (by show ([0, 1] : List Nat).Nodup; decide) ?_ ?_ (fun t0 => ⟨a2, b2, t0, H, rfl⟩)
              · exact (allB_some (by rfl) rfl (.same _ _ (ci_pu .i64) (by first | rfl | (simp only [List.map_append, List.map_cons, List.map_nil, List.map_set, List.map_take, List.map_drop, List.map_replicate, List.append_assoc, List.nil_append, List.append_nil, ci_eq, cb_eq, cs_eq, cl_eq, CS,  List.nil_append]; done) | (simp [CS,  ci_eq, cb_eq, cs_eq, cl_eq]; done) | (simp [CS,  ci_eq, cb_eq, cs_eq, cl_eq]; intro hz; rw [List.take_of_length_le (by simp; omega)]))) (allB_some (by rfl) rfl (.same _ _ (ci_pu .i64) (by first | rfl | (simp only [List.map_append, List.map_cons, List.map_nil, List.map_set, List.map_take, List.map_drop, List.map_replicate, List.append_assoc, List.nil_append, List.append_nil, ci_eq, cb_eq, cs_eq, cl_eq, CS,  List.nil_append]; done) | (simp [CS,  ci_eq, cb_eq, cs_eq, cl_eq]; done) | (simp [CS,  ci_eq, cb_eq, cs_eq, cl_eq]; intro hz; rw [List.take_of_length_le (by simp; omega)]))) trivial))
              · (simp only [AllT, tl_cons, tl_nil, upd_apply, List.getD_cons_zero, List.getD_cons_succ, Nat.reduceEqDiff, ↓reduceIte, and_true]); exact ⟨(.lst _ _ _ Entry.pu rfl), (.int' rfl), (.int' rfl), (.bool' rfl), (.refl' (by first | rfl | omega | (simp; done) | (simp; omega) | (simp_all; done)) rfl), (.refl' (by first | rfl | omega | (simp; done) | (simp; omega) | (simp_all; done)) rfl)⟩
      · rintro s ⟨a1, b1, t0, H, rfl⟩
        unfold law13_LogCommits_J2 at H
        refine a_seq ?_
        obtain ⟨r2, zh2, H⟩ := bind_some H
        have zk2 := log_Commit_pc zh2
        obtain ⟨r3, zh3, H⟩ := bind_some H
        have zk3 := log_Commit_pc zh3
        refine a_reg _ rfl (s := ?zs5) ?_ ?_
        rotate_left
        · try simp (maxSteps := 2000000) only [EVT, stepR, evOp, St.ev, St.app, St.put, wrs, evToStr, elems, frz, TIS, CS, Nat.reduceAdd, Nat.reduceMul, Nat.reduceEqDiff, ↓reduceIte, reduceCtorEq, Nat.reduceLT, Nat.reduceLeDiff, Nat.reduceSub, Nat.reduceBEq]
          repeat' with_reducible apply And.intro
          all_goals try ((with_reducible show CallR _ _ _ _ _ _ _); refine cR_s zk2 (.cons (.lst _ _ _ Entry.pu rfl) (.cons (.int' rfl) (.cons (.ownL (by rfl) (fun e => by cases e) rfl (by first | rfl | omega | (simp; done) | (simp; omega) | (simp_all; done)) (.same _ _ (ci_pu .i64) (by first | rfl | (simp only [List.map_append, List.map_cons, List.map_nil, List.map_set, List.map_take, List.map_drop, List.map_replicate, List.append_assoc, List.nil_append, List.append_nil, ci_eq, cb_eq, cs_eq, cl_eq, CS,  List.nil_append]; done) | (simp [CS,  ci_eq, cb_eq, cs_eq, cl_eq]; done) | (simp [CS,  ci_eq, cb_eq, cs_eq, cl_eq]; intro hz; rw [List.take_of_length_le (by simp; omega)])))) (.cons (.int' rfl) .nil)))) (.int _ _) ?_; simp (maxSteps := 2000000) only [EVT, stepR, evOp, St.ev, St.app, St.put, wrs, evToStr, elems, frz, TIS, CS, Nat.reduceAdd, Nat.reduceMul, Nat.reduceEqDiff, ↓reduceIte, reduceCtorEq, Nat.reduceLT, Nat.reduceLeDiff, Nat.reduceSub, Nat.reduceBEq])
          repeat' with_reducible apply And.intro
          all_goals try ((with_reducible show CallR _ _ _ _ _ _ _); refine cR_s zk3 (.cons (.lst _ _ _ Entry.pu rfl) (.cons (.int' rfl) (.cons (.ownL (by rfl) (fun e => by cases e) rfl (by first | rfl | omega | (simp; done) | (simp; omega) | (simp_all; done)) (.same _ _ (ci_pu .i64) (by first | rfl | (simp only [List.map_append, List.map_cons, List.map_nil, List.map_set, List.map_take, List.map_drop, List.map_replicate, List.append_assoc, List.nil_append, List.append_nil, ci_eq, cb_eq, cs_eq, cl_eq, CS,  List.nil_append]; done) | (simp [CS,  ci_eq, cb_eq, cs_eq, cl_eq]; done) | (simp [CS,  ci_eq, cb_eq, cs_eq, cl_eq]; intro hz; rw [List.take_of_length_le (by simp; omega)])))) (.cons (.int' rfl) .nil)))) (.int _ _) ?_; simp (maxSteps := 2000000) only [EVT, stepR, evOp, St.ev, St.app, St.put, wrs, evToStr, elems, frz, TIS, CS, Nat.reduceAdd, Nat.reduceMul, Nat.reduceEqDiff, ↓reduceIte, reduceCtorEq, Nat.reduceLT, Nat.reduceLeDiff, Nat.reduceSub, Nat.reduceBEq])
          all_goals ((repeat' apply And.intro) <;> first | rfl | assumption | omega | (simp; done) | (simp; omega) | (simp_all; done))
        refine sA_n ?_
        refine a_seq ?_
        refine a_cut (fun s => ∃ (v2 : Bool) (t0 : Nat → Dat), law13_LogCommits_J3 r2 was1 r1 a1 l1 term1 v2 = some r ∧ s = ⟨tl t0 [(0, .list 2 (l1.map Entry.c)), (1, .int .i64 term1), (4, .int .u8 was1), (11, .bool r1), (12, .ref 0 0 a1.length 1), (16, .int .i64 r2), (86, .bool v2)], hl [⟨3, 1, false, a1.map (ci .i64)⟩], 1, 143⟩) ?_ ?_
        · refine bool_split (b := (decide (r2 < (IntKind.wrap .i64 was1)))) (fun zc11 => ?_) (fun zc11 => ?_)
          · rw [zc11] at H
            refine a_reg _ rfl (s := ?zs21) ?_ ?_
            rotate_left
            · simp (maxSteps := 2000000) only [EVT, stepR, evOp, St.ev, St.app, St.put, wrs, evToStr, elems, evBin, binInt, datOf, datOf1, TIS, CS, Nat.reduceAdd, Nat.reduceMul, Nat.reduceEqDiff, ↓reduceIte, reduceCtorEq, Nat.reduceLT, Nat.reduceLeDiff, Array.reduceGetElem?, ↓zc11]
              try simp (maxSteps := 2000000) only [EVT, stepR, evOp, St.ev, St.app, St.put, wrs, evToStr, elems, evBin, binInt, datOf, datOf1, TIS, CS, Nat.reduceAdd, Nat.reduceMul, Nat.reduceEqDiff, ↓reduceIte, reduceCtorEq, Nat.reduceLT, Nat.reduceLeDiff, Array.reduceGetElem?, ↓zc11]
              (repeat' apply And.intro) <;> first | rfl | assumption | omega | (simp; done) | (simp; omega) | (simp_all; done)
            refine cA_n ?_
            refine wk_l [(some 0, ⟨3, 1, false, a1.map (ci .i64)⟩)] [] [(0, .list 2 (l1.map Entry.c)), (1, .int .i64 term1), (4, .int .u8 was1), (11, .bool r1), (12, .ref 0 0 a1.length 1), (16, .int .i64 r2), (86, .bool true)] (by show ([0, 1, 4, 11, 12, 16, 86] : List Nat).Nodup; decide) (by show ([0] : List Nat).Nodup; decide) ?_ ?_ (fun t0 => ⟨true, t0, H, rfl⟩)
            · exact (allB_some (by rfl) rfl (.same _ _ (ci_pu .i64) (by first | rfl | (simp only [List.map_append, List.map_cons, List.map_nil, List.map_set, List.map_take, List.map_drop, List.map_replicate, List.append_assoc, List.nil_append, List.append_nil, ci_eq, cb_eq, cs_eq, cl_eq, CS,  List.nil_append]; done) | (simp [CS,  ci_eq, cb_eq, cs_eq, cl_eq]; done) | (simp [CS,  ci_eq, cb_eq, cs_eq, cl_eq]; intro hz; rw [List.take_of_length_le (by simp; omega)]))) trivial)
            · (simp only [AllT, tl_cons, tl_nil, upd_apply, List.getD_cons_zero, List.getD_cons_succ, Nat.reduceEqDiff, ↓reduceIte, and_true]); exact ⟨(.lst _ _ _ Entry.pu rfl), (.int' rfl), (.int' rfl), (.bool' rfl), (.refl' (by first | rfl | omega | (simp; done) | (simp; omega) | (simp_all; done)) rfl), (.int' rfl), (.bool' (by first | rfl | assumption | (simp_all; done)))⟩
          · rw [zc11] at H
            refine a_reg _ rfl (s := ?zs22) ?_ ?_
            rotate_left
            · simp (maxSteps := 2000000) only [EVT, stepR, evOp, St.ev, St.app, St.put, wrs, evToStr, elems, evBin, binInt, datOf, datOf1, TIS, CS, Nat.reduceAdd, Nat.reduceMul, Nat.reduceEqDiff, ↓reduceIte, reduceCtorEq, Nat.reduceLT, Nat.reduceLeDiff, Array.reduceGetElem?, ↓zc11]
              try simp (maxSteps := 2000000) only [EVT, stepR, evOp, St.ev, St.app, St.put, wrs, evToStr, elems, evBin, binInt, datOf, datOf1, TIS, CS, Nat.reduceAdd, Nat.reduceMul, Nat.reduceEqDiff, ↓reduceIte, reduceCtorEq, Nat.reduceLT, Nat.reduceLeDiff, Array.reduceGetElem?, ↓zc11]
              (repeat' apply And.intro) <;> first | rfl | assumption | omega | (simp; done) | (simp; omega) | (simp_all; done)
            refine cA_n ?_
            refine wk_l [(some 0, ⟨3, 1, false, a1.map (ci .i64)⟩)] [] [(0, .list 2 (l1.map Entry.c)), (1, .int .i64 term1), (4, .int .u8 was1), (11, .bool r1), (12, .ref 0 0 a1.length 1), (16, .int .i64 r2), (86, .bool (decide (r3 < r2)))] (by show ([0, 1, 4, 11, 12, 16, 86] : List Nat).Nodup; decide) (by show ([0] : List Nat).Nodup; decide) ?_ ?_ (fun t0 => ⟨(decide (r3 < r2)), t0, H, rfl⟩)
            · exact (allB_some (by rfl) rfl (.same _ _ (ci_pu .i64) (by first | rfl | (simp only [List.map_append, List.map_cons, List.map_nil, List.map_set, List.map_take, List.map_drop, List.map_replicate, List.append_assoc, List.nil_append, List.append_nil, ci_eq, cb_eq, cs_eq, cl_eq, CS,  List.nil_append]; done) | (simp [CS,  ci_eq, cb_eq, cs_eq, cl_eq]; done) | (simp [CS,  ci_eq, cb_eq, cs_eq, cl_eq]; intro hz; rw [List.take_of_length_le (by simp; omega)]))) trivial)
            · (simp only [AllT, tl_cons, tl_nil, upd_apply, List.getD_cons_zero, List.getD_cons_succ, Nat.reduceEqDiff, ↓reduceIte, and_true]); exact ⟨(.lst _ _ _ Entry.pu rfl), (.int' rfl), (.int' rfl), (.bool' rfl), (.refl' (by first | rfl | omega | (simp; done) | (simp; omega) | (simp_all; done)) rfl), (.int' rfl), (.bool' rfl)⟩
        · rintro s ⟨v2, t0, H, rfl⟩
          unfold law13_LogCommits_J3 at H
          refine a_condb (v2) (by rfl) (fun zc2 => ?_) (fun zc2 => ?_)
          · have H := cond_t zc2 H
            refine a_seq ?_
            refine a_reg _ rfl (s := ?zs6) ?_ ?_
            rotate_left
            · simp (maxSteps := 2000000) only [EVT, stepR, evOp, St.ev, St.app, St.put, wrs, datOf, datOf1, TIS, CS, Nat.reduceAdd, Nat.reduceMul, Nat.reduceEqDiff, ↓reduceIte, reduceCtorEq, Nat.reduceLT, Nat.reduceLeDiff, ↓zc2]
              (repeat' apply And.intro) <;> first | rfl | assumption | omega | (simp; done) | (simp; omega) | (simp_all; done)
            refine sA_n ?_
            refine a_ret ?_
            refine sA_r ?_
            obtain rfl := Option.some.inj H
            refine e_r2 (d := ?zd2) ?_ ?_
            rotate_left
            · simp only [EVT, resR, single, evLoad, cut, TIS, CS, Nat.reduceAdd, Nat.reduceEqDiff, ↓reduceIte, reduceCtorEq, Nat.reduceLT, Nat.reduceLeDiff, Nat.reduceSub, Nat.reduceBEq, zc2]
              (repeat' apply And.intro) <;> first | rfl | assumption | omega | (simp; done)
            exact (.bool' (by first | rfl | assumption | (simp_all; done)))
          · have H := cond_f zc2 H
            refine a_skip ?_
            refine sA_n ?_
            refine a_seq ?_
            refine a_seq ?_
            refine a_reg _ rfl (s := ?zs7) ?_ ?_
            rotate_left
            · simp (maxSteps := 2000000) only [EVT, stepR, evOp, St.ev, St.app, St.put, wrs, evToStr, elems, evBin, binInt, TIS, CS, Nat.reduceAdd, Nat.reduceMul, Nat.reduceEqDiff, ↓reduceIte, reduceCtorEq, Nat.reduceLT, Nat.reduceLeDiff, ↓zc2]
              (repeat' apply And.intro) <;> first | rfl | assumption | omega | (simp; done) | (simp; omega) | (simp_all; done)
            refine sA_n ?_
            refine a_condb ((r2 == (IntKind.wrap .i64 was1))) (by rfl) (fun zc3 => ?_) (fun zc3 => ?_)
            · have H := cond_t zc3 H
              refine a_seq ?_
              refine a_reg _ rfl (s := ?zs8) ?_ ?_
              rotate_left
              · simp (maxSteps := 2000000) only [EVT, stepR, evOp, St.ev, St.app, St.put, wrs, TIS, CS, Nat.reduceAdd, Nat.reduceMul, Nat.reduceEqDiff, ↓reduceIte, reduceCtorEq, Nat.reduceLT, Nat.reduceLeDiff, ↓zc2, ↓zc3]
                (repeat' apply And.intro) <;> first | rfl | assumption | omega | (simp; done) | (simp; omega) | (simp_all; done)
              refine sA_n ?_
              refine a_ret ?_
              refine sA_r ?_
              obtain rfl := Option.some.inj H
              refine e_r2 (d := ?zd3) ?_ ?_
              rotate_left
              · simp only [EVT, resR, single, evLoad, cut, TIS, CS, Nat.reduceAdd, Nat.reduceEqDiff, ↓reduceIte, reduceCtorEq, Nat.reduceLT, Nat.reduceLeDiff, Nat.reduceSub, Nat.reduceBEq, zc2, zc3]
                (repeat' apply And.intro) <;> first | rfl | assumption | omega | (simp; done)
              exact (.bool' rfl)
            · have H := cond_f zc3 H
              refine a_skip ?_
              refine sA_n ?_
              refine a_seq ?_
              refine a_reg _ rfl (s := ?zs9) ?_ ?_
              rotate_left
              · simp (maxSteps := 2000000) only [EVT, stepR, evOp, St.ev, St.app, St.put, wrs, datOf, datOf1, TIS, CS, Nat.reduceAdd, Nat.reduceMul, Nat.reduceEqDiff, ↓reduceIte, reduceCtorEq, Nat.reduceLT, Nat.reduceLeDiff, ↓zc2, ↓zc3]
                (repeat' apply And.intro) <;> first | rfl | assumption | omega | (simp; done) | (simp; omega) | (simp_all; done)
              refine sA_n ?_
              refine a_cut (fun s => ∃ (n1 : Int) (t0 : Nat → Dat), law13_LogCommits_J4 r1 r2 l1 term1 a1 n1 = some r ∧ s = ⟨tl t0 [(0, .list 2 (l1.map Entry.c)), (1, .int .i64 term1), (11, .bool r1), (12, .ref 0 0 a1.length 1), (16, .int .i64 r2), (18, .int .i64 n1)], hl [⟨3, 1, false, a1.map (ci .i64)⟩], 1, 143⟩) ?_ ?_
              · refine a_seq ?_
                refine a_reg _ rfl (s := ?zs16) ?_ ?_
                rotate_left
                · simp (maxSteps := 2000000) only [EVT, stepR, evOp, St.ev, St.app, St.put, wrs, datOf, datOf1, TIS, CS, Nat.reduceAdd, Nat.reduceMul, Nat.reduceEqDiff, ↓reduceIte, reduceCtorEq, Nat.reduceLT, Nat.reduceLeDiff, ↓zc2, ↓zc3]
                  (repeat' apply And.intro) <;> first | rfl | assumption | omega | (simp; done) | (simp; omega) | (simp_all; done)
                refine sA_n ?_
                refine a_blk ?_
                refine a_loop (fun m s => ∃ (n2 : Int) (i1 : Int) (t0 : Nat → Dat), law13_LogCommits_L1 a1 r2 r1 l1 term1 m n2 i1 = some r ∧ s = ⟨tl t0 [(0, .list 2 (l1.map Entry.c)), (1, .int .i64 term1), (11, .bool r1), (12, .ref 0 0 a1.length 1), (16, .int .i64 r2), (18, .int .i64 n2), (19, .int .i64 i1)], hl [⟨3, 1, false, a1.map (ci .i64)⟩], 1, 143⟩) BIG ?_ ?_
                · refine wk_l [(some 0, ⟨3, 1, false, a1.map (ci .i64)⟩)] [] [(0, .list 2 (l1.map Entry.c)), (1, .int .i64 term1), (11, .bool r1), (12, .ref 0 0 a1.length 1), (16, .int .i64 r2), (18, .int .i64 0), (19, .int .i64 0)] (by show ([0, 1, 11, 12, 16, 18, 19] : List Nat).Nodup; decide) (by show ([0] : List Nat).Nodup; decide) ?_ ?_ (fun t0 => ⟨0, 0, t0, H, rfl⟩)
                  · exact (allB_some (by rfl) rfl (.same _ _ (ci_pu .i64) (by first | rfl | (simp only [List.map_append, List.map_cons, List.map_nil, List.map_set, List.map_take, List.map_drop, List.map_replicate, List.append_assoc, List.nil_append, List.append_nil, ci_eq, cb_eq, cs_eq, cl_eq, CS,  List.nil_append]; done) | (simp [CS,  ci_eq, cb_eq, cs_eq, cl_eq]; done) | (simp [CS,  ci_eq, cb_eq, cs_eq, cl_eq]; intro hz; rw [List.take_of_length_le (by simp; omega)]))) trivial)
                  · (simp only [AllT, tl_cons, tl_nil, upd_apply, List.getD_cons_zero, List.getD_cons_succ, Nat.reduceEqDiff, ↓reduceIte, and_true]); exact ⟨(.lst _ _ _ Entry.pu rfl), (.int' rfl), (.bool' rfl), (.refl' (by first | rfl | omega | (simp; done) | (simp; omega) | (simp_all; done)) rfl), (.int' rfl), (.int' rfl), (.int' rfl)⟩
                · rintro m_law13_LogCommits_L1 s ⟨n2, i1, t0, H, rfl⟩
                  obtain _ | m_law13_LogCommits_L1 := m_law13_LogCommits_L1
                  · cases (show (none : Option _) = some _ from H)
                  · rw [law13_LogCommits_L1] at H
                    refine a_seq ?_
                    refine a_seq ?_
                    refine a_reg _ rfl (s := ?zs17) ?_ ?_
                    rotate_left
                    · simp (maxSteps := 2000000) only [EVT, stepR, evOp, St.ev, St.app, St.put, wrs, evBuiltin, evBin, binInt, TIS, CS, Nat.reduceAdd, Nat.reduceMul, Nat.reduceEqDiff, ↓reduceIte, reduceCtorEq, Nat.reduceLT, Nat.reduceLeDiff, Nat.reduceSub, Nat.reduceBEq]
                      (repeat' apply And.intro) <;> first | rfl | assumption | omega | (simp; done) | (simp; omega) | (simp_all; done)
                    refine sA_n ?_
                    refine a_condb ((decide (i1 < (((a1.length : Nat)) : Int)))) (by rfl) (fun zc9 => ?_) (fun zc9 => ?_)
                    · have H := cond_t zc9 H
                      refine a_skip ?_
                      refine sA_n ?_
                      refine a_cut (fun s => ∃ (n3 : Int) (t0 : Nat → Dat), law13_LogCommits_J5 (law13_LogCommits_L1 a1 r2 r1 l1 term1 m_law13_LogCommits_L1) i1 n3 = some r ∧ s = ⟨tl t0 [(0, .list 2 (l1.map Entry.c)), (1, .int .i64 term1), (11, .bool r1), (12, .ref 0 0 a1.length 1), (16, .int .i64 r2), (18, .int .i64 n3), (19, .int .i64 i1)], hl [⟨3, 1, false, a1.map (ci .i64)⟩], 1, 143⟩) ?_ ?_
                      · refine a_blk ?_
                        refine a_seq ?_
                        obtain ⟨x2, zh6, H⟩ := bind_some H
                        have zg2 := idx_map zh6 (ci .i64)
                        try simp only [Int.reduceToNat] at zg2
                        obtain ⟨zh6a, zh6b, _⟩ := idx_some zh6
                        refine a_reg _ rfl (s := ?zs19) ?_ ?_
                        rotate_left
                        · simp (maxSteps := 2000000) only [EVT, stepR, evOp, St.ev, St.app, St.put, wrs, evIndexAddr, evLoad, cut, evBin, binInt, TIS, CS, Nat.reduceAdd, Nat.reduceMul, Nat.reduceEqDiff, ↓reduceIte, reduceCtorEq, Nat.reduceLT, Nat.reduceLeDiff, Int.reduceToNat, Nat.reduceSub, Nat.reduceBEq, ↓zc9, zg2]
                          (repeat' apply And.intro) <;> first | rfl | assumption | omega | (simp; done) | (simp; omega) | (simp_all; done)
                        refine sA_n ?_
                        refine a_condb ((decide (r2 ≤ x2))) (by rfl) (fun zc10 => ?_) (fun zc10 => ?_)
                        · have H := cond_t zc10 H
                          refine a_reg _ rfl (s := ?zs20) ?_ ?_
                          rotate_left
                          · simp (maxSteps := 2000000) only [EVT, stepR, evOp, St.ev, St.app, St.put, wrs, datOf, datOf1, evBin, binInt, TIS, CS, Nat.reduceAdd, Nat.reduceMul, Nat.reduceEqDiff, ↓reduceIte, reduceCtorEq, Nat.reduceLT, Nat.reduceLeDiff, ↓zc9, zg2, ↓zc10]
                            (repeat' apply And.intro) <;> first | rfl | assumption | omega | (simp; done) | (simp; omega) | (simp_all; done)
                          refine bA_n ?_
                          refine cA_n ?_
                          refine wk_l [(some 0, ⟨3, 1, false, a1.map (ci .i64)⟩)] [] [(0, .list 2 (l1.map Entry.c)), (1, .int .i64 term1), (11, .bool r1), (12, .ref 0 0 a1.length 1), (16, .int .i64 r2), (18, .int .i64 (IntKind.wrap .i64 (n2 + 1))), (19, .int .i64 i1)] (by show ([0, 1, 11, 12, 16, 18, 19] : List Nat).Nodup; decide) (by show ([0] : List Nat).Nodup; decide) ?_ ?_ (fun t0 => ⟨(IntKind.wrap .i64 (n2 + 1)), t0, H, rfl⟩)
                          · exact (allB_some (by rfl) rfl (.same _ _ (ci_pu .i64) (by first | rfl | (simp only [List.map_append, List.map_cons, List.map_nil, List.map_set, List.map_take, List.map_drop, List.map_replicate, List.append_assoc, List.nil_append, List.append_nil, ci_eq, cb_eq, cs_eq, cl_eq, CS,  List.nil_append]; done) | (simp [CS,  ci_eq, cb_eq, cs_eq, cl_eq]; done) | (simp [CS,  ci_eq, cb_eq, cs_eq, cl_eq]; intro hz; rw [List.take_of_length_le (by simp; omega)]))) trivial)
                          · (simp only [AllT, tl_cons, tl_nil, upd_apply, List.getD_cons_zero, List.getD_cons_succ, Nat.reduceEqDiff, ↓reduceIte, and_true]); exact ⟨(.lst _ _ _ Entry.pu rfl), (.int' rfl), (.bool' rfl), (.refl' (by first | rfl | omega | (simp; done) | (simp; omega) | (simp_all; done)) rfl), (.int' rfl), (.int' rfl), (.int' rfl)⟩
                        · have H := cond_f zc10 H
                          refine a_skip ?_
                          refine bA_n ?_
                          refine cA_n ?_
                          refine wk_l [(some 0, ⟨3, 1, false, a1.map (ci .i64)⟩)] [] [(0, .list 2 (l1.map Entry.c)), (1, .int .i64 term1), (11, .bool r1), (12, .ref 0 0 a1.length 1), (16, .int .i64 r2), (18, .int .i64 n2), (19, .int .i64 i1)] (by show ([0, 1, 11, 12, 16, 18, 19] : List Nat).Nodup; decide) (by show ([0] : List Nat).Nodup; decide) ?_ ?_ (fun t0 => ⟨n2, t0, H, rfl⟩)
                          · exact (allB_some (by rfl) rfl (.same _ _ (ci_pu .i64) (by first | rfl | (simp only [List.map_append, List.map_cons, List.map_nil, List.map_set, List.map_take, List.map_drop, List.map_replicate, List.append_assoc, List.nil_append, List.append_nil, ci_eq, cb_eq, cs_eq, cl_eq, CS,  List.nil_append]; done) | (simp [CS,  ci_eq, cb_eq, cs_eq, cl_eq]; done) | (simp [CS,  ci_eq, cb_eq, cs_eq, cl_eq]; intro hz; rw [List.take_of_length_le (by simp; omega)]))) trivial)
                          · (simp only [AllT, tl_cons, tl_nil, upd_apply, List.getD_cons_zero, List.getD_cons_succ, Nat.reduceEqDiff, ↓reduceIte, and_true]); exact ⟨(.lst _ _ _ Entry.pu rfl), (.int' rfl), (.bool' rfl), (.refl' (by first | rfl | omega | (simp; done) | (simp; omega) | (simp_all; done)) rfl), (.int' rfl), (.int' rfl), (.int' rfl)⟩
                      · rintro s ⟨n3, t0, H, rfl⟩
                        unfold law13_LogCommits_J5 at H
                        refine a_reg _ rfl (s := ?zs18) ?_ ?_
                        rotate_left
                        · simp (maxSteps := 2000000) only [EVT, stepR, evOp, St.ev, St.app, St.put, wrs, datOf, datOf1, evBin, binInt, TIS, CS, Nat.reduceAdd, Nat.reduceMul, Nat.reduceEqDiff, ↓reduceIte, reduceCtorEq, Nat.reduceLT, Nat.reduceLeDiff]
                          (repeat' apply And.intro) <;> first | rfl | assumption | omega | (simp; done) | (simp; omega) | (simp_all; done)
                        refine lA_n ?_
                        refine wk_l [(some 0, ⟨3, 1, false, a1.map (ci .i64)⟩)] [] [(0, .list 2 (l1.map Entry.c)), (1, .int .i64 term1), (11, .bool r1), (12, .ref 0 0 a1.length 1), (16, .int .i64 r2), (18, .int .i64 n3), (19, .int .i64 (IntKind.wrap .i64 (i1 + 1)))] (by show ([0, 1, 11, 12, 16, 18, 19] : List Nat).Nodup; decide) (by show ([0] : List Nat).Nodup; decide) ?_ ?_ (fun t0 => ⟨_, Nat.lt_succ_self _, n3, (IntKind.wrap .i64 (i1 + 1)), t0, H, rfl⟩)
                        · exact (allB_some (by rfl) rfl (.same _ _ (ci_pu .i64) (by first | rfl | (simp only [List.map_append, List.map_cons, List.map_nil, List.map_set, List.map_take, List.map_drop, List.map_replicate, List.append_assoc, List.nil_append, List.append_nil, ci_eq, cb_eq, cs_eq, cl_eq, CS,  List.nil_append]; done) | (simp [CS,  ci_eq, cb_eq, cs_eq, cl_eq]; done) | (simp [CS,  ci_eq, cb_eq, cs_eq, cl_eq]; intro hz; rw [List.take_of_length_le (by simp; omega)]))) trivial)
                        · (simp only [AllT, tl_cons, tl_nil, upd_apply, List.getD_cons_zero, List.getD_cons_succ, Nat.reduceEqDiff, ↓reduceIte, and_true]); exact ⟨(.lst _ _ _ Entry.pu rfl), (.int' rfl), (.bool' rfl), (.refl' (by first | rfl | omega | (simp; done) | (simp; omega) | (simp_all; done)) rfl), (.int' rfl), (.int' rfl), (.int' rfl)⟩
                    · have H := cond_f zc9 H
                      refine a_exit ?_
                      refine sA_e ?_
                      refine lA_e ?_
                      refine bA_hit ?_
                      refine cA_n ?_
                      refine wk_l [(some 0, ⟨3, 1, false, a1.map (ci .i64)⟩)] [] [(0, .list 2 (l1.map Entry.c)), (1, .int .i64 term1), (11, .bool r1), (12, .ref 0 0 a1.length 1), (16, .int .i64 r2), (18, .int .i64 n2)] (by show ([0, 1, 11, 12, 16, 18] : List Nat).Nodup; decide) (by show ([0] : List Nat).Nodup; decide) ?_ ?_ (fun t0 => ⟨n2, t0, H, rfl⟩)
                      · exact (allB_some (by rfl) rfl (.same _ _ (ci_pu .i64) (by first | rfl | (simp only [List.map_append, List.map_cons, List.map_nil, List.map_set, List.map_take, List.map_drop, List.map_replicate, List.append_assoc, List.nil_append, List.append_nil, ci_eq, cb_eq, cs_eq, cl_eq, CS,  List.nil_append]; done) | (simp [CS,  ci_eq, cb_eq, cs_eq, cl_eq]; done) | (simp [CS,  ci_eq, cb_eq, cs_eq, cl_eq]; intro hz; rw [List.take_of_length_le (by simp; omega)]))) trivial)
                      · (simp only [AllT, tl_cons, tl_nil, upd_apply, List.getD_cons_zero, List.getD_cons_succ, Nat.reduceEqDiff, ↓reduceIte, and_true]); exact ⟨(.lst _ _ _ Entry.pu rfl), (.int' rfl), (.bool' rfl), (.refl' (by first | rfl | omega | (simp; done) | (simp; omega) | (simp_all; done)) rfl), (.int' rfl), (.int' rfl)⟩
              · rintro s ⟨n1, t0, H, rfl⟩
                unfold law13_LogCommits_J4 at H
                refine a_seq ?_
                refine bool_split (b := r1) (fun zc4 => ?_) (fun zc4 => ?_)
                · have H := cond_t zc4 H
                  refine bool_split (b := (decide (r2 ≤ (l1.length : Int)))) (fun zc5 => ?_) (fun zc5 => ?_)
                  · have H := cond_t zc5 H
                    refine bool_split (b := (decide (1 ≤ r2))) (fun zc6 => ?_) (fun zc6 => ?_)
                    · have H := cond_t zc6 H
                      obtain ⟨x1, zh4, H⟩ := bind_some H
                      have zg1 := idx_map zh4 Entry.c
                      try simp only [Int.reduceToNat] at zg1
                      obtain ⟨zh4a, zh4b, _⟩ := idx_some zh4
                      refine bool_split (b := (x1.term == term1)) (fun zc7 => ?_) (fun zc7 => ?_)
                      · have H := cond_t zc7 H
                        refine bool_split (b := (decide ((((a1.length : Nat)) : Int) < (IntKind.wrap .i64 (2 * n1))))) (fun zc8 => ?_) (fun zc8 => ?_)
                        · have H := cond_t zc8 H
                          obtain ⟨r4, zh5, H⟩ := bind_some H
                          have zk4 := log_Commit_pc zh5
                          refine a_reg _ rfl (s := ?zs10) ?_ ?_
                          rotate_left
                          · try simp (maxSteps := 2000000) only [EVT, stepR, evOp, St.ev, St.app, St.put, wrs, evBuiltin, evBin, binInt, datOf, datOf1, evIndexAddr, evFieldAddr, evLoad, cut, frz, TIS, CS, Nat.reduceAdd, Nat.reduceMul, Nat.reduceEqDiff, ↓reduceIte, reduceCtorEq, Nat.reduceLT, Nat.reduceLeDiff, Array.reduceGetElem?, Int.reduceToNat, Nat.reduceSub, Nat.reduceBEq, ↓zc4, ↓zc5, ↓zc6, zg1, ↓zc7, ↓zc8]
                            repeat' with_reducible apply And.intro
                            all_goals try ((with_reducible show CallR _ _ _ _ _ _ _); refine cR_s zk4 (.cons (.lst _ _ _ Entry.pu rfl) (.cons (.int' rfl) (.cons (.ownL (by rfl) (fun e => by cases e) rfl (by first | rfl | omega | (simp; done) | (simp; omega) | (simp_all; done)) (.same _ _ (ci_pu .i64) (by first | rfl | (simp only [List.map_append, List.map_cons, List.map_nil, List.map_set, List.map_take, List.map_drop, List.map_replicate, List.append_assoc, List.nil_append, List.append_nil, ci_eq, cb_eq, cs_eq, cl_eq, CS,  List.nil_append]; done) | (simp [CS,  ci_eq, cb_eq, cs_eq, cl_eq]; done) | (simp [CS,  ci_eq, cb_eq, cs_eq, cl_eq]; intro hz; rw [List.take_of_length_le (by simp; omega)])))) (.cons (.int' rfl) .nil)))) (.int _ _) ?_; simp (maxSteps := 2000000) only [EVT, stepR, evOp, St.ev, St.app, St.put, wrs, evBuiltin, evBin, binInt, datOf, datOf1, evIndexAddr, evFieldAddr, evLoad, cut, frz, TIS, CS, Nat.reduceAdd, Nat.reduceMul, Nat.reduceEqDiff, ↓reduceIte, reduceCtorEq, Nat.reduceLT, Nat.reduceLeDiff, Array.reduceGetElem?, Int.reduceToNat, Nat.reduceSub, Nat.reduceBEq, ↓zc4, ↓zc5, ↓zc6, zg1, ↓zc7, ↓zc8])
                            all_goals ((repeat' apply And.intro) <;> first | rfl | assumption | omega | (simp; done) | (simp; omega) | (simp_all; done))
                          refine sA_n ?_
                          refine a_ret ?_
                          obtain rfl := Option.some.inj H
                          refine e_r2 (d := ?zd4) ?_ ?_
                          rotate_left
                          · simp only [EVT, resR, single, evLoad, cut, TIS, CS, Nat.reduceAdd, Nat.reduceEqDiff, ↓reduceIte, reduceCtorEq, Nat.reduceLT, Nat.reduceLeDiff, Nat.reduceSub, Nat.reduceBEq, zc4, zc5, zc6, zg1, zc7, zc8]
                            (repeat' apply And.intro) <;> first | rfl | assumption | omega | (simp; done)
                          exact (.bool' rfl)
                        · have H := cond_f zc8 H
                          refine a_reg _ rfl (s := ?zs11) ?_ ?_
                          rotate_left
                          · simp (maxSteps := 2000000) only [EVT, stepR, evOp, St.ev, St.app, St.put, wrs, evBuiltin, evBin, binInt, datOf, datOf1, evIndexAddr, evFieldAddr, evLoad, cut, frz, TIS, CS, Nat.reduceAdd, Nat.reduceMul, Nat.reduceEqDiff, ↓reduceIte, reduceCtorEq, Nat.reduceLT, Nat.reduceLeDiff, Array.reduceGetElem?, Int.reduceToNat, Nat.reduceSub, Nat.reduceBEq, ↓zc4, ↓zc5, ↓zc6, zg1, ↓zc7, ↓zc8]
                            try simp (maxSteps := 2000000) only [EVT, stepR, evOp, St.ev, St.app, St.put, wrs, evBuiltin, evBin, binInt, datOf, datOf1, evIndexAddr, evFieldAddr, evLoad, cut, frz, TIS, CS, Nat.reduceAdd, Nat.reduceMul, Nat.reduceEqDiff, ↓reduceIte, reduceCtorEq, Nat.reduceLT, Nat.reduceLeDiff, Array.reduceGetElem?, Int.reduceToNat, Nat.reduceSub, Nat.reduceBEq, ↓zc4, ↓zc5, ↓zc6, zg1, ↓zc7, ↓zc8]
                            (repeat' apply And.intro) <;> first | rfl | assumption | omega | (simp; done) | (simp; omega) | (simp_all; done)
                          refine sA_n ?_
                          refine a_ret ?_
                          obtain rfl := Option.some.inj H
                          refine e_r2 (d := ?zd5) ?_ ?_
                          rotate_left
                          · simp only [EVT, resR, single, evLoad, cut, TIS, CS, Nat.reduceAdd, Nat.reduceEqDiff, ↓reduceIte, reduceCtorEq, Nat.reduceLT, Nat.reduceLeDiff, Nat.reduceSub, Nat.reduceBEq, zc4, zc5, zc6, zg1, zc7, zc8]
                            (repeat' apply And.intro) <;> first | rfl | assumption | omega | (simp; done)
                          exact (.bool' (by first | rfl | assumption | (simp_all; done)))
                      · have H := cond_f zc7 H
                        refine a_reg _ rfl (s := ?zs12) ?_ ?_
                        rotate_left
                        · simp (maxSteps := 2000000) only [EVT, stepR, evOp, St.ev, St.app, St.put, wrs, evBuiltin, evBin, binInt, datOf, datOf1, evIndexAddr, evFieldAddr, evLoad, cut, frz, TIS, CS, Nat.reduceAdd, Nat.reduceMul, Nat.reduceEqDiff, ↓reduceIte, reduceCtorEq, Nat.reduceLT, Nat.reduceLeDiff, Array.reduceGetElem?, Int.reduceToNat, Nat.reduceSub, Nat.reduceBEq, ↓zc4, ↓zc5, ↓zc6, zg1, ↓zc7]
                          try simp (maxSteps := 2000000) only [EVT, stepR, evOp, St.ev, St.app, St.put, wrs, evBuiltin, evBin, binInt, datOf, datOf1, evIndexAddr, evFieldAddr, evLoad, cut, frz, TIS, CS, Nat.reduceAdd, Nat.reduceMul, Nat.reduceEqDiff, ↓reduceIte, reduceCtorEq, Nat.reduceLT, Nat.reduceLeDiff, Array.reduceGetElem?, Int.reduceToNat, Nat.reduceSub, Nat.reduceBEq, ↓zc4, ↓zc5, ↓zc6, zg1, ↓zc7]
                          (repeat' apply And.intro) <;> first | rfl | assumption | omega | (simp; done) | (simp; omega) | (simp_all; done)
                        refine sA_n ?_
                        refine a_ret ?_
                        obtain rfl := Option.some.inj H
                        refine e_r2 (d := ?zd6) ?_ ?_
                        rotate_left
                        · simp only [EVT, resR, single, evLoad, cut, TIS, CS, Nat.reduceAdd, Nat.reduceEqDiff, ↓reduceIte, reduceCtorEq, Nat.reduceLT, Nat.reduceLeDiff, Nat.reduceSub, Nat.reduceBEq, zc4, zc5, zc6, zg1, zc7]
                          (repeat' apply And.intro) <;> first | rfl | assumption | omega | (simp; done)
                        exact (.bool' (by first | rfl | assumption | (simp_all; done)))
                    · have H := cond_f zc6 H
                      refine a_reg _ rfl (s := ?zs13) ?_ ?_
                      rotate_left
                      · simp (maxSteps := 2000000) only [EVT, stepR, evOp, St.ev, St.app, St.put, wrs, evBuiltin, evBin, binInt, datOf, datOf1, evIndexAddr, evFieldAddr, evLoad, cut, frz, TIS, CS, Nat.reduceAdd, Nat.reduceMul, Nat.reduceEqDiff, ↓reduceIte, reduceCtorEq, Nat.reduceLT, Nat.reduceLeDiff, Array.reduceGetElem?, Int.reduceToNat, Nat.reduceSub, Nat.reduceBEq, ↓zc4, ↓zc5, ↓zc6]
                        try simp (maxSteps := 2000000) only [EVT, stepR, evOp, St.ev, St.app, St.put, wrs, evBuiltin, evBin, binInt, datOf, datOf1, evIndexAddr, evFieldAddr, evLoad, cut, frz, TIS, CS, Nat.reduceAdd, Nat.reduceMul, Nat.reduceEqDiff, ↓reduceIte, reduceCtorEq, Nat.reduceLT, Nat.reduceLeDiff, Array.reduceGetElem?, Int.reduceToNat, Nat.reduceSub, Nat.reduceBEq, ↓zc4, ↓zc5, ↓zc6]
                        (repeat' apply And.intro) <;> first | rfl | assumption | omega | (simp; done) | (simp; omega) | (simp_all; done)
                      refine sA_n ?_
                      refine a_ret ?_
                      obtain rfl := Option.some.inj H
                      refine e_r2 (d := ?zd7) ?_ ?_
                      rotate_left
                      · simp only [EVT, resR, single, evLoad, cut, TIS, CS, Nat.reduceAdd, Nat.reduceEqDiff, ↓reduceIte, reduceCtorEq, Nat.reduceLT, Nat.reduceLeDiff, Nat.reduceSub, Nat.reduceBEq, zc4, zc5, zc6]
                        (repeat' apply And.intro) <;> first | rfl | assumption | omega | (simp; done)
                      exact (.bool' (by first | rfl | assumption | (simp_all; done)))
                  · have H := cond_f zc5 H
                    refine a_reg _ rfl (s := ?zs14) ?_ ?_
                    rotate_left
                    · simp (maxSteps := 2000000) only [EVT, stepR, evOp, St.ev, St.app, St.put, wrs, evBuiltin, evBin, binInt, datOf, datOf1, evIndexAddr, evFieldAddr, evLoad, cut, frz, TIS, CS, Nat.reduceAdd, Nat.reduceMul, Nat.reduceEqDiff, ↓reduceIte, reduceCtorEq, Nat.reduceLT, Nat.reduceLeDiff, Array.reduceGetElem?, Int.reduceToNat, Nat.reduceSub, Nat.reduceBEq, ↓zc4, ↓zc5]
                      try simp (maxSteps := 2000000) only [EVT, stepR, evOp, St.ev, St.app, St.put, wrs, evBuiltin, evBin, binInt, datOf, datOf1, evIndexAddr, evFieldAddr, evLoad, cut, frz, TIS, CS, Nat.reduceAdd, Nat.reduceMul, Nat.reduceEqDiff, ↓reduceIte, reduceCtorEq, Nat.reduceLT, Nat.reduceLeDiff, Array.reduceGetElem?, Int.reduceToNat, Nat.reduceSub, Nat.reduceBEq, ↓zc4, ↓zc5]
                      (repeat' apply And.intro) <;> first | rfl | assumption | omega | (simp; done) | (simp; omega) | (simp_all; done)
                    refine sA_n ?_
                    refine a_ret ?_
                    obtain rfl := Option.some.inj H
                    refine e_r2 (d := ?zd8) ?_ ?_
                    rotate_left
                    · simp only [EVT, resR, single, evLoad, cut, TIS, CS, Nat.reduceAdd, Nat.reduceEqDiff, ↓reduceIte, reduceCtorEq, Nat.reduceLT, Nat.reduceLeDiff, Nat.reduceSub, Nat.reduceBEq, zc4, zc5]
                      (repeat' apply And.intro) <;> first | rfl | assumption | omega | (simp; done)
                    exact (.bool' (by first | rfl | assumption | (simp_all; done)))
                · have H := cond_f zc4 H
                  refine a_reg _ rfl (s := ?zs15) ?_ ?_
                  rotate_left
                  · simp (maxSteps := 2000000) only [EVT, stepR, evOp, St.ev, St.app, St.put, wrs, evBuiltin, evBin, binInt, datOf, datOf1, evIndexAddr, evFieldAddr, evLoad, cut, frz, TIS, CS, Nat.reduceAdd, Nat.reduceMul, Nat.reduceEqDiff, ↓reduceIte, reduceCtorEq, Nat.reduceLT, Nat.reduceLeDiff, Array.reduceGetElem?, Int.reduceToNat, Nat.reduceSub, Nat.reduceBEq, ↓zc4]
                    try simp (maxSteps := 2000000) only [EVT, stepR, evOp, St.ev, St.app, St.put, wrs, evBuiltin, evBin, binInt, datOf, datOf1, evIndexAddr, evFieldAddr, evLoad, cut, frz, TIS, CS, Nat.reduceAdd, Nat.reduceMul, Nat.reduceEqDiff, ↓reduceIte, reduceCtorEq, Nat.reduceLT, Nat.reduceLeDiff, Array.reduceGetElem?, Int.reduceToNat, Nat.reduceSub, Nat.reduceBEq, ↓zc4]
                    (repeat' apply And.intro) <;> first | rfl | assumption | omega | (simp; done) | (simp; omega) | (simp_all; done)
                  refine sA_n ?_
                  refine a_ret ?_
                  obtain rfl := Option.some.inj H
                  refine e_r2 (d := ?zd9) ?_ ?_
                  rotate_left
                  · simp only [EVT, resR, single, evLoad, cut, TIS, CS, Nat.reduceAdd, Nat.reduceEqDiff, ↓reduceIte, reduceCtorEq, Nat.reduceLT, Nat.reduceLeDiff, Nat.reduceSub, Nat.reduceBEq, zc4]
                    (repeat' apply And.intro) <;> first | rfl | assumption | omega | (simp; done)
                  exact (.bool' (by first | rfl | assumption | (simp_all; done)))
end
end Go.Proofs.Ytiomajfdphmgaaa
