/- Functions of the program as Lean functions, and that they are so; printed by a program of mine. -/
import Derived.Test.YtecdonbjabjaeaaF3
set_option linter.unusedSimpArgs false
set_option linter.unusedVariables false
namespace Go.Proofs.Ytecdonbjabjaeaa
open Go.Ab
noncomputable section

def law14_VoteMeets_J4 (r1 : Bool) (peers1 : List Int) (v2 : Bool) : Option Bool :=
  cond v2 (some (false)) (cond r1 ((vote_Won_f peers1 peers1).bind fun r4 => some ((r4 == (decide (0 < (((peers1.length : Nat)) : Int)))))) (some (false)))
def law14_VoteMeets_J3 (a1 : List Int) (b1 : List Int) (r2 : Bool) (r3 : Bool) (r1 : Bool) (peers1 : List Int) (meet1 : Bool) (out1 : List Int) : Option Bool :=
  chk ((0 + a1.length) * 8 ≤ 140737488355328) (chk (((0 + a1.length) + b1.length) * 8 ≤ 140737488355328) (cond r2 (cond r3 (cond (!meet1) (law14_VoteMeets_J4 r1 peers1 true) ((vote_Won_f out1 peers1).bind fun r5 => cond r5 (law14_VoteMeets_J4 r1 peers1 true) ((vote_Won_f ((([] : List Int) ++ a1) ++ b1) peers1).bind fun r6 => law14_VoteMeets_J4 r1 peers1 (!r6)))) ((vote_Won_f out1 peers1).bind fun r7 => cond r7 (law14_VoteMeets_J4 r1 peers1 true) ((vote_Won_f ((([] : List Int) ++ a1) ++ b1) peers1).bind fun r8 => law14_VoteMeets_J4 r1 peers1 (!r8)))) (cond r3 ((vote_Won_f ((([] : List Int) ++ a1) ++ b1) peers1).bind fun r9 => law14_VoteMeets_J4 r1 peers1 (!r9)) (law14_VoteMeets_J4 r1 peers1 false))))
def law14_VoteMeets_J5 (k_law14_VoteMeets_L1 : Bool → (List Int) → Int → Option Bool) (i1 : Int) (meet3 : Bool) (out3 : List Int) : Option Bool :=
  k_law14_VoteMeets_L1 meet3 out3 (IntKind.wrap .i64 (i1 + 1))
def law14_VoteMeets_J6 (k_law14_VoteMeets_L1 : Bool → (List Int) → Int → Option Bool) (peers1 : List Int) (i1 : Int) (out2 : List Int) (meet4 : Bool) (in1 : Bool) : Option Bool :=
  cond (!in1) ((idx peers1 i1).bind fun x2 => chk ((out2.length + 1) * 8 ≤ 140737488355328) (law14_VoteMeets_J5 k_law14_VoteMeets_L1 i1 meet4 (out2 ++ [x2]))) (law14_VoteMeets_J5 k_law14_VoteMeets_L1 i1 meet4 out2)
def law14_VoteMeets_L1 (peers1 : List Int) (a1 : List Int) (b1 : List Int) (r2 : Bool) (r3 : Bool) (r1 : Bool) : Nat → Bool → (List Int) → Int → Option Bool
  | 0, _, _, _ => none
  | m_ + 1, meet2, out2, i1 => cond (decide (i1 < (((peers1.length : Nat)) : Int))) ((idx peers1 i1).bind fun x1 => (ref14_Has_f a1 x1).bind fun r10 => (ref14_Has_f b1 x1).bind fun r11 => cond meet2 (law14_VoteMeets_J6 (law14_VoteMeets_L1 peers1 a1 b1 r2 r3 r1 m_) peers1 i1 out2 true r10) (cond r10 (law14_VoteMeets_J6 (law14_VoteMeets_L1 peers1 a1 b1 r2 r3 r1 m_) peers1 i1 out2 r11 true) (law14_VoteMeets_J6 (law14_VoteMeets_L1 peers1 a1 b1 r2 r3 r1 m_) peers1 i1 out2 false false))) (law14_VoteMeets_J3 a1 b1 r2 r3 r1 peers1 meet2 out2)
def law14_VoteMeets_J2 (a1 : List Int) (b1 : List Int) (r1 : Bool) (peers1 : List Int) : Option Bool :=
  (vote_Won_f a1 peers1).bind fun r2 => (vote_Won_f b1 peers1).bind fun r3 => law14_VoteMeets_L1 peers1 a1 b1 r2 r3 r1 BIG false [] 0
def law14_VoteMeets_J7 (k_law14_VoteMeets_L2 : (List Int) → Int → Option Bool) (x3 : Int) (peers3 : List Int) : Option Bool :=
  k_law14_VoteMeets_L2 peers3 (IntKind.wrap .i64 (x3 + 1))
def law14_VoteMeets_J8 (k_law14_VoteMeets_L3 : (List Int) → Int → Option Bool) (i2 : Int) (peers5 : List Int) : Option Bool :=
  k_law14_VoteMeets_L3 peers5 (IntKind.wrap .i64 (i2 + 1))
def law14_VoteMeets_J9 (k_law14_VoteMeets_L3 : (List Int) → Int → Option Bool) (peers4 : List Int) (i2 : Int) (x3 : Int) (v3 : Bool) : Option Bool :=
  cond v3 (chk ((peers4.length + 1) * 8 ≤ 140737488355328) (law14_VoteMeets_J8 k_law14_VoteMeets_L3 i2 (peers4 ++ [x3]))) (law14_VoteMeets_J8 k_law14_VoteMeets_L3 i2 peers4)
def law14_VoteMeets_L3 (k_law14_VoteMeets_L2 : (List Int) → Int → Option Bool) (raw1 : List Int) (x3 : Int) : Nat → (List Int) → Int → Option Bool
  | 0, _, _ => none
  | m_ + 1, peers4, i2 => cond (decide (i2 < (raw1.length : Int))) ((ref14_Has_f peers4 x3).bind fun r12 => (idx raw1 i2).bind fun x4 => law14_VoteMeets_J9 (law14_VoteMeets_L3 k_law14_VoteMeets_L2 raw1 x3 m_) peers4 i2 x3 (((Int.tmod (IntKind.wrap .i64 x4) 16) == x3) && (!r12))) (law14_VoteMeets_J7 k_law14_VoteMeets_L2 x3 peers4)
def law14_VoteMeets_L2 (raw1 : List Int) (a1 : List Int) (b1 : List Int) (r1 : Bool) : Nat → (List Int) → Int → Option Bool
  | 0, _, _ => none
  | m_ + 1, peers2, x3 => cond (decide (x3 < 16)) (law14_VoteMeets_L3 (law14_VoteMeets_L2 raw1 a1 b1 r1 m_) raw1 x3 BIG peers2 0) (law14_VoteMeets_J2 a1 b1 r1 peers2)
def law14_VoteMeets_J1 (r1 : Bool) (raw1 : List Int) (a1 : List Int) (b1 : List Int) (v1 : Bool) : Option Bool :=
  cond v1 (some (r1)) (law14_VoteMeets_L2 raw1 a1 b1 r1 BIG [] 0)
def law14_VoteMeets_f (a1 : List Int) (b1 : List Int) (raw1 : List Int) : Option Bool :=
  (law14_head_f).bind fun r1 => law14_VoteMeets_J1 r1 raw1 a1 b1 ((decide (30 < (a1.length : Int))) || ((decide (30 < (b1.length : Int))) || (decide (30 < (raw1.length : Int)))))
set_option maxHeartbeats 4000000 in
set_option maxRecDepth 20000 in
theorem law14_VoteMeets_pc {a1 : List Int} {b1 : List Int} {raw1 : List Int} {r : Bool} (H : law14_VoteMeets_f a1 b1 raw1 = some r) : PC Try.prog 5 [.list 1 (a1.map (ci .i64)), .list 1 (b1.map (ci .i64)), .list 1 (raw1.map (ci .u8))] (.bool r) := by
  refine pcA_of Try.func5 (by rfl) (by decide) 147 (by rfl) [.tmp 6] (by rfl) ?_
  unfold law14_VoteMeets_f at H
  simp only [ent]
  refine a_seq ?_
  refine a_reg _ rfl (s := ?zs1) ?_ ?_
  rotate_left
  · simp (maxSteps := 2000000) only [EVT, stepR, evOp, St.ev, St.app, St.put, wrs, datOf, datOf1, TIS, CS, Nat.reduceAdd, Nat.reduceMul, Nat.reduceEqDiff, ↓reduceIte, reduceCtorEq, Nat.reduceLT, Nat.reduceLeDiff]
    (repeat' apply And.intro) <;> first | rfl | assumption | omega | (simp; done) | (simp; omega) | (simp_all; done)
  refine sA_n ?_
  refine a_seq ?_
  obtain ⟨r1, zh1, H⟩ := bind_some H
  have zk1 := law14_head_pc zh1
  refine a_reg _ rfl (s := ?zs2) ?_ ?_
  rotate_left
  · try simp (maxSteps := 2000000) only [EVT, stepR, evOp, St.ev, St.app, St.put, wrs, frz, TIS, CS, Nat.reduceAdd, Nat.reduceMul, Nat.reduceEqDiff, ↓reduceIte, reduceCtorEq, Nat.reduceLT, Nat.reduceLeDiff, Nat.reduceSub, Nat.reduceBEq]
    repeat' with_reducible apply And.intro
    all_goals try ((with_reducible show CallR _ _ _ _ _ _ _); refine cR_s zk1 .nil (.bool _) ?_; simp (maxSteps := 2000000) only [EVT, stepR, evOp, St.ev, St.app, St.put, wrs, frz, TIS, CS, Nat.reduceAdd, Nat.reduceMul, Nat.reduceEqDiff, ↓reduceIte, reduceCtorEq, Nat.reduceLT, Nat.reduceLeDiff, Nat.reduceSub, Nat.reduceBEq])
    all_goals ((repeat' apply And.intro) <;> first | rfl | assumption | omega | (simp; done) | (simp; omega) | (simp_all; done))
  refine sA_n ?_
  refine a_seq ?_
  refine a_cut (fun s => ∃ (v1 : Bool) (t0 : Nat → Dat), law14_VoteMeets_J1 r1 raw1 a1 b1 v1 = some r ∧ s = ⟨tl t0 [(0, .list 1 (a1.map (ci .i64))), (1, .list 1 (b1.map (ci .i64))), (2, .list 1 (raw1.map (ci .u8))), (7, .bool r1), (33, .bool v1)], hl [], 0, 147⟩) ?_ ?_
  · refine bool_split (b := (decide (30 < (a1.length : Int)))) (fun zc18 => ?_) (fun zc18 => ?_)
    · rw [zc18] at H
      refine a_reg _ rfl (s := ?zs40) ?_ ?_
      rotate_left
      · simp (maxSteps := 2000000) only [EVT, stepR, evOp, St.ev, St.app, St.put, wrs, evBuiltin, datOf, datOf1, evBin, binInt, TIS, CS, Nat.reduceAdd, Nat.reduceMul, Nat.reduceEqDiff, ↓reduceIte, reduceCtorEq, Nat.reduceLT, Nat.reduceLeDiff, Array.reduceGetElem?, Nat.reduceSub, Nat.reduceBEq, ↓zc18]
        try simp (maxSteps := 2000000) only [EVT, stepR, evOp, St.ev, St.app, St.put, wrs, evBuiltin, datOf, datOf1, evBin, binInt, TIS, CS, Nat.reduceAdd, Nat.reduceMul, Nat.reduceEqDiff, ↓reduceIte, reduceCtorEq, Nat.reduceLT, Nat.reduceLeDiff, Array.reduceGetElem?, Nat.reduceSub, Nat.reduceBEq, ↓zc18]
        (repeat' apply And.intro) <;> first | rfl | assumption | omega | (simp; done) | (simp; omega) | (simp_all; done)
      refine cA_n ?_
      refine wk_l [] [] [(0, .list 1 (a1.map (ci .i64))), (1, .list 1 (b1.map (ci .i64))), (2, .list 1 (raw1.map (ci .u8))), (7, .bool r1), (33, .bool true)] (by show ([0, 1, 2, 7, 33] : List Nat).Nodup; decide) (by show ([] : List Nat).Nodup; decide) ?_ ?_ (fun t0 => ⟨true, t0, H, rfl⟩)
      · exact trivial
      · (simp only [AllT, tl_cons, tl_nil, upd_apply, List.getD_cons_zero, List.getD_cons_succ, Nat.reduceEqDiff, ↓reduceIte, and_true]); exact ⟨(.lst _ _ _ (ci_pu .i64) rfl), (.lst _ _ _ (ci_pu .i64) rfl), (.lst _ _ _ (ci_pu .u8) rfl), (.bool' rfl), (.bool' (by first | rfl | assumption | (simp_all; done)))⟩
    · rw [zc18] at H
      refine bool_split (b := (decide (30 < (b1.length : Int)))) (fun zc19 => ?_) (fun zc19 => ?_)
      · rw [zc19] at H
        refine a_reg _ rfl (s := ?zs41) ?_ ?_
        rotate_left
        · simp (maxSteps := 2000000) only [EVT, stepR, evOp, St.ev, St.app, St.put, wrs, evBuiltin, datOf, datOf1, evBin, binInt, TIS, CS, Nat.reduceAdd, Nat.reduceMul, Nat.reduceEqDiff, ↓reduceIte, reduceCtorEq, Nat.reduceLT, Nat.reduceLeDiff, Array.reduceGetElem?, Nat.reduceSub, Nat.reduceBEq, ↓zc18, ↓zc19]
          try simp (maxSteps := 2000000) only [EVT, stepR, evOp, St.ev, St.app, St.put, wrs, evBuiltin, datOf, datOf1, evBin, binInt, TIS, CS, Nat.reduceAdd, Nat.reduceMul, Nat.reduceEqDiff, ↓reduceIte, reduceCtorEq, Nat.reduceLT, Nat.reduceLeDiff, Array.reduceGetElem?, Nat.reduceSub, Nat.reduceBEq, ↓zc18, ↓zc19]
          (repeat' apply And.intro) <;> first | rfl | assumption | omega | (simp; done) | (simp; omega) | (simp_all; done)
        refine cA_n ?_
        refine wk_l [] [] [(0, .list 1 (a1.map (ci .i64))), (1, .list 1 (b1.map (ci .i64))), (2, .list 1 (raw1.map (ci .u8))), (7, .bool r1), (33, .bool true)] (by show ([0, 1, 2, 7, 33] : List Nat).Nodup; decide) (by show ([] : List Nat).Nodup; decide) ?_ ?_ (fun t0 => ⟨true, t0, H, rfl⟩)
        · exact trivial
        · (simp only [AllT, tl_cons, tl_nil, upd_apply, List.getD_cons_zero, List.getD_cons_succ, Nat.reduceEqDiff, ↓reduceIte, and_true]); exact ⟨(.lst _ _ _ (ci_pu .i64) rfl), (.lst _ _ _ (ci_pu .i64) rfl), (.lst _ _ _ (ci_pu .u8) rfl), (.bool' rfl), (.bool' (by first | rfl | assumption | (simp_all; done)))⟩
      · rw [zc19] at H
        refine a_reg _ rfl (s := ?zs42) ?_ ?_
        rotate_left
        · simp (maxSteps := 2000000) only [EVT, stepR, evOp, St.ev, St.app, St.put, wrs, evBuiltin, datOf, datOf1, evBin, binInt, TIS, CS, Nat.reduceAdd, Nat.reduceMul, Nat.reduceEqDiff, ↓reduceIte, reduceCtorEq, Nat.reduceLT, Nat.reduceLeDiff, Array.reduceGetElem?, Nat.reduceSub, Nat.reduceBEq, ↓zc18, ↓zc19]
          try simp (maxSteps := 2000000) only [EVT, stepR, evOp, St.ev, St.app, St.put, wrs, evBuiltin, datOf, datOf1, evBin, binInt, TIS, CS, Nat.reduceAdd, Nat.reduceMul, Nat.reduceEqDiff, ↓reduceIte, reduceCtorEq, Nat.reduceLT, Nat.reduceLeDiff, Array.reduceGetElem?, Nat.reduceSub, Nat.reduceBEq, ↓zc18, ↓zc19]
          (repeat' apply And.intro) <;> first | rfl | assumption | omega | (simp; done) | (simp; omega) | (simp_all; done)
        refine cA_n ?_
        refine wk_l [] [] [(0, .list 1 (a1.map (ci .i64))), (1, .list 1 (b1.map (ci .i64))), (2, .list 1 (raw1.map (ci .u8))), (7, .bool r1), (33, .bool (decide (30 < (raw1.length : Int))))] (by show ([0, 1, 2, 7, 33] : List Nat).Nodup; decide) (by show ([] : List Nat).Nodup; decide) ?_ ?_ (fun t0 => ⟨(decide (30 < (raw1.length : Int))), t0, H, rfl⟩)
        · exact trivial
        · (simp only [AllT, tl_cons, tl_nil, upd_apply, List.getD_cons_zero, List.getD_cons_succ, Nat.reduceEqDiff, ↓reduceIte, and_true]); exact ⟨(.lst _ _ _ (ci_pu .i64) rfl), (.lst _ _ _ (ci_pu .i64) rfl), (.lst _ _ _ (ci_pu .u8) rfl), (.bool' rfl), (.bool' rfl)⟩
  · rintro s ⟨v1, t0, H, rfl⟩
    unfold law14_VoteMeets_J1 at H
    refine a_condb (v1) (by rfl) (fun zc1 => ?_) (fun zc1 => ?_)
    · have H := cond_t zc1 H
      refine a_seq ?_
      refine a_reg _ rfl (s := ?zs3) ?_ ?_
      rotate_left
      · simp (maxSteps := 2000000) only [EVT, stepR, evOp, St.ev, St.app, St.put, wrs, TIS, CS, Nat.reduceAdd, Nat.reduceMul, Nat.reduceEqDiff, ↓reduceIte, reduceCtorEq, Nat.reduceLT, Nat.reduceLeDiff, ↓zc1]
        (repeat' apply And.intro) <;> first | rfl | assumption | omega | (simp; done) | (simp; omega) | (simp_all; done)
      refine sA_n ?_
      refine a_ret ?_
      refine sA_r ?_
      obtain rfl := Option.some.inj H
      refine e_r2 (d := ?zd1) ?_ ?_
      rotate_left
      · simp only [EVT, resR, single, evLoad, cut, TIS, CS, Nat.reduceAdd, Nat.reduceEqDiff, ↓reduceIte, reduceCtorEq, Nat.reduceLT, Nat.reduceLeDiff, Nat.reduceSub, Nat.reduceBEq, zc1]
        (repeat' apply And.intro) <;> first | rfl | assumption | omega | (simp; done)
      exact (.bool' rfl)
    · have H := cond_f zc1 H
      refine a_skip ?_
      refine sA_n ?_
      refine a_seq ?_
      refine a_reg _ rfl (s := ?zs4) ?_ ?_
      rotate_left
      · simp (maxSteps := 2000000) only [EVT, stepR, evOp, St.ev, St.app, St.put, wrs, datOf, datOf1, TIS, CS, Nat.reduceAdd, Nat.reduceMul, Nat.reduceEqDiff, ↓reduceIte, reduceCtorEq, Nat.reduceLT, Nat.reduceLeDiff, ↓zc1]
        (repeat' apply And.intro) <;> first | rfl | assumption | omega | (simp; done) | (simp; omega) | (simp_all; done)
      refine sA_n ?_
      refine a_cut (fun s => ∃ (peers1 : List Int) (t0 : Nat → Dat), law14_VoteMeets_J2 a1 b1 r1 peers1 = some r ∧ s = ⟨tl t0 [(0, .list 1 (a1.map (ci .i64))), (1, .list 1 (b1.map (ci .i64))), (7, .bool r1), (8, .ref 0 0 peers1.length 1)], hl [⟨3, 1, false, peers1.map (ci .i64)⟩], 1, 147⟩) ?_ ?_
      · refine a_seq ?_
        refine a_reg _ rfl (s := ?zs30) ?_ ?_
        rotate_left
        · simp (maxSteps := 2000000) only [EVT, stepR, evOp, St.ev, St.app, St.put, wrs, datOf, datOf1, TIS, CS, Nat.reduceAdd, Nat.reduceMul, Nat.reduceEqDiff, ↓reduceIte, reduceCtorEq, Nat.reduceLT, Nat.reduceLeDiff, ↓zc1]
          (repeat' apply And.intro) <;> first | rfl | assumption | omega | (simp; done) | (simp; omega) | (simp_all; done)
        refine sA_n ?_
        refine a_blk ?_
        refine a_loop (fun m s => ∃ (peers2 : List Int) (x3 : Int) (t0 : Nat → Dat), law14_VoteMeets_L2 raw1 a1 b1 r1 m peers2 x3 = some r ∧ s = ⟨tl t0 [(0, .list 1 (a1.map (ci .i64))), (1, .list 1 (b1.map (ci .i64))), (2, .list 1 (raw1.map (ci .u8))), (7, .bool r1), (8, .ref 0 0 peers2.length 1), (9, .int .i64 x3)], hl [⟨3, 1, false, peers2.map (ci .i64)⟩], 1, 147⟩) BIG ?_ ?_
        · refine wk_l [(none, ⟨3, 1, false, [].map (ci .i64)⟩)] [] [(0, .list 1 (a1.map (ci .i64))), (1, .list 1 (b1.map (ci .i64))), (2, .list 1 (raw1.map (ci .u8))), (7, .bool r1), (8, .ref 0 0 [].length 1), (9, .int .i64 0)] (by show ([0, 1, 2, 7, 8, 9] : List Nat).Nodup; decide) (by show ([] : List Nat).Nodup; decide) ?_ ?_ (fun t0 => ⟨[], 0, t0, H, rfl⟩)
          · exact (allB_none rfl trivial)
          · (simp only [AllT, tl_cons, tl_nil, upd_apply, List.getD_cons_zero, List.getD_cons_succ, Nat.reduceEqDiff, ↓reduceIte, and_true]); exact ⟨(.lst _ _ _ (ci_pu .i64) rfl), (.lst _ _ _ (ci_pu .i64) rfl), (.lst _ _ _ (ci_pu .u8) rfl), (.bool' rfl), (.nilv _ _ rfl rfl), (.int' rfl)⟩
        · rintro m_law14_VoteMeets_L2 s ⟨peers2, x3, t0, H, rfl⟩
          obtain _ | m_law14_VoteMeets_L2 := m_law14_VoteMeets_L2
          · cases (show (none : Option _) = some _ from H)
          · rw [law14_VoteMeets_L2] at H
            refine a_seq ?_
            refine a_seq ?_
            refine a_reg _ rfl (s := ?zs31) ?_ ?_
            rotate_left
            · simp (maxSteps := 2000000) only [EVT, stepR, evOp, St.ev, St.app, St.put, wrs, datOf, datOf1, evBin, binInt, TIS, CS, Nat.reduceAdd, Nat.reduceMul, Nat.reduceEqDiff, ↓reduceIte, reduceCtorEq, Nat.reduceLT, Nat.reduceLeDiff]
              (repeat' apply And.intro) <;> first | rfl | assumption | omega | (simp; done) | (simp; omega) | (simp_all; done)
            refine sA_n ?_
            refine a_condb ((decide (x3 < 16))) (by rfl) (fun zc14 => ?_) (fun zc14 => ?_)
            · have H := cond_t zc14 H
              refine a_skip ?_
              refine sA_n ?_
              refine a_cut (fun s => ∃ (peers3 : List Int) (t0 : Nat → Dat), law14_VoteMeets_J7 (law14_VoteMeets_L2 raw1 a1 b1 r1 m_law14_VoteMeets_L2) x3 peers3 = some r ∧ s = ⟨tl t0 [(0, .list 1 (a1.map (ci .i64))), (1, .list 1 (b1.map (ci .i64))), (2, .list 1 (raw1.map (ci .u8))), (7, .bool r1), (8, .ref 0 0 peers3.length 1), (9, .int .i64 x3)], hl [⟨3, 1, false, peers3.map (ci .i64)⟩], 1, 147⟩) ?_ ?_
              · refine a_blk ?_
                refine a_seq ?_
                refine a_reg _ rfl (s := ?zs33) ?_ ?_
                rotate_left
                · simp (maxSteps := 2000000) only [EVT, stepR, evOp, St.ev, St.app, St.put, wrs, datOf, datOf1, TIS, CS, Nat.reduceAdd, Nat.reduceMul, Nat.reduceEqDiff, ↓reduceIte, reduceCtorEq, Nat.reduceLT, Nat.reduceLeDiff, ↓zc14]
                  (repeat' apply And.intro) <;> first | rfl | assumption | omega | (simp; done) | (simp; omega) | (simp_all; done)
                refine sA_n ?_
                refine a_blk ?_
                refine a_loop (fun m s => ∃ (peers4 : List Int) (i2 : Int) (t0 : Nat → Dat), law14_VoteMeets_L3 (law14_VoteMeets_L2 raw1 a1 b1 r1 m_law14_VoteMeets_L2) raw1 x3 m peers4 i2 = some r ∧ s = ⟨tl t0 [(0, .list 1 (a1.map (ci .i64))), (1, .list 1 (b1.map (ci .i64))), (2, .list 1 (raw1.map (ci .u8))), (7, .bool r1), (8, .ref 0 0 peers4.length 1), (9, .int .i64 x3), (10, .int .i64 i2)], hl [⟨3, 1, false, peers4.map (ci .i64)⟩], 1, 147⟩) BIG ?_ ?_
                · refine wk_l [(some 0, ⟨3, 1, false, peers2.map (ci .i64)⟩)] [] [(0, .list 1 (a1.map (ci .i64))), (1, .list 1 (b1.map (ci .i64))), (2, .list 1 (raw1.map (ci .u8))), (7, .bool r1), (8, .ref 0 0 peers2.length 1), (9, .int .i64 x3), (10, .int .i64 0)] (by show ([0, 1, 2, 7, 8, 9, 10] : List Nat).Nodup; decide) (by show ([0] : List Nat).Nodup; decide) ?_ ?_ (fun t0 => ⟨peers2, 0, t0, H, rfl⟩)
                  · exact (allB_some (by rfl) rfl (.same _ _ (ci_pu .i64) (by first | rfl | (simp only [List.map_append, List.map_cons, List.map_nil, List.map_set, List.map_take, List.map_drop, List.map_replicate, List.append_assoc, List.nil_append, List.append_nil, ci_eq, cb_eq, cs_eq, cl_eq, CS,  List.nil_append]; done) | (simp [CS,  ci_eq, cb_eq, cs_eq, cl_eq]; done))) trivial)
                  · (simp only [AllT, tl_cons, tl_nil, upd_apply, List.getD_cons_zero, List.getD_cons_succ, Nat.reduceEqDiff, ↓reduceIte, and_true]); exact ⟨(.lst _ _ _ (ci_pu .i64) rfl), (.lst _ _ _ (ci_pu .i64) rfl), (.lst _ _ _ (ci_pu .u8) rfl), (.bool' rfl), (.refl' (by first | rfl | omega | (simp; done) | (simp_all; done)) rfl), (.int' rfl), (.int' rfl)⟩
                · rintro m_law14_VoteMeets_L3 s ⟨peers4, i2, t0, H, rfl⟩
                  obtain _ | m_law14_VoteMeets_L3 := m_law14_VoteMeets_L3
                  · cases (show (none : Option _) = some _ from H)
                  · rw [law14_VoteMeets_L3] at H
                    refine a_seq ?_
                    refine a_seq ?_
                    refine a_reg _ rfl (s := ?zs34) ?_ ?_
                    rotate_left
                    · simp (maxSteps := 2000000) only [EVT, stepR, evOp, St.ev, St.app, St.put, wrs, evBuiltin, evBin, binInt, TIS, CS, Nat.reduceAdd, Nat.reduceMul, Nat.reduceEqDiff, ↓reduceIte, reduceCtorEq, Nat.reduceLT, Nat.reduceLeDiff, Nat.reduceSub, Nat.reduceBEq]
                      (repeat' apply And.intro) <;> first | rfl | assumption | omega | (simp; done) | (simp; omega) | (simp_all; done)
                    refine sA_n ?_
                    refine a_condb ((decide (i2 < (raw1.length : Int)))) (by rfl) (fun zc15 => ?_) (fun zc15 => ?_)
                    · have H := cond_t zc15 H
                      refine a_skip ?_
                      refine sA_n ?_
                      refine a_cut (fun s => ∃ (peers5 : List Int) (t0 : Nat → Dat), law14_VoteMeets_J8 (law14_VoteMeets_L3 (law14_VoteMeets_L2 raw1 a1 b1 r1 m_law14_VoteMeets_L2) raw1 x3 m_law14_VoteMeets_L3) i2 peers5 = some r ∧ s = ⟨tl t0 [(0, .list 1 (a1.map (ci .i64))), (1, .list 1 (b1.map (ci .i64))), (2, .list 1 (raw1.map (ci .u8))), (7, .bool r1), (8, .ref 0 0 peers5.length 1), (9, .int .i64 x3), (10, .int .i64 i2)], hl [⟨3, 1, false, peers5.map (ci .i64)⟩], 1, 147⟩) ?_ ?_
                      · refine a_blk ?_
                        refine a_seq ?_
                        obtain ⟨r12, zh17, H⟩ := bind_some H
                        have zk12 := ref14_Has_pc zh17
                        refine a_reg _ rfl (s := ?zs36) ?_ ?_
                        rotate_left
                        · try simp (maxSteps := 2000000) only [EVT, stepR, evOp, St.ev, St.app, St.put, wrs, frz, TIS, CS, Nat.reduceAdd, Nat.reduceMul, Nat.reduceEqDiff, ↓reduceIte, reduceCtorEq, Nat.reduceLT, Nat.reduceLeDiff, Nat.reduceSub, Nat.reduceBEq, ↓zc15]
                          repeat' with_reducible apply And.intro
                          all_goals try ((with_reducible show CallR _ _ _ _ _ _ _); refine cR_s zk12 (.cons (.ownL (by rfl) (fun e => by cases e) rfl (by first | rfl | omega | (simp; done) | (simp_all; done)) (.same _ _ (ci_pu .i64) (by first | rfl | (simp only [List.map_append, List.map_cons, List.map_nil, List.map_set, List.map_take, List.map_drop, List.map_replicate, List.append_assoc, List.nil_append, List.append_nil, ci_eq, cb_eq, cs_eq, cl_eq, CS,  List.nil_append]; done) | (simp [CS,  ci_eq, cb_eq, cs_eq, cl_eq]; done)))) (.cons (.int' rfl) .nil)) (.bool _) ?_; simp (maxSteps := 2000000) only [EVT, stepR, evOp, St.ev, St.app, St.put, wrs, frz, TIS, CS, Nat.reduceAdd, Nat.reduceMul, Nat.reduceEqDiff, ↓reduceIte, reduceCtorEq, Nat.reduceLT, Nat.reduceLeDiff, Nat.reduceSub, Nat.reduceBEq, ↓zc15])
                          all_goals ((repeat' apply And.intro) <;> first | rfl | assumption | omega | (simp; done) | (simp; omega) | (simp_all; done))
                        refine sA_n ?_
                        refine a_cut (fun s => ∃ (v3 : Bool) (t0 : Nat → Dat), law14_VoteMeets_J9 (law14_VoteMeets_L3 (law14_VoteMeets_L2 raw1 a1 b1 r1 m_law14_VoteMeets_L2) raw1 x3 m_law14_VoteMeets_L3) peers4 i2 x3 v3 = some r ∧ s = ⟨tl t0 [(0, .list 1 (a1.map (ci .i64))), (1, .list 1 (b1.map (ci .i64))), (2, .list 1 (raw1.map (ci .u8))), (7, .bool r1), (8, .ref 0 0 peers4.length 1), (9, .int .i64 x3), (10, .int .i64 i2), (59, .bool v3)], hl [⟨3, 1, false, peers4.map (ci .i64)⟩], 1, 147⟩) ?_ ?_
                        · obtain ⟨x4, zh19, H⟩ := bind_some H
                          have zg3 := idx_map zh19 (ci .u8)
                          obtain ⟨zh19a, zh19b, _⟩ := idx_some zh19
                          refine bool_split (b := ((Int.tmod (IntKind.wrap .i64 x4) 16) == x3)) (fun zc17 => ?_) (fun zc17 => ?_)
                          · rw [zc17] at H
                            refine a_reg _ rfl (s := ?zs38) ?_ ?_
                            rotate_left
                            · simp (maxSteps := 2000000) only [EVT, stepR, evOp, St.ev, St.app, St.put, wrs, evIndexAddr, evLoad, cut, datOf, datOf1, evBin, binInt, evUn, TIS, CS, Nat.reduceAdd, Nat.reduceMul, Nat.reduceEqDiff, ↓reduceIte, reduceCtorEq, Nat.reduceLT, Nat.reduceLeDiff, Array.reduceGetElem?, Int.reduceToNat, Nat.reduceSub, Nat.reduceBEq, ↓zc15, zg3, ↓zc17]
                              try simp (maxSteps := 2000000) only [EVT, stepR, evOp, St.ev, St.app, St.put, wrs, evIndexAddr, evLoad, cut, datOf, datOf1, evBin, binInt, evUn, TIS, CS, Nat.reduceAdd, Nat.reduceMul, Nat.reduceEqDiff, ↓reduceIte, reduceCtorEq, Nat.reduceLT, Nat.reduceLeDiff, Array.reduceGetElem?, Int.reduceToNat, Nat.reduceSub, Nat.reduceBEq, ↓zc15, zg3, ↓zc17]
                              (repeat' apply And.intro) <;> first | rfl | assumption | omega | (simp; done) | (simp; omega) | (simp_all; done)
                            refine cA_n ?_
                            refine wk_l [(some 0, ⟨3, 1, false, peers4.map (ci .i64)⟩)] [] [(0, .list 1 (a1.map (ci .i64))), (1, .list 1 (b1.map (ci .i64))), (2, .list 1 (raw1.map (ci .u8))), (7, .bool r1), (8, .ref 0 0 peers4.length 1), (9, .int .i64 x3), (10, .int .i64 i2), (59, .bool (!r12))] (by show ([0, 1, 2, 7, 8, 9, 10, 59] : List Nat).Nodup; decide) (by show ([0] : List Nat).Nodup; decide) ?_ ?_ (fun t0 => ⟨(!r12), t0, H, rfl⟩)
                            · exact (allB_some (by rfl) rfl (.same _ _ (ci_pu .i64) (by first | rfl | (simp only [List.map_append, List.map_cons, List.map_nil, List.map_set, List.map_take, List.map_drop, List.map_replicate, List.append_assoc, List.nil_append, List.append_nil, ci_eq, cb_eq, cs_eq, cl_eq, CS,  List.nil_append]; done) | (simp [CS,  ci_eq, cb_eq, cs_eq, cl_eq]; done))) trivial)
                            · (simp only [AllT, tl_cons, tl_nil, upd_apply, List.getD_cons_zero, List.getD_cons_succ, Nat.reduceEqDiff, ↓reduceIte, and_true]); exact ⟨(.lst _ _ _ (ci_pu .i64) rfl), (.lst _ _ _ (ci_pu .i64) rfl), (.lst _ _ _ (ci_pu .u8) rfl), (.bool' rfl), (.refl' (by first | rfl | omega | (simp; done) | (simp_all; done)) rfl), (.int' rfl), (.int' rfl), (.bool' rfl)⟩
                          · rw [zc17] at H
                            refine a_reg _ rfl (s := ?zs39) ?_ ?_
                            rotate_left
                            · simp (maxSteps := 2000000) only [EVT, stepR, evOp, St.ev, St.app, St.put, wrs, evIndexAddr, evLoad, cut, datOf, datOf1, evBin, binInt, evUn, TIS, CS, Nat.reduceAdd, Nat.reduceMul, Nat.reduceEqDiff, ↓reduceIte, reduceCtorEq, Nat.reduceLT, Nat.reduceLeDiff, Array.reduceGetElem?, Int.reduceToNat, Nat.reduceSub, Nat.reduceBEq, ↓zc15, zg3, ↓zc17]
                              try simp (maxSteps := 2000000) only [EVT, stepR, evOp, St.ev, St.app, St.put, wrs, evIndexAddr, evLoad, cut, datOf, datOf1, evBin, binInt, evUn, TIS, CS, Nat.reduceAdd, Nat.reduceMul, Nat.reduceEqDiff, ↓reduceIte, reduceCtorEq, Nat.reduceLT, Nat.reduceLeDiff, Array.reduceGetElem?, Int.reduceToNat, Nat.reduceSub, Nat.reduceBEq, ↓zc15, zg3, ↓zc17]
                              (repeat' apply And.intro) <;> first | rfl | assumption | omega | (simp; done) | (simp; omega) | (simp_all; done)
                            refine cA_n ?_
                            refine wk_l [(some 0, ⟨3, 1, false, peers4.map (ci .i64)⟩)] [] [(0, .list 1 (a1.map (ci .i64))), (1, .list 1 (b1.map (ci .i64))), (2, .list 1 (raw1.map (ci .u8))), (7, .bool r1), (8, .ref 0 0 peers4.length 1), (9, .int .i64 x3), (10, .int .i64 i2), (59, .bool false)] (by show ([0, 1, 2, 7, 8, 9, 10, 59] : List Nat).Nodup; decide) (by show ([0] : List Nat).Nodup; decide) ?_ ?_ (fun t0 => ⟨false, t0, H, rfl⟩)
                            · exact (allB_some (by rfl) rfl (.same _ _ (ci_pu .i64) (by first | rfl | (simp only [List.map_append, List.map_cons, List.map_nil, List.map_set, List.map_take, List.map_drop, List.map_replicate, List.append_assoc, List.nil_append, List.append_nil, ci_eq, cb_eq, cs_eq, cl_eq, CS,  List.nil_append]; done) | (simp [CS,  ci_eq, cb_eq, cs_eq, cl_eq]; done))) trivial)
                            · (simp only [AllT, tl_cons, tl_nil, upd_apply, List.getD_cons_zero, List.getD_cons_succ, Nat.reduceEqDiff, ↓reduceIte, and_true]); exact ⟨(.lst _ _ _ (ci_pu .i64) rfl), (.lst _ _ _ (ci_pu .i64) rfl), (.lst _ _ _ (ci_pu .u8) rfl), (.bool' rfl), (.refl' (by first | rfl | omega | (simp; done) | (simp_all; done)) rfl), (.int' rfl), (.int' rfl), (.bool' (by first | rfl | assumption | (simp_all; done)))⟩
                        · rintro s ⟨v3, t0, H, rfl⟩
                          unfold law14_VoteMeets_J9 at H
                          refine a_condb (v3) (by rfl) (fun zc16 => ?_) (fun zc16 => ?_)
                          · have H := cond_t zc16 H
                            obtain ⟨zh18, H⟩ := chk_some H
                            refine a_reg _ rfl (s := ?zs37) ?_ ?_
                            rotate_left
                            · simp (maxSteps := 2000000) only [EVT, stepR, evOp, St.ev, St.app, St.put, wrs, allOne, evBuiltin, evAppend, elems, Option.elim, TIS, CS, Nat.reduceAdd, Nat.reduceMul, Nat.reduceEqDiff, ↓reduceIte, reduceCtorEq, Nat.reduceLT, Nat.reduceLeDiff, Nat.reduceSub, Nat.reduceBEq, ↓zc16]
                              (repeat' apply And.intro) <;> first | rfl | assumption | omega | (simp; done) | (simp; omega) | (simp_all; done)
                            refine bA_n ?_
                            refine cA_n ?_
                            refine wk_l [(some 4, ⟨3, 1, false, (peers4 ++ [x3]).map (ci .i64)⟩)] [] [(0, .list 1 (a1.map (ci .i64))), (1, .list 1 (b1.map (ci .i64))), (2, .list 1 (raw1.map (ci .u8))), (7, .bool r1), (8, .ref 0 0 (peers4 ++ [x3]).length 1), (9, .int .i64 x3), (10, .int .i64 i2)] (by show ([0, 1, 2, 7, 8, 9, 10] : List Nat).Nodup; decide) (by show ([4] : List Nat).Nodup; decide) ?_ ?_ (fun t0 => ⟨(peers4 ++ [x3]), t0, H, rfl⟩)
                            · exact (allB_some (by rfl) rfl (.same _ _ (ci_pu .i64) (by first | rfl | (simp only [List.map_append, List.map_cons, List.map_nil, List.map_set, List.map_take, List.map_drop, List.map_replicate, List.append_assoc, List.nil_append, List.append_nil, ci_eq, cb_eq, cs_eq, cl_eq, CS,  List.nil_append]; done) | (simp [CS,  ci_eq, cb_eq, cs_eq, cl_eq]; done))) trivial)
                            · (simp only [AllT, tl_cons, tl_nil, upd_apply, List.getD_cons_zero, List.getD_cons_succ, Nat.reduceEqDiff, ↓reduceIte, and_true]); exact ⟨(.lst _ _ _ (ci_pu .i64) rfl), (.lst _ _ _ (ci_pu .i64) rfl), (.lst _ _ _ (ci_pu .u8) rfl), (.bool' rfl), (.refl' (by first | rfl | omega | (simp; done) | (simp_all; done)) rfl), (.int' rfl), (.int' rfl)⟩
                          · have H := cond_f zc16 H
                            refine a_skip ?_
                            refine bA_n ?_
                            refine cA_n ?_
                            refine wk_l [(some 0, ⟨3, 1, false, peers4.map (ci .i64)⟩)] [] [(0, .list 1 (a1.map (ci .i64))), (1, .list 1 (b1.map (ci .i64))), (2, .list 1 (raw1.map (ci .u8))), (7, .bool r1), (8, .ref 0 0 peers4.length 1), (9, .int .i64 x3), (10, .int .i64 i2)] (by show ([0, 1, 2, 7, 8, 9, 10] : List Nat).Nodup; decide) (by show ([0] : List Nat).Nodup; decide) ?_ ?_ (fun t0 => ⟨peers4, t0, H, rfl⟩)
                            · exact (allB_some (by rfl) rfl (.same _ _ (ci_pu .i64) (by first | rfl | (simp only [List.map_append, List.map_cons, List.map_nil, List.map_set, List.map_take, List.map_drop, List.map_replicate, List.append_assoc, List.nil_append, List.append_nil, ci_eq, cb_eq, cs_eq, cl_eq, CS,  List.nil_append]; done) | (simp [CS,  ci_eq, cb_eq, cs_eq, cl_eq]; done))) trivial)
                            · (simp only [AllT, tl_cons, tl_nil, upd_apply, List.getD_cons_zero, List.getD_cons_succ, Nat.reduceEqDiff, ↓reduceIte, and_true]); exact ⟨(.lst _ _ _ (ci_pu .i64) rfl), (.lst _ _ _ (ci_pu .i64) rfl), (.lst _ _ _ (ci_pu .u8) rfl), (.bool' rfl), (.refl' (by first | rfl | omega | (simp; done) | (simp_all; done)) rfl), (.int' rfl), (.int' rfl)⟩
                      · rintro s ⟨peers5, t0, H, rfl⟩
                        unfold law14_VoteMeets_J8 at H
                        refine a_reg _ rfl (s := ?zs35) ?_ ?_
                        rotate_left
                        · simp (maxSteps := 2000000) only [EVT, stepR, evOp, St.ev, St.app, St.put, wrs, datOf, datOf1, evBin, binInt, TIS, CS, Nat.reduceAdd, Nat.reduceMul, Nat.reduceEqDiff, ↓reduceIte, reduceCtorEq, Nat.reduceLT, Nat.reduceLeDiff]
                          (repeat' apply And.intro) <;> first | rfl | assumption | omega | (simp; done) | (simp; omega) | (simp_all; done)
                        refine lA_n ?_
                        refine wk_l [(some 0, ⟨3, 1, false, peers5.map (ci .i64)⟩)] [] [(0, .list 1 (a1.map (ci .i64))), (1, .list 1 (b1.map (ci .i64))), (2, .list 1 (raw1.map (ci .u8))), (7, .bool r1), (8, .ref 0 0 peers5.length 1), (9, .int .i64 x3), (10, .int .i64 (IntKind.wrap .i64 (i2 + 1)))] (by show ([0, 1, 2, 7, 8, 9, 10] : List Nat).Nodup; decide) (by show ([0] : List Nat).Nodup; decide) ?_ ?_ (fun t0 => ⟨_, Nat.lt_succ_self _, peers5, (IntKind.wrap .i64 (i2 + 1)), t0, H, rfl⟩)
                        · exact (allB_some (by rfl) rfl (.same _ _ (ci_pu .i64) (by first | rfl | (simp only [List.map_append, List.map_cons, List.map_nil, List.map_set, List.map_take, List.map_drop, List.map_replicate, List.append_assoc, List.nil_append, List.append_nil, ci_eq, cb_eq, cs_eq, cl_eq, CS,  List.nil_append]; done) | (simp [CS,  ci_eq, cb_eq, cs_eq, cl_eq]; done))) trivial)
                        · (simp only [AllT, tl_cons, tl_nil, upd_apply, List.getD_cons_zero, List.getD_cons_succ, Nat.reduceEqDiff, ↓reduceIte, and_true]); exact ⟨(.lst _ _ _ (ci_pu .i64) rfl), (.lst _ _ _ (ci_pu .i64) rfl), (.lst _ _ _ (ci_pu .u8) rfl), (.bool' rfl), (.refl' (by first | rfl | omega | (simp; done) | (simp_all; done)) rfl), (.int' rfl), (.int' rfl)⟩
                    · have H := cond_f zc15 H
                      refine a_exit ?_
                      refine sA_e ?_
                      refine lA_e ?_
                      refine bA_hit ?_
                      refine bA_n ?_
                      refine cA_n ?_
                      refine wk_l [(some 0, ⟨3, 1, false, peers4.map (ci .i64)⟩)] [] [(0, .list 1 (a1.map (ci .i64))), (1, .list 1 (b1.map (ci .i64))), (2, .list 1 (raw1.map (ci .u8))), (7, .bool r1), (8, .ref 0 0 peers4.length 1), (9, .int .i64 x3)] (by show ([0, 1, 2, 7, 8, 9] : List Nat).Nodup; decide) (by show ([0] : List Nat).Nodup; decide) ?_ ?_ (fun t0 => ⟨peers4, t0, H, rfl⟩)
                      · exact (allB_some (by rfl) rfl (.same _ _ (ci_pu .i64) (by first | rfl | (simp only [List.map_append, List.map_cons, List.map_nil, List.map_set, List.map_take, List.map_drop, List.map_replicate, List.append_assoc, List.nil_append, List.append_nil, ci_eq, cb_eq, cs_eq, cl_eq, CS,  List.nil_append]; done) | (simp [CS,  ci_eq, cb_eq, cs_eq, cl_eq]; done))) trivial)
                      · (simp only [AllT, tl_cons, tl_nil, upd_apply, List.getD_cons_zero, List.getD_cons_succ, Nat.reduceEqDiff, ↓reduceIte, and_true]); exact ⟨(.lst _ _ _ (ci_pu .i64) rfl), (.lst _ _ _ (ci_pu .i64) rfl), (.lst _ _ _ (ci_pu .u8) rfl), (.bool' rfl), (.refl' (by first | rfl | omega | (simp; done) | (simp_all; done)) rfl), (.int' rfl)⟩
              · rintro s ⟨peers3, t0, H, rfl⟩
                unfold law14_VoteMeets_J7 at H
                refine a_reg _ rfl (s := ?zs32) ?_ ?_
                rotate_left
                · simp (maxSteps := 2000000) only [EVT, stepR, evOp, St.ev, St.app, St.put, wrs, datOf, datOf1, evBin, binInt, TIS, CS, Nat.reduceAdd, Nat.reduceMul, Nat.reduceEqDiff, ↓reduceIte, reduceCtorEq, Nat.reduceLT, Nat.reduceLeDiff]
                  (repeat' apply And.intro) <;> first | rfl | assumption | omega | (simp; done) | (simp; omega) | (simp_all; done)
                refine lA_n ?_
                refine wk_l [(some 0, ⟨3, 1, false, peers3.map (ci .i64)⟩)] [] [(0, .list 1 (a1.map (ci .i64))), (1, .list 1 (b1.map (ci .i64))), (2, .list 1 (raw1.map (ci .u8))), (7, .bool r1), (8, .ref 0 0 peers3.length 1), (9, .int .i64 (IntKind.wrap .i64 (x3 + 1)))] (by show ([0, 1, 2, 7, 8, 9] : List Nat).Nodup; decide) (by show ([0] : List Nat).Nodup; decide) ?_ ?_ (fun t0 => ⟨_, Nat.lt_succ_self _, peers3, (IntKind.wrap .i64 (x3 + 1)), t0, H, rfl⟩)
                · exact (allB_some (by rfl) rfl (.same _ _ (ci_pu .i64) (by first | rfl | (simp only [List.map_append, List.map_cons, List.map_nil, List.map_set, List.map_take, List.map_drop, List.map_replicate, List.append_assoc, List.nil_append, List.append_nil, ci_eq, cb_eq, cs_eq, cl_eq, CS,  List.nil_append]; done) | (simp [CS,  ci_eq, cb_eq, cs_eq, cl_eq]; done))) trivial)
                · (simp only [AllT, tl_cons, tl_nil, upd_apply, List.getD_cons_zero, List.getD_cons_succ, Nat.reduceEqDiff, ↓reduceIte, and_true]); exact ⟨(.lst _ _ _ (ci_pu .i64) rfl), (.lst _ _ _ (ci_pu .i64) rfl), (.lst _ _ _ (ci_pu .u8) rfl), (.bool' rfl), (.refl' (by first | rfl | omega | (simp; done) | (simp_all; done)) rfl), (.int' rfl)⟩
            · have H := cond_f zc14 H
              refine a_exit ?_
              refine sA_e ?_
              refine lA_e ?_
              refine bA_hit ?_
              refine cA_n ?_
              refine wk_l [(some 0, ⟨3, 1, false, peers2.map (ci .i64)⟩)] [] [(0, .list 1 (a1.map (ci .i64))), (1, .list 1 (b1.map (ci .i64))), (7, .bool r1), (8, .ref 0 0 peers2.length 1)] (by show ([0, 1, 7, 8] : List Nat).Nodup; decide) (by show ([0] : List Nat).Nodup; decide) ?_ ?_ (fun t0 => ⟨peers2, t0, H, rfl⟩)
              · exact (allB_some (by rfl) rfl (.same _ _ (ci_pu .i64) (by first | rfl | (simp only [List.map_append, List.map_cons, List.map_nil, List.map_set, List.map_take, List.map_drop, List.map_replicate, List.append_assoc, List.nil_append, List.append_nil, ci_eq, cb_eq, cs_eq, cl_eq, CS,  List.nil_append]; done) | (simp [CS,  ci_eq, cb_eq, cs_eq, cl_eq]; done))) trivial)
              · (simp only [AllT, tl_cons, tl_nil, upd_apply, List.getD_cons_zero, List.getD_cons_succ, Nat.reduceEqDiff, ↓reduceIte, and_true]); exact ⟨(.lst _ _ _ (ci_pu .i64) rfl), (.lst _ _ _ (ci_pu .i64) rfl), (.bool' rfl), (.refl' (by first | rfl | omega | (simp; done) | (simp_all; done)) rfl)⟩
      · rintro s ⟨peers1, t0, H, rfl⟩
        unfold law14_VoteMeets_J2 at H
        refine a_seq ?_
        obtain ⟨r2, zh2, H⟩ := bind_some H
        have zk2 := vote_Won_pc zh2
        refine a_reg _ rfl (s := ?zs5) ?_ ?_
        rotate_left
        · try simp (maxSteps := 2000000) only [EVT, stepR, evOp, St.ev, St.app, St.put, wrs, frz, TIS, CS, Nat.reduceAdd, Nat.reduceMul, Nat.reduceEqDiff, ↓reduceIte, reduceCtorEq, Nat.reduceLT, Nat.reduceLeDiff, Nat.reduceSub, Nat.reduceBEq]
          repeat' with_reducible apply And.intro
          all_goals try ((with_reducible show CallR _ _ _ _ _ _ _); refine cR_s zk2 (.cons (.lst _ _ _ (ci_pu .i64) rfl) (.cons (.ownL (by rfl) (fun e => by cases e) rfl (by first | rfl | omega | (simp; done) | (simp_all; done)) (.same _ _ (ci_pu .i64) (by first | rfl | (simp only [List.map_append, List.map_cons, List.map_nil, List.map_set, List.map_take, List.map_drop, List.map_replicate, List.append_assoc, List.nil_append, List.append_nil, ci_eq, cb_eq, cs_eq, cl_eq, CS,  List.nil_append]; done) | (simp [CS,  ci_eq, cb_eq, cs_eq, cl_eq]; done)))) .nil)) (.bool _) ?_; simp (maxSteps := 2000000) only [EVT, stepR, evOp, St.ev, St.app, St.put, wrs, frz, TIS, CS, Nat.reduceAdd, Nat.reduceMul, Nat.reduceEqDiff, ↓reduceIte, reduceCtorEq, Nat.reduceLT, Nat.reduceLeDiff, Nat.reduceSub, Nat.reduceBEq])
          all_goals ((repeat' apply And.intro) <;> first | rfl | assumption | omega | (simp; done) | (simp; omega) | (simp_all; done))
        refine sA_n ?_
        refine a_seq ?_
        obtain ⟨r3, zh3, H⟩ := bind_some H
        have zk3 := vote_Won_pc zh3
        refine a_reg _ rfl (s := ?zs6) ?_ ?_
        rotate_left
        · try simp (maxSteps := 2000000) only [EVT, stepR, evOp, St.ev, St.app, St.put, wrs, frz, TIS, CS, Nat.reduceAdd, Nat.reduceMul, Nat.reduceEqDiff, ↓reduceIte, reduceCtorEq, Nat.reduceLT, Nat.reduceLeDiff, Nat.reduceSub, Nat.reduceBEq]
          repeat' with_reducible apply And.intro
          all_goals try ((with_reducible show CallR _ _ _ _ _ _ _); refine cR_s zk3 (.cons (.lst _ _ _ (ci_pu .i64) rfl) (.cons (.ownL (by rfl) (fun e => by cases e) rfl (by first | rfl | omega | (simp; done) | (simp_all; done)) (.same _ _ (ci_pu .i64) (by first | rfl | (simp only [List.map_append, List.map_cons, List.map_nil, List.map_set, List.map_take, List.map_drop, List.map_replicate, List.append_assoc, List.nil_append, List.append_nil, ci_eq, cb_eq, cs_eq, cl_eq, CS,  List.nil_append]; done) | (simp [CS,  ci_eq, cb_eq, cs_eq, cl_eq]; done)))) .nil)) (.bool _) ?_; simp (maxSteps := 2000000) only [EVT, stepR, evOp, St.ev, St.app, St.put, wrs, frz, TIS, CS, Nat.reduceAdd, Nat.reduceMul, Nat.reduceEqDiff, ↓reduceIte, reduceCtorEq, Nat.reduceLT, Nat.reduceLeDiff, Nat.reduceSub, Nat.reduceBEq])
          all_goals ((repeat' apply And.intro) <;> first | rfl | assumption | omega | (simp; done) | (simp; omega) | (simp_all; done))
        refine sA_n ?_
        refine a_seq ?_
        refine a_reg _ rfl (s := ?zs7) ?_ ?_
        rotate_left
        · simp (maxSteps := 2000000) only [EVT, stepR, evOp, St.ev, St.app, St.put, wrs, datOf, datOf1, TIS, CS, Nat.reduceAdd, Nat.reduceMul, Nat.reduceEqDiff, ↓reduceIte, reduceCtorEq, Nat.reduceLT, Nat.reduceLeDiff]
          (repeat' apply And.intro) <;> first | rfl | assumption | omega | (simp; done) | (simp; omega) | (simp_all; done)
        refine sA_n ?_
        refine a_seq ?_
        refine a_reg _ rfl (s := ?zs8) ?_ ?_
        rotate_left
        · simp (maxSteps := 2000000) only [EVT, stepR, evOp, St.ev, St.app, St.put, wrs, datOf, datOf1, TIS, CS, Nat.reduceAdd, Nat.reduceMul, Nat.reduceEqDiff, ↓reduceIte, reduceCtorEq, Nat.reduceLT, Nat.reduceLeDiff]
          (repeat' apply And.intro) <;> first | rfl | assumption | omega | (simp; done) | (simp; omega) | (simp_all; done)
        refine sA_n ?_
        refine a_cut (fun s => ∃ (meet1 : Bool) (out1 : List Int) (t0 : Nat → Dat), law14_VoteMeets_J3 a1 b1 r2 r3 r1 peers1 meet1 out1 = some r ∧ s = ⟨tl t0 [(0, .list 1 (a1.map (ci .i64))), (1, .list 1 (b1.map (ci .i64))), (7, .bool r1), (8, .ref 0 0 peers1.length 1), (12, .bool r2), (13, .bool r3), (14, .bool meet1), (15, .ref 1 0 out1.length 1)], hl [⟨3, 1, false, peers1.map (ci .i64)⟩, ⟨3, 1, false, out1.map (ci .i64)⟩], 2, 147⟩) ?_ ?_
        · refine a_seq ?_
          refine a_reg _ rfl (s := ?zs20) ?_ ?_
          rotate_left
          · simp (maxSteps := 2000000) only [EVT, stepR, evOp, St.ev, St.app, St.put, wrs, datOf, datOf1, TIS, CS, Nat.reduceAdd, Nat.reduceMul, Nat.reduceEqDiff, ↓reduceIte, reduceCtorEq, Nat.reduceLT, Nat.reduceLeDiff]
            (repeat' apply And.intro) <;> first | rfl | assumption | omega | (simp; done) | (simp; omega) | (simp_all; done)
          refine sA_n ?_
          refine a_blk ?_
          refine a_loop (fun m s => ∃ (meet2 : Bool) (out2 : List Int) (i1 : Int) (t0 : Nat → Dat), law14_VoteMeets_L1 peers1 a1 b1 r2 r3 r1 m meet2 out2 i1 = some r ∧ s = ⟨tl t0 [(0, .list 1 (a1.map (ci .i64))), (1, .list 1 (b1.map (ci .i64))), (7, .bool r1), (8, .ref 0 0 peers1.length 1), (12, .bool r2), (13, .bool r3), (14, .bool meet2), (15, .ref 1 0 out2.length 1), (16, .int .i64 i1)], hl [⟨3, 1, false, peers1.map (ci .i64)⟩, ⟨3, 1, false, out2.map (ci .i64)⟩], 2, 147⟩) BIG ?_ ?_
          · refine wk_l [(some 0, ⟨3, 1, false, peers1.map (ci .i64)⟩), (none, ⟨3, 1, false, [].map (ci .i64)⟩)] [] [(0, .list 1 (a1.map (ci .i64))), (1, .list 1 (b1.map (ci .i64))), (7, .bool r1), (8, .ref 0 0 peers1.length 1), (12, .bool r2), (13, .bool r3), (14, .bool false), (15, .ref 1 0 [].length 1), (16, .int .i64 0)] (by show ([0, 1, 7, 8, 12, 13, 14, 15, 16] : List Nat).Nodup; decide) (by show ([0] : List Nat).Nodup; decide) ?_ ?_ (fun t0 => ⟨false, [], 0, t0, H, rfl⟩)
            · exact (allB_some (by rfl) rfl (.same _ _ (ci_pu .i64) (by first | rfl | (simp only [List.map_append, List.map_cons, List.map_nil, List.map_set, List.map_take, List.map_drop, List.map_replicate, List.append_assoc, List.nil_append, List.append_nil, ci_eq, cb_eq, cs_eq, cl_eq, CS,  List.nil_append]; done) | (simp [CS,  ci_eq, cb_eq, cs_eq, cl_eq]; done))) (allB_none rfl trivial))
            · (simp only [AllT, tl_cons, tl_nil, upd_apply, List.getD_cons_zero, List.getD_cons_succ, Nat.reduceEqDiff, ↓reduceIte, and_true]); exact ⟨(.lst _ _ _ (ci_pu .i64) rfl), (.lst _ _ _ (ci_pu .i64) rfl), (.bool' rfl), (.refl' (by first | rfl | omega | (simp; done) | (simp_all; done)) rfl), (.bool' rfl), (.bool' rfl), (.bool' (by first | rfl | assumption | (simp_all; done))), (.nilv _ _ rfl rfl), (.int' rfl)⟩
          · rintro m_law14_VoteMeets_L1 s ⟨meet2, out2, i1, t0, H, rfl⟩
            obtain _ | m_law14_VoteMeets_L1 := m_law14_VoteMeets_L1
            · cases (show (none : Option _) = some _ from H)
            · rw [law14_VoteMeets_L1] at H
              refine a_seq ?_
              refine a_seq ?_
              refine a_reg _ rfl (s := ?zs21) ?_ ?_
              rotate_left
              · simp (maxSteps := 2000000) only [EVT, stepR, evOp, St.ev, St.app, St.put, wrs, evBuiltin, evBin, binInt, TIS, CS, Nat.reduceAdd, Nat.reduceMul, Nat.reduceEqDiff, ↓reduceIte, reduceCtorEq, Nat.reduceLT, Nat.reduceLeDiff, Nat.reduceSub, Nat.reduceBEq]
                (repeat' apply And.intro) <;> first | rfl | assumption | omega | (simp; done) | (simp; omega) | (simp_all; done)
              refine sA_n ?_
              refine a_condb ((decide (i1 < (((peers1.length : Nat)) : Int)))) (by rfl) (fun zc10 => ?_) (fun zc10 => ?_)
              · have H := cond_t zc10 H
                refine a_skip ?_
                refine sA_n ?_
                refine a_cut (fun s => ∃ (meet3 : Bool) (out3 : List Int) (t0 : Nat → Dat), law14_VoteMeets_J5 (law14_VoteMeets_L1 peers1 a1 b1 r2 r3 r1 m_law14_VoteMeets_L1) i1 meet3 out3 = some r ∧ s = ⟨tl t0 [(0, .list 1 (a1.map (ci .i64))), (1, .list 1 (b1.map (ci .i64))), (7, .bool r1), (8, .ref 0 0 peers1.length 1), (12, .bool r2), (13, .bool r3), (14, .bool meet3), (15, .ref 1 0 out3.length 1), (16, .int .i64 i1)], hl [⟨3, 1, false, peers1.map (ci .i64)⟩, ⟨3, 1, false, out3.map (ci .i64)⟩], 2, 147⟩) ?_ ?_
                · refine a_blk ?_
                  refine a_seq ?_
                  obtain ⟨x1, zh12, H⟩ := bind_some H
                  have zg1 := idx_map zh12 (ci .i64)
                  obtain ⟨zh12a, zh12b, _⟩ := idx_some zh12
                  obtain ⟨r10, zh13, H⟩ := bind_some H
                  have zk10 := ref14_Has_pc zh13
                  refine a_reg _ rfl (s := ?zs23) ?_ ?_
                  rotate_left
                  · try simp (maxSteps := 2000000) only [EVT, stepR, evOp, St.ev, St.app, St.put, wrs, evIndexAddr, evLoad, cut, frz, TIS, CS, Nat.reduceAdd, Nat.reduceMul, Nat.reduceEqDiff, ↓reduceIte, reduceCtorEq, Nat.reduceLT, Nat.reduceLeDiff, Int.reduceToNat, Nat.reduceSub, Nat.reduceBEq, ↓zc10, zg1]
                    repeat' with_reducible apply And.intro
                    all_goals try ((with_reducible show CallR _ _ _ _ _ _ _); refine cR_s zk10 (.cons (.lst _ _ _ (ci_pu .i64) rfl) (.cons (.int' rfl) .nil)) (.bool _) ?_; simp (maxSteps := 2000000) only [EVT, stepR, evOp, St.ev, St.app, St.put, wrs, evIndexAddr, evLoad, cut, frz, TIS, CS, Nat.reduceAdd, Nat.reduceMul, Nat.reduceEqDiff, ↓reduceIte, reduceCtorEq, Nat.reduceLT, Nat.reduceLeDiff, Int.reduceToNat, Nat.reduceSub, Nat.reduceBEq, ↓zc10, zg1])
                    all_goals ((repeat' apply And.intro) <;> first | rfl | assumption | omega | (simp; done) | (simp; omega) | (simp_all; done))
                  refine sA_n ?_
                  refine a_seq ?_
                  obtain ⟨r11, zh14, H⟩ := bind_some H
                  have zk11 := ref14_Has_pc zh14
                  refine a_reg _ rfl (s := ?zs24) ?_ ?_
                  rotate_left
                  · try simp (maxSteps := 2000000) only [EVT, stepR, evOp, St.ev, St.app, St.put, wrs, evIndexAddr, evLoad, cut, frz, TIS, CS, Nat.reduceAdd, Nat.reduceMul, Nat.reduceEqDiff, ↓reduceIte, reduceCtorEq, Nat.reduceLT, Nat.reduceLeDiff, Int.reduceToNat, Nat.reduceSub, Nat.reduceBEq, ↓zc10, zg1]
                    repeat' with_reducible apply And.intro
                    all_goals try ((with_reducible show CallR _ _ _ _ _ _ _); refine cR_s zk11 (.cons (.lst _ _ _ (ci_pu .i64) rfl) (.cons (.int' rfl) .nil)) (.bool _) ?_; simp (maxSteps := 2000000) only [EVT, stepR, evOp, St.ev, St.app, St.put, wrs, evIndexAddr, evLoad, cut, frz, TIS, CS, Nat.reduceAdd, Nat.reduceMul, Nat.reduceEqDiff, ↓reduceIte, reduceCtorEq, Nat.reduceLT, Nat.reduceLeDiff, Int.reduceToNat, Nat.reduceSub, Nat.reduceBEq, ↓zc10, zg1])
                    all_goals ((repeat' apply And.intro) <;> first | rfl | assumption | omega | (simp; done) | (simp; omega) | (simp_all; done))
                  refine sA_n ?_
                  refine a_cut (fun s => ∃ (meet4 : Bool) (in1 : Bool) (t0 : Nat → Dat), law14_VoteMeets_J6 (law14_VoteMeets_L1 peers1 a1 b1 r2 r3 r1 m_law14_VoteMeets_L1) peers1 i1 out2 meet4 in1 = some r ∧ s = ⟨tl t0 [(0, .list 1 (a1.map (ci .i64))), (1, .list 1 (b1.map (ci .i64))), (7, .bool r1), (8, .ref 0 0 peers1.length 1), (12, .bool r2), (13, .bool r3), (14, .bool meet4), (15, .ref 1 0 out2.length 1), (16, .int .i64 i1), (17, .bool in1)], hl [⟨3, 1, false, peers1.map (ci .i64)⟩, ⟨3, 1, false, out2.map (ci .i64)⟩], 2, 147⟩) ?_ ?_
                  · refine bool_split (b := meet2) (fun zc12 => ?_) (fun zc12 => ?_)
                    · have H := cond_t zc12 H
                      refine a_reg _ rfl (s := ?zs27) ?_ ?_
                      rotate_left
                      · simp (maxSteps := 2000000) only [EVT, stepR, evOp, St.ev, St.app, St.put, wrs, datOf, datOf1, TIS, CS, Nat.reduceAdd, Nat.reduceMul, Nat.reduceEqDiff, ↓reduceIte, reduceCtorEq, Nat.reduceLT, Nat.reduceLeDiff, Array.reduceGetElem?, ↓zc10, zg1, ↓zc12]
                        try simp (maxSteps := 2000000) only [EVT, stepR, evOp, St.ev, St.app, St.put, wrs, datOf, datOf1, TIS, CS, Nat.reduceAdd, Nat.reduceMul, Nat.reduceEqDiff, ↓reduceIte, reduceCtorEq, Nat.reduceLT, Nat.reduceLeDiff, Array.reduceGetElem?, ↓zc10, zg1, ↓zc12]
                        (repeat' apply And.intro) <;> first | rfl | assumption | omega | (simp; done) | (simp; omega) | (simp_all; done)
                      refine cA_n ?_
                      refine wk_l [(some 0, ⟨3, 1, false, peers1.map (ci .i64)⟩), (some 1, ⟨3, 1, false, out2.map (ci .i64)⟩)] [] [(0, .list 1 (a1.map (ci .i64))), (1, .list 1 (b1.map (ci .i64))), (7, .bool r1), (8, .ref 0 0 peers1.length 1), (12, .bool r2), (13, .bool r3), (14, .bool true), (15, .ref 1 0 out2.length 1), (16, .int .i64 i1), (17, .bool r10)] (by show ([0, 1, 7, 8, 12, 13, 14, 15, 16, 17] : List Nat).Nodup; decide) (by show ([0, 1] : List Nat).Nodup; decide) ?_ ?_ (fun t0 => ⟨true, r10, t0, H, rfl⟩)
                      · exact (allB_some (by rfl) rfl (.same _ _ (ci_pu .i64) (by first | rfl | (simp only [List.map_append, List.map_cons, List.map_nil, List.map_set, List.map_take, List.map_drop, List.map_replicate, List.append_assoc, List.nil_append, List.append_nil, ci_eq, cb_eq, cs_eq, cl_eq, CS,  List.nil_append]; done) | (simp [CS,  ci_eq, cb_eq, cs_eq, cl_eq]; done))) (allB_some (by rfl) rfl (.same _ _ (ci_pu .i64) (by first | rfl | (simp only [List.map_append, List.map_cons, List.map_nil, List.map_set, List.map_take, List.map_drop, List.map_replicate, List.append_assoc, List.nil_append, List.append_nil, ci_eq, cb_eq, cs_eq, cl_eq, CS,  List.nil_append]; done) | (simp [CS,  ci_eq, cb_eq, cs_eq, cl_eq]; done))) trivial))
                      · (simp only [AllT, tl_cons, tl_nil, upd_apply, List.getD_cons_zero, List.getD_cons_succ, Nat.reduceEqDiff, ↓reduceIte, and_true]); exact ⟨(.lst _ _ _ (ci_pu .i64) rfl), (.lst _ _ _ (ci_pu .i64) rfl), (.bool' rfl), (.refl' (by first | rfl | omega | (simp; done) | (simp_all; done)) rfl), (.bool' rfl), (.bool' rfl), (.bool' (by first | rfl | assumption | (simp_all; done))), (.refl' (by first | rfl | omega | (simp; done) | (simp_all; done)) rfl), (.int' rfl), (.bool' rfl)⟩
                    · have H := cond_f zc12 H
                      refine bool_split (b := r10) (fun zc13 => ?_) (fun zc13 => ?_)
                      · have H := cond_t zc13 H
                        refine a_reg _ rfl (s := ?zs28) ?_ ?_
                        rotate_left
                        · simp (maxSteps := 2000000) only [EVT, stepR, evOp, St.ev, St.app, St.put, wrs, datOf, datOf1, TIS, CS, Nat.reduceAdd, Nat.reduceMul, Nat.reduceEqDiff, ↓reduceIte, reduceCtorEq, Nat.reduceLT, Nat.reduceLeDiff, Array.reduceGetElem?, ↓zc10, zg1, ↓zc12, ↓zc13]
                          try simp (maxSteps := 2000000) only [EVT, stepR, evOp, St.ev, St.app, St.put, wrs, datOf, datOf1, TIS, CS, Nat.reduceAdd, Nat.reduceMul, Nat.reduceEqDiff, ↓reduceIte, reduceCtorEq, Nat.reduceLT, Nat.reduceLeDiff, Array.reduceGetElem?, ↓zc10, zg1, ↓zc12, ↓zc13]
                          (repeat' apply And.intro) <;> first | rfl | assumption | omega | (simp; done) | (simp; omega) | (simp_all; done)
                        refine cA_n ?_
                        refine wk_l [(some 0, ⟨3, 1, false, peers1.map (ci .i64)⟩), (some 1, ⟨3, 1, false, out2.map (ci .i64)⟩)] [] [(0, .list 1 (a1.map (ci .i64))), (1, .list 1 (b1.map (ci .i64))), (7, .bool r1), (8, .ref 0 0 peers1.length 1), (12, .bool r2), (13, .bool r3), (14, .bool r11), (15, .ref 1 0 out2.length 1), (16, .int .i64 i1), (17, .bool true)] (by show ([0, 1, 7, 8, 12, 13, 14, 15, 16, 17] : List Nat).Nodup; decide) (by show ([0, 1] : List Nat).Nodup; decide) ?_ ?_ (fun t0 => ⟨r11, true, t0, H, rfl⟩)
                        · exact (allB_some (by rfl) rfl (.same _ _ (ci_pu .i64) (by first | rfl | (simp only [List.map_append, List.map_cons, List.map_nil, List.map_set, List.map_take, List.map_drop, List.map_replicate, List.append_assoc, List.nil_append, List.append_nil, ci_eq, cb_eq, cs_eq, cl_eq, CS,  List.nil_append]; done) | (simp [CS,  ci_eq, cb_eq, cs_eq, cl_eq]; done))) (allB_some (by rfl) rfl (.same _ _ (ci_pu .i64) (by first | rfl | (simp only [List.map_append, List.map_cons, List.map_nil, List.map_set, List.map_take, List.map_drop, List.map_replicate, List.append_assoc, List.nil_append, List.append_nil, ci_eq, cb_eq, cs_eq, cl_eq, CS,  List.nil_append]; done) | (simp [CS,  ci_eq, cb_eq, cs_eq, cl_eq]; done))) trivial))
                        · (simp only [AllT, tl_cons, tl_nil, upd_apply, List.getD_cons_zero, List.getD_cons_succ, Nat.reduceEqDiff, ↓reduceIte, and_true]); exact ⟨(.lst _ _ _ (ci_pu .i64) rfl), (.lst _ _ _ (ci_pu .i64) rfl), (.bool' rfl), (.refl' (by first | rfl | omega | (simp; done) | (simp_all; done)) rfl), (.bool' rfl), (.bool' rfl), (.bool' rfl), (.refl' (by first | rfl | omega | (simp; done) | (simp_all; done)) rfl), (.int' rfl), (.bool' (by first | rfl | assumption | (simp_all; done)))⟩
                      · have H := cond_f zc13 H
                        refine a_reg _ rfl (s := ?zs29) ?_ ?_
                        rotate_left
                        · simp (maxSteps := 2000000) only [EVT, stepR, evOp, St.ev, St.app, St.put, wrs, datOf, datOf1, TIS, CS, Nat.reduceAdd, Nat.reduceMul, Nat.reduceEqDiff, ↓reduceIte, reduceCtorEq, Nat.reduceLT, Nat.reduceLeDiff, Array.reduceGetElem?, ↓zc10, zg1, ↓zc12, ↓zc13]
                          try simp (maxSteps := 2000000) only [EVT, stepR, evOp, St.ev, St.app, St.put, wrs, datOf, datOf1, TIS, CS, Nat.reduceAdd, Nat.reduceMul, Nat.reduceEqDiff, ↓reduceIte, reduceCtorEq, Nat.reduceLT, Nat.reduceLeDiff, Array.reduceGetElem?, ↓zc10, zg1, ↓zc12, ↓zc13]
                          (repeat' apply And.intro) <;> first | rfl | assumption | omega | (simp; done) | (simp; omega) | (simp_all; done)
                        refine cA_n ?_
                        refine wk_l [(some 0, ⟨3, 1, false, peers1.map (ci .i64)⟩), (some 1, ⟨3, 1, false, out2.map (ci .i64)⟩)] [] [(0, .list 1 (a1.map (ci .i64))), (1, .list 1 (b1.map (ci .i64))), (7, .bool r1), (8, .ref 0 0 peers1.length 1), (12, .bool r2), (13, .bool r3), (14, .bool false), (15, .ref 1 0 out2.length 1), (16, .int .i64 i1), (17, .bool false)] (by show ([0, 1, 7, 8, 12, 13, 14, 15, 16, 17] : List Nat).Nodup; decide) (by show ([0, 1] : List Nat).Nodup; decide) ?_ ?_ (fun t0 => ⟨false, false, t0, H, rfl⟩)
                        · exact (allB_some (by rfl) rfl (.same _ _ (ci_pu .i64) (by first | rfl | (simp only [List.map_append, List.map_cons, List.map_nil, List.map_set, List.map_take, List.map_drop, List.map_replicate, List.append_assoc, List.nil_append, List.append_nil, ci_eq, cb_eq, cs_eq, cl_eq, CS,  List.nil_append]; done) | (simp [CS,  ci_eq, cb_eq, cs_eq, cl_eq]; done))) (allB_some (by rfl) rfl (.same _ _ (ci_pu .i64) (by first | rfl | (simp only [List.map_append, List.map_cons, List.map_nil, List.map_set, List.map_take, List.map_drop, List.map_replicate, List.append_assoc, List.nil_append, List.append_nil, ci_eq, cb_eq, cs_eq, cl_eq, CS,  List.nil_append]; done) | (simp [CS,  ci_eq, cb_eq, cs_eq, cl_eq]; done))) trivial))
                        · (simp only [AllT, tl_cons, tl_nil, upd_apply, List.getD_cons_zero, List.getD_cons_succ, Nat.reduceEqDiff, ↓reduceIte, and_true]); exact ⟨(.lst _ _ _ (ci_pu .i64) rfl), (.lst _ _ _ (ci_pu .i64) rfl), (.bool' rfl), (.refl' (by first | rfl | omega | (simp; done) | (simp_all; done)) rfl), (.bool' rfl), (.bool' rfl), (.bool' (by first | rfl | assumption | (simp_all; done))), (.refl' (by first | rfl | omega | (simp; done) | (simp_all; done)) rfl), (.int' rfl), (.bool' (by first | rfl | assumption | (simp_all; done)))⟩
                  · rintro s ⟨meet4, in1, t0, H, rfl⟩
                    unfold law14_VoteMeets_J6 at H
                    refine a_seq ?_
                    refine a_reg _ rfl (s := ?zs25) ?_ ?_
                    rotate_left
                    · simp (maxSteps := 2000000) only [EVT, stepR, evOp, St.ev, St.app, St.put, wrs, evUn, TIS, CS, Nat.reduceAdd, Nat.reduceMul, Nat.reduceEqDiff, ↓reduceIte, reduceCtorEq, Nat.reduceLT, Nat.reduceLeDiff]
                      (repeat' apply And.intro) <;> first | rfl | assumption | omega | (simp; done) | (simp; omega) | (simp_all; done)
                    refine sA_n ?_
                    refine a_condb ((!in1)) (by rfl) (fun zc11 => ?_) (fun zc11 => ?_)
                    · have H := cond_t zc11 H
                      obtain ⟨x2, zh15, H⟩ := bind_some H
                      have zg2 := idx_map zh15 (ci .i64)
                      obtain ⟨zh15a, zh15b, _⟩ := idx_some zh15
                      obtain ⟨zh16, H⟩ := chk_some H
                      refine a_reg _ rfl (s := ?zs26) ?_ ?_
                      rotate_left
                      · simp (maxSteps := 2000000) only [EVT, stepR, evOp, St.ev, St.app, St.put, wrs, evIndexAddr, evLoad, cut, allOne, evBuiltin, evAppend, elems, Option.elim, TIS, CS, Nat.reduceAdd, Nat.reduceMul, Nat.reduceEqDiff, ↓reduceIte, reduceCtorEq, Nat.reduceLT, Nat.reduceLeDiff, Int.reduceToNat, Nat.reduceSub, Nat.reduceBEq, ↓zc11, zg2]
                        (repeat' apply And.intro) <;> first | rfl | assumption | omega | (simp; done) | (simp; omega) | (simp_all; done)
                      refine bA_n ?_
                      refine cA_n ?_
                      refine wk_l [(some 0, ⟨3, 1, false, peers1.map (ci .i64)⟩), (some 24, ⟨3, 1, false, (out2 ++ [x2]).map (ci .i64)⟩)] [] [(0, .list 1 (a1.map (ci .i64))), (1, .list 1 (b1.map (ci .i64))), (7, .bool r1), (8, .ref 0 0 peers1.length 1), (12, .bool r2), (13, .bool r3), (14, .bool meet4), (15, .ref 1 0 (out2 ++ [x2]).length 1), (16, .int .i64 i1)] (by show ([0, 1, 7, 8, 12, 13, 14, 15, 16] : List Nat).Nodup; decide) (by show ([0, 24] : List Nat).Nodup; decide) ?_ ?_ (fun t0 => ⟨meet4, (out2 ++ [x2]), t0, H, rfl⟩)
                      · exact (allB_some (by rfl) rfl (.same _ _ (ci_pu .i64) (by first | rfl | (simp only [List.map_append, List.map_cons, List.map_nil, List.map_set, List.map_take, List.map_drop, List.map_replicate, List.append_assoc, List.nil_append, List.append_nil, ci_eq, cb_eq, cs_eq, cl_eq, CS,  List.nil_append]; done) | (simp [CS,  ci_eq, cb_eq, cs_eq, cl_eq]; done))) (allB_some (by rfl) rfl (.same _ _ (ci_pu .i64) (by first | rfl | (simp only [List.map_append, List.map_cons, List.map_nil, List.map_set, List.map_take, List.map_drop, List.map_replicate, List.append_assoc, List.nil_append, List.append_nil, ci_eq, cb_eq, cs_eq, cl_eq, CS,  List.nil_append]; done) | (simp [CS,  ci_eq, cb_eq, cs_eq, cl_eq]; done))) trivial))
                      · (simp only [AllT, tl_cons, tl_nil, upd_apply, List.getD_cons_zero, List.getD_cons_succ, Nat.reduceEqDiff, ↓reduceIte, and_true]); exact ⟨(.lst _ _ _ (ci_pu .i64) rfl), (.lst _ _ _ (ci_pu .i64) rfl), (.bool' rfl), (.refl' (by first | rfl | omega | (simp; done) | (simp_all; done)) rfl), (.bool' rfl), (.bool' rfl), (.bool' rfl), (.refl' (by first | rfl | omega | (simp; done) | (simp_all; done)) rfl), (.int' rfl)⟩
                    · have H := cond_f zc11 H
                      refine a_skip ?_
                      refine bA_n ?_
                      refine cA_n ?_
                      refine wk_l [(some 0, ⟨3, 1, false, peers1.map (ci .i64)⟩), (some 1, ⟨3, 1, false, out2.map (ci .i64)⟩)] [] [(0, .list 1 (a1.map (ci .i64))), (1, .list 1 (b1.map (ci .i64))), (7, .bool r1), (8, .ref 0 0 peers1.length 1), (12, .bool r2), (13, .bool r3), (14, .bool meet4), (15, .ref 1 0 out2.length 1), (16, .int .i64 i1)] (by show ([0, 1, 7, 8, 12, 13, 14, 15, 16] : List Nat).Nodup; decide) (by show ([0, 1] : List Nat).Nodup; decide) ?_ ?_ (fun t0 => ⟨meet4, out2, t0, H, rfl⟩)
                      · exact (allB_some (by rfl) rfl (.same _ _ (ci_pu .i64) (by first | rfl | (simp only [List.map_append, List.map_cons, List.map_nil, List.map_set, List.map_take, List.map_drop, List.map_replicate, List.append_assoc, List.nil_append, List.append_nil, ci_eq, cb_eq, cs_eq, cl_eq, CS,  List.nil_append]; done) | (simp [CS,  ci_eq, cb_eq, cs_eq, cl_eq]; done))) (allB_some (by rfl) rfl (.same _ _ (ci_pu .i64) (by first | rfl | (simp only [List.map_append, List.map_cons, List.map_nil, List.map_set, List.map_take, List.map_drop, List.map_replicate, List.append_assoc, List.nil_append, List.append_nil, ci_eq, cb_eq, cs_eq, cl_eq, CS,  List.nil_append]; done) | (simp [CS,  ci_eq, cb_eq, cs_eq, cl_eq]; done))) trivial))
                      · (simp only [AllT, tl_cons, tl_nil, upd_apply, List.getD_cons_zero, List.getD_cons_succ, Nat.reduceEqDiff, ↓reduceIte, and_true]); exact ⟨(.lst _ _ _ (ci_pu .i64) rfl), (.lst _ _ _ (ci_pu .i64) rfl), (.bool' rfl), (.refl' (by first | rfl | omega | (simp; done) | (simp_all; done)) rfl), (.bool' rfl), (.bool' rfl), (.bool' rfl), (.refl' (by first | rfl | omega | (simp; done) | (simp_all; done)) rfl), (.int' rfl)⟩
                · rintro s ⟨meet3, out3, t0, H, rfl⟩
                  unfold law14_VoteMeets_J5 at H
                  refine a_reg _ rfl (s := ?zs22) ?_ ?_
                  rotate_left
                  · simp (maxSteps := 2000000) only [EVT, stepR, evOp, St.ev, St.app, St.put, wrs, datOf, datOf1, evBin, binInt, TIS, CS, Nat.reduceAdd, Nat.reduceMul, Nat.reduceEqDiff, ↓reduceIte, reduceCtorEq, Nat.reduceLT, Nat.reduceLeDiff]
                    (repeat' apply And.intro) <;> first | rfl | assumption | omega | (simp; done) | (simp; omega) | (simp_all; done)
                  refine lA_n ?_
                  refine wk_l [(some 0, ⟨3, 1, false, peers1.map (ci .i64)⟩), (some 1, ⟨3, 1, false, out3.map (ci .i64)⟩)] [] [(0, .list 1 (a1.map (ci .i64))), (1, .list 1 (b1.map (ci .i64))), (7, .bool r1), (8, .ref 0 0 peers1.length 1), (12, .bool r2), (13, .bool r3), (14, .bool meet3), (15, .ref 1 0 out3.length 1), (16, .int .i64 (IntKind.wrap .i64 (i1 + 1)))] (by show ([0, 1, 7, 8, 12, 13, 14, 15, 16] : List Nat).Nodup; decide) (by show ([0, 1] : List Nat).Nodup; decide) ?_ ?_ (fun t0 => ⟨_, Nat.lt_succ_self _, meet3, out3, (IntKind.wrap .i64 (i1 + 1)), t0, H, rfl⟩)
                  · exact (allB_some (by rfl) rfl (.same _ _ (ci_pu .i64) (by first | rfl | (simp only [List.map_append, List.map_cons, List.map_nil, List.map_set, List.map_take, List.map_drop, List.map_replicate, List.append_assoc, List.nil_append, List.append_nil, ci_eq, cb_eq, cs_eq, cl_eq, CS,  List.nil_append]; done) | (simp [CS,  ci_eq, cb_eq, cs_eq, cl_eq]; done))) (allB_some (by rfl) rfl (.same _ _ (ci_pu .i64) (by first | rfl | (simp only [List.map_append, List.map_cons, List.map_nil, List.map_set, List.map_take, List.map_drop, List.map_replicate, List.append_assoc, List.nil_append, List.append_nil, ci_eq, cb_eq, cs_eq, cl_eq, CS,  List.nil_append]; done) | (simp [CS,  ci_eq, cb_eq, cs_eq, cl_eq]; done))) trivial))
                  · (simp only [AllT, tl_cons, tl_nil, upd_apply, List.getD_cons_zero, List.getD_cons_succ, Nat.reduceEqDiff, ↓reduceIte, and_true]); exact ⟨(.lst _ _ _ (ci_pu .i64) rfl), (.lst _ _ _ (ci_pu .i64) rfl), (.bool' rfl), (.refl' (by first | rfl | omega | (simp; done) | (simp_all; done)) rfl), (.bool' rfl), (.bool' rfl), (.bool' rfl), (.refl' (by first | rfl | omega | (simp; done) | (simp_all; done)) rfl), (.int' rfl)⟩
              · have H := cond_f zc10 H
                refine a_exit ?_
                refine sA_e ?_
                refine lA_e ?_
                refine bA_hit ?_
                refine cA_n ?_
                refine wk_l [(some 0, ⟨3, 1, false, peers1.map (ci .i64)⟩), (some 1, ⟨3, 1, false, out2.map (ci .i64)⟩)] [] [(0, .list 1 (a1.map (ci .i64))), (1, .list 1 (b1.map (ci .i64))), (7, .bool r1), (8, .ref 0 0 peers1.length 1), (12, .bool r2), (13, .bool r3), (14, .bool meet2), (15, .ref 1 0 out2.length 1)] (by show ([0, 1, 7, 8, 12, 13, 14, 15] : List Nat).Nodup; decide) (by show ([0, 1] : List Nat).Nodup; decide) ?_ ?_ (fun t0 => ⟨meet2, out2, t0, H, rfl⟩)
                · exact (allB_some (by rfl) rfl (.same _ _ (ci_pu .i64) (by first | rfl | (simp only [List.map_append, List.map_cons, List.map_nil, List.map_set, List.map_take, List.map_drop, List.map_replicate, List.append_assoc, List.nil_append, List.append_nil, ci_eq, cb_eq, cs_eq, cl_eq, CS,  List.nil_append]; done) | (simp [CS,  ci_eq, cb_eq, cs_eq, cl_eq]; done))) (allB_some (by rfl) rfl (.same _ _ (ci_pu .i64) (by first | rfl | (simp only [List.map_append, List.map_cons, List.map_nil, List.map_set, List.map_take, List.map_drop, List.map_replicate, List.append_assoc, List.nil_append, List.append_nil, ci_eq, cb_eq, cs_eq, cl_eq, CS,  List.nil_append]; done) | (simp [CS,  ci_eq, cb_eq, cs_eq, cl_eq]; done))) trivial))
                · (simp only [AllT, tl_cons, tl_nil, upd_apply, List.getD_cons_zero, List.getD_cons_succ, Nat.reduceEqDiff, ↓reduceIte, and_true]); exact ⟨(.lst _ _ _ (ci_pu .i64) rfl), (.lst _ _ _ (ci_pu .i64) rfl), (.bool' rfl), (.refl' (by first | rfl | omega | (simp; done) | (simp_all; done)) rfl), (.bool' rfl), (.bool' rfl), (.bool' rfl), (.refl' (by first | rfl | omega | (simp; done) | (simp_all; done)) rfl)⟩
        · rintro s ⟨meet1, out1, t0, H, rfl⟩
          unfold law14_VoteMeets_J3 at H
          refine a_seq ?_
          obtain ⟨zh4, H⟩ := chk_some H
          obtain ⟨zh5, H⟩ := chk_some H
          refine a_reg _ rfl (s := ?zs9) ?_ ?_
          rotate_left
          · simp (maxSteps := 2000000) only [EVT, stepR, evOp, St.ev, St.app, St.put, wrs, allOne, evBuiltin, evAppend, elems, Option.elim, TIS, CS, Nat.reduceAdd, Nat.reduceMul, Nat.reduceEqDiff, ↓reduceIte, reduceCtorEq, Nat.reduceLT, Nat.reduceLeDiff, Nat.reduceSub, Nat.reduceBEq]
            (repeat' apply And.intro) <;> first | rfl | assumption | omega | (simp; done) | (simp; omega) | (simp_all; done)
          refine sA_n ?_
          refine a_seq ?_
          refine a_cut (fun s => ∃ (v2 : Bool) (t0 : Nat → Dat), law14_VoteMeets_J4 r1 peers1 v2 = some r ∧ s = ⟨tl t0 [(7, .bool r1), (8, .ref 0 0 peers1.length 1), (136, .bool v2)], hl [⟨3, 1, false, peers1.map (ci .i64)⟩], 1, 147⟩) ?_ ?_
          · refine bool_split (b := r2) (fun zc4 => ?_) (fun zc4 => ?_)
            · have H := cond_t zc4 H
              refine bool_split (b := r3) (fun zc5 => ?_) (fun zc5 => ?_)
              · have H := cond_t zc5 H
                refine bool_split (b := (!meet1)) (fun zc6 => ?_) (fun zc6 => ?_)
                · have H := cond_t zc6 H
                  refine a_reg _ rfl (s := ?zs13) ?_ ?_
                  rotate_left
                  · simp (maxSteps := 2000000) only [EVT, stepR, evOp, St.ev, St.app, St.put, wrs, datOf, datOf1, evUn, frz, TIS, CS, Nat.reduceAdd, Nat.reduceMul, Nat.reduceEqDiff, ↓reduceIte, reduceCtorEq, Nat.reduceLT, Nat.reduceLeDiff, Array.reduceGetElem?, Nat.reduceSub, Nat.reduceBEq, ↓zc4, ↓zc5, ↓zc6]
                    try simp (maxSteps := 2000000) only [EVT, stepR, evOp, St.ev, St.app, St.put, wrs, datOf, datOf1, evUn, frz, TIS, CS, Nat.reduceAdd, Nat.reduceMul, Nat.reduceEqDiff, ↓reduceIte, reduceCtorEq, Nat.reduceLT, Nat.reduceLeDiff, Array.reduceGetElem?, Nat.reduceSub, Nat.reduceBEq, ↓zc4, ↓zc5, ↓zc6]
                    (repeat' apply And.intro) <;> first | rfl | assumption | omega | (simp; done) | (simp; omega) | (simp_all; done)
                  refine cA_n ?_
                  refine wk_l [(some 0, ⟨3, 1, false, peers1.map (ci .i64)⟩)] [] [(7, .bool r1), (8, .ref 0 0 peers1.length 1), (136, .bool true)] (by show ([7, 8, 136] : List Nat).Nodup; decide) (by show ([0] : List Nat).Nodup; decide) ?_ ?_ (fun t0 => ⟨true, t0, H, rfl⟩)
                  · exact (allB_some (by rfl) rfl (.same _ _ (ci_pu .i64) (by first | rfl | (simp only [List.map_append, List.map_cons, List.map_nil, List.map_set, List.map_take, List.map_drop, List.map_replicate, List.append_assoc, List.nil_append, List.append_nil, ci_eq, cb_eq, cs_eq, cl_eq, CS,  List.nil_append]; done) | (simp [CS,  ci_eq, cb_eq, cs_eq, cl_eq]; done))) trivial)
                  · (simp only [AllT, tl_cons, tl_nil, upd_apply, List.getD_cons_zero, List.getD_cons_succ, Nat.reduceEqDiff, ↓reduceIte, and_true]); exact ⟨(.bool' rfl), (.refl' (by first | rfl | omega | (simp; done) | (simp_all; done)) rfl), (.bool' (by first | rfl | assumption | (simp_all; done)))⟩
                · have H := cond_f zc6 H
                  obtain ⟨r5, zh7, H⟩ := bind_some H
                  have zk5 := vote_Won_pc zh7
                  refine bool_split (b := r5) (fun zc7 => ?_) (fun zc7 => ?_)
                  · have H := cond_t zc7 H
                    refine a_reg _ rfl (s := ?zs14) ?_ ?_
                    rotate_left
                    · try simp (maxSteps := 2000000) only [EVT, stepR, evOp, St.ev, St.app, St.put, wrs, datOf, datOf1, evUn, frz, TIS, CS, Nat.reduceAdd, Nat.reduceMul, Nat.reduceEqDiff, ↓reduceIte, reduceCtorEq, Nat.reduceLT, Nat.reduceLeDiff, Array.reduceGetElem?, Nat.reduceSub, Nat.reduceBEq, ↓zc4, ↓zc5, ↓zc6, ↓zc7]
                      repeat' with_reducible apply And.intro
                      all_goals try ((with_reducible show CallR _ _ _ _ _ _ _); refine cR_s zk5 (.cons (.ownL (by rfl) (fun e => by cases e) rfl (by first | rfl | omega | (simp; done) | (simp_all; done)) (.same _ _ (ci_pu .i64) (by first | rfl | (simp only [List.map_append, List.map_cons, List.map_nil, List.map_set, List.map_take, List.map_drop, List.map_replicate, List.append_assoc, List.nil_append, List.append_nil, ci_eq, cb_eq, cs_eq, cl_eq, CS,  List.nil_append]; done) | (simp [CS,  ci_eq, cb_eq, cs_eq, cl_eq]; done)))) (.cons (.ownL (by rfl) (fun e => by cases e) rfl (by first | rfl | omega | (simp; done) | (simp_all; done)) (.same _ _ (ci_pu .i64) (by first | rfl | (simp only [List.map_append, List.map_cons, List.map_nil, List.map_set, List.map_take, List.map_drop, List.map_replicate, List.append_assoc, List.nil_append, List.append_nil, ci_eq, cb_eq, cs_eq, cl_eq, CS,  List.nil_append]; done) | (simp [CS,  ci_eq, cb_eq, cs_eq, cl_eq]; done)))) .nil)) (.bool _) ?_; simp (maxSteps := 2000000) only [EVT, stepR, evOp, St.ev, St.app, St.put, wrs, datOf, datOf1, evUn, frz, TIS, CS, Nat.reduceAdd, Nat.reduceMul, Nat.reduceEqDiff, ↓reduceIte, reduceCtorEq, Nat.reduceLT, Nat.reduceLeDiff, Array.reduceGetElem?, Nat.reduceSub, Nat.reduceBEq, ↓zc4, ↓zc5, ↓zc6, ↓zc7])
                      all_goals ((repeat' apply And.intro) <;> first | rfl | assumption | omega | (simp; done) | (simp; omega) | (simp_all; done))
                    refine cA_n ?_
                    refine wk_l [(some 0, ⟨3, 1, false, peers1.map (ci .i64)⟩)] [] [(7, .bool r1), (8, .ref 0 0 peers1.length 1), (136, .bool true)] (by show ([7, 8, 136] : List Nat).Nodup; decide) (by show ([0] : List Nat).Nodup; decide) ?_ ?_ (fun t0 => ⟨true, t0, H, rfl⟩)
                    · exact (allB_some (by rfl) rfl (.same _ _ (ci_pu .i64) (by first | rfl | (simp only [List.map_append, List.map_cons, List.map_nil, List.map_set, List.map_take, List.map_drop, List.map_replicate, List.append_assoc, List.nil_append, List.append_nil, ci_eq, cb_eq, cs_eq, cl_eq, CS,  List.nil_append]; done) | (simp [CS,  ci_eq, cb_eq, cs_eq, cl_eq]; done))) trivial)
                    · (simp only [AllT, tl_cons, tl_nil, upd_apply, List.getD_cons_zero, List.getD_cons_succ, Nat.reduceEqDiff, ↓reduceIte, and_true]); exact ⟨(.bool' rfl), (.refl' (by first | rfl | omega | (simp; done) | (simp_all; done)) rfl), (.bool' (by first | rfl | assumption | (simp_all; done)))⟩
                  · have H := cond_f zc7 H
                    obtain ⟨r6, zh8, H⟩ := bind_some H
                    have zk6 := vote_Won_pc zh8
                    refine a_reg _ rfl (s := ?zs15) ?_ ?_
                    rotate_left
                    · try simp (maxSteps := 2000000) only [EVT, stepR, evOp, St.ev, St.app, St.put, wrs, datOf, datOf1, evUn, frz, TIS, CS, Nat.reduceAdd, Nat.reduceMul, Nat.reduceEqDiff, ↓reduceIte, reduceCtorEq, Nat.reduceLT, Nat.reduceLeDiff, Array.reduceGetElem?, Nat.reduceSub, Nat.reduceBEq, ↓zc4, ↓zc5, ↓zc6, ↓zc7]
                      repeat' with_reducible apply And.intro
                      all_goals try ((with_reducible show CallR _ _ _ _ _ _ _); refine cR_s zk5 (.cons (.ownL (by rfl) (fun e => by cases e) rfl (by first | rfl | omega | (simp; done) | (simp_all; done)) (.same _ _ (ci_pu .i64) (by first | rfl | (simp only [List.map_append, List.map_cons, List.map_nil, List.map_set, List.map_take, List.map_drop, List.map_replicate, List.append_assoc, List.nil_append, List.append_nil, ci_eq, cb_eq, cs_eq, cl_eq, CS,  List.nil_append]; done) | (simp [CS,  ci_eq, cb_eq, cs_eq, cl_eq]; done)))) (.cons (.ownL (by rfl) (fun e => by cases e) rfl (by first | rfl | omega | (simp; done) | (simp_all; done)) (.same _ _ (ci_pu .i64) (by first | rfl | (simp only [List.map_append, List.map_cons, List.map_nil, List.map_set, List.map_take, List.map_drop, List.map_replicate, List.append_assoc, List.nil_append, List.append_nil, ci_eq, cb_eq, cs_eq, cl_eq, CS,  List.nil_append]; done) | (simp [CS,  ci_eq, cb_eq, cs_eq, cl_eq]; done)))) .nil)) (.bool _) ?_; simp (maxSteps := 2000000) only [EVT, stepR, evOp, St.ev, St.app, St.put, wrs, datOf, datOf1, evUn, frz, TIS, CS, Nat.reduceAdd, Nat.reduceMul, Nat.reduceEqDiff, ↓reduceIte, reduceCtorEq, Nat.reduceLT, Nat.reduceLeDiff, Array.reduceGetElem?, Nat.reduceSub, Nat.reduceBEq, ↓zc4, ↓zc5, ↓zc6, ↓zc7])
                      repeat' with_reducible apply And.intro
                      all_goals try ((with_reducible show CallR _ _ _ _ _ _ _); refine cR_s zk6 (.cons (.ownL (by rfl) (fun e => by cases e) rfl (by first | rfl | omega | (simp; done) | (simp_all; done)) (.same _ _ (ci_pu .i64) (by first | rfl | (simp only [List.map_append, List.map_cons, List.map_nil, List.map_set, List.map_take, List.map_drop, List.map_replicate, List.append_assoc, List.nil_append, List.append_nil, ci_eq, cb_eq, cs_eq, cl_eq, CS,  List.nil_append]; done) | (simp [CS,  ci_eq, cb_eq, cs_eq, cl_eq]; done)))) (.cons (.ownL (by rfl) (fun e => by cases e) rfl (by first | rfl | omega | (simp; done) | (simp_all; done)) (.same _ _ (ci_pu .i64) (by first | rfl | (simp only [List.map_append, List.map_cons, List.map_nil, List.map_set, List.map_take, List.map_drop, List.map_replicate, List.append_assoc, List.nil_append, List.append_nil, ci_eq, cb_eq, cs_eq, cl_eq, CS,  List.nil_append]; done) | (simp [CS,  ci_eq, cb_eq, cs_eq, cl_eq]; done)))) .nil)) (.bool _) ?_; simp (maxSteps := 2000000) only [EVT, stepR, evOp, St.ev, St.app, St.put, wrs, datOf, datOf1, evUn, frz, TIS, CS, Nat.reduceAdd, Nat.reduceMul, Nat.reduceEqDiff, ↓reduceIte, reduceCtorEq, Nat.reduceLT, Nat.reduceLeDiff, Array.reduceGetElem?, Nat.reduceSub, Nat.reduceBEq, ↓zc4, ↓zc5, ↓zc6, ↓zc7])
                      all_goals ((repeat' apply And.intro) <;> first | rfl | assumption | omega | (simp; done) | (simp; omega) | (simp_all; done))
                    refine cA_n ?_
                    refine wk_l [(some 0, ⟨3, 1, false, peers1.map (ci .i64)⟩)] [] [(7, .bool r1), (8, .ref 0 0 peers1.length 1), (136, .bool (!r6))] (by show ([7, 8, 136] : List Nat).Nodup; decide) (by show ([0] : List Nat).Nodup; decide) ?_ ?_ (fun t0 => ⟨(!r6), t0, H, rfl⟩)
                    · exact (allB_some (by rfl) rfl (.same _ _ (ci_pu .i64) (by first | rfl | (simp only [List.map_append, List.map_cons, List.map_nil, List.map_set, List.map_take, List.map_drop, List.map_replicate, List.append_assoc, List.nil_append, List.append_nil, ci_eq, cb_eq, cs_eq, cl_eq, CS,  List.nil_append]; done) | (simp [CS,  ci_eq, cb_eq, cs_eq, cl_eq]; done))) trivial)
                    · (simp only [AllT, tl_cons, tl_nil, upd_apply, List.getD_cons_zero, List.getD_cons_succ, Nat.reduceEqDiff, ↓reduceIte, and_true]); exact ⟨(.bool' rfl), (.refl' (by first | rfl | omega | (simp; done) | (simp_all; done)) rfl), (.bool' rfl)⟩
              · have H := cond_f zc5 H
                obtain ⟨r7, zh9, H⟩ := bind_some H
                have zk7 := vote_Won_pc zh9
                refine bool_split (b := r7) (fun zc8 => ?_) (fun zc8 => ?_)
                · have H := cond_t zc8 H
                  refine a_reg _ rfl (s := ?zs16) ?_ ?_
                  rotate_left
                  · try simp (maxSteps := 2000000) only [EVT, stepR, evOp, St.ev, St.app, St.put, wrs, datOf, datOf1, evUn, frz, TIS, CS, Nat.reduceAdd, Nat.reduceMul, Nat.reduceEqDiff, ↓reduceIte, reduceCtorEq, Nat.reduceLT, Nat.reduceLeDiff, Array.reduceGetElem?, Nat.reduceSub, Nat.reduceBEq, ↓zc4, ↓zc5, ↓zc8]
                    repeat' with_reducible apply And.intro
                    all_goals try ((with_reducible show CallR _ _ _ _ _ _ _); refine cR_s zk7 (.cons (.ownL (by rfl) (fun e => by cases e) rfl (by first | rfl | omega | (simp; done) | (simp_all; done)) (.same _ _ (ci_pu .i64) (by first | rfl | (simp only [List.map_append, List.map_cons, List.map_nil, List.map_set, List.map_take, List.map_drop, List.map_replicate, List.append_assoc, List.nil_append, List.append_nil, ci_eq, cb_eq, cs_eq, cl_eq, CS,  List.nil_append]; done) | (simp [CS,  ci_eq, cb_eq, cs_eq, cl_eq]; done)))) (.cons (.ownL (by rfl) (fun e => by cases e) rfl (by first | rfl | omega | (simp; done) | (simp_all; done)) (.same _ _ (ci_pu .i64) (by first | rfl | (simp only [List.map_append, List.map_cons, List.map_nil, List.map_set, List.map_take, List.map_drop, List.map_replicate, List.append_assoc, List.nil_append, List.append_nil, ci_eq, cb_eq, cs_eq, cl_eq, CS,  List.nil_append]; done) | (simp [CS,  ci_eq, cb_eq, cs_eq, cl_eq]; done)))) .nil)) (.bool _) ?_; simp (maxSteps := 2000000) only [EVT, stepR, evOp, St.ev, St.app, St.put, wrs, datOf, datOf1, evUn, frz, TIS, CS, Nat.reduceAdd, Nat.reduceMul, Nat.reduceEqDiff, ↓reduceIte, reduceCtorEq, Nat.reduceLT, Nat.reduceLeDiff, Array.reduceGetElem?, Nat.reduceSub, Nat.reduceBEq, ↓zc4, ↓zc5, ↓zc8])
                    all_goals ((repeat' apply And.intro) <;> first | rfl | assumption | omega | (simp; done) | (simp; omega) | (simp_all; done))
                  refine cA_n ?_
                  refine wk_l [(some 0, ⟨3, 1, false, peers1.map (ci .i64)⟩)] [] [(7, .bool r1), (8, .ref 0 0 peers1.length 1), (136, .bool true)] (by show ([7, 8, 136] : List Nat).Nodup; decide) (by show ([0] : List Nat).Nodup; decide) ?_ ?_ (fun t0 => ⟨true, t0, H, rfl⟩)
                  · exact (allB_some (by rfl) rfl (.same _ _ (ci_pu .i64) (by first | rfl | (simp only [List.map_append, List.map_cons, List.map_nil, List.map_set, List.map_take, List.map_drop, List.map_replicate, List.append_assoc, List.nil_append, List.append_nil, ci_eq, cb_eq, cs_eq, cl_eq, CS,  List.nil_append]; done) | (simp [CS,  ci_eq, cb_eq, cs_eq, cl_eq]; done))) trivial)
                  · (simp only [AllT, tl_cons, tl_nil, upd_apply, List.getD_cons_zero, List.getD_cons_succ, Nat.reduceEqDiff, ↓reduceIte, and_true]); exact ⟨(.bool' rfl), (.refl' (by first | rfl | omega | (simp; done) | (simp_all; done)) rfl), (.bool' (by first | rfl | assumption | (simp_all; done)))⟩
                · have H := cond_f zc8 H
                  obtain ⟨r8, zh10, H⟩ := bind_some H
                  have zk8 := vote_Won_pc zh10
                  refine a_reg _ rfl (s := ?zs17) ?_ ?_
                  rotate_left
                  · try simp (maxSteps := 2000000) only [EVT, stepR, evOp, St.ev, St.app, St.put, wrs, datOf, datOf1, evUn, frz, TIS, CS, Nat.reduceAdd, Nat.reduceMul, Nat.reduceEqDiff, ↓reduceIte, reduceCtorEq, Nat.reduceLT, Nat.reduceLeDiff, Array.reduceGetElem?, Nat.reduceSub, Nat.reduceBEq, ↓zc4, ↓zc5, ↓zc8]
                    repeat' with_reducible apply And.intro
                    all_goals try ((with_reducible show CallR _ _ _ _ _ _ _); refine cR_s zk7 (.cons (.ownL (by rfl) (fun e => by cases e) rfl (by first | rfl | omega | (simp; done) | (simp_all; done)) (.same _ _ (ci_pu .i64) (by first | rfl | (simp only [List.map_append, List.map_cons, List.map_nil, List.map_set, List.map_take, List.map_drop, List.map_replicate, List.append_assoc, List.nil_append, List.append_nil, ci_eq, cb_eq, cs_eq, cl_eq, CS,  List.nil_append]; done) | (simp [CS,  ci_eq, cb_eq, cs_eq, cl_eq]; done)))) (.cons (.ownL (by rfl) (fun e => by cases e) rfl (by first | rfl | omega | (simp; done) | (simp_all; done)) (.same _ _ (ci_pu .i64) (by first | rfl | (simp only [List.map_append, List.map_cons, List.map_nil, List.map_set, List.map_take, List.map_drop, List.map_replicate, List.append_assoc, List.nil_append, List.append_nil, ci_eq, cb_eq, cs_eq, cl_eq, CS,  List.nil_append]; done) | (simp [CS,  ci_eq, cb_eq, cs_eq, cl_eq]; done)))) .nil)) (.bool _) ?_; simp (maxSteps := 2000000) only [EVT, stepR, evOp, St.ev, St.app, St.put, wrs, datOf, datOf1, evUn, frz, TIS, CS, Nat.reduceAdd, Nat.reduceMul, Nat.reduceEqDiff, ↓reduceIte, reduceCtorEq, Nat.reduceLT, Nat.reduceLeDiff, Array.reduceGetElem?, Nat.reduceSub, Nat.reduceBEq, ↓zc4, ↓zc5, ↓zc8])
                    repeat' with_reducible apply And.intro
                    all_goals try ((with_reducible show CallR _ _ _ _ _ _ _); refine cR_s zk8 (.cons (.ownL (by rfl) (fun e => by cases e) rfl (by first | rfl | omega | (simp; done) | (simp_all; done)) (.same _ _ (ci_pu .i64) (by first | rfl | (simp only [List.map_append, List.map_cons, List.map_nil, List.map_set, List.map_take, List.map_drop, List.map_replicate, List.append_assoc, List.nil_append, List.append_nil, ci_eq, cb_eq, cs_eq, cl_eq, CS,  List.nil_append]; done) | (simp [CS,  ci_eq, cb_eq, cs_eq, cl_eq]; done)))) (.cons (.ownL (by rfl) (fun e => by cases e) rfl (by first | rfl | omega | (simp; done) | (simp_all; done)) (.same _ _ (ci_pu .i64) (by first | rfl | (simp only [List.map_append, List.map_cons, List.map_nil, List.map_set, List.map_take, List.map_drop, List.map_replicate, List.append_assoc, List.nil_append, List.append_nil, ci_eq, cb_eq, cs_eq, cl_eq, CS,  List.nil_append]; done) | (simp [CS,  ci_eq, cb_eq, cs_eq, cl_eq]; done)))) .nil)) (.bool _) ?_; simp (maxSteps := 2000000) only [EVT, stepR, evOp, St.ev, St.app, St.put, wrs, datOf, datOf1, evUn, frz, TIS, CS, Nat.reduceAdd, Nat.reduceMul, Nat.reduceEqDiff, ↓reduceIte, reduceCtorEq, Nat.reduceLT, Nat.reduceLeDiff, Array.reduceGetElem?, Nat.reduceSub, Nat.reduceBEq, ↓zc4, ↓zc5, ↓zc8])
                    all_goals ((repeat' apply And.intro) <;> first | rfl | assumption | omega | (simp; done) | (simp; omega) | (simp_all; done))
                  refine cA_n ?_
                  refine wk_l [(some 0, ⟨3, 1, false, peers1.map (ci .i64)⟩)] [] [(7, .bool r1), (8, .ref 0 0 peers1.length 1), (136, .bool (!r8))] (by show ([7, 8, 136] : List Nat).Nodup; decide) (by show ([0] : List Nat).Nodup; decide) ?_ ?_ (fun t0 => ⟨(!r8), t0, H, rfl⟩)
                  · exact (allB_some (by rfl) rfl (.same _ _ (ci_pu .i64) (by first | rfl | (simp only [List.map_append, List.map_cons, List.map_nil, List.map_set, List.map_take, List.map_drop, List.map_replicate, List.append_assoc, List.nil_append, List.append_nil, ci_eq, cb_eq, cs_eq, cl_eq, CS,  List.nil_append]; done) | (simp [CS,  ci_eq, cb_eq, cs_eq, cl_eq]; done))) trivial)
                  · (simp only [AllT, tl_cons, tl_nil, upd_apply, List.getD_cons_zero, List.getD_cons_succ, Nat.reduceEqDiff, ↓reduceIte, and_true]); exact ⟨(.bool' rfl), (.refl' (by first | rfl | omega | (simp; done) | (simp_all; done)) rfl), (.bool' rfl)⟩
            · have H := cond_f zc4 H
              refine bool_split (b := r3) (fun zc9 => ?_) (fun zc9 => ?_)
              · have H := cond_t zc9 H
                obtain ⟨r9, zh11, H⟩ := bind_some H
                have zk9 := vote_Won_pc zh11
                refine a_reg _ rfl (s := ?zs18) ?_ ?_
                rotate_left
                · try simp (maxSteps := 2000000) only [EVT, stepR, evOp, St.ev, St.app, St.put, wrs, datOf, datOf1, evUn, frz, TIS, CS, Nat.reduceAdd, Nat.reduceMul, Nat.reduceEqDiff, ↓reduceIte, reduceCtorEq, Nat.reduceLT, Nat.reduceLeDiff, Array.reduceGetElem?, Nat.reduceSub, Nat.reduceBEq, ↓zc4, ↓zc9]
                  repeat' with_reducible apply And.intro
                  all_goals try ((with_reducible show CallR _ _ _ _ _ _ _); refine cR_s zk9 (.cons (.ownL (by rfl) (fun e => by cases e) rfl (by first | rfl | omega | (simp; done) | (simp_all; done)) (.same _ _ (ci_pu .i64) (by first | rfl | (simp only [List.map_append, List.map_cons, List.map_nil, List.map_set, List.map_take, List.map_drop, List.map_replicate, List.append_assoc, List.nil_append, List.append_nil, ci_eq, cb_eq, cs_eq, cl_eq, CS,  List.nil_append]; done) | (simp [CS,  ci_eq, cb_eq, cs_eq, cl_eq]; done)))) (.cons (.ownL (by rfl) (fun e => by cases e) rfl (by first | rfl | omega | (simp; done) | (simp_all; done)) (.same _ _ (ci_pu .i64) (by first | rfl | (simp only [List.map_append, List.map_cons, List.map_nil, List.map_set, List.map_take, List.map_drop, List.map_replicate, List.append_assoc, List.nil_append, List.append_nil, ci_eq, cb_eq, cs_eq, cl_eq, CS,  List.nil_append]; done) | (simp [CS,  ci_eq, cb_eq, cs_eq, cl_eq]; done)))) .nil)) (.bool _) ?_; simp (maxSteps := 2000000) only [EVT, stepR, evOp, St.ev, St.app, St.put, wrs, datOf, datOf1, evUn, frz, TIS, CS, Nat.reduceAdd, Nat.reduceMul, Nat.reduceEqDiff, ↓reduceIte, reduceCtorEq, Nat.reduceLT, Nat.reduceLeDiff, Array.reduceGetElem?, Nat.reduceSub, Nat.reduceBEq, ↓zc4, ↓zc9])
                  all_goals ((repeat' apply And.intro) <;> first | rfl | assumption | omega | (simp; done) | (simp; omega) | (simp_all; done))
                refine cA_n ?_
                refine wk_l [(some 0, ⟨3, 1, false, peers1.map (ci .i64)⟩)] [] [(7, .bool r1), (8, .ref 0 0 peers1.length 1), (136, .bool (!r9))] (by show ([7, 8, 136] : List Nat).Nodup; decide) (by show ([0] : List Nat).Nodup; decide) ?_ ?_ (fun t0 => ⟨(!r9), t0, H, rfl⟩)
                · exact (allB_some (by rfl) rfl (.same _ _ (ci_pu .i64) (by first | rfl | (simp only [List.map_append, List.map_cons, List.map_nil, List.map_set, List.map_take, List.map_drop, List.map_replicate, List.append_assoc, List.nil_append, List.append_nil, ci_eq, cb_eq, cs_eq, cl_eq, CS,  List.nil_append]; done) | (simp [CS,  ci_eq, cb_eq, cs_eq, cl_eq]; done))) trivial)
                · (simp only [AllT, tl_cons, tl_nil, upd_apply, List.getD_cons_zero, List.getD_cons_succ, Nat.reduceEqDiff, ↓reduceIte, and_true]); exact ⟨(.bool' rfl), (.refl' (by first | rfl | omega | (simp; done) | (simp_all; done)) rfl), (.bool' rfl)⟩
              · have H := cond_f zc9 H
                refine a_reg _ rfl (s := ?zs19) ?_ ?_
                rotate_left
                · simp (maxSteps := 2000000) only [EVT, stepR, evOp, St.ev, St.app, St.put, wrs, datOf, datOf1, evUn, frz, TIS, CS, Nat.reduceAdd, Nat.reduceMul, Nat.reduceEqDiff, ↓reduceIte, reduceCtorEq, Nat.reduceLT, Nat.reduceLeDiff, Array.reduceGetElem?, Nat.reduceSub, Nat.reduceBEq, ↓zc4, ↓zc9]
                  try simp (maxSteps := 2000000) only [EVT, stepR, evOp, St.ev, St.app, St.put, wrs, datOf, datOf1, evUn, frz, TIS, CS, Nat.reduceAdd, Nat.reduceMul, Nat.reduceEqDiff, ↓reduceIte, reduceCtorEq, Nat.reduceLT, Nat.reduceLeDiff, Array.reduceGetElem?, Nat.reduceSub, Nat.reduceBEq, ↓zc4, ↓zc9]
                  (repeat' apply And.intro) <;> first | rfl | assumption | omega | (simp; done) | (simp; omega) | (simp_all; done)
                refine cA_n ?_
                refine wk_l [(some 0, ⟨3, 1, false, peers1.map (ci .i64)⟩)] [] [(7, .bool r1), (8, .ref 0 0 peers1.length 1), (136, .bool false)] (by show ([7, 8, 136] : List Nat).Nodup; decide) (by show ([0] : List Nat).Nodup; decide) ?_ ?_ (fun t0 => ⟨false, t0, H, rfl⟩)
                · exact (allB_some (by rfl) rfl (.same _ _ (ci_pu .i64) (by first | rfl | (simp only [List.map_append, List.map_cons, List.map_nil, List.map_set, List.map_take, List.map_drop, List.map_replicate, List.append_assoc, List.nil_append, List.append_nil, ci_eq, cb_eq, cs_eq, cl_eq, CS,  List.nil_append]; done) | (simp [CS,  ci_eq, cb_eq, cs_eq, cl_eq]; done))) trivial)
                · (simp only [AllT, tl_cons, tl_nil, upd_apply, List.getD_cons_zero, List.getD_cons_succ, Nat.reduceEqDiff, ↓reduceIte, and_true]); exact ⟨(.bool' rfl), (.refl' (by first | rfl | omega | (simp; done) | (simp_all; done)) rfl), (.bool' (by first | rfl | assumption | (simp_all; done)))⟩
          · rintro s ⟨v2, t0, H, rfl⟩
            unfold law14_VoteMeets_J4 at H
            refine a_condb (v2) (by rfl) (fun zc2 => ?_) (fun zc2 => ?_)
            · have H := cond_t zc2 H
              refine a_seq ?_
              refine a_reg _ rfl (s := ?zs10) ?_ ?_
              rotate_left
              · simp (maxSteps := 2000000) only [EVT, stepR, evOp, St.ev, St.app, St.put, wrs, datOf, datOf1, TIS, CS, Nat.reduceAdd, Nat.reduceMul, Nat.reduceEqDiff, ↓reduceIte, reduceCtorEq, Nat.reduceLT, Nat.reduceLeDiff, ↓zc2]
                (repeat' apply And.intro) <;> first | rfl | assumption | omega | (simp; done) | (simp; omega) | (simp_all; done)
              refine sA_n ?_
              refine a_ret ?_
              refine sA_r ?_
              obtain rfl := Option.some.inj H
              refine e_r2 (d := ?zd2) ?_ ?_
              rotate_left
              · simp only [EVT, resR, single, evLoad, cut, TIS, CS, Nat.reduceAdd, Nat.reduceEqDiff, ↓reduceIte, reduceCtorEq, Nat.reduceLT, Nat.reduceLeDiff, Nat.reduceSub, Nat.reduceBEq, zc2]
                (repeat' apply And.intro) <;> first | rfl | assumption | omega | (simp; done)
              exact (.bool' (by first | rfl | assumption | (simp_all; done)))
            · have H := cond_f zc2 H
              refine a_skip ?_
              refine sA_n ?_
              refine a_seq ?_
              refine bool_split (b := r1) (fun zc3 => ?_) (fun zc3 => ?_)
              · have H := cond_t zc3 H
                obtain ⟨r4, zh6, H⟩ := bind_some H
                have zk4 := vote_Won_pc zh6
                refine a_reg _ rfl (s := ?zs11) ?_ ?_
                rotate_left
                · try simp (maxSteps := 2000000) only [EVT, stepR, evOp, St.ev, St.app, St.put, wrs, frz, evBuiltin, datOf, datOf1, evBin, binInt, TIS, CS, Nat.reduceAdd, Nat.reduceMul, Nat.reduceEqDiff, ↓reduceIte, reduceCtorEq, Nat.reduceLT, Nat.reduceLeDiff, Array.reduceGetElem?, Nat.reduceSub, Nat.reduceBEq, ↓zc2, ↓zc3]
                  repeat' with_reducible apply And.intro
                  all_goals try ((with_reducible show CallR _ _ _ _ _ _ _); refine cR_s zk4 (.cons (.ownL (by rfl) (fun e => by cases e) rfl (by first | rfl | omega | (simp; done) | (simp_all; done)) (.same _ _ (ci_pu .i64) (by first | rfl | (simp only [List.map_append, List.map_cons, List.map_nil, List.map_set, List.map_take, List.map_drop, List.map_replicate, List.append_assoc, List.nil_append, List.append_nil, ci_eq, cb_eq, cs_eq, cl_eq, CS,  List.nil_append]; done) | (simp [CS,  ci_eq, cb_eq, cs_eq, cl_eq]; done)))) (.cons (.ownL (by rfl) (fun e => by cases e) rfl (by first | rfl | omega | (simp; done) | (simp_all; done)) (.same _ _ (ci_pu .i64) (by first | rfl | (simp only [List.map_append, List.map_cons, List.map_nil, List.map_set, List.map_take, List.map_drop, List.map_replicate, List.append_assoc, List.nil_append, List.append_nil, ci_eq, cb_eq, cs_eq, cl_eq, CS,  List.nil_append]; done) | (simp [CS,  ci_eq, cb_eq, cs_eq, cl_eq]; done)))) .nil)) (.bool _) ?_; simp (maxSteps := 2000000) only [EVT, stepR, evOp, St.ev, St.app, St.put, wrs, frz, evBuiltin, datOf, datOf1, evBin, binInt, TIS, CS, Nat.reduceAdd, Nat.reduceMul, Nat.reduceEqDiff, ↓reduceIte, reduceCtorEq, Nat.reduceLT, Nat.reduceLeDiff, Array.reduceGetElem?, Nat.reduceSub, Nat.reduceBEq, ↓zc2, ↓zc3])
                  all_goals ((repeat' apply And.intro) <;> first | rfl | assumption | omega | (simp; done) | (simp; omega) | (simp_all; done))
                refine sA_n ?_
                refine a_ret ?_
                obtain rfl := Option.some.inj H
                refine e_r2 (d := ?zd3) ?_ ?_
                rotate_left
                · simp only [EVT, resR, single, evLoad, cut, TIS, CS, Nat.reduceAdd, Nat.reduceEqDiff, ↓reduceIte, reduceCtorEq, Nat.reduceLT, Nat.reduceLeDiff, Nat.reduceSub, Nat.reduceBEq, zc2, zc3]
                  (repeat' apply And.intro) <;> first | rfl | assumption | omega | (simp; done)
                exact (.bool' rfl)
              · have H := cond_f zc3 H
                refine a_reg _ rfl (s := ?zs12) ?_ ?_
                rotate_left
                · simp (maxSteps := 2000000) only [EVT, stepR, evOp, St.ev, St.app, St.put, wrs, frz, evBuiltin, datOf, datOf1, evBin, binInt, TIS, CS, Nat.reduceAdd, Nat.reduceMul, Nat.reduceEqDiff, ↓reduceIte, reduceCtorEq, Nat.reduceLT, Nat.reduceLeDiff, Array.reduceGetElem?, Nat.reduceSub, Nat.reduceBEq, ↓zc2, ↓zc3]
                  try simp (maxSteps := 2000000) only [EVT, stepR, evOp, St.ev, St.app, St.put, wrs, frz, evBuiltin, datOf, datOf1, evBin, binInt, TIS, CS, Nat.reduceAdd, Nat.reduceMul, Nat.reduceEqDiff, ↓reduceIte, reduceCtorEq, Nat.reduceLT, Nat.reduceLeDiff, Array.reduceGetElem?, Nat.reduceSub, Nat.reduceBEq, ↓zc2, ↓zc3]
                  (repeat' apply And.intro) <;> first | rfl | assumption | omega | (simp; done) | (simp; omega) | (simp_all; done)
                refine sA_n ?_
                refine a_ret ?_
                obtain rfl := Option.some.inj H
                refine e_r2 (d := ?zd4) ?_ ?_
                rotate_left
                · simp only [EVT, resR, single, evLoad, cut, TIS, CS, Nat.reduceAdd, Nat.reduceEqDiff, ↓reduceIte, reduceCtorEq, Nat.reduceLT, Nat.reduceLeDiff, Nat.reduceSub, Nat.reduceBEq, zc2, zc3]
                  (repeat' apply And.intro) <;> first | rfl | assumption | omega | (simp; done)
                exact (.bool' (by first | rfl | assumption | (simp_all; done)))
end
end Go.Proofs.Ytecdonbjabjaeaa
