/- Functions of the program as Lean functions, and that they are so; printed by a program of mine. -/
import Derived.Test.YtecdonbjabjaeaaF3
import Derived.Test.YtecdonbjabjaeaaF6
set_option linter.unusedSimpArgs false
set_option linter.unusedVariables false
namespace Go.Proofs.Ytecdonbjabjaeaa
open Go.Ab
noncomputable section

def law14_VoteWinner_J3 (r1 : Bool) : Option Bool :=
  some (r1)
def law14_VoteWinner_J4 (k_law14_VoteWinner_L1 : (List Seat) → (List Seat) → Int → Option Bool) (i1 : Int) (seats2 : List Seat) (won2 : List Seat) : Option Bool :=
  k_law14_VoteWinner_L1 seats2 won2 (IntKind.wrap .i64 (i1 + 1))
def law14_VoteWinner_J7 (k_law14_VoteWinner_L1 : (List Seat) → (List Seat) → Int → Option Bool) (won1 : List Seat) (i1 : Int) (seats3 : List Seat) (x3 : Seat) (votes1 : List Int) : Option Bool :=
  chk ((won1.length + 1) * 160 ≤ 140737488355328) (law14_VoteWinner_J4 k_law14_VoteWinner_L1 i1 seats3 (won1 ++ [(⟨x3.id, x3.peers, x3.term, x3.voted, x3.role, x3.log, x3.commit, votes1, x3.next, x3.match_⟩ : Seat)]))
def law14_VoteWinner_J8 (k_law14_VoteWinner_L2 : Int → Option Bool) (k1 : Int) (v3 : Bool) : Option Bool :=
  cond v3 (some (false)) (k_law14_VoteWinner_L2 (IntKind.wrap .i64 (k1 + 1)))
def law14_VoteWinner_L2 (k_law14_VoteWinner_L1 : (List Seat) → (List Seat) → Int → Option Bool) (won1 : List Seat) (x3 : Seat) (i1 : Int) (seats3 : List Seat) (votes1 : List Int) : Nat → Int → Option Bool
  | 0, _ => none
  | m_ + 1, k1 => cond (decide (k1 < (((won1.length : Nat)) : Int))) ((idx won1 k1).bind fun x5 => law14_VoteWinner_J8 (law14_VoteWinner_L2 k_law14_VoteWinner_L1 won1 x3 i1 seats3 votes1 m_) k1 ((x5.term == x3.term) && (x5.id != x3.id))) (law14_VoteWinner_J7 k_law14_VoteWinner_L1 won1 i1 seats3 x3 votes1)
def law14_VoteWinner_J6 (k_law14_VoteWinner_L1 : (List Seat) → (List Seat) → Int → Option Bool) (x3 : Seat) (won1 : List Seat) (i1 : Int) (seats3 : List Seat) (votes1 : List Int) : Option Bool :=
  (vote_Won_f votes1 x3.peers).bind fun r6 => cond r6 (law14_VoteWinner_L2 k_law14_VoteWinner_L1 won1 x3 i1 seats3 votes1 BIG 0) (law14_VoteWinner_J4 k_law14_VoteWinner_L1 i1 seats3 won1)
def law14_VoteWinner_J5 (k_law14_VoteWinner_L1 : (List Seat) → (List Seat) → Int → Option Bool) (i1 : Int) (seats1 : List Seat) (won1 : List Seat) (x1 : Int) (r2 : (List Seat)) (x3 : Seat) (v2 : Bool) : Option Bool :=
  cond v2 (law14_VoteWinner_J4 k_law14_VoteWinner_L1 i1 seats1 won1) ((idx seats1 (Int.tmod (IntKind.wrap .i64 (Int.tdiv (IntKind.wrap .i64 x1) (((r2.length : Nat)) : Int))) (((r2.length : Nat)) : Int))).bind fun x4 => (law14_end_f x3.log).bind fun r4 => (vote_Ask_f x4 x3.term (Int.tmod (IntKind.wrap .i64 x1) (((r2.length : Nat)) : Int)) r4 (x3.log.length : Int)).bind fun r5 => cond r5.2 ((law14_end_f x3.log).bind fun r7 => (ref13_Newer_f r5.1.log r7 (x3.log.length : Int)).bind fun r8 => cond (!r8) (some (false)) (chk ((0 + x3.votes.length) * 8 ≤ 140737488355328) (chk (((0 + x3.votes.length) + 1) * 8 ≤ 140737488355328) ((idx (seats1.set ((Int.tmod (IntKind.wrap .i64 (Int.tdiv (IntKind.wrap .i64 x1) (((r2.length : Nat)) : Int))) (((r2.length : Nat)) : Int)).toNat) r5.1) (Int.tmod (IntKind.wrap .i64 x1) (((r2.length : Nat)) : Int))).bind fun x6 => law14_VoteWinner_J6 k_law14_VoteWinner_L1 x3 won1 i1 ((seats1.set ((Int.tmod (IntKind.wrap .i64 (Int.tdiv (IntKind.wrap .i64 x1) (((r2.length : Nat)) : Int))) (((r2.length : Nat)) : Int)).toNat) r5.1).set ((Int.tmod (IntKind.wrap .i64 x1) (((r2.length : Nat)) : Int)).toNat) (⟨x3.id, x3.peers, x3.term, x3.voted, x3.role, x3.log, x3.commit, ((([] : List Int) ++ x3.votes) ++ [(Int.tmod (IntKind.wrap .i64 (Int.tdiv (IntKind.wrap .i64 x1) (((r2.length : Nat)) : Int))) (((r2.length : Nat)) : Int))]), x3.next, x3.match_⟩ : Seat)) ((([] : List Int) ++ x3.votes) ++ [(Int.tmod (IntKind.wrap .i64 (Int.tdiv (IntKind.wrap .i64 x1) (((r2.length : Nat)) : Int))) (((r2.length : Nat)) : Int))]))))) (law14_VoteWinner_J6 k_law14_VoteWinner_L1 x3 won1 i1 (seats1.set ((Int.tmod (IntKind.wrap .i64 (Int.tdiv (IntKind.wrap .i64 x1) (((r2.length : Nat)) : Int))) (((r2.length : Nat)) : Int)).toNat) r5.1) x3.votes))
def law14_VoteWinner_L1 (acts1 : List Int) (r2 : (List Seat)) (r1 : Bool) : Nat → (List Seat) → (List Seat) → Int → Option Bool
  | 0, _, _, _ => none
  | m_ + 1, seats1, won1, i1 => cond (decide (i1 < (acts1.length : Int))) ((idx acts1 i1).bind fun x1 => chk ((((r2.length : Nat)) : Int) ≠ 0) (chk ((((r2.length : Nat)) : Int) ≠ 0) (chk ((((r2.length : Nat)) : Int) ≠ 0) (chk ((IntKind.wrap .i64 ((((r2.length : Nat)) : Int) * (((r2.length : Nat)) : Int))) ≠ 0) (cond ((Int.tmod (IntKind.wrap .i64 (Int.tdiv (IntKind.wrap .i64 x1) (IntKind.wrap .i64 ((((r2.length : Nat)) : Int) * (((r2.length : Nat)) : Int))))) 4) == 0) ((idx seats1 (Int.tmod (IntKind.wrap .i64 x1) (((r2.length : Nat)) : Int))).bind fun x2 => (vote_Begin_f x2).bind fun r3 => law14_VoteWinner_J4 (law14_VoteWinner_L1 acts1 r2 r1 m_) i1 (seats1.set ((Int.tmod (IntKind.wrap .i64 x1) (((r2.length : Nat)) : Int)).toNat) r3) won1) ((idx seats1 (Int.tmod (IntKind.wrap .i64 x1) (((r2.length : Nat)) : Int))).bind fun x3 => law14_VoteWinner_J5 (law14_VoteWinner_L1 acts1 r2 r1 m_) i1 seats1 won1 x1 r2 x3 ((x3.role != 2) || ((Int.tmod (IntKind.wrap .i64 x1) (((r2.length : Nat)) : Int)) == (Int.tmod (IntKind.wrap .i64 (Int.tdiv (IntKind.wrap .i64 x1) (((r2.length : Nat)) : Int))) (((r2.length : Nat)) : Int)))))))))) (law14_VoteWinner_J3 r1)
def law14_VoteWinner_J2 (logs1 : List (List Int)) (acts1 : List Int) (r1 : Bool) : Option Bool :=
  (law14_Group_f logs1).bind fun r2 => law14_VoteWinner_L1 acts1 r2 r1 BIG r2 [] 0
def law14_VoteWinner_L3 (logs1 : List (List Int)) (r1 : Bool) (acts1 : List Int) : Nat → Int → Option Bool
  | 0, _ => none
  | m_ + 1, i2 => cond (decide (i2 < (logs1.length : Int))) ((idx logs1 i2).bind fun x7 => cond (decide (30 < (x7.length : Int))) (some (r1)) (law14_VoteWinner_L3 logs1 r1 acts1 m_ (IntKind.wrap .i64 (i2 + 1)))) (law14_VoteWinner_J2 logs1 acts1 r1)
def law14_VoteWinner_J1 (r1 : Bool) (logs1 : List (List Int)) (acts1 : List Int) (v1 : Bool) : Option Bool :=
  cond v1 (some (r1)) (law14_VoteWinner_L3 logs1 r1 acts1 BIG 0)
def law14_VoteWinner_f (logs1 : List (List Int)) (acts1 : List Int) : Option Bool :=
  (law14_head_f).bind fun r1 => law14_VoteWinner_J1 r1 logs1 acts1 ((decide (7 < (logs1.length : Int))) || (((logs1.length : Int) == 0) || (decide (60 < (acts1.length : Int)))))
set_option maxHeartbeats 4000000 in
set_option maxRecDepth 20000 in
theorem law14_VoteWinner_pc {logs1 : List (List Int)} {acts1 : List Int} {r : Bool} (H : law14_VoteWinner_f logs1 acts1 = some r) : PC Try.prog 6 [.list 1 (logs1.map (cl 1 (ci .u8))), .list 1 (acts1.map (ci .u16))] (.bool r) := by
  refine pcA_of Try.func6 (by rfl) (by decide) 180 (by rfl) [.tmp 4] (by rfl) ?_
  unfold law14_VoteWinner_f at H
  simp only [ent]
  refine a_seq ?_
  refine a_reg _ rfl (s := ?zs1) ?_ ?_
  rotate_left
  · simp (maxSteps := 2000000) only [EVT, stepR, evOp, St.ev, St.app, St.put, wrs, datOf, datOf1, TIS, CS, Nat.reduceAdd, Nat.reduceMul, Nat.reduceEqDiff, ↓reduceIte, reduceCtorEq, Nat.reduceLT, Nat.reduceLeDiff]
    (repeat' apply And.intro) <;> first | rfl | assumption | omega | (simp; done) | (simp; omega) | (simp_all; done)
  refine sA_n ?_
  refine a_seq ?_
  obtain ⟨r1, zh1, H⟩ := bind_some H
  have zk1 := law14_head_pc zh1
  refine a_reg _ rfl (s := ?zs2) ?_ ?_
  rotate_left
  · try simp (maxSteps := 2000000) only [EVT, stepR, evOp, St.ev, St.app, St.put, wrs, frz, TIS, CS, Nat.reduceAdd, Nat.reduceMul, Nat.reduceEqDiff, ↓reduceIte, reduceCtorEq, Nat.reduceLT, Nat.reduceLeDiff, Nat.reduceSub, Nat.reduceBEq]
    repeat' with_reducible apply And.intro
    all_goals try ((with_reducible show CallR _ _ _ _ _ _ _); refine cR_s zk1 .nil (.bool _) ?_; simp (maxSteps := 2000000) only [EVT, stepR, evOp, St.ev, St.app, St.put, wrs, frz, TIS, CS, Nat.reduceAdd, Nat.reduceMul, Nat.reduceEqDiff, ↓reduceIte, reduceCtorEq, Nat.reduceLT, Nat.reduceLeDiff, Nat.reduceSub, Nat.reduceBEq])
    all_goals ((repeat' apply And.intro) <;> first | rfl | assumption | omega | (simp; done) | (simp; omega) | (simp_all; done))
  refine sA_n ?_
  refine a_seq ?_
  refine a_cut (fun s => ∃ (v1 : Bool) (t0 : Nat → Dat), law14_VoteWinner_J1 r1 logs1 acts1 v1 = some r ∧ s = ⟨tl t0 [(0, .list 1 (logs1.map (cl 1 (ci .u8)))), (1, .list 1 (acts1.map (ci .u16))), (5, .bool r1), (30, .bool v1)], hl [], 0, 180⟩) ?_ ?_
  · refine bool_split (b := (decide (7 < (logs1.length : Int)))) (fun zc14 => ?_) (fun zc14 => ?_)
    · rw [zc14] at H
      refine a_reg _ rfl (s := ?zs38) ?_ ?_
      rotate_left
      · simp (maxSteps := 2000000) only [EVT, stepR, evOp, St.ev, St.app, St.put, wrs, evBuiltin, datOf, datOf1, evBin, binInt, TIS, CS, Nat.reduceAdd, Nat.reduceMul, Nat.reduceEqDiff, ↓reduceIte, reduceCtorEq, Nat.reduceLT, Nat.reduceLeDiff, Array.reduceGetElem?, Nat.reduceSub, Nat.reduceBEq, ↓zc14]
        try simp (maxSteps := 2000000) only [EVT, stepR, evOp, St.ev, St.app, St.put, wrs, evBuiltin, datOf, datOf1, evBin, binInt, TIS, CS, Nat.reduceAdd, Nat.reduceMul, Nat.reduceEqDiff, ↓reduceIte, reduceCtorEq, Nat.reduceLT, Nat.reduceLeDiff, Array.reduceGetElem?, Nat.reduceSub, Nat.reduceBEq, ↓zc14]
        (repeat' apply And.intro) <;> first | rfl | assumption | omega | (simp; done) | (simp; omega) | (simp_all; done)
      refine cA_n ?_
      refine wk_l [] [] [(0, .list 1 (logs1.map (cl 1 (ci .u8)))), (1, .list 1 (acts1.map (ci .u16))), (5, .bool r1), (30, .bool true)] (by show ([0, 1, 5, 30] : List Nat).Nodup; decide) (by show ([] : List Nat).Nodup; decide) ?_ ?_ (fun t0 => ⟨true, t0, H, rfl⟩)
      · exact trivial
      · (simp only [AllT, tl_cons, tl_nil, upd_apply, List.getD_cons_zero, List.getD_cons_succ, Nat.reduceEqDiff, ↓reduceIte, and_true]); exact ⟨(.lst _ _ _ (cl_pu (ci_pu .u8)) rfl), (.lst _ _ _ (ci_pu .u16) rfl), (.bool' rfl), (.bool' (by first | rfl | assumption | (simp_all; done)))⟩
    · rw [zc14] at H
      refine bool_split (b := ((logs1.length : Int) == 0)) (fun zc15 => ?_) (fun zc15 => ?_)
      · rw [zc15] at H
        refine a_reg _ rfl (s := ?zs39) ?_ ?_
        rotate_left
        · simp (maxSteps := 2000000) only [EVT, stepR, evOp, St.ev, St.app, St.put, wrs, evBuiltin, datOf, datOf1, evBin, binInt, TIS, CS, Nat.reduceAdd, Nat.reduceMul, Nat.reduceEqDiff, ↓reduceIte, reduceCtorEq, Nat.reduceLT, Nat.reduceLeDiff, Array.reduceGetElem?, Nat.reduceSub, Nat.reduceBEq, ↓zc14, ↓zc15]
          try simp (maxSteps := 2000000) only [EVT, stepR, evOp, St.ev, St.app, St.put, wrs, evBuiltin, datOf, datOf1, evBin, binInt, TIS, CS, Nat.reduceAdd, Nat.reduceMul, Nat.reduceEqDiff, ↓reduceIte, reduceCtorEq, Nat.reduceLT, Nat.reduceLeDiff, Array.reduceGetElem?, Nat.reduceSub, Nat.reduceBEq, ↓zc14, ↓zc15]
          (repeat' apply And.intro) <;> first | rfl | assumption | omega | (simp; done) | (simp; omega) | (simp_all; done)
        refine cA_n ?_
        refine wk_l [] [] [(0, .list 1 (logs1.map (cl 1 (ci .u8)))), (1, .list 1 (acts1.map (ci .u16))), (5, .bool r1), (30, .bool true)] (by show ([0, 1, 5, 30] : List Nat).Nodup; decide) (by show ([] : List Nat).Nodup; decide) ?_ ?_ (fun t0 => ⟨true, t0, H, rfl⟩)
        · exact trivial
        · (simp only [AllT, tl_cons, tl_nil, upd_apply, List.getD_cons_zero, List.getD_cons_succ, Nat.reduceEqDiff, ↓reduceIte, and_true]); exact ⟨(.lst _ _ _ (cl_pu (ci_pu .u8)) rfl), (.lst _ _ _ (ci_pu .u16) rfl), (.bool' rfl), (.bool' (by first | rfl | assumption | (simp_all; done)))⟩
      · rw [zc15] at H
        refine a_reg _ rfl (s := ?zs40) ?_ ?_
        rotate_left
        · simp (maxSteps := 2000000) only [EVT, stepR, evOp, St.ev, St.app, St.put, wrs, evBuiltin, datOf, datOf1, evBin, binInt, TIS, CS, Nat.reduceAdd, Nat.reduceMul, Nat.reduceEqDiff, ↓reduceIte, reduceCtorEq, Nat.reduceLT, Nat.reduceLeDiff, Array.reduceGetElem?, Nat.reduceSub, Nat.reduceBEq, ↓zc14, ↓zc15]
          try simp (maxSteps := 2000000) only [EVT, stepR, evOp, St.ev, St.app, St.put, wrs, evBuiltin, datOf, datOf1, evBin, binInt, TIS, CS, Nat.reduceAdd, Nat.reduceMul, Nat.reduceEqDiff, ↓reduceIte, reduceCtorEq, Nat.reduceLT, Nat.reduceLeDiff, Array.reduceGetElem?, Nat.reduceSub, Nat.reduceBEq, ↓zc14, ↓zc15]
          (repeat' apply And.intro) <;> first | rfl | assumption | omega | (simp; done) | (simp; omega) | (simp_all; done)
        refine cA_n ?_
        refine wk_l [] [] [(0, .list 1 (logs1.map (cl 1 (ci .u8)))), (1, .list 1 (acts1.map (ci .u16))), (5, .bool r1), (30, .bool (decide (60 < (acts1.length : Int))))] (by show ([0, 1, 5, 30] : List Nat).Nodup; decide) (by show ([] : List Nat).Nodup; decide) ?_ ?_ (fun t0 => ⟨(decide (60 < (acts1.length : Int))), t0, H, rfl⟩)
        · exact trivial
        · (simp only [AllT, tl_cons, tl_nil, upd_apply, List.getD_cons_zero, List.getD_cons_succ, Nat.reduceEqDiff, ↓reduceIte, and_true]); exact ⟨(.lst _ _ _ (cl_pu (ci_pu .u8)) rfl), (.lst _ _ _ (ci_pu .u16) rfl), (.bool' rfl), (.bool' rfl)⟩
  · rintro s ⟨v1, t0, H, rfl⟩
    unfold law14_VoteWinner_J1 at H
    refine a_condb (v1) (by rfl) (fun zc1 => ?_) (fun zc1 => ?_)
    · have H := cond_t zc1 H
      refine a_seq ?_
      refine a_reg _ rfl (s := ?zs3) ?_ ?_
      rotate_left
      · simp (maxSteps := 2000000) only [EVT, stepR, evOp, St.ev, St.app, St.put, wrs, TIS, CS, Nat.reduceAdd, Nat.reduceMul, Nat.reduceEqDiff, ↓reduceIte, reduceCtorEq, Nat.reduceLT, Nat.reduceLeDiff, ↓zc1]
        (repeat' apply And.intro) <;> first | rfl | assumption | omega | (simp; done) | (simp; omega) | (simp_all; done)
      refine sA_n ?_
      refine a_ret ?_
      refine sA_r ?_
      obtain rfl := Option.some.inj H
      refine e_r2 (d := ?zd1) ?_ ?_
      rotate_left
      · simp only [EVT, resR, single, evLoad, cut, TIS, CS, Nat.reduceAdd, Nat.reduceEqDiff, ↓reduceIte, reduceCtorEq, Nat.reduceLT, Nat.reduceLeDiff, Nat.reduceSub, Nat.reduceBEq, zc1]
        (repeat' apply And.intro) <;> first | rfl | assumption | omega | (simp; done)
      exact (.bool' rfl)
    · have H := cond_f zc1 H
      refine a_skip ?_
      refine sA_n ?_
      refine a_cut (fun s => ∃ (t0 : Nat → Dat), law14_VoteWinner_J2 logs1 acts1 r1 = some r ∧ s = ⟨tl t0 [(0, .list 1 (logs1.map (cl 1 (ci .u8)))), (1, .list 1 (acts1.map (ci .u16))), (5, .bool r1)], hl [], 0, 180⟩) ?_ ?_
      · refine a_seq ?_
        refine a_reg _ rfl (s := ?zs33) ?_ ?_
        rotate_left
        · simp (maxSteps := 2000000) only [EVT, stepR, evOp, St.ev, St.app, St.put, wrs, datOf, datOf1, TIS, CS, Nat.reduceAdd, Nat.reduceMul, Nat.reduceEqDiff, ↓reduceIte, reduceCtorEq, Nat.reduceLT, Nat.reduceLeDiff, ↓zc1]
          (repeat' apply And.intro) <;> first | rfl | assumption | omega | (simp; done) | (simp; omega) | (simp_all; done)
        refine sA_n ?_
        refine a_blk ?_
        refine a_loop (fun m s => ∃ (i2 : Int) (t0 : Nat → Dat), law14_VoteWinner_L3 logs1 r1 acts1 m i2 = some r ∧ s = ⟨tl t0 [(0, .list 1 (logs1.map (cl 1 (ci .u8)))), (1, .list 1 (acts1.map (ci .u16))), (5, .bool r1), (6, .int .i64 i2)], hl [], 0, 180⟩) BIG ?_ ?_
        · refine wk_l [] [] [(0, .list 1 (logs1.map (cl 1 (ci .u8)))), (1, .list 1 (acts1.map (ci .u16))), (5, .bool r1), (6, .int .i64 0)] (by show ([0, 1, 5, 6] : List Nat).Nodup; decide) (by show ([] : List Nat).Nodup; decide) ?_ ?_ (fun t0 => ⟨0, t0, H, rfl⟩)
          · exact trivial
          · (simp only [AllT, tl_cons, tl_nil, upd_apply, List.getD_cons_zero, List.getD_cons_succ, Nat.reduceEqDiff, ↓reduceIte, and_true]); exact ⟨(.lst _ _ _ (cl_pu (ci_pu .u8)) rfl), (.lst _ _ _ (ci_pu .u16) rfl), (.bool' rfl), (.int' rfl)⟩
        · rintro m_law14_VoteWinner_L3 s ⟨i2, t0, H, rfl⟩
          obtain _ | m_law14_VoteWinner_L3 := m_law14_VoteWinner_L3
          · cases (show (none : Option _) = some _ from H)
          · rw [law14_VoteWinner_L3] at H
            refine a_seq ?_
            refine a_seq ?_
            refine a_reg _ rfl (s := ?zs34) ?_ ?_
            rotate_left
            · simp (maxSteps := 2000000) only [EVT, stepR, evOp, St.ev, St.app, St.put, wrs, evBuiltin, evBin, binInt, TIS, CS, Nat.reduceAdd, Nat.reduceMul, Nat.reduceEqDiff, ↓reduceIte, reduceCtorEq, Nat.reduceLT, Nat.reduceLeDiff, Nat.reduceSub, Nat.reduceBEq]
              (repeat' apply And.intro) <;> first | rfl | assumption | omega | (simp; done) | (simp; omega) | (simp_all; done)
            refine sA_n ?_
            refine a_condb ((decide (i2 < (logs1.length : Int)))) (by rfl) (fun zc12 => ?_) (fun zc12 => ?_)
            · have H := cond_t zc12 H
              refine a_skip ?_
              refine sA_n ?_
              refine a_seq ?_
              refine a_blk ?_
              refine a_seq ?_
              obtain ⟨x7, zh22, H⟩ := bind_some H
              have zg7 := idx_map zh22 (cl 1 (ci .u8))
              obtain ⟨zh22a, zh22b, _⟩ := idx_some zh22
              refine a_reg _ rfl (s := ?zs35) ?_ ?_
              rotate_left
              · simp (maxSteps := 2000000) only [EVT, stepR, evOp, St.ev, St.app, St.put, wrs, evIndexAddr, evLoad, cut, evBuiltin, datOf, datOf1, evBin, binInt, TIS, CS, Nat.reduceAdd, Nat.reduceMul, Nat.reduceEqDiff, ↓reduceIte, reduceCtorEq, Nat.reduceLT, Nat.reduceLeDiff, Int.reduceToNat, Nat.reduceSub, Nat.reduceBEq, ↓zc12, zg7]
                (repeat' apply And.intro) <;> first | rfl | assumption | omega | (simp; done) | (simp; omega) | (simp_all; done)
              refine sA_n ?_
              refine a_condb ((decide (30 < (x7.length : Int)))) (by rfl) (fun zc13 => ?_) (fun zc13 => ?_)
              · have H := cond_t zc13 H
                refine a_seq ?_
                refine a_reg _ rfl (s := ?zs36) ?_ ?_
                rotate_left
                · simp (maxSteps := 2000000) only [EVT, stepR, evOp, St.ev, St.app, St.put, wrs, TIS, CS, Nat.reduceAdd, Nat.reduceMul, Nat.reduceEqDiff, ↓reduceIte, reduceCtorEq, Nat.reduceLT, Nat.reduceLeDiff, ↓zc12, zg7, ↓zc13]
                  (repeat' apply And.intro) <;> first | rfl | assumption | omega | (simp; done) | (simp; omega) | (simp_all; done)
                refine sA_n ?_
                refine a_ret ?_
                refine bA_r ?_
                refine sA_r ?_
                refine lA_r ?_
                refine bA_r ?_
                refine cA_r ?_
                obtain rfl := Option.some.inj H
                refine e_r2 (d := ?zd5) ?_ ?_
                rotate_left
                · simp only [EVT, resR, single, evLoad, cut, TIS, CS, Nat.reduceAdd, Nat.reduceEqDiff, ↓reduceIte, reduceCtorEq, Nat.reduceLT, Nat.reduceLeDiff, Nat.reduceSub, Nat.reduceBEq, zc12, zg7, zc13]
                  (repeat' apply And.intro) <;> first | rfl | assumption | omega | (simp; done)
                exact (.bool' rfl)
              · have H := cond_f zc13 H
                refine a_skip ?_
                refine bA_n ?_
                refine sA_n ?_
                refine a_reg _ rfl (s := ?zs37) ?_ ?_
                rotate_left
                · simp (maxSteps := 2000000) only [EVT, stepR, evOp, St.ev, St.app, St.put, wrs, datOf, datOf1, evBin, binInt, TIS, CS, Nat.reduceAdd, Nat.reduceMul, Nat.reduceEqDiff, ↓reduceIte, reduceCtorEq, Nat.reduceLT, Nat.reduceLeDiff, ↓zc12, zg7, ↓zc13]
                  (repeat' apply And.intro) <;> first | rfl | assumption | omega | (simp; done) | (simp; omega) | (simp_all; done)
                refine lA_n ?_
                refine wk_l [] [] [(0, .list 1 (logs1.map (cl 1 (ci .u8)))), (1, .list 1 (acts1.map (ci .u16))), (5, .bool r1), (6, .int .i64 (IntKind.wrap .i64 (i2 + 1)))] (by show ([0, 1, 5, 6] : List Nat).Nodup; decide) (by show ([] : List Nat).Nodup; decide) ?_ ?_ (fun t0 => ⟨_, Nat.lt_succ_self _, (IntKind.wrap .i64 (i2 + 1)), t0, H, rfl⟩)
                · exact trivial
                · (simp only [AllT, tl_cons, tl_nil, upd_apply, List.getD_cons_zero, List.getD_cons_succ, Nat.reduceEqDiff, ↓reduceIte, and_true]); exact ⟨(.lst _ _ _ (cl_pu (ci_pu .u8)) rfl), (.lst _ _ _ (ci_pu .u16) rfl), (.bool' rfl), (.int' rfl)⟩
            · have H := cond_f zc12 H
              refine a_exit ?_
              refine sA_e ?_
              refine lA_e ?_
              refine bA_hit ?_
              refine cA_n ?_
              refine wk_l [] [] [(0, .list 1 (logs1.map (cl 1 (ci .u8)))), (1, .list 1 (acts1.map (ci .u16))), (5, .bool r1)] (by show ([0, 1, 5] : List Nat).Nodup; decide) (by show ([] : List Nat).Nodup; decide) ?_ ?_ (fun t0 => ⟨t0, H, rfl⟩)
              · exact trivial
              · (simp only [AllT, tl_cons, tl_nil, upd_apply, List.getD_cons_zero, List.getD_cons_succ, Nat.reduceEqDiff, ↓reduceIte, and_true]); exact ⟨(.lst _ _ _ (cl_pu (ci_pu .u8)) rfl), (.lst _ _ _ (ci_pu .u16) rfl), (.bool' rfl)⟩
      · rintro s ⟨t0, H, rfl⟩
        unfold law14_VoteWinner_J2 at H
        refine a_seq ?_
        obtain ⟨r2, zh2, H⟩ := bind_some H
        have zk2 := law14_Group_rc zh2
        refine a_reg _ rfl (s := ?zs4) ?_ ?_
        rotate_left
        · try simp (maxSteps := 2000000) only [EVT, stepR, evOp, St.ev, St.app, St.put, wrs, frz, TIS, CS, Nat.reduceAdd, Nat.reduceMul, Nat.reduceEqDiff, ↓reduceIte, reduceCtorEq, Nat.reduceLT, Nat.reduceLeDiff, Nat.reduceSub, Nat.reduceBEq]
          repeat' with_reducible apply And.intro
          all_goals try ((with_reducible show CallR _ _ _ _ _ _ _); refine callR_rcw (r' := .ref 1 0 r2.length 10) [(1, some ⟨25, 10, false, r2.map Seat.c⟩)] [] [] [(1, 0, ⟨25, 10, false, r2.map Seat.c⟩)] rfl zk2 (by simp) (by show ([] : List Nat).Nodup; decide) trivial (.cons (.lst _ _ _ (cl_pu (ci_pu .u8)) rfl) .nil) (by show ([1] : List Nat).Nodup; decide) (by show ([0] : List Nat).Nodup; decide) ⟨.inr ⟨rfl, by decide⟩, ⟨_, rfl, ⟨rfl, rfl, rfl, rfl⟩, .same _ _ Seat.pu rfl⟩, trivial⟩ (.refl' rfl rfl) ?_; simp (maxSteps := 2000000) only [EVT, stepR, evOp, St.ev, St.app, St.put, wrs, frz, TIS, CS, Nat.reduceAdd, Nat.reduceMul, Nat.reduceEqDiff, ↓reduceIte, reduceCtorEq, Nat.reduceLT, Nat.reduceLeDiff, Nat.reduceSub, Nat.reduceBEq])
          all_goals ((repeat' apply And.intro) <;> first | rfl | assumption | omega | (simp; done) | (simp; omega) | (simp_all; done))
        refine sA_n ?_
        refine a_seq ?_
        refine a_reg _ rfl (s := ?zs5) ?_ ?_
        rotate_left
        · simp (maxSteps := 2000000) only [EVT, stepR, evOp, St.ev, St.app, St.put, wrs, evBuiltin, TIS, CS, Nat.reduceAdd, Nat.reduceMul, Nat.reduceEqDiff, ↓reduceIte, reduceCtorEq, Nat.reduceLT, Nat.reduceLeDiff, Nat.reduceSub, Nat.reduceBEq]
          (repeat' apply And.intro) <;> first | rfl | assumption | omega | (simp; done) | (simp; omega) | (simp_all; done)
        refine sA_n ?_
        refine a_seq ?_
        refine a_reg _ rfl (s := ?zs6) ?_ ?_
        rotate_left
        · simp (maxSteps := 2000000) only [EVT, stepR, evOp, St.ev, St.app, St.put, wrs, datOf, datOf1, TIS, CS, Nat.reduceAdd, Nat.reduceMul, Nat.reduceEqDiff, ↓reduceIte, reduceCtorEq, Nat.reduceLT, Nat.reduceLeDiff]
          (repeat' apply And.intro) <;> first | rfl | assumption | omega | (simp; done) | (simp; omega) | (simp_all; done)
        refine sA_n ?_
        refine a_cut (fun s => ∃ (t0 : Nat → Dat), law14_VoteWinner_J3 r1 = some r ∧ s = ⟨tl t0 [(5, .bool r1)], hl [], 0, 180⟩) ?_ ?_
        · refine a_seq ?_
          refine a_reg _ rfl (s := ?zs8) ?_ ?_
          rotate_left
          · simp (maxSteps := 2000000) only [EVT, stepR, evOp, St.ev, St.app, St.put, wrs, datOf, datOf1, TIS, CS, Nat.reduceAdd, Nat.reduceMul, Nat.reduceEqDiff, ↓reduceIte, reduceCtorEq, Nat.reduceLT, Nat.reduceLeDiff]
            (repeat' apply And.intro) <;> first | rfl | assumption | omega | (simp; done) | (simp; omega) | (simp_all; done)
          refine sA_n ?_
          refine a_blk ?_
          refine a_loop (fun m s => ∃ (seats1 : List Seat) (won1 : List Seat) (i1 : Int) (t0 : Nat → Dat), law14_VoteWinner_L1 acts1 r2 r1 m seats1 won1 i1 = some r ∧ s = ⟨tl t0 [(1, .list 1 (acts1.map (ci .u16))), (5, .bool r1), (7, .ref 0 0 seats1.length 10), (8, .int .i64 (((r2.length : Nat)) : Int)), (9, .ref 1 0 won1.length 10), (10, .int .i64 i1)], hl [⟨25, 10, false, seats1.map Seat.c⟩, ⟨25, 10, false, won1.map Seat.c⟩], 2, 180⟩) BIG ?_ ?_
          · refine wk_l [(some 1, ⟨25, 10, false, r2.map Seat.c⟩), (none, ⟨25, 10, false, [].map Seat.c⟩)] [] [(1, .list 1 (acts1.map (ci .u16))), (5, .bool r1), (7, .ref 0 0 r2.length 10), (8, .int .i64 (((r2.length : Nat)) : Int)), (9, .ref 1 0 [].length 10), (10, .int .i64 0)] (by show ([1, 5, 7, 8, 9, 10] : List Nat).Nodup; decide) (by show ([1] : List Nat).Nodup; decide) ?_ ?_ (fun t0 => ⟨r2, [], 0, t0, H, rfl⟩)
            · exact (allB_some (by rfl) rfl (.same _ _ Seat.pu (by first | rfl | (simp only [List.map_append, List.map_cons, List.map_nil, List.map_set, List.map_take, List.map_drop, List.map_replicate, List.append_assoc, List.nil_append, List.append_nil, ci_eq, cb_eq, cs_eq, cl_eq, CS,  List.nil_append]; done) | (simp [CS,  ci_eq, cb_eq, cs_eq, cl_eq]; done))) (allB_none rfl trivial))
            · (simp only [AllT, tl_cons, tl_nil, upd_apply, List.getD_cons_zero, List.getD_cons_succ, Nat.reduceEqDiff, ↓reduceIte, and_true]); exact ⟨(.lst _ _ _ (ci_pu .u16) rfl), (.bool' rfl), (.refl' (by first | rfl | omega | (simp; done) | (simp_all; done)) rfl), (.int' rfl), (.nilv _ _ rfl rfl), (.int' rfl)⟩
          · rintro m_law14_VoteWinner_L1 s ⟨seats1, won1, i1, t0, H, rfl⟩
            obtain _ | m_law14_VoteWinner_L1 := m_law14_VoteWinner_L1
            · cases (show (none : Option _) = some _ from H)
            · rw [law14_VoteWinner_L1] at H
              refine a_seq ?_
              refine a_seq ?_
              refine a_reg _ rfl (s := ?zs9) ?_ ?_
              rotate_left
              · simp (maxSteps := 2000000) only [EVT, stepR, evOp, St.ev, St.app, St.put, wrs, evBuiltin, evBin, binInt, TIS, CS, Nat.reduceAdd, Nat.reduceMul, Nat.reduceEqDiff, ↓reduceIte, reduceCtorEq, Nat.reduceLT, Nat.reduceLeDiff, Nat.reduceSub, Nat.reduceBEq]
                (repeat' apply And.intro) <;> first | rfl | assumption | omega | (simp; done) | (simp; omega) | (simp_all; done)
              refine sA_n ?_
              refine a_condb ((decide (i1 < (acts1.length : Int)))) (by rfl) (fun zc2 => ?_) (fun zc2 => ?_)
              · have H := cond_t zc2 H
                refine a_skip ?_
                refine sA_n ?_
                refine a_cut (fun s => ∃ (seats2 : List Seat) (won2 : List Seat) (t0 : Nat → Dat), law14_VoteWinner_J4 (law14_VoteWinner_L1 acts1 r2 r1 m_law14_VoteWinner_L1) i1 seats2 won2 = some r ∧ s = ⟨tl t0 [(1, .list 1 (acts1.map (ci .u16))), (5, .bool r1), (7, .ref 0 0 seats2.length 10), (8, .int .i64 (((r2.length : Nat)) : Int)), (9, .ref 1 0 won2.length 10), (10, .int .i64 i1)], hl [⟨25, 10, false, seats2.map Seat.c⟩, ⟨25, 10, false, won2.map Seat.c⟩], 2, 180⟩) ?_ ?_
                · refine a_blk ?_
                  refine a_seq ?_
                  obtain ⟨x1, zh3, H⟩ := bind_some H
                  have zg1 := idx_map zh3 (ci .u16)
                  obtain ⟨zh3a, zh3b, _⟩ := idx_some zh3
                  obtain ⟨zh4, H⟩ := chk_some H
                  refine a_reg _ rfl (s := ?zs11) ?_ ?_
                  rotate_left
                  · simp (maxSteps := 2000000) only [EVT, stepR, evOp, St.ev, St.app, St.put, wrs, evIndexAddr, evLoad, cut, evBin, binInt, TIS, CS, Nat.reduceAdd, Nat.reduceMul, Nat.reduceEqDiff, ↓reduceIte, reduceCtorEq, Nat.reduceLT, Nat.reduceLeDiff, Int.reduceToNat, Nat.reduceSub, Nat.reduceBEq, ↓zc2, zg1]
                    (repeat' apply And.intro) <;> first | rfl | assumption | omega | (simp; done) | (simp; omega) | (simp_all; done)
                  refine sA_n ?_
                  refine a_seq ?_
                  obtain ⟨zh5, H⟩ := chk_some H
                  obtain ⟨zh6, H⟩ := chk_some H
                  refine a_reg _ rfl (s := ?zs12) ?_ ?_
                  rotate_left
                  · simp (maxSteps := 2000000) only [EVT, stepR, evOp, St.ev, St.app, St.put, wrs, evIndexAddr, evLoad, cut, evBin, binInt, TIS, CS, Nat.reduceAdd, Nat.reduceMul, Nat.reduceEqDiff, ↓reduceIte, reduceCtorEq, Nat.reduceLT, Nat.reduceLeDiff, Int.reduceToNat, Nat.reduceSub, Nat.reduceBEq, ↓zc2, zg1]
                    (repeat' apply And.intro) <;> first | rfl | assumption | omega | (simp; done) | (simp; omega) | (simp_all; done)
                  refine sA_n ?_
                  refine a_seq ?_
                  refine a_seq ?_
                  obtain ⟨zh7, H⟩ := chk_some H
                  refine a_reg _ rfl (s := ?zs13) ?_ ?_
                  rotate_left
                  · simp (maxSteps := 2000000) only [EVT, stepR, evOp, St.ev, St.app, St.put, wrs, evIndexAddr, evLoad, cut, evBin, binInt, datOf, datOf1, TIS, CS, Nat.reduceAdd, Nat.reduceMul, Nat.reduceEqDiff, ↓reduceIte, reduceCtorEq, Nat.reduceLT, Nat.reduceLeDiff, Int.reduceToNat, Nat.reduceSub, Nat.reduceBEq, ↓zc2, zg1]
                    (repeat' apply And.intro) <;> first | rfl | assumption | omega | (simp; done) | (simp; omega) | (simp_all; done)
                  refine sA_n ?_
                  refine a_condb (((Int.tmod (IntKind.wrap .i64 (Int.tdiv (IntKind.wrap .i64 x1) (IntKind.wrap .i64 ((((r2.length : Nat)) : Int) * (((r2.length : Nat)) : Int))))) 4) == 0)) (by rfl) (fun zc3 => ?_) (fun zc3 => ?_)
                  · have H := cond_t zc3 H
                    refine a_seq ?_
                    obtain ⟨x2, zh8, H⟩ := bind_some H
                    have zg2 := idx_map zh8 Seat.c
                    obtain ⟨zh8a, zh8b, _⟩ := idx_some zh8
                    obtain ⟨r3, zh9, H⟩ := bind_some H
                    have zk3 := vote_Begin_pc zh9
                    refine a_reg _ rfl (s := ?zs14) ?_ ?_
                    rotate_left
                    · try simp (maxSteps := 2000000) only [EVT, stepR, evOp, St.ev, St.app, St.put, wrs, evIndexAddr, evLoad, cut, frz, evStore, setR, allOne, TIS, CS, Nat.reduceAdd, Nat.reduceMul, Nat.reduceEqDiff, ↓reduceIte, reduceCtorEq, Nat.reduceLT, Nat.reduceLeDiff, Int.reduceToNat, Nat.reduceSub, Nat.reduceBEq, ↓zc2, zg1, ↓zc3, zg2]
                      repeat' with_reducible apply And.intro
                      all_goals try ((with_reducible show CallR _ _ _ _ _ _ _); refine cR_p zk3 (.cons (.agg' (.cons (.int' rfl) (.cons (.lst _ _ _ (ci_pu .i64) rfl) (.cons (.int' rfl) (.cons (.int' rfl) (.cons (.int' rfl) (.cons (.lst _ _ _ Entry.pu rfl) (.cons (.int' rfl) (.cons (.lst _ _ _ (ci_pu .i64) rfl) (.cons (.lst _ _ _ (ci_pu .i64) rfl) (.cons (.lst _ _ _ (ci_pu .i64) rfl) .nil))))))))))) .nil) ?_; simp (maxSteps := 2000000) only [EVT, stepR, evOp, St.ev, St.app, St.put, wrs, evIndexAddr, evLoad, cut, frz, evStore, setR, allOne, TIS, CS, Nat.reduceAdd, Nat.reduceMul, Nat.reduceEqDiff, ↓reduceIte, reduceCtorEq, Nat.reduceLT, Nat.reduceLeDiff, Int.reduceToNat, Nat.reduceSub, Nat.reduceBEq, ↓zc2, zg1, ↓zc3, zg2])
                      all_goals ((repeat' apply And.intro) <;> first | rfl | assumption | omega | (simp; done) | (simp; omega) | (simp_all; done))
                    refine sA_n ?_
                    refine a_exit ?_
                    refine sA_e ?_
                    refine bA_hit ?_
                    refine cA_n ?_
                    refine wk_l [(some 0, ⟨25, 10, false, (seats1.set ((Int.tmod (IntKind.wrap .i64 x1) (((r2.length : Nat)) : Int)).toNat) r3).map Seat.c⟩), (some 1, ⟨25, 10, false, won1.map Seat.c⟩)] [] [(1, .list 1 (acts1.map (ci .u16))), (5, .bool r1), (7, .ref 0 0 (seats1.set ((Int.tmod (IntKind.wrap .i64 x1) (((r2.length : Nat)) : Int)).toNat) r3).length 10), (8, .int .i64 (((r2.length : Nat)) : Int)), (9, .ref 1 0 won1.length 10), (10, .int .i64 i1)] (by show ([1, 5, 7, 8, 9, 10] : List Nat).Nodup; decide) (by show ([0, 1] : List Nat).Nodup; decide) ?_ ?_ (fun t0 => ⟨(seats1.set ((Int.tmod (IntKind.wrap .i64 x1) (((r2.length : Nat)) : Int)).toNat) r3), won1, t0, H, rfl⟩)
                    · exact (allB_some (by rfl) rfl (.same _ _ Seat.pu (by first | rfl | (simp only [List.map_append, List.map_cons, List.map_nil, List.map_set, List.map_take, List.map_drop, List.map_replicate, List.append_assoc, List.nil_append, List.append_nil, ci_eq, cb_eq, cs_eq, cl_eq, CS,  List.nil_append]; done) | (simp [CS,  ci_eq, cb_eq, cs_eq, cl_eq]; done))) (allB_some (by rfl) rfl (.same _ _ Seat.pu (by first | rfl | (simp only [List.map_append, List.map_cons, List.map_nil, List.map_set, List.map_take, List.map_drop, List.map_replicate, List.append_assoc, List.nil_append, List.append_nil, ci_eq, cb_eq, cs_eq, cl_eq, CS,  List.nil_append]; done) | (simp [CS,  ci_eq, cb_eq, cs_eq, cl_eq]; done))) trivial))
                    · (simp only [AllT, tl_cons, tl_nil, upd_apply, List.getD_cons_zero, List.getD_cons_succ, Nat.reduceEqDiff, ↓reduceIte, and_true]); exact ⟨(.lst _ _ _ (ci_pu .u16) rfl), (.bool' rfl), (.refl' (by first | rfl | omega | (simp; done) | (simp_all; done)) rfl), (.int' rfl), (.refl' (by first | rfl | omega | (simp; done) | (simp_all; done)) rfl), (.int' rfl)⟩
                  · have H := cond_f zc3 H
                    refine a_skip ?_
                    refine sA_n ?_
                    refine a_seq ?_
                    obtain ⟨x3, zh10, H⟩ := bind_some H
                    have zg3 := idx_map zh10 Seat.c
                    obtain ⟨zh10a, zh10b, _⟩ := idx_some zh10
                    refine a_reg _ rfl (s := ?zs15) ?_ ?_
                    rotate_left
                    · simp (maxSteps := 2000000) only [EVT, stepR, evOp, St.ev, St.app, St.put, wrs, evIndexAddr, evLoad, cut, allOne, evStore, setR, TIS, CS, Nat.reduceAdd, Nat.reduceMul, Nat.reduceEqDiff, ↓reduceIte, reduceCtorEq, Nat.reduceLT, Nat.reduceLeDiff, Int.reduceToNat, Nat.reduceSub, Nat.reduceBEq, ↓zc2, zg1, ↓zc3, zg3]
                      (repeat' apply And.intro) <;> first | rfl | assumption | omega | (simp; done) | (simp; omega) | (simp_all; done)
                    refine sA_n ?_
                    refine a_seq ?_
                    refine a_cut (fun s => ∃ (v2 : Bool) (t0 : Nat → Dat), law14_VoteWinner_J5 (law14_VoteWinner_L1 acts1 r2 r1 m_law14_VoteWinner_L1) i1 seats1 won1 x1 r2 x3 v2 = some r ∧ s = ⟨tl t0 [(1, .list 1 (acts1.map (ci .u16))), (5, .bool r1), (7, .ref 0 0 seats1.length 10), (8, .int .i64 (((r2.length : Nat)) : Int)), (9, .ref 1 0 won1.length 10), (10, .int .i64 i1), (11, .int .i64 (Int.tmod (IntKind.wrap .i64 x1) (((r2.length : Nat)) : Int))), (12, .int .i64 (Int.tmod (IntKind.wrap .i64 (Int.tdiv (IntKind.wrap .i64 x1) (((r2.length : Nat)) : Int))) (((r2.length : Nat)) : Int))), (13, .ptr 2 0 0 10), (101, .bool v2)], hl [⟨25, 10, false, seats1.map Seat.c⟩, ⟨25, 10, false, won1.map Seat.c⟩, ⟨25, 10, false, [[.int .i64 x3.id, .list 1 (x3.peers.map (ci .i64)), .int .i64 x3.term, .int .i64 x3.voted, .int .i64 x3.role, .list 2 (x3.log.map Entry.c), .int .i64 x3.commit, .list 1 (x3.votes.map (ci .i64)), .list 1 (x3.next.map (ci .i64)), .list 1 (x3.match_.map (ci .i64))]]⟩], 3, 180⟩) ?_ ?_
                    · refine bool_split (b := (x3.role != 2)) (fun zc11 => ?_) (fun zc11 => ?_)
                      · rw [zc11] at H
                        refine a_reg _ rfl (s := ?zs31) ?_ ?_
                        rotate_left
                        · simp (maxSteps := 2000000) only [EVT, stepR, evOp, St.ev, St.app, St.put, wrs, evFieldAddr, evLoad, cut, datOf, datOf1, evBin, binInt, TIS, CS, Nat.reduceAdd, Nat.reduceMul, Nat.reduceEqDiff, ↓reduceIte, reduceCtorEq, Nat.reduceLT, Nat.reduceLeDiff, Array.reduceGetElem?, Nat.reduceSub, Nat.reduceBEq, ↓zc2, zg1, ↓zc3, zg3, ↓zc11]
                          try simp (maxSteps := 2000000) only [EVT, stepR, evOp, St.ev, St.app, St.put, wrs, evFieldAddr, evLoad, cut, datOf, datOf1, evBin, binInt, TIS, CS, Nat.reduceAdd, Nat.reduceMul, Nat.reduceEqDiff, ↓reduceIte, reduceCtorEq, Nat.reduceLT, Nat.reduceLeDiff, Array.reduceGetElem?, Nat.reduceSub, Nat.reduceBEq, ↓zc2, zg1, ↓zc3, zg3, ↓zc11]
                          (repeat' apply And.intro) <;> first | rfl | assumption | omega | (simp; done) | (simp; omega) | (simp_all; done)
                        refine cA_n ?_
                        refine wk_l [(some 0, ⟨25, 10, false, seats1.map Seat.c⟩), (some 1, ⟨25, 10, false, won1.map Seat.c⟩), (some 270, ⟨25, 10, false, [[.int .i64 x3.id, .list 1 (x3.peers.map (ci .i64)), .int .i64 x3.term, .int .i64 x3.voted, .int .i64 x3.role, .list 2 (x3.log.map Entry.c), .int .i64 x3.commit, .list 1 (x3.votes.map (ci .i64)), .list 1 (x3.next.map (ci .i64)), .list 1 (x3.match_.map (ci .i64))]]⟩)] [] [(1, .list 1 (acts1.map (ci .u16))), (5, .bool r1), (7, .ref 0 0 seats1.length 10), (8, .int .i64 (((r2.length : Nat)) : Int)), (9, .ref 1 0 won1.length 10), (10, .int .i64 i1), (11, .int .i64 (Int.tmod (IntKind.wrap .i64 x1) (((r2.length : Nat)) : Int))), (12, .int .i64 (Int.tmod (IntKind.wrap .i64 (Int.tdiv (IntKind.wrap .i64 x1) (((r2.length : Nat)) : Int))) (((r2.length : Nat)) : Int))), (13, .ptr 2 0 0 10), (101, .bool true)] (by show ([1, 5, 7, 8, 9, 10, 11, 12, 13, 101] : List Nat).Nodup; decide) (by show ([0, 1, 270] : List Nat).Nodup; decide) ?_ ?_ (fun t0 => ⟨true, t0, H, rfl⟩)
                        · exact (allB_some (by rfl) rfl (.same _ _ Seat.pu (by first | rfl | (simp only [List.map_append, List.map_cons, List.map_nil, List.map_set, List.map_take, List.map_drop, List.map_replicate, List.append_assoc, List.nil_append, List.append_nil, ci_eq, cb_eq, cs_eq, cl_eq, CS,  List.nil_append]; done) | (simp [CS,  ci_eq, cb_eq, cs_eq, cl_eq]; done))) (allB_some (by rfl) rfl (.same _ _ Seat.pu (by first | rfl | (simp only [List.map_append, List.map_cons, List.map_nil, List.map_set, List.map_take, List.map_drop, List.map_replicate, List.append_assoc, List.nil_append, List.append_nil, ci_eq, cb_eq, cs_eq, cl_eq, CS,  List.nil_append]; done) | (simp [CS,  ci_eq, cb_eq, cs_eq, cl_eq]; done))) (allB_some (by rfl) rfl (.cons (.cons (.int' rfl) (.cons (.lst _ _ _ (ci_pu .i64) rfl) (.cons (.int' rfl) (.cons (.int' rfl) (.cons (.int' rfl) (.cons (.lst _ _ _ Entry.pu rfl) (.cons (.int' rfl) (.cons (.lst _ _ _ (ci_pu .i64) rfl) (.cons (.lst _ _ _ (ci_pu .i64) rfl) (.cons (.lst _ _ _ (ci_pu .i64) rfl) .nil)))))))))) .nil) trivial)))
                        · (simp only [AllT, tl_cons, tl_nil, upd_apply, List.getD_cons_zero, List.getD_cons_succ, Nat.reduceEqDiff, ↓reduceIte, and_true]); exact ⟨(.lst _ _ _ (ci_pu .u16) rfl), (.bool' rfl), (.refl' (by first | rfl | omega | (simp; done) | (simp_all; done)) rfl), (.int' rfl), (.refl' (by first | rfl | omega | (simp; done) | (simp_all; done)) rfl), (.int' rfl), (.int' rfl), (.int' rfl), (.ptr _ _ _ _ _ rfl), (.bool' (by first | rfl | assumption | (simp_all; done)))⟩
                      · rw [zc11] at H
                        refine a_reg _ rfl (s := ?zs32) ?_ ?_
                        rotate_left
                        · simp (maxSteps := 2000000) only [EVT, stepR, evOp, St.ev, St.app, St.put, wrs, evFieldAddr, evLoad, cut, datOf, datOf1, evBin, binInt, TIS, CS, Nat.reduceAdd, Nat.reduceMul, Nat.reduceEqDiff, ↓reduceIte, reduceCtorEq, Nat.reduceLT, Nat.reduceLeDiff, Array.reduceGetElem?, Nat.reduceSub, Nat.reduceBEq, ↓zc2, zg1, ↓zc3, zg3, ↓zc11]
                          try simp (maxSteps := 2000000) only [EVT, stepR, evOp, St.ev, St.app, St.put, wrs, evFieldAddr, evLoad, cut, datOf, datOf1, evBin, binInt, TIS, CS, Nat.reduceAdd, Nat.reduceMul, Nat.reduceEqDiff, ↓reduceIte, reduceCtorEq, Nat.reduceLT, Nat.reduceLeDiff, Array.reduceGetElem?, Nat.reduceSub, Nat.reduceBEq, ↓zc2, zg1, ↓zc3, zg3, ↓zc11]
                          (repeat' apply And.intro) <;> first | rfl | assumption | omega | (simp; done) | (simp; omega) | (simp_all; done)
                        refine cA_n ?_
                        refine wk_l [(some 0, ⟨25, 10, false, seats1.map Seat.c⟩), (some 1, ⟨25, 10, false, won1.map Seat.c⟩), (some 270, ⟨25, 10, false, [[.int .i64 x3.id, .list 1 (x3.peers.map (ci .i64)), .int .i64 x3.term, .int .i64 x3.voted, .int .i64 x3.role, .list 2 (x3.log.map Entry.c), .int .i64 x3.commit, .list 1 (x3.votes.map (ci .i64)), .list 1 (x3.next.map (ci .i64)), .list 1 (x3.match_.map (ci .i64))]]⟩)] [] [(1, .list 1 (acts1.map (ci .u16))), (5, .bool r1), (7, .ref 0 0 seats1.length 10), (8, .int .i64 (((r2.length : Nat)) : Int)), (9, .ref 1 0 won1.length 10), (10, .int .i64 i1), (11, .int .i64 (Int.tmod (IntKind.wrap .i64 x1) (((r2.length : Nat)) : Int))), (12, .int .i64 (Int.tmod (IntKind.wrap .i64 (Int.tdiv (IntKind.wrap .i64 x1) (((r2.length : Nat)) : Int))) (((r2.length : Nat)) : Int))), (13, .ptr 2 0 0 10), (101, .bool ((Int.tmod (IntKind.wrap .i64 x1) (((r2.length : Nat)) : Int)) == (Int.tmod (IntKind.wrap .i64 (Int.tdiv (IntKind.wrap .i64 x1) (((r2.length : Nat)) : Int))) (((r2.length : Nat)) : Int))))] (by show ([1, 5, 7, 8, 9, 10, 11, 12, 13, 101] : List Nat).Nodup; decide) (by show ([0, 1, 270] : List Nat).Nodup; decide) ?_ ?_ (fun t0 => ⟨((Int.tmod (IntKind.wrap .i64 x1) (((r2.length : Nat)) : Int)) == (Int.tmod (IntKind.wrap .i64 (Int.tdiv (IntKind.wrap .i64 x1) (((r2.length : Nat)) : Int))) (((r2.length : Nat)) : Int))), t0, H, rfl⟩)
                        · exact (allB_some (by rfl) rfl (.same _ _ Seat.pu (by first | rfl | (simp only [List.map_append, List.map_cons, List.map_nil, List.map_set, List.map_take, List.map_drop, List.map_replicate, List.append_assoc, List.nil_append, List.append_nil, ci_eq, cb_eq, cs_eq, cl_eq, CS,  List.nil_append]; done) | (simp [CS,  ci_eq, cb_eq, cs_eq, cl_eq]; done))) (allB_some (by rfl) rfl (.same _ _ Seat.pu (by first | rfl | (simp only [List.map_append, List.map_cons, List.map_nil, List.map_set, List.map_take, List.map_drop, List.map_replicate, List.append_assoc, List.nil_append, List.append_nil, ci_eq, cb_eq, cs_eq, cl_eq, CS,  List.nil_append]; done) | (simp [CS,  ci_eq, cb_eq, cs_eq, cl_eq]; done))) (allB_some (by rfl) rfl (.cons (.cons (.int' rfl) (.cons (.lst _ _ _ (ci_pu .i64) rfl) (.cons (.int' rfl) (.cons (.int' rfl) (.cons (.int' rfl) (.cons (.lst _ _ _ Entry.pu rfl) (.cons (.int' rfl) (.cons (.lst _ _ _ (ci_pu .i64) rfl) (.cons (.lst _ _ _ (ci_pu .i64) rfl) (.cons (.lst _ _ _ (ci_pu .i64) rfl) .nil)))))))))) .nil) trivial)))
                        · (simp only [AllT, tl_cons, tl_nil, upd_apply, List.getD_cons_zero, List.getD_cons_succ, Nat.reduceEqDiff, ↓reduceIte, and_true]); exact ⟨(.lst _ _ _ (ci_pu .u16) rfl), (.bool' rfl), (.refl' (by first | rfl | omega | (simp; done) | (simp_all; done)) rfl), (.int' rfl), (.refl' (by first | rfl | omega | (simp; done) | (simp_all; done)) rfl), (.int' rfl), (.int' rfl), (.int' rfl), (.ptr _ _ _ _ _ rfl), (.bool' rfl)⟩
                    · rintro s ⟨v2, t0, H, rfl⟩
                      unfold law14_VoteWinner_J5 at H
                      refine a_condb (v2) (by rfl) (fun zc4 => ?_) (fun zc4 => ?_)
                      · have H := cond_t zc4 H
                        refine a_exit ?_
                        refine sA_e ?_
                        refine bA_hit ?_
                        refine cA_n ?_
                        refine wk_l [(some 0, ⟨25, 10, false, seats1.map Seat.c⟩), (some 1, ⟨25, 10, false, won1.map Seat.c⟩)] [] [(1, .list 1 (acts1.map (ci .u16))), (5, .bool r1), (7, .ref 0 0 seats1.length 10), (8, .int .i64 (((r2.length : Nat)) : Int)), (9, .ref 1 0 won1.length 10), (10, .int .i64 i1)] (by show ([1, 5, 7, 8, 9, 10] : List Nat).Nodup; decide) (by show ([0, 1] : List Nat).Nodup; decide) ?_ ?_ (fun t0 => ⟨seats1, won1, t0, H, rfl⟩)
                        · exact (allB_some (by rfl) rfl (.same _ _ Seat.pu (by first | rfl | (simp only [List.map_append, List.map_cons, List.map_nil, List.map_set, List.map_take, List.map_drop, List.map_replicate, List.append_assoc, List.nil_append, List.append_nil, ci_eq, cb_eq, cs_eq, cl_eq, CS,  List.nil_append]; done) | (simp [CS,  ci_eq, cb_eq, cs_eq, cl_eq]; done))) (allB_some (by rfl) rfl (.same _ _ Seat.pu (by first | rfl | (simp only [List.map_append, List.map_cons, List.map_nil, List.map_set, List.map_take, List.map_drop, List.map_replicate, List.append_assoc, List.nil_append, List.append_nil, ci_eq, cb_eq, cs_eq, cl_eq, CS,  List.nil_append]; done) | (simp [CS,  ci_eq, cb_eq, cs_eq, cl_eq]; done))) trivial))
                        · (simp only [AllT, tl_cons, tl_nil, upd_apply, List.getD_cons_zero, List.getD_cons_succ, Nat.reduceEqDiff, ↓reduceIte, and_true]); exact ⟨(.lst _ _ _ (ci_pu .u16) rfl), (.bool' rfl), (.refl' (by first | rfl | omega | (simp; done) | (simp_all; done)) rfl), (.int' rfl), (.refl' (by first | rfl | omega | (simp; done) | (simp_all; done)) rfl), (.int' rfl)⟩
                      · have H := cond_f zc4 H
                        refine a_skip ?_
                        refine sA_n ?_
                        refine a_seq ?_
                        obtain ⟨x4, zh11, H⟩ := bind_some H
                        have zg4 := idx_map zh11 Seat.c
                        obtain ⟨zh11a, zh11b, _⟩ := idx_some zh11
                        obtain ⟨r4, zh12, H⟩ := bind_some H
                        have zk4 := law14_end_pc zh12
                        obtain ⟨r5, zh13, H⟩ := bind_some H
                        have zk5 := vote_Ask_pc zh13
                        refine a_drW (by kernel_rfl) _ rfl (s := ?zs16) (by kernel_rfl) (by kernel_rfl) ?zs16f ?_ ?_ ?_
                        rotate_left 2
                        · try simp (maxSteps := 2000000) only [EVT, stepW, evOp, St.ev, St.app, St.put, wrs, evIndexAddr, evLoad, cut, evFieldAddr, frz, evBuiltin, allOne, evStore, setR, TIS, CS, Nat.reduceAdd, Nat.reduceMul, Nat.reduceEqDiff, ↓reduceIte, reduceCtorEq, Nat.reduceLT, Nat.reduceLeDiff, Int.reduceToNat, Nat.reduceSub, Nat.reduceBEq, ↓zc4, zg4]
                          repeat' with_reducible apply And.intro
                          all_goals try ((with_reducible show CallW _ _ _ _ _ _ _); refine cW_s [] zk4 (fun h2 e => (.cons (.lst _ _ _ Entry.pu rfl) .nil)) (.int _ _) ?_; simp (maxSteps := 2000000) only [EVT, stepW, evOp, St.ev, St.app, St.put, wrs, evIndexAddr, evLoad, cut, evFieldAddr, frz, evBuiltin, allOne, evStore, setR, TIS, CS, Nat.reduceAdd, Nat.reduceMul, Nat.reduceEqDiff, ↓reduceIte, reduceCtorEq, Nat.reduceLT, Nat.reduceLeDiff, Int.reduceToNat, Nat.reduceSub, Nat.reduceBEq, ↓zc4, zg4])
                          repeat' with_reducible apply And.intro
                          all_goals try ((with_reducible show CallW _ _ _ _ _ _ _); refine cW_p [] zk5 (fun h2 e => (.cons (.agg' (.cons (.int' rfl) (.cons (.lst _ _ _ (ci_pu .i64) rfl) (.cons (.int' rfl) (.cons (.int' rfl) (.cons (.int' rfl) (.cons (.lst _ _ _ Entry.pu rfl) (.cons (.int' rfl) (.cons (.lst _ _ _ (ci_pu .i64) rfl) (.cons (.lst _ _ _ (ci_pu .i64) rfl) (.cons (.lst _ _ _ (ci_pu .i64) rfl) .nil))))))))))) (.cons (.int' rfl) (.cons (.int' rfl) (.cons (.int' rfl) (.cons (.int' rfl) .nil)))))) ?_; simp (maxSteps := 2000000) only [EVT, stepW, evOp, St.ev, St.app, St.put, wrs, evIndexAddr, evLoad, cut, evFieldAddr, frz, evBuiltin, allOne, evStore, setR, TIS, CS, Nat.reduceAdd, Nat.reduceMul, Nat.reduceEqDiff, ↓reduceIte, reduceCtorEq, Nat.reduceLT, Nat.reduceLeDiff, Int.reduceToNat, Nat.reduceSub, Nat.reduceBEq, ↓zc4, zg4])
                          all_goals ((repeat' apply And.intro) <;> first | rfl | assumption | omega | (simp; done) | (simp; omega) | (simp_all; done))
                        · kernel_rfl
                        refine sA_n ?_
                        refine a_seq ?_
                        refine a_reg _ rfl (s := ?zs17) ?_ ?_
                        rotate_left
                        · simp (maxSteps := 2000000) only [EVT, stepR, evOp, St.ev, St.app, St.put, wrs, evLoad, cut, evIndexAddr, evStore, setR, allOne, TIS, CS, Nat.reduceAdd, Nat.reduceMul, Nat.reduceEqDiff, ↓reduceIte, reduceCtorEq, Nat.reduceLT, Nat.reduceLeDiff, Int.reduceToNat, Nat.reduceSub, Nat.reduceBEq, ↓zc4, zg4]
                          (repeat' apply And.intro) <;> first | rfl | assumption | omega | (simp; done) | (simp; omega) | (simp_all; done)
                        refine sA_n ?_
                        refine a_cut (fun s => ∃ (seats3 : List Seat) (votes1 : List Int) (t0 : Nat → Dat), law14_VoteWinner_J6 (law14_VoteWinner_L1 acts1 r2 r1 m_law14_VoteWinner_L1) x3 won1 i1 seats3 votes1 = some r ∧ s = ⟨tl t0 [(1, .list 1 (acts1.map (ci .u16))), (5, .bool r1), (7, .ref 0 0 seats3.length 10), (8, .int .i64 (((r2.length : Nat)) : Int)), (9, .ref 1 0 won1.length 10), (10, .int .i64 i1), (13, .ptr 2 0 0 10)], hl [⟨25, 10, false, seats3.map Seat.c⟩, ⟨25, 10, false, won1.map Seat.c⟩, ⟨25, 10, false, [[.int .i64 x3.id, .list 1 (x3.peers.map (ci .i64)), .int .i64 x3.term, .int .i64 x3.voted, .int .i64 x3.role, .list 2 (x3.log.map Entry.c), .int .i64 x3.commit, .list 1 (votes1.map (ci .i64)), .list 1 (x3.next.map (ci .i64)), .list 1 (x3.match_.map (ci .i64))]]⟩], 3, 180⟩) ?_ ?_
                        · refine a_seq ?_
                          refine a_reg _ rfl (s := ?zs26) ?_ ?_
                          rotate_left
                          · simp (maxSteps := 2000000) only [EVT, stepR, evOp, St.ev, St.app, St.put, wrs, TIS, CS, Nat.reduceAdd, Nat.reduceMul, Nat.reduceEqDiff, ↓reduceIte, reduceCtorEq, Nat.reduceLT, Nat.reduceLeDiff, ↓zc4, zg4]
                            (repeat' apply And.intro) <;> first | rfl | assumption | omega | (simp; done) | (simp; omega) | (simp_all; done)
                          refine sA_n ?_
                          refine a_condb (r5.2) (by rfl) (fun zc9 => ?_) (fun zc9 => ?_)
                          · have H := cond_t zc9 H
                            refine a_seq ?_
                            refine a_seq ?_
                            obtain ⟨r7, zh17, H⟩ := bind_some H
                            have zk7 := law14_end_pc zh17
                            obtain ⟨r8, zh18, H⟩ := bind_some H
                            have zk8 := ref13_Newer_pc zh18
                            refine a_drW (by kernel_rfl) _ rfl (s := ?zs27) (by kernel_rfl) (by kernel_rfl) ?zs27f ?_ ?_ ?_
                            rotate_left 2
                            · try simp (maxSteps := 2000000) only [EVT, stepW, evOp, St.ev, St.app, St.put, wrs, evFieldAddr, evLoad, cut, frz, evBuiltin, evUn, TIS, CS, Nat.reduceAdd, Nat.reduceMul, Nat.reduceEqDiff, ↓reduceIte, reduceCtorEq, Nat.reduceLT, Nat.reduceLeDiff, Nat.reduceSub, Nat.reduceBEq, ↓zc4, zg4, ↓zc9]
                              repeat' with_reducible apply And.intro
                              all_goals try ((with_reducible show CallW _ _ _ _ _ _ _); refine cW_s [] zk7 (fun h2 e => (.cons (.lst _ _ _ Entry.pu rfl) .nil)) (.int _ _) ?_; simp (maxSteps := 2000000) only [EVT, stepW, evOp, St.ev, St.app, St.put, wrs, evFieldAddr, evLoad, cut, frz, evBuiltin, evUn, TIS, CS, Nat.reduceAdd, Nat.reduceMul, Nat.reduceEqDiff, ↓reduceIte, reduceCtorEq, Nat.reduceLT, Nat.reduceLeDiff, Nat.reduceSub, Nat.reduceBEq, ↓zc4, zg4, ↓zc9])
                              repeat' with_reducible apply And.intro
                              all_goals try ((with_reducible show CallW _ _ _ _ _ _ _); refine cW_s [] zk8 (fun h2 e => (.cons (.lst _ _ _ Entry.pu rfl) (.cons (.int' rfl) (.cons (.int' rfl) .nil)))) (.bool _) ?_; simp (maxSteps := 2000000) only [EVT, stepW, evOp, St.ev, St.app, St.put, wrs, evFieldAddr, evLoad, cut, frz, evBuiltin, evUn, TIS, CS, Nat.reduceAdd, Nat.reduceMul, Nat.reduceEqDiff, ↓reduceIte, reduceCtorEq, Nat.reduceLT, Nat.reduceLeDiff, Nat.reduceSub, Nat.reduceBEq, ↓zc4, zg4, ↓zc9])
                              all_goals ((repeat' apply And.intro) <;> first | rfl | assumption | omega | (simp; done) | (simp; omega) | (simp_all; done))
                            · kernel_rfl
                            refine sA_n ?_
                            refine a_condb ((!r8)) (by rfl) (fun zc10 => ?_) (fun zc10 => ?_)
                            · have H := cond_t zc10 H
                              refine a_seq ?_
                              refine a_reg _ rfl (s := ?zs28) ?_ ?_
                              rotate_left
                              · simp (maxSteps := 2000000) only [EVT, stepR, evOp, St.ev, St.app, St.put, wrs, datOf, datOf1, TIS, CS, Nat.reduceAdd, Nat.reduceMul, Nat.reduceEqDiff, ↓reduceIte, reduceCtorEq, Nat.reduceLT, Nat.reduceLeDiff, ↓zc4, zg4, ↓zc9, ↓zc10]
                                (repeat' apply And.intro) <;> first | rfl | assumption | omega | (simp; done) | (simp; omega) | (simp_all; done)
                              refine sA_n ?_
                              refine a_ret ?_
                              refine sA_r ?_
                              refine cA_r ?_
                              refine bA_r ?_
                              refine cA_r ?_
                              refine lA_r ?_
                              refine bA_r ?_
                              refine cA_r ?_
                              obtain rfl := Option.some.inj H
                              refine e_r2 (d := ?zd4) ?_ ?_
                              rotate_left
                              · simp only [EVT, resR, single, evLoad, cut, TIS, CS, Nat.reduceAdd, Nat.reduceEqDiff, ↓reduceIte, reduceCtorEq, Nat.reduceLT, Nat.reduceLeDiff, Nat.reduceSub, Nat.reduceBEq, zc4, zg4, zc9, zc10]
                                (repeat' apply And.intro) <;> first | rfl | assumption | omega | (simp; done)
                              exact (.bool' (by first | rfl | assumption | (simp_all; done)))
                            · have H := cond_f zc10 H
                              refine a_skip ?_
                              refine sA_n ?_
                              refine a_seq ?_
                              obtain ⟨zh19, H⟩ := chk_some H
                              obtain ⟨zh20, H⟩ := chk_some H
                              refine a_reg _ rfl (s := ?zs29) ?_ ?_
                              rotate_left
                              · simp (maxSteps := 2000000) only [EVT, stepR, evOp, St.ev, St.app, St.put, wrs, allOne, evFieldAddr, evLoad, cut, evBuiltin, evAppend, elems, Option.elim, evStore, setR, TIS, CS, Nat.reduceAdd, Nat.reduceMul, Nat.reduceEqDiff, ↓reduceIte, reduceCtorEq, Nat.reduceLT, Nat.reduceLeDiff, Nat.reduceSub, Nat.reduceBEq, ↓zc4, zg4, ↓zc9, ↓zc10]
                                (repeat' apply And.intro) <;> first | rfl | assumption | omega | (simp; done) | (simp; omega) | (simp_all; done)
                              refine sA_n ?_
                              obtain ⟨x6, zh21, H⟩ := bind_some H
                              have zg6 := idx_map zh21 Seat.c
                              obtain ⟨zh21a, zh21b, _⟩ := idx_some zh21
                              refine a_reg _ rfl (s := ?zs30) ?_ ?_
                              rotate_left
                              · simp (maxSteps := 2000000) only [EVT, stepR, evOp, St.ev, St.app, St.put, wrs, evLoad, cut, evIndexAddr, evStore, setR, allOne, TIS, CS, Nat.reduceAdd, Nat.reduceMul, Nat.reduceEqDiff, ↓reduceIte, reduceCtorEq, Nat.reduceLT, Nat.reduceLeDiff, Int.reduceToNat, Nat.reduceSub, Nat.reduceBEq, ↓zc4, zg4, ↓zc9, ↓zc10, zg6]
                                (repeat' apply And.intro) <;> first | rfl | assumption | omega | (simp; done) | (simp; omega) | (simp_all; done)
                              refine cA_n ?_
                              refine wk_l [(some 0, ⟨25, 10, false, ((seats1.set ((Int.tmod (IntKind.wrap .i64 (Int.tdiv (IntKind.wrap .i64 x1) (((r2.length : Nat)) : Int))) (((r2.length : Nat)) : Int)).toNat) r5.1).set ((Int.tmod (IntKind.wrap .i64 x1) (((r2.length : Nat)) : Int)).toNat) (⟨x3.id, x3.peers, x3.term, x3.voted, x3.role, x3.log, x3.commit, ((([] : List Int) ++ x3.votes) ++ [(Int.tmod (IntKind.wrap .i64 (Int.tdiv (IntKind.wrap .i64 x1) (((r2.length : Nat)) : Int))) (((r2.length : Nat)) : Int))]), x3.next, x3.match_⟩ : Seat)).map Seat.c⟩), (some 1, ⟨25, 10, false, won1.map Seat.c⟩), (some 2, ⟨25, 10, false, [[.int .i64 x3.id, .list 1 (x3.peers.map (ci .i64)), .int .i64 x3.term, .int .i64 x3.voted, .int .i64 x3.role, .list 2 (x3.log.map Entry.c), .int .i64 x3.commit, .list 1 (((([] : List Int) ++ x3.votes) ++ [(Int.tmod (IntKind.wrap .i64 (Int.tdiv (IntKind.wrap .i64 x1) (((r2.length : Nat)) : Int))) (((r2.length : Nat)) : Int))]).map (ci .i64)), .list 1 (x3.next.map (ci .i64)), .list 1 (x3.match_.map (ci .i64))]]⟩)] [297] [(1, .list 1 (acts1.map (ci .u16))), (5, .bool r1), (7, .ref 0 0 ((seats1.set ((Int.tmod (IntKind.wrap .i64 (Int.tdiv (IntKind.wrap .i64 x1) (((r2.length : Nat)) : Int))) (((r2.length : Nat)) : Int)).toNat) r5.1).set ((Int.tmod (IntKind.wrap .i64 x1) (((r2.length : Nat)) : Int)).toNat) (⟨x3.id, x3.peers, x3.term, x3.voted, x3.role, x3.log, x3.commit, ((([] : List Int) ++ x3.votes) ++ [(Int.tmod (IntKind.wrap .i64 (Int.tdiv (IntKind.wrap .i64 x1) (((r2.length : Nat)) : Int))) (((r2.length : Nat)) : Int))]), x3.next, x3.match_⟩ : Seat)).length 10), (8, .int .i64 (((r2.length : Nat)) : Int)), (9, .ref 1 0 won1.length 10), (10, .int .i64 i1), (13, .ptr 2 0 0 10)] (by show ([1, 5, 7, 8, 9, 10, 13] : List Nat).Nodup; decide) (by show ([0, 1, 2] : List Nat).Nodup; decide) ?_ ?_ (fun t0 => ⟨((seats1.set ((Int.tmod (IntKind.wrap .i64 (Int.tdiv (IntKind.wrap .i64 x1) (((r2.length : Nat)) : Int))) (((r2.length : Nat)) : Int)).toNat) r5.1).set ((Int.tmod (IntKind.wrap .i64 x1) (((r2.length : Nat)) : Int)).toNat) (⟨x3.id, x3.peers, x3.term, x3.voted, x3.role, x3.log, x3.commit, ((([] : List Int) ++ x3.votes) ++ [(Int.tmod (IntKind.wrap .i64 (Int.tdiv (IntKind.wrap .i64 x1) (((r2.length : Nat)) : Int))) (((r2.length : Nat)) : Int))]), x3.next, x3.match_⟩ : Seat)), ((([] : List Int) ++ x3.votes) ++ [(Int.tmod (IntKind.wrap .i64 (Int.tdiv (IntKind.wrap .i64 x1) (((r2.length : Nat)) : Int))) (((r2.length : Nat)) : Int))]), t0, H, rfl⟩)
                              · exact (allB_some (by rfl) rfl (by (simp only [List.map_append, List.map_cons, List.map_nil, List.map_set, List.map_take, List.map_drop, List.map_replicate, List.append_assoc, List.nil_append, List.append_nil, ci_eq, cb_eq, cs_eq, cl_eq, CS, List.nil_append]); repeat' (first | exact RNL.nil | exact RNs.nil | exact .int' rfl | exact .bool' rfl | exact .str' rfl | exact .nil _ | exact .lst _ _ _ (by first | exact ci_pu _ | exact cb_pu | exact cs_pu | exact Entry.pu | exact Seat.pu | exact Call30.pu | exact cl_pu (by first | exact ci_pu _ | exact cb_pu | exact cs_pu | exact Entry.pu | exact Seat.pu | exact Call30.pu | exact cl_pu (ci_pu _))) rfl | exact RNL.same _ _ (by first | exact ci_pu _ | exact cb_pu | exact cs_pu | exact Entry.pu | exact Seat.pu | exact Call30.pu | exact cl_pu (by first | exact ci_pu _ | exact cb_pu | exact cs_pu | exact Entry.pu | exact Seat.pu | exact Call30.pu | exact cl_pu (ci_pu _))) (by first | rfl | (simp only [List.map_append, List.map_cons, List.map_nil, List.map_set, List.map_take, List.map_drop, List.map_replicate, List.append_assoc, List.nil_append, List.append_nil]; rfl)) | (refine RNs.cons ?_ ?_) | (refine RNL.cons ?_ ?_) | (refine RNL.set ?_ ?_) | (refine .frz' rfl (by simp) rfl (by first | rfl | omega | (simp; done) | (simp_all; done)) ?_) | exact .refl' (by first | rfl | omega | (simp; done) | (simp_all; done)) rfl | (refine RNL.app ?_ ?_))) (allB_some (by rfl) rfl (.same _ _ Seat.pu (by first | rfl | (simp only [List.map_append, List.map_cons, List.map_nil, List.map_set, List.map_take, List.map_drop, List.map_replicate, List.append_assoc, List.nil_append, List.append_nil, ci_eq, cb_eq, cs_eq, cl_eq, CS,  List.nil_append]; done) | (simp [CS,  ci_eq, cb_eq, cs_eq, cl_eq]; done))) (allB_some (by rfl) rfl (.cons (.cons (.int' rfl) (.cons (.lst _ _ _ (ci_pu .i64) rfl) (.cons (.int' rfl) (.cons (.int' rfl) (.cons (.int' rfl) (.cons (.lst _ _ _ Entry.pu rfl) (.cons (.int' rfl) (.cons (.frz' (by rfl) (by simp) rfl (by first | rfl | omega | (simp; done) | (simp_all; done)) (.same _ _ (ci_pu .i64) (by first | rfl | (simp only [List.map_append, List.map_cons, List.map_nil, List.map_set, List.map_take, List.map_drop, List.map_replicate, List.append_assoc, List.nil_append, List.append_nil, ci_eq, cb_eq, cs_eq, cl_eq, CS,  List.nil_append]; done) | (simp [CS,  ci_eq, cb_eq, cs_eq, cl_eq]; done)))) (.cons (.lst _ _ _ (ci_pu .i64) rfl) (.cons (.lst _ _ _ (ci_pu .i64) rfl) .nil)))))))))) .nil) trivial)))
                              · (simp only [AllT, tl_cons, tl_nil, upd_apply, List.getD_cons_zero, List.getD_cons_succ, Nat.reduceEqDiff, ↓reduceIte, and_true]); exact ⟨(.lst _ _ _ (ci_pu .u16) rfl), (.bool' rfl), (.refl' (by first | rfl | omega | (simp; done) | (simp_all; done)) rfl), (.int' rfl), (.refl' (by first | rfl | omega | (simp; done) | (simp_all; done)) rfl), (.int' rfl), (.ptr _ _ _ _ _ rfl)⟩
                          · have H := cond_f zc9 H
                            refine a_skip ?_
                            refine cA_n ?_
                            refine wk_l [(some 0, ⟨25, 10, false, (seats1.set ((Int.tmod (IntKind.wrap .i64 (Int.tdiv (IntKind.wrap .i64 x1) (((r2.length : Nat)) : Int))) (((r2.length : Nat)) : Int)).toNat) r5.1).map Seat.c⟩), (some 1, ⟨25, 10, false, won1.map Seat.c⟩), (some 2, ⟨25, 10, false, [[.int .i64 x3.id, .list 1 (x3.peers.map (ci .i64)), .int .i64 x3.term, .int .i64 x3.voted, .int .i64 x3.role, .list 2 (x3.log.map Entry.c), .int .i64 x3.commit, .list 1 (x3.votes.map (ci .i64)), .list 1 (x3.next.map (ci .i64)), .list 1 (x3.match_.map (ci .i64))]]⟩)] [] [(1, .list 1 (acts1.map (ci .u16))), (5, .bool r1), (7, .ref 0 0 (seats1.set ((Int.tmod (IntKind.wrap .i64 (Int.tdiv (IntKind.wrap .i64 x1) (((r2.length : Nat)) : Int))) (((r2.length : Nat)) : Int)).toNat) r5.1).length 10), (8, .int .i64 (((r2.length : Nat)) : Int)), (9, .ref 1 0 won1.length 10), (10, .int .i64 i1), (13, .ptr 2 0 0 10)] (by show ([1, 5, 7, 8, 9, 10, 13] : List Nat).Nodup; decide) (by show ([0, 1, 2] : List Nat).Nodup; decide) ?_ ?_ (fun t0 => ⟨(seats1.set ((Int.tmod (IntKind.wrap .i64 (Int.tdiv (IntKind.wrap .i64 x1) (((r2.length : Nat)) : Int))) (((r2.length : Nat)) : Int)).toNat) r5.1), x3.votes, t0, H, rfl⟩)
                            · exact (allB_some (by rfl) rfl (.same _ _ Seat.pu (by first | rfl | (simp only [List.map_append, List.map_cons, List.map_nil, List.map_set, List.map_take, List.map_drop, List.map_replicate, List.append_assoc, List.nil_append, List.append_nil, ci_eq, cb_eq, cs_eq, cl_eq, CS,  List.nil_append]; done) | (simp [CS,  ci_eq, cb_eq, cs_eq, cl_eq]; done))) (allB_some (by rfl) rfl (.same _ _ Seat.pu (by first | rfl | (simp only [List.map_append, List.map_cons, List.map_nil, List.map_set, List.map_take, List.map_drop, List.map_replicate, List.append_assoc, List.nil_append, List.append_nil, ci_eq, cb_eq, cs_eq, cl_eq, CS,  List.nil_append]; done) | (simp [CS,  ci_eq, cb_eq, cs_eq, cl_eq]; done))) (allB_some (by rfl) rfl (.cons (.cons (.int' rfl) (.cons (.lst _ _ _ (ci_pu .i64) rfl) (.cons (.int' rfl) (.cons (.int' rfl) (.cons (.int' rfl) (.cons (.lst _ _ _ Entry.pu rfl) (.cons (.int' rfl) (.cons (.lst _ _ _ (ci_pu .i64) rfl) (.cons (.lst _ _ _ (ci_pu .i64) rfl) (.cons (.lst _ _ _ (ci_pu .i64) rfl) .nil)))))))))) .nil) trivial)))
                            · (simp only [AllT, tl_cons, tl_nil, upd_apply, List.getD_cons_zero, List.getD_cons_succ, Nat.reduceEqDiff, ↓reduceIte, and_true]); exact ⟨(.lst _ _ _ (ci_pu .u16) rfl), (.bool' rfl), (.refl' (by first | rfl | omega | (simp; done) | (simp_all; done)) rfl), (.int' rfl), (.refl' (by first | rfl | omega | (simp; done) | (simp_all; done)) rfl), (.int' rfl), (.ptr _ _ _ _ _ rfl)⟩
                        · rintro s ⟨seats3, votes1, t0, H, rfl⟩
                          unfold law14_VoteWinner_J6 at H
                          refine a_seq ?_
                          obtain ⟨r6, zh14, H⟩ := bind_some H
                          have zk6 := vote_Won_pc zh14
                          refine a_reg _ rfl (s := ?zs18) ?_ ?_
                          rotate_left
                          · try simp (maxSteps := 2000000) only [EVT, stepR, evOp, St.ev, St.app, St.put, wrs, evFieldAddr, evLoad, cut, frz, TIS, CS, Nat.reduceAdd, Nat.reduceMul, Nat.reduceEqDiff, ↓reduceIte, reduceCtorEq, Nat.reduceLT, Nat.reduceLeDiff, Nat.reduceSub, Nat.reduceBEq]
                            repeat' with_reducible apply And.intro
                            all_goals try ((with_reducible show CallR _ _ _ _ _ _ _); refine cR_s zk6 (.cons (.lst _ _ _ (ci_pu .i64) rfl) (.cons (.lst _ _ _ (ci_pu .i64) rfl) .nil)) (.bool _) ?_; simp (maxSteps := 2000000) only [EVT, stepR, evOp, St.ev, St.app, St.put, wrs, evFieldAddr, evLoad, cut, frz, TIS, CS, Nat.reduceAdd, Nat.reduceMul, Nat.reduceEqDiff, ↓reduceIte, reduceCtorEq, Nat.reduceLT, Nat.reduceLeDiff, Nat.reduceSub, Nat.reduceBEq])
                            all_goals ((repeat' apply And.intro) <;> first | rfl | assumption | omega | (simp; done) | (simp; omega) | (simp_all; done))
                          refine sA_n ?_
                          refine a_condb (r6) (by rfl) (fun zc5 => ?_) (fun zc5 => ?_)
                          · have H := cond_t zc5 H
                            refine a_cut (fun s => ∃ (t0 : Nat → Dat), law14_VoteWinner_J7 (law14_VoteWinner_L1 acts1 r2 r1 m_law14_VoteWinner_L1) won1 i1 seats3 x3 votes1 = some r ∧ s = ⟨tl t0 [(1, .list 1 (acts1.map (ci .u16))), (5, .bool r1), (7, .ref 0 0 seats3.length 10), (8, .int .i64 (((r2.length : Nat)) : Int)), (9, .ref 1 0 won1.length 10), (10, .int .i64 i1), (13, .ptr 2 0 0 10)], hl [⟨25, 10, false, seats3.map Seat.c⟩, ⟨25, 10, false, won1.map Seat.c⟩, ⟨25, 10, false, [[.int .i64 x3.id, .list 1 (x3.peers.map (ci .i64)), .int .i64 x3.term, .int .i64 x3.voted, .int .i64 x3.role, .list 2 (x3.log.map Entry.c), .int .i64 x3.commit, .list 1 (votes1.map (ci .i64)), .list 1 (x3.next.map (ci .i64)), .list 1 (x3.match_.map (ci .i64))]]⟩], 3, 180⟩) ?_ ?_
                            · refine a_seq ?_
                              refine a_reg _ rfl (s := ?zs20) ?_ ?_
                              rotate_left
                              · simp (maxSteps := 2000000) only [EVT, stepR, evOp, St.ev, St.app, St.put, wrs, datOf, datOf1, TIS, CS, Nat.reduceAdd, Nat.reduceMul, Nat.reduceEqDiff, ↓reduceIte, reduceCtorEq, Nat.reduceLT, Nat.reduceLeDiff, ↓zc5]
                                (repeat' apply And.intro) <;> first | rfl | assumption | omega | (simp; done) | (simp; omega) | (simp_all; done)
                              refine sA_n ?_
                              refine a_blk ?_
                              refine a_loop (fun m s => ∃ (k1 : Int) (t0 : Nat → Dat), law14_VoteWinner_L2 (law14_VoteWinner_L1 acts1 r2 r1 m_law14_VoteWinner_L1) won1 x3 i1 seats3 votes1 m k1 = some r ∧ s = ⟨tl t0 [(1, .list 1 (acts1.map (ci .u16))), (5, .bool r1), (7, .ref 0 0 seats3.length 10), (8, .int .i64 (((r2.length : Nat)) : Int)), (9, .ref 1 0 won1.length 10), (10, .int .i64 i1), (13, .ptr 2 0 0 10), (16, .int .i64 k1)], hl [⟨25, 10, false, seats3.map Seat.c⟩, ⟨25, 10, false, won1.map Seat.c⟩, ⟨25, 10, false, [[.int .i64 x3.id, .list 1 (x3.peers.map (ci .i64)), .int .i64 x3.term, .int .i64 x3.voted, .int .i64 x3.role, .list 2 (x3.log.map Entry.c), .int .i64 x3.commit, .list 1 (votes1.map (ci .i64)), .list 1 (x3.next.map (ci .i64)), .list 1 (x3.match_.map (ci .i64))]]⟩], 3, 180⟩) BIG ?_ ?_
                              · refine wk_l [(some 0, ⟨25, 10, false, seats3.map Seat.c⟩), (some 1, ⟨25, 10, false, won1.map Seat.c⟩), (some 2, ⟨25, 10, false, [[.int .i64 x3.id, .list 1 (x3.peers.map (ci .i64)), .int .i64 x3.term, .int .i64 x3.voted, .int .i64 x3.role, .list 2 (x3.log.map Entry.c), .int .i64 x3.commit, .list 1 (votes1.map (ci .i64)), .list 1 (x3.next.map (ci .i64)), .list 1 (x3.match_.map (ci .i64))]]⟩)] [] [(1, .list 1 (acts1.map (ci .u16))), (5, .bool r1), (7, .ref 0 0 seats3.length 10), (8, .int .i64 (((r2.length : Nat)) : Int)), (9, .ref 1 0 won1.length 10), (10, .int .i64 i1), (13, .ptr 2 0 0 10), (16, .int .i64 0)] (by show ([1, 5, 7, 8, 9, 10, 13, 16] : List Nat).Nodup; decide) (by show ([0, 1, 2] : List Nat).Nodup; decide) ?_ ?_ (fun t0 => ⟨0, t0, H, rfl⟩)
                                · exact (allB_some (by rfl) rfl (.same _ _ Seat.pu (by first | rfl | (simp only [List.map_append, List.map_cons, List.map_nil, List.map_set, List.map_take, List.map_drop, List.map_replicate, List.append_assoc, List.nil_append, List.append_nil, ci_eq, cb_eq, cs_eq, cl_eq, CS,  List.nil_append]; done) | (simp [CS,  ci_eq, cb_eq, cs_eq, cl_eq]; done))) (allB_some (by rfl) rfl (.same _ _ Seat.pu (by first | rfl | (simp only [List.map_append, List.map_cons, List.map_nil, List.map_set, List.map_take, List.map_drop, List.map_replicate, List.append_assoc, List.nil_append, List.append_nil, ci_eq, cb_eq, cs_eq, cl_eq, CS,  List.nil_append]; done) | (simp [CS,  ci_eq, cb_eq, cs_eq, cl_eq]; done))) (allB_some (by rfl) rfl (.cons (.cons (.int' rfl) (.cons (.lst _ _ _ (ci_pu .i64) rfl) (.cons (.int' rfl) (.cons (.int' rfl) (.cons (.int' rfl) (.cons (.lst _ _ _ Entry.pu rfl) (.cons (.int' rfl) (.cons (.lst _ _ _ (ci_pu .i64) rfl) (.cons (.lst _ _ _ (ci_pu .i64) rfl) (.cons (.lst _ _ _ (ci_pu .i64) rfl) .nil)))))))))) .nil) trivial)))
                                · (simp only [AllT, tl_cons, tl_nil, upd_apply, List.getD_cons_zero, List.getD_cons_succ, Nat.reduceEqDiff, ↓reduceIte, and_true]); exact ⟨(.lst _ _ _ (ci_pu .u16) rfl), (.bool' rfl), (.refl' (by first | rfl | omega | (simp; done) | (simp_all; done)) rfl), (.int' rfl), (.refl' (by first | rfl | omega | (simp; done) | (simp_all; done)) rfl), (.int' rfl), (.ptr _ _ _ _ _ rfl), (.int' rfl)⟩
                              · rintro m_law14_VoteWinner_L2 s ⟨k1, t0, H, rfl⟩
                                obtain _ | m_law14_VoteWinner_L2 := m_law14_VoteWinner_L2
                                · cases (show (none : Option _) = some _ from H)
                                · rw [law14_VoteWinner_L2] at H
                                  refine a_seq ?_
                                  refine a_seq ?_
                                  refine a_reg _ rfl (s := ?zs21) ?_ ?_
                                  rotate_left
                                  · simp (maxSteps := 2000000) only [EVT, stepR, evOp, St.ev, St.app, St.put, wrs, evBuiltin, evBin, binInt, TIS, CS, Nat.reduceAdd, Nat.reduceMul, Nat.reduceEqDiff, ↓reduceIte, reduceCtorEq, Nat.reduceLT, Nat.reduceLeDiff, Nat.reduceSub, Nat.reduceBEq]
                                    (repeat' apply And.intro) <;> first | rfl | assumption | omega | (simp; done) | (simp; omega) | (simp_all; done)
                                  refine sA_n ?_
                                  refine a_condb ((decide (k1 < (((won1.length : Nat)) : Int)))) (by rfl) (fun zc6 => ?_) (fun zc6 => ?_)
                                  · have H := cond_t zc6 H
                                    refine a_skip ?_
                                    refine sA_n ?_
                                    refine a_seq ?_
                                    refine a_blk ?_
                                    refine a_cut (fun s => ∃ (v3 : Bool) (t0 : Nat → Dat), law14_VoteWinner_J8 (law14_VoteWinner_L2 (law14_VoteWinner_L1 acts1 r2 r1 m_law14_VoteWinner_L1) won1 x3 i1 seats3 votes1 m_law14_VoteWinner_L2) k1 v3 = some r ∧ s = ⟨tl t0 [(1, .list 1 (acts1.map (ci .u16))), (5, .bool r1), (7, .ref 0 0 seats3.length 10), (8, .int .i64 (((r2.length : Nat)) : Int)), (9, .ref 1 0 won1.length 10), (10, .int .i64 i1), (13, .ptr 2 0 0 10), (16, .int .i64 k1), (174, .bool v3)], hl [⟨25, 10, false, seats3.map Seat.c⟩, ⟨25, 10, false, won1.map Seat.c⟩, ⟨25, 10, false, [[.int .i64 x3.id, .list 1 (x3.peers.map (ci .i64)), .int .i64 x3.term, .int .i64 x3.voted, .int .i64 x3.role, .list 2 (x3.log.map Entry.c), .int .i64 x3.commit, .list 1 (votes1.map (ci .i64)), .list 1 (x3.next.map (ci .i64)), .list 1 (x3.match_.map (ci .i64))]]⟩], 3, 180⟩) ?_ ?_
                                    · obtain ⟨x5, zh16, H⟩ := bind_some H
                                      have zg5 := idx_map zh16 Seat.c
                                      obtain ⟨zh16a, zh16b, _⟩ := idx_some zh16
                                      refine bool_split (b := (x5.term == x3.term)) (fun zc8 => ?_) (fun zc8 => ?_)
                                      · rw [zc8] at H
                                        refine a_drW (by kernel_rfl) _ rfl (s := ?zs24) (by kernel_rfl) (by kernel_rfl) ?zs24f ?_ ?_ ?_
                                        rotate_left 2
                                        · simp (maxSteps := 2000000) only [EVT, stepW, evOp, St.ev, St.app, St.put, wrs, evIndexAddr, evFieldAddr, evLoad, cut, evBin, binInt, datOf, datOf1, TIS, CS, Nat.reduceAdd, Nat.reduceMul, Nat.reduceEqDiff, ↓reduceIte, reduceCtorEq, Nat.reduceLT, Nat.reduceLeDiff, Array.reduceGetElem?, Int.reduceToNat, Nat.reduceSub, Nat.reduceBEq, ↓zc6, zg5, ↓zc8]
                                          try simp (maxSteps := 2000000) only [EVT, stepW, evOp, St.ev, St.app, St.put, wrs, evIndexAddr, evFieldAddr, evLoad, cut, evBin, binInt, datOf, datOf1, TIS, CS, Nat.reduceAdd, Nat.reduceMul, Nat.reduceEqDiff, ↓reduceIte, reduceCtorEq, Nat.reduceLT, Nat.reduceLeDiff, Array.reduceGetElem?, Int.reduceToNat, Nat.reduceSub, Nat.reduceBEq, ↓zc6, zg5, ↓zc8]
                                          (repeat' apply And.intro) <;> first | rfl | assumption | omega | (simp; done) | (simp; omega) | (simp_all; done)
                                        · kernel_rfl
                                        refine cA_n ?_
                                        refine wk_l [(some 0, ⟨25, 10, false, seats3.map Seat.c⟩), (some 1, ⟨25, 10, false, won1.map Seat.c⟩), (some 2, ⟨25, 10, false, [[.int .i64 x3.id, .list 1 (x3.peers.map (ci .i64)), .int .i64 x3.term, .int .i64 x3.voted, .int .i64 x3.role, .list 2 (x3.log.map Entry.c), .int .i64 x3.commit, .list 1 (votes1.map (ci .i64)), .list 1 (x3.next.map (ci .i64)), .list 1 (x3.match_.map (ci .i64))]]⟩)] [] [(1, .list 1 (acts1.map (ci .u16))), (5, .bool r1), (7, .ref 0 0 seats3.length 10), (8, .int .i64 (((r2.length : Nat)) : Int)), (9, .ref 1 0 won1.length 10), (10, .int .i64 i1), (13, .ptr 2 0 0 10), (16, .int .i64 k1), (174, .bool (x5.id != x3.id))] (by show ([1, 5, 7, 8, 9, 10, 13, 16, 174] : List Nat).Nodup; decide) (by show ([0, 1, 2] : List Nat).Nodup; decide) ?_ ?_ (fun t0 => ⟨(x5.id != x3.id), t0, H, rfl⟩)
                                        · exact (allB_some (by rfl) rfl (.same _ _ Seat.pu (by first | rfl | (simp only [List.map_append, List.map_cons, List.map_nil, List.map_set, List.map_take, List.map_drop, List.map_replicate, List.append_assoc, List.nil_append, List.append_nil, ci_eq, cb_eq, cs_eq, cl_eq, CS,  List.nil_append]; done) | (simp [CS,  ci_eq, cb_eq, cs_eq, cl_eq]; done))) (allB_some (by rfl) rfl (.same _ _ Seat.pu (by first | rfl | (simp only [List.map_append, List.map_cons, List.map_nil, List.map_set, List.map_take, List.map_drop, List.map_replicate, List.append_assoc, List.nil_append, List.append_nil, ci_eq, cb_eq, cs_eq, cl_eq, CS,  List.nil_append]; done) | (simp [CS,  ci_eq, cb_eq, cs_eq, cl_eq]; done))) (allB_some (by rfl) rfl (.cons (.cons (.int' rfl) (.cons (.lst _ _ _ (ci_pu .i64) rfl) (.cons (.int' rfl) (.cons (.int' rfl) (.cons (.int' rfl) (.cons (.lst _ _ _ Entry.pu rfl) (.cons (.int' rfl) (.cons (.lst _ _ _ (ci_pu .i64) rfl) (.cons (.lst _ _ _ (ci_pu .i64) rfl) (.cons (.lst _ _ _ (ci_pu .i64) rfl) .nil)))))))))) .nil) trivial)))
                                        · (simp only [AllT, tl_cons, tl_nil, upd_apply, List.getD_cons_zero, List.getD_cons_succ, Nat.reduceEqDiff, ↓reduceIte, and_true]); exact ⟨(.lst _ _ _ (ci_pu .u16) rfl), (.bool' rfl), (.refl' (by first | rfl | omega | (simp; done) | (simp_all; done)) rfl), (.int' rfl), (.refl' (by first | rfl | omega | (simp; done) | (simp_all; done)) rfl), (.int' rfl), (.ptr _ _ _ _ _ rfl), (.int' rfl), (.bool' rfl)⟩
                                      · rw [zc8] at H
                                        refine a_drW (by kernel_rfl) _ rfl (s := ?zs25) (by kernel_rfl) (by kernel_rfl) ?zs25f ?_ ?_ ?_
                                        rotate_left 2
                                        · simp (maxSteps := 2000000) only [EVT, stepW, evOp, St.ev, St.app, St.put, wrs, evIndexAddr, evFieldAddr, evLoad, cut, evBin, binInt, datOf, datOf1, TIS, CS, Nat.reduceAdd, Nat.reduceMul, Nat.reduceEqDiff, ↓reduceIte, reduceCtorEq, Nat.reduceLT, Nat.reduceLeDiff, Array.reduceGetElem?, Int.reduceToNat, Nat.reduceSub, Nat.reduceBEq, ↓zc6, zg5, ↓zc8]
                                          try simp (maxSteps := 2000000) only [EVT, stepW, evOp, St.ev, St.app, St.put, wrs, evIndexAddr, evFieldAddr, evLoad, cut, evBin, binInt, datOf, datOf1, TIS, CS, Nat.reduceAdd, Nat.reduceMul, Nat.reduceEqDiff, ↓reduceIte, reduceCtorEq, Nat.reduceLT, Nat.reduceLeDiff, Array.reduceGetElem?, Int.reduceToNat, Nat.reduceSub, Nat.reduceBEq, ↓zc6, zg5, ↓zc8]
                                          (repeat' apply And.intro) <;> first | rfl | assumption | omega | (simp; done) | (simp; omega) | (simp_all; done)
                                        · kernel_rfl
                                        refine cA_n ?_
                                        refine wk_l [(some 0, ⟨25, 10, false, seats3.map Seat.c⟩), (some 1, ⟨25, 10, false, won1.map Seat.c⟩), (some 2, ⟨25, 10, false, [[.int .i64 x3.id, .list 1 (x3.peers.map (ci .i64)), .int .i64 x3.term, .int .i64 x3.voted, .int .i64 x3.role, .list 2 (x3.log.map Entry.c), .int .i64 x3.commit, .list 1 (votes1.map (ci .i64)), .list 1 (x3.next.map (ci .i64)), .list 1 (x3.match_.map (ci .i64))]]⟩)] [] [(1, .list 1 (acts1.map (ci .u16))), (5, .bool r1), (7, .ref 0 0 seats3.length 10), (8, .int .i64 (((r2.length : Nat)) : Int)), (9, .ref 1 0 won1.length 10), (10, .int .i64 i1), (13, .ptr 2 0 0 10), (16, .int .i64 k1), (174, .bool false)] (by show ([1, 5, 7, 8, 9, 10, 13, 16, 174] : List Nat).Nodup; decide) (by show ([0, 1, 2] : List Nat).Nodup; decide) ?_ ?_ (fun t0 => ⟨false, t0, H, rfl⟩)
                                        · exact (allB_some (by rfl) rfl (.same _ _ Seat.pu (by first | rfl | (simp only [List.map_append, List.map_cons, List.map_nil, List.map_set, List.map_take, List.map_drop, List.map_replicate, List.append_assoc, List.nil_append, List.append_nil, ci_eq, cb_eq, cs_eq, cl_eq, CS,  List.nil_append]; done) | (simp [CS,  ci_eq, cb_eq, cs_eq, cl_eq]; done))) (allB_some (by rfl) rfl (.same _ _ Seat.pu (by first | rfl | (simp only [List.map_append, List.map_cons, List.map_nil, List.map_set, List.map_take, List.map_drop, List.map_replicate, List.append_assoc, List.nil_append, List.append_nil, ci_eq, cb_eq, cs_eq, cl_eq, CS,  List.nil_append]; done) | (simp [CS,  ci_eq, cb_eq, cs_eq, cl_eq]; done))) (allB_some (by rfl) rfl (.cons (.cons (.int' rfl) (.cons (.lst _ _ _ (ci_pu .i64) rfl) (.cons (.int' rfl) (.cons (.int' rfl) (.cons (.int' rfl) (.cons (.lst _ _ _ Entry.pu rfl) (.cons (.int' rfl) (.cons (.lst _ _ _ (ci_pu .i64) rfl) (.cons (.lst _ _ _ (ci_pu .i64) rfl) (.cons (.lst _ _ _ (ci_pu .i64) rfl) .nil)))))))))) .nil) trivial)))
                                        · (simp only [AllT, tl_cons, tl_nil, upd_apply, List.getD_cons_zero, List.getD_cons_succ, Nat.reduceEqDiff, ↓reduceIte, and_true]); exact ⟨(.lst _ _ _ (ci_pu .u16) rfl), (.bool' rfl), (.refl' (by first | rfl | omega | (simp; done) | (simp_all; done)) rfl), (.int' rfl), (.refl' (by first | rfl | omega | (simp; done) | (simp_all; done)) rfl), (.int' rfl), (.ptr _ _ _ _ _ rfl), (.int' rfl), (.bool' (by first | rfl | assumption | (simp_all; done)))⟩
                                    · rintro s ⟨v3, t0, H, rfl⟩
                                      unfold law14_VoteWinner_J8 at H
                                      refine a_condb (v3) (by rfl) (fun zc7 => ?_) (fun zc7 => ?_)
                                      · have H := cond_t zc7 H
                                        refine a_seq ?_
                                        refine a_reg _ rfl (s := ?zs22) ?_ ?_
                                        rotate_left
                                        · simp (maxSteps := 2000000) only [EVT, stepR, evOp, St.ev, St.app, St.put, wrs, datOf, datOf1, TIS, CS, Nat.reduceAdd, Nat.reduceMul, Nat.reduceEqDiff, ↓reduceIte, reduceCtorEq, Nat.reduceLT, Nat.reduceLeDiff, ↓zc7]
                                          (repeat' apply And.intro) <;> first | rfl | assumption | omega | (simp; done) | (simp; omega) | (simp_all; done)
                                        refine sA_n ?_
                                        refine a_ret ?_
                                        refine bA_r ?_
                                        refine sA_r ?_
                                        refine lA_r ?_
                                        refine bA_r ?_
                                        refine cA_r ?_
                                        refine bA_r ?_
                                        refine cA_r ?_
                                        refine lA_r ?_
                                        refine bA_r ?_
                                        refine cA_r ?_
                                        obtain rfl := Option.some.inj H
                                        refine e_r2 (d := ?zd3) ?_ ?_
                                        rotate_left
                                        · simp only [EVT, resR, single, evLoad, cut, TIS, CS, Nat.reduceAdd, Nat.reduceEqDiff, ↓reduceIte, reduceCtorEq, Nat.reduceLT, Nat.reduceLeDiff, Nat.reduceSub, Nat.reduceBEq, zc7]
                                          (repeat' apply And.intro) <;> first | rfl | assumption | omega | (simp; done)
                                        exact (.bool' (by first | rfl | assumption | (simp_all; done)))
                                      · have H := cond_f zc7 H
                                        refine a_skip ?_
                                        refine bA_n ?_
                                        refine sA_n ?_
                                        refine a_reg _ rfl (s := ?zs23) ?_ ?_
                                        rotate_left
                                        · simp (maxSteps := 2000000) only [EVT, stepR, evOp, St.ev, St.app, St.put, wrs, datOf, datOf1, evBin, binInt, TIS, CS, Nat.reduceAdd, Nat.reduceMul, Nat.reduceEqDiff, ↓reduceIte, reduceCtorEq, Nat.reduceLT, Nat.reduceLeDiff, ↓zc7]
                                          (repeat' apply And.intro) <;> first | rfl | assumption | omega | (simp; done) | (simp; omega) | (simp_all; done)
                                        refine lA_n ?_
                                        refine wk_l [(some 0, ⟨25, 10, false, seats3.map Seat.c⟩), (some 1, ⟨25, 10, false, won1.map Seat.c⟩), (some 2, ⟨25, 10, false, [[.int .i64 x3.id, .list 1 (x3.peers.map (ci .i64)), .int .i64 x3.term, .int .i64 x3.voted, .int .i64 x3.role, .list 2 (x3.log.map Entry.c), .int .i64 x3.commit, .list 1 (votes1.map (ci .i64)), .list 1 (x3.next.map (ci .i64)), .list 1 (x3.match_.map (ci .i64))]]⟩)] [] [(1, .list 1 (acts1.map (ci .u16))), (5, .bool r1), (7, .ref 0 0 seats3.length 10), (8, .int .i64 (((r2.length : Nat)) : Int)), (9, .ref 1 0 won1.length 10), (10, .int .i64 i1), (13, .ptr 2 0 0 10), (16, .int .i64 (IntKind.wrap .i64 (k1 + 1)))] (by show ([1, 5, 7, 8, 9, 10, 13, 16] : List Nat).Nodup; decide) (by show ([0, 1, 2] : List Nat).Nodup; decide) ?_ ?_ (fun t0 => ⟨_, Nat.lt_succ_self _, (IntKind.wrap .i64 (k1 + 1)), t0, H, rfl⟩)
                                        · exact (allB_some (by rfl) rfl (.same _ _ Seat.pu (by first | rfl | (simp only [List.map_append, List.map_cons, List.map_nil, List.map_set, List.map_take, List.map_drop, List.map_replicate, List.append_assoc, List.nil_append, List.append_nil, ci_eq, cb_eq, cs_eq, cl_eq, CS,  List.nil_append]; done) | (simp [CS,  ci_eq, cb_eq, cs_eq, cl_eq]; done))) (allB_some (by rfl) rfl (.same _ _ Seat.pu (by first | rfl | (simp only [List.map_append, List.map_cons, List.map_nil, List.map_set, List.map_take, List.map_drop, List.map_replicate, List.append_assoc, List.nil_append, List.append_nil, ci_eq, cb_eq, cs_eq, cl_eq, CS,  List.nil_append]; done) | (simp [CS,  ci_eq, cb_eq, cs_eq, cl_eq]; done))) (allB_some (by rfl) rfl (.cons (.cons (.int' rfl) (.cons (.lst _ _ _ (ci_pu .i64) rfl) (.cons (.int' rfl) (.cons (.int' rfl) (.cons (.int' rfl) (.cons (.lst _ _ _ Entry.pu rfl) (.cons (.int' rfl) (.cons (.lst _ _ _ (ci_pu .i64) rfl) (.cons (.lst _ _ _ (ci_pu .i64) rfl) (.cons (.lst _ _ _ (ci_pu .i64) rfl) .nil)))))))))) .nil) trivial)))
                                        · (simp only [AllT, tl_cons, tl_nil, upd_apply, List.getD_cons_zero, List.getD_cons_succ, Nat.reduceEqDiff, ↓reduceIte, and_true]); exact ⟨(.lst _ _ _ (ci_pu .u16) rfl), (.bool' rfl), (.refl' (by first | rfl | omega | (simp; done) | (simp_all; done)) rfl), (.int' rfl), (.refl' (by first | rfl | omega | (simp; done) | (simp_all; done)) rfl), (.int' rfl), (.ptr _ _ _ _ _ rfl), (.int' rfl)⟩
                                  · have H := cond_f zc6 H
                                    refine a_exit ?_
                                    refine sA_e ?_
                                    refine lA_e ?_
                                    refine bA_hit ?_
                                    refine cA_n ?_
                                    refine wk_l [(some 0, ⟨25, 10, false, seats3.map Seat.c⟩), (some 1, ⟨25, 10, false, won1.map Seat.c⟩), (some 2, ⟨25, 10, false, [[.int .i64 x3.id, .list 1 (x3.peers.map (ci .i64)), .int .i64 x3.term, .int .i64 x3.voted, .int .i64 x3.role, .list 2 (x3.log.map Entry.c), .int .i64 x3.commit, .list 1 (votes1.map (ci .i64)), .list 1 (x3.next.map (ci .i64)), .list 1 (x3.match_.map (ci .i64))]]⟩)] [] [(1, .list 1 (acts1.map (ci .u16))), (5, .bool r1), (7, .ref 0 0 seats3.length 10), (8, .int .i64 (((r2.length : Nat)) : Int)), (9, .ref 1 0 won1.length 10), (10, .int .i64 i1), (13, .ptr 2 0 0 10)] (by show ([1, 5, 7, 8, 9, 10, 13] : List Nat).Nodup; decide) (by show ([0, 1, 2] : List Nat).Nodup; decide) ?_ ?_ (fun t0 => ⟨t0, H, rfl⟩)
                                    · exact (allB_some (by rfl) rfl (.same _ _ Seat.pu (by first | rfl | (simp only [List.map_append, List.map_cons, List.map_nil, List.map_set, List.map_take, List.map_drop, List.map_replicate, List.append_assoc, List.nil_append, List.append_nil, ci_eq, cb_eq, cs_eq, cl_eq, CS,  List.nil_append]; done) | (simp [CS,  ci_eq, cb_eq, cs_eq, cl_eq]; done))) (allB_some (by rfl) rfl (.same _ _ Seat.pu (by first | rfl | (simp only [List.map_append, List.map_cons, List.map_nil, List.map_set, List.map_take, List.map_drop, List.map_replicate, List.append_assoc, List.nil_append, List.append_nil, ci_eq, cb_eq, cs_eq, cl_eq, CS,  List.nil_append]; done) | (simp [CS,  ci_eq, cb_eq, cs_eq, cl_eq]; done))) (allB_some (by rfl) rfl (.cons (.cons (.int' rfl) (.cons (.lst _ _ _ (ci_pu .i64) rfl) (.cons (.int' rfl) (.cons (.int' rfl) (.cons (.int' rfl) (.cons (.lst _ _ _ Entry.pu rfl) (.cons (.int' rfl) (.cons (.lst _ _ _ (ci_pu .i64) rfl) (.cons (.lst _ _ _ (ci_pu .i64) rfl) (.cons (.lst _ _ _ (ci_pu .i64) rfl) .nil)))))))))) .nil) trivial)))
                                    · (simp only [AllT, tl_cons, tl_nil, upd_apply, List.getD_cons_zero, List.getD_cons_succ, Nat.reduceEqDiff, ↓reduceIte, and_true]); exact ⟨(.lst _ _ _ (ci_pu .u16) rfl), (.bool' rfl), (.refl' (by first | rfl | omega | (simp; done) | (simp_all; done)) rfl), (.int' rfl), (.refl' (by first | rfl | omega | (simp; done) | (simp_all; done)) rfl), (.int' rfl), (.ptr _ _ _ _ _ rfl)⟩
                            · rintro s ⟨t0, H, rfl⟩
                              unfold law14_VoteWinner_J7 at H
                              obtain ⟨zh15, H⟩ := chk_some H
                              refine a_reg _ rfl (s := ?zs19) ?_ ?_
                              rotate_left
                              · simp (maxSteps := 2000000) only [EVT, stepR, evOp, St.ev, St.app, St.put, wrs, evLoad, cut, allOne, evBuiltin, evAppend, elems, Option.elim, TIS, CS, Nat.reduceAdd, Nat.reduceMul, Nat.reduceEqDiff, ↓reduceIte, reduceCtorEq, Nat.reduceLT, Nat.reduceLeDiff, Nat.reduceSub, Nat.reduceBEq]
                                (repeat' apply And.intro) <;> first | rfl | assumption | omega | (simp; done) | (simp; omega) | (simp_all; done)
                              refine bA_n ?_
                              refine cA_n ?_
                              refine wk_l [(some 0, ⟨25, 10, false, seats3.map Seat.c⟩), (some 6, ⟨25, 10, false, (won1 ++ [(⟨x3.id, x3.peers, x3.term, x3.voted, x3.role, x3.log, x3.commit, votes1, x3.next, x3.match_⟩ : Seat)]).map Seat.c⟩)] [] [(1, .list 1 (acts1.map (ci .u16))), (5, .bool r1), (7, .ref 0 0 seats3.length 10), (8, .int .i64 (((r2.length : Nat)) : Int)), (9, .ref 1 0 (won1 ++ [(⟨x3.id, x3.peers, x3.term, x3.voted, x3.role, x3.log, x3.commit, votes1, x3.next, x3.match_⟩ : Seat)]).length 10), (10, .int .i64 i1)] (by show ([1, 5, 7, 8, 9, 10] : List Nat).Nodup; decide) (by show ([0, 6] : List Nat).Nodup; decide) ?_ ?_ (fun t0 => ⟨seats3, (won1 ++ [(⟨x3.id, x3.peers, x3.term, x3.voted, x3.role, x3.log, x3.commit, votes1, x3.next, x3.match_⟩ : Seat)]), t0, H, rfl⟩)
                              · exact (allB_some (by rfl) rfl (.same _ _ Seat.pu (by first | rfl | (simp only [List.map_append, List.map_cons, List.map_nil, List.map_set, List.map_take, List.map_drop, List.map_replicate, List.append_assoc, List.nil_append, List.append_nil, ci_eq, cb_eq, cs_eq, cl_eq, CS,  List.nil_append]; done) | (simp [CS,  ci_eq, cb_eq, cs_eq, cl_eq]; done))) (allB_some (by rfl) rfl (.same _ _ Seat.pu (by first | rfl | (simp only [List.map_append, List.map_cons, List.map_nil, List.map_set, List.map_take, List.map_drop, List.map_replicate, List.append_assoc, List.nil_append, List.append_nil, ci_eq, cb_eq, cs_eq, cl_eq, CS,  List.nil_append]; done) | (simp [CS,  ci_eq, cb_eq, cs_eq, cl_eq]; done))) trivial))
                              · (simp only [AllT, tl_cons, tl_nil, upd_apply, List.getD_cons_zero, List.getD_cons_succ, Nat.reduceEqDiff, ↓reduceIte, and_true]); exact ⟨(.lst _ _ _ (ci_pu .u16) rfl), (.bool' rfl), (.refl' (by first | rfl | omega | (simp; done) | (simp_all; done)) rfl), (.int' rfl), (.refl' (by first | rfl | omega | (simp; done) | (simp_all; done)) rfl), (.int' rfl)⟩
                          · have H := cond_f zc5 H
                            refine a_skip ?_
                            refine bA_n ?_
                            refine cA_n ?_
                            refine wk_l [(some 0, ⟨25, 10, false, seats3.map Seat.c⟩), (some 1, ⟨25, 10, false, won1.map Seat.c⟩)] [] [(1, .list 1 (acts1.map (ci .u16))), (5, .bool r1), (7, .ref 0 0 seats3.length 10), (8, .int .i64 (((r2.length : Nat)) : Int)), (9, .ref 1 0 won1.length 10), (10, .int .i64 i1)] (by show ([1, 5, 7, 8, 9, 10] : List Nat).Nodup; decide) (by show ([0, 1] : List Nat).Nodup; decide) ?_ ?_ (fun t0 => ⟨seats3, won1, t0, H, rfl⟩)
                            · exact (allB_some (by rfl) rfl (.same _ _ Seat.pu (by first | rfl | (simp only [List.map_append, List.map_cons, List.map_nil, List.map_set, List.map_take, List.map_drop, List.map_replicate, List.append_assoc, List.nil_append, List.append_nil, ci_eq, cb_eq, cs_eq, cl_eq, CS,  List.nil_append]; done) | (simp [CS,  ci_eq, cb_eq, cs_eq, cl_eq]; done))) (allB_some (by rfl) rfl (.same _ _ Seat.pu (by first | rfl | (simp only [List.map_append, List.map_cons, List.map_nil, List.map_set, List.map_take, List.map_drop, List.map_replicate, List.append_assoc, List.nil_append, List.append_nil, ci_eq, cb_eq, cs_eq, cl_eq, CS,  List.nil_append]; done) | (simp [CS,  ci_eq, cb_eq, cs_eq, cl_eq]; done))) trivial))
                            · (simp only [AllT, tl_cons, tl_nil, upd_apply, List.getD_cons_zero, List.getD_cons_succ, Nat.reduceEqDiff, ↓reduceIte, and_true]); exact ⟨(.lst _ _ _ (ci_pu .u16) rfl), (.bool' rfl), (.refl' (by first | rfl | omega | (simp; done) | (simp_all; done)) rfl), (.int' rfl), (.refl' (by first | rfl | omega | (simp; done) | (simp_all; done)) rfl), (.int' rfl)⟩
                · rintro s ⟨seats2, won2, t0, H, rfl⟩
                  unfold law14_VoteWinner_J4 at H
                  refine a_reg _ rfl (s := ?zs10) ?_ ?_
                  rotate_left
                  · simp (maxSteps := 2000000) only [EVT, stepR, evOp, St.ev, St.app, St.put, wrs, datOf, datOf1, evBin, binInt, TIS, CS, Nat.reduceAdd, Nat.reduceMul, Nat.reduceEqDiff, ↓reduceIte, reduceCtorEq, Nat.reduceLT, Nat.reduceLeDiff]
                    (repeat' apply And.intro) <;> first | rfl | assumption | omega | (simp; done) | (simp; omega) | (simp_all; done)
                  refine lA_n ?_
                  refine wk_l [(some 0, ⟨25, 10, false, seats2.map Seat.c⟩), (some 1, ⟨25, 10, false, won2.map Seat.c⟩)] [] [(1, .list 1 (acts1.map (ci .u16))), (5, .bool r1), (7, .ref 0 0 seats2.length 10), (8, .int .i64 (((r2.length : Nat)) : Int)), (9, .ref 1 0 won2.length 10), (10, .int .i64 (IntKind.wrap .i64 (i1 + 1)))] (by show ([1, 5, 7, 8, 9, 10] : List Nat).Nodup; decide) (by show ([0, 1] : List Nat).Nodup; decide) ?_ ?_ (fun t0 => ⟨_, Nat.lt_succ_self _, seats2, won2, (IntKind.wrap .i64 (i1 + 1)), t0, H, rfl⟩)
                  · exact (allB_some (by rfl) rfl (.same _ _ Seat.pu (by first | rfl | (simp only [List.map_append, List.map_cons, List.map_nil, List.map_set, List.map_take, List.map_drop, List.map_replicate, List.append_assoc, List.nil_append, List.append_nil, ci_eq, cb_eq, cs_eq, cl_eq, CS,  List.nil_append]; done) | (simp [CS,  ci_eq, cb_eq, cs_eq, cl_eq]; done))) (allB_some (by rfl) rfl (.same _ _ Seat.pu (by first | rfl | (simp only [List.map_append, List.map_cons, List.map_nil, List.map_set, List.map_take, List.map_drop, List.map_replicate, List.append_assoc, List.nil_append, List.append_nil, ci_eq, cb_eq, cs_eq, cl_eq, CS,  List.nil_append]; done) | (simp [CS,  ci_eq, cb_eq, cs_eq, cl_eq]; done))) trivial))
                  · (simp only [AllT, tl_cons, tl_nil, upd_apply, List.getD_cons_zero, List.getD_cons_succ, Nat.reduceEqDiff, ↓reduceIte, and_true]); exact ⟨(.lst _ _ _ (ci_pu .u16) rfl), (.bool' rfl), (.refl' (by first | rfl | omega | (simp; done) | (simp_all; done)) rfl), (.int' rfl), (.refl' (by first | rfl | omega | (simp; done) | (simp_all; done)) rfl), (.int' rfl)⟩
              · have H := cond_f zc2 H
                refine a_exit ?_
                refine sA_e ?_
                refine lA_e ?_
                refine bA_hit ?_
                refine cA_n ?_
                refine wk_l [] [] [(5, .bool r1)] (by show ([5] : List Nat).Nodup; decide) (by show ([] : List Nat).Nodup; decide) ?_ ?_ (fun t0 => ⟨t0, H, rfl⟩)
                · exact trivial
                · (simp only [AllT, tl_cons, tl_nil, upd_apply, List.getD_cons_zero, List.getD_cons_succ, Nat.reduceEqDiff, ↓reduceIte, and_true]); exact (.bool' rfl)
        · rintro s ⟨t0, H, rfl⟩
          unfold law14_VoteWinner_J3 at H
          refine a_seq ?_
          refine a_reg _ rfl (s := ?zs7) ?_ ?_
          rotate_left
          · simp (maxSteps := 2000000) only [EVT, stepR, evOp, St.ev, St.app, St.put, wrs, TIS, CS, Nat.reduceAdd, Nat.reduceMul, Nat.reduceEqDiff, ↓reduceIte, reduceCtorEq, Nat.reduceLT, Nat.reduceLeDiff]
            (repeat' apply And.intro) <;> first | rfl | assumption | omega | (simp; done) | (simp; omega) | (simp_all; done)
          refine sA_n ?_
          refine a_ret ?_
          obtain rfl := Option.some.inj H
          refine e_r2 (d := ?zd2) ?_ ?_
          rotate_left
          · simp only [EVT, resR, single, evLoad, cut, TIS, CS, Nat.reduceAdd, Nat.reduceEqDiff, ↓reduceIte, reduceCtorEq, Nat.reduceLT, Nat.reduceLeDiff, Nat.reduceSub, Nat.reduceBEq]
            (repeat' apply And.intro) <;> first | rfl | assumption | omega | (simp; done)
          exact (.bool' rfl)
end
end Go.Proofs.Ytecdonbjabjaeaa
