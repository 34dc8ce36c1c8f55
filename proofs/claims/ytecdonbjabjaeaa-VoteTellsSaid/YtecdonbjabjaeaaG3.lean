/- Functions of the program as Lean functions, and that they are so; printed by a program of mine. -/
import Derived.Test.YtecdonbjabjaeaaF3
set_option linter.unusedSimpArgs false
set_option linter.unusedVariables false
namespace Go.Proofs.Ytecdonbjabjaeaa
open Go.Ab
noncomputable section

def law14_VoteTells_J2 (r1 : Bool) (votes1 : List Int) (s1 : Seat) : Option Bool :=
  cond r1 ((vote_Won_f votes1 s1.peers).bind fun r3 => (ref14_Won_f votes1 s1.peers).bind fun r4 => some ((r3 == r4))) (some (false))
def law14_VoteTells_J4 (k_law14_VoteTells_L1 : Seat → Int → Option Bool) (r5 : Seat × Bool) (i1 : Int) (v2 : Bool) : Option Bool :=
  cond v2 (some (false)) (k_law14_VoteTells_L1 r5.1 (IntKind.wrap .i64 (i1 + 1)))
def law14_VoteTells_J3 (k_law14_VoteTells_L1 : Seat → Int → Option Bool) (r5 : Seat × Bool) (i1 : Int) (want1 : Seat) (was1 : Bool) : Option Bool :=
  (ref14_Same_f r5.1 want1).bind fun r6 => law14_VoteTells_J4 k_law14_VoteTells_L1 r5 i1 ((!r6) || (!(r5.2 == was1)))
def law14_VoteTells_L1 (l1 : List Call30) (r1 : Bool) (votes1 : List Int) (s1 : Seat) : Nat → Seat → Int → Option Bool
  | 0, _, _ => none
  | m_ + 1, now1, i1 => cond (decide (i1 < (l1.length : Int))) ((idx l1 i1).bind fun x1 => (law14_step_f now1 x1).bind fun r5 => cond ((Int.tmod x1.do_ 4) == 0) ((ref14_Begin_f now1).bind fun r7 => law14_VoteTells_J3 (law14_VoteTells_L1 l1 r1 votes1 s1 m_) r5 i1 r7 false) (cond (decide (1 < (Int.tmod x1.do_ 4))) ((ref14_Ask_f now1 (IntKind.wrap .i64 x1.term) (IntKind.wrap .i64 x1.who) (IntKind.wrap .i64 x1.last) (IntKind.wrap .i64 x1.many)).bind fun r8 => law14_VoteTells_J3 (law14_VoteTells_L1 l1 r1 votes1 s1 m_) r5 i1 r8.1 r8.2) (cond (decide (now1.term < (IntKind.wrap .i64 x1.term))) ((ref14_Down_f now1 (IntKind.wrap .i64 x1.term)).bind fun r9 => law14_VoteTells_J3 (law14_VoteTells_L1 l1 r1 votes1 s1 m_) r5 i1 r9 false) (law14_VoteTells_J3 (law14_VoteTells_L1 l1 r1 votes1 s1 m_) r5 i1 now1 false)))) (law14_VoteTells_J2 r1 votes1 s1)
def law14_VoteTells_J1 (r1 : Bool) (l1 : List Call30) (votes1 : List Int) (s1 : Seat) (v1 : Bool) : Option Bool :=
  cond v1 (some (r1)) (law14_VoteTells_L1 l1 r1 votes1 s1 BIG s1 0)
def law14_VoteTells_f (s1 : Seat) (l1 : List Call30) (votes1 : List Int) : Option Bool :=
  (law14_head_f).bind fun r1 => (law14_Fits_f s1).bind fun r2 => law14_VoteTells_J1 r1 l1 votes1 s1 ((!r2) || ((decide (30 < (l1.length : Int))) || (decide (30 < (votes1.length : Int)))))
set_option maxHeartbeats 4000000 in
set_option maxRecDepth 20000 in
theorem law14_VoteTells_pc {s1 : Seat} {l1 : List Call30} {votes1 : List Int} {r : Bool} (H : law14_VoteTells_f s1 l1 votes1 = some r) : PC Try.prog 3 [.agg (Seat.c s1), .list 5 (l1.map Call30.c), .list 1 (votes1.map (ci .i64))] (.bool r) := by
  refine pcA_of Try.func3 (by rfl) (by decide) 116 (by rfl) [.tmp 6] (by rfl) ?_
  unfold law14_VoteTells_f at H
  simp only [ent]
  refine a_seq ?_
  refine a_reg _ rfl (s := ?zs1) ?_ ?_
  rotate_left
  · simp (maxSteps := 2000000) only [EVT, stepR, evOp, St.ev, St.app, St.put, wrs, allOne, datOf, datOf1, TIS, CS, Nat.reduceAdd, Nat.reduceMul, Nat.reduceEqDiff, ↓reduceIte, reduceCtorEq, Nat.reduceLT, Nat.reduceLeDiff]
    (repeat' apply And.intro) <;> first | rfl | assumption | omega | (simp; done) | (simp; omega) | (simp_all; done)
  refine sA_n ?_
  refine a_seq ?_
  obtain ⟨r1, zh1, H⟩ := bind_some H
  have zk1 := law14_head_pc zh1
  refine a_reg _ rfl (s := ?zs2) ?_ ?_
  rotate_left
  · try simp (maxSteps := 2000000) only [EVT, stepR, evOp, St.ev, St.app, St.put, wrs, frz, TIS, CS, Nat.reduceAdd, Nat.reduceMul, Nat.reduceEqDiff, ↓reduceIte, reduceCtorEq, Nat.reduceLT, Nat.reduceLeDiff, Nat.reduceSub, Nat.reduceBEq]
    repeat' with_reducible apply And.intro
    all_goals try ((with_reducible show CallR _ _ _ _ _ _ _); refine cR_s zk1 .nil (.bool _) ?_; simp (maxSteps := 2000000) only [EVT, stepR, evOp, St.ev, St.app, St.put, wrs, frz, TIS, CS, Nat.reduceAdd, Nat.reduceMul, Nat.reduceEqDiff, ↓reduceIte, reduceCtorEq, Nat.reduceLT, Nat.reduceLeDiff, Nat.reduceSub, Nat.reduceBEq])
    all_goals ((repeat' apply And.intro) <;> first | rfl | assumption | omega | (simp; done) | (simp; omega) | (simp_all; done))
  refine sA_n ?_
  refine a_seq ?_
  obtain ⟨r2, zh2, H⟩ := bind_some H
  have zk2 := law14_Fits_pc zh2
  refine a_reg _ rfl (s := ?zs3) ?_ ?_
  rotate_left
  · try simp (maxSteps := 2000000) only [EVT, stepR, evOp, St.ev, St.app, St.put, wrs, evLoad, cut, frz, TIS, CS, Nat.reduceAdd, Nat.reduceMul, Nat.reduceEqDiff, ↓reduceIte, reduceCtorEq, Nat.reduceLT, Nat.reduceLeDiff, Nat.reduceSub, Nat.reduceBEq]
    repeat' with_reducible apply And.intro
    all_goals try ((with_reducible show CallR _ _ _ _ _ _ _); refine cR_s zk2 (.cons (.agg' (.cons (.int' rfl) (.cons (.lst _ _ _ (ci_pu .i64) rfl) (.cons (.int' rfl) (.cons (.int' rfl) (.cons (.int' rfl) (.cons (.lst _ _ _ Entry.pu rfl) (.cons (.int' rfl) (.cons (.lst _ _ _ (ci_pu .i64) rfl) (.cons (.lst _ _ _ (ci_pu .i64) rfl) (.cons (.lst _ _ _ (ci_pu .i64) rfl) .nil))))))))))) .nil) (.bool _) ?_; simp (maxSteps := 2000000) only [EVT, stepR, evOp, St.ev, St.app, St.put, wrs, evLoad, cut, frz, TIS, CS, Nat.reduceAdd, Nat.reduceMul, Nat.reduceEqDiff, ↓reduceIte, reduceCtorEq, Nat.reduceLT, Nat.reduceLeDiff, Nat.reduceSub, Nat.reduceBEq])
    all_goals ((repeat' apply And.intro) <;> first | rfl | assumption | omega | (simp; done) | (simp; omega) | (simp_all; done))
  refine sA_n ?_
  refine a_seq ?_
  refine a_cut (fun s => ∃ (v1 : Bool) (t0 : Nat → Dat), law14_VoteTells_J1 r1 l1 votes1 s1 v1 = some r ∧ s = ⟨tl t0 [(1, .list 5 (l1.map Call30.c)), (2, .list 1 (votes1.map (ci .i64))), (3, .ptr 0 0 0 10), (7, .bool r1), (33, .bool v1)], hl [⟨25, 10, false, [[.int .i64 s1.id, .list 1 (s1.peers.map (ci .i64)), .int .i64 s1.term, .int .i64 s1.voted, .int .i64 s1.role, .list 2 (s1.log.map Entry.c), .int .i64 s1.commit, .list 1 (s1.votes.map (ci .i64)), .list 1 (s1.next.map (ci .i64)), .list 1 (s1.match_.map (ci .i64))]]⟩], 1, 116⟩) ?_ ?_
  · refine bool_split (b := (!r2)) (fun zc9 => ?_) (fun zc9 => ?_)
    · rw [zc9] at H
      refine a_reg _ rfl (s := ?zs28) ?_ ?_
      rotate_left
      · simp (maxSteps := 2000000) only [EVT, stepR, evOp, St.ev, St.app, St.put, wrs, evUn, evBuiltin, datOf, datOf1, evBin, binInt, TIS, CS, Nat.reduceAdd, Nat.reduceMul, Nat.reduceEqDiff, ↓reduceIte, reduceCtorEq, Nat.reduceLT, Nat.reduceLeDiff, Array.reduceGetElem?, Nat.reduceSub, Nat.reduceBEq, ↓zc9]
        try simp (maxSteps := 2000000) only [EVT, stepR, evOp, St.ev, St.app, St.put, wrs, evUn, evBuiltin, datOf, datOf1, evBin, binInt, TIS, CS, Nat.reduceAdd, Nat.reduceMul, Nat.reduceEqDiff, ↓reduceIte, reduceCtorEq, Nat.reduceLT, Nat.reduceLeDiff, Array.reduceGetElem?, Nat.reduceSub, Nat.reduceBEq, ↓zc9]
        (repeat' apply And.intro) <;> first | rfl | assumption | omega | (simp; done) | (simp; omega) | (simp_all; done)
      refine cA_n ?_
      refine wk_l [(some 0, ⟨25, 10, false, [[.int .i64 s1.id, .list 1 (s1.peers.map (ci .i64)), .int .i64 s1.term, .int .i64 s1.voted, .int .i64 s1.role, .list 2 (s1.log.map Entry.c), .int .i64 s1.commit, .list 1 (s1.votes.map (ci .i64)), .list 1 (s1.next.map (ci .i64)), .list 1 (s1.match_.map (ci .i64))]]⟩)] [] [(1, .list 5 (l1.map Call30.c)), (2, .list 1 (votes1.map (ci .i64))), (3, .ptr 0 0 0 10), (7, .bool r1), (33, .bool true)] (by show ([1, 2, 3, 7, 33] : List Nat).Nodup; decide) (by show ([0] : List Nat).Nodup; decide) ?_ ?_ (fun t0 => ⟨true, t0, H, rfl⟩)
      · exact (allB_some (by rfl) rfl (.cons (.cons (.int' rfl) (.cons (.lst _ _ _ (ci_pu .i64) rfl) (.cons (.int' rfl) (.cons (.int' rfl) (.cons (.int' rfl) (.cons (.lst _ _ _ Entry.pu rfl) (.cons (.int' rfl) (.cons (.lst _ _ _ (ci_pu .i64) rfl) (.cons (.lst _ _ _ (ci_pu .i64) rfl) (.cons (.lst _ _ _ (ci_pu .i64) rfl) .nil)))))))))) .nil) trivial)
      · (simp only [AllT, tl_cons, tl_nil, upd_apply, List.getD_cons_zero, List.getD_cons_succ, Nat.reduceEqDiff, ↓reduceIte, and_true]); exact ⟨(.lst _ _ _ Call30.pu rfl), (.lst _ _ _ (ci_pu .i64) rfl), (.ptr _ _ _ _ _ rfl), (.bool' rfl), (.bool' (by first | rfl | assumption | (simp_all; done)))⟩
    · rw [zc9] at H
      refine bool_split (b := (decide (30 < (l1.length : Int)))) (fun zc10 => ?_) (fun zc10 => ?_)
      · rw [zc10] at H
        refine a_reg _ rfl (s := ?zs29) ?_ ?_
        rotate_left
        · simp (maxSteps := 2000000) only [EVT, stepR, evOp, St.ev, St.app, St.put, wrs, evUn, evBuiltin, datOf, datOf1, evBin, binInt, TIS, CS, Nat.reduceAdd, Nat.reduceMul, Nat.reduceEqDiff, ↓reduceIte, reduceCtorEq, Nat.reduceLT, Nat.reduceLeDiff, Array.reduceGetElem?, Nat.reduceSub, Nat.reduceBEq, ↓zc9, ↓zc10]
          try simp (maxSteps := 2000000) only [EVT, stepR, evOp, St.ev, St.app, St.put, wrs, evUn, evBuiltin, datOf, datOf1, evBin, binInt, TIS, CS, Nat.reduceAdd, Nat.reduceMul, Nat.reduceEqDiff, ↓reduceIte, reduceCtorEq, Nat.reduceLT, Nat.reduceLeDiff, Array.reduceGetElem?, Nat.reduceSub, Nat.reduceBEq, ↓zc9, ↓zc10]
          (repeat' apply And.intro) <;> first | rfl | assumption | omega | (simp; done) | (simp; omega) | (simp_all; done)
        refine cA_n ?_
        refine wk_l [(some 0, ⟨25, 10, false, [[.int .i64 s1.id, .list 1 (s1.peers.map (ci .i64)), .int .i64 s1.term, .int .i64 s1.voted, .int .i64 s1.role, .list 2 (s1.log.map Entry.c), .int .i64 s1.commit, .list 1 (s1.votes.map (ci .i64)), .list 1 (s1.next.map (ci .i64)), .list 1 (s1.match_.map (ci .i64))]]⟩)] [] [(1, .list 5 (l1.map Call30.c)), (2, .list 1 (votes1.map (ci .i64))), (3, .ptr 0 0 0 10), (7, .bool r1), (33, .bool true)] (by show ([1, 2, 3, 7, 33] : List Nat).Nodup; decide) (by show ([0] : List Nat).Nodup; decide) ?_ ?_ (fun t0 => ⟨true, t0, H, rfl⟩)
        · exact (allB_some (by rfl) rfl (.cons (.cons (.int' rfl) (.cons (.lst _ _ _ (ci_pu .i64) rfl) (.cons (.int' rfl) (.cons (.int' rfl) (.cons (.int' rfl) (.cons (.lst _ _ _ Entry.pu rfl) (.cons (.int' rfl) (.cons (.lst _ _ _ (ci_pu .i64) rfl) (.cons (.lst _ _ _ (ci_pu .i64) rfl) (.cons (.lst _ _ _ (ci_pu .i64) rfl) .nil)))))))))) .nil) trivial)
        · (simp only [AllT, tl_cons, tl_nil, upd_apply, List.getD_cons_zero, List.getD_cons_succ, Nat.reduceEqDiff, ↓reduceIte, and_true]); exact ⟨(.lst _ _ _ Call30.pu rfl), (.lst _ _ _ (ci_pu .i64) rfl), (.ptr _ _ _ _ _ rfl), (.bool' rfl), (.bool' (by first | rfl | assumption | (simp_all; done)))⟩
      · rw [zc10] at H
        refine a_reg _ rfl (s := ?zs30) ?_ ?_
        rotate_left
        · simp (maxSteps := 2000000) only [EVT, stepR, evOp, St.ev, St.app, St.put, wrs, evUn, evBuiltin, datOf, datOf1, evBin, binInt, TIS, CS, Nat.reduceAdd, Nat.reduceMul, Nat.reduceEqDiff, ↓reduceIte, reduceCtorEq, Nat.reduceLT, Nat.reduceLeDiff, Array.reduceGetElem?, Nat.reduceSub, Nat.reduceBEq, ↓zc9, ↓zc10]
          try simp (maxSteps := 2000000) only [EVT, stepR, evOp, St.ev, St.app, St.put, wrs, evUn, evBuiltin, datOf, datOf1, evBin, binInt, TIS, CS, Nat.reduceAdd, Nat.reduceMul, Nat.reduceEqDiff, ↓reduceIte, reduceCtorEq, Nat.reduceLT, Nat.reduceLeDiff, Array.reduceGetElem?, Nat.reduceSub, Nat.reduceBEq, ↓zc9, ↓zc10]
          (repeat' apply And.intro) <;> first | rfl | assumption | omega | (simp; done) | (simp; omega) | (simp_all; done)
        refine cA_n ?_
        refine wk_l [(some 0, ⟨25, 10, false, [[.int .i64 s1.id, .list 1 (s1.peers.map (ci .i64)), .int .i64 s1.term, .int .i64 s1.voted, .int .i64 s1.role, .list 2 (s1.log.map Entry.c), .int .i64 s1.commit, .list 1 (s1.votes.map (ci .i64)), .list 1 (s1.next.map (ci .i64)), .list 1 (s1.match_.map (ci .i64))]]⟩)] [] [(1, .list 5 (l1.map Call30.c)), (2, .list 1 (votes1.map (ci .i64))), (3, .ptr 0 0 0 10), (7, .bool r1), (33, .bool (decide (30 < (votes1.length : Int))))] (by show ([1, 2, 3, 7, 33] : List Nat).Nodup; decide) (by show ([0] : List Nat).Nodup; decide) ?_ ?_ (fun t0 => ⟨(decide (30 < (votes1.length : Int))), t0, H, rfl⟩)
        · exact (allB_some (by rfl) rfl (.cons (.cons (.int' rfl) (.cons (.lst _ _ _ (ci_pu .i64) rfl) (.cons (.int' rfl) (.cons (.int' rfl) (.cons (.int' rfl) (.cons (.lst _ _ _ Entry.pu rfl) (.cons (.int' rfl) (.cons (.lst _ _ _ (ci_pu .i64) rfl) (.cons (.lst _ _ _ (ci_pu .i64) rfl) (.cons (.lst _ _ _ (ci_pu .i64) rfl) .nil)))))))))) .nil) trivial)
        · (simp only [AllT, tl_cons, tl_nil, upd_apply, List.getD_cons_zero, List.getD_cons_succ, Nat.reduceEqDiff, ↓reduceIte, and_true]); exact ⟨(.lst _ _ _ Call30.pu rfl), (.lst _ _ _ (ci_pu .i64) rfl), (.ptr _ _ _ _ _ rfl), (.bool' rfl), (.bool' rfl)⟩
  · rintro s ⟨v1, t0, H, rfl⟩
    unfold law14_VoteTells_J1 at H
    refine a_condb (v1) (by rfl) (fun zc1 => ?_) (fun zc1 => ?_)
    · have H := cond_t zc1 H
      refine a_seq ?_
      refine a_reg _ rfl (s := ?zs4) ?_ ?_
      rotate_left
      · simp (maxSteps := 2000000) only [EVT, stepR, evOp, St.ev, St.app, St.put, wrs, TIS, CS, Nat.reduceAdd, Nat.reduceMul, Nat.reduceEqDiff, ↓reduceIte, reduceCtorEq, Nat.reduceLT, Nat.reduceLeDiff, ↓zc1]
        (repeat' apply And.intro) <;> first | rfl | assumption | omega | (simp; done) | (simp; omega) | (simp_all; done)
      refine sA_n ?_
      refine a_ret ?_
      refine sA_r ?_
      obtain rfl := Option.some.inj H
      refine e_r2 (d := ?zd1) ?_ ?_
      rotate_left
      · simp only [EVT, resR, single, evLoad, cut, TIS, CS, Nat.reduceAdd, Nat.reduceEqDiff, ↓reduceIte, reduceCtorEq, Nat.reduceLT, Nat.reduceLeDiff, Nat.reduceSub, Nat.reduceBEq, zc1]
        (repeat' apply And.intro) <;> first | rfl | assumption | omega | (simp; done)
      exact (.bool' rfl)
    · have H := cond_f zc1 H
      refine a_skip ?_
      refine sA_n ?_
      refine a_seq ?_
      refine a_reg _ rfl (s := ?zs5) ?_ ?_
      rotate_left
      · simp (maxSteps := 2000000) only [EVT, stepR, evOp, St.ev, St.app, St.put, wrs, evLoad, cut, allOne, evStore, setR, TIS, CS, Nat.reduceAdd, Nat.reduceMul, Nat.reduceEqDiff, ↓reduceIte, reduceCtorEq, Nat.reduceLT, Nat.reduceLeDiff, Nat.reduceSub, Nat.reduceBEq, ↓zc1]
        (repeat' apply And.intro) <;> first | rfl | assumption | omega | (simp; done) | (simp; omega) | (simp_all; done)
      refine sA_n ?_
      refine a_cut (fun s => ∃ (t0 : Nat → Dat), law14_VoteTells_J2 r1 votes1 s1 = some r ∧ s = ⟨tl t0 [(2, .list 1 (votes1.map (ci .i64))), (3, .ptr 0 0 0 10), (7, .bool r1)], hl [⟨25, 10, false, [[.int .i64 s1.id, .list 1 (s1.peers.map (ci .i64)), .int .i64 s1.term, .int .i64 s1.voted, .int .i64 s1.role, .list 2 (s1.log.map Entry.c), .int .i64 s1.commit, .list 1 (s1.votes.map (ci .i64)), .list 1 (s1.next.map (ci .i64)), .list 1 (s1.match_.map (ci .i64))]]⟩], 1, 116⟩) ?_ ?_
      · refine a_seq ?_
        refine a_reg _ rfl (s := ?zs8) ?_ ?_
        rotate_left
        · simp (maxSteps := 2000000) only [EVT, stepR, evOp, St.ev, St.app, St.put, wrs, datOf, datOf1, TIS, CS, Nat.reduceAdd, Nat.reduceMul, Nat.reduceEqDiff, ↓reduceIte, reduceCtorEq, Nat.reduceLT, Nat.reduceLeDiff, ↓zc1]
          (repeat' apply And.intro) <;> first | rfl | assumption | omega | (simp; done) | (simp; omega) | (simp_all; done)
        refine sA_n ?_
        refine a_blk ?_
        refine a_loop (fun m s => ∃ (now1 : Seat) (i1 : Int) (t0 : Nat → Dat), law14_VoteTells_L1 l1 r1 votes1 s1 m now1 i1 = some r ∧ s = ⟨tl t0 [(1, .list 5 (l1.map Call30.c)), (2, .list 1 (votes1.map (ci .i64))), (3, .ptr 0 0 0 10), (7, .bool r1), (9, .ptr 1 0 0 10), (10, .int .i64 i1)], hl [⟨25, 10, false, [[.int .i64 s1.id, .list 1 (s1.peers.map (ci .i64)), .int .i64 s1.term, .int .i64 s1.voted, .int .i64 s1.role, .list 2 (s1.log.map Entry.c), .int .i64 s1.commit, .list 1 (s1.votes.map (ci .i64)), .list 1 (s1.next.map (ci .i64)), .list 1 (s1.match_.map (ci .i64))]]⟩, ⟨25, 10, false, [[.int .i64 now1.id, .list 1 (now1.peers.map (ci .i64)), .int .i64 now1.term, .int .i64 now1.voted, .int .i64 now1.role, .list 2 (now1.log.map Entry.c), .int .i64 now1.commit, .list 1 (now1.votes.map (ci .i64)), .list 1 (now1.next.map (ci .i64)), .list 1 (now1.match_.map (ci .i64))]]⟩], 2, 116⟩) BIG ?_ ?_
        · refine wk_l [(some 0, ⟨25, 10, false, [[.int .i64 s1.id, .list 1 (s1.peers.map (ci .i64)), .int .i64 s1.term, .int .i64 s1.voted, .int .i64 s1.role, .list 2 (s1.log.map Entry.c), .int .i64 s1.commit, .list 1 (s1.votes.map (ci .i64)), .list 1 (s1.next.map (ci .i64)), .list 1 (s1.match_.map (ci .i64))]]⟩), (some 2, ⟨25, 10, false, [[.int .i64 s1.id, .list 1 (s1.peers.map (ci .i64)), .int .i64 s1.term, .int .i64 s1.voted, .int .i64 s1.role, .list 2 (s1.log.map Entry.c), .int .i64 s1.commit, .list 1 (s1.votes.map (ci .i64)), .list 1 (s1.next.map (ci .i64)), .list 1 (s1.match_.map (ci .i64))]]⟩)] [] [(1, .list 5 (l1.map Call30.c)), (2, .list 1 (votes1.map (ci .i64))), (3, .ptr 0 0 0 10), (7, .bool r1), (9, .ptr 1 0 0 10), (10, .int .i64 0)] (by show ([1, 2, 3, 7, 9, 10] : List Nat).Nodup; decide) (by show ([0, 2] : List Nat).Nodup; decide) ?_ ?_ (fun t0 => ⟨s1, 0, t0, H, rfl⟩)
          · exact (allB_some (by rfl) rfl (.cons (.cons (.int' rfl) (.cons (.lst _ _ _ (ci_pu .i64) rfl) (.cons (.int' rfl) (.cons (.int' rfl) (.cons (.int' rfl) (.cons (.lst _ _ _ Entry.pu rfl) (.cons (.int' rfl) (.cons (.lst _ _ _ (ci_pu .i64) rfl) (.cons (.lst _ _ _ (ci_pu .i64) rfl) (.cons (.lst _ _ _ (ci_pu .i64) rfl) .nil)))))))))) .nil) (allB_some (by rfl) rfl (.cons (.cons (.int' rfl) (.cons (.lst _ _ _ (ci_pu .i64) rfl) (.cons (.int' rfl) (.cons (.int' rfl) (.cons (.int' rfl) (.cons (.lst _ _ _ Entry.pu rfl) (.cons (.int' rfl) (.cons (.lst _ _ _ (ci_pu .i64) rfl) (.cons (.lst _ _ _ (ci_pu .i64) rfl) (.cons (.lst _ _ _ (ci_pu .i64) rfl) .nil)))))))))) .nil) trivial))
          · (simp only [AllT, tl_cons, tl_nil, upd_apply, List.getD_cons_zero, List.getD_cons_succ, Nat.reduceEqDiff, ↓reduceIte, and_true]); exact ⟨(.lst _ _ _ Call30.pu rfl), (.lst _ _ _ (ci_pu .i64) rfl), (.ptr _ _ _ _ _ rfl), (.bool' rfl), (.ptr _ _ _ _ _ rfl), (.int' rfl)⟩
        · rintro m_law14_VoteTells_L1 s ⟨now1, i1, t0, H, rfl⟩
          obtain _ | m_law14_VoteTells_L1 := m_law14_VoteTells_L1
          · cases (show (none : Option _) = some _ from H)
          · rw [law14_VoteTells_L1] at H
            refine a_seq ?_
            refine a_seq ?_
            refine a_reg _ rfl (s := ?zs9) ?_ ?_
            rotate_left
            · simp (maxSteps := 2000000) only [EVT, stepR, evOp, St.ev, St.app, St.put, wrs, evBuiltin, evBin, binInt, TIS, CS, Nat.reduceAdd, Nat.reduceMul, Nat.reduceEqDiff, ↓reduceIte, reduceCtorEq, Nat.reduceLT, Nat.reduceLeDiff, Nat.reduceSub, Nat.reduceBEq]
              (repeat' apply And.intro) <;> first | rfl | assumption | omega | (simp; done) | (simp; omega) | (simp_all; done)
            refine sA_n ?_
            refine a_condb ((decide (i1 < (l1.length : Int)))) (by rfl) (fun zc3 => ?_) (fun zc3 => ?_)
            · have H := cond_t zc3 H
              refine a_skip ?_
              refine sA_n ?_
              refine a_seq ?_
              refine a_blk ?_
              refine a_seq ?_
              obtain ⟨x1, zh5, H⟩ := bind_some H
              have zg1 := idx_map zh5 Call30.c
              obtain ⟨zh5a, zh5b, _⟩ := idx_some zh5
              refine a_reg _ rfl (s := ?zs10) ?_ ?_
              rotate_left
              · simp (maxSteps := 2000000) only [EVT, stepR, evOp, St.ev, St.app, St.put, wrs, evIndexAddr, evLoad, cut, allOne, evStore, setR, TIS, CS, Nat.reduceAdd, Nat.reduceMul, Nat.reduceEqDiff, ↓reduceIte, reduceCtorEq, Nat.reduceLT, Nat.reduceLeDiff, Int.reduceToNat, Nat.reduceSub, Nat.reduceBEq, ↓zc3, zg1]
                (repeat' apply And.intro) <;> first | rfl | assumption | omega | (simp; done) | (simp; omega) | (simp_all; done)
              refine sA_n ?_
              refine a_seq ?_
              obtain ⟨r5, zh6, H⟩ := bind_some H
              have zk5 := law14_step_pc zh6
              refine a_reg _ rfl (s := ?zs11) ?_ ?_
              rotate_left
              · try simp (maxSteps := 2000000) only [EVT, stepR, evOp, St.ev, St.app, St.put, wrs, evLoad, cut, frz, allOne, evStore, setR, TIS, CS, Nat.reduceAdd, Nat.reduceMul, Nat.reduceEqDiff, ↓reduceIte, reduceCtorEq, Nat.reduceLT, Nat.reduceLeDiff, Nat.reduceSub, Nat.reduceBEq, ↓zc3, zg1]
                repeat' with_reducible apply And.intro
                all_goals try ((with_reducible show CallR _ _ _ _ _ _ _); refine cR_p zk5 (.cons (.agg' (.cons (.int' rfl) (.cons (.lst _ _ _ (ci_pu .i64) rfl) (.cons (.int' rfl) (.cons (.int' rfl) (.cons (.int' rfl) (.cons (.lst _ _ _ Entry.pu rfl) (.cons (.int' rfl) (.cons (.lst _ _ _ (ci_pu .i64) rfl) (.cons (.lst _ _ _ (ci_pu .i64) rfl) (.cons (.lst _ _ _ (ci_pu .i64) rfl) .nil))))))))))) (.cons (.agg' (.cons (.int' rfl) (.cons (.int' rfl) (.cons (.int' rfl) (.cons (.int' rfl) (.cons (.int' rfl) .nil)))))) .nil)) ?_; simp (maxSteps := 2000000) only [EVT, stepR, evOp, St.ev, St.app, St.put, wrs, evLoad, cut, frz, allOne, evStore, setR, TIS, CS, Nat.reduceAdd, Nat.reduceMul, Nat.reduceEqDiff, ↓reduceIte, reduceCtorEq, Nat.reduceLT, Nat.reduceLeDiff, Nat.reduceSub, Nat.reduceBEq, ↓zc3, zg1])
                all_goals ((repeat' apply And.intro) <;> first | rfl | assumption | omega | (simp; done) | (simp; omega) | (simp_all; done))
              refine sA_n ?_
              refine a_seq ?_
              refine a_reg _ rfl (s := ?zs12) ?_ ?_
              rotate_left
              · simp (maxSteps := 2000000) only [EVT, stepR, evOp, St.ev, St.app, St.put, wrs, evLoad, cut, allOne, evStore, setR, TIS, CS, Nat.reduceAdd, Nat.reduceMul, Nat.reduceEqDiff, ↓reduceIte, reduceCtorEq, Nat.reduceLT, Nat.reduceLeDiff, Nat.reduceSub, Nat.reduceBEq, ↓zc3, zg1]
                (repeat' apply And.intro) <;> first | rfl | assumption | omega | (simp; done) | (simp; omega) | (simp_all; done)
              refine sA_n ?_
              refine a_seq ?_
              refine a_reg _ rfl (s := ?zs13) ?_ ?_
              rotate_left
              · simp (maxSteps := 2000000) only [EVT, stepR, evOp, St.ev, St.app, St.put, wrs, datOf, datOf1, TIS, CS, Nat.reduceAdd, Nat.reduceMul, Nat.reduceEqDiff, ↓reduceIte, reduceCtorEq, Nat.reduceLT, Nat.reduceLeDiff, ↓zc3, zg1]
                (repeat' apply And.intro) <;> first | rfl | assumption | omega | (simp; done) | (simp; omega) | (simp_all; done)
              refine sA_n ?_
              refine a_cut (fun s => ∃ (want1 : Seat) (was1 : Bool) (t0 : Nat → Dat), law14_VoteTells_J3 (law14_VoteTells_L1 l1 r1 votes1 s1 m_law14_VoteTells_L1) r5 i1 want1 was1 = some r ∧ s = ⟨tl t0 [(1, .list 5 (l1.map Call30.c)), (2, .list 1 (votes1.map (ci .i64))), (3, .ptr 0 0 0 10), (7, .bool r1), (9, .ptr 1 0 0 10), (10, .int .i64 i1), (12, .ptr 2 0 0 10), (13, .bool r5.2), (14, .ptr 3 0 0 10), (15, .bool was1)], hl [⟨25, 10, false, [[.int .i64 s1.id, .list 1 (s1.peers.map (ci .i64)), .int .i64 s1.term, .int .i64 s1.voted, .int .i64 s1.role, .list 2 (s1.log.map Entry.c), .int .i64 s1.commit, .list 1 (s1.votes.map (ci .i64)), .list 1 (s1.next.map (ci .i64)), .list 1 (s1.match_.map (ci .i64))]]⟩, ⟨25, 10, false, [[.int .i64 now1.id, .list 1 (now1.peers.map (ci .i64)), .int .i64 now1.term, .int .i64 now1.voted, .int .i64 now1.role, .list 2 (now1.log.map Entry.c), .int .i64 now1.commit, .list 1 (now1.votes.map (ci .i64)), .list 1 (now1.next.map (ci .i64)), .list 1 (now1.match_.map (ci .i64))]]⟩, ⟨25, 10, false, [[.int .i64 r5.1.id, .list 1 (r5.1.peers.map (ci .i64)), .int .i64 r5.1.term, .int .i64 r5.1.voted, .int .i64 r5.1.role, .list 2 (r5.1.log.map Entry.c), .int .i64 r5.1.commit, .list 1 (r5.1.votes.map (ci .i64)), .list 1 (r5.1.next.map (ci .i64)), .list 1 (r5.1.match_.map (ci .i64))]]⟩, ⟨25, 10, false, [[.int .i64 want1.id, .list 1 (want1.peers.map (ci .i64)), .int .i64 want1.term, .int .i64 want1.voted, .int .i64 want1.role, .list 2 (want1.log.map Entry.c), .int .i64 want1.commit, .list 1 (want1.votes.map (ci .i64)), .list 1 (want1.next.map (ci .i64)), .list 1 (want1.match_.map (ci .i64))]]⟩], 4, 116⟩) ?_ ?_
              · refine a_seq ?_
                refine a_reg _ rfl (s := ?zs20) ?_ ?_
                rotate_left
                · simp (maxSteps := 2000000) only [EVT, stepR, evOp, St.ev, St.app, St.put, wrs, evFieldAddr, evLoad, cut, datOf, datOf1, evBin, binInt, TIS, CS, Nat.reduceAdd, Nat.reduceMul, Nat.reduceEqDiff, ↓reduceIte, reduceCtorEq, Nat.reduceLT, Nat.reduceLeDiff, Nat.reduceSub, Nat.reduceBEq, ↓zc3, zg1]
                  (repeat' apply And.intro) <;> first | rfl | assumption | omega | (simp; done) | (simp; omega) | (simp_all; done)
                refine sA_n ?_
                refine a_condb (((Int.tmod x1.do_ 4) == 0)) (by rfl) (fun zc6 => ?_) (fun zc6 => ?_)
                · have H := cond_t zc6 H
                  obtain ⟨r7, zh8, H⟩ := bind_some H
                  have zk7 := ref14_Begin_pc zh8
                  refine a_reg _ rfl (s := ?zs21) ?_ ?_
                  rotate_left
                  · try simp (maxSteps := 2000000) only [EVT, stepR, evOp, St.ev, St.app, St.put, wrs, evLoad, cut, frz, evStore, setR, allOne, TIS, CS, Nat.reduceAdd, Nat.reduceMul, Nat.reduceEqDiff, ↓reduceIte, reduceCtorEq, Nat.reduceLT, Nat.reduceLeDiff, Nat.reduceSub, Nat.reduceBEq, ↓zc3, zg1, ↓zc6]
                    repeat' with_reducible apply And.intro
                    all_goals try ((with_reducible show CallR _ _ _ _ _ _ _); refine cR_p zk7 (.cons (.agg' (.cons (.int' rfl) (.cons (.lst _ _ _ (ci_pu .i64) rfl) (.cons (.int' rfl) (.cons (.int' rfl) (.cons (.int' rfl) (.cons (.lst _ _ _ Entry.pu rfl) (.cons (.int' rfl) (.cons (.lst _ _ _ (ci_pu .i64) rfl) (.cons (.lst _ _ _ (ci_pu .i64) rfl) (.cons (.lst _ _ _ (ci_pu .i64) rfl) .nil))))))))))) .nil) ?_; simp (maxSteps := 2000000) only [EVT, stepR, evOp, St.ev, St.app, St.put, wrs, evLoad, cut, frz, evStore, setR, allOne, TIS, CS, Nat.reduceAdd, Nat.reduceMul, Nat.reduceEqDiff, ↓reduceIte, reduceCtorEq, Nat.reduceLT, Nat.reduceLeDiff, Nat.reduceSub, Nat.reduceBEq, ↓zc3, zg1, ↓zc6])
                    all_goals ((repeat' apply And.intro) <;> first | rfl | assumption | omega | (simp; done) | (simp; omega) | (simp_all; done))
                  refine cA_n ?_
                  refine wk_l [(some 0, ⟨25, 10, false, [[.int .i64 s1.id, .list 1 (s1.peers.map (ci .i64)), .int .i64 s1.term, .int .i64 s1.voted, .int .i64 s1.role, .list 2 (s1.log.map Entry.c), .int .i64 s1.commit, .list 1 (s1.votes.map (ci .i64)), .list 1 (s1.next.map (ci .i64)), .list 1 (s1.match_.map (ci .i64))]]⟩), (some 1, ⟨25, 10, false, [[.int .i64 now1.id, .list 1 (now1.peers.map (ci .i64)), .int .i64 now1.term, .int .i64 now1.voted, .int .i64 now1.role, .list 2 (now1.log.map Entry.c), .int .i64 now1.commit, .list 1 (now1.votes.map (ci .i64)), .list 1 (now1.next.map (ci .i64)), .list 1 (now1.match_.map (ci .i64))]]⟩), (some 88, ⟨25, 10, false, [[.int .i64 r5.1.id, .list 1 (r5.1.peers.map (ci .i64)), .int .i64 r5.1.term, .int .i64 r5.1.voted, .int .i64 r5.1.role, .list 2 (r5.1.log.map Entry.c), .int .i64 r5.1.commit, .list 1 (r5.1.votes.map (ci .i64)), .list 1 (r5.1.next.map (ci .i64)), .list 1 (r5.1.match_.map (ci .i64))]]⟩), (some 155, ⟨25, 10, false, [[.int .i64 r7.id, .list 1 (r7.peers.map (ci .i64)), .int .i64 r7.term, .int .i64 r7.voted, .int .i64 r7.role, .list 2 (r7.log.map Entry.c), .int .i64 r7.commit, .list 1 (r7.votes.map (ci .i64)), .list 1 (r7.next.map (ci .i64)), .list 1 (r7.match_.map (ci .i64))]]⟩)] [] [(1, .list 5 (l1.map Call30.c)), (2, .list 1 (votes1.map (ci .i64))), (3, .ptr 0 0 0 10), (7, .bool r1), (9, .ptr 1 0 0 10), (10, .int .i64 i1), (12, .ptr 2 0 0 10), (13, .bool r5.2), (14, .ptr 3 0 0 10), (15, .bool false)] (by show ([1, 2, 3, 7, 9, 10, 12, 13, 14, 15] : List Nat).Nodup; decide) (by show ([0, 1, 88, 155] : List Nat).Nodup; decide) ?_ ?_ (fun t0 => ⟨r7, false, t0, H, rfl⟩)
                  · exact (allB_some (by rfl) rfl (.cons (.cons (.int' rfl) (.cons (.lst _ _ _ (ci_pu .i64) rfl) (.cons (.int' rfl) (.cons (.int' rfl) (.cons (.int' rfl) (.cons (.lst _ _ _ Entry.pu rfl) (.cons (.int' rfl) (.cons (.lst _ _ _ (ci_pu .i64) rfl) (.cons (.lst _ _ _ (ci_pu .i64) rfl) (.cons (.lst _ _ _ (ci_pu .i64) rfl) .nil)))))))))) .nil) (allB_some (by rfl) rfl (.cons (.cons (.int' rfl) (.cons (.lst _ _ _ (ci_pu .i64) rfl) (.cons (.int' rfl) (.cons (.int' rfl) (.cons (.int' rfl) (.cons (.lst _ _ _ Entry.pu rfl) (.cons (.int' rfl) (.cons (.lst _ _ _ (ci_pu .i64) rfl) (.cons (.lst _ _ _ (ci_pu .i64) rfl) (.cons (.lst _ _ _ (ci_pu .i64) rfl) .nil)))))))))) .nil) (allB_some (by rfl) rfl (.cons (.cons (.int' rfl) (.cons (.lst _ _ _ (ci_pu .i64) rfl) (.cons (.int' rfl) (.cons (.int' rfl) (.cons (.int' rfl) (.cons (.lst _ _ _ Entry.pu rfl) (.cons (.int' rfl) (.cons (.lst _ _ _ (ci_pu .i64) rfl) (.cons (.lst _ _ _ (ci_pu .i64) rfl) (.cons (.lst _ _ _ (ci_pu .i64) rfl) .nil)))))))))) .nil) (allB_some (by rfl) rfl (.cons (.cons (.int' rfl) (.cons (.lst _ _ _ (ci_pu .i64) rfl) (.cons (.int' rfl) (.cons (.int' rfl) (.cons (.int' rfl) (.cons (.lst _ _ _ Entry.pu rfl) (.cons (.int' rfl) (.cons (.lst _ _ _ (ci_pu .i64) rfl) (.cons (.lst _ _ _ (ci_pu .i64) rfl) (.cons (.lst _ _ _ (ci_pu .i64) rfl) .nil)))))))))) .nil) trivial))))
                  · (simp only [AllT, tl_cons, tl_nil, upd_apply, List.getD_cons_zero, List.getD_cons_succ, Nat.reduceEqDiff, ↓reduceIte, and_true]); exact ⟨(.lst _ _ _ Call30.pu rfl), (.lst _ _ _ (ci_pu .i64) rfl), (.ptr _ _ _ _ _ rfl), (.bool' rfl), (.ptr _ _ _ _ _ rfl), (.int' rfl), (.ptr _ _ _ _ _ rfl), (.bool' rfl), (.ptr _ _ _ _ _ rfl), (.bool' (by first | rfl | assumption | (simp_all; done)))⟩
                · have H := cond_f zc6 H
                  refine a_seq ?_
                  refine a_reg _ rfl (s := ?zs22) ?_ ?_
                  rotate_left
                  · simp (maxSteps := 2000000) only [EVT, stepR, evOp, St.ev, St.app, St.put, wrs, evFieldAddr, evLoad, cut, datOf, datOf1, evBin, binInt, TIS, CS, Nat.reduceAdd, Nat.reduceMul, Nat.reduceEqDiff, ↓reduceIte, reduceCtorEq, Nat.reduceLT, Nat.reduceLeDiff, Nat.reduceSub, Nat.reduceBEq, ↓zc3, zg1, ↓zc6]
                    (repeat' apply And.intro) <;> first | rfl | assumption | omega | (simp; done) | (simp; omega) | (simp_all; done)
                  refine sA_n ?_
                  refine a_condb ((decide (1 < (Int.tmod x1.do_ 4)))) (by rfl) (fun zc7 => ?_) (fun zc7 => ?_)
                  · have H := cond_t zc7 H
                    refine a_seq ?_
                    obtain ⟨r8, zh9, H⟩ := bind_some H
                    have zk8 := ref14_Ask_pc zh9
                    refine a_reg _ rfl (s := ?zs23) ?_ ?_
                    rotate_left
                    · try simp (maxSteps := 2000000) only [EVT, stepR, evOp, St.ev, St.app, St.put, wrs, evLoad, cut, evFieldAddr, frz, allOne, evStore, setR, TIS, CS, Nat.reduceAdd, Nat.reduceMul, Nat.reduceEqDiff, ↓reduceIte, reduceCtorEq, Nat.reduceLT, Nat.reduceLeDiff, Nat.reduceSub, Nat.reduceBEq, ↓zc3, zg1, ↓zc6, ↓zc7]
                      repeat' with_reducible apply And.intro
                      all_goals try ((with_reducible show CallR _ _ _ _ _ _ _); refine cR_p zk8 (.cons (.agg' (.cons (.int' rfl) (.cons (.lst _ _ _ (ci_pu .i64) rfl) (.cons (.int' rfl) (.cons (.int' rfl) (.cons (.int' rfl) (.cons (.lst _ _ _ Entry.pu rfl) (.cons (.int' rfl) (.cons (.lst _ _ _ (ci_pu .i64) rfl) (.cons (.lst _ _ _ (ci_pu .i64) rfl) (.cons (.lst _ _ _ (ci_pu .i64) rfl) .nil))))))))))) (.cons (.int' rfl) (.cons (.int' rfl) (.cons (.int' rfl) (.cons (.int' rfl) .nil))))) ?_; simp (maxSteps := 2000000) only [EVT, stepR, evOp, St.ev, St.app, St.put, wrs, evLoad, cut, evFieldAddr, frz, allOne, evStore, setR, TIS, CS, Nat.reduceAdd, Nat.reduceMul, Nat.reduceEqDiff, ↓reduceIte, reduceCtorEq, Nat.reduceLT, Nat.reduceLeDiff, Nat.reduceSub, Nat.reduceBEq, ↓zc3, zg1, ↓zc6, ↓zc7])
                      all_goals ((repeat' apply And.intro) <;> first | rfl | assumption | omega | (simp; done) | (simp; omega) | (simp_all; done))
                    refine sA_n ?_
                    refine a_seq ?_
                    refine a_reg _ rfl (s := ?zs24) ?_ ?_
                    rotate_left
                    · simp (maxSteps := 2000000) only [EVT, stepR, evOp, St.ev, St.app, St.put, wrs, evLoad, cut, evStore, setR, allOne, TIS, CS, Nat.reduceAdd, Nat.reduceMul, Nat.reduceEqDiff, ↓reduceIte, reduceCtorEq, Nat.reduceLT, Nat.reduceLeDiff, Nat.reduceSub, Nat.reduceBEq, ↓zc3, zg1, ↓zc6, ↓zc7]
                      (repeat' apply And.intro) <;> first | rfl | assumption | omega | (simp; done) | (simp; omega) | (simp_all; done)
                    refine sA_n ?_
                    refine a_reg _ rfl (s := ?zs25) ?_ ?_
                    rotate_left
                    · simp (maxSteps := 2000000) only [EVT, stepR, evOp, St.ev, St.app, St.put, wrs, TIS, CS, Nat.reduceAdd, Nat.reduceMul, Nat.reduceEqDiff, ↓reduceIte, reduceCtorEq, Nat.reduceLT, Nat.reduceLeDiff, ↓zc3, zg1, ↓zc6, ↓zc7]
                      (repeat' apply And.intro) <;> first | rfl | assumption | omega | (simp; done) | (simp; omega) | (simp_all; done)
                    refine cA_n ?_
                    refine wk_l [(some 0, ⟨25, 10, false, [[.int .i64 s1.id, .list 1 (s1.peers.map (ci .i64)), .int .i64 s1.term, .int .i64 s1.voted, .int .i64 s1.role, .list 2 (s1.log.map Entry.c), .int .i64 s1.commit, .list 1 (s1.votes.map (ci .i64)), .list 1 (s1.next.map (ci .i64)), .list 1 (s1.match_.map (ci .i64))]]⟩), (some 1, ⟨25, 10, false, [[.int .i64 now1.id, .list 1 (now1.peers.map (ci .i64)), .int .i64 now1.term, .int .i64 now1.voted, .int .i64 now1.role, .list 2 (now1.log.map Entry.c), .int .i64 now1.commit, .list 1 (now1.votes.map (ci .i64)), .list 1 (now1.next.map (ci .i64)), .list 1 (now1.match_.map (ci .i64))]]⟩), (some 88, ⟨25, 10, false, [[.int .i64 r5.1.id, .list 1 (r5.1.peers.map (ci .i64)), .int .i64 r5.1.term, .int .i64 r5.1.voted, .int .i64 r5.1.role, .list 2 (r5.1.log.map Entry.c), .int .i64 r5.1.commit, .list 1 (r5.1.votes.map (ci .i64)), .list 1 (r5.1.next.map (ci .i64)), .list 1 (r5.1.match_.map (ci .i64))]]⟩), (some 155, ⟨25, 10, false, [[.int .i64 r8.1.id, .list 1 (r8.1.peers.map (ci .i64)), .int .i64 r8.1.term, .int .i64 r8.1.voted, .int .i64 r8.1.role, .list 2 (r8.1.log.map Entry.c), .int .i64 r8.1.commit, .list 1 (r8.1.votes.map (ci .i64)), .list 1 (r8.1.next.map (ci .i64)), .list 1 (r8.1.match_.map (ci .i64))]]⟩)] [] [(1, .list 5 (l1.map Call30.c)), (2, .list 1 (votes1.map (ci .i64))), (3, .ptr 0 0 0 10), (7, .bool r1), (9, .ptr 1 0 0 10), (10, .int .i64 i1), (12, .ptr 2 0 0 10), (13, .bool r5.2), (14, .ptr 3 0 0 10), (15, .bool r8.2)] (by show ([1, 2, 3, 7, 9, 10, 12, 13, 14, 15] : List Nat).Nodup; decide) (by show ([0, 1, 88, 155] : List Nat).Nodup; decide) ?_ ?_ (fun t0 => ⟨r8.1, r8.2, t0, H, rfl⟩)
                    · exact (allB_some (by rfl) rfl (.cons (.cons (.int' rfl) (.cons (.lst _ _ _ (ci_pu .i64) rfl) (.cons (.int' rfl) (.cons (.int' rfl) (.cons (.int' rfl) (.cons (.lst _ _ _ Entry.pu rfl) (.cons (.int' rfl) (.cons (.lst _ _ _ (ci_pu .i64) rfl) (.cons (.lst _ _ _ (ci_pu .i64) rfl) (.cons (.lst _ _ _ (ci_pu .i64) rfl) .nil)))))))))) .nil) (allB_some (by rfl) rfl (.cons (.cons (.int' rfl) (.cons (.lst _ _ _ (ci_pu .i64) rfl) (.cons (.int' rfl) (.cons (.int' rfl) (.cons (.int' rfl) (.cons (.lst _ _ _ Entry.pu rfl) (.cons (.int' rfl) (.cons (.lst _ _ _ (ci_pu .i64) rfl) (.cons (.lst _ _ _ (ci_pu .i64) rfl) (.cons (.lst _ _ _ (ci_pu .i64) rfl) .nil)))))))))) .nil) (allB_some (by rfl) rfl (.cons (.cons (.int' rfl) (.cons (.lst _ _ _ (ci_pu .i64) rfl) (.cons (.int' rfl) (.cons (.int' rfl) (.cons (.int' rfl) (.cons (.lst _ _ _ Entry.pu rfl) (.cons (.int' rfl) (.cons (.lst _ _ _ (ci_pu .i64) rfl) (.cons (.lst _ _ _ (ci_pu .i64) rfl) (.cons (.lst _ _ _ (ci_pu .i64) rfl) .nil)))))))))) .nil) (allB_some (by rfl) rfl (.cons (.cons (.int' rfl) (.cons (.lst _ _ _ (ci_pu .i64) rfl) (.cons (.int' rfl) (.cons (.int' rfl) (.cons (.int' rfl) (.cons (.lst _ _ _ Entry.pu rfl) (.cons (.int' rfl) (.cons (.lst _ _ _ (ci_pu .i64) rfl) (.cons (.lst _ _ _ (ci_pu .i64) rfl) (.cons (.lst _ _ _ (ci_pu .i64) rfl) .nil)))))))))) .nil) trivial))))
                    · (simp only [AllT, tl_cons, tl_nil, upd_apply, List.getD_cons_zero, List.getD_cons_succ, Nat.reduceEqDiff, ↓reduceIte, and_true]); exact ⟨(.lst _ _ _ Call30.pu rfl), (.lst _ _ _ (ci_pu .i64) rfl), (.ptr _ _ _ _ _ rfl), (.bool' rfl), (.ptr _ _ _ _ _ rfl), (.int' rfl), (.ptr _ _ _ _ _ rfl), (.bool' rfl), (.ptr _ _ _ _ _ rfl), (.bool' rfl)⟩
                  · have H := cond_f zc7 H
                    refine a_seq ?_
                    refine a_reg _ rfl (s := ?zs26) ?_ ?_
                    rotate_left
                    · simp (maxSteps := 2000000) only [EVT, stepR, evOp, St.ev, St.app, St.put, wrs, evFieldAddr, evLoad, cut, evBin, binInt, TIS, CS, Nat.reduceAdd, Nat.reduceMul, Nat.reduceEqDiff, ↓reduceIte, reduceCtorEq, Nat.reduceLT, Nat.reduceLeDiff, Nat.reduceSub, Nat.reduceBEq, ↓zc3, zg1, ↓zc6, ↓zc7]
                      (repeat' apply And.intro) <;> first | rfl | assumption | omega | (simp; done) | (simp; omega) | (simp_all; done)
                    refine sA_n ?_
                    refine a_condb ((decide (now1.term < (IntKind.wrap .i64 x1.term)))) (by rfl) (fun zc8 => ?_) (fun zc8 => ?_)
                    · have H := cond_t zc8 H
                      obtain ⟨r9, zh10, H⟩ := bind_some H
                      have zk9 := ref14_Down_pc zh10
                      refine a_reg _ rfl (s := ?zs27) ?_ ?_
                      rotate_left
                      · try simp (maxSteps := 2000000) only [EVT, stepR, evOp, St.ev, St.app, St.put, wrs, evLoad, cut, evFieldAddr, frz, evStore, setR, allOne, TIS, CS, Nat.reduceAdd, Nat.reduceMul, Nat.reduceEqDiff, ↓reduceIte, reduceCtorEq, Nat.reduceLT, Nat.reduceLeDiff, Nat.reduceSub, Nat.reduceBEq, ↓zc3, zg1, ↓zc6, ↓zc7, ↓zc8]
                        repeat' with_reducible apply And.intro
                        all_goals try ((with_reducible show CallR _ _ _ _ _ _ _); refine cR_p zk9 (.cons (.agg' (.cons (.int' rfl) (.cons (.lst _ _ _ (ci_pu .i64) rfl) (.cons (.int' rfl) (.cons (.int' rfl) (.cons (.int' rfl) (.cons (.lst _ _ _ Entry.pu rfl) (.cons (.int' rfl) (.cons (.lst _ _ _ (ci_pu .i64) rfl) (.cons (.lst _ _ _ (ci_pu .i64) rfl) (.cons (.lst _ _ _ (ci_pu .i64) rfl) .nil))))))))))) (.cons (.int' rfl) .nil)) ?_; simp (maxSteps := 2000000) only [EVT, stepR, evOp, St.ev, St.app, St.put, wrs, evLoad, cut, evFieldAddr, frz, evStore, setR, allOne, TIS, CS, Nat.reduceAdd, Nat.reduceMul, Nat.reduceEqDiff, ↓reduceIte, reduceCtorEq, Nat.reduceLT, Nat.reduceLeDiff, Nat.reduceSub, Nat.reduceBEq, ↓zc3, zg1, ↓zc6, ↓zc7, ↓zc8])
                        all_goals ((repeat' apply And.intro) <;> first | rfl | assumption | omega | (simp; done) | (simp; omega) | (simp_all; done))
                      refine cA_n ?_
                      refine wk_l [(some 0, ⟨25, 10, false, [[.int .i64 s1.id, .list 1 (s1.peers.map (ci .i64)), .int .i64 s1.term, .int .i64 s1.voted, .int .i64 s1.role, .list 2 (s1.log.map Entry.c), .int .i64 s1.commit, .list 1 (s1.votes.map (ci .i64)), .list 1 (s1.next.map (ci .i64)), .list 1 (s1.match_.map (ci .i64))]]⟩), (some 1, ⟨25, 10, false, [[.int .i64 now1.id, .list 1 (now1.peers.map (ci .i64)), .int .i64 now1.term, .int .i64 now1.voted, .int .i64 now1.role, .list 2 (now1.log.map Entry.c), .int .i64 now1.commit, .list 1 (now1.votes.map (ci .i64)), .list 1 (now1.next.map (ci .i64)), .list 1 (now1.match_.map (ci .i64))]]⟩), (some 88, ⟨25, 10, false, [[.int .i64 r5.1.id, .list 1 (r5.1.peers.map (ci .i64)), .int .i64 r5.1.term, .int .i64 r5.1.voted, .int .i64 r5.1.role, .list 2 (r5.1.log.map Entry.c), .int .i64 r5.1.commit, .list 1 (r5.1.votes.map (ci .i64)), .list 1 (r5.1.next.map (ci .i64)), .list 1 (r5.1.match_.map (ci .i64))]]⟩), (some 155, ⟨25, 10, false, [[.int .i64 r9.id, .list 1 (r9.peers.map (ci .i64)), .int .i64 r9.term, .int .i64 r9.voted, .int .i64 r9.role, .list 2 (r9.log.map Entry.c), .int .i64 r9.commit, .list 1 (r9.votes.map (ci .i64)), .list 1 (r9.next.map (ci .i64)), .list 1 (r9.match_.map (ci .i64))]]⟩)] [] [(1, .list 5 (l1.map Call30.c)), (2, .list 1 (votes1.map (ci .i64))), (3, .ptr 0 0 0 10), (7, .bool r1), (9, .ptr 1 0 0 10), (10, .int .i64 i1), (12, .ptr 2 0 0 10), (13, .bool r5.2), (14, .ptr 3 0 0 10), (15, .bool false)] (by show ([1, 2, 3, 7, 9, 10, 12, 13, 14, 15] : List Nat).Nodup; decide) (by show ([0, 1, 88, 155] : List Nat).Nodup; decide) ?_ ?_ (fun t0 => ⟨r9, false, t0, H, rfl⟩)
                      · exact (allB_some (by rfl) rfl (.cons (.cons (.int' rfl) (.cons (.lst _ _ _ (ci_pu .i64) rfl) (.cons (.int' rfl) (.cons (.int' rfl) (.cons (.int' rfl) (.cons (.lst _ _ _ Entry.pu rfl) (.cons (.int' rfl) (.cons (.lst _ _ _ (ci_pu .i64) rfl) (.cons (.lst _ _ _ (ci_pu .i64) rfl) (.cons (.lst _ _ _ (ci_pu .i64) rfl) .nil)))))))))) .nil) (allB_some (by rfl) rfl (.cons (.cons (.int' rfl) (.cons (.lst _ _ _ (ci_pu .i64) rfl) (.cons (.int' rfl) (.cons (.int' rfl) (.cons (.int' rfl) (.cons (.lst _ _ _ Entry.pu rfl) (.cons (.int' rfl) (.cons (.lst _ _ _ (ci_pu .i64) rfl) (.cons (.lst _ _ _ (ci_pu .i64) rfl) (.cons (.lst _ _ _ (ci_pu .i64) rfl) .nil)))))))))) .nil) (allB_some (by rfl) rfl (.cons (.cons (.int' rfl) (.cons (.lst _ _ _ (ci_pu .i64) rfl) (.cons (.int' rfl) (.cons (.int' rfl) (.cons (.int' rfl) (.cons (.lst _ _ _ Entry.pu rfl) (.cons (.int' rfl) (.cons (.lst _ _ _ (ci_pu .i64) rfl) (.cons (.lst _ _ _ (ci_pu .i64) rfl) (.cons (.lst _ _ _ (ci_pu .i64) rfl) .nil)))))))))) .nil) (allB_some (by rfl) rfl (.cons (.cons (.int' rfl) (.cons (.lst _ _ _ (ci_pu .i64) rfl) (.cons (.int' rfl) (.cons (.int' rfl) (.cons (.int' rfl) (.cons (.lst _ _ _ Entry.pu rfl) (.cons (.int' rfl) (.cons (.lst _ _ _ (ci_pu .i64) rfl) (.cons (.lst _ _ _ (ci_pu .i64) rfl) (.cons (.lst _ _ _ (ci_pu .i64) rfl) .nil)))))))))) .nil) trivial))))
                      · (simp only [AllT, tl_cons, tl_nil, upd_apply, List.getD_cons_zero, List.getD_cons_succ, Nat.reduceEqDiff, ↓reduceIte, and_true]); exact ⟨(.lst _ _ _ Call30.pu rfl), (.lst _ _ _ (ci_pu .i64) rfl), (.ptr _ _ _ _ _ rfl), (.bool' rfl), (.ptr _ _ _ _ _ rfl), (.int' rfl), (.ptr _ _ _ _ _ rfl), (.bool' rfl), (.ptr _ _ _ _ _ rfl), (.bool' (by first | rfl | assumption | (simp_all; done)))⟩
                    · have H := cond_f zc8 H
                      refine a_skip ?_
                      refine cA_n ?_
                      refine wk_l [(some 0, ⟨25, 10, false, [[.int .i64 s1.id, .list 1 (s1.peers.map (ci .i64)), .int .i64 s1.term, .int .i64 s1.voted, .int .i64 s1.role, .list 2 (s1.log.map Entry.c), .int .i64 s1.commit, .list 1 (s1.votes.map (ci .i64)), .list 1 (s1.next.map (ci .i64)), .list 1 (s1.match_.map (ci .i64))]]⟩), (some 1, ⟨25, 10, false, [[.int .i64 now1.id, .list 1 (now1.peers.map (ci .i64)), .int .i64 now1.term, .int .i64 now1.voted, .int .i64 now1.role, .list 2 (now1.log.map Entry.c), .int .i64 now1.commit, .list 1 (now1.votes.map (ci .i64)), .list 1 (now1.next.map (ci .i64)), .list 1 (now1.match_.map (ci .i64))]]⟩), (some 88, ⟨25, 10, false, [[.int .i64 r5.1.id, .list 1 (r5.1.peers.map (ci .i64)), .int .i64 r5.1.term, .int .i64 r5.1.voted, .int .i64 r5.1.role, .list 2 (r5.1.log.map Entry.c), .int .i64 r5.1.commit, .list 1 (r5.1.votes.map (ci .i64)), .list 1 (r5.1.next.map (ci .i64)), .list 1 (r5.1.match_.map (ci .i64))]]⟩), (some 155, ⟨25, 10, false, [[.int .i64 now1.id, .list 1 (now1.peers.map (ci .i64)), .int .i64 now1.term, .int .i64 now1.voted, .int .i64 now1.role, .list 2 (now1.log.map Entry.c), .int .i64 now1.commit, .list 1 (now1.votes.map (ci .i64)), .list 1 (now1.next.map (ci .i64)), .list 1 (now1.match_.map (ci .i64))]]⟩)] [] [(1, .list 5 (l1.map Call30.c)), (2, .list 1 (votes1.map (ci .i64))), (3, .ptr 0 0 0 10), (7, .bool r1), (9, .ptr 1 0 0 10), (10, .int .i64 i1), (12, .ptr 2 0 0 10), (13, .bool r5.2), (14, .ptr 3 0 0 10), (15, .bool false)] (by show ([1, 2, 3, 7, 9, 10, 12, 13, 14, 15] : List Nat).Nodup; decide) (by show ([0, 1, 88, 155] : List Nat).Nodup; decide) ?_ ?_ (fun t0 => ⟨now1, false, t0, H, rfl⟩)
                      · exact (allB_some (by rfl) rfl (.cons (.cons (.int' rfl) (.cons (.lst _ _ _ (ci_pu .i64) rfl) (.cons (.int' rfl) (.cons (.int' rfl) (.cons (.int' rfl) (.cons (.lst _ _ _ Entry.pu rfl) (.cons (.int' rfl) (.cons (.lst _ _ _ (ci_pu .i64) rfl) (.cons (.lst _ _ _ (ci_pu .i64) rfl) (.cons (.lst _ _ _ (ci_pu .i64) rfl) .nil)))))))))) .nil) (allB_some (by rfl) rfl (.cons (.cons (.int' rfl) (.cons (.lst _ _ _ (ci_pu .i64) rfl) (.cons (.int' rfl) (.cons (.int' rfl) (.cons (.int' rfl) (.cons (.lst _ _ _ Entry.pu rfl) (.cons (.int' rfl) (.cons (.lst _ _ _ (ci_pu .i64) rfl) (.cons (.lst _ _ _ (ci_pu .i64) rfl) (.cons (.lst _ _ _ (ci_pu .i64) rfl) .nil)))))))))) .nil) (allB_some (by rfl) rfl (.cons (.cons (.int' rfl) (.cons (.lst _ _ _ (ci_pu .i64) rfl) (.cons (.int' rfl) (.cons (.int' rfl) (.cons (.int' rfl) (.cons (.lst _ _ _ Entry.pu rfl) (.cons (.int' rfl) (.cons (.lst _ _ _ (ci_pu .i64) rfl) (.cons (.lst _ _ _ (ci_pu .i64) rfl) (.cons (.lst _ _ _ (ci_pu .i64) rfl) .nil)))))))))) .nil) (allB_some (by rfl) rfl (.cons (.cons (.int' rfl) (.cons (.lst _ _ _ (ci_pu .i64) rfl) (.cons (.int' rfl) (.cons (.int' rfl) (.cons (.int' rfl) (.cons (.lst _ _ _ Entry.pu rfl) (.cons (.int' rfl) (.cons (.lst _ _ _ (ci_pu .i64) rfl) (.cons (.lst _ _ _ (ci_pu .i64) rfl) (.cons (.lst _ _ _ (ci_pu .i64) rfl) .nil)))))))))) .nil) trivial))))
                      · (simp only [AllT, tl_cons, tl_nil, upd_apply, List.getD_cons_zero, List.getD_cons_succ, Nat.reduceEqDiff, ↓reduceIte, and_true]); exact ⟨(.lst _ _ _ Call30.pu rfl), (.lst _ _ _ (ci_pu .i64) rfl), (.ptr _ _ _ _ _ rfl), (.bool' rfl), (.ptr _ _ _ _ _ rfl), (.int' rfl), (.ptr _ _ _ _ _ rfl), (.bool' rfl), (.ptr _ _ _ _ _ rfl), (.bool' (by first | rfl | assumption | (simp_all; done)))⟩
              · rintro s ⟨want1, was1, t0, H, rfl⟩
                unfold law14_VoteTells_J3 at H
                refine a_seq ?_
                obtain ⟨r6, zh7, H⟩ := bind_some H
                have zk6 := ref14_Same_pc zh7
                refine a_reg _ rfl (s := ?zs14) ?_ ?_
                rotate_left
                · try simp (maxSteps := 2000000) only [EVT, stepR, evOp, St.ev, St.app, St.put, wrs, evLoad, cut, frz, TIS, CS, Nat.reduceAdd, Nat.reduceMul, Nat.reduceEqDiff, ↓reduceIte, reduceCtorEq, Nat.reduceLT, Nat.reduceLeDiff, Nat.reduceSub, Nat.reduceBEq]
                  repeat' with_reducible apply And.intro
                  all_goals try ((with_reducible show CallR _ _ _ _ _ _ _); refine cR_s zk6 (.cons (.agg' (.cons (.int' rfl) (.cons (.lst _ _ _ (ci_pu .i64) rfl) (.cons (.int' rfl) (.cons (.int' rfl) (.cons (.int' rfl) (.cons (.lst _ _ _ Entry.pu rfl) (.cons (.int' rfl) (.cons (.lst _ _ _ (ci_pu .i64) rfl) (.cons (.lst _ _ _ (ci_pu .i64) rfl) (.cons (.lst _ _ _ (ci_pu .i64) rfl) .nil))))))))))) (.cons (.agg' (.cons (.int' rfl) (.cons (.lst _ _ _ (ci_pu .i64) rfl) (.cons (.int' rfl) (.cons (.int' rfl) (.cons (.int' rfl) (.cons (.lst _ _ _ Entry.pu rfl) (.cons (.int' rfl) (.cons (.lst _ _ _ (ci_pu .i64) rfl) (.cons (.lst _ _ _ (ci_pu .i64) rfl) (.cons (.lst _ _ _ (ci_pu .i64) rfl) .nil))))))))))) .nil)) (.bool _) ?_; simp (maxSteps := 2000000) only [EVT, stepR, evOp, St.ev, St.app, St.put, wrs, evLoad, cut, frz, TIS, CS, Nat.reduceAdd, Nat.reduceMul, Nat.reduceEqDiff, ↓reduceIte, reduceCtorEq, Nat.reduceLT, Nat.reduceLeDiff, Nat.reduceSub, Nat.reduceBEq])
                  all_goals ((repeat' apply And.intro) <;> first | rfl | assumption | omega | (simp; done) | (simp; omega) | (simp_all; done))
                refine sA_n ?_
                refine a_seq ?_
                refine a_cut (fun s => ∃ (v2 : Bool) (t0 : Nat → Dat), law14_VoteTells_J4 (law14_VoteTells_L1 l1 r1 votes1 s1 m_law14_VoteTells_L1) r5 i1 v2 = some r ∧ s = ⟨tl t0 [(1, .list 5 (l1.map Call30.c)), (2, .list 1 (votes1.map (ci .i64))), (3, .ptr 0 0 0 10), (7, .bool r1), (9, .ptr 1 0 0 10), (10, .int .i64 i1), (12, .ptr 2 0 0 10), (102, .bool v2)], hl [⟨25, 10, false, [[.int .i64 s1.id, .list 1 (s1.peers.map (ci .i64)), .int .i64 s1.term, .int .i64 s1.voted, .int .i64 s1.role, .list 2 (s1.log.map Entry.c), .int .i64 s1.commit, .list 1 (s1.votes.map (ci .i64)), .list 1 (s1.next.map (ci .i64)), .list 1 (s1.match_.map (ci .i64))]]⟩, ⟨25, 10, false, [[.int .i64 now1.id, .list 1 (now1.peers.map (ci .i64)), .int .i64 now1.term, .int .i64 now1.voted, .int .i64 now1.role, .list 2 (now1.log.map Entry.c), .int .i64 now1.commit, .list 1 (now1.votes.map (ci .i64)), .list 1 (now1.next.map (ci .i64)), .list 1 (now1.match_.map (ci .i64))]]⟩, ⟨25, 10, false, [[.int .i64 r5.1.id, .list 1 (r5.1.peers.map (ci .i64)), .int .i64 r5.1.term, .int .i64 r5.1.voted, .int .i64 r5.1.role, .list 2 (r5.1.log.map Entry.c), .int .i64 r5.1.commit, .list 1 (r5.1.votes.map (ci .i64)), .list 1 (r5.1.next.map (ci .i64)), .list 1 (r5.1.match_.map (ci .i64))]]⟩], 3, 116⟩) ?_ ?_
                · refine bool_split (b := (!r6)) (fun zc5 => ?_) (fun zc5 => ?_)
                  · rw [zc5] at H
                    refine a_reg _ rfl (s := ?zs18) ?_ ?_
                    rotate_left
                    · simp (maxSteps := 2000000) only [EVT, stepR, evOp, St.ev, St.app, St.put, wrs, evUn, evBin, binInt, datOf, datOf1, TIS, CS, Nat.reduceAdd, Nat.reduceMul, Nat.reduceEqDiff, ↓reduceIte, reduceCtorEq, Nat.reduceLT, Nat.reduceLeDiff, Array.reduceGetElem?, ↓zc5]
                      try simp (maxSteps := 2000000) only [EVT, stepR, evOp, St.ev, St.app, St.put, wrs, evUn, evBin, binInt, datOf, datOf1, TIS, CS, Nat.reduceAdd, Nat.reduceMul, Nat.reduceEqDiff, ↓reduceIte, reduceCtorEq, Nat.reduceLT, Nat.reduceLeDiff, Array.reduceGetElem?, ↓zc5]
                      (repeat' apply And.intro) <;> first | rfl | assumption | omega | (simp; done) | (simp; omega) | (simp_all; done)
                    refine cA_n ?_
                    refine wk_l [(some 0, ⟨25, 10, false, [[.int .i64 s1.id, .list 1 (s1.peers.map (ci .i64)), .int .i64 s1.term, .int .i64 s1.voted, .int .i64 s1.role, .list 2 (s1.log.map Entry.c), .int .i64 s1.commit, .list 1 (s1.votes.map (ci .i64)), .list 1 (s1.next.map (ci .i64)), .list 1 (s1.match_.map (ci .i64))]]⟩), (some 1, ⟨25, 10, false, [[.int .i64 now1.id, .list 1 (now1.peers.map (ci .i64)), .int .i64 now1.term, .int .i64 now1.voted, .int .i64 now1.role, .list 2 (now1.log.map Entry.c), .int .i64 now1.commit, .list 1 (now1.votes.map (ci .i64)), .list 1 (now1.next.map (ci .i64)), .list 1 (now1.match_.map (ci .i64))]]⟩), (some 2, ⟨25, 10, false, [[.int .i64 r5.1.id, .list 1 (r5.1.peers.map (ci .i64)), .int .i64 r5.1.term, .int .i64 r5.1.voted, .int .i64 r5.1.role, .list 2 (r5.1.log.map Entry.c), .int .i64 r5.1.commit, .list 1 (r5.1.votes.map (ci .i64)), .list 1 (r5.1.next.map (ci .i64)), .list 1 (r5.1.match_.map (ci .i64))]]⟩)] [] [(1, .list 5 (l1.map Call30.c)), (2, .list 1 (votes1.map (ci .i64))), (3, .ptr 0 0 0 10), (7, .bool r1), (9, .ptr 1 0 0 10), (10, .int .i64 i1), (12, .ptr 2 0 0 10), (102, .bool true)] (by show ([1, 2, 3, 7, 9, 10, 12, 102] : List Nat).Nodup; decide) (by show ([0, 1, 2] : List Nat).Nodup; decide) ?_ ?_ (fun t0 => ⟨true, t0, H, rfl⟩)
                    · exact (allB_some (by rfl) rfl (.cons (.cons (.int' rfl) (.cons (.lst _ _ _ (ci_pu .i64) rfl) (.cons (.int' rfl) (.cons (.int' rfl) (.cons (.int' rfl) (.cons (.lst _ _ _ Entry.pu rfl) (.cons (.int' rfl) (.cons (.lst _ _ _ (ci_pu .i64) rfl) (.cons (.lst _ _ _ (ci_pu .i64) rfl) (.cons (.lst _ _ _ (ci_pu .i64) rfl) .nil)))))))))) .nil) (allB_some (by rfl) rfl (.cons (.cons (.int' rfl) (.cons (.lst _ _ _ (ci_pu .i64) rfl) (.cons (.int' rfl) (.cons (.int' rfl) (.cons (.int' rfl) (.cons (.lst _ _ _ Entry.pu rfl) (.cons (.int' rfl) (.cons (.lst _ _ _ (ci_pu .i64) rfl) (.cons (.lst _ _ _ (ci_pu .i64) rfl) (.cons (.lst _ _ _ (ci_pu .i64) rfl) .nil)))))))))) .nil) (allB_some (by rfl) rfl (.cons (.cons (.int' rfl) (.cons (.lst _ _ _ (ci_pu .i64) rfl) (.cons (.int' rfl) (.cons (.int' rfl) (.cons (.int' rfl) (.cons (.lst _ _ _ Entry.pu rfl) (.cons (.int' rfl) (.cons (.lst _ _ _ (ci_pu .i64) rfl) (.cons (.lst _ _ _ (ci_pu .i64) rfl) (.cons (.lst _ _ _ (ci_pu .i64) rfl) .nil)))))))))) .nil) trivial)))
                    · (simp only [AllT, tl_cons, tl_nil, upd_apply, List.getD_cons_zero, List.getD_cons_succ, Nat.reduceEqDiff, ↓reduceIte, and_true]); exact ⟨(.lst _ _ _ Call30.pu rfl), (.lst _ _ _ (ci_pu .i64) rfl), (.ptr _ _ _ _ _ rfl), (.bool' rfl), (.ptr _ _ _ _ _ rfl), (.int' rfl), (.ptr _ _ _ _ _ rfl), (.bool' (by first | rfl | assumption | (simp_all; done)))⟩
                  · rw [zc5] at H
                    refine a_reg _ rfl (s := ?zs19) ?_ ?_
                    rotate_left
                    · simp (maxSteps := 2000000) only [EVT, stepR, evOp, St.ev, St.app, St.put, wrs, evUn, evBin, binInt, datOf, datOf1, TIS, CS, Nat.reduceAdd, Nat.reduceMul, Nat.reduceEqDiff, ↓reduceIte, reduceCtorEq, Nat.reduceLT, Nat.reduceLeDiff, Array.reduceGetElem?, ↓zc5]
                      try simp (maxSteps := 2000000) only [EVT, stepR, evOp, St.ev, St.app, St.put, wrs, evUn, evBin, binInt, datOf, datOf1, TIS, CS, Nat.reduceAdd, Nat.reduceMul, Nat.reduceEqDiff, ↓reduceIte, reduceCtorEq, Nat.reduceLT, Nat.reduceLeDiff, Array.reduceGetElem?, ↓zc5]
                      (repeat' apply And.intro) <;> first | rfl | assumption | omega | (simp; done) | (simp; omega) | (simp_all; done)
                    refine cA_n ?_
                    refine wk_l [(some 0, ⟨25, 10, false, [[.int .i64 s1.id, .list 1 (s1.peers.map (ci .i64)), .int .i64 s1.term, .int .i64 s1.voted, .int .i64 s1.role, .list 2 (s1.log.map Entry.c), .int .i64 s1.commit, .list 1 (s1.votes.map (ci .i64)), .list 1 (s1.next.map (ci .i64)), .list 1 (s1.match_.map (ci .i64))]]⟩), (some 1, ⟨25, 10, false, [[.int .i64 now1.id, .list 1 (now1.peers.map (ci .i64)), .int .i64 now1.term, .int .i64 now1.voted, .int .i64 now1.role, .list 2 (now1.log.map Entry.c), .int .i64 now1.commit, .list 1 (now1.votes.map (ci .i64)), .list 1 (now1.next.map (ci .i64)), .list 1 (now1.match_.map (ci .i64))]]⟩), (some 2, ⟨25, 10, false, [[.int .i64 r5.1.id, .list 1 (r5.1.peers.map (ci .i64)), .int .i64 r5.1.term, .int .i64 r5.1.voted, .int .i64 r5.1.role, .list 2 (r5.1.log.map Entry.c), .int .i64 r5.1.commit, .list 1 (r5.1.votes.map (ci .i64)), .list 1 (r5.1.next.map (ci .i64)), .list 1 (r5.1.match_.map (ci .i64))]]⟩)] [] [(1, .list 5 (l1.map Call30.c)), (2, .list 1 (votes1.map (ci .i64))), (3, .ptr 0 0 0 10), (7, .bool r1), (9, .ptr 1 0 0 10), (10, .int .i64 i1), (12, .ptr 2 0 0 10), (102, .bool (!(r5.2 == was1)))] (by show ([1, 2, 3, 7, 9, 10, 12, 102] : List Nat).Nodup; decide) (by show ([0, 1, 2] : List Nat).Nodup; decide) ?_ ?_ (fun t0 => ⟨(!(r5.2 == was1)), t0, H, rfl⟩)
                    · exact (allB_some (by rfl) rfl (.cons (.cons (.int' rfl) (.cons (.lst _ _ _ (ci_pu .i64) rfl) (.cons (.int' rfl) (.cons (.int' rfl) (.cons (.int' rfl) (.cons (.lst _ _ _ Entry.pu rfl) (.cons (.int' rfl) (.cons (.lst _ _ _ (ci_pu .i64) rfl) (.cons (.lst _ _ _ (ci_pu .i64) rfl) (.cons (.lst _ _ _ (ci_pu .i64) rfl) .nil)))))))))) .nil) (allB_some (by rfl) rfl (.cons (.cons (.int' rfl) (.cons (.lst _ _ _ (ci_pu .i64) rfl) (.cons (.int' rfl) (.cons (.int' rfl) (.cons (.int' rfl) (.cons (.lst _ _ _ Entry.pu rfl) (.cons (.int' rfl) (.cons (.lst _ _ _ (ci_pu .i64) rfl) (.cons (.lst _ _ _ (ci_pu .i64) rfl) (.cons (.lst _ _ _ (ci_pu .i64) rfl) .nil)))))))))) .nil) (allB_some (by rfl) rfl (.cons (.cons (.int' rfl) (.cons (.lst _ _ _ (ci_pu .i64) rfl) (.cons (.int' rfl) (.cons (.int' rfl) (.cons (.int' rfl) (.cons (.lst _ _ _ Entry.pu rfl) (.cons (.int' rfl) (.cons (.lst _ _ _ (ci_pu .i64) rfl) (.cons (.lst _ _ _ (ci_pu .i64) rfl) (.cons (.lst _ _ _ (ci_pu .i64) rfl) .nil)))))))))) .nil) trivial)))
                    · (simp only [AllT, tl_cons, tl_nil, upd_apply, List.getD_cons_zero, List.getD_cons_succ, Nat.reduceEqDiff, ↓reduceIte, and_true]); exact ⟨(.lst _ _ _ Call30.pu rfl), (.lst _ _ _ (ci_pu .i64) rfl), (.ptr _ _ _ _ _ rfl), (.bool' rfl), (.ptr _ _ _ _ _ rfl), (.int' rfl), (.ptr _ _ _ _ _ rfl), (.bool' rfl)⟩
                · rintro s ⟨v2, t0, H, rfl⟩
                  unfold law14_VoteTells_J4 at H
                  refine a_condb (v2) (by rfl) (fun zc4 => ?_) (fun zc4 => ?_)
                  · have H := cond_t zc4 H
                    refine a_seq ?_
                    refine a_reg _ rfl (s := ?zs15) ?_ ?_
                    rotate_left
                    · simp (maxSteps := 2000000) only [EVT, stepR, evOp, St.ev, St.app, St.put, wrs, datOf, datOf1, TIS, CS, Nat.reduceAdd, Nat.reduceMul, Nat.reduceEqDiff, ↓reduceIte, reduceCtorEq, Nat.reduceLT, Nat.reduceLeDiff, ↓zc4]
                      (repeat' apply And.intro) <;> first | rfl | assumption | omega | (simp; done) | (simp; omega) | (simp_all; done)
                    refine sA_n ?_
                    refine a_ret ?_
                    refine sA_r ?_
                    refine bA_r ?_
                    refine sA_r ?_
                    refine lA_r ?_
                    refine bA_r ?_
                    refine cA_r ?_
                    obtain rfl := Option.some.inj H
                    refine e_r2 (d := ?zd4) ?_ ?_
                    rotate_left
                    · simp only [EVT, resR, single, evLoad, cut, TIS, CS, Nat.reduceAdd, Nat.reduceEqDiff, ↓reduceIte, reduceCtorEq, Nat.reduceLT, Nat.reduceLeDiff, Nat.reduceSub, Nat.reduceBEq, zc4]
                      (repeat' apply And.intro) <;> first | rfl | assumption | omega | (simp; done)
                    exact (.bool' (by first | rfl | assumption | (simp_all; done)))
                  · have H := cond_f zc4 H
                    refine a_skip ?_
                    refine sA_n ?_
                    refine a_reg _ rfl (s := ?zs16) ?_ ?_
                    rotate_left
                    · simp (maxSteps := 2000000) only [EVT, stepR, evOp, St.ev, St.app, St.put, wrs, evLoad, cut, evStore, setR, allOne, TIS, CS, Nat.reduceAdd, Nat.reduceMul, Nat.reduceEqDiff, ↓reduceIte, reduceCtorEq, Nat.reduceLT, Nat.reduceLeDiff, Nat.reduceSub, Nat.reduceBEq, ↓zc4]
                      (repeat' apply And.intro) <;> first | rfl | assumption | omega | (simp; done) | (simp; omega) | (simp_all; done)
                    refine bA_n ?_
                    refine sA_n ?_
                    refine a_reg _ rfl (s := ?zs17) ?_ ?_
                    rotate_left
                    · simp (maxSteps := 2000000) only [EVT, stepR, evOp, St.ev, St.app, St.put, wrs, datOf, datOf1, evBin, binInt, TIS, CS, Nat.reduceAdd, Nat.reduceMul, Nat.reduceEqDiff, ↓reduceIte, reduceCtorEq, Nat.reduceLT, Nat.reduceLeDiff, ↓zc4]
                      (repeat' apply And.intro) <;> first | rfl | assumption | omega | (simp; done) | (simp; omega) | (simp_all; done)
                    refine lA_n ?_
                    refine wk_l [(some 0, ⟨25, 10, false, [[.int .i64 s1.id, .list 1 (s1.peers.map (ci .i64)), .int .i64 s1.term, .int .i64 s1.voted, .int .i64 s1.role, .list 2 (s1.log.map Entry.c), .int .i64 s1.commit, .list 1 (s1.votes.map (ci .i64)), .list 1 (s1.next.map (ci .i64)), .list 1 (s1.match_.map (ci .i64))]]⟩), (some 1, ⟨25, 10, false, [[.int .i64 r5.1.id, .list 1 (r5.1.peers.map (ci .i64)), .int .i64 r5.1.term, .int .i64 r5.1.voted, .int .i64 r5.1.role, .list 2 (r5.1.log.map Entry.c), .int .i64 r5.1.commit, .list 1 (r5.1.votes.map (ci .i64)), .list 1 (r5.1.next.map (ci .i64)), .list 1 (r5.1.match_.map (ci .i64))]]⟩)] [] [(1, .list 5 (l1.map Call30.c)), (2, .list 1 (votes1.map (ci .i64))), (3, .ptr 0 0 0 10), (7, .bool r1), (9, .ptr 1 0 0 10), (10, .int .i64 (IntKind.wrap .i64 (i1 + 1)))] (by show ([1, 2, 3, 7, 9, 10] : List Nat).Nodup; decide) (by show ([0, 1] : List Nat).Nodup; decide) ?_ ?_ (fun t0 => ⟨_, Nat.lt_succ_self _, r5.1, (IntKind.wrap .i64 (i1 + 1)), t0, H, rfl⟩)
                    · exact (allB_some (by rfl) rfl (.cons (.cons (.int' rfl) (.cons (.lst _ _ _ (ci_pu .i64) rfl) (.cons (.int' rfl) (.cons (.int' rfl) (.cons (.int' rfl) (.cons (.lst _ _ _ Entry.pu rfl) (.cons (.int' rfl) (.cons (.lst _ _ _ (ci_pu .i64) rfl) (.cons (.lst _ _ _ (ci_pu .i64) rfl) (.cons (.lst _ _ _ (ci_pu .i64) rfl) .nil)))))))))) .nil) (allB_some (by rfl) rfl (.cons (.cons (.int' rfl) (.cons (.lst _ _ _ (ci_pu .i64) rfl) (.cons (.int' rfl) (.cons (.int' rfl) (.cons (.int' rfl) (.cons (.lst _ _ _ Entry.pu rfl) (.cons (.int' rfl) (.cons (.lst _ _ _ (ci_pu .i64) rfl) (.cons (.lst _ _ _ (ci_pu .i64) rfl) (.cons (.lst _ _ _ (ci_pu .i64) rfl) .nil)))))))))) .nil) trivial))
                    · (simp only [AllT, tl_cons, tl_nil, upd_apply, List.getD_cons_zero, List.getD_cons_succ, Nat.reduceEqDiff, ↓reduceIte, and_true]); exact ⟨(.lst _ _ _ Call30.pu rfl), (.lst _ _ _ (ci_pu .i64) rfl), (.ptr _ _ _ _ _ rfl), (.bool' rfl), (.ptr _ _ _ _ _ rfl), (.int' rfl)⟩
            · have H := cond_f zc3 H
              refine a_exit ?_
              refine sA_e ?_
              refine lA_e ?_
              refine bA_hit ?_
              refine cA_n ?_
              refine wk_l [(some 0, ⟨25, 10, false, [[.int .i64 s1.id, .list 1 (s1.peers.map (ci .i64)), .int .i64 s1.term, .int .i64 s1.voted, .int .i64 s1.role, .list 2 (s1.log.map Entry.c), .int .i64 s1.commit, .list 1 (s1.votes.map (ci .i64)), .list 1 (s1.next.map (ci .i64)), .list 1 (s1.match_.map (ci .i64))]]⟩)] [] [(2, .list 1 (votes1.map (ci .i64))), (3, .ptr 0 0 0 10), (7, .bool r1)] (by show ([2, 3, 7] : List Nat).Nodup; decide) (by show ([0] : List Nat).Nodup; decide) ?_ ?_ (fun t0 => ⟨t0, H, rfl⟩)
              · exact (allB_some (by rfl) rfl (.cons (.cons (.int' rfl) (.cons (.lst _ _ _ (ci_pu .i64) rfl) (.cons (.int' rfl) (.cons (.int' rfl) (.cons (.int' rfl) (.cons (.lst _ _ _ Entry.pu rfl) (.cons (.int' rfl) (.cons (.lst _ _ _ (ci_pu .i64) rfl) (.cons (.lst _ _ _ (ci_pu .i64) rfl) (.cons (.lst _ _ _ (ci_pu .i64) rfl) .nil)))))))))) .nil) trivial)
              · (simp only [AllT, tl_cons, tl_nil, upd_apply, List.getD_cons_zero, List.getD_cons_succ, Nat.reduceEqDiff, ↓reduceIte, and_true]); exact ⟨(.lst _ _ _ (ci_pu .i64) rfl), (.ptr _ _ _ _ _ rfl), (.bool' rfl)⟩
      · rintro s ⟨t0, H, rfl⟩
        unfold law14_VoteTells_J2 at H
        refine a_seq ?_
        refine bool_split (b := r1) (fun zc2 => ?_) (fun zc2 => ?_)
        · have H := cond_t zc2 H
          obtain ⟨r3, zh3, H⟩ := bind_some H
          have zk3 := vote_Won_pc zh3
          obtain ⟨r4, zh4, H⟩ := bind_some H
          have zk4 := ref14_Won_pc zh4
          refine a_drW (by kernel_rfl) _ rfl (s := ?zs6) (by kernel_rfl) (by kernel_rfl) ?zs6f ?_ ?_ ?_
          rotate_left 2
          · try simp (maxSteps := 2000000) only [EVT, stepW, evOp, St.ev, St.app, St.put, wrs, evFieldAddr, evLoad, cut, frz, evBin, binInt, datOf, datOf1, TIS, CS, Nat.reduceAdd, Nat.reduceMul, Nat.reduceEqDiff, ↓reduceIte, reduceCtorEq, Nat.reduceLT, Nat.reduceLeDiff, Array.reduceGetElem?, Nat.reduceSub, Nat.reduceBEq, ↓zc2]
            repeat' with_reducible apply And.intro
            all_goals try ((with_reducible show CallW _ _ _ _ _ _ _); refine cW_s [] zk3 (fun h2 e => (.cons (.lst _ _ _ (ci_pu .i64) rfl) (.cons (.lst _ _ _ (ci_pu .i64) rfl) .nil))) (.bool _) ?_; simp (maxSteps := 2000000) only [EVT, stepW, evOp, St.ev, St.app, St.put, wrs, evFieldAddr, evLoad, cut, frz, evBin, binInt, datOf, datOf1, TIS, CS, Nat.reduceAdd, Nat.reduceMul, Nat.reduceEqDiff, ↓reduceIte, reduceCtorEq, Nat.reduceLT, Nat.reduceLeDiff, Array.reduceGetElem?, Nat.reduceSub, Nat.reduceBEq, ↓zc2])
            repeat' with_reducible apply And.intro
            all_goals try ((with_reducible show CallW _ _ _ _ _ _ _); refine cW_s [] zk4 (fun h2 e => (.cons (.lst _ _ _ (ci_pu .i64) rfl) (.cons (.lst _ _ _ (ci_pu .i64) rfl) .nil))) (.bool _) ?_; simp (maxSteps := 2000000) only [EVT, stepW, evOp, St.ev, St.app, St.put, wrs, evFieldAddr, evLoad, cut, frz, evBin, binInt, datOf, datOf1, TIS, CS, Nat.reduceAdd, Nat.reduceMul, Nat.reduceEqDiff, ↓reduceIte, reduceCtorEq, Nat.reduceLT, Nat.reduceLeDiff, Array.reduceGetElem?, Nat.reduceSub, Nat.reduceBEq, ↓zc2])
            all_goals ((repeat' apply And.intro) <;> first | rfl | assumption | omega | (simp; done) | (simp; omega) | (simp_all; done))
          · kernel_rfl
          refine sA_n ?_
          refine a_ret ?_
          obtain rfl := Option.some.inj H
          refine e_r2 (d := ?zd2) ?_ ?_
          rotate_left
          · simp only [EVT, resR, single, evLoad, cut, TIS, CS, Nat.reduceAdd, Nat.reduceEqDiff, ↓reduceIte, reduceCtorEq, Nat.reduceLT, Nat.reduceLeDiff, Nat.reduceSub, Nat.reduceBEq, zc2]
            (repeat' apply And.intro) <;> first | rfl | assumption | omega | (simp; done)
          exact (.bool' rfl)
        · have H := cond_f zc2 H
          refine a_drW (by kernel_rfl) _ rfl (s := ?zs7) (by kernel_rfl) (by kernel_rfl) ?zs7f ?_ ?_ ?_
          rotate_left 2
          · simp (maxSteps := 2000000) only [EVT, stepW, evOp, St.ev, St.app, St.put, wrs, evFieldAddr, evLoad, cut, frz, evBin, binInt, datOf, datOf1, TIS, CS, Nat.reduceAdd, Nat.reduceMul, Nat.reduceEqDiff, ↓reduceIte, reduceCtorEq, Nat.reduceLT, Nat.reduceLeDiff, Array.reduceGetElem?, Nat.reduceSub, Nat.reduceBEq, ↓zc2]
            try simp (maxSteps := 2000000) only [EVT, stepW, evOp, St.ev, St.app, St.put, wrs, evFieldAddr, evLoad, cut, frz, evBin, binInt, datOf, datOf1, TIS, CS, Nat.reduceAdd, Nat.reduceMul, Nat.reduceEqDiff, ↓reduceIte, reduceCtorEq, Nat.reduceLT, Nat.reduceLeDiff, Array.reduceGetElem?, Nat.reduceSub, Nat.reduceBEq, ↓zc2]
            (repeat' apply And.intro) <;> first | rfl | assumption | omega | (simp; done) | (simp; omega) | (simp_all; done)
          · kernel_rfl
          refine sA_n ?_
          refine a_ret ?_
          obtain rfl := Option.some.inj H
          refine e_r2 (d := ?zd3) ?_ ?_
          rotate_left
          · simp only [EVT, resR, single, evLoad, cut, TIS, CS, Nat.reduceAdd, Nat.reduceEqDiff, ↓reduceIte, reduceCtorEq, Nat.reduceLT, Nat.reduceLeDiff, Nat.reduceSub, Nat.reduceBEq, zc2]
            (repeat' apply And.intro) <;> first | rfl | assumption | omega | (simp; done)
          exact (.bool' (by first | rfl | assumption | (simp_all; done)))
end
end Go.Proofs.Ytecdonbjabjaeaa
