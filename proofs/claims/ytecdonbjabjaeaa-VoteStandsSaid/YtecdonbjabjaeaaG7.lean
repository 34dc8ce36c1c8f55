/- Functions of the program as Lean functions, and that they are so; printed by a program of mine. -/
import Derived.Test.YtecdonbjabjaeaaF3
set_option linter.unusedSimpArgs false
set_option linter.unusedVariables false
namespace Go.Proofs.Ytecdonbjabjaeaa
open Go.Ab
noncomputable section

def law14_VoteStands_J4 (r1 : Bool) : Option Bool :=
  some (r1)
def law14_VoteStands_J5 (k_law14_VoteStands_L1 : Int → Option Bool) (i1 : Int) : Option Bool :=
  k_law14_VoteStands_L1 (IntKind.wrap .i64 (i1 + 1))
def law14_VoteStands_J7 (k_law14_VoteStands_L1 : Int → Option Bool) (i1 : Int) (v4 : Bool) : Option Bool :=
  cond v4 (some (false)) (law14_VoteStands_J5 k_law14_VoteStands_L1 i1)
def law14_VoteStands_J6 (k_law14_VoteStands_L1 : Int → Option Bool) (l1 : List Call30) (i1 : Int) (r3 : Seat) (s1 : Seat) (v3 : Bool) : Option Bool :=
  cond v3 (some (false)) ((idx l1 i1).bind fun x2 => (vote_Ask_f r3 r3.term (IntKind.wrap .i64 x2.who) 1000000 1000000).bind fun r6 => (ref14_Same_f r6.1 r3).bind fun r7 => law14_VoteStands_J7 k_law14_VoteStands_L1 i1 ((!(r6.2 == ((IntKind.wrap .i64 x2.who) == s1.id))) || (!r7)))
def law14_VoteStands_L1 (l1 : List Call30) (r3 : Seat) (s1 : Seat) (r1 : Bool) : Nat → Int → Option Bool
  | 0, _ => none
  | m_ + 1, i1 => cond (decide (i1 < (l1.length : Int))) ((idx l1 i1).bind fun x1 => cond (decide ((Int.tmod x1.do_ 4) < 2)) (law14_VoteStands_J5 (law14_VoteStands_L1 l1 r3 s1 r1 m_) i1) ((vote_Ask_f r3 (IntKind.wrap .i64 x1.term) (IntKind.wrap .i64 x1.who) 1000000 1000000).bind fun r4 => (ref14_Same_f r4.1 r3).bind fun r5 => law14_VoteStands_J6 (law14_VoteStands_L1 l1 r3 s1 r1 m_) l1 i1 r3 s1 (r4.2 || (!r5)))) (law14_VoteStands_J4 r1)
def law14_VoteStands_J3 (l1 : List Call30) (r3 : Seat) (s1 : Seat) (r1 : Bool) (v2 : Bool) : Option Bool :=
  cond v2 (some (false)) (law14_VoteStands_L1 l1 r3 s1 r1 BIG 0)
def law14_VoteStands_J2 (l1 : List Call30) (s1 : Seat) (r1 : Bool) (now1 : Seat) : Option Bool :=
  (vote_Begin_f now1).bind fun r3 => cond (r3.term != (IntKind.wrap .i64 (now1.term + 1))) (law14_VoteStands_J3 l1 r3 s1 r1 true) (cond (r3.voted != s1.id) (law14_VoteStands_J3 l1 r3 s1 r1 true) ((vote_Won_f r3.votes r3.peers).bind fun r8 => law14_VoteStands_J3 l1 r3 s1 r1 (!(r8 == ((s1.peers.length : Int) == 1)))))
def law14_VoteStands_L2 (l1 : List Call30) (s1 : Seat) (r1 : Bool) : Nat → Seat → Int → Option Bool
  | 0, _, _ => none
  | m_ + 1, now2, i2 => cond (decide (i2 < (l1.length : Int))) ((idx l1 i2).bind fun x3 => (law14_step_f now2 x3).bind fun r9 => law14_VoteStands_L2 l1 s1 r1 m_ r9.1 (IntKind.wrap .i64 (i2 + 1))) (law14_VoteStands_J2 l1 s1 r1 now2)
def law14_VoteStands_J1 (r1 : Bool) (l1 : List Call30) (s1 : Seat) (v1 : Bool) : Option Bool :=
  cond v1 (some (r1)) (law14_VoteStands_L2 l1 s1 r1 BIG s1 0)
def law14_VoteStands_f (s1 : Seat) (l1 : List Call30) : Option Bool :=
  (law14_head_f).bind fun r1 => (law14_Fits_f s1).bind fun r2 => law14_VoteStands_J1 r1 l1 s1 ((!r2) || (decide (30 < (l1.length : Int))))
set_option maxHeartbeats 4000000 in
set_option maxRecDepth 20000 in
theorem law14_VoteStands_pc {s1 : Seat} {l1 : List Call30} {r : Bool} (H : law14_VoteStands_f s1 l1 = some r) : PC Try.prog 7 [.agg (Seat.c s1), .list 5 (l1.map Call30.c)] (.bool r) := by
  refine pcA_of Try.func7 (by rfl) (by decide) 144 (by rfl) [.tmp 4] (by rfl) ?_
  unfold law14_VoteStands_f at H
  simp only [ent]
  refine a_seq ?_
  refine a_reg _ rfl (s := ?zs1) ?_ ?_
  rotate_left
  · simp (maxSteps := 2000000) only [EVT, stepR, evOp, St.ev, St.app, St.put, wrs, allOne, datOf, datOf1, TIS, CS, Nat.reduceAdd, Nat.reduceMul, Nat.reduceEqDiff, ↓reduceIte, reduceCtorEq, Nat.reduceLT, Nat.reduceLeDiff]
    (repeat' apply And.intro) <;> first | rfl | assumption | omega | (simp; done) | (simp; omega) | (simp_all; done)
  refine sA_n ?_
  refine a_seq ?_
  obtain ⟨r1, zh1, H⟩ := bind_some H
  have zk1 := law14_head_pc zh1
  refine a_reg _ rfl (s := ?zs2) ?_ ?_
  rotate_left
  · try simp (maxSteps := 2000000) only [EVT, stepR, evOp, St.ev, St.app, St.put, wrs, frz, TIS, CS, Nat.reduceAdd, Nat.reduceMul, Nat.reduceEqDiff, ↓reduceIte, reduceCtorEq, Nat.reduceLT, Nat.reduceLeDiff, Nat.reduceSub, Nat.reduceBEq]
    repeat' with_reducible apply And.intro
    all_goals try ((with_reducible show CallR _ _ _ _ _ _ _); refine cR_s zk1 .nil (.bool _) ?_; simp (maxSteps := 2000000) only [EVT, stepR, evOp, St.ev, St.app, St.put, wrs, frz, TIS, CS, Nat.reduceAdd, Nat.reduceMul, Nat.reduceEqDiff, ↓reduceIte, reduceCtorEq, Nat.reduceLT, Nat.reduceLeDiff, Nat.reduceSub, Nat.reduceBEq])
    all_goals ((repeat' apply And.intro) <;> first | rfl | assumption | omega | (simp; done) | (simp; omega) | (simp_all; done))
  refine sA_n ?_
  refine a_seq ?_
  obtain ⟨r2, zh2, H⟩ := bind_some H
  have zk2 := law14_Fits_pc zh2
  refine a_reg _ rfl (s := ?zs3) ?_ ?_
  rotate_left
  · try simp (maxSteps := 2000000) only [EVT, stepR, evOp, St.ev, St.app, St.put, wrs, evLoad, cut, frz, TIS, CS, Nat.reduceAdd, Nat.reduceMul, Nat.reduceEqDiff, ↓reduceIte, reduceCtorEq, Nat.reduceLT, Nat.reduceLeDiff, Nat.reduceSub, Nat.reduceBEq]
    repeat' with_reducible apply And.intro
    all_goals try ((with_reducible show CallR _ _ _ _ _ _ _); refine cR_s zk2 (.cons (.agg' (.cons (.int' rfl) (.cons (.lst _ _ _ (ci_pu .i64) rfl) (.cons (.int' rfl) (.cons (.int' rfl) (.cons (.int' rfl) (.cons (.lst _ _ _ Entry.pu rfl) (.cons (.int' rfl) (.cons (.lst _ _ _ (ci_pu .i64) rfl) (.cons (.lst _ _ _ (ci_pu .i64) rfl) (.cons (.lst _ _ _ (ci_pu .i64) rfl) .nil))))))))))) .nil) (.bool _) ?_; simp (maxSteps := 2000000) only [EVT, stepR, evOp, St.ev, St.app, St.put, wrs, evLoad, cut, frz, TIS, CS, Nat.reduceAdd, Nat.reduceMul, Nat.reduceEqDiff, ↓reduceIte, reduceCtorEq, Nat.reduceLT, Nat.reduceLeDiff, Nat.reduceSub, Nat.reduceBEq])
    all_goals ((repeat' apply And.intro) <;> first | rfl | assumption | omega | (simp; done) | (simp; omega) | (simp_all; done))
  refine sA_n ?_
  refine a_seq ?_
  refine a_cut (fun s => ∃ (v1 : Bool) (t0 : Nat → Dat), law14_VoteStands_J1 r1 l1 s1 v1 = some r ∧ s = ⟨tl t0 [(1, .list 5 (l1.map Call30.c)), (2, .ptr 0 0 0 10), (5, .bool r1), (28, .bool v1)], hl [⟨25, 10, false, [[.int .i64 s1.id, .list 1 (s1.peers.map (ci .i64)), .int .i64 s1.term, .int .i64 s1.voted, .int .i64 s1.role, .list 2 (s1.log.map Entry.c), .int .i64 s1.commit, .list 1 (s1.votes.map (ci .i64)), .list 1 (s1.next.map (ci .i64)), .list 1 (s1.match_.map (ci .i64))]]⟩], 1, 144⟩) ?_ ?_
  · refine bool_split (b := (!r2)) (fun zc12 => ?_) (fun zc12 => ?_)
    · rw [zc12] at H
      refine a_reg _ rfl (s := ?zs31) ?_ ?_
      rotate_left
      · simp (maxSteps := 2000000) only [EVT, stepR, evOp, St.ev, St.app, St.put, wrs, evUn, evBuiltin, datOf, datOf1, evBin, binInt, TIS, CS, Nat.reduceAdd, Nat.reduceMul, Nat.reduceEqDiff, ↓reduceIte, reduceCtorEq, Nat.reduceLT, Nat.reduceLeDiff, Array.reduceGetElem?, Nat.reduceSub, Nat.reduceBEq, ↓zc12]
        try simp (maxSteps := 2000000) only [EVT, stepR, evOp, St.ev, St.app, St.put, wrs, evUn, evBuiltin, datOf, datOf1, evBin, binInt, TIS, CS, Nat.reduceAdd, Nat.reduceMul, Nat.reduceEqDiff, ↓reduceIte, reduceCtorEq, Nat.reduceLT, Nat.reduceLeDiff, Array.reduceGetElem?, Nat.reduceSub, Nat.reduceBEq, ↓zc12]
        (repeat' apply And.intro) <;> first | rfl | assumption | omega | (simp; done) | (simp; omega) | (simp_all; done)
      refine cA_n ?_
      refine wk_l [(some 0, ⟨25, 10, false, [[.int .i64 s1.id, .list 1 (s1.peers.map (ci .i64)), .int .i64 s1.term, .int .i64 s1.voted, .int .i64 s1.role, .list 2 (s1.log.map Entry.c), .int .i64 s1.commit, .list 1 (s1.votes.map (ci .i64)), .list 1 (s1.next.map (ci .i64)), .list 1 (s1.match_.map (ci .i64))]]⟩)] [] [(1, .list 5 (l1.map Call30.c)), (2, .ptr 0 0 0 10), (5, .bool r1), (28, .bool true)] (by show ([1, 2, 5, 28] : List Nat).Nodup; decide) (by show ([0] : List Nat).Nodup; decide) ?_ ?_ (fun t0 => ⟨true, t0, H, rfl⟩)
      · exact (allB_some (by rfl) rfl (.cons (.cons (.int' rfl) (.cons (.lst _ _ _ (ci_pu .i64) rfl) (.cons (.int' rfl) (.cons (.int' rfl) (.cons (.int' rfl) (.cons (.lst _ _ _ Entry.pu rfl) (.cons (.int' rfl) (.cons (.lst _ _ _ (ci_pu .i64) rfl) (.cons (.lst _ _ _ (ci_pu .i64) rfl) (.cons (.lst _ _ _ (ci_pu .i64) rfl) .nil)))))))))) .nil) trivial)
      · (simp only [AllT, tl_cons, tl_nil, upd_apply, List.getD_cons_zero, List.getD_cons_succ, Nat.reduceEqDiff, ↓reduceIte, and_true]); exact ⟨(.lst _ _ _ Call30.pu rfl), (.ptr _ _ _ _ _ rfl), (.bool' rfl), (.bool' (by first | rfl | assumption | (simp_all; done)))⟩
    · rw [zc12] at H
      refine a_reg _ rfl (s := ?zs32) ?_ ?_
      rotate_left
      · simp (maxSteps := 2000000) only [EVT, stepR, evOp, St.ev, St.app, St.put, wrs, evUn, evBuiltin, datOf, datOf1, evBin, binInt, TIS, CS, Nat.reduceAdd, Nat.reduceMul, Nat.reduceEqDiff, ↓reduceIte, reduceCtorEq, Nat.reduceLT, Nat.reduceLeDiff, Array.reduceGetElem?, Nat.reduceSub, Nat.reduceBEq, ↓zc12]
        try simp (maxSteps := 2000000) only [EVT, stepR, evOp, St.ev, St.app, St.put, wrs, evUn, evBuiltin, datOf, datOf1, evBin, binInt, TIS, CS, Nat.reduceAdd, Nat.reduceMul, Nat.reduceEqDiff, ↓reduceIte, reduceCtorEq, Nat.reduceLT, Nat.reduceLeDiff, Array.reduceGetElem?, Nat.reduceSub, Nat.reduceBEq, ↓zc12]
        (repeat' apply And.intro) <;> first | rfl | assumption | omega | (simp; done) | (simp; omega) | (simp_all; done)
      refine cA_n ?_
      refine wk_l [(some 0, ⟨25, 10, false, [[.int .i64 s1.id, .list 1 (s1.peers.map (ci .i64)), .int .i64 s1.term, .int .i64 s1.voted, .int .i64 s1.role, .list 2 (s1.log.map Entry.c), .int .i64 s1.commit, .list 1 (s1.votes.map (ci .i64)), .list 1 (s1.next.map (ci .i64)), .list 1 (s1.match_.map (ci .i64))]]⟩)] [] [(1, .list 5 (l1.map Call30.c)), (2, .ptr 0 0 0 10), (5, .bool r1), (28, .bool (decide (30 < (l1.length : Int))))] (by show ([1, 2, 5, 28] : List Nat).Nodup; decide) (by show ([0] : List Nat).Nodup; decide) ?_ ?_ (fun t0 => ⟨(decide (30 < (l1.length : Int))), t0, H, rfl⟩)
      · exact (allB_some (by rfl) rfl (.cons (.cons (.int' rfl) (.cons (.lst _ _ _ (ci_pu .i64) rfl) (.cons (.int' rfl) (.cons (.int' rfl) (.cons (.int' rfl) (.cons (.lst _ _ _ Entry.pu rfl) (.cons (.int' rfl) (.cons (.lst _ _ _ (ci_pu .i64) rfl) (.cons (.lst _ _ _ (ci_pu .i64) rfl) (.cons (.lst _ _ _ (ci_pu .i64) rfl) .nil)))))))))) .nil) trivial)
      · (simp only [AllT, tl_cons, tl_nil, upd_apply, List.getD_cons_zero, List.getD_cons_succ, Nat.reduceEqDiff, ↓reduceIte, and_true]); exact ⟨(.lst _ _ _ Call30.pu rfl), (.ptr _ _ _ _ _ rfl), (.bool' rfl), (.bool' rfl)⟩
  · rintro s ⟨v1, t0, H, rfl⟩
    unfold law14_VoteStands_J1 at H
    refine a_condb (v1) (by rfl) (fun zc1 => ?_) (fun zc1 => ?_)
    · have H := cond_t zc1 H
      refine a_seq ?_
      refine a_reg _ rfl (s := ?zs4) ?_ ?_
      rotate_left
      · simp (maxSteps := 2000000) only [EVT, stepR, evOp, St.ev, St.app, St.put, wrs, TIS, CS, Nat.reduceAdd, Nat.reduceMul, Nat.reduceEqDiff, ↓reduceIte, reduceCtorEq, Nat.reduceLT, Nat.reduceLeDiff, ↓zc1]
        (repeat' apply And.intro) <;> first | rfl | assumption | omega | (simp; done) | (simp; omega) | (simp_all; done)
      refine sA_n ?_
      refine a_ret ?_
      refine sA_r ?_
      obtain rfl := Option.some.inj H
      refine e_r2 (d := ?zd1) ?_ ?_
      rotate_left
      · simp only [EVT, resR, single, evLoad, cut, TIS, CS, Nat.reduceAdd, Nat.reduceEqDiff, ↓reduceIte, reduceCtorEq, Nat.reduceLT, Nat.reduceLeDiff, Nat.reduceSub, Nat.reduceBEq, zc1]
        (repeat' apply And.intro) <;> first | rfl | assumption | omega | (simp; done)
      exact (.bool' rfl)
    · have H := cond_f zc1 H
      refine a_skip ?_
      refine sA_n ?_
      refine a_seq ?_
      refine a_reg _ rfl (s := ?zs5) ?_ ?_
      rotate_left
      · simp (maxSteps := 2000000) only [EVT, stepR, evOp, St.ev, St.app, St.put, wrs, evLoad, cut, allOne, evStore, setR, TIS, CS, Nat.reduceAdd, Nat.reduceMul, Nat.reduceEqDiff, ↓reduceIte, reduceCtorEq, Nat.reduceLT, Nat.reduceLeDiff, Nat.reduceSub, Nat.reduceBEq, ↓zc1]
        (repeat' apply And.intro) <;> first | rfl | assumption | omega | (simp; done) | (simp; omega) | (simp_all; done)
      refine sA_n ?_
      refine a_cut (fun s => ∃ (now1 : Seat) (t0 : Nat → Dat), law14_VoteStands_J2 l1 s1 r1 now1 = some r ∧ s = ⟨tl t0 [(1, .list 5 (l1.map Call30.c)), (2, .ptr 0 0 0 10), (5, .bool r1), (7, .ptr 1 0 0 10)], hl [⟨25, 10, false, [[.int .i64 s1.id, .list 1 (s1.peers.map (ci .i64)), .int .i64 s1.term, .int .i64 s1.voted, .int .i64 s1.role, .list 2 (s1.log.map Entry.c), .int .i64 s1.commit, .list 1 (s1.votes.map (ci .i64)), .list 1 (s1.next.map (ci .i64)), .list 1 (s1.match_.map (ci .i64))]]⟩, ⟨25, 10, false, [[.int .i64 now1.id, .list 1 (now1.peers.map (ci .i64)), .int .i64 now1.term, .int .i64 now1.voted, .int .i64 now1.role, .list 2 (now1.log.map Entry.c), .int .i64 now1.commit, .list 1 (now1.votes.map (ci .i64)), .list 1 (now1.next.map (ci .i64)), .list 1 (now1.match_.map (ci .i64))]]⟩], 2, 144⟩) ?_ ?_
      · refine a_seq ?_
        refine a_reg _ rfl (s := ?zs26) ?_ ?_
        rotate_left
        · simp (maxSteps := 2000000) only [EVT, stepR, evOp, St.ev, St.app, St.put, wrs, datOf, datOf1, TIS, CS, Nat.reduceAdd, Nat.reduceMul, Nat.reduceEqDiff, ↓reduceIte, reduceCtorEq, Nat.reduceLT, Nat.reduceLeDiff, ↓zc1]
          (repeat' apply And.intro) <;> first | rfl | assumption | omega | (simp; done) | (simp; omega) | (simp_all; done)
        refine sA_n ?_
        refine a_blk ?_
        refine a_loop (fun m s => ∃ (now2 : Seat) (i2 : Int) (t0 : Nat → Dat), law14_VoteStands_L2 l1 s1 r1 m now2 i2 = some r ∧ s = ⟨tl t0 [(1, .list 5 (l1.map Call30.c)), (2, .ptr 0 0 0 10), (5, .bool r1), (7, .ptr 1 0 0 10), (8, .int .i64 i2)], hl [⟨25, 10, false, [[.int .i64 s1.id, .list 1 (s1.peers.map (ci .i64)), .int .i64 s1.term, .int .i64 s1.voted, .int .i64 s1.role, .list 2 (s1.log.map Entry.c), .int .i64 s1.commit, .list 1 (s1.votes.map (ci .i64)), .list 1 (s1.next.map (ci .i64)), .list 1 (s1.match_.map (ci .i64))]]⟩, ⟨25, 10, false, [[.int .i64 now2.id, .list 1 (now2.peers.map (ci .i64)), .int .i64 now2.term, .int .i64 now2.voted, .int .i64 now2.role, .list 2 (now2.log.map Entry.c), .int .i64 now2.commit, .list 1 (now2.votes.map (ci .i64)), .list 1 (now2.next.map (ci .i64)), .list 1 (now2.match_.map (ci .i64))]]⟩], 2, 144⟩) BIG ?_ ?_
        · refine wk_l [(some 0, ⟨25, 10, false, [[.int .i64 s1.id, .list 1 (s1.peers.map (ci .i64)), .int .i64 s1.term, .int .i64 s1.voted, .int .i64 s1.role, .list 2 (s1.log.map Entry.c), .int .i64 s1.commit, .list 1 (s1.votes.map (ci .i64)), .list 1 (s1.next.map (ci .i64)), .list 1 (s1.match_.map (ci .i64))]]⟩), (some 2, ⟨25, 10, false, [[.int .i64 s1.id, .list 1 (s1.peers.map (ci .i64)), .int .i64 s1.term, .int .i64 s1.voted, .int .i64 s1.role, .list 2 (s1.log.map Entry.c), .int .i64 s1.commit, .list 1 (s1.votes.map (ci .i64)), .list 1 (s1.next.map (ci .i64)), .list 1 (s1.match_.map (ci .i64))]]⟩)] [] [(1, .list 5 (l1.map Call30.c)), (2, .ptr 0 0 0 10), (5, .bool r1), (7, .ptr 1 0 0 10), (8, .int .i64 0)] (by show ([1, 2, 5, 7, 8] : List Nat).Nodup; decide) (by show ([0, 2] : List Nat).Nodup; decide) ?_ ?_ (fun t0 => ⟨s1, 0, t0, H, rfl⟩)
          · exact (allB_some (by rfl) rfl (.cons (.cons (.int' rfl) (.cons (.lst _ _ _ (ci_pu .i64) rfl) (.cons (.int' rfl) (.cons (.int' rfl) (.cons (.int' rfl) (.cons (.lst _ _ _ Entry.pu rfl) (.cons (.int' rfl) (.cons (.lst _ _ _ (ci_pu .i64) rfl) (.cons (.lst _ _ _ (ci_pu .i64) rfl) (.cons (.lst _ _ _ (ci_pu .i64) rfl) .nil)))))))))) .nil) (allB_some (by rfl) rfl (.cons (.cons (.int' rfl) (.cons (.lst _ _ _ (ci_pu .i64) rfl) (.cons (.int' rfl) (.cons (.int' rfl) (.cons (.int' rfl) (.cons (.lst _ _ _ Entry.pu rfl) (.cons (.int' rfl) (.cons (.lst _ _ _ (ci_pu .i64) rfl) (.cons (.lst _ _ _ (ci_pu .i64) rfl) (.cons (.lst _ _ _ (ci_pu .i64) rfl) .nil)))))))))) .nil) trivial))
          · (simp only [AllT, tl_cons, tl_nil, upd_apply, List.getD_cons_zero, List.getD_cons_succ, Nat.reduceEqDiff, ↓reduceIte, and_true]); exact ⟨(.lst _ _ _ Call30.pu rfl), (.ptr _ _ _ _ _ rfl), (.bool' rfl), (.ptr _ _ _ _ _ rfl), (.int' rfl)⟩
        · rintro m_law14_VoteStands_L2 s ⟨now2, i2, t0, H, rfl⟩
          obtain _ | m_law14_VoteStands_L2 := m_law14_VoteStands_L2
          · cases (show (none : Option _) = some _ from H)
          · rw [law14_VoteStands_L2] at H
            refine a_seq ?_
            refine a_seq ?_
            refine a_reg _ rfl (s := ?zs27) ?_ ?_
            rotate_left
            · simp (maxSteps := 2000000) only [EVT, stepR, evOp, St.ev, St.app, St.put, wrs, evBuiltin, evBin, binInt, TIS, CS, Nat.reduceAdd, Nat.reduceMul, Nat.reduceEqDiff, ↓reduceIte, reduceCtorEq, Nat.reduceLT, Nat.reduceLeDiff, Nat.reduceSub, Nat.reduceBEq]
              (repeat' apply And.intro) <;> first | rfl | assumption | omega | (simp; done) | (simp; omega) | (simp_all; done)
            refine sA_n ?_
            refine a_condb ((decide (i2 < (l1.length : Int)))) (by rfl) (fun zc11 => ?_) (fun zc11 => ?_)
            · have H := cond_t zc11 H
              refine a_skip ?_
              refine sA_n ?_
              refine a_seq ?_
              refine a_blk ?_
              refine a_seq ?_
              obtain ⟨x3, zh11, H⟩ := bind_some H
              have zg3 := idx_map zh11 Call30.c
              obtain ⟨zh11a, zh11b, _⟩ := idx_some zh11
              obtain ⟨r9, zh12, H⟩ := bind_some H
              have zk9 := law14_step_pc zh12
              refine a_drW (by kernel_rfl) _ rfl (s := ?zs28) (by kernel_rfl) (by kernel_rfl) ?zs28f ?_ ?_ ?_
              rotate_left 2
              · try simp (maxSteps := 2000000) only [EVT, stepW, evOp, St.ev, St.app, St.put, wrs, evLoad, cut, evIndexAddr, frz, allOne, evStore, setR, TIS, CS, Nat.reduceAdd, Nat.reduceMul, Nat.reduceEqDiff, ↓reduceIte, reduceCtorEq, Nat.reduceLT, Nat.reduceLeDiff, Int.reduceToNat, Nat.reduceSub, Nat.reduceBEq, ↓zc11, zg3]
                repeat' with_reducible apply And.intro
                all_goals try ((with_reducible show CallW _ _ _ _ _ _ _); refine cW_p [] zk9 (fun h2 e => (.cons (.agg' (.cons (.int' rfl) (.cons (.lst _ _ _ (ci_pu .i64) rfl) (.cons (.int' rfl) (.cons (.int' rfl) (.cons (.int' rfl) (.cons (.lst _ _ _ Entry.pu rfl) (.cons (.int' rfl) (.cons (.lst _ _ _ (ci_pu .i64) rfl) (.cons (.lst _ _ _ (ci_pu .i64) rfl) (.cons (.lst _ _ _ (ci_pu .i64) rfl) .nil))))))))))) (.cons (.agg' (.cons (.int' rfl) (.cons (.int' rfl) (.cons (.int' rfl) (.cons (.int' rfl) (.cons (.int' rfl) .nil)))))) .nil))) ?_; simp (maxSteps := 2000000) only [EVT, stepW, evOp, St.ev, St.app, St.put, wrs, evLoad, cut, evIndexAddr, frz, allOne, evStore, setR, TIS, CS, Nat.reduceAdd, Nat.reduceMul, Nat.reduceEqDiff, ↓reduceIte, reduceCtorEq, Nat.reduceLT, Nat.reduceLeDiff, Int.reduceToNat, Nat.reduceSub, Nat.reduceBEq, ↓zc11, zg3])
                all_goals ((repeat' apply And.intro) <;> first | rfl | assumption | omega | (simp; done) | (simp; omega) | (simp_all; done))
              · kernel_rfl
              refine sA_n ?_
              refine a_reg _ rfl (s := ?zs29) ?_ ?_
              rotate_left
              · simp (maxSteps := 2000000) only [EVT, stepR, evOp, St.ev, St.app, St.put, wrs, evLoad, cut, evStore, setR, allOne, TIS, CS, Nat.reduceAdd, Nat.reduceMul, Nat.reduceEqDiff, ↓reduceIte, reduceCtorEq, Nat.reduceLT, Nat.reduceLeDiff, Nat.reduceSub, Nat.reduceBEq, ↓zc11, zg3]
                (repeat' apply And.intro) <;> first | rfl | assumption | omega | (simp; done) | (simp; omega) | (simp_all; done)
              refine bA_n ?_
              refine sA_n ?_
              refine a_reg _ rfl (s := ?zs30) ?_ ?_
              rotate_left
              · simp (maxSteps := 2000000) only [EVT, stepR, evOp, St.ev, St.app, St.put, wrs, datOf, datOf1, evBin, binInt, TIS, CS, Nat.reduceAdd, Nat.reduceMul, Nat.reduceEqDiff, ↓reduceIte, reduceCtorEq, Nat.reduceLT, Nat.reduceLeDiff, ↓zc11, zg3]
                (repeat' apply And.intro) <;> first | rfl | assumption | omega | (simp; done) | (simp; omega) | (simp_all; done)
              refine lA_n ?_
              refine wk_l [(some 0, ⟨25, 10, false, [[.int .i64 s1.id, .list 1 (s1.peers.map (ci .i64)), .int .i64 s1.term, .int .i64 s1.voted, .int .i64 s1.role, .list 2 (s1.log.map Entry.c), .int .i64 s1.commit, .list 1 (s1.votes.map (ci .i64)), .list 1 (s1.next.map (ci .i64)), .list 1 (s1.match_.map (ci .i64))]]⟩), (some 1, ⟨25, 10, false, [[.int .i64 r9.1.id, .list 1 (r9.1.peers.map (ci .i64)), .int .i64 r9.1.term, .int .i64 r9.1.voted, .int .i64 r9.1.role, .list 2 (r9.1.log.map Entry.c), .int .i64 r9.1.commit, .list 1 (r9.1.votes.map (ci .i64)), .list 1 (r9.1.next.map (ci .i64)), .list 1 (r9.1.match_.map (ci .i64))]]⟩)] [] [(1, .list 5 (l1.map Call30.c)), (2, .ptr 0 0 0 10), (5, .bool r1), (7, .ptr 1 0 0 10), (8, .int .i64 (IntKind.wrap .i64 (i2 + 1)))] (by show ([1, 2, 5, 7, 8] : List Nat).Nodup; decide) (by show ([0, 1] : List Nat).Nodup; decide) ?_ ?_ (fun t0 => ⟨_, Nat.lt_succ_self _, r9.1, (IntKind.wrap .i64 (i2 + 1)), t0, H, rfl⟩)
              · exact (allB_some (by rfl) rfl (.cons (.cons (.int' rfl) (.cons (.lst _ _ _ (ci_pu .i64) rfl) (.cons (.int' rfl) (.cons (.int' rfl) (.cons (.int' rfl) (.cons (.lst _ _ _ Entry.pu rfl) (.cons (.int' rfl) (.cons (.lst _ _ _ (ci_pu .i64) rfl) (.cons (.lst _ _ _ (ci_pu .i64) rfl) (.cons (.lst _ _ _ (ci_pu .i64) rfl) .nil)))))))))) .nil) (allB_some (by rfl) rfl (.cons (.cons (.int' rfl) (.cons (.lst _ _ _ (ci_pu .i64) rfl) (.cons (.int' rfl) (.cons (.int' rfl) (.cons (.int' rfl) (.cons (.lst _ _ _ Entry.pu rfl) (.cons (.int' rfl) (.cons (.lst _ _ _ (ci_pu .i64) rfl) (.cons (.lst _ _ _ (ci_pu .i64) rfl) (.cons (.lst _ _ _ (ci_pu .i64) rfl) .nil)))))))))) .nil) trivial))
              · (simp only [AllT, tl_cons, tl_nil, upd_apply, List.getD_cons_zero, List.getD_cons_succ, Nat.reduceEqDiff, ↓reduceIte, and_true]); exact ⟨(.lst _ _ _ Call30.pu rfl), (.ptr _ _ _ _ _ rfl), (.bool' rfl), (.ptr _ _ _ _ _ rfl), (.int' rfl)⟩
            · have H := cond_f zc11 H
              refine a_exit ?_
              refine sA_e ?_
              refine lA_e ?_
              refine bA_hit ?_
              refine cA_n ?_
              refine wk_l [(some 0, ⟨25, 10, false, [[.int .i64 s1.id, .list 1 (s1.peers.map (ci .i64)), .int .i64 s1.term, .int .i64 s1.voted, .int .i64 s1.role, .list 2 (s1.log.map Entry.c), .int .i64 s1.commit, .list 1 (s1.votes.map (ci .i64)), .list 1 (s1.next.map (ci .i64)), .list 1 (s1.match_.map (ci .i64))]]⟩), (some 1, ⟨25, 10, false, [[.int .i64 now2.id, .list 1 (now2.peers.map (ci .i64)), .int .i64 now2.term, .int .i64 now2.voted, .int .i64 now2.role, .list 2 (now2.log.map Entry.c), .int .i64 now2.commit, .list 1 (now2.votes.map (ci .i64)), .list 1 (now2.next.map (ci .i64)), .list 1 (now2.match_.map (ci .i64))]]⟩)] [] [(1, .list 5 (l1.map Call30.c)), (2, .ptr 0 0 0 10), (5, .bool r1), (7, .ptr 1 0 0 10)] (by show ([1, 2, 5, 7] : List Nat).Nodup; decide) (by show ([0, 1] : List Nat).Nodup; decide) ?_ ?_ (fun t0 => ⟨now2, t0, H, rfl⟩)
              · exact (allB_some (by rfl) rfl (.cons (.cons (.int' rfl) (.cons (.lst _ _ _ (ci_pu .i64) rfl) (.cons (.int' rfl) (.cons (.int' rfl) (.cons (.int' rfl) (.cons (.lst _ _ _ Entry.pu rfl) (.cons (.int' rfl) (.cons (.lst _ _ _ (ci_pu .i64) rfl) (.cons (.lst _ _ _ (ci_pu .i64) rfl) (.cons (.lst _ _ _ (ci_pu .i64) rfl) .nil)))))))))) .nil) (allB_some (by rfl) rfl (.cons (.cons (.int' rfl) (.cons (.lst _ _ _ (ci_pu .i64) rfl) (.cons (.int' rfl) (.cons (.int' rfl) (.cons (.int' rfl) (.cons (.lst _ _ _ Entry.pu rfl) (.cons (.int' rfl) (.cons (.lst _ _ _ (ci_pu .i64) rfl) (.cons (.lst _ _ _ (ci_pu .i64) rfl) (.cons (.lst _ _ _ (ci_pu .i64) rfl) .nil)))))))))) .nil) trivial))
              · (simp only [AllT, tl_cons, tl_nil, upd_apply, List.getD_cons_zero, List.getD_cons_succ, Nat.reduceEqDiff, ↓reduceIte, and_true]); exact ⟨(.lst _ _ _ Call30.pu rfl), (.ptr _ _ _ _ _ rfl), (.bool' rfl), (.ptr _ _ _ _ _ rfl)⟩
      · rintro s ⟨now1, t0, H, rfl⟩
        unfold law14_VoteStands_J2 at H
        refine a_seq ?_
        obtain ⟨r3, zh3, H⟩ := bind_some H
        have zk3 := vote_Begin_pc zh3
        refine a_reg _ rfl (s := ?zs6) ?_ ?_
        rotate_left
        · try simp (maxSteps := 2000000) only [EVT, stepR, evOp, St.ev, St.app, St.put, wrs, evLoad, cut, frz, allOne, evStore, setR, TIS, CS, Nat.reduceAdd, Nat.reduceMul, Nat.reduceEqDiff, ↓reduceIte, reduceCtorEq, Nat.reduceLT, Nat.reduceLeDiff, Nat.reduceSub, Nat.reduceBEq]
          repeat' with_reducible apply And.intro
          all_goals try ((with_reducible show CallR _ _ _ _ _ _ _); refine cR_p zk3 (.cons (.agg' (.cons (.int' rfl) (.cons (.lst _ _ _ (ci_pu .i64) rfl) (.cons (.int' rfl) (.cons (.int' rfl) (.cons (.int' rfl) (.cons (.lst _ _ _ Entry.pu rfl) (.cons (.int' rfl) (.cons (.lst _ _ _ (ci_pu .i64) rfl) (.cons (.lst _ _ _ (ci_pu .i64) rfl) (.cons (.lst _ _ _ (ci_pu .i64) rfl) .nil))))))))))) .nil) ?_; simp (maxSteps := 2000000) only [EVT, stepR, evOp, St.ev, St.app, St.put, wrs, evLoad, cut, frz, allOne, evStore, setR, TIS, CS, Nat.reduceAdd, Nat.reduceMul, Nat.reduceEqDiff, ↓reduceIte, reduceCtorEq, Nat.reduceLT, Nat.reduceLeDiff, Nat.reduceSub, Nat.reduceBEq])
          all_goals ((repeat' apply And.intro) <;> first | rfl | assumption | omega | (simp; done) | (simp; omega) | (simp_all; done))
        refine sA_n ?_
        refine a_seq ?_
        refine a_cut (fun s => ∃ (v2 : Bool) (t0 : Nat → Dat), law14_VoteStands_J3 l1 r3 s1 r1 v2 = some r ∧ s = ⟨tl t0 [(1, .list 5 (l1.map Call30.c)), (2, .ptr 0 0 0 10), (5, .bool r1), (11, .ptr 1 0 0 10), (73, .bool v2)], hl [⟨25, 10, false, [[.int .i64 s1.id, .list 1 (s1.peers.map (ci .i64)), .int .i64 s1.term, .int .i64 s1.voted, .int .i64 s1.role, .list 2 (s1.log.map Entry.c), .int .i64 s1.commit, .list 1 (s1.votes.map (ci .i64)), .list 1 (s1.next.map (ci .i64)), .list 1 (s1.match_.map (ci .i64))]]⟩, ⟨25, 10, false, [[.int .i64 r3.id, .list 1 (r3.peers.map (ci .i64)), .int .i64 r3.term, .int .i64 r3.voted, .int .i64 r3.role, .list 2 (r3.log.map Entry.c), .int .i64 r3.commit, .list 1 (r3.votes.map (ci .i64)), .list 1 (r3.next.map (ci .i64)), .list 1 (r3.match_.map (ci .i64))]]⟩], 2, 144⟩) ?_ ?_
        · refine bool_split (b := (r3.term != (IntKind.wrap .i64 (now1.term + 1)))) (fun zc9 => ?_) (fun zc9 => ?_)
          · have H := cond_t zc9 H
            refine a_drW (by kernel_rfl) _ rfl (s := ?zs23) (by kernel_rfl) (by kernel_rfl) ?zs23f ?_ ?_ ?_
            rotate_left 2
            · simp (maxSteps := 2000000) only [EVT, stepW, evOp, St.ev, St.app, St.put, wrs, evFieldAddr, evLoad, cut, datOf, datOf1, evBin, binInt, frz, evBuiltin, TIS, CS, Nat.reduceAdd, Nat.reduceMul, Nat.reduceEqDiff, ↓reduceIte, reduceCtorEq, Nat.reduceLT, Nat.reduceLeDiff, Array.reduceGetElem?, Nat.reduceSub, Nat.reduceBEq, ↓zc9]
              try simp (maxSteps := 2000000) only [EVT, stepW, evOp, St.ev, St.app, St.put, wrs, evFieldAddr, evLoad, cut, datOf, datOf1, evBin, binInt, frz, evBuiltin, TIS, CS, Nat.reduceAdd, Nat.reduceMul, Nat.reduceEqDiff, ↓reduceIte, reduceCtorEq, Nat.reduceLT, Nat.reduceLeDiff, Array.reduceGetElem?, Nat.reduceSub, Nat.reduceBEq, ↓zc9]
              (repeat' apply And.intro) <;> first | rfl | assumption | omega | (simp; done) | (simp; omega) | (simp_all; done)
            · kernel_rfl
            refine cA_n ?_
            refine wk_l [(some 0, ⟨25, 10, false, [[.int .i64 s1.id, .list 1 (s1.peers.map (ci .i64)), .int .i64 s1.term, .int .i64 s1.voted, .int .i64 s1.role, .list 2 (s1.log.map Entry.c), .int .i64 s1.commit, .list 1 (s1.votes.map (ci .i64)), .list 1 (s1.next.map (ci .i64)), .list 1 (s1.match_.map (ci .i64))]]⟩), (some 4, ⟨25, 10, false, [[.int .i64 r3.id, .list 1 (r3.peers.map (ci .i64)), .int .i64 r3.term, .int .i64 r3.voted, .int .i64 r3.role, .list 2 (r3.log.map Entry.c), .int .i64 r3.commit, .list 1 (r3.votes.map (ci .i64)), .list 1 (r3.next.map (ci .i64)), .list 1 (r3.match_.map (ci .i64))]]⟩)] [] [(1, .list 5 (l1.map Call30.c)), (2, .ptr 0 0 0 10), (5, .bool r1), (11, .ptr 1 0 0 10), (73, .bool true)] (by show ([1, 2, 5, 11, 73] : List Nat).Nodup; decide) (by show ([0, 4] : List Nat).Nodup; decide) ?_ ?_ (fun t0 => ⟨true, t0, H, rfl⟩)
            · exact (allB_some (by rfl) rfl (.cons (.cons (.int' rfl) (.cons (.lst _ _ _ (ci_pu .i64) rfl) (.cons (.int' rfl) (.cons (.int' rfl) (.cons (.int' rfl) (.cons (.lst _ _ _ Entry.pu rfl) (.cons (.int' rfl) (.cons (.lst _ _ _ (ci_pu .i64) rfl) (.cons (.lst _ _ _ (ci_pu .i64) rfl) (.cons (.lst _ _ _ (ci_pu .i64) rfl) .nil)))))))))) .nil) (allB_some (by rfl) rfl (.cons (.cons (.int' rfl) (.cons (.lst _ _ _ (ci_pu .i64) rfl) (.cons (.int' rfl) (.cons (.int' rfl) (.cons (.int' rfl) (.cons (.lst _ _ _ Entry.pu rfl) (.cons (.int' rfl) (.cons (.lst _ _ _ (ci_pu .i64) rfl) (.cons (.lst _ _ _ (ci_pu .i64) rfl) (.cons (.lst _ _ _ (ci_pu .i64) rfl) .nil)))))))))) .nil) trivial))
            · (simp only [AllT, tl_cons, tl_nil, upd_apply, List.getD_cons_zero, List.getD_cons_succ, Nat.reduceEqDiff, ↓reduceIte, and_true]); exact ⟨(.lst _ _ _ Call30.pu rfl), (.ptr _ _ _ _ _ rfl), (.bool' rfl), (.ptr _ _ _ _ _ rfl), (.bool' (by first | rfl | assumption | (simp_all; done)))⟩
          · have H := cond_f zc9 H
            refine bool_split (b := (r3.voted != s1.id)) (fun zc10 => ?_) (fun zc10 => ?_)
            · have H := cond_t zc10 H
              refine a_drW (by kernel_rfl) _ rfl (s := ?zs24) (by kernel_rfl) (by kernel_rfl) ?zs24f ?_ ?_ ?_
              rotate_left 2
              · simp (maxSteps := 2000000) only [EVT, stepW, evOp, St.ev, St.app, St.put, wrs, evFieldAddr, evLoad, cut, datOf, datOf1, evBin, binInt, frz, evBuiltin, TIS, CS, Nat.reduceAdd, Nat.reduceMul, Nat.reduceEqDiff, ↓reduceIte, reduceCtorEq, Nat.reduceLT, Nat.reduceLeDiff, Array.reduceGetElem?, Nat.reduceSub, Nat.reduceBEq, ↓zc9, ↓zc10]
                try simp (maxSteps := 2000000) only [EVT, stepW, evOp, St.ev, St.app, St.put, wrs, evFieldAddr, evLoad, cut, datOf, datOf1, evBin, binInt, frz, evBuiltin, TIS, CS, Nat.reduceAdd, Nat.reduceMul, Nat.reduceEqDiff, ↓reduceIte, reduceCtorEq, Nat.reduceLT, Nat.reduceLeDiff, Array.reduceGetElem?, Nat.reduceSub, Nat.reduceBEq, ↓zc9, ↓zc10]
                (repeat' apply And.intro) <;> first | rfl | assumption | omega | (simp; done) | (simp; omega) | (simp_all; done)
              · kernel_rfl
              refine cA_n ?_
              refine wk_l [(some 0, ⟨25, 10, false, [[.int .i64 s1.id, .list 1 (s1.peers.map (ci .i64)), .int .i64 s1.term, .int .i64 s1.voted, .int .i64 s1.role, .list 2 (s1.log.map Entry.c), .int .i64 s1.commit, .list 1 (s1.votes.map (ci .i64)), .list 1 (s1.next.map (ci .i64)), .list 1 (s1.match_.map (ci .i64))]]⟩), (some 4, ⟨25, 10, false, [[.int .i64 r3.id, .list 1 (r3.peers.map (ci .i64)), .int .i64 r3.term, .int .i64 r3.voted, .int .i64 r3.role, .list 2 (r3.log.map Entry.c), .int .i64 r3.commit, .list 1 (r3.votes.map (ci .i64)), .list 1 (r3.next.map (ci .i64)), .list 1 (r3.match_.map (ci .i64))]]⟩)] [] [(1, .list 5 (l1.map Call30.c)), (2, .ptr 0 0 0 10), (5, .bool r1), (11, .ptr 1 0 0 10), (73, .bool true)] (by show ([1, 2, 5, 11, 73] : List Nat).Nodup; decide) (by show ([0, 4] : List Nat).Nodup; decide) ?_ ?_ (fun t0 => ⟨true, t0, H, rfl⟩)
              · exact (allB_some (by rfl) rfl (.cons (.cons (.int' rfl) (.cons (.lst _ _ _ (ci_pu .i64) rfl) (.cons (.int' rfl) (.cons (.int' rfl) (.cons (.int' rfl) (.cons (.lst _ _ _ Entry.pu rfl) (.cons (.int' rfl) (.cons (.lst _ _ _ (ci_pu .i64) rfl) (.cons (.lst _ _ _ (ci_pu .i64) rfl) (.cons (.lst _ _ _ (ci_pu .i64) rfl) .nil)))))))))) .nil) (allB_some (by rfl) rfl (.cons (.cons (.int' rfl) (.cons (.lst _ _ _ (ci_pu .i64) rfl) (.cons (.int' rfl) (.cons (.int' rfl) (.cons (.int' rfl) (.cons (.lst _ _ _ Entry.pu rfl) (.cons (.int' rfl) (.cons (.lst _ _ _ (ci_pu .i64) rfl) (.cons (.lst _ _ _ (ci_pu .i64) rfl) (.cons (.lst _ _ _ (ci_pu .i64) rfl) .nil)))))))))) .nil) trivial))
              · (simp only [AllT, tl_cons, tl_nil, upd_apply, List.getD_cons_zero, List.getD_cons_succ, Nat.reduceEqDiff, ↓reduceIte, and_true]); exact ⟨(.lst _ _ _ Call30.pu rfl), (.ptr _ _ _ _ _ rfl), (.bool' rfl), (.ptr _ _ _ _ _ rfl), (.bool' (by first | rfl | assumption | (simp_all; done)))⟩
            · have H := cond_f zc10 H
              obtain ⟨r8, zh10, H⟩ := bind_some H
              have zk8 := vote_Won_pc zh10
              refine a_drW (by kernel_rfl) _ rfl (s := ?zs25) (by kernel_rfl) (by kernel_rfl) ?zs25f ?_ ?_ ?_
              rotate_left 2
              · try simp (maxSteps := 2000000) only [EVT, stepW, evOp, St.ev, St.app, St.put, wrs, evFieldAddr, evLoad, cut, datOf, datOf1, evBin, binInt, frz, evBuiltin, TIS, CS, Nat.reduceAdd, Nat.reduceMul, Nat.reduceEqDiff, ↓reduceIte, reduceCtorEq, Nat.reduceLT, Nat.reduceLeDiff, Array.reduceGetElem?, Nat.reduceSub, Nat.reduceBEq, ↓zc9, ↓zc10]
                repeat' with_reducible apply And.intro
                all_goals try ((with_reducible show CallW _ _ _ _ _ _ _); refine cW_s [] zk8 (fun h2 e => (.cons (.lst _ _ _ (ci_pu .i64) rfl) (.cons (.lst _ _ _ (ci_pu .i64) rfl) .nil))) (.bool _) ?_; simp (maxSteps := 2000000) only [EVT, stepW, evOp, St.ev, St.app, St.put, wrs, evFieldAddr, evLoad, cut, datOf, datOf1, evBin, binInt, frz, evBuiltin, TIS, CS, Nat.reduceAdd, Nat.reduceMul, Nat.reduceEqDiff, ↓reduceIte, reduceCtorEq, Nat.reduceLT, Nat.reduceLeDiff, Array.reduceGetElem?, Nat.reduceSub, Nat.reduceBEq, ↓zc9, ↓zc10])
                all_goals ((repeat' apply And.intro) <;> first | rfl | assumption | omega | (simp; done) | (simp; omega) | (simp_all; done))
              · kernel_rfl
              refine cA_n ?_
              refine wk_l [(some 0, ⟨25, 10, false, [[.int .i64 s1.id, .list 1 (s1.peers.map (ci .i64)), .int .i64 s1.term, .int .i64 s1.voted, .int .i64 s1.role, .list 2 (s1.log.map Entry.c), .int .i64 s1.commit, .list 1 (s1.votes.map (ci .i64)), .list 1 (s1.next.map (ci .i64)), .list 1 (s1.match_.map (ci .i64))]]⟩), (some 4, ⟨25, 10, false, [[.int .i64 r3.id, .list 1 (r3.peers.map (ci .i64)), .int .i64 r3.term, .int .i64 r3.voted, .int .i64 r3.role, .list 2 (r3.log.map Entry.c), .int .i64 r3.commit, .list 1 (r3.votes.map (ci .i64)), .list 1 (r3.next.map (ci .i64)), .list 1 (r3.match_.map (ci .i64))]]⟩)] [] [(1, .list 5 (l1.map Call30.c)), (2, .ptr 0 0 0 10), (5, .bool r1), (11, .ptr 1 0 0 10), (73, .bool (!(r8 == ((s1.peers.length : Int) == 1))))] (by show ([1, 2, 5, 11, 73] : List Nat).Nodup; decide) (by show ([0, 4] : List Nat).Nodup; decide) ?_ ?_ (fun t0 => ⟨(!(r8 == ((s1.peers.length : Int) == 1))), t0, H, rfl⟩)
              · exact (allB_some (by rfl) rfl (.cons (.cons (.int' rfl) (.cons (.lst _ _ _ (ci_pu .i64) rfl) (.cons (.int' rfl) (.cons (.int' rfl) (.cons (.int' rfl) (.cons (.lst _ _ _ Entry.pu rfl) (.cons (.int' rfl) (.cons (.lst _ _ _ (ci_pu .i64) rfl) (.cons (.lst _ _ _ (ci_pu .i64) rfl) (.cons (.lst _ _ _ (ci_pu .i64) rfl) .nil)))))))))) .nil) (allB_some (by rfl) rfl (.cons (.cons (.int' rfl) (.cons (.lst _ _ _ (ci_pu .i64) rfl) (.cons (.int' rfl) (.cons (.int' rfl) (.cons (.int' rfl) (.cons (.lst _ _ _ Entry.pu rfl) (.cons (.int' rfl) (.cons (.lst _ _ _ (ci_pu .i64) rfl) (.cons (.lst _ _ _ (ci_pu .i64) rfl) (.cons (.lst _ _ _ (ci_pu .i64) rfl) .nil)))))))))) .nil) trivial))
              · (simp only [AllT, tl_cons, tl_nil, upd_apply, List.getD_cons_zero, List.getD_cons_succ, Nat.reduceEqDiff, ↓reduceIte, and_true]); exact ⟨(.lst _ _ _ Call30.pu rfl), (.ptr _ _ _ _ _ rfl), (.bool' rfl), (.ptr _ _ _ _ _ rfl), (.bool' rfl)⟩
        · rintro s ⟨v2, t0, H, rfl⟩
          unfold law14_VoteStands_J3 at H
          refine a_condb (v2) (by rfl) (fun zc2 => ?_) (fun zc2 => ?_)
          · have H := cond_t zc2 H
            refine a_seq ?_
            refine a_reg _ rfl (s := ?zs7) ?_ ?_
            rotate_left
            · simp (maxSteps := 2000000) only [EVT, stepR, evOp, St.ev, St.app, St.put, wrs, datOf, datOf1, TIS, CS, Nat.reduceAdd, Nat.reduceMul, Nat.reduceEqDiff, ↓reduceIte, reduceCtorEq, Nat.reduceLT, Nat.reduceLeDiff, ↓zc2]
              (repeat' apply And.intro) <;> first | rfl | assumption | omega | (simp; done) | (simp; omega) | (simp_all; done)
            refine sA_n ?_
            refine a_ret ?_
            refine sA_r ?_
            obtain rfl := Option.some.inj H
            refine e_r2 (d := ?zd2) ?_ ?_
            rotate_left
            · simp only [EVT, resR, single, evLoad, cut, TIS, CS, Nat.reduceAdd, Nat.reduceEqDiff, ↓reduceIte, reduceCtorEq, Nat.reduceLT, Nat.reduceLeDiff, Nat.reduceSub, Nat.reduceBEq, zc2]
              (repeat' apply And.intro) <;> first | rfl | assumption | omega | (simp; done)
            exact (.bool' (by first | rfl | assumption | (simp_all; done)))
          · have H := cond_f zc2 H
            refine a_skip ?_
            refine sA_n ?_
            refine a_cut (fun s => ∃ (t0 : Nat → Dat), law14_VoteStands_J4 r1 = some r ∧ s = ⟨tl t0 [(5, .bool r1)], hl [], 0, 144⟩) ?_ ?_
            · refine a_seq ?_
              refine a_reg _ rfl (s := ?zs9) ?_ ?_
              rotate_left
              · simp (maxSteps := 2000000) only [EVT, stepR, evOp, St.ev, St.app, St.put, wrs, datOf, datOf1, TIS, CS, Nat.reduceAdd, Nat.reduceMul, Nat.reduceEqDiff, ↓reduceIte, reduceCtorEq, Nat.reduceLT, Nat.reduceLeDiff, ↓zc2]
                (repeat' apply And.intro) <;> first | rfl | assumption | omega | (simp; done) | (simp; omega) | (simp_all; done)
              refine sA_n ?_
              refine a_blk ?_
              refine a_loop (fun m s => ∃ (i1 : Int) (t0 : Nat → Dat), law14_VoteStands_L1 l1 r3 s1 r1 m i1 = some r ∧ s = ⟨tl t0 [(1, .list 5 (l1.map Call30.c)), (2, .ptr 0 0 0 10), (5, .bool r1), (11, .ptr 1 0 0 10), (12, .int .i64 i1)], hl [⟨25, 10, false, [[.int .i64 s1.id, .list 1 (s1.peers.map (ci .i64)), .int .i64 s1.term, .int .i64 s1.voted, .int .i64 s1.role, .list 2 (s1.log.map Entry.c), .int .i64 s1.commit, .list 1 (s1.votes.map (ci .i64)), .list 1 (s1.next.map (ci .i64)), .list 1 (s1.match_.map (ci .i64))]]⟩, ⟨25, 10, false, [[.int .i64 r3.id, .list 1 (r3.peers.map (ci .i64)), .int .i64 r3.term, .int .i64 r3.voted, .int .i64 r3.role, .list 2 (r3.log.map Entry.c), .int .i64 r3.commit, .list 1 (r3.votes.map (ci .i64)), .list 1 (r3.next.map (ci .i64)), .list 1 (r3.match_.map (ci .i64))]]⟩], 2, 144⟩) BIG ?_ ?_
              · refine wk_l [(some 0, ⟨25, 10, false, [[.int .i64 s1.id, .list 1 (s1.peers.map (ci .i64)), .int .i64 s1.term, .int .i64 s1.voted, .int .i64 s1.role, .list 2 (s1.log.map Entry.c), .int .i64 s1.commit, .list 1 (s1.votes.map (ci .i64)), .list 1 (s1.next.map (ci .i64)), .list 1 (s1.match_.map (ci .i64))]]⟩), (some 1, ⟨25, 10, false, [[.int .i64 r3.id, .list 1 (r3.peers.map (ci .i64)), .int .i64 r3.term, .int .i64 r3.voted, .int .i64 r3.role, .list 2 (r3.log.map Entry.c), .int .i64 r3.commit, .list 1 (r3.votes.map (ci .i64)), .list 1 (r3.next.map (ci .i64)), .list 1 (r3.match_.map (ci .i64))]]⟩)] [] [(1, .list 5 (l1.map Call30.c)), (2, .ptr 0 0 0 10), (5, .bool r1), (11, .ptr 1 0 0 10), (12, .int .i64 0)] (by show ([1, 2, 5, 11, 12] : List Nat).Nodup; decide) (by show ([0, 1] : List Nat).Nodup; decide) ?_ ?_ (fun t0 => ⟨0, t0, H, rfl⟩)
                · exact (allB_some (by rfl) rfl (.cons (.cons (.int' rfl) (.cons (.lst _ _ _ (ci_pu .i64) rfl) (.cons (.int' rfl) (.cons (.int' rfl) (.cons (.int' rfl) (.cons (.lst _ _ _ Entry.pu rfl) (.cons (.int' rfl) (.cons (.lst _ _ _ (ci_pu .i64) rfl) (.cons (.lst _ _ _ (ci_pu .i64) rfl) (.cons (.lst _ _ _ (ci_pu .i64) rfl) .nil)))))))))) .nil) (allB_some (by rfl) rfl (.cons (.cons (.int' rfl) (.cons (.lst _ _ _ (ci_pu .i64) rfl) (.cons (.int' rfl) (.cons (.int' rfl) (.cons (.int' rfl) (.cons (.lst _ _ _ Entry.pu rfl) (.cons (.int' rfl) (.cons (.lst _ _ _ (ci_pu .i64) rfl) (.cons (.lst _ _ _ (ci_pu .i64) rfl) (.cons (.lst _ _ _ (ci_pu .i64) rfl) .nil)))))))))) .nil) trivial))
                · (simp only [AllT, tl_cons, tl_nil, upd_apply, List.getD_cons_zero, List.getD_cons_succ, Nat.reduceEqDiff, ↓reduceIte, and_true]); exact ⟨(.lst _ _ _ Call30.pu rfl), (.ptr _ _ _ _ _ rfl), (.bool' rfl), (.ptr _ _ _ _ _ rfl), (.int' rfl)⟩
              · rintro m_law14_VoteStands_L1 s ⟨i1, t0, H, rfl⟩
                obtain _ | m_law14_VoteStands_L1 := m_law14_VoteStands_L1
                · cases (show (none : Option _) = some _ from H)
                · rw [law14_VoteStands_L1] at H
                  refine a_seq ?_
                  refine a_seq ?_
                  refine a_reg _ rfl (s := ?zs10) ?_ ?_
                  rotate_left
                  · simp (maxSteps := 2000000) only [EVT, stepR, evOp, St.ev, St.app, St.put, wrs, evBuiltin, evBin, binInt, TIS, CS, Nat.reduceAdd, Nat.reduceMul, Nat.reduceEqDiff, ↓reduceIte, reduceCtorEq, Nat.reduceLT, Nat.reduceLeDiff, Nat.reduceSub, Nat.reduceBEq]
                    (repeat' apply And.intro) <;> first | rfl | assumption | omega | (simp; done) | (simp; omega) | (simp_all; done)
                  refine sA_n ?_
                  refine a_condb ((decide (i1 < (l1.length : Int)))) (by rfl) (fun zc3 => ?_) (fun zc3 => ?_)
                  · have H := cond_t zc3 H
                    refine a_skip ?_
                    refine sA_n ?_
                    refine a_cut (fun s => ∃ (t0 : Nat → Dat), law14_VoteStands_J5 (law14_VoteStands_L1 l1 r3 s1 r1 m_law14_VoteStands_L1) i1 = some r ∧ s = ⟨tl t0 [(1, .list 5 (l1.map Call30.c)), (2, .ptr 0 0 0 10), (5, .bool r1), (11, .ptr 1 0 0 10), (12, .int .i64 i1)], hl [⟨25, 10, false, [[.int .i64 s1.id, .list 1 (s1.peers.map (ci .i64)), .int .i64 s1.term, .int .i64 s1.voted, .int .i64 s1.role, .list 2 (s1.log.map Entry.c), .int .i64 s1.commit, .list 1 (s1.votes.map (ci .i64)), .list 1 (s1.next.map (ci .i64)), .list 1 (s1.match_.map (ci .i64))]]⟩, ⟨25, 10, false, [[.int .i64 r3.id, .list 1 (r3.peers.map (ci .i64)), .int .i64 r3.term, .int .i64 r3.voted, .int .i64 r3.role, .list 2 (r3.log.map Entry.c), .int .i64 r3.commit, .list 1 (r3.votes.map (ci .i64)), .list 1 (r3.next.map (ci .i64)), .list 1 (r3.match_.map (ci .i64))]]⟩], 2, 144⟩) ?_ ?_
                    · refine a_blk ?_
                      refine a_seq ?_
                      refine a_seq ?_
                      obtain ⟨x1, zh4, H⟩ := bind_some H
                      have zg1 := idx_map zh4 Call30.c
                      obtain ⟨zh4a, zh4b, _⟩ := idx_some zh4
                      refine a_reg _ rfl (s := ?zs12) ?_ ?_
                      rotate_left
                      · simp (maxSteps := 2000000) only [EVT, stepR, evOp, St.ev, St.app, St.put, wrs, evIndexAddr, evFieldAddr, evLoad, cut, datOf, datOf1, evBin, binInt, TIS, CS, Nat.reduceAdd, Nat.reduceMul, Nat.reduceEqDiff, ↓reduceIte, reduceCtorEq, Nat.reduceLT, Nat.reduceLeDiff, Int.reduceToNat, Nat.reduceSub, Nat.reduceBEq, ↓zc3, zg1]
                        (repeat' apply And.intro) <;> first | rfl | assumption | omega | (simp; done) | (simp; omega) | (simp_all; done)
                      refine sA_n ?_
                      refine a_condb ((decide ((Int.tmod x1.do_ 4) < 2))) (by rfl) (fun zc4 => ?_) (fun zc4 => ?_)
                      · have H := cond_t zc4 H
                        refine a_exit ?_
                        refine sA_e ?_
                        refine bA_hit ?_
                        refine cA_n ?_
                        refine wk_l [(some 0, ⟨25, 10, false, [[.int .i64 s1.id, .list 1 (s1.peers.map (ci .i64)), .int .i64 s1.term, .int .i64 s1.voted, .int .i64 s1.role, .list 2 (s1.log.map Entry.c), .int .i64 s1.commit, .list 1 (s1.votes.map (ci .i64)), .list 1 (s1.next.map (ci .i64)), .list 1 (s1.match_.map (ci .i64))]]⟩), (some 1, ⟨25, 10, false, [[.int .i64 r3.id, .list 1 (r3.peers.map (ci .i64)), .int .i64 r3.term, .int .i64 r3.voted, .int .i64 r3.role, .list 2 (r3.log.map Entry.c), .int .i64 r3.commit, .list 1 (r3.votes.map (ci .i64)), .list 1 (r3.next.map (ci .i64)), .list 1 (r3.match_.map (ci .i64))]]⟩)] [] [(1, .list 5 (l1.map Call30.c)), (2, .ptr 0 0 0 10), (5, .bool r1), (11, .ptr 1 0 0 10), (12, .int .i64 i1)] (by show ([1, 2, 5, 11, 12] : List Nat).Nodup; decide) (by show ([0, 1] : List Nat).Nodup; decide) ?_ ?_ (fun t0 => ⟨t0, H, rfl⟩)
                        · exact (allB_some (by rfl) rfl (.cons (.cons (.int' rfl) (.cons (.lst _ _ _ (ci_pu .i64) rfl) (.cons (.int' rfl) (.cons (.int' rfl) (.cons (.int' rfl) (.cons (.lst _ _ _ Entry.pu rfl) (.cons (.int' rfl) (.cons (.lst _ _ _ (ci_pu .i64) rfl) (.cons (.lst _ _ _ (ci_pu .i64) rfl) (.cons (.lst _ _ _ (ci_pu .i64) rfl) .nil)))))))))) .nil) (allB_some (by rfl) rfl (.cons (.cons (.int' rfl) (.cons (.lst _ _ _ (ci_pu .i64) rfl) (.cons (.int' rfl) (.cons (.int' rfl) (.cons (.int' rfl) (.cons (.lst _ _ _ Entry.pu rfl) (.cons (.int' rfl) (.cons (.lst _ _ _ (ci_pu .i64) rfl) (.cons (.lst _ _ _ (ci_pu .i64) rfl) (.cons (.lst _ _ _ (ci_pu .i64) rfl) .nil)))))))))) .nil) trivial))
                        · (simp only [AllT, tl_cons, tl_nil, upd_apply, List.getD_cons_zero, List.getD_cons_succ, Nat.reduceEqDiff, ↓reduceIte, and_true]); exact ⟨(.lst _ _ _ Call30.pu rfl), (.ptr _ _ _ _ _ rfl), (.bool' rfl), (.ptr _ _ _ _ _ rfl), (.int' rfl)⟩
                      · have H := cond_f zc4 H
                        refine a_skip ?_
                        refine sA_n ?_
                        refine a_seq ?_
                        obtain ⟨r4, zh5, H⟩ := bind_some H
                        have zk4 := vote_Ask_pc zh5
                        refine a_drW (by kernel_rfl) _ rfl (s := ?zs13) (by kernel_rfl) (by kernel_rfl) ?zs13f ?_ ?_ ?_
                        rotate_left 2
                        · try simp (maxSteps := 2000000) only [EVT, stepW, evOp, St.ev, St.app, St.put, wrs, evLoad, cut, evIndexAddr, evFieldAddr, datOf, datOf1, frz, allOne, evStore, setR, TIS, CS, Nat.reduceAdd, Nat.reduceMul, Nat.reduceEqDiff, ↓reduceIte, reduceCtorEq, Nat.reduceLT, Nat.reduceLeDiff, Int.reduceToNat, Nat.reduceSub, Nat.reduceBEq, ↓zc3, zg1, ↓zc4]
                          repeat' with_reducible apply And.intro
                          all_goals try ((with_reducible show CallW _ _ _ _ _ _ _); refine cW_p [] zk4 (fun h2 e => (.cons (.agg' (.cons (.int' rfl) (.cons (.lst _ _ _ (ci_pu .i64) rfl) (.cons (.int' rfl) (.cons (.int' rfl) (.cons (.int' rfl) (.cons (.lst _ _ _ Entry.pu rfl) (.cons (.int' rfl) (.cons (.lst _ _ _ (ci_pu .i64) rfl) (.cons (.lst _ _ _ (ci_pu .i64) rfl) (.cons (.lst _ _ _ (ci_pu .i64) rfl) .nil))))))))))) (.cons (.int' rfl) (.cons (.int' rfl) (.cons (.int' rfl) (.cons (.int' rfl) .nil)))))) ?_; simp (maxSteps := 2000000) only [EVT, stepW, evOp, St.ev, St.app, St.put, wrs, evLoad, cut, evIndexAddr, evFieldAddr, datOf, datOf1, frz, allOne, evStore, setR, TIS, CS, Nat.reduceAdd, Nat.reduceMul, Nat.reduceEqDiff, ↓reduceIte, reduceCtorEq, Nat.reduceLT, Nat.reduceLeDiff, Int.reduceToNat, Nat.reduceSub, Nat.reduceBEq, ↓zc3, zg1, ↓zc4])
                          all_goals ((repeat' apply And.intro) <;> first | rfl | assumption | omega | (simp; done) | (simp; omega) | (simp_all; done))
                        · kernel_rfl
                        refine sA_n ?_
                        refine a_seq ?_
                        obtain ⟨r5, zh6, H⟩ := bind_some H
                        have zk5 := ref14_Same_pc zh6
                        refine a_reg _ rfl (s := ?zs14) ?_ ?_
                        rotate_left
                        · try simp (maxSteps := 2000000) only [EVT, stepR, evOp, St.ev, St.app, St.put, wrs, evLoad, cut, frz, TIS, CS, Nat.reduceAdd, Nat.reduceMul, Nat.reduceEqDiff, ↓reduceIte, reduceCtorEq, Nat.reduceLT, Nat.reduceLeDiff, Nat.reduceSub, Nat.reduceBEq, ↓zc3, zg1, ↓zc4]
                          repeat' with_reducible apply And.intro
                          all_goals try ((with_reducible show CallR _ _ _ _ _ _ _); refine cR_s zk5 (.cons (.agg' (.cons (.int' rfl) (.cons (.lst _ _ _ (ci_pu .i64) rfl) (.cons (.int' rfl) (.cons (.int' rfl) (.cons (.int' rfl) (.cons (.lst _ _ _ Entry.pu rfl) (.cons (.int' rfl) (.cons (.lst _ _ _ (ci_pu .i64) rfl) (.cons (.lst _ _ _ (ci_pu .i64) rfl) (.cons (.lst _ _ _ (ci_pu .i64) rfl) .nil))))))))))) (.cons (.agg' (.cons (.int' rfl) (.cons (.lst _ _ _ (ci_pu .i64) rfl) (.cons (.int' rfl) (.cons (.int' rfl) (.cons (.int' rfl) (.cons (.lst _ _ _ Entry.pu rfl) (.cons (.int' rfl) (.cons (.lst _ _ _ (ci_pu .i64) rfl) (.cons (.lst _ _ _ (ci_pu .i64) rfl) (.cons (.lst _ _ _ (ci_pu .i64) rfl) .nil))))))))))) .nil)) (.bool _) ?_; simp (maxSteps := 2000000) only [EVT, stepR, evOp, St.ev, St.app, St.put, wrs, evLoad, cut, frz, TIS, CS, Nat.reduceAdd, Nat.reduceMul, Nat.reduceEqDiff, ↓reduceIte, reduceCtorEq, Nat.reduceLT, Nat.reduceLeDiff, Nat.reduceSub, Nat.reduceBEq, ↓zc3, zg1, ↓zc4])
                          all_goals ((repeat' apply And.intro) <;> first | rfl | assumption | omega | (simp; done) | (simp; omega) | (simp_all; done))
                        refine sA_n ?_
                        refine a_seq ?_
                        refine a_cut (fun s => ∃ (v3 : Bool) (t0 : Nat → Dat), law14_VoteStands_J6 (law14_VoteStands_L1 l1 r3 s1 r1 m_law14_VoteStands_L1) l1 i1 r3 s1 v3 = some r ∧ s = ⟨tl t0 [(1, .list 5 (l1.map Call30.c)), (2, .ptr 0 0 0 10), (5, .bool r1), (11, .ptr 1 0 0 10), (12, .int .i64 i1), (111, .bool v3)], hl [⟨25, 10, false, [[.int .i64 s1.id, .list 1 (s1.peers.map (ci .i64)), .int .i64 s1.term, .int .i64 s1.voted, .int .i64 s1.role, .list 2 (s1.log.map Entry.c), .int .i64 s1.commit, .list 1 (s1.votes.map (ci .i64)), .list 1 (s1.next.map (ci .i64)), .list 1 (s1.match_.map (ci .i64))]]⟩, ⟨25, 10, false, [[.int .i64 r3.id, .list 1 (r3.peers.map (ci .i64)), .int .i64 r3.term, .int .i64 r3.voted, .int .i64 r3.role, .list 2 (r3.log.map Entry.c), .int .i64 r3.commit, .list 1 (r3.votes.map (ci .i64)), .list 1 (r3.next.map (ci .i64)), .list 1 (r3.match_.map (ci .i64))]]⟩], 2, 144⟩) ?_ ?_
                        · refine bool_split (b := r4.2) (fun zc8 => ?_) (fun zc8 => ?_)
                          · rw [zc8] at H
                            refine a_reg _ rfl (s := ?zs21) ?_ ?_
                            rotate_left
                            · simp (maxSteps := 2000000) only [EVT, stepR, evOp, St.ev, St.app, St.put, wrs, evUn, datOf, datOf1, TIS, CS, Nat.reduceAdd, Nat.reduceMul, Nat.reduceEqDiff, ↓reduceIte, reduceCtorEq, Nat.reduceLT, Nat.reduceLeDiff, Array.reduceGetElem?, ↓zc3, zg1, ↓zc4, ↓zc8]
                              try simp (maxSteps := 2000000) only [EVT, stepR, evOp, St.ev, St.app, St.put, wrs, evUn, datOf, datOf1, TIS, CS, Nat.reduceAdd, Nat.reduceMul, Nat.reduceEqDiff, ↓reduceIte, reduceCtorEq, Nat.reduceLT, Nat.reduceLeDiff, Array.reduceGetElem?, ↓zc3, zg1, ↓zc4, ↓zc8]
                              (repeat' apply And.intro) <;> first | rfl | assumption | omega | (simp; done) | (simp; omega) | (simp_all; done)
                            refine cA_n ?_
                            refine wk_l [(some 0, ⟨25, 10, false, [[.int .i64 s1.id, .list 1 (s1.peers.map (ci .i64)), .int .i64 s1.term, .int .i64 s1.voted, .int .i64 s1.role, .list 2 (s1.log.map Entry.c), .int .i64 s1.commit, .list 1 (s1.votes.map (ci .i64)), .list 1 (s1.next.map (ci .i64)), .list 1 (s1.match_.map (ci .i64))]]⟩), (some 1, ⟨25, 10, false, [[.int .i64 r3.id, .list 1 (r3.peers.map (ci .i64)), .int .i64 r3.term, .int .i64 r3.voted, .int .i64 r3.role, .list 2 (r3.log.map Entry.c), .int .i64 r3.commit, .list 1 (r3.votes.map (ci .i64)), .list 1 (r3.next.map (ci .i64)), .list 1 (r3.match_.map (ci .i64))]]⟩)] [] [(1, .list 5 (l1.map Call30.c)), (2, .ptr 0 0 0 10), (5, .bool r1), (11, .ptr 1 0 0 10), (12, .int .i64 i1), (111, .bool true)] (by show ([1, 2, 5, 11, 12, 111] : List Nat).Nodup; decide) (by show ([0, 1] : List Nat).Nodup; decide) ?_ ?_ (fun t0 => ⟨true, t0, H, rfl⟩)
                            · exact (allB_some (by rfl) rfl (.cons (.cons (.int' rfl) (.cons (.lst _ _ _ (ci_pu .i64) rfl) (.cons (.int' rfl) (.cons (.int' rfl) (.cons (.int' rfl) (.cons (.lst _ _ _ Entry.pu rfl) (.cons (.int' rfl) (.cons (.lst _ _ _ (ci_pu .i64) rfl) (.cons (.lst _ _ _ (ci_pu .i64) rfl) (.cons (.lst _ _ _ (ci_pu .i64) rfl) .nil)))))))))) .nil) (allB_some (by rfl) rfl (.cons (.cons (.int' rfl) (.cons (.lst _ _ _ (ci_pu .i64) rfl) (.cons (.int' rfl) (.cons (.int' rfl) (.cons (.int' rfl) (.cons (.lst _ _ _ Entry.pu rfl) (.cons (.int' rfl) (.cons (.lst _ _ _ (ci_pu .i64) rfl) (.cons (.lst _ _ _ (ci_pu .i64) rfl) (.cons (.lst _ _ _ (ci_pu .i64) rfl) .nil)))))))))) .nil) trivial))
                            · (simp only [AllT, tl_cons, tl_nil, upd_apply, List.getD_cons_zero, List.getD_cons_succ, Nat.reduceEqDiff, ↓reduceIte, and_true]); exact ⟨(.lst _ _ _ Call30.pu rfl), (.ptr _ _ _ _ _ rfl), (.bool' rfl), (.ptr _ _ _ _ _ rfl), (.int' rfl), (.bool' (by first | rfl | assumption | (simp_all; done)))⟩
                          · rw [zc8] at H
                            refine a_reg _ rfl (s := ?zs22) ?_ ?_
                            rotate_left
                            · simp (maxSteps := 2000000) only [EVT, stepR, evOp, St.ev, St.app, St.put, wrs, evUn, datOf, datOf1, TIS, CS, Nat.reduceAdd, Nat.reduceMul, Nat.reduceEqDiff, ↓reduceIte, reduceCtorEq, Nat.reduceLT, Nat.reduceLeDiff, Array.reduceGetElem?, ↓zc3, zg1, ↓zc4, ↓zc8]
                              try simp (maxSteps := 2000000) only [EVT, stepR, evOp, St.ev, St.app, St.put, wrs, evUn, datOf, datOf1, TIS, CS, Nat.reduceAdd, Nat.reduceMul, Nat.reduceEqDiff, ↓reduceIte, reduceCtorEq, Nat.reduceLT, Nat.reduceLeDiff, Array.reduceGetElem?, ↓zc3, zg1, ↓zc4, ↓zc8]
                              (repeat' apply And.intro) <;> first | rfl | assumption | omega | (simp; done) | (simp; omega) | (simp_all; done)
                            refine cA_n ?_
                            refine wk_l [(some 0, ⟨25, 10, false, [[.int .i64 s1.id, .list 1 (s1.peers.map (ci .i64)), .int .i64 s1.term, .int .i64 s1.voted, .int .i64 s1.role, .list 2 (s1.log.map Entry.c), .int .i64 s1.commit, .list 1 (s1.votes.map (ci .i64)), .list 1 (s1.next.map (ci .i64)), .list 1 (s1.match_.map (ci .i64))]]⟩), (some 1, ⟨25, 10, false, [[.int .i64 r3.id, .list 1 (r3.peers.map (ci .i64)), .int .i64 r3.term, .int .i64 r3.voted, .int .i64 r3.role, .list 2 (r3.log.map Entry.c), .int .i64 r3.commit, .list 1 (r3.votes.map (ci .i64)), .list 1 (r3.next.map (ci .i64)), .list 1 (r3.match_.map (ci .i64))]]⟩)] [] [(1, .list 5 (l1.map Call30.c)), (2, .ptr 0 0 0 10), (5, .bool r1), (11, .ptr 1 0 0 10), (12, .int .i64 i1), (111, .bool (!r5))] (by show ([1, 2, 5, 11, 12, 111] : List Nat).Nodup; decide) (by show ([0, 1] : List Nat).Nodup; decide) ?_ ?_ (fun t0 => ⟨(!r5), t0, H, rfl⟩)
                            · exact (allB_some (by rfl) rfl (.cons (.cons (.int' rfl) (.cons (.lst _ _ _ (ci_pu .i64) rfl) (.cons (.int' rfl) (.cons (.int' rfl) (.cons (.int' rfl) (.cons (.lst _ _ _ Entry.pu rfl) (.cons (.int' rfl) (.cons (.lst _ _ _ (ci_pu .i64) rfl) (.cons (.lst _ _ _ (ci_pu .i64) rfl) (.cons (.lst _ _ _ (ci_pu .i64) rfl) .nil)))))))))) .nil) (allB_some (by rfl) rfl (.cons (.cons (.int' rfl) (.cons (.lst _ _ _ (ci_pu .i64) rfl) (.cons (.int' rfl) (.cons (.int' rfl) (.cons (.int' rfl) (.cons (.lst _ _ _ Entry.pu rfl) (.cons (.int' rfl) (.cons (.lst _ _ _ (ci_pu .i64) rfl) (.cons (.lst _ _ _ (ci_pu .i64) rfl) (.cons (.lst _ _ _ (ci_pu .i64) rfl) .nil)))))))))) .nil) trivial))
                            · (simp only [AllT, tl_cons, tl_nil, upd_apply, List.getD_cons_zero, List.getD_cons_succ, Nat.reduceEqDiff, ↓reduceIte, and_true]); exact ⟨(.lst _ _ _ Call30.pu rfl), (.ptr _ _ _ _ _ rfl), (.bool' rfl), (.ptr _ _ _ _ _ rfl), (.int' rfl), (.bool' rfl)⟩
                        · rintro s ⟨v3, t0, H, rfl⟩
                          unfold law14_VoteStands_J6 at H
                          refine a_condb (v3) (by rfl) (fun zc5 => ?_) (fun zc5 => ?_)
                          · have H := cond_t zc5 H
                            refine a_seq ?_
                            refine a_reg _ rfl (s := ?zs15) ?_ ?_
                            rotate_left
                            · simp (maxSteps := 2000000) only [EVT, stepR, evOp, St.ev, St.app, St.put, wrs, datOf, datOf1, TIS, CS, Nat.reduceAdd, Nat.reduceMul, Nat.reduceEqDiff, ↓reduceIte, reduceCtorEq, Nat.reduceLT, Nat.reduceLeDiff, ↓zc5]
                              (repeat' apply And.intro) <;> first | rfl | assumption | omega | (simp; done) | (simp; omega) | (simp_all; done)
                            refine sA_n ?_
                            refine a_ret ?_
                            refine sA_r ?_
                            refine bA_r ?_
                            refine cA_r ?_
                            refine lA_r ?_
                            refine bA_r ?_
                            refine cA_r ?_
                            obtain rfl := Option.some.inj H
                            refine e_r2 (d := ?zd4) ?_ ?_
                            rotate_left
                            · simp only [EVT, resR, single, evLoad, cut, TIS, CS, Nat.reduceAdd, Nat.reduceEqDiff, ↓reduceIte, reduceCtorEq, Nat.reduceLT, Nat.reduceLeDiff, Nat.reduceSub, Nat.reduceBEq, zc5]
                              (repeat' apply And.intro) <;> first | rfl | assumption | omega | (simp; done)
                            exact (.bool' (by first | rfl | assumption | (simp_all; done)))
                          · have H := cond_f zc5 H
                            refine a_skip ?_
                            refine sA_n ?_
                            refine a_seq ?_
                            obtain ⟨x2, zh7, H⟩ := bind_some H
                            have zg2 := idx_map zh7 Call30.c
                            obtain ⟨zh7a, zh7b, _⟩ := idx_some zh7
                            obtain ⟨r6, zh8, H⟩ := bind_some H
                            have zk6 := vote_Ask_pc zh8
                            refine a_drW (by kernel_rfl) _ rfl (s := ?zs16) (by kernel_rfl) (by kernel_rfl) ?zs16f ?_ ?_ ?_
                            rotate_left 2
                            · try simp (maxSteps := 2000000) only [EVT, stepW, evOp, St.ev, St.app, St.put, wrs, evLoad, cut, evFieldAddr, evIndexAddr, datOf, datOf1, frz, allOne, evStore, setR, TIS, CS, Nat.reduceAdd, Nat.reduceMul, Nat.reduceEqDiff, ↓reduceIte, reduceCtorEq, Nat.reduceLT, Nat.reduceLeDiff, Int.reduceToNat, Nat.reduceSub, Nat.reduceBEq, ↓zc5, zg2]
                              repeat' with_reducible apply And.intro
                              all_goals try ((with_reducible show CallW _ _ _ _ _ _ _); refine cW_p [] zk6 (fun h2 e => (.cons (.agg' (.cons (.int' rfl) (.cons (.lst _ _ _ (ci_pu .i64) rfl) (.cons (.int' rfl) (.cons (.int' rfl) (.cons (.int' rfl) (.cons (.lst _ _ _ Entry.pu rfl) (.cons (.int' rfl) (.cons (.lst _ _ _ (ci_pu .i64) rfl) (.cons (.lst _ _ _ (ci_pu .i64) rfl) (.cons (.lst _ _ _ (ci_pu .i64) rfl) .nil))))))))))) (.cons (.int' rfl) (.cons (.int' rfl) (.cons (.int' rfl) (.cons (.int' rfl) .nil)))))) ?_; simp (maxSteps := 2000000) only [EVT, stepW, evOp, St.ev, St.app, St.put, wrs, evLoad, cut, evFieldAddr, evIndexAddr, datOf, datOf1, frz, allOne, evStore, setR, TIS, CS, Nat.reduceAdd, Nat.reduceMul, Nat.reduceEqDiff, ↓reduceIte, reduceCtorEq, Nat.reduceLT, Nat.reduceLeDiff, Int.reduceToNat, Nat.reduceSub, Nat.reduceBEq, ↓zc5, zg2])
                              all_goals ((repeat' apply And.intro) <;> first | rfl | assumption | omega | (simp; done) | (simp; omega) | (simp_all; done))
                            · kernel_rfl
                            refine sA_n ?_
                            refine a_seq ?_
                            obtain ⟨r7, zh9, H⟩ := bind_some H
                            have zk7 := ref14_Same_pc zh9
                            refine a_reg _ rfl (s := ?zs17) ?_ ?_
                            rotate_left
                            · try simp (maxSteps := 2000000) only [EVT, stepR, evOp, St.ev, St.app, St.put, wrs, evLoad, cut, frz, TIS, CS, Nat.reduceAdd, Nat.reduceMul, Nat.reduceEqDiff, ↓reduceIte, reduceCtorEq, Nat.reduceLT, Nat.reduceLeDiff, Nat.reduceSub, Nat.reduceBEq, ↓zc5, zg2]
                              repeat' with_reducible apply And.intro
                              all_goals try ((with_reducible show CallR _ _ _ _ _ _ _); refine cR_s zk7 (.cons (.agg' (.cons (.int' rfl) (.cons (.lst _ _ _ (ci_pu .i64) rfl) (.cons (.int' rfl) (.cons (.int' rfl) (.cons (.int' rfl) (.cons (.lst _ _ _ Entry.pu rfl) (.cons (.int' rfl) (.cons (.lst _ _ _ (ci_pu .i64) rfl) (.cons (.lst _ _ _ (ci_pu .i64) rfl) (.cons (.lst _ _ _ (ci_pu .i64) rfl) .nil))))))))))) (.cons (.agg' (.cons (.int' rfl) (.cons (.lst _ _ _ (ci_pu .i64) rfl) (.cons (.int' rfl) (.cons (.int' rfl) (.cons (.int' rfl) (.cons (.lst _ _ _ Entry.pu rfl) (.cons (.int' rfl) (.cons (.lst _ _ _ (ci_pu .i64) rfl) (.cons (.lst _ _ _ (ci_pu .i64) rfl) (.cons (.lst _ _ _ (ci_pu .i64) rfl) .nil))))))))))) .nil)) (.bool _) ?_; simp (maxSteps := 2000000) only [EVT, stepR, evOp, St.ev, St.app, St.put, wrs, evLoad, cut, frz, TIS, CS, Nat.reduceAdd, Nat.reduceMul, Nat.reduceEqDiff, ↓reduceIte, reduceCtorEq, Nat.reduceLT, Nat.reduceLeDiff, Nat.reduceSub, Nat.reduceBEq, ↓zc5, zg2])
                              all_goals ((repeat' apply And.intro) <;> first | rfl | assumption | omega | (simp; done) | (simp; omega) | (simp_all; done))
                            refine sA_n ?_
                            refine a_cut (fun s => ∃ (v4 : Bool) (t0 : Nat → Dat), law14_VoteStands_J7 (law14_VoteStands_L1 l1 r3 s1 r1 m_law14_VoteStands_L1) i1 v4 = some r ∧ s = ⟨tl t0 [(1, .list 5 (l1.map Call30.c)), (2, .ptr 0 0 0 10), (5, .bool r1), (11, .ptr 1 0 0 10), (12, .int .i64 i1), (142, .bool v4)], hl [⟨25, 10, false, [[.int .i64 s1.id, .list 1 (s1.peers.map (ci .i64)), .int .i64 s1.term, .int .i64 s1.voted, .int .i64 s1.role, .list 2 (s1.log.map Entry.c), .int .i64 s1.commit, .list 1 (s1.votes.map (ci .i64)), .list 1 (s1.next.map (ci .i64)), .list 1 (s1.match_.map (ci .i64))]]⟩, ⟨25, 10, false, [[.int .i64 r3.id, .list 1 (r3.peers.map (ci .i64)), .int .i64 r3.term, .int .i64 r3.voted, .int .i64 r3.role, .list 2 (r3.log.map Entry.c), .int .i64 r3.commit, .list 1 (r3.votes.map (ci .i64)), .list 1 (r3.next.map (ci .i64)), .list 1 (r3.match_.map (ci .i64))]]⟩], 2, 144⟩) ?_ ?_
                            · refine bool_split (b := (!(r6.2 == ((IntKind.wrap .i64 x2.who) == s1.id)))) (fun zc7 => ?_) (fun zc7 => ?_)
                              · rw [zc7] at H
                                refine a_drW (by kernel_rfl) _ rfl (s := ?zs19) (by kernel_rfl) (by kernel_rfl) ?zs19f ?_ ?_ ?_
                                rotate_left 2
                                · simp (maxSteps := 2000000) only [EVT, stepW, evOp, St.ev, St.app, St.put, wrs, evIndexAddr, evFieldAddr, evLoad, cut, evBin, binInt, evUn, datOf, datOf1, TIS, CS, Nat.reduceAdd, Nat.reduceMul, Nat.reduceEqDiff, ↓reduceIte, reduceCtorEq, Nat.reduceLT, Nat.reduceLeDiff, Array.reduceGetElem?, Int.reduceToNat, Nat.reduceSub, Nat.reduceBEq, ↓zc5, zg2, ↓zc7]
                                  try simp (maxSteps := 2000000) only [EVT, stepW, evOp, St.ev, St.app, St.put, wrs, evIndexAddr, evFieldAddr, evLoad, cut, evBin, binInt, evUn, datOf, datOf1, TIS, CS, Nat.reduceAdd, Nat.reduceMul, Nat.reduceEqDiff, ↓reduceIte, reduceCtorEq, Nat.reduceLT, Nat.reduceLeDiff, Array.reduceGetElem?, Int.reduceToNat, Nat.reduceSub, Nat.reduceBEq, ↓zc5, zg2, ↓zc7]
                                  (repeat' apply And.intro) <;> first | rfl | assumption | omega | (simp; done) | (simp; omega) | (simp_all; done)
                                · kernel_rfl
                                refine cA_n ?_
                                refine wk_l [(some 0, ⟨25, 10, false, [[.int .i64 s1.id, .list 1 (s1.peers.map (ci .i64)), .int .i64 s1.term, .int .i64 s1.voted, .int .i64 s1.role, .list 2 (s1.log.map Entry.c), .int .i64 s1.commit, .list 1 (s1.votes.map (ci .i64)), .list 1 (s1.next.map (ci .i64)), .list 1 (s1.match_.map (ci .i64))]]⟩), (some 1, ⟨25, 10, false, [[.int .i64 r3.id, .list 1 (r3.peers.map (ci .i64)), .int .i64 r3.term, .int .i64 r3.voted, .int .i64 r3.role, .list 2 (r3.log.map Entry.c), .int .i64 r3.commit, .list 1 (r3.votes.map (ci .i64)), .list 1 (r3.next.map (ci .i64)), .list 1 (r3.match_.map (ci .i64))]]⟩)] [] [(1, .list 5 (l1.map Call30.c)), (2, .ptr 0 0 0 10), (5, .bool r1), (11, .ptr 1 0 0 10), (12, .int .i64 i1), (142, .bool true)] (by show ([1, 2, 5, 11, 12, 142] : List Nat).Nodup; decide) (by show ([0, 1] : List Nat).Nodup; decide) ?_ ?_ (fun t0 => ⟨true, t0, H, rfl⟩)
                                · exact (allB_some (by rfl) rfl (.cons (.cons (.int' rfl) (.cons (.lst _ _ _ (ci_pu .i64) rfl) (.cons (.int' rfl) (.cons (.int' rfl) (.cons (.int' rfl) (.cons (.lst _ _ _ Entry.pu rfl) (.cons (.int' rfl) (.cons (.lst _ _ _ (ci_pu .i64) rfl) (.cons (.lst _ _ _ (ci_pu .i64) rfl) (.cons (.lst _ _ _ (ci_pu .i64) rfl) .nil)))))))))) .nil) (allB_some (by rfl) rfl (.cons (.cons (.int' rfl) (.cons (.lst _ _ _ (ci_pu .i64) rfl) (.cons (.int' rfl) (.cons (.int' rfl) (.cons (.int' rfl) (.cons (.lst _ _ _ Entry.pu rfl) (.cons (.int' rfl) (.cons (.lst _ _ _ (ci_pu .i64) rfl) (.cons (.lst _ _ _ (ci_pu .i64) rfl) (.cons (.lst _ _ _ (ci_pu .i64) rfl) .nil)))))))))) .nil) trivial))
                                · (simp only [AllT, tl_cons, tl_nil, upd_apply, List.getD_cons_zero, List.getD_cons_succ, Nat.reduceEqDiff, ↓reduceIte, and_true]); exact ⟨(.lst _ _ _ Call30.pu rfl), (.ptr _ _ _ _ _ rfl), (.bool' rfl), (.ptr _ _ _ _ _ rfl), (.int' rfl), (.bool' (by first | rfl | assumption | (simp_all; done)))⟩
                              · rw [zc7] at H
                                refine a_drW (by kernel_rfl) _ rfl (s := ?zs20) (by kernel_rfl) (by kernel_rfl) ?zs20f ?_ ?_ ?_
                                rotate_left 2
                                · simp (maxSteps := 2000000) only [EVT, stepW, evOp, St.ev, St.app, St.put, wrs, evIndexAddr, evFieldAddr, evLoad, cut, evBin, binInt, evUn, datOf, datOf1, TIS, CS, Nat.reduceAdd, Nat.reduceMul, Nat.reduceEqDiff, ↓reduceIte, reduceCtorEq, Nat.reduceLT, Nat.reduceLeDiff, Array.reduceGetElem?, Int.reduceToNat, Nat.reduceSub, Nat.reduceBEq, ↓zc5, zg2, ↓zc7]
                                  try simp (maxSteps := 2000000) only [EVT, stepW, evOp, St.ev, St.app, St.put, wrs, evIndexAddr, evFieldAddr, evLoad, cut, evBin, binInt, evUn, datOf, datOf1, TIS, CS, Nat.reduceAdd, Nat.reduceMul, Nat.reduceEqDiff, ↓reduceIte, reduceCtorEq, Nat.reduceLT, Nat.reduceLeDiff, Array.reduceGetElem?, Int.reduceToNat, Nat.reduceSub, Nat.reduceBEq, ↓zc5, zg2, ↓zc7]
                                  (repeat' apply And.intro) <;> first | rfl | assumption | omega | (simp; done) | (simp; omega) | (simp_all; done)
                                · kernel_rfl
                                refine cA_n ?_
                                refine wk_l [(some 0, ⟨25, 10, false, [[.int .i64 s1.id, .list 1 (s1.peers.map (ci .i64)), .int .i64 s1.term, .int .i64 s1.voted, .int .i64 s1.role, .list 2 (s1.log.map Entry.c), .int .i64 s1.commit, .list 1 (s1.votes.map (ci .i64)), .list 1 (s1.next.map (ci .i64)), .list 1 (s1.match_.map (ci .i64))]]⟩), (some 1, ⟨25, 10, false, [[.int .i64 r3.id, .list 1 (r3.peers.map (ci .i64)), .int .i64 r3.term, .int .i64 r3.voted, .int .i64 r3.role, .list 2 (r3.log.map Entry.c), .int .i64 r3.commit, .list 1 (r3.votes.map (ci .i64)), .list 1 (r3.next.map (ci .i64)), .list 1 (r3.match_.map (ci .i64))]]⟩)] [] [(1, .list 5 (l1.map Call30.c)), (2, .ptr 0 0 0 10), (5, .bool r1), (11, .ptr 1 0 0 10), (12, .int .i64 i1), (142, .bool (!r7))] (by show ([1, 2, 5, 11, 12, 142] : List Nat).Nodup; decide) (by show ([0, 1] : List Nat).Nodup; decide) ?_ ?_ (fun t0 => ⟨(!r7), t0, H, rfl⟩)
                                · exact (allB_some (by rfl) rfl (.cons (.cons (.int' rfl) (.cons (.lst _ _ _ (ci_pu .i64) rfl) (.cons (.int' rfl) (.cons (.int' rfl) (.cons (.int' rfl) (.cons (.lst _ _ _ Entry.pu rfl) (.cons (.int' rfl) (.cons (.lst _ _ _ (ci_pu .i64) rfl) (.cons (.lst _ _ _ (ci_pu .i64) rfl) (.cons (.lst _ _ _ (ci_pu .i64) rfl) .nil)))))))))) .nil) (allB_some (by rfl) rfl (.cons (.cons (.int' rfl) (.cons (.lst _ _ _ (ci_pu .i64) rfl) (.cons (.int' rfl) (.cons (.int' rfl) (.cons (.int' rfl) (.cons (.lst _ _ _ Entry.pu rfl) (.cons (.int' rfl) (.cons (.lst _ _ _ (ci_pu .i64) rfl) (.cons (.lst _ _ _ (ci_pu .i64) rfl) (.cons (.lst _ _ _ (ci_pu .i64) rfl) .nil)))))))))) .nil) trivial))
                                · (simp only [AllT, tl_cons, tl_nil, upd_apply, List.getD_cons_zero, List.getD_cons_succ, Nat.reduceEqDiff, ↓reduceIte, and_true]); exact ⟨(.lst _ _ _ Call30.pu rfl), (.ptr _ _ _ _ _ rfl), (.bool' rfl), (.ptr _ _ _ _ _ rfl), (.int' rfl), (.bool' rfl)⟩
                            · rintro s ⟨v4, t0, H, rfl⟩
                              unfold law14_VoteStands_J7 at H
                              refine a_condb (v4) (by rfl) (fun zc6 => ?_) (fun zc6 => ?_)
                              · have H := cond_t zc6 H
                                refine a_seq ?_
                                refine a_reg _ rfl (s := ?zs18) ?_ ?_
                                rotate_left
                                · simp (maxSteps := 2000000) only [EVT, stepR, evOp, St.ev, St.app, St.put, wrs, datOf, datOf1, TIS, CS, Nat.reduceAdd, Nat.reduceMul, Nat.reduceEqDiff, ↓reduceIte, reduceCtorEq, Nat.reduceLT, Nat.reduceLeDiff, ↓zc6]
                                  (repeat' apply And.intro) <;> first | rfl | assumption | omega | (simp; done) | (simp; omega) | (simp_all; done)
                                refine sA_n ?_
                                refine a_ret ?_
                                refine bA_r ?_
                                refine cA_r ?_
                                refine lA_r ?_
                                refine bA_r ?_
                                refine cA_r ?_
                                obtain rfl := Option.some.inj H
                                refine e_r2 (d := ?zd5) ?_ ?_
                                rotate_left
                                · simp only [EVT, resR, single, evLoad, cut, TIS, CS, Nat.reduceAdd, Nat.reduceEqDiff, ↓reduceIte, reduceCtorEq, Nat.reduceLT, Nat.reduceLeDiff, Nat.reduceSub, Nat.reduceBEq, zc6]
                                  (repeat' apply And.intro) <;> first | rfl | assumption | omega | (simp; done)
                                exact (.bool' (by first | rfl | assumption | (simp_all; done)))
                              · have H := cond_f zc6 H
                                refine a_skip ?_
                                refine bA_n ?_
                                refine cA_n ?_
                                refine wk_l [(some 0, ⟨25, 10, false, [[.int .i64 s1.id, .list 1 (s1.peers.map (ci .i64)), .int .i64 s1.term, .int .i64 s1.voted, .int .i64 s1.role, .list 2 (s1.log.map Entry.c), .int .i64 s1.commit, .list 1 (s1.votes.map (ci .i64)), .list 1 (s1.next.map (ci .i64)), .list 1 (s1.match_.map (ci .i64))]]⟩), (some 1, ⟨25, 10, false, [[.int .i64 r3.id, .list 1 (r3.peers.map (ci .i64)), .int .i64 r3.term, .int .i64 r3.voted, .int .i64 r3.role, .list 2 (r3.log.map Entry.c), .int .i64 r3.commit, .list 1 (r3.votes.map (ci .i64)), .list 1 (r3.next.map (ci .i64)), .list 1 (r3.match_.map (ci .i64))]]⟩)] [] [(1, .list 5 (l1.map Call30.c)), (2, .ptr 0 0 0 10), (5, .bool r1), (11, .ptr 1 0 0 10), (12, .int .i64 i1)] (by show ([1, 2, 5, 11, 12] : List Nat).Nodup; decide) (by show ([0, 1] : List Nat).Nodup; decide) ?_ ?_ (fun t0 => ⟨t0, H, rfl⟩)
                                · exact (allB_some (by rfl) rfl (.cons (.cons (.int' rfl) (.cons (.lst _ _ _ (ci_pu .i64) rfl) (.cons (.int' rfl) (.cons (.int' rfl) (.cons (.int' rfl) (.cons (.lst _ _ _ Entry.pu rfl) (.cons (.int' rfl) (.cons (.lst _ _ _ (ci_pu .i64) rfl) (.cons (.lst _ _ _ (ci_pu .i64) rfl) (.cons (.lst _ _ _ (ci_pu .i64) rfl) .nil)))))))))) .nil) (allB_some (by rfl) rfl (.cons (.cons (.int' rfl) (.cons (.lst _ _ _ (ci_pu .i64) rfl) (.cons (.int' rfl) (.cons (.int' rfl) (.cons (.int' rfl) (.cons (.lst _ _ _ Entry.pu rfl) (.cons (.int' rfl) (.cons (.lst _ _ _ (ci_pu .i64) rfl) (.cons (.lst _ _ _ (ci_pu .i64) rfl) (.cons (.lst _ _ _ (ci_pu .i64) rfl) .nil)))))))))) .nil) trivial))
                                · (simp only [AllT, tl_cons, tl_nil, upd_apply, List.getD_cons_zero, List.getD_cons_succ, Nat.reduceEqDiff, ↓reduceIte, and_true]); exact ⟨(.lst _ _ _ Call30.pu rfl), (.ptr _ _ _ _ _ rfl), (.bool' rfl), (.ptr _ _ _ _ _ rfl), (.int' rfl)⟩
                    · rintro s ⟨t0, H, rfl⟩
                      unfold law14_VoteStands_J5 at H
                      refine a_reg _ rfl (s := ?zs11) ?_ ?_
                      rotate_left
                      · simp (maxSteps := 2000000) only [EVT, stepR, evOp, St.ev, St.app, St.put, wrs, datOf, datOf1, evBin, binInt, TIS, CS, Nat.reduceAdd, Nat.reduceMul, Nat.reduceEqDiff, ↓reduceIte, reduceCtorEq, Nat.reduceLT, Nat.reduceLeDiff]
                        (repeat' apply And.intro) <;> first | rfl | assumption | omega | (simp; done) | (simp; omega) | (simp_all; done)
                      refine lA_n ?_
                      refine wk_l [(some 0, ⟨25, 10, false, [[.int .i64 s1.id, .list 1 (s1.peers.map (ci .i64)), .int .i64 s1.term, .int .i64 s1.voted, .int .i64 s1.role, .list 2 (s1.log.map Entry.c), .int .i64 s1.commit, .list 1 (s1.votes.map (ci .i64)), .list 1 (s1.next.map (ci .i64)), .list 1 (s1.match_.map (ci .i64))]]⟩), (some 1, ⟨25, 10, false, [[.int .i64 r3.id, .list 1 (r3.peers.map (ci .i64)), .int .i64 r3.term, .int .i64 r3.voted, .int .i64 r3.role, .list 2 (r3.log.map Entry.c), .int .i64 r3.commit, .list 1 (r3.votes.map (ci .i64)), .list 1 (r3.next.map (ci .i64)), .list 1 (r3.match_.map (ci .i64))]]⟩)] [] [(1, .list 5 (l1.map Call30.c)), (2, .ptr 0 0 0 10), (5, .bool r1), (11, .ptr 1 0 0 10), (12, .int .i64 (IntKind.wrap .i64 (i1 + 1)))] (by show ([1, 2, 5, 11, 12] : List Nat).Nodup; decide) (by show ([0, 1] : List Nat).Nodup; decide) ?_ ?_ (fun t0 => ⟨_, Nat.lt_succ_self _, (IntKind.wrap .i64 (i1 + 1)), t0, H, rfl⟩)
                      · exact (allB_some (by rfl) rfl (.cons (.cons (.int' rfl) (.cons (.lst _ _ _ (ci_pu .i64) rfl) (.cons (.int' rfl) (.cons (.int' rfl) (.cons (.int' rfl) (.cons (.lst _ _ _ Entry.pu rfl) (.cons (.int' rfl) (.cons (.lst _ _ _ (ci_pu .i64) rfl) (.cons (.lst _ _ _ (ci_pu .i64) rfl) (.cons (.lst _ _ _ (ci_pu .i64) rfl) .nil)))))))))) .nil) (allB_some (by rfl) rfl (.cons (.cons (.int' rfl) (.cons (.lst _ _ _ (ci_pu .i64) rfl) (.cons (.int' rfl) (.cons (.int' rfl) (.cons (.int' rfl) (.cons (.lst _ _ _ Entry.pu rfl) (.cons (.int' rfl) (.cons (.lst _ _ _ (ci_pu .i64) rfl) (.cons (.lst _ _ _ (ci_pu .i64) rfl) (.cons (.lst _ _ _ (ci_pu .i64) rfl) .nil)))))))))) .nil) trivial))
                      · (simp only [AllT, tl_cons, tl_nil, upd_apply, List.getD_cons_zero, List.getD_cons_succ, Nat.reduceEqDiff, ↓reduceIte, and_true]); exact ⟨(.lst _ _ _ Call30.pu rfl), (.ptr _ _ _ _ _ rfl), (.bool' rfl), (.ptr _ _ _ _ _ rfl), (.int' rfl)⟩
                  · have H := cond_f zc3 H
                    refine a_exit ?_
                    refine sA_e ?_
                    refine lA_e ?_
                    refine bA_hit ?_
                    refine cA_n ?_
                    refine wk_l [] [] [(5, .bool r1)] (by show ([5] : List Nat).Nodup; decide) (by show ([] : List Nat).Nodup; decide) ?_ ?_ (fun t0 => ⟨t0, H, rfl⟩)
                    · exact trivial
                    · (simp only [AllT, tl_cons, tl_nil, upd_apply, List.getD_cons_zero, List.getD_cons_succ, Nat.reduceEqDiff, ↓reduceIte, and_true]); exact (.bool' rfl)
            · rintro s ⟨t0, H, rfl⟩
              unfold law14_VoteStands_J4 at H
              refine a_seq ?_
              refine a_reg _ rfl (s := ?zs8) ?_ ?_
              rotate_left
              · simp (maxSteps := 2000000) only [EVT, stepR, evOp, St.ev, St.app, St.put, wrs, TIS, CS, Nat.reduceAdd, Nat.reduceMul, Nat.reduceEqDiff, ↓reduceIte, reduceCtorEq, Nat.reduceLT, Nat.reduceLeDiff]
                (repeat' apply And.intro) <;> first | rfl | assumption | omega | (simp; done) | (simp; omega) | (simp_all; done)
              refine sA_n ?_
              refine a_ret ?_
              obtain rfl := Option.some.inj H
              refine e_r2 (d := ?zd3) ?_ ?_
              rotate_left
              · simp only [EVT, resR, single, evLoad, cut, TIS, CS, Nat.reduceAdd, Nat.reduceEqDiff, ↓reduceIte, reduceCtorEq, Nat.reduceLT, Nat.reduceLeDiff, Nat.reduceSub, Nat.reduceBEq]
                (repeat' apply And.intro) <;> first | rfl | assumption | omega | (simp; done)
              exact (.bool' rfl)
end
end Go.Proofs.Ytecdonbjabjaeaa
