/- Functions of the program as Lean functions, and that they are so; printed by a program of mine. -/
import Derived.Test.YtecdonbjabjaeaaF3
set_option linter.unusedSimpArgs false
set_option linter.unusedVariables false
namespace Go.Proofs.Ytecdonbjabjaeaa
open Go.Ab
noncomputable section

def law14_VoteOnce_J2 (r1 : Bool) : Option Bool :=
  some (r1)
def law14_VoteOnce_J6 (k_law14_VoteOnce_L1 : Seat → Int → Int → Option Bool) (r3 : Seat × Bool) (i1 : Int) (given4 : Int) : Option Bool :=
  cond (r3.1.voted != given4) (some (false)) (k_law14_VoteOnce_L1 r3.1 given4 (IntKind.wrap .i64 (i1 + 1)))
def law14_VoteOnce_J7 (k_law14_VoteOnce_L1 : Seat → Int → Int → Option Bool) (l1 : List Call30) (i1 : Int) (r3 : Seat × Bool) (v3 : Bool) : Option Bool :=
  cond v3 (some (false)) ((idx l1 i1).bind fun x2 => law14_VoteOnce_J6 k_law14_VoteOnce_L1 r3 i1 (IntKind.wrap .i64 x2.who))
def law14_VoteOnce_J5 (k_law14_VoteOnce_L1 : Seat → Int → Int → Option Bool) (r3 : Seat × Bool) (l1 : List Call30) (i1 : Int) (given3 : Int) : Option Bool :=
  cond r3.2 (cond (given3 != (-1)) ((idx l1 i1).bind fun x3 => law14_VoteOnce_J7 k_law14_VoteOnce_L1 l1 i1 r3 (given3 != (IntKind.wrap .i64 x3.who))) (law14_VoteOnce_J7 k_law14_VoteOnce_L1 l1 i1 r3 false)) (law14_VoteOnce_J6 k_law14_VoteOnce_L1 r3 i1 given3)
def law14_VoteOnce_J8 (k_law14_VoteOnce_L1 : Seat → Int → Int → Option Bool) (r3 : Seat × Bool) (l1 : List Call30) (i1 : Int) (s1 : Seat) (v4 : Bool) : Option Bool :=
  cond v4 (some (false)) (law14_VoteOnce_J5 k_law14_VoteOnce_L1 r3 l1 i1 s1.id)
def law14_VoteOnce_J4 (k_law14_VoteOnce_L1 : Seat → Int → Int → Option Bool) (l1 : List Call30) (i1 : Int) (r3 : Seat × Bool) (s1 : Seat) (now1 : Seat) (given2 : Int) : Option Bool :=
  (idx l1 i1).bind fun x4 => cond ((Int.tmod x4.do_ 4) == 0) (law14_VoteOnce_J8 k_law14_VoteOnce_L1 r3 l1 i1 s1 ((r3.1.term != (IntKind.wrap .i64 (now1.term + 1))) || (r3.1.voted != s1.id))) (law14_VoteOnce_J5 k_law14_VoteOnce_L1 r3 l1 i1 given2)
def law14_VoteOnce_J3 (k_law14_VoteOnce_L1 : Seat → Int → Int → Option Bool) (now1 : Seat) (r3 : Seat × Bool) (l1 : List Call30) (i1 : Int) (s1 : Seat) (given1 : Int) (v2 : Bool) : Option Bool :=
  cond v2 (some (false)) (cond (decide (now1.term < r3.1.term)) (law14_VoteOnce_J4 k_law14_VoteOnce_L1 l1 i1 r3 s1 now1 (-1)) (law14_VoteOnce_J4 k_law14_VoteOnce_L1 l1 i1 r3 s1 now1 given1))
def law14_VoteOnce_L1 (l1 : List Call30) (s1 : Seat) (r1 : Bool) : Nat → Seat → Int → Int → Option Bool
  | 0, _, _, _ => none
  | m_ + 1, now1, given1, i1 => cond (decide (i1 < (l1.length : Int))) ((idx l1 i1).bind fun x1 => (law14_step_f now1 x1).bind fun r3 => law14_VoteOnce_J3 (law14_VoteOnce_L1 l1 s1 r1 m_) now1 r3 l1 i1 s1 given1 ((decide (r3.1.term < now1.term)) || ((r3.1.id != s1.id) || (r3.1.commit != s1.commit)))) (law14_VoteOnce_J2 r1)
def law14_VoteOnce_J1 (r1 : Bool) (l1 : List Call30) (s1 : Seat) (v1 : Bool) : Option Bool :=
  cond v1 (some (r1)) (law14_VoteOnce_L1 l1 s1 r1 BIG s1 s1.voted 0)
def law14_VoteOnce_f (s1 : Seat) (l1 : List Call30) : Option Bool :=
  (law14_head_f).bind fun r1 => (law14_Fits_f s1).bind fun r2 => law14_VoteOnce_J1 r1 l1 s1 ((!r2) || (decide (30 < (l1.length : Int))))
set_option maxHeartbeats 4000000 in
set_option maxRecDepth 20000 in
theorem law14_VoteOnce_pc {s1 : Seat} {l1 : List Call30} {r : Bool} (H : law14_VoteOnce_f s1 l1 = some r) : PC Try.prog 4 [.agg (Seat.c s1), .list 5 (l1.map Call30.c)] (.bool r) := by
  refine pcA_of Try.func4 (by rfl) (by decide) 112 (by rfl) [.tmp 4] (by rfl) ?_
  unfold law14_VoteOnce_f at H
  simp only [ent]
  refine a_seq ?_
  refine a_reg _ rfl (s := ?zs1) ?_ ?_
  rotate_left
  · simp (maxSteps := 2000000) only [EVT, stepR, evOp, St.ev, St.app, St.put, wrs, allOne, datOf, datOf1, TIS, CS, Nat.reduceAdd, Nat.reduceMul, Nat.reduceEqDiff, ↓reduceIte, reduceCtorEq, Nat.reduceLT, Nat.reduceLeDiff]
    (repeat' apply And.intro) <;> first | rfl | assumption | omega | (simp; done) | (simp; omega) | (simp_all; done)
  refine sA_n ?_
  refine a_seq ?_
  obtain ⟨r1, zh1, H⟩ := bind_some H
  have zk1 := law14_head_pc zh1
  refine a_reg _ rfl (s := ?zs2) ?_ ?_
  rotate_left
  · try simp (maxSteps := 2000000) only [EVT, stepR, evOp, St.ev, St.app, St.put, wrs, frz, TIS, CS, Nat.reduceAdd, Nat.reduceMul, Nat.reduceEqDiff, ↓reduceIte, reduceCtorEq, Nat.reduceLT, Nat.reduceLeDiff, Nat.reduceSub, Nat.reduceBEq]
    repeat' with_reducible apply And.intro
    all_goals try ((with_reducible show CallR _ _ _ _ _ _ _); refine cR_s zk1 .nil (.bool _) ?_; simp (maxSteps := 2000000) only [EVT, stepR, evOp, St.ev, St.app, St.put, wrs, frz, TIS, CS, Nat.reduceAdd, Nat.reduceMul, Nat.reduceEqDiff, ↓reduceIte, reduceCtorEq, Nat.reduceLT, Nat.reduceLeDiff, Nat.reduceSub, Nat.reduceBEq])
    all_goals ((repeat' apply And.intro) <;> first | rfl | assumption | omega | (simp; done) | (simp; omega) | (simp_all; done))
  refine sA_n ?_
  refine a_seq ?_
  obtain ⟨r2, zh2, H⟩ := bind_some H
  have zk2 := law14_Fits_pc zh2
  refine a_reg _ rfl (s := ?zs3) ?_ ?_
  rotate_left
  · try simp (maxSteps := 2000000) only [EVT, stepR, evOp, St.ev, St.app, St.put, wrs, evLoad, cut, frz, TIS, CS, Nat.reduceAdd, Nat.reduceMul, Nat.reduceEqDiff, ↓reduceIte, reduceCtorEq, Nat.reduceLT, Nat.reduceLeDiff, Nat.reduceSub, Nat.reduceBEq]
    repeat' with_reducible apply And.intro
    all_goals try ((with_reducible show CallR _ _ _ _ _ _ _); refine cR_s zk2 (.cons (.agg' (.cons (.int' rfl) (.cons (.lst _ _ _ (ci_pu .i64) rfl) (.cons (.int' rfl) (.cons (.int' rfl) (.cons (.int' rfl) (.cons (.lst _ _ _ Entry.pu rfl) (.cons (.int' rfl) (.cons (.lst _ _ _ (ci_pu .i64) rfl) (.cons (.lst _ _ _ (ci_pu .i64) rfl) (.cons (.lst _ _ _ (ci_pu .i64) rfl) .nil))))))))))) .nil) (.bool _) ?_; simp (maxSteps := 2000000) only [EVT, stepR, evOp, St.ev, St.app, St.put, wrs, evLoad, cut, frz, TIS, CS, Nat.reduceAdd, Nat.reduceMul, Nat.reduceEqDiff, ↓reduceIte, reduceCtorEq, Nat.reduceLT, Nat.reduceLeDiff, Nat.reduceSub, Nat.reduceBEq])
    all_goals ((repeat' apply And.intro) <;> first | rfl | assumption | omega | (simp; done) | (simp; omega) | (simp_all; done))
  refine sA_n ?_
  refine a_seq ?_
  refine a_cut (fun s => ∃ (v1 : Bool) (t0 : Nat → Dat), law14_VoteOnce_J1 r1 l1 s1 v1 = some r ∧ s = ⟨tl t0 [(1, .list 5 (l1.map Call30.c)), (2, .ptr 0 0 0 10), (5, .bool r1), (21, .bool v1)], hl [⟨25, 10, false, [[.int .i64 s1.id, .list 1 (s1.peers.map (ci .i64)), .int .i64 s1.term, .int .i64 s1.voted, .int .i64 s1.role, .list 2 (s1.log.map Entry.c), .int .i64 s1.commit, .list 1 (s1.votes.map (ci .i64)), .list 1 (s1.next.map (ci .i64)), .list 1 (s1.match_.map (ci .i64))]]⟩], 1, 112⟩) ?_ ?_
  · refine bool_split (b := (!r2)) (fun zc14 => ?_) (fun zc14 => ?_)
    · rw [zc14] at H
      refine a_reg _ rfl (s := ?zs31) ?_ ?_
      rotate_left
      · simp (maxSteps := 2000000) only [EVT, stepR, evOp, St.ev, St.app, St.put, wrs, evUn, evBuiltin, datOf, datOf1, evBin, binInt, TIS, CS, Nat.reduceAdd, Nat.reduceMul, Nat.reduceEqDiff, ↓reduceIte, reduceCtorEq, Nat.reduceLT, Nat.reduceLeDiff, Array.reduceGetElem?, Nat.reduceSub, Nat.reduceBEq, ↓zc14]
        try simp (maxSteps := 2000000) only [EVT, stepR, evOp, St.ev, St.app, St.put, wrs, evUn, evBuiltin, datOf, datOf1, evBin, binInt, TIS, CS, Nat.reduceAdd, Nat.reduceMul, Nat.reduceEqDiff, ↓reduceIte, reduceCtorEq, Nat.reduceLT, Nat.reduceLeDiff, Array.reduceGetElem?, Nat.reduceSub, Nat.reduceBEq, ↓zc14]
        (repeat' apply And.intro) <;> first | rfl | assumption | omega | (simp; done) | (simp; omega) | (simp_all; done)
      refine cA_n ?_
      refine wk_l [(some 0, ⟨25, 10, false, [[.int .i64 s1.id, .list 1 (s1.peers.map (ci .i64)), .int .i64 s1.term, .int .i64 s1.voted, .int .i64 s1.role, .list 2 (s1.log.map Entry.c), .int .i64 s1.commit, .list 1 (s1.votes.map (ci .i64)), .list 1 (s1.next.map (ci .i64)), .list 1 (s1.match_.map (ci .i64))]]⟩)] [] [(1, .list 5 (l1.map Call30.c)), (2, .ptr 0 0 0 10), (5, .bool r1), (21, .bool true)] (by show ([1, 2, 5, 21] : List Nat).Nodup; decide) (by show ([0] : List Nat).Nodup; decide) ?_ ?_ (fun t0 => ⟨true, t0, H, rfl⟩)
      · exact (allB_some (by rfl) rfl (.cons (.cons (.int' rfl) (.cons (.lst _ _ _ (ci_pu .i64) rfl) (.cons (.int' rfl) (.cons (.int' rfl) (.cons (.int' rfl) (.cons (.lst _ _ _ Entry.pu rfl) (.cons (.int' rfl) (.cons (.lst _ _ _ (ci_pu .i64) rfl) (.cons (.lst _ _ _ (ci_pu .i64) rfl) (.cons (.lst _ _ _ (ci_pu .i64) rfl) .nil)))))))))) .nil) trivial)
      · (simp only [AllT, tl_cons, tl_nil, upd_apply, List.getD_cons_zero, List.getD_cons_succ, Nat.reduceEqDiff, ↓reduceIte, and_true]); exact ⟨(.lst _ _ _ Call30.pu rfl), (.ptr _ _ _ _ _ rfl), (.bool' rfl), (.bool' (by first | rfl | assumption | (simp_all; done)))⟩
    · rw [zc14] at H
      refine a_reg _ rfl (s := ?zs32) ?_ ?_
      rotate_left
      · simp (maxSteps := 2000000) only [EVT, stepR, evOp, St.ev, St.app, St.put, wrs, evUn, evBuiltin, datOf, datOf1, evBin, binInt, TIS, CS, Nat.reduceAdd, Nat.reduceMul, Nat.reduceEqDiff, ↓reduceIte, reduceCtorEq, Nat.reduceLT, Nat.reduceLeDiff, Array.reduceGetElem?, Nat.reduceSub, Nat.reduceBEq, ↓zc14]
        try simp (maxSteps := 2000000) only [EVT, stepR, evOp, St.ev, St.app, St.put, wrs, evUn, evBuiltin, datOf, datOf1, evBin, binInt, TIS, CS, Nat.reduceAdd, Nat.reduceMul, Nat.reduceEqDiff, ↓reduceIte, reduceCtorEq, Nat.reduceLT, Nat.reduceLeDiff, Array.reduceGetElem?, Nat.reduceSub, Nat.reduceBEq, ↓zc14]
        (repeat' apply And.intro) <;> first | rfl | assumption | omega | (simp; done) | (simp; omega) | (simp_all; done)
      refine cA_n ?_
      refine wk_l [(some 0, ⟨25, 10, false, [[.int .i64 s1.id, .list 1 (s1.peers.map (ci .i64)), .int .i64 s1.term, .int .i64 s1.voted, .int .i64 s1.role, .list 2 (s1.log.map Entry.c), .int .i64 s1.commit, .list 1 (s1.votes.map (ci .i64)), .list 1 (s1.next.map (ci .i64)), .list 1 (s1.match_.map (ci .i64))]]⟩)] [] [(1, .list 5 (l1.map Call30.c)), (2, .ptr 0 0 0 10), (5, .bool r1), (21, .bool (decide (30 < (l1.length : Int))))] (by show ([1, 2, 5, 21] : List Nat).Nodup; decide) (by show ([0] : List Nat).Nodup; decide) ?_ ?_ (fun t0 => ⟨(decide (30 < (l1.length : Int))), t0, H, rfl⟩)
      · exact (allB_some (by rfl) rfl (.cons (.cons (.int' rfl) (.cons (.lst _ _ _ (ci_pu .i64) rfl) (.cons (.int' rfl) (.cons (.int' rfl) (.cons (.int' rfl) (.cons (.lst _ _ _ Entry.pu rfl) (.cons (.int' rfl) (.cons (.lst _ _ _ (ci_pu .i64) rfl) (.cons (.lst _ _ _ (ci_pu .i64) rfl) (.cons (.lst _ _ _ (ci_pu .i64) rfl) .nil)))))))))) .nil) trivial)
      · (simp only [AllT, tl_cons, tl_nil, upd_apply, List.getD_cons_zero, List.getD_cons_succ, Nat.reduceEqDiff, ↓reduceIte, and_true]); exact ⟨(.lst _ _ _ Call30.pu rfl), (.ptr _ _ _ _ _ rfl), (.bool' rfl), (.bool' rfl)⟩
  · rintro s ⟨v1, t0, H, rfl⟩
    unfold law14_VoteOnce_J1 at H
    refine a_condb (v1) (by rfl) (fun zc1 => ?_) (fun zc1 => ?_)
    · have H := cond_t zc1 H
      refine a_seq ?_
      refine a_reg _ rfl (s := ?zs4) ?_ ?_
      rotate_left
      · simp (maxSteps := 2000000) only [EVT, stepR, evOp, St.ev, St.app, St.put, wrs, TIS, CS, Nat.reduceAdd, Nat.reduceMul, Nat.reduceEqDiff, ↓reduceIte, reduceCtorEq, Nat.reduceLT, Nat.reduceLeDiff, ↓zc1]
        (repeat' apply And.intro) <;> first | rfl | assumption | omega | (simp; done) | (simp; omega) | (simp_all; done)
      refine sA_n ?_
      refine a_ret ?_
      refine sA_r ?_
      obtain rfl := Option.some.inj H
      refine e_r2 (d := ?zd1) ?_ ?_
      rotate_left
      · simp only [EVT, resR, single, evLoad, cut, TIS, CS, Nat.reduceAdd, Nat.reduceEqDiff, ↓reduceIte, reduceCtorEq, Nat.reduceLT, Nat.reduceLeDiff, Nat.reduceSub, Nat.reduceBEq, zc1]
        (repeat' apply And.intro) <;> first | rfl | assumption | omega | (simp; done)
      exact (.bool' rfl)
    · have H := cond_f zc1 H
      refine a_skip ?_
      refine sA_n ?_
      refine a_seq ?_
      refine a_reg _ rfl (s := ?zs5) ?_ ?_
      rotate_left
      · simp (maxSteps := 2000000) only [EVT, stepR, evOp, St.ev, St.app, St.put, wrs, evLoad, cut, allOne, evStore, setR, TIS, CS, Nat.reduceAdd, Nat.reduceMul, Nat.reduceEqDiff, ↓reduceIte, reduceCtorEq, Nat.reduceLT, Nat.reduceLeDiff, Nat.reduceSub, Nat.reduceBEq, ↓zc1]
        (repeat' apply And.intro) <;> first | rfl | assumption | omega | (simp; done) | (simp; omega) | (simp_all; done)
      refine sA_n ?_
      refine a_seq ?_
      refine a_reg _ rfl (s := ?zs6) ?_ ?_
      rotate_left
      · simp (maxSteps := 2000000) only [EVT, stepR, evOp, St.ev, St.app, St.put, wrs, evFieldAddr, evLoad, cut, TIS, CS, Nat.reduceAdd, Nat.reduceMul, Nat.reduceEqDiff, ↓reduceIte, reduceCtorEq, Nat.reduceLT, Nat.reduceLeDiff, Nat.reduceSub, Nat.reduceBEq, ↓zc1]
        (repeat' apply And.intro) <;> first | rfl | assumption | omega | (simp; done) | (simp; omega) | (simp_all; done)
      refine sA_n ?_
      refine a_cut (fun s => ∃ (t0 : Nat → Dat), law14_VoteOnce_J2 r1 = some r ∧ s = ⟨tl t0 [(5, .bool r1)], hl [], 0, 112⟩) ?_ ?_
      · refine a_seq ?_
        refine a_reg _ rfl (s := ?zs8) ?_ ?_
        rotate_left
        · simp (maxSteps := 2000000) only [EVT, stepR, evOp, St.ev, St.app, St.put, wrs, datOf, datOf1, TIS, CS, Nat.reduceAdd, Nat.reduceMul, Nat.reduceEqDiff, ↓reduceIte, reduceCtorEq, Nat.reduceLT, Nat.reduceLeDiff, ↓zc1]
          (repeat' apply And.intro) <;> first | rfl | assumption | omega | (simp; done) | (simp; omega) | (simp_all; done)
        refine sA_n ?_
        refine a_blk ?_
        refine a_loop (fun m s => ∃ (now1 : Seat) (given1 : Int) (i1 : Int) (t0 : Nat → Dat), law14_VoteOnce_L1 l1 s1 r1 m now1 given1 i1 = some r ∧ s = ⟨tl t0 [(1, .list 5 (l1.map Call30.c)), (2, .ptr 0 0 0 10), (5, .bool r1), (7, .ptr 1 0 0 10), (8, .int .i64 given1), (9, .int .i64 i1)], hl [⟨25, 10, false, [[.int .i64 s1.id, .list 1 (s1.peers.map (ci .i64)), .int .i64 s1.term, .int .i64 s1.voted, .int .i64 s1.role, .list 2 (s1.log.map Entry.c), .int .i64 s1.commit, .list 1 (s1.votes.map (ci .i64)), .list 1 (s1.next.map (ci .i64)), .list 1 (s1.match_.map (ci .i64))]]⟩, ⟨25, 10, false, [[.int .i64 now1.id, .list 1 (now1.peers.map (ci .i64)), .int .i64 now1.term, .int .i64 now1.voted, .int .i64 now1.role, .list 2 (now1.log.map Entry.c), .int .i64 now1.commit, .list 1 (now1.votes.map (ci .i64)), .list 1 (now1.next.map (ci .i64)), .list 1 (now1.match_.map (ci .i64))]]⟩], 2, 112⟩) BIG ?_ ?_
        · refine wk_l [(some 0, ⟨25, 10, false, [[.int .i64 s1.id, .list 1 (s1.peers.map (ci .i64)), .int .i64 s1.term, .int .i64 s1.voted, .int .i64 s1.role, .list 2 (s1.log.map Entry.c), .int .i64 s1.commit, .list 1 (s1.votes.map (ci .i64)), .list 1 (s1.next.map (ci .i64)), .list 1 (s1.match_.map (ci .i64))]]⟩), (some 2, ⟨25, 10, false, [[.int .i64 s1.id, .list 1 (s1.peers.map (ci .i64)), .int .i64 s1.term, .int .i64 s1.voted, .int .i64 s1.role, .list 2 (s1.log.map Entry.c), .int .i64 s1.commit, .list 1 (s1.votes.map (ci .i64)), .list 1 (s1.next.map (ci .i64)), .list 1 (s1.match_.map (ci .i64))]]⟩)] [] [(1, .list 5 (l1.map Call30.c)), (2, .ptr 0 0 0 10), (5, .bool r1), (7, .ptr 1 0 0 10), (8, .int .i64 s1.voted), (9, .int .i64 0)] (by show ([1, 2, 5, 7, 8, 9] : List Nat).Nodup; decide) (by show ([0, 2] : List Nat).Nodup; decide) ?_ ?_ (fun t0 => ⟨s1, s1.voted, 0, t0, H, rfl⟩)
          · exact (allB_some (by rfl) rfl (.cons (.cons (.int' rfl) (.cons (.lst _ _ _ (ci_pu .i64) rfl) (.cons (.int' rfl) (.cons (.int' rfl) (.cons (.int' rfl) (.cons (.lst _ _ _ Entry.pu rfl) (.cons (.int' rfl) (.cons (.lst _ _ _ (ci_pu .i64) rfl) (.cons (.lst _ _ _ (ci_pu .i64) rfl) (.cons (.lst _ _ _ (ci_pu .i64) rfl) .nil)))))))))) .nil) (allB_some (by rfl) rfl (.cons (.cons (.int' rfl) (.cons (.lst _ _ _ (ci_pu .i64) rfl) (.cons (.int' rfl) (.cons (.int' rfl) (.cons (.int' rfl) (.cons (.lst _ _ _ Entry.pu rfl) (.cons (.int' rfl) (.cons (.lst _ _ _ (ci_pu .i64) rfl) (.cons (.lst _ _ _ (ci_pu .i64) rfl) (.cons (.lst _ _ _ (ci_pu .i64) rfl) .nil)))))))))) .nil) trivial))
          · (simp only [AllT, tl_cons, tl_nil, upd_apply, List.getD_cons_zero, List.getD_cons_succ, Nat.reduceEqDiff, ↓reduceIte, and_true]); exact ⟨(.lst _ _ _ Call30.pu rfl), (.ptr _ _ _ _ _ rfl), (.bool' rfl), (.ptr _ _ _ _ _ rfl), (.int' rfl), (.int' rfl)⟩
        · rintro m_law14_VoteOnce_L1 s ⟨now1, given1, i1, t0, H, rfl⟩
          obtain _ | m_law14_VoteOnce_L1 := m_law14_VoteOnce_L1
          · cases (show (none : Option _) = some _ from H)
          · rw [law14_VoteOnce_L1] at H
            refine a_seq ?_
            refine a_seq ?_
            refine a_reg _ rfl (s := ?zs9) ?_ ?_
            rotate_left
            · simp (maxSteps := 2000000) only [EVT, stepR, evOp, St.ev, St.app, St.put, wrs, evBuiltin, evBin, binInt, TIS, CS, Nat.reduceAdd, Nat.reduceMul, Nat.reduceEqDiff, ↓reduceIte, reduceCtorEq, Nat.reduceLT, Nat.reduceLeDiff, Nat.reduceSub, Nat.reduceBEq]
              (repeat' apply And.intro) <;> first | rfl | assumption | omega | (simp; done) | (simp; omega) | (simp_all; done)
            refine sA_n ?_
            refine a_condb ((decide (i1 < (l1.length : Int)))) (by rfl) (fun zc2 => ?_) (fun zc2 => ?_)
            · have H := cond_t zc2 H
              refine a_skip ?_
              refine sA_n ?_
              refine a_seq ?_
              refine a_blk ?_
              refine a_seq ?_
              obtain ⟨x1, zh3, H⟩ := bind_some H
              have zg1 := idx_map zh3 Call30.c
              obtain ⟨zh3a, zh3b, _⟩ := idx_some zh3
              obtain ⟨r3, zh4, H⟩ := bind_some H
              have zk3 := law14_step_pc zh4
              refine a_drW (by kernel_rfl) _ rfl (s := ?zs10) (by kernel_rfl) (by kernel_rfl) ?zs10f ?_ ?_ ?_
              rotate_left 2
              · try simp (maxSteps := 2000000) only [EVT, stepW, evOp, St.ev, St.app, St.put, wrs, evLoad, cut, evIndexAddr, frz, allOne, evStore, setR, TIS, CS, Nat.reduceAdd, Nat.reduceMul, Nat.reduceEqDiff, ↓reduceIte, reduceCtorEq, Nat.reduceLT, Nat.reduceLeDiff, Int.reduceToNat, Nat.reduceSub, Nat.reduceBEq, ↓zc2, zg1]
                repeat' with_reducible apply And.intro
                all_goals try ((with_reducible show CallW _ _ _ _ _ _ _); refine cW_p [] zk3 (fun h2 e => (.cons (.agg' (.cons (.int' rfl) (.cons (.lst _ _ _ (ci_pu .i64) rfl) (.cons (.int' rfl) (.cons (.int' rfl) (.cons (.int' rfl) (.cons (.lst _ _ _ Entry.pu rfl) (.cons (.int' rfl) (.cons (.lst _ _ _ (ci_pu .i64) rfl) (.cons (.lst _ _ _ (ci_pu .i64) rfl) (.cons (.lst _ _ _ (ci_pu .i64) rfl) .nil))))))))))) (.cons (.agg' (.cons (.int' rfl) (.cons (.int' rfl) (.cons (.int' rfl) (.cons (.int' rfl) (.cons (.int' rfl) .nil)))))) .nil))) ?_; simp (maxSteps := 2000000) only [EVT, stepW, evOp, St.ev, St.app, St.put, wrs, evLoad, cut, evIndexAddr, frz, allOne, evStore, setR, TIS, CS, Nat.reduceAdd, Nat.reduceMul, Nat.reduceEqDiff, ↓reduceIte, reduceCtorEq, Nat.reduceLT, Nat.reduceLeDiff, Int.reduceToNat, Nat.reduceSub, Nat.reduceBEq, ↓zc2, zg1])
                all_goals ((repeat' apply And.intro) <;> first | rfl | assumption | omega | (simp; done) | (simp; omega) | (simp_all; done))
              · kernel_rfl
              refine sA_n ?_
              refine a_seq ?_
              refine a_cut (fun s => ∃ (v2 : Bool) (t0 : Nat → Dat), law14_VoteOnce_J3 (law14_VoteOnce_L1 l1 s1 r1 m_law14_VoteOnce_L1) now1 r3 l1 i1 s1 given1 v2 = some r ∧ s = ⟨tl t0 [(1, .list 5 (l1.map Call30.c)), (2, .ptr 0 0 0 10), (5, .bool r1), (7, .ptr 1 0 0 10), (8, .int .i64 given1), (9, .int .i64 i1), (10, .ptr 2 0 0 10), (11, .bool r3.2), (59, .bool v2)], hl [⟨25, 10, false, [[.int .i64 s1.id, .list 1 (s1.peers.map (ci .i64)), .int .i64 s1.term, .int .i64 s1.voted, .int .i64 s1.role, .list 2 (s1.log.map Entry.c), .int .i64 s1.commit, .list 1 (s1.votes.map (ci .i64)), .list 1 (s1.next.map (ci .i64)), .list 1 (s1.match_.map (ci .i64))]]⟩, ⟨25, 10, false, [[.int .i64 now1.id, .list 1 (now1.peers.map (ci .i64)), .int .i64 now1.term, .int .i64 now1.voted, .int .i64 now1.role, .list 2 (now1.log.map Entry.c), .int .i64 now1.commit, .list 1 (now1.votes.map (ci .i64)), .list 1 (now1.next.map (ci .i64)), .list 1 (now1.match_.map (ci .i64))]]⟩, ⟨25, 10, false, [[.int .i64 r3.1.id, .list 1 (r3.1.peers.map (ci .i64)), .int .i64 r3.1.term, .int .i64 r3.1.voted, .int .i64 r3.1.role, .list 2 (r3.1.log.map Entry.c), .int .i64 r3.1.commit, .list 1 (r3.1.votes.map (ci .i64)), .list 1 (r3.1.next.map (ci .i64)), .list 1 (r3.1.match_.map (ci .i64))]]⟩], 3, 112⟩) ?_ ?_
              · refine bool_split (b := (decide (r3.1.term < now1.term))) (fun zc12 => ?_) (fun zc12 => ?_)
                · rw [zc12] at H
                  refine a_reg _ rfl (s := ?zs28) ?_ ?_
                  rotate_left
                  · simp (maxSteps := 2000000) only [EVT, stepR, evOp, St.ev, St.app, St.put, wrs, evFieldAddr, evLoad, cut, evBin, binInt, datOf, datOf1, TIS, CS, Nat.reduceAdd, Nat.reduceMul, Nat.reduceEqDiff, ↓reduceIte, reduceCtorEq, Nat.reduceLT, Nat.reduceLeDiff, Array.reduceGetElem?, Nat.reduceSub, Nat.reduceBEq, ↓zc2, zg1, ↓zc12]
                    try simp (maxSteps := 2000000) only [EVT, stepR, evOp, St.ev, St.app, St.put, wrs, evFieldAddr, evLoad, cut, evBin, binInt, datOf, datOf1, TIS, CS, Nat.reduceAdd, Nat.reduceMul, Nat.reduceEqDiff, ↓reduceIte, reduceCtorEq, Nat.reduceLT, Nat.reduceLeDiff, Array.reduceGetElem?, Nat.reduceSub, Nat.reduceBEq, ↓zc2, zg1, ↓zc12]
                    (repeat' apply And.intro) <;> first | rfl | assumption | omega | (simp; done) | (simp; omega) | (simp_all; done)
                  refine cA_n ?_
                  refine wk_l [(some 0, ⟨25, 10, false, [[.int .i64 s1.id, .list 1 (s1.peers.map (ci .i64)), .int .i64 s1.term, .int .i64 s1.voted, .int .i64 s1.role, .list 2 (s1.log.map Entry.c), .int .i64 s1.commit, .list 1 (s1.votes.map (ci .i64)), .list 1 (s1.next.map (ci .i64)), .list 1 (s1.match_.map (ci .i64))]]⟩), (some 1, ⟨25, 10, false, [[.int .i64 now1.id, .list 1 (now1.peers.map (ci .i64)), .int .i64 now1.term, .int .i64 now1.voted, .int .i64 now1.role, .list 2 (now1.log.map Entry.c), .int .i64 now1.commit, .list 1 (now1.votes.map (ci .i64)), .list 1 (now1.next.map (ci .i64)), .list 1 (now1.match_.map (ci .i64))]]⟩), (some 43, ⟨25, 10, false, [[.int .i64 r3.1.id, .list 1 (r3.1.peers.map (ci .i64)), .int .i64 r3.1.term, .int .i64 r3.1.voted, .int .i64 r3.1.role, .list 2 (r3.1.log.map Entry.c), .int .i64 r3.1.commit, .list 1 (r3.1.votes.map (ci .i64)), .list 1 (r3.1.next.map (ci .i64)), .list 1 (r3.1.match_.map (ci .i64))]]⟩)] [] [(1, .list 5 (l1.map Call30.c)), (2, .ptr 0 0 0 10), (5, .bool r1), (7, .ptr 1 0 0 10), (8, .int .i64 given1), (9, .int .i64 i1), (10, .ptr 2 0 0 10), (11, .bool r3.2), (59, .bool true)] (by show ([1, 2, 5, 7, 8, 9, 10, 11, 59] : List Nat).Nodup; decide) (by show ([0, 1, 43] : List Nat).Nodup; decide) ?_ ?_ (fun t0 => ⟨true, t0, H, rfl⟩)
                  · exact (allB_some (by rfl) rfl (.cons (.cons (.int' rfl) (.cons (.lst _ _ _ (ci_pu .i64) rfl) (.cons (.int' rfl) (.cons (.int' rfl) (.cons (.int' rfl) (.cons (.lst _ _ _ Entry.pu rfl) (.cons (.int' rfl) (.cons (.lst _ _ _ (ci_pu .i64) rfl) (.cons (.lst _ _ _ (ci_pu .i64) rfl) (.cons (.lst _ _ _ (ci_pu .i64) rfl) .nil)))))))))) .nil) (allB_some (by rfl) rfl (.cons (.cons (.int' rfl) (.cons (.lst _ _ _ (ci_pu .i64) rfl) (.cons (.int' rfl) (.cons (.int' rfl) (.cons (.int' rfl) (.cons (.lst _ _ _ Entry.pu rfl) (.cons (.int' rfl) (.cons (.lst _ _ _ (ci_pu .i64) rfl) (.cons (.lst _ _ _ (ci_pu .i64) rfl) (.cons (.lst _ _ _ (ci_pu .i64) rfl) .nil)))))))))) .nil) (allB_some (by rfl) rfl (.cons (.cons (.int' rfl) (.cons (.lst _ _ _ (ci_pu .i64) rfl) (.cons (.int' rfl) (.cons (.int' rfl) (.cons (.int' rfl) (.cons (.lst _ _ _ Entry.pu rfl) (.cons (.int' rfl) (.cons (.lst _ _ _ (ci_pu .i64) rfl) (.cons (.lst _ _ _ (ci_pu .i64) rfl) (.cons (.lst _ _ _ (ci_pu .i64) rfl) .nil)))))))))) .nil) trivial)))
                  · (simp only [AllT, tl_cons, tl_nil, upd_apply, List.getD_cons_zero, List.getD_cons_succ, Nat.reduceEqDiff, ↓reduceIte, and_true]); exact ⟨(.lst _ _ _ Call30.pu rfl), (.ptr _ _ _ _ _ rfl), (.bool' rfl), (.ptr _ _ _ _ _ rfl), (.int' rfl), (.int' rfl), (.ptr _ _ _ _ _ rfl), (.bool' rfl), (.bool' (by first | rfl | assumption | (simp_all; done)))⟩
                · rw [zc12] at H
                  refine bool_split (b := (r3.1.id != s1.id)) (fun zc13 => ?_) (fun zc13 => ?_)
                  · rw [zc13] at H
                    refine a_reg _ rfl (s := ?zs29) ?_ ?_
                    rotate_left
                    · simp (maxSteps := 2000000) only [EVT, stepR, evOp, St.ev, St.app, St.put, wrs, evFieldAddr, evLoad, cut, evBin, binInt, datOf, datOf1, TIS, CS, Nat.reduceAdd, Nat.reduceMul, Nat.reduceEqDiff, ↓reduceIte, reduceCtorEq, Nat.reduceLT, Nat.reduceLeDiff, Array.reduceGetElem?, Nat.reduceSub, Nat.reduceBEq, ↓zc2, zg1, ↓zc12, ↓zc13]
                      try simp (maxSteps := 2000000) only [EVT, stepR, evOp, St.ev, St.app, St.put, wrs, evFieldAddr, evLoad, cut, evBin, binInt, datOf, datOf1, TIS, CS, Nat.reduceAdd, Nat.reduceMul, Nat.reduceEqDiff, ↓reduceIte, reduceCtorEq, Nat.reduceLT, Nat.reduceLeDiff, Array.reduceGetElem?, Nat.reduceSub, Nat.reduceBEq, ↓zc2, zg1, ↓zc12, ↓zc13]
                      (repeat' apply And.intro) <;> first | rfl | assumption | omega | (simp; done) | (simp; omega) | (simp_all; done)
                    refine cA_n ?_
                    refine wk_l [(some 0, ⟨25, 10, false, [[.int .i64 s1.id, .list 1 (s1.peers.map (ci .i64)), .int .i64 s1.term, .int .i64 s1.voted, .int .i64 s1.role, .list 2 (s1.log.map Entry.c), .int .i64 s1.commit, .list 1 (s1.votes.map (ci .i64)), .list 1 (s1.next.map (ci .i64)), .list 1 (s1.match_.map (ci .i64))]]⟩), (some 1, ⟨25, 10, false, [[.int .i64 now1.id, .list 1 (now1.peers.map (ci .i64)), .int .i64 now1.term, .int .i64 now1.voted, .int .i64 now1.role, .list 2 (now1.log.map Entry.c), .int .i64 now1.commit, .list 1 (now1.votes.map (ci .i64)), .list 1 (now1.next.map (ci .i64)), .list 1 (now1.match_.map (ci .i64))]]⟩), (some 43, ⟨25, 10, false, [[.int .i64 r3.1.id, .list 1 (r3.1.peers.map (ci .i64)), .int .i64 r3.1.term, .int .i64 r3.1.voted, .int .i64 r3.1.role, .list 2 (r3.1.log.map Entry.c), .int .i64 r3.1.commit, .list 1 (r3.1.votes.map (ci .i64)), .list 1 (r3.1.next.map (ci .i64)), .list 1 (r3.1.match_.map (ci .i64))]]⟩)] [] [(1, .list 5 (l1.map Call30.c)), (2, .ptr 0 0 0 10), (5, .bool r1), (7, .ptr 1 0 0 10), (8, .int .i64 given1), (9, .int .i64 i1), (10, .ptr 2 0 0 10), (11, .bool r3.2), (59, .bool true)] (by show ([1, 2, 5, 7, 8, 9, 10, 11, 59] : List Nat).Nodup; decide) (by show ([0, 1, 43] : List Nat).Nodup; decide) ?_ ?_ (fun t0 => ⟨true, t0, H, rfl⟩)
                    · exact (allB_some (by rfl) rfl (.cons (.cons (.int' rfl) (.cons (.lst _ _ _ (ci_pu .i64) rfl) (.cons (.int' rfl) (.cons (.int' rfl) (.cons (.int' rfl) (.cons (.lst _ _ _ Entry.pu rfl) (.cons (.int' rfl) (.cons (.lst _ _ _ (ci_pu .i64) rfl) (.cons (.lst _ _ _ (ci_pu .i64) rfl) (.cons (.lst _ _ _ (ci_pu .i64) rfl) .nil)))))))))) .nil) (allB_some (by rfl) rfl (.cons (.cons (.int' rfl) (.cons (.lst _ _ _ (ci_pu .i64) rfl) (.cons (.int' rfl) (.cons (.int' rfl) (.cons (.int' rfl) (.cons (.lst _ _ _ Entry.pu rfl) (.cons (.int' rfl) (.cons (.lst _ _ _ (ci_pu .i64) rfl) (.cons (.lst _ _ _ (ci_pu .i64) rfl) (.cons (.lst _ _ _ (ci_pu .i64) rfl) .nil)))))))))) .nil) (allB_some (by rfl) rfl (.cons (.cons (.int' rfl) (.cons (.lst _ _ _ (ci_pu .i64) rfl) (.cons (.int' rfl) (.cons (.int' rfl) (.cons (.int' rfl) (.cons (.lst _ _ _ Entry.pu rfl) (.cons (.int' rfl) (.cons (.lst _ _ _ (ci_pu .i64) rfl) (.cons (.lst _ _ _ (ci_pu .i64) rfl) (.cons (.lst _ _ _ (ci_pu .i64) rfl) .nil)))))))))) .nil) trivial)))
                    · (simp only [AllT, tl_cons, tl_nil, upd_apply, List.getD_cons_zero, List.getD_cons_succ, Nat.reduceEqDiff, ↓reduceIte, and_true]); exact ⟨(.lst _ _ _ Call30.pu rfl), (.ptr _ _ _ _ _ rfl), (.bool' rfl), (.ptr _ _ _ _ _ rfl), (.int' rfl), (.int' rfl), (.ptr _ _ _ _ _ rfl), (.bool' rfl), (.bool' (by first | rfl | assumption | (simp_all; done)))⟩
                  · rw [zc13] at H
                    refine a_reg _ rfl (s := ?zs30) ?_ ?_
                    rotate_left
                    · simp (maxSteps := 2000000) only [EVT, stepR, evOp, St.ev, St.app, St.put, wrs, evFieldAddr, evLoad, cut, evBin, binInt, datOf, datOf1, TIS, CS, Nat.reduceAdd, Nat.reduceMul, Nat.reduceEqDiff, ↓reduceIte, reduceCtorEq, Nat.reduceLT, Nat.reduceLeDiff, Array.reduceGetElem?, Nat.reduceSub, Nat.reduceBEq, ↓zc2, zg1, ↓zc12, ↓zc13]
                      try simp (maxSteps := 2000000) only [EVT, stepR, evOp, St.ev, St.app, St.put, wrs, evFieldAddr, evLoad, cut, evBin, binInt, datOf, datOf1, TIS, CS, Nat.reduceAdd, Nat.reduceMul, Nat.reduceEqDiff, ↓reduceIte, reduceCtorEq, Nat.reduceLT, Nat.reduceLeDiff, Array.reduceGetElem?, Nat.reduceSub, Nat.reduceBEq, ↓zc2, zg1, ↓zc12, ↓zc13]
                      (repeat' apply And.intro) <;> first | rfl | assumption | omega | (simp; done) | (simp; omega) | (simp_all; done)
                    refine cA_n ?_
                    refine wk_l [(some 0, ⟨25, 10, false, [[.int .i64 s1.id, .list 1 (s1.peers.map (ci .i64)), .int .i64 s1.term, .int .i64 s1.voted, .int .i64 s1.role, .list 2 (s1.log.map Entry.c), .int .i64 s1.commit, .list 1 (s1.votes.map (ci .i64)), .list 1 (s1.next.map (ci .i64)), .list 1 (s1.match_.map (ci .i64))]]⟩), (some 1, ⟨25, 10, false, [[.int .i64 now1.id, .list 1 (now1.peers.map (ci .i64)), .int .i64 now1.term, .int .i64 now1.voted, .int .i64 now1.role, .list 2 (now1.log.map Entry.c), .int .i64 now1.commit, .list 1 (now1.votes.map (ci .i64)), .list 1 (now1.next.map (ci .i64)), .list 1 (now1.match_.map (ci .i64))]]⟩), (some 43, ⟨25, 10, false, [[.int .i64 r3.1.id, .list 1 (r3.1.peers.map (ci .i64)), .int .i64 r3.1.term, .int .i64 r3.1.voted, .int .i64 r3.1.role, .list 2 (r3.1.log.map Entry.c), .int .i64 r3.1.commit, .list 1 (r3.1.votes.map (ci .i64)), .list 1 (r3.1.next.map (ci .i64)), .list 1 (r3.1.match_.map (ci .i64))]]⟩)] [] [(1, .list 5 (l1.map Call30.c)), (2, .ptr 0 0 0 10), (5, .bool r1), (7, .ptr 1 0 0 10), (8, .int .i64 given1), (9, .int .i64 i1), (10, .ptr 2 0 0 10), (11, .bool r3.2), (59, .bool (r3.1.commit != s1.commit))] (by show ([1, 2, 5, 7, 8, 9, 10, 11, 59] : List Nat).Nodup; decide) (by show ([0, 1, 43] : List Nat).Nodup; decide) ?_ ?_ (fun t0 => ⟨(r3.1.commit != s1.commit), t0, H, rfl⟩)
                    · exact (allB_some (by rfl) rfl (.cons (.cons (.int' rfl) (.cons (.lst _ _ _ (ci_pu .i64) rfl) (.cons (.int' rfl) (.cons (.int' rfl) (.cons (.int' rfl) (.cons (.lst _ _ _ Entry.pu rfl) (.cons (.int' rfl) (.cons (.lst _ _ _ (ci_pu .i64) rfl) (.cons (.lst _ _ _ (ci_pu .i64) rfl) (.cons (.lst _ _ _ (ci_pu .i64) rfl) .nil)))))))))) .nil) (allB_some (by rfl) rfl (.cons (.cons (.int' rfl) (.cons (.lst _ _ _ (ci_pu .i64) rfl) (.cons (.int' rfl) (.cons (.int' rfl) (.cons (.int' rfl) (.cons (.lst _ _ _ Entry.pu rfl) (.cons (.int' rfl) (.cons (.lst _ _ _ (ci_pu .i64) rfl) (.cons (.lst _ _ _ (ci_pu .i64) rfl) (.cons (.lst _ _ _ (ci_pu .i64) rfl) .nil)))))))))) .nil) (allB_some (by rfl) rfl (.cons (.cons (.int' rfl) (.cons (.lst _ _ _ (ci_pu .i64) rfl) (.cons (.int' rfl) (.cons (.int' rfl) (.cons (.int' rfl) (.cons (.lst _ _ _ Entry.pu rfl) (.cons (.int' rfl) (.cons (.lst _ _ _ (ci_pu .i64) rfl) (.cons (.lst _ _ _ (ci_pu .i64) rfl) (.cons (.lst _ _ _ (ci_pu .i64) rfl) .nil)))))))))) .nil) trivial)))
                    · (simp only [AllT, tl_cons, tl_nil, upd_apply, List.getD_cons_zero, List.getD_cons_succ, Nat.reduceEqDiff, ↓reduceIte, and_true]); exact ⟨(.lst _ _ _ Call30.pu rfl), (.ptr _ _ _ _ _ rfl), (.bool' rfl), (.ptr _ _ _ _ _ rfl), (.int' rfl), (.int' rfl), (.ptr _ _ _ _ _ rfl), (.bool' rfl), (.bool' rfl)⟩
              · rintro s ⟨v2, t0, H, rfl⟩
                unfold law14_VoteOnce_J3 at H
                refine a_condb (v2) (by rfl) (fun zc3 => ?_) (fun zc3 => ?_)
                · have H := cond_t zc3 H
                  refine a_seq ?_
                  refine a_reg _ rfl (s := ?zs11) ?_ ?_
                  rotate_left
                  · simp (maxSteps := 2000000) only [EVT, stepR, evOp, St.ev, St.app, St.put, wrs, datOf, datOf1, TIS, CS, Nat.reduceAdd, Nat.reduceMul, Nat.reduceEqDiff, ↓reduceIte, reduceCtorEq, Nat.reduceLT, Nat.reduceLeDiff, ↓zc3]
                    (repeat' apply And.intro) <;> first | rfl | assumption | omega | (simp; done) | (simp; omega) | (simp_all; done)
                  refine sA_n ?_
                  refine a_ret ?_
                  refine sA_r ?_
                  refine bA_r ?_
                  refine sA_r ?_
                  refine lA_r ?_
                  refine bA_r ?_
                  refine cA_r ?_
                  obtain rfl := Option.some.inj H
                  refine e_r2 (d := ?zd3) ?_ ?_
                  rotate_left
                  · simp only [EVT, resR, single, evLoad, cut, TIS, CS, Nat.reduceAdd, Nat.reduceEqDiff, ↓reduceIte, reduceCtorEq, Nat.reduceLT, Nat.reduceLeDiff, Nat.reduceSub, Nat.reduceBEq, zc3]
                    (repeat' apply And.intro) <;> first | rfl | assumption | omega | (simp; done)
                  exact (.bool' (by first | rfl | assumption | (simp_all; done)))
                · have H := cond_f zc3 H
                  refine a_skip ?_
                  refine sA_n ?_
                  refine a_cut (fun s => ∃ (given2 : Int) (t0 : Nat → Dat), law14_VoteOnce_J4 (law14_VoteOnce_L1 l1 s1 r1 m_law14_VoteOnce_L1) l1 i1 r3 s1 now1 given2 = some r ∧ s = ⟨tl t0 [(1, .list 5 (l1.map Call30.c)), (2, .ptr 0 0 0 10), (5, .bool r1), (7, .ptr 1 0 0 10), (8, .int .i64 given2), (9, .int .i64 i1), (10, .ptr 2 0 0 10), (11, .bool r3.2)], hl [⟨25, 10, false, [[.int .i64 s1.id, .list 1 (s1.peers.map (ci .i64)), .int .i64 s1.term, .int .i64 s1.voted, .int .i64 s1.role, .list 2 (s1.log.map Entry.c), .int .i64 s1.commit, .list 1 (s1.votes.map (ci .i64)), .list 1 (s1.next.map (ci .i64)), .list 1 (s1.match_.map (ci .i64))]]⟩, ⟨25, 10, false, [[.int .i64 now1.id, .list 1 (now1.peers.map (ci .i64)), .int .i64 now1.term, .int .i64 now1.voted, .int .i64 now1.role, .list 2 (now1.log.map Entry.c), .int .i64 now1.commit, .list 1 (now1.votes.map (ci .i64)), .list 1 (now1.next.map (ci .i64)), .list 1 (now1.match_.map (ci .i64))]]⟩, ⟨25, 10, false, [[.int .i64 r3.1.id, .list 1 (r3.1.peers.map (ci .i64)), .int .i64 r3.1.term, .int .i64 r3.1.voted, .int .i64 r3.1.role, .list 2 (r3.1.log.map Entry.c), .int .i64 r3.1.commit, .list 1 (r3.1.votes.map (ci .i64)), .list 1 (r3.1.next.map (ci .i64)), .list 1 (r3.1.match_.map (ci .i64))]]⟩], 3, 112⟩) ?_ ?_
                  · refine a_seq ?_
                    refine a_reg _ rfl (s := ?zs26) ?_ ?_
                    rotate_left
                    · simp (maxSteps := 2000000) only [EVT, stepR, evOp, St.ev, St.app, St.put, wrs, evFieldAddr, evLoad, cut, evBin, binInt, TIS, CS, Nat.reduceAdd, Nat.reduceMul, Nat.reduceEqDiff, ↓reduceIte, reduceCtorEq, Nat.reduceLT, Nat.reduceLeDiff, Nat.reduceSub, Nat.reduceBEq, ↓zc3]
                      (repeat' apply And.intro) <;> first | rfl | assumption | omega | (simp; done) | (simp; omega) | (simp_all; done)
                    refine sA_n ?_
                    refine a_condb ((decide (now1.term < r3.1.term))) (by rfl) (fun zc11 => ?_) (fun zc11 => ?_)
                    · have H := cond_t zc11 H
                      refine a_reg _ rfl (s := ?zs27) ?_ ?_
                      rotate_left
                      · simp (maxSteps := 2000000) only [EVT, stepR, evOp, St.ev, St.app, St.put, wrs, datOf, datOf1, TIS, CS, Nat.reduceAdd, Nat.reduceMul, Nat.reduceEqDiff, ↓reduceIte, reduceCtorEq, Nat.reduceLT, Nat.reduceLeDiff, ↓zc3, ↓zc11]
                        (repeat' apply And.intro) <;> first | rfl | assumption | omega | (simp; done) | (simp; omega) | (simp_all; done)
                      refine cA_n ?_
                      refine wk_l [(some 0, ⟨25, 10, false, [[.int .i64 s1.id, .list 1 (s1.peers.map (ci .i64)), .int .i64 s1.term, .int .i64 s1.voted, .int .i64 s1.role, .list 2 (s1.log.map Entry.c), .int .i64 s1.commit, .list 1 (s1.votes.map (ci .i64)), .list 1 (s1.next.map (ci .i64)), .list 1 (s1.match_.map (ci .i64))]]⟩), (some 1, ⟨25, 10, false, [[.int .i64 now1.id, .list 1 (now1.peers.map (ci .i64)), .int .i64 now1.term, .int .i64 now1.voted, .int .i64 now1.role, .list 2 (now1.log.map Entry.c), .int .i64 now1.commit, .list 1 (now1.votes.map (ci .i64)), .list 1 (now1.next.map (ci .i64)), .list 1 (now1.match_.map (ci .i64))]]⟩), (some 2, ⟨25, 10, false, [[.int .i64 r3.1.id, .list 1 (r3.1.peers.map (ci .i64)), .int .i64 r3.1.term, .int .i64 r3.1.voted, .int .i64 r3.1.role, .list 2 (r3.1.log.map Entry.c), .int .i64 r3.1.commit, .list 1 (r3.1.votes.map (ci .i64)), .list 1 (r3.1.next.map (ci .i64)), .list 1 (r3.1.match_.map (ci .i64))]]⟩)] [] [(1, .list 5 (l1.map Call30.c)), (2, .ptr 0 0 0 10), (5, .bool r1), (7, .ptr 1 0 0 10), (8, .int .i64 (-1)), (9, .int .i64 i1), (10, .ptr 2 0 0 10), (11, .bool r3.2)] (by show ([1, 2, 5, 7, 8, 9, 10, 11] : List Nat).Nodup; decide) (by show ([0, 1, 2] : List Nat).Nodup; decide) ?_ ?_ (fun t0 => ⟨(-1), t0, H, rfl⟩)
                      · exact (allB_some (by rfl) rfl (.cons (.cons (.int' rfl) (.cons (.lst _ _ _ (ci_pu .i64) rfl) (.cons (.int' rfl) (.cons (.int' rfl) (.cons (.int' rfl) (.cons (.lst _ _ _ Entry.pu rfl) (.cons (.int' rfl) (.cons (.lst _ _ _ (ci_pu .i64) rfl) (.cons (.lst _ _ _ (ci_pu .i64) rfl) (.cons (.lst _ _ _ (ci_pu .i64) rfl) .nil)))))))))) .nil) (allB_some (by rfl) rfl (.cons (.cons (.int' rfl) (.cons (.lst _ _ _ (ci_pu .i64) rfl) (.cons (.int' rfl) (.cons (.int' rfl) (.cons (.int' rfl) (.cons (.lst _ _ _ Entry.pu rfl) (.cons (.int' rfl) (.cons (.lst _ _ _ (ci_pu .i64) rfl) (.cons (.lst _ _ _ (ci_pu .i64) rfl) (.cons (.lst _ _ _ (ci_pu .i64) rfl) .nil)))))))))) .nil) (allB_some (by rfl) rfl (.cons (.cons (.int' rfl) (.cons (.lst _ _ _ (ci_pu .i64) rfl) (.cons (.int' rfl) (.cons (.int' rfl) (.cons (.int' rfl) (.cons (.lst _ _ _ Entry.pu rfl) (.cons (.int' rfl) (.cons (.lst _ _ _ (ci_pu .i64) rfl) (.cons (.lst _ _ _ (ci_pu .i64) rfl) (.cons (.lst _ _ _ (ci_pu .i64) rfl) .nil)))))))))) .nil) trivial)))
                      · (simp only [AllT, tl_cons, tl_nil, upd_apply, List.getD_cons_zero, List.getD_cons_succ, Nat.reduceEqDiff, ↓reduceIte, and_true]); exact ⟨(.lst _ _ _ Call30.pu rfl), (.ptr _ _ _ _ _ rfl), (.bool' rfl), (.ptr _ _ _ _ _ rfl), (.int' rfl), (.int' rfl), (.ptr _ _ _ _ _ rfl), (.bool' rfl)⟩
                    · have H := cond_f zc11 H
                      refine a_skip ?_
                      refine cA_n ?_
                      refine wk_l [(some 0, ⟨25, 10, false, [[.int .i64 s1.id, .list 1 (s1.peers.map (ci .i64)), .int .i64 s1.term, .int .i64 s1.voted, .int .i64 s1.role, .list 2 (s1.log.map Entry.c), .int .i64 s1.commit, .list 1 (s1.votes.map (ci .i64)), .list 1 (s1.next.map (ci .i64)), .list 1 (s1.match_.map (ci .i64))]]⟩), (some 1, ⟨25, 10, false, [[.int .i64 now1.id, .list 1 (now1.peers.map (ci .i64)), .int .i64 now1.term, .int .i64 now1.voted, .int .i64 now1.role, .list 2 (now1.log.map Entry.c), .int .i64 now1.commit, .list 1 (now1.votes.map (ci .i64)), .list 1 (now1.next.map (ci .i64)), .list 1 (now1.match_.map (ci .i64))]]⟩), (some 2, ⟨25, 10, false, [[.int .i64 r3.1.id, .list 1 (r3.1.peers.map (ci .i64)), .int .i64 r3.1.term, .int .i64 r3.1.voted, .int .i64 r3.1.role, .list 2 (r3.1.log.map Entry.c), .int .i64 r3.1.commit, .list 1 (r3.1.votes.map (ci .i64)), .list 1 (r3.1.next.map (ci .i64)), .list 1 (r3.1.match_.map (ci .i64))]]⟩)] [] [(1, .list 5 (l1.map Call30.c)), (2, .ptr 0 0 0 10), (5, .bool r1), (7, .ptr 1 0 0 10), (8, .int .i64 given1), (9, .int .i64 i1), (10, .ptr 2 0 0 10), (11, .bool r3.2)] (by show ([1, 2, 5, 7, 8, 9, 10, 11] : List Nat).Nodup; decide) (by show ([0, 1, 2] : List Nat).Nodup; decide) ?_ ?_ (fun t0 => ⟨given1, t0, H, rfl⟩)
                      · exact (allB_some (by rfl) rfl (.cons (.cons (.int' rfl) (.cons (.lst _ _ _ (ci_pu .i64) rfl) (.cons (.int' rfl) (.cons (.int' rfl) (.cons (.int' rfl) (.cons (.lst _ _ _ Entry.pu rfl) (.cons (.int' rfl) (.cons (.lst _ _ _ (ci_pu .i64) rfl) (.cons (.lst _ _ _ (ci_pu .i64) rfl) (.cons (.lst _ _ _ (ci_pu .i64) rfl) .nil)))))))))) .nil) (allB_some (by rfl) rfl (.cons (.cons (.int' rfl) (.cons (.lst _ _ _ (ci_pu .i64) rfl) (.cons (.int' rfl) (.cons (.int' rfl) (.cons (.int' rfl) (.cons (.lst _ _ _ Entry.pu rfl) (.cons (.int' rfl) (.cons (.lst _ _ _ (ci_pu .i64) rfl) (.cons (.lst _ _ _ (ci_pu .i64) rfl) (.cons (.lst _ _ _ (ci_pu .i64) rfl) .nil)))))))))) .nil) (allB_some (by rfl) rfl (.cons (.cons (.int' rfl) (.cons (.lst _ _ _ (ci_pu .i64) rfl) (.cons (.int' rfl) (.cons (.int' rfl) (.cons (.int' rfl) (.cons (.lst _ _ _ Entry.pu rfl) (.cons (.int' rfl) (.cons (.lst _ _ _ (ci_pu .i64) rfl) (.cons (.lst _ _ _ (ci_pu .i64) rfl) (.cons (.lst _ _ _ (ci_pu .i64) rfl) .nil)))))))))) .nil) trivial)))
                      · (simp only [AllT, tl_cons, tl_nil, upd_apply, List.getD_cons_zero, List.getD_cons_succ, Nat.reduceEqDiff, ↓reduceIte, and_true]); exact ⟨(.lst _ _ _ Call30.pu rfl), (.ptr _ _ _ _ _ rfl), (.bool' rfl), (.ptr _ _ _ _ _ rfl), (.int' rfl), (.int' rfl), (.ptr _ _ _ _ _ rfl), (.bool' rfl)⟩
                  · rintro s ⟨given2, t0, H, rfl⟩
                    unfold law14_VoteOnce_J4 at H
                    refine a_cut (fun s => ∃ (given3 : Int) (t0 : Nat → Dat), law14_VoteOnce_J5 (law14_VoteOnce_L1 l1 s1 r1 m_law14_VoteOnce_L1) r3 l1 i1 given3 = some r ∧ s = ⟨tl t0 [(1, .list 5 (l1.map Call30.c)), (2, .ptr 0 0 0 10), (5, .bool r1), (7, .ptr 1 0 0 10), (8, .int .i64 given3), (9, .int .i64 i1), (10, .ptr 2 0 0 10), (11, .bool r3.2)], hl [⟨25, 10, false, [[.int .i64 s1.id, .list 1 (s1.peers.map (ci .i64)), .int .i64 s1.term, .int .i64 s1.voted, .int .i64 s1.role, .list 2 (s1.log.map Entry.c), .int .i64 s1.commit, .list 1 (s1.votes.map (ci .i64)), .list 1 (s1.next.map (ci .i64)), .list 1 (s1.match_.map (ci .i64))]]⟩, ⟨25, 10, false, [[.int .i64 now1.id, .list 1 (now1.peers.map (ci .i64)), .int .i64 now1.term, .int .i64 now1.voted, .int .i64 now1.role, .list 2 (now1.log.map Entry.c), .int .i64 now1.commit, .list 1 (now1.votes.map (ci .i64)), .list 1 (now1.next.map (ci .i64)), .list 1 (now1.match_.map (ci .i64))]]⟩, ⟨25, 10, false, [[.int .i64 r3.1.id, .list 1 (r3.1.peers.map (ci .i64)), .int .i64 r3.1.term, .int .i64 r3.1.voted, .int .i64 r3.1.role, .list 2 (r3.1.log.map Entry.c), .int .i64 r3.1.commit, .list 1 (r3.1.votes.map (ci .i64)), .list 1 (r3.1.next.map (ci .i64)), .list 1 (r3.1.match_.map (ci .i64))]]⟩], 3, 112⟩) ?_ ?_
                    · refine a_seq ?_
                      obtain ⟨x4, zh7, H⟩ := bind_some H
                      have zg4 := idx_map zh7 Call30.c
                      obtain ⟨zh7a, zh7b, _⟩ := idx_some zh7
                      refine a_reg _ rfl (s := ?zs21) ?_ ?_
                      rotate_left
                      · simp (maxSteps := 2000000) only [EVT, stepR, evOp, St.ev, St.app, St.put, wrs, evIndexAddr, evFieldAddr, evLoad, cut, datOf, datOf1, evBin, binInt, TIS, CS, Nat.reduceAdd, Nat.reduceMul, Nat.reduceEqDiff, ↓reduceIte, reduceCtorEq, Nat.reduceLT, Nat.reduceLeDiff, Int.reduceToNat, Nat.reduceSub, Nat.reduceBEq, zg4]
                        (repeat' apply And.intro) <;> first | rfl | assumption | omega | (simp; done) | (simp; omega) | (simp_all; done)
                      refine sA_n ?_
                      refine a_condb (((Int.tmod x4.do_ 4) == 0)) (by rfl) (fun zc8 => ?_) (fun zc8 => ?_)
                      · have H := cond_t zc8 H
                        refine a_seq ?_
                        refine a_cut (fun s => ∃ (v4 : Bool) (t0 : Nat → Dat), law14_VoteOnce_J8 (law14_VoteOnce_L1 l1 s1 r1 m_law14_VoteOnce_L1) r3 l1 i1 s1 v4 = some r ∧ s = ⟨tl t0 [(1, .list 5 (l1.map Call30.c)), (2, .ptr 0 0 0 10), (5, .bool r1), (7, .ptr 1 0 0 10), (9, .int .i64 i1), (10, .ptr 2 0 0 10), (11, .bool r3.2), (84, .bool v4)], hl [⟨25, 10, false, [[.int .i64 s1.id, .list 1 (s1.peers.map (ci .i64)), .int .i64 s1.term, .int .i64 s1.voted, .int .i64 s1.role, .list 2 (s1.log.map Entry.c), .int .i64 s1.commit, .list 1 (s1.votes.map (ci .i64)), .list 1 (s1.next.map (ci .i64)), .list 1 (s1.match_.map (ci .i64))]]⟩, ⟨25, 10, false, [[.int .i64 now1.id, .list 1 (now1.peers.map (ci .i64)), .int .i64 now1.term, .int .i64 now1.voted, .int .i64 now1.role, .list 2 (now1.log.map Entry.c), .int .i64 now1.commit, .list 1 (now1.votes.map (ci .i64)), .list 1 (now1.next.map (ci .i64)), .list 1 (now1.match_.map (ci .i64))]]⟩, ⟨25, 10, false, [[.int .i64 r3.1.id, .list 1 (r3.1.peers.map (ci .i64)), .int .i64 r3.1.term, .int .i64 r3.1.voted, .int .i64 r3.1.role, .list 2 (r3.1.log.map Entry.c), .int .i64 r3.1.commit, .list 1 (r3.1.votes.map (ci .i64)), .list 1 (r3.1.next.map (ci .i64)), .list 1 (r3.1.match_.map (ci .i64))]]⟩], 3, 112⟩) ?_ ?_
                        · refine bool_split (b := (r3.1.term != (IntKind.wrap .i64 (now1.term + 1)))) (fun zc10 => ?_) (fun zc10 => ?_)
                          · rw [zc10] at H
                            refine a_reg _ rfl (s := ?zs24) ?_ ?_
                            rotate_left
                            · simp (maxSteps := 2000000) only [EVT, stepR, evOp, St.ev, St.app, St.put, wrs, evFieldAddr, evLoad, cut, datOf, datOf1, evBin, binInt, TIS, CS, Nat.reduceAdd, Nat.reduceMul, Nat.reduceEqDiff, ↓reduceIte, reduceCtorEq, Nat.reduceLT, Nat.reduceLeDiff, Array.reduceGetElem?, Nat.reduceSub, Nat.reduceBEq, zg4, ↓zc8, ↓zc10]
                              try simp (maxSteps := 2000000) only [EVT, stepR, evOp, St.ev, St.app, St.put, wrs, evFieldAddr, evLoad, cut, datOf, datOf1, evBin, binInt, TIS, CS, Nat.reduceAdd, Nat.reduceMul, Nat.reduceEqDiff, ↓reduceIte, reduceCtorEq, Nat.reduceLT, Nat.reduceLeDiff, Array.reduceGetElem?, Nat.reduceSub, Nat.reduceBEq, zg4, ↓zc8, ↓zc10]
                              (repeat' apply And.intro) <;> first | rfl | assumption | omega | (simp; done) | (simp; omega) | (simp_all; done)
                            refine cA_n ?_
                            refine wk_l [(some 0, ⟨25, 10, false, [[.int .i64 s1.id, .list 1 (s1.peers.map (ci .i64)), .int .i64 s1.term, .int .i64 s1.voted, .int .i64 s1.role, .list 2 (s1.log.map Entry.c), .int .i64 s1.commit, .list 1 (s1.votes.map (ci .i64)), .list 1 (s1.next.map (ci .i64)), .list 1 (s1.match_.map (ci .i64))]]⟩), (some 1, ⟨25, 10, false, [[.int .i64 now1.id, .list 1 (now1.peers.map (ci .i64)), .int .i64 now1.term, .int .i64 now1.voted, .int .i64 now1.role, .list 2 (now1.log.map Entry.c), .int .i64 now1.commit, .list 1 (now1.votes.map (ci .i64)), .list 1 (now1.next.map (ci .i64)), .list 1 (now1.match_.map (ci .i64))]]⟩), (some 2, ⟨25, 10, false, [[.int .i64 r3.1.id, .list 1 (r3.1.peers.map (ci .i64)), .int .i64 r3.1.term, .int .i64 r3.1.voted, .int .i64 r3.1.role, .list 2 (r3.1.log.map Entry.c), .int .i64 r3.1.commit, .list 1 (r3.1.votes.map (ci .i64)), .list 1 (r3.1.next.map (ci .i64)), .list 1 (r3.1.match_.map (ci .i64))]]⟩)] [] [(1, .list 5 (l1.map Call30.c)), (2, .ptr 0 0 0 10), (5, .bool r1), (7, .ptr 1 0 0 10), (9, .int .i64 i1), (10, .ptr 2 0 0 10), (11, .bool r3.2), (84, .bool true)] (by show ([1, 2, 5, 7, 9, 10, 11, 84] : List Nat).Nodup; decide) (by show ([0, 1, 2] : List Nat).Nodup; decide) ?_ ?_ (fun t0 => ⟨true, t0, H, rfl⟩)
                            · exact (allB_some (by rfl) rfl (.cons (.cons (.int' rfl) (.cons (.lst _ _ _ (ci_pu .i64) rfl) (.cons (.int' rfl) (.cons (.int' rfl) (.cons (.int' rfl) (.cons (.lst _ _ _ Entry.pu rfl) (.cons (.int' rfl) (.cons (.lst _ _ _ (ci_pu .i64) rfl) (.cons (.lst _ _ _ (ci_pu .i64) rfl) (.cons (.lst _ _ _ (ci_pu .i64) rfl) .nil)))))))))) .nil) (allB_some (by rfl) rfl (.cons (.cons (.int' rfl) (.cons (.lst _ _ _ (ci_pu .i64) rfl) (.cons (.int' rfl) (.cons (.int' rfl) (.cons (.int' rfl) (.cons (.lst _ _ _ Entry.pu rfl) (.cons (.int' rfl) (.cons (.lst _ _ _ (ci_pu .i64) rfl) (.cons (.lst _ _ _ (ci_pu .i64) rfl) (.cons (.lst _ _ _ (ci_pu .i64) rfl) .nil)))))))))) .nil) (allB_some (by rfl) rfl (.cons (.cons (.int' rfl) (.cons (.lst _ _ _ (ci_pu .i64) rfl) (.cons (.int' rfl) (.cons (.int' rfl) (.cons (.int' rfl) (.cons (.lst _ _ _ Entry.pu rfl) (.cons (.int' rfl) (.cons (.lst _ _ _ (ci_pu .i64) rfl) (.cons (.lst _ _ _ (ci_pu .i64) rfl) (.cons (.lst _ _ _ (ci_pu .i64) rfl) .nil)))))))))) .nil) trivial)))
                            · (simp only [AllT, tl_cons, tl_nil, upd_apply, List.getD_cons_zero, List.getD_cons_succ, Nat.reduceEqDiff, ↓reduceIte, and_true]); exact ⟨(.lst _ _ _ Call30.pu rfl), (.ptr _ _ _ _ _ rfl), (.bool' rfl), (.ptr _ _ _ _ _ rfl), (.int' rfl), (.ptr _ _ _ _ _ rfl), (.bool' rfl), (.bool' (by first | rfl | assumption | (simp_all; done)))⟩
                          · rw [zc10] at H
                            refine a_reg _ rfl (s := ?zs25) ?_ ?_
                            rotate_left
                            · simp (maxSteps := 2000000) only [EVT, stepR, evOp, St.ev, St.app, St.put, wrs, evFieldAddr, evLoad, cut, datOf, datOf1, evBin, binInt, TIS, CS, Nat.reduceAdd, Nat.reduceMul, Nat.reduceEqDiff, ↓reduceIte, reduceCtorEq, Nat.reduceLT, Nat.reduceLeDiff, Array.reduceGetElem?, Nat.reduceSub, Nat.reduceBEq, zg4, ↓zc8, ↓zc10]
                              try simp (maxSteps := 2000000) only [EVT, stepR, evOp, St.ev, St.app, St.put, wrs, evFieldAddr, evLoad, cut, datOf, datOf1, evBin, binInt, TIS, CS, Nat.reduceAdd, Nat.reduceMul, Nat.reduceEqDiff, ↓reduceIte, reduceCtorEq, Nat.reduceLT, Nat.reduceLeDiff, Array.reduceGetElem?, Nat.reduceSub, Nat.reduceBEq, zg4, ↓zc8, ↓zc10]
                              (repeat' apply And.intro) <;> first | rfl | assumption | omega | (simp; done) | (simp; omega) | (simp_all; done)
                            refine cA_n ?_
                            refine wk_l [(some 0, ⟨25, 10, false, [[.int .i64 s1.id, .list 1 (s1.peers.map (ci .i64)), .int .i64 s1.term, .int .i64 s1.voted, .int .i64 s1.role, .list 2 (s1.log.map Entry.c), .int .i64 s1.commit, .list 1 (s1.votes.map (ci .i64)), .list 1 (s1.next.map (ci .i64)), .list 1 (s1.match_.map (ci .i64))]]⟩), (some 1, ⟨25, 10, false, [[.int .i64 now1.id, .list 1 (now1.peers.map (ci .i64)), .int .i64 now1.term, .int .i64 now1.voted, .int .i64 now1.role, .list 2 (now1.log.map Entry.c), .int .i64 now1.commit, .list 1 (now1.votes.map (ci .i64)), .list 1 (now1.next.map (ci .i64)), .list 1 (now1.match_.map (ci .i64))]]⟩), (some 2, ⟨25, 10, false, [[.int .i64 r3.1.id, .list 1 (r3.1.peers.map (ci .i64)), .int .i64 r3.1.term, .int .i64 r3.1.voted, .int .i64 r3.1.role, .list 2 (r3.1.log.map Entry.c), .int .i64 r3.1.commit, .list 1 (r3.1.votes.map (ci .i64)), .list 1 (r3.1.next.map (ci .i64)), .list 1 (r3.1.match_.map (ci .i64))]]⟩)] [] [(1, .list 5 (l1.map Call30.c)), (2, .ptr 0 0 0 10), (5, .bool r1), (7, .ptr 1 0 0 10), (9, .int .i64 i1), (10, .ptr 2 0 0 10), (11, .bool r3.2), (84, .bool (r3.1.voted != s1.id))] (by show ([1, 2, 5, 7, 9, 10, 11, 84] : List Nat).Nodup; decide) (by show ([0, 1, 2] : List Nat).Nodup; decide) ?_ ?_ (fun t0 => ⟨(r3.1.voted != s1.id), t0, H, rfl⟩)
                            · exact (allB_some (by rfl) rfl (.cons (.cons (.int' rfl) (.cons (.lst _ _ _ (ci_pu .i64) rfl) (.cons (.int' rfl) (.cons (.int' rfl) (.cons (.int' rfl) (.cons (.lst _ _ _ Entry.pu rfl) (.cons (.int' rfl) (.cons (.lst _ _ _ (ci_pu .i64) rfl) (.cons (.lst _ _ _ (ci_pu .i64) rfl) (.cons (.lst _ _ _ (ci_pu .i64) rfl) .nil)))))))))) .nil) (allB_some (by rfl) rfl (.cons (.cons (.int' rfl) (.cons (.lst _ _ _ (ci_pu .i64) rfl) (.cons (.int' rfl) (.cons (.int' rfl) (.cons (.int' rfl) (.cons (.lst _ _ _ Entry.pu rfl) (.cons (.int' rfl) (.cons (.lst _ _ _ (ci_pu .i64) rfl) (.cons (.lst _ _ _ (ci_pu .i64) rfl) (.cons (.lst _ _ _ (ci_pu .i64) rfl) .nil)))))))))) .nil) (allB_some (by rfl) rfl (.cons (.cons (.int' rfl) (.cons (.lst _ _ _ (ci_pu .i64) rfl) (.cons (.int' rfl) (.cons (.int' rfl) (.cons (.int' rfl) (.cons (.lst _ _ _ Entry.pu rfl) (.cons (.int' rfl) (.cons (.lst _ _ _ (ci_pu .i64) rfl) (.cons (.lst _ _ _ (ci_pu .i64) rfl) (.cons (.lst _ _ _ (ci_pu .i64) rfl) .nil)))))))))) .nil) trivial)))
                            · (simp only [AllT, tl_cons, tl_nil, upd_apply, List.getD_cons_zero, List.getD_cons_succ, Nat.reduceEqDiff, ↓reduceIte, and_true]); exact ⟨(.lst _ _ _ Call30.pu rfl), (.ptr _ _ _ _ _ rfl), (.bool' rfl), (.ptr _ _ _ _ _ rfl), (.int' rfl), (.ptr _ _ _ _ _ rfl), (.bool' rfl), (.bool' rfl)⟩
                        · rintro s ⟨v4, t0, H, rfl⟩
                          unfold law14_VoteOnce_J8 at H
                          refine a_condb (v4) (by rfl) (fun zc9 => ?_) (fun zc9 => ?_)
                          · have H := cond_t zc9 H
                            refine a_seq ?_
                            refine a_reg _ rfl (s := ?zs22) ?_ ?_
                            rotate_left
                            · simp (maxSteps := 2000000) only [EVT, stepR, evOp, St.ev, St.app, St.put, wrs, datOf, datOf1, TIS, CS, Nat.reduceAdd, Nat.reduceMul, Nat.reduceEqDiff, ↓reduceIte, reduceCtorEq, Nat.reduceLT, Nat.reduceLeDiff, ↓zc9]
                              (repeat' apply And.intro) <;> first | rfl | assumption | omega | (simp; done) | (simp; omega) | (simp_all; done)
                            refine sA_n ?_
                            refine a_ret ?_
                            refine sA_r ?_
                            refine cA_r ?_
                            refine bA_r ?_
                            refine sA_r ?_
                            refine lA_r ?_
                            refine bA_r ?_
                            refine cA_r ?_
                            obtain rfl := Option.some.inj H
                            refine e_r2 (d := ?zd6) ?_ ?_
                            rotate_left
                            · simp only [EVT, resR, single, evLoad, cut, TIS, CS, Nat.reduceAdd, Nat.reduceEqDiff, ↓reduceIte, reduceCtorEq, Nat.reduceLT, Nat.reduceLeDiff, Nat.reduceSub, Nat.reduceBEq, zc9]
                              (repeat' apply And.intro) <;> first | rfl | assumption | omega | (simp; done)
                            exact (.bool' (by first | rfl | assumption | (simp_all; done)))
                          · have H := cond_f zc9 H
                            refine a_skip ?_
                            refine sA_n ?_
                            refine a_reg _ rfl (s := ?zs23) ?_ ?_
                            rotate_left
                            · simp (maxSteps := 2000000) only [EVT, stepR, evOp, St.ev, St.app, St.put, wrs, evFieldAddr, evLoad, cut, TIS, CS, Nat.reduceAdd, Nat.reduceMul, Nat.reduceEqDiff, ↓reduceIte, reduceCtorEq, Nat.reduceLT, Nat.reduceLeDiff, Nat.reduceSub, Nat.reduceBEq, ↓zc9]
                              (repeat' apply And.intro) <;> first | rfl | assumption | omega | (simp; done) | (simp; omega) | (simp_all; done)
                            refine cA_n ?_
                            refine wk_l [(some 0, ⟨25, 10, false, [[.int .i64 s1.id, .list 1 (s1.peers.map (ci .i64)), .int .i64 s1.term, .int .i64 s1.voted, .int .i64 s1.role, .list 2 (s1.log.map Entry.c), .int .i64 s1.commit, .list 1 (s1.votes.map (ci .i64)), .list 1 (s1.next.map (ci .i64)), .list 1 (s1.match_.map (ci .i64))]]⟩), (some 1, ⟨25, 10, false, [[.int .i64 now1.id, .list 1 (now1.peers.map (ci .i64)), .int .i64 now1.term, .int .i64 now1.voted, .int .i64 now1.role, .list 2 (now1.log.map Entry.c), .int .i64 now1.commit, .list 1 (now1.votes.map (ci .i64)), .list 1 (now1.next.map (ci .i64)), .list 1 (now1.match_.map (ci .i64))]]⟩), (some 2, ⟨25, 10, false, [[.int .i64 r3.1.id, .list 1 (r3.1.peers.map (ci .i64)), .int .i64 r3.1.term, .int .i64 r3.1.voted, .int .i64 r3.1.role, .list 2 (r3.1.log.map Entry.c), .int .i64 r3.1.commit, .list 1 (r3.1.votes.map (ci .i64)), .list 1 (r3.1.next.map (ci .i64)), .list 1 (r3.1.match_.map (ci .i64))]]⟩)] [] [(1, .list 5 (l1.map Call30.c)), (2, .ptr 0 0 0 10), (5, .bool r1), (7, .ptr 1 0 0 10), (8, .int .i64 s1.id), (9, .int .i64 i1), (10, .ptr 2 0 0 10), (11, .bool r3.2)] (by show ([1, 2, 5, 7, 8, 9, 10, 11] : List Nat).Nodup; decide) (by show ([0, 1, 2] : List Nat).Nodup; decide) ?_ ?_ (fun t0 => ⟨s1.id, t0, H, rfl⟩)
                            · exact (allB_some (by rfl) rfl (.cons (.cons (.int' rfl) (.cons (.lst _ _ _ (ci_pu .i64) rfl) (.cons (.int' rfl) (.cons (.int' rfl) (.cons (.int' rfl) (.cons (.lst _ _ _ Entry.pu rfl) (.cons (.int' rfl) (.cons (.lst _ _ _ (ci_pu .i64) rfl) (.cons (.lst _ _ _ (ci_pu .i64) rfl) (.cons (.lst _ _ _ (ci_pu .i64) rfl) .nil)))))))))) .nil) (allB_some (by rfl) rfl (.cons (.cons (.int' rfl) (.cons (.lst _ _ _ (ci_pu .i64) rfl) (.cons (.int' rfl) (.cons (.int' rfl) (.cons (.int' rfl) (.cons (.lst _ _ _ Entry.pu rfl) (.cons (.int' rfl) (.cons (.lst _ _ _ (ci_pu .i64) rfl) (.cons (.lst _ _ _ (ci_pu .i64) rfl) (.cons (.lst _ _ _ (ci_pu .i64) rfl) .nil)))))))))) .nil) (allB_some (by rfl) rfl (.cons (.cons (.int' rfl) (.cons (.lst _ _ _ (ci_pu .i64) rfl) (.cons (.int' rfl) (.cons (.int' rfl) (.cons (.int' rfl) (.cons (.lst _ _ _ Entry.pu rfl) (.cons (.int' rfl) (.cons (.lst _ _ _ (ci_pu .i64) rfl) (.cons (.lst _ _ _ (ci_pu .i64) rfl) (.cons (.lst _ _ _ (ci_pu .i64) rfl) .nil)))))))))) .nil) trivial)))
                            · (simp only [AllT, tl_cons, tl_nil, upd_apply, List.getD_cons_zero, List.getD_cons_succ, Nat.reduceEqDiff, ↓reduceIte, and_true]); exact ⟨(.lst _ _ _ Call30.pu rfl), (.ptr _ _ _ _ _ rfl), (.bool' rfl), (.ptr _ _ _ _ _ rfl), (.int' rfl), (.int' rfl), (.ptr _ _ _ _ _ rfl), (.bool' rfl)⟩
                      · have H := cond_f zc8 H
                        refine a_skip ?_
                        refine cA_n ?_
                        refine wk_l [(some 0, ⟨25, 10, false, [[.int .i64 s1.id, .list 1 (s1.peers.map (ci .i64)), .int .i64 s1.term, .int .i64 s1.voted, .int .i64 s1.role, .list 2 (s1.log.map Entry.c), .int .i64 s1.commit, .list 1 (s1.votes.map (ci .i64)), .list 1 (s1.next.map (ci .i64)), .list 1 (s1.match_.map (ci .i64))]]⟩), (some 1, ⟨25, 10, false, [[.int .i64 now1.id, .list 1 (now1.peers.map (ci .i64)), .int .i64 now1.term, .int .i64 now1.voted, .int .i64 now1.role, .list 2 (now1.log.map Entry.c), .int .i64 now1.commit, .list 1 (now1.votes.map (ci .i64)), .list 1 (now1.next.map (ci .i64)), .list 1 (now1.match_.map (ci .i64))]]⟩), (some 2, ⟨25, 10, false, [[.int .i64 r3.1.id, .list 1 (r3.1.peers.map (ci .i64)), .int .i64 r3.1.term, .int .i64 r3.1.voted, .int .i64 r3.1.role, .list 2 (r3.1.log.map Entry.c), .int .i64 r3.1.commit, .list 1 (r3.1.votes.map (ci .i64)), .list 1 (r3.1.next.map (ci .i64)), .list 1 (r3.1.match_.map (ci .i64))]]⟩)] [] [(1, .list 5 (l1.map Call30.c)), (2, .ptr 0 0 0 10), (5, .bool r1), (7, .ptr 1 0 0 10), (8, .int .i64 given2), (9, .int .i64 i1), (10, .ptr 2 0 0 10), (11, .bool r3.2)] (by show ([1, 2, 5, 7, 8, 9, 10, 11] : List Nat).Nodup; decide) (by show ([0, 1, 2] : List Nat).Nodup; decide) ?_ ?_ (fun t0 => ⟨given2, t0, H, rfl⟩)
                        · exact (allB_some (by rfl) rfl (.cons (.cons (.int' rfl) (.cons (.lst _ _ _ (ci_pu .i64) rfl) (.cons (.int' rfl) (.cons (.int' rfl) (.cons (.int' rfl) (.cons (.lst _ _ _ Entry.pu rfl) (.cons (.int' rfl) (.cons (.lst _ _ _ (ci_pu .i64) rfl) (.cons (.lst _ _ _ (ci_pu .i64) rfl) (.cons (.lst _ _ _ (ci_pu .i64) rfl) .nil)))))))))) .nil) (allB_some (by rfl) rfl (.cons (.cons (.int' rfl) (.cons (.lst _ _ _ (ci_pu .i64) rfl) (.cons (.int' rfl) (.cons (.int' rfl) (.cons (.int' rfl) (.cons (.lst _ _ _ Entry.pu rfl) (.cons (.int' rfl) (.cons (.lst _ _ _ (ci_pu .i64) rfl) (.cons (.lst _ _ _ (ci_pu .i64) rfl) (.cons (.lst _ _ _ (ci_pu .i64) rfl) .nil)))))))))) .nil) (allB_some (by rfl) rfl (.cons (.cons (.int' rfl) (.cons (.lst _ _ _ (ci_pu .i64) rfl) (.cons (.int' rfl) (.cons (.int' rfl) (.cons (.int' rfl) (.cons (.lst _ _ _ Entry.pu rfl) (.cons (.int' rfl) (.cons (.lst _ _ _ (ci_pu .i64) rfl) (.cons (.lst _ _ _ (ci_pu .i64) rfl) (.cons (.lst _ _ _ (ci_pu .i64) rfl) .nil)))))))))) .nil) trivial)))
                        · (simp only [AllT, tl_cons, tl_nil, upd_apply, List.getD_cons_zero, List.getD_cons_succ, Nat.reduceEqDiff, ↓reduceIte, and_true]); exact ⟨(.lst _ _ _ Call30.pu rfl), (.ptr _ _ _ _ _ rfl), (.bool' rfl), (.ptr _ _ _ _ _ rfl), (.int' rfl), (.int' rfl), (.ptr _ _ _ _ _ rfl), (.bool' rfl)⟩
                    · rintro s ⟨given3, t0, H, rfl⟩
                      unfold law14_VoteOnce_J5 at H
                      refine a_cut (fun s => ∃ (given4 : Int) (t0 : Nat → Dat), law14_VoteOnce_J6 (law14_VoteOnce_L1 l1 s1 r1 m_law14_VoteOnce_L1) r3 i1 given4 = some r ∧ s = ⟨tl t0 [(1, .list 5 (l1.map Call30.c)), (2, .ptr 0 0 0 10), (5, .bool r1), (7, .ptr 1 0 0 10), (8, .int .i64 given4), (9, .int .i64 i1), (10, .ptr 2 0 0 10)], hl [⟨25, 10, false, [[.int .i64 s1.id, .list 1 (s1.peers.map (ci .i64)), .int .i64 s1.term, .int .i64 s1.voted, .int .i64 s1.role, .list 2 (s1.log.map Entry.c), .int .i64 s1.commit, .list 1 (s1.votes.map (ci .i64)), .list 1 (s1.next.map (ci .i64)), .list 1 (s1.match_.map (ci .i64))]]⟩, ⟨25, 10, false, [[.int .i64 now1.id, .list 1 (now1.peers.map (ci .i64)), .int .i64 now1.term, .int .i64 now1.voted, .int .i64 now1.role, .list 2 (now1.log.map Entry.c), .int .i64 now1.commit, .list 1 (now1.votes.map (ci .i64)), .list 1 (now1.next.map (ci .i64)), .list 1 (now1.match_.map (ci .i64))]]⟩, ⟨25, 10, false, [[.int .i64 r3.1.id, .list 1 (r3.1.peers.map (ci .i64)), .int .i64 r3.1.term, .int .i64 r3.1.voted, .int .i64 r3.1.role, .list 2 (r3.1.log.map Entry.c), .int .i64 r3.1.commit, .list 1 (r3.1.votes.map (ci .i64)), .list 1 (r3.1.next.map (ci .i64)), .list 1 (r3.1.match_.map (ci .i64))]]⟩], 3, 112⟩) ?_ ?_
                      · refine a_seq ?_
                        refine a_reg _ rfl (s := ?zs16) ?_ ?_
                        rotate_left
                        · simp (maxSteps := 2000000) only [EVT, stepR, evOp, St.ev, St.app, St.put, wrs, TIS, CS, Nat.reduceAdd, Nat.reduceMul, Nat.reduceEqDiff, ↓reduceIte, reduceCtorEq, Nat.reduceLT, Nat.reduceLeDiff]
                          (repeat' apply And.intro) <;> first | rfl | assumption | omega | (simp; done) | (simp; omega) | (simp_all; done)
                        refine sA_n ?_
                        refine a_condb (r3.2) (by rfl) (fun zc5 => ?_) (fun zc5 => ?_)
                        · have H := cond_t zc5 H
                          refine a_seq ?_
                          refine a_cut (fun s => ∃ (v3 : Bool) (t0 : Nat → Dat), law14_VoteOnce_J7 (law14_VoteOnce_L1 l1 s1 r1 m_law14_VoteOnce_L1) l1 i1 r3 v3 = some r ∧ s = ⟨tl t0 [(1, .list 5 (l1.map Call30.c)), (2, .ptr 0 0 0 10), (5, .bool r1), (7, .ptr 1 0 0 10), (9, .int .i64 i1), (10, .ptr 2 0 0 10), (99, .bool v3)], hl [⟨25, 10, false, [[.int .i64 s1.id, .list 1 (s1.peers.map (ci .i64)), .int .i64 s1.term, .int .i64 s1.voted, .int .i64 s1.role, .list 2 (s1.log.map Entry.c), .int .i64 s1.commit, .list 1 (s1.votes.map (ci .i64)), .list 1 (s1.next.map (ci .i64)), .list 1 (s1.match_.map (ci .i64))]]⟩, ⟨25, 10, false, [[.int .i64 now1.id, .list 1 (now1.peers.map (ci .i64)), .int .i64 now1.term, .int .i64 now1.voted, .int .i64 now1.role, .list 2 (now1.log.map Entry.c), .int .i64 now1.commit, .list 1 (now1.votes.map (ci .i64)), .list 1 (now1.next.map (ci .i64)), .list 1 (now1.match_.map (ci .i64))]]⟩, ⟨25, 10, false, [[.int .i64 r3.1.id, .list 1 (r3.1.peers.map (ci .i64)), .int .i64 r3.1.term, .int .i64 r3.1.voted, .int .i64 r3.1.role, .list 2 (r3.1.log.map Entry.c), .int .i64 r3.1.commit, .list 1 (r3.1.votes.map (ci .i64)), .list 1 (r3.1.next.map (ci .i64)), .list 1 (r3.1.match_.map (ci .i64))]]⟩], 3, 112⟩) ?_ ?_
                          · refine bool_split (b := (given3 != (-1))) (fun zc7 => ?_) (fun zc7 => ?_)
                            · have H := cond_t zc7 H
                              obtain ⟨x3, zh6, H⟩ := bind_some H
                              have zg3 := idx_map zh6 Call30.c
                              obtain ⟨zh6a, zh6b, _⟩ := idx_some zh6
                              refine a_reg _ rfl (s := ?zs19) ?_ ?_
                              rotate_left
                              · simp (maxSteps := 2000000) only [EVT, stepR, evOp, St.ev, St.app, St.put, wrs, datOf, datOf1, evBin, binInt, evIndexAddr, evFieldAddr, evLoad, cut, TIS, CS, Nat.reduceAdd, Nat.reduceMul, Nat.reduceEqDiff, ↓reduceIte, reduceCtorEq, Nat.reduceLT, Nat.reduceLeDiff, Array.reduceGetElem?, Int.reduceToNat, Nat.reduceSub, Nat.reduceBEq, ↓zc5, ↓zc7, zg3]
                                try simp (maxSteps := 2000000) only [EVT, stepR, evOp, St.ev, St.app, St.put, wrs, datOf, datOf1, evBin, binInt, evIndexAddr, evFieldAddr, evLoad, cut, TIS, CS, Nat.reduceAdd, Nat.reduceMul, Nat.reduceEqDiff, ↓reduceIte, reduceCtorEq, Nat.reduceLT, Nat.reduceLeDiff, Array.reduceGetElem?, Int.reduceToNat, Nat.reduceSub, Nat.reduceBEq, ↓zc5, ↓zc7, zg3]
                                (repeat' apply And.intro) <;> first | rfl | assumption | omega | (simp; done) | (simp; omega) | (simp_all; done)
                              refine cA_n ?_
                              refine wk_l [(some 0, ⟨25, 10, false, [[.int .i64 s1.id, .list 1 (s1.peers.map (ci .i64)), .int .i64 s1.term, .int .i64 s1.voted, .int .i64 s1.role, .list 2 (s1.log.map Entry.c), .int .i64 s1.commit, .list 1 (s1.votes.map (ci .i64)), .list 1 (s1.next.map (ci .i64)), .list 1 (s1.match_.map (ci .i64))]]⟩), (some 1, ⟨25, 10, false, [[.int .i64 now1.id, .list 1 (now1.peers.map (ci .i64)), .int .i64 now1.term, .int .i64 now1.voted, .int .i64 now1.role, .list 2 (now1.log.map Entry.c), .int .i64 now1.commit, .list 1 (now1.votes.map (ci .i64)), .list 1 (now1.next.map (ci .i64)), .list 1 (now1.match_.map (ci .i64))]]⟩), (some 2, ⟨25, 10, false, [[.int .i64 r3.1.id, .list 1 (r3.1.peers.map (ci .i64)), .int .i64 r3.1.term, .int .i64 r3.1.voted, .int .i64 r3.1.role, .list 2 (r3.1.log.map Entry.c), .int .i64 r3.1.commit, .list 1 (r3.1.votes.map (ci .i64)), .list 1 (r3.1.next.map (ci .i64)), .list 1 (r3.1.match_.map (ci .i64))]]⟩)] [] [(1, .list 5 (l1.map Call30.c)), (2, .ptr 0 0 0 10), (5, .bool r1), (7, .ptr 1 0 0 10), (9, .int .i64 i1), (10, .ptr 2 0 0 10), (99, .bool (given3 != (IntKind.wrap .i64 x3.who)))] (by show ([1, 2, 5, 7, 9, 10, 99] : List Nat).Nodup; decide) (by show ([0, 1, 2] : List Nat).Nodup; decide) ?_ ?_ (fun t0 => ⟨(given3 != (IntKind.wrap .i64 x3.who)), t0, H, rfl⟩)
                              · exact (allB_some (by rfl) rfl (.cons (.cons (.int' rfl) (.cons (.lst _ _ _ (ci_pu .i64) rfl) (.cons (.int' rfl) (.cons (.int' rfl) (.cons (.int' rfl) (.cons (.lst _ _ _ Entry.pu rfl) (.cons (.int' rfl) (.cons (.lst _ _ _ (ci_pu .i64) rfl) (.cons (.lst _ _ _ (ci_pu .i64) rfl) (.cons (.lst _ _ _ (ci_pu .i64) rfl) .nil)))))))))) .nil) (allB_some (by rfl) rfl (.cons (.cons (.int' rfl) (.cons (.lst _ _ _ (ci_pu .i64) rfl) (.cons (.int' rfl) (.cons (.int' rfl) (.cons (.int' rfl) (.cons (.lst _ _ _ Entry.pu rfl) (.cons (.int' rfl) (.cons (.lst _ _ _ (ci_pu .i64) rfl) (.cons (.lst _ _ _ (ci_pu .i64) rfl) (.cons (.lst _ _ _ (ci_pu .i64) rfl) .nil)))))))))) .nil) (allB_some (by rfl) rfl (.cons (.cons (.int' rfl) (.cons (.lst _ _ _ (ci_pu .i64) rfl) (.cons (.int' rfl) (.cons (.int' rfl) (.cons (.int' rfl) (.cons (.lst _ _ _ Entry.pu rfl) (.cons (.int' rfl) (.cons (.lst _ _ _ (ci_pu .i64) rfl) (.cons (.lst _ _ _ (ci_pu .i64) rfl) (.cons (.lst _ _ _ (ci_pu .i64) rfl) .nil)))))))))) .nil) trivial)))
                              · (simp only [AllT, tl_cons, tl_nil, upd_apply, List.getD_cons_zero, List.getD_cons_succ, Nat.reduceEqDiff, ↓reduceIte, and_true]); exact ⟨(.lst _ _ _ Call30.pu rfl), (.ptr _ _ _ _ _ rfl), (.bool' rfl), (.ptr _ _ _ _ _ rfl), (.int' rfl), (.ptr _ _ _ _ _ rfl), (.bool' rfl)⟩
                            · have H := cond_f zc7 H
                              refine a_reg _ rfl (s := ?zs20) ?_ ?_
                              rotate_left
                              · simp (maxSteps := 2000000) only [EVT, stepR, evOp, St.ev, St.app, St.put, wrs, datOf, datOf1, evBin, binInt, evIndexAddr, evFieldAddr, evLoad, cut, TIS, CS, Nat.reduceAdd, Nat.reduceMul, Nat.reduceEqDiff, ↓reduceIte, reduceCtorEq, Nat.reduceLT, Nat.reduceLeDiff, Array.reduceGetElem?, Int.reduceToNat, Nat.reduceSub, Nat.reduceBEq, ↓zc5, ↓zc7]
                                try simp (maxSteps := 2000000) only [EVT, stepR, evOp, St.ev, St.app, St.put, wrs, datOf, datOf1, evBin, binInt, evIndexAddr, evFieldAddr, evLoad, cut, TIS, CS, Nat.reduceAdd, Nat.reduceMul, Nat.reduceEqDiff, ↓reduceIte, reduceCtorEq, Nat.reduceLT, Nat.reduceLeDiff, Array.reduceGetElem?, Int.reduceToNat, Nat.reduceSub, Nat.reduceBEq, ↓zc5, ↓zc7]
                                (repeat' apply And.intro) <;> first | rfl | assumption | omega | (simp; done) | (simp; omega) | (simp_all; done)
                              refine cA_n ?_
                              refine wk_l [(some 0, ⟨25, 10, false, [[.int .i64 s1.id, .list 1 (s1.peers.map (ci .i64)), .int .i64 s1.term, .int .i64 s1.voted, .int .i64 s1.role, .list 2 (s1.log.map Entry.c), .int .i64 s1.commit, .list 1 (s1.votes.map (ci .i64)), .list 1 (s1.next.map (ci .i64)), .list 1 (s1.match_.map (ci .i64))]]⟩), (some 1, ⟨25, 10, false, [[.int .i64 now1.id, .list 1 (now1.peers.map (ci .i64)), .int .i64 now1.term, .int .i64 now1.voted, .int .i64 now1.role, .list 2 (now1.log.map Entry.c), .int .i64 now1.commit, .list 1 (now1.votes.map (ci .i64)), .list 1 (now1.next.map (ci .i64)), .list 1 (now1.match_.map (ci .i64))]]⟩), (some 2, ⟨25, 10, false, [[.int .i64 r3.1.id, .list 1 (r3.1.peers.map (ci .i64)), .int .i64 r3.1.term, .int .i64 r3.1.voted, .int .i64 r3.1.role, .list 2 (r3.1.log.map Entry.c), .int .i64 r3.1.commit, .list 1 (r3.1.votes.map (ci .i64)), .list 1 (r3.1.next.map (ci .i64)), .list 1 (r3.1.match_.map (ci .i64))]]⟩)] [] [(1, .list 5 (l1.map Call30.c)), (2, .ptr 0 0 0 10), (5, .bool r1), (7, .ptr 1 0 0 10), (9, .int .i64 i1), (10, .ptr 2 0 0 10), (99, .bool false)] (by show ([1, 2, 5, 7, 9, 10, 99] : List Nat).Nodup; decide) (by show ([0, 1, 2] : List Nat).Nodup; decide) ?_ ?_ (fun t0 => ⟨false, t0, H, rfl⟩)
                              · exact (allB_some (by rfl) rfl (.cons (.cons (.int' rfl) (.cons (.lst _ _ _ (ci_pu .i64) rfl) (.cons (.int' rfl) (.cons (.int' rfl) (.cons (.int' rfl) (.cons (.lst _ _ _ Entry.pu rfl) (.cons (.int' rfl) (.cons (.lst _ _ _ (ci_pu .i64) rfl) (.cons (.lst _ _ _ (ci_pu .i64) rfl) (.cons (.lst _ _ _ (ci_pu .i64) rfl) .nil)))))))))) .nil) (allB_some (by rfl) rfl (.cons (.cons (.int' rfl) (.cons (.lst _ _ _ (ci_pu .i64) rfl) (.cons (.int' rfl) (.cons (.int' rfl) (.cons (.int' rfl) (.cons (.lst _ _ _ Entry.pu rfl) (.cons (.int' rfl) (.cons (.lst _ _ _ (ci_pu .i64) rfl) (.cons (.lst _ _ _ (ci_pu .i64) rfl) (.cons (.lst _ _ _ (ci_pu .i64) rfl) .nil)))))))))) .nil) (allB_some (by rfl) rfl (.cons (.cons (.int' rfl) (.cons (.lst _ _ _ (ci_pu .i64) rfl) (.cons (.int' rfl) (.cons (.int' rfl) (.cons (.int' rfl) (.cons (.lst _ _ _ Entry.pu rfl) (.cons (.int' rfl) (.cons (.lst _ _ _ (ci_pu .i64) rfl) (.cons (.lst _ _ _ (ci_pu .i64) rfl) (.cons (.lst _ _ _ (ci_pu .i64) rfl) .nil)))))))))) .nil) trivial)))
                              · (simp only [AllT, tl_cons, tl_nil, upd_apply, List.getD_cons_zero, List.getD_cons_succ, Nat.reduceEqDiff, ↓reduceIte, and_true]); exact ⟨(.lst _ _ _ Call30.pu rfl), (.ptr _ _ _ _ _ rfl), (.bool' rfl), (.ptr _ _ _ _ _ rfl), (.int' rfl), (.ptr _ _ _ _ _ rfl), (.bool' (by first | rfl | assumption | (simp_all; done)))⟩
                          · rintro s ⟨v3, t0, H, rfl⟩
                            unfold law14_VoteOnce_J7 at H
                            refine a_condb (v3) (by rfl) (fun zc6 => ?_) (fun zc6 => ?_)
                            · have H := cond_t zc6 H
                              refine a_seq ?_
                              refine a_reg _ rfl (s := ?zs17) ?_ ?_
                              rotate_left
                              · simp (maxSteps := 2000000) only [EVT, stepR, evOp, St.ev, St.app, St.put, wrs, datOf, datOf1, TIS, CS, Nat.reduceAdd, Nat.reduceMul, Nat.reduceEqDiff, ↓reduceIte, reduceCtorEq, Nat.reduceLT, Nat.reduceLeDiff, ↓zc6]
                                (repeat' apply And.intro) <;> first | rfl | assumption | omega | (simp; done) | (simp; omega) | (simp_all; done)
                              refine sA_n ?_
                              refine a_ret ?_
                              refine sA_r ?_
                              refine cA_r ?_
                              refine bA_r ?_
                              refine sA_r ?_
                              refine lA_r ?_
                              refine bA_r ?_
                              refine cA_r ?_
                              obtain rfl := Option.some.inj H
                              refine e_r2 (d := ?zd5) ?_ ?_
                              rotate_left
                              · simp only [EVT, resR, single, evLoad, cut, TIS, CS, Nat.reduceAdd, Nat.reduceEqDiff, ↓reduceIte, reduceCtorEq, Nat.reduceLT, Nat.reduceLeDiff, Nat.reduceSub, Nat.reduceBEq, zc6]
                                (repeat' apply And.intro) <;> first | rfl | assumption | omega | (simp; done)
                              exact (.bool' (by first | rfl | assumption | (simp_all; done)))
                            · have H := cond_f zc6 H
                              refine a_skip ?_
                              refine sA_n ?_
                              obtain ⟨x2, zh5, H⟩ := bind_some H
                              have zg2 := idx_map zh5 Call30.c
                              obtain ⟨zh5a, zh5b, _⟩ := idx_some zh5
                              refine a_reg _ rfl (s := ?zs18) ?_ ?_
                              rotate_left
                              · simp (maxSteps := 2000000) only [EVT, stepR, evOp, St.ev, St.app, St.put, wrs, evIndexAddr, evFieldAddr, evLoad, cut, TIS, CS, Nat.reduceAdd, Nat.reduceMul, Nat.reduceEqDiff, ↓reduceIte, reduceCtorEq, Nat.reduceLT, Nat.reduceLeDiff, Int.reduceToNat, Nat.reduceSub, Nat.reduceBEq, ↓zc6, zg2]
                                (repeat' apply And.intro) <;> first | rfl | assumption | omega | (simp; done) | (simp; omega) | (simp_all; done)
                              refine cA_n ?_
                              refine wk_l [(some 0, ⟨25, 10, false, [[.int .i64 s1.id, .list 1 (s1.peers.map (ci .i64)), .int .i64 s1.term, .int .i64 s1.voted, .int .i64 s1.role, .list 2 (s1.log.map Entry.c), .int .i64 s1.commit, .list 1 (s1.votes.map (ci .i64)), .list 1 (s1.next.map (ci .i64)), .list 1 (s1.match_.map (ci .i64))]]⟩), (some 1, ⟨25, 10, false, [[.int .i64 now1.id, .list 1 (now1.peers.map (ci .i64)), .int .i64 now1.term, .int .i64 now1.voted, .int .i64 now1.role, .list 2 (now1.log.map Entry.c), .int .i64 now1.commit, .list 1 (now1.votes.map (ci .i64)), .list 1 (now1.next.map (ci .i64)), .list 1 (now1.match_.map (ci .i64))]]⟩), (some 2, ⟨25, 10, false, [[.int .i64 r3.1.id, .list 1 (r3.1.peers.map (ci .i64)), .int .i64 r3.1.term, .int .i64 r3.1.voted, .int .i64 r3.1.role, .list 2 (r3.1.log.map Entry.c), .int .i64 r3.1.commit, .list 1 (r3.1.votes.map (ci .i64)), .list 1 (r3.1.next.map (ci .i64)), .list 1 (r3.1.match_.map (ci .i64))]]⟩)] [] [(1, .list 5 (l1.map Call30.c)), (2, .ptr 0 0 0 10), (5, .bool r1), (7, .ptr 1 0 0 10), (8, .int .i64 (IntKind.wrap .i64 x2.who)), (9, .int .i64 i1), (10, .ptr 2 0 0 10)] (by show ([1, 2, 5, 7, 8, 9, 10] : List Nat).Nodup; decide) (by show ([0, 1, 2] : List Nat).Nodup; decide) ?_ ?_ (fun t0 => ⟨(IntKind.wrap .i64 x2.who), t0, H, rfl⟩)
                              · exact (allB_some (by rfl) rfl (.cons (.cons (.int' rfl) (.cons (.lst _ _ _ (ci_pu .i64) rfl) (.cons (.int' rfl) (.cons (.int' rfl) (.cons (.int' rfl) (.cons (.lst _ _ _ Entry.pu rfl) (.cons (.int' rfl) (.cons (.lst _ _ _ (ci_pu .i64) rfl) (.cons (.lst _ _ _ (ci_pu .i64) rfl) (.cons (.lst _ _ _ (ci_pu .i64) rfl) .nil)))))))))) .nil) (allB_some (by rfl) rfl (.cons (.cons (.int' rfl) (.cons (.lst _ _ _ (ci_pu .i64) rfl) (.cons (.int' rfl) (.cons (.int' rfl) (.cons (.int' rfl) (.cons (.lst _ _ _ Entry.pu rfl) (.cons (.int' rfl) (.cons (.lst _ _ _ (ci_pu .i64) rfl) (.cons (.lst _ _ _ (ci_pu .i64) rfl) (.cons (.lst _ _ _ (ci_pu .i64) rfl) .nil)))))))))) .nil) (allB_some (by rfl) rfl (.cons (.cons (.int' rfl) (.cons (.lst _ _ _ (ci_pu .i64) rfl) (.cons (.int' rfl) (.cons (.int' rfl) (.cons (.int' rfl) (.cons (.lst _ _ _ Entry.pu rfl) (.cons (.int' rfl) (.cons (.lst _ _ _ (ci_pu .i64) rfl) (.cons (.lst _ _ _ (ci_pu .i64) rfl) (.cons (.lst _ _ _ (ci_pu .i64) rfl) .nil)))))))))) .nil) trivial)))
                              · (simp only [AllT, tl_cons, tl_nil, upd_apply, List.getD_cons_zero, List.getD_cons_succ, Nat.reduceEqDiff, ↓reduceIte, and_true]); exact ⟨(.lst _ _ _ Call30.pu rfl), (.ptr _ _ _ _ _ rfl), (.bool' rfl), (.ptr _ _ _ _ _ rfl), (.int' rfl), (.int' rfl), (.ptr _ _ _ _ _ rfl)⟩
                        · have H := cond_f zc5 H
                          refine a_skip ?_
                          refine cA_n ?_
                          refine wk_l [(some 0, ⟨25, 10, false, [[.int .i64 s1.id, .list 1 (s1.peers.map (ci .i64)), .int .i64 s1.term, .int .i64 s1.voted, .int .i64 s1.role, .list 2 (s1.log.map Entry.c), .int .i64 s1.commit, .list 1 (s1.votes.map (ci .i64)), .list 1 (s1.next.map (ci .i64)), .list 1 (s1.match_.map (ci .i64))]]⟩), (some 1, ⟨25, 10, false, [[.int .i64 now1.id, .list 1 (now1.peers.map (ci .i64)), .int .i64 now1.term, .int .i64 now1.voted, .int .i64 now1.role, .list 2 (now1.log.map Entry.c), .int .i64 now1.commit, .list 1 (now1.votes.map (ci .i64)), .list 1 (now1.next.map (ci .i64)), .list 1 (now1.match_.map (ci .i64))]]⟩), (some 2, ⟨25, 10, false, [[.int .i64 r3.1.id, .list 1 (r3.1.peers.map (ci .i64)), .int .i64 r3.1.term, .int .i64 r3.1.voted, .int .i64 r3.1.role, .list 2 (r3.1.log.map Entry.c), .int .i64 r3.1.commit, .list 1 (r3.1.votes.map (ci .i64)), .list 1 (r3.1.next.map (ci .i64)), .list 1 (r3.1.match_.map (ci .i64))]]⟩)] [] [(1, .list 5 (l1.map Call30.c)), (2, .ptr 0 0 0 10), (5, .bool r1), (7, .ptr 1 0 0 10), (8, .int .i64 given3), (9, .int .i64 i1), (10, .ptr 2 0 0 10)] (by show ([1, 2, 5, 7, 8, 9, 10] : List Nat).Nodup; decide) (by show ([0, 1, 2] : List Nat).Nodup; decide) ?_ ?_ (fun t0 => ⟨given3, t0, H, rfl⟩)
                          · exact (allB_some (by rfl) rfl (.cons (.cons (.int' rfl) (.cons (.lst _ _ _ (ci_pu .i64) rfl) (.cons (.int' rfl) (.cons (.int' rfl) (.cons (.int' rfl) (.cons (.lst _ _ _ Entry.pu rfl) (.cons (.int' rfl) (.cons (.lst _ _ _ (ci_pu .i64) rfl) (.cons (.lst _ _ _ (ci_pu .i64) rfl) (.cons (.lst _ _ _ (ci_pu .i64) rfl) .nil)))))))))) .nil) (allB_some (by rfl) rfl (.cons (.cons (.int' rfl) (.cons (.lst _ _ _ (ci_pu .i64) rfl) (.cons (.int' rfl) (.cons (.int' rfl) (.cons (.int' rfl) (.cons (.lst _ _ _ Entry.pu rfl) (.cons (.int' rfl) (.cons (.lst _ _ _ (ci_pu .i64) rfl) (.cons (.lst _ _ _ (ci_pu .i64) rfl) (.cons (.lst _ _ _ (ci_pu .i64) rfl) .nil)))))))))) .nil) (allB_some (by rfl) rfl (.cons (.cons (.int' rfl) (.cons (.lst _ _ _ (ci_pu .i64) rfl) (.cons (.int' rfl) (.cons (.int' rfl) (.cons (.int' rfl) (.cons (.lst _ _ _ Entry.pu rfl) (.cons (.int' rfl) (.cons (.lst _ _ _ (ci_pu .i64) rfl) (.cons (.lst _ _ _ (ci_pu .i64) rfl) (.cons (.lst _ _ _ (ci_pu .i64) rfl) .nil)))))))))) .nil) trivial)))
                          · (simp only [AllT, tl_cons, tl_nil, upd_apply, List.getD_cons_zero, List.getD_cons_succ, Nat.reduceEqDiff, ↓reduceIte, and_true]); exact ⟨(.lst _ _ _ Call30.pu rfl), (.ptr _ _ _ _ _ rfl), (.bool' rfl), (.ptr _ _ _ _ _ rfl), (.int' rfl), (.int' rfl), (.ptr _ _ _ _ _ rfl)⟩
                      · rintro s ⟨given4, t0, H, rfl⟩
                        unfold law14_VoteOnce_J6 at H
                        refine a_seq ?_
                        refine a_seq ?_
                        refine a_reg _ rfl (s := ?zs12) ?_ ?_
                        rotate_left
                        · simp (maxSteps := 2000000) only [EVT, stepR, evOp, St.ev, St.app, St.put, wrs, evFieldAddr, evLoad, cut, evBin, binInt, TIS, CS, Nat.reduceAdd, Nat.reduceMul, Nat.reduceEqDiff, ↓reduceIte, reduceCtorEq, Nat.reduceLT, Nat.reduceLeDiff, Nat.reduceSub, Nat.reduceBEq]
                          (repeat' apply And.intro) <;> first | rfl | assumption | omega | (simp; done) | (simp; omega) | (simp_all; done)
                        refine sA_n ?_
                        refine a_condb ((r3.1.voted != given4)) (by rfl) (fun zc4 => ?_) (fun zc4 => ?_)
                        · have H := cond_t zc4 H
                          refine a_seq ?_
                          refine a_reg _ rfl (s := ?zs13) ?_ ?_
                          rotate_left
                          · simp (maxSteps := 2000000) only [EVT, stepR, evOp, St.ev, St.app, St.put, wrs, datOf, datOf1, TIS, CS, Nat.reduceAdd, Nat.reduceMul, Nat.reduceEqDiff, ↓reduceIte, reduceCtorEq, Nat.reduceLT, Nat.reduceLeDiff, ↓zc4]
                            (repeat' apply And.intro) <;> first | rfl | assumption | omega | (simp; done) | (simp; omega) | (simp_all; done)
                          refine sA_n ?_
                          refine a_ret ?_
                          refine sA_r ?_
                          refine bA_r ?_
                          refine sA_r ?_
                          refine lA_r ?_
                          refine bA_r ?_
                          refine cA_r ?_
                          obtain rfl := Option.some.inj H
                          refine e_r2 (d := ?zd4) ?_ ?_
                          rotate_left
                          · simp only [EVT, resR, single, evLoad, cut, TIS, CS, Nat.reduceAdd, Nat.reduceEqDiff, ↓reduceIte, reduceCtorEq, Nat.reduceLT, Nat.reduceLeDiff, Nat.reduceSub, Nat.reduceBEq, zc4]
                            (repeat' apply And.intro) <;> first | rfl | assumption | omega | (simp; done)
                          exact (.bool' (by first | rfl | assumption | (simp_all; done)))
                        · have H := cond_f zc4 H
                          refine a_skip ?_
                          refine sA_n ?_
                          refine a_reg _ rfl (s := ?zs14) ?_ ?_
                          rotate_left
                          · simp (maxSteps := 2000000) only [EVT, stepR, evOp, St.ev, St.app, St.put, wrs, evLoad, cut, evStore, setR, allOne, TIS, CS, Nat.reduceAdd, Nat.reduceMul, Nat.reduceEqDiff, ↓reduceIte, reduceCtorEq, Nat.reduceLT, Nat.reduceLeDiff, Nat.reduceSub, Nat.reduceBEq, ↓zc4]
                            (repeat' apply And.intro) <;> first | rfl | assumption | omega | (simp; done) | (simp; omega) | (simp_all; done)
                          refine bA_n ?_
                          refine sA_n ?_
                          refine a_reg _ rfl (s := ?zs15) ?_ ?_
                          rotate_left
                          · simp (maxSteps := 2000000) only [EVT, stepR, evOp, St.ev, St.app, St.put, wrs, datOf, datOf1, evBin, binInt, TIS, CS, Nat.reduceAdd, Nat.reduceMul, Nat.reduceEqDiff, ↓reduceIte, reduceCtorEq, Nat.reduceLT, Nat.reduceLeDiff, ↓zc4]
                            (repeat' apply And.intro) <;> first | rfl | assumption | omega | (simp; done) | (simp; omega) | (simp_all; done)
                          refine lA_n ?_
                          refine wk_l [(some 0, ⟨25, 10, false, [[.int .i64 s1.id, .list 1 (s1.peers.map (ci .i64)), .int .i64 s1.term, .int .i64 s1.voted, .int .i64 s1.role, .list 2 (s1.log.map Entry.c), .int .i64 s1.commit, .list 1 (s1.votes.map (ci .i64)), .list 1 (s1.next.map (ci .i64)), .list 1 (s1.match_.map (ci .i64))]]⟩), (some 1, ⟨25, 10, false, [[.int .i64 r3.1.id, .list 1 (r3.1.peers.map (ci .i64)), .int .i64 r3.1.term, .int .i64 r3.1.voted, .int .i64 r3.1.role, .list 2 (r3.1.log.map Entry.c), .int .i64 r3.1.commit, .list 1 (r3.1.votes.map (ci .i64)), .list 1 (r3.1.next.map (ci .i64)), .list 1 (r3.1.match_.map (ci .i64))]]⟩)] [] [(1, .list 5 (l1.map Call30.c)), (2, .ptr 0 0 0 10), (5, .bool r1), (7, .ptr 1 0 0 10), (8, .int .i64 given4), (9, .int .i64 (IntKind.wrap .i64 (i1 + 1)))] (by show ([1, 2, 5, 7, 8, 9] : List Nat).Nodup; decide) (by show ([0, 1] : List Nat).Nodup; decide) ?_ ?_ (fun t0 => ⟨_, Nat.lt_succ_self _, r3.1, given4, (IntKind.wrap .i64 (i1 + 1)), t0, H, rfl⟩)
                          · exact (allB_some (by rfl) rfl (.cons (.cons (.int' rfl) (.cons (.lst _ _ _ (ci_pu .i64) rfl) (.cons (.int' rfl) (.cons (.int' rfl) (.cons (.int' rfl) (.cons (.lst _ _ _ Entry.pu rfl) (.cons (.int' rfl) (.cons (.lst _ _ _ (ci_pu .i64) rfl) (.cons (.lst _ _ _ (ci_pu .i64) rfl) (.cons (.lst _ _ _ (ci_pu .i64) rfl) .nil)))))))))) .nil) (allB_some (by rfl) rfl (.cons (.cons (.int' rfl) (.cons (.lst _ _ _ (ci_pu .i64) rfl) (.cons (.int' rfl) (.cons (.int' rfl) (.cons (.int' rfl) (.cons (.lst _ _ _ Entry.pu rfl) (.cons (.int' rfl) (.cons (.lst _ _ _ (ci_pu .i64) rfl) (.cons (.lst _ _ _ (ci_pu .i64) rfl) (.cons (.lst _ _ _ (ci_pu .i64) rfl) .nil)))))))))) .nil) trivial))
                          · (simp only [AllT, tl_cons, tl_nil, upd_apply, List.getD_cons_zero, List.getD_cons_succ, Nat.reduceEqDiff, ↓reduceIte, and_true]); exact ⟨(.lst _ _ _ Call30.pu rfl), (.ptr _ _ _ _ _ rfl), (.bool' rfl), (.ptr _ _ _ _ _ rfl), (.int' rfl), (.int' rfl)⟩
            · have H := cond_f zc2 H
              refine a_exit ?_
              refine sA_e ?_
              refine lA_e ?_
              refine bA_hit ?_
              refine cA_n ?_
              refine wk_l [] [] [(5, .bool r1)] (by show ([5] : List Nat).Nodup; decide) (by show ([] : List Nat).Nodup; decide) ?_ ?_ (fun t0 => ⟨t0, H, rfl⟩)
              · exact trivial
              · (simp only [AllT, tl_cons, tl_nil, upd_apply, List.getD_cons_zero, List.getD_cons_succ, Nat.reduceEqDiff, ↓reduceIte, and_true]); exact (.bool' rfl)
      · rintro s ⟨t0, H, rfl⟩
        unfold law14_VoteOnce_J2 at H
        refine a_seq ?_
        refine a_reg _ rfl (s := ?zs7) ?_ ?_
        rotate_left
        · simp (maxSteps := 2000000) only [EVT, stepR, evOp, St.ev, St.app, St.put, wrs, TIS, CS, Nat.reduceAdd, Nat.reduceMul, Nat.reduceEqDiff, ↓reduceIte, reduceCtorEq, Nat.reduceLT, Nat.reduceLeDiff]
          (repeat' apply And.intro) <;> first | rfl | assumption | omega | (simp; done) | (simp; omega) | (simp_all; done)
        refine sA_n ?_
        refine a_ret ?_
        obtain rfl := Option.some.inj H
        refine e_r2 (d := ?zd2) ?_ ?_
        rotate_left
        · simp only [EVT, resR, single, evLoad, cut, TIS, CS, Nat.reduceAdd, Nat.reduceEqDiff, ↓reduceIte, reduceCtorEq, Nat.reduceLT, Nat.reduceLeDiff, Nat.reduceSub, Nat.reduceBEq]
          (repeat' apply And.intro) <;> first | rfl | assumption | omega | (simp; done)
        exact (.bool' rfl)
end
end Go.Proofs.Ytecdonbjabjaeaa
