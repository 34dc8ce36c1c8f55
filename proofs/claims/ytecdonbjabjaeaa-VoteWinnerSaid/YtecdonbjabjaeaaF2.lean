/- Functions of the program as Lean functions, and that they are so; printed by a program of mine. -/
import Derived.Test.YtecdonbjabjaeaaF1
set_option linter.unusedSimpArgs false
set_option linter.unusedVariables false
namespace Go.Proofs.Ytecdonbjabjaeaa
open Go.Ab
noncomputable section

def law14_Fits_J3 (s1 : Seat) : Option Bool :=
  (ref14_Has_f s1.peers s1.id).bind fun r1 => some (r1)
def law14_Fits_L1 (s1 : Seat) : Nat → Int → Option Bool
  | 0, _ => none
  | m_ + 1, i1 => cond (decide (i1 < (s1.peers.length : Int))) ((idx s1.peers (IntKind.wrap .i64 (i1 - 1))).bind fun x1 => (idx s1.peers i1).bind fun x2 => cond (decide (x2 ≤ x1)) (some (false)) (law14_Fits_L1 s1 m_ (IntKind.wrap .i64 (i1 + 1)))) (law14_Fits_J3 s1)
def law14_Fits_J2 (s1 : Seat) : Option Bool :=
  law14_Fits_L1 s1 BIG 1
def law14_Fits_J4 (k_law14_Fits_L2 : Int → Option Bool) (i2 : Int) (v2 : Bool) : Option Bool :=
  cond v2 (some (false)) (k_law14_Fits_L2 (IntKind.wrap .i64 (i2 + 1)))
def law14_Fits_L2 (s1 : Seat) : Nat → Int → Option Bool
  | 0, _ => none
  | m_ + 1, i2 => cond (decide (i2 < (s1.log.length : Int))) ((idx s1.log i2).bind fun x3 => law14_Fits_J4 (law14_Fits_L2 s1 m_) i2 ((decide (30 < (x3.data.length : Int))) || ((decide (x3.term < 0)) || (decide (1000000 < x3.term))))) (law14_Fits_J2 s1)
def law14_Fits_J1 (s1 : Seat) (v1 : Bool) : Option Bool :=
  cond v1 (some (false)) (law14_Fits_L2 s1 BIG 0)
def law14_Fits_f (s1 : Seat) : Option Bool :=
  law14_Fits_J1 s1 ((decide (30 < (s1.peers.length : Int))) || ((decide (30 < (s1.log.length : Int))) || ((decide (30 < (s1.votes.length : Int))) || ((decide (30 < (s1.next.length : Int))) || ((decide (30 < (s1.match_.length : Int))) || ((decide (s1.term < 0)) || ((decide (1000000 < s1.term)) || ((decide (s1.voted < (-1))) || ((decide (1000000 < s1.voted)) || ((decide (s1.id < 0)) || (decide (1000000 < s1.id))))))))))))
set_option maxHeartbeats 4000000 in
set_option maxRecDepth 20000 in
theorem law14_Fits_pc {s1 : Seat} {r : Bool} (H : law14_Fits_f s1 = some r) : PC Try.prog 10 [.agg (Seat.c s1)] (.bool r) := by
  refine pcA_of Try.func10 (by rfl) (by decide) 120 (by rfl) [.tmp 2] (by rfl) ?_
  unfold law14_Fits_f at H
  simp only [ent]
  refine a_seq ?_
  refine a_reg _ rfl (s := ?zs1) ?_ ?_
  rotate_left
  · simp (maxSteps := 2000000) only [EVT, stepR, evOp, St.ev, St.app, St.put, wrs, allOne, datOf, datOf1, TIS, CS, Nat.reduceAdd, Nat.reduceMul, Nat.reduceEqDiff, ↓reduceIte, reduceCtorEq, Nat.reduceLT, Nat.reduceLeDiff]
    (repeat' apply And.intro) <;> first | rfl | assumption | omega | (simp; done) | (simp; omega) | (simp_all; done)
  refine sA_n ?_
  refine a_seq ?_
  refine a_cut (fun s => ∃ (v1 : Bool) (t0 : Nat → Dat), law14_Fits_J1 s1 v1 = some r ∧ s = ⟨tl t0 [(1, .ptr 0 0 0 10), (62, .bool v1)], hl [⟨25, 10, false, [[.int .i64 s1.id, .list 1 (s1.peers.map (ci .i64)), .int .i64 s1.term, .int .i64 s1.voted, .int .i64 s1.role, .list 2 (s1.log.map Entry.c), .int .i64 s1.commit, .list 1 (s1.votes.map (ci .i64)), .list 1 (s1.next.map (ci .i64)), .list 1 (s1.match_.map (ci .i64))]]⟩], 1, 120⟩) ?_ ?_
  · refine bool_split (b := (decide (30 < (s1.peers.length : Int)))) (fun zc8 => ?_) (fun zc8 => ?_)
    · rw [zc8] at H
      refine a_reg _ rfl (s := ?zs16) ?_ ?_
      rotate_left
      · simp (maxSteps := 2000000) only [EVT, stepR, evOp, St.ev, St.app, St.put, wrs, evFieldAddr, evLoad, cut, evBuiltin, datOf, datOf1, evBin, binInt, TIS, CS, Nat.reduceAdd, Nat.reduceMul, Nat.reduceEqDiff, ↓reduceIte, reduceCtorEq, Nat.reduceLT, Nat.reduceLeDiff, Array.reduceGetElem?, Nat.reduceSub, Nat.reduceBEq, ↓zc8]
        try simp (maxSteps := 2000000) only [EVT, stepR, evOp, St.ev, St.app, St.put, wrs, evFieldAddr, evLoad, cut, evBuiltin, datOf, datOf1, evBin, binInt, TIS, CS, Nat.reduceAdd, Nat.reduceMul, Nat.reduceEqDiff, ↓reduceIte, reduceCtorEq, Nat.reduceLT, Nat.reduceLeDiff, Array.reduceGetElem?, Nat.reduceSub, Nat.reduceBEq, ↓zc8]
        (repeat' apply And.intro) <;> first | rfl | assumption | omega | (simp; done) | (simp; omega) | (simp_all; done)
      refine cA_n ?_
      refine wk_l [(some 0, ⟨25, 10, false, [[.int .i64 s1.id, .list 1 (s1.peers.map (ci .i64)), .int .i64 s1.term, .int .i64 s1.voted, .int .i64 s1.role, .list 2 (s1.log.map Entry.c), .int .i64 s1.commit, .list 1 (s1.votes.map (ci .i64)), .list 1 (s1.next.map (ci .i64)), .list 1 (s1.match_.map (ci .i64))]]⟩)] [] [(1, .ptr 0 0 0 10), (62, .bool true)] (by show ([1, 62] : List Nat).Nodup; decide) (by show ([0] : List Nat).Nodup; decide) ?_ ?_ (fun t0 => ⟨true, t0, H, rfl⟩)
      · exact (allB_some (by rfl) rfl (.cons (.cons (.int' rfl) (.cons (.lst _ _ _ (ci_pu .i64) rfl) (.cons (.int' rfl) (.cons (.int' rfl) (.cons (.int' rfl) (.cons (.lst _ _ _ Entry.pu rfl) (.cons (.int' rfl) (.cons (.lst _ _ _ (ci_pu .i64) rfl) (.cons (.lst _ _ _ (ci_pu .i64) rfl) (.cons (.lst _ _ _ (ci_pu .i64) rfl) .nil)))))))))) .nil) trivial)
      · (simp only [AllT, tl_cons, tl_nil, upd_apply, List.getD_cons_zero, List.getD_cons_succ, Nat.reduceEqDiff, ↓reduceIte, and_true]); exact ⟨(.ptr _ _ _ _ _ rfl), (.bool' (by first | rfl | assumption | (simp_all; done)))⟩
    · rw [zc8] at H
      refine bool_split (b := (decide (30 < (s1.log.length : Int)))) (fun zc9 => ?_) (fun zc9 => ?_)
      · rw [zc9] at H
        refine a_reg _ rfl (s := ?zs17) ?_ ?_
        rotate_left
        · simp (maxSteps := 2000000) only [EVT, stepR, evOp, St.ev, St.app, St.put, wrs, evFieldAddr, evLoad, cut, evBuiltin, datOf, datOf1, evBin, binInt, TIS, CS, Nat.reduceAdd, Nat.reduceMul, Nat.reduceEqDiff, ↓reduceIte, reduceCtorEq, Nat.reduceLT, Nat.reduceLeDiff, Array.reduceGetElem?, Nat.reduceSub, Nat.reduceBEq, ↓zc8, ↓zc9]
          try simp (maxSteps := 2000000) only [EVT, stepR, evOp, St.ev, St.app, St.put, wrs, evFieldAddr, evLoad, cut, evBuiltin, datOf, datOf1, evBin, binInt, TIS, CS, Nat.reduceAdd, Nat.reduceMul, Nat.reduceEqDiff, ↓reduceIte, reduceCtorEq, Nat.reduceLT, Nat.reduceLeDiff, Array.reduceGetElem?, Nat.reduceSub, Nat.reduceBEq, ↓zc8, ↓zc9]
          (repeat' apply And.intro) <;> first | rfl | assumption | omega | (simp; done) | (simp; omega) | (simp_all; done)
        refine cA_n ?_
        refine wk_l [(some 0, ⟨25, 10, false, [[.int .i64 s1.id, .list 1 (s1.peers.map (ci .i64)), .int .i64 s1.term, .int .i64 s1.voted, .int .i64 s1.role, .list 2 (s1.log.map Entry.c), .int .i64 s1.commit, .list 1 (s1.votes.map (ci .i64)), .list 1 (s1.next.map (ci .i64)), .list 1 (s1.match_.map (ci .i64))]]⟩)] [] [(1, .ptr 0 0 0 10), (62, .bool true)] (by show ([1, 62] : List Nat).Nodup; decide) (by show ([0] : List Nat).Nodup; decide) ?_ ?_ (fun t0 => ⟨true, t0, H, rfl⟩)
        · exact (allB_some (by rfl) rfl (.cons (.cons (.int' rfl) (.cons (.lst _ _ _ (ci_pu .i64) rfl) (.cons (.int' rfl) (.cons (.int' rfl) (.cons (.int' rfl) (.cons (.lst _ _ _ Entry.pu rfl) (.cons (.int' rfl) (.cons (.lst _ _ _ (ci_pu .i64) rfl) (.cons (.lst _ _ _ (ci_pu .i64) rfl) (.cons (.lst _ _ _ (ci_pu .i64) rfl) .nil)))))))))) .nil) trivial)
        · (simp only [AllT, tl_cons, tl_nil, upd_apply, List.getD_cons_zero, List.getD_cons_succ, Nat.reduceEqDiff, ↓reduceIte, and_true]); exact ⟨(.ptr _ _ _ _ _ rfl), (.bool' (by first | rfl | assumption | (simp_all; done)))⟩
      · rw [zc9] at H
        refine bool_split (b := (decide (30 < (s1.votes.length : Int)))) (fun zc10 => ?_) (fun zc10 => ?_)
        · rw [zc10] at H
          refine a_reg _ rfl (s := ?zs18) ?_ ?_
          rotate_left
          · simp (maxSteps := 2000000) only [EVT, stepR, evOp, St.ev, St.app, St.put, wrs, evFieldAddr, evLoad, cut, evBuiltin, datOf, datOf1, evBin, binInt, TIS, CS, Nat.reduceAdd, Nat.reduceMul, Nat.reduceEqDiff, ↓reduceIte, reduceCtorEq, Nat.reduceLT, Nat.reduceLeDiff, Array.reduceGetElem?, Nat.reduceSub, Nat.reduceBEq, ↓zc8, ↓zc9, ↓zc10]
            try simp (maxSteps := 2000000) only [EVT, stepR, evOp, St.ev, St.app, St.put, wrs, evFieldAddr, evLoad, cut, evBuiltin, datOf, datOf1, evBin, binInt, TIS, CS, Nat.reduceAdd, Nat.reduceMul, Nat.reduceEqDiff, ↓reduceIte, reduceCtorEq, Nat.reduceLT, Nat.reduceLeDiff, Array.reduceGetElem?, Nat.reduceSub, Nat.reduceBEq, ↓zc8, ↓zc9, ↓zc10]
            (repeat' apply And.intro) <;> first | rfl | assumption | omega | (simp; done) | (simp; omega) | (simp_all; done)
          refine cA_n ?_
          refine wk_l [(some 0, ⟨25, 10, false, [[.int .i64 s1.id, .list 1 (s1.peers.map (ci .i64)), .int .i64 s1.term, .int .i64 s1.voted, .int .i64 s1.role, .list 2 (s1.log.map Entry.c), .int .i64 s1.commit, .list 1 (s1.votes.map (ci .i64)), .list 1 (s1.next.map (ci .i64)), .list 1 (s1.match_.map (ci .i64))]]⟩)] [] [(1, .ptr 0 0 0 10), (62, .bool true)] (by show ([1, 62] : List Nat).Nodup; decide) (by show ([0] : List Nat).Nodup; decide) ?_ ?_ (fun t0 => ⟨true, t0, H, rfl⟩)
          · exact (allB_some (by rfl) rfl (.cons (.cons (.int' rfl) (.cons (.lst _ _ _ (ci_pu .i64) rfl) (.cons (.int' rfl) (.cons (.int' rfl) (.cons (.int' rfl) (.cons (.lst _ _ _ Entry.pu rfl) (.cons (.int' rfl) (.cons (.lst _ _ _ (ci_pu .i64) rfl) (.cons (.lst _ _ _ (ci_pu .i64) rfl) (.cons (.lst _ _ _ (ci_pu .i64) rfl) .nil)))))))))) .nil) trivial)
          · (simp only [AllT, tl_cons, tl_nil, upd_apply, List.getD_cons_zero, List.getD_cons_succ, Nat.reduceEqDiff, ↓reduceIte, and_true]); exact ⟨(.ptr _ _ _ _ _ rfl), (.bool' (by first | rfl | assumption | (simp_all; done)))⟩
        · rw [zc10] at H
          refine bool_split (b := (decide (30 < (s1.next.length : Int)))) (fun zc11 => ?_) (fun zc11 => ?_)
          · rw [zc11] at H
            refine a_reg _ rfl (s := ?zs19) ?_ ?_
            rotate_left
            · simp (maxSteps := 2000000) only [EVT, stepR, evOp, St.ev, St.app, St.put, wrs, evFieldAddr, evLoad, cut, evBuiltin, datOf, datOf1, evBin, binInt, TIS, CS, Nat.reduceAdd, Nat.reduceMul, Nat.reduceEqDiff, ↓reduceIte, reduceCtorEq, Nat.reduceLT, Nat.reduceLeDiff, Array.reduceGetElem?, Nat.reduceSub, Nat.reduceBEq, ↓zc8, ↓zc9, ↓zc10, ↓zc11]
              try simp (maxSteps := 2000000) only [EVT, stepR, evOp, St.ev, St.app, St.put, wrs, evFieldAddr, evLoad, cut, evBuiltin, datOf, datOf1, evBin, binInt, TIS, CS, Nat.reduceAdd, Nat.reduceMul, Nat.reduceEqDiff, ↓reduceIte, reduceCtorEq, Nat.reduceLT, Nat.reduceLeDiff, Array.reduceGetElem?, Nat.reduceSub, Nat.reduceBEq, ↓zc8, ↓zc9, ↓zc10, ↓zc11]
              (repeat' apply And.intro) <;> first | rfl | assumption | omega | (simp; done) | (simp; omega) | (simp_all; done)
            refine cA_n ?_
            refine wk_l [(some 0, ⟨25, 10, false, [[.int .i64 s1.id, .list 1 (s1.peers.map (ci .i64)), .int .i64 s1.term, .int .i64 s1.voted, .int .i64 s1.role, .list 2 (s1.log.map Entry.c), .int .i64 s1.commit, .list 1 (s1.votes.map (ci .i64)), .list 1 (s1.next.map (ci .i64)), .list 1 (s1.match_.map (ci .i64))]]⟩)] [] [(1, .ptr 0 0 0 10), (62, .bool true)] (by show ([1, 62] : List Nat).Nodup; decide) (by show ([0] : List Nat).Nodup; decide) ?_ ?_ (fun t0 => ⟨true, t0, H, rfl⟩)
            · exact (allB_some (by rfl) rfl (.cons (.cons (.int' rfl) (.cons (.lst _ _ _ (ci_pu .i64) rfl) (.cons (.int' rfl) (.cons (.int' rfl) (.cons (.int' rfl) (.cons (.lst _ _ _ Entry.pu rfl) (.cons (.int' rfl) (.cons (.lst _ _ _ (ci_pu .i64) rfl) (.cons (.lst _ _ _ (ci_pu .i64) rfl) (.cons (.lst _ _ _ (ci_pu .i64) rfl) .nil)))))))))) .nil) trivial)
            · (simp only [AllT, tl_cons, tl_nil, upd_apply, List.getD_cons_zero, List.getD_cons_succ, Nat.reduceEqDiff, ↓reduceIte, and_true]); exact ⟨(.ptr _ _ _ _ _ rfl), (.bool' (by first | rfl | assumption | (simp_all; done)))⟩
          · rw [zc11] at H
            refine bool_split (b := (decide (30 < (s1.match_.length : Int)))) (fun zc12 => ?_) (fun zc12 => ?_)
            · rw [zc12] at H
              refine a_reg _ rfl (s := ?zs20) ?_ ?_
              rotate_left
              · simp (maxSteps := 2000000) only [EVT, stepR, evOp, St.ev, St.app, St.put, wrs, evFieldAddr, evLoad, cut, evBuiltin, datOf, datOf1, evBin, binInt, TIS, CS, Nat.reduceAdd, Nat.reduceMul, Nat.reduceEqDiff, ↓reduceIte, reduceCtorEq, Nat.reduceLT, Nat.reduceLeDiff, Array.reduceGetElem?, Nat.reduceSub, Nat.reduceBEq, ↓zc8, ↓zc9, ↓zc10, ↓zc11, ↓zc12]
                try simp (maxSteps := 2000000) only [EVT, stepR, evOp, St.ev, St.app, St.put, wrs, evFieldAddr, evLoad, cut, evBuiltin, datOf, datOf1, evBin, binInt, TIS, CS, Nat.reduceAdd, Nat.reduceMul, Nat.reduceEqDiff, ↓reduceIte, reduceCtorEq, Nat.reduceLT, Nat.reduceLeDiff, Array.reduceGetElem?, Nat.reduceSub, Nat.reduceBEq, ↓zc8, ↓zc9, ↓zc10, ↓zc11, ↓zc12]
                (repeat' apply And.intro) <;> first | rfl | assumption | omega | (simp; done) | (simp; omega) | (simp_all; done)
              refine cA_n ?_
              refine wk_l [(some 0, ⟨25, 10, false, [[.int .i64 s1.id, .list 1 (s1.peers.map (ci .i64)), .int .i64 s1.term, .int .i64 s1.voted, .int .i64 s1.role, .list 2 (s1.log.map Entry.c), .int .i64 s1.commit, .list 1 (s1.votes.map (ci .i64)), .list 1 (s1.next.map (ci .i64)), .list 1 (s1.match_.map (ci .i64))]]⟩)] [] [(1, .ptr 0 0 0 10), (62, .bool true)] (by show ([1, 62] : List Nat).Nodup; decide) (by show ([0] : List Nat).Nodup; decide) ?_ ?_ (fun t0 => ⟨true, t0, H, rfl⟩)
              · exact (allB_some (by rfl) rfl (.cons (.cons (.int' rfl) (.cons (.lst _ _ _ (ci_pu .i64) rfl) (.cons (.int' rfl) (.cons (.int' rfl) (.cons (.int' rfl) (.cons (.lst _ _ _ Entry.pu rfl) (.cons (.int' rfl) (.cons (.lst _ _ _ (ci_pu .i64) rfl) (.cons (.lst _ _ _ (ci_pu .i64) rfl) (.cons (.lst _ _ _ (ci_pu .i64) rfl) .nil)))))))))) .nil) trivial)
              · (simp only [AllT, tl_cons, tl_nil, upd_apply, List.getD_cons_zero, List.getD_cons_succ, Nat.reduceEqDiff, ↓reduceIte, and_true]); exact ⟨(.ptr _ _ _ _ _ rfl), (.bool' (by first | rfl | assumption | (simp_all; done)))⟩
            · rw [zc12] at H
              refine bool_split (b := (decide (s1.term < 0))) (fun zc13 => ?_) (fun zc13 => ?_)
              · rw [zc13] at H
                refine a_reg _ rfl (s := ?zs21) ?_ ?_
                rotate_left
                · simp (maxSteps := 2000000) only [EVT, stepR, evOp, St.ev, St.app, St.put, wrs, evFieldAddr, evLoad, cut, evBuiltin, datOf, datOf1, evBin, binInt, TIS, CS, Nat.reduceAdd, Nat.reduceMul, Nat.reduceEqDiff, ↓reduceIte, reduceCtorEq, Nat.reduceLT, Nat.reduceLeDiff, Array.reduceGetElem?, Nat.reduceSub, Nat.reduceBEq, ↓zc8, ↓zc9, ↓zc10, ↓zc11, ↓zc12, ↓zc13]
                  try simp (maxSteps := 2000000) only [EVT, stepR, evOp, St.ev, St.app, St.put, wrs, evFieldAddr, evLoad, cut, evBuiltin, datOf, datOf1, evBin, binInt, TIS, CS, Nat.reduceAdd, Nat.reduceMul, Nat.reduceEqDiff, ↓reduceIte, reduceCtorEq, Nat.reduceLT, Nat.reduceLeDiff, Array.reduceGetElem?, Nat.reduceSub, Nat.reduceBEq, ↓zc8, ↓zc9, ↓zc10, ↓zc11, ↓zc12, ↓zc13]
                  (repeat' apply And.intro) <;> first | rfl | assumption | omega | (simp; done) | (simp; omega) | (simp_all; done)
                refine cA_n ?_
                refine wk_l [(some 0, ⟨25, 10, false, [[.int .i64 s1.id, .list 1 (s1.peers.map (ci .i64)), .int .i64 s1.term, .int .i64 s1.voted, .int .i64 s1.role, .list 2 (s1.log.map Entry.c), .int .i64 s1.commit, .list 1 (s1.votes.map (ci .i64)), .list 1 (s1.next.map (ci .i64)), .list 1 (s1.match_.map (ci .i64))]]⟩)] [] [(1, .ptr 0 0 0 10), (62, .bool true)] (by show ([1, 62] : List Nat).Nodup; decide) (by show ([0] : List Nat).Nodup; decide) ?_ ?_ (fun t0 => ⟨true, t0, H, rfl⟩)
                · exact (allB_some (by rfl) rfl (.cons (.cons (.int' rfl) (.cons (.lst _ _ _ (ci_pu .i64) rfl) (.cons (.int' rfl) (.cons (.int' rfl) (.cons (.int' rfl) (.cons (.lst _ _ _ Entry.pu rfl) (.cons (.int' rfl) (.cons (.lst _ _ _ (ci_pu .i64) rfl) (.cons (.lst _ _ _ (ci_pu .i64) rfl) (.cons (.lst _ _ _ (ci_pu .i64) rfl) .nil)))))))))) .nil) trivial)
                · (simp only [AllT, tl_cons, tl_nil, upd_apply, List.getD_cons_zero, List.getD_cons_succ, Nat.reduceEqDiff, ↓reduceIte, and_true]); exact ⟨(.ptr _ _ _ _ _ rfl), (.bool' (by first | rfl | assumption | (simp_all; done)))⟩
              · rw [zc13] at H
                refine bool_split (b := (decide (1000000 < s1.term))) (fun zc14 => ?_) (fun zc14 => ?_)
                · rw [zc14] at H
                  refine a_reg _ rfl (s := ?zs22) ?_ ?_
                  rotate_left
                  · simp (maxSteps := 2000000) only [EVT, stepR, evOp, St.ev, St.app, St.put, wrs, evFieldAddr, evLoad, cut, evBuiltin, datOf, datOf1, evBin, binInt, TIS, CS, Nat.reduceAdd, Nat.reduceMul, Nat.reduceEqDiff, ↓reduceIte, reduceCtorEq, Nat.reduceLT, Nat.reduceLeDiff, Array.reduceGetElem?, Nat.reduceSub, Nat.reduceBEq, ↓zc8, ↓zc9, ↓zc10, ↓zc11, ↓zc12, ↓zc13, ↓zc14]
                    try simp (maxSteps := 2000000) only [EVT, stepR, evOp, St.ev, St.app, St.put, wrs, evFieldAddr, evLoad, cut, evBuiltin, datOf, datOf1, evBin, binInt, TIS, CS, Nat.reduceAdd, Nat.reduceMul, Nat.reduceEqDiff, ↓reduceIte, reduceCtorEq, Nat.reduceLT, Nat.reduceLeDiff, Array.reduceGetElem?, Nat.reduceSub, Nat.reduceBEq, ↓zc8, ↓zc9, ↓zc10, ↓zc11, ↓zc12, ↓zc13, ↓zc14]
                    (repeat' apply And.intro) <;> first | rfl | assumption | omega | (simp; done) | (simp; omega) | (simp_all; done)
                  refine cA_n ?_
                  refine wk_l [(some 0, ⟨25, 10, false, [[.int .i64 s1.id, .list 1 (s1.peers.map (ci .i64)), .int .i64 s1.term, .int .i64 s1.voted, .int .i64 s1.role, .list 2 (s1.log.map Entry.c), .int .i64 s1.commit, .list 1 (s1.votes.map (ci .i64)), .list 1 (s1.next.map (ci .i64)), .list 1 (s1.match_.map (ci .i64))]]⟩)] [] [(1, .ptr 0 0 0 10), (62, .bool true)] (by show ([1, 62] : List Nat).Nodup; decide) (by show ([0] : List Nat).Nodup; decide) ?_ ?_ (fun t0 => ⟨true, t0, H, rfl⟩)
                  · exact (allB_some (by rfl) rfl (.cons (.cons (.int' rfl) (.cons (.lst _ _ _ (ci_pu .i64) rfl) (.cons (.int' rfl) (.cons (.int' rfl) (.cons (.int' rfl) (.cons (.lst _ _ _ Entry.pu rfl) (.cons (.int' rfl) (.cons (.lst _ _ _ (ci_pu .i64) rfl) (.cons (.lst _ _ _ (ci_pu .i64) rfl) (.cons (.lst _ _ _ (ci_pu .i64) rfl) .nil)))))))))) .nil) trivial)
                  · (simp only [AllT, tl_cons, tl_nil, upd_apply, List.getD_cons_zero, List.getD_cons_succ, Nat.reduceEqDiff, ↓reduceIte, and_true]); exact ⟨(.ptr _ _ _ _ _ rfl), (.bool' (by first | rfl | assumption | (simp_all; done)))⟩
                · rw [zc14] at H
                  refine bool_split (b := (decide (s1.voted < (-1)))) (fun zc15 => ?_) (fun zc15 => ?_)
                  · rw [zc15] at H
                    refine a_reg _ rfl (s := ?zs23) ?_ ?_
                    rotate_left
                    · simp (maxSteps := 2000000) only [EVT, stepR, evOp, St.ev, St.app, St.put, wrs, evFieldAddr, evLoad, cut, evBuiltin, datOf, datOf1, evBin, binInt, TIS, CS, Nat.reduceAdd, Nat.reduceMul, Nat.reduceEqDiff, ↓reduceIte, reduceCtorEq, Nat.reduceLT, Nat.reduceLeDiff, Array.reduceGetElem?, Nat.reduceSub, Nat.reduceBEq, ↓zc8, ↓zc9, ↓zc10, ↓zc11, ↓zc12, ↓zc13, ↓zc14, ↓zc15]
                      try simp (maxSteps := 2000000) only [EVT, stepR, evOp, St.ev, St.app, St.put, wrs, evFieldAddr, evLoad, cut, evBuiltin, datOf, datOf1, evBin, binInt, TIS, CS, Nat.reduceAdd, Nat.reduceMul, Nat.reduceEqDiff, ↓reduceIte, reduceCtorEq, Nat.reduceLT, Nat.reduceLeDiff, Array.reduceGetElem?, Nat.reduceSub, Nat.reduceBEq, ↓zc8, ↓zc9, ↓zc10, ↓zc11, ↓zc12, ↓zc13, ↓zc14, ↓zc15]
                      (repeat' apply And.intro) <;> first | rfl | assumption | omega | (simp; done) | (simp; omega) | (simp_all; done)
                    refine cA_n ?_
                    refine wk_l [(some 0, ⟨25, 10, false, [[.int .i64 s1.id, .list 1 (s1.peers.map (ci .i64)), .int .i64 s1.term, .int .i64 s1.voted, .int .i64 s1.role, .list 2 (s1.log.map Entry.c), .int .i64 s1.commit, .list 1 (s1.votes.map (ci .i64)), .list 1 (s1.next.map (ci .i64)), .list 1 (s1.match_.map (ci .i64))]]⟩)] [] [(1, .ptr 0 0 0 10), (62, .bool true)] (by show ([1, 62] : List Nat).Nodup; decide) (by show ([0] : List Nat).Nodup; decide) ?_ ?_ (fun t0 => ⟨true, t0, H, rfl⟩)
                    · exact (allB_some (by rfl) rfl (.cons (.cons (.int' rfl) (.cons (.lst _ _ _ (ci_pu .i64) rfl) (.cons (.int' rfl) (.cons (.int' rfl) (.cons (.int' rfl) (.cons (.lst _ _ _ Entry.pu rfl) (.cons (.int' rfl) (.cons (.lst _ _ _ (ci_pu .i64) rfl) (.cons (.lst _ _ _ (ci_pu .i64) rfl) (.cons (.lst _ _ _ (ci_pu .i64) rfl) .nil)))))))))) .nil) trivial)
                    · (simp only [AllT, tl_cons, tl_nil, upd_apply, List.getD_cons_zero, List.getD_cons_succ, Nat.reduceEqDiff, ↓reduceIte, and_true]); exact ⟨(.ptr _ _ _ _ _ rfl), (.bool' (by first | rfl | assumption | (simp_all; done)))⟩
                  · rw [zc15] at H
                    refine bool_split (b := (decide (1000000 < s1.voted))) (fun zc16 => ?_) (fun zc16 => ?_)
                    · rw [zc16] at H
                      refine a_reg _ rfl (s := ?zs24) ?_ ?_
                      rotate_left
                      · simp (maxSteps := 2000000) only [EVT, stepR, evOp, St.ev, St.app, St.put, wrs, evFieldAddr, evLoad, cut, evBuiltin, datOf, datOf1, evBin, binInt, TIS, CS, Nat.reduceAdd, Nat.reduceMul, Nat.reduceEqDiff, ↓reduceIte, reduceCtorEq, Nat.reduceLT, Nat.reduceLeDiff, Array.reduceGetElem?, Nat.reduceSub, Nat.reduceBEq, ↓zc8, ↓zc9, ↓zc10, ↓zc11, ↓zc12, ↓zc13, ↓zc14, ↓zc15, ↓zc16]
                        try simp (maxSteps := 2000000) only [EVT, stepR, evOp, St.ev, St.app, St.put, wrs, evFieldAddr, evLoad, cut, evBuiltin, datOf, datOf1, evBin, binInt, TIS, CS, Nat.reduceAdd, Nat.reduceMul, Nat.reduceEqDiff, ↓reduceIte, reduceCtorEq, Nat.reduceLT, Nat.reduceLeDiff, Array.reduceGetElem?, Nat.reduceSub, Nat.reduceBEq, ↓zc8, ↓zc9, ↓zc10, ↓zc11, ↓zc12, ↓zc13, ↓zc14, ↓zc15, ↓zc16]
                        (repeat' apply And.intro) <;> first | rfl | assumption | omega | (simp; done) | (simp; omega) | (simp_all; done)
                      refine cA_n ?_
                      refine wk_l [(some 0, ⟨25, 10, false, [[.int .i64 s1.id, .list 1 (s1.peers.map (ci .i64)), .int .i64 s1.term, .int .i64 s1.voted, .int .i64 s1.role, .list 2 (s1.log.map Entry.c), .int .i64 s1.commit, .list 1 (s1.votes.map (ci .i64)), .list 1 (s1.next.map (ci .i64)), .list 1 (s1.match_.map (ci .i64))]]⟩)] [] [(1, .ptr 0 0 0 10), (62, .bool true)] (by show ([1, 62] : List Nat).Nodup; decide) (by show ([0] : List Nat).Nodup; decide) ?_ ?_ (fun t0 => ⟨true, t0, H, rfl⟩)
                      · exact (allB_some (by rfl) rfl (.cons (.cons (.int' rfl) (.cons (.lst _ _ _ (ci_pu .i64) rfl) (.cons (.int' rfl) (.cons (.int' rfl) (.cons (.int' rfl) (.cons (.lst _ _ _ Entry.pu rfl) (.cons (.int' rfl) (.cons (.lst _ _ _ (ci_pu .i64) rfl) (.cons (.lst _ _ _ (ci_pu .i64) rfl) (.cons (.lst _ _ _ (ci_pu .i64) rfl) .nil)))))))))) .nil) trivial)
                      · (simp only [AllT, tl_cons, tl_nil, upd_apply, List.getD_cons_zero, List.getD_cons_succ, Nat.reduceEqDiff, ↓reduceIte, and_true]); exact ⟨(.ptr _ _ _ _ _ rfl), (.bool' (by first | rfl | assumption | (simp_all; done)))⟩
                    · rw [zc16] at H
                      refine bool_split (b := (decide (s1.id < 0))) (fun zc17 => ?_) (fun zc17 => ?_)
                      · rw [zc17] at H
                        refine a_reg _ rfl (s := ?zs25) ?_ ?_
                        rotate_left
                        · simp (maxSteps := 2000000) only [EVT, stepR, evOp, St.ev, St.app, St.put, wrs, evFieldAddr, evLoad, cut, evBuiltin, datOf, datOf1, evBin, binInt, TIS, CS, Nat.reduceAdd, Nat.reduceMul, Nat.reduceEqDiff, ↓reduceIte, reduceCtorEq, Nat.reduceLT, Nat.reduceLeDiff, Array.reduceGetElem?, Nat.reduceSub, Nat.reduceBEq, ↓zc8, ↓zc9, ↓zc10, ↓zc11, ↓zc12, ↓zc13, ↓zc14, ↓zc15, ↓zc16, ↓zc17]
                          try simp (maxSteps := 2000000) only [EVT, stepR, evOp, St.ev, St.app, St.put, wrs, evFieldAddr, evLoad, cut, evBuiltin, datOf, datOf1, evBin, binInt, TIS, CS, Nat.reduceAdd, Nat.reduceMul, Nat.reduceEqDiff, ↓reduceIte, reduceCtorEq, Nat.reduceLT, Nat.reduceLeDiff, Array.reduceGetElem?, Nat.reduceSub, Nat.reduceBEq, ↓zc8, ↓zc9, ↓zc10, ↓zc11, ↓zc12, ↓zc13, ↓zc14, ↓zc15, ↓zc16, ↓zc17]
                          (repeat' apply And.intro) <;> first | rfl | assumption | omega | (simp; done) | (simp; omega) | (simp_all; done)
                        refine cA_n ?_
                        refine wk_l [(some 0, ⟨25, 10, false, [[.int .i64 s1.id, .list 1 (s1.peers.map (ci .i64)), .int .i64 s1.term, .int .i64 s1.voted, .int .i64 s1.role, .list 2 (s1.log.map Entry.c), .int .i64 s1.commit, .list 1 (s1.votes.map (ci .i64)), .list 1 (s1.next.map (ci .i64)), .list 1 (s1.match_.map (ci .i64))]]⟩)] [] [(1, .ptr 0 0 0 10), (62, .bool true)] (by show ([1, 62] : List Nat).Nodup; decide) (by show ([0] : List Nat).Nodup; decide) ?_ ?_ (fun t0 => ⟨true, t0, H, rfl⟩)
                        · exact (allB_some (by rfl) rfl (.cons (.cons (.int' rfl) (.cons (.lst _ _ _ (ci_pu .i64) rfl) (.cons (.int' rfl) (.cons (.int' rfl) (.cons (.int' rfl) (.cons (.lst _ _ _ Entry.pu rfl) (.cons (.int' rfl) (.cons (.lst _ _ _ (ci_pu .i64) rfl) (.cons (.lst _ _ _ (ci_pu .i64) rfl) (.cons (.lst _ _ _ (ci_pu .i64) rfl) .nil)))))))))) .nil) trivial)
                        · (simp only [AllT, tl_cons, tl_nil, upd_apply, List.getD_cons_zero, List.getD_cons_succ, Nat.reduceEqDiff, ↓reduceIte, and_true]); exact ⟨(.ptr _ _ _ _ _ rfl), (.bool' (by first | rfl | assumption | (simp_all; done)))⟩
                      · rw [zc17] at H
                        refine a_reg _ rfl (s := ?zs26) ?_ ?_
                        rotate_left
                        · simp (maxSteps := 2000000) only [EVT, stepR, evOp, St.ev, St.app, St.put, wrs, evFieldAddr, evLoad, cut, evBuiltin, datOf, datOf1, evBin, binInt, TIS, CS, Nat.reduceAdd, Nat.reduceMul, Nat.reduceEqDiff, ↓reduceIte, reduceCtorEq, Nat.reduceLT, Nat.reduceLeDiff, Array.reduceGetElem?, Nat.reduceSub, Nat.reduceBEq, ↓zc8, ↓zc9, ↓zc10, ↓zc11, ↓zc12, ↓zc13, ↓zc14, ↓zc15, ↓zc16, ↓zc17]
                          try simp (maxSteps := 2000000) only [EVT, stepR, evOp, St.ev, St.app, St.put, wrs, evFieldAddr, evLoad, cut, evBuiltin, datOf, datOf1, evBin, binInt, TIS, CS, Nat.reduceAdd, Nat.reduceMul, Nat.reduceEqDiff, ↓reduceIte, reduceCtorEq, Nat.reduceLT, Nat.reduceLeDiff, Array.reduceGetElem?, Nat.reduceSub, Nat.reduceBEq, ↓zc8, ↓zc9, ↓zc10, ↓zc11, ↓zc12, ↓zc13, ↓zc14, ↓zc15, ↓zc16, ↓zc17]
                          (repeat' apply And.intro) <;> first | rfl | assumption | omega | (simp; done) | (simp; omega) | (simp_all; done)
                        refine cA_n ?_
                        refine wk_l [(some 0, ⟨25, 10, false, [[.int .i64 s1.id, .list 1 (s1.peers.map (ci .i64)), .int .i64 s1.term, .int .i64 s1.voted, .int .i64 s1.role, .list 2 (s1.log.map Entry.c), .int .i64 s1.commit, .list 1 (s1.votes.map (ci .i64)), .list 1 (s1.next.map (ci .i64)), .list 1 (s1.match_.map (ci .i64))]]⟩)] [] [(1, .ptr 0 0 0 10), (62, .bool (decide (1000000 < s1.id)))] (by show ([1, 62] : List Nat).Nodup; decide) (by show ([0] : List Nat).Nodup; decide) ?_ ?_ (fun t0 => ⟨(decide (1000000 < s1.id)), t0, H, rfl⟩)
                        · exact (allB_some (by rfl) rfl (.cons (.cons (.int' rfl) (.cons (.lst _ _ _ (ci_pu .i64) rfl) (.cons (.int' rfl) (.cons (.int' rfl) (.cons (.int' rfl) (.cons (.lst _ _ _ Entry.pu rfl) (.cons (.int' rfl) (.cons (.lst _ _ _ (ci_pu .i64) rfl) (.cons (.lst _ _ _ (ci_pu .i64) rfl) (.cons (.lst _ _ _ (ci_pu .i64) rfl) .nil)))))))))) .nil) trivial)
                        · (simp only [AllT, tl_cons, tl_nil, upd_apply, List.getD_cons_zero, List.getD_cons_succ, Nat.reduceEqDiff, ↓reduceIte, and_true]); exact ⟨(.ptr _ _ _ _ _ rfl), (.bool' rfl)⟩
  · rintro s ⟨v1, t0, H, rfl⟩
    unfold law14_Fits_J1 at H
    refine a_condb (v1) (by rfl) (fun zc1 => ?_) (fun zc1 => ?_)
    · have H := cond_t zc1 H
      refine a_seq ?_
      refine a_reg _ rfl (s := ?zs2) ?_ ?_
      rotate_left
      · simp (maxSteps := 2000000) only [EVT, stepR, evOp, St.ev, St.app, St.put, wrs, datOf, datOf1, TIS, CS, Nat.reduceAdd, Nat.reduceMul, Nat.reduceEqDiff, ↓reduceIte, reduceCtorEq, Nat.reduceLT, Nat.reduceLeDiff, ↓zc1]
        (repeat' apply And.intro) <;> first | rfl | assumption | omega | (simp; done) | (simp; omega) | (simp_all; done)
      refine sA_n ?_
      refine a_ret ?_
      refine sA_r ?_
      obtain rfl := Option.some.inj H
      refine e_r2 (d := ?zd1) ?_ ?_
      rotate_left
      · simp only [EVT, resR, single, evLoad, cut, TIS, CS, Nat.reduceAdd, Nat.reduceEqDiff, ↓reduceIte, reduceCtorEq, Nat.reduceLT, Nat.reduceLeDiff, Nat.reduceSub, Nat.reduceBEq, zc1]
        (repeat' apply And.intro) <;> first | rfl | assumption | omega | (simp; done)
      exact (.bool' (by first | rfl | assumption | (simp_all; done)))
    · have H := cond_f zc1 H
      refine a_skip ?_
      refine sA_n ?_
      refine a_cut (fun s => ∃ (t0 : Nat → Dat), law14_Fits_J2 s1 = some r ∧ s = ⟨tl t0 [(1, .ptr 0 0 0 10)], hl [⟨25, 10, false, [[.int .i64 s1.id, .list 1 (s1.peers.map (ci .i64)), .int .i64 s1.term, .int .i64 s1.voted, .int .i64 s1.role, .list 2 (s1.log.map Entry.c), .int .i64 s1.commit, .list 1 (s1.votes.map (ci .i64)), .list 1 (s1.next.map (ci .i64)), .list 1 (s1.match_.map (ci .i64))]]⟩], 1, 120⟩) ?_ ?_
      · refine a_seq ?_
        refine a_reg _ rfl (s := ?zs9) ?_ ?_
        rotate_left
        · simp (maxSteps := 2000000) only [EVT, stepR, evOp, St.ev, St.app, St.put, wrs, datOf, datOf1, TIS, CS, Nat.reduceAdd, Nat.reduceMul, Nat.reduceEqDiff, ↓reduceIte, reduceCtorEq, Nat.reduceLT, Nat.reduceLeDiff, ↓zc1]
          (repeat' apply And.intro) <;> first | rfl | assumption | omega | (simp; done) | (simp; omega) | (simp_all; done)
        refine sA_n ?_
        refine a_blk ?_
        refine a_loop (fun m s => ∃ (i2 : Int) (t0 : Nat → Dat), law14_Fits_L2 s1 m i2 = some r ∧ s = ⟨tl t0 [(1, .ptr 0 0 0 10), (3, .int .i64 i2)], hl [⟨25, 10, false, [[.int .i64 s1.id, .list 1 (s1.peers.map (ci .i64)), .int .i64 s1.term, .int .i64 s1.voted, .int .i64 s1.role, .list 2 (s1.log.map Entry.c), .int .i64 s1.commit, .list 1 (s1.votes.map (ci .i64)), .list 1 (s1.next.map (ci .i64)), .list 1 (s1.match_.map (ci .i64))]]⟩], 1, 120⟩) BIG ?_ ?_
        · refine wk_l [(some 0, ⟨25, 10, false, [[.int .i64 s1.id, .list 1 (s1.peers.map (ci .i64)), .int .i64 s1.term, .int .i64 s1.voted, .int .i64 s1.role, .list 2 (s1.log.map Entry.c), .int .i64 s1.commit, .list 1 (s1.votes.map (ci .i64)), .list 1 (s1.next.map (ci .i64)), .list 1 (s1.match_.map (ci .i64))]]⟩)] [] [(1, .ptr 0 0 0 10), (3, .int .i64 0)] (by show ([1, 3] : List Nat).Nodup; decide) (by show ([0] : List Nat).Nodup; decide) ?_ ?_ (fun t0 => ⟨0, t0, H, rfl⟩)
          · exact (allB_some (by rfl) rfl (.cons (.cons (.int' rfl) (.cons (.lst _ _ _ (ci_pu .i64) rfl) (.cons (.int' rfl) (.cons (.int' rfl) (.cons (.int' rfl) (.cons (.lst _ _ _ Entry.pu rfl) (.cons (.int' rfl) (.cons (.lst _ _ _ (ci_pu .i64) rfl) (.cons (.lst _ _ _ (ci_pu .i64) rfl) (.cons (.lst _ _ _ (ci_pu .i64) rfl) .nil)))))))))) .nil) trivial)
          · (simp only [AllT, tl_cons, tl_nil, upd_apply, List.getD_cons_zero, List.getD_cons_succ, Nat.reduceEqDiff, ↓reduceIte, and_true]); exact ⟨(.ptr _ _ _ _ _ rfl), (.int' rfl)⟩
        · rintro m_law14_Fits_L2 s ⟨i2, t0, H, rfl⟩
          obtain _ | m_law14_Fits_L2 := m_law14_Fits_L2
          · cases (show (none : Option _) = some _ from H)
          · rw [law14_Fits_L2] at H
            refine a_seq ?_
            refine a_seq ?_
            refine a_reg _ rfl (s := ?zs10) ?_ ?_
            rotate_left
            · simp (maxSteps := 2000000) only [EVT, stepR, evOp, St.ev, St.app, St.put, wrs, evFieldAddr, evLoad, cut, evBuiltin, evBin, binInt, TIS, CS, Nat.reduceAdd, Nat.reduceMul, Nat.reduceEqDiff, ↓reduceIte, reduceCtorEq, Nat.reduceLT, Nat.reduceLeDiff, Nat.reduceSub, Nat.reduceBEq]
              (repeat' apply And.intro) <;> first | rfl | assumption | omega | (simp; done) | (simp; omega) | (simp_all; done)
            refine sA_n ?_
            refine a_condb ((decide (i2 < (s1.log.length : Int)))) (by rfl) (fun zc4 => ?_) (fun zc4 => ?_)
            · have H := cond_t zc4 H
              refine a_skip ?_
              refine sA_n ?_
              refine a_seq ?_
              refine a_blk ?_
              refine a_cut (fun s => ∃ (v2 : Bool) (t0 : Nat → Dat), law14_Fits_J4 (law14_Fits_L2 s1 m_law14_Fits_L2) i2 v2 = some r ∧ s = ⟨tl t0 [(1, .ptr 0 0 0 10), (3, .int .i64 i2), (95, .bool v2)], hl [⟨25, 10, false, [[.int .i64 s1.id, .list 1 (s1.peers.map (ci .i64)), .int .i64 s1.term, .int .i64 s1.voted, .int .i64 s1.role, .list 2 (s1.log.map Entry.c), .int .i64 s1.commit, .list 1 (s1.votes.map (ci .i64)), .list 1 (s1.next.map (ci .i64)), .list 1 (s1.match_.map (ci .i64))]]⟩], 1, 120⟩) ?_ ?_
              · obtain ⟨x3, zh4, H⟩ := bind_some H
                have zg3 := idx_map zh4 Entry.c
                obtain ⟨zh4a, zh4b, _⟩ := idx_some zh4
                refine bool_split (b := (decide (30 < (x3.data.length : Int)))) (fun zc6 => ?_) (fun zc6 => ?_)
                · rw [zc6] at H
                  refine a_reg _ rfl (s := ?zs13) ?_ ?_
                  rotate_left
                  · simp (maxSteps := 2000000) only [EVT, stepR, evOp, St.ev, St.app, St.put, wrs, evFieldAddr, evLoad, cut, evIndexAddr, evBuiltin, datOf, datOf1, evBin, binInt, TIS, CS, Nat.reduceAdd, Nat.reduceMul, Nat.reduceEqDiff, ↓reduceIte, reduceCtorEq, Nat.reduceLT, Nat.reduceLeDiff, Array.reduceGetElem?, Int.reduceToNat, Nat.reduceSub, Nat.reduceBEq, ↓zc4, zg3, ↓zc6]
                    try simp (maxSteps := 2000000) only [EVT, stepR, evOp, St.ev, St.app, St.put, wrs, evFieldAddr, evLoad, cut, evIndexAddr, evBuiltin, datOf, datOf1, evBin, binInt, TIS, CS, Nat.reduceAdd, Nat.reduceMul, Nat.reduceEqDiff, ↓reduceIte, reduceCtorEq, Nat.reduceLT, Nat.reduceLeDiff, Array.reduceGetElem?, Int.reduceToNat, Nat.reduceSub, Nat.reduceBEq, ↓zc4, zg3, ↓zc6]
                    (repeat' apply And.intro) <;> first | rfl | assumption | omega | (simp; done) | (simp; omega) | (simp_all; done)
                  refine cA_n ?_
                  refine wk_l [(some 0, ⟨25, 10, false, [[.int .i64 s1.id, .list 1 (s1.peers.map (ci .i64)), .int .i64 s1.term, .int .i64 s1.voted, .int .i64 s1.role, .list 2 (s1.log.map Entry.c), .int .i64 s1.commit, .list 1 (s1.votes.map (ci .i64)), .list 1 (s1.next.map (ci .i64)), .list 1 (s1.match_.map (ci .i64))]]⟩)] [] [(1, .ptr 0 0 0 10), (3, .int .i64 i2), (95, .bool true)] (by show ([1, 3, 95] : List Nat).Nodup; decide) (by show ([0] : List Nat).Nodup; decide) ?_ ?_ (fun t0 => ⟨true, t0, H, rfl⟩)
                  · exact (allB_some (by rfl) rfl (.cons (.cons (.int' rfl) (.cons (.lst _ _ _ (ci_pu .i64) rfl) (.cons (.int' rfl) (.cons (.int' rfl) (.cons (.int' rfl) (.cons (.lst _ _ _ Entry.pu rfl) (.cons (.int' rfl) (.cons (.lst _ _ _ (ci_pu .i64) rfl) (.cons (.lst _ _ _ (ci_pu .i64) rfl) (.cons (.lst _ _ _ (ci_pu .i64) rfl) .nil)))))))))) .nil) trivial)
                  · (simp only [AllT, tl_cons, tl_nil, upd_apply, List.getD_cons_zero, List.getD_cons_succ, Nat.reduceEqDiff, ↓reduceIte, and_true]); exact ⟨(.ptr _ _ _ _ _ rfl), (.int' rfl), (.bool' (by first | rfl | assumption | (simp_all; done)))⟩
                · rw [zc6] at H
                  refine bool_split (b := (decide (x3.term < 0))) (fun zc7 => ?_) (fun zc7 => ?_)
                  · rw [zc7] at H
                    refine a_reg _ rfl (s := ?zs14) ?_ ?_
                    rotate_left
                    · simp (maxSteps := 2000000) only [EVT, stepR, evOp, St.ev, St.app, St.put, wrs, evFieldAddr, evLoad, cut, evIndexAddr, evBuiltin, datOf, datOf1, evBin, binInt, TIS, CS, Nat.reduceAdd, Nat.reduceMul, Nat.reduceEqDiff, ↓reduceIte, reduceCtorEq, Nat.reduceLT, Nat.reduceLeDiff, Array.reduceGetElem?, Int.reduceToNat, Nat.reduceSub, Nat.reduceBEq, ↓zc4, zg3, ↓zc6, ↓zc7]
                      try simp (maxSteps := 2000000) only [EVT, stepR, evOp, St.ev, St.app, St.put, wrs, evFieldAddr, evLoad, cut, evIndexAddr, evBuiltin, datOf, datOf1, evBin, binInt, TIS, CS, Nat.reduceAdd, Nat.reduceMul, Nat.reduceEqDiff, ↓reduceIte, reduceCtorEq, Nat.reduceLT, Nat.reduceLeDiff, Array.reduceGetElem?, Int.reduceToNat, Nat.reduceSub, Nat.reduceBEq, ↓zc4, zg3, ↓zc6, ↓zc7]
                      (repeat' apply And.intro) <;> first | rfl | assumption | omega | (simp; done) | (simp; omega) | (simp_all; done)
                    refine cA_n ?_
                    refine wk_l [(some 0, ⟨25, 10, false, [[.int .i64 s1.id, .list 1 (s1.peers.map (ci .i64)), .int .i64 s1.term, .int .i64 s1.voted, .int .i64 s1.role, .list 2 (s1.log.map Entry.c), .int .i64 s1.commit, .list 1 (s1.votes.map (ci .i64)), .list 1 (s1.next.map (ci .i64)), .list 1 (s1.match_.map (ci .i64))]]⟩)] [] [(1, .ptr 0 0 0 10), (3, .int .i64 i2), (95, .bool true)] (by show ([1, 3, 95] : List Nat).Nodup; decide) (by show ([0] : List Nat).Nodup; decide) ?_ ?_ (fun t0 => ⟨true, t0, H, rfl⟩)
                    · exact (allB_some (by rfl) rfl (.cons (.cons (.int' rfl) (.cons (.lst _ _ _ (ci_pu .i64) rfl) (.cons (.int' rfl) (.cons (.int' rfl) (.cons (.int' rfl) (.cons (.lst _ _ _ Entry.pu rfl) (.cons (.int' rfl) (.cons (.lst _ _ _ (ci_pu .i64) rfl) (.cons (.lst _ _ _ (ci_pu .i64) rfl) (.cons (.lst _ _ _ (ci_pu .i64) rfl) .nil)))))))))) .nil) trivial)
                    · (simp only [AllT, tl_cons, tl_nil, upd_apply, List.getD_cons_zero, List.getD_cons_succ, Nat.reduceEqDiff, ↓reduceIte, and_true]); exact ⟨(.ptr _ _ _ _ _ rfl), (.int' rfl), (.bool' (by first | rfl | assumption | (simp_all; done)))⟩
                  · rw [zc7] at H
                    refine a_reg _ rfl (s := ?zs15) ?_ ?_
                    rotate_left
                    · simp (maxSteps := 2000000) only [EVT, stepR, evOp, St.ev, St.app, St.put, wrs, evFieldAddr, evLoad, cut, evIndexAddr, evBuiltin, datOf, datOf1, evBin, binInt, TIS, CS, Nat.reduceAdd, Nat.reduceMul, Nat.reduceEqDiff, ↓reduceIte, reduceCtorEq, Nat.reduceLT, Nat.reduceLeDiff, Array.reduceGetElem?, Int.reduceToNat, Nat.reduceSub, Nat.reduceBEq, ↓zc4, zg3, ↓zc6, ↓zc7]
                      try simp (maxSteps := 2000000) only [EVT, stepR, evOp, St.ev, St.app, St.put, wrs, evFieldAddr, evLoad, cut, evIndexAddr, evBuiltin, datOf, datOf1, evBin, binInt, TIS, CS, Nat.reduceAdd, Nat.reduceMul, Nat.reduceEqDiff, ↓reduceIte, reduceCtorEq, Nat.reduceLT, Nat.reduceLeDiff, Array.reduceGetElem?, Int.reduceToNat, Nat.reduceSub, Nat.reduceBEq, ↓zc4, zg3, ↓zc6, ↓zc7]
                      (repeat' apply And.intro) <;> first | rfl | assumption | omega | (simp; done) | (simp; omega) | (simp_all; done)
                    refine cA_n ?_
                    refine wk_l [(some 0, ⟨25, 10, false, [[.int .i64 s1.id, .list 1 (s1.peers.map (ci .i64)), .int .i64 s1.term, .int .i64 s1.voted, .int .i64 s1.role, .list 2 (s1.log.map Entry.c), .int .i64 s1.commit, .list 1 (s1.votes.map (ci .i64)), .list 1 (s1.next.map (ci .i64)), .list 1 (s1.match_.map (ci .i64))]]⟩)] [] [(1, .ptr 0 0 0 10), (3, .int .i64 i2), (95, .bool (decide (1000000 < x3.term)))] (by show ([1, 3, 95] : List Nat).Nodup; decide) (by show ([0] : List Nat).Nodup; decide) ?_ ?_ (fun t0 => ⟨(decide (1000000 < x3.term)), t0, H, rfl⟩)
                    · exact (allB_some (by rfl) rfl (.cons (.cons (.int' rfl) (.cons (.lst _ _ _ (ci_pu .i64) rfl) (.cons (.int' rfl) (.cons (.int' rfl) (.cons (.int' rfl) (.cons (.lst _ _ _ Entry.pu rfl) (.cons (.int' rfl) (.cons (.lst _ _ _ (ci_pu .i64) rfl) (.cons (.lst _ _ _ (ci_pu .i64) rfl) (.cons (.lst _ _ _ (ci_pu .i64) rfl) .nil)))))))))) .nil) trivial)
                    · (simp only [AllT, tl_cons, tl_nil, upd_apply, List.getD_cons_zero, List.getD_cons_succ, Nat.reduceEqDiff, ↓reduceIte, and_true]); exact ⟨(.ptr _ _ _ _ _ rfl), (.int' rfl), (.bool' rfl)⟩
              · rintro s ⟨v2, t0, H, rfl⟩
                unfold law14_Fits_J4 at H
                refine a_condb (v2) (by rfl) (fun zc5 => ?_) (fun zc5 => ?_)
                · have H := cond_t zc5 H
                  refine a_seq ?_
                  refine a_reg _ rfl (s := ?zs11) ?_ ?_
                  rotate_left
                  · simp (maxSteps := 2000000) only [EVT, stepR, evOp, St.ev, St.app, St.put, wrs, datOf, datOf1, TIS, CS, Nat.reduceAdd, Nat.reduceMul, Nat.reduceEqDiff, ↓reduceIte, reduceCtorEq, Nat.reduceLT, Nat.reduceLeDiff, ↓zc5]
                    (repeat' apply And.intro) <;> first | rfl | assumption | omega | (simp; done) | (simp; omega) | (simp_all; done)
                  refine sA_n ?_
                  refine a_ret ?_
                  refine bA_r ?_
                  refine sA_r ?_
                  refine lA_r ?_
                  refine bA_r ?_
                  refine cA_r ?_
                  obtain rfl := Option.some.inj H
                  refine e_r2 (d := ?zd4) ?_ ?_
                  rotate_left
                  · simp only [EVT, resR, single, evLoad, cut, TIS, CS, Nat.reduceAdd, Nat.reduceEqDiff, ↓reduceIte, reduceCtorEq, Nat.reduceLT, Nat.reduceLeDiff, Nat.reduceSub, Nat.reduceBEq, zc5]
                    (repeat' apply And.intro) <;> first | rfl | assumption | omega | (simp; done)
                  exact (.bool' (by first | rfl | assumption | (simp_all; done)))
                · have H := cond_f zc5 H
                  refine a_skip ?_
                  refine bA_n ?_
                  refine sA_n ?_
                  refine a_reg _ rfl (s := ?zs12) ?_ ?_
                  rotate_left
                  · simp (maxSteps := 2000000) only [EVT, stepR, evOp, St.ev, St.app, St.put, wrs, datOf, datOf1, evBin, binInt, TIS, CS, Nat.reduceAdd, Nat.reduceMul, Nat.reduceEqDiff, ↓reduceIte, reduceCtorEq, Nat.reduceLT, Nat.reduceLeDiff, ↓zc5]
                    (repeat' apply And.intro) <;> first | rfl | assumption | omega | (simp; done) | (simp; omega) | (simp_all; done)
                  refine lA_n ?_
                  refine wk_l [(some 0, ⟨25, 10, false, [[.int .i64 s1.id, .list 1 (s1.peers.map (ci .i64)), .int .i64 s1.term, .int .i64 s1.voted, .int .i64 s1.role, .list 2 (s1.log.map Entry.c), .int .i64 s1.commit, .list 1 (s1.votes.map (ci .i64)), .list 1 (s1.next.map (ci .i64)), .list 1 (s1.match_.map (ci .i64))]]⟩)] [] [(1, .ptr 0 0 0 10), (3, .int .i64 (IntKind.wrap .i64 (i2 + 1)))] (by show ([1, 3] : List Nat).Nodup; decide) (by show ([0] : List Nat).Nodup; decide) ?_ ?_ (fun t0 => ⟨_, Nat.lt_succ_self _, (IntKind.wrap .i64 (i2 + 1)), t0, H, rfl⟩)
                  · exact (allB_some (by rfl) rfl (.cons (.cons (.int' rfl) (.cons (.lst _ _ _ (ci_pu .i64) rfl) (.cons (.int' rfl) (.cons (.int' rfl) (.cons (.int' rfl) (.cons (.lst _ _ _ Entry.pu rfl) (.cons (.int' rfl) (.cons (.lst _ _ _ (ci_pu .i64) rfl) (.cons (.lst _ _ _ (ci_pu .i64) rfl) (.cons (.lst _ _ _ (ci_pu .i64) rfl) .nil)))))))))) .nil) trivial)
                  · (simp only [AllT, tl_cons, tl_nil, upd_apply, List.getD_cons_zero, List.getD_cons_succ, Nat.reduceEqDiff, ↓reduceIte, and_true]); exact ⟨(.ptr _ _ _ _ _ rfl), (.int' rfl)⟩
            · have H := cond_f zc4 H
              refine a_exit ?_
              refine sA_e ?_
              refine lA_e ?_
              refine bA_hit ?_
              refine cA_n ?_
              refine wk_l [(some 0, ⟨25, 10, false, [[.int .i64 s1.id, .list 1 (s1.peers.map (ci .i64)), .int .i64 s1.term, .int .i64 s1.voted, .int .i64 s1.role, .list 2 (s1.log.map Entry.c), .int .i64 s1.commit, .list 1 (s1.votes.map (ci .i64)), .list 1 (s1.next.map (ci .i64)), .list 1 (s1.match_.map (ci .i64))]]⟩)] [] [(1, .ptr 0 0 0 10)] (by show ([1] : List Nat).Nodup; decide) (by show ([0] : List Nat).Nodup; decide) ?_ ?_ (fun t0 => ⟨t0, H, rfl⟩)
              · exact (allB_some (by rfl) rfl (.cons (.cons (.int' rfl) (.cons (.lst _ _ _ (ci_pu .i64) rfl) (.cons (.int' rfl) (.cons (.int' rfl) (.cons (.int' rfl) (.cons (.lst _ _ _ Entry.pu rfl) (.cons (.int' rfl) (.cons (.lst _ _ _ (ci_pu .i64) rfl) (.cons (.lst _ _ _ (ci_pu .i64) rfl) (.cons (.lst _ _ _ (ci_pu .i64) rfl) .nil)))))))))) .nil) trivial)
              · (simp only [AllT, tl_cons, tl_nil, upd_apply, List.getD_cons_zero, List.getD_cons_succ, Nat.reduceEqDiff, ↓reduceIte, and_true]); exact (.ptr _ _ _ _ _ rfl)
      · rintro s ⟨t0, H, rfl⟩
        unfold law14_Fits_J2 at H
        refine a_cut (fun s => ∃ (t0 : Nat → Dat), law14_Fits_J3 s1 = some r ∧ s = ⟨tl t0 [(1, .ptr 0 0 0 10)], hl [⟨25, 10, false, [[.int .i64 s1.id, .list 1 (s1.peers.map (ci .i64)), .int .i64 s1.term, .int .i64 s1.voted, .int .i64 s1.role, .list 2 (s1.log.map Entry.c), .int .i64 s1.commit, .list 1 (s1.votes.map (ci .i64)), .list 1 (s1.next.map (ci .i64)), .list 1 (s1.match_.map (ci .i64))]]⟩], 1, 120⟩) ?_ ?_
        · refine a_seq ?_
          refine a_reg _ rfl (s := ?zs4) ?_ ?_
          rotate_left
          · simp (maxSteps := 2000000) only [EVT, stepR, evOp, St.ev, St.app, St.put, wrs, datOf, datOf1, TIS, CS, Nat.reduceAdd, Nat.reduceMul, Nat.reduceEqDiff, ↓reduceIte, reduceCtorEq, Nat.reduceLT, Nat.reduceLeDiff]
            (repeat' apply And.intro) <;> first | rfl | assumption | omega | (simp; done) | (simp; omega) | (simp_all; done)
          refine sA_n ?_
          refine a_blk ?_
          refine a_loop (fun m s => ∃ (i1 : Int) (t0 : Nat → Dat), law14_Fits_L1 s1 m i1 = some r ∧ s = ⟨tl t0 [(1, .ptr 0 0 0 10), (4, .int .i64 i1)], hl [⟨25, 10, false, [[.int .i64 s1.id, .list 1 (s1.peers.map (ci .i64)), .int .i64 s1.term, .int .i64 s1.voted, .int .i64 s1.role, .list 2 (s1.log.map Entry.c), .int .i64 s1.commit, .list 1 (s1.votes.map (ci .i64)), .list 1 (s1.next.map (ci .i64)), .list 1 (s1.match_.map (ci .i64))]]⟩], 1, 120⟩) BIG ?_ ?_
          · refine wk_l [(some 0, ⟨25, 10, false, [[.int .i64 s1.id, .list 1 (s1.peers.map (ci .i64)), .int .i64 s1.term, .int .i64 s1.voted, .int .i64 s1.role, .list 2 (s1.log.map Entry.c), .int .i64 s1.commit, .list 1 (s1.votes.map (ci .i64)), .list 1 (s1.next.map (ci .i64)), .list 1 (s1.match_.map (ci .i64))]]⟩)] [] [(1, .ptr 0 0 0 10), (4, .int .i64 1)] (by show ([1, 4] : List Nat).Nodup; decide) (by show ([0] : List Nat).Nodup; decide) ?_ ?_ (fun t0 => ⟨1, t0, H, rfl⟩)
            · exact (allB_some (by rfl) rfl (.cons (.cons (.int' rfl) (.cons (.lst _ _ _ (ci_pu .i64) rfl) (.cons (.int' rfl) (.cons (.int' rfl) (.cons (.int' rfl) (.cons (.lst _ _ _ Entry.pu rfl) (.cons (.int' rfl) (.cons (.lst _ _ _ (ci_pu .i64) rfl) (.cons (.lst _ _ _ (ci_pu .i64) rfl) (.cons (.lst _ _ _ (ci_pu .i64) rfl) .nil)))))))))) .nil) trivial)
            · (simp only [AllT, tl_cons, tl_nil, upd_apply, List.getD_cons_zero, List.getD_cons_succ, Nat.reduceEqDiff, ↓reduceIte, and_true]); exact ⟨(.ptr _ _ _ _ _ rfl), (.int' rfl)⟩
          · rintro m_law14_Fits_L1 s ⟨i1, t0, H, rfl⟩
            obtain _ | m_law14_Fits_L1 := m_law14_Fits_L1
            · cases (show (none : Option _) = some _ from H)
            · rw [law14_Fits_L1] at H
              refine a_seq ?_
              refine a_seq ?_
              refine a_reg _ rfl (s := ?zs5) ?_ ?_
              rotate_left
              · simp (maxSteps := 2000000) only [EVT, stepR, evOp, St.ev, St.app, St.put, wrs, evFieldAddr, evLoad, cut, evBuiltin, evBin, binInt, TIS, CS, Nat.reduceAdd, Nat.reduceMul, Nat.reduceEqDiff, ↓reduceIte, reduceCtorEq, Nat.reduceLT, Nat.reduceLeDiff, Nat.reduceSub, Nat.reduceBEq]
                (repeat' apply And.intro) <;> first | rfl | assumption | omega | (simp; done) | (simp; omega) | (simp_all; done)
              refine sA_n ?_
              refine a_condb ((decide (i1 < (s1.peers.length : Int)))) (by rfl) (fun zc2 => ?_) (fun zc2 => ?_)
              · have H := cond_t zc2 H
                refine a_skip ?_
                refine sA_n ?_
                refine a_seq ?_
                refine a_blk ?_
                refine a_seq ?_
                obtain ⟨x1, zh2, H⟩ := bind_some H
                have zg1 := idx_map zh2 (ci .i64)
                obtain ⟨zh2a, zh2b, _⟩ := idx_some zh2
                obtain ⟨x2, zh3, H⟩ := bind_some H
                have zg2 := idx_map zh3 (ci .i64)
                obtain ⟨zh3a, zh3b, _⟩ := idx_some zh3
                refine a_drW (by kernel_rfl) _ rfl (s := ?zs6) (by kernel_rfl) (by kernel_rfl) ?zs6f ?_ ?_ ?_
                rotate_left 2
                · simp (maxSteps := 2000000) only [EVT, stepW, evOp, St.ev, St.app, St.put, wrs, evFieldAddr, evLoad, cut, datOf, datOf1, evBin, binInt, evIndexAddr, TIS, CS, Nat.reduceAdd, Nat.reduceMul, Nat.reduceEqDiff, ↓reduceIte, reduceCtorEq, Nat.reduceLT, Nat.reduceLeDiff, Int.reduceToNat, Nat.reduceSub, Nat.reduceBEq, ↓zc2, zg1, zg2]
                  (repeat' apply And.intro) <;> first | rfl | assumption | omega | (simp; done) | (simp; omega) | (simp_all; done)
                · kernel_rfl
                refine sA_n ?_
                refine a_condb ((decide (x2 ≤ x1))) (by rfl) (fun zc3 => ?_) (fun zc3 => ?_)
                · have H := cond_t zc3 H
                  refine a_seq ?_
                  refine a_reg _ rfl (s := ?zs7) ?_ ?_
                  rotate_left
                  · simp (maxSteps := 2000000) only [EVT, stepR, evOp, St.ev, St.app, St.put, wrs, datOf, datOf1, TIS, CS, Nat.reduceAdd, Nat.reduceMul, Nat.reduceEqDiff, ↓reduceIte, reduceCtorEq, Nat.reduceLT, Nat.reduceLeDiff, ↓zc2, zg1, zg2, ↓zc3]
                    (repeat' apply And.intro) <;> first | rfl | assumption | omega | (simp; done) | (simp; omega) | (simp_all; done)
                  refine sA_n ?_
                  refine a_ret ?_
                  refine bA_r ?_
                  refine sA_r ?_
                  refine lA_r ?_
                  refine bA_r ?_
                  refine cA_r ?_
                  obtain rfl := Option.some.inj H
                  refine e_r2 (d := ?zd3) ?_ ?_
                  rotate_left
                  · simp only [EVT, resR, single, evLoad, cut, TIS, CS, Nat.reduceAdd, Nat.reduceEqDiff, ↓reduceIte, reduceCtorEq, Nat.reduceLT, Nat.reduceLeDiff, Nat.reduceSub, Nat.reduceBEq, zc2, zg1, zg2, zc3]
                    (repeat' apply And.intro) <;> first | rfl | assumption | omega | (simp; done)
                  exact (.bool' (by first | rfl | assumption | (simp_all; done)))
                · have H := cond_f zc3 H
                  refine a_skip ?_
                  refine bA_n ?_
                  refine sA_n ?_
                  refine a_reg _ rfl (s := ?zs8) ?_ ?_
                  rotate_left
                  · simp (maxSteps := 2000000) only [EVT, stepR, evOp, St.ev, St.app, St.put, wrs, datOf, datOf1, evBin, binInt, TIS, CS, Nat.reduceAdd, Nat.reduceMul, Nat.reduceEqDiff, ↓reduceIte, reduceCtorEq, Nat.reduceLT, Nat.reduceLeDiff, ↓zc2, zg1, zg2, ↓zc3]
                    (repeat' apply And.intro) <;> first | rfl | assumption | omega | (simp; done) | (simp; omega) | (simp_all; done)
                  refine lA_n ?_
                  refine wk_l [(some 0, ⟨25, 10, false, [[.int .i64 s1.id, .list 1 (s1.peers.map (ci .i64)), .int .i64 s1.term, .int .i64 s1.voted, .int .i64 s1.role, .list 2 (s1.log.map Entry.c), .int .i64 s1.commit, .list 1 (s1.votes.map (ci .i64)), .list 1 (s1.next.map (ci .i64)), .list 1 (s1.match_.map (ci .i64))]]⟩)] [] [(1, .ptr 0 0 0 10), (4, .int .i64 (IntKind.wrap .i64 (i1 + 1)))] (by show ([1, 4] : List Nat).Nodup; decide) (by show ([0] : List Nat).Nodup; decide) ?_ ?_ (fun t0 => ⟨_, Nat.lt_succ_self _, (IntKind.wrap .i64 (i1 + 1)), t0, H, rfl⟩)
                  · exact (allB_some (by rfl) rfl (.cons (.cons (.int' rfl) (.cons (.lst _ _ _ (ci_pu .i64) rfl) (.cons (.int' rfl) (.cons (.int' rfl) (.cons (.int' rfl) (.cons (.lst _ _ _ Entry.pu rfl) (.cons (.int' rfl) (.cons (.lst _ _ _ (ci_pu .i64) rfl) (.cons (.lst _ _ _ (ci_pu .i64) rfl) (.cons (.lst _ _ _ (ci_pu .i64) rfl) .nil)))))))))) .nil) trivial)
                  · (simp only [AllT, tl_cons, tl_nil, upd_apply, List.getD_cons_zero, List.getD_cons_succ, Nat.reduceEqDiff, ↓reduceIte, and_true]); exact ⟨(.ptr _ _ _ _ _ rfl), (.int' rfl)⟩
              · have H := cond_f zc2 H
                refine a_exit ?_
                refine sA_e ?_
                refine lA_e ?_
                refine bA_hit ?_
                refine cA_n ?_
                refine wk_l [(some 0, ⟨25, 10, false, [[.int .i64 s1.id, .list 1 (s1.peers.map (ci .i64)), .int .i64 s1.term, .int .i64 s1.voted, .int .i64 s1.role, .list 2 (s1.log.map Entry.c), .int .i64 s1.commit, .list 1 (s1.votes.map (ci .i64)), .list 1 (s1.next.map (ci .i64)), .list 1 (s1.match_.map (ci .i64))]]⟩)] [] [(1, .ptr 0 0 0 10)] (by show ([1] : List Nat).Nodup; decide) (by show ([0] : List Nat).Nodup; decide) ?_ ?_ (fun t0 => ⟨t0, H, rfl⟩)
                · exact (allB_some (by rfl) rfl (.cons (.cons (.int' rfl) (.cons (.lst _ _ _ (ci_pu .i64) rfl) (.cons (.int' rfl) (.cons (.int' rfl) (.cons (.int' rfl) (.cons (.lst _ _ _ Entry.pu rfl) (.cons (.int' rfl) (.cons (.lst _ _ _ (ci_pu .i64) rfl) (.cons (.lst _ _ _ (ci_pu .i64) rfl) (.cons (.lst _ _ _ (ci_pu .i64) rfl) .nil)))))))))) .nil) trivial)
                · (simp only [AllT, tl_cons, tl_nil, upd_apply, List.getD_cons_zero, List.getD_cons_succ, Nat.reduceEqDiff, ↓reduceIte, and_true]); exact (.ptr _ _ _ _ _ rfl)
        · rintro s ⟨t0, H, rfl⟩
          unfold law14_Fits_J3 at H
          refine a_seq ?_
          obtain ⟨r1, zh1, H⟩ := bind_some H
          have zk1 := ref14_Has_pc zh1
          refine a_reg _ rfl (s := ?zs3) ?_ ?_
          rotate_left
          · try simp (maxSteps := 2000000) only [EVT, stepR, evOp, St.ev, St.app, St.put, wrs, evFieldAddr, evLoad, cut, frz, TIS, CS, Nat.reduceAdd, Nat.reduceMul, Nat.reduceEqDiff, ↓reduceIte, reduceCtorEq, Nat.reduceLT, Nat.reduceLeDiff, Nat.reduceSub, Nat.reduceBEq]
            repeat' with_reducible apply And.intro
            all_goals try ((with_reducible show CallR _ _ _ _ _ _ _); refine cR_s zk1 (.cons (.lst _ _ _ (ci_pu .i64) rfl) (.cons (.int' rfl) .nil)) (.bool _) ?_; simp (maxSteps := 2000000) only [EVT, stepR, evOp, St.ev, St.app, St.put, wrs, evFieldAddr, evLoad, cut, frz, TIS, CS, Nat.reduceAdd, Nat.reduceMul, Nat.reduceEqDiff, ↓reduceIte, reduceCtorEq, Nat.reduceLT, Nat.reduceLeDiff, Nat.reduceSub, Nat.reduceBEq])
            all_goals ((repeat' apply And.intro) <;> first | rfl | assumption | omega | (simp; done) | (simp; omega) | (simp_all; done))
          refine sA_n ?_
          refine a_ret ?_
          obtain rfl := Option.some.inj H
          refine e_r2 (d := ?zd2) ?_ ?_
          rotate_left
          · simp only [EVT, resR, single, evLoad, cut, TIS, CS, Nat.reduceAdd, Nat.reduceEqDiff, ↓reduceIte, reduceCtorEq, Nat.reduceLT, Nat.reduceLeDiff, Nat.reduceSub, Nat.reduceBEq]
            (repeat' apply And.intro) <;> first | rfl | assumption | omega | (simp; done)
          exact (.bool' rfl)
def vote_Won_1_f (p1 : Int) (v1 : List Int) : Option Bool :=
  (slices_Contains_f v1 p1).bind fun r1 => some (r1)
set_option maxHeartbeats 4000000 in
set_option maxRecDepth 20000 in
theorem vote_Won_1_pc {p1 : Int} {v1 : List Int} {r : Bool} (H : vote_Won_1_f p1 v1 = some r) : PC Try.prog 29 [.int .i64 p1, .rop ((cl 1 (ci .i64)) v1) 0 1] (.bool r) := by
  refine pcA_of Try.func29 (by rfl) (by decide) 7 (by rfl) [.tmp 3] (by rfl) ?_
  unfold vote_Won_1_f at H
  simp only [ent]
  refine a_seq ?_
  refine a_reg _ rfl (s := ?zs1) ?_ ?_
  rotate_left
  · simp (maxSteps := 2000000) only [EVT, stepR, evOp, St.ev, St.app, St.put, wrs, datOf, datOf1, TIS, CS, Nat.reduceAdd, Nat.reduceMul, Nat.reduceEqDiff, ↓reduceIte, reduceCtorEq, Nat.reduceLT, Nat.reduceLeDiff]
    (repeat' apply And.intro) <;> first | rfl | assumption | omega | (simp; done) | (simp; omega) | (simp_all; done)
  refine sA_n ?_
  refine a_seq ?_
  obtain ⟨r1, zh1, H⟩ := bind_some H
  have zk1 := slices_Contains_pc zh1
  refine a_reg _ rfl (s := ?zs2) ?_ ?_
  rotate_left
  · try simp (maxSteps := 2000000) only [EVT, stepR, evOp, St.ev, St.app, St.put, wrs, evLoad, cut, frz, TIS, CS, Nat.reduceAdd, Nat.reduceMul, Nat.reduceEqDiff, ↓reduceIte, reduceCtorEq, Nat.reduceLT, Nat.reduceLeDiff, Nat.reduceSub, Nat.reduceBEq]
    repeat' with_reducible apply And.intro
    all_goals try ((with_reducible show CallR _ _ _ _ _ _ _); refine cR_s zk1 (.cons (.lst _ _ _ (ci_pu .i64) rfl) (.cons (.int' rfl) .nil)) (.bool _) ?_; simp (maxSteps := 2000000) only [EVT, stepR, evOp, St.ev, St.app, St.put, wrs, evLoad, cut, frz, TIS, CS, Nat.reduceAdd, Nat.reduceMul, Nat.reduceEqDiff, ↓reduceIte, reduceCtorEq, Nat.reduceLT, Nat.reduceLeDiff, Nat.reduceSub, Nat.reduceBEq])
    all_goals ((repeat' apply And.intro) <;> first | rfl | assumption | omega | (simp; done) | (simp; omega) | (simp_all; done))
  refine sA_n ?_
  refine a_ret ?_
  obtain rfl := Option.some.inj H
  refine e_r2 (d := ?zd1) ?_ ?_
  rotate_left
  · simp only [EVT, resR, single, evLoad, cut, TIS, CS, Nat.reduceAdd, Nat.reduceEqDiff, ↓reduceIte, reduceCtorEq, Nat.reduceLT, Nat.reduceLeDiff, Nat.reduceSub, Nat.reduceBEq]
    (repeat' apply And.intro) <;> first | rfl | assumption | omega | (simp; done)
  exact (.bool' rfl)
def vote_count_J1 (n1 : Int) : Option Int :=
  some (n1)
def vote_count_J2 (k_vote_count_L1 : Int → Int → Option Int) (v1 : Int) (n3 : Int) : Option Int :=
  k_vote_count_L1 n3 (IntKind.wrap .i64 (v1 + 1))
def vote_count_L1 (l1 : List Int) (is1 : Int → Option Bool) : Nat → Int → Int → Option Int
  | 0, _, _ => none
  | m_ + 1, n2, v1 => cond (decide (v1 < (l1.length : Int))) ((idx l1 v1).bind fun x1 => (is1 x1).bind fun r1 => cond r1 (vote_count_J2 (vote_count_L1 l1 is1 m_) v1 (IntKind.wrap .i64 (n2 + 1))) (vote_count_J2 (vote_count_L1 l1 is1 m_) v1 n2)) (vote_count_J1 n2)
def vote_count_f (l1 : List Int) (is1 : Int → Option Bool) : Option Int :=
  vote_count_L1 l1 is1 BIG 0 0
set_option maxHeartbeats 4000000 in
set_option maxRecDepth 20000 in
theorem vote_count_pc {l1 : List Int} {is1 : Int → Option Bool} {is1_F : FuncId} {is1_caps : List Dat} (is1_hp : ∀ (x0_ : Int) (r : Bool), is1 x0_ = some r → PC Try.prog is1_F (.int .i64 x0_ :: is1_caps) (.bool r)) (is1_pu : Pus is1_caps) {r : Int} (H : vote_count_f l1 is1 = some r) : PC Try.prog 28 [.list 1 (l1.map (ci .i64)), .fn (.func is1_F) [] is1_caps] (.int .i64 r) := by
  refine pcA_of Try.func28 (by rfl) (by decide) 21 (by rfl) [.tmp 4] (by rfl) ?_
  unfold vote_count_f at H
  simp only [ent]
  refine a_seq ?_
  refine a_reg _ rfl (s := ?zs1) ?_ ?_
  rotate_left
  · simp (maxSteps := 2000000) only [EVT, stepR, evOp, St.ev, St.app, St.put, wrs, datOf, datOf1, TIS, CS, Nat.reduceAdd, Nat.reduceMul, Nat.reduceEqDiff, ↓reduceIte, reduceCtorEq, Nat.reduceLT, Nat.reduceLeDiff]
    (repeat' apply And.intro) <;> first | rfl | assumption | omega | (simp; done) | (simp; omega) | (simp_all; done)
  refine sA_n ?_
  refine a_seq ?_
  refine a_reg _ rfl (s := ?zs2) ?_ ?_
  rotate_left
  · simp (maxSteps := 2000000) only [EVT, stepR, evOp, St.ev, St.app, St.put, wrs, datOf, datOf1, TIS, CS, Nat.reduceAdd, Nat.reduceMul, Nat.reduceEqDiff, ↓reduceIte, reduceCtorEq, Nat.reduceLT, Nat.reduceLeDiff]
    (repeat' apply And.intro) <;> first | rfl | assumption | omega | (simp; done) | (simp; omega) | (simp_all; done)
  refine sA_n ?_
  refine a_cut (fun s => ∃ (n1 : Int) (t0 : Nat → Dat), vote_count_J1 n1 = some r ∧ s = ⟨tl t0 [(5, .int .i64 n1)], hl [], 0, 21⟩) ?_ ?_
  · refine a_seq ?_
    refine a_reg _ rfl (s := ?zs4) ?_ ?_
    rotate_left
    · simp (maxSteps := 2000000) only [EVT, stepR, evOp, St.ev, St.app, St.put, wrs, evBuiltin, datOf, datOf1, TIS, CS, Nat.reduceAdd, Nat.reduceMul, Nat.reduceEqDiff, ↓reduceIte, reduceCtorEq, Nat.reduceLT, Nat.reduceLeDiff, Nat.reduceSub, Nat.reduceBEq]
      (repeat' apply And.intro) <;> first | rfl | assumption | omega | (simp; done) | (simp; omega) | (simp_all; done)
    refine sA_n ?_
    refine a_blk ?_
    refine a_loop (fun m s => ∃ (n2 : Int) (v1 : Int) (t0 : Nat → Dat), vote_count_L1 l1 is1 m n2 v1 = some r ∧ s = ⟨tl t0 [(1, .fn (.func is1_F) [] is1_caps), (5, .int .i64 n2), (8, .list 1 (l1.map (ci .i64))), (9, .int .i64 (l1.length : Int)), (10, .int .i64 v1)], hl [], 0, 21⟩) BIG ?_ ?_
    · refine wk_l [] [] [(1, .fn (.func is1_F) [] is1_caps), (5, .int .i64 0), (8, .list 1 (l1.map (ci .i64))), (9, .int .i64 (l1.length : Int)), (10, .int .i64 0)] (by show ([1, 5, 8, 9, 10] : List Nat).Nodup; decide) (by show ([] : List Nat).Nodup; decide) ?_ ?_ (fun t0 => ⟨0, 0, t0, H, rfl⟩)
      · exact trivial
      · (simp only [AllT, tl_cons, tl_nil, upd_apply, List.getD_cons_zero, List.getD_cons_succ, Nat.reduceEqDiff, ↓reduceIte, and_true]); exact ⟨(.fn' .nil (RNs.pu is1_pu)), (.int' rfl), (.lst _ _ _ (ci_pu .i64) rfl), (.int' rfl), (.int' rfl)⟩
    · rintro m_vote_count_L1 s ⟨n2, v1, t0, H, rfl⟩
      obtain _ | m_vote_count_L1 := m_vote_count_L1
      · cases (show (none : Option _) = some _ from H)
      · rw [vote_count_L1] at H
        refine a_seq ?_
        refine a_reg _ rfl (s := ?zs5) ?_ ?_
        rotate_left
        · simp (maxSteps := 2000000) only [EVT, stepR, evOp, St.ev, St.app, St.put, wrs, evBin, binInt, TIS, CS, Nat.reduceAdd, Nat.reduceMul, Nat.reduceEqDiff, ↓reduceIte, reduceCtorEq, Nat.reduceLT, Nat.reduceLeDiff]
          (repeat' apply And.intro) <;> first | rfl | assumption | omega | (simp; done) | (simp; omega) | (simp_all; done)
        refine sA_n ?_
        refine a_seq ?_
        refine a_condb ((decide (v1 < (l1.length : Int)))) (by rfl) (fun zc1 => ?_) (fun zc1 => ?_)
        · have H := cond_t zc1 H
          refine a_skip ?_
          refine sA_n ?_
          refine a_cut (fun s => ∃ (n3 : Int) (t0 : Nat → Dat), vote_count_J2 (vote_count_L1 l1 is1 m_vote_count_L1) v1 n3 = some r ∧ s = ⟨tl t0 [(1, .fn (.func is1_F) [] is1_caps), (5, .int .i64 n3), (8, .list 1 (l1.map (ci .i64))), (9, .int .i64 (l1.length : Int)), (10, .int .i64 v1)], hl [], 0, 21⟩) ?_ ?_
          · refine a_blk ?_
            refine a_seq ?_
            obtain ⟨x1, zh1, H⟩ := bind_some H
            have zg1 := idx_map zh1 (ci .i64)
            obtain ⟨zh1a, zh1b, _⟩ := idx_some zh1
            refine a_reg _ rfl (s := ?zs7) ?_ ?_
            rotate_left
            · simp (maxSteps := 2000000) only [EVT, stepR, evOp, St.ev, St.app, St.put, wrs, evIndexAddr, evLoad, cut, TIS, CS, Nat.reduceAdd, Nat.reduceMul, Nat.reduceEqDiff, ↓reduceIte, reduceCtorEq, Nat.reduceLT, Nat.reduceLeDiff, Int.reduceToNat, Nat.reduceSub, Nat.reduceBEq, ↓zc1, zg1]
              (repeat' apply And.intro) <;> first | rfl | assumption | omega | (simp; done) | (simp; omega) | (simp_all; done)
            refine sA_n ?_
            refine a_seq ?_
            obtain ⟨r1, zh2, H⟩ := bind_some H
            have zk1 := is1_hp _ _ zh2
            refine a_reg _ rfl (s := ?zs8) ?_ ?_
            rotate_left
            · try simp (maxSteps := 2000000) only [EVT, stepR, evOp, St.ev, St.app, St.put, wrs, frz, TIS, CS, Nat.reduceAdd, Nat.reduceMul, Nat.reduceEqDiff, ↓reduceIte, reduceCtorEq, Nat.reduceLT, Nat.reduceLeDiff, Nat.reduceSub, Nat.reduceBEq, ↓zc1, zg1]
              repeat' with_reducible apply And.intro
              all_goals try ((with_reducible show CallR _ _ _ _ _ _ _); refine cR_s zk1 (.cons (.int' rfl) (Pus.purRs is1_pu)) (.bool _) ?_; simp (maxSteps := 2000000) only [EVT, stepR, evOp, St.ev, St.app, St.put, wrs, frz, TIS, CS, Nat.reduceAdd, Nat.reduceMul, Nat.reduceEqDiff, ↓reduceIte, reduceCtorEq, Nat.reduceLT, Nat.reduceLeDiff, Nat.reduceSub, Nat.reduceBEq, ↓zc1, zg1])
              all_goals ((repeat' apply And.intro) <;> first | rfl | assumption | omega | (simp; done) | (simp; omega) | (simp_all; done))
            refine sA_n ?_
            refine a_condb (r1) (by rfl) (fun zc2 => ?_) (fun zc2 => ?_)
            · have H := cond_t zc2 H
              refine a_reg _ rfl (s := ?zs9) ?_ ?_
              rotate_left
              · simp (maxSteps := 2000000) only [EVT, stepR, evOp, St.ev, St.app, St.put, wrs, datOf, datOf1, evBin, binInt, TIS, CS, Nat.reduceAdd, Nat.reduceMul, Nat.reduceEqDiff, ↓reduceIte, reduceCtorEq, Nat.reduceLT, Nat.reduceLeDiff, ↓zc1, zg1, ↓zc2]
                (repeat' apply And.intro) <;> first | rfl | assumption | omega | (simp; done) | (simp; omega) | (simp_all; done)
              refine bA_n ?_
              refine cA_n ?_
              refine wk_l [] [] [(1, .fn (.func is1_F) [] is1_caps), (5, .int .i64 (IntKind.wrap .i64 (n2 + 1))), (8, .list 1 (l1.map (ci .i64))), (9, .int .i64 (l1.length : Int)), (10, .int .i64 v1)] (by show ([1, 5, 8, 9, 10] : List Nat).Nodup; decide) (by show ([] : List Nat).Nodup; decide) ?_ ?_ (fun t0 => ⟨(IntKind.wrap .i64 (n2 + 1)), t0, H, rfl⟩)
              · exact trivial
              · (simp only [AllT, tl_cons, tl_nil, upd_apply, List.getD_cons_zero, List.getD_cons_succ, Nat.reduceEqDiff, ↓reduceIte, and_true]); exact ⟨(.fn' .nil (RNs.pu is1_pu)), (.int' rfl), (.lst _ _ _ (ci_pu .i64) rfl), (.int' rfl), (.int' rfl)⟩
            · have H := cond_f zc2 H
              refine a_skip ?_
              refine bA_n ?_
              refine cA_n ?_
              refine wk_l [] [] [(1, .fn (.func is1_F) [] is1_caps), (5, .int .i64 n2), (8, .list 1 (l1.map (ci .i64))), (9, .int .i64 (l1.length : Int)), (10, .int .i64 v1)] (by show ([1, 5, 8, 9, 10] : List Nat).Nodup; decide) (by show ([] : List Nat).Nodup; decide) ?_ ?_ (fun t0 => ⟨n2, t0, H, rfl⟩)
              · exact trivial
              · (simp only [AllT, tl_cons, tl_nil, upd_apply, List.getD_cons_zero, List.getD_cons_succ, Nat.reduceEqDiff, ↓reduceIte, and_true]); exact ⟨(.fn' .nil (RNs.pu is1_pu)), (.int' rfl), (.lst _ _ _ (ci_pu .i64) rfl), (.int' rfl), (.int' rfl)⟩
          · rintro s ⟨n3, t0, H, rfl⟩
            unfold vote_count_J2 at H
            refine a_reg _ rfl (s := ?zs6) ?_ ?_
            rotate_left
            · simp (maxSteps := 2000000) only [EVT, stepR, evOp, St.ev, St.app, St.put, wrs, datOf, datOf1, evBin, binInt, TIS, CS, Nat.reduceAdd, Nat.reduceMul, Nat.reduceEqDiff, ↓reduceIte, reduceCtorEq, Nat.reduceLT, Nat.reduceLeDiff]
              (repeat' apply And.intro) <;> first | rfl | assumption | omega | (simp; done) | (simp; omega) | (simp_all; done)
            refine lA_n ?_
            refine wk_l [] [] [(1, .fn (.func is1_F) [] is1_caps), (5, .int .i64 n3), (8, .list 1 (l1.map (ci .i64))), (9, .int .i64 (l1.length : Int)), (10, .int .i64 (IntKind.wrap .i64 (v1 + 1)))] (by show ([1, 5, 8, 9, 10] : List Nat).Nodup; decide) (by show ([] : List Nat).Nodup; decide) ?_ ?_ (fun t0 => ⟨_, Nat.lt_succ_self _, n3, (IntKind.wrap .i64 (v1 + 1)), t0, H, rfl⟩)
            · exact trivial
            · (simp only [AllT, tl_cons, tl_nil, upd_apply, List.getD_cons_zero, List.getD_cons_succ, Nat.reduceEqDiff, ↓reduceIte, and_true]); exact ⟨(.fn' .nil (RNs.pu is1_pu)), (.int' rfl), (.lst _ _ _ (ci_pu .i64) rfl), (.int' rfl), (.int' rfl)⟩
        · have H := cond_f zc1 H
          refine a_exit ?_
          refine sA_e ?_
          refine lA_e ?_
          refine bA_hit ?_
          refine cA_n ?_
          refine wk_l [] [] [(5, .int .i64 n2)] (by show ([5] : List Nat).Nodup; decide) (by show ([] : List Nat).Nodup; decide) ?_ ?_ (fun t0 => ⟨n2, t0, H, rfl⟩)
          · exact trivial
          · (simp only [AllT, tl_cons, tl_nil, upd_apply, List.getD_cons_zero, List.getD_cons_succ, Nat.reduceEqDiff, ↓reduceIte, and_true]); exact (.int' rfl)
  · rintro s ⟨n1, t0, H, rfl⟩
    unfold vote_count_J1 at H
    refine a_seq ?_
    refine a_reg _ rfl (s := ?zs3) ?_ ?_
    rotate_left
    · simp (maxSteps := 2000000) only [EVT, stepR, evOp, St.ev, St.app, St.put, wrs, TIS, CS, Nat.reduceAdd, Nat.reduceMul, Nat.reduceEqDiff, ↓reduceIte, reduceCtorEq, Nat.reduceLT, Nat.reduceLeDiff]
      (repeat' apply And.intro) <;> first | rfl | assumption | omega | (simp; done) | (simp; omega) | (simp_all; done)
    refine sA_n ?_
    refine a_ret ?_
    obtain rfl := Option.some.inj H
    refine e_r2 (d := ?zd1) ?_ ?_
    rotate_left
    · simp only [EVT, resR, single, evLoad, cut, TIS, CS, Nat.reduceAdd, Nat.reduceEqDiff, ↓reduceIte, reduceCtorEq, Nat.reduceLT, Nat.reduceLeDiff, Nat.reduceSub, Nat.reduceBEq]
      (repeat' apply And.intro) <;> first | rfl | assumption | omega | (simp; done)
    exact (.int' rfl)
def vote_Won_f (votes1 : List Int) (peers1 : List Int) : Option Bool :=
  (vote_count_f peers1 (fun y0_ => vote_Won_1_f y0_ votes1)).bind fun r1 => some ((decide ((peers1.length : Int) < (IntKind.wrap .i64 (2 * r1)))))
set_option maxHeartbeats 4000000 in
set_option maxRecDepth 20000 in
theorem vote_Won_pc {votes1 : List Int} {peers1 : List Int} {r : Bool} (H : vote_Won_f votes1 peers1 = some r) : PC Try.prog 16 [.list 1 (votes1.map (ci .i64)), .list 1 (peers1.map (ci .i64))] (.bool r) := by
  refine pcA_of Try.func16 (by rfl) (by decide) 12 (by rfl) [.tmp 4] (by rfl) ?_
  unfold vote_Won_f at H
  simp only [ent]
  refine a_seq ?_
  refine a_reg _ rfl (s := ?zs1) ?_ ?_
  rotate_left
  · simp (maxSteps := 2000000) only [EVT, stepR, evOp, St.ev, St.app, St.put, wrs, allOne, datOf, datOf1, TIS, CS, Nat.reduceAdd, Nat.reduceMul, Nat.reduceEqDiff, ↓reduceIte, reduceCtorEq, Nat.reduceLT, Nat.reduceLeDiff]
    (repeat' apply And.intro) <;> first | rfl | assumption | omega | (simp; done) | (simp; omega) | (simp_all; done)
  refine sA_n ?_
  refine a_seq ?_
  obtain ⟨r1, zh1, H⟩ := bind_some H
  have zk1 := vote_count_pc (is1 := (fun y0_ => vote_Won_1_f y0_ votes1)) (is1_F := 29) (is1_caps := [.rop ((cl 1 (ci .i64)) votes1) 0 1]) (fun _ _ h => vote_Won_1_pc h) (.cons (.rop _ _ _ ((cl_pu (ci_pu .i64)) _)) .nil) zh1
  refine a_reg _ rfl (s := ?zs2) ?_ ?_
  rotate_left
  · try simp (maxSteps := 2000000) only [EVT, stepR, evOp, St.ev, St.app, St.put, wrs, frz, datOf, datOf1, evBin, binInt, evBuiltin, TIS, CS, Nat.reduceAdd, Nat.reduceMul, Nat.reduceEqDiff, ↓reduceIte, reduceCtorEq, Nat.reduceLT, Nat.reduceLeDiff, Nat.reduceSub, Nat.reduceBEq]
    repeat' with_reducible apply And.intro
    all_goals try ((with_reducible show CallR _ _ _ _ _ _ _); refine cR_s zk1 (.cons (.lst _ _ _ (ci_pu .i64) rfl) (.cons (.fn' .nil (.cons (.box (by rfl) (fun e => by cases e) rfl rfl (.cons (.lst _ _ _ (ci_pu .i64) rfl) .nil)) .nil)) .nil)) (.int _ _) ?_; simp (maxSteps := 2000000) only [EVT, stepR, evOp, St.ev, St.app, St.put, wrs, frz, datOf, datOf1, evBin, binInt, evBuiltin, TIS, CS, Nat.reduceAdd, Nat.reduceMul, Nat.reduceEqDiff, ↓reduceIte, reduceCtorEq, Nat.reduceLT, Nat.reduceLeDiff, Nat.reduceSub, Nat.reduceBEq])
    all_goals ((repeat' apply And.intro) <;> first | rfl | assumption | omega | (simp; done) | (simp; omega) | (simp_all; done))
  refine sA_n ?_
  refine a_ret ?_
  obtain rfl := Option.some.inj H
  refine e_r2 (d := ?zd1) ?_ ?_
  rotate_left
  · simp only [EVT, resR, single, evLoad, cut, TIS, CS, Nat.reduceAdd, Nat.reduceEqDiff, ↓reduceIte, reduceCtorEq, Nat.reduceLT, Nat.reduceLeDiff, Nat.reduceSub, Nat.reduceBEq]
    (repeat' apply And.intro) <;> first | rfl | assumption | omega | (simp; done)
  exact (.bool' rfl)
def ref14_Won_J1 (n1 : Int) : Option Bool :=
  some ((decide (0 < n1)))
def ref14_Won_J2 (k_ref14_Won_L1 : Int → Int → Option Bool) (i1 : Int) (n3 : Int) : Option Bool :=
  k_ref14_Won_L1 n3 (IntKind.wrap .i64 (i1 + 1))
def ref14_Won_L1 (peers1 : List Int) (votes1 : List Int) : Nat → Int → Int → Option Bool
  | 0, _, _ => none
  | m_ + 1, n2, i1 => cond (decide (i1 < (peers1.length : Int))) ((idx peers1 i1).bind fun x1 => (ref14_Has_f votes1 x1).bind fun r1 => cond r1 (ref14_Won_J2 (ref14_Won_L1 peers1 votes1 m_) i1 (IntKind.wrap .i64 (n2 + 1))) (ref14_Won_J2 (ref14_Won_L1 peers1 votes1 m_) i1 (IntKind.wrap .i64 (n2 - 1)))) (ref14_Won_J1 n2)
def ref14_Won_f (votes1 : List Int) (peers1 : List Int) : Option Bool :=
  ref14_Won_L1 peers1 votes1 BIG 0 0
set_option maxHeartbeats 4000000 in
set_option maxRecDepth 20000 in
theorem ref14_Won_pc {votes1 : List Int} {peers1 : List Int} {r : Bool} (H : ref14_Won_f votes1 peers1 = some r) : PC Try.prog 17 [.list 1 (votes1.map (ci .i64)), .list 1 (peers1.map (ci .i64))] (.bool r) := by
  refine pcA_of Try.func17 (by rfl) (by decide) 27 (by rfl) [.tmp 4] (by rfl) ?_
  unfold ref14_Won_f at H
  simp only [ent]
  refine a_seq ?_
  refine a_reg _ rfl (s := ?zs1) ?_ ?_
  rotate_left
  · simp (maxSteps := 2000000) only [EVT, stepR, evOp, St.ev, St.app, St.put, wrs, datOf, datOf1, TIS, CS, Nat.reduceAdd, Nat.reduceMul, Nat.reduceEqDiff, ↓reduceIte, reduceCtorEq, Nat.reduceLT, Nat.reduceLeDiff]
    (repeat' apply And.intro) <;> first | rfl | assumption | omega | (simp; done) | (simp; omega) | (simp_all; done)
  refine sA_n ?_
  refine a_seq ?_
  refine a_reg _ rfl (s := ?zs2) ?_ ?_
  rotate_left
  · simp (maxSteps := 2000000) only [EVT, stepR, evOp, St.ev, St.app, St.put, wrs, datOf, datOf1, TIS, CS, Nat.reduceAdd, Nat.reduceMul, Nat.reduceEqDiff, ↓reduceIte, reduceCtorEq, Nat.reduceLT, Nat.reduceLeDiff]
    (repeat' apply And.intro) <;> first | rfl | assumption | omega | (simp; done) | (simp; omega) | (simp_all; done)
  refine sA_n ?_
  refine a_cut (fun s => ∃ (n1 : Int) (t0 : Nat → Dat), ref14_Won_J1 n1 = some r ∧ s = ⟨tl t0 [(5, .int .i64 n1)], hl [], 0, 27⟩) ?_ ?_
  · refine a_seq ?_
    refine a_reg _ rfl (s := ?zs4) ?_ ?_
    rotate_left
    · simp (maxSteps := 2000000) only [EVT, stepR, evOp, St.ev, St.app, St.put, wrs, datOf, datOf1, TIS, CS, Nat.reduceAdd, Nat.reduceMul, Nat.reduceEqDiff, ↓reduceIte, reduceCtorEq, Nat.reduceLT, Nat.reduceLeDiff]
      (repeat' apply And.intro) <;> first | rfl | assumption | omega | (simp; done) | (simp; omega) | (simp_all; done)
    refine sA_n ?_
    refine a_blk ?_
    refine a_loop (fun m s => ∃ (n2 : Int) (i1 : Int) (t0 : Nat → Dat), ref14_Won_L1 peers1 votes1 m n2 i1 = some r ∧ s = ⟨tl t0 [(0, .list 1 (votes1.map (ci .i64))), (1, .list 1 (peers1.map (ci .i64))), (5, .int .i64 n2), (6, .int .i64 i1)], hl [], 0, 27⟩) BIG ?_ ?_
    · refine wk_l [] [] [(0, .list 1 (votes1.map (ci .i64))), (1, .list 1 (peers1.map (ci .i64))), (5, .int .i64 0), (6, .int .i64 0)] (by show ([0, 1, 5, 6] : List Nat).Nodup; decide) (by show ([] : List Nat).Nodup; decide) ?_ ?_ (fun t0 => ⟨0, 0, t0, H, rfl⟩)
      · exact trivial
      · (simp only [AllT, tl_cons, tl_nil, upd_apply, List.getD_cons_zero, List.getD_cons_succ, Nat.reduceEqDiff, ↓reduceIte, and_true]); exact ⟨(.lst _ _ _ (ci_pu .i64) rfl), (.lst _ _ _ (ci_pu .i64) rfl), (.int' rfl), (.int' rfl)⟩
    · rintro m_ref14_Won_L1 s ⟨n2, i1, t0, H, rfl⟩
      obtain _ | m_ref14_Won_L1 := m_ref14_Won_L1
      · cases (show (none : Option _) = some _ from H)
      · rw [ref14_Won_L1] at H
        refine a_seq ?_
        refine a_seq ?_
        refine a_reg _ rfl (s := ?zs5) ?_ ?_
        rotate_left
        · simp (maxSteps := 2000000) only [EVT, stepR, evOp, St.ev, St.app, St.put, wrs, evBuiltin, evBin, binInt, TIS, CS, Nat.reduceAdd, Nat.reduceMul, Nat.reduceEqDiff, ↓reduceIte, reduceCtorEq, Nat.reduceLT, Nat.reduceLeDiff, Nat.reduceSub, Nat.reduceBEq]
          (repeat' apply And.intro) <;> first | rfl | assumption | omega | (simp; done) | (simp; omega) | (simp_all; done)
        refine sA_n ?_
        refine a_condb ((decide (i1 < (peers1.length : Int)))) (by rfl) (fun zc1 => ?_) (fun zc1 => ?_)
        · have H := cond_t zc1 H
          refine a_skip ?_
          refine sA_n ?_
          refine a_cut (fun s => ∃ (n3 : Int) (t0 : Nat → Dat), ref14_Won_J2 (ref14_Won_L1 peers1 votes1 m_ref14_Won_L1) i1 n3 = some r ∧ s = ⟨tl t0 [(0, .list 1 (votes1.map (ci .i64))), (1, .list 1 (peers1.map (ci .i64))), (5, .int .i64 n3), (6, .int .i64 i1)], hl [], 0, 27⟩) ?_ ?_
          · refine a_blk ?_
            refine a_seq ?_
            obtain ⟨x1, zh1, H⟩ := bind_some H
            have zg1 := idx_map zh1 (ci .i64)
            obtain ⟨zh1a, zh1b, _⟩ := idx_some zh1
            obtain ⟨r1, zh2, H⟩ := bind_some H
            have zk1 := ref14_Has_pc zh2
            refine a_reg _ rfl (s := ?zs7) ?_ ?_
            rotate_left
            · try simp (maxSteps := 2000000) only [EVT, stepR, evOp, St.ev, St.app, St.put, wrs, evIndexAddr, evLoad, cut, frz, TIS, CS, Nat.reduceAdd, Nat.reduceMul, Nat.reduceEqDiff, ↓reduceIte, reduceCtorEq, Nat.reduceLT, Nat.reduceLeDiff, Int.reduceToNat, Nat.reduceSub, Nat.reduceBEq, ↓zc1, zg1]
              repeat' with_reducible apply And.intro
              all_goals try ((with_reducible show CallR _ _ _ _ _ _ _); refine cR_s zk1 (.cons (.lst _ _ _ (ci_pu .i64) rfl) (.cons (.int' rfl) .nil)) (.bool _) ?_; simp (maxSteps := 2000000) only [EVT, stepR, evOp, St.ev, St.app, St.put, wrs, evIndexAddr, evLoad, cut, frz, TIS, CS, Nat.reduceAdd, Nat.reduceMul, Nat.reduceEqDiff, ↓reduceIte, reduceCtorEq, Nat.reduceLT, Nat.reduceLeDiff, Int.reduceToNat, Nat.reduceSub, Nat.reduceBEq, ↓zc1, zg1])
              all_goals ((repeat' apply And.intro) <;> first | rfl | assumption | omega | (simp; done) | (simp; omega) | (simp_all; done))
            refine sA_n ?_
            refine a_seq ?_
            refine a_reg _ rfl (s := ?zs8) ?_ ?_
            rotate_left
            · simp (maxSteps := 2000000) only [EVT, stepR, evOp, St.ev, St.app, St.put, wrs, TIS, CS, Nat.reduceAdd, Nat.reduceMul, Nat.reduceEqDiff, ↓reduceIte, reduceCtorEq, Nat.reduceLT, Nat.reduceLeDiff, ↓zc1, zg1]
              (repeat' apply And.intro) <;> first | rfl | assumption | omega | (simp; done) | (simp; omega) | (simp_all; done)
            refine sA_n ?_
            refine a_condb (r1) (by rfl) (fun zc2 => ?_) (fun zc2 => ?_)
            · have H := cond_t zc2 H
              refine a_reg _ rfl (s := ?zs9) ?_ ?_
              rotate_left
              · simp (maxSteps := 2000000) only [EVT, stepR, evOp, St.ev, St.app, St.put, wrs, datOf, datOf1, evBin, binInt, TIS, CS, Nat.reduceAdd, Nat.reduceMul, Nat.reduceEqDiff, ↓reduceIte, reduceCtorEq, Nat.reduceLT, Nat.reduceLeDiff, ↓zc1, zg1, ↓zc2]
                (repeat' apply And.intro) <;> first | rfl | assumption | omega | (simp; done) | (simp; omega) | (simp_all; done)
              refine bA_n ?_
              refine cA_n ?_
              refine wk_l [] [] [(0, .list 1 (votes1.map (ci .i64))), (1, .list 1 (peers1.map (ci .i64))), (5, .int .i64 (IntKind.wrap .i64 (n2 + 1))), (6, .int .i64 i1)] (by show ([0, 1, 5, 6] : List Nat).Nodup; decide) (by show ([] : List Nat).Nodup; decide) ?_ ?_ (fun t0 => ⟨(IntKind.wrap .i64 (n2 + 1)), t0, H, rfl⟩)
              · exact trivial
              · (simp only [AllT, tl_cons, tl_nil, upd_apply, List.getD_cons_zero, List.getD_cons_succ, Nat.reduceEqDiff, ↓reduceIte, and_true]); exact ⟨(.lst _ _ _ (ci_pu .i64) rfl), (.lst _ _ _ (ci_pu .i64) rfl), (.int' rfl), (.int' rfl)⟩
            · have H := cond_f zc2 H
              refine a_reg _ rfl (s := ?zs10) ?_ ?_
              rotate_left
              · simp (maxSteps := 2000000) only [EVT, stepR, evOp, St.ev, St.app, St.put, wrs, datOf, datOf1, evBin, binInt, TIS, CS, Nat.reduceAdd, Nat.reduceMul, Nat.reduceEqDiff, ↓reduceIte, reduceCtorEq, Nat.reduceLT, Nat.reduceLeDiff, ↓zc1, zg1, ↓zc2]
                (repeat' apply And.intro) <;> first | rfl | assumption | omega | (simp; done) | (simp; omega) | (simp_all; done)
              refine bA_n ?_
              refine cA_n ?_
              refine wk_l [] [] [(0, .list 1 (votes1.map (ci .i64))), (1, .list 1 (peers1.map (ci .i64))), (5, .int .i64 (IntKind.wrap .i64 (n2 - 1))), (6, .int .i64 i1)] (by show ([0, 1, 5, 6] : List Nat).Nodup; decide) (by show ([] : List Nat).Nodup; decide) ?_ ?_ (fun t0 => ⟨(IntKind.wrap .i64 (n2 - 1)), t0, H, rfl⟩)
              · exact trivial
              · (simp only [AllT, tl_cons, tl_nil, upd_apply, List.getD_cons_zero, List.getD_cons_succ, Nat.reduceEqDiff, ↓reduceIte, and_true]); exact ⟨(.lst _ _ _ (ci_pu .i64) rfl), (.lst _ _ _ (ci_pu .i64) rfl), (.int' rfl), (.int' rfl)⟩
          · rintro s ⟨n3, t0, H, rfl⟩
            unfold ref14_Won_J2 at H
            refine a_reg _ rfl (s := ?zs6) ?_ ?_
            rotate_left
            · simp (maxSteps := 2000000) only [EVT, stepR, evOp, St.ev, St.app, St.put, wrs, datOf, datOf1, evBin, binInt, TIS, CS, Nat.reduceAdd, Nat.reduceMul, Nat.reduceEqDiff, ↓reduceIte, reduceCtorEq, Nat.reduceLT, Nat.reduceLeDiff]
              (repeat' apply And.intro) <;> first | rfl | assumption | omega | (simp; done) | (simp; omega) | (simp_all; done)
            refine lA_n ?_
            refine wk_l [] [] [(0, .list 1 (votes1.map (ci .i64))), (1, .list 1 (peers1.map (ci .i64))), (5, .int .i64 n3), (6, .int .i64 (IntKind.wrap .i64 (i1 + 1)))] (by show ([0, 1, 5, 6] : List Nat).Nodup; decide) (by show ([] : List Nat).Nodup; decide) ?_ ?_ (fun t0 => ⟨_, Nat.lt_succ_self _, n3, (IntKind.wrap .i64 (i1 + 1)), t0, H, rfl⟩)
            · exact trivial
            · (simp only [AllT, tl_cons, tl_nil, upd_apply, List.getD_cons_zero, List.getD_cons_succ, Nat.reduceEqDiff, ↓reduceIte, and_true]); exact ⟨(.lst _ _ _ (ci_pu .i64) rfl), (.lst _ _ _ (ci_pu .i64) rfl), (.int' rfl), (.int' rfl)⟩
        · have H := cond_f zc1 H
          refine a_exit ?_
          refine sA_e ?_
          refine lA_e ?_
          refine bA_hit ?_
          refine cA_n ?_
          refine wk_l [] [] [(5, .int .i64 n2)] (by show ([5] : List Nat).Nodup; decide) (by show ([] : List Nat).Nodup; decide) ?_ ?_ (fun t0 => ⟨n2, t0, H, rfl⟩)
          · exact trivial
          · (simp only [AllT, tl_cons, tl_nil, upd_apply, List.getD_cons_zero, List.getD_cons_succ, Nat.reduceEqDiff, ↓reduceIte, and_true]); exact (.int' rfl)
  · rintro s ⟨n1, t0, H, rfl⟩
    unfold ref14_Won_J1 at H
    refine a_seq ?_
    refine a_reg _ rfl (s := ?zs3) ?_ ?_
    rotate_left
    · simp (maxSteps := 2000000) only [EVT, stepR, evOp, St.ev, St.app, St.put, wrs, datOf, datOf1, evBin, binInt, TIS, CS, Nat.reduceAdd, Nat.reduceMul, Nat.reduceEqDiff, ↓reduceIte, reduceCtorEq, Nat.reduceLT, Nat.reduceLeDiff]
      (repeat' apply And.intro) <;> first | rfl | assumption | omega | (simp; done) | (simp; omega) | (simp_all; done)
    refine sA_n ?_
    refine a_ret ?_
    obtain rfl := Option.some.inj H
    refine e_r2 (d := ?zd1) ?_ ?_
    rotate_left
    · simp only [EVT, resR, single, evLoad, cut, TIS, CS, Nat.reduceAdd, Nat.reduceEqDiff, ↓reduceIte, reduceCtorEq, Nat.reduceLT, Nat.reduceLeDiff, Nat.reduceSub, Nat.reduceBEq]
      (repeat' apply And.intro) <;> first | rfl | assumption | omega | (simp; done)
    exact (.bool' rfl)
def vote_Ask_1_f (v1 : Seat) (v2 : Int) : Option Bool :=
  some ((v1.voted == (-1)) || (v1.voted == v2))
set_option maxHeartbeats 4000000 in
set_option maxRecDepth 20000 in
theorem vote_Ask_1_pc {v1 : Seat} {v2 : Int} {r : Bool} (H : vote_Ask_1_f v1 v2 = some r) : PC Try.prog 31 [.rop (Seat.c v1) 0 10, .rop ((ci .i64) v2) 0 1] (.bool r) := by
  refine pcA_of Try.func31 (by rfl) (by decide) 12 (by rfl) [.tmp 2] (by rfl) ?_
  unfold vote_Ask_1_f at H
  simp only [ent]
  refine a_seq ?_
  refine a_reg _ rfl (s := ?zs1) ?_ ?_
  rotate_left
  · simp (maxSteps := 2000000) only [EVT, stepR, evOp, St.ev, St.app, St.put, wrs, datOf, datOf1, TIS, CS, Nat.reduceAdd, Nat.reduceMul, Nat.reduceEqDiff, ↓reduceIte, reduceCtorEq, Nat.reduceLT, Nat.reduceLeDiff]
    (repeat' apply And.intro) <;> first | rfl | assumption | omega | (simp; done) | (simp; omega) | (simp_all; done)
  refine sA_n ?_
  refine a_seq ?_
  refine bool_split (b := (v1.voted == (-1))) (fun zc1 => ?_) (fun zc1 => ?_)
  · rw [zc1] at H
    refine a_reg _ rfl (s := ?zs2) ?_ ?_
    rotate_left
    · simp (maxSteps := 2000000) only [EVT, stepR, evOp, St.ev, St.app, St.put, wrs, evFieldAddr, evLoad, cut, datOf, datOf1, evBin, binInt, TIS, CS, Nat.reduceAdd, Nat.reduceMul, Nat.reduceEqDiff, ↓reduceIte, reduceCtorEq, Nat.reduceLT, Nat.reduceLeDiff, Array.reduceGetElem?, Nat.reduceSub, Nat.reduceBEq, ↓zc1]
      try simp (maxSteps := 2000000) only [EVT, stepR, evOp, St.ev, St.app, St.put, wrs, evFieldAddr, evLoad, cut, datOf, datOf1, evBin, binInt, TIS, CS, Nat.reduceAdd, Nat.reduceMul, Nat.reduceEqDiff, ↓reduceIte, reduceCtorEq, Nat.reduceLT, Nat.reduceLeDiff, Array.reduceGetElem?, Nat.reduceSub, Nat.reduceBEq, ↓zc1]
      (repeat' apply And.intro) <;> first | rfl | assumption | omega | (simp; done) | (simp; omega) | (simp_all; done)
    refine sA_n ?_
    refine a_ret ?_
    obtain rfl := Option.some.inj H
    refine e_r2 (d := ?zd1) ?_ ?_
    rotate_left
    · simp only [EVT, resR, single, evLoad, cut, TIS, CS, Nat.reduceAdd, Nat.reduceEqDiff, ↓reduceIte, reduceCtorEq, Nat.reduceLT, Nat.reduceLeDiff, Nat.reduceSub, Nat.reduceBEq, zc1]
      (repeat' apply And.intro) <;> first | rfl | assumption | omega | (simp; done)
    exact (.bool' (by first | rfl | assumption | (simp_all; done)))
  · rw [zc1] at H
    refine a_reg _ rfl (s := ?zs3) ?_ ?_
    rotate_left
    · simp (maxSteps := 2000000) only [EVT, stepR, evOp, St.ev, St.app, St.put, wrs, evFieldAddr, evLoad, cut, datOf, datOf1, evBin, binInt, TIS, CS, Nat.reduceAdd, Nat.reduceMul, Nat.reduceEqDiff, ↓reduceIte, reduceCtorEq, Nat.reduceLT, Nat.reduceLeDiff, Array.reduceGetElem?, Nat.reduceSub, Nat.reduceBEq, ↓zc1]
      try simp (maxSteps := 2000000) only [EVT, stepR, evOp, St.ev, St.app, St.put, wrs, evFieldAddr, evLoad, cut, datOf, datOf1, evBin, binInt, TIS, CS, Nat.reduceAdd, Nat.reduceMul, Nat.reduceEqDiff, ↓reduceIte, reduceCtorEq, Nat.reduceLT, Nat.reduceLeDiff, Array.reduceGetElem?, Nat.reduceSub, Nat.reduceBEq, ↓zc1]
      (repeat' apply And.intro) <;> first | rfl | assumption | omega | (simp; done) | (simp; omega) | (simp_all; done)
    refine sA_n ?_
    refine a_ret ?_
    obtain rfl := Option.some.inj H
    refine e_r2 (d := ?zd2) ?_ ?_
    rotate_left
    · simp only [EVT, resR, single, evLoad, cut, TIS, CS, Nat.reduceAdd, Nat.reduceEqDiff, ↓reduceIte, reduceCtorEq, Nat.reduceLT, Nat.reduceLeDiff, Nat.reduceSub, Nat.reduceBEq, zc1]
      (repeat' apply And.intro) <;> first | rfl | assumption | omega | (simp; done)
    exact (.bool' rfl)
def vote_Ask_2_f (v1 : Seat) (v2 : Int) (v3 : Int) : Option Bool :=
  (log_Newer_f v1.log v2 v3).bind fun r1 => some (r1)
set_option maxHeartbeats 4000000 in
set_option maxRecDepth 20000 in
theorem vote_Ask_2_pc {v1 : Seat} {v2 : Int} {v3 : Int} {r : Bool} (H : vote_Ask_2_f v1 v2 v3 = some r) : PC Try.prog 32 [.rop (Seat.c v1) 0 10, .rop ((ci .i64) v2) 0 1, .rop ((ci .i64) v3) 0 1] (.bool r) := by
  refine pcA_of Try.func32 (by rfl) (by decide) 9 (by rfl) [.tmp 3] (by rfl) ?_
  unfold vote_Ask_2_f at H
  simp only [ent]
  refine a_seq ?_
  refine a_reg _ rfl (s := ?zs1) ?_ ?_
  rotate_left
  · simp (maxSteps := 2000000) only [EVT, stepR, evOp, St.ev, St.app, St.put, wrs, datOf, datOf1, TIS, CS, Nat.reduceAdd, Nat.reduceMul, Nat.reduceEqDiff, ↓reduceIte, reduceCtorEq, Nat.reduceLT, Nat.reduceLeDiff]
    (repeat' apply And.intro) <;> first | rfl | assumption | omega | (simp; done) | (simp; omega) | (simp_all; done)
  refine sA_n ?_
  refine a_seq ?_
  obtain ⟨r1, zh1, H⟩ := bind_some H
  have zk1 := log_Newer_pc zh1
  refine a_reg _ rfl (s := ?zs2) ?_ ?_
  rotate_left
  · try simp (maxSteps := 2000000) only [EVT, stepR, evOp, St.ev, St.app, St.put, wrs, evFieldAddr, evLoad, cut, frz, TIS, CS, Nat.reduceAdd, Nat.reduceMul, Nat.reduceEqDiff, ↓reduceIte, reduceCtorEq, Nat.reduceLT, Nat.reduceLeDiff, Nat.reduceSub, Nat.reduceBEq]
    repeat' with_reducible apply And.intro
    all_goals try ((with_reducible show CallR _ _ _ _ _ _ _); refine cR_s zk1 (.cons (.lst _ _ _ Entry.pu rfl) (.cons (.int' rfl) (.cons (.int' rfl) .nil))) (.bool _) ?_; simp (maxSteps := 2000000) only [EVT, stepR, evOp, St.ev, St.app, St.put, wrs, evFieldAddr, evLoad, cut, frz, TIS, CS, Nat.reduceAdd, Nat.reduceMul, Nat.reduceEqDiff, ↓reduceIte, reduceCtorEq, Nat.reduceLT, Nat.reduceLeDiff, Nat.reduceSub, Nat.reduceBEq])
    all_goals ((repeat' apply And.intro) <;> first | rfl | assumption | omega | (simp; done) | (simp; omega) | (simp_all; done))
  refine sA_n ?_
  refine a_ret ?_
  obtain rfl := Option.some.inj H
  refine e_r2 (d := ?zd1) ?_ ?_
  rotate_left
  · simp only [EVT, resR, single, evLoad, cut, TIS, CS, Nat.reduceAdd, Nat.reduceEqDiff, ↓reduceIte, reduceCtorEq, Nat.reduceLT, Nat.reduceLeDiff, Nat.reduceSub, Nat.reduceBEq]
    (repeat' apply And.intro) <;> first | rfl | assumption | omega | (simp; done)
  exact (.bool' rfl)
def vote_Ask_J2 (s2 : Seat) (who1 : Int) : Option (Seat × Bool) :=
  some ((⟨s2.id, s2.peers, s2.term, who1, s2.role, s2.log, s2.commit, s2.votes, s2.next, s2.match_⟩ : Seat), true)
def vote_Ask_J1 (who1 : Int) (last1 : Int) (many1 : Int) (s2 : Seat) : Option (Seat × Bool) :=
  (vote_Ask_1_f s2 who1).bind fun r1 => cond (!r1) (some (s2, false)) ((vote_Ask_2_f s2 last1 many1).bind fun r2 => cond (!r2) (some (s2, false)) (vote_Ask_J2 s2 who1))
def vote_Ask_f (s1 : Seat) (term1 : Int) (who1 : Int) (last1 : Int) (many1 : Int) : Option (Seat × Bool) :=
  cond (decide (term1 < s1.term)) (some (s1, false)) (cond (decide (s1.term < term1)) ((vote_Down_f s1 term1).bind fun r3 => vote_Ask_J1 who1 last1 many1 r3) (vote_Ask_J1 who1 last1 many1 s1))
set_option maxHeartbeats 4000000 in
set_option maxRecDepth 20000 in
theorem vote_Ask_pc {s1 : Seat} {term1 : Int} {who1 : Int} {last1 : Int} {many1 : Int} {r : Seat × Bool} (H : vote_Ask_f s1 term1 who1 last1 many1 = some r) : PC Try.prog 21 [.agg (Seat.c s1), .int .i64 term1, .int .i64 who1, .int .i64 last1, .int .i64 many1] (.tup [.agg (Seat.c r.1), .bool r.2]) := by
  refine pcA_of Try.func21 (by rfl) (by decide) 46 (by rfl) [.cell 10 25, .tmp 11] (by rfl) ?_
  unfold vote_Ask_f at H
  simp only [ent]
  refine a_seq ?_
  refine a_reg _ rfl (s := ?zs1) ?_ ?_
  rotate_left
  · simp (maxSteps := 2000000) only [EVT, stepR, evOp, St.ev, St.app, St.put, wrs, allOne, datOf, datOf1, TIS, CS, Nat.reduceAdd, Nat.reduceMul, Nat.reduceEqDiff, ↓reduceIte, reduceCtorEq, Nat.reduceLT, Nat.reduceLeDiff]
    (repeat' apply And.intro) <;> first | rfl | assumption | omega | (simp; done) | (simp; omega) | (simp_all; done)
  refine sA_n ?_
  refine a_seq ?_
  refine a_seq ?_
  refine a_reg _ rfl (s := ?zs2) ?_ ?_
  rotate_left
  · simp (maxSteps := 2000000) only [EVT, stepR, evOp, St.ev, St.app, St.put, wrs, evFieldAddr, evLoad, cut, evBin, binInt, TIS, CS, Nat.reduceAdd, Nat.reduceMul, Nat.reduceEqDiff, ↓reduceIte, reduceCtorEq, Nat.reduceLT, Nat.reduceLeDiff, Nat.reduceSub, Nat.reduceBEq]
    (repeat' apply And.intro) <;> first | rfl | assumption | omega | (simp; done) | (simp; omega) | (simp_all; done)
  refine sA_n ?_
  refine a_condb ((decide (term1 < s1.term))) (by rfl) (fun zc1 => ?_) (fun zc1 => ?_)
  · have H := cond_t zc1 H
    refine a_seq ?_
    refine a_reg _ rfl (s := ?zs3) ?_ ?_
    rotate_left
    · simp (maxSteps := 2000000) only [EVT, stepR, evOp, St.ev, St.app, St.put, wrs, evLoad, cut, evStore, setR, allOne, datOf, datOf1, TIS, CS, Nat.reduceAdd, Nat.reduceMul, Nat.reduceEqDiff, ↓reduceIte, reduceCtorEq, Nat.reduceLT, Nat.reduceLeDiff, Nat.reduceSub, Nat.reduceBEq, ↓zc1]
      (repeat' apply And.intro) <;> first | rfl | assumption | omega | (simp; done) | (simp; omega) | (simp_all; done)
    refine sA_n ?_
    refine a_ret ?_
    refine sA_r ?_
    obtain rfl := Option.some.inj H
    refine e_r2 (d := ?zd1) ?_ ?_
    rotate_left
    · simp only [EVT, resR, single, evLoad, cut, TIS, CS, Nat.reduceAdd, Nat.reduceEqDiff, ↓reduceIte, reduceCtorEq, Nat.reduceLT, Nat.reduceLeDiff, Nat.reduceSub, Nat.reduceBEq, zc1]
      (repeat' apply And.intro) <;> first | rfl | assumption | omega | (simp; done)
    exact (.tup' (.cons (.agg' (.cons (.int' rfl) (.cons (.lst _ _ _ (ci_pu .i64) rfl) (.cons (.int' rfl) (.cons (.int' rfl) (.cons (.int' rfl) (.cons (.lst _ _ _ Entry.pu rfl) (.cons (.int' rfl) (.cons (.lst _ _ _ (ci_pu .i64) rfl) (.cons (.lst _ _ _ (ci_pu .i64) rfl) (.cons (.lst _ _ _ (ci_pu .i64) rfl) .nil))))))))))) (.cons (.bool' (by first | rfl | assumption | (simp_all; done))) .nil)))
  · have H := cond_f zc1 H
    refine a_skip ?_
    refine sA_n ?_
    refine a_cut (fun s => ∃ (s2 : Seat) (t0 : Nat → Dat), vote_Ask_J1 who1 last1 many1 s2 = some r ∧ s = ⟨tl t0 [(5, .ptr 0 0 0 10), (7, .ptr 1 0 0 1), (8, .ptr 2 0 0 1), (9, .ptr 3 0 0 1), (10, .ptr 4 0 0 10)], hl [⟨25, 10, false, [[.int .i64 s2.id, .list 1 (s2.peers.map (ci .i64)), .int .i64 s2.term, .int .i64 s2.voted, .int .i64 s2.role, .list 2 (s2.log.map Entry.c), .int .i64 s2.commit, .list 1 (s2.votes.map (ci .i64)), .list 1 (s2.next.map (ci .i64)), .list 1 (s2.match_.map (ci .i64))]]⟩, ⟨3, 1, false, [[.int .i64 who1]]⟩, ⟨3, 1, false, [[.int .i64 last1]]⟩, ⟨3, 1, false, [[.int .i64 many1]]⟩, ⟨25, 10, false, [[.int .i64 0, .nil, .int .i64 0, .int .i64 0, .int .i64 0, .nil, .int .i64 0, .nil, .nil, .nil]]⟩], 5, 46⟩) ?_ ?_
    · refine a_seq ?_
      refine a_reg _ rfl (s := ?zs20) ?_ ?_
      rotate_left
      · simp (maxSteps := 2000000) only [EVT, stepR, evOp, St.ev, St.app, St.put, wrs, evFieldAddr, evLoad, cut, evBin, binInt, TIS, CS, Nat.reduceAdd, Nat.reduceMul, Nat.reduceEqDiff, ↓reduceIte, reduceCtorEq, Nat.reduceLT, Nat.reduceLeDiff, Nat.reduceSub, Nat.reduceBEq, ↓zc1]
        (repeat' apply And.intro) <;> first | rfl | assumption | omega | (simp; done) | (simp; omega) | (simp_all; done)
      refine sA_n ?_
      refine a_condb ((decide (s1.term < term1))) (by rfl) (fun zc7 => ?_) (fun zc7 => ?_)
      · have H := cond_t zc7 H
        obtain ⟨r3, zh3, H⟩ := bind_some H
        have zk3 := vote_Down_pc zh3
        refine a_reg _ rfl (s := ?zs21) ?_ ?_
        rotate_left
        · try simp (maxSteps := 2000000) only [EVT, stepR, evOp, St.ev, St.app, St.put, wrs, evLoad, cut, frz, evStore, setR, allOne, TIS, CS, Nat.reduceAdd, Nat.reduceMul, Nat.reduceEqDiff, ↓reduceIte, reduceCtorEq, Nat.reduceLT, Nat.reduceLeDiff, Nat.reduceSub, Nat.reduceBEq, ↓zc1, ↓zc7]
          repeat' with_reducible apply And.intro
          all_goals try ((with_reducible show CallR _ _ _ _ _ _ _); refine cR_p zk3 (.cons (.agg' (.cons (.int' rfl) (.cons (.lst _ _ _ (ci_pu .i64) rfl) (.cons (.int' rfl) (.cons (.int' rfl) (.cons (.int' rfl) (.cons (.lst _ _ _ Entry.pu rfl) (.cons (.int' rfl) (.cons (.lst _ _ _ (ci_pu .i64) rfl) (.cons (.lst _ _ _ (ci_pu .i64) rfl) (.cons (.lst _ _ _ (ci_pu .i64) rfl) .nil))))))))))) (.cons (.int' rfl) .nil)) ?_; simp (maxSteps := 2000000) only [EVT, stepR, evOp, St.ev, St.app, St.put, wrs, evLoad, cut, frz, evStore, setR, allOne, TIS, CS, Nat.reduceAdd, Nat.reduceMul, Nat.reduceEqDiff, ↓reduceIte, reduceCtorEq, Nat.reduceLT, Nat.reduceLeDiff, Nat.reduceSub, Nat.reduceBEq, ↓zc1, ↓zc7])
          all_goals ((repeat' apply And.intro) <;> first | rfl | assumption | omega | (simp; done) | (simp; omega) | (simp_all; done))
        refine cA_n ?_
        refine wk_l [(some 0, ⟨25, 10, false, [[.int .i64 r3.id, .list 1 (r3.peers.map (ci .i64)), .int .i64 r3.term, .int .i64 r3.voted, .int .i64 r3.role, .list 2 (r3.log.map Entry.c), .int .i64 r3.commit, .list 1 (r3.votes.map (ci .i64)), .list 1 (r3.next.map (ci .i64)), .list 1 (r3.match_.map (ci .i64))]]⟩), (some 1, ⟨3, 1, false, [[.int .i64 who1]]⟩), (some 2, ⟨3, 1, false, [[.int .i64 last1]]⟩), (some 3, ⟨3, 1, false, [[.int .i64 many1]]⟩), (some 4, ⟨25, 10, false, [[.int .i64 0, .nil, .int .i64 0, .int .i64 0, .int .i64 0, .nil, .int .i64 0, .nil, .nil, .nil]]⟩)] [] [(5, .ptr 0 0 0 10), (7, .ptr 1 0 0 1), (8, .ptr 2 0 0 1), (9, .ptr 3 0 0 1), (10, .ptr 4 0 0 10)] (by show ([5, 7, 8, 9, 10] : List Nat).Nodup; decide) (by show ([0, 1, 2, 3, 4] : List Nat).Nodup; decide) ?_ ?_ (fun t0 => ⟨r3, t0, H, rfl⟩)
        · exact (allB_some (by rfl) rfl (.cons (.cons (.int' rfl) (.cons (.lst _ _ _ (ci_pu .i64) rfl) (.cons (.int' rfl) (.cons (.int' rfl) (.cons (.int' rfl) (.cons (.lst _ _ _ Entry.pu rfl) (.cons (.int' rfl) (.cons (.lst _ _ _ (ci_pu .i64) rfl) (.cons (.lst _ _ _ (ci_pu .i64) rfl) (.cons (.lst _ _ _ (ci_pu .i64) rfl) .nil)))))))))) .nil) (allB_some (by rfl) rfl (.cons (.cons (.int' rfl) .nil) .nil) (allB_some (by rfl) rfl (.cons (.cons (.int' rfl) .nil) .nil) (allB_some (by rfl) rfl (.cons (.cons (.int' rfl) .nil) .nil) (allB_some (by rfl) rfl (.cons (.cons (.int' rfl) (.cons .nil' (.cons (.int' rfl) (.cons (.int' rfl) (.cons (.int' rfl) (.cons .nil' (.cons (.int' rfl) (.cons .nil' (.cons .nil' (.cons .nil' .nil)))))))))) .nil) trivial)))))
        · (simp only [AllT, tl_cons, tl_nil, upd_apply, List.getD_cons_zero, List.getD_cons_succ, Nat.reduceEqDiff, ↓reduceIte, and_true]); exact ⟨(.ptr _ _ _ _ _ rfl), (.ptr _ _ _ _ _ rfl), (.ptr _ _ _ _ _ rfl), (.ptr _ _ _ _ _ rfl), (.ptr _ _ _ _ _ rfl)⟩
      · have H := cond_f zc7 H
        refine a_skip ?_
        refine cA_n ?_
        refine wk_l [(some 0, ⟨25, 10, false, [[.int .i64 s1.id, .list 1 (s1.peers.map (ci .i64)), .int .i64 s1.term, .int .i64 s1.voted, .int .i64 s1.role, .list 2 (s1.log.map Entry.c), .int .i64 s1.commit, .list 1 (s1.votes.map (ci .i64)), .list 1 (s1.next.map (ci .i64)), .list 1 (s1.match_.map (ci .i64))]]⟩), (some 1, ⟨3, 1, false, [[.int .i64 who1]]⟩), (some 2, ⟨3, 1, false, [[.int .i64 last1]]⟩), (some 3, ⟨3, 1, false, [[.int .i64 many1]]⟩), (some 4, ⟨25, 10, false, [[.int .i64 0, .nil, .int .i64 0, .int .i64 0, .int .i64 0, .nil, .int .i64 0, .nil, .nil, .nil]]⟩)] [] [(5, .ptr 0 0 0 10), (7, .ptr 1 0 0 1), (8, .ptr 2 0 0 1), (9, .ptr 3 0 0 1), (10, .ptr 4 0 0 10)] (by show ([5, 7, 8, 9, 10] : List Nat).Nodup; decide) (by show ([0, 1, 2, 3, 4] : List Nat).Nodup; decide) ?_ ?_ (fun t0 => ⟨s1, t0, H, rfl⟩)
        · exact (allB_some (by rfl) rfl (.cons (.cons (.int' rfl) (.cons (.lst _ _ _ (ci_pu .i64) rfl) (.cons (.int' rfl) (.cons (.int' rfl) (.cons (.int' rfl) (.cons (.lst _ _ _ Entry.pu rfl) (.cons (.int' rfl) (.cons (.lst _ _ _ (ci_pu .i64) rfl) (.cons (.lst _ _ _ (ci_pu .i64) rfl) (.cons (.lst _ _ _ (ci_pu .i64) rfl) .nil)))))))))) .nil) (allB_some (by rfl) rfl (.cons (.cons (.int' rfl) .nil) .nil) (allB_some (by rfl) rfl (.cons (.cons (.int' rfl) .nil) .nil) (allB_some (by rfl) rfl (.cons (.cons (.int' rfl) .nil) .nil) (allB_some (by rfl) rfl (.cons (.cons (.int' rfl) (.cons .nil' (.cons (.int' rfl) (.cons (.int' rfl) (.cons (.int' rfl) (.cons .nil' (.cons (.int' rfl) (.cons .nil' (.cons .nil' (.cons .nil' .nil)))))))))) .nil) trivial)))))
        · (simp only [AllT, tl_cons, tl_nil, upd_apply, List.getD_cons_zero, List.getD_cons_succ, Nat.reduceEqDiff, ↓reduceIte, and_true]); exact ⟨(.ptr _ _ _ _ _ rfl), (.ptr _ _ _ _ _ rfl), (.ptr _ _ _ _ _ rfl), (.ptr _ _ _ _ _ rfl), (.ptr _ _ _ _ _ rfl)⟩
    · rintro s ⟨s2, t0, H, rfl⟩
      unfold vote_Ask_J1 at H
      refine a_seq ?_
      refine a_reg _ rfl (s := ?zs4) ?_ ?_
      rotate_left
      · simp (maxSteps := 2000000) only [EVT, stepR, evOp, St.ev, St.app, St.put, wrs, TIS, CS, Nat.reduceAdd, Nat.reduceMul, Nat.reduceEqDiff, ↓reduceIte, reduceCtorEq, Nat.reduceLT, Nat.reduceLeDiff]
        (repeat' apply And.intro) <;> first | rfl | assumption | omega | (simp; done) | (simp; omega) | (simp_all; done)
      refine sA_n ?_
      refine a_seq ?_
      refine a_reg _ rfl (s := ?zs5) ?_ ?_
      rotate_left
      · simp (maxSteps := 2000000) only [EVT, stepR, evOp, St.ev, St.app, St.put, wrs, TIS, CS, Nat.reduceAdd, Nat.reduceMul, Nat.reduceEqDiff, ↓reduceIte, reduceCtorEq, Nat.reduceLT, Nat.reduceLeDiff]
        (repeat' apply And.intro) <;> first | rfl | assumption | omega | (simp; done) | (simp; omega) | (simp_all; done)
      refine sA_n ?_
      refine a_cut (fun s => ∃ (t0 : Nat → Dat), vote_Ask_J2 s2 who1 = some r ∧ s = ⟨tl t0 [(5, .ptr 0 0 0 10), (7, .ptr 1 0 0 1), (10, .ptr 2 0 0 10)], hl [⟨25, 10, false, [[.int .i64 s2.id, .list 1 (s2.peers.map (ci .i64)), .int .i64 s2.term, .int .i64 s2.voted, .int .i64 s2.role, .list 2 (s2.log.map Entry.c), .int .i64 s2.commit, .list 1 (s2.votes.map (ci .i64)), .list 1 (s2.next.map (ci .i64)), .list 1 (s2.match_.map (ci .i64))]]⟩, ⟨3, 1, false, [[.int .i64 who1]]⟩, ⟨25, 10, false, [[.int .i64 0, .nil, .int .i64 0, .int .i64 0, .int .i64 0, .nil, .int .i64 0, .nil, .nil, .nil]]⟩], 3, 46⟩) ?_ ?_
      · refine a_seq ?_
        refine a_reg _ rfl (s := ?zs8) ?_ ?_
        rotate_left
        · simp (maxSteps := 2000000) only [EVT, stepR, evOp, St.ev, St.app, St.put, wrs, allOne, evBuiltin, datOf, datOf1, TIS, CS, Nat.reduceAdd, Nat.reduceMul, Nat.reduceEqDiff, ↓reduceIte, reduceCtorEq, Nat.reduceLT, Nat.reduceLeDiff, Nat.reduceSub, Nat.reduceBEq]
          (repeat' apply And.intro) <;> first | rfl | assumption | omega | (simp; done) | (simp; omega) | (simp_all; done)
        refine sA_n ?_
        refine a_blk ?_
        refine a_loopN 3 ?_
        refine rA_s ?_
        refine a_seq ?_
        refine a_reg _ rfl (s := ?zs9) ?_ ?_
        rotate_left
        · simp (maxSteps := 2000000) only [EVT, stepR, evOp, St.ev, St.app, St.put, wrs, evBin, binInt, TIS, CS, Nat.reduceAdd, Nat.reduceMul, Nat.reduceEqDiff, ↓reduceIte, reduceCtorEq, Nat.reduceLT, Nat.reduceLeDiff]
          (repeat' apply And.intro) <;> first | rfl | assumption | omega | (simp; done) | (simp; omega) | (simp_all; done)
        refine sA_n ?_
        refine a_seq ?_
        refine a_condb true (by first | rfl | (simp only [EVT, St.ev, datOf, datOf1, Nat.reduceEqDiff, ↓reduceIte]; done) | (simp only [EVT, St.ev, datOf, datOf1, Nat.reduceEqDiff, ↓reduceIte]; rfl) | (simp only [EVT, St.ev, datOf, datOf1, Nat.reduceEqDiff, ↓reduceIte]; simp_all; done)) (fun zc2 => ?_) (fun zc2 => absurd zc2 (by decide))
        refine a_skip ?_
        refine sA_n ?_
        refine a_seq ?_
        refine a_blk ?_
        refine a_seq ?_
        refine a_reg _ rfl (s := ?zs10) ?_ ?_
        rotate_left
        · simp (maxSteps := 2000000) only [EVT, stepR, evOp, St.ev, St.app, St.put, wrs, evIndexAddr, evLoad, cut, TIS, CS, Nat.reduceAdd, Nat.reduceMul, Nat.reduceEqDiff, ↓reduceIte, reduceCtorEq, Nat.reduceLT, Nat.reduceLeDiff, Int.reduceToNat, Nat.reduceSub, Nat.reduceBEq]
          (repeat' apply And.intro) <;> first | rfl | assumption | omega | (simp; done) | (simp; omega) | (simp_all; done)
        refine sA_n ?_
        refine a_seq ?_
        obtain ⟨r1, zh1, H⟩ := bind_some H
        have zk1 := vote_Ask_1_pc zh1
        refine a_reg _ rfl (s := ?zs11) ?_ ?_
        rotate_left
        · try simp (maxSteps := 2000000) only [EVT, stepR, evOp, St.ev, St.app, St.put, wrs, frz, evUn, TIS, CS, Nat.reduceAdd, Nat.reduceMul, Nat.reduceEqDiff, ↓reduceIte, reduceCtorEq, Nat.reduceLT, Nat.reduceLeDiff, Nat.reduceSub, Nat.reduceBEq]
          repeat' with_reducible apply And.intro
          all_goals try ((with_reducible show CallR _ _ _ _ _ _ _); refine cR_s zk1 (.cons (.box (by rfl) (fun e => by cases e) rfl rfl (.cons (.int' rfl) (.cons (.lst _ _ _ (ci_pu .i64) rfl) (.cons (.int' rfl) (.cons (.int' rfl) (.cons (.int' rfl) (.cons (.lst _ _ _ Entry.pu rfl) (.cons (.int' rfl) (.cons (.lst _ _ _ (ci_pu .i64) rfl) (.cons (.lst _ _ _ (ci_pu .i64) rfl) (.cons (.lst _ _ _ (ci_pu .i64) rfl) .nil))))))))))) (.cons (.box (by rfl) (fun e => by cases e) rfl rfl (.cons (.int' rfl) .nil)) .nil)) (.bool _) ?_; simp (maxSteps := 2000000) only [EVT, stepR, evOp, St.ev, St.app, St.put, wrs, frz, evUn, TIS, CS, Nat.reduceAdd, Nat.reduceMul, Nat.reduceEqDiff, ↓reduceIte, reduceCtorEq, Nat.reduceLT, Nat.reduceLeDiff, Nat.reduceSub, Nat.reduceBEq])
          all_goals ((repeat' apply And.intro) <;> first | rfl | assumption | omega | (simp; done) | (simp; omega) | (simp_all; done))
        refine sA_n ?_
        refine a_condb ((!r1)) (by rfl) (fun zc3 => ?_) (fun zc3 => ?_)
        · have H := cond_t zc3 H
          refine a_seq ?_
          refine a_reg _ rfl (s := ?zs12) ?_ ?_
          rotate_left
          · simp (maxSteps := 2000000) only [EVT, stepR, evOp, St.ev, St.app, St.put, wrs, evLoad, cut, evStore, setR, allOne, datOf, datOf1, TIS, CS, Nat.reduceAdd, Nat.reduceMul, Nat.reduceEqDiff, ↓reduceIte, reduceCtorEq, Nat.reduceLT, Nat.reduceLeDiff, Nat.reduceSub, Nat.reduceBEq, ↓zc3]
            (repeat' apply And.intro) <;> first | rfl | assumption | omega | (simp; done) | (simp; omega) | (simp_all; done)
          refine sA_n ?_
          refine a_ret ?_
          refine bA_r ?_
          refine sA_r ?_
          refine rA_r ?_
          refine bA_r ?_
          refine cA_r ?_
          obtain rfl := Option.some.inj H
          refine e_r2 (d := ?zd3) ?_ ?_
          rotate_left
          · simp only [EVT, resR, single, evLoad, cut, TIS, CS, Nat.reduceAdd, Nat.reduceEqDiff, ↓reduceIte, reduceCtorEq, Nat.reduceLT, Nat.reduceLeDiff, Nat.reduceSub, Nat.reduceBEq, zc3]
            (repeat' apply And.intro) <;> first | rfl | assumption | omega | (simp; done)
          exact (.tup' (.cons (.agg' (.cons (.int' rfl) (.cons (.lst _ _ _ (ci_pu .i64) rfl) (.cons (.int' rfl) (.cons (.int' rfl) (.cons (.int' rfl) (.cons (.lst _ _ _ Entry.pu rfl) (.cons (.int' rfl) (.cons (.lst _ _ _ (ci_pu .i64) rfl) (.cons (.lst _ _ _ (ci_pu .i64) rfl) (.cons (.lst _ _ _ (ci_pu .i64) rfl) .nil))))))))))) (.cons (.bool' (by first | rfl | assumption | (simp_all; done))) .nil)))
        · have H := cond_f zc3 H
          refine a_skip ?_
          refine bA_n ?_
          refine sA_n ?_
          have zw1 : IntKind.wrap .i64 (0 + 1) = 1 := by decide
          refine a_reg _ rfl (s := ?zs13) ?_ ?_
          rotate_left
          · simp (maxSteps := 2000000) only [EVT, stepR, evOp, St.ev, St.app, St.put, wrs, datOf, datOf1, evBin, binInt, TIS, CS, Nat.reduceAdd, Nat.reduceMul, Nat.reduceEqDiff, ↓reduceIte, reduceCtorEq, Nat.reduceLT, Nat.reduceLeDiff, ↓zc3, zw1]
            (repeat' apply And.intro) <;> first | rfl | assumption | omega | (simp; done) | (simp; omega) | (simp_all; done)
          refine rA_n ?_
          refine rA_s ?_
          refine a_seq ?_
          refine a_reg _ rfl (s := ?zs14) ?_ ?_
          rotate_left
          · simp (maxSteps := 2000000) only [EVT, stepR, evOp, St.ev, St.app, St.put, wrs, evBin, binInt, TIS, CS, Nat.reduceAdd, Nat.reduceMul, Nat.reduceEqDiff, ↓reduceIte, reduceCtorEq, Nat.reduceLT, Nat.reduceLeDiff, ↓zc3, zw1]
            (repeat' apply And.intro) <;> first | rfl | assumption | omega | (simp; done) | (simp; omega) | (simp_all; done)
          refine sA_n ?_
          refine a_seq ?_
          refine a_condb true (by first | rfl | (simp only [EVT, St.ev, datOf, datOf1, Nat.reduceEqDiff, ↓reduceIte]; done) | (simp only [EVT, St.ev, datOf, datOf1, Nat.reduceEqDiff, ↓reduceIte]; rfl) | (simp only [EVT, St.ev, datOf, datOf1, Nat.reduceEqDiff, ↓reduceIte]; simp_all; done)) (fun zc4 => ?_) (fun zc4 => absurd zc4 (by decide))
          refine a_skip ?_
          refine sA_n ?_
          refine a_seq ?_
          refine a_blk ?_
          refine a_seq ?_
          refine a_reg _ rfl (s := ?zs15) ?_ ?_
          rotate_left
          · simp (maxSteps := 2000000) only [EVT, stepR, evOp, St.ev, St.app, St.put, wrs, evIndexAddr, evLoad, cut, TIS, CS, Nat.reduceAdd, Nat.reduceMul, Nat.reduceEqDiff, ↓reduceIte, reduceCtorEq, Nat.reduceLT, Nat.reduceLeDiff, Int.reduceToNat, Nat.reduceSub, Nat.reduceBEq, ↓zc3, zw1]
            (repeat' apply And.intro) <;> first | rfl | assumption | omega | (simp; done) | (simp; omega) | (simp_all; done)
          refine sA_n ?_
          refine a_seq ?_
          obtain ⟨r2, zh2, H⟩ := bind_some H
          have zk2 := vote_Ask_2_pc zh2
          refine a_reg _ rfl (s := ?zs16) ?_ ?_
          rotate_left
          · try simp (maxSteps := 2000000) only [EVT, stepR, evOp, St.ev, St.app, St.put, wrs, frz, evUn, TIS, CS, Nat.reduceAdd, Nat.reduceMul, Nat.reduceEqDiff, ↓reduceIte, reduceCtorEq, Nat.reduceLT, Nat.reduceLeDiff, Nat.reduceSub, Nat.reduceBEq, ↓zc3, zw1]
            repeat' with_reducible apply And.intro
            all_goals try ((with_reducible show CallR _ _ _ _ _ _ _); refine cR_s zk2 (.cons (.box (by rfl) (fun e => by cases e) rfl rfl (.cons (.int' rfl) (.cons (.lst _ _ _ (ci_pu .i64) rfl) (.cons (.int' rfl) (.cons (.int' rfl) (.cons (.int' rfl) (.cons (.lst _ _ _ Entry.pu rfl) (.cons (.int' rfl) (.cons (.lst _ _ _ (ci_pu .i64) rfl) (.cons (.lst _ _ _ (ci_pu .i64) rfl) (.cons (.lst _ _ _ (ci_pu .i64) rfl) .nil))))))))))) (.cons (.box (by rfl) (fun e => by cases e) rfl rfl (.cons (.int' rfl) .nil)) (.cons (.box (by rfl) (fun e => by cases e) rfl rfl (.cons (.int' rfl) .nil)) .nil))) (.bool _) ?_; simp (maxSteps := 2000000) only [EVT, stepR, evOp, St.ev, St.app, St.put, wrs, frz, evUn, TIS, CS, Nat.reduceAdd, Nat.reduceMul, Nat.reduceEqDiff, ↓reduceIte, reduceCtorEq, Nat.reduceLT, Nat.reduceLeDiff, Nat.reduceSub, Nat.reduceBEq, ↓zc3, zw1])
            all_goals ((repeat' apply And.intro) <;> first | rfl | assumption | omega | (simp; done) | (simp; omega) | (simp_all; done))
          refine sA_n ?_
          refine a_condb ((!r2)) (by rfl) (fun zc5 => ?_) (fun zc5 => ?_)
          · have H := cond_t zc5 H
            refine a_seq ?_
            refine a_reg _ rfl (s := ?zs17) ?_ ?_
            rotate_left
            · simp (maxSteps := 2000000) only [EVT, stepR, evOp, St.ev, St.app, St.put, wrs, evLoad, cut, evStore, setR, allOne, datOf, datOf1, TIS, CS, Nat.reduceAdd, Nat.reduceMul, Nat.reduceEqDiff, ↓reduceIte, reduceCtorEq, Nat.reduceLT, Nat.reduceLeDiff, Nat.reduceSub, Nat.reduceBEq, ↓zc3, zw1, ↓zc5]
              (repeat' apply And.intro) <;> first | rfl | assumption | omega | (simp; done) | (simp; omega) | (simp_all; done)
            refine sA_n ?_
            refine a_ret ?_
            refine bA_r ?_
            refine sA_r ?_
            refine rA_r ?_
            refine bA_r ?_
            refine cA_r ?_
            obtain rfl := Option.some.inj H
            refine e_r2 (d := ?zd4) ?_ ?_
            rotate_left
            · simp only [EVT, resR, single, evLoad, cut, TIS, CS, Nat.reduceAdd, Nat.reduceEqDiff, ↓reduceIte, reduceCtorEq, Nat.reduceLT, Nat.reduceLeDiff, Nat.reduceSub, Nat.reduceBEq, zc3, zw1, zc5]
              (repeat' apply And.intro) <;> first | rfl | assumption | omega | (simp; done)
            exact (.tup' (.cons (.agg' (.cons (.int' rfl) (.cons (.lst _ _ _ (ci_pu .i64) rfl) (.cons (.int' rfl) (.cons (.int' rfl) (.cons (.int' rfl) (.cons (.lst _ _ _ Entry.pu rfl) (.cons (.int' rfl) (.cons (.lst _ _ _ (ci_pu .i64) rfl) (.cons (.lst _ _ _ (ci_pu .i64) rfl) (.cons (.lst _ _ _ (ci_pu .i64) rfl) .nil))))))))))) (.cons (.bool' (by first | rfl | assumption | (simp_all; done))) .nil)))
          · have H := cond_f zc5 H
            refine a_skip ?_
            refine bA_n ?_
            refine sA_n ?_
            have zw2 : IntKind.wrap .i64 (1 + 1) = 2 := by decide
            refine a_reg _ rfl (s := ?zs18) ?_ ?_
            rotate_left
            · simp (maxSteps := 2000000) only [EVT, stepR, evOp, St.ev, St.app, St.put, wrs, datOf, datOf1, evBin, binInt, TIS, CS, Nat.reduceAdd, Nat.reduceMul, Nat.reduceEqDiff, ↓reduceIte, reduceCtorEq, Nat.reduceLT, Nat.reduceLeDiff, ↓zc3, zw1, ↓zc5, zw2]
              (repeat' apply And.intro) <;> first | rfl | assumption | omega | (simp; done) | (simp; omega) | (simp_all; done)
            refine rA_n ?_
            refine rA_s ?_
            refine a_seq ?_
            refine a_reg _ rfl (s := ?zs19) ?_ ?_
            rotate_left
            · simp (maxSteps := 2000000) only [EVT, stepR, evOp, St.ev, St.app, St.put, wrs, evBin, binInt, TIS, CS, Nat.reduceAdd, Nat.reduceMul, Nat.reduceEqDiff, ↓reduceIte, reduceCtorEq, Nat.reduceLT, Nat.reduceLeDiff, ↓zc3, zw1, ↓zc5, zw2]
              (repeat' apply And.intro) <;> first | rfl | assumption | omega | (simp; done) | (simp; omega) | (simp_all; done)
            refine sA_n ?_
            refine a_seq ?_
            refine a_condb false (by first | rfl | (simp only [EVT, St.ev, datOf, datOf1, Nat.reduceEqDiff, ↓reduceIte]; done) | (simp only [EVT, St.ev, datOf, datOf1, Nat.reduceEqDiff, ↓reduceIte]; rfl) | (simp only [EVT, St.ev, datOf, datOf1, Nat.reduceEqDiff, ↓reduceIte]; simp_all; done)) (fun zc6 => absurd zc6 (by decide)) (fun zc6 => ?_)
            refine a_exit ?_
            refine sA_e ?_
            refine rA_e ?_
            refine bA_hit ?_
            refine cA_n ?_
            refine wk_l [(some 0, ⟨25, 10, false, [[.int .i64 s2.id, .list 1 (s2.peers.map (ci .i64)), .int .i64 s2.term, .int .i64 s2.voted, .int .i64 s2.role, .list 2 (s2.log.map Entry.c), .int .i64 s2.commit, .list 1 (s2.votes.map (ci .i64)), .list 1 (s2.next.map (ci .i64)), .list 1 (s2.match_.map (ci .i64))]]⟩), (some 1, ⟨3, 1, false, [[.int .i64 who1]]⟩), (some 4, ⟨25, 10, false, [[.int .i64 0, .nil, .int .i64 0, .int .i64 0, .int .i64 0, .nil, .int .i64 0, .nil, .nil, .nil]]⟩)] [] [(5, .ptr 0 0 0 10), (7, .ptr 1 0 0 1), (10, .ptr 2 0 0 10)] (by show ([5, 7, 10] : List Nat).Nodup; decide) (by show ([0, 1, 4] : List Nat).Nodup; decide) ?_ ?_ (fun t0 => ⟨t0, H, rfl⟩)
            · exact (allB_some (by rfl) rfl (.cons (.cons (.int' rfl) (.cons (.lst _ _ _ (ci_pu .i64) rfl) (.cons (.int' rfl) (.cons (.int' rfl) (.cons (.int' rfl) (.cons (.lst _ _ _ Entry.pu rfl) (.cons (.int' rfl) (.cons (.lst _ _ _ (ci_pu .i64) rfl) (.cons (.lst _ _ _ (ci_pu .i64) rfl) (.cons (.lst _ _ _ (ci_pu .i64) rfl) .nil)))))))))) .nil) (allB_some (by rfl) rfl (.cons (.cons (.int' rfl) .nil) .nil) (allB_some (by rfl) rfl (.cons (.cons (.int' rfl) (.cons .nil' (.cons (.int' rfl) (.cons (.int' rfl) (.cons (.int' rfl) (.cons .nil' (.cons (.int' rfl) (.cons .nil' (.cons .nil' (.cons .nil' .nil)))))))))) .nil) trivial)))
            · (simp only [AllT, tl_cons, tl_nil, upd_apply, List.getD_cons_zero, List.getD_cons_succ, Nat.reduceEqDiff, ↓reduceIte, and_true]); exact ⟨(.ptr _ _ _ _ _ rfl), (.ptr _ _ _ _ _ rfl), (.ptr _ _ _ _ _ rfl)⟩
      · rintro s ⟨t0, H, rfl⟩
        unfold vote_Ask_J2 at H
        refine a_seq ?_
        refine a_reg _ rfl (s := ?zs6) ?_ ?_
        rotate_left
        · simp (maxSteps := 2000000) only [EVT, stepR, evOp, St.ev, St.app, St.put, wrs, evLoad, cut, evFieldAddr, evStore, setR, allOne, TIS, CS, Nat.reduceAdd, Nat.reduceMul, Nat.reduceEqDiff, ↓reduceIte, reduceCtorEq, Nat.reduceLT, Nat.reduceLeDiff, Nat.reduceSub, Nat.reduceBEq]
          (repeat' apply And.intro) <;> first | rfl | assumption | omega | (simp; done) | (simp; omega) | (simp_all; done)
        refine sA_n ?_
        refine a_seq ?_
        refine a_reg _ rfl (s := ?zs7) ?_ ?_
        rotate_left
        · simp (maxSteps := 2000000) only [EVT, stepR, evOp, St.ev, St.app, St.put, wrs, evLoad, cut, evStore, setR, allOne, datOf, datOf1, TIS, CS, Nat.reduceAdd, Nat.reduceMul, Nat.reduceEqDiff, ↓reduceIte, reduceCtorEq, Nat.reduceLT, Nat.reduceLeDiff, Nat.reduceSub, Nat.reduceBEq]
          (repeat' apply And.intro) <;> first | rfl | assumption | omega | (simp; done) | (simp; omega) | (simp_all; done)
        refine sA_n ?_
        refine a_ret ?_
        obtain rfl := Option.some.inj H
        refine e_r2 (d := ?zd2) ?_ ?_
        rotate_left
        · simp only [EVT, resR, single, evLoad, cut, TIS, CS, Nat.reduceAdd, Nat.reduceEqDiff, ↓reduceIte, reduceCtorEq, Nat.reduceLT, Nat.reduceLeDiff, Nat.reduceSub, Nat.reduceBEq]
          (repeat' apply And.intro) <;> first | rfl | assumption | omega | (simp; done)
        exact (.tup' (.cons (.agg' (.cons (.int' rfl) (.cons (.lst _ _ _ (ci_pu .i64) rfl) (.cons (.int' rfl) (.cons (.int' rfl) (.cons (.int' rfl) (.cons (.lst _ _ _ Entry.pu rfl) (.cons (.int' rfl) (.cons (.lst _ _ _ (ci_pu .i64) rfl) (.cons (.lst _ _ _ (ci_pu .i64) rfl) (.cons (.lst _ _ _ (ci_pu .i64) rfl) .nil))))))))))) (.cons (.bool' (by first | rfl | assumption | (simp_all; done))) .nil)))
def law14_step_f (s1 : Seat) (c1 : Call30) : Option (Seat × Bool) :=
  cond ((Int.tmod c1.do_ 4) == 0) ((vote_Begin_f s1).bind fun r1 => some (r1, false)) (cond ((Int.tmod c1.do_ 4) == 1) (cond (decide (s1.term < (IntKind.wrap .i64 c1.term))) ((vote_Down_f s1 (IntKind.wrap .i64 c1.term)).bind fun r2 => some (r2, false)) (some (s1, false))) ((vote_Ask_f s1 (IntKind.wrap .i64 c1.term) (IntKind.wrap .i64 c1.who) (IntKind.wrap .i64 c1.last) (IntKind.wrap .i64 c1.many)).bind fun r3 => some (r3.1, r3.2)))
set_option maxHeartbeats 4000000 in
set_option maxRecDepth 20000 in
theorem law14_step_pc {s1 : Seat} {c1 : Call30} {r : Seat × Bool} (H : law14_step_f s1 c1 = some r) : PC Try.prog 11 [.agg (Seat.c s1), .agg (Call30.c c1)] (.tup [.agg (Seat.c r.1), .bool r.2]) := by
  refine pcA_of Try.func11 (by rfl) (by decide) 49 (by rfl) [.cell 4 25, .tmp 5] (by rfl) ?_
  unfold law14_step_f at H
  simp only [ent]
  refine a_seq ?_
  refine a_reg _ rfl (s := ?zs1) ?_ ?_
  rotate_left
  · simp (maxSteps := 2000000) only [EVT, stepR, evOp, St.ev, St.app, St.put, wrs, allOne, datOf, datOf1, TIS, CS, Nat.reduceAdd, Nat.reduceMul, Nat.reduceEqDiff, ↓reduceIte, reduceCtorEq, Nat.reduceLT, Nat.reduceLeDiff]
    (repeat' apply And.intro) <;> first | rfl | assumption | omega | (simp; done) | (simp; omega) | (simp_all; done)
  refine sA_n ?_
  refine a_seq ?_
  refine a_seq ?_
  refine a_reg _ rfl (s := ?zs2) ?_ ?_
  rotate_left
  · simp (maxSteps := 2000000) only [EVT, stepR, evOp, St.ev, St.app, St.put, wrs, evFieldAddr, evLoad, cut, datOf, datOf1, evBin, binInt, TIS, CS, Nat.reduceAdd, Nat.reduceMul, Nat.reduceEqDiff, ↓reduceIte, reduceCtorEq, Nat.reduceLT, Nat.reduceLeDiff, Nat.reduceSub, Nat.reduceBEq]
    (repeat' apply And.intro) <;> first | rfl | assumption | omega | (simp; done) | (simp; omega) | (simp_all; done)
  refine sA_n ?_
  refine a_condb (((Int.tmod c1.do_ 4) == 0)) (by rfl) (fun zc1 => ?_) (fun zc1 => ?_)
  · have H := cond_t zc1 H
    refine a_seq ?_
    obtain ⟨r1, zh1, H⟩ := bind_some H
    have zk1 := vote_Begin_pc zh1
    refine a_reg _ rfl (s := ?zs3) ?_ ?_
    rotate_left
    · try simp (maxSteps := 2000000) only [EVT, stepR, evOp, St.ev, St.app, St.put, wrs, evLoad, cut, frz, evStore, setR, allOne, datOf, datOf1, TIS, CS, Nat.reduceAdd, Nat.reduceMul, Nat.reduceEqDiff, ↓reduceIte, reduceCtorEq, Nat.reduceLT, Nat.reduceLeDiff, Nat.reduceSub, Nat.reduceBEq, ↓zc1]
      repeat' with_reducible apply And.intro
      all_goals try ((with_reducible show CallR _ _ _ _ _ _ _); refine cR_p zk1 (.cons (.agg' (.cons (.int' rfl) (.cons (.lst _ _ _ (ci_pu .i64) rfl) (.cons (.int' rfl) (.cons (.int' rfl) (.cons (.int' rfl) (.cons (.lst _ _ _ Entry.pu rfl) (.cons (.int' rfl) (.cons (.lst _ _ _ (ci_pu .i64) rfl) (.cons (.lst _ _ _ (ci_pu .i64) rfl) (.cons (.lst _ _ _ (ci_pu .i64) rfl) .nil))))))))))) .nil) ?_; simp (maxSteps := 2000000) only [EVT, stepR, evOp, St.ev, St.app, St.put, wrs, evLoad, cut, frz, evStore, setR, allOne, datOf, datOf1, TIS, CS, Nat.reduceAdd, Nat.reduceMul, Nat.reduceEqDiff, ↓reduceIte, reduceCtorEq, Nat.reduceLT, Nat.reduceLeDiff, Nat.reduceSub, Nat.reduceBEq, ↓zc1])
      all_goals ((repeat' apply And.intro) <;> first | rfl | assumption | omega | (simp; done) | (simp; omega) | (simp_all; done))
    refine sA_n ?_
    refine a_ret ?_
    refine sA_r ?_
    obtain rfl := Option.some.inj H
    refine e_r2 (d := ?zd1) ?_ ?_
    rotate_left
    · simp only [EVT, resR, single, evLoad, cut, TIS, CS, Nat.reduceAdd, Nat.reduceEqDiff, ↓reduceIte, reduceCtorEq, Nat.reduceLT, Nat.reduceLeDiff, Nat.reduceSub, Nat.reduceBEq, zc1]
      (repeat' apply And.intro) <;> first | rfl | assumption | omega | (simp; done)
    exact (.tup' (.cons (.agg' (.cons (.int' rfl) (.cons (.lst _ _ _ (ci_pu .i64) rfl) (.cons (.int' rfl) (.cons (.int' rfl) (.cons (.int' rfl) (.cons (.lst _ _ _ Entry.pu rfl) (.cons (.int' rfl) (.cons (.lst _ _ _ (ci_pu .i64) rfl) (.cons (.lst _ _ _ (ci_pu .i64) rfl) (.cons (.lst _ _ _ (ci_pu .i64) rfl) .nil))))))))))) (.cons (.bool' (by first | rfl | assumption | (simp_all; done))) .nil)))
  · have H := cond_f zc1 H
    refine a_skip ?_
    refine sA_n ?_
    refine a_seq ?_
    refine a_seq ?_
    refine a_reg _ rfl (s := ?zs4) ?_ ?_
    rotate_left
    · simp (maxSteps := 2000000) only [EVT, stepR, evOp, St.ev, St.app, St.put, wrs, evFieldAddr, evLoad, cut, datOf, datOf1, evBin, binInt, TIS, CS, Nat.reduceAdd, Nat.reduceMul, Nat.reduceEqDiff, ↓reduceIte, reduceCtorEq, Nat.reduceLT, Nat.reduceLeDiff, Nat.reduceSub, Nat.reduceBEq, ↓zc1]
      (repeat' apply And.intro) <;> first | rfl | assumption | omega | (simp; done) | (simp; omega) | (simp_all; done)
    refine sA_n ?_
    refine a_condb (((Int.tmod c1.do_ 4) == 1)) (by rfl) (fun zc2 => ?_) (fun zc2 => ?_)
    · have H := cond_t zc2 H
      refine a_seq ?_
      refine a_seq ?_
      refine a_reg _ rfl (s := ?zs5) ?_ ?_
      rotate_left
      · simp (maxSteps := 2000000) only [EVT, stepR, evOp, St.ev, St.app, St.put, wrs, evFieldAddr, evLoad, cut, evBin, binInt, TIS, CS, Nat.reduceAdd, Nat.reduceMul, Nat.reduceEqDiff, ↓reduceIte, reduceCtorEq, Nat.reduceLT, Nat.reduceLeDiff, Nat.reduceSub, Nat.reduceBEq, ↓zc1, ↓zc2]
        (repeat' apply And.intro) <;> first | rfl | assumption | omega | (simp; done) | (simp; omega) | (simp_all; done)
      refine sA_n ?_
      refine a_condb ((decide (s1.term < (IntKind.wrap .i64 c1.term)))) (by rfl) (fun zc3 => ?_) (fun zc3 => ?_)
      · have H := cond_t zc3 H
        refine a_seq ?_
        obtain ⟨r2, zh2, H⟩ := bind_some H
        have zk2 := vote_Down_pc zh2
        refine a_reg _ rfl (s := ?zs6) ?_ ?_
        rotate_left
        · try simp (maxSteps := 2000000) only [EVT, stepR, evOp, St.ev, St.app, St.put, wrs, evLoad, cut, evFieldAddr, frz, evStore, setR, allOne, datOf, datOf1, TIS, CS, Nat.reduceAdd, Nat.reduceMul, Nat.reduceEqDiff, ↓reduceIte, reduceCtorEq, Nat.reduceLT, Nat.reduceLeDiff, Nat.reduceSub, Nat.reduceBEq, ↓zc1, ↓zc2, ↓zc3]
          repeat' with_reducible apply And.intro
          all_goals try ((with_reducible show CallR _ _ _ _ _ _ _); refine cR_p zk2 (.cons (.agg' (.cons (.int' rfl) (.cons (.lst _ _ _ (ci_pu .i64) rfl) (.cons (.int' rfl) (.cons (.int' rfl) (.cons (.int' rfl) (.cons (.lst _ _ _ Entry.pu rfl) (.cons (.int' rfl) (.cons (.lst _ _ _ (ci_pu .i64) rfl) (.cons (.lst _ _ _ (ci_pu .i64) rfl) (.cons (.lst _ _ _ (ci_pu .i64) rfl) .nil))))))))))) (.cons (.int' rfl) .nil)) ?_; simp (maxSteps := 2000000) only [EVT, stepR, evOp, St.ev, St.app, St.put, wrs, evLoad, cut, evFieldAddr, frz, evStore, setR, allOne, datOf, datOf1, TIS, CS, Nat.reduceAdd, Nat.reduceMul, Nat.reduceEqDiff, ↓reduceIte, reduceCtorEq, Nat.reduceLT, Nat.reduceLeDiff, Nat.reduceSub, Nat.reduceBEq, ↓zc1, ↓zc2, ↓zc3])
          all_goals ((repeat' apply And.intro) <;> first | rfl | assumption | omega | (simp; done) | (simp; omega) | (simp_all; done))
        refine sA_n ?_
        refine a_ret ?_
        refine sA_r ?_
        refine sA_r ?_
        obtain rfl := Option.some.inj H
        refine e_r2 (d := ?zd2) ?_ ?_
        rotate_left
        · simp only [EVT, resR, single, evLoad, cut, TIS, CS, Nat.reduceAdd, Nat.reduceEqDiff, ↓reduceIte, reduceCtorEq, Nat.reduceLT, Nat.reduceLeDiff, Nat.reduceSub, Nat.reduceBEq, zc1, zc2, zc3]
          (repeat' apply And.intro) <;> first | rfl | assumption | omega | (simp; done)
        exact (.tup' (.cons (.agg' (.cons (.int' rfl) (.cons (.lst _ _ _ (ci_pu .i64) rfl) (.cons (.int' rfl) (.cons (.int' rfl) (.cons (.int' rfl) (.cons (.lst _ _ _ Entry.pu rfl) (.cons (.int' rfl) (.cons (.lst _ _ _ (ci_pu .i64) rfl) (.cons (.lst _ _ _ (ci_pu .i64) rfl) (.cons (.lst _ _ _ (ci_pu .i64) rfl) .nil))))))))))) (.cons (.bool' (by first | rfl | assumption | (simp_all; done))) .nil)))
      · have H := cond_f zc3 H
        refine a_skip ?_
        refine sA_n ?_
        refine a_seq ?_
        refine a_reg _ rfl (s := ?zs7) ?_ ?_
        rotate_left
        · simp (maxSteps := 2000000) only [EVT, stepR, evOp, St.ev, St.app, St.put, wrs, evLoad, cut, evStore, setR, allOne, datOf, datOf1, TIS, CS, Nat.reduceAdd, Nat.reduceMul, Nat.reduceEqDiff, ↓reduceIte, reduceCtorEq, Nat.reduceLT, Nat.reduceLeDiff, Nat.reduceSub, Nat.reduceBEq, ↓zc1, ↓zc2, ↓zc3]
          (repeat' apply And.intro) <;> first | rfl | assumption | omega | (simp; done) | (simp; omega) | (simp_all; done)
        refine sA_n ?_
        refine a_ret ?_
        refine sA_r ?_
        obtain rfl := Option.some.inj H
        refine e_r2 (d := ?zd3) ?_ ?_
        rotate_left
        · simp only [EVT, resR, single, evLoad, cut, TIS, CS, Nat.reduceAdd, Nat.reduceEqDiff, ↓reduceIte, reduceCtorEq, Nat.reduceLT, Nat.reduceLeDiff, Nat.reduceSub, Nat.reduceBEq, zc1, zc2, zc3]
          (repeat' apply And.intro) <;> first | rfl | assumption | omega | (simp; done)
        exact (.tup' (.cons (.agg' (.cons (.int' rfl) (.cons (.lst _ _ _ (ci_pu .i64) rfl) (.cons (.int' rfl) (.cons (.int' rfl) (.cons (.int' rfl) (.cons (.lst _ _ _ Entry.pu rfl) (.cons (.int' rfl) (.cons (.lst _ _ _ (ci_pu .i64) rfl) (.cons (.lst _ _ _ (ci_pu .i64) rfl) (.cons (.lst _ _ _ (ci_pu .i64) rfl) .nil))))))))))) (.cons (.bool' (by first | rfl | assumption | (simp_all; done))) .nil)))
    · have H := cond_f zc2 H
      refine a_skip ?_
      refine sA_n ?_
      refine a_seq ?_
      obtain ⟨r3, zh3, H⟩ := bind_some H
      have zk3 := vote_Ask_pc zh3
      refine a_reg _ rfl (s := ?zs8) ?_ ?_
      rotate_left
      · try simp (maxSteps := 2000000) only [EVT, stepR, evOp, St.ev, St.app, St.put, wrs, evLoad, cut, evFieldAddr, frz, allOne, evStore, setR, TIS, CS, Nat.reduceAdd, Nat.reduceMul, Nat.reduceEqDiff, ↓reduceIte, reduceCtorEq, Nat.reduceLT, Nat.reduceLeDiff, Nat.reduceSub, Nat.reduceBEq, ↓zc1, ↓zc2]
        repeat' with_reducible apply And.intro
        all_goals try ((with_reducible show CallR _ _ _ _ _ _ _); refine cR_p zk3 (.cons (.agg' (.cons (.int' rfl) (.cons (.lst _ _ _ (ci_pu .i64) rfl) (.cons (.int' rfl) (.cons (.int' rfl) (.cons (.int' rfl) (.cons (.lst _ _ _ Entry.pu rfl) (.cons (.int' rfl) (.cons (.lst _ _ _ (ci_pu .i64) rfl) (.cons (.lst _ _ _ (ci_pu .i64) rfl) (.cons (.lst _ _ _ (ci_pu .i64) rfl) .nil))))))))))) (.cons (.int' rfl) (.cons (.int' rfl) (.cons (.int' rfl) (.cons (.int' rfl) .nil))))) ?_; simp (maxSteps := 2000000) only [EVT, stepR, evOp, St.ev, St.app, St.put, wrs, evLoad, cut, evFieldAddr, frz, allOne, evStore, setR, TIS, CS, Nat.reduceAdd, Nat.reduceMul, Nat.reduceEqDiff, ↓reduceIte, reduceCtorEq, Nat.reduceLT, Nat.reduceLeDiff, Nat.reduceSub, Nat.reduceBEq, ↓zc1, ↓zc2])
        all_goals ((repeat' apply And.intro) <;> first | rfl | assumption | omega | (simp; done) | (simp; omega) | (simp_all; done))
      refine sA_n ?_
      refine a_seq ?_
      refine a_reg _ rfl (s := ?zs9) ?_ ?_
      rotate_left
      · simp (maxSteps := 2000000) only [EVT, stepR, evOp, St.ev, St.app, St.put, wrs, evLoad, cut, evStore, setR, allOne, TIS, CS, Nat.reduceAdd, Nat.reduceMul, Nat.reduceEqDiff, ↓reduceIte, reduceCtorEq, Nat.reduceLT, Nat.reduceLeDiff, Nat.reduceSub, Nat.reduceBEq, ↓zc1, ↓zc2]
        (repeat' apply And.intro) <;> first | rfl | assumption | omega | (simp; done) | (simp; omega) | (simp_all; done)
      refine sA_n ?_
      refine a_ret ?_
      obtain rfl := Option.some.inj H
      refine e_r2 (d := ?zd4) ?_ ?_
      rotate_left
      · simp only [EVT, resR, single, evLoad, cut, TIS, CS, Nat.reduceAdd, Nat.reduceEqDiff, ↓reduceIte, reduceCtorEq, Nat.reduceLT, Nat.reduceLeDiff, Nat.reduceSub, Nat.reduceBEq, zc1, zc2]
        (repeat' apply And.intro) <;> first | rfl | assumption | omega | (simp; done)
      exact (.tup' (.cons (.agg' (.cons (.int' rfl) (.cons (.lst _ _ _ (ci_pu .i64) rfl) (.cons (.int' rfl) (.cons (.int' rfl) (.cons (.int' rfl) (.cons (.lst _ _ _ Entry.pu rfl) (.cons (.int' rfl) (.cons (.lst _ _ _ (ci_pu .i64) rfl) (.cons (.lst _ _ _ (ci_pu .i64) rfl) (.cons (.lst _ _ _ (ci_pu .i64) rfl) .nil))))))))))) (.cons (.bool' rfl) .nil)))
end
end Go.Proofs.Ytecdonbjabjaeaa
