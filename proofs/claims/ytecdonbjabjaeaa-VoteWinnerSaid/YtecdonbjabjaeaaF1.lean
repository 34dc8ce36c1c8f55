/- Functions of the program as Lean functions, and that they are so; printed by a program of mine. -/
import Derived.Test.YtecdonbjabjaeaaTy
set_option linter.unusedSimpArgs false
set_option linter.unusedVariables false
namespace Go.Proofs.Ytecdonbjabjaeaa
open Go.Ab
noncomputable section

def ref14_Has_J1 : Option Bool :=
  some (false)
def ref14_Has_L1 (l1 : List Int) (x1 : Int) : Nat → Int → Option Bool
  | 0, _ => none
  | m_ + 1, i1 => cond (decide (i1 < (l1.length : Int))) ((idx l1 i1).bind fun x2 => cond (x2 == x1) (some (true)) (ref14_Has_L1 l1 x1 m_ (IntKind.wrap .i64 (i1 + 1)))) (ref14_Has_J1)
def ref14_Has_f (l1 : List Int) (x1 : Int) : Option Bool :=
  ref14_Has_L1 l1 x1 BIG 0
set_option maxHeartbeats 4000000 in
set_option maxRecDepth 20000 in
theorem ref14_Has_pc {l1 : List Int} {x1 : Int} {r : Bool} (H : ref14_Has_f l1 x1 = some r) : PC Try.prog 18 [.list 1 (l1.map (ci .i64)), .int .i64 x1] (.bool r) := by
  refine pcA_of Try.func18 (by rfl) (by decide) 18 (by rfl) [.tmp 4] (by rfl) ?_
  unfold ref14_Has_f at H
  simp only [ent]
  refine a_seq ?_
  refine a_reg _ rfl (s := ?zs1) ?_ ?_
  rotate_left
  · simp (maxSteps := 2000000) only [EVT, stepR, evOp, St.ev, St.app, St.put, wrs, datOf, datOf1, TIS, CS, Nat.reduceAdd, Nat.reduceMul, Nat.reduceEqDiff, ↓reduceIte, reduceCtorEq, Nat.reduceLT, Nat.reduceLeDiff]
    (repeat' apply And.intro) <;> first | rfl | assumption | omega | (simp; done) | (simp; omega) | (simp_all; done)
  refine sA_n ?_
  refine a_cut (fun s => ∃ (t0 : Nat → Dat), ref14_Has_J1 = some r ∧ s = ⟨tl t0 [], hl [], 0, 18⟩) ?_ ?_
  · refine a_seq ?_
    refine a_reg _ rfl (s := ?zs3) ?_ ?_
    rotate_left
    · simp (maxSteps := 2000000) only [EVT, stepR, evOp, St.ev, St.app, St.put, wrs, datOf, datOf1, TIS, CS, Nat.reduceAdd, Nat.reduceMul, Nat.reduceEqDiff, ↓reduceIte, reduceCtorEq, Nat.reduceLT, Nat.reduceLeDiff]
      (repeat' apply And.intro) <;> first | rfl | assumption | omega | (simp; done) | (simp; omega) | (simp_all; done)
    refine sA_n ?_
    refine a_blk ?_
    refine a_loop (fun m s => ∃ (i1 : Int) (t0 : Nat → Dat), ref14_Has_L1 l1 x1 m i1 = some r ∧ s = ⟨tl t0 [(0, .list 1 (l1.map (ci .i64))), (1, .int .i64 x1), (5, .int .i64 i1)], hl [], 0, 18⟩) BIG ?_ ?_
    · refine wk_l [] [] [(0, .list 1 (l1.map (ci .i64))), (1, .int .i64 x1), (5, .int .i64 0)] (by show ([0, 1, 5] : List Nat).Nodup; decide) (by show ([] : List Nat).Nodup; decide) ?_ ?_ (fun t0 => ⟨0, t0, H, rfl⟩)
      · exact trivial
      · (simp only [AllT, tl_cons, tl_nil, upd_apply, List.getD_cons_zero, List.getD_cons_succ, Nat.reduceEqDiff, ↓reduceIte, and_true]); exact ⟨(.lst _ _ _ (ci_pu .i64) rfl), (.int' rfl), (.int' rfl)⟩
    · rintro m_ref14_Has_L1 s ⟨i1, t0, H, rfl⟩
      obtain _ | m_ref14_Has_L1 := m_ref14_Has_L1
      · cases (show (none : Option _) = some _ from H)
      · rw [ref14_Has_L1] at H
        refine a_seq ?_
        refine a_seq ?_
        refine a_reg _ rfl (s := ?zs4) ?_ ?_
        rotate_left
        · simp (maxSteps := 2000000) only [EVT, stepR, evOp, St.ev, St.app, St.put, wrs, evBuiltin, evBin, binInt, TIS, CS, Nat.reduceAdd, Nat.reduceMul, Nat.reduceEqDiff, ↓reduceIte, reduceCtorEq, Nat.reduceLT, Nat.reduceLeDiff, Nat.reduceSub, Nat.reduceBEq]
          (repeat' apply And.intro) <;> first | rfl | assumption | omega | (simp; done) | (simp; omega) | (simp_all; done)
        refine sA_n ?_
        refine a_condb ((decide (i1 < (l1.length : Int)))) (by rfl) (fun zc1 => ?_) (fun zc1 => ?_)
        · have H := cond_t zc1 H
          refine a_skip ?_
          refine sA_n ?_
          refine a_seq ?_
          refine a_blk ?_
          refine a_seq ?_
          obtain ⟨x2, zh1, H⟩ := bind_some H
          have zg1 := idx_map zh1 (ci .i64)
          obtain ⟨zh1a, zh1b, _⟩ := idx_some zh1
          refine a_reg _ rfl (s := ?zs5) ?_ ?_
          rotate_left
          · simp (maxSteps := 2000000) only [EVT, stepR, evOp, St.ev, St.app, St.put, wrs, evIndexAddr, evLoad, cut, evBin, binInt, TIS, CS, Nat.reduceAdd, Nat.reduceMul, Nat.reduceEqDiff, ↓reduceIte, reduceCtorEq, Nat.reduceLT, Nat.reduceLeDiff, Int.reduceToNat, Nat.reduceSub, Nat.reduceBEq, ↓zc1, zg1]
            (repeat' apply And.intro) <;> first | rfl | assumption | omega | (simp; done) | (simp; omega) | (simp_all; done)
          refine sA_n ?_
          refine a_condb ((x2 == x1)) (by rfl) (fun zc2 => ?_) (fun zc2 => ?_)
          · have H := cond_t zc2 H
            refine a_seq ?_
            refine a_reg _ rfl (s := ?zs6) ?_ ?_
            rotate_left
            · simp (maxSteps := 2000000) only [EVT, stepR, evOp, St.ev, St.app, St.put, wrs, datOf, datOf1, TIS, CS, Nat.reduceAdd, Nat.reduceMul, Nat.reduceEqDiff, ↓reduceIte, reduceCtorEq, Nat.reduceLT, Nat.reduceLeDiff, ↓zc1, zg1, ↓zc2]
              (repeat' apply And.intro) <;> first | rfl | assumption | omega | (simp; done) | (simp; omega) | (simp_all; done)
            refine sA_n ?_
            refine a_ret ?_
            refine bA_r ?_
            refine sA_r ?_
            refine lA_r ?_
            refine bA_r ?_
            refine cA_r ?_
            obtain rfl := Option.some.inj H
            refine e_r2 (d := ?zd2) ?_ ?_
            rotate_left
            · simp only [EVT, resR, single, evLoad, cut, TIS, CS, Nat.reduceAdd, Nat.reduceEqDiff, ↓reduceIte, reduceCtorEq, Nat.reduceLT, Nat.reduceLeDiff, Nat.reduceSub, Nat.reduceBEq, zc1, zg1, zc2]
              (repeat' apply And.intro) <;> first | rfl | assumption | omega | (simp; done)
            exact (.bool' (by first | rfl | assumption | (simp_all; done)))
          · have H := cond_f zc2 H
            refine a_skip ?_
            refine bA_n ?_
            refine sA_n ?_
            refine a_reg _ rfl (s := ?zs7) ?_ ?_
            rotate_left
            · simp (maxSteps := 2000000) only [EVT, stepR, evOp, St.ev, St.app, St.put, wrs, datOf, datOf1, evBin, binInt, TIS, CS, Nat.reduceAdd, Nat.reduceMul, Nat.reduceEqDiff, ↓reduceIte, reduceCtorEq, Nat.reduceLT, Nat.reduceLeDiff, ↓zc1, zg1, ↓zc2]
              (repeat' apply And.intro) <;> first | rfl | assumption | omega | (simp; done) | (simp; omega) | (simp_all; done)
            refine lA_n ?_
            refine wk_l [] [] [(0, .list 1 (l1.map (ci .i64))), (1, .int .i64 x1), (5, .int .i64 (IntKind.wrap .i64 (i1 + 1)))] (by show ([0, 1, 5] : List Nat).Nodup; decide) (by show ([] : List Nat).Nodup; decide) ?_ ?_ (fun t0 => ⟨_, Nat.lt_succ_self _, (IntKind.wrap .i64 (i1 + 1)), t0, H, rfl⟩)
            · exact trivial
            · (simp only [AllT, tl_cons, tl_nil, upd_apply, List.getD_cons_zero, List.getD_cons_succ, Nat.reduceEqDiff, ↓reduceIte, and_true]); exact ⟨(.lst _ _ _ (ci_pu .i64) rfl), (.int' rfl), (.int' rfl)⟩
        · have H := cond_f zc1 H
          refine a_exit ?_
          refine sA_e ?_
          refine lA_e ?_
          refine bA_hit ?_
          refine cA_n ?_
          refine wk_l [] [] [] (by show ([] : List Nat).Nodup; decide) (by show ([] : List Nat).Nodup; decide) ?_ ?_ (fun t0 => ⟨t0, H, rfl⟩)
          · exact trivial
          · exact trivial
  · rintro s ⟨t0, H, rfl⟩
    unfold ref14_Has_J1 at H
    refine a_seq ?_
    refine a_reg _ rfl (s := ?zs2) ?_ ?_
    rotate_left
    · simp (maxSteps := 2000000) only [EVT, stepR, evOp, St.ev, St.app, St.put, wrs, datOf, datOf1, TIS, CS, Nat.reduceAdd, Nat.reduceMul, Nat.reduceEqDiff, ↓reduceIte, reduceCtorEq, Nat.reduceLT, Nat.reduceLeDiff]
      (repeat' apply And.intro) <;> first | rfl | assumption | omega | (simp; done) | (simp; omega) | (simp_all; done)
    refine sA_n ?_
    refine a_ret ?_
    obtain rfl := Option.some.inj H
    refine e_r2 (d := ?zd1) ?_ ?_
    rotate_left
    · simp only [EVT, resR, single, evLoad, cut, TIS, CS, Nat.reduceAdd, Nat.reduceEqDiff, ↓reduceIte, reduceCtorEq, Nat.reduceLT, Nat.reduceLeDiff, Nat.reduceSub, Nat.reduceBEq]
      (repeat' apply And.intro) <;> first | rfl | assumption | omega | (simp; done)
    exact (.bool' (by first | rfl | assumption | (simp_all; done)))
def ref14_Down_f (s1 : Seat) (term1 : Int) : Option Seat :=
  some ((⟨s1.id, s1.peers, term1, (-1), 1, s1.log, s1.commit, [], [], []⟩ : Seat))
set_option maxHeartbeats 4000000 in
set_option maxRecDepth 20000 in
theorem ref14_Down_pc {s1 : Seat} {term1 : Int} {r : Seat} (H : ref14_Down_f s1 term1 = some r) : PC Try.prog 14 [.agg (Seat.c s1), .int .i64 term1] (.agg (Seat.c r)) := by
  refine pcA_of Try.func14 (by rfl) (by decide) 15 (by rfl) [.cell 4 25] (by rfl) ?_
  unfold ref14_Down_f at H
  simp only [ent]
  refine a_seq ?_
  refine a_reg _ rfl (s := ?zs1) ?_ ?_
  rotate_left
  · simp (maxSteps := 2000000) only [EVT, stepR, evOp, St.ev, St.app, St.put, wrs, allOne, TIS, CS, Nat.reduceAdd, Nat.reduceMul, Nat.reduceEqDiff, ↓reduceIte, reduceCtorEq, Nat.reduceLT, Nat.reduceLeDiff]
    (repeat' apply And.intro) <;> first | rfl | assumption | omega | (simp; done) | (simp; omega) | (simp_all; done)
  refine sA_n ?_
  refine a_seq ?_
  refine a_reg _ rfl (s := ?zs2) ?_ ?_
  rotate_left
  · simp (maxSteps := 2000000) only [EVT, stepR, evOp, St.ev, St.app, St.put, wrs, evFieldAddr, evLoad, cut, datOf, datOf1, fillD, setR, evStore, allOne, TIS, CS, Nat.reduceAdd, Nat.reduceMul, Nat.reduceEqDiff, ↓reduceIte, reduceCtorEq, Nat.reduceLT, Nat.reduceLeDiff, Nat.reduceSub, Nat.reduceBEq]
    (repeat' apply And.intro) <;> first | rfl | assumption | omega | (simp; done) | (simp; omega) | (simp_all; done)
  refine sA_n ?_
  refine a_ret ?_
  obtain rfl := Option.some.inj H
  refine e_r2 (d := ?zd1) ?_ ?_
  rotate_left
  · simp only [EVT, resR, single, evLoad, cut, TIS, CS, Nat.reduceAdd, Nat.reduceEqDiff, ↓reduceIte, reduceCtorEq, Nat.reduceLT, Nat.reduceLeDiff, Nat.reduceSub, Nat.reduceBEq]
    (repeat' apply And.intro) <;> first | rfl | assumption | omega | (simp; done)
  exact (.agg' (.cons (.int' rfl) (.cons (.lst _ _ _ (ci_pu .i64) rfl) (.cons (.int' rfl) (.cons (.int' rfl) (.cons (.int' rfl) (.cons (.lst _ _ _ Entry.pu rfl) (.cons (.int' rfl) (.cons (.nil _) (.cons (.nil _) (.cons (.nil _) .nil)))))))))))
def vote_Down_f (s1 : Seat) (term1 : Int) : Option Seat :=
  some ((⟨s1.id, s1.peers, term1, (-1), 1, s1.log, s1.commit, [], [], []⟩ : Seat))
set_option maxHeartbeats 4000000 in
set_option maxRecDepth 20000 in
theorem vote_Down_pc {s1 : Seat} {term1 : Int} {r : Seat} (H : vote_Down_f s1 term1 = some r) : PC Try.prog 26 [.agg (Seat.c s1), .int .i64 term1] (.agg (Seat.c r)) := by
  refine pcA_of Try.func26 (by rfl) (by decide) 13 (by rfl) [.cell 4 25] (by rfl) ?_
  unfold vote_Down_f at H
  simp only [ent]
  refine a_seq ?_
  refine a_reg _ rfl (s := ?zs1) ?_ ?_
  rotate_left
  · simp (maxSteps := 2000000) only [EVT, stepR, evOp, St.ev, St.app, St.put, wrs, allOne, TIS, CS, Nat.reduceAdd, Nat.reduceMul, Nat.reduceEqDiff, ↓reduceIte, reduceCtorEq, Nat.reduceLT, Nat.reduceLeDiff]
    (repeat' apply And.intro) <;> first | rfl | assumption | omega | (simp; done) | (simp; omega) | (simp_all; done)
  refine sA_n ?_
  refine a_seq ?_
  refine a_reg _ rfl (s := ?zs2) ?_ ?_
  rotate_left
  · simp (maxSteps := 2000000) only [EVT, stepR, evOp, St.ev, St.app, St.put, wrs, evFieldAddr, evStore, setR, allOne, datOf, datOf1, TIS, CS, Nat.reduceAdd, Nat.reduceMul, Nat.reduceEqDiff, ↓reduceIte, reduceCtorEq, Nat.reduceLT, Nat.reduceLeDiff, Nat.reduceSub, Nat.reduceBEq]
    (repeat' apply And.intro) <;> first | rfl | assumption | omega | (simp; done) | (simp; omega) | (simp_all; done)
  refine sA_n ?_
  refine a_seq ?_
  refine a_reg _ rfl (s := ?zs3) ?_ ?_
  rotate_left
  · simp (maxSteps := 2000000) only [EVT, stepR, evOp, St.ev, St.app, St.put, wrs, evFieldAddr, datOf, datOf1, evStore, setR, allOne, TIS, CS, Nat.reduceAdd, Nat.reduceMul, Nat.reduceEqDiff, ↓reduceIte, reduceCtorEq, Nat.reduceLT, Nat.reduceLeDiff, Nat.reduceSub, Nat.reduceBEq]
    (repeat' apply And.intro) <;> first | rfl | assumption | omega | (simp; done) | (simp; omega) | (simp_all; done)
  refine sA_n ?_
  refine a_seq ?_
  refine a_reg _ rfl (s := ?zs4) ?_ ?_
  rotate_left
  · simp (maxSteps := 2000000) only [EVT, stepR, evOp, St.ev, St.app, St.put, wrs, evLoad, cut, evStore, setR, allOne, TIS, CS, Nat.reduceAdd, Nat.reduceMul, Nat.reduceEqDiff, ↓reduceIte, reduceCtorEq, Nat.reduceLT, Nat.reduceLeDiff, Nat.reduceSub, Nat.reduceBEq]
    (repeat' apply And.intro) <;> first | rfl | assumption | omega | (simp; done) | (simp; omega) | (simp_all; done)
  refine sA_n ?_
  refine a_ret ?_
  obtain rfl := Option.some.inj H
  refine e_r2 (d := ?zd1) ?_ ?_
  rotate_left
  · simp only [EVT, resR, single, evLoad, cut, TIS, CS, Nat.reduceAdd, Nat.reduceEqDiff, ↓reduceIte, reduceCtorEq, Nat.reduceLT, Nat.reduceLeDiff, Nat.reduceSub, Nat.reduceBEq]
    (repeat' apply And.intro) <;> first | rfl | assumption | omega | (simp; done)
  exact (.agg' (.cons (.int' rfl) (.cons (.lst _ _ _ (ci_pu .i64) rfl) (.cons (.int' rfl) (.cons (.int' rfl) (.cons (.int' rfl) (.cons (.lst _ _ _ Entry.pu rfl) (.cons (.int' rfl) (.cons (.nil _) (.cons (.nil _) (.cons (.nil _) .nil)))))))))))
def ref13_Term_f (l1 : List Entry) (at1 : Int) : Option Int :=
  cond (at1 == 0) (some (0)) ((idx l1 (IntKind.wrap .i64 (at1 - 1))).bind fun x1 => some (x1.term))
set_option maxHeartbeats 4000000 in
set_option maxRecDepth 20000 in
theorem ref13_Term_pc {l1 : List Entry} {at1 : Int} {r : Int} (H : ref13_Term_f l1 at1 = some r) : PC Try.prog 34 [.list 2 (l1.map Entry.c), .int .i64 at1] (.int .i64 r) := by
  refine pcA_of Try.func34 (by rfl) (by decide) 13 (by rfl) [.tmp 4] (by rfl) ?_
  unfold ref13_Term_f at H
  simp only [ent]
  refine a_seq ?_
  refine a_reg _ rfl (s := ?zs1) ?_ ?_
  rotate_left
  · simp (maxSteps := 2000000) only [EVT, stepR, evOp, St.ev, St.app, St.put, wrs, datOf, datOf1, TIS, CS, Nat.reduceAdd, Nat.reduceMul, Nat.reduceEqDiff, ↓reduceIte, reduceCtorEq, Nat.reduceLT, Nat.reduceLeDiff]
    (repeat' apply And.intro) <;> first | rfl | assumption | omega | (simp; done) | (simp; omega) | (simp_all; done)
  refine sA_n ?_
  refine a_seq ?_
  refine a_seq ?_
  refine a_reg _ rfl (s := ?zs2) ?_ ?_
  rotate_left
  · simp (maxSteps := 2000000) only [EVT, stepR, evOp, St.ev, St.app, St.put, wrs, datOf, datOf1, evBin, binInt, TIS, CS, Nat.reduceAdd, Nat.reduceMul, Nat.reduceEqDiff, ↓reduceIte, reduceCtorEq, Nat.reduceLT, Nat.reduceLeDiff]
    (repeat' apply And.intro) <;> first | rfl | assumption | omega | (simp; done) | (simp; omega) | (simp_all; done)
  refine sA_n ?_
  refine a_condb ((at1 == 0)) (by rfl) (fun zc1 => ?_) (fun zc1 => ?_)
  · have H := cond_t zc1 H
    refine a_seq ?_
    refine a_reg _ rfl (s := ?zs3) ?_ ?_
    rotate_left
    · simp (maxSteps := 2000000) only [EVT, stepR, evOp, St.ev, St.app, St.put, wrs, datOf, datOf1, TIS, CS, Nat.reduceAdd, Nat.reduceMul, Nat.reduceEqDiff, ↓reduceIte, reduceCtorEq, Nat.reduceLT, Nat.reduceLeDiff, ↓zc1]
      (repeat' apply And.intro) <;> first | rfl | assumption | omega | (simp; done) | (simp; omega) | (simp_all; done)
    refine sA_n ?_
    refine a_ret ?_
    refine sA_r ?_
    obtain rfl := Option.some.inj H
    refine e_r2 (d := ?zd1) ?_ ?_
    rotate_left
    · simp only [EVT, resR, single, evLoad, cut, TIS, CS, Nat.reduceAdd, Nat.reduceEqDiff, ↓reduceIte, reduceCtorEq, Nat.reduceLT, Nat.reduceLeDiff, Nat.reduceSub, Nat.reduceBEq, zc1]
      (repeat' apply And.intro) <;> first | rfl | assumption | omega | (simp; done)
    exact (.int' rfl)
  · have H := cond_f zc1 H
    refine a_skip ?_
    refine sA_n ?_
    refine a_seq ?_
    obtain ⟨x1, zh1, H⟩ := bind_some H
    have zg1 := idx_map zh1 Entry.c
    obtain ⟨zh1a, zh1b, _⟩ := idx_some zh1
    refine a_reg _ rfl (s := ?zs4) ?_ ?_
    rotate_left
    · simp (maxSteps := 2000000) only [EVT, stepR, evOp, St.ev, St.app, St.put, wrs, datOf, datOf1, evBin, binInt, evIndexAddr, evFieldAddr, evLoad, cut, TIS, CS, Nat.reduceAdd, Nat.reduceMul, Nat.reduceEqDiff, ↓reduceIte, reduceCtorEq, Nat.reduceLT, Nat.reduceLeDiff, Int.reduceToNat, Nat.reduceSub, Nat.reduceBEq, ↓zc1, zg1]
      (repeat' apply And.intro) <;> first | rfl | assumption | omega | (simp; done) | (simp; omega) | (simp_all; done)
    refine sA_n ?_
    refine a_ret ?_
    obtain rfl := Option.some.inj H
    refine e_r2 (d := ?zd2) ?_ ?_
    rotate_left
    · simp only [EVT, resR, single, evLoad, cut, TIS, CS, Nat.reduceAdd, Nat.reduceEqDiff, ↓reduceIte, reduceCtorEq, Nat.reduceLT, Nat.reduceLeDiff, Nat.reduceSub, Nat.reduceBEq, zc1, zg1]
      (repeat' apply And.intro) <;> first | rfl | assumption | omega | (simp; done)
    exact (.int' rfl)
def law14_end_f (l1 : List Entry) : Option Int :=
  cond ((l1.length : Int) == 0) (some (0)) ((idx l1 (IntKind.wrap .i64 ((l1.length : Int) - 1))).bind fun x1 => some (x1.term))
set_option maxHeartbeats 4000000 in
set_option maxRecDepth 20000 in
theorem law14_end_pc {l1 : List Entry} {r : Int} (H : law14_end_f l1 = some r) : PC Try.prog 22 [.list 2 (l1.map Entry.c)] (.int .i64 r) := by
  refine pcA_of Try.func22 (by rfl) (by decide) 13 (by rfl) [.tmp 2] (by rfl) ?_
  unfold law14_end_f at H
  simp only [ent]
  refine a_seq ?_
  refine a_reg _ rfl (s := ?zs1) ?_ ?_
  rotate_left
  · simp (maxSteps := 2000000) only [EVT, stepR, evOp, St.ev, St.app, St.put, wrs, datOf, datOf1, TIS, CS, Nat.reduceAdd, Nat.reduceMul, Nat.reduceEqDiff, ↓reduceIte, reduceCtorEq, Nat.reduceLT, Nat.reduceLeDiff]
    (repeat' apply And.intro) <;> first | rfl | assumption | omega | (simp; done) | (simp; omega) | (simp_all; done)
  refine sA_n ?_
  refine a_seq ?_
  refine a_seq ?_
  refine a_reg _ rfl (s := ?zs2) ?_ ?_
  rotate_left
  · simp (maxSteps := 2000000) only [EVT, stepR, evOp, St.ev, St.app, St.put, wrs, evBuiltin, datOf, datOf1, evBin, binInt, TIS, CS, Nat.reduceAdd, Nat.reduceMul, Nat.reduceEqDiff, ↓reduceIte, reduceCtorEq, Nat.reduceLT, Nat.reduceLeDiff, Nat.reduceSub, Nat.reduceBEq]
    (repeat' apply And.intro) <;> first | rfl | assumption | omega | (simp; done) | (simp; omega) | (simp_all; done)
  refine sA_n ?_
  refine a_condb (((l1.length : Int) == 0)) (by rfl) (fun zc1 => ?_) (fun zc1 => ?_)
  · have H := cond_t zc1 H
    refine a_seq ?_
    refine a_reg _ rfl (s := ?zs3) ?_ ?_
    rotate_left
    · simp (maxSteps := 2000000) only [EVT, stepR, evOp, St.ev, St.app, St.put, wrs, datOf, datOf1, TIS, CS, Nat.reduceAdd, Nat.reduceMul, Nat.reduceEqDiff, ↓reduceIte, reduceCtorEq, Nat.reduceLT, Nat.reduceLeDiff, ↓zc1]
      (repeat' apply And.intro) <;> first | rfl | assumption | omega | (simp; done) | (simp; omega) | (simp_all; done)
    refine sA_n ?_
    refine a_ret ?_
    refine sA_r ?_
    obtain rfl := Option.some.inj H
    refine e_r2 (d := ?zd1) ?_ ?_
    rotate_left
    · simp only [EVT, resR, single, evLoad, cut, TIS, CS, Nat.reduceAdd, Nat.reduceEqDiff, ↓reduceIte, reduceCtorEq, Nat.reduceLT, Nat.reduceLeDiff, Nat.reduceSub, Nat.reduceBEq, zc1]
      (repeat' apply And.intro) <;> first | rfl | assumption | omega | (simp; done)
    exact (.int' rfl)
  · have H := cond_f zc1 H
    refine a_skip ?_
    refine sA_n ?_
    refine a_seq ?_
    obtain ⟨x1, zh1, H⟩ := bind_some H
    have zg1 := idx_map zh1 Entry.c
    obtain ⟨zh1a, zh1b, _⟩ := idx_some zh1
    refine a_reg _ rfl (s := ?zs4) ?_ ?_
    rotate_left
    · simp (maxSteps := 2000000) only [EVT, stepR, evOp, St.ev, St.app, St.put, wrs, evBuiltin, datOf, datOf1, evBin, binInt, evIndexAddr, evFieldAddr, evLoad, cut, TIS, CS, Nat.reduceAdd, Nat.reduceMul, Nat.reduceEqDiff, ↓reduceIte, reduceCtorEq, Nat.reduceLT, Nat.reduceLeDiff, Int.reduceToNat, Nat.reduceSub, Nat.reduceBEq, ↓zc1, zg1]
      (repeat' apply And.intro) <;> first | rfl | assumption | omega | (simp; done) | (simp; omega) | (simp_all; done)
    refine sA_n ?_
    refine a_ret ?_
    obtain rfl := Option.some.inj H
    refine e_r2 (d := ?zd2) ?_ ?_
    rotate_left
    · simp only [EVT, resR, single, evLoad, cut, TIS, CS, Nat.reduceAdd, Nat.reduceEqDiff, ↓reduceIte, reduceCtorEq, Nat.reduceLT, Nat.reduceLeDiff, Nat.reduceSub, Nat.reduceBEq, zc1, zg1]
      (repeat' apply And.intro) <;> first | rfl | assumption | omega | (simp; done)
    exact (.int' rfl)
def slices_Index_J1 : Option Int :=
  some ((-1))
def slices_Index_L1 (s1 : List Int) (v1 : Int) : Nat → Int → Option Int
  | 0, _ => none
  | m_ + 1, v2 => cond (decide (v2 < (s1.length : Int))) ((idx s1 v2).bind fun x1 => cond (v1 == x1) (some (v2)) (slices_Index_L1 s1 v1 m_ (IntKind.wrap .i64 (v2 + 1)))) (slices_Index_J1)
def slices_Index_f (s1 : List Int) (v1 : Int) : Option Int :=
  slices_Index_L1 s1 v1 BIG 0
set_option maxHeartbeats 4000000 in
set_option maxRecDepth 20000 in
theorem slices_Index_pc {s1 : List Int} {v1 : Int} {r : Int} (H : slices_Index_f s1 v1 = some r) : PC Try.prog 35 [.list 1 (s1.map (ci .i64)), .int .i64 v1] (.int .i64 r) := by
  refine pcA_of Try.func35 (by rfl) (by decide) 19 (by rfl) [.tmp 4] (by rfl) ?_
  unfold slices_Index_f at H
  simp only [ent]
  refine a_seq ?_
  refine a_reg _ rfl (s := ?zs1) ?_ ?_
  rotate_left
  · simp (maxSteps := 2000000) only [EVT, stepR, evOp, St.ev, St.app, St.put, wrs, datOf, datOf1, TIS, CS, Nat.reduceAdd, Nat.reduceMul, Nat.reduceEqDiff, ↓reduceIte, reduceCtorEq, Nat.reduceLT, Nat.reduceLeDiff]
    (repeat' apply And.intro) <;> first | rfl | assumption | omega | (simp; done) | (simp; omega) | (simp_all; done)
  refine sA_n ?_
  refine a_cut (fun s => ∃ (t0 : Nat → Dat), slices_Index_J1 = some r ∧ s = ⟨tl t0 [], hl [], 0, 19⟩) ?_ ?_
  · refine a_seq ?_
    refine a_reg _ rfl (s := ?zs3) ?_ ?_
    rotate_left
    · simp (maxSteps := 2000000) only [EVT, stepR, evOp, St.ev, St.app, St.put, wrs, evBuiltin, datOf, datOf1, TIS, CS, Nat.reduceAdd, Nat.reduceMul, Nat.reduceEqDiff, ↓reduceIte, reduceCtorEq, Nat.reduceLT, Nat.reduceLeDiff, Nat.reduceSub, Nat.reduceBEq]
      (repeat' apply And.intro) <;> first | rfl | assumption | omega | (simp; done) | (simp; omega) | (simp_all; done)
    refine sA_n ?_
    refine a_blk ?_
    refine a_loop (fun m s => ∃ (v2 : Int) (t0 : Nat → Dat), slices_Index_L1 s1 v1 m v2 = some r ∧ s = ⟨tl t0 [(0, .list 1 (s1.map (ci .i64))), (1, .int .i64 v1), (7, .int .i64 (s1.length : Int)), (8, .int .i64 v2)], hl [], 0, 19⟩) BIG ?_ ?_
    · refine wk_l [] [] [(0, .list 1 (s1.map (ci .i64))), (1, .int .i64 v1), (7, .int .i64 (s1.length : Int)), (8, .int .i64 0)] (by show ([0, 1, 7, 8] : List Nat).Nodup; decide) (by show ([] : List Nat).Nodup; decide) ?_ ?_ (fun t0 => ⟨0, t0, H, rfl⟩)
      · exact trivial
      · (simp only [AllT, tl_cons, tl_nil, upd_apply, List.getD_cons_zero, List.getD_cons_succ, Nat.reduceEqDiff, ↓reduceIte, and_true]); exact ⟨(.lst _ _ _ (ci_pu .i64) rfl), (.int' rfl), (.int' rfl), (.int' rfl)⟩
    · rintro m_slices_Index_L1 s ⟨v2, t0, H, rfl⟩
      obtain _ | m_slices_Index_L1 := m_slices_Index_L1
      · cases (show (none : Option _) = some _ from H)
      · rw [slices_Index_L1] at H
        refine a_seq ?_
        refine a_reg _ rfl (s := ?zs4) ?_ ?_
        rotate_left
        · simp (maxSteps := 2000000) only [EVT, stepR, evOp, St.ev, St.app, St.put, wrs, evBin, binInt, TIS, CS, Nat.reduceAdd, Nat.reduceMul, Nat.reduceEqDiff, ↓reduceIte, reduceCtorEq, Nat.reduceLT, Nat.reduceLeDiff]
          (repeat' apply And.intro) <;> first | rfl | assumption | omega | (simp; done) | (simp; omega) | (simp_all; done)
        refine sA_n ?_
        refine a_seq ?_
        refine a_condb ((decide (v2 < (s1.length : Int)))) (by rfl) (fun zc1 => ?_) (fun zc1 => ?_)
        · have H := cond_t zc1 H
          refine a_skip ?_
          refine sA_n ?_
          refine a_seq ?_
          refine a_blk ?_
          refine a_seq ?_
          refine a_reg _ rfl (s := ?zs5) ?_ ?_
          rotate_left
          · simp (maxSteps := 2000000) only [EVT, stepR, evOp, St.ev, St.app, St.put, wrs, TIS, CS, Nat.reduceAdd, Nat.reduceMul, Nat.reduceEqDiff, ↓reduceIte, reduceCtorEq, Nat.reduceLT, Nat.reduceLeDiff, ↓zc1]
            (repeat' apply And.intro) <;> first | rfl | assumption | omega | (simp; done) | (simp; omega) | (simp_all; done)
          refine sA_n ?_
          refine a_seq ?_
          obtain ⟨x1, zh1, H⟩ := bind_some H
          have zg1 := idx_map zh1 (ci .i64)
          obtain ⟨zh1a, zh1b, _⟩ := idx_some zh1
          refine a_reg _ rfl (s := ?zs6) ?_ ?_
          rotate_left
          · simp (maxSteps := 2000000) only [EVT, stepR, evOp, St.ev, St.app, St.put, wrs, evIndexAddr, evLoad, cut, evBin, binInt, TIS, CS, Nat.reduceAdd, Nat.reduceMul, Nat.reduceEqDiff, ↓reduceIte, reduceCtorEq, Nat.reduceLT, Nat.reduceLeDiff, Int.reduceToNat, Nat.reduceSub, Nat.reduceBEq, ↓zc1, zg1]
            (repeat' apply And.intro) <;> first | rfl | assumption | omega | (simp; done) | (simp; omega) | (simp_all; done)
          refine sA_n ?_
          refine a_condb ((v1 == x1)) (by rfl) (fun zc2 => ?_) (fun zc2 => ?_)
          · have H := cond_t zc2 H
            refine a_seq ?_
            refine a_reg _ rfl (s := ?zs7) ?_ ?_
            rotate_left
            · simp (maxSteps := 2000000) only [EVT, stepR, evOp, St.ev, St.app, St.put, wrs, TIS, CS, Nat.reduceAdd, Nat.reduceMul, Nat.reduceEqDiff, ↓reduceIte, reduceCtorEq, Nat.reduceLT, Nat.reduceLeDiff, ↓zc1, zg1, ↓zc2]
              (repeat' apply And.intro) <;> first | rfl | assumption | omega | (simp; done) | (simp; omega) | (simp_all; done)
            refine sA_n ?_
            refine a_ret ?_
            refine bA_r ?_
            refine sA_r ?_
            refine lA_r ?_
            refine bA_r ?_
            refine cA_r ?_
            obtain rfl := Option.some.inj H
            refine e_r2 (d := ?zd2) ?_ ?_
            rotate_left
            · simp only [EVT, resR, single, evLoad, cut, TIS, CS, Nat.reduceAdd, Nat.reduceEqDiff, ↓reduceIte, reduceCtorEq, Nat.reduceLT, Nat.reduceLeDiff, Nat.reduceSub, Nat.reduceBEq, zc1, zg1, zc2]
              (repeat' apply And.intro) <;> first | rfl | assumption | omega | (simp; done)
            exact (.int' rfl)
          · have H := cond_f zc2 H
            refine a_skip ?_
            refine bA_n ?_
            refine sA_n ?_
            refine a_reg _ rfl (s := ?zs8) ?_ ?_
            rotate_left
            · simp (maxSteps := 2000000) only [EVT, stepR, evOp, St.ev, St.app, St.put, wrs, datOf, datOf1, evBin, binInt, TIS, CS, Nat.reduceAdd, Nat.reduceMul, Nat.reduceEqDiff, ↓reduceIte, reduceCtorEq, Nat.reduceLT, Nat.reduceLeDiff, ↓zc1, zg1, ↓zc2]
              (repeat' apply And.intro) <;> first | rfl | assumption | omega | (simp; done) | (simp; omega) | (simp_all; done)
            refine lA_n ?_
            refine wk_l [] [] [(0, .list 1 (s1.map (ci .i64))), (1, .int .i64 v1), (7, .int .i64 (s1.length : Int)), (8, .int .i64 (IntKind.wrap .i64 (v2 + 1)))] (by show ([0, 1, 7, 8] : List Nat).Nodup; decide) (by show ([] : List Nat).Nodup; decide) ?_ ?_ (fun t0 => ⟨_, Nat.lt_succ_self _, (IntKind.wrap .i64 (v2 + 1)), t0, H, rfl⟩)
            · exact trivial
            · (simp only [AllT, tl_cons, tl_nil, upd_apply, List.getD_cons_zero, List.getD_cons_succ, Nat.reduceEqDiff, ↓reduceIte, and_true]); exact ⟨(.lst _ _ _ (ci_pu .i64) rfl), (.int' rfl), (.int' rfl), (.int' rfl)⟩
        · have H := cond_f zc1 H
          refine a_exit ?_
          refine sA_e ?_
          refine lA_e ?_
          refine bA_hit ?_
          refine cA_n ?_
          refine wk_l [] [] [] (by show ([] : List Nat).Nodup; decide) (by show ([] : List Nat).Nodup; decide) ?_ ?_ (fun t0 => ⟨t0, H, rfl⟩)
          · exact trivial
          · exact trivial
  · rintro s ⟨t0, H, rfl⟩
    unfold slices_Index_J1 at H
    refine a_seq ?_
    refine a_reg _ rfl (s := ?zs2) ?_ ?_
    rotate_left
    · simp (maxSteps := 2000000) only [EVT, stepR, evOp, St.ev, St.app, St.put, wrs, datOf, datOf1, TIS, CS, Nat.reduceAdd, Nat.reduceMul, Nat.reduceEqDiff, ↓reduceIte, reduceCtorEq, Nat.reduceLT, Nat.reduceLeDiff]
      (repeat' apply And.intro) <;> first | rfl | assumption | omega | (simp; done) | (simp; omega) | (simp_all; done)
    refine sA_n ?_
    refine a_ret ?_
    obtain rfl := Option.some.inj H
    refine e_r2 (d := ?zd1) ?_ ?_
    rotate_left
    · simp only [EVT, resR, single, evLoad, cut, TIS, CS, Nat.reduceAdd, Nat.reduceEqDiff, ↓reduceIte, reduceCtorEq, Nat.reduceLT, Nat.reduceLeDiff, Nat.reduceSub, Nat.reduceBEq]
      (repeat' apply And.intro) <;> first | rfl | assumption | omega | (simp; done)
    exact (.int' rfl)
def slices_Contains_f (s1 : List Int) (v1 : Int) : Option Bool :=
  (slices_Index_f s1 v1).bind fun r1 => some ((decide (0 ≤ r1)))
set_option maxHeartbeats 4000000 in
set_option maxRecDepth 20000 in
theorem slices_Contains_pc {s1 : List Int} {v1 : Int} {r : Bool} (H : slices_Contains_f s1 v1 = some r) : PC Try.prog 30 [.list 1 (s1.map (ci .i64)), .int .i64 v1] (.bool r) := by
  refine pcA_of Try.func30 (by rfl) (by decide) 9 (by rfl) [.tmp 4] (by rfl) ?_
  unfold slices_Contains_f at H
  simp only [ent]
  refine a_seq ?_
  refine a_reg _ rfl (s := ?zs1) ?_ ?_
  rotate_left
  · simp (maxSteps := 2000000) only [EVT, stepR, evOp, St.ev, St.app, St.put, wrs, datOf, datOf1, TIS, CS, Nat.reduceAdd, Nat.reduceMul, Nat.reduceEqDiff, ↓reduceIte, reduceCtorEq, Nat.reduceLT, Nat.reduceLeDiff]
    (repeat' apply And.intro) <;> first | rfl | assumption | omega | (simp; done) | (simp; omega) | (simp_all; done)
  refine sA_n ?_
  refine a_seq ?_
  obtain ⟨r1, zh1, H⟩ := bind_some H
  have zk1 := slices_Index_pc zh1
  refine a_reg _ rfl (s := ?zs2) ?_ ?_
  rotate_left
  · try simp (maxSteps := 2000000) only [EVT, stepR, evOp, St.ev, St.app, St.put, wrs, frz, datOf, datOf1, evBin, binInt, TIS, CS, Nat.reduceAdd, Nat.reduceMul, Nat.reduceEqDiff, ↓reduceIte, reduceCtorEq, Nat.reduceLT, Nat.reduceLeDiff, Nat.reduceSub, Nat.reduceBEq]
    repeat' with_reducible apply And.intro
    all_goals try ((with_reducible show CallR _ _ _ _ _ _ _); refine cR_s zk1 (.cons (.lst _ _ _ (ci_pu .i64) rfl) (.cons (.int' rfl) .nil)) (.int _ _) ?_; simp (maxSteps := 2000000) only [EVT, stepR, evOp, St.ev, St.app, St.put, wrs, frz, datOf, datOf1, evBin, binInt, TIS, CS, Nat.reduceAdd, Nat.reduceMul, Nat.reduceEqDiff, ↓reduceIte, reduceCtorEq, Nat.reduceLT, Nat.reduceLeDiff, Nat.reduceSub, Nat.reduceBEq])
    all_goals ((repeat' apply And.intro) <;> first | rfl | assumption | omega | (simp; done) | (simp; omega) | (simp_all; done))
  refine sA_n ?_
  refine a_ret ?_
  obtain rfl := Option.some.inj H
  refine e_r2 (d := ?zd1) ?_ ?_
  rotate_left
  · simp only [EVT, resR, single, evLoad, cut, TIS, CS, Nat.reduceAdd, Nat.reduceEqDiff, ↓reduceIte, reduceCtorEq, Nat.reduceLT, Nat.reduceLeDiff, Nat.reduceSub, Nat.reduceBEq]
    (repeat' apply And.intro) <;> first | rfl | assumption | omega | (simp; done)
  exact (.bool' rfl)
def ref14_Ints_J1 : Option Bool :=
  some (true)
def ref14_Ints_L1 (a1 : List Int) (b1 : List Int) : Nat → Int → Option Bool
  | 0, _ => none
  | m_ + 1, i1 => cond (decide (i1 < (a1.length : Int))) ((idx a1 i1).bind fun x1 => (idx b1 i1).bind fun x2 => cond (x1 != x2) (some (false)) (ref14_Ints_L1 a1 b1 m_ (IntKind.wrap .i64 (i1 + 1)))) (ref14_Ints_J1)
def ref14_Ints_f (a1 : List Int) (b1 : List Int) : Option Bool :=
  cond ((a1.length : Int) != (b1.length : Int)) (some (false)) (ref14_Ints_L1 a1 b1 BIG 0)
set_option maxHeartbeats 4000000 in
set_option maxRecDepth 20000 in
theorem ref14_Ints_pc {a1 : List Int} {b1 : List Int} {r : Bool} (H : ref14_Ints_f a1 b1 = some r) : PC Try.prog 27 [.list 1 (a1.map (ci .i64)), .list 1 (b1.map (ci .i64))] (.bool r) := by
  refine pcA_of Try.func27 (by rfl) (by decide) 26 (by rfl) [.tmp 4] (by rfl) ?_
  unfold ref14_Ints_f at H
  simp only [ent]
  refine a_seq ?_
  refine a_reg _ rfl (s := ?zs1) ?_ ?_
  rotate_left
  · simp (maxSteps := 2000000) only [EVT, stepR, evOp, St.ev, St.app, St.put, wrs, datOf, datOf1, TIS, CS, Nat.reduceAdd, Nat.reduceMul, Nat.reduceEqDiff, ↓reduceIte, reduceCtorEq, Nat.reduceLT, Nat.reduceLeDiff]
    (repeat' apply And.intro) <;> first | rfl | assumption | omega | (simp; done) | (simp; omega) | (simp_all; done)
  refine sA_n ?_
  refine a_seq ?_
  refine a_seq ?_
  refine a_reg _ rfl (s := ?zs2) ?_ ?_
  rotate_left
  · simp (maxSteps := 2000000) only [EVT, stepR, evOp, St.ev, St.app, St.put, wrs, evBuiltin, evBin, binInt, TIS, CS, Nat.reduceAdd, Nat.reduceMul, Nat.reduceEqDiff, ↓reduceIte, reduceCtorEq, Nat.reduceLT, Nat.reduceLeDiff, Nat.reduceSub, Nat.reduceBEq]
    (repeat' apply And.intro) <;> first | rfl | assumption | omega | (simp; done) | (simp; omega) | (simp_all; done)
  refine sA_n ?_
  refine a_condb (((a1.length : Int) != (b1.length : Int))) (by rfl) (fun zc1 => ?_) (fun zc1 => ?_)
  · have H := cond_t zc1 H
    refine a_seq ?_
    refine a_reg _ rfl (s := ?zs3) ?_ ?_
    rotate_left
    · simp (maxSteps := 2000000) only [EVT, stepR, evOp, St.ev, St.app, St.put, wrs, datOf, datOf1, TIS, CS, Nat.reduceAdd, Nat.reduceMul, Nat.reduceEqDiff, ↓reduceIte, reduceCtorEq, Nat.reduceLT, Nat.reduceLeDiff, ↓zc1]
      (repeat' apply And.intro) <;> first | rfl | assumption | omega | (simp; done) | (simp; omega) | (simp_all; done)
    refine sA_n ?_
    refine a_ret ?_
    refine sA_r ?_
    obtain rfl := Option.some.inj H
    refine e_r2 (d := ?zd1) ?_ ?_
    rotate_left
    · simp only [EVT, resR, single, evLoad, cut, TIS, CS, Nat.reduceAdd, Nat.reduceEqDiff, ↓reduceIte, reduceCtorEq, Nat.reduceLT, Nat.reduceLeDiff, Nat.reduceSub, Nat.reduceBEq, zc1]
      (repeat' apply And.intro) <;> first | rfl | assumption | omega | (simp; done)
    exact (.bool' (by first | rfl | assumption | (simp_all; done)))
  · have H := cond_f zc1 H
    refine a_skip ?_
    refine sA_n ?_
    refine a_cut (fun s => ∃ (t0 : Nat → Dat), ref14_Ints_J1 = some r ∧ s = ⟨tl t0 [], hl [], 0, 26⟩) ?_ ?_
    · refine a_seq ?_
      refine a_reg _ rfl (s := ?zs5) ?_ ?_
      rotate_left
      · simp (maxSteps := 2000000) only [EVT, stepR, evOp, St.ev, St.app, St.put, wrs, datOf, datOf1, TIS, CS, Nat.reduceAdd, Nat.reduceMul, Nat.reduceEqDiff, ↓reduceIte, reduceCtorEq, Nat.reduceLT, Nat.reduceLeDiff, ↓zc1]
        (repeat' apply And.intro) <;> first | rfl | assumption | omega | (simp; done) | (simp; omega) | (simp_all; done)
      refine sA_n ?_
      refine a_blk ?_
      refine a_loop (fun m s => ∃ (i1 : Int) (t0 : Nat → Dat), ref14_Ints_L1 a1 b1 m i1 = some r ∧ s = ⟨tl t0 [(0, .list 1 (a1.map (ci .i64))), (1, .list 1 (b1.map (ci .i64))), (5, .int .i64 i1)], hl [], 0, 26⟩) BIG ?_ ?_
      · refine wk_l [] [] [(0, .list 1 (a1.map (ci .i64))), (1, .list 1 (b1.map (ci .i64))), (5, .int .i64 0)] (by show ([0, 1, 5] : List Nat).Nodup; decide) (by show ([] : List Nat).Nodup; decide) ?_ ?_ (fun t0 => ⟨0, t0, H, rfl⟩)
        · exact trivial
        · (simp only [AllT, tl_cons, tl_nil, upd_apply, List.getD_cons_zero, List.getD_cons_succ, Nat.reduceEqDiff, ↓reduceIte, and_true]); exact ⟨(.lst _ _ _ (ci_pu .i64) rfl), (.lst _ _ _ (ci_pu .i64) rfl), (.int' rfl)⟩
      · rintro m_ref14_Ints_L1 s ⟨i1, t0, H, rfl⟩
        obtain _ | m_ref14_Ints_L1 := m_ref14_Ints_L1
        · cases (show (none : Option _) = some _ from H)
        · rw [ref14_Ints_L1] at H
          refine a_seq ?_
          refine a_seq ?_
          refine a_reg _ rfl (s := ?zs6) ?_ ?_
          rotate_left
          · simp (maxSteps := 2000000) only [EVT, stepR, evOp, St.ev, St.app, St.put, wrs, evBuiltin, evBin, binInt, TIS, CS, Nat.reduceAdd, Nat.reduceMul, Nat.reduceEqDiff, ↓reduceIte, reduceCtorEq, Nat.reduceLT, Nat.reduceLeDiff, Nat.reduceSub, Nat.reduceBEq]
            (repeat' apply And.intro) <;> first | rfl | assumption | omega | (simp; done) | (simp; omega) | (simp_all; done)
          refine sA_n ?_
          refine a_condb ((decide (i1 < (a1.length : Int)))) (by rfl) (fun zc2 => ?_) (fun zc2 => ?_)
          · have H := cond_t zc2 H
            refine a_skip ?_
            refine sA_n ?_
            refine a_seq ?_
            refine a_blk ?_
            refine a_seq ?_
            obtain ⟨x1, zh1, H⟩ := bind_some H
            have zg1 := idx_map zh1 (ci .i64)
            obtain ⟨zh1a, zh1b, _⟩ := idx_some zh1
            obtain ⟨x2, zh2, H⟩ := bind_some H
            have zg2 := idx_map zh2 (ci .i64)
            obtain ⟨zh2a, zh2b, _⟩ := idx_some zh2
            refine a_drW (by kernel_rfl) _ rfl (s := ?zs7) (by kernel_rfl) (by kernel_rfl) ?zs7f ?_ ?_ ?_
            rotate_left 2
            · simp (maxSteps := 2000000) only [EVT, stepW, evOp, St.ev, St.app, St.put, wrs, evIndexAddr, evLoad, cut, evBin, binInt, TIS, CS, Nat.reduceAdd, Nat.reduceMul, Nat.reduceEqDiff, ↓reduceIte, reduceCtorEq, Nat.reduceLT, Nat.reduceLeDiff, Int.reduceToNat, Nat.reduceSub, Nat.reduceBEq, ↓zc2, zg1, zg2]
              (repeat' apply And.intro) <;> first | rfl | assumption | omega | (simp; done) | (simp; omega) | (simp_all; done)
            · kernel_rfl
            refine sA_n ?_
            refine a_condb ((x1 != x2)) (by rfl) (fun zc3 => ?_) (fun zc3 => ?_)
            · have H := cond_t zc3 H
              refine a_seq ?_
              refine a_reg _ rfl (s := ?zs8) ?_ ?_
              rotate_left
              · simp (maxSteps := 2000000) only [EVT, stepR, evOp, St.ev, St.app, St.put, wrs, datOf, datOf1, TIS, CS, Nat.reduceAdd, Nat.reduceMul, Nat.reduceEqDiff, ↓reduceIte, reduceCtorEq, Nat.reduceLT, Nat.reduceLeDiff, ↓zc2, zg1, zg2, ↓zc3]
                (repeat' apply And.intro) <;> first | rfl | assumption | omega | (simp; done) | (simp; omega) | (simp_all; done)
              refine sA_n ?_
              refine a_ret ?_
              refine bA_r ?_
              refine sA_r ?_
              refine lA_r ?_
              refine bA_r ?_
              refine cA_r ?_
              obtain rfl := Option.some.inj H
              refine e_r2 (d := ?zd3) ?_ ?_
              rotate_left
              · simp only [EVT, resR, single, evLoad, cut, TIS, CS, Nat.reduceAdd, Nat.reduceEqDiff, ↓reduceIte, reduceCtorEq, Nat.reduceLT, Nat.reduceLeDiff, Nat.reduceSub, Nat.reduceBEq, zc2, zg1, zg2, zc3]
                (repeat' apply And.intro) <;> first | rfl | assumption | omega | (simp; done)
              exact (.bool' (by first | rfl | assumption | (simp_all; done)))
            · have H := cond_f zc3 H
              refine a_skip ?_
              refine bA_n ?_
              refine sA_n ?_
              refine a_reg _ rfl (s := ?zs9) ?_ ?_
              rotate_left
              · simp (maxSteps := 2000000) only [EVT, stepR, evOp, St.ev, St.app, St.put, wrs, datOf, datOf1, evBin, binInt, TIS, CS, Nat.reduceAdd, Nat.reduceMul, Nat.reduceEqDiff, ↓reduceIte, reduceCtorEq, Nat.reduceLT, Nat.reduceLeDiff, ↓zc2, zg1, zg2, ↓zc3]
                (repeat' apply And.intro) <;> first | rfl | assumption | omega | (simp; done) | (simp; omega) | (simp_all; done)
              refine lA_n ?_
              refine wk_l [] [] [(0, .list 1 (a1.map (ci .i64))), (1, .list 1 (b1.map (ci .i64))), (5, .int .i64 (IntKind.wrap .i64 (i1 + 1)))] (by show ([0, 1, 5] : List Nat).Nodup; decide) (by show ([] : List Nat).Nodup; decide) ?_ ?_ (fun t0 => ⟨_, Nat.lt_succ_self _, (IntKind.wrap .i64 (i1 + 1)), t0, H, rfl⟩)
              · exact trivial
              · (simp only [AllT, tl_cons, tl_nil, upd_apply, List.getD_cons_zero, List.getD_cons_succ, Nat.reduceEqDiff, ↓reduceIte, and_true]); exact ⟨(.lst _ _ _ (ci_pu .i64) rfl), (.lst _ _ _ (ci_pu .i64) rfl), (.int' rfl)⟩
          · have H := cond_f zc2 H
            refine a_exit ?_
            refine sA_e ?_
            refine lA_e ?_
            refine bA_hit ?_
            refine cA_n ?_
            refine wk_l [] [] [] (by show ([] : List Nat).Nodup; decide) (by show ([] : List Nat).Nodup; decide) ?_ ?_ (fun t0 => ⟨t0, H, rfl⟩)
            · exact trivial
            · exact trivial
    · rintro s ⟨t0, H, rfl⟩
      unfold ref14_Ints_J1 at H
      refine a_seq ?_
      refine a_reg _ rfl (s := ?zs4) ?_ ?_
      rotate_left
      · simp (maxSteps := 2000000) only [EVT, stepR, evOp, St.ev, St.app, St.put, wrs, datOf, datOf1, TIS, CS, Nat.reduceAdd, Nat.reduceMul, Nat.reduceEqDiff, ↓reduceIte, reduceCtorEq, Nat.reduceLT, Nat.reduceLeDiff]
        (repeat' apply And.intro) <;> first | rfl | assumption | omega | (simp; done) | (simp; omega) | (simp_all; done)
      refine sA_n ?_
      refine a_ret ?_
      obtain rfl := Option.some.inj H
      refine e_r2 (d := ?zd2) ?_ ?_
      rotate_left
      · simp only [EVT, resR, single, evLoad, cut, TIS, CS, Nat.reduceAdd, Nat.reduceEqDiff, ↓reduceIte, reduceCtorEq, Nat.reduceLT, Nat.reduceLeDiff, Nat.reduceSub, Nat.reduceBEq]
        (repeat' apply And.intro) <;> first | rfl | assumption | omega | (simp; done)
      exact (.bool' (by first | rfl | assumption | (simp_all; done)))
def ref14_Log_J1 : Option Bool :=
  some (true)
def ref14_Log_J2 (k_ref14_Log_L1 : Int → Option Bool) (i1 : Int) : Option Bool :=
  k_ref14_Log_L1 (IntKind.wrap .i64 (i1 + 1))
def ref14_Log_L2 (k_ref14_Log_L1 : Int → Option Bool) (a1 : List Entry) (i1 : Int) (b1 : List Entry) : Nat → Int → Option Bool
  | 0, _ => none
  | m_ + 1, k1 => (idx a1 i1).bind fun x1 => cond (decide (k1 < (x1.data.length : Int))) ((idx x1.data k1).bind fun x2 => (idx b1 i1).bind fun x3 => (idx x3.data k1).bind fun x4 => cond (x2 != x4) (some (false)) (ref14_Log_L2 k_ref14_Log_L1 a1 i1 b1 m_ (IntKind.wrap .i64 (k1 + 1)))) (ref14_Log_J2 k_ref14_Log_L1 i1)
def ref14_Log_J3 (k_ref14_Log_L1 : Int → Option Bool) (a1 : List Entry) (i1 : Int) (b1 : List Entry) (v1 : Bool) : Option Bool :=
  cond v1 (some (false)) (ref14_Log_L2 k_ref14_Log_L1 a1 i1 b1 BIG 0)
def ref14_Log_L1 (a1 : List Entry) (b1 : List Entry) : Nat → Int → Option Bool
  | 0, _ => none
  | m_ + 1, i1 => cond (decide (i1 < (a1.length : Int))) ((idx a1 i1).bind fun x5 => (idx b1 i1).bind fun x6 => ref14_Log_J3 (ref14_Log_L1 a1 b1 m_) a1 i1 b1 ((x5.term != x6.term) || ((x5.data.length : Int) != (x6.data.length : Int)))) (ref14_Log_J1)
def ref14_Log_f (a1 : List Entry) (b1 : List Entry) : Option Bool :=
  cond ((a1.length : Int) != (b1.length : Int)) (some (false)) (ref14_Log_L1 a1 b1 BIG 0)
set_option maxHeartbeats 4000000 in
set_option maxRecDepth 20000 in
theorem ref14_Log_pc {a1 : List Entry} {b1 : List Entry} {r : Bool} (H : ref14_Log_f a1 b1 = some r) : PC Try.prog 24 [.list 2 (a1.map Entry.c), .list 2 (b1.map Entry.c)] (.bool r) := by
  refine pcA_of Try.func24 (by rfl) (by decide) 71 (by rfl) [.tmp 4] (by rfl) ?_
  unfold ref14_Log_f at H
  simp only [ent]
  refine a_seq ?_
  refine a_reg _ rfl (s := ?zs1) ?_ ?_
  rotate_left
  · simp (maxSteps := 2000000) only [EVT, stepR, evOp, St.ev, St.app, St.put, wrs, datOf, datOf1, TIS, CS, Nat.reduceAdd, Nat.reduceMul, Nat.reduceEqDiff, ↓reduceIte, reduceCtorEq, Nat.reduceLT, Nat.reduceLeDiff]
    (repeat' apply And.intro) <;> first | rfl | assumption | omega | (simp; done) | (simp; omega) | (simp_all; done)
  refine sA_n ?_
  refine a_seq ?_
  refine a_seq ?_
  refine a_reg _ rfl (s := ?zs2) ?_ ?_
  rotate_left
  · simp (maxSteps := 2000000) only [EVT, stepR, evOp, St.ev, St.app, St.put, wrs, evBuiltin, evBin, binInt, TIS, CS, Nat.reduceAdd, Nat.reduceMul, Nat.reduceEqDiff, ↓reduceIte, reduceCtorEq, Nat.reduceLT, Nat.reduceLeDiff, Nat.reduceSub, Nat.reduceBEq]
    (repeat' apply And.intro) <;> first | rfl | assumption | omega | (simp; done) | (simp; omega) | (simp_all; done)
  refine sA_n ?_
  refine a_condb (((a1.length : Int) != (b1.length : Int))) (by rfl) (fun zc1 => ?_) (fun zc1 => ?_)
  · have H := cond_t zc1 H
    refine a_seq ?_
    refine a_reg _ rfl (s := ?zs3) ?_ ?_
    rotate_left
    · simp (maxSteps := 2000000) only [EVT, stepR, evOp, St.ev, St.app, St.put, wrs, datOf, datOf1, TIS, CS, Nat.reduceAdd, Nat.reduceMul, Nat.reduceEqDiff, ↓reduceIte, reduceCtorEq, Nat.reduceLT, Nat.reduceLeDiff, ↓zc1]
      (repeat' apply And.intro) <;> first | rfl | assumption | omega | (simp; done) | (simp; omega) | (simp_all; done)
    refine sA_n ?_
    refine a_ret ?_
    refine sA_r ?_
    obtain rfl := Option.some.inj H
    refine e_r2 (d := ?zd1) ?_ ?_
    rotate_left
    · simp only [EVT, resR, single, evLoad, cut, TIS, CS, Nat.reduceAdd, Nat.reduceEqDiff, ↓reduceIte, reduceCtorEq, Nat.reduceLT, Nat.reduceLeDiff, Nat.reduceSub, Nat.reduceBEq, zc1]
      (repeat' apply And.intro) <;> first | rfl | assumption | omega | (simp; done)
    exact (.bool' (by first | rfl | assumption | (simp_all; done)))
  · have H := cond_f zc1 H
    refine a_skip ?_
    refine sA_n ?_
    refine a_cut (fun s => ∃ (t0 : Nat → Dat), ref14_Log_J1 = some r ∧ s = ⟨tl t0 [], hl [], 0, 71⟩) ?_ ?_
    · refine a_seq ?_
      refine a_reg _ rfl (s := ?zs5) ?_ ?_
      rotate_left
      · simp (maxSteps := 2000000) only [EVT, stepR, evOp, St.ev, St.app, St.put, wrs, datOf, datOf1, TIS, CS, Nat.reduceAdd, Nat.reduceMul, Nat.reduceEqDiff, ↓reduceIte, reduceCtorEq, Nat.reduceLT, Nat.reduceLeDiff, ↓zc1]
        (repeat' apply And.intro) <;> first | rfl | assumption | omega | (simp; done) | (simp; omega) | (simp_all; done)
      refine sA_n ?_
      refine a_blk ?_
      refine a_loop (fun m s => ∃ (i1 : Int) (t0 : Nat → Dat), ref14_Log_L1 a1 b1 m i1 = some r ∧ s = ⟨tl t0 [(0, .list 2 (a1.map Entry.c)), (1, .list 2 (b1.map Entry.c)), (5, .int .i64 i1)], hl [], 0, 71⟩) BIG ?_ ?_
      · refine wk_l [] [] [(0, .list 2 (a1.map Entry.c)), (1, .list 2 (b1.map Entry.c)), (5, .int .i64 0)] (by show ([0, 1, 5] : List Nat).Nodup; decide) (by show ([] : List Nat).Nodup; decide) ?_ ?_ (fun t0 => ⟨0, t0, H, rfl⟩)
        · exact trivial
        · (simp only [AllT, tl_cons, tl_nil, upd_apply, List.getD_cons_zero, List.getD_cons_succ, Nat.reduceEqDiff, ↓reduceIte, and_true]); exact ⟨(.lst _ _ _ Entry.pu rfl), (.lst _ _ _ Entry.pu rfl), (.int' rfl)⟩
      · rintro m_ref14_Log_L1 s ⟨i1, t0, H, rfl⟩
        obtain _ | m_ref14_Log_L1 := m_ref14_Log_L1
        · cases (show (none : Option _) = some _ from H)
        · rw [ref14_Log_L1] at H
          refine a_seq ?_
          refine a_seq ?_
          refine a_reg _ rfl (s := ?zs6) ?_ ?_
          rotate_left
          · simp (maxSteps := 2000000) only [EVT, stepR, evOp, St.ev, St.app, St.put, wrs, evBuiltin, evBin, binInt, TIS, CS, Nat.reduceAdd, Nat.reduceMul, Nat.reduceEqDiff, ↓reduceIte, reduceCtorEq, Nat.reduceLT, Nat.reduceLeDiff, Nat.reduceSub, Nat.reduceBEq]
            (repeat' apply And.intro) <;> first | rfl | assumption | omega | (simp; done) | (simp; omega) | (simp_all; done)
          refine sA_n ?_
          refine a_condb ((decide (i1 < (a1.length : Int)))) (by rfl) (fun zc2 => ?_) (fun zc2 => ?_)
          · have H := cond_t zc2 H
            refine a_skip ?_
            refine sA_n ?_
            refine a_cut (fun s => ∃ (t0 : Nat → Dat), ref14_Log_J2 (ref14_Log_L1 a1 b1 m_ref14_Log_L1) i1 = some r ∧ s = ⟨tl t0 [(0, .list 2 (a1.map Entry.c)), (1, .list 2 (b1.map Entry.c)), (5, .int .i64 i1)], hl [], 0, 71⟩) ?_ ?_
            · refine a_blk ?_
              refine a_seq ?_
              refine a_cut (fun s => ∃ (v1 : Bool) (t0 : Nat → Dat), ref14_Log_J3 (ref14_Log_L1 a1 b1 m_ref14_Log_L1) a1 i1 b1 v1 = some r ∧ s = ⟨tl t0 [(0, .list 2 (a1.map Entry.c)), (1, .list 2 (b1.map Entry.c)), (5, .int .i64 i1), (43, .bool v1)], hl [], 0, 71⟩) ?_ ?_
              · obtain ⟨x5, zh5, H⟩ := bind_some H
                have zg5 := idx_map zh5 Entry.c
                obtain ⟨zh5a, zh5b, _⟩ := idx_some zh5
                obtain ⟨x6, zh6, H⟩ := bind_some H
                have zg6 := idx_map zh6 Entry.c
                obtain ⟨zh6a, zh6b, _⟩ := idx_some zh6
                refine bool_split (b := (x5.term != x6.term)) (fun zc6 => ?_) (fun zc6 => ?_)
                · rw [zc6] at H
                  refine a_drW (by kernel_rfl) _ rfl (s := ?zs14) (by kernel_rfl) (by kernel_rfl) ?zs14f ?_ ?_ ?_
                  rotate_left 2
                  · simp (maxSteps := 2000000) only [EVT, stepW, evOp, St.ev, St.app, St.put, wrs, evIndexAddr, evFieldAddr, evLoad, cut, evBin, binInt, evBuiltin, datOf, datOf1, TIS, CS, Nat.reduceAdd, Nat.reduceMul, Nat.reduceEqDiff, ↓reduceIte, reduceCtorEq, Nat.reduceLT, Nat.reduceLeDiff, Array.reduceGetElem?, Int.reduceToNat, Nat.reduceSub, Nat.reduceBEq, ↓zc2, zg5, zg6, ↓zc6]
                    try simp (maxSteps := 2000000) only [EVT, stepW, evOp, St.ev, St.app, St.put, wrs, evIndexAddr, evFieldAddr, evLoad, cut, evBin, binInt, evBuiltin, datOf, datOf1, TIS, CS, Nat.reduceAdd, Nat.reduceMul, Nat.reduceEqDiff, ↓reduceIte, reduceCtorEq, Nat.reduceLT, Nat.reduceLeDiff, Array.reduceGetElem?, Int.reduceToNat, Nat.reduceSub, Nat.reduceBEq, ↓zc2, zg5, zg6, ↓zc6]
                    (repeat' apply And.intro) <;> first | rfl | assumption | omega | (simp; done) | (simp; omega) | (simp_all; done)
                  · kernel_rfl
                  refine cA_n ?_
                  refine wk_l [] [] [(0, .list 2 (a1.map Entry.c)), (1, .list 2 (b1.map Entry.c)), (5, .int .i64 i1), (43, .bool true)] (by show ([0, 1, 5, 43] : List Nat).Nodup; decide) (by show ([] : List Nat).Nodup; decide) ?_ ?_ (fun t0 => ⟨true, t0, H, rfl⟩)
                  · exact trivial
                  · (simp only [AllT, tl_cons, tl_nil, upd_apply, List.getD_cons_zero, List.getD_cons_succ, Nat.reduceEqDiff, ↓reduceIte, and_true]); exact ⟨(.lst _ _ _ Entry.pu rfl), (.lst _ _ _ Entry.pu rfl), (.int' rfl), (.bool' (by first | rfl | assumption | (simp_all; done)))⟩
                · rw [zc6] at H
                  refine a_drW (by kernel_rfl) _ rfl (s := ?zs15) (by kernel_rfl) (by kernel_rfl) ?zs15f ?_ ?_ ?_
                  rotate_left 2
                  · simp (maxSteps := 2000000) only [EVT, stepW, evOp, St.ev, St.app, St.put, wrs, evIndexAddr, evFieldAddr, evLoad, cut, evBin, binInt, evBuiltin, datOf, datOf1, TIS, CS, Nat.reduceAdd, Nat.reduceMul, Nat.reduceEqDiff, ↓reduceIte, reduceCtorEq, Nat.reduceLT, Nat.reduceLeDiff, Array.reduceGetElem?, Int.reduceToNat, Nat.reduceSub, Nat.reduceBEq, ↓zc2, zg5, zg6, ↓zc6]
                    try simp (maxSteps := 2000000) only [EVT, stepW, evOp, St.ev, St.app, St.put, wrs, evIndexAddr, evFieldAddr, evLoad, cut, evBin, binInt, evBuiltin, datOf, datOf1, TIS, CS, Nat.reduceAdd, Nat.reduceMul, Nat.reduceEqDiff, ↓reduceIte, reduceCtorEq, Nat.reduceLT, Nat.reduceLeDiff, Array.reduceGetElem?, Int.reduceToNat, Nat.reduceSub, Nat.reduceBEq, ↓zc2, zg5, zg6, ↓zc6]
                    (repeat' apply And.intro) <;> first | rfl | assumption | omega | (simp; done) | (simp; omega) | (simp_all; done)
                  · kernel_rfl
                  refine cA_n ?_
                  refine wk_l [] [] [(0, .list 2 (a1.map Entry.c)), (1, .list 2 (b1.map Entry.c)), (5, .int .i64 i1), (43, .bool ((x5.data.length : Int) != (x6.data.length : Int)))] (by show ([0, 1, 5, 43] : List Nat).Nodup; decide) (by show ([] : List Nat).Nodup; decide) ?_ ?_ (fun t0 => ⟨((x5.data.length : Int) != (x6.data.length : Int)), t0, H, rfl⟩)
                  · exact trivial
                  · (simp only [AllT, tl_cons, tl_nil, upd_apply, List.getD_cons_zero, List.getD_cons_succ, Nat.reduceEqDiff, ↓reduceIte, and_true]); exact ⟨(.lst _ _ _ Entry.pu rfl), (.lst _ _ _ Entry.pu rfl), (.int' rfl), (.bool' rfl)⟩
              · rintro s ⟨v1, t0, H, rfl⟩
                unfold ref14_Log_J3 at H
                refine a_condb (v1) (by rfl) (fun zc3 => ?_) (fun zc3 => ?_)
                · have H := cond_t zc3 H
                  refine a_seq ?_
                  refine a_reg _ rfl (s := ?zs8) ?_ ?_
                  rotate_left
                  · simp (maxSteps := 2000000) only [EVT, stepR, evOp, St.ev, St.app, St.put, wrs, datOf, datOf1, TIS, CS, Nat.reduceAdd, Nat.reduceMul, Nat.reduceEqDiff, ↓reduceIte, reduceCtorEq, Nat.reduceLT, Nat.reduceLeDiff, ↓zc3]
                    (repeat' apply And.intro) <;> first | rfl | assumption | omega | (simp; done) | (simp; omega) | (simp_all; done)
                  refine sA_n ?_
                  refine a_ret ?_
                  refine sA_r ?_
                  refine bA_r ?_
                  refine cA_r ?_
                  refine lA_r ?_
                  refine bA_r ?_
                  refine cA_r ?_
                  obtain rfl := Option.some.inj H
                  refine e_r2 (d := ?zd3) ?_ ?_
                  rotate_left
                  · simp only [EVT, resR, single, evLoad, cut, TIS, CS, Nat.reduceAdd, Nat.reduceEqDiff, ↓reduceIte, reduceCtorEq, Nat.reduceLT, Nat.reduceLeDiff, Nat.reduceSub, Nat.reduceBEq, zc3]
                    (repeat' apply And.intro) <;> first | rfl | assumption | omega | (simp; done)
                  exact (.bool' (by first | rfl | assumption | (simp_all; done)))
                · have H := cond_f zc3 H
                  refine a_skip ?_
                  refine sA_n ?_
                  refine a_seq ?_
                  refine a_reg _ rfl (s := ?zs9) ?_ ?_
                  rotate_left
                  · simp (maxSteps := 2000000) only [EVT, stepR, evOp, St.ev, St.app, St.put, wrs, datOf, datOf1, TIS, CS, Nat.reduceAdd, Nat.reduceMul, Nat.reduceEqDiff, ↓reduceIte, reduceCtorEq, Nat.reduceLT, Nat.reduceLeDiff, ↓zc3]
                    (repeat' apply And.intro) <;> first | rfl | assumption | omega | (simp; done) | (simp; omega) | (simp_all; done)
                  refine sA_n ?_
                  refine a_blk ?_
                  refine a_loop (fun m s => ∃ (k1 : Int) (t0 : Nat → Dat), ref14_Log_L2 (ref14_Log_L1 a1 b1 m_ref14_Log_L1) a1 i1 b1 m k1 = some r ∧ s = ⟨tl t0 [(0, .list 2 (a1.map Entry.c)), (1, .list 2 (b1.map Entry.c)), (5, .int .i64 i1), (6, .int .i64 k1)], hl [], 0, 71⟩) BIG ?_ ?_
                  · refine wk_l [] [] [(0, .list 2 (a1.map Entry.c)), (1, .list 2 (b1.map Entry.c)), (5, .int .i64 i1), (6, .int .i64 0)] (by show ([0, 1, 5, 6] : List Nat).Nodup; decide) (by show ([] : List Nat).Nodup; decide) ?_ ?_ (fun t0 => ⟨0, t0, H, rfl⟩)
                    · exact trivial
                    · (simp only [AllT, tl_cons, tl_nil, upd_apply, List.getD_cons_zero, List.getD_cons_succ, Nat.reduceEqDiff, ↓reduceIte, and_true]); exact ⟨(.lst _ _ _ Entry.pu rfl), (.lst _ _ _ Entry.pu rfl), (.int' rfl), (.int' rfl)⟩
                  · rintro m_ref14_Log_L2 s ⟨k1, t0, H, rfl⟩
                    obtain _ | m_ref14_Log_L2 := m_ref14_Log_L2
                    · cases (show (none : Option _) = some _ from H)
                    · rw [ref14_Log_L2] at H
                      refine a_seq ?_
                      refine a_seq ?_
                      obtain ⟨x1, zh1, H⟩ := bind_some H
                      have zg1 := idx_map zh1 Entry.c
                      obtain ⟨zh1a, zh1b, _⟩ := idx_some zh1
                      refine a_reg _ rfl (s := ?zs10) ?_ ?_
                      rotate_left
                      · simp (maxSteps := 2000000) only [EVT, stepR, evOp, St.ev, St.app, St.put, wrs, evIndexAddr, evFieldAddr, evLoad, cut, evBuiltin, evBin, binInt, TIS, CS, Nat.reduceAdd, Nat.reduceMul, Nat.reduceEqDiff, ↓reduceIte, reduceCtorEq, Nat.reduceLT, Nat.reduceLeDiff, Int.reduceToNat, Nat.reduceSub, Nat.reduceBEq, zg1]
                        (repeat' apply And.intro) <;> first | rfl | assumption | omega | (simp; done) | (simp; omega) | (simp_all; done)
                      refine sA_n ?_
                      refine a_condb ((decide (k1 < (x1.data.length : Int)))) (by rfl) (fun zc4 => ?_) (fun zc4 => ?_)
                      · have H := cond_t zc4 H
                        refine a_skip ?_
                        refine sA_n ?_
                        refine a_seq ?_
                        refine a_blk ?_
                        refine a_seq ?_
                        obtain ⟨x2, zh2, H⟩ := bind_some H
                        have zg2 := idx_map zh2 (ci .u8)
                        obtain ⟨zh2a, zh2b, _⟩ := idx_some zh2
                        obtain ⟨x3, zh3, H⟩ := bind_some H
                        have zg3 := idx_map zh3 Entry.c
                        obtain ⟨zh3a, zh3b, _⟩ := idx_some zh3
                        obtain ⟨x4, zh4, H⟩ := bind_some H
                        have zg4 := idx_map zh4 (ci .u8)
                        obtain ⟨zh4a, zh4b, _⟩ := idx_some zh4
                        refine a_drW (by kernel_rfl) _ rfl (s := ?zs11) (by kernel_rfl) (by kernel_rfl) ?zs11f ?_ ?_ ?_
                        rotate_left 2
                        · simp (maxSteps := 2000000) only [EVT, stepW, evOp, St.ev, St.app, St.put, wrs, evIndexAddr, evFieldAddr, evLoad, cut, evBin, binInt, TIS, CS, Nat.reduceAdd, Nat.reduceMul, Nat.reduceEqDiff, ↓reduceIte, reduceCtorEq, Nat.reduceLT, Nat.reduceLeDiff, Int.reduceToNat, Nat.reduceSub, Nat.reduceBEq, zg1, ↓zc4, zg2, zg3, zg4]
                          (repeat' apply And.intro) <;> first | rfl | assumption | omega | (simp; done) | (simp; omega) | (simp_all; done)
                        · kernel_rfl
                        refine sA_n ?_
                        refine a_condb ((x2 != x4)) (by rfl) (fun zc5 => ?_) (fun zc5 => ?_)
                        · have H := cond_t zc5 H
                          refine a_seq ?_
                          refine a_reg _ rfl (s := ?zs12) ?_ ?_
                          rotate_left
                          · simp (maxSteps := 2000000) only [EVT, stepR, evOp, St.ev, St.app, St.put, wrs, datOf, datOf1, TIS, CS, Nat.reduceAdd, Nat.reduceMul, Nat.reduceEqDiff, ↓reduceIte, reduceCtorEq, Nat.reduceLT, Nat.reduceLeDiff, zg1, ↓zc4, zg2, zg3, zg4, ↓zc5]
                            (repeat' apply And.intro) <;> first | rfl | assumption | omega | (simp; done) | (simp; omega) | (simp_all; done)
                          refine sA_n ?_
                          refine a_ret ?_
                          refine bA_r ?_
                          refine sA_r ?_
                          refine lA_r ?_
                          refine bA_r ?_
                          refine bA_r ?_
                          refine cA_r ?_
                          refine lA_r ?_
                          refine bA_r ?_
                          refine cA_r ?_
                          obtain rfl := Option.some.inj H
                          refine e_r2 (d := ?zd4) ?_ ?_
                          rotate_left
                          · simp only [EVT, resR, single, evLoad, cut, TIS, CS, Nat.reduceAdd, Nat.reduceEqDiff, ↓reduceIte, reduceCtorEq, Nat.reduceLT, Nat.reduceLeDiff, Nat.reduceSub, Nat.reduceBEq, zg1, zc4, zg2, zg3, zg4, zc5]
                            (repeat' apply And.intro) <;> first | rfl | assumption | omega | (simp; done)
                          exact (.bool' (by first | rfl | assumption | (simp_all; done)))
                        · have H := cond_f zc5 H
                          refine a_skip ?_
                          refine bA_n ?_
                          refine sA_n ?_
                          refine a_reg _ rfl (s := ?zs13) ?_ ?_
                          rotate_left
                          · simp (maxSteps := 2000000) only [EVT, stepR, evOp, St.ev, St.app, St.put, wrs, datOf, datOf1, evBin, binInt, TIS, CS, Nat.reduceAdd, Nat.reduceMul, Nat.reduceEqDiff, ↓reduceIte, reduceCtorEq, Nat.reduceLT, Nat.reduceLeDiff, zg1, ↓zc4, zg2, zg3, zg4, ↓zc5]
                            (repeat' apply And.intro) <;> first | rfl | assumption | omega | (simp; done) | (simp; omega) | (simp_all; done)
                          refine lA_n ?_
                          refine wk_l [] [] [(0, .list 2 (a1.map Entry.c)), (1, .list 2 (b1.map Entry.c)), (5, .int .i64 i1), (6, .int .i64 (IntKind.wrap .i64 (k1 + 1)))] (by show ([0, 1, 5, 6] : List Nat).Nodup; decide) (by show ([] : List Nat).Nodup; decide) ?_ ?_ (fun t0 => ⟨_, Nat.lt_succ_self _, (IntKind.wrap .i64 (k1 + 1)), t0, H, rfl⟩)
                          · exact trivial
                          · (simp only [AllT, tl_cons, tl_nil, upd_apply, List.getD_cons_zero, List.getD_cons_succ, Nat.reduceEqDiff, ↓reduceIte, and_true]); exact ⟨(.lst _ _ _ Entry.pu rfl), (.lst _ _ _ Entry.pu rfl), (.int' rfl), (.int' rfl)⟩
                      · have H := cond_f zc4 H
                        refine a_exit ?_
                        refine sA_e ?_
                        refine lA_e ?_
                        refine bA_hit ?_
                        refine bA_n ?_
                        refine cA_n ?_
                        refine wk_l [] [] [(0, .list 2 (a1.map Entry.c)), (1, .list 2 (b1.map Entry.c)), (5, .int .i64 i1)] (by show ([0, 1, 5] : List Nat).Nodup; decide) (by show ([] : List Nat).Nodup; decide) ?_ ?_ (fun t0 => ⟨t0, H, rfl⟩)
                        · exact trivial
                        · (simp only [AllT, tl_cons, tl_nil, upd_apply, List.getD_cons_zero, List.getD_cons_succ, Nat.reduceEqDiff, ↓reduceIte, and_true]); exact ⟨(.lst _ _ _ Entry.pu rfl), (.lst _ _ _ Entry.pu rfl), (.int' rfl)⟩
            · rintro s ⟨t0, H, rfl⟩
              unfold ref14_Log_J2 at H
              refine a_reg _ rfl (s := ?zs7) ?_ ?_
              rotate_left
              · simp (maxSteps := 2000000) only [EVT, stepR, evOp, St.ev, St.app, St.put, wrs, datOf, datOf1, evBin, binInt, TIS, CS, Nat.reduceAdd, Nat.reduceMul, Nat.reduceEqDiff, ↓reduceIte, reduceCtorEq, Nat.reduceLT, Nat.reduceLeDiff]
                (repeat' apply And.intro) <;> first | rfl | assumption | omega | (simp; done) | (simp; omega) | (simp_all; done)
              refine lA_n ?_
              refine wk_l [] [] [(0, .list 2 (a1.map Entry.c)), (1, .list 2 (b1.map Entry.c)), (5, .int .i64 (IntKind.wrap .i64 (i1 + 1)))] (by show ([0, 1, 5] : List Nat).Nodup; decide) (by show ([] : List Nat).Nodup; decide) ?_ ?_ (fun t0 => ⟨_, Nat.lt_succ_self _, (IntKind.wrap .i64 (i1 + 1)), t0, H, rfl⟩)
              · exact trivial
              · (simp only [AllT, tl_cons, tl_nil, upd_apply, List.getD_cons_zero, List.getD_cons_succ, Nat.reduceEqDiff, ↓reduceIte, and_true]); exact ⟨(.lst _ _ _ Entry.pu rfl), (.lst _ _ _ Entry.pu rfl), (.int' rfl)⟩
          · have H := cond_f zc2 H
            refine a_exit ?_
            refine sA_e ?_
            refine lA_e ?_
            refine bA_hit ?_
            refine cA_n ?_
            refine wk_l [] [] [] (by show ([] : List Nat).Nodup; decide) (by show ([] : List Nat).Nodup; decide) ?_ ?_ (fun t0 => ⟨t0, H, rfl⟩)
            · exact trivial
            · exact trivial
    · rintro s ⟨t0, H, rfl⟩
      unfold ref14_Log_J1 at H
      refine a_seq ?_
      refine a_reg _ rfl (s := ?zs4) ?_ ?_
      rotate_left
      · simp (maxSteps := 2000000) only [EVT, stepR, evOp, St.ev, St.app, St.put, wrs, datOf, datOf1, TIS, CS, Nat.reduceAdd, Nat.reduceMul, Nat.reduceEqDiff, ↓reduceIte, reduceCtorEq, Nat.reduceLT, Nat.reduceLeDiff]
        (repeat' apply And.intro) <;> first | rfl | assumption | omega | (simp; done) | (simp; omega) | (simp_all; done)
      refine sA_n ?_
      refine a_ret ?_
      obtain rfl := Option.some.inj H
      refine e_r2 (d := ?zd2) ?_ ?_
      rotate_left
      · simp only [EVT, resR, single, evLoad, cut, TIS, CS, Nat.reduceAdd, Nat.reduceEqDiff, ↓reduceIte, reduceCtorEq, Nat.reduceLT, Nat.reduceLeDiff, Nat.reduceSub, Nat.reduceBEq]
        (repeat' apply And.intro) <;> first | rfl | assumption | omega | (simp; done)
      exact (.bool' (by first | rfl | assumption | (simp_all; done)))
def ref13_Newer_f (l1 : List Entry) (term1 : Int) (many1 : Int) : Option Bool :=
  (ref13_Term_f l1 (l1.length : Int)).bind fun r1 => some ((decide (r1 < term1)) || ((term1 == r1) && (decide ((l1.length : Int) ≤ many1))))
set_option maxHeartbeats 4000000 in
set_option maxRecDepth 20000 in
theorem ref13_Newer_pc {l1 : List Entry} {term1 : Int} {many1 : Int} {r : Bool} (H : ref13_Newer_f l1 term1 many1 = some r) : PC Try.prog 23 [.list 2 (l1.map Entry.c), .int .i64 term1, .int .i64 many1] (.bool r) := by
  refine pcA_of Try.func23 (by rfl) (by decide) 26 (by rfl) [.tmp 6] (by rfl) ?_
  unfold ref13_Newer_f at H
  simp only [ent]
  refine a_seq ?_
  refine a_reg _ rfl (s := ?zs1) ?_ ?_
  rotate_left
  · simp (maxSteps := 2000000) only [EVT, stepR, evOp, St.ev, St.app, St.put, wrs, datOf, datOf1, TIS, CS, Nat.reduceAdd, Nat.reduceMul, Nat.reduceEqDiff, ↓reduceIte, reduceCtorEq, Nat.reduceLT, Nat.reduceLeDiff]
    (repeat' apply And.intro) <;> first | rfl | assumption | omega | (simp; done) | (simp; omega) | (simp_all; done)
  refine sA_n ?_
  refine a_seq ?_
  obtain ⟨r1, zh1, H⟩ := bind_some H
  have zk1 := ref13_Term_pc zh1
  refine a_reg _ rfl (s := ?zs2) ?_ ?_
  rotate_left
  · try simp (maxSteps := 2000000) only [EVT, stepR, evOp, St.ev, St.app, St.put, wrs, evBuiltin, frz, TIS, CS, Nat.reduceAdd, Nat.reduceMul, Nat.reduceEqDiff, ↓reduceIte, reduceCtorEq, Nat.reduceLT, Nat.reduceLeDiff, Nat.reduceSub, Nat.reduceBEq]
    repeat' with_reducible apply And.intro
    all_goals try ((with_reducible show CallR _ _ _ _ _ _ _); refine cR_s zk1 (.cons (.lst _ _ _ Entry.pu rfl) (.cons (.int' rfl) .nil)) (.int _ _) ?_; simp (maxSteps := 2000000) only [EVT, stepR, evOp, St.ev, St.app, St.put, wrs, evBuiltin, frz, TIS, CS, Nat.reduceAdd, Nat.reduceMul, Nat.reduceEqDiff, ↓reduceIte, reduceCtorEq, Nat.reduceLT, Nat.reduceLeDiff, Nat.reduceSub, Nat.reduceBEq])
    all_goals ((repeat' apply And.intro) <;> first | rfl | assumption | omega | (simp; done) | (simp; omega) | (simp_all; done))
  refine sA_n ?_
  refine a_seq ?_
  refine bool_split (b := (decide (r1 < term1))) (fun zc1 => ?_) (fun zc1 => ?_)
  · rw [zc1] at H
    refine a_reg _ rfl (s := ?zs3) ?_ ?_
    rotate_left
    · simp (maxSteps := 2000000) only [EVT, stepR, evOp, St.ev, St.app, St.put, wrs, evBin, binInt, evBuiltin, datOf, datOf1, TIS, CS, Nat.reduceAdd, Nat.reduceMul, Nat.reduceEqDiff, ↓reduceIte, reduceCtorEq, Nat.reduceLT, Nat.reduceLeDiff, Array.reduceGetElem?, Nat.reduceSub, Nat.reduceBEq, ↓zc1]
      try simp (maxSteps := 2000000) only [EVT, stepR, evOp, St.ev, St.app, St.put, wrs, evBin, binInt, evBuiltin, datOf, datOf1, TIS, CS, Nat.reduceAdd, Nat.reduceMul, Nat.reduceEqDiff, ↓reduceIte, reduceCtorEq, Nat.reduceLT, Nat.reduceLeDiff, Array.reduceGetElem?, Nat.reduceSub, Nat.reduceBEq, ↓zc1]
      (repeat' apply And.intro) <;> first | rfl | assumption | omega | (simp; done) | (simp; omega) | (simp_all; done)
    refine sA_n ?_
    refine a_ret ?_
    obtain rfl := Option.some.inj H
    refine e_r2 (d := ?zd1) ?_ ?_
    rotate_left
    · simp only [EVT, resR, single, evLoad, cut, TIS, CS, Nat.reduceAdd, Nat.reduceEqDiff, ↓reduceIte, reduceCtorEq, Nat.reduceLT, Nat.reduceLeDiff, Nat.reduceSub, Nat.reduceBEq, zc1]
      (repeat' apply And.intro) <;> first | rfl | assumption | omega | (simp; done)
    exact (.bool' (by first | rfl | assumption | (simp_all; done)))
  · rw [zc1] at H
    refine bool_split (b := (term1 == r1)) (fun zc2 => ?_) (fun zc2 => ?_)
    · rw [zc2] at H
      refine a_reg _ rfl (s := ?zs4) ?_ ?_
      rotate_left
      · simp (maxSteps := 2000000) only [EVT, stepR, evOp, St.ev, St.app, St.put, wrs, evBin, binInt, evBuiltin, datOf, datOf1, TIS, CS, Nat.reduceAdd, Nat.reduceMul, Nat.reduceEqDiff, ↓reduceIte, reduceCtorEq, Nat.reduceLT, Nat.reduceLeDiff, Array.reduceGetElem?, Nat.reduceSub, Nat.reduceBEq, ↓zc1, ↓zc2]
        try simp (maxSteps := 2000000) only [EVT, stepR, evOp, St.ev, St.app, St.put, wrs, evBin, binInt, evBuiltin, datOf, datOf1, TIS, CS, Nat.reduceAdd, Nat.reduceMul, Nat.reduceEqDiff, ↓reduceIte, reduceCtorEq, Nat.reduceLT, Nat.reduceLeDiff, Array.reduceGetElem?, Nat.reduceSub, Nat.reduceBEq, ↓zc1, ↓zc2]
        (repeat' apply And.intro) <;> first | rfl | assumption | omega | (simp; done) | (simp; omega) | (simp_all; done)
      refine sA_n ?_
      refine a_ret ?_
      obtain rfl := Option.some.inj H
      refine e_r2 (d := ?zd2) ?_ ?_
      rotate_left
      · simp only [EVT, resR, single, evLoad, cut, TIS, CS, Nat.reduceAdd, Nat.reduceEqDiff, ↓reduceIte, reduceCtorEq, Nat.reduceLT, Nat.reduceLeDiff, Nat.reduceSub, Nat.reduceBEq, zc1, zc2]
        (repeat' apply And.intro) <;> first | rfl | assumption | omega | (simp; done)
      exact (.bool' rfl)
    · rw [zc2] at H
      refine a_reg _ rfl (s := ?zs5) ?_ ?_
      rotate_left
      · simp (maxSteps := 2000000) only [EVT, stepR, evOp, St.ev, St.app, St.put, wrs, evBin, binInt, evBuiltin, datOf, datOf1, TIS, CS, Nat.reduceAdd, Nat.reduceMul, Nat.reduceEqDiff, ↓reduceIte, reduceCtorEq, Nat.reduceLT, Nat.reduceLeDiff, Array.reduceGetElem?, Nat.reduceSub, Nat.reduceBEq, ↓zc1, ↓zc2]
        try simp (maxSteps := 2000000) only [EVT, stepR, evOp, St.ev, St.app, St.put, wrs, evBin, binInt, evBuiltin, datOf, datOf1, TIS, CS, Nat.reduceAdd, Nat.reduceMul, Nat.reduceEqDiff, ↓reduceIte, reduceCtorEq, Nat.reduceLT, Nat.reduceLeDiff, Array.reduceGetElem?, Nat.reduceSub, Nat.reduceBEq, ↓zc1, ↓zc2]
        (repeat' apply And.intro) <;> first | rfl | assumption | omega | (simp; done) | (simp; omega) | (simp_all; done)
      refine sA_n ?_
      refine a_ret ?_
      obtain rfl := Option.some.inj H
      refine e_r2 (d := ?zd3) ?_ ?_
      rotate_left
      · simp only [EVT, resR, single, evLoad, cut, TIS, CS, Nat.reduceAdd, Nat.reduceEqDiff, ↓reduceIte, reduceCtorEq, Nat.reduceLT, Nat.reduceLeDiff, Nat.reduceSub, Nat.reduceBEq, zc1, zc2]
        (repeat' apply And.intro) <;> first | rfl | assumption | omega | (simp; done)
      exact (.bool' (by first | rfl | assumption | (simp_all; done)))
def log_Newer_J1 (term1 : Int) (l1 : List Entry) (many1 : Int) (last1 : Int) : Option Bool :=
  some ((decide (last1 < term1)) || ((term1 == last1) && (decide ((l1.length : Int) ≤ many1))))
def log_Newer_f (l1 : List Entry) (term1 : Int) (many1 : Int) : Option Bool :=
  cond (decide (0 < (l1.length : Int))) ((idx l1 (IntKind.wrap .i64 ((l1.length : Int) - 1))).bind fun x1 => log_Newer_J1 term1 l1 many1 x1.term) (log_Newer_J1 term1 l1 many1 0)
set_option maxHeartbeats 4000000 in
set_option maxRecDepth 20000 in
theorem log_Newer_pc {l1 : List Entry} {term1 : Int} {many1 : Int} {r : Bool} (H : log_Newer_f l1 term1 many1 = some r) : PC Try.prog 33 [.list 2 (l1.map Entry.c), .int .i64 term1, .int .i64 many1] (.bool r) := by
  refine pcA_of Try.func33 (by rfl) (by decide) 33 (by rfl) [.tmp 6] (by rfl) ?_
  unfold log_Newer_f at H
  simp only [ent]
  refine a_seq ?_
  refine a_reg _ rfl (s := ?zs1) ?_ ?_
  rotate_left
  · simp (maxSteps := 2000000) only [EVT, stepR, evOp, St.ev, St.app, St.put, wrs, datOf, datOf1, TIS, CS, Nat.reduceAdd, Nat.reduceMul, Nat.reduceEqDiff, ↓reduceIte, reduceCtorEq, Nat.reduceLT, Nat.reduceLeDiff]
    (repeat' apply And.intro) <;> first | rfl | assumption | omega | (simp; done) | (simp; omega) | (simp_all; done)
  refine sA_n ?_
  refine a_seq ?_
  refine a_reg _ rfl (s := ?zs2) ?_ ?_
  rotate_left
  · simp (maxSteps := 2000000) only [EVT, stepR, evOp, St.ev, St.app, St.put, wrs, datOf, datOf1, TIS, CS, Nat.reduceAdd, Nat.reduceMul, Nat.reduceEqDiff, ↓reduceIte, reduceCtorEq, Nat.reduceLT, Nat.reduceLeDiff]
    (repeat' apply And.intro) <;> first | rfl | assumption | omega | (simp; done) | (simp; omega) | (simp_all; done)
  refine sA_n ?_
  refine a_cut (fun s => ∃ (last1 : Int) (t0 : Nat → Dat), log_Newer_J1 term1 l1 many1 last1 = some r ∧ s = ⟨tl t0 [(0, .list 2 (l1.map Entry.c)), (1, .int .i64 term1), (2, .int .i64 many1), (7, .int .i64 last1)], hl [], 0, 33⟩) ?_ ?_
  · refine a_seq ?_
    refine a_reg _ rfl (s := ?zs6) ?_ ?_
    rotate_left
    · simp (maxSteps := 2000000) only [EVT, stepR, evOp, St.ev, St.app, St.put, wrs, evBuiltin, TIS, CS, Nat.reduceAdd, Nat.reduceMul, Nat.reduceEqDiff, ↓reduceIte, reduceCtorEq, Nat.reduceLT, Nat.reduceLeDiff, Nat.reduceSub, Nat.reduceBEq]
      (repeat' apply And.intro) <;> first | rfl | assumption | omega | (simp; done) | (simp; omega) | (simp_all; done)
    refine sA_n ?_
    refine a_seq ?_
    refine a_reg _ rfl (s := ?zs7) ?_ ?_
    rotate_left
    · simp (maxSteps := 2000000) only [EVT, stepR, evOp, St.ev, St.app, St.put, wrs, datOf, datOf1, evBin, binInt, TIS, CS, Nat.reduceAdd, Nat.reduceMul, Nat.reduceEqDiff, ↓reduceIte, reduceCtorEq, Nat.reduceLT, Nat.reduceLeDiff]
      (repeat' apply And.intro) <;> first | rfl | assumption | omega | (simp; done) | (simp; omega) | (simp_all; done)
    refine sA_n ?_
    refine a_condb ((decide (0 < (l1.length : Int)))) (by rfl) (fun zc3 => ?_) (fun zc3 => ?_)
    · have H := cond_t zc3 H
      obtain ⟨x1, zh1, H⟩ := bind_some H
      have zg1 := idx_map zh1 Entry.c
      obtain ⟨zh1a, zh1b, _⟩ := idx_some zh1
      refine a_reg _ rfl (s := ?zs8) ?_ ?_
      rotate_left
      · simp (maxSteps := 2000000) only [EVT, stepR, evOp, St.ev, St.app, St.put, wrs, datOf, datOf1, evBin, binInt, evIndexAddr, evFieldAddr, evLoad, cut, TIS, CS, Nat.reduceAdd, Nat.reduceMul, Nat.reduceEqDiff, ↓reduceIte, reduceCtorEq, Nat.reduceLT, Nat.reduceLeDiff, Int.reduceToNat, Nat.reduceSub, Nat.reduceBEq, ↓zc3, zg1]
        (repeat' apply And.intro) <;> first | rfl | assumption | omega | (simp; done) | (simp; omega) | (simp_all; done)
      refine cA_n ?_
      refine wk_l [] [] [(0, .list 2 (l1.map Entry.c)), (1, .int .i64 term1), (2, .int .i64 many1), (7, .int .i64 x1.term)] (by show ([0, 1, 2, 7] : List Nat).Nodup; decide) (by show ([] : List Nat).Nodup; decide) ?_ ?_ (fun t0 => ⟨x1.term, t0, H, rfl⟩)
      · exact trivial
      · (simp only [AllT, tl_cons, tl_nil, upd_apply, List.getD_cons_zero, List.getD_cons_succ, Nat.reduceEqDiff, ↓reduceIte, and_true]); exact ⟨(.lst _ _ _ Entry.pu rfl), (.int' rfl), (.int' rfl), (.int' rfl)⟩
    · have H := cond_f zc3 H
      refine a_skip ?_
      refine cA_n ?_
      refine wk_l [] [] [(0, .list 2 (l1.map Entry.c)), (1, .int .i64 term1), (2, .int .i64 many1), (7, .int .i64 0)] (by show ([0, 1, 2, 7] : List Nat).Nodup; decide) (by show ([] : List Nat).Nodup; decide) ?_ ?_ (fun t0 => ⟨0, t0, H, rfl⟩)
      · exact trivial
      · (simp only [AllT, tl_cons, tl_nil, upd_apply, List.getD_cons_zero, List.getD_cons_succ, Nat.reduceEqDiff, ↓reduceIte, and_true]); exact ⟨(.lst _ _ _ Entry.pu rfl), (.int' rfl), (.int' rfl), (.int' rfl)⟩
  · rintro s ⟨last1, t0, H, rfl⟩
    unfold log_Newer_J1 at H
    refine a_seq ?_
    refine bool_split (b := (decide (last1 < term1))) (fun zc1 => ?_) (fun zc1 => ?_)
    · rw [zc1] at H
      refine a_reg _ rfl (s := ?zs3) ?_ ?_
      rotate_left
      · simp (maxSteps := 2000000) only [EVT, stepR, evOp, St.ev, St.app, St.put, wrs, evBin, binInt, evBuiltin, datOf, datOf1, TIS, CS, Nat.reduceAdd, Nat.reduceMul, Nat.reduceEqDiff, ↓reduceIte, reduceCtorEq, Nat.reduceLT, Nat.reduceLeDiff, Array.reduceGetElem?, Nat.reduceSub, Nat.reduceBEq, ↓zc1]
        try simp (maxSteps := 2000000) only [EVT, stepR, evOp, St.ev, St.app, St.put, wrs, evBin, binInt, evBuiltin, datOf, datOf1, TIS, CS, Nat.reduceAdd, Nat.reduceMul, Nat.reduceEqDiff, ↓reduceIte, reduceCtorEq, Nat.reduceLT, Nat.reduceLeDiff, Array.reduceGetElem?, Nat.reduceSub, Nat.reduceBEq, ↓zc1]
        (repeat' apply And.intro) <;> first | rfl | assumption | omega | (simp; done) | (simp; omega) | (simp_all; done)
      refine sA_n ?_
      refine a_ret ?_
      obtain rfl := Option.some.inj H
      refine e_r2 (d := ?zd1) ?_ ?_
      rotate_left
      · simp only [EVT, resR, single, evLoad, cut, TIS, CS, Nat.reduceAdd, Nat.reduceEqDiff, ↓reduceIte, reduceCtorEq, Nat.reduceLT, Nat.reduceLeDiff, Nat.reduceSub, Nat.reduceBEq, zc1]
        (repeat' apply And.intro) <;> first | rfl | assumption | omega | (simp; done)
      exact (.bool' (by first | rfl | assumption | (simp_all; done)))
    · rw [zc1] at H
      refine bool_split (b := (term1 == last1)) (fun zc2 => ?_) (fun zc2 => ?_)
      · rw [zc2] at H
        refine a_reg _ rfl (s := ?zs4) ?_ ?_
        rotate_left
        · simp (maxSteps := 2000000) only [EVT, stepR, evOp, St.ev, St.app, St.put, wrs, evBin, binInt, evBuiltin, datOf, datOf1, TIS, CS, Nat.reduceAdd, Nat.reduceMul, Nat.reduceEqDiff, ↓reduceIte, reduceCtorEq, Nat.reduceLT, Nat.reduceLeDiff, Array.reduceGetElem?, Nat.reduceSub, Nat.reduceBEq, ↓zc1, ↓zc2]
          try simp (maxSteps := 2000000) only [EVT, stepR, evOp, St.ev, St.app, St.put, wrs, evBin, binInt, evBuiltin, datOf, datOf1, TIS, CS, Nat.reduceAdd, Nat.reduceMul, Nat.reduceEqDiff, ↓reduceIte, reduceCtorEq, Nat.reduceLT, Nat.reduceLeDiff, Array.reduceGetElem?, Nat.reduceSub, Nat.reduceBEq, ↓zc1, ↓zc2]
          (repeat' apply And.intro) <;> first | rfl | assumption | omega | (simp; done) | (simp; omega) | (simp_all; done)
        refine sA_n ?_
        refine a_ret ?_
        obtain rfl := Option.some.inj H
        refine e_r2 (d := ?zd2) ?_ ?_
        rotate_left
        · simp only [EVT, resR, single, evLoad, cut, TIS, CS, Nat.reduceAdd, Nat.reduceEqDiff, ↓reduceIte, reduceCtorEq, Nat.reduceLT, Nat.reduceLeDiff, Nat.reduceSub, Nat.reduceBEq, zc1, zc2]
          (repeat' apply And.intro) <;> first | rfl | assumption | omega | (simp; done)
        exact (.bool' rfl)
      · rw [zc2] at H
        refine a_reg _ rfl (s := ?zs5) ?_ ?_
        rotate_left
        · simp (maxSteps := 2000000) only [EVT, stepR, evOp, St.ev, St.app, St.put, wrs, evBin, binInt, evBuiltin, datOf, datOf1, TIS, CS, Nat.reduceAdd, Nat.reduceMul, Nat.reduceEqDiff, ↓reduceIte, reduceCtorEq, Nat.reduceLT, Nat.reduceLeDiff, Array.reduceGetElem?, Nat.reduceSub, Nat.reduceBEq, ↓zc1, ↓zc2]
          try simp (maxSteps := 2000000) only [EVT, stepR, evOp, St.ev, St.app, St.put, wrs, evBin, binInt, evBuiltin, datOf, datOf1, TIS, CS, Nat.reduceAdd, Nat.reduceMul, Nat.reduceEqDiff, ↓reduceIte, reduceCtorEq, Nat.reduceLT, Nat.reduceLeDiff, Array.reduceGetElem?, Nat.reduceSub, Nat.reduceBEq, ↓zc1, ↓zc2]
          (repeat' apply And.intro) <;> first | rfl | assumption | omega | (simp; done) | (simp; omega) | (simp_all; done)
        refine sA_n ?_
        refine a_ret ?_
        obtain rfl := Option.some.inj H
        refine e_r2 (d := ?zd3) ?_ ?_
        rotate_left
        · simp only [EVT, resR, single, evLoad, cut, TIS, CS, Nat.reduceAdd, Nat.reduceEqDiff, ↓reduceIte, reduceCtorEq, Nat.reduceLT, Nat.reduceLeDiff, Nat.reduceSub, Nat.reduceBEq, zc1, zc2]
          (repeat' apply And.intro) <;> first | rfl | assumption | omega | (simp; done)
        exact (.bool' (by first | rfl | assumption | (simp_all; done)))
def ref14_Begin_f (s1 : Seat) : Option Seat :=
  some ((⟨s1.id, s1.peers, (IntKind.wrap .i64 (s1.term + 1)), s1.id, 2, s1.log, s1.commit, [s1.id], [], []⟩ : Seat))
set_option maxHeartbeats 4000000 in
set_option maxRecDepth 20000 in
theorem ref14_Begin_pc {s1 : Seat} {r : Seat} (H : ref14_Begin_f s1 = some r) : PC Try.prog 12 [.agg (Seat.c s1)] (.agg (Seat.c r)) := by
  refine pcA_of Try.func12 (by rfl) (by decide) 20 (by rfl) [.cell 2 25] (by rfl) ?_
  unfold ref14_Begin_f at H
  simp only [ent]
  refine a_seq ?_
  refine a_reg _ rfl (s := ?zs1) ?_ ?_
  rotate_left
  · simp (maxSteps := 2000000) only [EVT, stepR, evOp, St.ev, St.app, St.put, wrs, allOne, TIS, CS, Nat.reduceAdd, Nat.reduceMul, Nat.reduceEqDiff, ↓reduceIte, reduceCtorEq, Nat.reduceLT, Nat.reduceLeDiff]
    (repeat' apply And.intro) <;> first | rfl | assumption | omega | (simp; done) | (simp; omega) | (simp_all; done)
  refine sA_n ?_
  refine a_seq ?_
  refine a_reg _ rfl (s := ?zs2) ?_ ?_
  rotate_left
  · simp (maxSteps := 2000000) only [EVT, stepR, evOp, St.ev, St.app, St.put, wrs, evFieldAddr, evLoad, cut, datOf, datOf1, evBin, binInt, allOne, fillD, setR, evStore, TIS, CS, Nat.reduceAdd, Nat.reduceMul, Nat.reduceEqDiff, ↓reduceIte, reduceCtorEq, Nat.reduceLT, Nat.reduceLeDiff, Nat.reduceSub, Nat.reduceBEq]
    (repeat' apply And.intro) <;> first | rfl | assumption | omega | (simp; done) | (simp; omega) | (simp_all; done)
  refine sA_n ?_
  refine a_ret ?_
  obtain rfl := Option.some.inj H
  refine e_r2 (d := ?zd1) ?_ ?_
  rotate_left
  · simp only [EVT, resR, single, evLoad, cut, TIS, CS, Nat.reduceAdd, Nat.reduceEqDiff, ↓reduceIte, reduceCtorEq, Nat.reduceLT, Nat.reduceLeDiff, Nat.reduceSub, Nat.reduceBEq]
    (repeat' apply And.intro) <;> first | rfl | assumption | omega | (simp; done)
  exact (.agg' (.cons (.int' rfl) (.cons (.lst _ _ _ (ci_pu .i64) rfl) (.cons (.int' rfl) (.cons (.int' rfl) (.cons (.int' rfl) (.cons (.lst _ _ _ Entry.pu rfl) (.cons (.int' rfl) (.cons (.ownL (by rfl) (fun e => by cases e) rfl (by first | rfl | omega | (simp; done) | (simp_all; done)) (.same _ _ (ci_pu .i64) (by first | rfl | (simp only [List.map_append, List.map_cons, List.map_nil, List.map_set, List.map_take, List.map_drop, List.map_replicate, List.append_assoc, List.nil_append, List.append_nil, ci_eq, cb_eq, cs_eq, cl_eq, CS,  List.nil_append]; done) | (simp [CS,  ci_eq, cb_eq, cs_eq, cl_eq]; done)))) (.cons (.nil _) (.cons (.nil _) .nil)))))))))))
def ref14_Same_f (a1 : Seat) (b1 : Seat) : Option Bool :=
  (ref14_Ints_f a1.peers b1.peers).bind fun r1 => (ref14_Log_f a1.log b1.log).bind fun r2 => (ref14_Ints_f a1.votes b1.votes).bind fun r3 => (ref14_Ints_f a1.next b1.next).bind fun r4 => (ref14_Ints_f a1.match_ b1.match_).bind fun r5 => some (r1 && (r2 && (r3 && (r4 && (r5 && ((a1.id == b1.id) && ((a1.term == b1.term) && ((a1.voted == b1.voted) && ((a1.role == b1.role) && (a1.commit == b1.commit))))))))))
set_option maxHeartbeats 4000000 in
set_option maxRecDepth 20000 in
theorem ref14_Same_pc {a1 : Seat} {b1 : Seat} {r : Bool} (H : ref14_Same_f a1 b1 = some r) : PC Try.prog 15 [.agg (Seat.c a1), .agg (Seat.c b1)] (.bool r) := by
  refine pcA_of Try.func15 (by rfl) (by decide) 83 (by rfl) [.tmp 4] (by rfl) ?_
  unfold ref14_Same_f at H
  simp only [ent]
  refine a_seq ?_
  refine a_reg _ rfl (s := ?zs1) ?_ ?_
  rotate_left
  · simp (maxSteps := 2000000) only [EVT, stepR, evOp, St.ev, St.app, St.put, wrs, allOne, datOf, datOf1, TIS, CS, Nat.reduceAdd, Nat.reduceMul, Nat.reduceEqDiff, ↓reduceIte, reduceCtorEq, Nat.reduceLT, Nat.reduceLeDiff]
    (repeat' apply And.intro) <;> first | rfl | assumption | omega | (simp; done) | (simp; omega) | (simp_all; done)
  refine sA_n ?_
  refine a_seq ?_
  obtain ⟨r1, zh1, H⟩ := bind_some H
  have zk1 := ref14_Ints_pc zh1
  refine a_reg _ rfl (s := ?zs2) ?_ ?_
  rotate_left
  · try simp (maxSteps := 2000000) only [EVT, stepR, evOp, St.ev, St.app, St.put, wrs, evFieldAddr, evLoad, cut, frz, TIS, CS, Nat.reduceAdd, Nat.reduceMul, Nat.reduceEqDiff, ↓reduceIte, reduceCtorEq, Nat.reduceLT, Nat.reduceLeDiff, Nat.reduceSub, Nat.reduceBEq]
    repeat' with_reducible apply And.intro
    all_goals try ((with_reducible show CallR _ _ _ _ _ _ _); refine cR_s zk1 (.cons (.lst _ _ _ (ci_pu .i64) rfl) (.cons (.lst _ _ _ (ci_pu .i64) rfl) .nil)) (.bool _) ?_; simp (maxSteps := 2000000) only [EVT, stepR, evOp, St.ev, St.app, St.put, wrs, evFieldAddr, evLoad, cut, frz, TIS, CS, Nat.reduceAdd, Nat.reduceMul, Nat.reduceEqDiff, ↓reduceIte, reduceCtorEq, Nat.reduceLT, Nat.reduceLeDiff, Nat.reduceSub, Nat.reduceBEq])
    all_goals ((repeat' apply And.intro) <;> first | rfl | assumption | omega | (simp; done) | (simp; omega) | (simp_all; done))
  refine sA_n ?_
  refine a_seq ?_
  obtain ⟨r2, zh2, H⟩ := bind_some H
  have zk2 := ref14_Log_pc zh2
  refine a_reg _ rfl (s := ?zs3) ?_ ?_
  rotate_left
  · try simp (maxSteps := 2000000) only [EVT, stepR, evOp, St.ev, St.app, St.put, wrs, evFieldAddr, evLoad, cut, frz, TIS, CS, Nat.reduceAdd, Nat.reduceMul, Nat.reduceEqDiff, ↓reduceIte, reduceCtorEq, Nat.reduceLT, Nat.reduceLeDiff, Nat.reduceSub, Nat.reduceBEq]
    repeat' with_reducible apply And.intro
    all_goals try ((with_reducible show CallR _ _ _ _ _ _ _); refine cR_s zk2 (.cons (.lst _ _ _ Entry.pu rfl) (.cons (.lst _ _ _ Entry.pu rfl) .nil)) (.bool _) ?_; simp (maxSteps := 2000000) only [EVT, stepR, evOp, St.ev, St.app, St.put, wrs, evFieldAddr, evLoad, cut, frz, TIS, CS, Nat.reduceAdd, Nat.reduceMul, Nat.reduceEqDiff, ↓reduceIte, reduceCtorEq, Nat.reduceLT, Nat.reduceLeDiff, Nat.reduceSub, Nat.reduceBEq])
    all_goals ((repeat' apply And.intro) <;> first | rfl | assumption | omega | (simp; done) | (simp; omega) | (simp_all; done))
  refine sA_n ?_
  refine a_seq ?_
  obtain ⟨r3, zh3, H⟩ := bind_some H
  have zk3 := ref14_Ints_pc zh3
  refine a_reg _ rfl (s := ?zs4) ?_ ?_
  rotate_left
  · try simp (maxSteps := 2000000) only [EVT, stepR, evOp, St.ev, St.app, St.put, wrs, evFieldAddr, evLoad, cut, frz, TIS, CS, Nat.reduceAdd, Nat.reduceMul, Nat.reduceEqDiff, ↓reduceIte, reduceCtorEq, Nat.reduceLT, Nat.reduceLeDiff, Nat.reduceSub, Nat.reduceBEq]
    repeat' with_reducible apply And.intro
    all_goals try ((with_reducible show CallR _ _ _ _ _ _ _); refine cR_s zk3 (.cons (.lst _ _ _ (ci_pu .i64) rfl) (.cons (.lst _ _ _ (ci_pu .i64) rfl) .nil)) (.bool _) ?_; simp (maxSteps := 2000000) only [EVT, stepR, evOp, St.ev, St.app, St.put, wrs, evFieldAddr, evLoad, cut, frz, TIS, CS, Nat.reduceAdd, Nat.reduceMul, Nat.reduceEqDiff, ↓reduceIte, reduceCtorEq, Nat.reduceLT, Nat.reduceLeDiff, Nat.reduceSub, Nat.reduceBEq])
    all_goals ((repeat' apply And.intro) <;> first | rfl | assumption | omega | (simp; done) | (simp; omega) | (simp_all; done))
  refine sA_n ?_
  refine a_seq ?_
  obtain ⟨r4, zh4, H⟩ := bind_some H
  have zk4 := ref14_Ints_pc zh4
  refine a_reg _ rfl (s := ?zs5) ?_ ?_
  rotate_left
  · try simp (maxSteps := 2000000) only [EVT, stepR, evOp, St.ev, St.app, St.put, wrs, evFieldAddr, evLoad, cut, frz, TIS, CS, Nat.reduceAdd, Nat.reduceMul, Nat.reduceEqDiff, ↓reduceIte, reduceCtorEq, Nat.reduceLT, Nat.reduceLeDiff, Nat.reduceSub, Nat.reduceBEq]
    repeat' with_reducible apply And.intro
    all_goals try ((with_reducible show CallR _ _ _ _ _ _ _); refine cR_s zk4 (.cons (.lst _ _ _ (ci_pu .i64) rfl) (.cons (.lst _ _ _ (ci_pu .i64) rfl) .nil)) (.bool _) ?_; simp (maxSteps := 2000000) only [EVT, stepR, evOp, St.ev, St.app, St.put, wrs, evFieldAddr, evLoad, cut, frz, TIS, CS, Nat.reduceAdd, Nat.reduceMul, Nat.reduceEqDiff, ↓reduceIte, reduceCtorEq, Nat.reduceLT, Nat.reduceLeDiff, Nat.reduceSub, Nat.reduceBEq])
    all_goals ((repeat' apply And.intro) <;> first | rfl | assumption | omega | (simp; done) | (simp; omega) | (simp_all; done))
  refine sA_n ?_
  refine a_seq ?_
  obtain ⟨r5, zh5, H⟩ := bind_some H
  have zk5 := ref14_Ints_pc zh5
  refine a_reg _ rfl (s := ?zs6) ?_ ?_
  rotate_left
  · try simp (maxSteps := 2000000) only [EVT, stepR, evOp, St.ev, St.app, St.put, wrs, evFieldAddr, evLoad, cut, frz, TIS, CS, Nat.reduceAdd, Nat.reduceMul, Nat.reduceEqDiff, ↓reduceIte, reduceCtorEq, Nat.reduceLT, Nat.reduceLeDiff, Nat.reduceSub, Nat.reduceBEq]
    repeat' with_reducible apply And.intro
    all_goals try ((with_reducible show CallR _ _ _ _ _ _ _); refine cR_s zk5 (.cons (.lst _ _ _ (ci_pu .i64) rfl) (.cons (.lst _ _ _ (ci_pu .i64) rfl) .nil)) (.bool _) ?_; simp (maxSteps := 2000000) only [EVT, stepR, evOp, St.ev, St.app, St.put, wrs, evFieldAddr, evLoad, cut, frz, TIS, CS, Nat.reduceAdd, Nat.reduceMul, Nat.reduceEqDiff, ↓reduceIte, reduceCtorEq, Nat.reduceLT, Nat.reduceLeDiff, Nat.reduceSub, Nat.reduceBEq])
    all_goals ((repeat' apply And.intro) <;> first | rfl | assumption | omega | (simp; done) | (simp; omega) | (simp_all; done))
  refine sA_n ?_
  refine a_seq ?_
  refine bool_split (b := r1) (fun zc1 => ?_) (fun zc1 => ?_)
  · rw [zc1] at H
    refine bool_split (b := r2) (fun zc2 => ?_) (fun zc2 => ?_)
    · rw [zc2] at H
      refine bool_split (b := r3) (fun zc3 => ?_) (fun zc3 => ?_)
      · rw [zc3] at H
        refine bool_split (b := r4) (fun zc4 => ?_) (fun zc4 => ?_)
        · rw [zc4] at H
          refine bool_split (b := r5) (fun zc5 => ?_) (fun zc5 => ?_)
          · rw [zc5] at H
            refine bool_split (b := (a1.id == b1.id)) (fun zc6 => ?_) (fun zc6 => ?_)
            · rw [zc6] at H
              refine bool_split (b := (a1.term == b1.term)) (fun zc7 => ?_) (fun zc7 => ?_)
              · rw [zc7] at H
                refine bool_split (b := (a1.voted == b1.voted)) (fun zc8 => ?_) (fun zc8 => ?_)
                · rw [zc8] at H
                  refine bool_split (b := (a1.role == b1.role)) (fun zc9 => ?_) (fun zc9 => ?_)
                  · rw [zc9] at H
                    refine a_reg _ rfl (s := ?zs7) ?_ ?_
                    rotate_left
                    · simp (maxSteps := 2000000) only [EVT, stepR, evOp, St.ev, St.app, St.put, wrs, datOf, datOf1, evFieldAddr, evLoad, cut, evBin, binInt, TIS, CS, Nat.reduceAdd, Nat.reduceMul, Nat.reduceEqDiff, ↓reduceIte, reduceCtorEq, Nat.reduceLT, Nat.reduceLeDiff, Array.reduceGetElem?, Nat.reduceSub, Nat.reduceBEq, ↓zc1, ↓zc2, ↓zc3, ↓zc4, ↓zc5, ↓zc6, ↓zc7, ↓zc8, ↓zc9]
                      try simp (maxSteps := 2000000) only [EVT, stepR, evOp, St.ev, St.app, St.put, wrs, datOf, datOf1, evFieldAddr, evLoad, cut, evBin, binInt, TIS, CS, Nat.reduceAdd, Nat.reduceMul, Nat.reduceEqDiff, ↓reduceIte, reduceCtorEq, Nat.reduceLT, Nat.reduceLeDiff, Array.reduceGetElem?, Nat.reduceSub, Nat.reduceBEq, ↓zc1, ↓zc2, ↓zc3, ↓zc4, ↓zc5, ↓zc6, ↓zc7, ↓zc8, ↓zc9]
                      (repeat' apply And.intro) <;> first | rfl | assumption | omega | (simp; done) | (simp; omega) | (simp_all; done)
                    refine sA_n ?_
                    refine a_ret ?_
                    obtain rfl := Option.some.inj H
                    refine e_r2 (d := ?zd1) ?_ ?_
                    rotate_left
                    · simp only [EVT, resR, single, evLoad, cut, TIS, CS, Nat.reduceAdd, Nat.reduceEqDiff, ↓reduceIte, reduceCtorEq, Nat.reduceLT, Nat.reduceLeDiff, Nat.reduceSub, Nat.reduceBEq, zc1, zc2, zc3, zc4, zc5, zc6, zc7, zc8, zc9]
                      (repeat' apply And.intro) <;> first | rfl | assumption | omega | (simp; done)
                    exact (.bool' rfl)
                  · rw [zc9] at H
                    refine a_reg _ rfl (s := ?zs8) ?_ ?_
                    rotate_left
                    · simp (maxSteps := 2000000) only [EVT, stepR, evOp, St.ev, St.app, St.put, wrs, datOf, datOf1, evFieldAddr, evLoad, cut, evBin, binInt, TIS, CS, Nat.reduceAdd, Nat.reduceMul, Nat.reduceEqDiff, ↓reduceIte, reduceCtorEq, Nat.reduceLT, Nat.reduceLeDiff, Array.reduceGetElem?, Nat.reduceSub, Nat.reduceBEq, ↓zc1, ↓zc2, ↓zc3, ↓zc4, ↓zc5, ↓zc6, ↓zc7, ↓zc8, ↓zc9]
                      try simp (maxSteps := 2000000) only [EVT, stepR, evOp, St.ev, St.app, St.put, wrs, datOf, datOf1, evFieldAddr, evLoad, cut, evBin, binInt, TIS, CS, Nat.reduceAdd, Nat.reduceMul, Nat.reduceEqDiff, ↓reduceIte, reduceCtorEq, Nat.reduceLT, Nat.reduceLeDiff, Array.reduceGetElem?, Nat.reduceSub, Nat.reduceBEq, ↓zc1, ↓zc2, ↓zc3, ↓zc4, ↓zc5, ↓zc6, ↓zc7, ↓zc8, ↓zc9]
                      (repeat' apply And.intro) <;> first | rfl | assumption | omega | (simp; done) | (simp; omega) | (simp_all; done)
                    refine sA_n ?_
                    refine a_ret ?_
                    obtain rfl := Option.some.inj H
                    refine e_r2 (d := ?zd2) ?_ ?_
                    rotate_left
                    · simp only [EVT, resR, single, evLoad, cut, TIS, CS, Nat.reduceAdd, Nat.reduceEqDiff, ↓reduceIte, reduceCtorEq, Nat.reduceLT, Nat.reduceLeDiff, Nat.reduceSub, Nat.reduceBEq, zc1, zc2, zc3, zc4, zc5, zc6, zc7, zc8, zc9]
                      (repeat' apply And.intro) <;> first | rfl | assumption | omega | (simp; done)
                    exact (.bool' (by first | rfl | assumption | (simp_all; done)))
                · rw [zc8] at H
                  refine a_reg _ rfl (s := ?zs9) ?_ ?_
                  rotate_left
                  · simp (maxSteps := 2000000) only [EVT, stepR, evOp, St.ev, St.app, St.put, wrs, datOf, datOf1, evFieldAddr, evLoad, cut, evBin, binInt, TIS, CS, Nat.reduceAdd, Nat.reduceMul, Nat.reduceEqDiff, ↓reduceIte, reduceCtorEq, Nat.reduceLT, Nat.reduceLeDiff, Array.reduceGetElem?, Nat.reduceSub, Nat.reduceBEq, ↓zc1, ↓zc2, ↓zc3, ↓zc4, ↓zc5, ↓zc6, ↓zc7, ↓zc8]
                    try simp (maxSteps := 2000000) only [EVT, stepR, evOp, St.ev, St.app, St.put, wrs, datOf, datOf1, evFieldAddr, evLoad, cut, evBin, binInt, TIS, CS, Nat.reduceAdd, Nat.reduceMul, Nat.reduceEqDiff, ↓reduceIte, reduceCtorEq, Nat.reduceLT, Nat.reduceLeDiff, Array.reduceGetElem?, Nat.reduceSub, Nat.reduceBEq, ↓zc1, ↓zc2, ↓zc3, ↓zc4, ↓zc5, ↓zc6, ↓zc7, ↓zc8]
                    (repeat' apply And.intro) <;> first | rfl | assumption | omega | (simp; done) | (simp; omega) | (simp_all; done)
                  refine sA_n ?_
                  refine a_ret ?_
                  obtain rfl := Option.some.inj H
                  refine e_r2 (d := ?zd3) ?_ ?_
                  rotate_left
                  · simp only [EVT, resR, single, evLoad, cut, TIS, CS, Nat.reduceAdd, Nat.reduceEqDiff, ↓reduceIte, reduceCtorEq, Nat.reduceLT, Nat.reduceLeDiff, Nat.reduceSub, Nat.reduceBEq, zc1, zc2, zc3, zc4, zc5, zc6, zc7, zc8]
                    (repeat' apply And.intro) <;> first | rfl | assumption | omega | (simp; done)
                  exact (.bool' (by first | rfl | assumption | (simp_all; done)))
              · rw [zc7] at H
                refine a_reg _ rfl (s := ?zs10) ?_ ?_
                rotate_left
                · simp (maxSteps := 2000000) only [EVT, stepR, evOp, St.ev, St.app, St.put, wrs, datOf, datOf1, evFieldAddr, evLoad, cut, evBin, binInt, TIS, CS, Nat.reduceAdd, Nat.reduceMul, Nat.reduceEqDiff, ↓reduceIte, reduceCtorEq, Nat.reduceLT, Nat.reduceLeDiff, Array.reduceGetElem?, Nat.reduceSub, Nat.reduceBEq, ↓zc1, ↓zc2, ↓zc3, ↓zc4, ↓zc5, ↓zc6, ↓zc7]
                  try simp (maxSteps := 2000000) only [EVT, stepR, evOp, St.ev, St.app, St.put, wrs, datOf, datOf1, evFieldAddr, evLoad, cut, evBin, binInt, TIS, CS, Nat.reduceAdd, Nat.reduceMul, Nat.reduceEqDiff, ↓reduceIte, reduceCtorEq, Nat.reduceLT, Nat.reduceLeDiff, Array.reduceGetElem?, Nat.reduceSub, Nat.reduceBEq, ↓zc1, ↓zc2, ↓zc3, ↓zc4, ↓zc5, ↓zc6, ↓zc7]
                  (repeat' apply And.intro) <;> first | rfl | assumption | omega | (simp; done) | (simp; omega) | (simp_all; done)
                refine sA_n ?_
                refine a_ret ?_
                obtain rfl := Option.some.inj H
                refine e_r2 (d := ?zd4) ?_ ?_
                rotate_left
                · simp only [EVT, resR, single, evLoad, cut, TIS, CS, Nat.reduceAdd, Nat.reduceEqDiff, ↓reduceIte, reduceCtorEq, Nat.reduceLT, Nat.reduceLeDiff, Nat.reduceSub, Nat.reduceBEq, zc1, zc2, zc3, zc4, zc5, zc6, zc7]
                  (repeat' apply And.intro) <;> first | rfl | assumption | omega | (simp; done)
                exact (.bool' (by first | rfl | assumption | (simp_all; done)))
            · rw [zc6] at H
              refine a_reg _ rfl (s := ?zs11) ?_ ?_
              rotate_left
              · simp (maxSteps := 2000000) only [EVT, stepR, evOp, St.ev, St.app, St.put, wrs, datOf, datOf1, evFieldAddr, evLoad, cut, evBin, binInt, TIS, CS, Nat.reduceAdd, Nat.reduceMul, Nat.reduceEqDiff, ↓reduceIte, reduceCtorEq, Nat.reduceLT, Nat.reduceLeDiff, Array.reduceGetElem?, Nat.reduceSub, Nat.reduceBEq, ↓zc1, ↓zc2, ↓zc3, ↓zc4, ↓zc5, ↓zc6]
                try simp (maxSteps := 2000000) only [EVT, stepR, evOp, St.ev, St.app, St.put, wrs, datOf, datOf1, evFieldAddr, evLoad, cut, evBin, binInt, TIS, CS, Nat.reduceAdd, Nat.reduceMul, Nat.reduceEqDiff, ↓reduceIte, reduceCtorEq, Nat.reduceLT, Nat.reduceLeDiff, Array.reduceGetElem?, Nat.reduceSub, Nat.reduceBEq, ↓zc1, ↓zc2, ↓zc3, ↓zc4, ↓zc5, ↓zc6]
                (repeat' apply And.intro) <;> first | rfl | assumption | omega | (simp; done) | (simp; omega) | (simp_all; done)
              refine sA_n ?_
              refine a_ret ?_
              obtain rfl := Option.some.inj H
              refine e_r2 (d := ?zd5) ?_ ?_
              rotate_left
              · simp only [EVT, resR, single, evLoad, cut, TIS, CS, Nat.reduceAdd, Nat.reduceEqDiff, ↓reduceIte, reduceCtorEq, Nat.reduceLT, Nat.reduceLeDiff, Nat.reduceSub, Nat.reduceBEq, zc1, zc2, zc3, zc4, zc5, zc6]
                (repeat' apply And.intro) <;> first | rfl | assumption | omega | (simp; done)
              exact (.bool' (by first | rfl | assumption | (simp_all; done)))
          · rw [zc5] at H
            refine a_reg _ rfl (s := ?zs12) ?_ ?_
            rotate_left
            · simp (maxSteps := 2000000) only [EVT, stepR, evOp, St.ev, St.app, St.put, wrs, datOf, datOf1, evFieldAddr, evLoad, cut, evBin, binInt, TIS, CS, Nat.reduceAdd, Nat.reduceMul, Nat.reduceEqDiff, ↓reduceIte, reduceCtorEq, Nat.reduceLT, Nat.reduceLeDiff, Array.reduceGetElem?, Nat.reduceSub, Nat.reduceBEq, ↓zc1, ↓zc2, ↓zc3, ↓zc4, ↓zc5]
              try simp (maxSteps := 2000000) only [EVT, stepR, evOp, St.ev, St.app, St.put, wrs, datOf, datOf1, evFieldAddr, evLoad, cut, evBin, binInt, TIS, CS, Nat.reduceAdd, Nat.reduceMul, Nat.reduceEqDiff, ↓reduceIte, reduceCtorEq, Nat.reduceLT, Nat.reduceLeDiff, Array.reduceGetElem?, Nat.reduceSub, Nat.reduceBEq, ↓zc1, ↓zc2, ↓zc3, ↓zc4, ↓zc5]
              (repeat' apply And.intro) <;> first | rfl | assumption | omega | (simp; done) | (simp; omega) | (simp_all; done)
            refine sA_n ?_
            refine a_ret ?_
            obtain rfl := Option.some.inj H
            refine e_r2 (d := ?zd6) ?_ ?_
            rotate_left
            · simp only [EVT, resR, single, evLoad, cut, TIS, CS, Nat.reduceAdd, Nat.reduceEqDiff, ↓reduceIte, reduceCtorEq, Nat.reduceLT, Nat.reduceLeDiff, Nat.reduceSub, Nat.reduceBEq, zc1, zc2, zc3, zc4, zc5]
              (repeat' apply And.intro) <;> first | rfl | assumption | omega | (simp; done)
            exact (.bool' (by first | rfl | assumption | (simp_all; done)))
        · rw [zc4] at H
          refine a_reg _ rfl (s := ?zs13) ?_ ?_
          rotate_left
          · simp (maxSteps := 2000000) only [EVT, stepR, evOp, St.ev, St.app, St.put, wrs, datOf, datOf1, evFieldAddr, evLoad, cut, evBin, binInt, TIS, CS, Nat.reduceAdd, Nat.reduceMul, Nat.reduceEqDiff, ↓reduceIte, reduceCtorEq, Nat.reduceLT, Nat.reduceLeDiff, Array.reduceGetElem?, Nat.reduceSub, Nat.reduceBEq, ↓zc1, ↓zc2, ↓zc3, ↓zc4]
            try simp (maxSteps := 2000000) only [EVT, stepR, evOp, St.ev, St.app, St.put, wrs, datOf, datOf1, evFieldAddr, evLoad, cut, evBin, binInt, TIS, CS, Nat.reduceAdd, Nat.reduceMul, Nat.reduceEqDiff, ↓reduceIte, reduceCtorEq, Nat.reduceLT, Nat.reduceLeDiff, Array.reduceGetElem?, Nat.reduceSub, Nat.reduceBEq, ↓zc1, ↓zc2, ↓zc3, ↓zc4]
            (repeat' apply And.intro) <;> first | rfl | assumption | omega | (simp; done) | (simp; omega) | (simp_all; done)
          refine sA_n ?_
          refine a_ret ?_
          obtain rfl := Option.some.inj H
          refine e_r2 (d := ?zd7) ?_ ?_
          rotate_left
          · simp only [EVT, resR, single, evLoad, cut, TIS, CS, Nat.reduceAdd, Nat.reduceEqDiff, ↓reduceIte, reduceCtorEq, Nat.reduceLT, Nat.reduceLeDiff, Nat.reduceSub, Nat.reduceBEq, zc1, zc2, zc3, zc4]
            (repeat' apply And.intro) <;> first | rfl | assumption | omega | (simp; done)
          exact (.bool' (by first | rfl | assumption | (simp_all; done)))
      · rw [zc3] at H
        refine a_reg _ rfl (s := ?zs14) ?_ ?_
        rotate_left
        · simp (maxSteps := 2000000) only [EVT, stepR, evOp, St.ev, St.app, St.put, wrs, datOf, datOf1, evFieldAddr, evLoad, cut, evBin, binInt, TIS, CS, Nat.reduceAdd, Nat.reduceMul, Nat.reduceEqDiff, ↓reduceIte, reduceCtorEq, Nat.reduceLT, Nat.reduceLeDiff, Array.reduceGetElem?, Nat.reduceSub, Nat.reduceBEq, ↓zc1, ↓zc2, ↓zc3]
          try simp (maxSteps := 2000000) only [EVT, stepR, evOp, St.ev, St.app, St.put, wrs, datOf, datOf1, evFieldAddr, evLoad, cut, evBin, binInt, TIS, CS, Nat.reduceAdd, Nat.reduceMul, Nat.reduceEqDiff, ↓reduceIte, reduceCtorEq, Nat.reduceLT, Nat.reduceLeDiff, Array.reduceGetElem?, Nat.reduceSub, Nat.reduceBEq, ↓zc1, ↓zc2, ↓zc3]
          (repeat' apply And.intro) <;> first | rfl | assumption | omega | (simp; done) | (simp; omega) | (simp_all; done)
        refine sA_n ?_
        refine a_ret ?_
        obtain rfl := Option.some.inj H
        refine e_r2 (d := ?zd8) ?_ ?_
        rotate_left
        · simp only [EVT, resR, single, evLoad, cut, TIS, CS, Nat.reduceAdd, Nat.reduceEqDiff, ↓reduceIte, reduceCtorEq, Nat.reduceLT, Nat.reduceLeDiff, Nat.reduceSub, Nat.reduceBEq, zc1, zc2, zc3]
          (repeat' apply And.intro) <;> first | rfl | assumption | omega | (simp; done)
        exact (.bool' (by first | rfl | assumption | (simp_all; done)))
    · rw [zc2] at H
      refine a_reg _ rfl (s := ?zs15) ?_ ?_
      rotate_left
      · simp (maxSteps := 2000000) only [EVT, stepR, evOp, St.ev, St.app, St.put, wrs, datOf, datOf1, evFieldAddr, evLoad, cut, evBin, binInt, TIS, CS, Nat.reduceAdd, Nat.reduceMul, Nat.reduceEqDiff, ↓reduceIte, reduceCtorEq, Nat.reduceLT, Nat.reduceLeDiff, Array.reduceGetElem?, Nat.reduceSub, Nat.reduceBEq, ↓zc1, ↓zc2]
        try simp (maxSteps := 2000000) only [EVT, stepR, evOp, St.ev, St.app, St.put, wrs, datOf, datOf1, evFieldAddr, evLoad, cut, evBin, binInt, TIS, CS, Nat.reduceAdd, Nat.reduceMul, Nat.reduceEqDiff, ↓reduceIte, reduceCtorEq, Nat.reduceLT, Nat.reduceLeDiff, Array.reduceGetElem?, Nat.reduceSub, Nat.reduceBEq, ↓zc1, ↓zc2]
        (repeat' apply And.intro) <;> first | rfl | assumption | omega | (simp; done) | (simp; omega) | (simp_all; done)
      refine sA_n ?_
      refine a_ret ?_
      obtain rfl := Option.some.inj H
      refine e_r2 (d := ?zd9) ?_ ?_
      rotate_left
      · simp only [EVT, resR, single, evLoad, cut, TIS, CS, Nat.reduceAdd, Nat.reduceEqDiff, ↓reduceIte, reduceCtorEq, Nat.reduceLT, Nat.reduceLeDiff, Nat.reduceSub, Nat.reduceBEq, zc1, zc2]
        (repeat' apply And.intro) <;> first | rfl | assumption | omega | (simp; done)
      exact (.bool' (by first | rfl | assumption | (simp_all; done)))
  · rw [zc1] at H
    refine a_reg _ rfl (s := ?zs16) ?_ ?_
    rotate_left
    · simp (maxSteps := 2000000) only [EVT, stepR, evOp, St.ev, St.app, St.put, wrs, datOf, datOf1, evFieldAddr, evLoad, cut, evBin, binInt, TIS, CS, Nat.reduceAdd, Nat.reduceMul, Nat.reduceEqDiff, ↓reduceIte, reduceCtorEq, Nat.reduceLT, Nat.reduceLeDiff, Array.reduceGetElem?, Nat.reduceSub, Nat.reduceBEq, ↓zc1]
      try simp (maxSteps := 2000000) only [EVT, stepR, evOp, St.ev, St.app, St.put, wrs, datOf, datOf1, evFieldAddr, evLoad, cut, evBin, binInt, TIS, CS, Nat.reduceAdd, Nat.reduceMul, Nat.reduceEqDiff, ↓reduceIte, reduceCtorEq, Nat.reduceLT, Nat.reduceLeDiff, Array.reduceGetElem?, Nat.reduceSub, Nat.reduceBEq, ↓zc1]
      (repeat' apply And.intro) <;> first | rfl | assumption | omega | (simp; done) | (simp; omega) | (simp_all; done)
    refine sA_n ?_
    refine a_ret ?_
    obtain rfl := Option.some.inj H
    refine e_r2 (d := ?zd10) ?_ ?_
    rotate_left
    · simp only [EVT, resR, single, evLoad, cut, TIS, CS, Nat.reduceAdd, Nat.reduceEqDiff, ↓reduceIte, reduceCtorEq, Nat.reduceLT, Nat.reduceLeDiff, Nat.reduceSub, Nat.reduceBEq, zc1]
      (repeat' apply And.intro) <;> first | rfl | assumption | omega | (simp; done)
    exact (.bool' (by first | rfl | assumption | (simp_all; done)))
def vote_Begin_f (s1 : Seat) : Option Seat :=
  (vote_Down_f s1 (IntKind.wrap .i64 (s1.term + 1))).bind fun r1 => some ((⟨r1.id, r1.peers, r1.term, r1.id, 2, r1.log, r1.commit, [r1.id], r1.next, r1.match_⟩ : Seat))
set_option maxHeartbeats 4000000 in
set_option maxRecDepth 20000 in
theorem vote_Begin_pc {s1 : Seat} {r : Seat} (H : vote_Begin_f s1 = some r) : PC Try.prog 20 [.agg (Seat.c s1)] (.agg (Seat.c r)) := by
  refine pcA_of Try.func20 (by rfl) (by decide) 17 (by rfl) [.cell 2 25] (by rfl) ?_
  unfold vote_Begin_f at H
  simp only [ent]
  refine a_seq ?_
  refine a_reg _ rfl (s := ?zs1) ?_ ?_
  rotate_left
  · simp (maxSteps := 2000000) only [EVT, stepR, evOp, St.ev, St.app, St.put, wrs, allOne, TIS, CS, Nat.reduceAdd, Nat.reduceMul, Nat.reduceEqDiff, ↓reduceIte, reduceCtorEq, Nat.reduceLT, Nat.reduceLeDiff]
    (repeat' apply And.intro) <;> first | rfl | assumption | omega | (simp; done) | (simp; omega) | (simp_all; done)
  refine sA_n ?_
  refine a_seq ?_
  obtain ⟨r1, zh1, H⟩ := bind_some H
  have zk1 := vote_Down_pc zh1
  refine a_reg _ rfl (s := ?zs2) ?_ ?_
  rotate_left
  · try simp (maxSteps := 2000000) only [EVT, stepR, evOp, St.ev, St.app, St.put, wrs, evLoad, cut, evFieldAddr, datOf, datOf1, evBin, binInt, frz, evStore, setR, allOne, TIS, CS, Nat.reduceAdd, Nat.reduceMul, Nat.reduceEqDiff, ↓reduceIte, reduceCtorEq, Nat.reduceLT, Nat.reduceLeDiff, Nat.reduceSub, Nat.reduceBEq]
    repeat' with_reducible apply And.intro
    all_goals try ((with_reducible show CallR _ _ _ _ _ _ _); refine cR_p zk1 (.cons (.agg' (.cons (.int' rfl) (.cons (.lst _ _ _ (ci_pu .i64) rfl) (.cons (.int' rfl) (.cons (.int' rfl) (.cons (.int' rfl) (.cons (.lst _ _ _ Entry.pu rfl) (.cons (.int' rfl) (.cons (.lst _ _ _ (ci_pu .i64) rfl) (.cons (.lst _ _ _ (ci_pu .i64) rfl) (.cons (.lst _ _ _ (ci_pu .i64) rfl) .nil))))))))))) (.cons (.int' rfl) .nil)) ?_; simp (maxSteps := 2000000) only [EVT, stepR, evOp, St.ev, St.app, St.put, wrs, evLoad, cut, evFieldAddr, datOf, datOf1, evBin, binInt, frz, evStore, setR, allOne, TIS, CS, Nat.reduceAdd, Nat.reduceMul, Nat.reduceEqDiff, ↓reduceIte, reduceCtorEq, Nat.reduceLT, Nat.reduceLeDiff, Nat.reduceSub, Nat.reduceBEq])
    all_goals ((repeat' apply And.intro) <;> first | rfl | assumption | omega | (simp; done) | (simp; omega) | (simp_all; done))
  refine sA_n ?_
  refine a_seq ?_
  refine a_reg _ rfl (s := ?zs3) ?_ ?_
  rotate_left
  · simp (maxSteps := 2000000) only [EVT, stepR, evOp, St.ev, St.app, St.put, wrs, evFieldAddr, evLoad, cut, allOne, datOf, datOf1, evStore, setR, TIS, CS, Nat.reduceAdd, Nat.reduceMul, Nat.reduceEqDiff, ↓reduceIte, reduceCtorEq, Nat.reduceLT, Nat.reduceLeDiff, Nat.reduceSub, Nat.reduceBEq]
    (repeat' apply And.intro) <;> first | rfl | assumption | omega | (simp; done) | (simp; omega) | (simp_all; done)
  refine sA_n ?_
  refine a_seq ?_
  refine a_reg _ rfl (s := ?zs4) ?_ ?_
  rotate_left
  · simp (maxSteps := 2000000) only [EVT, stepR, evOp, St.ev, St.app, St.put, wrs, evLoad, cut, evStore, setR, allOne, TIS, CS, Nat.reduceAdd, Nat.reduceMul, Nat.reduceEqDiff, ↓reduceIte, reduceCtorEq, Nat.reduceLT, Nat.reduceLeDiff, Nat.reduceSub, Nat.reduceBEq]
    (repeat' apply And.intro) <;> first | rfl | assumption | omega | (simp; done) | (simp; omega) | (simp_all; done)
  refine sA_n ?_
  refine a_ret ?_
  obtain rfl := Option.some.inj H
  refine e_r2 (d := ?zd1) ?_ ?_
  rotate_left
  · simp only [EVT, resR, single, evLoad, cut, TIS, CS, Nat.reduceAdd, Nat.reduceEqDiff, ↓reduceIte, reduceCtorEq, Nat.reduceLT, Nat.reduceLeDiff, Nat.reduceSub, Nat.reduceBEq]
    (repeat' apply And.intro) <;> first | rfl | assumption | omega | (simp; done)
  exact (.agg' (.cons (.int' rfl) (.cons (.lst _ _ _ (ci_pu .i64) rfl) (.cons (.int' rfl) (.cons (.int' rfl) (.cons (.int' rfl) (.cons (.lst _ _ _ Entry.pu rfl) (.cons (.int' rfl) (.cons (.ownL (by rfl) (fun e => by cases e) rfl (by first | rfl | omega | (simp; done) | (simp_all; done)) (.same _ _ (ci_pu .i64) (by first | rfl | (simp only [List.map_append, List.map_cons, List.map_nil, List.map_set, List.map_take, List.map_drop, List.map_replicate, List.append_assoc, List.nil_append, List.append_nil, ci_eq, cb_eq, cs_eq, cl_eq, CS,  List.nil_append]; done) | (simp [CS,  ci_eq, cb_eq, cs_eq, cl_eq]; done)))) (.cons (.lst _ _ _ (ci_pu .i64) rfl) (.cons (.lst _ _ _ (ci_pu .i64) rfl) .nil)))))))))))
def ref14_Ask_J2 (out1 : Seat) (who1 : Int) (v1 : Bool) : Option (Seat × Bool) :=
  cond v1 (some ((⟨out1.id, out1.peers, out1.term, who1, out1.role, out1.log, out1.commit, out1.votes, out1.next, out1.match_⟩ : Seat), true)) (some (out1, false))
def ref14_Ask_J1 (s1 : Seat) (last1 : Int) (many1 : Int) (who1 : Int) (out1 : Seat) : Option (Seat × Bool) :=
  (ref13_Newer_f s1.log last1 many1).bind fun r1 => ref14_Ask_J2 out1 who1 (r1 && ((out1.voted == (-1)) || (out1.voted == who1)))
def ref14_Ask_f (s1 : Seat) (term1 : Int) (who1 : Int) (last1 : Int) (many1 : Int) : Option (Seat × Bool) :=
  cond (decide (term1 < s1.term)) (some (s1, false)) (cond (decide (s1.term < term1)) ((ref14_Down_f s1 term1).bind fun r2 => ref14_Ask_J1 s1 last1 many1 who1 r2) (ref14_Ask_J1 s1 last1 many1 who1 s1))
set_option maxHeartbeats 4000000 in
set_option maxRecDepth 20000 in
theorem ref14_Ask_pc {s1 : Seat} {term1 : Int} {who1 : Int} {last1 : Int} {many1 : Int} {r : Seat × Bool} (H : ref14_Ask_f s1 term1 who1 last1 many1 = some r) : PC Try.prog 13 [.agg (Seat.c s1), .int .i64 term1, .int .i64 who1, .int .i64 last1, .int .i64 many1] (.tup [.agg (Seat.c r.1), .bool r.2]) := by
  refine pcA_of Try.func13 (by rfl) (by decide) 48 (by rfl) [.cell 10 25, .tmp 11] (by rfl) ?_
  unfold ref14_Ask_f at H
  simp only [ent]
  refine a_seq ?_
  refine a_reg _ rfl (s := ?zs1) ?_ ?_
  rotate_left
  · simp (maxSteps := 2000000) only [EVT, stepR, evOp, St.ev, St.app, St.put, wrs, allOne, datOf, datOf1, TIS, CS, Nat.reduceAdd, Nat.reduceMul, Nat.reduceEqDiff, ↓reduceIte, reduceCtorEq, Nat.reduceLT, Nat.reduceLeDiff]
    (repeat' apply And.intro) <;> first | rfl | assumption | omega | (simp; done) | (simp; omega) | (simp_all; done)
  refine sA_n ?_
  refine a_seq ?_
  refine a_seq ?_
  refine a_reg _ rfl (s := ?zs2) ?_ ?_
  rotate_left
  · simp (maxSteps := 2000000) only [EVT, stepR, evOp, St.ev, St.app, St.put, wrs, evFieldAddr, evLoad, cut, evBin, binInt, TIS, CS, Nat.reduceAdd, Nat.reduceMul, Nat.reduceEqDiff, ↓reduceIte, reduceCtorEq, Nat.reduceLT, Nat.reduceLeDiff, Nat.reduceSub, Nat.reduceBEq]
    (repeat' apply And.intro) <;> first | rfl | assumption | omega | (simp; done) | (simp; omega) | (simp_all; done)
  refine sA_n ?_
  refine a_condb ((decide (term1 < s1.term))) (by rfl) (fun zc1 => ?_) (fun zc1 => ?_)
  · have H := cond_t zc1 H
    refine a_seq ?_
    refine a_reg _ rfl (s := ?zs3) ?_ ?_
    rotate_left
    · simp (maxSteps := 2000000) only [EVT, stepR, evOp, St.ev, St.app, St.put, wrs, evLoad, cut, evStore, setR, allOne, datOf, datOf1, TIS, CS, Nat.reduceAdd, Nat.reduceMul, Nat.reduceEqDiff, ↓reduceIte, reduceCtorEq, Nat.reduceLT, Nat.reduceLeDiff, Nat.reduceSub, Nat.reduceBEq, ↓zc1]
      (repeat' apply And.intro) <;> first | rfl | assumption | omega | (simp; done) | (simp; omega) | (simp_all; done)
    refine sA_n ?_
    refine a_ret ?_
    refine sA_r ?_
    obtain rfl := Option.some.inj H
    refine e_r2 (d := ?zd1) ?_ ?_
    rotate_left
    · simp only [EVT, resR, single, evLoad, cut, TIS, CS, Nat.reduceAdd, Nat.reduceEqDiff, ↓reduceIte, reduceCtorEq, Nat.reduceLT, Nat.reduceLeDiff, Nat.reduceSub, Nat.reduceBEq, zc1]
      (repeat' apply And.intro) <;> first | rfl | assumption | omega | (simp; done)
    exact (.tup' (.cons (.agg' (.cons (.int' rfl) (.cons (.lst _ _ _ (ci_pu .i64) rfl) (.cons (.int' rfl) (.cons (.int' rfl) (.cons (.int' rfl) (.cons (.lst _ _ _ Entry.pu rfl) (.cons (.int' rfl) (.cons (.lst _ _ _ (ci_pu .i64) rfl) (.cons (.lst _ _ _ (ci_pu .i64) rfl) (.cons (.lst _ _ _ (ci_pu .i64) rfl) .nil))))))))))) (.cons (.bool' (by first | rfl | assumption | (simp_all; done))) .nil)))
  · have H := cond_f zc1 H
    refine a_skip ?_
    refine sA_n ?_
    refine a_seq ?_
    refine a_reg _ rfl (s := ?zs4) ?_ ?_
    rotate_left
    · simp (maxSteps := 2000000) only [EVT, stepR, evOp, St.ev, St.app, St.put, wrs, evLoad, cut, allOne, evStore, setR, TIS, CS, Nat.reduceAdd, Nat.reduceMul, Nat.reduceEqDiff, ↓reduceIte, reduceCtorEq, Nat.reduceLT, Nat.reduceLeDiff, Nat.reduceSub, Nat.reduceBEq, ↓zc1]
      (repeat' apply And.intro) <;> first | rfl | assumption | omega | (simp; done) | (simp; omega) | (simp_all; done)
    refine sA_n ?_
    refine a_cut (fun s => ∃ (out1 : Seat) (t0 : Nat → Dat), ref14_Ask_J1 s1 last1 many1 who1 out1 = some r ∧ s = ⟨tl t0 [(2, .int .i64 who1), (3, .int .i64 last1), (4, .int .i64 many1), (5, .ptr 0 0 0 10), (10, .ptr 1 0 0 10), (12, .ptr 2 0 0 10)], hl [⟨25, 10, false, [[.int .i64 s1.id, .list 1 (s1.peers.map (ci .i64)), .int .i64 s1.term, .int .i64 s1.voted, .int .i64 s1.role, .list 2 (s1.log.map Entry.c), .int .i64 s1.commit, .list 1 (s1.votes.map (ci .i64)), .list 1 (s1.next.map (ci .i64)), .list 1 (s1.match_.map (ci .i64))]]⟩, ⟨25, 10, false, [[.int .i64 0, .nil, .int .i64 0, .int .i64 0, .int .i64 0, .nil, .int .i64 0, .nil, .nil, .nil]]⟩, ⟨25, 10, false, [[.int .i64 out1.id, .list 1 (out1.peers.map (ci .i64)), .int .i64 out1.term, .int .i64 out1.voted, .int .i64 out1.role, .list 2 (out1.log.map Entry.c), .int .i64 out1.commit, .list 1 (out1.votes.map (ci .i64)), .list 1 (out1.next.map (ci .i64)), .list 1 (out1.match_.map (ci .i64))]]⟩], 3, 48⟩) ?_ ?_
    · refine a_seq ?_
      refine a_reg _ rfl (s := ?zs12) ?_ ?_
      rotate_left
      · simp (maxSteps := 2000000) only [EVT, stepR, evOp, St.ev, St.app, St.put, wrs, evFieldAddr, evLoad, cut, evBin, binInt, TIS, CS, Nat.reduceAdd, Nat.reduceMul, Nat.reduceEqDiff, ↓reduceIte, reduceCtorEq, Nat.reduceLT, Nat.reduceLeDiff, Nat.reduceSub, Nat.reduceBEq, ↓zc1]
        (repeat' apply And.intro) <;> first | rfl | assumption | omega | (simp; done) | (simp; omega) | (simp_all; done)
      refine sA_n ?_
      refine a_condb ((decide (s1.term < term1))) (by rfl) (fun zc5 => ?_) (fun zc5 => ?_)
      · have H := cond_t zc5 H
        obtain ⟨r2, zh2, H⟩ := bind_some H
        have zk2 := ref14_Down_pc zh2
        refine a_reg _ rfl (s := ?zs13) ?_ ?_
        rotate_left
        · try simp (maxSteps := 2000000) only [EVT, stepR, evOp, St.ev, St.app, St.put, wrs, evLoad, cut, frz, evStore, setR, allOne, TIS, CS, Nat.reduceAdd, Nat.reduceMul, Nat.reduceEqDiff, ↓reduceIte, reduceCtorEq, Nat.reduceLT, Nat.reduceLeDiff, Nat.reduceSub, Nat.reduceBEq, ↓zc1, ↓zc5]
          repeat' with_reducible apply And.intro
          all_goals try ((with_reducible show CallR _ _ _ _ _ _ _); refine cR_p zk2 (.cons (.agg' (.cons (.int' rfl) (.cons (.lst _ _ _ (ci_pu .i64) rfl) (.cons (.int' rfl) (.cons (.int' rfl) (.cons (.int' rfl) (.cons (.lst _ _ _ Entry.pu rfl) (.cons (.int' rfl) (.cons (.lst _ _ _ (ci_pu .i64) rfl) (.cons (.lst _ _ _ (ci_pu .i64) rfl) (.cons (.lst _ _ _ (ci_pu .i64) rfl) .nil))))))))))) (.cons (.int' rfl) .nil)) ?_; simp (maxSteps := 2000000) only [EVT, stepR, evOp, St.ev, St.app, St.put, wrs, evLoad, cut, frz, evStore, setR, allOne, TIS, CS, Nat.reduceAdd, Nat.reduceMul, Nat.reduceEqDiff, ↓reduceIte, reduceCtorEq, Nat.reduceLT, Nat.reduceLeDiff, Nat.reduceSub, Nat.reduceBEq, ↓zc1, ↓zc5])
          all_goals ((repeat' apply And.intro) <;> first | rfl | assumption | omega | (simp; done) | (simp; omega) | (simp_all; done))
        refine cA_n ?_
        refine wk_l [(some 0, ⟨25, 10, false, [[.int .i64 s1.id, .list 1 (s1.peers.map (ci .i64)), .int .i64 s1.term, .int .i64 s1.voted, .int .i64 s1.role, .list 2 (s1.log.map Entry.c), .int .i64 s1.commit, .list 1 (s1.votes.map (ci .i64)), .list 1 (s1.next.map (ci .i64)), .list 1 (s1.match_.map (ci .i64))]]⟩), (some 1, ⟨25, 10, false, [[.int .i64 0, .nil, .int .i64 0, .int .i64 0, .int .i64 0, .nil, .int .i64 0, .nil, .nil, .nil]]⟩), (some 57, ⟨25, 10, false, [[.int .i64 r2.id, .list 1 (r2.peers.map (ci .i64)), .int .i64 r2.term, .int .i64 r2.voted, .int .i64 r2.role, .list 2 (r2.log.map Entry.c), .int .i64 r2.commit, .list 1 (r2.votes.map (ci .i64)), .list 1 (r2.next.map (ci .i64)), .list 1 (r2.match_.map (ci .i64))]]⟩)] [] [(2, .int .i64 who1), (3, .int .i64 last1), (4, .int .i64 many1), (5, .ptr 0 0 0 10), (10, .ptr 1 0 0 10), (12, .ptr 2 0 0 10)] (by show ([2, 3, 4, 5, 10, 12] : List Nat).Nodup; decide) (by show ([0, 1, 57] : List Nat).Nodup; decide) ?_ ?_ (fun t0 => ⟨r2, t0, H, rfl⟩)
        · exact (allB_some (by rfl) rfl (.cons (.cons (.int' rfl) (.cons (.lst _ _ _ (ci_pu .i64) rfl) (.cons (.int' rfl) (.cons (.int' rfl) (.cons (.int' rfl) (.cons (.lst _ _ _ Entry.pu rfl) (.cons (.int' rfl) (.cons (.lst _ _ _ (ci_pu .i64) rfl) (.cons (.lst _ _ _ (ci_pu .i64) rfl) (.cons (.lst _ _ _ (ci_pu .i64) rfl) .nil)))))))))) .nil) (allB_some (by rfl) rfl (.cons (.cons (.int' rfl) (.cons .nil' (.cons (.int' rfl) (.cons (.int' rfl) (.cons (.int' rfl) (.cons .nil' (.cons (.int' rfl) (.cons .nil' (.cons .nil' (.cons .nil' .nil)))))))))) .nil) (allB_some (by rfl) rfl (.cons (.cons (.int' rfl) (.cons (.lst _ _ _ (ci_pu .i64) rfl) (.cons (.int' rfl) (.cons (.int' rfl) (.cons (.int' rfl) (.cons (.lst _ _ _ Entry.pu rfl) (.cons (.int' rfl) (.cons (.lst _ _ _ (ci_pu .i64) rfl) (.cons (.lst _ _ _ (ci_pu .i64) rfl) (.cons (.lst _ _ _ (ci_pu .i64) rfl) .nil)))))))))) .nil) trivial)))
        · (simp only [AllT, tl_cons, tl_nil, upd_apply, List.getD_cons_zero, List.getD_cons_succ, Nat.reduceEqDiff, ↓reduceIte, and_true]); exact ⟨(.int' rfl), (.int' rfl), (.int' rfl), (.ptr _ _ _ _ _ rfl), (.ptr _ _ _ _ _ rfl), (.ptr _ _ _ _ _ rfl)⟩
      · have H := cond_f zc5 H
        refine a_skip ?_
        refine cA_n ?_
        refine wk_l [(some 0, ⟨25, 10, false, [[.int .i64 s1.id, .list 1 (s1.peers.map (ci .i64)), .int .i64 s1.term, .int .i64 s1.voted, .int .i64 s1.role, .list 2 (s1.log.map Entry.c), .int .i64 s1.commit, .list 1 (s1.votes.map (ci .i64)), .list 1 (s1.next.map (ci .i64)), .list 1 (s1.match_.map (ci .i64))]]⟩), (some 1, ⟨25, 10, false, [[.int .i64 0, .nil, .int .i64 0, .int .i64 0, .int .i64 0, .nil, .int .i64 0, .nil, .nil, .nil]]⟩), (some 57, ⟨25, 10, false, [[.int .i64 s1.id, .list 1 (s1.peers.map (ci .i64)), .int .i64 s1.term, .int .i64 s1.voted, .int .i64 s1.role, .list 2 (s1.log.map Entry.c), .int .i64 s1.commit, .list 1 (s1.votes.map (ci .i64)), .list 1 (s1.next.map (ci .i64)), .list 1 (s1.match_.map (ci .i64))]]⟩)] [] [(2, .int .i64 who1), (3, .int .i64 last1), (4, .int .i64 many1), (5, .ptr 0 0 0 10), (10, .ptr 1 0 0 10), (12, .ptr 2 0 0 10)] (by show ([2, 3, 4, 5, 10, 12] : List Nat).Nodup; decide) (by show ([0, 1, 57] : List Nat).Nodup; decide) ?_ ?_ (fun t0 => ⟨s1, t0, H, rfl⟩)
        · exact (allB_some (by rfl) rfl (.cons (.cons (.int' rfl) (.cons (.lst _ _ _ (ci_pu .i64) rfl) (.cons (.int' rfl) (.cons (.int' rfl) (.cons (.int' rfl) (.cons (.lst _ _ _ Entry.pu rfl) (.cons (.int' rfl) (.cons (.lst _ _ _ (ci_pu .i64) rfl) (.cons (.lst _ _ _ (ci_pu .i64) rfl) (.cons (.lst _ _ _ (ci_pu .i64) rfl) .nil)))))))))) .nil) (allB_some (by rfl) rfl (.cons (.cons (.int' rfl) (.cons .nil' (.cons (.int' rfl) (.cons (.int' rfl) (.cons (.int' rfl) (.cons .nil' (.cons (.int' rfl) (.cons .nil' (.cons .nil' (.cons .nil' .nil)))))))))) .nil) (allB_some (by rfl) rfl (.cons (.cons (.int' rfl) (.cons (.lst _ _ _ (ci_pu .i64) rfl) (.cons (.int' rfl) (.cons (.int' rfl) (.cons (.int' rfl) (.cons (.lst _ _ _ Entry.pu rfl) (.cons (.int' rfl) (.cons (.lst _ _ _ (ci_pu .i64) rfl) (.cons (.lst _ _ _ (ci_pu .i64) rfl) (.cons (.lst _ _ _ (ci_pu .i64) rfl) .nil)))))))))) .nil) trivial)))
        · (simp only [AllT, tl_cons, tl_nil, upd_apply, List.getD_cons_zero, List.getD_cons_succ, Nat.reduceEqDiff, ↓reduceIte, and_true]); exact ⟨(.int' rfl), (.int' rfl), (.int' rfl), (.ptr _ _ _ _ _ rfl), (.ptr _ _ _ _ _ rfl), (.ptr _ _ _ _ _ rfl)⟩
    · rintro s ⟨out1, t0, H, rfl⟩
      unfold ref14_Ask_J1 at H
      refine a_seq ?_
      obtain ⟨r1, zh1, H⟩ := bind_some H
      have zk1 := ref13_Newer_pc zh1
      refine a_reg _ rfl (s := ?zs5) ?_ ?_
      rotate_left
      · try simp (maxSteps := 2000000) only [EVT, stepR, evOp, St.ev, St.app, St.put, wrs, evFieldAddr, evLoad, cut, frz, TIS, CS, Nat.reduceAdd, Nat.reduceMul, Nat.reduceEqDiff, ↓reduceIte, reduceCtorEq, Nat.reduceLT, Nat.reduceLeDiff, Nat.reduceSub, Nat.reduceBEq]
        repeat' with_reducible apply And.intro
        all_goals try ((with_reducible show CallR _ _ _ _ _ _ _); refine cR_s zk1 (.cons (.lst _ _ _ Entry.pu rfl) (.cons (.int' rfl) (.cons (.int' rfl) .nil))) (.bool _) ?_; simp (maxSteps := 2000000) only [EVT, stepR, evOp, St.ev, St.app, St.put, wrs, evFieldAddr, evLoad, cut, frz, TIS, CS, Nat.reduceAdd, Nat.reduceMul, Nat.reduceEqDiff, ↓reduceIte, reduceCtorEq, Nat.reduceLT, Nat.reduceLeDiff, Nat.reduceSub, Nat.reduceBEq])
        all_goals ((repeat' apply And.intro) <;> first | rfl | assumption | omega | (simp; done) | (simp; omega) | (simp_all; done))
      refine sA_n ?_
      refine a_seq ?_
      refine a_cut (fun s => ∃ (v1 : Bool) (t0 : Nat → Dat), ref14_Ask_J2 out1 who1 v1 = some r ∧ s = ⟨tl t0 [(2, .int .i64 who1), (10, .ptr 0 0 0 10), (12, .ptr 1 0 0 10), (43, .bool v1)], hl [⟨25, 10, false, [[.int .i64 0, .nil, .int .i64 0, .int .i64 0, .int .i64 0, .nil, .int .i64 0, .nil, .nil, .nil]]⟩, ⟨25, 10, false, [[.int .i64 out1.id, .list 1 (out1.peers.map (ci .i64)), .int .i64 out1.term, .int .i64 out1.voted, .int .i64 out1.role, .list 2 (out1.log.map Entry.c), .int .i64 out1.commit, .list 1 (out1.votes.map (ci .i64)), .list 1 (out1.next.map (ci .i64)), .list 1 (out1.match_.map (ci .i64))]]⟩], 2, 48⟩) ?_ ?_
      · refine bool_split (b := r1) (fun zc3 => ?_) (fun zc3 => ?_)
        · rw [zc3] at H
          refine bool_split (b := (out1.voted == (-1))) (fun zc4 => ?_) (fun zc4 => ?_)
          · rw [zc4] at H
            refine a_reg _ rfl (s := ?zs9) ?_ ?_
            rotate_left
            · simp (maxSteps := 2000000) only [EVT, stepR, evOp, St.ev, St.app, St.put, wrs, evFieldAddr, evLoad, cut, datOf, datOf1, evBin, binInt, TIS, CS, Nat.reduceAdd, Nat.reduceMul, Nat.reduceEqDiff, ↓reduceIte, reduceCtorEq, Nat.reduceLT, Nat.reduceLeDiff, Array.reduceGetElem?, Nat.reduceSub, Nat.reduceBEq, ↓zc3, ↓zc4]
              try simp (maxSteps := 2000000) only [EVT, stepR, evOp, St.ev, St.app, St.put, wrs, evFieldAddr, evLoad, cut, datOf, datOf1, evBin, binInt, TIS, CS, Nat.reduceAdd, Nat.reduceMul, Nat.reduceEqDiff, ↓reduceIte, reduceCtorEq, Nat.reduceLT, Nat.reduceLeDiff, Array.reduceGetElem?, Nat.reduceSub, Nat.reduceBEq, ↓zc3, ↓zc4]
              (repeat' apply And.intro) <;> first | rfl | assumption | omega | (simp; done) | (simp; omega) | (simp_all; done)
            refine cA_n ?_
            refine wk_l [(some 1, ⟨25, 10, false, [[.int .i64 0, .nil, .int .i64 0, .int .i64 0, .int .i64 0, .nil, .int .i64 0, .nil, .nil, .nil]]⟩), (some 2, ⟨25, 10, false, [[.int .i64 out1.id, .list 1 (out1.peers.map (ci .i64)), .int .i64 out1.term, .int .i64 out1.voted, .int .i64 out1.role, .list 2 (out1.log.map Entry.c), .int .i64 out1.commit, .list 1 (out1.votes.map (ci .i64)), .list 1 (out1.next.map (ci .i64)), .list 1 (out1.match_.map (ci .i64))]]⟩)] [] [(2, .int .i64 who1), (10, .ptr 0 0 0 10), (12, .ptr 1 0 0 10), (43, .bool true)] (by show ([2, 10, 12, 43] : List Nat).Nodup; decide) (by show ([1, 2] : List Nat).Nodup; decide) ?_ ?_ (fun t0 => ⟨true, t0, H, rfl⟩)
            · exact (allB_some (by rfl) rfl (.cons (.cons (.int' rfl) (.cons .nil' (.cons (.int' rfl) (.cons (.int' rfl) (.cons (.int' rfl) (.cons .nil' (.cons (.int' rfl) (.cons .nil' (.cons .nil' (.cons .nil' .nil)))))))))) .nil) (allB_some (by rfl) rfl (.cons (.cons (.int' rfl) (.cons (.lst _ _ _ (ci_pu .i64) rfl) (.cons (.int' rfl) (.cons (.int' rfl) (.cons (.int' rfl) (.cons (.lst _ _ _ Entry.pu rfl) (.cons (.int' rfl) (.cons (.lst _ _ _ (ci_pu .i64) rfl) (.cons (.lst _ _ _ (ci_pu .i64) rfl) (.cons (.lst _ _ _ (ci_pu .i64) rfl) .nil)))))))))) .nil) trivial))
            · (simp only [AllT, tl_cons, tl_nil, upd_apply, List.getD_cons_zero, List.getD_cons_succ, Nat.reduceEqDiff, ↓reduceIte, and_true]); exact ⟨(.int' rfl), (.ptr _ _ _ _ _ rfl), (.ptr _ _ _ _ _ rfl), (.bool' (by first | rfl | assumption | (simp_all; done)))⟩
          · rw [zc4] at H
            refine a_reg _ rfl (s := ?zs10) ?_ ?_
            rotate_left
            · simp (maxSteps := 2000000) only [EVT, stepR, evOp, St.ev, St.app, St.put, wrs, evFieldAddr, evLoad, cut, datOf, datOf1, evBin, binInt, TIS, CS, Nat.reduceAdd, Nat.reduceMul, Nat.reduceEqDiff, ↓reduceIte, reduceCtorEq, Nat.reduceLT, Nat.reduceLeDiff, Array.reduceGetElem?, Nat.reduceSub, Nat.reduceBEq, ↓zc3, ↓zc4]
              try simp (maxSteps := 2000000) only [EVT, stepR, evOp, St.ev, St.app, St.put, wrs, evFieldAddr, evLoad, cut, datOf, datOf1, evBin, binInt, TIS, CS, Nat.reduceAdd, Nat.reduceMul, Nat.reduceEqDiff, ↓reduceIte, reduceCtorEq, Nat.reduceLT, Nat.reduceLeDiff, Array.reduceGetElem?, Nat.reduceSub, Nat.reduceBEq, ↓zc3, ↓zc4]
              (repeat' apply And.intro) <;> first | rfl | assumption | omega | (simp; done) | (simp; omega) | (simp_all; done)
            refine cA_n ?_
            refine wk_l [(some 1, ⟨25, 10, false, [[.int .i64 0, .nil, .int .i64 0, .int .i64 0, .int .i64 0, .nil, .int .i64 0, .nil, .nil, .nil]]⟩), (some 2, ⟨25, 10, false, [[.int .i64 out1.id, .list 1 (out1.peers.map (ci .i64)), .int .i64 out1.term, .int .i64 out1.voted, .int .i64 out1.role, .list 2 (out1.log.map Entry.c), .int .i64 out1.commit, .list 1 (out1.votes.map (ci .i64)), .list 1 (out1.next.map (ci .i64)), .list 1 (out1.match_.map (ci .i64))]]⟩)] [] [(2, .int .i64 who1), (10, .ptr 0 0 0 10), (12, .ptr 1 0 0 10), (43, .bool (out1.voted == who1))] (by show ([2, 10, 12, 43] : List Nat).Nodup; decide) (by show ([1, 2] : List Nat).Nodup; decide) ?_ ?_ (fun t0 => ⟨(out1.voted == who1), t0, H, rfl⟩)
            · exact (allB_some (by rfl) rfl (.cons (.cons (.int' rfl) (.cons .nil' (.cons (.int' rfl) (.cons (.int' rfl) (.cons (.int' rfl) (.cons .nil' (.cons (.int' rfl) (.cons .nil' (.cons .nil' (.cons .nil' .nil)))))))))) .nil) (allB_some (by rfl) rfl (.cons (.cons (.int' rfl) (.cons (.lst _ _ _ (ci_pu .i64) rfl) (.cons (.int' rfl) (.cons (.int' rfl) (.cons (.int' rfl) (.cons (.lst _ _ _ Entry.pu rfl) (.cons (.int' rfl) (.cons (.lst _ _ _ (ci_pu .i64) rfl) (.cons (.lst _ _ _ (ci_pu .i64) rfl) (.cons (.lst _ _ _ (ci_pu .i64) rfl) .nil)))))))))) .nil) trivial))
            · (simp only [AllT, tl_cons, tl_nil, upd_apply, List.getD_cons_zero, List.getD_cons_succ, Nat.reduceEqDiff, ↓reduceIte, and_true]); exact ⟨(.int' rfl), (.ptr _ _ _ _ _ rfl), (.ptr _ _ _ _ _ rfl), (.bool' rfl)⟩
        · rw [zc3] at H
          refine a_reg _ rfl (s := ?zs11) ?_ ?_
          rotate_left
          · simp (maxSteps := 2000000) only [EVT, stepR, evOp, St.ev, St.app, St.put, wrs, evFieldAddr, evLoad, cut, datOf, datOf1, evBin, binInt, TIS, CS, Nat.reduceAdd, Nat.reduceMul, Nat.reduceEqDiff, ↓reduceIte, reduceCtorEq, Nat.reduceLT, Nat.reduceLeDiff, Array.reduceGetElem?, Nat.reduceSub, Nat.reduceBEq, ↓zc3]
            try simp (maxSteps := 2000000) only [EVT, stepR, evOp, St.ev, St.app, St.put, wrs, evFieldAddr, evLoad, cut, datOf, datOf1, evBin, binInt, TIS, CS, Nat.reduceAdd, Nat.reduceMul, Nat.reduceEqDiff, ↓reduceIte, reduceCtorEq, Nat.reduceLT, Nat.reduceLeDiff, Array.reduceGetElem?, Nat.reduceSub, Nat.reduceBEq, ↓zc3]
            (repeat' apply And.intro) <;> first | rfl | assumption | omega | (simp; done) | (simp; omega) | (simp_all; done)
          refine cA_n ?_
          refine wk_l [(some 1, ⟨25, 10, false, [[.int .i64 0, .nil, .int .i64 0, .int .i64 0, .int .i64 0, .nil, .int .i64 0, .nil, .nil, .nil]]⟩), (some 2, ⟨25, 10, false, [[.int .i64 out1.id, .list 1 (out1.peers.map (ci .i64)), .int .i64 out1.term, .int .i64 out1.voted, .int .i64 out1.role, .list 2 (out1.log.map Entry.c), .int .i64 out1.commit, .list 1 (out1.votes.map (ci .i64)), .list 1 (out1.next.map (ci .i64)), .list 1 (out1.match_.map (ci .i64))]]⟩)] [] [(2, .int .i64 who1), (10, .ptr 0 0 0 10), (12, .ptr 1 0 0 10), (43, .bool false)] (by show ([2, 10, 12, 43] : List Nat).Nodup; decide) (by show ([1, 2] : List Nat).Nodup; decide) ?_ ?_ (fun t0 => ⟨false, t0, H, rfl⟩)
          · exact (allB_some (by rfl) rfl (.cons (.cons (.int' rfl) (.cons .nil' (.cons (.int' rfl) (.cons (.int' rfl) (.cons (.int' rfl) (.cons .nil' (.cons (.int' rfl) (.cons .nil' (.cons .nil' (.cons .nil' .nil)))))))))) .nil) (allB_some (by rfl) rfl (.cons (.cons (.int' rfl) (.cons (.lst _ _ _ (ci_pu .i64) rfl) (.cons (.int' rfl) (.cons (.int' rfl) (.cons (.int' rfl) (.cons (.lst _ _ _ Entry.pu rfl) (.cons (.int' rfl) (.cons (.lst _ _ _ (ci_pu .i64) rfl) (.cons (.lst _ _ _ (ci_pu .i64) rfl) (.cons (.lst _ _ _ (ci_pu .i64) rfl) .nil)))))))))) .nil) trivial))
          · (simp only [AllT, tl_cons, tl_nil, upd_apply, List.getD_cons_zero, List.getD_cons_succ, Nat.reduceEqDiff, ↓reduceIte, and_true]); exact ⟨(.int' rfl), (.ptr _ _ _ _ _ rfl), (.ptr _ _ _ _ _ rfl), (.bool' (by first | rfl | assumption | (simp_all; done)))⟩
      · rintro s ⟨v1, t0, H, rfl⟩
        unfold ref14_Ask_J2 at H
        refine a_condb (v1) (by rfl) (fun zc2 => ?_) (fun zc2 => ?_)
        · have H := cond_t zc2 H
          refine a_seq ?_
          refine a_reg _ rfl (s := ?zs6) ?_ ?_
          rotate_left
          · simp (maxSteps := 2000000) only [EVT, stepR, evOp, St.ev, St.app, St.put, wrs, evFieldAddr, evStore, setR, allOne, TIS, CS, Nat.reduceAdd, Nat.reduceMul, Nat.reduceEqDiff, ↓reduceIte, reduceCtorEq, Nat.reduceLT, Nat.reduceLeDiff, Nat.reduceSub, Nat.reduceBEq, ↓zc2]
            (repeat' apply And.intro) <;> first | rfl | assumption | omega | (simp; done) | (simp; omega) | (simp_all; done)
          refine sA_n ?_
          refine a_seq ?_
          refine a_reg _ rfl (s := ?zs7) ?_ ?_
          rotate_left
          · simp (maxSteps := 2000000) only [EVT, stepR, evOp, St.ev, St.app, St.put, wrs, evLoad, cut, evStore, setR, allOne, datOf, datOf1, TIS, CS, Nat.reduceAdd, Nat.reduceMul, Nat.reduceEqDiff, ↓reduceIte, reduceCtorEq, Nat.reduceLT, Nat.reduceLeDiff, Nat.reduceSub, Nat.reduceBEq, ↓zc2]
            (repeat' apply And.intro) <;> first | rfl | assumption | omega | (simp; done) | (simp; omega) | (simp_all; done)
          refine sA_n ?_
          refine a_ret ?_
          refine sA_r ?_
          obtain rfl := Option.some.inj H
          refine e_r2 (d := ?zd2) ?_ ?_
          rotate_left
          · simp only [EVT, resR, single, evLoad, cut, TIS, CS, Nat.reduceAdd, Nat.reduceEqDiff, ↓reduceIte, reduceCtorEq, Nat.reduceLT, Nat.reduceLeDiff, Nat.reduceSub, Nat.reduceBEq, zc2]
            (repeat' apply And.intro) <;> first | rfl | assumption | omega | (simp; done)
          exact (.tup' (.cons (.agg' (.cons (.int' rfl) (.cons (.lst _ _ _ (ci_pu .i64) rfl) (.cons (.int' rfl) (.cons (.int' rfl) (.cons (.int' rfl) (.cons (.lst _ _ _ Entry.pu rfl) (.cons (.int' rfl) (.cons (.lst _ _ _ (ci_pu .i64) rfl) (.cons (.lst _ _ _ (ci_pu .i64) rfl) (.cons (.lst _ _ _ (ci_pu .i64) rfl) .nil))))))))))) (.cons (.bool' (by first | rfl | assumption | (simp_all; done))) .nil)))
        · have H := cond_f zc2 H
          refine a_skip ?_
          refine sA_n ?_
          refine a_seq ?_
          refine a_reg _ rfl (s := ?zs8) ?_ ?_
          rotate_left
          · simp (maxSteps := 2000000) only [EVT, stepR, evOp, St.ev, St.app, St.put, wrs, evLoad, cut, evStore, setR, allOne, datOf, datOf1, TIS, CS, Nat.reduceAdd, Nat.reduceMul, Nat.reduceEqDiff, ↓reduceIte, reduceCtorEq, Nat.reduceLT, Nat.reduceLeDiff, Nat.reduceSub, Nat.reduceBEq, ↓zc2]
            (repeat' apply And.intro) <;> first | rfl | assumption | omega | (simp; done) | (simp; omega) | (simp_all; done)
          refine sA_n ?_
          refine a_ret ?_
          obtain rfl := Option.some.inj H
          refine e_r2 (d := ?zd3) ?_ ?_
          rotate_left
          · simp only [EVT, resR, single, evLoad, cut, TIS, CS, Nat.reduceAdd, Nat.reduceEqDiff, ↓reduceIte, reduceCtorEq, Nat.reduceLT, Nat.reduceLeDiff, Nat.reduceSub, Nat.reduceBEq, zc2]
            (repeat' apply And.intro) <;> first | rfl | assumption | omega | (simp; done)
          exact (.tup' (.cons (.agg' (.cons (.int' rfl) (.cons (.lst _ _ _ (ci_pu .i64) rfl) (.cons (.int' rfl) (.cons (.int' rfl) (.cons (.int' rfl) (.cons (.lst _ _ _ Entry.pu rfl) (.cons (.int' rfl) (.cons (.lst _ _ _ (ci_pu .i64) rfl) (.cons (.lst _ _ _ (ci_pu .i64) rfl) (.cons (.lst _ _ _ (ci_pu .i64) rfl) .nil))))))))))) (.cons (.bool' (by first | rfl | assumption | (simp_all; done))) .nil)))
def law14_seat_f : Option Seat :=
  some ((⟨2, [1, 2, 3], 4, (-1), 1, [(⟨1, []⟩ : Entry), (⟨3, []⟩ : Entry)], 1, [], [], []⟩ : Seat))
set_option maxHeartbeats 4000000 in
set_option maxRecDepth 20000 in
theorem law14_seat_pc {r : Seat} (H : law14_seat_f = some r) : PC Try.prog 25 [] (.agg (Seat.c r)) := by
  refine pcA_of Try.func25 (by rfl) (by decide) 6 (by rfl) [.cell 0 25] (by rfl) ?_
  unfold law14_seat_f at H
  simp only [ent]
  refine a_seq ?_
  refine a_reg _ rfl (s := ?zs1) ?_ ?_
  rotate_left
  · simp (maxSteps := 2000000) only [EVT, stepR, evOp, St.ev, St.app, St.put, wrs, allOne, TIS, CS, Nat.reduceAdd, Nat.reduceMul, Nat.reduceEqDiff, ↓reduceIte, reduceCtorEq, Nat.reduceLT, Nat.reduceLeDiff]
    (repeat' apply And.intro) <;> first | rfl | assumption | omega | (simp; done) | (simp; omega) | (simp_all; done)
  refine sA_n ?_
  refine a_seq ?_
  refine a_reg _ rfl (s := ?zs2) ?_ ?_
  rotate_left
  · simp (maxSteps := 2000000) only [EVT, stepR, evOp, St.ev, St.app, St.put, wrs, datOf, datOf1, allOne, fillD, setR, evStore, TIS, CS, Nat.reduceAdd, Nat.reduceMul, Nat.reduceEqDiff, ↓reduceIte, reduceCtorEq, Nat.reduceLT, Nat.reduceLeDiff, Nat.reduceSub, Nat.reduceBEq]
    (repeat' apply And.intro) <;> first | rfl | assumption | omega | (simp; done) | (simp; omega) | (simp_all; done)
  refine sA_n ?_
  refine a_ret ?_
  obtain rfl := Option.some.inj H
  refine e_r2 (d := ?zd1) ?_ ?_
  rotate_left
  · simp only [EVT, resR, single, evLoad, cut, TIS, CS, Nat.reduceAdd, Nat.reduceEqDiff, ↓reduceIte, reduceCtorEq, Nat.reduceLT, Nat.reduceLeDiff, Nat.reduceSub, Nat.reduceBEq]
    (repeat' apply And.intro) <;> first | rfl | assumption | omega | (simp; done)
  exact (.agg' (.cons (.int' rfl) (.cons (.ownL (by rfl) (fun e => by cases e) rfl (by first | rfl | omega | (simp; done) | (simp_all; done)) (.same _ _ (ci_pu .i64) (by first | rfl | (simp only [List.map_append, List.map_cons, List.map_nil, List.map_set, List.map_take, List.map_drop, List.map_replicate, List.append_assoc, List.nil_append, List.append_nil, ci_eq, cb_eq, cs_eq, cl_eq, CS,  List.nil_append]; done) | (simp [CS,  ci_eq, cb_eq, cs_eq, cl_eq]; done)))) (.cons (.int' rfl) (.cons (.int' rfl) (.cons (.int' rfl) (.cons (.ownL (by rfl) (fun e => by cases e) rfl (by first | rfl | omega | (simp; done) | (simp_all; done)) (by (simp only [List.map_append, List.map_cons, List.map_nil, List.map_set, List.map_take, List.map_drop, List.map_replicate, List.append_assoc, List.nil_append, List.append_nil, ci_eq, cb_eq, cs_eq, cl_eq, CS, List.nil_append]); repeat' (first | exact PL.nil | exact PurRs.nil | exact .int' rfl | exact .bool' rfl | exact .str' rfl | exact .nil _ | exact .lst _ _ _ (by first | exact ci_pu _ | exact cb_pu | exact cs_pu | exact Entry.pu | exact Seat.pu | exact Call30.pu | exact cl_pu (by first | exact ci_pu _ | exact cb_pu | exact cs_pu | exact Entry.pu | exact Seat.pu | exact Call30.pu | exact cl_pu (ci_pu _))) rfl | exact PL.same _ _ (by first | exact ci_pu _ | exact cb_pu | exact cs_pu | exact Entry.pu | exact Seat.pu | exact Call30.pu | exact cl_pu (by first | exact ci_pu _ | exact cb_pu | exact cs_pu | exact Entry.pu | exact Seat.pu | exact Call30.pu | exact cl_pu (ci_pu _))) (by first | rfl | (simp only [List.map_append, List.map_cons, List.map_nil, List.map_set, List.map_take, List.map_drop, List.map_replicate, List.append_assoc, List.nil_append, List.append_nil]; rfl)) | (refine PurRs.cons ?_ ?_) | (refine PL.cons ?_ ?_) | (refine .ownL rfl (by first | exact (fun e => by cases e) | exact (fun _ => rfl)) rfl (by first | rfl | omega | (simp; done) | (simp_all; done)) ?_) | (refine PL.app ?_ ?_)))) (.cons (.int' rfl) (.cons (.nil _) (.cons (.nil _) (.cons (.nil _) .nil)))))))))))
end
end Go.Proofs.Ytecdonbjabjaeaa
