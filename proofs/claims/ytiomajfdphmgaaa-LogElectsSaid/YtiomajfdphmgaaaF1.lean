/- Functions of the program as Lean functions, and that they are so; printed by a program of mine. -/
import Derived.Test.YtiomajfdphmgaaaTy
set_option linter.unusedSimpArgs false
set_option linter.unusedVariables false
namespace Go.Proofs.Ytiomajfdphmgaaa
open Go.Ab
noncomputable section

def slices_Clone_f (s1 : List Entry) : Option (List Entry) :=
  nilq s1 (some (([] : List Entry))) (chk ((0 + s1.length) * 32 ≤ 140737488355328) (some ((([] : List Entry) ++ s1))))
set_option maxHeartbeats 4000000 in
set_option maxRecDepth 20000 in
theorem slices_Clone_rc {s1 : List Entry} {r : (List Entry)} (H : slices_Clone_f s1 = some r) : RC Try.prog 26 [.list 2 (s1.map Entry.c)] [] 0 (.ref 0 0 r.length 2) [some ⟨34, 2, false, r.map Entry.c⟩] := by
  refine rcA_of Try.func26 (by rfl) (by decide) 8 (by rfl) [.tmp 2] (by rfl) ?_
  unfold slices_Clone_f at H
  simp only [hent, List.length_cons, List.length_nil, Nat.reduceAdd]
  refine a_seq ?_
  refine a_reg _ rfl (s := ?zs1) ?_ ?_
  rotate_left
  · simp (maxSteps := 2000000) only [EVT, stepR, evOp, St.ev, St.app, St.put, wrs, datOf, datOf1, TIS, CS, Nat.reduceAdd, Nat.reduceMul, Nat.reduceEqDiff, ↓reduceIte, reduceCtorEq, Nat.reduceLT, Nat.reduceLeDiff]
    (repeat' apply And.intro) <;> first | rfl | assumption | omega | (simp; done) | (simp; omega) | (simp_all; done)
  refine sA_n ?_
  refine a_seq ?_
  refine a_seq ?_
  obtain ⟨zh1a, zh1b⟩ := nilq_some H
  refine a_reg2 _ rfl (s1 = []) (s1 := ?zs2a) (s2 := ?zs2b) ?_ ?_ ?_
  rotate_left 2
  · simp (maxSteps := 2000000) only [EVT, stepR, evOp, St.ev, St.app, St.put, wrs, datOf, datOf1, evBin, binInt, TIS, CS, Nat.reduceAdd, Nat.reduceMul, Nat.reduceEqDiff, ↓reduceIte, reduceCtorEq, Nat.reduceLT, Nat.reduceLeDiff]
    refine nilq_list rfl Try.underlying22 rfl ?_ ?_
    · intro zb
      simp only [St.put, Nat.reduceLT, Nat.reduceLeDiff, ↓reduceIte]
      try simp (maxSteps := 2000000) only [EVT, stepR, evOp, St.ev, St.app, St.put, wrs, datOf, datOf1, evBin, binInt, TIS, CS, Nat.reduceAdd, Nat.reduceMul, Nat.reduceEqDiff, ↓reduceIte, reduceCtorEq, Nat.reduceLT, Nat.reduceLeDiff]
      refine .inl ⟨by simpa using zb, ?_⟩
      rfl
    · simp only [St.put, Nat.reduceLT, Nat.reduceLeDiff, ↓reduceIte]
      try simp (maxSteps := 2000000) only [EVT, stepR, evOp, St.ev, St.app, St.put, wrs, datOf, datOf1, evBin, binInt, TIS, CS, Nat.reduceAdd, Nat.reduceMul, Nat.reduceEqDiff, ↓reduceIte, reduceCtorEq, Nat.reduceLT, Nat.reduceLeDiff]
      refine .inr ?_
      rfl
  · intro zn; have H := zh1a zn
    refine sA_n ?_
    refine a_condb true (by first | rfl | (simp only [EVT, St.ev, datOf, datOf1, Nat.reduceEqDiff, ↓reduceIte]; done) | (simp only [EVT, St.ev, datOf, datOf1, Nat.reduceEqDiff, ↓reduceIte]; rfl) | (simp only [EVT, St.ev, datOf, datOf1, Nat.reduceEqDiff, ↓reduceIte]; simp_all; done)) (fun zc1 => ?_) (fun zc1 => absurd zc1 (by decide))
    refine a_seq ?_
    refine a_reg _ rfl (s := ?zs3) ?_ ?_
    rotate_left
    · simp (maxSteps := 2000000) only [EVT, stepR, evOp, St.ev, St.app, St.put, wrs, datOf, datOf1, TIS, CS, Nat.reduceAdd, Nat.reduceMul, Nat.reduceEqDiff, ↓reduceIte, reduceCtorEq, Nat.reduceLT, Nat.reduceLeDiff]
      (repeat' apply And.intro) <;> first | rfl | assumption | omega | (simp; done) | (simp; omega) | (simp_all; done)
    refine sA_n ?_
    refine a_ret ?_
    refine sA_r ?_
    obtain rfl := Option.some.inj H
    refine eR_r ?_
    refine wk_ln 0 [(none, ⟨34, 2, false, ([] : List Entry).map Entry.c⟩)] [] [(2, .ref 0 0 ([] : List Entry).length 2)] (fun i h => absurd h (Nat.not_lt_zero i)) (by show ([2] : List Nat).Nodup; decide) (by show ([] : List Nat).Nodup; decide) ?_ ?_ (fun t0 => ⟨by first | rfl | (simp only [EVT, resR, single, evLoad, cut, TIS, CS, Nat.reduceAdd, Nat.reduceEqDiff, ↓reduceIte, reduceCtorEq, Nat.reduceLT, Nat.reduceLeDiff, Nat.reduceSub, Nat.reduceBEq]; (repeat' apply And.intro) <;> first | rfl | (simp; done)), fun j B h => by rcases j with _ | _ <;> first | exact h | (exact absurd h (by simp [hh]))⟩)
    · exact (allB_none rfl trivial)
    · (simp only [AllT, tl_cons, tl_nil, upd_apply, List.getD_cons_zero, List.getD_cons_succ, Nat.reduceEqDiff, ↓reduceIte, and_true]); exact (.nilv _ _ rfl rfl)
  · have H := zh1b
    refine sA_n ?_
    refine a_condb false (by first | rfl | (simp only [EVT, St.ev, datOf, datOf1, Nat.reduceEqDiff, ↓reduceIte]; done) | (simp only [EVT, St.ev, datOf, datOf1, Nat.reduceEqDiff, ↓reduceIte]; rfl) | (simp only [EVT, St.ev, datOf, datOf1, Nat.reduceEqDiff, ↓reduceIte]; simp_all; done)) (fun zc2 => absurd zc2 (by decide)) (fun zc2 => ?_)
    refine a_skip ?_
    refine sA_n ?_
    refine a_seq ?_
    obtain ⟨zh2, H⟩ := chk_some H
    refine a_reg _ rfl (s := ?zs4) ?_ ?_
    rotate_left
    · simp (maxSteps := 2000000) only [EVT, stepR, evOp, St.ev, St.app, St.put, wrs, allOne, evBuiltin, evAppend, elems, Option.elim, TIS, CS, Nat.reduceAdd, Nat.reduceMul, Nat.reduceEqDiff, ↓reduceIte, reduceCtorEq, Nat.reduceLT, Nat.reduceLeDiff, Nat.reduceSub, Nat.reduceBEq]
      (repeat' apply And.intro) <;> first | rfl | assumption | omega | (simp; done) | (simp; omega) | (simp_all; done)
    refine sA_n ?_
    refine a_ret ?_
    obtain rfl := Option.some.inj H
    refine eR_r ?_
    refine wk_ln 0 [(some 26, ⟨34, 2, false, (([] : List Entry) ++ s1).map Entry.c⟩)] [] [(2, .ref 0 0 (([] : List Entry) ++ s1).length 2)] (fun i h => absurd h (Nat.not_lt_zero i)) (by show ([2] : List Nat).Nodup; decide) (by show ([26] : List Nat).Nodup; decide) ?_ ?_ (fun t0 => ⟨by first | rfl | (simp only [EVT, resR, single, evLoad, cut, TIS, CS, Nat.reduceAdd, Nat.reduceEqDiff, ↓reduceIte, reduceCtorEq, Nat.reduceLT, Nat.reduceLeDiff, Nat.reduceSub, Nat.reduceBEq]; (repeat' apply And.intro) <;> first | rfl | (simp; done)), fun j B h => by rcases j with _ | _ <;> first | exact h | (exact absurd h (by simp [hh]))⟩)
    · exact (allB_some (by rfl) rfl (.same _ _ Entry.pu (by first | rfl | (simp only [List.map_append, List.map_cons, List.map_nil, List.map_set, List.map_take, List.map_drop, List.map_replicate, List.append_assoc, List.nil_append, List.append_nil, ci_eq, cb_eq, cs_eq, cl_eq, CS,  List.nil_append]; done) | (simp [CS,  ci_eq, cb_eq, cs_eq, cl_eq]; done) | (simp [CS,  ci_eq, cb_eq, cs_eq, cl_eq]; intro hz; rw [List.take_of_length_le (by simp; omega)]))) trivial)
    · (simp only [AllT, tl_cons, tl_nil, upd_apply, List.getD_cons_zero, List.getD_cons_succ, Nat.reduceEqDiff, ↓reduceIte, and_true]); exact (.refl' (by first | rfl | omega | (simp; done) | (simp; omega) | (simp_all; done)) rfl)
def bytes_Equal_f (a1 : List Int) (b1 : List Int) : Option Bool :=
  some (((strOfNums a1).toList == (strOfNums b1).toList))
set_option maxHeartbeats 4000000 in
set_option maxRecDepth 20000 in
theorem bytes_Equal_pc {a1 : List Int} {b1 : List Int} {r : Bool} (H : bytes_Equal_f a1 b1 = some r) : PC Try.prog 32 [.list 1 (a1.map (ci .u8)), .list 1 (b1.map (ci .u8))] (.bool r) := by
  refine pcA_of Try.func32 (by rfl) (by decide) 10 (by rfl) [.tmp 4] (by rfl) ?_
  unfold bytes_Equal_f at H
  simp only [ent]
  refine a_seq ?_
  refine a_reg _ rfl (s := ?zs1) ?_ ?_
  rotate_left
  · simp (maxSteps := 2000000) only [EVT, stepR, evOp, St.ev, St.app, St.put, wrs, datOf, datOf1, TIS, CS, Nat.reduceAdd, Nat.reduceMul, Nat.reduceEqDiff, ↓reduceIte, reduceCtorEq, Nat.reduceLT, Nat.reduceLeDiff]
    (repeat' apply And.intro) <;> first | rfl | assumption | omega | (simp; done) | (simp; omega) | (simp_all; done)
  refine sA_n ?_
  refine a_seq ?_
  refine a_reg _ rfl (s := ?zs2) ?_ ?_
  rotate_left
  · simp (maxSteps := 2000000) only [EVT, stepR, evOp, St.ev, St.app, St.put, wrs, evToStr, elems, evBin, binInt, TIS, CS, Nat.reduceAdd, Nat.reduceMul, Nat.reduceEqDiff, ↓reduceIte, reduceCtorEq, Nat.reduceLT, Nat.reduceLeDiff]
    (repeat' apply And.intro) <;> first | rfl | assumption | omega | (simp; done) | (simp; omega) | (simp_all; done)
  refine sA_n ?_
  refine a_ret ?_
  obtain rfl := Option.some.inj H
  refine e_r2 (d := ?zd1) ?_ ?_
  rotate_left
  · simp only [EVT, resR, single, evLoad, cut, TIS, CS, Nat.reduceAdd, Nat.reduceEqDiff, ↓reduceIte, reduceCtorEq, Nat.reduceLT, Nat.reduceLeDiff, Nat.reduceSub, Nat.reduceBEq]
    (repeat' apply And.intro) <;> first | rfl | assumption | omega | (simp; done)
  exact (.bool' rfl)
def log_Fits_J1 (at1 : Int) (term1 : Int) (l1 : List Entry) (v1 : Bool) : Option Bool :=
  cond v1 (some (false)) (cond (at1 == 0) (some ((term1 == 0))) ((idx l1 (IntKind.wrap .i64 (at1 - 1))).bind fun x1 => some ((x1.term == term1))))
def log_Fits_f (l1 : List Entry) (at1 : Int) (term1 : Int) : Option Bool :=
  log_Fits_J1 at1 term1 l1 ((decide (at1 < 0)) || (decide ((l1.length : Int) < at1)))
set_option maxHeartbeats 4000000 in
set_option maxRecDepth 20000 in
theorem log_Fits_pc {l1 : List Entry} {at1 : Int} {term1 : Int} {r : Bool} (H : log_Fits_f l1 at1 term1 = some r) : PC Try.prog 14 [.list 2 (l1.map Entry.c), .int .i64 at1, .int .i64 term1] (.bool r) := by
  refine pcA_of Try.func14 (by rfl) (by decide) 29 (by rfl) [.tmp 6] (by rfl) ?_
  unfold log_Fits_f at H
  simp only [ent]
  refine a_seq ?_
  refine a_reg _ rfl (s := ?zs1) ?_ ?_
  rotate_left
  · simp (maxSteps := 2000000) only [EVT, stepR, evOp, St.ev, St.app, St.put, wrs, datOf, datOf1, TIS, CS, Nat.reduceAdd, Nat.reduceMul, Nat.reduceEqDiff, ↓reduceIte, reduceCtorEq, Nat.reduceLT, Nat.reduceLeDiff]
    (repeat' apply And.intro) <;> first | rfl | assumption | omega | (simp; done) | (simp; omega) | (simp_all; done)
  refine sA_n ?_
  refine a_seq ?_
  refine a_blk ?_
  refine a_cut (fun s => ∃ (v1 : Bool) (t0 : Nat → Dat), log_Fits_J1 at1 term1 l1 v1 = some r ∧ s = ⟨tl t0 [(0, .list 2 (l1.map Entry.c)), (1, .int .i64 at1), (2, .int .i64 term1), (7, .bool v1)], hl [], 0, 29⟩) ?_ ?_
  · refine bool_split (b := (decide (at1 < 0))) (fun zc3 => ?_) (fun zc3 => ?_)
    · rw [zc3] at H
      refine a_reg _ rfl (s := ?zs6) ?_ ?_
      rotate_left
      · simp (maxSteps := 2000000) only [EVT, stepR, evOp, St.ev, St.app, St.put, wrs, datOf, datOf1, evBin, binInt, evBuiltin, TIS, CS, Nat.reduceAdd, Nat.reduceMul, Nat.reduceEqDiff, ↓reduceIte, reduceCtorEq, Nat.reduceLT, Nat.reduceLeDiff, Array.reduceGetElem?, Nat.reduceSub, Nat.reduceBEq, ↓zc3]
        try simp (maxSteps := 2000000) only [EVT, stepR, evOp, St.ev, St.app, St.put, wrs, datOf, datOf1, evBin, binInt, evBuiltin, TIS, CS, Nat.reduceAdd, Nat.reduceMul, Nat.reduceEqDiff, ↓reduceIte, reduceCtorEq, Nat.reduceLT, Nat.reduceLeDiff, Array.reduceGetElem?, Nat.reduceSub, Nat.reduceBEq, ↓zc3]
        (repeat' apply And.intro) <;> first | rfl | assumption | omega | (simp; done) | (simp; omega) | (simp_all; done)
      refine cA_n ?_
      refine wk_l [] [] [(0, .list 2 (l1.map Entry.c)), (1, .int .i64 at1), (2, .int .i64 term1), (7, .bool true)] (by show ([0, 1, 2, 7] : List Nat).Nodup; decide) (by show ([] : List Nat).Nodup; decide) ?_ ?_ (fun t0 => ⟨true, t0, H, rfl⟩)
      · exact trivial
      · (simp only [AllT, tl_cons, tl_nil, upd_apply, List.getD_cons_zero, List.getD_cons_succ, Nat.reduceEqDiff, ↓reduceIte, and_true]); exact ⟨(.lst _ _ _ Entry.pu rfl), (.int' rfl), (.int' rfl), (.bool' (by first | rfl | assumption | (simp_all; done)))⟩
    · rw [zc3] at H
      refine a_reg _ rfl (s := ?zs7) ?_ ?_
      rotate_left
      · simp (maxSteps := 2000000) only [EVT, stepR, evOp, St.ev, St.app, St.put, wrs, datOf, datOf1, evBin, binInt, evBuiltin, TIS, CS, Nat.reduceAdd, Nat.reduceMul, Nat.reduceEqDiff, ↓reduceIte, reduceCtorEq, Nat.reduceLT, Nat.reduceLeDiff, Array.reduceGetElem?, Nat.reduceSub, Nat.reduceBEq, ↓zc3]
        try simp (maxSteps := 2000000) only [EVT, stepR, evOp, St.ev, St.app, St.put, wrs, datOf, datOf1, evBin, binInt, evBuiltin, TIS, CS, Nat.reduceAdd, Nat.reduceMul, Nat.reduceEqDiff, ↓reduceIte, reduceCtorEq, Nat.reduceLT, Nat.reduceLeDiff, Array.reduceGetElem?, Nat.reduceSub, Nat.reduceBEq, ↓zc3]
        (repeat' apply And.intro) <;> first | rfl | assumption | omega | (simp; done) | (simp; omega) | (simp_all; done)
      refine cA_n ?_
      refine wk_l [] [] [(0, .list 2 (l1.map Entry.c)), (1, .int .i64 at1), (2, .int .i64 term1), (7, .bool (decide ((l1.length : Int) < at1)))] (by show ([0, 1, 2, 7] : List Nat).Nodup; decide) (by show ([] : List Nat).Nodup; decide) ?_ ?_ (fun t0 => ⟨(decide ((l1.length : Int) < at1)), t0, H, rfl⟩)
      · exact trivial
      · (simp only [AllT, tl_cons, tl_nil, upd_apply, List.getD_cons_zero, List.getD_cons_succ, Nat.reduceEqDiff, ↓reduceIte, and_true]); exact ⟨(.lst _ _ _ Entry.pu rfl), (.int' rfl), (.int' rfl), (.bool' rfl)⟩
  · rintro s ⟨v1, t0, H, rfl⟩
    unfold log_Fits_J1 at H
    refine a_condb (v1) (by rfl) (fun zc1 => ?_) (fun zc1 => ?_)
    · have H := cond_t zc1 H
      refine a_seq ?_
      refine a_reg _ rfl (s := ?zs2) ?_ ?_
      rotate_left
      · simp (maxSteps := 2000000) only [EVT, stepR, evOp, St.ev, St.app, St.put, wrs, datOf, datOf1, TIS, CS, Nat.reduceAdd, Nat.reduceMul, Nat.reduceEqDiff, ↓reduceIte, reduceCtorEq, Nat.reduceLT, Nat.reduceLeDiff, ↓zc1]
        (repeat' apply And.intro) <;> first | rfl | assumption | omega | (simp; done) | (simp; omega) | (simp_all; done)
      refine sA_n ?_
      refine a_ret ?_
      refine bA_r ?_
      refine sA_r ?_
      obtain rfl := Option.some.inj H
      refine e_r2 (d := ?zd1) ?_ ?_
      rotate_left
      · simp only [EVT, resR, single, evLoad, cut, TIS, CS, Nat.reduceAdd, Nat.reduceEqDiff, ↓reduceIte, reduceCtorEq, Nat.reduceLT, Nat.reduceLeDiff, Nat.reduceSub, Nat.reduceBEq, zc1]
        (repeat' apply And.intro) <;> first | rfl | assumption | omega | (simp; done)
      exact (.bool' (by first | rfl | assumption | (simp_all; done)))
    · have H := cond_f zc1 H
      refine a_seq ?_
      refine a_reg _ rfl (s := ?zs3) ?_ ?_
      rotate_left
      · simp (maxSteps := 2000000) only [EVT, stepR, evOp, St.ev, St.app, St.put, wrs, datOf, datOf1, evBin, binInt, TIS, CS, Nat.reduceAdd, Nat.reduceMul, Nat.reduceEqDiff, ↓reduceIte, reduceCtorEq, Nat.reduceLT, Nat.reduceLeDiff, ↓zc1]
        (repeat' apply And.intro) <;> first | rfl | assumption | omega | (simp; done) | (simp; omega) | (simp_all; done)
      refine sA_n ?_
      refine a_condb ((at1 == 0)) (by rfl) (fun zc2 => ?_) (fun zc2 => ?_)
      · have H := cond_t zc2 H
        refine a_seq ?_
        refine a_reg _ rfl (s := ?zs4) ?_ ?_
        rotate_left
        · simp (maxSteps := 2000000) only [EVT, stepR, evOp, St.ev, St.app, St.put, wrs, datOf, datOf1, evBin, binInt, TIS, CS, Nat.reduceAdd, Nat.reduceMul, Nat.reduceEqDiff, ↓reduceIte, reduceCtorEq, Nat.reduceLT, Nat.reduceLeDiff, ↓zc1, ↓zc2]
          (repeat' apply And.intro) <;> first | rfl | assumption | omega | (simp; done) | (simp; omega) | (simp_all; done)
        refine sA_n ?_
        refine a_ret ?_
        refine bA_r ?_
        refine sA_r ?_
        obtain rfl := Option.some.inj H
        refine e_r2 (d := ?zd2) ?_ ?_
        rotate_left
        · simp only [EVT, resR, single, evLoad, cut, TIS, CS, Nat.reduceAdd, Nat.reduceEqDiff, ↓reduceIte, reduceCtorEq, Nat.reduceLT, Nat.reduceLeDiff, Nat.reduceSub, Nat.reduceBEq, zc1, zc2]
          (repeat' apply And.intro) <;> first | rfl | assumption | omega | (simp; done)
        exact (.bool' rfl)
      · have H := cond_f zc2 H
        refine a_skip ?_
        refine bA_n ?_
        refine sA_n ?_
        refine a_seq ?_
        obtain ⟨x1, zh1, H⟩ := bind_some H
        have zg1 := idx_map zh1 Entry.c
        try simp only [Int.reduceToNat] at zg1
        obtain ⟨zh1a, zh1b, _⟩ := idx_some zh1
        refine a_reg _ rfl (s := ?zs5) ?_ ?_
        rotate_left
        · simp (maxSteps := 2000000) only [EVT, stepR, evOp, St.ev, St.app, St.put, wrs, datOf, datOf1, evBin, binInt, evIndexAddr, evFieldAddr, evLoad, cut, TIS, CS, Nat.reduceAdd, Nat.reduceMul, Nat.reduceEqDiff, ↓reduceIte, reduceCtorEq, Nat.reduceLT, Nat.reduceLeDiff, Int.reduceToNat, Nat.reduceSub, Nat.reduceBEq, ↓zc1, ↓zc2, zg1]
          (repeat' apply And.intro) <;> first | rfl | assumption | omega | (simp; done) | (simp; omega) | (simp_all; done)
        refine sA_n ?_
        refine a_ret ?_
        obtain rfl := Option.some.inj H
        refine e_r2 (d := ?zd3) ?_ ?_
        rotate_left
        · simp only [EVT, resR, single, evLoad, cut, TIS, CS, Nat.reduceAdd, Nat.reduceEqDiff, ↓reduceIte, reduceCtorEq, Nat.reduceLT, Nat.reduceLeDiff, Nat.reduceSub, Nat.reduceBEq, zc1, zc2, zg1]
          (repeat' apply And.intro) <;> first | rfl | assumption | omega | (simp; done)
        exact (.bool' rfl)
def ref13_Term_f (l1 : List Entry) (at1 : Int) : Option Int :=
  cond (at1 == 0) (some (0)) ((idx l1 (IntKind.wrap .i64 (at1 - 1))).bind fun x1 => some (x1.term))
set_option maxHeartbeats 4000000 in
set_option maxRecDepth 20000 in
theorem ref13_Term_pc {l1 : List Entry} {at1 : Int} {r : Int} (H : ref13_Term_f l1 at1 = some r) : PC Try.prog 22 [.list 2 (l1.map Entry.c), .int .i64 at1] (.int .i64 r) := by
  refine pcA_of Try.func22 (by rfl) (by decide) 13 (by rfl) [.tmp 4] (by rfl) ?_
  unfold ref13_Term_f at H
  simp only [ent]
  refine a_seq ?_
  refine a_reg _ rfl (s := ?zs1) ?_ ?_
  rotate_left
  · simp (maxSteps := 2000000) only [EVT, stepR, evOp, St.ev, St.app, St.put, wrs, datOf, datOf1, TIS, CS, Nat.reduceAdd, Nat.reduceMul, Nat.reduceEqDiff, ↓reduceIte, reduceCtorEq, Nat.reduceLT, Nat.reduceLeDiff]
    (repeat' apply And.intro) <;> first | rfl | assumption | omega | (simp; done) | (simp; omega) | (simp_all; done)
  refine sA_n ?_
  refine a_seq ?_
  refine a_seq ?_
  refine a_reg _ rfl (s := ?zs2) ?_ ?_
  rotate_left
  · simp (maxSteps := 2000000) only [EVT, stepR, evOp, St.ev, St.app, St.put, wrs, datOf, datOf1, evBin, binInt, TIS, CS, Nat.reduceAdd, Nat.reduceMul, Nat.reduceEqDiff, ↓reduceIte, reduceCtorEq, Nat.reduceLT, Nat.reduceLeDiff]
    (repeat' apply And.intro) <;> first | rfl | assumption | omega | (simp; done) | (simp; omega) | (simp_all; done)
  refine sA_n ?_
  refine a_condb ((at1 == 0)) (by rfl) (fun zc1 => ?_) (fun zc1 => ?_)
  · have H := cond_t zc1 H
    refine a_seq ?_
    refine a_reg _ rfl (s := ?zs3) ?_ ?_
    rotate_left
    · simp (maxSteps := 2000000) only [EVT, stepR, evOp, St.ev, St.app, St.put, wrs, datOf, datOf1, TIS, CS, Nat.reduceAdd, Nat.reduceMul, Nat.reduceEqDiff, ↓reduceIte, reduceCtorEq, Nat.reduceLT, Nat.reduceLeDiff, ↓zc1]
      (repeat' apply And.intro) <;> first | rfl | assumption | omega | (simp; done) | (simp; omega) | (simp_all; done)
    refine sA_n ?_
    refine a_ret ?_
    refine sA_r ?_
    obtain rfl := Option.some.inj H
    refine e_r2 (d := ?zd1) ?_ ?_
    rotate_left
    · simp only [EVT, resR, single, evLoad, cut, TIS, CS, Nat.reduceAdd, Nat.reduceEqDiff, ↓reduceIte, reduceCtorEq, Nat.reduceLT, Nat.reduceLeDiff, Nat.reduceSub, Nat.reduceBEq, zc1]
      (repeat' apply And.intro) <;> first | rfl | assumption | omega | (simp; done)
    exact (.int' rfl)
  · have H := cond_f zc1 H
    refine a_skip ?_
    refine sA_n ?_
    refine a_seq ?_
    obtain ⟨x1, zh1, H⟩ := bind_some H
    have zg1 := idx_map zh1 Entry.c
    try simp only [Int.reduceToNat] at zg1
    obtain ⟨zh1a, zh1b, _⟩ := idx_some zh1
    refine a_reg _ rfl (s := ?zs4) ?_ ?_
    rotate_left
    · simp (maxSteps := 2000000) only [EVT, stepR, evOp, St.ev, St.app, St.put, wrs, datOf, datOf1, evBin, binInt, evIndexAddr, evFieldAddr, evLoad, cut, TIS, CS, Nat.reduceAdd, Nat.reduceMul, Nat.reduceEqDiff, ↓reduceIte, reduceCtorEq, Nat.reduceLT, Nat.reduceLeDiff, Int.reduceToNat, Nat.reduceSub, Nat.reduceBEq, ↓zc1, zg1]
      (repeat' apply And.intro) <;> first | rfl | assumption | omega | (simp; done) | (simp; omega) | (simp_all; done)
    refine sA_n ?_
    refine a_ret ?_
    obtain rfl := Option.some.inj H
    refine e_r2 (d := ?zd2) ?_ ?_
    rotate_left
    · simp only [EVT, resR, single, evLoad, cut, TIS, CS, Nat.reduceAdd, Nat.reduceEqDiff, ↓reduceIte, reduceCtorEq, Nat.reduceLT, Nat.reduceLeDiff, Nat.reduceSub, Nat.reduceBEq, zc1, zg1]
      (repeat' apply And.intro) <;> first | rfl | assumption | omega | (simp; done)
    exact (.int' rfl)
def ref13_Fits_f (l1 : List Entry) (at1 : Int) (term1 : Int) : Option Bool :=
  cond (decide (0 ≤ at1)) (cond (decide (at1 ≤ (l1.length : Int))) ((ref13_Term_f l1 at1).bind fun r1 => some ((r1 == term1))) (some (false))) (some (false))
set_option maxHeartbeats 4000000 in
set_option maxRecDepth 20000 in
theorem ref13_Fits_pc {l1 : List Entry} {at1 : Int} {term1 : Int} {r : Bool} (H : ref13_Fits_f l1 at1 term1 = some r) : PC Try.prog 15 [.list 2 (l1.map Entry.c), .int .i64 at1, .int .i64 term1] (.bool r) := by
  refine pcA_of Try.func15 (by rfl) (by decide) 22 (by rfl) [.tmp 6] (by rfl) ?_
  unfold ref13_Fits_f at H
  simp only [ent]
  refine a_seq ?_
  refine a_reg _ rfl (s := ?zs1) ?_ ?_
  rotate_left
  · simp (maxSteps := 2000000) only [EVT, stepR, evOp, St.ev, St.app, St.put, wrs, datOf, datOf1, TIS, CS, Nat.reduceAdd, Nat.reduceMul, Nat.reduceEqDiff, ↓reduceIte, reduceCtorEq, Nat.reduceLT, Nat.reduceLeDiff]
    (repeat' apply And.intro) <;> first | rfl | assumption | omega | (simp; done) | (simp; omega) | (simp_all; done)
  refine sA_n ?_
  refine a_seq ?_
  refine bool_split (b := (decide (0 ≤ at1))) (fun zc1 => ?_) (fun zc1 => ?_)
  · have H := cond_t zc1 H
    refine bool_split (b := (decide (at1 ≤ (l1.length : Int)))) (fun zc2 => ?_) (fun zc2 => ?_)
    · have H := cond_t zc2 H
      obtain ⟨r1, zh1, H⟩ := bind_some H
      have zk1 := ref13_Term_pc zh1
      refine a_reg _ rfl (s := ?zs2) ?_ ?_
      rotate_left
      · try simp (maxSteps := 2000000) only [EVT, stepR, evOp, St.ev, St.app, St.put, wrs, datOf, datOf1, evBin, binInt, evBuiltin, frz, TIS, CS, Nat.reduceAdd, Nat.reduceMul, Nat.reduceEqDiff, ↓reduceIte, reduceCtorEq, Nat.reduceLT, Nat.reduceLeDiff, Array.reduceGetElem?, Nat.reduceSub, Nat.reduceBEq, ↓zc1, ↓zc2]
        repeat' with_reducible apply And.intro
        all_goals try ((with_reducible show CallR _ _ _ _ _ _ _); refine cR_s zk1 (.cons (.lst _ _ _ Entry.pu rfl) (.cons (.int' rfl) .nil)) (.int _ _) ?_; simp (maxSteps := 2000000) only [EVT, stepR, evOp, St.ev, St.app, St.put, wrs, datOf, datOf1, evBin, binInt, evBuiltin, frz, TIS, CS, Nat.reduceAdd, Nat.reduceMul, Nat.reduceEqDiff, ↓reduceIte, reduceCtorEq, Nat.reduceLT, Nat.reduceLeDiff, Array.reduceGetElem?, Nat.reduceSub, Nat.reduceBEq, ↓zc1, ↓zc2])
        all_goals ((repeat' apply And.intro) <;> first | rfl | assumption | omega | (simp; done) | (simp; omega) | (simp_all; done))
      refine sA_n ?_
      refine a_ret ?_
      obtain rfl := Option.some.inj H
      refine e_r2 (d := ?zd1) ?_ ?_
      rotate_left
      · simp only [EVT, resR, single, evLoad, cut, TIS, CS, Nat.reduceAdd, Nat.reduceEqDiff, ↓reduceIte, reduceCtorEq, Nat.reduceLT, Nat.reduceLeDiff, Nat.reduceSub, Nat.reduceBEq, zc1, zc2]
        (repeat' apply And.intro) <;> first | rfl | assumption | omega | (simp; done)
      exact (.bool' rfl)
    · have H := cond_f zc2 H
      refine a_reg _ rfl (s := ?zs3) ?_ ?_
      rotate_left
      · simp (maxSteps := 2000000) only [EVT, stepR, evOp, St.ev, St.app, St.put, wrs, datOf, datOf1, evBin, binInt, evBuiltin, frz, TIS, CS, Nat.reduceAdd, Nat.reduceMul, Nat.reduceEqDiff, ↓reduceIte, reduceCtorEq, Nat.reduceLT, Nat.reduceLeDiff, Array.reduceGetElem?, Nat.reduceSub, Nat.reduceBEq, ↓zc1, ↓zc2]
        try simp (maxSteps := 2000000) only [EVT, stepR, evOp, St.ev, St.app, St.put, wrs, datOf, datOf1, evBin, binInt, evBuiltin, frz, TIS, CS, Nat.reduceAdd, Nat.reduceMul, Nat.reduceEqDiff, ↓reduceIte, reduceCtorEq, Nat.reduceLT, Nat.reduceLeDiff, Array.reduceGetElem?, Nat.reduceSub, Nat.reduceBEq, ↓zc1, ↓zc2]
        (repeat' apply And.intro) <;> first | rfl | assumption | omega | (simp; done) | (simp; omega) | (simp_all; done)
      refine sA_n ?_
      refine a_ret ?_
      obtain rfl := Option.some.inj H
      refine e_r2 (d := ?zd2) ?_ ?_
      rotate_left
      · simp only [EVT, resR, single, evLoad, cut, TIS, CS, Nat.reduceAdd, Nat.reduceEqDiff, ↓reduceIte, reduceCtorEq, Nat.reduceLT, Nat.reduceLeDiff, Nat.reduceSub, Nat.reduceBEq, zc1, zc2]
        (repeat' apply And.intro) <;> first | rfl | assumption | omega | (simp; done)
      exact (.bool' (by first | rfl | assumption | (simp_all; done)))
  · have H := cond_f zc1 H
    refine a_reg _ rfl (s := ?zs4) ?_ ?_
    rotate_left
    · simp (maxSteps := 2000000) only [EVT, stepR, evOp, St.ev, St.app, St.put, wrs, datOf, datOf1, evBin, binInt, evBuiltin, frz, TIS, CS, Nat.reduceAdd, Nat.reduceMul, Nat.reduceEqDiff, ↓reduceIte, reduceCtorEq, Nat.reduceLT, Nat.reduceLeDiff, Array.reduceGetElem?, Nat.reduceSub, Nat.reduceBEq, ↓zc1]
      try simp (maxSteps := 2000000) only [EVT, stepR, evOp, St.ev, St.app, St.put, wrs, datOf, datOf1, evBin, binInt, evBuiltin, frz, TIS, CS, Nat.reduceAdd, Nat.reduceMul, Nat.reduceEqDiff, ↓reduceIte, reduceCtorEq, Nat.reduceLT, Nat.reduceLeDiff, Array.reduceGetElem?, Nat.reduceSub, Nat.reduceBEq, ↓zc1]
      (repeat' apply And.intro) <;> first | rfl | assumption | omega | (simp; done) | (simp; omega) | (simp_all; done)
    refine sA_n ?_
    refine a_ret ?_
    obtain rfl := Option.some.inj H
    refine e_r2 (d := ?zd3) ?_ ?_
    rotate_left
    · simp only [EVT, resR, single, evLoad, cut, TIS, CS, Nat.reduceAdd, Nat.reduceEqDiff, ↓reduceIte, reduceCtorEq, Nat.reduceLT, Nat.reduceLeDiff, Nat.reduceSub, Nat.reduceBEq, zc1]
      (repeat' apply And.intro) <;> first | rfl | assumption | omega | (simp; done)
    exact (.bool' (by first | rfl | assumption | (simp_all; done)))
def log_Newer_J1 (term1 : Int) (l1 : List Entry) (many1 : Int) (last1 : Int) : Option Bool :=
  some ((decide (last1 < term1)) || ((term1 == last1) && (decide ((l1.length : Int) ≤ many1))))
def log_Newer_f (l1 : List Entry) (term1 : Int) (many1 : Int) : Option Bool :=
  cond (decide (0 < (l1.length : Int))) ((idx l1 (IntKind.wrap .i64 ((l1.length : Int) - 1))).bind fun x1 => log_Newer_J1 term1 l1 many1 x1.term) (log_Newer_J1 term1 l1 many1 0)
set_option maxHeartbeats 4000000 in
set_option maxRecDepth 20000 in
theorem log_Newer_pc {l1 : List Entry} {term1 : Int} {many1 : Int} {r : Bool} (H : log_Newer_f l1 term1 many1 = some r) : PC Try.prog 17 [.list 2 (l1.map Entry.c), .int .i64 term1, .int .i64 many1] (.bool r) := by
  refine pcA_of Try.func17 (by rfl) (by decide) 33 (by rfl) [.tmp 6] (by rfl) ?_
  unfold log_Newer_f at H
  simp only [ent]
  refine a_seq ?_
  refine a_reg _ rfl (s := ?zs1) ?_ ?_
  rotate_left
  · simp (maxSteps := 2000000) only [EVT, stepR, evOp, St.ev, St.app, St.put, wrs, datOf, datOf1, TIS, CS, Nat.reduceAdd, Nat.reduceMul, Nat.reduceEqDiff, ↓reduceIte, reduceCtorEq, Nat.reduceLT, Nat.reduceLeDiff]
    (repeat' apply And.intro) <;> first | rfl | assumption | omega | (simp; done) | (simp; omega) | (simp_all; done)
  refine sA_n ?_
  refine a_seq ?_
  refine a_reg _ rfl (s := ?zs2) ?_ ?_
  rotate_left
  · simp (maxSteps := 2000000) only [EVT, stepR, evOp, St.ev, St.app, St.put, wrs, datOf, datOf1, TIS, CS, Nat.reduceAdd, Nat.reduceMul, Nat.reduceEqDiff, ↓reduceIte, reduceCtorEq, Nat.reduceLT, Nat.reduceLeDiff]
    (repeat' apply And.intro) <;> first | rfl | assumption | omega | (simp; done) | (simp; omega) | (simp_all; done)
  refine sA_n ?_
  refine a_cut (fun s => ∃ (last1 : Int) (t0 : Nat → Dat), log_Newer_J1 term1 l1 many1 last1 = some r ∧ s = ⟨tl t0 [(0, .list 2 (l1.map Entry.c)), (1, .int .i64 term1), (2, .int .i64 many1), (7, .int .i64 last1)], hl [], 0, 33⟩) ?_ ?_
  · refine a_seq ?_
    refine a_reg _ rfl (s := ?zs6) ?_ ?_
    rotate_left
    · simp (maxSteps := 2000000) only [EVT, stepR, evOp, St.ev, St.app, St.put, wrs, evBuiltin, TIS, CS, Nat.reduceAdd, Nat.reduceMul, Nat.reduceEqDiff, ↓reduceIte, reduceCtorEq, Nat.reduceLT, Nat.reduceLeDiff, Nat.reduceSub, Nat.reduceBEq]
      (repeat' apply And.intro) <;> first | rfl | assumption | omega | (simp; done) | (simp; omega) | (simp_all; done)
    refine sA_n ?_
    refine a_seq ?_
    refine a_reg _ rfl (s := ?zs7) ?_ ?_
    rotate_left
    · simp (maxSteps := 2000000) only [EVT, stepR, evOp, St.ev, St.app, St.put, wrs, datOf, datOf1, evBin, binInt, TIS, CS, Nat.reduceAdd, Nat.reduceMul, Nat.reduceEqDiff, ↓reduceIte, reduceCtorEq, Nat.reduceLT, Nat.reduceLeDiff]
      (repeat' apply And.intro) <;> first | rfl | assumption | omega | (simp; done) | (simp; omega) | (simp_all; done)
    refine sA_n ?_
    refine a_condb ((decide (0 < (l1.length : Int)))) (by rfl) (fun zc3 => ?_) (fun zc3 => ?_)
    · have H := cond_t zc3 H
      obtain ⟨x1, zh1, H⟩ := bind_some H
      have zg1 := idx_map zh1 Entry.c
      try simp only [Int.reduceToNat] at zg1
      obtain ⟨zh1a, zh1b, _⟩ := idx_some zh1
      refine a_reg _ rfl (s := ?zs8) ?_ ?_
      rotate_left
      · simp (maxSteps := 2000000) only [EVT, stepR, evOp, St.ev, St.app, St.put, wrs, datOf, datOf1, evBin, binInt, evIndexAddr, evFieldAddr, evLoad, cut, TIS, CS, Nat.reduceAdd, Nat.reduceMul, Nat.reduceEqDiff, ↓reduceIte, reduceCtorEq, Nat.reduceLT, Nat.reduceLeDiff, Int.reduceToNat, Nat.reduceSub, Nat.reduceBEq, ↓zc3, zg1]
        (repeat' apply And.intro) <;> first | rfl | assumption | omega | (simp; done) | (simp; omega) | (simp_all; done)
      refine cA_n ?_
      refine wk_l [] [] [(0, .list 2 (l1.map Entry.c)), (1, .int .i64 term1), (2, .int .i64 many1), (7, .int .i64 x1.term)] (by show ([0, 1, 2, 7] : List Nat).Nodup; decide) (by show ([] : List Nat).Nodup; decide) ?_ ?_ (fun t0 => ⟨x1.term, t0, H, rfl⟩)
      · exact trivial
      · (simp only [AllT, tl_cons, tl_nil, upd_apply, List.getD_cons_zero, List.getD_cons_succ, Nat.reduceEqDiff, ↓reduceIte, and_true]); exact ⟨(.lst _ _ _ Entry.pu rfl), (.int' rfl), (.int' rfl), (.int' rfl)⟩
    · have H := cond_f zc3 H
      refine a_skip ?_
      refine cA_n ?_
      refine wk_l [] [] [(0, .list 2 (l1.map Entry.c)), (1, .int .i64 term1), (2, .int .i64 many1), (7, .int .i64 0)] (by show ([0, 1, 2, 7] : List Nat).Nodup; decide) (by show ([] : List Nat).Nodup; decide) ?_ ?_ (fun t0 => ⟨0, t0, H, rfl⟩)
      · exact trivial
      · (simp only [AllT, tl_cons, tl_nil, upd_apply, List.getD_cons_zero, List.getD_cons_succ, Nat.reduceEqDiff, ↓reduceIte, and_true]); exact ⟨(.lst _ _ _ Entry.pu rfl), (.int' rfl), (.int' rfl), (.int' rfl)⟩
  · rintro s ⟨last1, t0, H, rfl⟩
    unfold log_Newer_J1 at H
    refine a_seq ?_
    refine bool_split (b := (decide (last1 < term1))) (fun zc1 => ?_) (fun zc1 => ?_)
    · rw [zc1] at H
      refine a_reg _ rfl (s := ?zs3) ?_ ?_
      rotate_left
      · simp (maxSteps := 2000000) only [EVT, stepR, evOp, St.ev, St.app, St.put, wrs, evBin, binInt, evBuiltin, datOf, datOf1, TIS, CS, Nat.reduceAdd, Nat.reduceMul, Nat.reduceEqDiff, ↓reduceIte, reduceCtorEq, Nat.reduceLT, Nat.reduceLeDiff, Array.reduceGetElem?, Nat.reduceSub, Nat.reduceBEq, ↓zc1]
        try simp (maxSteps := 2000000) only [EVT, stepR, evOp, St.ev, St.app, St.put, wrs, evBin, binInt, evBuiltin, datOf, datOf1, TIS, CS, Nat.reduceAdd, Nat.reduceMul, Nat.reduceEqDiff, ↓reduceIte, reduceCtorEq, Nat.reduceLT, Nat.reduceLeDiff, Array.reduceGetElem?, Nat.reduceSub, Nat.reduceBEq, ↓zc1]
        (repeat' apply And.intro) <;> first | rfl | assumption | omega | (simp; done) | (simp; omega) | (simp_all; done)
      refine sA_n ?_
      refine a_ret ?_
      obtain rfl := Option.some.inj H
      refine e_r2 (d := ?zd1) ?_ ?_
      rotate_left
      · simp only [EVT, resR, single, evLoad, cut, TIS, CS, Nat.reduceAdd, Nat.reduceEqDiff, ↓reduceIte, reduceCtorEq, Nat.reduceLT, Nat.reduceLeDiff, Nat.reduceSub, Nat.reduceBEq, zc1]
        (repeat' apply And.intro) <;> first | rfl | assumption | omega | (simp; done)
      exact (.bool' (by first | rfl | assumption | (simp_all; done)))
    · rw [zc1] at H
      refine bool_split (b := (term1 == last1)) (fun zc2 => ?_) (fun zc2 => ?_)
      · rw [zc2] at H
        refine a_reg _ rfl (s := ?zs4) ?_ ?_
        rotate_left
        · simp (maxSteps := 2000000) only [EVT, stepR, evOp, St.ev, St.app, St.put, wrs, evBin, binInt, evBuiltin, datOf, datOf1, TIS, CS, Nat.reduceAdd, Nat.reduceMul, Nat.reduceEqDiff, ↓reduceIte, reduceCtorEq, Nat.reduceLT, Nat.reduceLeDiff, Array.reduceGetElem?, Nat.reduceSub, Nat.reduceBEq, ↓zc1, ↓zc2]
          try simp (maxSteps := 2000000) only [EVT, stepR, evOp, St.ev, St.app, St.put, wrs, evBin, binInt, evBuiltin, datOf, datOf1, TIS, CS, Nat.reduceAdd, Nat.reduceMul, Nat.reduceEqDiff, ↓reduceIte, reduceCtorEq, Nat.reduceLT, Nat.reduceLeDiff, Array.reduceGetElem?, Nat.reduceSub, Nat.reduceBEq, ↓zc1, ↓zc2]
          (repeat' apply And.intro) <;> first | rfl | assumption | omega | (simp; done) | (simp; omega) | (simp_all; done)
        refine sA_n ?_
        refine a_ret ?_
        obtain rfl := Option.some.inj H
        refine e_r2 (d := ?zd2) ?_ ?_
        rotate_left
        · simp only [EVT, resR, single, evLoad, cut, TIS, CS, Nat.reduceAdd, Nat.reduceEqDiff, ↓reduceIte, reduceCtorEq, Nat.reduceLT, Nat.reduceLeDiff, Nat.reduceSub, Nat.reduceBEq, zc1, zc2]
          (repeat' apply And.intro) <;> first | rfl | assumption | omega | (simp; done)
        exact (.bool' rfl)
      · rw [zc2] at H
        refine a_reg _ rfl (s := ?zs5) ?_ ?_
        rotate_left
        · simp (maxSteps := 2000000) only [EVT, stepR, evOp, St.ev, St.app, St.put, wrs, evBin, binInt, evBuiltin, datOf, datOf1, TIS, CS, Nat.reduceAdd, Nat.reduceMul, Nat.reduceEqDiff, ↓reduceIte, reduceCtorEq, Nat.reduceLT, Nat.reduceLeDiff, Array.reduceGetElem?, Nat.reduceSub, Nat.reduceBEq, ↓zc1, ↓zc2]
          try simp (maxSteps := 2000000) only [EVT, stepR, evOp, St.ev, St.app, St.put, wrs, evBin, binInt, evBuiltin, datOf, datOf1, TIS, CS, Nat.reduceAdd, Nat.reduceMul, Nat.reduceEqDiff, ↓reduceIte, reduceCtorEq, Nat.reduceLT, Nat.reduceLeDiff, Array.reduceGetElem?, Nat.reduceSub, Nat.reduceBEq, ↓zc1, ↓zc2]
          (repeat' apply And.intro) <;> first | rfl | assumption | omega | (simp; done) | (simp; omega) | (simp_all; done)
        refine sA_n ?_
        refine a_ret ?_
        obtain rfl := Option.some.inj H
        refine e_r2 (d := ?zd3) ?_ ?_
        rotate_left
        · simp only [EVT, resR, single, evLoad, cut, TIS, CS, Nat.reduceAdd, Nat.reduceEqDiff, ↓reduceIte, reduceCtorEq, Nat.reduceLT, Nat.reduceLeDiff, Nat.reduceSub, Nat.reduceBEq, zc1, zc2]
          (repeat' apply And.intro) <;> first | rfl | assumption | omega | (simp; done)
        exact (.bool' (by first | rfl | assumption | (simp_all; done)))
def ref13_Newer_f (l1 : List Entry) (term1 : Int) (many1 : Int) : Option Bool :=
  (ref13_Term_f l1 (l1.length : Int)).bind fun r1 => some ((decide (r1 < term1)) || ((term1 == r1) && (decide ((l1.length : Int) ≤ many1))))
set_option maxHeartbeats 4000000 in
set_option maxRecDepth 20000 in
theorem ref13_Newer_pc {l1 : List Entry} {term1 : Int} {many1 : Int} {r : Bool} (H : ref13_Newer_f l1 term1 many1 = some r) : PC Try.prog 18 [.list 2 (l1.map Entry.c), .int .i64 term1, .int .i64 many1] (.bool r) := by
  refine pcA_of Try.func18 (by rfl) (by decide) 26 (by rfl) [.tmp 6] (by rfl) ?_
  unfold ref13_Newer_f at H
  simp only [ent]
  refine a_seq ?_
  refine a_reg _ rfl (s := ?zs1) ?_ ?_
  rotate_left
  · simp (maxSteps := 2000000) only [EVT, stepR, evOp, St.ev, St.app, St.put, wrs, datOf, datOf1, TIS, CS, Nat.reduceAdd, Nat.reduceMul, Nat.reduceEqDiff, ↓reduceIte, reduceCtorEq, Nat.reduceLT, Nat.reduceLeDiff]
    (repeat' apply And.intro) <;> first | rfl | assumption | omega | (simp; done) | (simp; omega) | (simp_all; done)
  refine sA_n ?_
  refine a_seq ?_
  obtain ⟨r1, zh1, H⟩ := bind_some H
  have zk1 := ref13_Term_pc zh1
  refine a_reg _ rfl (s := ?zs2) ?_ ?_
  rotate_left
  · try simp (maxSteps := 2000000) only [EVT, stepR, evOp, St.ev, St.app, St.put, wrs, evBuiltin, frz, TIS, CS, Nat.reduceAdd, Nat.reduceMul, Nat.reduceEqDiff, ↓reduceIte, reduceCtorEq, Nat.reduceLT, Nat.reduceLeDiff, Nat.reduceSub, Nat.reduceBEq]
    repeat' with_reducible apply And.intro
    all_goals try ((with_reducible show CallR _ _ _ _ _ _ _); refine cR_s zk1 (.cons (.lst _ _ _ Entry.pu rfl) (.cons (.int' rfl) .nil)) (.int _ _) ?_; simp (maxSteps := 2000000) only [EVT, stepR, evOp, St.ev, St.app, St.put, wrs, evBuiltin, frz, TIS, CS, Nat.reduceAdd, Nat.reduceMul, Nat.reduceEqDiff, ↓reduceIte, reduceCtorEq, Nat.reduceLT, Nat.reduceLeDiff, Nat.reduceSub, Nat.reduceBEq])
    all_goals ((repeat' apply And.intro) <;> first | rfl | assumption | omega | (simp; done) | (simp; omega) | (simp_all; done))
  refine sA_n ?_
  refine a_seq ?_
  refine bool_split (b := (decide (r1 < term1))) (fun zc1 => ?_) (fun zc1 => ?_)
  · rw [zc1] at H
    refine a_reg _ rfl (s := ?zs3) ?_ ?_
    rotate_left
    · simp (maxSteps := 2000000) only [EVT, stepR, evOp, St.ev, St.app, St.put, wrs, evBin, binInt, evBuiltin, datOf, datOf1, TIS, CS, Nat.reduceAdd, Nat.reduceMul, Nat.reduceEqDiff, ↓reduceIte, reduceCtorEq, Nat.reduceLT, Nat.reduceLeDiff, Array.reduceGetElem?, Nat.reduceSub, Nat.reduceBEq, ↓zc1]
      try simp (maxSteps := 2000000) only [EVT, stepR, evOp, St.ev, St.app, St.put, wrs, evBin, binInt, evBuiltin, datOf, datOf1, TIS, CS, Nat.reduceAdd, Nat.reduceMul, Nat.reduceEqDiff, ↓reduceIte, reduceCtorEq, Nat.reduceLT, Nat.reduceLeDiff, Array.reduceGetElem?, Nat.reduceSub, Nat.reduceBEq, ↓zc1]
      (repeat' apply And.intro) <;> first | rfl | assumption | omega | (simp; done) | (simp; omega) | (simp_all; done)
    refine sA_n ?_
    refine a_ret ?_
    obtain rfl := Option.some.inj H
    refine e_r2 (d := ?zd1) ?_ ?_
    rotate_left
    · simp only [EVT, resR, single, evLoad, cut, TIS, CS, Nat.reduceAdd, Nat.reduceEqDiff, ↓reduceIte, reduceCtorEq, Nat.reduceLT, Nat.reduceLeDiff, Nat.reduceSub, Nat.reduceBEq, zc1]
      (repeat' apply And.intro) <;> first | rfl | assumption | omega | (simp; done)
    exact (.bool' (by first | rfl | assumption | (simp_all; done)))
  · rw [zc1] at H
    refine bool_split (b := (term1 == r1)) (fun zc2 => ?_) (fun zc2 => ?_)
    · rw [zc2] at H
      refine a_reg _ rfl (s := ?zs4) ?_ ?_
      rotate_left
      · simp (maxSteps := 2000000) only [EVT, stepR, evOp, St.ev, St.app, St.put, wrs, evBin, binInt, evBuiltin, datOf, datOf1, TIS, CS, Nat.reduceAdd, Nat.reduceMul, Nat.reduceEqDiff, ↓reduceIte, reduceCtorEq, Nat.reduceLT, Nat.reduceLeDiff, Array.reduceGetElem?, Nat.reduceSub, Nat.reduceBEq, ↓zc1, ↓zc2]
        try simp (maxSteps := 2000000) only [EVT, stepR, evOp, St.ev, St.app, St.put, wrs, evBin, binInt, evBuiltin, datOf, datOf1, TIS, CS, Nat.reduceAdd, Nat.reduceMul, Nat.reduceEqDiff, ↓reduceIte, reduceCtorEq, Nat.reduceLT, Nat.reduceLeDiff, Array.reduceGetElem?, Nat.reduceSub, Nat.reduceBEq, ↓zc1, ↓zc2]
        (repeat' apply And.intro) <;> first | rfl | assumption | omega | (simp; done) | (simp; omega) | (simp_all; done)
      refine sA_n ?_
      refine a_ret ?_
      obtain rfl := Option.some.inj H
      refine e_r2 (d := ?zd2) ?_ ?_
      rotate_left
      · simp only [EVT, resR, single, evLoad, cut, TIS, CS, Nat.reduceAdd, Nat.reduceEqDiff, ↓reduceIte, reduceCtorEq, Nat.reduceLT, Nat.reduceLeDiff, Nat.reduceSub, Nat.reduceBEq, zc1, zc2]
        (repeat' apply And.intro) <;> first | rfl | assumption | omega | (simp; done)
      exact (.bool' rfl)
    · rw [zc2] at H
      refine a_reg _ rfl (s := ?zs5) ?_ ?_
      rotate_left
      · simp (maxSteps := 2000000) only [EVT, stepR, evOp, St.ev, St.app, St.put, wrs, evBin, binInt, evBuiltin, datOf, datOf1, TIS, CS, Nat.reduceAdd, Nat.reduceMul, Nat.reduceEqDiff, ↓reduceIte, reduceCtorEq, Nat.reduceLT, Nat.reduceLeDiff, Array.reduceGetElem?, Nat.reduceSub, Nat.reduceBEq, ↓zc1, ↓zc2]
        try simp (maxSteps := 2000000) only [EVT, stepR, evOp, St.ev, St.app, St.put, wrs, evBin, binInt, evBuiltin, datOf, datOf1, TIS, CS, Nat.reduceAdd, Nat.reduceMul, Nat.reduceEqDiff, ↓reduceIte, reduceCtorEq, Nat.reduceLT, Nat.reduceLeDiff, Array.reduceGetElem?, Nat.reduceSub, Nat.reduceBEq, ↓zc1, ↓zc2]
        (repeat' apply And.intro) <;> first | rfl | assumption | omega | (simp; done) | (simp; omega) | (simp_all; done)
      refine sA_n ?_
      refine a_ret ?_
      obtain rfl := Option.some.inj H
      refine e_r2 (d := ?zd3) ?_ ?_
      rotate_left
      · simp only [EVT, resR, single, evLoad, cut, TIS, CS, Nat.reduceAdd, Nat.reduceEqDiff, ↓reduceIte, reduceCtorEq, Nat.reduceLT, Nat.reduceLeDiff, Nat.reduceSub, Nat.reduceBEq, zc1, zc2]
        (repeat' apply And.intro) <;> first | rfl | assumption | omega | (simp; done)
      exact (.bool' (by first | rfl | assumption | (simp_all; done)))
def log_alike_f (a1 : Entry) (b1 : Entry) : Option Bool :=
  cond (a1.term == b1.term) ((bytes_Equal_f a1.data b1.data).bind fun r1 => some (r1)) (some (false))
set_option maxHeartbeats 4000000 in
set_option maxRecDepth 20000 in
theorem log_alike_pc {a1 : Entry} {b1 : Entry} {r : Bool} (H : log_alike_f a1 b1 = some r) : PC Try.prog 27 [.agg (Entry.c a1), .agg (Entry.c b1)] (.bool r) := by
  refine pcA_of Try.func27 (by rfl) (by decide) 17 (by rfl) [.tmp 4] (by rfl) ?_
  unfold log_alike_f at H
  simp only [ent]
  refine a_seq ?_
  refine a_reg _ rfl (s := ?zs1) ?_ ?_
  rotate_left
  · simp (maxSteps := 2000000) only [EVT, stepR, evOp, St.ev, St.app, St.put, wrs, allOne, datOf, datOf1, TIS, CS, Nat.reduceAdd, Nat.reduceMul, Nat.reduceEqDiff, ↓reduceIte, reduceCtorEq, Nat.reduceLT, Nat.reduceLeDiff]
    (repeat' apply And.intro) <;> first | rfl | assumption | omega | (simp; done) | (simp; omega) | (simp_all; done)
  refine sA_n ?_
  refine a_seq ?_
  refine bool_split (b := (a1.term == b1.term)) (fun zc1 => ?_) (fun zc1 => ?_)
  · have H := cond_t zc1 H
    obtain ⟨r1, zh1, H⟩ := bind_some H
    have zk1 := bytes_Equal_pc zh1
    refine a_reg _ rfl (s := ?zs2) ?_ ?_
    rotate_left
    · try simp (maxSteps := 2000000) only [EVT, stepR, evOp, St.ev, St.app, St.put, wrs, evFieldAddr, evLoad, cut, evBin, binInt, frz, datOf, datOf1, TIS, CS, Nat.reduceAdd, Nat.reduceMul, Nat.reduceEqDiff, ↓reduceIte, reduceCtorEq, Nat.reduceLT, Nat.reduceLeDiff, Array.reduceGetElem?, Nat.reduceSub, Nat.reduceBEq, ↓zc1]
      repeat' with_reducible apply And.intro
      all_goals try ((with_reducible show CallR _ _ _ _ _ _ _); refine cR_s zk1 (.cons (.lst _ _ _ (ci_pu .u8) rfl) (.cons (.lst _ _ _ (ci_pu .u8) rfl) .nil)) (.bool _) ?_; simp (maxSteps := 2000000) only [EVT, stepR, evOp, St.ev, St.app, St.put, wrs, evFieldAddr, evLoad, cut, evBin, binInt, frz, datOf, datOf1, TIS, CS, Nat.reduceAdd, Nat.reduceMul, Nat.reduceEqDiff, ↓reduceIte, reduceCtorEq, Nat.reduceLT, Nat.reduceLeDiff, Array.reduceGetElem?, Nat.reduceSub, Nat.reduceBEq, ↓zc1])
      all_goals ((repeat' apply And.intro) <;> first | rfl | assumption | omega | (simp; done) | (simp; omega) | (simp_all; done))
    refine sA_n ?_
    refine a_ret ?_
    obtain rfl := Option.some.inj H
    refine e_r2 (d := ?zd1) ?_ ?_
    rotate_left
    · simp only [EVT, resR, single, evLoad, cut, TIS, CS, Nat.reduceAdd, Nat.reduceEqDiff, ↓reduceIte, reduceCtorEq, Nat.reduceLT, Nat.reduceLeDiff, Nat.reduceSub, Nat.reduceBEq, zc1]
      (repeat' apply And.intro) <;> first | rfl | assumption | omega | (simp; done)
    exact (.bool' rfl)
  · have H := cond_f zc1 H
    refine a_reg _ rfl (s := ?zs3) ?_ ?_
    rotate_left
    · simp (maxSteps := 2000000) only [EVT, stepR, evOp, St.ev, St.app, St.put, wrs, evFieldAddr, evLoad, cut, evBin, binInt, frz, datOf, datOf1, TIS, CS, Nat.reduceAdd, Nat.reduceMul, Nat.reduceEqDiff, ↓reduceIte, reduceCtorEq, Nat.reduceLT, Nat.reduceLeDiff, Array.reduceGetElem?, Nat.reduceSub, Nat.reduceBEq, ↓zc1]
      try simp (maxSteps := 2000000) only [EVT, stepR, evOp, St.ev, St.app, St.put, wrs, evFieldAddr, evLoad, cut, evBin, binInt, frz, datOf, datOf1, TIS, CS, Nat.reduceAdd, Nat.reduceMul, Nat.reduceEqDiff, ↓reduceIte, reduceCtorEq, Nat.reduceLT, Nat.reduceLeDiff, Array.reduceGetElem?, Nat.reduceSub, Nat.reduceBEq, ↓zc1]
      (repeat' apply And.intro) <;> first | rfl | assumption | omega | (simp; done) | (simp; omega) | (simp_all; done)
    refine sA_n ?_
    refine a_ret ?_
    obtain rfl := Option.some.inj H
    refine e_r2 (d := ?zd2) ?_ ?_
    rotate_left
    · simp only [EVT, resR, single, evLoad, cut, TIS, CS, Nat.reduceAdd, Nat.reduceEqDiff, ↓reduceIte, reduceCtorEq, Nat.reduceLT, Nat.reduceLeDiff, Nat.reduceSub, Nat.reduceBEq, zc1]
      (repeat' apply And.intro) <;> first | rfl | assumption | omega | (simp; done)
    exact (.bool' (by first | rfl | assumption | (simp_all; done)))
def ref13_Alike_J2 : Option Bool :=
  some (true)
def ref13_Alike_L1 (a1 : Entry) (b1 : Entry) : Nat → Int → Option Bool
  | 0, _ => none
  | m_ + 1, i1 => cond (decide (i1 < (a1.data.length : Int))) ((idx a1.data i1).bind fun x1 => (idx b1.data i1).bind fun x2 => cond (x1 != x2) (some (false)) (ref13_Alike_L1 a1 b1 m_ (IntKind.wrap .i64 (i1 + 1)))) (ref13_Alike_J2)
def ref13_Alike_J1 (a1 : Entry) (b1 : Entry) (v1 : Bool) : Option Bool :=
  cond v1 (some (false)) (ref13_Alike_L1 a1 b1 BIG 0)
def ref13_Alike_f (a1 : Entry) (b1 : Entry) : Option Bool :=
  ref13_Alike_J1 a1 b1 ((a1.term != b1.term) || ((a1.data.length : Int) != (b1.data.length : Int)))
set_option maxHeartbeats 4000000 in
set_option maxRecDepth 20000 in
theorem ref13_Alike_pc {a1 : Entry} {b1 : Entry} {r : Bool} (H : ref13_Alike_f a1 b1 = some r) : PC Try.prog 28 [.agg (Entry.c a1), .agg (Entry.c b1)] (.bool r) := by
  refine pcA_of Try.func28 (by rfl) (by decide) 38 (by rfl) [.tmp 4] (by rfl) ?_
  unfold ref13_Alike_f at H
  simp only [ent]
  refine a_seq ?_
  refine a_reg _ rfl (s := ?zs1) ?_ ?_
  rotate_left
  · simp (maxSteps := 2000000) only [EVT, stepR, evOp, St.ev, St.app, St.put, wrs, allOne, datOf, datOf1, TIS, CS, Nat.reduceAdd, Nat.reduceMul, Nat.reduceEqDiff, ↓reduceIte, reduceCtorEq, Nat.reduceLT, Nat.reduceLeDiff]
    (repeat' apply And.intro) <;> first | rfl | assumption | omega | (simp; done) | (simp; omega) | (simp_all; done)
  refine sA_n ?_
  refine a_seq ?_
  refine a_cut (fun s => ∃ (v1 : Bool) (t0 : Nat → Dat), ref13_Alike_J1 a1 b1 v1 = some r ∧ s = ⟨tl t0 [(2, .ptr 0 0 0 2), (3, .ptr 1 0 0 2), (19, .bool v1)], hl [⟨34, 2, false, [[.int .i64 a1.term, .list 1 (a1.data.map (ci .u8))]]⟩, ⟨34, 2, false, [[.int .i64 b1.term, .list 1 (b1.data.map (ci .u8))]]⟩], 2, 38⟩) ?_ ?_
  · refine bool_split (b := (a1.term != b1.term)) (fun zc4 => ?_) (fun zc4 => ?_)
    · rw [zc4] at H
      refine a_reg _ rfl (s := ?zs9) ?_ ?_
      rotate_left
      · simp (maxSteps := 2000000) only [EVT, stepR, evOp, St.ev, St.app, St.put, wrs, evFieldAddr, evLoad, cut, evBin, binInt, evBuiltin, datOf, datOf1, TIS, CS, Nat.reduceAdd, Nat.reduceMul, Nat.reduceEqDiff, ↓reduceIte, reduceCtorEq, Nat.reduceLT, Nat.reduceLeDiff, Array.reduceGetElem?, Nat.reduceSub, Nat.reduceBEq, ↓zc4]
        try simp (maxSteps := 2000000) only [EVT, stepR, evOp, St.ev, St.app, St.put, wrs, evFieldAddr, evLoad, cut, evBin, binInt, evBuiltin, datOf, datOf1, TIS, CS, Nat.reduceAdd, Nat.reduceMul, Nat.reduceEqDiff, ↓reduceIte, reduceCtorEq, Nat.reduceLT, Nat.reduceLeDiff, Array.reduceGetElem?, Nat.reduceSub, Nat.reduceBEq, ↓zc4]
        (repeat' apply And.intro) <;> first | rfl | assumption | omega | (simp; done) | (simp; omega) | (simp_all; done)
      refine cA_n ?_
      refine wk_l [(some 0, ⟨34, 2, false, [[.int .i64 a1.term, .list 1 (a1.data.map (ci .u8))]]⟩), (some 1, ⟨34, 2, false, [[.int .i64 b1.term, .list 1 (b1.data.map (ci .u8))]]⟩)] [] [(2, .ptr 0 0 0 2), (3, .ptr 1 0 0 2), (19, .bool true)] (by show ([2, 3, 19] : List Nat).Nodup; decide) (by show ([0, 1] : List Nat).Nodup; decide) ?_ ?_ (fun t0 => ⟨true, t0, H, rfl⟩)
      · exact (allB_some (by rfl) rfl (.cons (.cons (.int' rfl) (.cons (.lst _ _ _ (ci_pu .u8) rfl) .nil)) .nil) (allB_some (by rfl) rfl (.cons (.cons (.int' rfl) (.cons (.lst _ _ _ (ci_pu .u8) rfl) .nil)) .nil) trivial))
      · (simp only [AllT, tl_cons, tl_nil, upd_apply, List.getD_cons_zero, List.getD_cons_succ, Nat.reduceEqDiff, ↓reduceIte, and_true]); exact ⟨(.ptr _ _ _ _ _ rfl), (.ptr _ _ _ _ _ rfl), (.bool' (by first | rfl | assumption | (simp_all; done)))⟩
    · rw [zc4] at H
      refine a_reg _ rfl (s := ?zs10) ?_ ?_
      rotate_left
      · simp (maxSteps := 2000000) only [EVT, stepR, evOp, St.ev, St.app, St.put, wrs, evFieldAddr, evLoad, cut, evBin, binInt, evBuiltin, datOf, datOf1, TIS, CS, Nat.reduceAdd, Nat.reduceMul, Nat.reduceEqDiff, ↓reduceIte, reduceCtorEq, Nat.reduceLT, Nat.reduceLeDiff, Array.reduceGetElem?, Nat.reduceSub, Nat.reduceBEq, ↓zc4]
        try simp (maxSteps := 2000000) only [EVT, stepR, evOp, St.ev, St.app, St.put, wrs, evFieldAddr, evLoad, cut, evBin, binInt, evBuiltin, datOf, datOf1, TIS, CS, Nat.reduceAdd, Nat.reduceMul, Nat.reduceEqDiff, ↓reduceIte, reduceCtorEq, Nat.reduceLT, Nat.reduceLeDiff, Array.reduceGetElem?, Nat.reduceSub, Nat.reduceBEq, ↓zc4]
        (repeat' apply And.intro) <;> first | rfl | assumption | omega | (simp; done) | (simp; omega) | (simp_all; done)
      refine cA_n ?_
      refine wk_l [(some 0, ⟨34, 2, false, [[.int .i64 a1.term, .list 1 (a1.data.map (ci .u8))]]⟩), (some 1, ⟨34, 2, false, [[.int .i64 b1.term, .list 1 (b1.data.map (ci .u8))]]⟩)] [] [(2, .ptr 0 0 0 2), (3, .ptr 1 0 0 2), (19, .bool ((a1.data.length : Int) != (b1.data.length : Int)))] (by show ([2, 3, 19] : List Nat).Nodup; decide) (by show ([0, 1] : List Nat).Nodup; decide) ?_ ?_ (fun t0 => ⟨((a1.data.length : Int) != (b1.data.length : Int)), t0, H, rfl⟩)
      · exact (allB_some (by rfl) rfl (.cons (.cons (.int' rfl) (.cons (.lst _ _ _ (ci_pu .u8) rfl) .nil)) .nil) (allB_some (by rfl) rfl (.cons (.cons (.int' rfl) (.cons (.lst _ _ _ (ci_pu .u8) rfl) .nil)) .nil) trivial))
      · (simp only [AllT, tl_cons, tl_nil, upd_apply, List.getD_cons_zero, List.getD_cons_succ, Nat.reduceEqDiff, ↓reduceIte, and_true]); exact ⟨(.ptr _ _ _ _ _ rfl), (.ptr _ _ _ _ _ rfl), (.bool' rfl)⟩
  · rintro s ⟨v1, t0, H, rfl⟩
    unfold ref13_Alike_J1 at H
    refine a_condb (v1) (by rfl) (fun zc1 => ?_) (fun zc1 => ?_)
    · have H := cond_t zc1 H
      refine a_seq ?_
      refine a_reg _ rfl (s := ?zs2) ?_ ?_
      rotate_left
      · simp (maxSteps := 2000000) only [EVT, stepR, evOp, St.ev, St.app, St.put, wrs, datOf, datOf1, TIS, CS, Nat.reduceAdd, Nat.reduceMul, Nat.reduceEqDiff, ↓reduceIte, reduceCtorEq, Nat.reduceLT, Nat.reduceLeDiff, ↓zc1]
        (repeat' apply And.intro) <;> first | rfl | assumption | omega | (simp; done) | (simp; omega) | (simp_all; done)
      refine sA_n ?_
      refine a_ret ?_
      refine sA_r ?_
      obtain rfl := Option.some.inj H
      refine e_r2 (d := ?zd1) ?_ ?_
      rotate_left
      · simp only [EVT, resR, single, evLoad, cut, TIS, CS, Nat.reduceAdd, Nat.reduceEqDiff, ↓reduceIte, reduceCtorEq, Nat.reduceLT, Nat.reduceLeDiff, Nat.reduceSub, Nat.reduceBEq, zc1]
        (repeat' apply And.intro) <;> first | rfl | assumption | omega | (simp; done)
      exact (.bool' (by first | rfl | assumption | (simp_all; done)))
    · have H := cond_f zc1 H
      refine a_skip ?_
      refine sA_n ?_
      refine a_cut (fun s => ∃ (t0 : Nat → Dat), ref13_Alike_J2 = some r ∧ s = ⟨tl t0 [], hl [], 0, 38⟩) ?_ ?_
      · refine a_seq ?_
        refine a_reg _ rfl (s := ?zs4) ?_ ?_
        rotate_left
        · simp (maxSteps := 2000000) only [EVT, stepR, evOp, St.ev, St.app, St.put, wrs, datOf, datOf1, TIS, CS, Nat.reduceAdd, Nat.reduceMul, Nat.reduceEqDiff, ↓reduceIte, reduceCtorEq, Nat.reduceLT, Nat.reduceLeDiff, ↓zc1]
          (repeat' apply And.intro) <;> first | rfl | assumption | omega | (simp; done) | (simp; omega) | (simp_all; done)
        refine sA_n ?_
        refine a_blk ?_
        refine a_loop (fun m s => ∃ (i1 : Int) (t0 : Nat → Dat), ref13_Alike_L1 a1 b1 m i1 = some r ∧ s = ⟨tl t0 [(2, .ptr 0 0 0 2), (3, .ptr 1 0 0 2), (5, .int .i64 i1)], hl [⟨34, 2, false, [[.int .i64 a1.term, .list 1 (a1.data.map (ci .u8))]]⟩, ⟨34, 2, false, [[.int .i64 b1.term, .list 1 (b1.data.map (ci .u8))]]⟩], 2, 38⟩) BIG ?_ ?_
        · refine wk_l [(some 0, ⟨34, 2, false, [[.int .i64 a1.term, .list 1 (a1.data.map (ci .u8))]]⟩), (some 1, ⟨34, 2, false, [[.int .i64 b1.term, .list 1 (b1.data.map (ci .u8))]]⟩)] [] [(2, .ptr 0 0 0 2), (3, .ptr 1 0 0 2), (5, .int .i64 0)] (by show ([2, 3, 5] : List Nat).Nodup; decide) (by show ([0, 1] : List Nat).Nodup; decide) ?_ ?_ (fun t0 => ⟨0, t0, H, rfl⟩)
          · exact (allB_some (by rfl) rfl (.cons (.cons (.int' rfl) (.cons (.lst _ _ _ (ci_pu .u8) rfl) .nil)) .nil) (allB_some (by rfl) rfl (.cons (.cons (.int' rfl) (.cons (.lst _ _ _ (ci_pu .u8) rfl) .nil)) .nil) trivial))
          · (simp only [AllT, tl_cons, tl_nil, upd_apply, List.getD_cons_zero, List.getD_cons_succ, Nat.reduceEqDiff, ↓reduceIte, and_true]); exact ⟨(.ptr _ _ _ _ _ rfl), (.ptr _ _ _ _ _ rfl), (.int' rfl)⟩
        · rintro m_ref13_Alike_L1 s ⟨i1, t0, H, rfl⟩
          obtain _ | m_ref13_Alike_L1 := m_ref13_Alike_L1
          · cases (show (none : Option _) = some _ from H)
          · rw [ref13_Alike_L1] at H
            refine a_seq ?_
            refine a_seq ?_
            refine a_reg _ rfl (s := ?zs5) ?_ ?_
            rotate_left
            · simp (maxSteps := 2000000) only [EVT, stepR, evOp, St.ev, St.app, St.put, wrs, evFieldAddr, evLoad, cut, evBuiltin, evBin, binInt, TIS, CS, Nat.reduceAdd, Nat.reduceMul, Nat.reduceEqDiff, ↓reduceIte, reduceCtorEq, Nat.reduceLT, Nat.reduceLeDiff, Nat.reduceSub, Nat.reduceBEq]
              (repeat' apply And.intro) <;> first | rfl | assumption | omega | (simp; done) | (simp; omega) | (simp_all; done)
            refine sA_n ?_
            refine a_condb ((decide (i1 < (a1.data.length : Int)))) (by rfl) (fun zc2 => ?_) (fun zc2 => ?_)
            · have H := cond_t zc2 H
              refine a_skip ?_
              refine sA_n ?_
              refine a_seq ?_
              refine a_blk ?_
              refine a_seq ?_
              obtain ⟨x1, zh1, H⟩ := bind_some H
              have zg1 := idx_map zh1 (ci .u8)
              try simp only [Int.reduceToNat] at zg1
              obtain ⟨zh1a, zh1b, _⟩ := idx_some zh1
              obtain ⟨x2, zh2, H⟩ := bind_some H
              have zg2 := idx_map zh2 (ci .u8)
              try simp only [Int.reduceToNat] at zg2
              obtain ⟨zh2a, zh2b, _⟩ := idx_some zh2
              refine a_drW (by kernel_rfl) _ rfl (s := ?zs6) (by kernel_rfl) (by kernel_rfl) ?zs6f ?_ ?_ ?_
              rotate_left 2
              · simp (maxSteps := 2000000) only [EVT, stepW, evOp, St.ev, St.app, St.put, wrs, evFieldAddr, evLoad, cut, evIndexAddr, evBin, binInt, TIS, CS, Nat.reduceAdd, Nat.reduceMul, Nat.reduceEqDiff, ↓reduceIte, reduceCtorEq, Nat.reduceLT, Nat.reduceLeDiff, Int.reduceToNat, Nat.reduceSub, Nat.reduceBEq, ↓zc2, zg1, zg2]
                (repeat' apply And.intro) <;> first | rfl | assumption | omega | (simp; done) | (simp; omega) | (simp_all; done)
              · kernel_rfl
              refine sA_n ?_
              refine a_condb ((x1 != x2)) (by rfl) (fun zc3 => ?_) (fun zc3 => ?_)
              · have H := cond_t zc3 H
                refine a_seq ?_
                refine a_reg _ rfl (s := ?zs7) ?_ ?_
                rotate_left
                · simp (maxSteps := 2000000) only [EVT, stepR, evOp, St.ev, St.app, St.put, wrs, datOf, datOf1, TIS, CS, Nat.reduceAdd, Nat.reduceMul, Nat.reduceEqDiff, ↓reduceIte, reduceCtorEq, Nat.reduceLT, Nat.reduceLeDiff, ↓zc2, zg1, zg2, ↓zc3]
                  (repeat' apply And.intro) <;> first | rfl | assumption | omega | (simp; done) | (simp; omega) | (simp_all; done)
                refine sA_n ?_
                refine a_ret ?_
                refine bA_r ?_
                refine sA_r ?_
                refine lA_r ?_
                refine bA_r ?_
                refine cA_r ?_
                obtain rfl := Option.some.inj H
                refine e_r2 (d := ?zd3) ?_ ?_
                rotate_left
                · simp only [EVT, resR, single, evLoad, cut, TIS, CS, Nat.reduceAdd, Nat.reduceEqDiff, ↓reduceIte, reduceCtorEq, Nat.reduceLT, Nat.reduceLeDiff, Nat.reduceSub, Nat.reduceBEq, zc2, zg1, zg2, zc3]
                  (repeat' apply And.intro) <;> first | rfl | assumption | omega | (simp; done)
                exact (.bool' (by first | rfl | assumption | (simp_all; done)))
              · have H := cond_f zc3 H
                refine a_skip ?_
                refine bA_n ?_
                refine sA_n ?_
                refine a_reg _ rfl (s := ?zs8) ?_ ?_
                rotate_left
                · simp (maxSteps := 2000000) only [EVT, stepR, evOp, St.ev, St.app, St.put, wrs, datOf, datOf1, evBin, binInt, TIS, CS, Nat.reduceAdd, Nat.reduceMul, Nat.reduceEqDiff, ↓reduceIte, reduceCtorEq, Nat.reduceLT, Nat.reduceLeDiff, ↓zc2, zg1, zg2, ↓zc3]
                  (repeat' apply And.intro) <;> first | rfl | assumption | omega | (simp; done) | (simp; omega) | (simp_all; done)
                refine lA_n ?_
                refine wk_l [(some 0, ⟨34, 2, false, [[.int .i64 a1.term, .list 1 (a1.data.map (ci .u8))]]⟩), (some 1, ⟨34, 2, false, [[.int .i64 b1.term, .list 1 (b1.data.map (ci .u8))]]⟩)] [] [(2, .ptr 0 0 0 2), (3, .ptr 1 0 0 2), (5, .int .i64 (IntKind.wrap .i64 (i1 + 1)))] (by show ([2, 3, 5] : List Nat).Nodup; decide) (by show ([0, 1] : List Nat).Nodup; decide) ?_ ?_ (fun t0 => ⟨_, Nat.lt_succ_self _, (IntKind.wrap .i64 (i1 + 1)), t0, H, rfl⟩)
                · exact (allB_some (by rfl) rfl (.cons (.cons (.int' rfl) (.cons (.lst _ _ _ (ci_pu .u8) rfl) .nil)) .nil) (allB_some (by rfl) rfl (.cons (.cons (.int' rfl) (.cons (.lst _ _ _ (ci_pu .u8) rfl) .nil)) .nil) trivial))
                · (simp only [AllT, tl_cons, tl_nil, upd_apply, List.getD_cons_zero, List.getD_cons_succ, Nat.reduceEqDiff, ↓reduceIte, and_true]); exact ⟨(.ptr _ _ _ _ _ rfl), (.ptr _ _ _ _ _ rfl), (.int' rfl)⟩
            · have H := cond_f zc2 H
              refine a_exit ?_
              refine sA_e ?_
              refine lA_e ?_
              refine bA_hit ?_
              refine cA_n ?_
              refine wk_l [] [] [] (by show ([] : List Nat).Nodup; decide) (by show ([] : List Nat).Nodup; decide) ?_ ?_ (fun t0 => ⟨t0, H, rfl⟩)
              · exact trivial
              · exact trivial
      · rintro s ⟨t0, H, rfl⟩
        unfold ref13_Alike_J2 at H
        refine a_seq ?_
        refine a_reg _ rfl (s := ?zs3) ?_ ?_
        rotate_left
        · simp (maxSteps := 2000000) only [EVT, stepR, evOp, St.ev, St.app, St.put, wrs, datOf, datOf1, TIS, CS, Nat.reduceAdd, Nat.reduceMul, Nat.reduceEqDiff, ↓reduceIte, reduceCtorEq, Nat.reduceLT, Nat.reduceLeDiff]
          (repeat' apply And.intro) <;> first | rfl | assumption | omega | (simp; done) | (simp; omega) | (simp_all; done)
        refine sA_n ?_
        refine a_ret ?_
        obtain rfl := Option.some.inj H
        refine e_r2 (d := ?zd2) ?_ ?_
        rotate_left
        · simp only [EVT, resR, single, evLoad, cut, TIS, CS, Nat.reduceAdd, Nat.reduceEqDiff, ↓reduceIte, reduceCtorEq, Nat.reduceLT, Nat.reduceLeDiff, Nat.reduceSub, Nat.reduceBEq]
          (repeat' apply And.intro) <;> first | rfl | assumption | omega | (simp; done)
        exact (.bool' (by first | rfl | assumption | (simp_all; done)))
def ref13_Reach_J1 (n1 : Int) : Option Int :=
  some (n1)
def ref13_Reach_J2 (k_ref13_Reach_L1 : Int → Int → Option Int) (i1 : Int) (n3 : Int) : Option Int :=
  k_ref13_Reach_L1 n3 (IntKind.wrap .i64 (i1 + 1))
def ref13_Reach_L1 (match1 : List Int) (p1 : Int) : Nat → Int → Int → Option Int
  | 0, _, _ => none
  | m_ + 1, n2, i1 => cond (decide (i1 < (match1.length : Int))) ((idx match1 i1).bind fun x1 => cond (decide (p1 ≤ x1)) (ref13_Reach_J2 (ref13_Reach_L1 match1 p1 m_) i1 (IntKind.wrap .i64 (n2 + 1))) (ref13_Reach_J2 (ref13_Reach_L1 match1 p1 m_) i1 n2)) (ref13_Reach_J1 n2)
def ref13_Reach_f (match1 : List Int) (p1 : Int) : Option Int :=
  ref13_Reach_L1 match1 p1 BIG 0 0
set_option maxHeartbeats 4000000 in
set_option maxRecDepth 20000 in
theorem ref13_Reach_pc {match1 : List Int} {p1 : Int} {r : Int} (H : ref13_Reach_f match1 p1 = some r) : PC Try.prog 30 [.list 1 (match1.map (ci .i64)), .int .i64 p1] (.int .i64 r) := by
  refine pcA_of Try.func30 (by rfl) (by decide) 22 (by rfl) [.tmp 4] (by rfl) ?_
  unfold ref13_Reach_f at H
  simp only [ent]
  refine a_seq ?_
  refine a_reg _ rfl (s := ?zs1) ?_ ?_
  rotate_left
  · simp (maxSteps := 2000000) only [EVT, stepR, evOp, St.ev, St.app, St.put, wrs, datOf, datOf1, TIS, CS, Nat.reduceAdd, Nat.reduceMul, Nat.reduceEqDiff, ↓reduceIte, reduceCtorEq, Nat.reduceLT, Nat.reduceLeDiff]
    (repeat' apply And.intro) <;> first | rfl | assumption | omega | (simp; done) | (simp; omega) | (simp_all; done)
  refine sA_n ?_
  refine a_seq ?_
  refine a_reg _ rfl (s := ?zs2) ?_ ?_
  rotate_left
  · simp (maxSteps := 2000000) only [EVT, stepR, evOp, St.ev, St.app, St.put, wrs, datOf, datOf1, TIS, CS, Nat.reduceAdd, Nat.reduceMul, Nat.reduceEqDiff, ↓reduceIte, reduceCtorEq, Nat.reduceLT, Nat.reduceLeDiff]
    (repeat' apply And.intro) <;> first | rfl | assumption | omega | (simp; done) | (simp; omega) | (simp_all; done)
  refine sA_n ?_
  refine a_cut (fun s => ∃ (n1 : Int) (t0 : Nat → Dat), ref13_Reach_J1 n1 = some r ∧ s = ⟨tl t0 [(5, .int .i64 n1)], hl [], 0, 22⟩) ?_ ?_
  · refine a_seq ?_
    refine a_reg _ rfl (s := ?zs4) ?_ ?_
    rotate_left
    · simp (maxSteps := 2000000) only [EVT, stepR, evOp, St.ev, St.app, St.put, wrs, datOf, datOf1, TIS, CS, Nat.reduceAdd, Nat.reduceMul, Nat.reduceEqDiff, ↓reduceIte, reduceCtorEq, Nat.reduceLT, Nat.reduceLeDiff]
      (repeat' apply And.intro) <;> first | rfl | assumption | omega | (simp; done) | (simp; omega) | (simp_all; done)
    refine sA_n ?_
    refine a_blk ?_
    refine a_loop (fun m s => ∃ (n2 : Int) (i1 : Int) (t0 : Nat → Dat), ref13_Reach_L1 match1 p1 m n2 i1 = some r ∧ s = ⟨tl t0 [(0, .list 1 (match1.map (ci .i64))), (1, .int .i64 p1), (5, .int .i64 n2), (6, .int .i64 i1)], hl [], 0, 22⟩) BIG ?_ ?_
    · refine wk_l [] [] [(0, .list 1 (match1.map (ci .i64))), (1, .int .i64 p1), (5, .int .i64 0), (6, .int .i64 0)] (by show ([0, 1, 5, 6] : List Nat).Nodup; decide) (by show ([] : List Nat).Nodup; decide) ?_ ?_ (fun t0 => ⟨0, 0, t0, H, rfl⟩)
      · exact trivial
      · (simp only [AllT, tl_cons, tl_nil, upd_apply, List.getD_cons_zero, List.getD_cons_succ, Nat.reduceEqDiff, ↓reduceIte, and_true]); exact ⟨(.lst _ _ _ (ci_pu .i64) rfl), (.int' rfl), (.int' rfl), (.int' rfl)⟩
    · rintro m_ref13_Reach_L1 s ⟨n2, i1, t0, H, rfl⟩
      obtain _ | m_ref13_Reach_L1 := m_ref13_Reach_L1
      · cases (show (none : Option _) = some _ from H)
      · rw [ref13_Reach_L1] at H
        refine a_seq ?_
        refine a_seq ?_
        refine a_reg _ rfl (s := ?zs5) ?_ ?_
        rotate_left
        · simp (maxSteps := 2000000) only [EVT, stepR, evOp, St.ev, St.app, St.put, wrs, evBuiltin, evBin, binInt, TIS, CS, Nat.reduceAdd, Nat.reduceMul, Nat.reduceEqDiff, ↓reduceIte, reduceCtorEq, Nat.reduceLT, Nat.reduceLeDiff, Nat.reduceSub, Nat.reduceBEq]
          (repeat' apply And.intro) <;> first | rfl | assumption | omega | (simp; done) | (simp; omega) | (simp_all; done)
        refine sA_n ?_
        refine a_condb ((decide (i1 < (match1.length : Int)))) (by rfl) (fun zc1 => ?_) (fun zc1 => ?_)
        · have H := cond_t zc1 H
          refine a_skip ?_
          refine sA_n ?_
          refine a_cut (fun s => ∃ (n3 : Int) (t0 : Nat → Dat), ref13_Reach_J2 (ref13_Reach_L1 match1 p1 m_ref13_Reach_L1) i1 n3 = some r ∧ s = ⟨tl t0 [(0, .list 1 (match1.map (ci .i64))), (1, .int .i64 p1), (5, .int .i64 n3), (6, .int .i64 i1)], hl [], 0, 22⟩) ?_ ?_
          · refine a_blk ?_
            refine a_seq ?_
            obtain ⟨x1, zh1, H⟩ := bind_some H
            have zg1 := idx_map zh1 (ci .i64)
            try simp only [Int.reduceToNat] at zg1
            obtain ⟨zh1a, zh1b, _⟩ := idx_some zh1
            refine a_reg _ rfl (s := ?zs7) ?_ ?_
            rotate_left
            · simp (maxSteps := 2000000) only [EVT, stepR, evOp, St.ev, St.app, St.put, wrs, evIndexAddr, evLoad, cut, evBin, binInt, TIS, CS, Nat.reduceAdd, Nat.reduceMul, Nat.reduceEqDiff, ↓reduceIte, reduceCtorEq, Nat.reduceLT, Nat.reduceLeDiff, Int.reduceToNat, Nat.reduceSub, Nat.reduceBEq, ↓zc1, zg1]
              (repeat' apply And.intro) <;> first | rfl | assumption | omega | (simp; done) | (simp; omega) | (simp_all; done)
            refine sA_n ?_
            refine a_condb ((decide (p1 ≤ x1))) (by rfl) (fun zc2 => ?_) (fun zc2 => ?_)
            · have H := cond_t zc2 H
              refine a_reg _ rfl (s := ?zs8) ?_ ?_
              rotate_left
              · simp (maxSteps := 2000000) only [EVT, stepR, evOp, St.ev, St.app, St.put, wrs, datOf, datOf1, evBin, binInt, TIS, CS, Nat.reduceAdd, Nat.reduceMul, Nat.reduceEqDiff, ↓reduceIte, reduceCtorEq, Nat.reduceLT, Nat.reduceLeDiff, ↓zc1, zg1, ↓zc2]
                (repeat' apply And.intro) <;> first | rfl | assumption | omega | (simp; done) | (simp; omega) | (simp_all; done)
              refine bA_n ?_
              refine cA_n ?_
              refine wk_l [] [] [(0, .list 1 (match1.map (ci .i64))), (1, .int .i64 p1), (5, .int .i64 (IntKind.wrap .i64 (n2 + 1))), (6, .int .i64 i1)] (by show ([0, 1, 5, 6] : List Nat).Nodup; decide) (by show ([] : List Nat).Nodup; decide) ?_ ?_ (fun t0 => ⟨(IntKind.wrap .i64 (n2 + 1)), t0, H, rfl⟩)
              · exact trivial
              · (simp only [AllT, tl_cons, tl_nil, upd_apply, List.getD_cons_zero, List.getD_cons_succ, Nat.reduceEqDiff, ↓reduceIte, and_true]); exact ⟨(.lst _ _ _ (ci_pu .i64) rfl), (.int' rfl), (.int' rfl), (.int' rfl)⟩
            · have H := cond_f zc2 H
              refine a_skip ?_
              refine bA_n ?_
              refine cA_n ?_
              refine wk_l [] [] [(0, .list 1 (match1.map (ci .i64))), (1, .int .i64 p1), (5, .int .i64 n2), (6, .int .i64 i1)] (by show ([0, 1, 5, 6] : List Nat).Nodup; decide) (by show ([] : List Nat).Nodup; decide) ?_ ?_ (fun t0 => ⟨n2, t0, H, rfl⟩)
              · exact trivial
              · (simp only [AllT, tl_cons, tl_nil, upd_apply, List.getD_cons_zero, List.getD_cons_succ, Nat.reduceEqDiff, ↓reduceIte, and_true]); exact ⟨(.lst _ _ _ (ci_pu .i64) rfl), (.int' rfl), (.int' rfl), (.int' rfl)⟩
          · rintro s ⟨n3, t0, H, rfl⟩
            unfold ref13_Reach_J2 at H
            refine a_reg _ rfl (s := ?zs6) ?_ ?_
            rotate_left
            · simp (maxSteps := 2000000) only [EVT, stepR, evOp, St.ev, St.app, St.put, wrs, datOf, datOf1, evBin, binInt, TIS, CS, Nat.reduceAdd, Nat.reduceMul, Nat.reduceEqDiff, ↓reduceIte, reduceCtorEq, Nat.reduceLT, Nat.reduceLeDiff]
              (repeat' apply And.intro) <;> first | rfl | assumption | omega | (simp; done) | (simp; omega) | (simp_all; done)
            refine lA_n ?_
            refine wk_l [] [] [(0, .list 1 (match1.map (ci .i64))), (1, .int .i64 p1), (5, .int .i64 n3), (6, .int .i64 (IntKind.wrap .i64 (i1 + 1)))] (by show ([0, 1, 5, 6] : List Nat).Nodup; decide) (by show ([] : List Nat).Nodup; decide) ?_ ?_ (fun t0 => ⟨_, Nat.lt_succ_self _, n3, (IntKind.wrap .i64 (i1 + 1)), t0, H, rfl⟩)
            · exact trivial
            · (simp only [AllT, tl_cons, tl_nil, upd_apply, List.getD_cons_zero, List.getD_cons_succ, Nat.reduceEqDiff, ↓reduceIte, and_true]); exact ⟨(.lst _ _ _ (ci_pu .i64) rfl), (.int' rfl), (.int' rfl), (.int' rfl)⟩
        · have H := cond_f zc1 H
          refine a_exit ?_
          refine sA_e ?_
          refine lA_e ?_
          refine bA_hit ?_
          refine cA_n ?_
          refine wk_l [] [] [(5, .int .i64 n2)] (by show ([5] : List Nat).Nodup; decide) (by show ([] : List Nat).Nodup; decide) ?_ ?_ (fun t0 => ⟨n2, t0, H, rfl⟩)
          · exact trivial
          · (simp only [AllT, tl_cons, tl_nil, upd_apply, List.getD_cons_zero, List.getD_cons_succ, Nat.reduceEqDiff, ↓reduceIte, and_true]); exact (.int' rfl)
  · rintro s ⟨n1, t0, H, rfl⟩
    unfold ref13_Reach_J1 at H
    refine a_seq ?_
    refine a_reg _ rfl (s := ?zs3) ?_ ?_
    rotate_left
    · simp (maxSteps := 2000000) only [EVT, stepR, evOp, St.ev, St.app, St.put, wrs, TIS, CS, Nat.reduceAdd, Nat.reduceMul, Nat.reduceEqDiff, ↓reduceIte, reduceCtorEq, Nat.reduceLT, Nat.reduceLeDiff]
      (repeat' apply And.intro) <;> first | rfl | assumption | omega | (simp; done) | (simp; omega) | (simp_all; done)
    refine sA_n ?_
    refine a_ret ?_
    obtain rfl := Option.some.inj H
    refine e_r2 (d := ?zd1) ?_ ?_
    rotate_left
    · simp only [EVT, resR, single, evLoad, cut, TIS, CS, Nat.reduceAdd, Nat.reduceEqDiff, ↓reduceIte, reduceCtorEq, Nat.reduceLT, Nat.reduceLeDiff, Nat.reduceSub, Nat.reduceBEq]
      (repeat' apply And.intro) <;> first | rfl | assumption | omega | (simp; done)
    exact (.int' rfl)
def log_Commit_1_J1 (n1 : Int) : Option Int :=
  some (n1)
def log_Commit_1_J2 (k_log_Commit_1_L1 : Int → Int → Option Int) (v2 : Int) (n3 : Int) : Option Int :=
  k_log_Commit_1_L1 n3 (IntKind.wrap .i64 (v2 + 1))
def log_Commit_1_L1 (v1 : List Int) (p1 : Int) : Nat → Int → Int → Option Int
  | 0, _, _ => none
  | m_ + 1, n2, v2 => cond (decide (v2 < (v1.length : Int))) ((idx v1 v2).bind fun x1 => cond (decide (p1 ≤ x1)) (log_Commit_1_J2 (log_Commit_1_L1 v1 p1 m_) v2 (IntKind.wrap .i64 (n2 + 1))) (log_Commit_1_J2 (log_Commit_1_L1 v1 p1 m_) v2 n2)) (log_Commit_1_J1 n2)
def log_Commit_1_f (p1 : Int) (v1 : List Int) : Option Int :=
  log_Commit_1_L1 v1 p1 BIG 0 0
set_option maxHeartbeats 4000000 in
set_option maxRecDepth 20000 in
theorem log_Commit_1_pc {p1 : Int} {v1 : List Int} {r : Int} (H : log_Commit_1_f p1 v1 = some r) : PC Try.prog 29 [.int .i64 p1, .rop ((cl 1 (ci .i64)) v1) 0 1] (.int .i64 r) := by
  refine pcA_of Try.func29 (by rfl) (by decide) 20 (by rfl) [.tmp 3] (by rfl) ?_
  unfold log_Commit_1_f at H
  simp only [ent]
  refine a_seq ?_
  refine a_reg _ rfl (s := ?zs1) ?_ ?_
  rotate_left
  · simp (maxSteps := 2000000) only [EVT, stepR, evOp, St.ev, St.app, St.put, wrs, datOf, datOf1, TIS, CS, Nat.reduceAdd, Nat.reduceMul, Nat.reduceEqDiff, ↓reduceIte, reduceCtorEq, Nat.reduceLT, Nat.reduceLeDiff]
    (repeat' apply And.intro) <;> first | rfl | assumption | omega | (simp; done) | (simp; omega) | (simp_all; done)
  refine sA_n ?_
  refine a_seq ?_
  refine a_reg _ rfl (s := ?zs2) ?_ ?_
  rotate_left
  · simp (maxSteps := 2000000) only [EVT, stepR, evOp, St.ev, St.app, St.put, wrs, datOf, datOf1, TIS, CS, Nat.reduceAdd, Nat.reduceMul, Nat.reduceEqDiff, ↓reduceIte, reduceCtorEq, Nat.reduceLT, Nat.reduceLeDiff]
    (repeat' apply And.intro) <;> first | rfl | assumption | omega | (simp; done) | (simp; omega) | (simp_all; done)
  refine sA_n ?_
  refine a_cut (fun s => ∃ (n1 : Int) (t0 : Nat → Dat), log_Commit_1_J1 n1 = some r ∧ s = ⟨tl t0 [(4, .int .i64 n1)], hl [], 0, 20⟩) ?_ ?_
  · refine a_seq ?_
    refine a_reg _ rfl (s := ?zs4) ?_ ?_
    rotate_left
    · simp (maxSteps := 2000000) only [EVT, stepR, evOp, St.ev, St.app, St.put, wrs, evLoad, cut, evBuiltin, datOf, datOf1, TIS, CS, Nat.reduceAdd, Nat.reduceMul, Nat.reduceEqDiff, ↓reduceIte, reduceCtorEq, Nat.reduceLT, Nat.reduceLeDiff, Nat.reduceSub, Nat.reduceBEq]
      (repeat' apply And.intro) <;> first | rfl | assumption | omega | (simp; done) | (simp; omega) | (simp_all; done)
    refine sA_n ?_
    refine a_blk ?_
    refine a_loop (fun m s => ∃ (n2 : Int) (v2 : Int) (t0 : Nat → Dat), log_Commit_1_L1 v1 p1 m n2 v2 = some r ∧ s = ⟨tl t0 [(0, .int .i64 p1), (4, .int .i64 n2), (7, .list 1 (v1.map (ci .i64))), (8, .int .i64 (v1.length : Int)), (9, .int .i64 v2)], hl [], 0, 20⟩) BIG ?_ ?_
    · refine wk_l [] [] [(0, .int .i64 p1), (4, .int .i64 0), (7, .list 1 (v1.map (ci .i64))), (8, .int .i64 (v1.length : Int)), (9, .int .i64 0)] (by show ([0, 4, 7, 8, 9] : List Nat).Nodup; decide) (by show ([] : List Nat).Nodup; decide) ?_ ?_ (fun t0 => ⟨0, 0, t0, H, rfl⟩)
      · exact trivial
      · (simp only [AllT, tl_cons, tl_nil, upd_apply, List.getD_cons_zero, List.getD_cons_succ, Nat.reduceEqDiff, ↓reduceIte, and_true]); exact ⟨(.int' rfl), (.int' rfl), (.lst _ _ _ (ci_pu .i64) rfl), (.int' rfl), (.int' rfl)⟩
    · rintro m_log_Commit_1_L1 s ⟨n2, v2, t0, H, rfl⟩
      obtain _ | m_log_Commit_1_L1 := m_log_Commit_1_L1
      · cases (show (none : Option _) = some _ from H)
      · rw [log_Commit_1_L1] at H
        refine a_seq ?_
        refine a_reg _ rfl (s := ?zs5) ?_ ?_
        rotate_left
        · simp (maxSteps := 2000000) only [EVT, stepR, evOp, St.ev, St.app, St.put, wrs, evBin, binInt, TIS, CS, Nat.reduceAdd, Nat.reduceMul, Nat.reduceEqDiff, ↓reduceIte, reduceCtorEq, Nat.reduceLT, Nat.reduceLeDiff]
          (repeat' apply And.intro) <;> first | rfl | assumption | omega | (simp; done) | (simp; omega) | (simp_all; done)
        refine sA_n ?_
        refine a_seq ?_
        refine a_condb ((decide (v2 < (v1.length : Int)))) (by rfl) (fun zc1 => ?_) (fun zc1 => ?_)
        · have H := cond_t zc1 H
          refine a_skip ?_
          refine sA_n ?_
          refine a_cut (fun s => ∃ (n3 : Int) (t0 : Nat → Dat), log_Commit_1_J2 (log_Commit_1_L1 v1 p1 m_log_Commit_1_L1) v2 n3 = some r ∧ s = ⟨tl t0 [(0, .int .i64 p1), (4, .int .i64 n3), (7, .list 1 (v1.map (ci .i64))), (8, .int .i64 (v1.length : Int)), (9, .int .i64 v2)], hl [], 0, 20⟩) ?_ ?_
          · refine a_blk ?_
            refine a_seq ?_
            obtain ⟨x1, zh1, H⟩ := bind_some H
            have zg1 := idx_map zh1 (ci .i64)
            try simp only [Int.reduceToNat] at zg1
            obtain ⟨zh1a, zh1b, _⟩ := idx_some zh1
            refine a_reg _ rfl (s := ?zs7) ?_ ?_
            rotate_left
            · simp (maxSteps := 2000000) only [EVT, stepR, evOp, St.ev, St.app, St.put, wrs, evIndexAddr, evLoad, cut, TIS, CS, Nat.reduceAdd, Nat.reduceMul, Nat.reduceEqDiff, ↓reduceIte, reduceCtorEq, Nat.reduceLT, Nat.reduceLeDiff, Int.reduceToNat, Nat.reduceSub, Nat.reduceBEq, ↓zc1, zg1]
              (repeat' apply And.intro) <;> first | rfl | assumption | omega | (simp; done) | (simp; omega) | (simp_all; done)
            refine sA_n ?_
            refine a_seq ?_
            refine a_reg _ rfl (s := ?zs8) ?_ ?_
            rotate_left
            · simp (maxSteps := 2000000) only [EVT, stepR, evOp, St.ev, St.app, St.put, wrs, evBin, binInt, TIS, CS, Nat.reduceAdd, Nat.reduceMul, Nat.reduceEqDiff, ↓reduceIte, reduceCtorEq, Nat.reduceLT, Nat.reduceLeDiff, ↓zc1, zg1]
              (repeat' apply And.intro) <;> first | rfl | assumption | omega | (simp; done) | (simp; omega) | (simp_all; done)
            refine sA_n ?_
            refine a_condb ((decide (p1 ≤ x1))) (by rfl) (fun zc2 => ?_) (fun zc2 => ?_)
            · have H := cond_t zc2 H
              refine a_reg _ rfl (s := ?zs9) ?_ ?_
              rotate_left
              · simp (maxSteps := 2000000) only [EVT, stepR, evOp, St.ev, St.app, St.put, wrs, datOf, datOf1, evBin, binInt, TIS, CS, Nat.reduceAdd, Nat.reduceMul, Nat.reduceEqDiff, ↓reduceIte, reduceCtorEq, Nat.reduceLT, Nat.reduceLeDiff, ↓zc1, zg1, ↓zc2]
                (repeat' apply And.intro) <;> first | rfl | assumption | omega | (simp; done) | (simp; omega) | (simp_all; done)
              refine bA_n ?_
              refine cA_n ?_
              refine wk_l [] [] [(0, .int .i64 p1), (4, .int .i64 (IntKind.wrap .i64 (n2 + 1))), (7, .list 1 (v1.map (ci .i64))), (8, .int .i64 (v1.length : Int)), (9, .int .i64 v2)] (by show ([0, 4, 7, 8, 9] : List Nat).Nodup; decide) (by show ([] : List Nat).Nodup; decide) ?_ ?_ (fun t0 => ⟨(IntKind.wrap .i64 (n2 + 1)), t0, H, rfl⟩)
              · exact trivial
              · (simp only [AllT, tl_cons, tl_nil, upd_apply, List.getD_cons_zero, List.getD_cons_succ, Nat.reduceEqDiff, ↓reduceIte, and_true]); exact ⟨(.int' rfl), (.int' rfl), (.lst _ _ _ (ci_pu .i64) rfl), (.int' rfl), (.int' rfl)⟩
            · have H := cond_f zc2 H
              refine a_skip ?_
              refine bA_n ?_
              refine cA_n ?_
              refine wk_l [] [] [(0, .int .i64 p1), (4, .int .i64 n2), (7, .list 1 (v1.map (ci .i64))), (8, .int .i64 (v1.length : Int)), (9, .int .i64 v2)] (by show ([0, 4, 7, 8, 9] : List Nat).Nodup; decide) (by show ([] : List Nat).Nodup; decide) ?_ ?_ (fun t0 => ⟨n2, t0, H, rfl⟩)
              · exact trivial
              · (simp only [AllT, tl_cons, tl_nil, upd_apply, List.getD_cons_zero, List.getD_cons_succ, Nat.reduceEqDiff, ↓reduceIte, and_true]); exact ⟨(.int' rfl), (.int' rfl), (.lst _ _ _ (ci_pu .i64) rfl), (.int' rfl), (.int' rfl)⟩
          · rintro s ⟨n3, t0, H, rfl⟩
            unfold log_Commit_1_J2 at H
            refine a_reg _ rfl (s := ?zs6) ?_ ?_
            rotate_left
            · simp (maxSteps := 2000000) only [EVT, stepR, evOp, St.ev, St.app, St.put, wrs, datOf, datOf1, evBin, binInt, TIS, CS, Nat.reduceAdd, Nat.reduceMul, Nat.reduceEqDiff, ↓reduceIte, reduceCtorEq, Nat.reduceLT, Nat.reduceLeDiff]
              (repeat' apply And.intro) <;> first | rfl | assumption | omega | (simp; done) | (simp; omega) | (simp_all; done)
            refine lA_n ?_
            refine wk_l [] [] [(0, .int .i64 p1), (4, .int .i64 n3), (7, .list 1 (v1.map (ci .i64))), (8, .int .i64 (v1.length : Int)), (9, .int .i64 (IntKind.wrap .i64 (v2 + 1)))] (by show ([0, 4, 7, 8, 9] : List Nat).Nodup; decide) (by show ([] : List Nat).Nodup; decide) ?_ ?_ (fun t0 => ⟨_, Nat.lt_succ_self _, n3, (IntKind.wrap .i64 (v2 + 1)), t0, H, rfl⟩)
            · exact trivial
            · (simp only [AllT, tl_cons, tl_nil, upd_apply, List.getD_cons_zero, List.getD_cons_succ, Nat.reduceEqDiff, ↓reduceIte, and_true]); exact ⟨(.int' rfl), (.int' rfl), (.lst _ _ _ (ci_pu .i64) rfl), (.int' rfl), (.int' rfl)⟩
        · have H := cond_f zc1 H
          refine a_exit ?_
          refine sA_e ?_
          refine lA_e ?_
          refine bA_hit ?_
          refine cA_n ?_
          refine wk_l [] [] [(4, .int .i64 n2)] (by show ([4] : List Nat).Nodup; decide) (by show ([] : List Nat).Nodup; decide) ?_ ?_ (fun t0 => ⟨n2, t0, H, rfl⟩)
          · exact trivial
          · (simp only [AllT, tl_cons, tl_nil, upd_apply, List.getD_cons_zero, List.getD_cons_succ, Nat.reduceEqDiff, ↓reduceIte, and_true]); exact (.int' rfl)
  · rintro s ⟨n1, t0, H, rfl⟩
    unfold log_Commit_1_J1 at H
    refine a_seq ?_
    refine a_reg _ rfl (s := ?zs3) ?_ ?_
    rotate_left
    · simp (maxSteps := 2000000) only [EVT, stepR, evOp, St.ev, St.app, St.put, wrs, TIS, CS, Nat.reduceAdd, Nat.reduceMul, Nat.reduceEqDiff, ↓reduceIte, reduceCtorEq, Nat.reduceLT, Nat.reduceLeDiff]
      (repeat' apply And.intro) <;> first | rfl | assumption | omega | (simp; done) | (simp; omega) | (simp_all; done)
    refine sA_n ?_
    refine a_ret ?_
    obtain rfl := Option.some.inj H
    refine e_r2 (d := ?zd1) ?_ ?_
    rotate_left
    · simp only [EVT, resR, single, evLoad, cut, TIS, CS, Nat.reduceAdd, Nat.reduceEqDiff, ↓reduceIte, reduceCtorEq, Nat.reduceLT, Nat.reduceLeDiff, Nat.reduceSub, Nat.reduceBEq]
      (repeat' apply And.intro) <;> first | rfl | assumption | omega | (simp; done)
    exact (.int' rfl)
def slices_EqualFunc_J1 : Option Bool :=
  some (true)
def slices_EqualFunc_L1 (s1 : List Entry) (s2 : List Entry) (eq1 : Entry → Entry → Option Bool) : Nat → Int → Option Bool
  | 0, _ => none
  | m_ + 1, v1 => cond (decide (v1 < (s1.length : Int))) ((idx s1 v1).bind fun x1 => (idx s2 v1).bind fun x2 => (eq1 x1 x2).bind fun r1 => cond (!r1) (some (false)) (slices_EqualFunc_L1 s1 s2 eq1 m_ (IntKind.wrap .i64 (v1 + 1)))) (slices_EqualFunc_J1)
def slices_EqualFunc_f (s1 : List Entry) (s2 : List Entry) (eq1 : Entry → Entry → Option Bool) : Option Bool :=
  cond ((s1.length : Int) != (s2.length : Int)) (some (false)) (slices_EqualFunc_L1 s1 s2 eq1 BIG 0)
set_option maxHeartbeats 4000000 in
set_option maxRecDepth 20000 in
theorem slices_EqualFunc_pc {s1 : List Entry} {s2 : List Entry} {eq1 : Entry → Entry → Option Bool} {eq1_F : FuncId} {eq1_caps : List Dat} (eq1_hp : ∀ (x0_ : Entry) (x1_ : Entry) (r : Bool), eq1 x0_ x1_ = some r → PC Try.prog eq1_F (.agg (Entry.c x0_) :: .agg (Entry.c x1_) :: eq1_caps) (.bool r)) (eq1_pu : Pus eq1_caps) {r : Bool} (H : slices_EqualFunc_f s1 s2 eq1 = some r) : PC Try.prog 31 [.list 2 (s1.map Entry.c), .list 2 (s2.map Entry.c), .fn (.func eq1_F) [] eq1_caps] (.bool r) := by
  refine pcA_of Try.func31 (by rfl) (by decide) 32 (by rfl) [.tmp 6] (by rfl) ?_
  unfold slices_EqualFunc_f at H
  simp only [ent]
  refine a_seq ?_
  refine a_reg _ rfl (s := ?zs1) ?_ ?_
  rotate_left
  · simp (maxSteps := 2000000) only [EVT, stepR, evOp, St.ev, St.app, St.put, wrs, datOf, datOf1, TIS, CS, Nat.reduceAdd, Nat.reduceMul, Nat.reduceEqDiff, ↓reduceIte, reduceCtorEq, Nat.reduceLT, Nat.reduceLeDiff]
    (repeat' apply And.intro) <;> first | rfl | assumption | omega | (simp; done) | (simp; omega) | (simp_all; done)
  refine sA_n ?_
  refine a_seq ?_
  refine a_seq ?_
  refine a_reg _ rfl (s := ?zs2) ?_ ?_
  rotate_left
  · simp (maxSteps := 2000000) only [EVT, stepR, evOp, St.ev, St.app, St.put, wrs, evBuiltin, evBin, binInt, TIS, CS, Nat.reduceAdd, Nat.reduceMul, Nat.reduceEqDiff, ↓reduceIte, reduceCtorEq, Nat.reduceLT, Nat.reduceLeDiff, Nat.reduceSub, Nat.reduceBEq]
    (repeat' apply And.intro) <;> first | rfl | assumption | omega | (simp; done) | (simp; omega) | (simp_all; done)
  refine sA_n ?_
  refine a_condb (((s1.length : Int) != (s2.length : Int))) (by rfl) (fun zc1 => ?_) (fun zc1 => ?_)
  · have H := cond_t zc1 H
    refine a_seq ?_
    refine a_reg _ rfl (s := ?zs3) ?_ ?_
    rotate_left
    · simp (maxSteps := 2000000) only [EVT, stepR, evOp, St.ev, St.app, St.put, wrs, datOf, datOf1, TIS, CS, Nat.reduceAdd, Nat.reduceMul, Nat.reduceEqDiff, ↓reduceIte, reduceCtorEq, Nat.reduceLT, Nat.reduceLeDiff, ↓zc1]
      (repeat' apply And.intro) <;> first | rfl | assumption | omega | (simp; done) | (simp; omega) | (simp_all; done)
    refine sA_n ?_
    refine a_ret ?_
    refine sA_r ?_
    obtain rfl := Option.some.inj H
    refine e_r2 (d := ?zd1) ?_ ?_
    rotate_left
    · simp only [EVT, resR, single, evLoad, cut, TIS, CS, Nat.reduceAdd, Nat.reduceEqDiff, ↓reduceIte, reduceCtorEq, Nat.reduceLT, Nat.reduceLeDiff, Nat.reduceSub, Nat.reduceBEq, zc1]
      (repeat' apply And.intro) <;> first | rfl | assumption | omega | (simp; done)
    exact (.bool' (by first | rfl | assumption | (simp_all; done)))
  · have H := cond_f zc1 H
    refine a_skip ?_
    refine sA_n ?_
    refine a_cut (fun s => ∃ (t0 : Nat → Dat), slices_EqualFunc_J1 = some r ∧ s = ⟨tl t0 [], hl [], 0, 32⟩) ?_ ?_
    · refine a_seq ?_
      refine a_reg _ rfl (s := ?zs5) ?_ ?_
      rotate_left
      · simp (maxSteps := 2000000) only [EVT, stepR, evOp, St.ev, St.app, St.put, wrs, evBuiltin, datOf, datOf1, TIS, CS, Nat.reduceAdd, Nat.reduceMul, Nat.reduceEqDiff, ↓reduceIte, reduceCtorEq, Nat.reduceLT, Nat.reduceLeDiff, Nat.reduceSub, Nat.reduceBEq, ↓zc1]
        (repeat' apply And.intro) <;> first | rfl | assumption | omega | (simp; done) | (simp; omega) | (simp_all; done)
      refine sA_n ?_
      refine a_blk ?_
      refine a_loop (fun m s => ∃ (v1 : Int) (t0 : Nat → Dat), slices_EqualFunc_L1 s1 s2 eq1 m v1 = some r ∧ s = ⟨tl t0 [(1, .list 2 (s2.map Entry.c)), (2, .fn (.func eq1_F) [] eq1_caps), (15, .list 2 (s1.map Entry.c)), (16, .int .i64 (s1.length : Int)), (17, .int .i64 v1)], hl [], 0, 32⟩) BIG ?_ ?_
      · refine wk_l [] [] [(1, .list 2 (s2.map Entry.c)), (2, .fn (.func eq1_F) [] eq1_caps), (15, .list 2 (s1.map Entry.c)), (16, .int .i64 (s1.length : Int)), (17, .int .i64 0)] (by show ([1, 2, 15, 16, 17] : List Nat).Nodup; decide) (by show ([] : List Nat).Nodup; decide) ?_ ?_ (fun t0 => ⟨0, t0, H, rfl⟩)
        · exact trivial
        · (simp only [AllT, tl_cons, tl_nil, upd_apply, List.getD_cons_zero, List.getD_cons_succ, Nat.reduceEqDiff, ↓reduceIte, and_true]); exact ⟨(.lst _ _ _ Entry.pu rfl), (.fn' .nil (RNs.pu eq1_pu)), (.lst _ _ _ Entry.pu rfl), (.int' rfl), (.int' rfl)⟩
      · rintro m_slices_EqualFunc_L1 s ⟨v1, t0, H, rfl⟩
        obtain _ | m_slices_EqualFunc_L1 := m_slices_EqualFunc_L1
        · cases (show (none : Option _) = some _ from H)
        · rw [slices_EqualFunc_L1] at H
          refine a_seq ?_
          refine a_reg _ rfl (s := ?zs6) ?_ ?_
          rotate_left
          · simp (maxSteps := 2000000) only [EVT, stepR, evOp, St.ev, St.app, St.put, wrs, evBin, binInt, TIS, CS, Nat.reduceAdd, Nat.reduceMul, Nat.reduceEqDiff, ↓reduceIte, reduceCtorEq, Nat.reduceLT, Nat.reduceLeDiff]
            (repeat' apply And.intro) <;> first | rfl | assumption | omega | (simp; done) | (simp; omega) | (simp_all; done)
          refine sA_n ?_
          refine a_seq ?_
          refine a_condb ((decide (v1 < (s1.length : Int)))) (by rfl) (fun zc2 => ?_) (fun zc2 => ?_)
          · have H := cond_t zc2 H
            refine a_skip ?_
            refine sA_n ?_
            refine a_seq ?_
            refine a_blk ?_
            refine a_seq ?_
            obtain ⟨x1, zh1, H⟩ := bind_some H
            have zg1 := idx_map zh1 Entry.c
            try simp only [Int.reduceToNat] at zg1
            obtain ⟨zh1a, zh1b, _⟩ := idx_some zh1
            refine a_reg _ rfl (s := ?zs7) ?_ ?_
            rotate_left
            · simp (maxSteps := 2000000) only [EVT, stepR, evOp, St.ev, St.app, St.put, wrs, evIndexAddr, evLoad, cut, allOne, evStore, setR, TIS, CS, Nat.reduceAdd, Nat.reduceMul, Nat.reduceEqDiff, ↓reduceIte, reduceCtorEq, Nat.reduceLT, Nat.reduceLeDiff, Int.reduceToNat, Nat.reduceSub, Nat.reduceBEq, ↓zc2, zg1]
              (repeat' apply And.intro) <;> first | rfl | assumption | omega | (simp; done) | (simp; omega) | (simp_all; done)
            refine sA_n ?_
            refine a_seq ?_
            obtain ⟨x2, zh2, H⟩ := bind_some H
            have zg2 := idx_map zh2 Entry.c
            try simp only [Int.reduceToNat] at zg2
            obtain ⟨zh2a, zh2b, _⟩ := idx_some zh2
            refine a_reg _ rfl (s := ?zs8) ?_ ?_
            rotate_left
            · simp (maxSteps := 2000000) only [EVT, stepR, evOp, St.ev, St.app, St.put, wrs, evIndexAddr, evLoad, cut, allOne, evStore, setR, TIS, CS, Nat.reduceAdd, Nat.reduceMul, Nat.reduceEqDiff, ↓reduceIte, reduceCtorEq, Nat.reduceLT, Nat.reduceLeDiff, Int.reduceToNat, Nat.reduceSub, Nat.reduceBEq, ↓zc2, zg1, zg2]
              (repeat' apply And.intro) <;> first | rfl | assumption | omega | (simp; done) | (simp; omega) | (simp_all; done)
            refine sA_n ?_
            refine a_seq ?_
            obtain ⟨r1, zh3, H⟩ := bind_some H
            have zk1 := eq1_hp _ _ _ zh3
            refine a_reg _ rfl (s := ?zs9) ?_ ?_
            rotate_left
            · try simp (maxSteps := 2000000) only [EVT, stepR, evOp, St.ev, St.app, St.put, wrs, evLoad, cut, frz, evUn, TIS, CS, Nat.reduceAdd, Nat.reduceMul, Nat.reduceEqDiff, ↓reduceIte, reduceCtorEq, Nat.reduceLT, Nat.reduceLeDiff, Nat.reduceSub, Nat.reduceBEq, ↓zc2, zg1, zg2]
              repeat' with_reducible apply And.intro
              all_goals try ((with_reducible show CallR _ _ _ _ _ _ _); refine cR_s zk1 (.cons (.agg' (.cons (.int' rfl) (.cons (.lst _ _ _ (ci_pu .u8) rfl) .nil))) (.cons (.agg' (.cons (.int' rfl) (.cons (.lst _ _ _ (ci_pu .u8) rfl) .nil))) (Pus.purRs eq1_pu))) (.bool _) ?_; simp (maxSteps := 2000000) only [EVT, stepR, evOp, St.ev, St.app, St.put, wrs, evLoad, cut, frz, evUn, TIS, CS, Nat.reduceAdd, Nat.reduceMul, Nat.reduceEqDiff, ↓reduceIte, reduceCtorEq, Nat.reduceLT, Nat.reduceLeDiff, Nat.reduceSub, Nat.reduceBEq, ↓zc2, zg1, zg2])
              all_goals ((repeat' apply And.intro) <;> first | rfl | assumption | omega | (simp; done) | (simp; omega) | (simp_all; done))
            refine sA_n ?_
            refine a_condb ((!r1)) (by rfl) (fun zc3 => ?_) (fun zc3 => ?_)
            · have H := cond_t zc3 H
              refine a_seq ?_
              refine a_reg _ rfl (s := ?zs10) ?_ ?_
              rotate_left
              · simp (maxSteps := 2000000) only [EVT, stepR, evOp, St.ev, St.app, St.put, wrs, datOf, datOf1, TIS, CS, Nat.reduceAdd, Nat.reduceMul, Nat.reduceEqDiff, ↓reduceIte, reduceCtorEq, Nat.reduceLT, Nat.reduceLeDiff, ↓zc2, zg1, zg2, ↓zc3]
                (repeat' apply And.intro) <;> first | rfl | assumption | omega | (simp; done) | (simp; omega) | (simp_all; done)
              refine sA_n ?_
              refine a_ret ?_
              refine bA_r ?_
              refine sA_r ?_
              refine lA_r ?_
              refine bA_r ?_
              refine cA_r ?_
              obtain rfl := Option.some.inj H
              refine e_r2 (d := ?zd3) ?_ ?_
              rotate_left
              · simp only [EVT, resR, single, evLoad, cut, TIS, CS, Nat.reduceAdd, Nat.reduceEqDiff, ↓reduceIte, reduceCtorEq, Nat.reduceLT, Nat.reduceLeDiff, Nat.reduceSub, Nat.reduceBEq, zc2, zg1, zg2, zc3]
                (repeat' apply And.intro) <;> first | rfl | assumption | omega | (simp; done)
              exact (.bool' (by first | rfl | assumption | (simp_all; done)))
            · have H := cond_f zc3 H
              refine a_skip ?_
              refine bA_n ?_
              refine sA_n ?_
              refine a_reg _ rfl (s := ?zs11) ?_ ?_
              rotate_left
              · simp (maxSteps := 2000000) only [EVT, stepR, evOp, St.ev, St.app, St.put, wrs, datOf, datOf1, evBin, binInt, TIS, CS, Nat.reduceAdd, Nat.reduceMul, Nat.reduceEqDiff, ↓reduceIte, reduceCtorEq, Nat.reduceLT, Nat.reduceLeDiff, ↓zc2, zg1, zg2, ↓zc3]
                (repeat' apply And.intro) <;> first | rfl | assumption | omega | (simp; done) | (simp; omega) | (simp_all; done)
              refine lA_n ?_
              refine wk_l [] [] [(1, .list 2 (s2.map Entry.c)), (2, .fn (.func eq1_F) [] eq1_caps), (15, .list 2 (s1.map Entry.c)), (16, .int .i64 (s1.length : Int)), (17, .int .i64 (IntKind.wrap .i64 (v1 + 1)))] (by show ([1, 2, 15, 16, 17] : List Nat).Nodup; decide) (by show ([] : List Nat).Nodup; decide) ?_ ?_ (fun t0 => ⟨_, Nat.lt_succ_self _, (IntKind.wrap .i64 (v1 + 1)), t0, H, rfl⟩)
              · exact trivial
              · (simp only [AllT, tl_cons, tl_nil, upd_apply, List.getD_cons_zero, List.getD_cons_succ, Nat.reduceEqDiff, ↓reduceIte, and_true]); exact ⟨(.lst _ _ _ Entry.pu rfl), (.fn' .nil (RNs.pu eq1_pu)), (.lst _ _ _ Entry.pu rfl), (.int' rfl), (.int' rfl)⟩
          · have H := cond_f zc2 H
            refine a_exit ?_
            refine sA_e ?_
            refine lA_e ?_
            refine bA_hit ?_
            refine cA_n ?_
            refine wk_l [] [] [] (by show ([] : List Nat).Nodup; decide) (by show ([] : List Nat).Nodup; decide) ?_ ?_ (fun t0 => ⟨t0, H, rfl⟩)
            · exact trivial
            · exact trivial
    · rintro s ⟨t0, H, rfl⟩
      unfold slices_EqualFunc_J1 at H
      refine a_seq ?_
      refine a_reg _ rfl (s := ?zs4) ?_ ?_
      rotate_left
      · simp (maxSteps := 2000000) only [EVT, stepR, evOp, St.ev, St.app, St.put, wrs, datOf, datOf1, TIS, CS, Nat.reduceAdd, Nat.reduceMul, Nat.reduceEqDiff, ↓reduceIte, reduceCtorEq, Nat.reduceLT, Nat.reduceLeDiff]
        (repeat' apply And.intro) <;> first | rfl | assumption | omega | (simp; done) | (simp; omega) | (simp_all; done)
      refine sA_n ?_
      refine a_ret ?_
      obtain rfl := Option.some.inj H
      refine e_r2 (d := ?zd2) ?_ ?_
      rotate_left
      · simp only [EVT, resR, single, evLoad, cut, TIS, CS, Nat.reduceAdd, Nat.reduceEqDiff, ↓reduceIte, reduceCtorEq, Nat.reduceLT, Nat.reduceLeDiff, Nat.reduceSub, Nat.reduceBEq]
        (repeat' apply And.intro) <;> first | rfl | assumption | omega | (simp; done)
      exact (.bool' (by first | rfl | assumption | (simp_all; done)))
def log_Same_f (a1 : List Entry) (b1 : List Entry) : Option Bool :=
  (slices_EqualFunc_f a1 b1 log_alike_f).bind fun r1 => some (r1)
set_option maxHeartbeats 4000000 in
set_option maxRecDepth 20000 in
theorem log_Same_pc {a1 : List Entry} {b1 : List Entry} {r : Bool} (H : log_Same_f a1 b1 = some r) : PC Try.prog 21 [.list 2 (a1.map Entry.c), .list 2 (b1.map Entry.c)] (.bool r) := by
  refine pcA_of Try.func21 (by rfl) (by decide) 8 (by rfl) [.tmp 4] (by rfl) ?_
  unfold log_Same_f at H
  simp only [ent]
  refine a_seq ?_
  refine a_reg _ rfl (s := ?zs1) ?_ ?_
  rotate_left
  · simp (maxSteps := 2000000) only [EVT, stepR, evOp, St.ev, St.app, St.put, wrs, datOf, datOf1, TIS, CS, Nat.reduceAdd, Nat.reduceMul, Nat.reduceEqDiff, ↓reduceIte, reduceCtorEq, Nat.reduceLT, Nat.reduceLeDiff]
    (repeat' apply And.intro) <;> first | rfl | assumption | omega | (simp; done) | (simp; omega) | (simp_all; done)
  refine sA_n ?_
  refine a_seq ?_
  obtain ⟨r1, zh1, H⟩ := bind_some H
  have zk1 := slices_EqualFunc_pc (eq1 := log_alike_f) (eq1_F := 27) (eq1_caps := []) (fun _ _ _ h => log_alike_pc h) .nil zh1
  refine a_reg _ rfl (s := ?zs2) ?_ ?_
  rotate_left
  · try simp (maxSteps := 2000000) only [EVT, stepR, evOp, St.ev, St.app, St.put, wrs, frz, TIS, CS, Nat.reduceAdd, Nat.reduceMul, Nat.reduceEqDiff, ↓reduceIte, reduceCtorEq, Nat.reduceLT, Nat.reduceLeDiff, Nat.reduceSub, Nat.reduceBEq]
    repeat' with_reducible apply And.intro
    all_goals try ((with_reducible show CallR _ _ _ _ _ _ _); refine cR_s zk1 (.cons (.lst _ _ _ Entry.pu rfl) (.cons (.lst _ _ _ Entry.pu rfl) (.cons (.fn' .nil .nil) .nil))) (.bool _) ?_; simp (maxSteps := 2000000) only [EVT, stepR, evOp, St.ev, St.app, St.put, wrs, frz, TIS, CS, Nat.reduceAdd, Nat.reduceMul, Nat.reduceEqDiff, ↓reduceIte, reduceCtorEq, Nat.reduceLT, Nat.reduceLeDiff, Nat.reduceSub, Nat.reduceBEq])
    all_goals ((repeat' apply And.intro) <;> first | rfl | assumption | omega | (simp; done) | (simp; omega) | (simp_all; done))
  refine sA_n ?_
  refine a_ret ?_
  obtain rfl := Option.some.inj H
  refine e_r2 (d := ?zd1) ?_ ?_
  rotate_left
  · simp only [EVT, resR, single, evLoad, cut, TIS, CS, Nat.reduceAdd, Nat.reduceEqDiff, ↓reduceIte, reduceCtorEq, Nat.reduceLT, Nat.reduceLeDiff, Nat.reduceSub, Nat.reduceBEq]
    (repeat' apply And.intro) <;> first | rfl | assumption | omega | (simp; done)
  exact (.bool' rfl)
def ref13_Same_J1 : Option Bool :=
  some (true)
def ref13_Same_L1 (a1 : List Entry) (b1 : List Entry) : Nat → Int → Option Bool
  | 0, _ => none
  | m_ + 1, i1 => cond (decide (i1 < (a1.length : Int))) ((idx a1 i1).bind fun x1 => (idx b1 i1).bind fun x2 => (ref13_Alike_f x1 x2).bind fun r1 => cond (!r1) (some (false)) (ref13_Same_L1 a1 b1 m_ (IntKind.wrap .i64 (i1 + 1)))) (ref13_Same_J1)
def ref13_Same_f (a1 : List Entry) (b1 : List Entry) : Option Bool :=
  cond ((a1.length : Int) != (b1.length : Int)) (some (false)) (ref13_Same_L1 a1 b1 BIG 0)
set_option maxHeartbeats 4000000 in
set_option maxRecDepth 20000 in
theorem ref13_Same_pc {a1 : List Entry} {b1 : List Entry} {r : Bool} (H : ref13_Same_f a1 b1 = some r) : PC Try.prog 16 [.list 2 (a1.map Entry.c), .list 2 (b1.map Entry.c)] (.bool r) := by
  refine pcA_of Try.func16 (by rfl) (by decide) 27 (by rfl) [.tmp 4] (by rfl) ?_
  unfold ref13_Same_f at H
  simp only [ent]
  refine a_seq ?_
  refine a_reg _ rfl (s := ?zs1) ?_ ?_
  rotate_left
  · simp (maxSteps := 2000000) only [EVT, stepR, evOp, St.ev, St.app, St.put, wrs, datOf, datOf1, TIS, CS, Nat.reduceAdd, Nat.reduceMul, Nat.reduceEqDiff, ↓reduceIte, reduceCtorEq, Nat.reduceLT, Nat.reduceLeDiff]
    (repeat' apply And.intro) <;> first | rfl | assumption | omega | (simp; done) | (simp; omega) | (simp_all; done)
  refine sA_n ?_
  refine a_seq ?_
  refine a_seq ?_
  refine a_reg _ rfl (s := ?zs2) ?_ ?_
  rotate_left
  · simp (maxSteps := 2000000) only [EVT, stepR, evOp, St.ev, St.app, St.put, wrs, evBuiltin, evBin, binInt, TIS, CS, Nat.reduceAdd, Nat.reduceMul, Nat.reduceEqDiff, ↓reduceIte, reduceCtorEq, Nat.reduceLT, Nat.reduceLeDiff, Nat.reduceSub, Nat.reduceBEq]
    (repeat' apply And.intro) <;> first | rfl | assumption | omega | (simp; done) | (simp; omega) | (simp_all; done)
  refine sA_n ?_
  refine a_condb (((a1.length : Int) != (b1.length : Int))) (by rfl) (fun zc1 => ?_) (fun zc1 => ?_)
  · have H := cond_t zc1 H
    refine a_seq ?_
    refine a_reg _ rfl (s := ?zs3) ?_ ?_
    rotate_left
    · simp (maxSteps := 2000000) only [EVT, stepR, evOp, St.ev, St.app, St.put, wrs, datOf, datOf1, TIS, CS, Nat.reduceAdd, Nat.reduceMul, Nat.reduceEqDiff, ↓reduceIte, reduceCtorEq, Nat.reduceLT, Nat.reduceLeDiff, ↓zc1]
      (repeat' apply And.intro) <;> first | rfl | assumption | omega | (simp; done) | (simp; omega) | (simp_all; done)
    refine sA_n ?_
    refine a_ret ?_
    refine sA_r ?_
    obtain rfl := Option.some.inj H
    refine e_r2 (d := ?zd1) ?_ ?_
    rotate_left
    · simp only [EVT, resR, single, evLoad, cut, TIS, CS, Nat.reduceAdd, Nat.reduceEqDiff, ↓reduceIte, reduceCtorEq, Nat.reduceLT, Nat.reduceLeDiff, Nat.reduceSub, Nat.reduceBEq, zc1]
      (repeat' apply And.intro) <;> first | rfl | assumption | omega | (simp; done)
    exact (.bool' (by first | rfl | assumption | (simp_all; done)))
  · have H := cond_f zc1 H
    refine a_skip ?_
    refine sA_n ?_
    refine a_cut (fun s => ∃ (t0 : Nat → Dat), ref13_Same_J1 = some r ∧ s = ⟨tl t0 [], hl [], 0, 27⟩) ?_ ?_
    · refine a_seq ?_
      refine a_reg _ rfl (s := ?zs5) ?_ ?_
      rotate_left
      · simp (maxSteps := 2000000) only [EVT, stepR, evOp, St.ev, St.app, St.put, wrs, datOf, datOf1, TIS, CS, Nat.reduceAdd, Nat.reduceMul, Nat.reduceEqDiff, ↓reduceIte, reduceCtorEq, Nat.reduceLT, Nat.reduceLeDiff, ↓zc1]
        (repeat' apply And.intro) <;> first | rfl | assumption | omega | (simp; done) | (simp; omega) | (simp_all; done)
      refine sA_n ?_
      refine a_blk ?_
      refine a_loop (fun m s => ∃ (i1 : Int) (t0 : Nat → Dat), ref13_Same_L1 a1 b1 m i1 = some r ∧ s = ⟨tl t0 [(0, .list 2 (a1.map Entry.c)), (1, .list 2 (b1.map Entry.c)), (5, .int .i64 i1)], hl [], 0, 27⟩) BIG ?_ ?_
      · refine wk_l [] [] [(0, .list 2 (a1.map Entry.c)), (1, .list 2 (b1.map Entry.c)), (5, .int .i64 0)] (by show ([0, 1, 5] : List Nat).Nodup; decide) (by show ([] : List Nat).Nodup; decide) ?_ ?_ (fun t0 => ⟨0, t0, H, rfl⟩)
        · exact trivial
        · (simp only [AllT, tl_cons, tl_nil, upd_apply, List.getD_cons_zero, List.getD_cons_succ, Nat.reduceEqDiff, ↓reduceIte, and_true]); exact ⟨(.lst _ _ _ Entry.pu rfl), (.lst _ _ _ Entry.pu rfl), (.int' rfl)⟩
      · rintro m_ref13_Same_L1 s ⟨i1, t0, H, rfl⟩
        obtain _ | m_ref13_Same_L1 := m_ref13_Same_L1
        · cases (show (none : Option _) = some _ from H)
        · rw [ref13_Same_L1] at H
          refine a_seq ?_
          refine a_seq ?_
          refine a_reg _ rfl (s := ?zs6) ?_ ?_
          rotate_left
          · simp (maxSteps := 2000000) only [EVT, stepR, evOp, St.ev, St.app, St.put, wrs, evBuiltin, evBin, binInt, TIS, CS, Nat.reduceAdd, Nat.reduceMul, Nat.reduceEqDiff, ↓reduceIte, reduceCtorEq, Nat.reduceLT, Nat.reduceLeDiff, Nat.reduceSub, Nat.reduceBEq]
            (repeat' apply And.intro) <;> first | rfl | assumption | omega | (simp; done) | (simp; omega) | (simp_all; done)
          refine sA_n ?_
          refine a_condb ((decide (i1 < (a1.length : Int)))) (by rfl) (fun zc2 => ?_) (fun zc2 => ?_)
          · have H := cond_t zc2 H
            refine a_skip ?_
            refine sA_n ?_
            refine a_seq ?_
            refine a_blk ?_
            refine a_seq ?_
            obtain ⟨x1, zh1, H⟩ := bind_some H
            have zg1 := idx_map zh1 Entry.c
            try simp only [Int.reduceToNat] at zg1
            obtain ⟨zh1a, zh1b, _⟩ := idx_some zh1
            obtain ⟨x2, zh2, H⟩ := bind_some H
            have zg2 := idx_map zh2 Entry.c
            try simp only [Int.reduceToNat] at zg2
            obtain ⟨zh2a, zh2b, _⟩ := idx_some zh2
            obtain ⟨r1, zh3, H⟩ := bind_some H
            have zk1 := ref13_Alike_pc zh3
            refine a_drW (by kernel_rfl) _ rfl (s := ?zs7) (by kernel_rfl) (by kernel_rfl) ?zs7f ?_ ?_ ?_
            rotate_left 2
            · try simp (maxSteps := 2000000) only [EVT, stepW, evOp, St.ev, St.app, St.put, wrs, evIndexAddr, evLoad, cut, frz, evUn, TIS, CS, Nat.reduceAdd, Nat.reduceMul, Nat.reduceEqDiff, ↓reduceIte, reduceCtorEq, Nat.reduceLT, Nat.reduceLeDiff, Int.reduceToNat, Nat.reduceSub, Nat.reduceBEq, ↓zc2, zg1, zg2]
              repeat' with_reducible apply And.intro
              all_goals try ((with_reducible show CallW _ _ _ _ _ _ _); refine cW_s [] zk1 (fun h2 e => (.cons (.agg' (.cons (.int' rfl) (.cons (.lst _ _ _ (ci_pu .u8) rfl) .nil))) (.cons (.agg' (.cons (.int' rfl) (.cons (.lst _ _ _ (ci_pu .u8) rfl) .nil))) .nil))) (.bool _) ?_; simp (maxSteps := 2000000) only [EVT, stepW, evOp, St.ev, St.app, St.put, wrs, evIndexAddr, evLoad, cut, frz, evUn, TIS, CS, Nat.reduceAdd, Nat.reduceMul, Nat.reduceEqDiff, ↓reduceIte, reduceCtorEq, Nat.reduceLT, Nat.reduceLeDiff, Int.reduceToNat, Nat.reduceSub, Nat.reduceBEq, ↓zc2, zg1, zg2])
              all_goals ((repeat' apply And.intro) <;> first | rfl | assumption | omega | (simp; done) | (simp; omega) | (simp_all; done))
            · kernel_rfl
            refine sA_n ?_
            refine a_condb ((!r1)) (by rfl) (fun zc3 => ?_) (fun zc3 => ?_)
            · have H := cond_t zc3 H
              refine a_seq ?_
              refine a_reg _ rfl (s := ?zs8) ?_ ?_
              rotate_left
              · simp (maxSteps := 2000000) only [EVT, stepR, evOp, St.ev, St.app, St.put, wrs, datOf, datOf1, TIS, CS, Nat.reduceAdd, Nat.reduceMul, Nat.reduceEqDiff, ↓reduceIte, reduceCtorEq, Nat.reduceLT, Nat.reduceLeDiff, ↓zc2, zg1, zg2, ↓zc3]
                (repeat' apply And.intro) <;> first | rfl | assumption | omega | (simp; done) | (simp; omega) | (simp_all; done)
              refine sA_n ?_
              refine a_ret ?_
              refine bA_r ?_
              refine sA_r ?_
              refine lA_r ?_
              refine bA_r ?_
              refine cA_r ?_
              obtain rfl := Option.some.inj H
              refine e_r2 (d := ?zd3) ?_ ?_
              rotate_left
              · simp only [EVT, resR, single, evLoad, cut, TIS, CS, Nat.reduceAdd, Nat.reduceEqDiff, ↓reduceIte, reduceCtorEq, Nat.reduceLT, Nat.reduceLeDiff, Nat.reduceSub, Nat.reduceBEq, zc2, zg1, zg2, zc3]
                (repeat' apply And.intro) <;> first | rfl | assumption | omega | (simp; done)
              exact (.bool' (by first | rfl | assumption | (simp_all; done)))
            · have H := cond_f zc3 H
              refine a_skip ?_
              refine bA_n ?_
              refine sA_n ?_
              refine a_reg _ rfl (s := ?zs9) ?_ ?_
              rotate_left
              · simp (maxSteps := 2000000) only [EVT, stepR, evOp, St.ev, St.app, St.put, wrs, datOf, datOf1, evBin, binInt, TIS, CS, Nat.reduceAdd, Nat.reduceMul, Nat.reduceEqDiff, ↓reduceIte, reduceCtorEq, Nat.reduceLT, Nat.reduceLeDiff, ↓zc2, zg1, zg2, ↓zc3]
                (repeat' apply And.intro) <;> first | rfl | assumption | omega | (simp; done) | (simp; omega) | (simp_all; done)
              refine lA_n ?_
              refine wk_l [] [] [(0, .list 2 (a1.map Entry.c)), (1, .list 2 (b1.map Entry.c)), (5, .int .i64 (IntKind.wrap .i64 (i1 + 1)))] (by show ([0, 1, 5] : List Nat).Nodup; decide) (by show ([] : List Nat).Nodup; decide) ?_ ?_ (fun t0 => ⟨_, Nat.lt_succ_self _, (IntKind.wrap .i64 (i1 + 1)), t0, H, rfl⟩)
              · exact trivial
              · (simp only [AllT, tl_cons, tl_nil, upd_apply, List.getD_cons_zero, List.getD_cons_succ, Nat.reduceEqDiff, ↓reduceIte, and_true]); exact ⟨(.lst _ _ _ Entry.pu rfl), (.lst _ _ _ Entry.pu rfl), (.int' rfl)⟩
          · have H := cond_f zc2 H
            refine a_exit ?_
            refine sA_e ?_
            refine lA_e ?_
            refine bA_hit ?_
            refine cA_n ?_
            refine wk_l [] [] [] (by show ([] : List Nat).Nodup; decide) (by show ([] : List Nat).Nodup; decide) ?_ ?_ (fun t0 => ⟨t0, H, rfl⟩)
            · exact trivial
            · exact trivial
    · rintro s ⟨t0, H, rfl⟩
      unfold ref13_Same_J1 at H
      refine a_seq ?_
      refine a_reg _ rfl (s := ?zs4) ?_ ?_
      rotate_left
      · simp (maxSteps := 2000000) only [EVT, stepR, evOp, St.ev, St.app, St.put, wrs, datOf, datOf1, TIS, CS, Nat.reduceAdd, Nat.reduceMul, Nat.reduceEqDiff, ↓reduceIte, reduceCtorEq, Nat.reduceLT, Nat.reduceLeDiff]
        (repeat' apply And.intro) <;> first | rfl | assumption | omega | (simp; done) | (simp; omega) | (simp_all; done)
      refine sA_n ?_
      refine a_ret ?_
      obtain rfl := Option.some.inj H
      refine e_r2 (d := ?zd2) ?_ ?_
      rotate_left
      · simp only [EVT, resR, single, evLoad, cut, TIS, CS, Nat.reduceAdd, Nat.reduceEqDiff, ↓reduceIte, reduceCtorEq, Nat.reduceLT, Nat.reduceLeDiff, Nat.reduceSub, Nat.reduceBEq]
        (repeat' apply And.intro) <;> first | rfl | assumption | omega | (simp; done)
      exact (.bool' (by first | rfl | assumption | (simp_all; done)))
def ref13_Meet_J1 : Option Bool :=
  some (true)
def ref13_Meet_J4 (k_ref13_Meet_L1 : Bool → Int → Option Bool) (alike2 : Bool) (i1 : Int) (v2 : Bool) : Option Bool :=
  cond v2 (some (false)) (k_ref13_Meet_L1 alike2 (IntKind.wrap .i64 (i1 + 1)))
def ref13_Meet_J3 (k_ref13_Meet_L1 : Bool → Int → Option Bool) (a1 : List Entry) (i1 : Int) (b1 : List Entry) (alike2 : Bool) : Option Bool :=
  (idx a1 i1).bind fun x1 => (idx b1 i1).bind fun x2 => ref13_Meet_J4 k_ref13_Meet_L1 alike2 i1 ((x1.term == x2.term) && (!alike2))
def ref13_Meet_J2 (k_ref13_Meet_L1 : Bool → Int → Option Bool) (alike1 : Bool) (a1 : List Entry) (i1 : Int) (b1 : List Entry) (v1 : Bool) : Option Bool :=
  cond v1 (cond alike1 ((idx a1 i1).bind fun x3 => (idx b1 i1).bind fun x4 => (ref13_Alike_f x3 x4).bind fun r1 => ref13_Meet_J3 k_ref13_Meet_L1 a1 i1 b1 r1) (ref13_Meet_J3 k_ref13_Meet_L1 a1 i1 b1 false)) (ref13_Meet_J1)
def ref13_Meet_L1 (a1 : List Entry) (b1 : List Entry) : Nat → Bool → Int → Option Bool
  | 0, _, _ => none
  | m_ + 1, alike1, i1 => ref13_Meet_J2 (ref13_Meet_L1 a1 b1 m_) alike1 a1 i1 b1 ((decide (i1 < (a1.length : Int))) && (decide (i1 < (b1.length : Int))))
def ref13_Meet_f (a1 : List Entry) (b1 : List Entry) : Option Bool :=
  ref13_Meet_L1 a1 b1 BIG true 0
set_option maxHeartbeats 4000000 in
set_option maxRecDepth 20000 in
theorem ref13_Meet_pc {a1 : List Entry} {b1 : List Entry} {r : Bool} (H : ref13_Meet_f a1 b1 = some r) : PC Try.prog 23 [.list 2 (a1.map Entry.c), .list 2 (b1.map Entry.c)] (.bool r) := by
  refine pcA_of Try.func23 (by rfl) (by decide) 46 (by rfl) [.tmp 4] (by rfl) ?_
  unfold ref13_Meet_f at H
  simp only [ent]
  refine a_seq ?_
  refine a_reg _ rfl (s := ?zs1) ?_ ?_
  rotate_left
  · simp (maxSteps := 2000000) only [EVT, stepR, evOp, St.ev, St.app, St.put, wrs, datOf, datOf1, TIS, CS, Nat.reduceAdd, Nat.reduceMul, Nat.reduceEqDiff, ↓reduceIte, reduceCtorEq, Nat.reduceLT, Nat.reduceLeDiff]
    (repeat' apply And.intro) <;> first | rfl | assumption | omega | (simp; done) | (simp; omega) | (simp_all; done)
  refine sA_n ?_
  refine a_seq ?_
  refine a_reg _ rfl (s := ?zs2) ?_ ?_
  rotate_left
  · simp (maxSteps := 2000000) only [EVT, stepR, evOp, St.ev, St.app, St.put, wrs, datOf, datOf1, TIS, CS, Nat.reduceAdd, Nat.reduceMul, Nat.reduceEqDiff, ↓reduceIte, reduceCtorEq, Nat.reduceLT, Nat.reduceLeDiff]
    (repeat' apply And.intro) <;> first | rfl | assumption | omega | (simp; done) | (simp; omega) | (simp_all; done)
  refine sA_n ?_
  refine a_cut (fun s => ∃ (t0 : Nat → Dat), ref13_Meet_J1 = some r ∧ s = ⟨tl t0 [], hl [], 0, 46⟩) ?_ ?_
  · refine a_seq ?_
    refine a_reg _ rfl (s := ?zs4) ?_ ?_
    rotate_left
    · simp (maxSteps := 2000000) only [EVT, stepR, evOp, St.ev, St.app, St.put, wrs, datOf, datOf1, TIS, CS, Nat.reduceAdd, Nat.reduceMul, Nat.reduceEqDiff, ↓reduceIte, reduceCtorEq, Nat.reduceLT, Nat.reduceLeDiff]
      (repeat' apply And.intro) <;> first | rfl | assumption | omega | (simp; done) | (simp; omega) | (simp_all; done)
    refine sA_n ?_
    refine a_blk ?_
    refine a_loop (fun m s => ∃ (alike1 : Bool) (i1 : Int) (t0 : Nat → Dat), ref13_Meet_L1 a1 b1 m alike1 i1 = some r ∧ s = ⟨tl t0 [(0, .list 2 (a1.map Entry.c)), (1, .list 2 (b1.map Entry.c)), (5, .bool alike1), (6, .int .i64 i1)], hl [], 0, 46⟩) BIG ?_ ?_
    · refine wk_l [] [] [(0, .list 2 (a1.map Entry.c)), (1, .list 2 (b1.map Entry.c)), (5, .bool true), (6, .int .i64 0)] (by show ([0, 1, 5, 6] : List Nat).Nodup; decide) (by show ([] : List Nat).Nodup; decide) ?_ ?_ (fun t0 => ⟨true, 0, t0, H, rfl⟩)
      · exact trivial
      · (simp only [AllT, tl_cons, tl_nil, upd_apply, List.getD_cons_zero, List.getD_cons_succ, Nat.reduceEqDiff, ↓reduceIte, and_true]); exact ⟨(.lst _ _ _ Entry.pu rfl), (.lst _ _ _ Entry.pu rfl), (.bool' (by first | rfl | assumption | (simp_all; done))), (.int' rfl)⟩
    · rintro m_ref13_Meet_L1 s ⟨alike1, i1, t0, H, rfl⟩
      obtain _ | m_ref13_Meet_L1 := m_ref13_Meet_L1
      · cases (show (none : Option _) = some _ from H)
      · rw [ref13_Meet_L1] at H
        refine a_seq ?_
        refine a_cut (fun s => ∃ (v1 : Bool) (t0 : Nat → Dat), ref13_Meet_J2 (ref13_Meet_L1 a1 b1 m_ref13_Meet_L1) alike1 a1 i1 b1 v1 = some r ∧ s = ⟨tl t0 [(0, .list 2 (a1.map Entry.c)), (1, .list 2 (b1.map Entry.c)), (5, .bool alike1), (6, .int .i64 i1), (16, .bool v1)], hl [], 0, 46⟩) ?_ ?_
        · refine bool_split (b := (decide (i1 < (a1.length : Int)))) (fun zc5 => ?_) (fun zc5 => ?_)
          · rw [zc5] at H
            refine a_reg _ rfl (s := ?zs11) ?_ ?_
            rotate_left
            · simp (maxSteps := 2000000) only [EVT, stepR, evOp, St.ev, St.app, St.put, wrs, evBuiltin, evBin, binInt, datOf, datOf1, TIS, CS, Nat.reduceAdd, Nat.reduceMul, Nat.reduceEqDiff, ↓reduceIte, reduceCtorEq, Nat.reduceLT, Nat.reduceLeDiff, Array.reduceGetElem?, Nat.reduceSub, Nat.reduceBEq, ↓zc5]
              try simp (maxSteps := 2000000) only [EVT, stepR, evOp, St.ev, St.app, St.put, wrs, evBuiltin, evBin, binInt, datOf, datOf1, TIS, CS, Nat.reduceAdd, Nat.reduceMul, Nat.reduceEqDiff, ↓reduceIte, reduceCtorEq, Nat.reduceLT, Nat.reduceLeDiff, Array.reduceGetElem?, Nat.reduceSub, Nat.reduceBEq, ↓zc5]
              (repeat' apply And.intro) <;> first | rfl | assumption | omega | (simp; done) | (simp; omega) | (simp_all; done)
            refine cA_n ?_
            refine wk_l [] [] [(0, .list 2 (a1.map Entry.c)), (1, .list 2 (b1.map Entry.c)), (5, .bool alike1), (6, .int .i64 i1), (16, .bool (decide (i1 < (b1.length : Int))))] (by show ([0, 1, 5, 6, 16] : List Nat).Nodup; decide) (by show ([] : List Nat).Nodup; decide) ?_ ?_ (fun t0 => ⟨(decide (i1 < (b1.length : Int))), t0, H, rfl⟩)
            · exact trivial
            · (simp only [AllT, tl_cons, tl_nil, upd_apply, List.getD_cons_zero, List.getD_cons_succ, Nat.reduceEqDiff, ↓reduceIte, and_true]); exact ⟨(.lst _ _ _ Entry.pu rfl), (.lst _ _ _ Entry.pu rfl), (.bool' rfl), (.int' rfl), (.bool' rfl)⟩
          · rw [zc5] at H
            refine a_reg _ rfl (s := ?zs12) ?_ ?_
            rotate_left
            · simp (maxSteps := 2000000) only [EVT, stepR, evOp, St.ev, St.app, St.put, wrs, evBuiltin, evBin, binInt, datOf, datOf1, TIS, CS, Nat.reduceAdd, Nat.reduceMul, Nat.reduceEqDiff, ↓reduceIte, reduceCtorEq, Nat.reduceLT, Nat.reduceLeDiff, Array.reduceGetElem?, Nat.reduceSub, Nat.reduceBEq, ↓zc5]
              try simp (maxSteps := 2000000) only [EVT, stepR, evOp, St.ev, St.app, St.put, wrs, evBuiltin, evBin, binInt, datOf, datOf1, TIS, CS, Nat.reduceAdd, Nat.reduceMul, Nat.reduceEqDiff, ↓reduceIte, reduceCtorEq, Nat.reduceLT, Nat.reduceLeDiff, Array.reduceGetElem?, Nat.reduceSub, Nat.reduceBEq, ↓zc5]
              (repeat' apply And.intro) <;> first | rfl | assumption | omega | (simp; done) | (simp; omega) | (simp_all; done)
            refine cA_n ?_
            refine wk_l [] [] [(0, .list 2 (a1.map Entry.c)), (1, .list 2 (b1.map Entry.c)), (5, .bool alike1), (6, .int .i64 i1), (16, .bool false)] (by show ([0, 1, 5, 6, 16] : List Nat).Nodup; decide) (by show ([] : List Nat).Nodup; decide) ?_ ?_ (fun t0 => ⟨false, t0, H, rfl⟩)
            · exact trivial
            · (simp only [AllT, tl_cons, tl_nil, upd_apply, List.getD_cons_zero, List.getD_cons_succ, Nat.reduceEqDiff, ↓reduceIte, and_true]); exact ⟨(.lst _ _ _ Entry.pu rfl), (.lst _ _ _ Entry.pu rfl), (.bool' rfl), (.int' rfl), (.bool' (by first | rfl | assumption | (simp_all; done)))⟩
        · rintro s ⟨v1, t0, H, rfl⟩
          unfold ref13_Meet_J2 at H
          refine a_condb (v1) (by rfl) (fun zc1 => ?_) (fun zc1 => ?_)
          · have H := cond_t zc1 H
            refine a_skip ?_
            refine sA_n ?_
            refine a_seq ?_
            refine a_blk ?_
            refine a_cut (fun s => ∃ (alike2 : Bool) (t0 : Nat → Dat), ref13_Meet_J3 (ref13_Meet_L1 a1 b1 m_ref13_Meet_L1) a1 i1 b1 alike2 = some r ∧ s = ⟨tl t0 [(0, .list 2 (a1.map Entry.c)), (1, .list 2 (b1.map Entry.c)), (5, .bool alike2), (6, .int .i64 i1)], hl [], 0, 46⟩) ?_ ?_
            · refine bool_split (b := alike1) (fun zc4 => ?_) (fun zc4 => ?_)
              · have H := cond_t zc4 H
                obtain ⟨x3, zh3, H⟩ := bind_some H
                have zg3 := idx_map zh3 Entry.c
                try simp only [Int.reduceToNat] at zg3
                obtain ⟨zh3a, zh3b, _⟩ := idx_some zh3
                obtain ⟨x4, zh4, H⟩ := bind_some H
                have zg4 := idx_map zh4 Entry.c
                try simp only [Int.reduceToNat] at zg4
                obtain ⟨zh4a, zh4b, _⟩ := idx_some zh4
                obtain ⟨r1, zh5, H⟩ := bind_some H
                have zk1 := ref13_Alike_pc zh5
                refine a_drW (by kernel_rfl) _ rfl (s := ?zs9) (by kernel_rfl) (by kernel_rfl) ?zs9f ?_ ?_ ?_
                rotate_left 2
                · try simp (maxSteps := 2000000) only [EVT, stepW, evOp, St.ev, St.app, St.put, wrs, evIndexAddr, evLoad, cut, frz, datOf, datOf1, TIS, CS, Nat.reduceAdd, Nat.reduceMul, Nat.reduceEqDiff, ↓reduceIte, reduceCtorEq, Nat.reduceLT, Nat.reduceLeDiff, Array.reduceGetElem?, Int.reduceToNat, Nat.reduceSub, Nat.reduceBEq, ↓zc1, ↓zc4, zg3, zg4]
                  repeat' with_reducible apply And.intro
                  all_goals try ((with_reducible show CallW _ _ _ _ _ _ _); refine cW_s [] zk1 (fun h2 e => (.cons (.agg' (.cons (.int' rfl) (.cons (.lst _ _ _ (ci_pu .u8) rfl) .nil))) (.cons (.agg' (.cons (.int' rfl) (.cons (.lst _ _ _ (ci_pu .u8) rfl) .nil))) .nil))) (.bool _) ?_; simp (maxSteps := 2000000) only [EVT, stepW, evOp, St.ev, St.app, St.put, wrs, evIndexAddr, evLoad, cut, frz, datOf, datOf1, TIS, CS, Nat.reduceAdd, Nat.reduceMul, Nat.reduceEqDiff, ↓reduceIte, reduceCtorEq, Nat.reduceLT, Nat.reduceLeDiff, Array.reduceGetElem?, Int.reduceToNat, Nat.reduceSub, Nat.reduceBEq, ↓zc1, ↓zc4, zg3, zg4])
                  all_goals ((repeat' apply And.intro) <;> first | rfl | assumption | omega | (simp; done) | (simp; omega) | (simp_all; done))
                · kernel_rfl
                refine cA_n ?_
                refine wk_l [] [] [(0, .list 2 (a1.map Entry.c)), (1, .list 2 (b1.map Entry.c)), (5, .bool r1), (6, .int .i64 i1)] (by show ([0, 1, 5, 6] : List Nat).Nodup; decide) (by show ([] : List Nat).Nodup; decide) ?_ ?_ (fun t0 => ⟨r1, t0, H, rfl⟩)
                · exact trivial
                · (simp only [AllT, tl_cons, tl_nil, upd_apply, List.getD_cons_zero, List.getD_cons_succ, Nat.reduceEqDiff, ↓reduceIte, and_true]); exact ⟨(.lst _ _ _ Entry.pu rfl), (.lst _ _ _ Entry.pu rfl), (.bool' rfl), (.int' rfl)⟩
              · have H := cond_f zc4 H
                refine a_drW (by kernel_rfl) _ rfl (s := ?zs10) (by kernel_rfl) (by kernel_rfl) ?zs10f ?_ ?_ ?_
                rotate_left 2
                · simp (maxSteps := 2000000) only [EVT, stepW, evOp, St.ev, St.app, St.put, wrs, evIndexAddr, evLoad, cut, frz, datOf, datOf1, TIS, CS, Nat.reduceAdd, Nat.reduceMul, Nat.reduceEqDiff, ↓reduceIte, reduceCtorEq, Nat.reduceLT, Nat.reduceLeDiff, Array.reduceGetElem?, Int.reduceToNat, Nat.reduceSub, Nat.reduceBEq, ↓zc1, ↓zc4]
                  try simp (maxSteps := 2000000) only [EVT, stepW, evOp, St.ev, St.app, St.put, wrs, evIndexAddr, evLoad, cut, frz, datOf, datOf1, TIS, CS, Nat.reduceAdd, Nat.reduceMul, Nat.reduceEqDiff, ↓reduceIte, reduceCtorEq, Nat.reduceLT, Nat.reduceLeDiff, Array.reduceGetElem?, Int.reduceToNat, Nat.reduceSub, Nat.reduceBEq, ↓zc1, ↓zc4]
                  (repeat' apply And.intro) <;> first | rfl | assumption | omega | (simp; done) | (simp; omega) | (simp_all; done)
                · kernel_rfl
                refine cA_n ?_
                refine wk_l [] [] [(0, .list 2 (a1.map Entry.c)), (1, .list 2 (b1.map Entry.c)), (5, .bool false), (6, .int .i64 i1)] (by show ([0, 1, 5, 6] : List Nat).Nodup; decide) (by show ([] : List Nat).Nodup; decide) ?_ ?_ (fun t0 => ⟨false, t0, H, rfl⟩)
                · exact trivial
                · (simp only [AllT, tl_cons, tl_nil, upd_apply, List.getD_cons_zero, List.getD_cons_succ, Nat.reduceEqDiff, ↓reduceIte, and_true]); exact ⟨(.lst _ _ _ Entry.pu rfl), (.lst _ _ _ Entry.pu rfl), (.bool' (by first | rfl | assumption | (simp_all; done))), (.int' rfl)⟩
            · rintro s ⟨alike2, t0, H, rfl⟩
              unfold ref13_Meet_J3 at H
              refine a_cut (fun s => ∃ (v2 : Bool) (t0 : Nat → Dat), ref13_Meet_J4 (ref13_Meet_L1 a1 b1 m_ref13_Meet_L1) alike2 i1 v2 = some r ∧ s = ⟨tl t0 [(0, .list 2 (a1.map Entry.c)), (1, .list 2 (b1.map Entry.c)), (5, .bool alike2), (6, .int .i64 i1), (45, .bool v2)], hl [], 0, 46⟩) ?_ ?_
              · obtain ⟨x1, zh1, H⟩ := bind_some H
                have zg1 := idx_map zh1 Entry.c
                try simp only [Int.reduceToNat] at zg1
                obtain ⟨zh1a, zh1b, _⟩ := idx_some zh1
                obtain ⟨x2, zh2, H⟩ := bind_some H
                have zg2 := idx_map zh2 Entry.c
                try simp only [Int.reduceToNat] at zg2
                obtain ⟨zh2a, zh2b, _⟩ := idx_some zh2
                refine bool_split (b := (x1.term == x2.term)) (fun zc3 => ?_) (fun zc3 => ?_)
                · rw [zc3] at H
                  refine a_drW (by kernel_rfl) _ rfl (s := ?zs7) (by kernel_rfl) (by kernel_rfl) ?zs7f ?_ ?_ ?_
                  rotate_left 2
                  · simp (maxSteps := 2000000) only [EVT, stepW, evOp, St.ev, St.app, St.put, wrs, evIndexAddr, evFieldAddr, evLoad, cut, evBin, binInt, evUn, datOf, datOf1, TIS, CS, Nat.reduceAdd, Nat.reduceMul, Nat.reduceEqDiff, ↓reduceIte, reduceCtorEq, Nat.reduceLT, Nat.reduceLeDiff, Array.reduceGetElem?, Int.reduceToNat, Nat.reduceSub, Nat.reduceBEq, zg1, zg2, ↓zc3]
                    try simp (maxSteps := 2000000) only [EVT, stepW, evOp, St.ev, St.app, St.put, wrs, evIndexAddr, evFieldAddr, evLoad, cut, evBin, binInt, evUn, datOf, datOf1, TIS, CS, Nat.reduceAdd, Nat.reduceMul, Nat.reduceEqDiff, ↓reduceIte, reduceCtorEq, Nat.reduceLT, Nat.reduceLeDiff, Array.reduceGetElem?, Int.reduceToNat, Nat.reduceSub, Nat.reduceBEq, zg1, zg2, ↓zc3]
                    (repeat' apply And.intro) <;> first | rfl | assumption | omega | (simp; done) | (simp; omega) | (simp_all; done)
                  · kernel_rfl
                  refine cA_n ?_
                  refine wk_l [] [] [(0, .list 2 (a1.map Entry.c)), (1, .list 2 (b1.map Entry.c)), (5, .bool alike2), (6, .int .i64 i1), (45, .bool (!alike2))] (by show ([0, 1, 5, 6, 45] : List Nat).Nodup; decide) (by show ([] : List Nat).Nodup; decide) ?_ ?_ (fun t0 => ⟨(!alike2), t0, H, rfl⟩)
                  · exact trivial
                  · (simp only [AllT, tl_cons, tl_nil, upd_apply, List.getD_cons_zero, List.getD_cons_succ, Nat.reduceEqDiff, ↓reduceIte, and_true]); exact ⟨(.lst _ _ _ Entry.pu rfl), (.lst _ _ _ Entry.pu rfl), (.bool' rfl), (.int' rfl), (.bool' rfl)⟩
                · rw [zc3] at H
                  refine a_drW (by kernel_rfl) _ rfl (s := ?zs8) (by kernel_rfl) (by kernel_rfl) ?zs8f ?_ ?_ ?_
                  rotate_left 2
                  · simp (maxSteps := 2000000) only [EVT, stepW, evOp, St.ev, St.app, St.put, wrs, evIndexAddr, evFieldAddr, evLoad, cut, evBin, binInt, evUn, datOf, datOf1, TIS, CS, Nat.reduceAdd, Nat.reduceMul, Nat.reduceEqDiff, ↓reduceIte, reduceCtorEq, Nat.reduceLT, Nat.reduceLeDiff, Array.reduceGetElem?, Int.reduceToNat, Nat.reduceSub, Nat.reduceBEq, zg1, zg2, ↓zc3]
                    try simp (maxSteps := 2000000) only [EVT, stepW, evOp, St.ev, St.app, St.put, wrs, evIndexAddr, evFieldAddr, evLoad, cut, evBin, binInt, evUn, datOf, datOf1, TIS, CS, Nat.reduceAdd, Nat.reduceMul, Nat.reduceEqDiff, ↓reduceIte, reduceCtorEq, Nat.reduceLT, Nat.reduceLeDiff, Array.reduceGetElem?, Int.reduceToNat, Nat.reduceSub, Nat.reduceBEq, zg1, zg2, ↓zc3]
                    (repeat' apply And.intro) <;> first | rfl | assumption | omega | (simp; done) | (simp; omega) | (simp_all; done)
                  · kernel_rfl
                  refine cA_n ?_
                  refine wk_l [] [] [(0, .list 2 (a1.map Entry.c)), (1, .list 2 (b1.map Entry.c)), (5, .bool alike2), (6, .int .i64 i1), (45, .bool false)] (by show ([0, 1, 5, 6, 45] : List Nat).Nodup; decide) (by show ([] : List Nat).Nodup; decide) ?_ ?_ (fun t0 => ⟨false, t0, H, rfl⟩)
                  · exact trivial
                  · (simp only [AllT, tl_cons, tl_nil, upd_apply, List.getD_cons_zero, List.getD_cons_succ, Nat.reduceEqDiff, ↓reduceIte, and_true]); exact ⟨(.lst _ _ _ Entry.pu rfl), (.lst _ _ _ Entry.pu rfl), (.bool' rfl), (.int' rfl), (.bool' (by first | rfl | assumption | (simp_all; done)))⟩
              · rintro s ⟨v2, t0, H, rfl⟩
                unfold ref13_Meet_J4 at H
                refine a_condb (v2) (by rfl) (fun zc2 => ?_) (fun zc2 => ?_)
                · have H := cond_t zc2 H
                  refine a_seq ?_
                  refine a_reg _ rfl (s := ?zs5) ?_ ?_
                  rotate_left
                  · simp (maxSteps := 2000000) only [EVT, stepR, evOp, St.ev, St.app, St.put, wrs, datOf, datOf1, TIS, CS, Nat.reduceAdd, Nat.reduceMul, Nat.reduceEqDiff, ↓reduceIte, reduceCtorEq, Nat.reduceLT, Nat.reduceLeDiff, ↓zc2]
                    (repeat' apply And.intro) <;> first | rfl | assumption | omega | (simp; done) | (simp; omega) | (simp_all; done)
                  refine sA_n ?_
                  refine a_ret ?_
                  refine bA_r ?_
                  refine sA_r ?_
                  refine lA_r ?_
                  refine bA_r ?_
                  refine cA_r ?_
                  obtain rfl := Option.some.inj H
                  refine e_r2 (d := ?zd2) ?_ ?_
                  rotate_left
                  · simp only [EVT, resR, single, evLoad, cut, TIS, CS, Nat.reduceAdd, Nat.reduceEqDiff, ↓reduceIte, reduceCtorEq, Nat.reduceLT, Nat.reduceLeDiff, Nat.reduceSub, Nat.reduceBEq, zc2]
                    (repeat' apply And.intro) <;> first | rfl | assumption | omega | (simp; done)
                  exact (.bool' (by first | rfl | assumption | (simp_all; done)))
                · have H := cond_f zc2 H
                  refine a_skip ?_
                  refine bA_n ?_
                  refine sA_n ?_
                  refine a_reg _ rfl (s := ?zs6) ?_ ?_
                  rotate_left
                  · simp (maxSteps := 2000000) only [EVT, stepR, evOp, St.ev, St.app, St.put, wrs, datOf, datOf1, evBin, binInt, TIS, CS, Nat.reduceAdd, Nat.reduceMul, Nat.reduceEqDiff, ↓reduceIte, reduceCtorEq, Nat.reduceLT, Nat.reduceLeDiff, ↓zc2]
                    (repeat' apply And.intro) <;> first | rfl | assumption | omega | (simp; done) | (simp; omega) | (simp_all; done)
                  refine lA_n ?_
                  refine wk_l [] [] [(0, .list 2 (a1.map Entry.c)), (1, .list 2 (b1.map Entry.c)), (5, .bool alike2), (6, .int .i64 (IntKind.wrap .i64 (i1 + 1)))] (by show ([0, 1, 5, 6] : List Nat).Nodup; decide) (by show ([] : List Nat).Nodup; decide) ?_ ?_ (fun t0 => ⟨_, Nat.lt_succ_self _, alike2, (IntKind.wrap .i64 (i1 + 1)), t0, H, rfl⟩)
                  · exact trivial
                  · (simp only [AllT, tl_cons, tl_nil, upd_apply, List.getD_cons_zero, List.getD_cons_succ, Nat.reduceEqDiff, ↓reduceIte, and_true]); exact ⟨(.lst _ _ _ Entry.pu rfl), (.lst _ _ _ Entry.pu rfl), (.bool' rfl), (.int' rfl)⟩
          · have H := cond_f zc1 H
            refine a_exit ?_
            refine sA_e ?_
            refine lA_e ?_
            refine bA_hit ?_
            refine cA_n ?_
            refine wk_l [] [] [] (by show ([] : List Nat).Nodup; decide) (by show ([] : List Nat).Nodup; decide) ?_ ?_ (fun t0 => ⟨t0, H, rfl⟩)
            · exact trivial
            · exact trivial
  · rintro s ⟨t0, H, rfl⟩
    unfold ref13_Meet_J1 at H
    refine a_seq ?_
    refine a_reg _ rfl (s := ?zs3) ?_ ?_
    rotate_left
    · simp (maxSteps := 2000000) only [EVT, stepR, evOp, St.ev, St.app, St.put, wrs, datOf, datOf1, TIS, CS, Nat.reduceAdd, Nat.reduceMul, Nat.reduceEqDiff, ↓reduceIte, reduceCtorEq, Nat.reduceLT, Nat.reduceLeDiff]
      (repeat' apply And.intro) <;> first | rfl | assumption | omega | (simp; done) | (simp; omega) | (simp_all; done)
    refine sA_n ?_
    refine a_ret ?_
    obtain rfl := Option.some.inj H
    refine e_r2 (d := ?zd1) ?_ ?_
    rotate_left
    · simp only [EVT, resR, single, evLoad, cut, TIS, CS, Nat.reduceAdd, Nat.reduceEqDiff, ↓reduceIte, reduceCtorEq, Nat.reduceLT, Nat.reduceLeDiff, Nat.reduceSub, Nat.reduceBEq]
      (repeat' apply And.intro) <;> first | rfl | assumption | omega | (simp; done)
    exact (.bool' (by first | rfl | assumption | (simp_all; done)))
def law13_rises_J1 : Option Bool :=
  some (true)
def law13_rises_J2 (k_law13_rises_L1 : Int → Option Bool) (i1 : Int) (v1 : Bool) : Option Bool :=
  cond v1 (some (false)) (k_law13_rises_L1 (IntKind.wrap .i64 (i1 + 1)))
def law13_rises_L1 (l1 : List Entry) : Nat → Int → Option Bool
  | 0, _ => none
  | m_ + 1, i1 => cond (decide (i1 < (l1.length : Int))) ((idx l1 i1).bind fun x1 => cond (decide (x1.term < 1)) (law13_rises_J2 (law13_rises_L1 l1 m_) i1 true) (cond (decide (0 < i1)) ((idx l1 (IntKind.wrap .i64 (i1 - 1))).bind fun x2 => law13_rises_J2 (law13_rises_L1 l1 m_) i1 (decide (x1.term < x2.term))) (law13_rises_J2 (law13_rises_L1 l1 m_) i1 false))) (law13_rises_J1)
def law13_rises_f (l1 : List Entry) : Option Bool :=
  law13_rises_L1 l1 BIG 0
set_option maxHeartbeats 4000000 in
set_option maxRecDepth 20000 in
theorem law13_rises_pc {l1 : List Entry} {r : Bool} (H : law13_rises_f l1 = some r) : PC Try.prog 24 [.list 2 (l1.map Entry.c)] (.bool r) := by
  refine pcA_of Try.func24 (by rfl) (by decide) 34 (by rfl) [.tmp 2] (by rfl) ?_
  unfold law13_rises_f at H
  simp only [ent]
  refine a_seq ?_
  refine a_reg _ rfl (s := ?zs1) ?_ ?_
  rotate_left
  · simp (maxSteps := 2000000) only [EVT, stepR, evOp, St.ev, St.app, St.put, wrs, datOf, datOf1, TIS, CS, Nat.reduceAdd, Nat.reduceMul, Nat.reduceEqDiff, ↓reduceIte, reduceCtorEq, Nat.reduceLT, Nat.reduceLeDiff]
    (repeat' apply And.intro) <;> first | rfl | assumption | omega | (simp; done) | (simp; omega) | (simp_all; done)
  refine sA_n ?_
  refine a_cut (fun s => ∃ (t0 : Nat → Dat), law13_rises_J1 = some r ∧ s = ⟨tl t0 [], hl [], 0, 34⟩) ?_ ?_
  · refine a_seq ?_
    refine a_reg _ rfl (s := ?zs3) ?_ ?_
    rotate_left
    · simp (maxSteps := 2000000) only [EVT, stepR, evOp, St.ev, St.app, St.put, wrs, datOf, datOf1, TIS, CS, Nat.reduceAdd, Nat.reduceMul, Nat.reduceEqDiff, ↓reduceIte, reduceCtorEq, Nat.reduceLT, Nat.reduceLeDiff]
      (repeat' apply And.intro) <;> first | rfl | assumption | omega | (simp; done) | (simp; omega) | (simp_all; done)
    refine sA_n ?_
    refine a_blk ?_
    refine a_loop (fun m s => ∃ (i1 : Int) (t0 : Nat → Dat), law13_rises_L1 l1 m i1 = some r ∧ s = ⟨tl t0 [(0, .list 2 (l1.map Entry.c)), (3, .int .i64 i1)], hl [], 0, 34⟩) BIG ?_ ?_
    · refine wk_l [] [] [(0, .list 2 (l1.map Entry.c)), (3, .int .i64 0)] (by show ([0, 3] : List Nat).Nodup; decide) (by show ([] : List Nat).Nodup; decide) ?_ ?_ (fun t0 => ⟨0, t0, H, rfl⟩)
      · exact trivial
      · (simp only [AllT, tl_cons, tl_nil, upd_apply, List.getD_cons_zero, List.getD_cons_succ, Nat.reduceEqDiff, ↓reduceIte, and_true]); exact ⟨(.lst _ _ _ Entry.pu rfl), (.int' rfl)⟩
    · rintro m_law13_rises_L1 s ⟨i1, t0, H, rfl⟩
      obtain _ | m_law13_rises_L1 := m_law13_rises_L1
      · cases (show (none : Option _) = some _ from H)
      · rw [law13_rises_L1] at H
        refine a_seq ?_
        refine a_seq ?_
        refine a_reg _ rfl (s := ?zs4) ?_ ?_
        rotate_left
        · simp (maxSteps := 2000000) only [EVT, stepR, evOp, St.ev, St.app, St.put, wrs, evBuiltin, evBin, binInt, TIS, CS, Nat.reduceAdd, Nat.reduceMul, Nat.reduceEqDiff, ↓reduceIte, reduceCtorEq, Nat.reduceLT, Nat.reduceLeDiff, Nat.reduceSub, Nat.reduceBEq]
          (repeat' apply And.intro) <;> first | rfl | assumption | omega | (simp; done) | (simp; omega) | (simp_all; done)
        refine sA_n ?_
        refine a_condb ((decide (i1 < (l1.length : Int)))) (by rfl) (fun zc1 => ?_) (fun zc1 => ?_)
        · have H := cond_t zc1 H
          refine a_skip ?_
          refine sA_n ?_
          refine a_seq ?_
          refine a_blk ?_
          refine a_cut (fun s => ∃ (v1 : Bool) (t0 : Nat → Dat), law13_rises_J2 (law13_rises_L1 l1 m_law13_rises_L1) i1 v1 = some r ∧ s = ⟨tl t0 [(0, .list 2 (l1.map Entry.c)), (3, .int .i64 i1), (33, .bool v1)], hl [], 0, 34⟩) ?_ ?_
          · obtain ⟨x1, zh1, H⟩ := bind_some H
            have zg1 := idx_map zh1 Entry.c
            try simp only [Int.reduceToNat] at zg1
            obtain ⟨zh1a, zh1b, _⟩ := idx_some zh1
            refine bool_split (b := (decide (x1.term < 1))) (fun zc3 => ?_) (fun zc3 => ?_)
            · have H := cond_t zc3 H
              refine a_drW (by kernel_rfl) _ rfl (s := ?zs7) (by kernel_rfl) (by kernel_rfl) ?zs7f ?_ ?_ ?_
              rotate_left 2
              · simp (maxSteps := 2000000) only [EVT, stepW, evOp, St.ev, St.app, St.put, wrs, evIndexAddr, evFieldAddr, evLoad, cut, datOf, datOf1, evBin, binInt, TIS, CS, Nat.reduceAdd, Nat.reduceMul, Nat.reduceEqDiff, ↓reduceIte, reduceCtorEq, Nat.reduceLT, Nat.reduceLeDiff, Array.reduceGetElem?, Int.reduceToNat, Nat.reduceSub, Nat.reduceBEq, ↓zc1, zg1, ↓zc3]
                try simp (maxSteps := 2000000) only [EVT, stepW, evOp, St.ev, St.app, St.put, wrs, evIndexAddr, evFieldAddr, evLoad, cut, datOf, datOf1, evBin, binInt, TIS, CS, Nat.reduceAdd, Nat.reduceMul, Nat.reduceEqDiff, ↓reduceIte, reduceCtorEq, Nat.reduceLT, Nat.reduceLeDiff, Array.reduceGetElem?, Int.reduceToNat, Nat.reduceSub, Nat.reduceBEq, ↓zc1, zg1, ↓zc3]
                (repeat' apply And.intro) <;> first | rfl | assumption | omega | (simp; done) | (simp; omega) | (simp_all; done)
              · kernel_rfl
              refine cA_n ?_
              refine wk_l [] [] [(0, .list 2 (l1.map Entry.c)), (3, .int .i64 i1), (33, .bool true)] (by show ([0, 3, 33] : List Nat).Nodup; decide) (by show ([] : List Nat).Nodup; decide) ?_ ?_ (fun t0 => ⟨true, t0, H, rfl⟩)
              · exact trivial
              · (simp only [AllT, tl_cons, tl_nil, upd_apply, List.getD_cons_zero, List.getD_cons_succ, Nat.reduceEqDiff, ↓reduceIte, and_true]); exact ⟨(.lst _ _ _ Entry.pu rfl), (.int' rfl), (.bool' (by first | rfl | assumption | (simp_all; done)))⟩
            · have H := cond_f zc3 H
              refine bool_split (b := (decide (0 < i1))) (fun zc4 => ?_) (fun zc4 => ?_)
              · have H := cond_t zc4 H
                obtain ⟨x2, zh2, H⟩ := bind_some H
                have zg2 := idx_map zh2 Entry.c
                try simp only [Int.reduceToNat] at zg2
                obtain ⟨zh2a, zh2b, _⟩ := idx_some zh2
                refine a_drW (by kernel_rfl) _ rfl (s := ?zs8) (by kernel_rfl) (by kernel_rfl) ?zs8f ?_ ?_ ?_
                rotate_left 2
                · simp (maxSteps := 2000000) only [EVT, stepW, evOp, St.ev, St.app, St.put, wrs, evIndexAddr, evFieldAddr, evLoad, cut, datOf, datOf1, evBin, binInt, TIS, CS, Nat.reduceAdd, Nat.reduceMul, Nat.reduceEqDiff, ↓reduceIte, reduceCtorEq, Nat.reduceLT, Nat.reduceLeDiff, Array.reduceGetElem?, Int.reduceToNat, Nat.reduceSub, Nat.reduceBEq, ↓zc1, zg1, ↓zc3, ↓zc4, zg2]
                  try simp (maxSteps := 2000000) only [EVT, stepW, evOp, St.ev, St.app, St.put, wrs, evIndexAddr, evFieldAddr, evLoad, cut, datOf, datOf1, evBin, binInt, TIS, CS, Nat.reduceAdd, Nat.reduceMul, Nat.reduceEqDiff, ↓reduceIte, reduceCtorEq, Nat.reduceLT, Nat.reduceLeDiff, Array.reduceGetElem?, Int.reduceToNat, Nat.reduceSub, Nat.reduceBEq, ↓zc1, zg1, ↓zc3, ↓zc4, zg2]
                  (repeat' apply And.intro) <;> first | rfl | assumption | omega | (simp; done) | (simp; omega) | (simp_all; done)
                · kernel_rfl
                refine cA_n ?_
                refine wk_l [] [] [(0, .list 2 (l1.map Entry.c)), (3, .int .i64 i1), (33, .bool (decide (x1.term < x2.term)))] (by show ([0, 3, 33] : List Nat).Nodup; decide) (by show ([] : List Nat).Nodup; decide) ?_ ?_ (fun t0 => ⟨(decide (x1.term < x2.term)), t0, H, rfl⟩)
                · exact trivial
                · (simp only [AllT, tl_cons, tl_nil, upd_apply, List.getD_cons_zero, List.getD_cons_succ, Nat.reduceEqDiff, ↓reduceIte, and_true]); exact ⟨(.lst _ _ _ Entry.pu rfl), (.int' rfl), (.bool' rfl)⟩
              · have H := cond_f zc4 H
                refine a_drW (by kernel_rfl) _ rfl (s := ?zs9) (by kernel_rfl) (by kernel_rfl) ?zs9f ?_ ?_ ?_
                rotate_left 2
                · simp (maxSteps := 2000000) only [EVT, stepW, evOp, St.ev, St.app, St.put, wrs, evIndexAddr, evFieldAddr, evLoad, cut, datOf, datOf1, evBin, binInt, TIS, CS, Nat.reduceAdd, Nat.reduceMul, Nat.reduceEqDiff, ↓reduceIte, reduceCtorEq, Nat.reduceLT, Nat.reduceLeDiff, Array.reduceGetElem?, Int.reduceToNat, Nat.reduceSub, Nat.reduceBEq, ↓zc1, zg1, ↓zc3, ↓zc4]
                  try simp (maxSteps := 2000000) only [EVT, stepW, evOp, St.ev, St.app, St.put, wrs, evIndexAddr, evFieldAddr, evLoad, cut, datOf, datOf1, evBin, binInt, TIS, CS, Nat.reduceAdd, Nat.reduceMul, Nat.reduceEqDiff, ↓reduceIte, reduceCtorEq, Nat.reduceLT, Nat.reduceLeDiff, Array.reduceGetElem?, Int.reduceToNat, Nat.reduceSub, Nat.reduceBEq, ↓zc1, zg1, ↓zc3, ↓zc4]
                  (repeat' apply And.intro) <;> first | rfl | assumption | omega | (simp; done) | (simp; omega) | (simp_all; done)
                · kernel_rfl
                refine cA_n ?_
                refine wk_l [] [] [(0, .list 2 (l1.map Entry.c)), (3, .int .i64 i1), (33, .bool false)] (by show ([0, 3, 33] : List Nat).Nodup; decide) (by show ([] : List Nat).Nodup; decide) ?_ ?_ (fun t0 => ⟨false, t0, H, rfl⟩)
                · exact trivial
                · (simp only [AllT, tl_cons, tl_nil, upd_apply, List.getD_cons_zero, List.getD_cons_succ, Nat.reduceEqDiff, ↓reduceIte, and_true]); exact ⟨(.lst _ _ _ Entry.pu rfl), (.int' rfl), (.bool' (by first | rfl | assumption | (simp_all; done)))⟩
          · rintro s ⟨v1, t0, H, rfl⟩
            unfold law13_rises_J2 at H
            refine a_condb (v1) (by rfl) (fun zc2 => ?_) (fun zc2 => ?_)
            · have H := cond_t zc2 H
              refine a_seq ?_
              refine a_reg _ rfl (s := ?zs5) ?_ ?_
              rotate_left
              · simp (maxSteps := 2000000) only [EVT, stepR, evOp, St.ev, St.app, St.put, wrs, datOf, datOf1, TIS, CS, Nat.reduceAdd, Nat.reduceMul, Nat.reduceEqDiff, ↓reduceIte, reduceCtorEq, Nat.reduceLT, Nat.reduceLeDiff, ↓zc2]
                (repeat' apply And.intro) <;> first | rfl | assumption | omega | (simp; done) | (simp; omega) | (simp_all; done)
              refine sA_n ?_
              refine a_ret ?_
              refine bA_r ?_
              refine sA_r ?_
              refine lA_r ?_
              refine bA_r ?_
              refine cA_r ?_
              obtain rfl := Option.some.inj H
              refine e_r2 (d := ?zd2) ?_ ?_
              rotate_left
              · simp only [EVT, resR, single, evLoad, cut, TIS, CS, Nat.reduceAdd, Nat.reduceEqDiff, ↓reduceIte, reduceCtorEq, Nat.reduceLT, Nat.reduceLeDiff, Nat.reduceSub, Nat.reduceBEq, zc2]
                (repeat' apply And.intro) <;> first | rfl | assumption | omega | (simp; done)
              exact (.bool' (by first | rfl | assumption | (simp_all; done)))
            · have H := cond_f zc2 H
              refine a_skip ?_
              refine bA_n ?_
              refine sA_n ?_
              refine a_reg _ rfl (s := ?zs6) ?_ ?_
              rotate_left
              · simp (maxSteps := 2000000) only [EVT, stepR, evOp, St.ev, St.app, St.put, wrs, datOf, datOf1, evBin, binInt, TIS, CS, Nat.reduceAdd, Nat.reduceMul, Nat.reduceEqDiff, ↓reduceIte, reduceCtorEq, Nat.reduceLT, Nat.reduceLeDiff, ↓zc2]
                (repeat' apply And.intro) <;> first | rfl | assumption | omega | (simp; done) | (simp; omega) | (simp_all; done)
              refine lA_n ?_
              refine wk_l [] [] [(0, .list 2 (l1.map Entry.c)), (3, .int .i64 (IntKind.wrap .i64 (i1 + 1)))] (by show ([0, 3] : List Nat).Nodup; decide) (by show ([] : List Nat).Nodup; decide) ?_ ?_ (fun t0 => ⟨_, Nat.lt_succ_self _, (IntKind.wrap .i64 (i1 + 1)), t0, H, rfl⟩)
              · exact trivial
              · (simp only [AllT, tl_cons, tl_nil, upd_apply, List.getD_cons_zero, List.getD_cons_succ, Nat.reduceEqDiff, ↓reduceIte, and_true]); exact ⟨(.lst _ _ _ Entry.pu rfl), (.int' rfl)⟩
        · have H := cond_f zc1 H
          refine a_exit ?_
          refine sA_e ?_
          refine lA_e ?_
          refine bA_hit ?_
          refine cA_n ?_
          refine wk_l [] [] [] (by show ([] : List Nat).Nodup; decide) (by show ([] : List Nat).Nodup; decide) ?_ ?_ (fun t0 => ⟨t0, H, rfl⟩)
          · exact trivial
          · exact trivial
  · rintro s ⟨t0, H, rfl⟩
    unfold law13_rises_J1 at H
    refine a_seq ?_
    refine a_reg _ rfl (s := ?zs2) ?_ ?_
    rotate_left
    · simp (maxSteps := 2000000) only [EVT, stepR, evOp, St.ev, St.app, St.put, wrs, datOf, datOf1, TIS, CS, Nat.reduceAdd, Nat.reduceMul, Nat.reduceEqDiff, ↓reduceIte, reduceCtorEq, Nat.reduceLT, Nat.reduceLeDiff]
      (repeat' apply And.intro) <;> first | rfl | assumption | omega | (simp; done) | (simp; omega) | (simp_all; done)
    refine sA_n ?_
    refine a_ret ?_
    obtain rfl := Option.some.inj H
    refine e_r2 (d := ?zd1) ?_ ?_
    rotate_left
    · simp only [EVT, resR, single, evLoad, cut, TIS, CS, Nat.reduceAdd, Nat.reduceEqDiff, ↓reduceIte, reduceCtorEq, Nat.reduceLT, Nat.reduceLeDiff, Nat.reduceSub, Nat.reduceBEq]
      (repeat' apply And.intro) <;> first | rfl | assumption | omega | (simp; done)
    exact (.bool' (by first | rfl | assumption | (simp_all; done)))
def law13_Entries_J1 (out1 : List Entry) : Option (List Entry) :=
  some (out1)
def law13_Entries_L1 (terms1 : List Int) : Nat → (List Entry) → Int → Option (List Entry)
  | 0, _, _ => none
  | m_ + 1, out2, i1 => cond (decide (i1 < (terms1.length : Int))) ((idx terms1 i1).bind fun x1 => chk ((out2.length + 1) * 32 ≤ 140737488355328) (law13_Entries_L1 terms1 m_ (out2 ++ [(⟨x1, [7]⟩ : Entry)]) (IntKind.wrap .i64 (i1 + 1)))) (law13_Entries_J1 out2)
def law13_Entries_f (terms1 : List Int) : Option (List Entry) :=
  law13_Entries_L1 terms1 BIG ([] : List Entry) 0
set_option maxHeartbeats 4000000 in
set_option maxRecDepth 20000 in
theorem law13_Entries_pc {terms1 : List Int} {r : (List Entry)} (H : law13_Entries_f terms1 = some r) : PC Try.prog 25 [.list 1 (terms1.map (ci .i64))] (.list 2 (r.map Entry.c)) := by
  refine pcA_of Try.func25 (by rfl) (by decide) 22 (by rfl) [.tmp 2] (by rfl) ?_
  unfold law13_Entries_f at H
  simp only [ent]
  refine a_seq ?_
  refine a_reg _ rfl (s := ?zs1) ?_ ?_
  rotate_left
  · simp (maxSteps := 2000000) only [EVT, stepR, evOp, St.ev, St.app, St.put, wrs, datOf, datOf1, TIS, CS, Nat.reduceAdd, Nat.reduceMul, Nat.reduceEqDiff, ↓reduceIte, reduceCtorEq, Nat.reduceLT, Nat.reduceLeDiff]
    (repeat' apply And.intro) <;> first | rfl | assumption | omega | (simp; done) | (simp; omega) | (simp_all; done)
  refine sA_n ?_
  refine a_seq ?_
  refine a_reg _ rfl (s := ?zs2) ?_ ?_
  rotate_left
  · simp (maxSteps := 2000000) only [EVT, stepR, evOp, St.ev, St.app, St.put, wrs, allOne, TIS, CS, Nat.reduceAdd, Nat.reduceMul, Nat.reduceEqDiff, ↓reduceIte, reduceCtorEq, Nat.reduceLT, Nat.reduceLeDiff, Nat.reduceSub, Nat.reduceBEq]
    (repeat' apply And.intro) <;> first | rfl | assumption | omega | (simp; done) | (simp; omega) | (simp_all; done)
  refine sA_n ?_
  refine a_cut (fun s => ∃ (out1 : List Entry) (t0 : Nat → Dat), law13_Entries_J1 out1 = some r ∧ s = ⟨tl t0 [(3, .ref 0 0 out1.length 2)], hl [⟨34, 2, false, out1.map Entry.c⟩], 1, 22⟩) ?_ ?_
  · refine a_seq ?_
    refine a_reg _ rfl (s := ?zs4) ?_ ?_
    rotate_left
    · simp (maxSteps := 2000000) only [EVT, stepR, evOp, St.ev, St.app, St.put, wrs, datOf, datOf1, TIS, CS, Nat.reduceAdd, Nat.reduceMul, Nat.reduceEqDiff, ↓reduceIte, reduceCtorEq, Nat.reduceLT, Nat.reduceLeDiff]
      (repeat' apply And.intro) <;> first | rfl | assumption | omega | (simp; done) | (simp; omega) | (simp_all; done)
    refine sA_n ?_
    refine a_blk ?_
    refine a_loop (fun m s => ∃ (out2 : List Entry) (i1 : Int) (t0 : Nat → Dat), law13_Entries_L1 terms1 m out2 i1 = some r ∧ s = ⟨tl t0 [(0, .list 1 (terms1.map (ci .i64))), (3, .ref 0 0 out2.length 2), (4, .int .i64 i1)], hl [⟨34, 2, false, out2.map Entry.c⟩], 1, 22⟩) BIG ?_ ?_
    · refine wk_l [(some 8, ⟨34, 2, false, ([] : List Entry).map Entry.c⟩)] [] [(0, .list 1 (terms1.map (ci .i64))), (3, .ref 0 0 ([] : List Entry).length 2), (4, .int .i64 0)] (by show ([0, 3, 4] : List Nat).Nodup; decide) (by show ([8] : List Nat).Nodup; decide) ?_ ?_ (fun t0 => ⟨([] : List Entry), 0, t0, H, rfl⟩)
      · exact (allB_some (by rfl) rfl (.same _ _ Entry.pu (by first | rfl | (simp only [List.map_append, List.map_cons, List.map_nil, List.map_set, List.map_take, List.map_drop, List.map_replicate, List.append_assoc, List.nil_append, List.append_nil, ci_eq, cb_eq, cs_eq, cl_eq, CS,  List.nil_append]; done) | (simp [CS,  ci_eq, cb_eq, cs_eq, cl_eq]; done) | (simp [CS,  ci_eq, cb_eq, cs_eq, cl_eq]; intro hz; rw [List.take_of_length_le (by simp; omega)]))) trivial)
      · (simp only [AllT, tl_cons, tl_nil, upd_apply, List.getD_cons_zero, List.getD_cons_succ, Nat.reduceEqDiff, ↓reduceIte, and_true]); exact ⟨(.lst _ _ _ (ci_pu .i64) rfl), (.refl' (by first | rfl | omega | (simp; done) | (simp; omega) | (simp_all; done)) rfl), (.int' rfl)⟩
    · rintro m_law13_Entries_L1 s ⟨out2, i1, t0, H, rfl⟩
      obtain _ | m_law13_Entries_L1 := m_law13_Entries_L1
      · cases (show (none : Option _) = some _ from H)
      · rw [law13_Entries_L1] at H
        refine a_seq ?_
        refine a_seq ?_
        refine a_reg _ rfl (s := ?zs5) ?_ ?_
        rotate_left
        · simp (maxSteps := 2000000) only [EVT, stepR, evOp, St.ev, St.app, St.put, wrs, evBuiltin, evBin, binInt, TIS, CS, Nat.reduceAdd, Nat.reduceMul, Nat.reduceEqDiff, ↓reduceIte, reduceCtorEq, Nat.reduceLT, Nat.reduceLeDiff, Nat.reduceSub, Nat.reduceBEq]
          (repeat' apply And.intro) <;> first | rfl | assumption | omega | (simp; done) | (simp; omega) | (simp_all; done)
        refine sA_n ?_
        refine a_condb ((decide (i1 < (terms1.length : Int)))) (by rfl) (fun zc1 => ?_) (fun zc1 => ?_)
        · have H := cond_t zc1 H
          refine a_skip ?_
          refine sA_n ?_
          refine a_seq ?_
          refine a_blk ?_
          obtain ⟨x1, zh1, H⟩ := bind_some H
          have zg1 := idx_map zh1 (ci .i64)
          try simp only [Int.reduceToNat] at zg1
          obtain ⟨zh1a, zh1b, _⟩ := idx_some zh1
          obtain ⟨zh2, H⟩ := chk_some H
          refine a_reg _ rfl (s := ?zs6) ?_ ?_
          rotate_left
          · simp (maxSteps := 2000000) only [EVT, stepR, evOp, St.ev, St.app, St.put, wrs, evIndexAddr, evLoad, cut, datOf, datOf1, allOne, fillD, setR, evBuiltin, evAppend, elems, Option.elim, TIS, CS, Nat.reduceAdd, Nat.reduceMul, Nat.reduceEqDiff, ↓reduceIte, reduceCtorEq, Nat.reduceLT, Nat.reduceLeDiff, Int.reduceToNat, Nat.reduceSub, Nat.reduceBEq, ↓zc1, zg1]
            (repeat' apply And.intro) <;> first | rfl | assumption | omega | (simp; done) | (simp; omega) | (simp_all; done)
          refine bA_n ?_
          refine sA_n ?_
          refine a_reg _ rfl (s := ?zs7) ?_ ?_
          rotate_left
          · simp (maxSteps := 2000000) only [EVT, stepR, evOp, St.ev, St.app, St.put, wrs, datOf, datOf1, evBin, binInt, TIS, CS, Nat.reduceAdd, Nat.reduceMul, Nat.reduceEqDiff, ↓reduceIte, reduceCtorEq, Nat.reduceLT, Nat.reduceLeDiff, ↓zc1, zg1]
            (repeat' apply And.intro) <;> first | rfl | assumption | omega | (simp; done) | (simp; omega) | (simp_all; done)
          refine lA_n ?_
          refine wk_l [(some 41, ⟨34, 2, false, (out2 ++ [(⟨x1, [7]⟩ : Entry)]).map Entry.c⟩)] [38] [(0, .list 1 (terms1.map (ci .i64))), (3, .ref 0 0 (out2 ++ [(⟨x1, [7]⟩ : Entry)]).length 2), (4, .int .i64 (IntKind.wrap .i64 (i1 + 1)))] (by show ([0, 3, 4] : List Nat).Nodup; decide) (by show ([41] : List Nat).Nodup; decide) ?_ ?_ (fun t0 => ⟨_, Nat.lt_succ_self _, (out2 ++ [(⟨x1, [7]⟩ : Entry)]), (IntKind.wrap .i64 (i1 + 1)), t0, H, rfl⟩)
          · exact (allB_some (by rfl) rfl (by (simp only [List.map_append, List.map_cons, List.map_nil, List.map_set, List.map_take, List.map_drop, List.map_replicate, List.append_assoc, List.nil_append, List.append_nil, ci_eq, cb_eq, cs_eq, cl_eq, CS, List.nil_append]); repeat' (first | exact RNL.nil | exact RNs.nil | exact .int' rfl | exact .bool' rfl | exact .str' rfl | exact .nil _ | exact .lst _ _ _ (by first | exact ci_pu _ | exact cb_pu | exact cs_pu | exact Entry.pu | exact cl_pu (by first | exact ci_pu _ | exact cb_pu | exact cs_pu | exact Entry.pu | exact cl_pu (ci_pu _))) rfl | exact RNL.same _ _ (by first | exact ci_pu _ | exact cb_pu | exact cs_pu | exact Entry.pu | exact cl_pu (by first | exact ci_pu _ | exact cb_pu | exact cs_pu | exact Entry.pu | exact cl_pu (ci_pu _))) (by first | rfl | (simp only [List.map_append, List.map_cons, List.map_nil, List.map_set, List.map_take, List.map_drop, List.map_replicate, List.append_assoc, List.nil_append, List.append_nil]; rfl)) | (refine RNs.cons ?_ ?_) | (refine RNL.cons ?_ ?_) | (refine RNL.set ?_ ?_) | (refine .frz' rfl (by simp) rfl (by first | rfl | omega | (simp; done) | (simp; omega) | (simp_all; done)) ?_) | exact .refl' (by first | rfl | omega | (simp; done) | (simp; omega) | (simp_all; done)) rfl | (refine RNL.app ?_ ?_))) trivial)
          · (simp only [AllT, tl_cons, tl_nil, upd_apply, List.getD_cons_zero, List.getD_cons_succ, Nat.reduceEqDiff, ↓reduceIte, and_true]); exact ⟨(.lst _ _ _ (ci_pu .i64) rfl), (.refl' (by first | rfl | omega | (simp; done) | (simp; omega) | (simp_all; done)) rfl), (.int' rfl)⟩
        · have H := cond_f zc1 H
          refine a_exit ?_
          refine sA_e ?_
          refine lA_e ?_
          refine bA_hit ?_
          refine cA_n ?_
          refine wk_l [(some 0, ⟨34, 2, false, out2.map Entry.c⟩)] [] [(3, .ref 0 0 out2.length 2)] (by show ([3] : List Nat).Nodup; decide) (by show ([0] : List Nat).Nodup; decide) ?_ ?_ (fun t0 => ⟨out2, t0, H, rfl⟩)
          · exact (allB_some (by rfl) rfl (.same _ _ Entry.pu (by first | rfl | (simp only [List.map_append, List.map_cons, List.map_nil, List.map_set, List.map_take, List.map_drop, List.map_replicate, List.append_assoc, List.nil_append, List.append_nil, ci_eq, cb_eq, cs_eq, cl_eq, CS,  List.nil_append]; done) | (simp [CS,  ci_eq, cb_eq, cs_eq, cl_eq]; done) | (simp [CS,  ci_eq, cb_eq, cs_eq, cl_eq]; intro hz; rw [List.take_of_length_le (by simp; omega)]))) trivial)
          · (simp only [AllT, tl_cons, tl_nil, upd_apply, List.getD_cons_zero, List.getD_cons_succ, Nat.reduceEqDiff, ↓reduceIte, and_true]); exact (.refl' (by first | rfl | omega | (simp; done) | (simp; omega) | (simp_all; done)) rfl)
  · rintro s ⟨out1, t0, H, rfl⟩
    unfold law13_Entries_J1 at H
    refine a_seq ?_
    refine a_reg _ rfl (s := ?zs3) ?_ ?_
    rotate_left
    · simp (maxSteps := 2000000) only [EVT, stepR, evOp, St.ev, St.app, St.put, wrs, TIS, CS, Nat.reduceAdd, Nat.reduceMul, Nat.reduceEqDiff, ↓reduceIte, reduceCtorEq, Nat.reduceLT, Nat.reduceLeDiff]
      (repeat' apply And.intro) <;> first | rfl | assumption | omega | (simp; done) | (simp; omega) | (simp_all; done)
    refine sA_n ?_
    refine a_ret ?_
    obtain rfl := Option.some.inj H
    refine e_r2 (d := ?zd1) ?_ ?_
    rotate_left
    · simp only [EVT, resR, single, evLoad, cut, TIS, CS, Nat.reduceAdd, Nat.reduceEqDiff, ↓reduceIte, reduceCtorEq, Nat.reduceLT, Nat.reduceLeDiff, Nat.reduceSub, Nat.reduceBEq]
      (repeat' apply And.intro) <;> first | rfl | assumption | omega | (simp; done)
    exact (.ownL (by rfl) (fun e => by cases e) rfl (by first | rfl | omega | (simp; done) | (simp; omega) | (simp_all; done)) (.same _ _ Entry.pu (by first | rfl | (simp only [List.map_append, List.map_cons, List.map_nil, List.map_set, List.map_take, List.map_drop, List.map_replicate, List.append_assoc, List.nil_append, List.append_nil, ci_eq, cb_eq, cs_eq, cl_eq, CS,  List.nil_append]; done) | (simp [CS,  ci_eq, cb_eq, cs_eq, cl_eq]; done) | (simp [CS,  ci_eq, cb_eq, cs_eq, cl_eq]; intro hz; rw [List.take_of_length_le (by simp; omega)]))))
def law13_Fits_J1 : Option Bool :=
  some (true)
def law13_Fits_L1 (l1 : List Entry) : Nat → Int → Option Bool
  | 0, _ => none
  | m_ + 1, i1 => cond (decide (i1 < (l1.length : Int))) ((idx l1 i1).bind fun x1 => cond (decide (40 < (x1.data.length : Int))) (some (false)) (law13_Fits_L1 l1 m_ (IntKind.wrap .i64 (i1 + 1)))) (law13_Fits_J1)
def law13_Fits_f (l1 : List Entry) : Option Bool :=
  cond (decide (60 < (l1.length : Int))) (some (false)) (law13_Fits_L1 l1 BIG 0)
set_option maxHeartbeats 4000000 in
set_option maxRecDepth 20000 in
theorem law13_Fits_pc {l1 : List Entry} {r : Bool} (H : law13_Fits_f l1 = some r) : PC Try.prog 11 [.list 2 (l1.map Entry.c)] (.bool r) := by
  refine pcA_of Try.func11 (by rfl) (by decide) 20 (by rfl) [.tmp 2] (by rfl) ?_
  unfold law13_Fits_f at H
  simp only [ent]
  refine a_seq ?_
  refine a_reg _ rfl (s := ?zs1) ?_ ?_
  rotate_left
  · simp (maxSteps := 2000000) only [EVT, stepR, evOp, St.ev, St.app, St.put, wrs, datOf, datOf1, TIS, CS, Nat.reduceAdd, Nat.reduceMul, Nat.reduceEqDiff, ↓reduceIte, reduceCtorEq, Nat.reduceLT, Nat.reduceLeDiff]
    (repeat' apply And.intro) <;> first | rfl | assumption | omega | (simp; done) | (simp; omega) | (simp_all; done)
  refine sA_n ?_
  refine a_seq ?_
  refine a_seq ?_
  refine a_reg _ rfl (s := ?zs2) ?_ ?_
  rotate_left
  · simp (maxSteps := 2000000) only [EVT, stepR, evOp, St.ev, St.app, St.put, wrs, evBuiltin, datOf, datOf1, evBin, binInt, TIS, CS, Nat.reduceAdd, Nat.reduceMul, Nat.reduceEqDiff, ↓reduceIte, reduceCtorEq, Nat.reduceLT, Nat.reduceLeDiff, Nat.reduceSub, Nat.reduceBEq]
    (repeat' apply And.intro) <;> first | rfl | assumption | omega | (simp; done) | (simp; omega) | (simp_all; done)
  refine sA_n ?_
  refine a_condb ((decide (60 < (l1.length : Int)))) (by rfl) (fun zc1 => ?_) (fun zc1 => ?_)
  · have H := cond_t zc1 H
    refine a_seq ?_
    refine a_reg _ rfl (s := ?zs3) ?_ ?_
    rotate_left
    · simp (maxSteps := 2000000) only [EVT, stepR, evOp, St.ev, St.app, St.put, wrs, datOf, datOf1, TIS, CS, Nat.reduceAdd, Nat.reduceMul, Nat.reduceEqDiff, ↓reduceIte, reduceCtorEq, Nat.reduceLT, Nat.reduceLeDiff, ↓zc1]
      (repeat' apply And.intro) <;> first | rfl | assumption | omega | (simp; done) | (simp; omega) | (simp_all; done)
    refine sA_n ?_
    refine a_ret ?_
    refine sA_r ?_
    obtain rfl := Option.some.inj H
    refine e_r2 (d := ?zd1) ?_ ?_
    rotate_left
    · simp only [EVT, resR, single, evLoad, cut, TIS, CS, Nat.reduceAdd, Nat.reduceEqDiff, ↓reduceIte, reduceCtorEq, Nat.reduceLT, Nat.reduceLeDiff, Nat.reduceSub, Nat.reduceBEq, zc1]
      (repeat' apply And.intro) <;> first | rfl | assumption | omega | (simp; done)
    exact (.bool' (by first | rfl | assumption | (simp_all; done)))
  · have H := cond_f zc1 H
    refine a_skip ?_
    refine sA_n ?_
    refine a_cut (fun s => ∃ (t0 : Nat → Dat), law13_Fits_J1 = some r ∧ s = ⟨tl t0 [], hl [], 0, 20⟩) ?_ ?_
    · refine a_seq ?_
      refine a_reg _ rfl (s := ?zs5) ?_ ?_
      rotate_left
      · simp (maxSteps := 2000000) only [EVT, stepR, evOp, St.ev, St.app, St.put, wrs, datOf, datOf1, TIS, CS, Nat.reduceAdd, Nat.reduceMul, Nat.reduceEqDiff, ↓reduceIte, reduceCtorEq, Nat.reduceLT, Nat.reduceLeDiff, ↓zc1]
        (repeat' apply And.intro) <;> first | rfl | assumption | omega | (simp; done) | (simp; omega) | (simp_all; done)
      refine sA_n ?_
      refine a_blk ?_
      refine a_loop (fun m s => ∃ (i1 : Int) (t0 : Nat → Dat), law13_Fits_L1 l1 m i1 = some r ∧ s = ⟨tl t0 [(0, .list 2 (l1.map Entry.c)), (3, .int .i64 i1)], hl [], 0, 20⟩) BIG ?_ ?_
      · refine wk_l [] [] [(0, .list 2 (l1.map Entry.c)), (3, .int .i64 0)] (by show ([0, 3] : List Nat).Nodup; decide) (by show ([] : List Nat).Nodup; decide) ?_ ?_ (fun t0 => ⟨0, t0, H, rfl⟩)
        · exact trivial
        · (simp only [AllT, tl_cons, tl_nil, upd_apply, List.getD_cons_zero, List.getD_cons_succ, Nat.reduceEqDiff, ↓reduceIte, and_true]); exact ⟨(.lst _ _ _ Entry.pu rfl), (.int' rfl)⟩
      · rintro m_law13_Fits_L1 s ⟨i1, t0, H, rfl⟩
        obtain _ | m_law13_Fits_L1 := m_law13_Fits_L1
        · cases (show (none : Option _) = some _ from H)
        · rw [law13_Fits_L1] at H
          refine a_seq ?_
          refine a_seq ?_
          refine a_reg _ rfl (s := ?zs6) ?_ ?_
          rotate_left
          · simp (maxSteps := 2000000) only [EVT, stepR, evOp, St.ev, St.app, St.put, wrs, evBuiltin, evBin, binInt, TIS, CS, Nat.reduceAdd, Nat.reduceMul, Nat.reduceEqDiff, ↓reduceIte, reduceCtorEq, Nat.reduceLT, Nat.reduceLeDiff, Nat.reduceSub, Nat.reduceBEq]
            (repeat' apply And.intro) <;> first | rfl | assumption | omega | (simp; done) | (simp; omega) | (simp_all; done)
          refine sA_n ?_
          refine a_condb ((decide (i1 < (l1.length : Int)))) (by rfl) (fun zc2 => ?_) (fun zc2 => ?_)
          · have H := cond_t zc2 H
            refine a_skip ?_
            refine sA_n ?_
            refine a_seq ?_
            refine a_blk ?_
            refine a_seq ?_
            obtain ⟨x1, zh1, H⟩ := bind_some H
            have zg1 := idx_map zh1 Entry.c
            try simp only [Int.reduceToNat] at zg1
            obtain ⟨zh1a, zh1b, _⟩ := idx_some zh1
            refine a_reg _ rfl (s := ?zs7) ?_ ?_
            rotate_left
            · simp (maxSteps := 2000000) only [EVT, stepR, evOp, St.ev, St.app, St.put, wrs, evIndexAddr, evFieldAddr, evLoad, cut, evBuiltin, datOf, datOf1, evBin, binInt, TIS, CS, Nat.reduceAdd, Nat.reduceMul, Nat.reduceEqDiff, ↓reduceIte, reduceCtorEq, Nat.reduceLT, Nat.reduceLeDiff, Int.reduceToNat, Nat.reduceSub, Nat.reduceBEq, ↓zc2, zg1]
              (repeat' apply And.intro) <;> first | rfl | assumption | omega | (simp; done) | (simp; omega) | (simp_all; done)
            refine sA_n ?_
            refine a_condb ((decide (40 < (x1.data.length : Int)))) (by rfl) (fun zc3 => ?_) (fun zc3 => ?_)
            · have H := cond_t zc3 H
              refine a_seq ?_
              refine a_reg _ rfl (s := ?zs8) ?_ ?_
              rotate_left
              · simp (maxSteps := 2000000) only [EVT, stepR, evOp, St.ev, St.app, St.put, wrs, datOf, datOf1, TIS, CS, Nat.reduceAdd, Nat.reduceMul, Nat.reduceEqDiff, ↓reduceIte, reduceCtorEq, Nat.reduceLT, Nat.reduceLeDiff, ↓zc2, zg1, ↓zc3]
                (repeat' apply And.intro) <;> first | rfl | assumption | omega | (simp; done) | (simp; omega) | (simp_all; done)
              refine sA_n ?_
              refine a_ret ?_
              refine bA_r ?_
              refine sA_r ?_
              refine lA_r ?_
              refine bA_r ?_
              refine cA_r ?_
              obtain rfl := Option.some.inj H
              refine e_r2 (d := ?zd3) ?_ ?_
              rotate_left
              · simp only [EVT, resR, single, evLoad, cut, TIS, CS, Nat.reduceAdd, Nat.reduceEqDiff, ↓reduceIte, reduceCtorEq, Nat.reduceLT, Nat.reduceLeDiff, Nat.reduceSub, Nat.reduceBEq, zc2, zg1, zc3]
                (repeat' apply And.intro) <;> first | rfl | assumption | omega | (simp; done)
              exact (.bool' (by first | rfl | assumption | (simp_all; done)))
            · have H := cond_f zc3 H
              refine a_skip ?_
              refine bA_n ?_
              refine sA_n ?_
              refine a_reg _ rfl (s := ?zs9) ?_ ?_
              rotate_left
              · simp (maxSteps := 2000000) only [EVT, stepR, evOp, St.ev, St.app, St.put, wrs, datOf, datOf1, evBin, binInt, TIS, CS, Nat.reduceAdd, Nat.reduceMul, Nat.reduceEqDiff, ↓reduceIte, reduceCtorEq, Nat.reduceLT, Nat.reduceLeDiff, ↓zc2, zg1, ↓zc3]
                (repeat' apply And.intro) <;> first | rfl | assumption | omega | (simp; done) | (simp; omega) | (simp_all; done)
              refine lA_n ?_
              refine wk_l [] [] [(0, .list 2 (l1.map Entry.c)), (3, .int .i64 (IntKind.wrap .i64 (i1 + 1)))] (by show ([0, 3] : List Nat).Nodup; decide) (by show ([] : List Nat).Nodup; decide) ?_ ?_ (fun t0 => ⟨_, Nat.lt_succ_self _, (IntKind.wrap .i64 (i1 + 1)), t0, H, rfl⟩)
              · exact trivial
              · (simp only [AllT, tl_cons, tl_nil, upd_apply, List.getD_cons_zero, List.getD_cons_succ, Nat.reduceEqDiff, ↓reduceIte, and_true]); exact ⟨(.lst _ _ _ Entry.pu rfl), (.int' rfl)⟩
          · have H := cond_f zc2 H
            refine a_exit ?_
            refine sA_e ?_
            refine lA_e ?_
            refine bA_hit ?_
            refine cA_n ?_
            refine wk_l [] [] [] (by show ([] : List Nat).Nodup; decide) (by show ([] : List Nat).Nodup; decide) ?_ ?_ (fun t0 => ⟨t0, H, rfl⟩)
            · exact trivial
            · exact trivial
    · rintro s ⟨t0, H, rfl⟩
      unfold law13_Fits_J1 at H
      refine a_seq ?_
      refine a_reg _ rfl (s := ?zs4) ?_ ?_
      rotate_left
      · simp (maxSteps := 2000000) only [EVT, stepR, evOp, St.ev, St.app, St.put, wrs, datOf, datOf1, TIS, CS, Nat.reduceAdd, Nat.reduceMul, Nat.reduceEqDiff, ↓reduceIte, reduceCtorEq, Nat.reduceLT, Nat.reduceLeDiff]
        (repeat' apply And.intro) <;> first | rfl | assumption | omega | (simp; done) | (simp; omega) | (simp_all; done)
      refine sA_n ?_
      refine a_ret ?_
      obtain rfl := Option.some.inj H
      refine e_r2 (d := ?zd2) ?_ ?_
      rotate_left
      · simp only [EVT, resR, single, evLoad, cut, TIS, CS, Nat.reduceAdd, Nat.reduceEqDiff, ↓reduceIte, reduceCtorEq, Nat.reduceLT, Nat.reduceLeDiff, Nat.reduceSub, Nat.reduceBEq]
        (repeat' apply And.intro) <;> first | rfl | assumption | omega | (simp; done)
      exact (.bool' (by first | rfl | assumption | (simp_all; done)))
end
end Go.Proofs.Ytiomajfdphmgaaa
