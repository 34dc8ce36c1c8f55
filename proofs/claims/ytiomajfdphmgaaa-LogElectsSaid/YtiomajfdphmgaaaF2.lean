/- Functions of the program as Lean functions, and that they are so; printed by a program of mine. -/
import Derived.Test.YtiomajfdphmgaaaF1
set_option linter.unusedSimpArgs false
set_option linter.unusedVariables false
namespace Go.Proofs.Ytiomajfdphmgaaa
open Go.Ab
noncomputable section

def log_Put_J1 (out1 : List Entry) : Option ((List Entry) × Bool) :=
  cond (decide (500 < (((out1.length : Nat)) : Int))) (some ([], false)) (some (out1, true))
def log_Put_J2 (k_log_Put_L1 : Int → Option ((List Entry) × Bool)) (v1 : Int) (at1 : Int) (r2 : (List Entry)) (more1 : List Entry) (v2 : Bool) : Option ((List Entry) × Bool) :=
  cond v2 (k_log_Put_L1 (IntKind.wrap .i64 (v1 + 1))) (chk (0 ≤ (IntKind.wrap .i64 (at1 + v1)) ∧ (IntKind.wrap .i64 (at1 + v1)) ≤ (r2.length : Int)) (chk (0 ≤ v1 ∧ v1 ≤ (more1.length : Int) ∧ (more1.length : Int) ≤ (more1.length : Int)) (chk ((((IntKind.wrap .i64 (at1 + v1)).toNat) + ((more1.drop v1.toNat).length)) * 32 ≤ 140737488355328) (log_Put_J1 ((r2.take ((IntKind.wrap .i64 (at1 + v1)).toNat)) ++ (more1.drop v1.toNat))))))
def log_Put_L1 (more1 : List Entry) (at1 : Int) (r2 : (List Entry)) : Nat → Int → Option ((List Entry) × Bool)
  | 0, _ => none
  | m_ + 1, v1 => cond (decide (v1 < (more1.length : Int))) ((idx more1 v1).bind fun x1 => cond (decide ((IntKind.wrap .i64 (at1 + v1)) < (((r2.length : Nat)) : Int))) ((idx r2 (IntKind.wrap .i64 (at1 + v1))).bind fun x2 => (log_alike_f x2 x1).bind fun r3 => log_Put_J2 (log_Put_L1 more1 at1 r2 m_) v1 at1 r2 more1 r3) (log_Put_J2 (log_Put_L1 more1 at1 r2 m_) v1 at1 r2 more1 false)) (log_Put_J1 r2)
def log_Put_f (l1 : List Entry) (at1 : Int) (term1 : Int) (more1 : List Entry) : Option ((List Entry) × Bool) :=
  (log_Fits_f l1 at1 term1).bind fun r1 => cond (!r1) (some ([], false)) ((slices_Clone_f l1).bind fun r2 => log_Put_L1 more1 at1 r2 BIG 0)
set_option maxHeartbeats 4000000 in
set_option maxRecDepth 20000 in
theorem log_Put_pc {l1 : List Entry} {at1 : Int} {term1 : Int} {more1 : List Entry} {r : (List Entry) × Bool} (H : log_Put_f l1 at1 term1 more1 = some r) : PC Try.prog 12 [.list 2 (l1.map Entry.c), .int .i64 at1, .int .i64 term1, .list 2 (more1.map Entry.c)] (.tup [.list 2 (r.1.map Entry.c), .bool r.2]) := by
  refine pcA_of Try.func12 (by rfl) (by decide) 55 (by rfl) [.tmp 8, .tmp 9] (by rfl) ?_
  unfold log_Put_f at H
  simp only [ent]
  refine a_seq ?_
  refine a_reg _ rfl (s := ?zs1) ?_ ?_
  rotate_left
  · simp (maxSteps := 2000000) only [EVT, stepR, evOp, St.ev, St.app, St.put, wrs, datOf, datOf1, TIS, CS, Nat.reduceAdd, Nat.reduceMul, Nat.reduceEqDiff, ↓reduceIte, reduceCtorEq, Nat.reduceLT, Nat.reduceLeDiff]
    (repeat' apply And.intro) <;> first | rfl | assumption | omega | (simp; done) | (simp; omega) | (simp_all; done)
  refine sA_n ?_
  refine a_scope ?_
  refine a_seq ?_
  refine a_seq ?_
  obtain ⟨r1, zh1, H⟩ := bind_some H
  have zk1 := log_Fits_pc zh1
  refine a_reg _ rfl (s := ?zs2) ?_ ?_
  rotate_left
  · try simp (maxSteps := 2000000) only [EVT, stepR, evOp, St.ev, St.app, St.put, wrs, frz, evUn, TIS, CS, Nat.reduceAdd, Nat.reduceMul, Nat.reduceEqDiff, ↓reduceIte, reduceCtorEq, Nat.reduceLT, Nat.reduceLeDiff, Nat.reduceSub, Nat.reduceBEq]
    repeat' with_reducible apply And.intro
    all_goals try ((with_reducible show CallR _ _ _ _ _ _ _); refine cR_s zk1 (.cons (.lst _ _ _ Entry.pu rfl) (.cons (.int' rfl) (.cons (.int' rfl) .nil))) (.bool _) ?_; simp (maxSteps := 2000000) only [EVT, stepR, evOp, St.ev, St.app, St.put, wrs, frz, evUn, TIS, CS, Nat.reduceAdd, Nat.reduceMul, Nat.reduceEqDiff, ↓reduceIte, reduceCtorEq, Nat.reduceLT, Nat.reduceLeDiff, Nat.reduceSub, Nat.reduceBEq])
    all_goals ((repeat' apply And.intro) <;> first | rfl | assumption | omega | (simp; done) | (simp; omega) | (simp_all; done))
  refine sA_n ?_
  refine a_condb ((!r1)) (by rfl) (fun zc1 => ?_) (fun zc1 => ?_)
  · have H := cond_t zc1 H
    refine a_seq ?_
    refine a_reg _ rfl (s := ?zs3) ?_ ?_
    rotate_left
    · simp (maxSteps := 2000000) only [EVT, stepR, evOp, St.ev, St.app, St.put, wrs, datOf, datOf1, TIS, CS, Nat.reduceAdd, Nat.reduceMul, Nat.reduceEqDiff, ↓reduceIte, reduceCtorEq, Nat.reduceLT, Nat.reduceLeDiff, ↓zc1]
      (repeat' apply And.intro) <;> first | rfl | assumption | omega | (simp; done) | (simp; omega) | (simp_all; done)
    refine sA_n ?_
    refine a_ret ?_
    refine sA_r ?_
    refine gA_r ?_
    obtain rfl := Option.some.inj H
    refine e_r2 (d := ?zd1) ?_ ?_
    rotate_left
    · simp only [EVT, resR, single, evLoad, cut, TIS, CS, Nat.reduceAdd, Nat.reduceEqDiff, ↓reduceIte, reduceCtorEq, Nat.reduceLT, Nat.reduceLeDiff, Nat.reduceSub, Nat.reduceBEq, zc1]
      (repeat' apply And.intro) <;> first | rfl | assumption | omega | (simp; done)
    exact (.tup' (.cons (.nil _) (.cons (.bool' (by first | rfl | assumption | (simp_all; done))) .nil)))
  · have H := cond_f zc1 H
    refine a_skip ?_
    refine sA_n ?_
    refine a_seq ?_
    obtain ⟨r2, zh2, H⟩ := bind_some H
    have zk2 := slices_Clone_rc zh2
    refine a_reg _ rfl (s := ?zs4) ?_ ?_
    rotate_left
    · try simp (maxSteps := 2000000) only [EVT, stepR, evOp, St.ev, St.app, St.put, wrs, frz, TIS, CS, Nat.reduceAdd, Nat.reduceMul, Nat.reduceEqDiff, ↓reduceIte, reduceCtorEq, Nat.reduceLT, Nat.reduceLeDiff, Nat.reduceSub, Nat.reduceBEq, ↓zc1]
      repeat' with_reducible apply And.intro
      all_goals try ((with_reducible show CallR _ _ _ _ _ _ _); refine callR_rcw (r' := .ref 57 0 r2.length 2) [(57, some ⟨34, 2, false, r2.map Entry.c⟩)] [] [] [(57, 0, ⟨34, 2, false, r2.map Entry.c⟩)] rfl zk2 (by simp) (by show ([] : List Nat).Nodup; decide) trivial (.cons (.lst _ _ _ Entry.pu rfl) .nil) (by show ([57] : List Nat).Nodup; decide) (by show ([0] : List Nat).Nodup; decide) ⟨.inr ⟨rfl, by decide⟩, ⟨_, rfl, ⟨rfl, rfl, rfl, rfl⟩, .same _ _ Entry.pu rfl⟩, trivial⟩ (.refl' rfl rfl) ?_; simp (maxSteps := 2000000) only [EVT, stepR, evOp, St.ev, St.app, St.put, wrs, frz, TIS, CS, Nat.reduceAdd, Nat.reduceMul, Nat.reduceEqDiff, ↓reduceIte, reduceCtorEq, Nat.reduceLT, Nat.reduceLeDiff, Nat.reduceSub, Nat.reduceBEq, ↓zc1])
      all_goals ((repeat' apply And.intro) <;> first | rfl | assumption | omega | (simp; done) | (simp; omega) | (simp_all; done))
    refine sA_n ?_
    refine a_seq ?_
    refine a_label ?_
    refine sA_n ?_
    refine a_cut (fun s => ∃ (out1 : List Entry) (t0 : Nat → Dat), log_Put_J1 out1 = some r ∧ s = ⟨tl t0 [(10, .ref 0 0 out1.length 2)], hl [⟨34, 2, false, out1.map Entry.c⟩], 1, 55⟩) ?_ ?_
    · refine a_seq ?_
      refine a_reg _ rfl (s := ?zs8) ?_ ?_
      rotate_left
      · simp (maxSteps := 2000000) only [EVT, stepR, evOp, St.ev, St.app, St.put, wrs, evBuiltin, datOf, datOf1, TIS, CS, Nat.reduceAdd, Nat.reduceMul, Nat.reduceEqDiff, ↓reduceIte, reduceCtorEq, Nat.reduceLT, Nat.reduceLeDiff, Nat.reduceSub, Nat.reduceBEq, ↓zc1]
        (repeat' apply And.intro) <;> first | rfl | assumption | omega | (simp; done) | (simp; omega) | (simp_all; done)
      refine sA_n ?_
      refine a_blk ?_
      refine a_loop (fun m s => ∃ (v1 : Int) (t0 : Nat → Dat), log_Put_L1 more1 at1 r2 m v1 = some r ∧ s = ⟨tl t0 [(1, .int .i64 at1), (3, .list 2 (more1.map Entry.c)), (10, .ref 0 0 r2.length 2), (21, .list 2 (more1.map Entry.c)), (22, .int .i64 (more1.length : Int)), (23, .int .i64 v1)], hl [⟨34, 2, false, r2.map Entry.c⟩], 1, 55⟩) BIG ?_ ?_
      · refine wk_l [(some 57, ⟨34, 2, false, r2.map Entry.c⟩)] [] [(1, .int .i64 at1), (3, .list 2 (more1.map Entry.c)), (10, .ref 0 0 r2.length 2), (21, .list 2 (more1.map Entry.c)), (22, .int .i64 (more1.length : Int)), (23, .int .i64 0)] (by show ([1, 3, 10, 21, 22, 23] : List Nat).Nodup; decide) (by show ([57] : List Nat).Nodup; decide) ?_ ?_ (fun t0 => ⟨0, t0, H, rfl⟩)
        · exact (allB_some (by rfl) rfl (.same _ _ Entry.pu (by first | rfl | (simp only [List.map_append, List.map_cons, List.map_nil, List.map_set, List.map_take, List.map_drop, List.map_replicate, List.append_assoc, List.nil_append, List.append_nil, ci_eq, cb_eq, cs_eq, cl_eq, CS,  List.nil_append]; done) | (simp [CS,  ci_eq, cb_eq, cs_eq, cl_eq]; done) | (simp [CS,  ci_eq, cb_eq, cs_eq, cl_eq]; intro hz; rw [List.take_of_length_le (by simp; omega)]))) trivial)
        · (simp only [AllT, tl_cons, tl_nil, upd_apply, List.getD_cons_zero, List.getD_cons_succ, Nat.reduceEqDiff, ↓reduceIte, and_true]); exact ⟨(.int' rfl), (.lst _ _ _ Entry.pu rfl), (.refl' (by first | rfl | omega | (simp; done) | (simp; omega) | (simp_all; done)) rfl), (.lst _ _ _ Entry.pu rfl), (.int' rfl), (.int' rfl)⟩
      · rintro m_log_Put_L1 s ⟨v1, t0, H, rfl⟩
        obtain _ | m_log_Put_L1 := m_log_Put_L1
        · cases (show (none : Option _) = some _ from H)
        · rw [log_Put_L1] at H
          refine a_seq ?_
          refine a_reg _ rfl (s := ?zs9) ?_ ?_
          rotate_left
          · simp (maxSteps := 2000000) only [EVT, stepR, evOp, St.ev, St.app, St.put, wrs, evBin, binInt, TIS, CS, Nat.reduceAdd, Nat.reduceMul, Nat.reduceEqDiff, ↓reduceIte, reduceCtorEq, Nat.reduceLT, Nat.reduceLeDiff]
            (repeat' apply And.intro) <;> first | rfl | assumption | omega | (simp; done) | (simp; omega) | (simp_all; done)
          refine sA_n ?_
          refine a_seq ?_
          refine a_condb ((decide (v1 < (more1.length : Int)))) (by rfl) (fun zc3 => ?_) (fun zc3 => ?_)
          · have H := cond_t zc3 H
            refine a_skip ?_
            refine sA_n ?_
            refine a_seq ?_
            refine a_blk ?_
            refine a_seq ?_
            obtain ⟨x1, zh3, H⟩ := bind_some H
            have zg1 := idx_map zh3 Entry.c
            try simp only [Int.reduceToNat] at zg1
            obtain ⟨zh3a, zh3b, _⟩ := idx_some zh3
            refine a_reg _ rfl (s := ?zs10) ?_ ?_
            rotate_left
            · simp (maxSteps := 2000000) only [EVT, stepR, evOp, St.ev, St.app, St.put, wrs, evIndexAddr, evLoad, cut, allOne, evStore, setR, TIS, CS, Nat.reduceAdd, Nat.reduceMul, Nat.reduceEqDiff, ↓reduceIte, reduceCtorEq, Nat.reduceLT, Nat.reduceLeDiff, Int.reduceToNat, Nat.reduceSub, Nat.reduceBEq, ↓zc3, zg1]
              (repeat' apply And.intro) <;> first | rfl | assumption | omega | (simp; done) | (simp; omega) | (simp_all; done)
            refine sA_n ?_
            refine a_seq ?_
            refine a_reg _ rfl (s := ?zs11) ?_ ?_
            rotate_left
            · simp (maxSteps := 2000000) only [EVT, stepR, evOp, St.ev, St.app, St.put, wrs, evBin, binInt, TIS, CS, Nat.reduceAdd, Nat.reduceMul, Nat.reduceEqDiff, ↓reduceIte, reduceCtorEq, Nat.reduceLT, Nat.reduceLeDiff, ↓zc3, zg1]
              (repeat' apply And.intro) <;> first | rfl | assumption | omega | (simp; done) | (simp; omega) | (simp_all; done)
            refine sA_n ?_
            refine a_seq ?_
            refine a_cut (fun s => ∃ (v2 : Bool) (t0 : Nat → Dat), log_Put_J2 (log_Put_L1 more1 at1 r2 m_log_Put_L1) v1 at1 r2 more1 v2 = some r ∧ s = ⟨tl t0 [(1, .int .i64 at1), (3, .list 2 (more1.map Entry.c)), (10, .ref 0 0 r2.length 2), (11, .int .i64 v1), (13, .int .i64 (IntKind.wrap .i64 (at1 + v1))), (21, .list 2 (more1.map Entry.c)), (22, .int .i64 (more1.length : Int)), (23, .int .i64 v1), (42, .bool v2)], hl [⟨34, 2, false, r2.map Entry.c⟩], 1, 55⟩) ?_ ?_
            · refine bool_split (b := (decide ((IntKind.wrap .i64 (at1 + v1)) < (((r2.length : Nat)) : Int)))) (fun zc5 => ?_) (fun zc5 => ?_)
              · have H := cond_t zc5 H
                obtain ⟨x2, zh7, H⟩ := bind_some H
                have zg2 := idx_map zh7 Entry.c
                try simp only [Int.reduceToNat] at zg2
                obtain ⟨zh7a, zh7b, _⟩ := idx_some zh7
                obtain ⟨r3, zh8, H⟩ := bind_some H
                have zk3 := log_alike_pc zh8
                refine a_drW (by kernel_rfl) _ rfl (s := ?zs14) (by kernel_rfl) (by kernel_rfl) ?zs14f ?_ ?_ ?_
                rotate_left 2
                · try simp (maxSteps := 2000000) only [EVT, stepW, evOp, St.ev, St.app, St.put, wrs, evBuiltin, evBin, binInt, evIndexAddr, evLoad, cut, frz, datOf, datOf1, TIS, CS, Nat.reduceAdd, Nat.reduceMul, Nat.reduceEqDiff, ↓reduceIte, reduceCtorEq, Nat.reduceLT, Nat.reduceLeDiff, Array.reduceGetElem?, Int.reduceToNat, Nat.reduceSub, Nat.reduceBEq, ↓zc3, zg1, ↓zc5, zg2]
                  repeat' with_reducible apply And.intro
                  all_goals try ((with_reducible show CallW _ _ _ _ _ _ _); refine cW_s [] zk3 (fun h2 e => (.cons (.agg' (.cons (.int' rfl) (.cons (.lst _ _ _ (ci_pu .u8) rfl) .nil))) (.cons (.agg' (.cons (.int' rfl) (.cons (.lst _ _ _ (ci_pu .u8) rfl) .nil))) .nil))) (.bool _) ?_; simp (maxSteps := 2000000) only [EVT, stepW, evOp, St.ev, St.app, St.put, wrs, evBuiltin, evBin, binInt, evIndexAddr, evLoad, cut, frz, datOf, datOf1, TIS, CS, Nat.reduceAdd, Nat.reduceMul, Nat.reduceEqDiff, ↓reduceIte, reduceCtorEq, Nat.reduceLT, Nat.reduceLeDiff, Array.reduceGetElem?, Int.reduceToNat, Nat.reduceSub, Nat.reduceBEq, ↓zc3, zg1, ↓zc5, zg2])
                  all_goals ((repeat' apply And.intro) <;> first | rfl | assumption | omega | (simp; done) | (simp; omega) | (simp_all; done))
                · kernel_rfl
                refine cA_n ?_
                refine wk_l [(some 0, ⟨34, 2, false, r2.map Entry.c⟩)] [] [(1, .int .i64 at1), (3, .list 2 (more1.map Entry.c)), (10, .ref 0 0 r2.length 2), (11, .int .i64 v1), (13, .int .i64 (IntKind.wrap .i64 (at1 + v1))), (21, .list 2 (more1.map Entry.c)), (22, .int .i64 (more1.length : Int)), (23, .int .i64 v1), (42, .bool r3)] (by show ([1, 3, 10, 11, 13, 21, 22, 23, 42] : List Nat).Nodup; decide) (by show ([0] : List Nat).Nodup; decide) ?_ ?_ (fun t0 => ⟨r3, t0, H, rfl⟩)
                · exact (allB_some (by rfl) rfl (.same _ _ Entry.pu (by first | rfl | (simp only [List.map_append, List.map_cons, List.map_nil, List.map_set, List.map_take, List.map_drop, List.map_replicate, List.append_assoc, List.nil_append, List.append_nil, ci_eq, cb_eq, cs_eq, cl_eq, CS,  List.nil_append]; done) | (simp [CS,  ci_eq, cb_eq, cs_eq, cl_eq]; done) | (simp [CS,  ci_eq, cb_eq, cs_eq, cl_eq]; intro hz; rw [List.take_of_length_le (by simp; omega)]))) trivial)
                · (simp only [AllT, tl_cons, tl_nil, upd_apply, List.getD_cons_zero, List.getD_cons_succ, Nat.reduceEqDiff, ↓reduceIte, and_true]); exact ⟨(.int' rfl), (.lst _ _ _ Entry.pu rfl), (.refl' (by first | rfl | omega | (simp; done) | (simp; omega) | (simp_all; done)) rfl), (.int' rfl), (.int' rfl), (.lst _ _ _ Entry.pu rfl), (.int' rfl), (.int' rfl), (.bool' rfl)⟩
              · have H := cond_f zc5 H
                refine a_drW (by kernel_rfl) _ rfl (s := ?zs15) (by kernel_rfl) (by kernel_rfl) ?zs15f ?_ ?_ ?_
                rotate_left 2
                · simp (maxSteps := 2000000) only [EVT, stepW, evOp, St.ev, St.app, St.put, wrs, evBuiltin, evBin, binInt, evIndexAddr, evLoad, cut, frz, datOf, datOf1, TIS, CS, Nat.reduceAdd, Nat.reduceMul, Nat.reduceEqDiff, ↓reduceIte, reduceCtorEq, Nat.reduceLT, Nat.reduceLeDiff, Array.reduceGetElem?, Int.reduceToNat, Nat.reduceSub, Nat.reduceBEq, ↓zc3, zg1, ↓zc5]
                  try simp (maxSteps := 2000000) only [EVT, stepW, evOp, St.ev, St.app, St.put, wrs, evBuiltin, evBin, binInt, evIndexAddr, evLoad, cut, frz, datOf, datOf1, TIS, CS, Nat.reduceAdd, Nat.reduceMul, Nat.reduceEqDiff, ↓reduceIte, reduceCtorEq, Nat.reduceLT, Nat.reduceLeDiff, Array.reduceGetElem?, Int.reduceToNat, Nat.reduceSub, Nat.reduceBEq, ↓zc3, zg1, ↓zc5]
                  (repeat' apply And.intro) <;> first | rfl | assumption | omega | (simp; done) | (simp; omega) | (simp_all; done)
                · kernel_rfl
                refine cA_n ?_
                refine wk_l [(some 0, ⟨34, 2, false, r2.map Entry.c⟩)] [] [(1, .int .i64 at1), (3, .list 2 (more1.map Entry.c)), (10, .ref 0 0 r2.length 2), (11, .int .i64 v1), (13, .int .i64 (IntKind.wrap .i64 (at1 + v1))), (21, .list 2 (more1.map Entry.c)), (22, .int .i64 (more1.length : Int)), (23, .int .i64 v1), (42, .bool false)] (by show ([1, 3, 10, 11, 13, 21, 22, 23, 42] : List Nat).Nodup; decide) (by show ([0] : List Nat).Nodup; decide) ?_ ?_ (fun t0 => ⟨false, t0, H, rfl⟩)
                · exact (allB_some (by rfl) rfl (.same _ _ Entry.pu (by first | rfl | (simp only [List.map_append, List.map_cons, List.map_nil, List.map_set, List.map_take, List.map_drop, List.map_replicate, List.append_assoc, List.nil_append, List.append_nil, ci_eq, cb_eq, cs_eq, cl_eq, CS,  List.nil_append]; done) | (simp [CS,  ci_eq, cb_eq, cs_eq, cl_eq]; done) | (simp [CS,  ci_eq, cb_eq, cs_eq, cl_eq]; intro hz; rw [List.take_of_length_le (by simp; omega)]))) trivial)
                · (simp only [AllT, tl_cons, tl_nil, upd_apply, List.getD_cons_zero, List.getD_cons_succ, Nat.reduceEqDiff, ↓reduceIte, and_true]); exact ⟨(.int' rfl), (.lst _ _ _ Entry.pu rfl), (.refl' (by first | rfl | omega | (simp; done) | (simp; omega) | (simp_all; done)) rfl), (.int' rfl), (.int' rfl), (.lst _ _ _ Entry.pu rfl), (.int' rfl), (.int' rfl), (.bool' (by first | rfl | assumption | (simp_all; done)))⟩
            · rintro s ⟨v2, t0, H, rfl⟩
              unfold log_Put_J2 at H
              refine a_condb (v2) (by rfl) (fun zc4 => ?_) (fun zc4 => ?_)
              · have H := cond_t zc4 H
                refine a_exit ?_
                refine sA_e ?_
                refine bA_hit ?_
                refine sA_n ?_
                refine a_reg _ rfl (s := ?zs12) ?_ ?_
                rotate_left
                · simp (maxSteps := 2000000) only [EVT, stepR, evOp, St.ev, St.app, St.put, wrs, datOf, datOf1, evBin, binInt, TIS, CS, Nat.reduceAdd, Nat.reduceMul, Nat.reduceEqDiff, ↓reduceIte, reduceCtorEq, Nat.reduceLT, Nat.reduceLeDiff, ↓zc4]
                  (repeat' apply And.intro) <;> first | rfl | assumption | omega | (simp; done) | (simp; omega) | (simp_all; done)
                refine lA_n ?_
                refine wk_l [(some 0, ⟨34, 2, false, r2.map Entry.c⟩)] [] [(1, .int .i64 at1), (3, .list 2 (more1.map Entry.c)), (10, .ref 0 0 r2.length 2), (21, .list 2 (more1.map Entry.c)), (22, .int .i64 (more1.length : Int)), (23, .int .i64 (IntKind.wrap .i64 (v1 + 1)))] (by show ([1, 3, 10, 21, 22, 23] : List Nat).Nodup; decide) (by show ([0] : List Nat).Nodup; decide) ?_ ?_ (fun t0 => ⟨_, Nat.lt_succ_self _, (IntKind.wrap .i64 (v1 + 1)), t0, H, rfl⟩)
                · exact (allB_some (by rfl) rfl (.same _ _ Entry.pu (by first | rfl | (simp only [List.map_append, List.map_cons, List.map_nil, List.map_set, List.map_take, List.map_drop, List.map_replicate, List.append_assoc, List.nil_append, List.append_nil, ci_eq, cb_eq, cs_eq, cl_eq, CS,  List.nil_append]; done) | (simp [CS,  ci_eq, cb_eq, cs_eq, cl_eq]; done) | (simp [CS,  ci_eq, cb_eq, cs_eq, cl_eq]; intro hz; rw [List.take_of_length_le (by simp; omega)]))) trivial)
                · (simp only [AllT, tl_cons, tl_nil, upd_apply, List.getD_cons_zero, List.getD_cons_succ, Nat.reduceEqDiff, ↓reduceIte, and_true]); exact ⟨(.int' rfl), (.lst _ _ _ Entry.pu rfl), (.refl' (by first | rfl | omega | (simp; done) | (simp; omega) | (simp_all; done)) rfl), (.lst _ _ _ Entry.pu rfl), (.int' rfl), (.int' rfl)⟩
              · have H := cond_f zc4 H
                refine a_skip ?_
                refine sA_n ?_
                refine a_seq ?_
                obtain ⟨zh4, H⟩ := chk_some H
                obtain ⟨zh5, H⟩ := chk_some H
                obtain ⟨zh6, H⟩ := chk_some H
                refine a_drW (by kernel_rfl) _ rfl (s := ?zs13) (by kernel_rfl) (by kernel_rfl) ?zs13f ?_ ?_ ?_
                rotate_left 2
                · simp (maxSteps := 2000000) only [EVT, stepW, evOp, St.ev, St.app, St.put, wrs, evSlice, sliceOk, sl_if0, sl_if1, sl_if2, sl_if3, tk_map, dp_map, evBuiltin, evAppend, elems, Option.elim, TIS, CS, Nat.reduceAdd, Nat.reduceMul, Nat.reduceEqDiff, ↓reduceIte, reduceCtorEq, Nat.reduceLT, Nat.reduceLeDiff, Int.reduceToNat, Nat.reduceSub, Nat.reduceBEq, ↓zc4]
                  (repeat' apply And.intro) <;> first | rfl | assumption | omega | (simp; done) | (simp; omega) | (simp_all; done)
                · kernel_rfl
                refine sA_n ?_
                refine a_exit ?_
                refine bA_e (by decide) ?_
                refine sA_e ?_
                refine lA_e ?_
                refine bA_hit ?_
                refine cA_n ?_
                refine wk_l [(some 7, ⟨34, 2, false, ((r2.take ((IntKind.wrap .i64 (at1 + v1)).toNat)) ++ (more1.drop v1.toNat)).map Entry.c⟩)] [] [(10, .ref 0 0 ((r2.take ((IntKind.wrap .i64 (at1 + v1)).toNat)) ++ (more1.drop v1.toNat)).length 2)] (by show ([10] : List Nat).Nodup; decide) (by show ([7] : List Nat).Nodup; decide) ?_ ?_ (fun t0 => ⟨((r2.take ((IntKind.wrap .i64 (at1 + v1)).toNat)) ++ (more1.drop v1.toNat)), t0, H, rfl⟩)
                · exact (allB_some (by rfl) rfl (.same _ _ Entry.pu (by first | rfl | (simp only [List.map_append, List.map_cons, List.map_nil, List.map_set, List.map_take, List.map_drop, List.map_replicate, List.append_assoc, List.nil_append, List.append_nil, ci_eq, cb_eq, cs_eq, cl_eq, CS,  List.nil_append]; done) | (simp [CS,  ci_eq, cb_eq, cs_eq, cl_eq]; done) | (simp [CS,  ci_eq, cb_eq, cs_eq, cl_eq]; intro hz; rw [List.take_of_length_le (by simp; omega)]))) trivial)
                · (simp only [AllT, tl_cons, tl_nil, upd_apply, List.getD_cons_zero, List.getD_cons_succ, Nat.reduceEqDiff, ↓reduceIte, and_true]); exact (.refl' (by first | rfl | omega | (simp; done) | (simp; omega) | (simp_all; done)) rfl)
          · have H := cond_f zc3 H
            refine a_exit ?_
            refine sA_e ?_
            refine lA_e ?_
            refine bA_hit ?_
            refine cA_n ?_
            refine wk_l [(some 0, ⟨34, 2, false, r2.map Entry.c⟩)] [] [(10, .ref 0 0 r2.length 2)] (by show ([10] : List Nat).Nodup; decide) (by show ([0] : List Nat).Nodup; decide) ?_ ?_ (fun t0 => ⟨r2, t0, H, rfl⟩)
            · exact (allB_some (by rfl) rfl (.same _ _ Entry.pu (by first | rfl | (simp only [List.map_append, List.map_cons, List.map_nil, List.map_set, List.map_take, List.map_drop, List.map_replicate, List.append_assoc, List.nil_append, List.append_nil, ci_eq, cb_eq, cs_eq, cl_eq, CS,  List.nil_append]; done) | (simp [CS,  ci_eq, cb_eq, cs_eq, cl_eq]; done) | (simp [CS,  ci_eq, cb_eq, cs_eq, cl_eq]; intro hz; rw [List.take_of_length_le (by simp; omega)]))) trivial)
            · (simp only [AllT, tl_cons, tl_nil, upd_apply, List.getD_cons_zero, List.getD_cons_succ, Nat.reduceEqDiff, ↓reduceIte, and_true]); exact (.refl' (by first | rfl | omega | (simp; done) | (simp; omega) | (simp_all; done)) rfl)
    · rintro s ⟨out1, t0, H, rfl⟩
      unfold log_Put_J1 at H
      refine a_seq ?_
      refine a_seq ?_
      refine a_reg _ rfl (s := ?zs5) ?_ ?_
      rotate_left
      · simp (maxSteps := 2000000) only [EVT, stepR, evOp, St.ev, St.app, St.put, wrs, evBuiltin, datOf, datOf1, evBin, binInt, TIS, CS, Nat.reduceAdd, Nat.reduceMul, Nat.reduceEqDiff, ↓reduceIte, reduceCtorEq, Nat.reduceLT, Nat.reduceLeDiff, Nat.reduceSub, Nat.reduceBEq]
        (repeat' apply And.intro) <;> first | rfl | assumption | omega | (simp; done) | (simp; omega) | (simp_all; done)
      refine sA_n ?_
      refine a_condb ((decide (500 < (((out1.length : Nat)) : Int)))) (by rfl) (fun zc2 => ?_) (fun zc2 => ?_)
      · have H := cond_t zc2 H
        refine a_seq ?_
        refine a_reg _ rfl (s := ?zs6) ?_ ?_
        rotate_left
        · simp (maxSteps := 2000000) only [EVT, stepR, evOp, St.ev, St.app, St.put, wrs, datOf, datOf1, TIS, CS, Nat.reduceAdd, Nat.reduceMul, Nat.reduceEqDiff, ↓reduceIte, reduceCtorEq, Nat.reduceLT, Nat.reduceLeDiff, ↓zc2]
          (repeat' apply And.intro) <;> first | rfl | assumption | omega | (simp; done) | (simp; omega) | (simp_all; done)
        refine sA_n ?_
        refine a_ret ?_
        refine sA_r ?_
        refine gA_r ?_
        obtain rfl := Option.some.inj H
        refine e_r2 (d := ?zd2) ?_ ?_
        rotate_left
        · simp only [EVT, resR, single, evLoad, cut, TIS, CS, Nat.reduceAdd, Nat.reduceEqDiff, ↓reduceIte, reduceCtorEq, Nat.reduceLT, Nat.reduceLeDiff, Nat.reduceSub, Nat.reduceBEq, zc2]
          (repeat' apply And.intro) <;> first | rfl | assumption | omega | (simp; done)
        exact (.tup' (.cons (.nil _) (.cons (.bool' (by first | rfl | assumption | (simp_all; done))) .nil)))
      · have H := cond_f zc2 H
        refine a_skip ?_
        refine sA_n ?_
        refine a_seq ?_
        refine a_reg _ rfl (s := ?zs7) ?_ ?_
        rotate_left
        · simp (maxSteps := 2000000) only [EVT, stepR, evOp, St.ev, St.app, St.put, wrs, datOf, datOf1, TIS, CS, Nat.reduceAdd, Nat.reduceMul, Nat.reduceEqDiff, ↓reduceIte, reduceCtorEq, Nat.reduceLT, Nat.reduceLeDiff, ↓zc2]
          (repeat' apply And.intro) <;> first | rfl | assumption | omega | (simp; done) | (simp; omega) | (simp_all; done)
        refine sA_n ?_
        refine a_ret ?_
        refine gA_r ?_
        obtain rfl := Option.some.inj H
        refine e_r2 (d := ?zd3) ?_ ?_
        rotate_left
        · simp only [EVT, resR, single, evLoad, cut, TIS, CS, Nat.reduceAdd, Nat.reduceEqDiff, ↓reduceIte, reduceCtorEq, Nat.reduceLT, Nat.reduceLeDiff, Nat.reduceSub, Nat.reduceBEq, zc2]
          (repeat' apply And.intro) <;> first | rfl | assumption | omega | (simp; done)
        exact (.tup' (.cons (.ownL (by rfl) (fun e => by cases e) rfl (by first | rfl | omega | (simp; done) | (simp; omega) | (simp_all; done)) (.same _ _ Entry.pu (by first | rfl | (simp only [List.map_append, List.map_cons, List.map_nil, List.map_set, List.map_take, List.map_drop, List.map_replicate, List.append_assoc, List.nil_append, List.append_nil, ci_eq, cb_eq, cs_eq, cl_eq, CS,  List.nil_append]; done) | (simp [CS,  ci_eq, cb_eq, cs_eq, cl_eq]; done) | (simp [CS,  ci_eq, cb_eq, cs_eq, cl_eq]; intro hz; rw [List.take_of_length_le (by simp; omega)])))) (.cons (.bool' (by first | rfl | assumption | (simp_all; done))) .nil)))
def ref13_Put_J2 (out1 : List Entry) : Option ((List Entry) × Bool) :=
  cond (decide (500 < (((out1.length : Nat)) : Int))) (some ([], false)) (some (out1, true))
def ref13_Put_J1 (l1 : List Entry) (more1 : List Entry) (at1 : Int) (n1 : Int) : Option ((List Entry) × Bool) :=
  chk ((0 + l1.length) * 32 ≤ 140737488355328) (cond (decide (n1 < (more1.length : Int))) (chk (0 ≤ (IntKind.wrap .i64 (at1 + n1)) ∧ (IntKind.wrap .i64 (at1 + n1)) ≤ (0 + l1.length : Int)) (chk (0 ≤ n1 ∧ n1 ≤ (more1.length : Int) ∧ (more1.length : Int) ≤ (more1.length : Int)) (chk ((((IntKind.wrap .i64 (at1 + n1)).toNat) + ((more1.drop n1.toNat).length)) * 32 ≤ 140737488355328) (ref13_Put_J2 (((([] : List Entry) ++ l1).take ((IntKind.wrap .i64 (at1 + n1)).toNat)) ++ (more1.drop n1.toNat)))))) (ref13_Put_J2 (([] : List Entry) ++ l1)))
def ref13_Put_J3 (k_ref13_Put_L1 : Int → Option ((List Entry) × Bool)) (n2 : Int) (l1 : List Entry) (more1 : List Entry) (at1 : Int) (v1 : Bool) : Option ((List Entry) × Bool) :=
  cond v1 (k_ref13_Put_L1 (IntKind.wrap .i64 (n2 + 1))) (ref13_Put_J1 l1 more1 at1 n2)
def ref13_Put_L1 (more1 : List Entry) (at1 : Int) (l1 : List Entry) : Nat → Int → Option ((List Entry) × Bool)
  | 0, _ => none
  | m_ + 1, n2 => cond (decide (n2 < (more1.length : Int))) (cond (decide ((IntKind.wrap .i64 (at1 + n2)) < (l1.length : Int))) ((idx l1 (IntKind.wrap .i64 (at1 + n2))).bind fun x1 => (idx more1 n2).bind fun x2 => (ref13_Alike_f x1 x2).bind fun r2 => ref13_Put_J3 (ref13_Put_L1 more1 at1 l1 m_) n2 l1 more1 at1 r2) (ref13_Put_J3 (ref13_Put_L1 more1 at1 l1 m_) n2 l1 more1 at1 false)) (ref13_Put_J3 (ref13_Put_L1 more1 at1 l1 m_) n2 l1 more1 at1 false)
def ref13_Put_f (l1 : List Entry) (at1 : Int) (term1 : Int) (more1 : List Entry) : Option ((List Entry) × Bool) :=
  (ref13_Fits_f l1 at1 term1).bind fun r1 => cond (!r1) (some ([], false)) (ref13_Put_L1 more1 at1 l1 BIG 0)
set_option maxHeartbeats 4000000 in
set_option maxRecDepth 20000 in
theorem ref13_Put_pc {l1 : List Entry} {at1 : Int} {term1 : Int} {more1 : List Entry} {r : (List Entry) × Bool} (H : ref13_Put_f l1 at1 term1 more1 = some r) : PC Try.prog 13 [.list 2 (l1.map Entry.c), .int .i64 at1, .int .i64 term1, .list 2 (more1.map Entry.c)] (.tup [.list 2 (r.1.map Entry.c), .bool r.2]) := by
  refine pcA_of Try.func13 (by rfl) (by decide) 64 (by rfl) [.tmp 8, .tmp 9] (by rfl) ?_
  unfold ref13_Put_f at H
  simp only [ent]
  refine a_seq ?_
  refine a_reg _ rfl (s := ?zs1) ?_ ?_
  rotate_left
  · simp (maxSteps := 2000000) only [EVT, stepR, evOp, St.ev, St.app, St.put, wrs, datOf, datOf1, TIS, CS, Nat.reduceAdd, Nat.reduceMul, Nat.reduceEqDiff, ↓reduceIte, reduceCtorEq, Nat.reduceLT, Nat.reduceLeDiff]
    (repeat' apply And.intro) <;> first | rfl | assumption | omega | (simp; done) | (simp; omega) | (simp_all; done)
  refine sA_n ?_
  refine a_seq ?_
  refine a_seq ?_
  obtain ⟨r1, zh1, H⟩ := bind_some H
  have zk1 := ref13_Fits_pc zh1
  refine a_reg _ rfl (s := ?zs2) ?_ ?_
  rotate_left
  · try simp (maxSteps := 2000000) only [EVT, stepR, evOp, St.ev, St.app, St.put, wrs, frz, evUn, TIS, CS, Nat.reduceAdd, Nat.reduceMul, Nat.reduceEqDiff, ↓reduceIte, reduceCtorEq, Nat.reduceLT, Nat.reduceLeDiff, Nat.reduceSub, Nat.reduceBEq]
    repeat' with_reducible apply And.intro
    all_goals try ((with_reducible show CallR _ _ _ _ _ _ _); refine cR_s zk1 (.cons (.lst _ _ _ Entry.pu rfl) (.cons (.int' rfl) (.cons (.int' rfl) .nil))) (.bool _) ?_; simp (maxSteps := 2000000) only [EVT, stepR, evOp, St.ev, St.app, St.put, wrs, frz, evUn, TIS, CS, Nat.reduceAdd, Nat.reduceMul, Nat.reduceEqDiff, ↓reduceIte, reduceCtorEq, Nat.reduceLT, Nat.reduceLeDiff, Nat.reduceSub, Nat.reduceBEq])
    all_goals ((repeat' apply And.intro) <;> first | rfl | assumption | omega | (simp; done) | (simp; omega) | (simp_all; done))
  refine sA_n ?_
  refine a_condb ((!r1)) (by rfl) (fun zc1 => ?_) (fun zc1 => ?_)
  · have H := cond_t zc1 H
    refine a_seq ?_
    refine a_reg _ rfl (s := ?zs3) ?_ ?_
    rotate_left
    · simp (maxSteps := 2000000) only [EVT, stepR, evOp, St.ev, St.app, St.put, wrs, datOf, datOf1, TIS, CS, Nat.reduceAdd, Nat.reduceMul, Nat.reduceEqDiff, ↓reduceIte, reduceCtorEq, Nat.reduceLT, Nat.reduceLeDiff, ↓zc1]
      (repeat' apply And.intro) <;> first | rfl | assumption | omega | (simp; done) | (simp; omega) | (simp_all; done)
    refine sA_n ?_
    refine a_ret ?_
    refine sA_r ?_
    obtain rfl := Option.some.inj H
    refine e_r2 (d := ?zd1) ?_ ?_
    rotate_left
    · simp only [EVT, resR, single, evLoad, cut, TIS, CS, Nat.reduceAdd, Nat.reduceEqDiff, ↓reduceIte, reduceCtorEq, Nat.reduceLT, Nat.reduceLeDiff, Nat.reduceSub, Nat.reduceBEq, zc1]
      (repeat' apply And.intro) <;> first | rfl | assumption | omega | (simp; done)
    exact (.tup' (.cons (.nil _) (.cons (.bool' (by first | rfl | assumption | (simp_all; done))) .nil)))
  · have H := cond_f zc1 H
    refine a_skip ?_
    refine sA_n ?_
    refine a_seq ?_
    refine a_reg _ rfl (s := ?zs4) ?_ ?_
    rotate_left
    · simp (maxSteps := 2000000) only [EVT, stepR, evOp, St.ev, St.app, St.put, wrs, datOf, datOf1, TIS, CS, Nat.reduceAdd, Nat.reduceMul, Nat.reduceEqDiff, ↓reduceIte, reduceCtorEq, Nat.reduceLT, Nat.reduceLeDiff, ↓zc1]
      (repeat' apply And.intro) <;> first | rfl | assumption | omega | (simp; done) | (simp; omega) | (simp_all; done)
    refine sA_n ?_
    refine a_cut (fun s => ∃ (n1 : Int) (t0 : Nat → Dat), ref13_Put_J1 l1 more1 at1 n1 = some r ∧ s = ⟨tl t0 [(0, .list 2 (l1.map Entry.c)), (1, .int .i64 at1), (3, .list 2 (more1.map Entry.c)), (10, .int .i64 n1)], hl [], 0, 64⟩) ?_ ?_
    · refine a_blk ?_
      refine a_loop (fun m s => ∃ (n2 : Int) (t0 : Nat → Dat), ref13_Put_L1 more1 at1 l1 m n2 = some r ∧ s = ⟨tl t0 [(0, .list 2 (l1.map Entry.c)), (1, .int .i64 at1), (3, .list 2 (more1.map Entry.c)), (10, .int .i64 n2)], hl [], 0, 64⟩) BIG ?_ ?_
      · refine wk_l [] [] [(0, .list 2 (l1.map Entry.c)), (1, .int .i64 at1), (3, .list 2 (more1.map Entry.c)), (10, .int .i64 0)] (by show ([0, 1, 3, 10] : List Nat).Nodup; decide) (by show ([] : List Nat).Nodup; decide) ?_ ?_ (fun t0 => ⟨0, t0, H, rfl⟩)
        · exact trivial
        · (simp only [AllT, tl_cons, tl_nil, upd_apply, List.getD_cons_zero, List.getD_cons_succ, Nat.reduceEqDiff, ↓reduceIte, and_true]); exact ⟨(.lst _ _ _ Entry.pu rfl), (.int' rfl), (.lst _ _ _ Entry.pu rfl), (.int' rfl)⟩
      · rintro m_ref13_Put_L1 s ⟨n2, t0, H, rfl⟩
        obtain _ | m_ref13_Put_L1 := m_ref13_Put_L1
        · cases (show (none : Option _) = some _ from H)
        · rw [ref13_Put_L1] at H
          refine a_seq ?_
          refine a_cut (fun s => ∃ (v1 : Bool) (t0 : Nat → Dat), ref13_Put_J3 (ref13_Put_L1 more1 at1 l1 m_ref13_Put_L1) n2 l1 more1 at1 v1 = some r ∧ s = ⟨tl t0 [(0, .list 2 (l1.map Entry.c)), (1, .int .i64 at1), (3, .list 2 (more1.map Entry.c)), (10, .int .i64 n2), (41, .bool v1)], hl [], 0, 64⟩) ?_ ?_
          · refine bool_split (b := (decide (n2 < (more1.length : Int)))) (fun zc5 => ?_) (fun zc5 => ?_)
            · have H := cond_t zc5 H
              refine bool_split (b := (decide ((IntKind.wrap .i64 (at1 + n2)) < (l1.length : Int)))) (fun zc6 => ?_) (fun zc6 => ?_)
              · have H := cond_t zc6 H
                obtain ⟨x1, zh6, H⟩ := bind_some H
                have zg1 := idx_map zh6 Entry.c
                try simp only [Int.reduceToNat] at zg1
                obtain ⟨zh6a, zh6b, _⟩ := idx_some zh6
                obtain ⟨x2, zh7, H⟩ := bind_some H
                have zg2 := idx_map zh7 Entry.c
                try simp only [Int.reduceToNat] at zg2
                obtain ⟨zh7a, zh7b, _⟩ := idx_some zh7
                obtain ⟨r2, zh8, H⟩ := bind_some H
                have zk2 := ref13_Alike_pc zh8
                refine a_drW (by kernel_rfl) _ rfl (s := ?zs12) (by kernel_rfl) (by kernel_rfl) ?zs12f ?_ ?_ ?_
                rotate_left 2
                · try simp (maxSteps := 2000000) only [EVT, stepW, evOp, St.ev, St.app, St.put, wrs, evBuiltin, evBin, binInt, datOf, datOf1, evIndexAddr, evLoad, cut, frz, TIS, CS, Nat.reduceAdd, Nat.reduceMul, Nat.reduceEqDiff, ↓reduceIte, reduceCtorEq, Nat.reduceLT, Nat.reduceLeDiff, Array.reduceGetElem?, Int.reduceToNat, Nat.reduceSub, Nat.reduceBEq, ↓zc5, ↓zc6, zg1, zg2]
                  repeat' with_reducible apply And.intro
                  all_goals try ((with_reducible show CallW _ _ _ _ _ _ _); refine cW_s [] zk2 (fun h2 e => (.cons (.agg' (.cons (.int' rfl) (.cons (.lst _ _ _ (ci_pu .u8) rfl) .nil))) (.cons (.agg' (.cons (.int' rfl) (.cons (.lst _ _ _ (ci_pu .u8) rfl) .nil))) .nil))) (.bool _) ?_; simp (maxSteps := 2000000) only [EVT, stepW, evOp, St.ev, St.app, St.put, wrs, evBuiltin, evBin, binInt, datOf, datOf1, evIndexAddr, evLoad, cut, frz, TIS, CS, Nat.reduceAdd, Nat.reduceMul, Nat.reduceEqDiff, ↓reduceIte, reduceCtorEq, Nat.reduceLT, Nat.reduceLeDiff, Array.reduceGetElem?, Int.reduceToNat, Nat.reduceSub, Nat.reduceBEq, ↓zc5, ↓zc6, zg1, zg2])
                  all_goals ((repeat' apply And.intro) <;> first | rfl | assumption | omega | (simp; done) | (simp; omega) | (simp_all; done))
                · kernel_rfl
                refine cA_n ?_
                refine wk_l [] [] [(0, .list 2 (l1.map Entry.c)), (1, .int .i64 at1), (3, .list 2 (more1.map Entry.c)), (10, .int .i64 n2), (41, .bool r2)] (by show ([0, 1, 3, 10, 41] : List Nat).Nodup; decide) (by show ([] : List Nat).Nodup; decide) ?_ ?_ (fun t0 => ⟨r2, t0, H, rfl⟩)
                · exact trivial
                · (simp only [AllT, tl_cons, tl_nil, upd_apply, List.getD_cons_zero, List.getD_cons_succ, Nat.reduceEqDiff, ↓reduceIte, and_true]); exact ⟨(.lst _ _ _ Entry.pu rfl), (.int' rfl), (.lst _ _ _ Entry.pu rfl), (.int' rfl), (.bool' rfl)⟩
              · have H := cond_f zc6 H
                refine a_drW (by kernel_rfl) _ rfl (s := ?zs13) (by kernel_rfl) (by kernel_rfl) ?zs13f ?_ ?_ ?_
                rotate_left 2
                · simp (maxSteps := 2000000) only [EVT, stepW, evOp, St.ev, St.app, St.put, wrs, evBuiltin, evBin, binInt, datOf, datOf1, evIndexAddr, evLoad, cut, frz, TIS, CS, Nat.reduceAdd, Nat.reduceMul, Nat.reduceEqDiff, ↓reduceIte, reduceCtorEq, Nat.reduceLT, Nat.reduceLeDiff, Array.reduceGetElem?, Int.reduceToNat, Nat.reduceSub, Nat.reduceBEq, ↓zc5, ↓zc6]
                  try simp (maxSteps := 2000000) only [EVT, stepW, evOp, St.ev, St.app, St.put, wrs, evBuiltin, evBin, binInt, datOf, datOf1, evIndexAddr, evLoad, cut, frz, TIS, CS, Nat.reduceAdd, Nat.reduceMul, Nat.reduceEqDiff, ↓reduceIte, reduceCtorEq, Nat.reduceLT, Nat.reduceLeDiff, Array.reduceGetElem?, Int.reduceToNat, Nat.reduceSub, Nat.reduceBEq, ↓zc5, ↓zc6]
                  (repeat' apply And.intro) <;> first | rfl | assumption | omega | (simp; done) | (simp; omega) | (simp_all; done)
                · kernel_rfl
                refine cA_n ?_
                refine wk_l [] [] [(0, .list 2 (l1.map Entry.c)), (1, .int .i64 at1), (3, .list 2 (more1.map Entry.c)), (10, .int .i64 n2), (41, .bool false)] (by show ([0, 1, 3, 10, 41] : List Nat).Nodup; decide) (by show ([] : List Nat).Nodup; decide) ?_ ?_ (fun t0 => ⟨false, t0, H, rfl⟩)
                · exact trivial
                · (simp only [AllT, tl_cons, tl_nil, upd_apply, List.getD_cons_zero, List.getD_cons_succ, Nat.reduceEqDiff, ↓reduceIte, and_true]); exact ⟨(.lst _ _ _ Entry.pu rfl), (.int' rfl), (.lst _ _ _ Entry.pu rfl), (.int' rfl), (.bool' (by first | rfl | assumption | (simp_all; done)))⟩
            · have H := cond_f zc5 H
              refine a_drW (by kernel_rfl) _ rfl (s := ?zs14) (by kernel_rfl) (by kernel_rfl) ?zs14f ?_ ?_ ?_
              rotate_left 2
              · simp (maxSteps := 2000000) only [EVT, stepW, evOp, St.ev, St.app, St.put, wrs, evBuiltin, evBin, binInt, datOf, datOf1, evIndexAddr, evLoad, cut, frz, TIS, CS, Nat.reduceAdd, Nat.reduceMul, Nat.reduceEqDiff, ↓reduceIte, reduceCtorEq, Nat.reduceLT, Nat.reduceLeDiff, Array.reduceGetElem?, Int.reduceToNat, Nat.reduceSub, Nat.reduceBEq, ↓zc5]
                try simp (maxSteps := 2000000) only [EVT, stepW, evOp, St.ev, St.app, St.put, wrs, evBuiltin, evBin, binInt, datOf, datOf1, evIndexAddr, evLoad, cut, frz, TIS, CS, Nat.reduceAdd, Nat.reduceMul, Nat.reduceEqDiff, ↓reduceIte, reduceCtorEq, Nat.reduceLT, Nat.reduceLeDiff, Array.reduceGetElem?, Int.reduceToNat, Nat.reduceSub, Nat.reduceBEq, ↓zc5]
                (repeat' apply And.intro) <;> first | rfl | assumption | omega | (simp; done) | (simp; omega) | (simp_all; done)
              · kernel_rfl
              refine cA_n ?_
              refine wk_l [] [] [(0, .list 2 (l1.map Entry.c)), (1, .int .i64 at1), (3, .list 2 (more1.map Entry.c)), (10, .int .i64 n2), (41, .bool false)] (by show ([0, 1, 3, 10, 41] : List Nat).Nodup; decide) (by show ([] : List Nat).Nodup; decide) ?_ ?_ (fun t0 => ⟨false, t0, H, rfl⟩)
              · exact trivial
              · (simp only [AllT, tl_cons, tl_nil, upd_apply, List.getD_cons_zero, List.getD_cons_succ, Nat.reduceEqDiff, ↓reduceIte, and_true]); exact ⟨(.lst _ _ _ Entry.pu rfl), (.int' rfl), (.lst _ _ _ Entry.pu rfl), (.int' rfl), (.bool' (by first | rfl | assumption | (simp_all; done)))⟩
          · rintro s ⟨v1, t0, H, rfl⟩
            unfold ref13_Put_J3 at H
            refine a_condb (v1) (by rfl) (fun zc4 => ?_) (fun zc4 => ?_)
            · have H := cond_t zc4 H
              refine a_skip ?_
              refine sA_n ?_
              refine a_blk ?_
              refine a_reg _ rfl (s := ?zs11) ?_ ?_
              rotate_left
              · simp (maxSteps := 2000000) only [EVT, stepR, evOp, St.ev, St.app, St.put, wrs, datOf, datOf1, evBin, binInt, TIS, CS, Nat.reduceAdd, Nat.reduceMul, Nat.reduceEqDiff, ↓reduceIte, reduceCtorEq, Nat.reduceLT, Nat.reduceLeDiff, ↓zc4]
                (repeat' apply And.intro) <;> first | rfl | assumption | omega | (simp; done) | (simp; omega) | (simp_all; done)
              refine bA_n ?_
              refine lA_n ?_
              refine wk_l [] [] [(0, .list 2 (l1.map Entry.c)), (1, .int .i64 at1), (3, .list 2 (more1.map Entry.c)), (10, .int .i64 (IntKind.wrap .i64 (n2 + 1)))] (by show ([0, 1, 3, 10] : List Nat).Nodup; decide) (by show ([] : List Nat).Nodup; decide) ?_ ?_ (fun t0 => ⟨_, Nat.lt_succ_self _, (IntKind.wrap .i64 (n2 + 1)), t0, H, rfl⟩)
              · exact trivial
              · (simp only [AllT, tl_cons, tl_nil, upd_apply, List.getD_cons_zero, List.getD_cons_succ, Nat.reduceEqDiff, ↓reduceIte, and_true]); exact ⟨(.lst _ _ _ Entry.pu rfl), (.int' rfl), (.lst _ _ _ Entry.pu rfl), (.int' rfl)⟩
            · have H := cond_f zc4 H
              refine a_exit ?_
              refine sA_e ?_
              refine lA_e ?_
              refine bA_hit ?_
              refine cA_n ?_
              refine wk_l [] [] [(0, .list 2 (l1.map Entry.c)), (1, .int .i64 at1), (3, .list 2 (more1.map Entry.c)), (10, .int .i64 n2)] (by show ([0, 1, 3, 10] : List Nat).Nodup; decide) (by show ([] : List Nat).Nodup; decide) ?_ ?_ (fun t0 => ⟨n2, t0, H, rfl⟩)
              · exact trivial
              · (simp only [AllT, tl_cons, tl_nil, upd_apply, List.getD_cons_zero, List.getD_cons_succ, Nat.reduceEqDiff, ↓reduceIte, and_true]); exact ⟨(.lst _ _ _ Entry.pu rfl), (.int' rfl), (.lst _ _ _ Entry.pu rfl), (.int' rfl)⟩
    · rintro s ⟨n1, t0, H, rfl⟩
      unfold ref13_Put_J1 at H
      refine a_seq ?_
      obtain ⟨zh2, H⟩ := chk_some H
      refine a_reg _ rfl (s := ?zs5) ?_ ?_
      rotate_left
      · simp (maxSteps := 2000000) only [EVT, stepR, evOp, St.ev, St.app, St.put, wrs, allOne, evBuiltin, evAppend, elems, Option.elim, TIS, CS, Nat.reduceAdd, Nat.reduceMul, Nat.reduceEqDiff, ↓reduceIte, reduceCtorEq, Nat.reduceLT, Nat.reduceLeDiff, Nat.reduceSub, Nat.reduceBEq]
        (repeat' apply And.intro) <;> first | rfl | assumption | omega | (simp; done) | (simp; omega) | (simp_all; done)
      refine sA_n ?_
      refine a_cut (fun s => ∃ (out1 : List Entry) (t0 : Nat → Dat), ref13_Put_J2 out1 = some r ∧ s = ⟨tl t0 [(11, .ref 0 0 out1.length 2)], hl [⟨34, 2, false, out1.map Entry.c⟩], 1, 64⟩) ?_ ?_
      · refine a_seq ?_
        refine a_reg _ rfl (s := ?zs9) ?_ ?_
        rotate_left
        · simp (maxSteps := 2000000) only [EVT, stepR, evOp, St.ev, St.app, St.put, wrs, evBuiltin, evBin, binInt, TIS, CS, Nat.reduceAdd, Nat.reduceMul, Nat.reduceEqDiff, ↓reduceIte, reduceCtorEq, Nat.reduceLT, Nat.reduceLeDiff, Nat.reduceSub, Nat.reduceBEq]
          (repeat' apply And.intro) <;> first | rfl | assumption | omega | (simp; done) | (simp; omega) | (simp_all; done)
        refine sA_n ?_
        refine a_condb ((decide (n1 < (more1.length : Int)))) (by rfl) (fun zc3 => ?_) (fun zc3 => ?_)
        · have H := cond_t zc3 H
          obtain ⟨zh3, H⟩ := chk_some H
          obtain ⟨zh4, H⟩ := chk_some H
          obtain ⟨zh5, H⟩ := chk_some H
          refine a_drW (by kernel_rfl) _ rfl (s := ?zs10) (by kernel_rfl) (by kernel_rfl) ?zs10f ?_ ?_ ?_
          rotate_left 2
          · simp (maxSteps := 2000000) only [EVT, stepW, evOp, St.ev, St.app, St.put, wrs, evBin, binInt, evSlice, sliceOk, sl_if0, sl_if1, sl_if2, sl_if3, tk_map, dp_map, evBuiltin, evAppend, elems, Option.elim, TIS, CS, Nat.reduceAdd, Nat.reduceMul, Nat.reduceEqDiff, ↓reduceIte, reduceCtorEq, Nat.reduceLT, Nat.reduceLeDiff, Int.reduceToNat, Nat.reduceSub, Nat.reduceBEq, ↓zc3]
            (repeat' apply And.intro) <;> first | rfl | assumption | omega | (simp; done) | (simp; omega) | (simp_all; done)
          · kernel_rfl
          refine cA_n ?_
          refine wk_l [(some 72, ⟨34, 2, false, (((([] : List Entry) ++ l1).take ((IntKind.wrap .i64 (at1 + n1)).toNat)) ++ (more1.drop n1.toNat)).map Entry.c⟩)] [] [(11, .ref 0 0 (((([] : List Entry) ++ l1).take ((IntKind.wrap .i64 (at1 + n1)).toNat)) ++ (more1.drop n1.toNat)).length 2)] (by show ([11] : List Nat).Nodup; decide) (by show ([72] : List Nat).Nodup; decide) ?_ ?_ (fun t0 => ⟨(((([] : List Entry) ++ l1).take ((IntKind.wrap .i64 (at1 + n1)).toNat)) ++ (more1.drop n1.toNat)), t0, H, rfl⟩)
          · exact (allB_some (by rfl) rfl (.same _ _ Entry.pu (by first | rfl | (simp only [List.map_append, List.map_cons, List.map_nil, List.map_set, List.map_take, List.map_drop, List.map_replicate, List.append_assoc, List.nil_append, List.append_nil, ci_eq, cb_eq, cs_eq, cl_eq, CS,  List.nil_append]; done) | (simp [CS,  ci_eq, cb_eq, cs_eq, cl_eq]; done) | (simp [CS,  ci_eq, cb_eq, cs_eq, cl_eq]; intro hz; rw [List.take_of_length_le (by simp; omega)]))) trivial)
          · (simp only [AllT, tl_cons, tl_nil, upd_apply, List.getD_cons_zero, List.getD_cons_succ, Nat.reduceEqDiff, ↓reduceIte, and_true]); exact (.refl' (by first | rfl | omega | (simp; done) | (simp; omega) | (simp_all; done)) rfl)
        · have H := cond_f zc3 H
          refine a_skip ?_
          refine cA_n ?_
          refine wk_l [(some 2, ⟨34, 2, false, (([] : List Entry) ++ l1).map Entry.c⟩)] [] [(11, .ref 0 0 (([] : List Entry) ++ l1).length 2)] (by show ([11] : List Nat).Nodup; decide) (by show ([2] : List Nat).Nodup; decide) ?_ ?_ (fun t0 => ⟨(([] : List Entry) ++ l1), t0, H, rfl⟩)
          · exact (allB_some (by rfl) rfl (.same _ _ Entry.pu (by first | rfl | (simp only [List.map_append, List.map_cons, List.map_nil, List.map_set, List.map_take, List.map_drop, List.map_replicate, List.append_assoc, List.nil_append, List.append_nil, ci_eq, cb_eq, cs_eq, cl_eq, CS,  List.nil_append]; done) | (simp [CS,  ci_eq, cb_eq, cs_eq, cl_eq]; done) | (simp [CS,  ci_eq, cb_eq, cs_eq, cl_eq]; intro hz; rw [List.take_of_length_le (by simp; omega)]))) trivial)
          · (simp only [AllT, tl_cons, tl_nil, upd_apply, List.getD_cons_zero, List.getD_cons_succ, Nat.reduceEqDiff, ↓reduceIte, and_true]); exact (.refl' (by first | rfl | omega | (simp; done) | (simp; omega) | (simp_all; done)) rfl)
      · rintro s ⟨out1, t0, H, rfl⟩
        unfold ref13_Put_J2 at H
        refine a_seq ?_
        refine a_seq ?_
        refine a_reg _ rfl (s := ?zs6) ?_ ?_
        rotate_left
        · simp (maxSteps := 2000000) only [EVT, stepR, evOp, St.ev, St.app, St.put, wrs, evBuiltin, datOf, datOf1, evBin, binInt, TIS, CS, Nat.reduceAdd, Nat.reduceMul, Nat.reduceEqDiff, ↓reduceIte, reduceCtorEq, Nat.reduceLT, Nat.reduceLeDiff, Nat.reduceSub, Nat.reduceBEq]
          (repeat' apply And.intro) <;> first | rfl | assumption | omega | (simp; done) | (simp; omega) | (simp_all; done)
        refine sA_n ?_
        refine a_condb ((decide (500 < (((out1.length : Nat)) : Int)))) (by rfl) (fun zc2 => ?_) (fun zc2 => ?_)
        · have H := cond_t zc2 H
          refine a_seq ?_
          refine a_reg _ rfl (s := ?zs7) ?_ ?_
          rotate_left
          · simp (maxSteps := 2000000) only [EVT, stepR, evOp, St.ev, St.app, St.put, wrs, datOf, datOf1, TIS, CS, Nat.reduceAdd, Nat.reduceMul, Nat.reduceEqDiff, ↓reduceIte, reduceCtorEq, Nat.reduceLT, Nat.reduceLeDiff, ↓zc2]
            (repeat' apply And.intro) <;> first | rfl | assumption | omega | (simp; done) | (simp; omega) | (simp_all; done)
          refine sA_n ?_
          refine a_ret ?_
          refine sA_r ?_
          obtain rfl := Option.some.inj H
          refine e_r2 (d := ?zd2) ?_ ?_
          rotate_left
          · simp only [EVT, resR, single, evLoad, cut, TIS, CS, Nat.reduceAdd, Nat.reduceEqDiff, ↓reduceIte, reduceCtorEq, Nat.reduceLT, Nat.reduceLeDiff, Nat.reduceSub, Nat.reduceBEq, zc2]
            (repeat' apply And.intro) <;> first | rfl | assumption | omega | (simp; done)
          exact (.tup' (.cons (.nil _) (.cons (.bool' (by first | rfl | assumption | (simp_all; done))) .nil)))
        · have H := cond_f zc2 H
          refine a_skip ?_
          refine sA_n ?_
          refine a_seq ?_
          refine a_reg _ rfl (s := ?zs8) ?_ ?_
          rotate_left
          · simp (maxSteps := 2000000) only [EVT, stepR, evOp, St.ev, St.app, St.put, wrs, datOf, datOf1, TIS, CS, Nat.reduceAdd, Nat.reduceMul, Nat.reduceEqDiff, ↓reduceIte, reduceCtorEq, Nat.reduceLT, Nat.reduceLeDiff, ↓zc2]
            (repeat' apply And.intro) <;> first | rfl | assumption | omega | (simp; done) | (simp; omega) | (simp_all; done)
          refine sA_n ?_
          refine a_ret ?_
          obtain rfl := Option.some.inj H
          refine e_r2 (d := ?zd3) ?_ ?_
          rotate_left
          · simp only [EVT, resR, single, evLoad, cut, TIS, CS, Nat.reduceAdd, Nat.reduceEqDiff, ↓reduceIte, reduceCtorEq, Nat.reduceLT, Nat.reduceLeDiff, Nat.reduceSub, Nat.reduceBEq, zc2]
            (repeat' apply And.intro) <;> first | rfl | assumption | omega | (simp; done)
          exact (.tup' (.cons (.ownL (by rfl) (fun e => by cases e) rfl (by first | rfl | omega | (simp; done) | (simp; omega) | (simp_all; done)) (.same _ _ Entry.pu (by first | rfl | (simp only [List.map_append, List.map_cons, List.map_nil, List.map_set, List.map_take, List.map_drop, List.map_replicate, List.append_assoc, List.nil_append, List.append_nil, ci_eq, cb_eq, cs_eq, cl_eq, CS,  List.nil_append]; done) | (simp [CS,  ci_eq, cb_eq, cs_eq, cl_eq]; done) | (simp [CS,  ci_eq, cb_eq, cs_eq, cl_eq]; intro hz; rw [List.take_of_length_le (by simp; omega)])))) (.cons (.bool' (by first | rfl | assumption | (simp_all; done))) .nil)))
def log_Commit_J1 (was1 : Int) : Option Int :=
  some (was1)
def log_Commit_J2 (k_log_Commit_L1 : Int → Option Int) (p1 : Int) (v1 : Bool) : Option Int :=
  cond v1 (some (p1)) (k_log_Commit_L1 (IntKind.wrap .i64 (p1 - 1)))
def log_Commit_L1 (was1 : Int) (l1 : List Entry) (term1 : Int) (match1 : List Int) : Nat → Int → Option Int
  | 0, _ => none
  | m_ + 1, p1 => cond (decide ((if 0 > was1 then 0 else was1) < p1)) ((idx l1 (IntKind.wrap .i64 (p1 - 1))).bind fun x1 => cond (x1.term == term1) ((log_Commit_1_f p1 match1).bind fun r1 => log_Commit_J2 (log_Commit_L1 was1 l1 term1 match1 m_) p1 (decide ((match1.length : Int) < (IntKind.wrap .i64 (2 * r1))))) (log_Commit_J2 (log_Commit_L1 was1 l1 term1 match1 m_) p1 false)) (log_Commit_J1 was1)
def log_Commit_f (l1 : List Entry) (term1 : Int) (match1 : List Int) (was1 : Int) : Option Int :=
  log_Commit_L1 was1 l1 term1 match1 BIG (l1.length : Int)
set_option maxHeartbeats 4000000 in
set_option maxRecDepth 20000 in
theorem log_Commit_pc {l1 : List Entry} {term1 : Int} {match1 : List Int} {was1 : Int} {r : Int} (H : log_Commit_f l1 term1 match1 was1 = some r) : PC Try.prog 19 [.list 2 (l1.map Entry.c), .int .i64 term1, .list 1 (match1.map (ci .i64)), .int .i64 was1] (.int .i64 r) := by
  refine pcA_of Try.func19 (by rfl) (by decide) 39 (by rfl) [.tmp 8] (by rfl) ?_
  unfold log_Commit_f at H
  simp only [ent]
  refine a_seq ?_
  refine a_reg _ rfl (s := ?zs1) ?_ ?_
  rotate_left
  · simp (maxSteps := 2000000) only [EVT, stepR, evOp, St.ev, St.app, St.put, wrs, allOne, datOf, datOf1, TIS, CS, Nat.reduceAdd, Nat.reduceMul, Nat.reduceEqDiff, ↓reduceIte, reduceCtorEq, Nat.reduceLT, Nat.reduceLeDiff]
    (repeat' apply And.intro) <;> first | rfl | assumption | omega | (simp; done) | (simp; omega) | (simp_all; done)
  refine sA_n ?_
  refine a_seq ?_
  refine a_reg _ rfl (s := ?zs2) ?_ ?_
  rotate_left
  · simp (maxSteps := 2000000) only [EVT, stepR, evOp, St.ev, St.app, St.put, wrs, TIS, CS, Nat.reduceAdd, Nat.reduceMul, Nat.reduceEqDiff, ↓reduceIte, reduceCtorEq, Nat.reduceLT, Nat.reduceLeDiff]
    (repeat' apply And.intro) <;> first | rfl | assumption | omega | (simp; done) | (simp; omega) | (simp_all; done)
  refine sA_n ?_
  refine a_cut (fun s => ∃ (t0 : Nat → Dat), log_Commit_J1 was1 = some r ∧ s = ⟨tl t0 [(3, .int .i64 was1)], hl [], 0, 39⟩) ?_ ?_
  · refine a_seq ?_
    refine a_reg _ rfl (s := ?zs4) ?_ ?_
    rotate_left
    · simp (maxSteps := 2000000) only [EVT, stepR, evOp, St.ev, St.app, St.put, wrs, evBuiltin, TIS, CS, Nat.reduceAdd, Nat.reduceMul, Nat.reduceEqDiff, ↓reduceIte, reduceCtorEq, Nat.reduceLT, Nat.reduceLeDiff, Nat.reduceSub, Nat.reduceBEq]
      (repeat' apply And.intro) <;> first | rfl | assumption | omega | (simp; done) | (simp; omega) | (simp_all; done)
    refine sA_n ?_
    refine a_blk ?_
    refine a_loop (fun m s => ∃ (p1 : Int) (t0 : Nat → Dat), log_Commit_L1 was1 l1 term1 match1 m p1 = some r ∧ s = ⟨tl t0 [(0, .list 2 (l1.map Entry.c)), (1, .int .i64 term1), (3, .int .i64 was1), (6, .ptr 0 0 0 1), (9, .fn (.func 29) [] [.ptr 0 0 0 1]), (10, .int .i64 p1)], hl [⟨23, 1, false, [[.list 1 (match1.map (ci .i64))]]⟩], 1, 39⟩) BIG ?_ ?_
    · refine wk_l [(some 0, ⟨23, 1, false, [[.list 1 (match1.map (ci .i64))]]⟩)] [] [(0, .list 2 (l1.map Entry.c)), (1, .int .i64 term1), (3, .int .i64 was1), (6, .ptr 0 0 0 1), (9, .fn (.func 29) [] [.ptr 0 0 0 1]), (10, .int .i64 (l1.length : Int))] (by show ([0, 1, 3, 6, 9, 10] : List Nat).Nodup; decide) (by show ([0] : List Nat).Nodup; decide) ?_ ?_ (fun t0 => ⟨(l1.length : Int), t0, H, rfl⟩)
      · exact (allB_some (by rfl) rfl (.cons (.cons (.lst _ _ _ (ci_pu .i64) rfl) .nil) .nil) trivial)
      · (simp only [AllT, tl_cons, tl_nil, upd_apply, List.getD_cons_zero, List.getD_cons_succ, Nat.reduceEqDiff, ↓reduceIte, and_true]); exact ⟨(.lst _ _ _ Entry.pu rfl), (.int' rfl), (.int' rfl), (.ptr _ _ _ _ _ rfl), (.fn' .nil (.cons (.ptr _ _ _ _ _ rfl) .nil)), (.int' rfl)⟩
    · rintro m_log_Commit_L1 s ⟨p1, t0, H, rfl⟩
      obtain _ | m_log_Commit_L1 := m_log_Commit_L1
      · cases (show (none : Option _) = some _ from H)
      · rw [log_Commit_L1] at H
        refine a_seq ?_
        refine a_seq ?_
        refine a_reg _ rfl (s := ?zs5) ?_ ?_
        rotate_left
        · simp (maxSteps := 2000000) only [EVT, stepR, evOp, St.ev, St.app, St.put, wrs, datOf, datOf1, evBuiltin, minMax, mmStep, evBin, binInt, TIS, CS, Nat.reduceAdd, Nat.reduceMul, Nat.reduceEqDiff, ↓reduceIte, reduceCtorEq, Nat.reduceLT, Nat.reduceLeDiff, Nat.reduceSub, Nat.reduceBEq]
          (repeat' apply And.intro) <;> first | rfl | assumption | omega | (simp; done) | (simp; omega) | (simp_all; done)
        refine sA_n ?_
        refine a_condb ((decide ((if 0 > was1 then 0 else was1) < p1))) (by rfl) (fun zc1 => ?_) (fun zc1 => ?_)
        · have H := cond_t zc1 H
          refine a_skip ?_
          refine sA_n ?_
          refine a_seq ?_
          refine a_blk ?_
          refine a_cut (fun s => ∃ (v1 : Bool) (t0 : Nat → Dat), log_Commit_J2 (log_Commit_L1 was1 l1 term1 match1 m_log_Commit_L1) p1 v1 = some r ∧ s = ⟨tl t0 [(0, .list 2 (l1.map Entry.c)), (1, .int .i64 term1), (3, .int .i64 was1), (6, .ptr 0 0 0 1), (9, .fn (.func 29) [] [.ptr 0 0 0 1]), (10, .int .i64 p1), (36, .bool v1)], hl [⟨23, 1, false, [[.list 1 (match1.map (ci .i64))]]⟩], 1, 39⟩) ?_ ?_
          · obtain ⟨x1, zh1, H⟩ := bind_some H
            have zg1 := idx_map zh1 Entry.c
            try simp only [Int.reduceToNat] at zg1
            obtain ⟨zh1a, zh1b, _⟩ := idx_some zh1
            refine bool_split (b := (x1.term == term1)) (fun zc3 => ?_) (fun zc3 => ?_)
            · have H := cond_t zc3 H
              obtain ⟨r1, zh2, H⟩ := bind_some H
              have zk1 := log_Commit_1_pc zh2
              refine a_drW (by kernel_rfl) _ rfl (s := ?zs8) (by kernel_rfl) (by kernel_rfl) ?zs8f ?_ ?_ ?_
              rotate_left 2
              · try simp (maxSteps := 2000000) only [EVT, stepW, evOp, St.ev, St.app, St.put, wrs, datOf, datOf1, evBin, binInt, evIndexAddr, evFieldAddr, evLoad, cut, frz, evBuiltin, TIS, CS, Nat.reduceAdd, Nat.reduceMul, Nat.reduceEqDiff, ↓reduceIte, reduceCtorEq, Nat.reduceLT, Nat.reduceLeDiff, Array.reduceGetElem?, Int.reduceToNat, Nat.reduceSub, Nat.reduceBEq, ↓zc1, zg1, ↓zc3]
                repeat' with_reducible apply And.intro
                all_goals try ((with_reducible show CallW _ _ _ _ _ _ _); refine cW_s [0] zk1 (fun h2 e => (.cons (.int' rfl) (.cons (.box ((e 0 (by simp)).trans (by rfl)) (fun e => by cases e) rfl rfl (.cons (.lst _ _ _ (ci_pu .i64) rfl) .nil)) .nil))) (.int _ _) ?_; simp (maxSteps := 2000000) only [EVT, stepW, evOp, St.ev, St.app, St.put, wrs, datOf, datOf1, evBin, binInt, evIndexAddr, evFieldAddr, evLoad, cut, frz, evBuiltin, TIS, CS, Nat.reduceAdd, Nat.reduceMul, Nat.reduceEqDiff, ↓reduceIte, reduceCtorEq, Nat.reduceLT, Nat.reduceLeDiff, Array.reduceGetElem?, Int.reduceToNat, Nat.reduceSub, Nat.reduceBEq, ↓zc1, zg1, ↓zc3])
                all_goals ((repeat' apply And.intro) <;> first | rfl | assumption | omega | (simp; done) | (simp; omega) | (simp_all; done))
              · kernel_rfl
              refine cA_n ?_
              refine wk_l [(some 0, ⟨23, 1, false, [[.list 1 (match1.map (ci .i64))]]⟩)] [] [(0, .list 2 (l1.map Entry.c)), (1, .int .i64 term1), (3, .int .i64 was1), (6, .ptr 0 0 0 1), (9, .fn (.func 29) [] [.ptr 0 0 0 1]), (10, .int .i64 p1), (36, .bool (decide ((match1.length : Int) < (IntKind.wrap .i64 (2 * r1)))))] (by show ([0, 1, 3, 6, 9, 10, 36] : List Nat).Nodup; decide) (by show ([0] : List Nat).Nodup; decide) ?_ ?_ (fun t0 => ⟨(decide ((match1.length : Int) < (IntKind.wrap .i64 (2 * r1)))), t0, H, rfl⟩)
              · exact (allB_some (by rfl) rfl (.cons (.cons (.lst _ _ _ (ci_pu .i64) rfl) .nil) .nil) trivial)
              · (simp only [AllT, tl_cons, tl_nil, upd_apply, List.getD_cons_zero, List.getD_cons_succ, Nat.reduceEqDiff, ↓reduceIte, and_true]); exact ⟨(.lst _ _ _ Entry.pu rfl), (.int' rfl), (.int' rfl), (.ptr _ _ _ _ _ rfl), (.fn' .nil (.cons (.ptr _ _ _ _ _ rfl) .nil)), (.int' rfl), (.bool' rfl)⟩
            · have H := cond_f zc3 H
              refine a_drW (by kernel_rfl) _ rfl (s := ?zs9) (by kernel_rfl) (by kernel_rfl) ?zs9f ?_ ?_ ?_
              rotate_left 2
              · simp (maxSteps := 2000000) only [EVT, stepW, evOp, St.ev, St.app, St.put, wrs, datOf, datOf1, evBin, binInt, evIndexAddr, evFieldAddr, evLoad, cut, frz, evBuiltin, TIS, CS, Nat.reduceAdd, Nat.reduceMul, Nat.reduceEqDiff, ↓reduceIte, reduceCtorEq, Nat.reduceLT, Nat.reduceLeDiff, Array.reduceGetElem?, Int.reduceToNat, Nat.reduceSub, Nat.reduceBEq, ↓zc1, zg1, ↓zc3]
                try simp (maxSteps := 2000000) only [EVT, stepW, evOp, St.ev, St.app, St.put, wrs, datOf, datOf1, evBin, binInt, evIndexAddr, evFieldAddr, evLoad, cut, frz, evBuiltin, TIS, CS, Nat.reduceAdd, Nat.reduceMul, Nat.reduceEqDiff, ↓reduceIte, reduceCtorEq, Nat.reduceLT, Nat.reduceLeDiff, Array.reduceGetElem?, Int.reduceToNat, Nat.reduceSub, Nat.reduceBEq, ↓zc1, zg1, ↓zc3]
                (repeat' apply And.intro) <;> first | rfl | assumption | omega | (simp; done) | (simp; omega) | (simp_all; done)
              · kernel_rfl
              refine cA_n ?_
              refine wk_l [(some 0, ⟨23, 1, false, [[.list 1 (match1.map (ci .i64))]]⟩)] [] [(0, .list 2 (l1.map Entry.c)), (1, .int .i64 term1), (3, .int .i64 was1), (6, .ptr 0 0 0 1), (9, .fn (.func 29) [] [.ptr 0 0 0 1]), (10, .int .i64 p1), (36, .bool false)] (by show ([0, 1, 3, 6, 9, 10, 36] : List Nat).Nodup; decide) (by show ([0] : List Nat).Nodup; decide) ?_ ?_ (fun t0 => ⟨false, t0, H, rfl⟩)
              · exact (allB_some (by rfl) rfl (.cons (.cons (.lst _ _ _ (ci_pu .i64) rfl) .nil) .nil) trivial)
              · (simp only [AllT, tl_cons, tl_nil, upd_apply, List.getD_cons_zero, List.getD_cons_succ, Nat.reduceEqDiff, ↓reduceIte, and_true]); exact ⟨(.lst _ _ _ Entry.pu rfl), (.int' rfl), (.int' rfl), (.ptr _ _ _ _ _ rfl), (.fn' .nil (.cons (.ptr _ _ _ _ _ rfl) .nil)), (.int' rfl), (.bool' (by first | rfl | assumption | (simp_all; done)))⟩
          · rintro s ⟨v1, t0, H, rfl⟩
            unfold log_Commit_J2 at H
            refine a_condb (v1) (by rfl) (fun zc2 => ?_) (fun zc2 => ?_)
            · have H := cond_t zc2 H
              refine a_seq ?_
              refine a_reg _ rfl (s := ?zs6) ?_ ?_
              rotate_left
              · simp (maxSteps := 2000000) only [EVT, stepR, evOp, St.ev, St.app, St.put, wrs, TIS, CS, Nat.reduceAdd, Nat.reduceMul, Nat.reduceEqDiff, ↓reduceIte, reduceCtorEq, Nat.reduceLT, Nat.reduceLeDiff, ↓zc2]
                (repeat' apply And.intro) <;> first | rfl | assumption | omega | (simp; done) | (simp; omega) | (simp_all; done)
              refine sA_n ?_
              refine a_ret ?_
              refine bA_r ?_
              refine sA_r ?_
              refine lA_r ?_
              refine bA_r ?_
              refine cA_r ?_
              obtain rfl := Option.some.inj H
              refine e_r2 (d := ?zd2) ?_ ?_
              rotate_left
              · simp only [EVT, resR, single, evLoad, cut, TIS, CS, Nat.reduceAdd, Nat.reduceEqDiff, ↓reduceIte, reduceCtorEq, Nat.reduceLT, Nat.reduceLeDiff, Nat.reduceSub, Nat.reduceBEq, zc2]
                (repeat' apply And.intro) <;> first | rfl | assumption | omega | (simp; done)
              exact (.int' rfl)
            · have H := cond_f zc2 H
              refine a_skip ?_
              refine bA_n ?_
              refine sA_n ?_
              refine a_reg _ rfl (s := ?zs7) ?_ ?_
              rotate_left
              · simp (maxSteps := 2000000) only [EVT, stepR, evOp, St.ev, St.app, St.put, wrs, datOf, datOf1, evBin, binInt, TIS, CS, Nat.reduceAdd, Nat.reduceMul, Nat.reduceEqDiff, ↓reduceIte, reduceCtorEq, Nat.reduceLT, Nat.reduceLeDiff, ↓zc2]
                (repeat' apply And.intro) <;> first | rfl | assumption | omega | (simp; done) | (simp; omega) | (simp_all; done)
              refine lA_n ?_
              refine wk_l [(some 0, ⟨23, 1, false, [[.list 1 (match1.map (ci .i64))]]⟩)] [] [(0, .list 2 (l1.map Entry.c)), (1, .int .i64 term1), (3, .int .i64 was1), (6, .ptr 0 0 0 1), (9, .fn (.func 29) [] [.ptr 0 0 0 1]), (10, .int .i64 (IntKind.wrap .i64 (p1 - 1)))] (by show ([0, 1, 3, 6, 9, 10] : List Nat).Nodup; decide) (by show ([0] : List Nat).Nodup; decide) ?_ ?_ (fun t0 => ⟨_, Nat.lt_succ_self _, (IntKind.wrap .i64 (p1 - 1)), t0, H, rfl⟩)
              · exact (allB_some (by rfl) rfl (.cons (.cons (.lst _ _ _ (ci_pu .i64) rfl) .nil) .nil) trivial)
              · (simp only [AllT, tl_cons, tl_nil, upd_apply, List.getD_cons_zero, List.getD_cons_succ, Nat.reduceEqDiff, ↓reduceIte, and_true]); exact ⟨(.lst _ _ _ Entry.pu rfl), (.int' rfl), (.int' rfl), (.ptr _ _ _ _ _ rfl), (.fn' .nil (.cons (.ptr _ _ _ _ _ rfl) .nil)), (.int' rfl)⟩
        · have H := cond_f zc1 H
          refine a_exit ?_
          refine sA_e ?_
          refine lA_e ?_
          refine bA_hit ?_
          refine cA_n ?_
          refine wk_l [] [] [(3, .int .i64 was1)] (by show ([3] : List Nat).Nodup; decide) (by show ([] : List Nat).Nodup; decide) ?_ ?_ (fun t0 => ⟨t0, H, rfl⟩)
          · exact trivial
          · (simp only [AllT, tl_cons, tl_nil, upd_apply, List.getD_cons_zero, List.getD_cons_succ, Nat.reduceEqDiff, ↓reduceIte, and_true]); exact (.int' rfl)
  · rintro s ⟨t0, H, rfl⟩
    unfold log_Commit_J1 at H
    refine a_seq ?_
    refine a_reg _ rfl (s := ?zs3) ?_ ?_
    rotate_left
    · simp (maxSteps := 2000000) only [EVT, stepR, evOp, St.ev, St.app, St.put, wrs, TIS, CS, Nat.reduceAdd, Nat.reduceMul, Nat.reduceEqDiff, ↓reduceIte, reduceCtorEq, Nat.reduceLT, Nat.reduceLeDiff]
      (repeat' apply And.intro) <;> first | rfl | assumption | omega | (simp; done) | (simp; omega) | (simp_all; done)
    refine sA_n ?_
    refine a_ret ?_
    obtain rfl := Option.some.inj H
    refine e_r2 (d := ?zd1) ?_ ?_
    rotate_left
    · simp only [EVT, resR, single, evLoad, cut, TIS, CS, Nat.reduceAdd, Nat.reduceEqDiff, ↓reduceIte, reduceCtorEq, Nat.reduceLT, Nat.reduceLeDiff, Nat.reduceSub, Nat.reduceBEq]
      (repeat' apply And.intro) <;> first | rfl | assumption | omega | (simp; done)
    exact (.int' rfl)
def ref13_Commit_J1 (out1 : Int) : Option Int :=
  some (out1)
def ref13_Commit_J2 (k_ref13_Commit_L1 : Int → Int → Option Int) (p1 : Int) (out3 : Int) : Option Int :=
  k_ref13_Commit_L1 out3 (IntKind.wrap .i64 (p1 + 1))
def ref13_Commit_J3 (k_ref13_Commit_L1 : Int → Int → Option Int) (p1 : Int) (out2 : Int) (v1 : Bool) : Option Int :=
  cond v1 (ref13_Commit_J2 k_ref13_Commit_L1 p1 p1) (ref13_Commit_J2 k_ref13_Commit_L1 p1 out2)
def ref13_Commit_L1 (l1 : List Entry) (was1 : Int) (term1 : Int) (match1 : List Int) : Nat → Int → Int → Option Int
  | 0, _, _ => none
  | m_ + 1, out2, p1 => cond (decide (p1 ≤ (l1.length : Int))) (cond (decide (was1 < p1)) ((idx l1 (IntKind.wrap .i64 (p1 - 1))).bind fun x1 => cond (x1.term == term1) ((ref13_Reach_f match1 p1).bind fun r1 => ref13_Commit_J3 (ref13_Commit_L1 l1 was1 term1 match1 m_) p1 out2 (decide ((match1.length : Int) < (IntKind.wrap .i64 (2 * r1))))) (ref13_Commit_J3 (ref13_Commit_L1 l1 was1 term1 match1 m_) p1 out2 false)) (ref13_Commit_J3 (ref13_Commit_L1 l1 was1 term1 match1 m_) p1 out2 false)) (ref13_Commit_J1 out2)
def ref13_Commit_f (l1 : List Entry) (term1 : Int) (match1 : List Int) (was1 : Int) : Option Int :=
  ref13_Commit_L1 l1 was1 term1 match1 BIG was1 1
set_option maxHeartbeats 4000000 in
set_option maxRecDepth 20000 in
theorem ref13_Commit_pc {l1 : List Entry} {term1 : Int} {match1 : List Int} {was1 : Int} {r : Int} (H : ref13_Commit_f l1 term1 match1 was1 = some r) : PC Try.prog 20 [.list 2 (l1.map Entry.c), .int .i64 term1, .list 1 (match1.map (ci .i64)), .int .i64 was1] (.int .i64 r) := by
  refine pcA_of Try.func20 (by rfl) (by decide) 42 (by rfl) [.tmp 8] (by rfl) ?_
  unfold ref13_Commit_f at H
  simp only [ent]
  refine a_seq ?_
  refine a_reg _ rfl (s := ?zs1) ?_ ?_
  rotate_left
  · simp (maxSteps := 2000000) only [EVT, stepR, evOp, St.ev, St.app, St.put, wrs, datOf, datOf1, TIS, CS, Nat.reduceAdd, Nat.reduceMul, Nat.reduceEqDiff, ↓reduceIte, reduceCtorEq, Nat.reduceLT, Nat.reduceLeDiff]
    (repeat' apply And.intro) <;> first | rfl | assumption | omega | (simp; done) | (simp; omega) | (simp_all; done)
  refine sA_n ?_
  refine a_seq ?_
  refine a_reg _ rfl (s := ?zs2) ?_ ?_
  rotate_left
  · simp (maxSteps := 2000000) only [EVT, stepR, evOp, St.ev, St.app, St.put, wrs, TIS, CS, Nat.reduceAdd, Nat.reduceMul, Nat.reduceEqDiff, ↓reduceIte, reduceCtorEq, Nat.reduceLT, Nat.reduceLeDiff]
    (repeat' apply And.intro) <;> first | rfl | assumption | omega | (simp; done) | (simp; omega) | (simp_all; done)
  refine sA_n ?_
  refine a_cut (fun s => ∃ (out1 : Int) (t0 : Nat → Dat), ref13_Commit_J1 out1 = some r ∧ s = ⟨tl t0 [(9, .int .i64 out1)], hl [], 0, 42⟩) ?_ ?_
  · refine a_seq ?_
    refine a_reg _ rfl (s := ?zs4) ?_ ?_
    rotate_left
    · simp (maxSteps := 2000000) only [EVT, stepR, evOp, St.ev, St.app, St.put, wrs, datOf, datOf1, TIS, CS, Nat.reduceAdd, Nat.reduceMul, Nat.reduceEqDiff, ↓reduceIte, reduceCtorEq, Nat.reduceLT, Nat.reduceLeDiff]
      (repeat' apply And.intro) <;> first | rfl | assumption | omega | (simp; done) | (simp; omega) | (simp_all; done)
    refine sA_n ?_
    refine a_blk ?_
    refine a_loop (fun m s => ∃ (out2 : Int) (p1 : Int) (t0 : Nat → Dat), ref13_Commit_L1 l1 was1 term1 match1 m out2 p1 = some r ∧ s = ⟨tl t0 [(0, .list 2 (l1.map Entry.c)), (1, .int .i64 term1), (2, .list 1 (match1.map (ci .i64))), (3, .int .i64 was1), (9, .int .i64 out2), (10, .int .i64 p1)], hl [], 0, 42⟩) BIG ?_ ?_
    · refine wk_l [] [] [(0, .list 2 (l1.map Entry.c)), (1, .int .i64 term1), (2, .list 1 (match1.map (ci .i64))), (3, .int .i64 was1), (9, .int .i64 was1), (10, .int .i64 1)] (by show ([0, 1, 2, 3, 9, 10] : List Nat).Nodup; decide) (by show ([] : List Nat).Nodup; decide) ?_ ?_ (fun t0 => ⟨was1, 1, t0, H, rfl⟩)
      · exact trivial
      · (simp only [AllT, tl_cons, tl_nil, upd_apply, List.getD_cons_zero, List.getD_cons_succ, Nat.reduceEqDiff, ↓reduceIte, and_true]); exact ⟨(.lst _ _ _ Entry.pu rfl), (.int' rfl), (.lst _ _ _ (ci_pu .i64) rfl), (.int' rfl), (.int' rfl), (.int' rfl)⟩
    · rintro m_ref13_Commit_L1 s ⟨out2, p1, t0, H, rfl⟩
      obtain _ | m_ref13_Commit_L1 := m_ref13_Commit_L1
      · cases (show (none : Option _) = some _ from H)
      · rw [ref13_Commit_L1] at H
        refine a_seq ?_
        refine a_seq ?_
        refine a_reg _ rfl (s := ?zs5) ?_ ?_
        rotate_left
        · simp (maxSteps := 2000000) only [EVT, stepR, evOp, St.ev, St.app, St.put, wrs, evBuiltin, evBin, binInt, TIS, CS, Nat.reduceAdd, Nat.reduceMul, Nat.reduceEqDiff, ↓reduceIte, reduceCtorEq, Nat.reduceLT, Nat.reduceLeDiff, Nat.reduceSub, Nat.reduceBEq]
          (repeat' apply And.intro) <;> first | rfl | assumption | omega | (simp; done) | (simp; omega) | (simp_all; done)
        refine sA_n ?_
        refine a_condb ((decide (p1 ≤ (l1.length : Int)))) (by rfl) (fun zc1 => ?_) (fun zc1 => ?_)
        · have H := cond_t zc1 H
          refine a_skip ?_
          refine sA_n ?_
          refine a_cut (fun s => ∃ (out3 : Int) (t0 : Nat → Dat), ref13_Commit_J2 (ref13_Commit_L1 l1 was1 term1 match1 m_ref13_Commit_L1) p1 out3 = some r ∧ s = ⟨tl t0 [(0, .list 2 (l1.map Entry.c)), (1, .int .i64 term1), (2, .list 1 (match1.map (ci .i64))), (3, .int .i64 was1), (9, .int .i64 out3), (10, .int .i64 p1)], hl [], 0, 42⟩) ?_ ?_
          · refine a_blk ?_
            refine a_cut (fun s => ∃ (v1 : Bool) (t0 : Nat → Dat), ref13_Commit_J3 (ref13_Commit_L1 l1 was1 term1 match1 m_ref13_Commit_L1) p1 out2 v1 = some r ∧ s = ⟨tl t0 [(0, .list 2 (l1.map Entry.c)), (1, .int .i64 term1), (2, .list 1 (match1.map (ci .i64))), (3, .int .i64 was1), (9, .int .i64 out2), (10, .int .i64 p1), (39, .bool v1)], hl [], 0, 42⟩) ?_ ?_
            · refine bool_split (b := (decide (was1 < p1))) (fun zc3 => ?_) (fun zc3 => ?_)
              · have H := cond_t zc3 H
                obtain ⟨x1, zh1, H⟩ := bind_some H
                have zg1 := idx_map zh1 Entry.c
                try simp only [Int.reduceToNat] at zg1
                obtain ⟨zh1a, zh1b, _⟩ := idx_some zh1
                refine bool_split (b := (x1.term == term1)) (fun zc4 => ?_) (fun zc4 => ?_)
                · have H := cond_t zc4 H
                  obtain ⟨r1, zh2, H⟩ := bind_some H
                  have zk1 := ref13_Reach_pc zh2
                  refine a_reg _ rfl (s := ?zs8) ?_ ?_
                  rotate_left
                  · try simp (maxSteps := 2000000) only [EVT, stepR, evOp, St.ev, St.app, St.put, wrs, evBin, binInt, datOf, datOf1, evIndexAddr, evFieldAddr, evLoad, cut, frz, evBuiltin, TIS, CS, Nat.reduceAdd, Nat.reduceMul, Nat.reduceEqDiff, ↓reduceIte, reduceCtorEq, Nat.reduceLT, Nat.reduceLeDiff, Array.reduceGetElem?, Int.reduceToNat, Nat.reduceSub, Nat.reduceBEq, ↓zc1, ↓zc3, zg1, ↓zc4]
                    repeat' with_reducible apply And.intro
                    all_goals try ((with_reducible show CallR _ _ _ _ _ _ _); refine cR_s zk1 (.cons (.lst _ _ _ (ci_pu .i64) rfl) (.cons (.int' rfl) .nil)) (.int _ _) ?_; simp (maxSteps := 2000000) only [EVT, stepR, evOp, St.ev, St.app, St.put, wrs, evBin, binInt, datOf, datOf1, evIndexAddr, evFieldAddr, evLoad, cut, frz, evBuiltin, TIS, CS, Nat.reduceAdd, Nat.reduceMul, Nat.reduceEqDiff, ↓reduceIte, reduceCtorEq, Nat.reduceLT, Nat.reduceLeDiff, Array.reduceGetElem?, Int.reduceToNat, Nat.reduceSub, Nat.reduceBEq, ↓zc1, ↓zc3, zg1, ↓zc4])
                    all_goals ((repeat' apply And.intro) <;> first | rfl | assumption | omega | (simp; done) | (simp; omega) | (simp_all; done))
                  refine cA_n ?_
                  refine wk_l [] [] [(0, .list 2 (l1.map Entry.c)), (1, .int .i64 term1), (2, .list 1 (match1.map (ci .i64))), (3, .int .i64 was1), (9, .int .i64 out2), (10, .int .i64 p1), (39, .bool (decide ((match1.length : Int) < (IntKind.wrap .i64 (2 * r1)))))] (by show ([0, 1, 2, 3, 9, 10, 39] : List Nat).Nodup; decide) (by show ([] : List Nat).Nodup; decide) ?_ ?_ (fun t0 => ⟨(decide ((match1.length : Int) < (IntKind.wrap .i64 (2 * r1)))), t0, H, rfl⟩)
                  · exact trivial
                  · (simp only [AllT, tl_cons, tl_nil, upd_apply, List.getD_cons_zero, List.getD_cons_succ, Nat.reduceEqDiff, ↓reduceIte, and_true]); exact ⟨(.lst _ _ _ Entry.pu rfl), (.int' rfl), (.lst _ _ _ (ci_pu .i64) rfl), (.int' rfl), (.int' rfl), (.int' rfl), (.bool' rfl)⟩
                · have H := cond_f zc4 H
                  refine a_reg _ rfl (s := ?zs9) ?_ ?_
                  rotate_left
                  · simp (maxSteps := 2000000) only [EVT, stepR, evOp, St.ev, St.app, St.put, wrs, evBin, binInt, datOf, datOf1, evIndexAddr, evFieldAddr, evLoad, cut, frz, evBuiltin, TIS, CS, Nat.reduceAdd, Nat.reduceMul, Nat.reduceEqDiff, ↓reduceIte, reduceCtorEq, Nat.reduceLT, Nat.reduceLeDiff, Array.reduceGetElem?, Int.reduceToNat, Nat.reduceSub, Nat.reduceBEq, ↓zc1, ↓zc3, zg1, ↓zc4]
                    try simp (maxSteps := 2000000) only [EVT, stepR, evOp, St.ev, St.app, St.put, wrs, evBin, binInt, datOf, datOf1, evIndexAddr, evFieldAddr, evLoad, cut, frz, evBuiltin, TIS, CS, Nat.reduceAdd, Nat.reduceMul, Nat.reduceEqDiff, ↓reduceIte, reduceCtorEq, Nat.reduceLT, Nat.reduceLeDiff, Array.reduceGetElem?, Int.reduceToNat, Nat.reduceSub, Nat.reduceBEq, ↓zc1, ↓zc3, zg1, ↓zc4]
                    (repeat' apply And.intro) <;> first | rfl | assumption | omega | (simp; done) | (simp; omega) | (simp_all; done)
                  refine cA_n ?_
                  refine wk_l [] [] [(0, .list 2 (l1.map Entry.c)), (1, .int .i64 term1), (2, .list 1 (match1.map (ci .i64))), (3, .int .i64 was1), (9, .int .i64 out2), (10, .int .i64 p1), (39, .bool false)] (by show ([0, 1, 2, 3, 9, 10, 39] : List Nat).Nodup; decide) (by show ([] : List Nat).Nodup; decide) ?_ ?_ (fun t0 => ⟨false, t0, H, rfl⟩)
                  · exact trivial
                  · (simp only [AllT, tl_cons, tl_nil, upd_apply, List.getD_cons_zero, List.getD_cons_succ, Nat.reduceEqDiff, ↓reduceIte, and_true]); exact ⟨(.lst _ _ _ Entry.pu rfl), (.int' rfl), (.lst _ _ _ (ci_pu .i64) rfl), (.int' rfl), (.int' rfl), (.int' rfl), (.bool' (by first | rfl | assumption | (simp_all; done)))⟩
              · have H := cond_f zc3 H
                refine a_reg _ rfl (s := ?zs10) ?_ ?_
                rotate_left
                · simp (maxSteps := 2000000) only [EVT, stepR, evOp, St.ev, St.app, St.put, wrs, evBin, binInt, datOf, datOf1, evIndexAddr, evFieldAddr, evLoad, cut, frz, evBuiltin, TIS, CS, Nat.reduceAdd, Nat.reduceMul, Nat.reduceEqDiff, ↓reduceIte, reduceCtorEq, Nat.reduceLT, Nat.reduceLeDiff, Array.reduceGetElem?, Int.reduceToNat, Nat.reduceSub, Nat.reduceBEq, ↓zc1, ↓zc3]
                  try simp (maxSteps := 2000000) only [EVT, stepR, evOp, St.ev, St.app, St.put, wrs, evBin, binInt, datOf, datOf1, evIndexAddr, evFieldAddr, evLoad, cut, frz, evBuiltin, TIS, CS, Nat.reduceAdd, Nat.reduceMul, Nat.reduceEqDiff, ↓reduceIte, reduceCtorEq, Nat.reduceLT, Nat.reduceLeDiff, Array.reduceGetElem?, Int.reduceToNat, Nat.reduceSub, Nat.reduceBEq, ↓zc1, ↓zc3]
                  (repeat' apply And.intro) <;> first | rfl | assumption | omega | (simp; done) | (simp; omega) | (simp_all; done)
                refine cA_n ?_
                refine wk_l [] [] [(0, .list 2 (l1.map Entry.c)), (1, .int .i64 term1), (2, .list 1 (match1.map (ci .i64))), (3, .int .i64 was1), (9, .int .i64 out2), (10, .int .i64 p1), (39, .bool false)] (by show ([0, 1, 2, 3, 9, 10, 39] : List Nat).Nodup; decide) (by show ([] : List Nat).Nodup; decide) ?_ ?_ (fun t0 => ⟨false, t0, H, rfl⟩)
                · exact trivial
                · (simp only [AllT, tl_cons, tl_nil, upd_apply, List.getD_cons_zero, List.getD_cons_succ, Nat.reduceEqDiff, ↓reduceIte, and_true]); exact ⟨(.lst _ _ _ Entry.pu rfl), (.int' rfl), (.lst _ _ _ (ci_pu .i64) rfl), (.int' rfl), (.int' rfl), (.int' rfl), (.bool' (by first | rfl | assumption | (simp_all; done)))⟩
            · rintro s ⟨v1, t0, H, rfl⟩
              unfold ref13_Commit_J3 at H
              refine a_condb (v1) (by rfl) (fun zc2 => ?_) (fun zc2 => ?_)
              · have H := cond_t zc2 H
                refine a_reg _ rfl (s := ?zs7) ?_ ?_
                rotate_left
                · simp (maxSteps := 2000000) only [EVT, stepR, evOp, St.ev, St.app, St.put, wrs, TIS, CS, Nat.reduceAdd, Nat.reduceMul, Nat.reduceEqDiff, ↓reduceIte, reduceCtorEq, Nat.reduceLT, Nat.reduceLeDiff, ↓zc2]
                  (repeat' apply And.intro) <;> first | rfl | assumption | omega | (simp; done) | (simp; omega) | (simp_all; done)
                refine bA_n ?_
                refine cA_n ?_
                refine wk_l [] [] [(0, .list 2 (l1.map Entry.c)), (1, .int .i64 term1), (2, .list 1 (match1.map (ci .i64))), (3, .int .i64 was1), (9, .int .i64 p1), (10, .int .i64 p1)] (by show ([0, 1, 2, 3, 9, 10] : List Nat).Nodup; decide) (by show ([] : List Nat).Nodup; decide) ?_ ?_ (fun t0 => ⟨p1, t0, H, rfl⟩)
                · exact trivial
                · (simp only [AllT, tl_cons, tl_nil, upd_apply, List.getD_cons_zero, List.getD_cons_succ, Nat.reduceEqDiff, ↓reduceIte, and_true]); exact ⟨(.lst _ _ _ Entry.pu rfl), (.int' rfl), (.lst _ _ _ (ci_pu .i64) rfl), (.int' rfl), (.int' rfl), (.int' rfl)⟩
              · have H := cond_f zc2 H
                refine a_skip ?_
                refine bA_n ?_
                refine cA_n ?_
                refine wk_l [] [] [(0, .list 2 (l1.map Entry.c)), (1, .int .i64 term1), (2, .list 1 (match1.map (ci .i64))), (3, .int .i64 was1), (9, .int .i64 out2), (10, .int .i64 p1)] (by show ([0, 1, 2, 3, 9, 10] : List Nat).Nodup; decide) (by show ([] : List Nat).Nodup; decide) ?_ ?_ (fun t0 => ⟨out2, t0, H, rfl⟩)
                · exact trivial
                · (simp only [AllT, tl_cons, tl_nil, upd_apply, List.getD_cons_zero, List.getD_cons_succ, Nat.reduceEqDiff, ↓reduceIte, and_true]); exact ⟨(.lst _ _ _ Entry.pu rfl), (.int' rfl), (.lst _ _ _ (ci_pu .i64) rfl), (.int' rfl), (.int' rfl), (.int' rfl)⟩
          · rintro s ⟨out3, t0, H, rfl⟩
            unfold ref13_Commit_J2 at H
            refine a_reg _ rfl (s := ?zs6) ?_ ?_
            rotate_left
            · simp (maxSteps := 2000000) only [EVT, stepR, evOp, St.ev, St.app, St.put, wrs, datOf, datOf1, evBin, binInt, TIS, CS, Nat.reduceAdd, Nat.reduceMul, Nat.reduceEqDiff, ↓reduceIte, reduceCtorEq, Nat.reduceLT, Nat.reduceLeDiff]
              (repeat' apply And.intro) <;> first | rfl | assumption | omega | (simp; done) | (simp; omega) | (simp_all; done)
            refine lA_n ?_
            refine wk_l [] [] [(0, .list 2 (l1.map Entry.c)), (1, .int .i64 term1), (2, .list 1 (match1.map (ci .i64))), (3, .int .i64 was1), (9, .int .i64 out3), (10, .int .i64 (IntKind.wrap .i64 (p1 + 1)))] (by show ([0, 1, 2, 3, 9, 10] : List Nat).Nodup; decide) (by show ([] : List Nat).Nodup; decide) ?_ ?_ (fun t0 => ⟨_, Nat.lt_succ_self _, out3, (IntKind.wrap .i64 (p1 + 1)), t0, H, rfl⟩)
            · exact trivial
            · (simp only [AllT, tl_cons, tl_nil, upd_apply, List.getD_cons_zero, List.getD_cons_succ, Nat.reduceEqDiff, ↓reduceIte, and_true]); exact ⟨(.lst _ _ _ Entry.pu rfl), (.int' rfl), (.lst _ _ _ (ci_pu .i64) rfl), (.int' rfl), (.int' rfl), (.int' rfl)⟩
        · have H := cond_f zc1 H
          refine a_exit ?_
          refine sA_e ?_
          refine lA_e ?_
          refine bA_hit ?_
          refine cA_n ?_
          refine wk_l [] [] [(9, .int .i64 out2)] (by show ([9] : List Nat).Nodup; decide) (by show ([] : List Nat).Nodup; decide) ?_ ?_ (fun t0 => ⟨out2, t0, H, rfl⟩)
          · exact trivial
          · (simp only [AllT, tl_cons, tl_nil, upd_apply, List.getD_cons_zero, List.getD_cons_succ, Nat.reduceEqDiff, ↓reduceIte, and_true]); exact (.int' rfl)
  · rintro s ⟨out1, t0, H, rfl⟩
    unfold ref13_Commit_J1 at H
    refine a_seq ?_
    refine a_reg _ rfl (s := ?zs3) ?_ ?_
    rotate_left
    · simp (maxSteps := 2000000) only [EVT, stepR, evOp, St.ev, St.app, St.put, wrs, TIS, CS, Nat.reduceAdd, Nat.reduceMul, Nat.reduceEqDiff, ↓reduceIte, reduceCtorEq, Nat.reduceLT, Nat.reduceLeDiff]
      (repeat' apply And.intro) <;> first | rfl | assumption | omega | (simp; done) | (simp; omega) | (simp_all; done)
    refine sA_n ?_
    refine a_ret ?_
    obtain rfl := Option.some.inj H
    refine e_r2 (d := ?zd1) ?_ ?_
    rotate_left
    · simp only [EVT, resR, single, evLoad, cut, TIS, CS, Nat.reduceAdd, Nat.reduceEqDiff, ↓reduceIte, reduceCtorEq, Nat.reduceLT, Nat.reduceLeDiff, Nat.reduceSub, Nat.reduceBEq]
      (repeat' apply And.intro) <;> first | rfl | assumption | omega | (simp; done)
    exact (.int' rfl)
end
end Go.Proofs.Ytiomajfdphmgaaa
