/- Functions of the program as Lean functions, and that they are so; printed by a program of mine. -/
import Derived.Test.YteebeajhoemdpaaH
set_option linter.unusedSimpArgs false
set_option linter.unusedVariables false
namespace Go.Proofs.Yteebeajhoemdpaa
open Go.Ab
noncomputable section

def law05_WireCounts_J2 (r1 : Bool) (m1 : Msg) (w1 : List Msg) (put1 : Int) (took1 : Int) : Option Bool :=
  cond r1 ((ref05_Many_f w1 m1).bind fun r2 => some (((IntKind.wrap .i64 (took1 + r2)) == put1))) (some (false))
def law05_WireCounts_J3 (k_law05_WireCounts_L1 : (List Msg) → Int → Int → Int → Option Bool) (i1 : Int) (w3 : List Msg) (put3 : Int) (took3 : Int) : Option Bool :=
  k_law05_WireCounts_L1 w3 put3 took3 (IntKind.wrap .i64 (i1 + 1))
def law05_WireCounts_J4 (k_law05_WireCounts_L1 : (List Msg) → Int → Int → Int → Option Bool) (r4 : (List Msg) × Msg × Bool) (m1 : Msg) (i1 : Int) (put2 : Int) (took2 : Int) (v2 : Bool) : Option Bool :=
  cond v2 (some (false)) ((ref05_Same_f r4.2.1 m1).bind fun r5 => cond r5 (law05_WireCounts_J3 k_law05_WireCounts_L1 i1 r4.1 put2 (IntKind.wrap .i64 (took2 + 1))) (law05_WireCounts_J3 k_law05_WireCounts_L1 i1 r4.1 put2 took2))
def law05_WireCounts_J6 (k_law05_WireCounts_L1 : (List Msg) → Int → Int → Int → Option Bool) (l1 : List Act) (i1 : Int) (w2 : List Msg) (fate1 : Int) (m1 : Msg) (put2 : Int) (took2 : Int) (many2 : Int) : Option Bool :=
  (idx l1 i1).bind fun x2 => (wire_Send_f w2 x2.m fate1).bind fun r6 => cond ((r6.length : Int) != (IntKind.wrap .i64 ((w2.length : Int) + many2))) (some (false)) ((ref05_Same_f x2.m m1).bind fun r7 => cond r7 (law05_WireCounts_J3 k_law05_WireCounts_L1 i1 r6 (IntKind.wrap .i64 (put2 + many2)) took2) (law05_WireCounts_J3 k_law05_WireCounts_L1 i1 r6 put2 took2))
def law05_WireCounts_J7 (k_law05_WireCounts_L1 : (List Msg) → Int → Int → Int → Option Bool) (l1 : List Act) (i1 : Int) (w2 : List Msg) (fate1 : Int) (m1 : Msg) (put2 : Int) (took2 : Int) (many1 : Int) (v3 : Bool) : Option Bool :=
  cond v3 (law05_WireCounts_J6 k_law05_WireCounts_L1 l1 i1 w2 fate1 m1 put2 took2 0) (law05_WireCounts_J6 k_law05_WireCounts_L1 l1 i1 w2 fate1 m1 put2 took2 many1)
def law05_WireCounts_J5 (k_law05_WireCounts_L1 : (List Msg) → Int → Int → Int → Option Bool) (l1 : List Act) (i1 : Int) (w2 : List Msg) (m1 : Msg) (put2 : Int) (took2 : Int) (fate1 : Int) (many1 : Int) : Option Bool :=
  law05_WireCounts_J7 k_law05_WireCounts_L1 l1 i1 w2 fate1 m1 put2 took2 many1 ((fate1 == 2) || (fate1 == 5))
def law05_WireCounts_L1 (l1 : List Act) (r1 : Bool) (m1 : Msg) : Nat → (List Msg) → Int → Int → Int → Option Bool
  | 0, _, _, _, _ => none
  | m_ + 1, w2, put2, took2, i1 => cond (decide (i1 < (l1.length : Int))) ((idx l1 i1).bind fun x1 => (law05_Great_f [x1.m]).bind fun r3 => cond r3 (some (r1)) (cond ((Int.tmod (IntKind.wrap .i64 x1.fate) 6) == 0) (cond ((w2.length : Int) == 0) (law05_WireCounts_J3 (law05_WireCounts_L1 l1 r1 m1 m_) i1 w2 put2 took2) (chk ((w2.length : Int) ≠ 0) ((wire_Take_f w2 (Int.tmod (IntKind.wrap .i64 x1.at_) (w2.length : Int))).bind fun r4 => law05_WireCounts_J4 (law05_WireCounts_L1 l1 r1 m1 m_) r4 m1 i1 put2 took2 ((!r4.2.2) || ((r4.1.length : Int) != (IntKind.wrap .i64 ((w2.length : Int) - 1))))))) (cond ((Int.tmod (IntKind.wrap .i64 x1.fate) 6) == 3) (law05_WireCounts_J5 (law05_WireCounts_L1 l1 r1 m1 m_) l1 i1 w2 m1 put2 took2 (Int.tmod (IntKind.wrap .i64 x1.fate) 6) 2) (law05_WireCounts_J5 (law05_WireCounts_L1 l1 r1 m1 m_) l1 i1 w2 m1 put2 took2 (Int.tmod (IntKind.wrap .i64 x1.fate) 6) 1)))) (law05_WireCounts_J2 r1 m1 w2 put2 took2)
def law05_WireCounts_J1 (r1 : Bool) (l1 : List Act) (m1 : Msg) (v1 : Bool) : Option Bool :=
  cond v1 (some (r1)) (law05_WireCounts_L1 l1 r1 m1 BIG [] 0 0 0)
def law05_WireCounts_f (l1 : List Act) (m1 : Msg) : Option Bool :=
  (law05_head_f).bind fun r1 => cond (decide (80 < (l1.length : Int))) (law05_WireCounts_J1 r1 l1 m1 true) ((law05_Great_f [m1]).bind fun r8 => law05_WireCounts_J1 r1 l1 m1 r8)
set_option maxHeartbeats 4000000 in
set_option maxRecDepth 20000 in
theorem law05_WireCounts_pc {l1 : List Act} {m1 : Msg} {r : Bool} (H : law05_WireCounts_f l1 m1 = some r) : PC Try.prog 4 [.list 7 (l1.map Act.c), .agg (Msg.c m1)] (.bool r) := by
  refine pcA_of Try.func4 (by rfl) (by decide) 127 (by rfl) [.tmp 4] (by rfl) ?_
  unfold law05_WireCounts_f at H
  simp only [ent]
  refine a_seq ?_
  refine a_reg _ rfl (s := ?zs1) ?_ ?_
  rotate_left
  · simp (maxSteps := 2000000) only [EVT, stepR, evOp, St.ev, St.app, St.put, wrs, allOne, datOf, datOf1, TIS, CS, Nat.reduceAdd, Nat.reduceMul, Nat.reduceEqDiff, ↓reduceIte, reduceCtorEq, Nat.reduceLT, Nat.reduceLeDiff]
    (repeat' apply And.intro) <;> first | rfl | assumption | omega | (left; omega) | (simp; done) | (simp; omega) | (right; exact ⟨_, rfl, rfl, rfl, by decide, by first | omega | (simp; omega)⟩) | (simp_all; done)
  refine sA_n ?_
  refine a_seq ?_
  obtain ⟨r1, zh1, H⟩ := bind_some H
  have zk1 := law05_head_pc zh1
  refine a_reg _ rfl (s := ?zs2) ?_ ?_
  rotate_left
  · try simp (maxSteps := 2000000) only [EVT, stepR, evOp, St.ev, St.app, St.put, wrs, frz, TIS, CS, Nat.reduceAdd, Nat.reduceMul, Nat.reduceEqDiff, ↓reduceIte, reduceCtorEq, Nat.reduceLT, Nat.reduceLeDiff, Nat.reduceSub, Nat.reduceBEq]
    repeat' with_reducible apply And.intro
    all_goals try ((with_reducible show CallR _ _ _ _ _ _ _); refine cR_s zk1 .nil (.bool _) ?_; simp (maxSteps := 2000000) only [EVT, stepR, evOp, St.ev, St.app, St.put, wrs, frz, TIS, CS, Nat.reduceAdd, Nat.reduceMul, Nat.reduceEqDiff, ↓reduceIte, reduceCtorEq, Nat.reduceLT, Nat.reduceLeDiff, Nat.reduceSub, Nat.reduceBEq])
    all_goals ((repeat' apply And.intro) <;> first | rfl | assumption | omega | (left; omega) | (simp; done) | (simp; omega) | (right; exact ⟨_, rfl, rfl, rfl, by decide, by first | omega | (simp; omega)⟩) | (simp_all; done))
  refine sA_n ?_
  refine a_seq ?_
  refine a_cut (fun s => ∃ (v1 : Bool) (t0 : Nat → Dat), law05_WireCounts_J1 r1 l1 m1 v1 = some r ∧ s = ⟨tl t0 [(0, .list 7 (l1.map Act.c)), (3, .ptr 0 0 0 5), (5, .bool r1), (24, .bool v1)], hl [⟨26, 5, false, [[.int .i64 m1.from_, .int .i64 m1.to_, .int .i64 m1.kind, .list 1 (m1.nums.map (ci .i64)), .list 1 (m1.data.map (ci .u8))]]⟩], 1, 127⟩) ?_ ?_
  · refine bool_split (b := (decide (80 < (l1.length : Int)))) (fun zc15 => ?_) (fun zc15 => ?_)
    · have H := cond_t zc15 H
      refine a_reg _ rfl (s := ?zs36) ?_ ?_
      rotate_left
      · simp (maxSteps := 2000000) only [EVT, stepR, evOp, St.ev, St.app, St.put, wrs, evBuiltin, datOf, datOf1, evBin, binInt, evLoad, cut, allOne, frz, TIS, CS, Nat.reduceAdd, Nat.reduceMul, Nat.reduceEqDiff, ↓reduceIte, reduceCtorEq, Nat.reduceLT, Nat.reduceLeDiff, Array.reduceGetElem?, Nat.reduceSub, Nat.reduceBEq, ↓zc15]
        try simp (maxSteps := 2000000) only [EVT, stepR, evOp, St.ev, St.app, St.put, wrs, evBuiltin, datOf, datOf1, evBin, binInt, evLoad, cut, allOne, frz, TIS, CS, Nat.reduceAdd, Nat.reduceMul, Nat.reduceEqDiff, ↓reduceIte, reduceCtorEq, Nat.reduceLT, Nat.reduceLeDiff, Array.reduceGetElem?, Nat.reduceSub, Nat.reduceBEq, ↓zc15]
        (repeat' apply And.intro) <;> first | rfl | assumption | omega | (left; omega) | (simp; done) | (simp; omega) | (right; exact ⟨_, rfl, rfl, rfl, by decide, by first | omega | (simp; omega)⟩) | (simp_all; done)
      refine cA_n ?_
      refine wk_l [(some 0, ⟨26, 5, false, [[.int .i64 m1.from_, .int .i64 m1.to_, .int .i64 m1.kind, .list 1 (m1.nums.map (ci .i64)), .list 1 (m1.data.map (ci .u8))]]⟩)] [] [(0, .list 7 (l1.map Act.c)), (3, .ptr 0 0 0 5), (5, .bool r1), (24, .bool true)] (by show ([0, 3, 5, 24] : List Nat).Nodup; decide) (by show ([0] : List Nat).Nodup; decide) ?_ ?_ (fun t0 => ⟨true, t0, H, rfl⟩)
      · exact (allB_some (by rfl) rfl (.cons (.cons (.int' rfl) (.cons (.int' rfl) (.cons (.int' rfl) (.cons (.lst _ _ _ (ci_pu .i64) rfl) (.cons (.lst _ _ _ (ci_pu .u8) rfl) .nil))))) .nil) trivial)
      · (simp only [AllT, tl_cons, tl_nil, upd_apply, List.getD_cons_zero, List.getD_cons_succ, Nat.reduceEqDiff, ↓reduceIte, and_true]); exact ⟨(.lst _ _ _ Act.pu rfl), (.ptr _ _ _ _ _ rfl), (.bool' rfl), (.bool' (by first | rfl | assumption | (simp_all; done)))⟩
    · have H := cond_f zc15 H
      obtain ⟨r8, zh11, H⟩ := bind_some H
      have zk8 := law05_Great_pc zh11
      refine a_reg _ rfl (s := ?zs37) ?_ ?_
      rotate_left
      · try simp (maxSteps := 2000000) only [EVT, stepR, evOp, St.ev, St.app, St.put, wrs, evBuiltin, datOf, datOf1, evBin, binInt, evLoad, cut, allOne, frz, TIS, CS, Nat.reduceAdd, Nat.reduceMul, Nat.reduceEqDiff, ↓reduceIte, reduceCtorEq, Nat.reduceLT, Nat.reduceLeDiff, Array.reduceGetElem?, Nat.reduceSub, Nat.reduceBEq, ↓zc15]
        repeat' with_reducible apply And.intro
        all_goals try ((with_reducible show CallR _ _ _ _ _ _ _); refine cR_s zk8 (.cons (.ownL (by rfl) (fun e => by cases e) rfl (by first | rfl | omega | (simp; done) | (simp [strBytes_len]; done) | (simp; omega) | (simp_all; done)) (.same _ _ Msg.pu (by first | rfl | (simp only [List.map_append, List.map_cons, List.map_nil, List.map_set, List.map_take, List.map_drop, List.map_replicate, List.append_assoc, List.nil_append, List.append_nil, ci_eq, cb_eq, cs_eq, cl_eq, CS,  List.nil_append]; done) | (simp [CS,  ci_eq, cb_eq, cs_eq, cl_eq]; done) | (simp [CS,  ci_eq, cb_eq, cs_eq, cl_eq]; intro hz; rw [List.take_of_length_le (by simp; omega)])))) .nil) (.bool _) ?_; simp (maxSteps := 2000000) only [EVT, stepR, evOp, St.ev, St.app, St.put, wrs, evBuiltin, datOf, datOf1, evBin, binInt, evLoad, cut, allOne, frz, TIS, CS, Nat.reduceAdd, Nat.reduceMul, Nat.reduceEqDiff, ↓reduceIte, reduceCtorEq, Nat.reduceLT, Nat.reduceLeDiff, Array.reduceGetElem?, Nat.reduceSub, Nat.reduceBEq, ↓zc15])
        all_goals ((repeat' apply And.intro) <;> first | rfl | assumption | omega | (left; omega) | (simp; done) | (simp; omega) | (right; exact ⟨_, rfl, rfl, rfl, by decide, by first | omega | (simp; omega)⟩) | (simp_all; done))
      refine cA_n ?_
      refine wk_l [(some 0, ⟨26, 5, false, [[.int .i64 m1.from_, .int .i64 m1.to_, .int .i64 m1.kind, .list 1 (m1.nums.map (ci .i64)), .list 1 (m1.data.map (ci .u8))]]⟩)] [] [(0, .list 7 (l1.map Act.c)), (3, .ptr 0 0 0 5), (5, .bool r1), (24, .bool r8)] (by show ([0, 3, 5, 24] : List Nat).Nodup; decide) (by show ([0] : List Nat).Nodup; decide) ?_ ?_ (fun t0 => ⟨r8, t0, H, rfl⟩)
      · exact (allB_some (by rfl) rfl (.cons (.cons (.int' rfl) (.cons (.int' rfl) (.cons (.int' rfl) (.cons (.lst _ _ _ (ci_pu .i64) rfl) (.cons (.lst _ _ _ (ci_pu .u8) rfl) .nil))))) .nil) trivial)
      · (simp only [AllT, tl_cons, tl_nil, upd_apply, List.getD_cons_zero, List.getD_cons_succ, Nat.reduceEqDiff, ↓reduceIte, and_true]); exact ⟨(.lst _ _ _ Act.pu rfl), (.ptr _ _ _ _ _ rfl), (.bool' rfl), (.bool' rfl)⟩
  · rintro s ⟨v1, t0, H, rfl⟩
    unfold law05_WireCounts_J1 at H
    refine a_condb (v1) (by rfl) (fun zc1 => ?_) (fun zc1 => ?_)
    · have H := cond_t zc1 H
      refine a_seq ?_
      refine a_reg _ rfl (s := ?zs3) ?_ ?_
      rotate_left
      · simp (maxSteps := 2000000) only [EVT, stepR, evOp, St.ev, St.app, St.put, wrs, TIS, CS, Nat.reduceAdd, Nat.reduceMul, Nat.reduceEqDiff, ↓reduceIte, reduceCtorEq, Nat.reduceLT, Nat.reduceLeDiff, ↓zc1]
        (repeat' apply And.intro) <;> first | rfl | assumption | omega | (left; omega) | (simp; done) | (simp; omega) | (right; exact ⟨_, rfl, rfl, rfl, by decide, by first | omega | (simp; omega)⟩) | (simp_all; done)
      refine sA_n ?_
      refine a_ret ?_
      refine sA_r ?_
      obtain rfl := Option.some.inj H
      refine e_r2 (d := ?zd1) ?_ ?_
      rotate_left
      · simp only [EVT, resR, single, evLoad, cut, TIS, CS, Nat.reduceAdd, Nat.reduceEqDiff, ↓reduceIte, reduceCtorEq, Nat.reduceLT, Nat.reduceLeDiff, Nat.reduceSub, Nat.reduceBEq, zc1]
        (repeat' apply And.intro) <;> first | rfl | assumption | omega | (simp; done)
      exact (.bool' rfl)
    · have H := cond_f zc1 H
      refine a_skip ?_
      refine sA_n ?_
      refine a_seq ?_
      refine a_reg _ rfl (s := ?zs4) ?_ ?_
      rotate_left
      · simp (maxSteps := 2000000) only [EVT, stepR, evOp, St.ev, St.app, St.put, wrs, datOf, datOf1, TIS, CS, Nat.reduceAdd, Nat.reduceMul, Nat.reduceEqDiff, ↓reduceIte, reduceCtorEq, Nat.reduceLT, Nat.reduceLeDiff, ↓zc1]
        (repeat' apply And.intro) <;> first | rfl | assumption | omega | (left; omega) | (simp; done) | (simp; omega) | (right; exact ⟨_, rfl, rfl, rfl, by decide, by first | omega | (simp; omega)⟩) | (simp_all; done)
      refine sA_n ?_
      refine a_seq ?_
      refine a_reg _ rfl (s := ?zs5) ?_ ?_
      rotate_left
      · simp (maxSteps := 2000000) only [EVT, stepR, evOp, St.ev, St.app, St.put, wrs, datOf, datOf1, TIS, CS, Nat.reduceAdd, Nat.reduceMul, Nat.reduceEqDiff, ↓reduceIte, reduceCtorEq, Nat.reduceLT, Nat.reduceLeDiff, ↓zc1]
        (repeat' apply And.intro) <;> first | rfl | assumption | omega | (left; omega) | (simp; done) | (simp; omega) | (right; exact ⟨_, rfl, rfl, rfl, by decide, by first | omega | (simp; omega)⟩) | (simp_all; done)
      refine sA_n ?_
      refine a_seq ?_
      refine a_reg _ rfl (s := ?zs6) ?_ ?_
      rotate_left
      · simp (maxSteps := 2000000) only [EVT, stepR, evOp, St.ev, St.app, St.put, wrs, datOf, datOf1, TIS, CS, Nat.reduceAdd, Nat.reduceMul, Nat.reduceEqDiff, ↓reduceIte, reduceCtorEq, Nat.reduceLT, Nat.reduceLeDiff, ↓zc1]
        (repeat' apply And.intro) <;> first | rfl | assumption | omega | (left; omega) | (simp; done) | (simp; omega) | (right; exact ⟨_, rfl, rfl, rfl, by decide, by first | omega | (simp; omega)⟩) | (simp_all; done)
      refine sA_n ?_
      refine a_cut (fun s => ∃ (w1 : List Msg) (put1 : Int) (took1 : Int) (t0 : Nat → Dat), law05_WireCounts_J2 r1 m1 w1 put1 took1 = some r ∧ s = ⟨tl t0 [(3, .ptr 0 0 0 5), (5, .bool r1), (6, .list 5 (w1.map Msg.c)), (7, .int .i64 put1), (8, .int .i64 took1)], hl [⟨26, 5, false, [[.int .i64 m1.from_, .int .i64 m1.to_, .int .i64 m1.kind, .list 1 (m1.nums.map (ci .i64)), .list 1 (m1.data.map (ci .u8))]]⟩], 1, 127⟩) ?_ ?_
      · refine a_seq ?_
        refine a_reg _ rfl (s := ?zs9) ?_ ?_
        rotate_left
        · simp (maxSteps := 2000000) only [EVT, stepR, evOp, St.ev, St.app, St.put, wrs, datOf, datOf1, TIS, CS, Nat.reduceAdd, Nat.reduceMul, Nat.reduceEqDiff, ↓reduceIte, reduceCtorEq, Nat.reduceLT, Nat.reduceLeDiff, ↓zc1]
          (repeat' apply And.intro) <;> first | rfl | assumption | omega | (left; omega) | (simp; done) | (simp; omega) | (right; exact ⟨_, rfl, rfl, rfl, by decide, by first | omega | (simp; omega)⟩) | (simp_all; done)
        refine sA_n ?_
        refine a_blk ?_
        refine a_loop (fun m s => ∃ (w2 : List Msg) (put2 : Int) (took2 : Int) (i1 : Int) (t0 : Nat → Dat), law05_WireCounts_L1 l1 r1 m1 m w2 put2 took2 i1 = some r ∧ s = ⟨tl t0 [(0, .list 7 (l1.map Act.c)), (3, .ptr 0 0 0 5), (5, .bool r1), (6, .list 5 (w2.map Msg.c)), (7, .int .i64 put2), (8, .int .i64 took2), (9, .int .i64 i1)], hl [⟨26, 5, false, [[.int .i64 m1.from_, .int .i64 m1.to_, .int .i64 m1.kind, .list 1 (m1.nums.map (ci .i64)), .list 1 (m1.data.map (ci .u8))]]⟩], 1, 127⟩) BIG ?_ ?_
        · refine wk_l [(some 0, ⟨26, 5, false, [[.int .i64 m1.from_, .int .i64 m1.to_, .int .i64 m1.kind, .list 1 (m1.nums.map (ci .i64)), .list 1 (m1.data.map (ci .u8))]]⟩)] [] [(0, .list 7 (l1.map Act.c)), (3, .ptr 0 0 0 5), (5, .bool r1), (6, .list 5 ([].map Msg.c)), (7, .int .i64 0), (8, .int .i64 0), (9, .int .i64 0)] (by show ([0, 3, 5, 6, 7, 8, 9] : List Nat).Nodup; decide) (by show ([0] : List Nat).Nodup; decide) ?_ ?_ (fun t0 => ⟨[], 0, 0, 0, t0, H, rfl⟩)
          · exact (allB_some (by rfl) rfl (.cons (.cons (.int' rfl) (.cons (.int' rfl) (.cons (.int' rfl) (.cons (.lst _ _ _ (ci_pu .i64) rfl) (.cons (.lst _ _ _ (ci_pu .u8) rfl) .nil))))) .nil) trivial)
          · (simp only [AllT, tl_cons, tl_nil, upd_apply, List.getD_cons_zero, List.getD_cons_succ, Nat.reduceEqDiff, ↓reduceIte, and_true]); exact ⟨(.lst _ _ _ Act.pu rfl), (.ptr _ _ _ _ _ rfl), (.bool' rfl), (.nil _), (.int' rfl), (.int' rfl), (.int' rfl)⟩
        · rintro m_law05_WireCounts_L1 s ⟨w2, put2, took2, i1, t0, H, rfl⟩
          obtain _ | m_law05_WireCounts_L1 := m_law05_WireCounts_L1
          · cases (show (none : Option _) = some _ from H)
          · rw [law05_WireCounts_L1] at H
            refine a_seq ?_
            refine a_seq ?_
            refine a_reg _ rfl (s := ?zs10) ?_ ?_
            rotate_left
            · simp (maxSteps := 2000000) only [EVT, stepR, evOp, St.ev, St.app, St.put, wrs, evBuiltin, evBin, binInt, TIS, CS, Nat.reduceAdd, Nat.reduceMul, Nat.reduceEqDiff, ↓reduceIte, reduceCtorEq, Nat.reduceLT, Nat.reduceLeDiff, Nat.reduceSub, Nat.reduceBEq]
              (repeat' apply And.intro) <;> first | rfl | assumption | omega | (left; omega) | (simp; done) | (simp; omega) | (right; exact ⟨_, rfl, rfl, rfl, by decide, by first | omega | (simp; omega)⟩) | (simp_all; done)
            refine sA_n ?_
            refine a_condb ((decide (i1 < (l1.length : Int)))) (by rfl) (fun zc3 => ?_) (fun zc3 => ?_)
            · have H := cond_t zc3 H
              refine a_skip ?_
              refine sA_n ?_
              refine a_cut (fun s => ∃ (w3 : List Msg) (put3 : Int) (took3 : Int) (t0 : Nat → Dat), law05_WireCounts_J3 (law05_WireCounts_L1 l1 r1 m1 m_law05_WireCounts_L1) i1 w3 put3 took3 = some r ∧ s = ⟨tl t0 [(0, .list 7 (l1.map Act.c)), (3, .ptr 0 0 0 5), (5, .bool r1), (6, .list 5 (w3.map Msg.c)), (7, .int .i64 put3), (8, .int .i64 took3), (9, .int .i64 i1)], hl [⟨26, 5, false, [[.int .i64 m1.from_, .int .i64 m1.to_, .int .i64 m1.kind, .list 1 (m1.nums.map (ci .i64)), .list 1 (m1.data.map (ci .u8))]]⟩], 1, 127⟩) ?_ ?_
              · refine a_blk ?_
                refine a_seq ?_
                refine a_seq ?_
                obtain ⟨x1, zh3, H⟩ := bind_some H
                have zg1 := idx_map zh3 Act.c
                try simp only [Int.reduceToNat] at zg1
                obtain ⟨zh3a, zh3b, _⟩ := idx_some zh3
                obtain ⟨r3, zh4, H⟩ := bind_some H
                have zk3 := law05_Great_pc zh4
                refine a_reg _ rfl (s := ?zs12) ?_ ?_
                rotate_left
                · try simp (maxSteps := 2000000) only [EVT, stepR, evOp, St.ev, St.app, St.put, wrs, evIndexAddr, evFieldAddr, evLoad, cut, allOne, frz, TIS, CS, Nat.reduceAdd, Nat.reduceMul, Nat.reduceEqDiff, ↓reduceIte, reduceCtorEq, Nat.reduceLT, Nat.reduceLeDiff, Int.reduceToNat, Nat.reduceSub, Nat.reduceBEq, ↓zc3, zg1]
                  repeat' with_reducible apply And.intro
                  all_goals try ((with_reducible show CallR _ _ _ _ _ _ _); refine cR_s zk3 (.cons (.ownL (by rfl) (fun e => by cases e) rfl (by first | rfl | omega | (simp; done) | (simp [strBytes_len]; done) | (simp; omega) | (simp_all; done)) (.same _ _ Msg.pu (by first | rfl | (simp only [List.map_append, List.map_cons, List.map_nil, List.map_set, List.map_take, List.map_drop, List.map_replicate, List.append_assoc, List.nil_append, List.append_nil, ci_eq, cb_eq, cs_eq, cl_eq, CS,  List.nil_append]; done) | (simp [CS,  ci_eq, cb_eq, cs_eq, cl_eq]; done) | (simp [CS,  ci_eq, cb_eq, cs_eq, cl_eq]; intro hz; rw [List.take_of_length_le (by simp; omega)])))) .nil) (.bool _) ?_; simp (maxSteps := 2000000) only [EVT, stepR, evOp, St.ev, St.app, St.put, wrs, evIndexAddr, evFieldAddr, evLoad, cut, allOne, frz, TIS, CS, Nat.reduceAdd, Nat.reduceMul, Nat.reduceEqDiff, ↓reduceIte, reduceCtorEq, Nat.reduceLT, Nat.reduceLeDiff, Int.reduceToNat, Nat.reduceSub, Nat.reduceBEq, ↓zc3, zg1])
                  all_goals ((repeat' apply And.intro) <;> first | rfl | assumption | omega | (left; omega) | (simp; done) | (simp; omega) | (right; exact ⟨_, rfl, rfl, rfl, by decide, by first | omega | (simp; omega)⟩) | (simp_all; done))
                refine sA_n ?_
                refine a_condb (r3) (by rfl) (fun zc4 => ?_) (fun zc4 => ?_)
                · have H := cond_t zc4 H
                  refine a_seq ?_
                  refine a_reg _ rfl (s := ?zs13) ?_ ?_
                  rotate_left
                  · simp (maxSteps := 2000000) only [EVT, stepR, evOp, St.ev, St.app, St.put, wrs, TIS, CS, Nat.reduceAdd, Nat.reduceMul, Nat.reduceEqDiff, ↓reduceIte, reduceCtorEq, Nat.reduceLT, Nat.reduceLeDiff, ↓zc3, zg1, ↓zc4]
                    (repeat' apply And.intro) <;> first | rfl | assumption | omega | (left; omega) | (simp; done) | (simp; omega) | (right; exact ⟨_, rfl, rfl, rfl, by decide, by first | omega | (simp; omega)⟩) | (simp_all; done)
                  refine sA_n ?_
                  refine a_ret ?_
                  refine sA_r ?_
                  refine bA_r ?_
                  refine cA_r ?_
                  refine lA_r ?_
                  refine bA_r ?_
                  refine cA_r ?_
                  obtain rfl := Option.some.inj H
                  refine e_r2 (d := ?zd4) ?_ ?_
                  rotate_left
                  · simp only [EVT, resR, single, evLoad, cut, TIS, CS, Nat.reduceAdd, Nat.reduceEqDiff, ↓reduceIte, reduceCtorEq, Nat.reduceLT, Nat.reduceLeDiff, Nat.reduceSub, Nat.reduceBEq, zc3, zg1, zc4]
                    (repeat' apply And.intro) <;> first | rfl | assumption | omega | (simp; done)
                  exact (.bool' rfl)
                · have H := cond_f zc4 H
                  refine a_skip ?_
                  refine sA_n ?_
                  refine a_seq ?_
                  refine a_reg _ rfl (s := ?zs14) ?_ ?_
                  rotate_left
                  · simp (maxSteps := 2000000) only [EVT, stepR, evOp, St.ev, St.app, St.put, wrs, evIndexAddr, evFieldAddr, evLoad, cut, evToStr, elems, datOf, datOf1, evBin, binInt, TIS, CS, Nat.reduceAdd, Nat.reduceMul, Nat.reduceEqDiff, ↓reduceIte, reduceCtorEq, Nat.reduceLT, Nat.reduceLeDiff, Int.reduceToNat, Nat.reduceSub, Nat.reduceBEq, ↓zc3, zg1, ↓zc4]
                    (repeat' apply And.intro) <;> first | rfl | assumption | omega | (left; omega) | (simp; done) | (simp; omega) | (right; exact ⟨_, rfl, rfl, rfl, by decide, by first | omega | (simp; omega)⟩) | (simp_all; done)
                  refine sA_n ?_
                  refine a_seq ?_
                  refine a_seq ?_
                  refine a_reg _ rfl (s := ?zs15) ?_ ?_
                  rotate_left
                  · simp (maxSteps := 2000000) only [EVT, stepR, evOp, St.ev, St.app, St.put, wrs, datOf, datOf1, evBin, binInt, TIS, CS, Nat.reduceAdd, Nat.reduceMul, Nat.reduceEqDiff, ↓reduceIte, reduceCtorEq, Nat.reduceLT, Nat.reduceLeDiff, ↓zc3, zg1, ↓zc4]
                    (repeat' apply And.intro) <;> first | rfl | assumption | omega | (left; omega) | (simp; done) | (simp; omega) | (right; exact ⟨_, rfl, rfl, rfl, by decide, by first | omega | (simp; omega)⟩) | (simp_all; done)
                  refine sA_n ?_
                  refine a_condb (((Int.tmod (IntKind.wrap .i64 x1.fate) 6) == 0)) (by rfl) (fun zc5 => ?_) (fun zc5 => ?_)
                  · have H := cond_t zc5 H
                    refine a_seq ?_
                    refine a_seq ?_
                    refine a_reg _ rfl (s := ?zs16) ?_ ?_
                    rotate_left
                    · simp (maxSteps := 2000000) only [EVT, stepR, evOp, St.ev, St.app, St.put, wrs, evBuiltin, datOf, datOf1, evBin, binInt, TIS, CS, Nat.reduceAdd, Nat.reduceMul, Nat.reduceEqDiff, ↓reduceIte, reduceCtorEq, Nat.reduceLT, Nat.reduceLeDiff, Nat.reduceSub, Nat.reduceBEq, ↓zc3, zg1, ↓zc4, ↓zc5]
                      (repeat' apply And.intro) <;> first | rfl | assumption | omega | (left; omega) | (simp; done) | (simp; omega) | (right; exact ⟨_, rfl, rfl, rfl, by decide, by first | omega | (simp; omega)⟩) | (simp_all; done)
                    refine sA_n ?_
                    refine a_condb (((w2.length : Int) == 0)) (by rfl) (fun zc6 => ?_) (fun zc6 => ?_)
                    · have H := cond_t zc6 H
                      refine a_exit ?_
                      refine sA_e ?_
                      refine sA_e ?_
                      refine bA_hit ?_
                      refine cA_n ?_
                      refine wk_l [(some 0, ⟨26, 5, false, [[.int .i64 m1.from_, .int .i64 m1.to_, .int .i64 m1.kind, .list 1 (m1.nums.map (ci .i64)), .list 1 (m1.data.map (ci .u8))]]⟩)] [] [(0, .list 7 (l1.map Act.c)), (3, .ptr 0 0 0 5), (5, .bool r1), (6, .list 5 (w2.map Msg.c)), (7, .int .i64 put2), (8, .int .i64 took2), (9, .int .i64 i1)] (by show ([0, 3, 5, 6, 7, 8, 9] : List Nat).Nodup; decide) (by show ([0] : List Nat).Nodup; decide) ?_ ?_ (fun t0 => ⟨w2, put2, took2, t0, H, rfl⟩)
                      · exact (allB_some (by rfl) rfl (.cons (.cons (.int' rfl) (.cons (.int' rfl) (.cons (.int' rfl) (.cons (.lst _ _ _ (ci_pu .i64) rfl) (.cons (.lst _ _ _ (ci_pu .u8) rfl) .nil))))) .nil) trivial)
                      · (simp only [AllT, tl_cons, tl_nil, upd_apply, List.getD_cons_zero, List.getD_cons_succ, Nat.reduceEqDiff, ↓reduceIte, and_true]); exact ⟨(.lst _ _ _ Act.pu rfl), (.ptr _ _ _ _ _ rfl), (.bool' rfl), (.lst _ _ _ Msg.pu rfl), (.int' rfl), (.int' rfl), (.int' rfl)⟩
                    · have H := cond_f zc6 H
                      refine a_skip ?_
                      refine sA_n ?_
                      refine a_seq ?_
                      obtain ⟨zh5, H⟩ := chk_some H
                      obtain ⟨r4, zh6, H⟩ := bind_some H
                      have zk4 := wire_Take_pc zh6
                      refine a_reg _ rfl (s := ?zs17) ?_ ?_
                      rotate_left
                      · try simp (maxSteps := 2000000) only [EVT, stepR, evOp, St.ev, St.app, St.put, wrs, evIndexAddr, evFieldAddr, evLoad, cut, evToStr, elems, evBuiltin, evBin, binInt, frz, allOne, evStore, setR, TIS, CS, Nat.reduceAdd, Nat.reduceMul, Nat.reduceEqDiff, ↓reduceIte, reduceCtorEq, Nat.reduceLT, Nat.reduceLeDiff, Int.reduceToNat, Nat.reduceSub, Nat.reduceBEq, ↓zc3, zg1, ↓zc4, ↓zc5, ↓zc6]
                        repeat' with_reducible apply And.intro
                        all_goals try ((with_reducible show CallR _ _ _ _ _ _ _); refine cR_p zk4 (.cons (.lst _ _ _ Msg.pu rfl) (.cons (.int' rfl) .nil)) ?_; simp (maxSteps := 2000000) only [EVT, stepR, evOp, St.ev, St.app, St.put, wrs, evIndexAddr, evFieldAddr, evLoad, cut, evToStr, elems, evBuiltin, evBin, binInt, frz, allOne, evStore, setR, TIS, CS, Nat.reduceAdd, Nat.reduceMul, Nat.reduceEqDiff, ↓reduceIte, reduceCtorEq, Nat.reduceLT, Nat.reduceLeDiff, Int.reduceToNat, Nat.reduceSub, Nat.reduceBEq, ↓zc3, zg1, ↓zc4, ↓zc5, ↓zc6])
                        all_goals ((repeat' apply And.intro) <;> first | rfl | assumption | omega | (left; omega) | (simp; done) | (simp; omega) | (right; exact ⟨_, rfl, rfl, rfl, by decide, by first | omega | (simp; omega)⟩) | (simp_all; done))
                      refine sA_n ?_
                      refine a_seq ?_
                      refine a_cut (fun s => ∃ (v2 : Bool) (t0 : Nat → Dat), law05_WireCounts_J4 (law05_WireCounts_L1 l1 r1 m1 m_law05_WireCounts_L1) r4 m1 i1 put2 took2 v2 = some r ∧ s = ⟨tl t0 [(0, .list 7 (l1.map Act.c)), (3, .ptr 0 0 0 5), (5, .bool r1), (7, .int .i64 put2), (8, .int .i64 took2), (9, .int .i64 i1), (11, .list 5 (r4.1.map Msg.c)), (12, .ptr 1 0 0 5), (76, .bool v2)], hl [⟨26, 5, false, [[.int .i64 m1.from_, .int .i64 m1.to_, .int .i64 m1.kind, .list 1 (m1.nums.map (ci .i64)), .list 1 (m1.data.map (ci .u8))]]⟩, ⟨26, 5, false, [[.int .i64 r4.2.1.from_, .int .i64 r4.2.1.to_, .int .i64 r4.2.1.kind, .list 1 (r4.2.1.nums.map (ci .i64)), .list 1 (r4.2.1.data.map (ci .u8))]]⟩], 2, 127⟩) ?_ ?_
                      · refine bool_split (b := (!r4.2.2)) (fun zc9 => ?_) (fun zc9 => ?_)
                        · rw [zc9] at H
                          refine a_reg _ rfl (s := ?zs22) ?_ ?_
                          rotate_left
                          · simp (maxSteps := 2000000) only [EVT, stepR, evOp, St.ev, St.app, St.put, wrs, evUn, evBuiltin, datOf, datOf1, evBin, binInt, TIS, CS, Nat.reduceAdd, Nat.reduceMul, Nat.reduceEqDiff, ↓reduceIte, reduceCtorEq, Nat.reduceLT, Nat.reduceLeDiff, Array.reduceGetElem?, Nat.reduceSub, Nat.reduceBEq, ↓zc3, zg1, ↓zc4, ↓zc5, ↓zc6, ↓zc9]
                            try simp (maxSteps := 2000000) only [EVT, stepR, evOp, St.ev, St.app, St.put, wrs, evUn, evBuiltin, datOf, datOf1, evBin, binInt, TIS, CS, Nat.reduceAdd, Nat.reduceMul, Nat.reduceEqDiff, ↓reduceIte, reduceCtorEq, Nat.reduceLT, Nat.reduceLeDiff, Array.reduceGetElem?, Nat.reduceSub, Nat.reduceBEq, ↓zc3, zg1, ↓zc4, ↓zc5, ↓zc6, ↓zc9]
                            (repeat' apply And.intro) <;> first | rfl | assumption | omega | (left; omega) | (simp; done) | (simp; omega) | (right; exact ⟨_, rfl, rfl, rfl, by decide, by first | omega | (simp; omega)⟩) | (simp_all; done)
                          refine cA_n ?_
                          refine wk_l [(some 0, ⟨26, 5, false, [[.int .i64 m1.from_, .int .i64 m1.to_, .int .i64 m1.kind, .list 1 (m1.nums.map (ci .i64)), .list 1 (m1.data.map (ci .u8))]]⟩), (some 208, ⟨26, 5, false, [[.int .i64 r4.2.1.from_, .int .i64 r4.2.1.to_, .int .i64 r4.2.1.kind, .list 1 (r4.2.1.nums.map (ci .i64)), .list 1 (r4.2.1.data.map (ci .u8))]]⟩)] [] [(0, .list 7 (l1.map Act.c)), (3, .ptr 0 0 0 5), (5, .bool r1), (7, .int .i64 put2), (8, .int .i64 took2), (9, .int .i64 i1), (11, .list 5 (r4.1.map Msg.c)), (12, .ptr 1 0 0 5), (76, .bool true)] (by show ([0, 3, 5, 7, 8, 9, 11, 12, 76] : List Nat).Nodup; decide) (by show ([0, 208] : List Nat).Nodup; decide) ?_ ?_ (fun t0 => ⟨true, t0, H, rfl⟩)
                          · exact (allB_some (by rfl) rfl (.cons (.cons (.int' rfl) (.cons (.int' rfl) (.cons (.int' rfl) (.cons (.lst _ _ _ (ci_pu .i64) rfl) (.cons (.lst _ _ _ (ci_pu .u8) rfl) .nil))))) .nil) (allB_some (by rfl) rfl (.cons (.cons (.int' rfl) (.cons (.int' rfl) (.cons (.int' rfl) (.cons (.lst _ _ _ (ci_pu .i64) rfl) (.cons (.lst _ _ _ (ci_pu .u8) rfl) .nil))))) .nil) trivial))
                          · (simp only [AllT, tl_cons, tl_nil, upd_apply, List.getD_cons_zero, List.getD_cons_succ, Nat.reduceEqDiff, ↓reduceIte, and_true]); exact ⟨(.lst _ _ _ Act.pu rfl), (.ptr _ _ _ _ _ rfl), (.bool' rfl), (.int' rfl), (.int' rfl), (.int' rfl), (.lst _ _ _ Msg.pu rfl), (.ptr _ _ _ _ _ rfl), (.bool' (by first | rfl | assumption | (simp_all; done)))⟩
                        · rw [zc9] at H
                          refine a_reg _ rfl (s := ?zs23) ?_ ?_
                          rotate_left
                          · simp (maxSteps := 2000000) only [EVT, stepR, evOp, St.ev, St.app, St.put, wrs, evUn, evBuiltin, datOf, datOf1, evBin, binInt, TIS, CS, Nat.reduceAdd, Nat.reduceMul, Nat.reduceEqDiff, ↓reduceIte, reduceCtorEq, Nat.reduceLT, Nat.reduceLeDiff, Array.reduceGetElem?, Nat.reduceSub, Nat.reduceBEq, ↓zc3, zg1, ↓zc4, ↓zc5, ↓zc6, ↓zc9]
                            try simp (maxSteps := 2000000) only [EVT, stepR, evOp, St.ev, St.app, St.put, wrs, evUn, evBuiltin, datOf, datOf1, evBin, binInt, TIS, CS, Nat.reduceAdd, Nat.reduceMul, Nat.reduceEqDiff, ↓reduceIte, reduceCtorEq, Nat.reduceLT, Nat.reduceLeDiff, Array.reduceGetElem?, Nat.reduceSub, Nat.reduceBEq, ↓zc3, zg1, ↓zc4, ↓zc5, ↓zc6, ↓zc9]
                            (repeat' apply And.intro) <;> first | rfl | assumption | omega | (left; omega) | (simp; done) | (simp; omega) | (right; exact ⟨_, rfl, rfl, rfl, by decide, by first | omega | (simp; omega)⟩) | (simp_all; done)
                          refine cA_n ?_
                          refine wk_l [(some 0, ⟨26, 5, false, [[.int .i64 m1.from_, .int .i64 m1.to_, .int .i64 m1.kind, .list 1 (m1.nums.map (ci .i64)), .list 1 (m1.data.map (ci .u8))]]⟩), (some 208, ⟨26, 5, false, [[.int .i64 r4.2.1.from_, .int .i64 r4.2.1.to_, .int .i64 r4.2.1.kind, .list 1 (r4.2.1.nums.map (ci .i64)), .list 1 (r4.2.1.data.map (ci .u8))]]⟩)] [] [(0, .list 7 (l1.map Act.c)), (3, .ptr 0 0 0 5), (5, .bool r1), (7, .int .i64 put2), (8, .int .i64 took2), (9, .int .i64 i1), (11, .list 5 (r4.1.map Msg.c)), (12, .ptr 1 0 0 5), (76, .bool ((r4.1.length : Int) != (IntKind.wrap .i64 ((w2.length : Int) - 1))))] (by show ([0, 3, 5, 7, 8, 9, 11, 12, 76] : List Nat).Nodup; decide) (by show ([0, 208] : List Nat).Nodup; decide) ?_ ?_ (fun t0 => ⟨((r4.1.length : Int) != (IntKind.wrap .i64 ((w2.length : Int) - 1))), t0, H, rfl⟩)
                          · exact (allB_some (by rfl) rfl (.cons (.cons (.int' rfl) (.cons (.int' rfl) (.cons (.int' rfl) (.cons (.lst _ _ _ (ci_pu .i64) rfl) (.cons (.lst _ _ _ (ci_pu .u8) rfl) .nil))))) .nil) (allB_some (by rfl) rfl (.cons (.cons (.int' rfl) (.cons (.int' rfl) (.cons (.int' rfl) (.cons (.lst _ _ _ (ci_pu .i64) rfl) (.cons (.lst _ _ _ (ci_pu .u8) rfl) .nil))))) .nil) trivial))
                          · (simp only [AllT, tl_cons, tl_nil, upd_apply, List.getD_cons_zero, List.getD_cons_succ, Nat.reduceEqDiff, ↓reduceIte, and_true]); exact ⟨(.lst _ _ _ Act.pu rfl), (.ptr _ _ _ _ _ rfl), (.bool' rfl), (.int' rfl), (.int' rfl), (.int' rfl), (.lst _ _ _ Msg.pu rfl), (.ptr _ _ _ _ _ rfl), (.bool' rfl)⟩
                      · rintro s ⟨v2, t0, H, rfl⟩
                        unfold law05_WireCounts_J4 at H
                        refine a_condb (v2) (by rfl) (fun zc7 => ?_) (fun zc7 => ?_)
                        · have H := cond_t zc7 H
                          refine a_seq ?_
                          refine a_reg _ rfl (s := ?zs18) ?_ ?_
                          rotate_left
                          · simp (maxSteps := 2000000) only [EVT, stepR, evOp, St.ev, St.app, St.put, wrs, datOf, datOf1, TIS, CS, Nat.reduceAdd, Nat.reduceMul, Nat.reduceEqDiff, ↓reduceIte, reduceCtorEq, Nat.reduceLT, Nat.reduceLeDiff, ↓zc7]
                            (repeat' apply And.intro) <;> first | rfl | assumption | omega | (left; omega) | (simp; done) | (simp; omega) | (right; exact ⟨_, rfl, rfl, rfl, by decide, by first | omega | (simp; omega)⟩) | (simp_all; done)
                          refine sA_n ?_
                          refine a_ret ?_
                          refine sA_r ?_
                          refine sA_r ?_
                          refine bA_r ?_
                          refine cA_r ?_
                          refine lA_r ?_
                          refine bA_r ?_
                          refine cA_r ?_
                          obtain rfl := Option.some.inj H
                          refine e_r2 (d := ?zd5) ?_ ?_
                          rotate_left
                          · simp only [EVT, resR, single, evLoad, cut, TIS, CS, Nat.reduceAdd, Nat.reduceEqDiff, ↓reduceIte, reduceCtorEq, Nat.reduceLT, Nat.reduceLeDiff, Nat.reduceSub, Nat.reduceBEq, zc7]
                            (repeat' apply And.intro) <;> first | rfl | assumption | omega | (simp; done)
                          exact (.bool' (by first | rfl | assumption | (simp_all; done)))
                        · have H := cond_f zc7 H
                          refine a_skip ?_
                          refine sA_n ?_
                          refine a_seq ?_
                          refine a_reg _ rfl (s := ?zs19) ?_ ?_
                          rotate_left
                          · simp (maxSteps := 2000000) only [EVT, stepR, evOp, St.ev, St.app, St.put, wrs, TIS, CS, Nat.reduceAdd, Nat.reduceMul, Nat.reduceEqDiff, ↓reduceIte, reduceCtorEq, Nat.reduceLT, Nat.reduceLeDiff, ↓zc7]
                            (repeat' apply And.intro) <;> first | rfl | assumption | omega | (left; omega) | (simp; done) | (simp; omega) | (right; exact ⟨_, rfl, rfl, rfl, by decide, by first | omega | (simp; omega)⟩) | (simp_all; done)
                          refine sA_n ?_
                          refine a_seq ?_
                          refine a_seq ?_
                          obtain ⟨r5, zh7, H⟩ := bind_some H
                          have zk5 := ref05_Same_pc zh7
                          refine a_reg _ rfl (s := ?zs20) ?_ ?_
                          rotate_left
                          · try simp (maxSteps := 2000000) only [EVT, stepR, evOp, St.ev, St.app, St.put, wrs, evLoad, cut, frz, TIS, CS, Nat.reduceAdd, Nat.reduceMul, Nat.reduceEqDiff, ↓reduceIte, reduceCtorEq, Nat.reduceLT, Nat.reduceLeDiff, Nat.reduceSub, Nat.reduceBEq, ↓zc7]
                            repeat' with_reducible apply And.intro
                            all_goals try ((with_reducible show CallR _ _ _ _ _ _ _); refine cR_s zk5 (.cons (.agg' (.cons (.int' rfl) (.cons (.int' rfl) (.cons (.int' rfl) (.cons (.lst _ _ _ (ci_pu .i64) rfl) (.cons (.lst _ _ _ (ci_pu .u8) rfl) .nil)))))) (.cons (.agg' (.cons (.int' rfl) (.cons (.int' rfl) (.cons (.int' rfl) (.cons (.lst _ _ _ (ci_pu .i64) rfl) (.cons (.lst _ _ _ (ci_pu .u8) rfl) .nil)))))) .nil)) (.bool _) ?_; simp (maxSteps := 2000000) only [EVT, stepR, evOp, St.ev, St.app, St.put, wrs, evLoad, cut, frz, TIS, CS, Nat.reduceAdd, Nat.reduceMul, Nat.reduceEqDiff, ↓reduceIte, reduceCtorEq, Nat.reduceLT, Nat.reduceLeDiff, Nat.reduceSub, Nat.reduceBEq, ↓zc7])
                            all_goals ((repeat' apply And.intro) <;> first | rfl | assumption | omega | (left; omega) | (simp; done) | (simp; omega) | (right; exact ⟨_, rfl, rfl, rfl, by decide, by first | omega | (simp; omega)⟩) | (simp_all; done))
                          refine sA_n ?_
                          refine a_condb (r5) (by rfl) (fun zc8 => ?_) (fun zc8 => ?_)
                          · have H := cond_t zc8 H
                            refine a_reg _ rfl (s := ?zs21) ?_ ?_
                            rotate_left
                            · simp (maxSteps := 2000000) only [EVT, stepR, evOp, St.ev, St.app, St.put, wrs, datOf, datOf1, evBin, binInt, TIS, CS, Nat.reduceAdd, Nat.reduceMul, Nat.reduceEqDiff, ↓reduceIte, reduceCtorEq, Nat.reduceLT, Nat.reduceLeDiff, ↓zc7, ↓zc8]
                              (repeat' apply And.intro) <;> first | rfl | assumption | omega | (left; omega) | (simp; done) | (simp; omega) | (right; exact ⟨_, rfl, rfl, rfl, by decide, by first | omega | (simp; omega)⟩) | (simp_all; done)
                            refine sA_n ?_
                            refine a_exit ?_
                            refine sA_e ?_
                            refine bA_hit ?_
                            refine cA_n ?_
                            refine wk_l [(some 0, ⟨26, 5, false, [[.int .i64 m1.from_, .int .i64 m1.to_, .int .i64 m1.kind, .list 1 (m1.nums.map (ci .i64)), .list 1 (m1.data.map (ci .u8))]]⟩)] [] [(0, .list 7 (l1.map Act.c)), (3, .ptr 0 0 0 5), (5, .bool r1), (6, .list 5 (r4.1.map Msg.c)), (7, .int .i64 put2), (8, .int .i64 (IntKind.wrap .i64 (took2 + 1))), (9, .int .i64 i1)] (by show ([0, 3, 5, 6, 7, 8, 9] : List Nat).Nodup; decide) (by show ([0] : List Nat).Nodup; decide) ?_ ?_ (fun t0 => ⟨r4.1, put2, (IntKind.wrap .i64 (took2 + 1)), t0, H, rfl⟩)
                            · exact (allB_some (by rfl) rfl (.cons (.cons (.int' rfl) (.cons (.int' rfl) (.cons (.int' rfl) (.cons (.lst _ _ _ (ci_pu .i64) rfl) (.cons (.lst _ _ _ (ci_pu .u8) rfl) .nil))))) .nil) trivial)
                            · (simp only [AllT, tl_cons, tl_nil, upd_apply, List.getD_cons_zero, List.getD_cons_succ, Nat.reduceEqDiff, ↓reduceIte, and_true]); exact ⟨(.lst _ _ _ Act.pu rfl), (.ptr _ _ _ _ _ rfl), (.bool' rfl), (.lst _ _ _ Msg.pu rfl), (.int' rfl), (.int' rfl), (.int' rfl)⟩
                          · have H := cond_f zc8 H
                            refine a_skip ?_
                            refine sA_n ?_
                            refine a_exit ?_
                            refine sA_e ?_
                            refine bA_hit ?_
                            refine cA_n ?_
                            refine wk_l [(some 0, ⟨26, 5, false, [[.int .i64 m1.from_, .int .i64 m1.to_, .int .i64 m1.kind, .list 1 (m1.nums.map (ci .i64)), .list 1 (m1.data.map (ci .u8))]]⟩)] [] [(0, .list 7 (l1.map Act.c)), (3, .ptr 0 0 0 5), (5, .bool r1), (6, .list 5 (r4.1.map Msg.c)), (7, .int .i64 put2), (8, .int .i64 took2), (9, .int .i64 i1)] (by show ([0, 3, 5, 6, 7, 8, 9] : List Nat).Nodup; decide) (by show ([0] : List Nat).Nodup; decide) ?_ ?_ (fun t0 => ⟨r4.1, put2, took2, t0, H, rfl⟩)
                            · exact (allB_some (by rfl) rfl (.cons (.cons (.int' rfl) (.cons (.int' rfl) (.cons (.int' rfl) (.cons (.lst _ _ _ (ci_pu .i64) rfl) (.cons (.lst _ _ _ (ci_pu .u8) rfl) .nil))))) .nil) trivial)
                            · (simp only [AllT, tl_cons, tl_nil, upd_apply, List.getD_cons_zero, List.getD_cons_succ, Nat.reduceEqDiff, ↓reduceIte, and_true]); exact ⟨(.lst _ _ _ Act.pu rfl), (.ptr _ _ _ _ _ rfl), (.bool' rfl), (.lst _ _ _ Msg.pu rfl), (.int' rfl), (.int' rfl), (.int' rfl)⟩
                  · have H := cond_f zc5 H
                    refine a_skip ?_
                    refine sA_n ?_
                    refine a_seq ?_
                    refine a_reg _ rfl (s := ?zs24) ?_ ?_
                    rotate_left
                    · simp (maxSteps := 2000000) only [EVT, stepR, evOp, St.ev, St.app, St.put, wrs, datOf, datOf1, TIS, CS, Nat.reduceAdd, Nat.reduceMul, Nat.reduceEqDiff, ↓reduceIte, reduceCtorEq, Nat.reduceLT, Nat.reduceLeDiff, ↓zc3, zg1, ↓zc4, ↓zc5]
                      (repeat' apply And.intro) <;> first | rfl | assumption | omega | (left; omega) | (simp; done) | (simp; omega) | (right; exact ⟨_, rfl, rfl, rfl, by decide, by first | omega | (simp; omega)⟩) | (simp_all; done)
                    refine sA_n ?_
                    refine a_cut (fun s => ∃ (fate1 : Int) (many1 : Int) (t0 : Nat → Dat), law05_WireCounts_J5 (law05_WireCounts_L1 l1 r1 m1 m_law05_WireCounts_L1) l1 i1 w2 m1 put2 took2 fate1 many1 = some r ∧ s = ⟨tl t0 [(0, .list 7 (l1.map Act.c)), (3, .ptr 0 0 0 5), (5, .bool r1), (6, .list 5 (w2.map Msg.c)), (7, .int .i64 put2), (8, .int .i64 took2), (9, .int .i64 i1), (10, .int .i64 fate1), (14, .int .i64 many1)], hl [⟨26, 5, false, [[.int .i64 m1.from_, .int .i64 m1.to_, .int .i64 m1.kind, .list 1 (m1.nums.map (ci .i64)), .list 1 (m1.data.map (ci .u8))]]⟩], 1, 127⟩) ?_ ?_
                    · refine a_seq ?_
                      refine a_reg _ rfl (s := ?zs34) ?_ ?_
                      rotate_left
                      · simp (maxSteps := 2000000) only [EVT, stepR, evOp, St.ev, St.app, St.put, wrs, datOf, datOf1, evBin, binInt, TIS, CS, Nat.reduceAdd, Nat.reduceMul, Nat.reduceEqDiff, ↓reduceIte, reduceCtorEq, Nat.reduceLT, Nat.reduceLeDiff, ↓zc3, zg1, ↓zc4, ↓zc5]
                        (repeat' apply And.intro) <;> first | rfl | assumption | omega | (left; omega) | (simp; done) | (simp; omega) | (right; exact ⟨_, rfl, rfl, rfl, by decide, by first | omega | (simp; omega)⟩) | (simp_all; done)
                      refine sA_n ?_
                      refine a_condb (((Int.tmod (IntKind.wrap .i64 x1.fate) 6) == 3)) (by rfl) (fun zc14 => ?_) (fun zc14 => ?_)
                      · have H := cond_t zc14 H
                        refine a_reg _ rfl (s := ?zs35) ?_ ?_
                        rotate_left
                        · simp (maxSteps := 2000000) only [EVT, stepR, evOp, St.ev, St.app, St.put, wrs, datOf, datOf1, TIS, CS, Nat.reduceAdd, Nat.reduceMul, Nat.reduceEqDiff, ↓reduceIte, reduceCtorEq, Nat.reduceLT, Nat.reduceLeDiff, ↓zc3, zg1, ↓zc4, ↓zc5, ↓zc14]
                          (repeat' apply And.intro) <;> first | rfl | assumption | omega | (left; omega) | (simp; done) | (simp; omega) | (right; exact ⟨_, rfl, rfl, rfl, by decide, by first | omega | (simp; omega)⟩) | (simp_all; done)
                        refine cA_n ?_
                        refine wk_l [(some 0, ⟨26, 5, false, [[.int .i64 m1.from_, .int .i64 m1.to_, .int .i64 m1.kind, .list 1 (m1.nums.map (ci .i64)), .list 1 (m1.data.map (ci .u8))]]⟩)] [] [(0, .list 7 (l1.map Act.c)), (3, .ptr 0 0 0 5), (5, .bool r1), (6, .list 5 (w2.map Msg.c)), (7, .int .i64 put2), (8, .int .i64 took2), (9, .int .i64 i1), (10, .int .i64 (Int.tmod (IntKind.wrap .i64 x1.fate) 6)), (14, .int .i64 2)] (by show ([0, 3, 5, 6, 7, 8, 9, 10, 14] : List Nat).Nodup; decide) (by show ([0] : List Nat).Nodup; decide) ?_ ?_ (fun t0 => ⟨(Int.tmod (IntKind.wrap .i64 x1.fate) 6), 2, t0, H, rfl⟩)
                        · exact (allB_some (by rfl) rfl (.cons (.cons (.int' rfl) (.cons (.int' rfl) (.cons (.int' rfl) (.cons (.lst _ _ _ (ci_pu .i64) rfl) (.cons (.lst _ _ _ (ci_pu .u8) rfl) .nil))))) .nil) trivial)
                        · (simp only [AllT, tl_cons, tl_nil, upd_apply, List.getD_cons_zero, List.getD_cons_succ, Nat.reduceEqDiff, ↓reduceIte, and_true]); exact ⟨(.lst _ _ _ Act.pu rfl), (.ptr _ _ _ _ _ rfl), (.bool' rfl), (.lst _ _ _ Msg.pu rfl), (.int' rfl), (.int' rfl), (.int' rfl), (.int' rfl), (.int' rfl)⟩
                      · have H := cond_f zc14 H
                        refine a_skip ?_
                        refine cA_n ?_
                        refine wk_l [(some 0, ⟨26, 5, false, [[.int .i64 m1.from_, .int .i64 m1.to_, .int .i64 m1.kind, .list 1 (m1.nums.map (ci .i64)), .list 1 (m1.data.map (ci .u8))]]⟩)] [] [(0, .list 7 (l1.map Act.c)), (3, .ptr 0 0 0 5), (5, .bool r1), (6, .list 5 (w2.map Msg.c)), (7, .int .i64 put2), (8, .int .i64 took2), (9, .int .i64 i1), (10, .int .i64 (Int.tmod (IntKind.wrap .i64 x1.fate) 6)), (14, .int .i64 1)] (by show ([0, 3, 5, 6, 7, 8, 9, 10, 14] : List Nat).Nodup; decide) (by show ([0] : List Nat).Nodup; decide) ?_ ?_ (fun t0 => ⟨(Int.tmod (IntKind.wrap .i64 x1.fate) 6), 1, t0, H, rfl⟩)
                        · exact (allB_some (by rfl) rfl (.cons (.cons (.int' rfl) (.cons (.int' rfl) (.cons (.int' rfl) (.cons (.lst _ _ _ (ci_pu .i64) rfl) (.cons (.lst _ _ _ (ci_pu .u8) rfl) .nil))))) .nil) trivial)
                        · (simp only [AllT, tl_cons, tl_nil, upd_apply, List.getD_cons_zero, List.getD_cons_succ, Nat.reduceEqDiff, ↓reduceIte, and_true]); exact ⟨(.lst _ _ _ Act.pu rfl), (.ptr _ _ _ _ _ rfl), (.bool' rfl), (.lst _ _ _ Msg.pu rfl), (.int' rfl), (.int' rfl), (.int' rfl), (.int' rfl), (.int' rfl)⟩
                    · rintro s ⟨fate1, many1, t0, H, rfl⟩
                      unfold law05_WireCounts_J5 at H
                      refine a_cut (fun s => ∃ (many2 : Int) (t0 : Nat → Dat), law05_WireCounts_J6 (law05_WireCounts_L1 l1 r1 m1 m_law05_WireCounts_L1) l1 i1 w2 fate1 m1 put2 took2 many2 = some r ∧ s = ⟨tl t0 [(0, .list 7 (l1.map Act.c)), (3, .ptr 0 0 0 5), (5, .bool r1), (6, .list 5 (w2.map Msg.c)), (7, .int .i64 put2), (8, .int .i64 took2), (9, .int .i64 i1), (10, .int .i64 fate1), (14, .int .i64 many2)], hl [⟨26, 5, false, [[.int .i64 m1.from_, .int .i64 m1.to_, .int .i64 m1.kind, .list 1 (m1.nums.map (ci .i64)), .list 1 (m1.data.map (ci .u8))]]⟩], 1, 127⟩) ?_ ?_
                      · refine a_cut (fun s => ∃ (v3 : Bool) (t0 : Nat → Dat), law05_WireCounts_J7 (law05_WireCounts_L1 l1 r1 m1 m_law05_WireCounts_L1) l1 i1 w2 fate1 m1 put2 took2 many1 v3 = some r ∧ s = ⟨tl t0 [(0, .list 7 (l1.map Act.c)), (3, .ptr 0 0 0 5), (5, .bool r1), (6, .list 5 (w2.map Msg.c)), (7, .int .i64 put2), (8, .int .i64 took2), (9, .int .i64 i1), (10, .int .i64 fate1), (14, .int .i64 many1), (90, .bool v3)], hl [⟨26, 5, false, [[.int .i64 m1.from_, .int .i64 m1.to_, .int .i64 m1.kind, .list 1 (m1.nums.map (ci .i64)), .list 1 (m1.data.map (ci .u8))]]⟩], 1, 127⟩) ?_ ?_
                        · refine bool_split (b := (fate1 == 2)) (fun zc13 => ?_) (fun zc13 => ?_)
                          · rw [zc13] at H
                            refine a_reg _ rfl (s := ?zs32) ?_ ?_
                            rotate_left
                            · simp (maxSteps := 2000000) only [EVT, stepR, evOp, St.ev, St.app, St.put, wrs, datOf, datOf1, evBin, binInt, TIS, CS, Nat.reduceAdd, Nat.reduceMul, Nat.reduceEqDiff, ↓reduceIte, reduceCtorEq, Nat.reduceLT, Nat.reduceLeDiff, Array.reduceGetElem?, ↓zc13]
                              try simp (maxSteps := 2000000) only [EVT, stepR, evOp, St.ev, St.app, St.put, wrs, datOf, datOf1, evBin, binInt, TIS, CS, Nat.reduceAdd, Nat.reduceMul, Nat.reduceEqDiff, ↓reduceIte, reduceCtorEq, Nat.reduceLT, Nat.reduceLeDiff, Array.reduceGetElem?, ↓zc13]
                              (repeat' apply And.intro) <;> first | rfl | assumption | omega | (left; omega) | (simp; done) | (simp; omega) | (right; exact ⟨_, rfl, rfl, rfl, by decide, by first | omega | (simp; omega)⟩) | (simp_all; done)
                            refine cA_n ?_
                            refine wk_l [(some 0, ⟨26, 5, false, [[.int .i64 m1.from_, .int .i64 m1.to_, .int .i64 m1.kind, .list 1 (m1.nums.map (ci .i64)), .list 1 (m1.data.map (ci .u8))]]⟩)] [] [(0, .list 7 (l1.map Act.c)), (3, .ptr 0 0 0 5), (5, .bool r1), (6, .list 5 (w2.map Msg.c)), (7, .int .i64 put2), (8, .int .i64 took2), (9, .int .i64 i1), (10, .int .i64 fate1), (14, .int .i64 many1), (90, .bool true)] (by show ([0, 3, 5, 6, 7, 8, 9, 10, 14, 90] : List Nat).Nodup; decide) (by show ([0] : List Nat).Nodup; decide) ?_ ?_ (fun t0 => ⟨true, t0, H, rfl⟩)
                            · exact (allB_some (by rfl) rfl (.cons (.cons (.int' rfl) (.cons (.int' rfl) (.cons (.int' rfl) (.cons (.lst _ _ _ (ci_pu .i64) rfl) (.cons (.lst _ _ _ (ci_pu .u8) rfl) .nil))))) .nil) trivial)
                            · (simp only [AllT, tl_cons, tl_nil, upd_apply, List.getD_cons_zero, List.getD_cons_succ, Nat.reduceEqDiff, ↓reduceIte, and_true]); exact ⟨(.lst _ _ _ Act.pu rfl), (.ptr _ _ _ _ _ rfl), (.bool' rfl), (.lst _ _ _ Msg.pu rfl), (.int' rfl), (.int' rfl), (.int' rfl), (.int' rfl), (.int' rfl), (.bool' (by first | rfl | assumption | (simp_all; done)))⟩
                          · rw [zc13] at H
                            refine a_reg _ rfl (s := ?zs33) ?_ ?_
                            rotate_left
                            · simp (maxSteps := 2000000) only [EVT, stepR, evOp, St.ev, St.app, St.put, wrs, datOf, datOf1, evBin, binInt, TIS, CS, Nat.reduceAdd, Nat.reduceMul, Nat.reduceEqDiff, ↓reduceIte, reduceCtorEq, Nat.reduceLT, Nat.reduceLeDiff, Array.reduceGetElem?, ↓zc13]
                              try simp (maxSteps := 2000000) only [EVT, stepR, evOp, St.ev, St.app, St.put, wrs, datOf, datOf1, evBin, binInt, TIS, CS, Nat.reduceAdd, Nat.reduceMul, Nat.reduceEqDiff, ↓reduceIte, reduceCtorEq, Nat.reduceLT, Nat.reduceLeDiff, Array.reduceGetElem?, ↓zc13]
                              (repeat' apply And.intro) <;> first | rfl | assumption | omega | (left; omega) | (simp; done) | (simp; omega) | (right; exact ⟨_, rfl, rfl, rfl, by decide, by first | omega | (simp; omega)⟩) | (simp_all; done)
                            refine cA_n ?_
                            refine wk_l [(some 0, ⟨26, 5, false, [[.int .i64 m1.from_, .int .i64 m1.to_, .int .i64 m1.kind, .list 1 (m1.nums.map (ci .i64)), .list 1 (m1.data.map (ci .u8))]]⟩)] [] [(0, .list 7 (l1.map Act.c)), (3, .ptr 0 0 0 5), (5, .bool r1), (6, .list 5 (w2.map Msg.c)), (7, .int .i64 put2), (8, .int .i64 took2), (9, .int .i64 i1), (10, .int .i64 fate1), (14, .int .i64 many1), (90, .bool (fate1 == 5))] (by show ([0, 3, 5, 6, 7, 8, 9, 10, 14, 90] : List Nat).Nodup; decide) (by show ([0] : List Nat).Nodup; decide) ?_ ?_ (fun t0 => ⟨(fate1 == 5), t0, H, rfl⟩)
                            · exact (allB_some (by rfl) rfl (.cons (.cons (.int' rfl) (.cons (.int' rfl) (.cons (.int' rfl) (.cons (.lst _ _ _ (ci_pu .i64) rfl) (.cons (.lst _ _ _ (ci_pu .u8) rfl) .nil))))) .nil) trivial)
                            · (simp only [AllT, tl_cons, tl_nil, upd_apply, List.getD_cons_zero, List.getD_cons_succ, Nat.reduceEqDiff, ↓reduceIte, and_true]); exact ⟨(.lst _ _ _ Act.pu rfl), (.ptr _ _ _ _ _ rfl), (.bool' rfl), (.lst _ _ _ Msg.pu rfl), (.int' rfl), (.int' rfl), (.int' rfl), (.int' rfl), (.int' rfl), (.bool' rfl)⟩
                        · rintro s ⟨v3, t0, H, rfl⟩
                          unfold law05_WireCounts_J7 at H
                          refine a_condb (v3) (by rfl) (fun zc12 => ?_) (fun zc12 => ?_)
                          · have H := cond_t zc12 H
                            refine a_reg _ rfl (s := ?zs31) ?_ ?_
                            rotate_left
                            · simp (maxSteps := 2000000) only [EVT, stepR, evOp, St.ev, St.app, St.put, wrs, datOf, datOf1, TIS, CS, Nat.reduceAdd, Nat.reduceMul, Nat.reduceEqDiff, ↓reduceIte, reduceCtorEq, Nat.reduceLT, Nat.reduceLeDiff, ↓zc12]
                              (repeat' apply And.intro) <;> first | rfl | assumption | omega | (left; omega) | (simp; done) | (simp; omega) | (right; exact ⟨_, rfl, rfl, rfl, by decide, by first | omega | (simp; omega)⟩) | (simp_all; done)
                            refine cA_n ?_
                            refine wk_l [(some 0, ⟨26, 5, false, [[.int .i64 m1.from_, .int .i64 m1.to_, .int .i64 m1.kind, .list 1 (m1.nums.map (ci .i64)), .list 1 (m1.data.map (ci .u8))]]⟩)] [] [(0, .list 7 (l1.map Act.c)), (3, .ptr 0 0 0 5), (5, .bool r1), (6, .list 5 (w2.map Msg.c)), (7, .int .i64 put2), (8, .int .i64 took2), (9, .int .i64 i1), (10, .int .i64 fate1), (14, .int .i64 0)] (by show ([0, 3, 5, 6, 7, 8, 9, 10, 14] : List Nat).Nodup; decide) (by show ([0] : List Nat).Nodup; decide) ?_ ?_ (fun t0 => ⟨0, t0, H, rfl⟩)
                            · exact (allB_some (by rfl) rfl (.cons (.cons (.int' rfl) (.cons (.int' rfl) (.cons (.int' rfl) (.cons (.lst _ _ _ (ci_pu .i64) rfl) (.cons (.lst _ _ _ (ci_pu .u8) rfl) .nil))))) .nil) trivial)
                            · (simp only [AllT, tl_cons, tl_nil, upd_apply, List.getD_cons_zero, List.getD_cons_succ, Nat.reduceEqDiff, ↓reduceIte, and_true]); exact ⟨(.lst _ _ _ Act.pu rfl), (.ptr _ _ _ _ _ rfl), (.bool' rfl), (.lst _ _ _ Msg.pu rfl), (.int' rfl), (.int' rfl), (.int' rfl), (.int' rfl), (.int' rfl)⟩
                          · have H := cond_f zc12 H
                            refine a_skip ?_
                            refine cA_n ?_
                            refine wk_l [(some 0, ⟨26, 5, false, [[.int .i64 m1.from_, .int .i64 m1.to_, .int .i64 m1.kind, .list 1 (m1.nums.map (ci .i64)), .list 1 (m1.data.map (ci .u8))]]⟩)] [] [(0, .list 7 (l1.map Act.c)), (3, .ptr 0 0 0 5), (5, .bool r1), (6, .list 5 (w2.map Msg.c)), (7, .int .i64 put2), (8, .int .i64 took2), (9, .int .i64 i1), (10, .int .i64 fate1), (14, .int .i64 many1)] (by show ([0, 3, 5, 6, 7, 8, 9, 10, 14] : List Nat).Nodup; decide) (by show ([0] : List Nat).Nodup; decide) ?_ ?_ (fun t0 => ⟨many1, t0, H, rfl⟩)
                            · exact (allB_some (by rfl) rfl (.cons (.cons (.int' rfl) (.cons (.int' rfl) (.cons (.int' rfl) (.cons (.lst _ _ _ (ci_pu .i64) rfl) (.cons (.lst _ _ _ (ci_pu .u8) rfl) .nil))))) .nil) trivial)
                            · (simp only [AllT, tl_cons, tl_nil, upd_apply, List.getD_cons_zero, List.getD_cons_succ, Nat.reduceEqDiff, ↓reduceIte, and_true]); exact ⟨(.lst _ _ _ Act.pu rfl), (.ptr _ _ _ _ _ rfl), (.bool' rfl), (.lst _ _ _ Msg.pu rfl), (.int' rfl), (.int' rfl), (.int' rfl), (.int' rfl), (.int' rfl)⟩
                      · rintro s ⟨many2, t0, H, rfl⟩
                        unfold law05_WireCounts_J6 at H
                        refine a_seq ?_
                        obtain ⟨x2, zh8, H⟩ := bind_some H
                        have zg2 := idx_map zh8 Act.c
                        try simp only [Int.reduceToNat] at zg2
                        obtain ⟨zh8a, zh8b, _⟩ := idx_some zh8
                        obtain ⟨r6, zh9, H⟩ := bind_some H
                        have zk6 := wire_Send_pc zh9
                        refine a_reg _ rfl (s := ?zs25) ?_ ?_
                        rotate_left
                        · try simp (maxSteps := 2000000) only [EVT, stepR, evOp, St.ev, St.app, St.put, wrs, evIndexAddr, evFieldAddr, evLoad, cut, frz, TIS, CS, Nat.reduceAdd, Nat.reduceMul, Nat.reduceEqDiff, ↓reduceIte, reduceCtorEq, Nat.reduceLT, Nat.reduceLeDiff, Int.reduceToNat, Nat.reduceSub, Nat.reduceBEq, zg2]
                          repeat' with_reducible apply And.intro
                          all_goals try ((with_reducible show CallR _ _ _ _ _ _ _); refine cR_p zk6 (.cons (.lst _ _ _ Msg.pu rfl) (.cons (.agg' (.cons (.int' rfl) (.cons (.int' rfl) (.cons (.int' rfl) (.cons (.lst _ _ _ (ci_pu .i64) rfl) (.cons (.lst _ _ _ (ci_pu .u8) rfl) .nil)))))) (.cons (.int' rfl) .nil))) ?_; simp (maxSteps := 2000000) only [EVT, stepR, evOp, St.ev, St.app, St.put, wrs, evIndexAddr, evFieldAddr, evLoad, cut, frz, TIS, CS, Nat.reduceAdd, Nat.reduceMul, Nat.reduceEqDiff, ↓reduceIte, reduceCtorEq, Nat.reduceLT, Nat.reduceLeDiff, Int.reduceToNat, Nat.reduceSub, Nat.reduceBEq, zg2])
                          all_goals ((repeat' apply And.intro) <;> first | rfl | assumption | omega | (left; omega) | (simp; done) | (simp; omega) | (right; exact ⟨_, rfl, rfl, rfl, by decide, by first | omega | (simp; omega)⟩) | (simp_all; done))
                        refine sA_n ?_
                        refine a_seq ?_
                        refine a_seq ?_
                        refine a_reg _ rfl (s := ?zs26) ?_ ?_
                        rotate_left
                        · simp (maxSteps := 2000000) only [EVT, stepR, evOp, St.ev, St.app, St.put, wrs, evBuiltin, evBin, binInt, TIS, CS, Nat.reduceAdd, Nat.reduceMul, Nat.reduceEqDiff, ↓reduceIte, reduceCtorEq, Nat.reduceLT, Nat.reduceLeDiff, Nat.reduceSub, Nat.reduceBEq, zg2]
                          (repeat' apply And.intro) <;> first | rfl | assumption | omega | (left; omega) | (simp; done) | (simp; omega) | (right; exact ⟨_, rfl, rfl, rfl, by decide, by first | omega | (simp; omega)⟩) | (simp_all; done)
                        refine sA_n ?_
                        refine a_condb (((r6.length : Int) != (IntKind.wrap .i64 ((w2.length : Int) + many2)))) (by rfl) (fun zc10 => ?_) (fun zc10 => ?_)
                        · have H := cond_t zc10 H
                          refine a_seq ?_
                          refine a_reg _ rfl (s := ?zs27) ?_ ?_
                          rotate_left
                          · simp (maxSteps := 2000000) only [EVT, stepR, evOp, St.ev, St.app, St.put, wrs, datOf, datOf1, TIS, CS, Nat.reduceAdd, Nat.reduceMul, Nat.reduceEqDiff, ↓reduceIte, reduceCtorEq, Nat.reduceLT, Nat.reduceLeDiff, zg2, ↓zc10]
                            (repeat' apply And.intro) <;> first | rfl | assumption | omega | (left; omega) | (simp; done) | (simp; omega) | (right; exact ⟨_, rfl, rfl, rfl, by decide, by first | omega | (simp; omega)⟩) | (simp_all; done)
                          refine sA_n ?_
                          refine a_ret ?_
                          refine sA_r ?_
                          refine bA_r ?_
                          refine cA_r ?_
                          refine lA_r ?_
                          refine bA_r ?_
                          refine cA_r ?_
                          obtain rfl := Option.some.inj H
                          refine e_r2 (d := ?zd6) ?_ ?_
                          rotate_left
                          · simp only [EVT, resR, single, evLoad, cut, TIS, CS, Nat.reduceAdd, Nat.reduceEqDiff, ↓reduceIte, reduceCtorEq, Nat.reduceLT, Nat.reduceLeDiff, Nat.reduceSub, Nat.reduceBEq, zg2, zc10]
                            (repeat' apply And.intro) <;> first | rfl | assumption | omega | (simp; done)
                          exact (.bool' (by first | rfl | assumption | (simp_all; done)))
                        · have H := cond_f zc10 H
                          refine a_skip ?_
                          refine sA_n ?_
                          refine a_seq ?_
                          refine a_reg _ rfl (s := ?zs28) ?_ ?_
                          rotate_left
                          · simp (maxSteps := 2000000) only [EVT, stepR, evOp, St.ev, St.app, St.put, wrs, TIS, CS, Nat.reduceAdd, Nat.reduceMul, Nat.reduceEqDiff, ↓reduceIte, reduceCtorEq, Nat.reduceLT, Nat.reduceLeDiff, zg2, ↓zc10]
                            (repeat' apply And.intro) <;> first | rfl | assumption | omega | (left; omega) | (simp; done) | (simp; omega) | (right; exact ⟨_, rfl, rfl, rfl, by decide, by first | omega | (simp; omega)⟩) | (simp_all; done)
                          refine sA_n ?_
                          refine a_seq ?_
                          obtain ⟨r7, zh10, H⟩ := bind_some H
                          have zk7 := ref05_Same_pc zh10
                          refine a_drW (by kernel_rfl) _ rfl (s := ?zs29) (by kernel_rfl) (by kernel_rfl) ?zs29f ?_ ?_ ?_
                          rotate_left 2
                          · try simp (maxSteps := 2000000) only [EVT, stepW, evOp, St.ev, St.app, St.put, wrs, evIndexAddr, evFieldAddr, evLoad, cut, frz, TIS, CS, Nat.reduceAdd, Nat.reduceMul, Nat.reduceEqDiff, ↓reduceIte, reduceCtorEq, Nat.reduceLT, Nat.reduceLeDiff, Int.reduceToNat, Nat.reduceSub, Nat.reduceBEq, zg2, ↓zc10]
                            repeat' with_reducible apply And.intro
                            all_goals try ((with_reducible show CallW _ _ _ _ _ _ _); refine cW_s [] zk7 (fun h2 e => (.cons (.agg' (.cons (.int' rfl) (.cons (.int' rfl) (.cons (.int' rfl) (.cons (.lst _ _ _ (ci_pu .i64) rfl) (.cons (.lst _ _ _ (ci_pu .u8) rfl) .nil)))))) (.cons (.agg' (.cons (.int' rfl) (.cons (.int' rfl) (.cons (.int' rfl) (.cons (.lst _ _ _ (ci_pu .i64) rfl) (.cons (.lst _ _ _ (ci_pu .u8) rfl) .nil)))))) .nil))) (.bool _) ?_; simp (maxSteps := 2000000) only [EVT, stepW, evOp, St.ev, St.app, St.put, wrs, evIndexAddr, evFieldAddr, evLoad, cut, frz, TIS, CS, Nat.reduceAdd, Nat.reduceMul, Nat.reduceEqDiff, ↓reduceIte, reduceCtorEq, Nat.reduceLT, Nat.reduceLeDiff, Int.reduceToNat, Nat.reduceSub, Nat.reduceBEq, zg2, ↓zc10])
                            all_goals ((repeat' apply And.intro) <;> first | rfl | assumption | omega | (left; omega) | (simp; done) | (simp; omega) | (right; exact ⟨_, rfl, rfl, rfl, by decide, by first | omega | (simp; omega)⟩) | (simp_all; done))
                          · kernel_rfl
                          refine sA_n ?_
                          refine a_condb (r7) (by rfl) (fun zc11 => ?_) (fun zc11 => ?_)
                          · have H := cond_t zc11 H
                            refine a_reg _ rfl (s := ?zs30) ?_ ?_
                            rotate_left
                            · simp (maxSteps := 2000000) only [EVT, stepR, evOp, St.ev, St.app, St.put, wrs, evBin, binInt, TIS, CS, Nat.reduceAdd, Nat.reduceMul, Nat.reduceEqDiff, ↓reduceIte, reduceCtorEq, Nat.reduceLT, Nat.reduceLeDiff, zg2, ↓zc10, ↓zc11]
                              (repeat' apply And.intro) <;> first | rfl | assumption | omega | (left; omega) | (simp; done) | (simp; omega) | (right; exact ⟨_, rfl, rfl, rfl, by decide, by first | omega | (simp; omega)⟩) | (simp_all; done)
                            refine bA_n ?_
                            refine cA_n ?_
                            refine wk_l [(some 0, ⟨26, 5, false, [[.int .i64 m1.from_, .int .i64 m1.to_, .int .i64 m1.kind, .list 1 (m1.nums.map (ci .i64)), .list 1 (m1.data.map (ci .u8))]]⟩)] [] [(0, .list 7 (l1.map Act.c)), (3, .ptr 0 0 0 5), (5, .bool r1), (6, .list 5 (r6.map Msg.c)), (7, .int .i64 (IntKind.wrap .i64 (put2 + many2))), (8, .int .i64 took2), (9, .int .i64 i1)] (by show ([0, 3, 5, 6, 7, 8, 9] : List Nat).Nodup; decide) (by show ([0] : List Nat).Nodup; decide) ?_ ?_ (fun t0 => ⟨r6, (IntKind.wrap .i64 (put2 + many2)), took2, t0, H, rfl⟩)
                            · exact (allB_some (by rfl) rfl (.cons (.cons (.int' rfl) (.cons (.int' rfl) (.cons (.int' rfl) (.cons (.lst _ _ _ (ci_pu .i64) rfl) (.cons (.lst _ _ _ (ci_pu .u8) rfl) .nil))))) .nil) trivial)
                            · (simp only [AllT, tl_cons, tl_nil, upd_apply, List.getD_cons_zero, List.getD_cons_succ, Nat.reduceEqDiff, ↓reduceIte, and_true]); exact ⟨(.lst _ _ _ Act.pu rfl), (.ptr _ _ _ _ _ rfl), (.bool' rfl), (.lst _ _ _ Msg.pu rfl), (.int' rfl), (.int' rfl), (.int' rfl)⟩
                          · have H := cond_f zc11 H
                            refine a_skip ?_
                            refine bA_n ?_
                            refine cA_n ?_
                            refine wk_l [(some 0, ⟨26, 5, false, [[.int .i64 m1.from_, .int .i64 m1.to_, .int .i64 m1.kind, .list 1 (m1.nums.map (ci .i64)), .list 1 (m1.data.map (ci .u8))]]⟩)] [] [(0, .list 7 (l1.map Act.c)), (3, .ptr 0 0 0 5), (5, .bool r1), (6, .list 5 (r6.map Msg.c)), (7, .int .i64 put2), (8, .int .i64 took2), (9, .int .i64 i1)] (by show ([0, 3, 5, 6, 7, 8, 9] : List Nat).Nodup; decide) (by show ([0] : List Nat).Nodup; decide) ?_ ?_ (fun t0 => ⟨r6, put2, took2, t0, H, rfl⟩)
                            · exact (allB_some (by rfl) rfl (.cons (.cons (.int' rfl) (.cons (.int' rfl) (.cons (.int' rfl) (.cons (.lst _ _ _ (ci_pu .i64) rfl) (.cons (.lst _ _ _ (ci_pu .u8) rfl) .nil))))) .nil) trivial)
                            · (simp only [AllT, tl_cons, tl_nil, upd_apply, List.getD_cons_zero, List.getD_cons_succ, Nat.reduceEqDiff, ↓reduceIte, and_true]); exact ⟨(.lst _ _ _ Act.pu rfl), (.ptr _ _ _ _ _ rfl), (.bool' rfl), (.lst _ _ _ Msg.pu rfl), (.int' rfl), (.int' rfl), (.int' rfl)⟩
              · rintro s ⟨w3, put3, took3, t0, H, rfl⟩
                unfold law05_WireCounts_J3 at H
                refine a_reg _ rfl (s := ?zs11) ?_ ?_
                rotate_left
                · simp (maxSteps := 2000000) only [EVT, stepR, evOp, St.ev, St.app, St.put, wrs, datOf, datOf1, evBin, binInt, TIS, CS, Nat.reduceAdd, Nat.reduceMul, Nat.reduceEqDiff, ↓reduceIte, reduceCtorEq, Nat.reduceLT, Nat.reduceLeDiff]
                  (repeat' apply And.intro) <;> first | rfl | assumption | omega | (left; omega) | (simp; done) | (simp; omega) | (right; exact ⟨_, rfl, rfl, rfl, by decide, by first | omega | (simp; omega)⟩) | (simp_all; done)
                refine lA_n ?_
                refine wk_l [(some 0, ⟨26, 5, false, [[.int .i64 m1.from_, .int .i64 m1.to_, .int .i64 m1.kind, .list 1 (m1.nums.map (ci .i64)), .list 1 (m1.data.map (ci .u8))]]⟩)] [] [(0, .list 7 (l1.map Act.c)), (3, .ptr 0 0 0 5), (5, .bool r1), (6, .list 5 (w3.map Msg.c)), (7, .int .i64 put3), (8, .int .i64 took3), (9, .int .i64 (IntKind.wrap .i64 (i1 + 1)))] (by show ([0, 3, 5, 6, 7, 8, 9] : List Nat).Nodup; decide) (by show ([0] : List Nat).Nodup; decide) ?_ ?_ (fun t0 => ⟨_, Nat.lt_succ_self _, w3, put3, took3, (IntKind.wrap .i64 (i1 + 1)), t0, H, rfl⟩)
                · exact (allB_some (by rfl) rfl (.cons (.cons (.int' rfl) (.cons (.int' rfl) (.cons (.int' rfl) (.cons (.lst _ _ _ (ci_pu .i64) rfl) (.cons (.lst _ _ _ (ci_pu .u8) rfl) .nil))))) .nil) trivial)
                · (simp only [AllT, tl_cons, tl_nil, upd_apply, List.getD_cons_zero, List.getD_cons_succ, Nat.reduceEqDiff, ↓reduceIte, and_true]); exact ⟨(.lst _ _ _ Act.pu rfl), (.ptr _ _ _ _ _ rfl), (.bool' rfl), (.lst _ _ _ Msg.pu rfl), (.int' rfl), (.int' rfl), (.int' rfl)⟩
            · have H := cond_f zc3 H
              refine a_exit ?_
              refine sA_e ?_
              refine lA_e ?_
              refine bA_hit ?_
              refine cA_n ?_
              refine wk_l [(some 0, ⟨26, 5, false, [[.int .i64 m1.from_, .int .i64 m1.to_, .int .i64 m1.kind, .list 1 (m1.nums.map (ci .i64)), .list 1 (m1.data.map (ci .u8))]]⟩)] [] [(3, .ptr 0 0 0 5), (5, .bool r1), (6, .list 5 (w2.map Msg.c)), (7, .int .i64 put2), (8, .int .i64 took2)] (by show ([3, 5, 6, 7, 8] : List Nat).Nodup; decide) (by show ([0] : List Nat).Nodup; decide) ?_ ?_ (fun t0 => ⟨w2, put2, took2, t0, H, rfl⟩)
              · exact (allB_some (by rfl) rfl (.cons (.cons (.int' rfl) (.cons (.int' rfl) (.cons (.int' rfl) (.cons (.lst _ _ _ (ci_pu .i64) rfl) (.cons (.lst _ _ _ (ci_pu .u8) rfl) .nil))))) .nil) trivial)
              · (simp only [AllT, tl_cons, tl_nil, upd_apply, List.getD_cons_zero, List.getD_cons_succ, Nat.reduceEqDiff, ↓reduceIte, and_true]); exact ⟨(.ptr _ _ _ _ _ rfl), (.bool' rfl), (.lst _ _ _ Msg.pu rfl), (.int' rfl), (.int' rfl)⟩
      · rintro s ⟨w1, put1, took1, t0, H, rfl⟩
        unfold law05_WireCounts_J2 at H
        refine a_seq ?_
        refine bool_split (b := r1) (fun zc2 => ?_) (fun zc2 => ?_)
        · have H := cond_t zc2 H
          obtain ⟨r2, zh2, H⟩ := bind_some H
          have zk2 := ref05_Many_pc zh2
          refine a_reg _ rfl (s := ?zs7) ?_ ?_
          rotate_left
          · try simp (maxSteps := 2000000) only [EVT, stepR, evOp, St.ev, St.app, St.put, wrs, evLoad, cut, frz, evBin, binInt, datOf, datOf1, TIS, CS, Nat.reduceAdd, Nat.reduceMul, Nat.reduceEqDiff, ↓reduceIte, reduceCtorEq, Nat.reduceLT, Nat.reduceLeDiff, Array.reduceGetElem?, Nat.reduceSub, Nat.reduceBEq, ↓zc2]
            repeat' with_reducible apply And.intro
            all_goals try ((with_reducible show CallR _ _ _ _ _ _ _); refine cR_s zk2 (.cons (.lst _ _ _ Msg.pu rfl) (.cons (.agg' (.cons (.int' rfl) (.cons (.int' rfl) (.cons (.int' rfl) (.cons (.lst _ _ _ (ci_pu .i64) rfl) (.cons (.lst _ _ _ (ci_pu .u8) rfl) .nil)))))) .nil)) (.int _ _) ?_; simp (maxSteps := 2000000) only [EVT, stepR, evOp, St.ev, St.app, St.put, wrs, evLoad, cut, frz, evBin, binInt, datOf, datOf1, TIS, CS, Nat.reduceAdd, Nat.reduceMul, Nat.reduceEqDiff, ↓reduceIte, reduceCtorEq, Nat.reduceLT, Nat.reduceLeDiff, Array.reduceGetElem?, Nat.reduceSub, Nat.reduceBEq, ↓zc2])
            all_goals ((repeat' apply And.intro) <;> first | rfl | assumption | omega | (left; omega) | (simp; done) | (simp; omega) | (right; exact ⟨_, rfl, rfl, rfl, by decide, by first | omega | (simp; omega)⟩) | (simp_all; done))
          refine sA_n ?_
          refine a_ret ?_
          obtain rfl := Option.some.inj H
          refine e_r2 (d := ?zd2) ?_ ?_
          rotate_left
          · simp only [EVT, resR, single, evLoad, cut, TIS, CS, Nat.reduceAdd, Nat.reduceEqDiff, ↓reduceIte, reduceCtorEq, Nat.reduceLT, Nat.reduceLeDiff, Nat.reduceSub, Nat.reduceBEq, zc2]
            (repeat' apply And.intro) <;> first | rfl | assumption | omega | (simp; done)
          exact (.bool' rfl)
        · have H := cond_f zc2 H
          refine a_reg _ rfl (s := ?zs8) ?_ ?_
          rotate_left
          · simp (maxSteps := 2000000) only [EVT, stepR, evOp, St.ev, St.app, St.put, wrs, evLoad, cut, frz, evBin, binInt, datOf, datOf1, TIS, CS, Nat.reduceAdd, Nat.reduceMul, Nat.reduceEqDiff, ↓reduceIte, reduceCtorEq, Nat.reduceLT, Nat.reduceLeDiff, Array.reduceGetElem?, Nat.reduceSub, Nat.reduceBEq, ↓zc2]
            try simp (maxSteps := 2000000) only [EVT, stepR, evOp, St.ev, St.app, St.put, wrs, evLoad, cut, frz, evBin, binInt, datOf, datOf1, TIS, CS, Nat.reduceAdd, Nat.reduceMul, Nat.reduceEqDiff, ↓reduceIte, reduceCtorEq, Nat.reduceLT, Nat.reduceLeDiff, Array.reduceGetElem?, Nat.reduceSub, Nat.reduceBEq, ↓zc2]
            (repeat' apply And.intro) <;> first | rfl | assumption | omega | (left; omega) | (simp; done) | (simp; omega) | (right; exact ⟨_, rfl, rfl, rfl, by decide, by first | omega | (simp; omega)⟩) | (simp_all; done)
          refine sA_n ?_
          refine a_ret ?_
          obtain rfl := Option.some.inj H
          refine e_r2 (d := ?zd3) ?_ ?_
          rotate_left
          · simp only [EVT, resR, single, evLoad, cut, TIS, CS, Nat.reduceAdd, Nat.reduceEqDiff, ↓reduceIte, reduceCtorEq, Nat.reduceLT, Nat.reduceLeDiff, Nat.reduceSub, Nat.reduceBEq, zc2]
            (repeat' apply And.intro) <;> first | rfl | assumption | omega | (simp; done)
          exact (.bool' (by first | rfl | assumption | (simp_all; done)))
end
end Go.Proofs.Yteebeajhoemdpaa
