import Derived.Test.YtmkpokcfefjifaaDoorTy
set_option linter.unusedSectionVars false
/- Functions of the program as Lean functions, and that they are so; printed by a program of mine. -/
set_option linter.unusedSimpArgs false
set_option linter.unusedVariables false
namespace Go.Proofs.YtmkpokcfefjifaaDoor
open Go.Ab
open Nat (reduceAdd reduceMul reduceEqDiff reduceLT reduceLeDiff reduceSub)
noncomputable section

def law15_Fits_f (m1 : Msg) : Option Bool :=
 some ((decide ((m1.nums.length : Int) ≤ 60)) && (decide ((m1.data.length : Int) ≤ 2400)))
set_option maxHeartbeats 4000000 in
set_option maxRecDepth 20000 in
theorem law15_Fits_pc {m1 : Msg} {r : Bool} (H : law15_Fits_f m1 = some r) : PC Tryd.prog 10 [.agg (Msg.c m1)] (.bool r) := by
 refine pcA_of Tryd.func10 (by rfl) (by decide) 13 (by rfl) [.tmp 2] (by rfl) ?_
 unfold law15_Fits_f at H
 simp only [ent]
 refine a_seq ?_
 refine a_regC _ rfl ?_
 refine sA_n ?_
 refine a_seq ?_
 refine bool_split (b := (decide ((m1.nums.length : Int) ≤ 60))) (fun zc1 => ?_) (fun zc1 => ?_)
 ·rw [zc1] at H
  refine a_regC _ rfl ?_
  refine sA_n ?_
  exact a_ret RT
 ·rw [zc1] at H
  refine a_regC _ rfl ?_
  refine sA_n ?_
  refine a_ret ?_
  obtain rfl := Option.some.inj H
  refine e_r2 (d := ?zd2) ?_ ?_
  rotate_left
  ·simp only [EVT, resR, single, evLoad, cut, TIS, CS, reduceAdd, reduceEqDiff, ↓reduceIte, reduceCtorEq, reduceLT, reduceLeDiff, reduceSub, Nat.reduceBEq, zc1]
   (repeat' apply And.intro) <;> first | rfl | assumption | omega | (simp; done)
  exact ZZ
def law13_Fits_J1 : Option Bool :=
 some (true)
def law13_Fits_L1 (l1 : List Entry) : Nat → Int → Option Bool
 | 0, _ => none
 | m_ + 1, i1 => cond (decide (i1 < (l1.length : Int))) ((idx l1 i1).bind fun x1 => cond (decide (40 < (x1.data.length : Int))) (some (false)) (law13_Fits_L1 l1 m_ (IntKind.wrap .i64 (i1 + 1)))) (law13_Fits_J1)
def law13_Fits_f (l1 : List Entry) : Option Bool :=
 cond (decide (60 < (l1.length : Int))) (some (false)) (law13_Fits_L1 l1 BIG 0)
set_option maxHeartbeats 4000000 in
set_option maxRecDepth 20000 in
theorem law13_Fits_pc {l1 : List Entry} {r : Bool} (H : law13_Fits_f l1 = some r) : PC Tryd.prog 28 [.list 2 (l1.map Entry.c)] (.bool r) := by
 refine pcA_of Tryd.func28 (by rfl) (by decide) 20 (by rfl) [.tmp 2] (by rfl) ?_
 unfold law13_Fits_f at H
 simp only [ent]
 refine a_seq ?_
 refine a_regC _ rfl ?_
 refine sA_n ?_
 refine a_seq ?_
 refine a_seq ?_
 refine a_regC _ rfl ?_
 refine sA_n ?_
 refine a_cnd H (fun zc1 H => ?_) (fun zc1 H => ?_)
 ·refine a_seq ?_
  refine a_regC _ rfl ?_
  refine sA_n ?_
  exact a_ret (sA_r RT)
 ·refine a_skip ?_
  refine sA_n ?_
  refine a_cut (fun s => ∃ (t0 : Nat → Dat), law13_Fits_J1 = some r ∧ s = ⟨tl t0 [], hl [], 0, 20⟩) ?_ ?_
  ·refine a_seq ?_
   refine a_regC _ rfl ?_
   refine sA_n ?_
   refine a_blk ?_
   refine a_loop (fun m s => ∃ (i1 : Int) (t0 : Nat → Dat), law13_Fits_L1 l1 m i1 = some r ∧ s = ⟨tl t0 [(0, .list 2 (l1.map Entry.c)), (3, .int .i64 i1)], hl [], 0, 20⟩) BIG ?_ ?_
   ·exact wk_lA [] [] (fun t0 => ⟨0, t0, H, rfl⟩)
   ·rintro m_law13_Fits_L1 s ⟨i1, t0, H, rfl⟩
    obtain _ | m_law13_Fits_L1 := m_law13_Fits_L1
    ·cases (show (none : Option _) = some _ from H)
    ·rw [law13_Fits_L1] at H
     refine a_seq ?_
     refine a_seq ?_
     refine a_regC _ rfl ?_
     refine sA_n ?_
     refine a_cnd H (fun zc2 H => ?_) (fun zc2 H => ?_)
     ·refine a_skip ?_
      refine sA_n ?_
      refine a_seq ?_
      refine a_blk ?_
      refine a_seq ?_
      obtain ⟨x1, zh1, H⟩ := bind_some H
      obtain ⟨zg1, zh1a, zh1b⟩ := idx3 (f := Entry.c) zh1
      try simp only [Int.reduceToNat, Int.toNat_natCast] at zg1
      refine a_regC _ rfl ?_
      refine sA_n ?_
      refine a_cnd H (fun zc3 H => ?_) (fun zc3 H => ?_)
      ·refine a_seq ?_
       refine a_regC _ rfl ?_
       refine sA_n ?_
       refine a_ret ?_
       refine bA_r ?_
       refine sA_r ?_
       refine lA_r ?_
       refine bA_r ?_
       refine cA_r ?_
       obtain rfl := Option.some.inj H
       refine e_r2 (d := ?zd3) ?_ ?_
       rotate_left
       ·simp only [EVT, resR, single, evLoad, cut, TIS, CS, reduceAdd, reduceEqDiff, ↓reduceIte, reduceCtorEq, reduceLT, reduceLeDiff, reduceSub, Nat.reduceBEq, zc2, zg1, zc3]
        (repeat' apply And.intro) <;> first | rfl | assumption | omega | (simp; done)
       exact ZZ
      ·refine a_skip ?_
       refine bA_n ?_
       refine sA_n ?_
       refine a_regC _ rfl ?_
       refine lA_n ?_
       exact wk_lA [] [] (fun t0 => ⟨_, Nat.lt_succ_self _, (IntKind.wrap .i64 (i1 + 1)), t0, H, rfl⟩)
     ·refine a_exit ?_
      refine sA_e ?_
      refine lA_e ?_
      refine bA_hit ?_
      refine cA_n ?_
      exact wk_lA [] [] (fun t0 => ⟨t0, H, rfl⟩)
  ·rintro s ⟨t0, H, rfl⟩
   unfold law13_Fits_J1 at H
   refine a_seq ?_
   refine a_regC _ rfl ?_
   refine sA_n ?_
   refine a_ret ?_
   obtain rfl := Option.some.inj H
   refine e_r2 (d := ?zd2) ?_ ?_
   rotate_left
   ·simp only [EVT, resR, single, evLoad, cut, TIS, CS, reduceAdd, reduceEqDiff, ↓reduceIte, reduceCtorEq, reduceLT, reduceLeDiff, reduceSub, Nat.reduceBEq]
    (repeat' apply And.intro) <;> first | rfl | assumption | omega | (simp; done)
   exact ZZ
def law15_Great_f (s1 : Seat) : Option Bool :=
 cond (decide (20 < (s1.peers.length : Int))) (some (true)) (cond (decide (20 < (s1.votes.length : Int))) (some (true)) (cond (decide (20 < (s1.next.length : Int))) (some (true)) (cond (decide (20 < (s1.match_.length : Int))) (some (true)) ((law13_Fits_f s1.log).bind fun r1 => some ((!r1))))))
set_option maxHeartbeats 4000000 in
set_option maxRecDepth 20000 in
theorem law15_Great_pc {s1 : Seat} {r : Bool} (H : law15_Great_f s1 = some r) : PC Tryd.prog 9 [.agg (Seat.c s1)] (.bool r) := by
 refine pcA_of Tryd.func9 (by rfl) (by decide) 31 (by rfl) [.tmp 2] (by rfl) ?_
 unfold law15_Great_f at H
 simp only [ent]
 refine a_seq ?_
 refine a_regC _ rfl ?_
 refine sA_n ?_
 refine a_seq ?_
 refine cnd H (fun zc1 H => ?_) (fun zc1 H => ?_)
 ·refine a_reg _ rfl (s := ?zs2) ?_ ?_
  rotate_left
  ·simp only [EVT, stepR, evOp, St.ev, St.app, St.put, wrs, evFieldAddr, evLoad, cut, evBuiltin, datOf, datOf1, evBin, binInt, frz, evUn, TIS, CS, reduceAdd, reduceMul, reduceEqDiff, ↓reduceIte, reduceCtorEq, reduceLT, reduceLeDiff, Array.reduceGetElem?, reduceSub, Nat.reduceBEq, ↓zc1]
   try simp only [EVT, stepR, evOp, St.ev, St.app, St.put, wrs, evFieldAddr, evLoad, cut, evBuiltin, datOf, datOf1, evBin, binInt, frz, evUn, TIS, CS, reduceAdd, reduceMul, reduceEqDiff, ↓reduceIte, reduceCtorEq, reduceLT, reduceLeDiff, Array.reduceGetElem?, reduceSub, Nat.reduceBEq, ↓zc1]
   (repeat' apply And.intro) <;> first|rfl|assumption|omega|(simp;done)|(simp;omega)|(simp_all;done)
  refine sA_n ?_
  refine a_ret ?_
  obtain rfl := Option.some.inj H
  refine e_r2 (d := ?zd1) ?_ ?_
  rotate_left
  ·simp only [EVT, resR, single, evLoad, cut, TIS, CS, reduceAdd, reduceEqDiff, ↓reduceIte, reduceCtorEq, reduceLT, reduceLeDiff, reduceSub, Nat.reduceBEq, zc1]
   (repeat' apply And.intro) <;> first | rfl | assumption | omega | (simp; done)
  exact ZZ
 ·refine cnd H (fun zc2 H => ?_) (fun zc2 H => ?_)
  ·refine a_reg _ rfl (s := ?zs3) ?_ ?_
   rotate_left
   ·simp only [EVT, stepR, evOp, St.ev, St.app, St.put, wrs, evFieldAddr, evLoad, cut, evBuiltin, datOf, datOf1, evBin, binInt, frz, evUn, TIS, CS, reduceAdd, reduceMul, reduceEqDiff, ↓reduceIte, reduceCtorEq, reduceLT, reduceLeDiff, Array.reduceGetElem?, reduceSub, Nat.reduceBEq, ↓zc1, ↓zc2]
    try simp only [EVT, stepR, evOp, St.ev, St.app, St.put, wrs, evFieldAddr, evLoad, cut, evBuiltin, datOf, datOf1, evBin, binInt, frz, evUn, TIS, CS, reduceAdd, reduceMul, reduceEqDiff, ↓reduceIte, reduceCtorEq, reduceLT, reduceLeDiff, Array.reduceGetElem?, reduceSub, Nat.reduceBEq, ↓zc1, ↓zc2]
    (repeat' apply And.intro) <;> first|rfl|assumption|omega|(simp;done)|(simp;omega)|(simp_all;done)
   refine sA_n ?_
   refine a_ret ?_
   obtain rfl := Option.some.inj H
   refine e_r2 (d := ?zd2) ?_ ?_
   rotate_left
   ·simp only [EVT, resR, single, evLoad, cut, TIS, CS, reduceAdd, reduceEqDiff, ↓reduceIte, reduceCtorEq, reduceLT, reduceLeDiff, reduceSub, Nat.reduceBEq, zc1, zc2]
    (repeat' apply And.intro) <;> first | rfl | assumption | omega | (simp; done)
   exact ZZ
  ·refine cnd H (fun zc3 H => ?_) (fun zc3 H => ?_)
   ·refine a_reg _ rfl (s := ?zs4) ?_ ?_
    rotate_left
    ·simp only [EVT, stepR, evOp, St.ev, St.app, St.put, wrs, evFieldAddr, evLoad, cut, evBuiltin, datOf, datOf1, evBin, binInt, frz, evUn, TIS, CS, reduceAdd, reduceMul, reduceEqDiff, ↓reduceIte, reduceCtorEq, reduceLT, reduceLeDiff, Array.reduceGetElem?, reduceSub, Nat.reduceBEq, ↓zc1, ↓zc2, ↓zc3]
     try simp only [EVT, stepR, evOp, St.ev, St.app, St.put, wrs, evFieldAddr, evLoad, cut, evBuiltin, datOf, datOf1, evBin, binInt, frz, evUn, TIS, CS, reduceAdd, reduceMul, reduceEqDiff, ↓reduceIte, reduceCtorEq, reduceLT, reduceLeDiff, Array.reduceGetElem?, reduceSub, Nat.reduceBEq, ↓zc1, ↓zc2, ↓zc3]
     (repeat' apply And.intro) <;> first|rfl|assumption|omega|(simp;done)|(simp;omega)|(simp_all;done)
    refine sA_n ?_
    refine a_ret ?_
    obtain rfl := Option.some.inj H
    refine e_r2 (d := ?zd3) ?_ ?_
    rotate_left
    ·simp only [EVT, resR, single, evLoad, cut, TIS, CS, reduceAdd, reduceEqDiff, ↓reduceIte, reduceCtorEq, reduceLT, reduceLeDiff, reduceSub, Nat.reduceBEq, zc1, zc2, zc3]
     (repeat' apply And.intro) <;> first | rfl | assumption | omega | (simp; done)
    exact ZZ
   ·refine cnd H (fun zc4 H => ?_) (fun zc4 H => ?_)
    ·refine a_reg _ rfl (s := ?zs5) ?_ ?_
     rotate_left
     ·simp only [EVT, stepR, evOp, St.ev, St.app, St.put, wrs, evFieldAddr, evLoad, cut, evBuiltin, datOf, datOf1, evBin, binInt, frz, evUn, TIS, CS, reduceAdd, reduceMul, reduceEqDiff, ↓reduceIte, reduceCtorEq, reduceLT, reduceLeDiff, Array.reduceGetElem?, reduceSub, Nat.reduceBEq, ↓zc1, ↓zc2, ↓zc3, ↓zc4]
      try simp only [EVT, stepR, evOp, St.ev, St.app, St.put, wrs, evFieldAddr, evLoad, cut, evBuiltin, datOf, datOf1, evBin, binInt, frz, evUn, TIS, CS, reduceAdd, reduceMul, reduceEqDiff, ↓reduceIte, reduceCtorEq, reduceLT, reduceLeDiff, Array.reduceGetElem?, reduceSub, Nat.reduceBEq, ↓zc1, ↓zc2, ↓zc3, ↓zc4]
      (repeat' apply And.intro) <;> first|rfl|assumption|omega|(simp;done)|(simp;omega)|(simp_all;done)
     refine sA_n ?_
     refine a_ret ?_
     obtain rfl := Option.some.inj H
     refine e_r2 (d := ?zd4) ?_ ?_
     rotate_left
     ·simp only [EVT, resR, single, evLoad, cut, TIS, CS, reduceAdd, reduceEqDiff, ↓reduceIte, reduceCtorEq, reduceLT, reduceLeDiff, reduceSub, Nat.reduceBEq, zc1, zc2, zc3, zc4]
      (repeat' apply And.intro) <;> first | rfl | assumption | omega | (simp; done)
     exact ZZ
    ·obtain ⟨r1, zh1, H⟩ := bind_some H
     have zk1 := law13_Fits_pc zh1
     refine a_regK _ rfl ?_
     refine sA_n ?_
     refine a_ret ?_
     obtain rfl := Option.some.inj H
     refine e_r2 (d := ?zd5) ?_ ?_
     rotate_left
     ·simp only [EVT, resR, single, evLoad, cut, TIS, CS, reduceAdd, reduceEqDiff, ↓reduceIte, reduceCtorEq, reduceLT, reduceLeDiff, reduceSub, Nat.reduceBEq, zc1, zc2, zc3, zc4]
      (repeat' apply And.intro) <;> first | rfl | assumption | omega | (simp; done)
     exact ZZ
def ref14_Ints_J1 : Option Bool :=
 some (true)
def ref14_Ints_L1 (a1 : List Int) (b1 : List Int) : Nat → Int → Option Bool
 | 0, _ => none
 | m_ + 1, i1 => cond (decide (i1 < (a1.length : Int))) ((idx a1 i1).bind fun x1 => (idx b1 i1).bind fun x2 => cond (x1 != x2) (some (false)) (ref14_Ints_L1 a1 b1 m_ (IntKind.wrap .i64 (i1 + 1)))) (ref14_Ints_J1)
def ref14_Ints_f (a1 : List Int) (b1 : List Int) : Option Bool :=
 cond ((a1.length : Int) != (b1.length : Int)) (some (false)) (ref14_Ints_L1 a1 b1 BIG 0)
set_option maxHeartbeats 4000000 in
set_option maxRecDepth 20000 in
theorem ref14_Ints_pc {a1 : List Int} {b1 : List Int} {r : Bool} (H : ref14_Ints_f a1 b1 = some r) : PC Tryd.prog 21 [.list 1 (a1.map (ci .i64)), .list 1 (b1.map (ci .i64))] (.bool r) := by
 refine pcA_of Tryd.func21 (by rfl) (by decide) 26 (by rfl) [.tmp 4] (by rfl) ?_
 unfold ref14_Ints_f at H
 simp only [ent]
 refine a_seq ?_
 refine a_regC _ rfl ?_
 refine sA_n ?_
 refine a_seq ?_
 refine a_seq ?_
 refine a_regC _ rfl ?_
 refine sA_n ?_
 refine a_cnd H (fun zc1 H => ?_) (fun zc1 H => ?_)
 ·refine a_seq ?_
  refine a_regC _ rfl ?_
  refine sA_n ?_
  exact a_ret (sA_r RT)
 ·refine a_skip ?_
  refine sA_n ?_
  refine a_cut (fun s => ∃ (t0 : Nat → Dat), ref14_Ints_J1 = some r ∧ s = ⟨tl t0 [], hl [], 0, 26⟩) ?_ ?_
  ·refine a_seq ?_
   refine a_regC _ rfl ?_
   refine sA_n ?_
   refine a_blk ?_
   refine a_loop (fun m s => ∃ (i1 : Int) (t0 : Nat → Dat), ref14_Ints_L1 a1 b1 m i1 = some r ∧ s = ⟨tl t0 [(0, .list 1 (a1.map (ci .i64))), (1, .list 1 (b1.map (ci .i64))), (5, .int .i64 i1)], hl [], 0, 26⟩) BIG ?_ ?_
   ·exact wk_lA [] [] (fun t0 => ⟨0, t0, H, rfl⟩)
   ·rintro m_ref14_Ints_L1 s ⟨i1, t0, H, rfl⟩
    obtain _ | m_ref14_Ints_L1 := m_ref14_Ints_L1
    ·cases (show (none : Option _) = some _ from H)
    ·rw [ref14_Ints_L1] at H
     refine a_seq ?_
     refine a_seq ?_
     refine a_regC _ rfl ?_
     refine sA_n ?_
     refine a_cnd H (fun zc2 H => ?_) (fun zc2 H => ?_)
     ·refine a_skip ?_
      refine sA_n ?_
      refine a_seq ?_
      refine a_blk ?_
      refine a_seq ?_
      obtain ⟨x1, zh1, H⟩ := bind_some H
      obtain ⟨zg1, zh1a, zh1b⟩ := idx3 (f := (ci .i64)) zh1
      try simp only [Int.reduceToNat, Int.toNat_natCast] at zg1
      obtain ⟨x2, zh2, H⟩ := bind_some H
      obtain ⟨zg2, zh2a, zh2b⟩ := idx3 (f := (ci .i64)) zh2
      try simp only [Int.reduceToNat, Int.toNat_natCast] at zg2
      refine a_drW (by kernel_rfl) _ rfl (s := ?zs7) (by kernel_rfl) (by kernel_rfl) ?zs7f ?_ ?_ ?_
      rotate_left 2
      ·refine goS ?_
       (repeat' apply And.intro) <;> first|rfl|assumption|omega|(simp;done)|(simp;omega)|(simp_all;done)
      ·kernel_rfl
      refine sA_n ?_
      refine a_cnd H (fun zc3 H => ?_) (fun zc3 H => ?_)
      ·refine a_seq ?_
       refine a_regC _ rfl ?_
       refine sA_n ?_
       refine a_ret ?_
       refine bA_r ?_
       refine sA_r ?_
       refine lA_r ?_
       refine bA_r ?_
       refine cA_r ?_
       obtain rfl := Option.some.inj H
       refine e_r2 (d := ?zd3) ?_ ?_
       rotate_left
       ·simp only [EVT, resR, single, evLoad, cut, TIS, CS, reduceAdd, reduceEqDiff, ↓reduceIte, reduceCtorEq, reduceLT, reduceLeDiff, reduceSub, Nat.reduceBEq, zc2, zg1, zg2, zc3]
        (repeat' apply And.intro) <;> first | rfl | assumption | omega | (simp; done)
       exact ZZ
      ·refine a_skip ?_
       refine bA_n ?_
       refine sA_n ?_
       refine a_regC _ rfl ?_
       refine lA_n ?_
       exact wk_lA [] [] (fun t0 => ⟨_, Nat.lt_succ_self _, (IntKind.wrap .i64 (i1 + 1)), t0, H, rfl⟩)
     ·refine a_exit ?_
      refine sA_e ?_
      refine lA_e ?_
      refine bA_hit ?_
      refine cA_n ?_
      exact wk_lA [] [] (fun t0 => ⟨t0, H, rfl⟩)
  ·rintro s ⟨t0, H, rfl⟩
   unfold ref14_Ints_J1 at H
   refine a_seq ?_
   refine a_regC _ rfl ?_
   refine sA_n ?_
   refine a_ret ?_
   obtain rfl := Option.some.inj H
   refine e_r2 (d := ?zd2) ?_ ?_
   rotate_left
   ·simp only [EVT, resR, single, evLoad, cut, TIS, CS, reduceAdd, reduceEqDiff, ↓reduceIte, reduceCtorEq, reduceLT, reduceLeDiff, reduceSub, Nat.reduceBEq]
    (repeat' apply And.intro) <;> first | rfl | assumption | omega | (simp; done)
   exact ZZ
def ref14_Log_J1 : Option Bool :=
 some (true)
def ref14_Log_J2 (k_ref14_Log_L1 : Int → Option Bool) (i1 : Int) : Option Bool :=
 k_ref14_Log_L1 (IntKind.wrap .i64 (i1 + 1))
def ref14_Log_L2 (k_ref14_Log_L1 : Int → Option Bool) (a1 : List Entry) (i1 : Int) (b1 : List Entry) : Nat → Int → Option Bool
 | 0, _ => none
 | m_ + 1, k1 => (idx a1 i1).bind fun x1 => cond (decide (k1 < (x1.data.length : Int))) ((idx x1.data k1).bind fun x2 => (idx b1 i1).bind fun x3 => (idx x3.data k1).bind fun x4 => cond (x2 != x4) (some (false)) (ref14_Log_L2 k_ref14_Log_L1 a1 i1 b1 m_ (IntKind.wrap .i64 (k1 + 1)))) (ref14_Log_J2 k_ref14_Log_L1 i1)
def ref14_Log_J3 (k_ref14_Log_L1 : Int → Option Bool) (a1 : List Entry) (i1 : Int) (b1 : List Entry) (v1 : Bool) : Option Bool :=
 cond v1 (some (false)) (ref14_Log_L2 k_ref14_Log_L1 a1 i1 b1 BIG 0)
def ref14_Log_L1 (a1 : List Entry) (b1 : List Entry) : Nat → Int → Option Bool
 | 0, _ => none
 | m_ + 1, i1 => cond (decide (i1 < (a1.length : Int))) ((idx a1 i1).bind fun x5 => (idx b1 i1).bind fun x6 => ref14_Log_J3 (ref14_Log_L1 a1 b1 m_) a1 i1 b1 ((x5.term != x6.term) || ((x5.data.length : Int) != (x6.data.length : Int)))) (ref14_Log_J1)
def ref14_Log_f (a1 : List Entry) (b1 : List Entry) : Option Bool :=
 cond ((a1.length : Int) != (b1.length : Int)) (some (false)) (ref14_Log_L1 a1 b1 BIG 0)
set_option maxHeartbeats 4000000 in
set_option maxRecDepth 20000 in
theorem ref14_Log_pc {a1 : List Entry} {b1 : List Entry} {r : Bool} (H : ref14_Log_f a1 b1 = some r) : PC Tryd.prog 43 [.list 2 (a1.map Entry.c), .list 2 (b1.map Entry.c)] (.bool r) := by
 refine pcA_of Tryd.func43 (by rfl) (by decide) 71 (by rfl) [.tmp 4] (by rfl) ?_
 unfold ref14_Log_f at H
 simp only [ent]
 refine a_seq ?_
 refine a_regC _ rfl ?_
 refine sA_n ?_
 refine a_seq ?_
 refine a_seq ?_
 refine a_regC _ rfl ?_
 refine sA_n ?_
 refine a_cnd H (fun zc1 H => ?_) (fun zc1 H => ?_)
 ·refine a_seq ?_
  refine a_regC _ rfl ?_
  refine sA_n ?_
  exact a_ret (sA_r RT)
 ·refine a_skip ?_
  refine sA_n ?_
  refine a_cut (fun s => ∃ (t0 : Nat → Dat), ref14_Log_J1 = some r ∧ s = ⟨tl t0 [], hl [], 0, 71⟩) ?_ ?_
  ·refine a_seq ?_
   refine a_regC _ rfl ?_
   refine sA_n ?_
   refine a_blk ?_
   refine a_loop (fun m s => ∃ (i1 : Int) (t0 : Nat → Dat), ref14_Log_L1 a1 b1 m i1 = some r ∧ s = ⟨tl t0 [(0, .list 2 (a1.map Entry.c)), (1, .list 2 (b1.map Entry.c)), (5, .int .i64 i1)], hl [], 0, 71⟩) BIG ?_ ?_
   ·exact wk_lA [] [] (fun t0 => ⟨0, t0, H, rfl⟩)
   ·rintro m_ref14_Log_L1 s ⟨i1, t0, H, rfl⟩
    obtain _ | m_ref14_Log_L1 := m_ref14_Log_L1
    ·cases (show (none : Option _) = some _ from H)
    ·rw [ref14_Log_L1] at H
     refine a_seq ?_
     refine a_seq ?_
     refine a_regC _ rfl ?_
     refine sA_n ?_
     refine a_cnd H (fun zc2 H => ?_) (fun zc2 H => ?_)
     ·refine a_skip ?_
      refine sA_n ?_
      refine a_cut (fun s => ∃ (t0 : Nat → Dat), ref14_Log_J2 (ref14_Log_L1 a1 b1 m_ref14_Log_L1) i1 = some r ∧ s = ⟨tl t0 [(0, .list 2 (a1.map Entry.c)), (1, .list 2 (b1.map Entry.c)), (5, .int .i64 i1)], hl [], 0, 71⟩) ?_ ?_
      ·refine a_blk ?_
       refine a_seq ?_
       refine a_cut (fun s => ∃ (v1 : Bool) (t0 : Nat → Dat), ref14_Log_J3 (ref14_Log_L1 a1 b1 m_ref14_Log_L1) a1 i1 b1 v1 = some r ∧ s = ⟨tl t0 [(0, .list 2 (a1.map Entry.c)), (1, .list 2 (b1.map Entry.c)), (5, .int .i64 i1), (43, .bool v1)], hl [], 0, 71⟩) ?_ ?_
       ·obtain ⟨x5, zh5, H⟩ := bind_some H
        obtain ⟨zg5, zh5a, zh5b⟩ := idx3 (f := Entry.c) zh5
        try simp only [Int.reduceToNat, Int.toNat_natCast] at zg5
        obtain ⟨x6, zh6, H⟩ := bind_some H
        obtain ⟨zg6, zh6a, zh6b⟩ := idx3 (f := Entry.c) zh6
        try simp only [Int.reduceToNat, Int.toNat_natCast] at zg6
        refine bool_split (b := (x5.term != x6.term)) (fun zc6 => ?_) (fun zc6 => ?_)
        ·rw [zc6] at H
         refine a_drW (by kernel_rfl) _ rfl (s := ?zs14) (by kernel_rfl) (by kernel_rfl) ?zs14f ?_ ?_ ?_
         rotate_left 2
         ·refine goS ?_
          try refine goS ?_
          (repeat' apply And.intro) <;> first|rfl|assumption|omega|(simp;done)|(simp;omega)|(simp_all;done)
         ·kernel_rfl
         refine cA_n ?_
         exact wk_lA [] [] (fun t0 => ⟨true, t0, H, rfl⟩)
        ·rw [zc6] at H
         refine a_drW (by kernel_rfl) _ rfl (s := ?zs15) (by kernel_rfl) (by kernel_rfl) ?zs15f ?_ ?_ ?_
         rotate_left 2
         ·refine goS ?_
          try refine goS ?_
          (repeat' apply And.intro) <;> first|rfl|assumption|omega|(simp;done)|(simp;omega)|(simp_all;done)
         ·kernel_rfl
         refine cA_n ?_
         exact wk_lA [] [] (fun t0 => ⟨((x5.data.length : Int) != (x6.data.length : Int)), t0, H, rfl⟩)
       ·rintro s ⟨v1, t0, H, rfl⟩
        unfold ref14_Log_J3 at H
        refine a_cnd H (fun zc3 H => ?_) (fun zc3 H => ?_)
        ·refine a_seq ?_
         refine a_regC _ rfl ?_
         refine sA_n ?_
         refine a_ret ?_
         refine sA_r ?_
         refine bA_r ?_
         refine cA_r ?_
         refine lA_r ?_
         refine bA_r ?_
         refine cA_r ?_
         obtain rfl := Option.some.inj H
         refine e_r2 (d := ?zd3) ?_ ?_
         rotate_left
         ·simp only [EVT, resR, single, evLoad, cut, TIS, CS, reduceAdd, reduceEqDiff, ↓reduceIte, reduceCtorEq, reduceLT, reduceLeDiff, reduceSub, Nat.reduceBEq, zc3]
          (repeat' apply And.intro) <;> first | rfl | assumption | omega | (simp; done)
         exact ZZ
        ·refine a_skip ?_
         refine sA_n ?_
         refine a_seq ?_
         refine a_regC _ rfl ?_
         refine sA_n ?_
         refine a_blk ?_
         refine a_loop (fun m s => ∃ (k1 : Int) (t0 : Nat → Dat), ref14_Log_L2 (ref14_Log_L1 a1 b1 m_ref14_Log_L1) a1 i1 b1 m k1 = some r ∧ s = ⟨tl t0 [(0, .list 2 (a1.map Entry.c)), (1, .list 2 (b1.map Entry.c)), (5, .int .i64 i1), (6, .int .i64 k1)], hl [], 0, 71⟩) BIG ?_ ?_
         ·exact wk_lA [] [] (fun t0 => ⟨0, t0, H, rfl⟩)
         ·rintro m_ref14_Log_L2 s ⟨k1, t0, H, rfl⟩
          obtain _ | m_ref14_Log_L2 := m_ref14_Log_L2
          ·cases (show (none : Option _) = some _ from H)
          ·rw [ref14_Log_L2] at H
           refine a_seq ?_
           refine a_seq ?_
           obtain ⟨x1, zh1, H⟩ := bind_some H
           obtain ⟨zg1, zh1a, zh1b⟩ := idx3 (f := Entry.c) zh1
           try simp only [Int.reduceToNat, Int.toNat_natCast] at zg1
           refine a_regC _ rfl ?_
           refine sA_n ?_
           refine a_cnd H (fun zc4 H => ?_) (fun zc4 H => ?_)
           ·refine a_skip ?_
            refine sA_n ?_
            refine a_seq ?_
            refine a_blk ?_
            refine a_seq ?_
            obtain ⟨x2, zh2, H⟩ := bind_some H
            obtain ⟨zg2, zh2a, zh2b⟩ := idx3 (f := (ci .u8)) zh2
            try simp only [Int.reduceToNat, Int.toNat_natCast] at zg2
            obtain ⟨x3, zh3, H⟩ := bind_some H
            obtain ⟨zg3, zh3a, zh3b⟩ := idx3 (f := Entry.c) zh3
            try simp only [Int.reduceToNat, Int.toNat_natCast] at zg3
            obtain ⟨x4, zh4, H⟩ := bind_some H
            obtain ⟨zg4, zh4a, zh4b⟩ := idx3 (f := (ci .u8)) zh4
            try simp only [Int.reduceToNat, Int.toNat_natCast] at zg4
            refine a_drW (by kernel_rfl) _ rfl (s := ?zs11) (by kernel_rfl) (by kernel_rfl) ?zs11f ?_ ?_ ?_
            rotate_left 2
            ·refine goS ?_
             (repeat' apply And.intro) <;> first|rfl|assumption|omega|(simp;done)|(simp;omega)|(simp_all;done)
            ·kernel_rfl
            refine sA_n ?_
            refine a_cnd H (fun zc5 H => ?_) (fun zc5 H => ?_)
            ·refine a_seq ?_
             refine a_regC _ rfl ?_
             refine sA_n ?_
             refine a_ret ?_
             refine bA_r ?_
             refine sA_r ?_
             refine lA_r ?_
             refine bA_r ?_
             refine bA_r ?_
             refine cA_r ?_
             refine lA_r ?_
             refine bA_r ?_
             refine cA_r ?_
             obtain rfl := Option.some.inj H
             refine e_r2 (d := ?zd4) ?_ ?_
             rotate_left
             ·simp only [EVT, resR, single, evLoad, cut, TIS, CS, reduceAdd, reduceEqDiff, ↓reduceIte, reduceCtorEq, reduceLT, reduceLeDiff, reduceSub, Nat.reduceBEq, zg1, zc4, zg2, zg3, zg4, zc5]
              (repeat' apply And.intro) <;> first | rfl | assumption | omega | (simp; done)
             exact ZZ
            ·refine a_skip ?_
             refine bA_n ?_
             refine sA_n ?_
             refine a_regC _ rfl ?_
             refine lA_n ?_
             exact wk_lA [] [] (fun t0 => ⟨_, Nat.lt_succ_self _, (IntKind.wrap .i64 (k1 + 1)), t0, H, rfl⟩)
           ·refine a_exit ?_
            refine sA_e ?_
            refine lA_e ?_
            refine bA_hit ?_
            refine bA_n ?_
            refine cA_n ?_
            exact wk_lA [] [] (fun t0 => ⟨t0, H, rfl⟩)
      ·rintro s ⟨t0, H, rfl⟩
       unfold ref14_Log_J2 at H
       refine a_regC _ rfl ?_
       refine lA_n ?_
       exact wk_lA [] [] (fun t0 => ⟨_, Nat.lt_succ_self _, (IntKind.wrap .i64 (i1 + 1)), t0, H, rfl⟩)
     ·refine a_exit ?_
      refine sA_e ?_
      refine lA_e ?_
      refine bA_hit ?_
      refine cA_n ?_
      exact wk_lA [] [] (fun t0 => ⟨t0, H, rfl⟩)
  ·rintro s ⟨t0, H, rfl⟩
   unfold ref14_Log_J1 at H
   refine a_seq ?_
   refine a_regC _ rfl ?_
   refine sA_n ?_
   refine a_ret ?_
   obtain rfl := Option.some.inj H
   refine e_r2 (d := ?zd2) ?_ ?_
   rotate_left
   ·simp only [EVT, resR, single, evLoad, cut, TIS, CS, reduceAdd, reduceEqDiff, ↓reduceIte, reduceCtorEq, reduceLT, reduceLeDiff, reduceSub, Nat.reduceBEq]
    (repeat' apply And.intro) <;> first | rfl | assumption | omega | (simp; done)
   exact ZZ
def ref14_Same_f (a1 : Seat) (b1 : Seat) : Option Bool :=
 (ref14_Ints_f a1.peers b1.peers).bind fun r1 => (ref14_Log_f a1.log b1.log).bind fun r2 => (ref14_Ints_f a1.votes b1.votes).bind fun r3 => (ref14_Ints_f a1.next b1.next).bind fun r4 => (ref14_Ints_f a1.match_ b1.match_).bind fun r5 => some (r1 && (r2 && (r3 && (r4 && (r5 && ((a1.id == b1.id) && ((a1.term == b1.term) && ((a1.voted == b1.voted) && ((a1.role == b1.role) && (a1.commit == b1.commit))))))))))
set_option maxHeartbeats 4000000 in
set_option maxRecDepth 20000 in
theorem ref14_Same_pc {a1 : Seat} {b1 : Seat} {r : Bool} (H : ref14_Same_f a1 b1 = some r) : PC Tryd.prog 13 [.agg (Seat.c a1), .agg (Seat.c b1)] (.bool r) := by
 refine pcA_of Tryd.func13 (by rfl) (by decide) 83 (by rfl) [.tmp 4] (by rfl) ?_
 unfold ref14_Same_f at H
 simp only [ent]
 refine a_seq ?_
 refine a_regC _ rfl ?_
 refine sA_n ?_
 refine a_seq ?_
 obtain ⟨r1, zh1, H⟩ := bind_some H
 have zk1 := ref14_Ints_pc zh1
 refine a_regK _ rfl ?_
 refine sA_n ?_
 refine a_seq ?_
 obtain ⟨r2, zh2, H⟩ := bind_some H
 have zk2 := ref14_Log_pc zh2
 refine a_regK _ rfl ?_
 refine sA_n ?_
 refine a_seq ?_
 obtain ⟨r3, zh3, H⟩ := bind_some H
 have zk3 := ref14_Ints_pc zh3
 refine a_regK _ rfl ?_
 refine sA_n ?_
 refine a_seq ?_
 obtain ⟨r4, zh4, H⟩ := bind_some H
 have zk4 := ref14_Ints_pc zh4
 refine a_regK _ rfl ?_
 refine sA_n ?_
 refine a_seq ?_
 obtain ⟨r5, zh5, H⟩ := bind_some H
 have zk5 := ref14_Ints_pc zh5
 refine a_regK _ rfl ?_
 refine sA_n ?_
 refine a_seq ?_
 refine bool_split (b := r1) (fun zc1 => ?_) (fun zc1 => ?_)
 ·rw [zc1] at H
  refine bool_split (b := r2) (fun zc2 => ?_) (fun zc2 => ?_)
  ·rw [zc2] at H
   refine bool_split (b := r3) (fun zc3 => ?_) (fun zc3 => ?_)
   ·rw [zc3] at H
    refine bool_split (b := r4) (fun zc4 => ?_) (fun zc4 => ?_)
    ·rw [zc4] at H
     refine bool_split (b := r5) (fun zc5 => ?_) (fun zc5 => ?_)
     ·rw [zc5] at H
      refine bool_split (b := (a1.id == b1.id)) (fun zc6 => ?_) (fun zc6 => ?_)
      ·rw [zc6] at H
       refine bool_split (b := (a1.term == b1.term)) (fun zc7 => ?_) (fun zc7 => ?_)
       ·rw [zc7] at H
        refine bool_split (b := (a1.voted == b1.voted)) (fun zc8 => ?_) (fun zc8 => ?_)
        ·rw [zc8] at H
         refine bool_split (b := (a1.role == b1.role)) (fun zc9 => ?_) (fun zc9 => ?_)
         ·rw [zc9] at H
          refine a_regC _ rfl ?_
          refine sA_n ?_
          exact a_ret RT
         ·rw [zc9] at H
          refine a_regC _ rfl ?_
          refine sA_n ?_
          refine a_ret ?_
          obtain rfl := Option.some.inj H
          refine e_r2 (d := ?zd2) ?_ ?_
          rotate_left
          ·simp only [EVT, resR, single, evLoad, cut, TIS, CS, reduceAdd, reduceEqDiff, ↓reduceIte, reduceCtorEq, reduceLT, reduceLeDiff, reduceSub, Nat.reduceBEq, zc1, zc2, zc3, zc4, zc5, zc6, zc7, zc8, zc9]
           (repeat' apply And.intro) <;> first | rfl | assumption | omega | (simp; done)
          exact ZZ
        ·rw [zc8] at H
         refine a_regC _ rfl ?_
         refine sA_n ?_
         refine a_ret ?_
         obtain rfl := Option.some.inj H
         refine e_r2 (d := ?zd3) ?_ ?_
         rotate_left
         ·simp only [EVT, resR, single, evLoad, cut, TIS, CS, reduceAdd, reduceEqDiff, ↓reduceIte, reduceCtorEq, reduceLT, reduceLeDiff, reduceSub, Nat.reduceBEq, zc1, zc2, zc3, zc4, zc5, zc6, zc7, zc8]
          (repeat' apply And.intro) <;> first | rfl | assumption | omega | (simp; done)
         exact ZZ
       ·rw [zc7] at H
        refine a_regC _ rfl ?_
        refine sA_n ?_
        refine a_ret ?_
        obtain rfl := Option.some.inj H
        refine e_r2 (d := ?zd4) ?_ ?_
        rotate_left
        ·simp only [EVT, resR, single, evLoad, cut, TIS, CS, reduceAdd, reduceEqDiff, ↓reduceIte, reduceCtorEq, reduceLT, reduceLeDiff, reduceSub, Nat.reduceBEq, zc1, zc2, zc3, zc4, zc5, zc6, zc7]
         (repeat' apply And.intro) <;> first | rfl | assumption | omega | (simp; done)
        exact ZZ
      ·rw [zc6] at H
       refine a_regC _ rfl ?_
       refine sA_n ?_
       refine a_ret ?_
       obtain rfl := Option.some.inj H
       refine e_r2 (d := ?zd5) ?_ ?_
       rotate_left
       ·simp only [EVT, resR, single, evLoad, cut, TIS, CS, reduceAdd, reduceEqDiff, ↓reduceIte, reduceCtorEq, reduceLT, reduceLeDiff, reduceSub, Nat.reduceBEq, zc1, zc2, zc3, zc4, zc5, zc6]
        (repeat' apply And.intro) <;> first | rfl | assumption | omega | (simp; done)
       exact ZZ
     ·rw [zc5] at H
      refine a_regC _ rfl ?_
      refine sA_n ?_
      refine a_ret ?_
      obtain rfl := Option.some.inj H
      refine e_r2 (d := ?zd6) ?_ ?_
      rotate_left
      ·simp only [EVT, resR, single, evLoad, cut, TIS, CS, reduceAdd, reduceEqDiff, ↓reduceIte, reduceCtorEq, reduceLT, reduceLeDiff, reduceSub, Nat.reduceBEq, zc1, zc2, zc3, zc4, zc5]
       (repeat' apply And.intro) <;> first | rfl | assumption | omega | (simp; done)
      exact ZZ
    ·rw [zc4] at H
     refine a_regC _ rfl ?_
     refine sA_n ?_
     refine a_ret ?_
     obtain rfl := Option.some.inj H
     refine e_r2 (d := ?zd7) ?_ ?_
     rotate_left
     ·simp only [EVT, resR, single, evLoad, cut, TIS, CS, reduceAdd, reduceEqDiff, ↓reduceIte, reduceCtorEq, reduceLT, reduceLeDiff, reduceSub, Nat.reduceBEq, zc1, zc2, zc3, zc4]
      (repeat' apply And.intro) <;> first | rfl | assumption | omega | (simp; done)
     exact ZZ
   ·rw [zc3] at H
    refine a_regC _ rfl ?_
    refine sA_n ?_
    refine a_ret ?_
    obtain rfl := Option.some.inj H
    refine e_r2 (d := ?zd8) ?_ ?_
    rotate_left
    ·simp only [EVT, resR, single, evLoad, cut, TIS, CS, reduceAdd, reduceEqDiff, ↓reduceIte, reduceCtorEq, reduceLT, reduceLeDiff, reduceSub, Nat.reduceBEq, zc1, zc2, zc3]
     (repeat' apply And.intro) <;> first | rfl | assumption | omega | (simp; done)
    exact ZZ
  ·rw [zc2] at H
   refine a_regC _ rfl ?_
   refine sA_n ?_
   refine a_ret ?_
   obtain rfl := Option.some.inj H
   refine e_r2 (d := ?zd9) ?_ ?_
   rotate_left
   ·simp only [EVT, resR, single, evLoad, cut, TIS, CS, reduceAdd, reduceEqDiff, ↓reduceIte, reduceCtorEq, reduceLT, reduceLeDiff, reduceSub, Nat.reduceBEq, zc1, zc2]
    (repeat' apply And.intro) <;> first | rfl | assumption | omega | (simp; done)
   exact ZZ
 ·rw [zc1] at H
  refine a_regC _ rfl ?_
  refine sA_n ?_
  refine a_ret ?_
  obtain rfl := Option.some.inj H
  refine e_r2 (d := ?zd10) ?_ ?_
  rotate_left
  ·simp only [EVT, resR, single, evLoad, cut, TIS, CS, reduceAdd, reduceEqDiff, ↓reduceIte, reduceCtorEq, reduceLT, reduceLeDiff, reduceSub, Nat.reduceBEq, zc1]
   (repeat' apply And.intro) <;> first | rfl | assumption | omega | (simp; done)
  exact ZZ
def ref14_Has_J1 : Option Bool :=
 some (false)
def ref14_Has_L1 (l1 : List Int) (x1 : Int) : Nat → Int → Option Bool
 | 0, _ => none
 | m_ + 1, i1 => cond (decide (i1 < (l1.length : Int))) ((idx l1 i1).bind fun x2 => cond (x2 == x1) (some (true)) (ref14_Has_L1 l1 x1 m_ (IntKind.wrap .i64 (i1 + 1)))) (ref14_Has_J1)
def ref14_Has_f (l1 : List Int) (x1 : Int) : Option Bool :=
 ref14_Has_L1 l1 x1 BIG 0
set_option maxHeartbeats 4000000 in
set_option maxRecDepth 20000 in
theorem ref14_Has_pc {l1 : List Int} {x1 : Int} {r : Bool} (H : ref14_Has_f l1 x1 = some r) : PC Tryd.prog 16 [.list 1 (l1.map (ci .i64)), .int .i64 x1] (.bool r) := by
 refine pcA_of Tryd.func16 (by rfl) (by decide) 18 (by rfl) [.tmp 4] (by rfl) ?_
 unfold ref14_Has_f at H
 simp only [ent]
 refine a_seq ?_
 refine a_regC _ rfl ?_
 refine sA_n ?_
 refine a_cut (fun s => ∃ (t0 : Nat → Dat), ref14_Has_J1 = some r ∧ s = ⟨tl t0 [], hl [], 0, 18⟩) ?_ ?_
 ·refine a_seq ?_
  refine a_regC _ rfl ?_
  refine sA_n ?_
  refine a_blk ?_
  refine a_loop (fun m s => ∃ (i1 : Int) (t0 : Nat → Dat), ref14_Has_L1 l1 x1 m i1 = some r ∧ s = ⟨tl t0 [(0, .list 1 (l1.map (ci .i64))), (1, .int .i64 x1), (5, .int .i64 i1)], hl [], 0, 18⟩) BIG ?_ ?_
  ·exact wk_lA [] [] (fun t0 => ⟨0, t0, H, rfl⟩)
  ·rintro m_ref14_Has_L1 s ⟨i1, t0, H, rfl⟩
   obtain _ | m_ref14_Has_L1 := m_ref14_Has_L1
   ·cases (show (none : Option _) = some _ from H)
   ·rw [ref14_Has_L1] at H
    refine a_seq ?_
    refine a_seq ?_
    refine a_regC _ rfl ?_
    refine sA_n ?_
    refine a_cnd H (fun zc1 H => ?_) (fun zc1 H => ?_)
    ·refine a_skip ?_
     refine sA_n ?_
     refine a_seq ?_
     refine a_blk ?_
     refine a_seq ?_
     obtain ⟨x2, zh1, H⟩ := bind_some H
     obtain ⟨zg1, zh1a, zh1b⟩ := idx3 (f := (ci .i64)) zh1
     try simp only [Int.reduceToNat, Int.toNat_natCast] at zg1
     refine a_regC _ rfl ?_
     refine sA_n ?_
     refine a_cnd H (fun zc2 H => ?_) (fun zc2 H => ?_)
     ·refine a_seq ?_
      refine a_regC _ rfl ?_
      refine sA_n ?_
      exact a_ret (bA_r (sA_r (lA_r (bA_r (cA_r RT)))))
     ·refine a_skip ?_
      refine bA_n ?_
      refine sA_n ?_
      refine a_regC _ rfl ?_
      refine lA_n ?_
      exact wk_lA [] [] (fun t0 => ⟨_, Nat.lt_succ_self _, (IntKind.wrap .i64 (i1 + 1)), t0, H, rfl⟩)
    ·refine a_exit ?_
     refine sA_e ?_
     refine lA_e ?_
     refine bA_hit ?_
     refine cA_n ?_
     exact wk_lA [] [] (fun t0 => ⟨t0, H, rfl⟩)
 ·rintro s ⟨t0, H, rfl⟩
  unfold ref14_Has_J1 at H
  refine a_seq ?_
  refine a_regC _ rfl ?_
  refine sA_n ?_
  refine a_ret ?_
  obtain rfl := Option.some.inj H
  refine e_r2 (d := ?zd1) ?_ ?_
  rotate_left
  ·simp only [EVT, resR, single, evLoad, cut, TIS, CS, reduceAdd, reduceEqDiff, ↓reduceIte, reduceCtorEq, reduceLT, reduceLeDiff, reduceSub, Nat.reduceBEq]
   (repeat' apply And.intro) <;> first | rfl | assumption | omega | (simp; done)
  exact ZZ
def ref13_Alike_J2 : Option Bool :=
 some (true)
def ref13_Alike_L1 (a1 : Entry) (b1 : Entry) : Nat → Int → Option Bool
 | 0, _ => none
 | m_ + 1, i1 => cond (decide (i1 < (a1.data.length : Int))) ((idx a1.data i1).bind fun x1 => (idx b1.data i1).bind fun x2 => cond (x1 != x2) (some (false)) (ref13_Alike_L1 a1 b1 m_ (IntKind.wrap .i64 (i1 + 1)))) (ref13_Alike_J2)
def ref13_Alike_J1 (a1 : Entry) (b1 : Entry) (v1 : Bool) : Option Bool :=
 cond v1 (some (false)) (ref13_Alike_L1 a1 b1 BIG 0)
def ref13_Alike_f (a1 : Entry) (b1 : Entry) : Option Bool :=
 ref13_Alike_J1 a1 b1 ((a1.term != b1.term) || ((a1.data.length : Int) != (b1.data.length : Int)))
set_option maxHeartbeats 4000000 in
set_option maxRecDepth 20000 in
theorem ref13_Alike_pc {a1 : Entry} {b1 : Entry} {r : Bool} (H : ref13_Alike_f a1 b1 = some r) : PC Tryd.prog 53 [.agg (Entry.c a1), .agg (Entry.c b1)] (.bool r) := by
 refine pcA_of Tryd.func53 (by rfl) (by decide) 38 (by rfl) [.tmp 4] (by rfl) ?_
 unfold ref13_Alike_f at H
 simp only [ent]
 refine a_seq ?_
 refine a_regC _ rfl ?_
 refine sA_n ?_
 refine a_seq ?_
 refine a_cut (fun s => ∃ (v1 : Bool) (t0 : Nat → Dat), ref13_Alike_J1 a1 b1 v1 = some r ∧ s = ⟨tl t0 [(2, .ptr 0 0 0 2), (3, .ptr 1 0 0 2), (19, .bool v1)], hl [⟨76, 2, false, [Entry.c a1]⟩, ⟨76, 2, false, [Entry.c b1]⟩], 2, 38⟩) ?_ ?_
 ·refine bool_split (b := (a1.term != b1.term)) (fun zc4 => ?_) (fun zc4 => ?_)
  ·rw [zc4] at H
   refine a_regC _ rfl ?_
   refine cA_n ?_
   exact wk_lA [(some 0, _), (some 1, _)] [] (fun t0 => ⟨true, t0, H, rfl⟩)
  ·rw [zc4] at H
   refine a_regC _ rfl ?_
   refine cA_n ?_
   exact wk_lA [(some 0, _), (some 1, _)] [] (fun t0 => ⟨((a1.data.length : Int) != (b1.data.length : Int)), t0, H, rfl⟩)
 ·rintro s ⟨v1, t0, H, rfl⟩
  unfold ref13_Alike_J1 at H
  refine a_cnd H (fun zc1 H => ?_) (fun zc1 H => ?_)
  ·refine a_seq ?_
   refine a_regC _ rfl ?_
   refine sA_n ?_
   exact a_ret (sA_r RT)
  ·refine a_skip ?_
   refine sA_n ?_
   refine a_cut (fun s => ∃ (t0 : Nat → Dat), ref13_Alike_J2 = some r ∧ s = ⟨tl t0 [], hl [], 0, 38⟩) ?_ ?_
   ·refine a_seq ?_
    refine a_regC _ rfl ?_
    refine sA_n ?_
    refine a_blk ?_
    refine a_loop (fun m s => ∃ (i1 : Int) (t0 : Nat → Dat), ref13_Alike_L1 a1 b1 m i1 = some r ∧ s = ⟨tl t0 [(2, .ptr 0 0 0 2), (3, .ptr 1 0 0 2), (5, .int .i64 i1)], hl [⟨76, 2, false, [Entry.c a1]⟩, ⟨76, 2, false, [Entry.c b1]⟩], 2, 38⟩) BIG ?_ ?_
    ·exact wk_lA [(some 0, _), (some 1, _)] [] (fun t0 => ⟨0, t0, H, rfl⟩)
    ·rintro m_ref13_Alike_L1 s ⟨i1, t0, H, rfl⟩
     obtain _ | m_ref13_Alike_L1 := m_ref13_Alike_L1
     ·cases (show (none : Option _) = some _ from H)
     ·rw [ref13_Alike_L1] at H
      refine a_seq ?_
      refine a_seq ?_
      refine a_regC _ rfl ?_
      refine sA_n ?_
      refine a_cnd H (fun zc2 H => ?_) (fun zc2 H => ?_)
      ·refine a_skip ?_
       refine sA_n ?_
       refine a_seq ?_
       refine a_blk ?_
       refine a_seq ?_
       obtain ⟨x1, zh1, H⟩ := bind_some H
       obtain ⟨zg1, zh1a, zh1b⟩ := idx3 (f := (ci .u8)) zh1
       try simp only [Int.reduceToNat, Int.toNat_natCast] at zg1
       obtain ⟨x2, zh2, H⟩ := bind_some H
       obtain ⟨zg2, zh2a, zh2b⟩ := idx3 (f := (ci .u8)) zh2
       try simp only [Int.reduceToNat, Int.toNat_natCast] at zg2
       refine a_drW (by kernel_rfl) _ rfl (s := ?zs6) (by kernel_rfl) (by kernel_rfl) ?zs6f ?_ ?_ ?_
       rotate_left 2
       ·refine goS ?_
        (repeat' apply And.intro) <;> first|rfl|assumption|omega|(simp;done)|(simp;omega)|(simp_all;done)
       ·kernel_rfl
       refine sA_n ?_
       refine a_cnd H (fun zc3 H => ?_) (fun zc3 H => ?_)
       ·refine a_seq ?_
        refine a_regC _ rfl ?_
        refine sA_n ?_
        refine a_ret ?_
        refine bA_r ?_
        refine sA_r ?_
        refine lA_r ?_
        refine bA_r ?_
        refine cA_r ?_
        obtain rfl := Option.some.inj H
        refine e_r2 (d := ?zd3) ?_ ?_
        rotate_left
        ·simp only [EVT, resR, single, evLoad, cut, TIS, CS, reduceAdd, reduceEqDiff, ↓reduceIte, reduceCtorEq, reduceLT, reduceLeDiff, reduceSub, Nat.reduceBEq, zc2, zg1, zg2, zc3]
         (repeat' apply And.intro) <;> first | rfl | assumption | omega | (simp; done)
        exact ZZ
       ·refine a_skip ?_
        refine bA_n ?_
        refine sA_n ?_
        refine a_regC _ rfl ?_
        refine lA_n ?_
        exact wk_lA [(some 0, _), (some 1, _)] [] (fun t0 => ⟨_, Nat.lt_succ_self _, (IntKind.wrap .i64 (i1 + 1)), t0, H, rfl⟩)
      ·refine a_exit ?_
       refine sA_e ?_
       refine lA_e ?_
       refine bA_hit ?_
       refine cA_n ?_
       exact wk_lA [] [] (fun t0 => ⟨t0, H, rfl⟩)
   ·rintro s ⟨t0, H, rfl⟩
    unfold ref13_Alike_J2 at H
    refine a_seq ?_
    refine a_regC _ rfl ?_
    refine sA_n ?_
    refine a_ret ?_
    obtain rfl := Option.some.inj H
    refine e_r2 (d := ?zd2) ?_ ?_
    rotate_left
    ·simp only [EVT, resR, single, evLoad, cut, TIS, CS, reduceAdd, reduceEqDiff, ↓reduceIte, reduceCtorEq, reduceLT, reduceLeDiff, reduceSub, Nat.reduceBEq]
     (repeat' apply And.intro) <;> first | rfl | assumption | omega | (simp; done)
    exact ZZ
def ref13_Same_J1 : Option Bool :=
 some (true)
def ref13_Same_L1 (a1 : List Entry) (b1 : List Entry) : Nat → Int → Option Bool
 | 0, _ => none
 | m_ + 1, i1 => cond (decide (i1 < (a1.length : Int))) ((idx a1 i1).bind fun x1 => (idx b1 i1).bind fun x2 => (ref13_Alike_f x1 x2).bind fun r1 => cond (!r1) (some (false)) (ref13_Same_L1 a1 b1 m_ (IntKind.wrap .i64 (i1 + 1)))) (ref13_Same_J1)
def ref13_Same_f (a1 : List Entry) (b1 : List Entry) : Option Bool :=
 cond ((a1.length : Int) != (b1.length : Int)) (some (false)) (ref13_Same_L1 a1 b1 BIG 0)
set_option maxHeartbeats 4000000 in
set_option maxRecDepth 20000 in
theorem ref13_Same_pc {a1 : List Entry} {b1 : List Entry} {r : Bool} (H : ref13_Same_f a1 b1 = some r) : PC Tryd.prog 20 [.list 2 (a1.map Entry.c), .list 2 (b1.map Entry.c)] (.bool r) := by
 refine pcA_of Tryd.func20 (by rfl) (by decide) 27 (by rfl) [.tmp 4] (by rfl) ?_
 unfold ref13_Same_f at H
 simp only [ent]
 refine a_seq ?_
 refine a_regC _ rfl ?_
 refine sA_n ?_
 refine a_seq ?_
 refine a_seq ?_
 refine a_regC _ rfl ?_
 refine sA_n ?_
 refine a_cnd H (fun zc1 H => ?_) (fun zc1 H => ?_)
 ·refine a_seq ?_
  refine a_regC _ rfl ?_
  refine sA_n ?_
  exact a_ret (sA_r RT)
 ·refine a_skip ?_
  refine sA_n ?_
  refine a_cut (fun s => ∃ (t0 : Nat → Dat), ref13_Same_J1 = some r ∧ s = ⟨tl t0 [], hl [], 0, 27⟩) ?_ ?_
  ·refine a_seq ?_
   refine a_regC _ rfl ?_
   refine sA_n ?_
   refine a_blk ?_
   refine a_loop (fun m s => ∃ (i1 : Int) (t0 : Nat → Dat), ref13_Same_L1 a1 b1 m i1 = some r ∧ s = ⟨tl t0 [(0, .list 2 (a1.map Entry.c)), (1, .list 2 (b1.map Entry.c)), (5, .int .i64 i1)], hl [], 0, 27⟩) BIG ?_ ?_
   ·exact wk_lA [] [] (fun t0 => ⟨0, t0, H, rfl⟩)
   ·rintro m_ref13_Same_L1 s ⟨i1, t0, H, rfl⟩
    obtain _ | m_ref13_Same_L1 := m_ref13_Same_L1
    ·cases (show (none : Option _) = some _ from H)
    ·rw [ref13_Same_L1] at H
     refine a_seq ?_
     refine a_seq ?_
     refine a_regC _ rfl ?_
     refine sA_n ?_
     refine a_cnd H (fun zc2 H => ?_) (fun zc2 H => ?_)
     ·refine a_skip ?_
      refine sA_n ?_
      refine a_seq ?_
      refine a_blk ?_
      refine a_seq ?_
      obtain ⟨x1, zh1, H⟩ := bind_some H
      obtain ⟨zg1, zh1a, zh1b⟩ := idx3 (f := Entry.c) zh1
      try simp only [Int.reduceToNat, Int.toNat_natCast] at zg1
      obtain ⟨x2, zh2, H⟩ := bind_some H
      obtain ⟨zg2, zh2a, zh2b⟩ := idx3 (f := Entry.c) zh2
      try simp only [Int.reduceToNat, Int.toNat_natCast] at zg2
      obtain ⟨r1, zh3, H⟩ := bind_some H
      have zk1 := ref13_Alike_pc zh3
      refine a_drW (by kernel_rfl) _ rfl (s := ?zs7) (by kernel_rfl) (by kernel_rfl) ?zs7f ?_ ?_ ?_
      rotate_left 2
      ·try refine goS ?_
       repeat' with_reducible apply And.intro
       all_goals try ((with_reducible show CallW _ _ _ _ _ _ _); refine cW_s [] zk1 (fun h2 e => (.cons (.agg' (.cons (.int' rfl) (.cons (.lst _ _ _ (ci_pu .u8) rfl) .nil))) (.cons (.agg' (.cons (.int' rfl) (.cons (.lst _ _ _ (ci_pu .u8) rfl) .nil))) .nil))) (.bool _) ?_; refine goS ?_)
       all_goals ((repeat' apply And.intro) <;> first|rfl|assumption|omega|(simp;done)|(simp;omega)|(simp_all;done))
      ·kernel_rfl
      refine sA_n ?_
      refine a_cnd H (fun zc3 H => ?_) (fun zc3 H => ?_)
      ·refine a_seq ?_
       refine a_regC _ rfl ?_
       refine sA_n ?_
       refine a_ret ?_
       refine bA_r ?_
       refine sA_r ?_
       refine lA_r ?_
       refine bA_r ?_
       refine cA_r ?_
       obtain rfl := Option.some.inj H
       refine e_r2 (d := ?zd3) ?_ ?_
       rotate_left
       ·simp only [EVT, resR, single, evLoad, cut, TIS, CS, reduceAdd, reduceEqDiff, ↓reduceIte, reduceCtorEq, reduceLT, reduceLeDiff, reduceSub, Nat.reduceBEq, zc2, zg1, zg2, zc3]
        (repeat' apply And.intro) <;> first | rfl | assumption | omega | (simp; done)
       exact ZZ
      ·refine a_skip ?_
       refine bA_n ?_
       refine sA_n ?_
       refine a_regC _ rfl ?_
       refine lA_n ?_
       exact wk_lA [] [] (fun t0 => ⟨_, Nat.lt_succ_self _, (IntKind.wrap .i64 (i1 + 1)), t0, H, rfl⟩)
     ·refine a_exit ?_
      refine sA_e ?_
      refine lA_e ?_
      refine bA_hit ?_
      refine cA_n ?_
      exact wk_lA [] [] (fun t0 => ⟨t0, H, rfl⟩)
  ·rintro s ⟨t0, H, rfl⟩
   unfold ref13_Same_J1 at H
   refine a_seq ?_
   refine a_regC _ rfl ?_
   refine sA_n ?_
   refine a_ret ?_
   obtain rfl := Option.some.inj H
   refine e_r2 (d := ?zd2) ?_ ?_
   rotate_left
   ·simp only [EVT, resR, single, evLoad, cut, TIS, CS, reduceAdd, reduceEqDiff, ↓reduceIte, reduceCtorEq, reduceLT, reduceLeDiff, reduceSub, Nat.reduceBEq]
    (repeat' apply And.intro) <;> first | rfl | assumption | omega | (simp; done)
   exact ZZ
def ref13_Meet_J1 : Option Bool :=
 some (true)
def ref13_Meet_J4 (k_ref13_Meet_L1 : Bool → Int → Option Bool) (alike2 : Bool) (i1 : Int) (v2 : Bool) : Option Bool :=
 cond v2 (some (false)) (k_ref13_Meet_L1 alike2 (IntKind.wrap .i64 (i1 + 1)))
def ref13_Meet_J3 (k_ref13_Meet_L1 : Bool → Int → Option Bool) (a1 : List Entry) (i1 : Int) (b1 : List Entry) (alike2 : Bool) : Option Bool :=
 (idx a1 i1).bind fun x1 => (idx b1 i1).bind fun x2 => ref13_Meet_J4 k_ref13_Meet_L1 alike2 i1 ((x1.term == x2.term) && (!alike2))
def ref13_Meet_J2 (k_ref13_Meet_L1 : Bool → Int → Option Bool) (alike1 : Bool) (a1 : List Entry) (i1 : Int) (b1 : List Entry) (v1 : Bool) : Option Bool :=
 cond v1 (cond alike1 ((idx a1 i1).bind fun x3 => (idx b1 i1).bind fun x4 => (ref13_Alike_f x3 x4).bind fun r1 => ref13_Meet_J3 k_ref13_Meet_L1 a1 i1 b1 r1) (ref13_Meet_J3 k_ref13_Meet_L1 a1 i1 b1 false)) (ref13_Meet_J1)
def ref13_Meet_L1 (a1 : List Entry) (b1 : List Entry) : Nat → Bool → Int → Option Bool
 | 0, _, _ => none
 | m_ + 1, alike1, i1 => ref13_Meet_J2 (ref13_Meet_L1 a1 b1 m_) alike1 a1 i1 b1 ((decide (i1 < (a1.length : Int))) && (decide (i1 < (b1.length : Int))))
def ref13_Meet_f (a1 : List Entry) (b1 : List Entry) : Option Bool :=
 ref13_Meet_L1 a1 b1 BIG true 0
set_option maxHeartbeats 4000000 in
set_option maxRecDepth 20000 in
theorem ref13_Meet_pc {a1 : List Entry} {b1 : List Entry} {r : Bool} (H : ref13_Meet_f a1 b1 = some r) : PC Tryd.prog 22 [.list 2 (a1.map Entry.c), .list 2 (b1.map Entry.c)] (.bool r) := by
 refine pcA_of Tryd.func22 (by rfl) (by decide) 46 (by rfl) [.tmp 4] (by rfl) ?_
 unfold ref13_Meet_f at H
 simp only [ent]
 refine a_seq ?_
 refine a_regC _ rfl ?_
 refine sA_n ?_
 refine a_seq ?_
 refine a_regC _ rfl ?_
 refine sA_n ?_
 refine a_cut (fun s => ∃ (t0 : Nat → Dat), ref13_Meet_J1 = some r ∧ s = ⟨tl t0 [], hl [], 0, 46⟩) ?_ ?_
 ·refine a_seq ?_
  refine a_regC _ rfl ?_
  refine sA_n ?_
  refine a_blk ?_
  refine a_loop (fun m s => ∃ (alike1 : Bool) (i1 : Int) (t0 : Nat → Dat), ref13_Meet_L1 a1 b1 m alike1 i1 = some r ∧ s = ⟨tl t0 [(0, .list 2 (a1.map Entry.c)), (1, .list 2 (b1.map Entry.c)), (5, .bool alike1), (6, .int .i64 i1)], hl [], 0, 46⟩) BIG ?_ ?_
  ·exact wk_lA [] [] (fun t0 => ⟨true, 0, t0, H, rfl⟩)
  ·rintro m_ref13_Meet_L1 s ⟨alike1, i1, t0, H, rfl⟩
   obtain _ | m_ref13_Meet_L1 := m_ref13_Meet_L1
   ·cases (show (none : Option _) = some _ from H)
   ·rw [ref13_Meet_L1] at H
    refine a_seq ?_
    refine a_cut (fun s => ∃ (v1 : Bool) (t0 : Nat → Dat), ref13_Meet_J2 (ref13_Meet_L1 a1 b1 m_ref13_Meet_L1) alike1 a1 i1 b1 v1 = some r ∧ s = ⟨tl t0 [(0, .list 2 (a1.map Entry.c)), (1, .list 2 (b1.map Entry.c)), (5, .bool alike1), (6, .int .i64 i1), (16, .bool v1)], hl [], 0, 46⟩) ?_ ?_
    ·refine bool_split (b := (decide (i1 < (a1.length : Int)))) (fun zc5 => ?_) (fun zc5 => ?_)
     ·rw [zc5] at H
      refine a_regC _ rfl ?_
      refine cA_n ?_
      exact wk_lA [] [] (fun t0 => ⟨(decide (i1 < (b1.length : Int))), t0, H, rfl⟩)
     ·rw [zc5] at H
      refine a_regC _ rfl ?_
      refine cA_n ?_
      exact wk_lA [] [] (fun t0 => ⟨false, t0, H, rfl⟩)
    ·rintro s ⟨v1, t0, H, rfl⟩
     unfold ref13_Meet_J2 at H
     refine a_cnd H (fun zc1 H => ?_) (fun zc1 H => ?_)
     ·refine a_skip ?_
      refine sA_n ?_
      refine a_seq ?_
      refine a_blk ?_
      refine a_cut (fun s => ∃ (alike2 : Bool) (t0 : Nat → Dat), ref13_Meet_J3 (ref13_Meet_L1 a1 b1 m_ref13_Meet_L1) a1 i1 b1 alike2 = some r ∧ s = ⟨tl t0 [(0, .list 2 (a1.map Entry.c)), (1, .list 2 (b1.map Entry.c)), (5, .bool alike2), (6, .int .i64 i1)], hl [], 0, 46⟩) ?_ ?_
      ·refine cnd H (fun zc4 H => ?_) (fun zc4 H => ?_)
       ·obtain ⟨x3, zh3, H⟩ := bind_some H
        obtain ⟨zg3, zh3a, zh3b⟩ := idx3 (f := Entry.c) zh3
        try simp only [Int.reduceToNat, Int.toNat_natCast] at zg3
        obtain ⟨x4, zh4, H⟩ := bind_some H
        obtain ⟨zg4, zh4a, zh4b⟩ := idx3 (f := Entry.c) zh4
        try simp only [Int.reduceToNat, Int.toNat_natCast] at zg4
        obtain ⟨r1, zh5, H⟩ := bind_some H
        have zk1 := ref13_Alike_pc zh5
        refine a_drW (by kernel_rfl) _ rfl (s := ?zs9) (by kernel_rfl) (by kernel_rfl) ?zs9f ?_ ?_ ?_
        rotate_left 2
        ·try refine goS ?_
         repeat' with_reducible apply And.intro
         all_goals try ((with_reducible show CallW _ _ _ _ _ _ _); refine cW_s [] zk1 (fun h2 e => (.cons (.agg' (.cons (.int' rfl) (.cons (.lst _ _ _ (ci_pu .u8) rfl) .nil))) (.cons (.agg' (.cons (.int' rfl) (.cons (.lst _ _ _ (ci_pu .u8) rfl) .nil))) .nil))) (.bool _) ?_; refine goS ?_)
         all_goals ((repeat' apply And.intro) <;> first|rfl|assumption|omega|(simp;done)|(simp;omega)|(simp_all;done))
        ·kernel_rfl
        refine cA_n ?_
        exact wk_lA [] [] (fun t0 => ⟨r1, t0, H, rfl⟩)
       ·refine a_drW (by kernel_rfl) _ rfl (s := ?zs10) (by kernel_rfl) (by kernel_rfl) ?zs10f ?_ ?_ ?_
        rotate_left 2
        ·refine goS ?_
         try refine goS ?_
         (repeat' apply And.intro) <;> first|rfl|assumption|omega|(simp;done)|(simp;omega)|(simp_all;done)
        ·kernel_rfl
        refine cA_n ?_
        exact wk_lA [] [] (fun t0 => ⟨false, t0, H, rfl⟩)
      ·rintro s ⟨alike2, t0, H, rfl⟩
       unfold ref13_Meet_J3 at H
       refine a_cut (fun s => ∃ (v2 : Bool) (t0 : Nat → Dat), ref13_Meet_J4 (ref13_Meet_L1 a1 b1 m_ref13_Meet_L1) alike2 i1 v2 = some r ∧ s = ⟨tl t0 [(0, .list 2 (a1.map Entry.c)), (1, .list 2 (b1.map Entry.c)), (5, .bool alike2), (6, .int .i64 i1), (45, .bool v2)], hl [], 0, 46⟩) ?_ ?_
       ·obtain ⟨x1, zh1, H⟩ := bind_some H
        obtain ⟨zg1, zh1a, zh1b⟩ := idx3 (f := Entry.c) zh1
        try simp only [Int.reduceToNat, Int.toNat_natCast] at zg1
        obtain ⟨x2, zh2, H⟩ := bind_some H
        obtain ⟨zg2, zh2a, zh2b⟩ := idx3 (f := Entry.c) zh2
        try simp only [Int.reduceToNat, Int.toNat_natCast] at zg2
        refine bool_split (b := (x1.term == x2.term)) (fun zc3 => ?_) (fun zc3 => ?_)
        ·rw [zc3] at H
         refine a_drW (by kernel_rfl) _ rfl (s := ?zs7) (by kernel_rfl) (by kernel_rfl) ?zs7f ?_ ?_ ?_
         rotate_left 2
         ·refine goS ?_
          try refine goS ?_
          (repeat' apply And.intro) <;> first|rfl|assumption|omega|(simp;done)|(simp;omega)|(simp_all;done)
         ·kernel_rfl
         refine cA_n ?_
         exact wk_lA [] [] (fun t0 => ⟨(!alike2), t0, H, rfl⟩)
        ·rw [zc3] at H
         refine a_drW (by kernel_rfl) _ rfl (s := ?zs8) (by kernel_rfl) (by kernel_rfl) ?zs8f ?_ ?_ ?_
         rotate_left 2
         ·refine goS ?_
          try refine goS ?_
          (repeat' apply And.intro) <;> first|rfl|assumption|omega|(simp;done)|(simp;omega)|(simp_all;done)
         ·kernel_rfl
         refine cA_n ?_
         exact wk_lA [] [] (fun t0 => ⟨false, t0, H, rfl⟩)
       ·rintro s ⟨v2, t0, H, rfl⟩
        unfold ref13_Meet_J4 at H
        refine a_cnd H (fun zc2 H => ?_) (fun zc2 H => ?_)
        ·refine a_seq ?_
         refine a_regC _ rfl ?_
         refine sA_n ?_
         exact a_ret (bA_r (sA_r (lA_r (bA_r (cA_r RT)))))
        ·refine a_skip ?_
         refine bA_n ?_
         refine sA_n ?_
         refine a_regC _ rfl ?_
         refine lA_n ?_
         exact wk_lA [] [] (fun t0 => ⟨_, Nat.lt_succ_self _, alike2, (IntKind.wrap .i64 (i1 + 1)), t0, H, rfl⟩)
     ·refine a_exit ?_
      refine sA_e ?_
      refine lA_e ?_
      refine bA_hit ?_
      refine cA_n ?_
      exact wk_lA [] [] (fun t0 => ⟨t0, H, rfl⟩)
 ·rintro s ⟨t0, H, rfl⟩
  unfold ref13_Meet_J1 at H
  refine a_seq ?_
  refine a_regC _ rfl ?_
  refine sA_n ?_
  refine a_ret ?_
  obtain rfl := Option.some.inj H
  refine e_r2 (d := ?zd1) ?_ ?_
  rotate_left
  ·simp only [EVT, resR, single, evLoad, cut, TIS, CS, reduceAdd, reduceEqDiff, ↓reduceIte, reduceCtorEq, reduceLT, reduceLeDiff, reduceSub, Nat.reduceBEq]
   (repeat' apply And.intro) <;> first | rfl | assumption | omega | (simp; done)
  exact ZZ
def ref15_Place_J1 : Option Int :=
 some ((-1))
def ref15_Place_L1 (l1 : List Int) (x1 : Int) : Nat → Int → Option Int
 | 0, _ => none
 | m_ + 1, i1 => cond (decide (i1 < (l1.length : Int))) ((idx l1 i1).bind fun x2 => cond (x2 == x1) (some (i1)) (ref15_Place_L1 l1 x1 m_ (IntKind.wrap .i64 (i1 + 1)))) (ref15_Place_J1)
def ref15_Place_f (l1 : List Int) (x1 : Int) : Option Int :=
 ref15_Place_L1 l1 x1 BIG 0
set_option maxHeartbeats 4000000 in
set_option maxRecDepth 20000 in
theorem ref15_Place_pc {l1 : List Int} {x1 : Int} {r : Int} (H : ref15_Place_f l1 x1 = some r) : PC Tryd.prog 23 [.list 1 (l1.map (ci .i64)), .int .i64 x1] (.int .i64 r) := by
 refine pcA_of Tryd.func23 (by rfl) (by decide) 19 (by rfl) [.tmp 4] (by rfl) ?_
 unfold ref15_Place_f at H
 simp only [ent]
 refine a_seq ?_
 refine a_regC _ rfl ?_
 refine sA_n ?_
 refine a_cut (fun s => ∃ (t0 : Nat → Dat), ref15_Place_J1 = some r ∧ s = ⟨tl t0 [], hl [], 0, 19⟩) ?_ ?_
 ·refine a_seq ?_
  refine a_regC _ rfl ?_
  refine sA_n ?_
  refine a_blk ?_
  refine a_loop (fun m s => ∃ (i1 : Int) (t0 : Nat → Dat), ref15_Place_L1 l1 x1 m i1 = some r ∧ s = ⟨tl t0 [(0, .list 1 (l1.map (ci .i64))), (1, .int .i64 x1), (5, .int .i64 i1)], hl [], 0, 19⟩) BIG ?_ ?_
  ·exact wk_lA [] [] (fun t0 => ⟨0, t0, H, rfl⟩)
  ·rintro m_ref15_Place_L1 s ⟨i1, t0, H, rfl⟩
   obtain _ | m_ref15_Place_L1 := m_ref15_Place_L1
   ·cases (show (none : Option _) = some _ from H)
   ·rw [ref15_Place_L1] at H
    refine a_seq ?_
    refine a_seq ?_
    refine a_regC _ rfl ?_
    refine sA_n ?_
    refine a_cnd H (fun zc1 H => ?_) (fun zc1 H => ?_)
    ·refine a_skip ?_
     refine sA_n ?_
     refine a_seq ?_
     refine a_blk ?_
     refine a_seq ?_
     obtain ⟨x2, zh1, H⟩ := bind_some H
     obtain ⟨zg1, zh1a, zh1b⟩ := idx3 (f := (ci .i64)) zh1
     try simp only [Int.reduceToNat, Int.toNat_natCast] at zg1
     refine a_regC _ rfl ?_
     refine sA_n ?_
     refine a_cnd H (fun zc2 H => ?_) (fun zc2 H => ?_)
     ·refine a_seq ?_
      refine a_regC _ rfl ?_
      refine sA_n ?_
      exact a_ret (bA_r (sA_r (lA_r (bA_r (cA_r RT)))))
     ·refine a_skip ?_
      refine bA_n ?_
      refine sA_n ?_
      refine a_regC _ rfl ?_
      refine lA_n ?_
      exact wk_lA [] [] (fun t0 => ⟨_, Nat.lt_succ_self _, (IntKind.wrap .i64 (i1 + 1)), t0, H, rfl⟩)
    ·refine a_exit ?_
     refine sA_e ?_
     refine lA_e ?_
     refine bA_hit ?_
     refine cA_n ?_
     exact wk_lA [] [] (fun t0 => ⟨t0, H, rfl⟩)
 ·rintro s ⟨t0, H, rfl⟩
  unfold ref15_Place_J1 at H
  refine a_seq ?_
  refine a_regC _ rfl ?_
  refine sA_n ?_
  refine a_ret ?_
  obtain rfl := Option.some.inj H
  refine e_r2 (d := ?zd1) ?_ ?_
  rotate_left
  ·simp only [EVT, resR, single, evLoad, cut, TIS, CS, reduceAdd, reduceEqDiff, ↓reduceIte, reduceCtorEq, reduceLT, reduceLeDiff, reduceSub, Nat.reduceBEq]
   (repeat' apply And.intro) <;> first | rfl | assumption | omega | (simp; done)
  exact ZZ
def seat_Back_f (s1 : Seat) : Option Seat :=
 some ((⟨s1.id, s1.peers, s1.term, s1.voted, 1, s1.log, 0, [], [], []⟩ : Seat))
set_option maxHeartbeats 4000000 in
set_option maxRecDepth 20000 in
theorem seat_Back_pc {s1 : Seat} {r : Seat} (H : seat_Back_f s1 = some r) : PC Tryd.prog 26 [.agg (Seat.c s1)] (.agg (Seat.c r)) := by
 refine pcA_of Tryd.func26 (by rfl) (by decide) 14 (by rfl) [.cell 2 25] (by rfl) ?_
 unfold seat_Back_f at H
 simp only [ent]
 refine a_seq ?_
 refine a_regC _ rfl ?_
 refine sA_n ?_
 refine a_seq ?_
 refine a_regC _ rfl ?_
 refine sA_n ?_
 exact a_ret RT
def ref15_SameMsgs_J1 : Option Bool :=
 some (true)
def ref15_SameMsgs_J2 (k_ref15_SameMsgs_L1 : Int → Option Bool) (i1 : Int) (v1 : Bool) : Option Bool :=
 cond v1 (some (false)) (k_ref15_SameMsgs_L1 (IntKind.wrap .i64 (i1 + 1)))
def ref15_SameMsgs_L1 (a1 : List Msg) (b1 : List Msg) : Nat → Int → Option Bool
 | 0, _ => none
 | m_ + 1, i1 => cond (decide (i1 < (a1.length : Int))) ((idx a1 i1).bind fun x1 => (idx b1 i1).bind fun x2 => cond (x1.from_ != x2.from_) (ref15_SameMsgs_J2 (ref15_SameMsgs_L1 a1 b1 m_) i1 true) (cond (x1.to_ != x2.to_) (ref15_SameMsgs_J2 (ref15_SameMsgs_L1 a1 b1 m_) i1 true) (cond (x1.kind != x2.kind) (ref15_SameMsgs_J2 (ref15_SameMsgs_L1 a1 b1 m_) i1 true) ((ref14_Ints_f x1.nums x2.nums).bind fun r1 => cond (!r1) (ref15_SameMsgs_J2 (ref15_SameMsgs_L1 a1 b1 m_) i1 true) ((ref13_Alike_f (⟨0, x1.data⟩ : Entry) (⟨0, x2.data⟩ : Entry)).bind fun r2 => ref15_SameMsgs_J2 (ref15_SameMsgs_L1 a1 b1 m_) i1 (!r2)))))) (ref15_SameMsgs_J1)
def ref15_SameMsgs_f (a1 : List Msg) (b1 : List Msg) : Option Bool :=
 cond ((a1.length : Int) != (b1.length : Int)) (some (false)) (ref15_SameMsgs_L1 a1 b1 BIG 0)
set_option maxHeartbeats 4000000 in
set_option maxRecDepth 20000 in
theorem ref15_SameMsgs_pc {a1 : List Msg} {b1 : List Msg} {r : Bool} (H : ref15_SameMsgs_f a1 b1 = some r) : PC Tryd.prog 27 [.list 5 (a1.map Msg.c), .list 5 (b1.map Msg.c)] (.bool r) := by
 refine pcA_of Tryd.func27 (by rfl) (by decide) 88 (by rfl) [.tmp 4] (by rfl) ?_
 unfold ref15_SameMsgs_f at H
 simp only [ent]
 refine a_seq ?_
 refine a_regC _ rfl ?_
 refine sA_n ?_
 refine a_seq ?_
 refine a_seq ?_
 refine a_regC _ rfl ?_
 refine sA_n ?_
 refine a_cnd H (fun zc1 H => ?_) (fun zc1 H => ?_)
 ·refine a_seq ?_
  refine a_regC _ rfl ?_
  refine sA_n ?_
  exact a_ret (sA_r RT)
 ·refine a_skip ?_
  refine sA_n ?_
  refine a_cut (fun s => ∃ (t0 : Nat → Dat), ref15_SameMsgs_J1 = some r ∧ s = ⟨tl t0 [], hl [], 0, 88⟩) ?_ ?_
  ·refine a_seq ?_
   refine a_regC _ rfl ?_
   refine sA_n ?_
   refine a_blk ?_
   refine a_loop (fun m s => ∃ (i1 : Int) (t0 : Nat → Dat), ref15_SameMsgs_L1 a1 b1 m i1 = some r ∧ s = ⟨tl t0 [(0, .list 5 (a1.map Msg.c)), (1, .list 5 (b1.map Msg.c)), (5, .int .i64 i1)], hl [], 0, 88⟩) BIG ?_ ?_
   ·exact wk_lA [] [] (fun t0 => ⟨0, t0, H, rfl⟩)
   ·rintro m_ref15_SameMsgs_L1 s ⟨i1, t0, H, rfl⟩
    obtain _ | m_ref15_SameMsgs_L1 := m_ref15_SameMsgs_L1
    ·cases (show (none : Option _) = some _ from H)
    ·rw [ref15_SameMsgs_L1] at H
     refine a_seq ?_
     refine a_seq ?_
     refine a_regC _ rfl ?_
     refine sA_n ?_
     refine a_cnd H (fun zc2 H => ?_) (fun zc2 H => ?_)
     ·refine a_skip ?_
      refine sA_n ?_
      refine a_seq ?_
      refine a_blk ?_
      refine a_seq ?_
      obtain ⟨x1, zh1, H⟩ := bind_some H
      obtain ⟨zg1, zh1a, zh1b⟩ := idx3 (f := Msg.c) zh1
      try simp only [Int.reduceToNat, Int.toNat_natCast] at zg1
      refine a_regC _ rfl ?_
      refine sA_n ?_
      refine a_seq ?_
      obtain ⟨x2, zh2, H⟩ := bind_some H
      obtain ⟨zg2, zh2a, zh2b⟩ := idx3 (f := Msg.c) zh2
      try simp only [Int.reduceToNat, Int.toNat_natCast] at zg2
      refine a_regC _ rfl ?_
      refine sA_n ?_
      refine a_cut (fun s => ∃ (v1 : Bool) (t0 : Nat → Dat), ref15_SameMsgs_J2 (ref15_SameMsgs_L1 a1 b1 m_ref15_SameMsgs_L1) i1 v1 = some r ∧ s = ⟨tl t0 [(0, .list 5 (a1.map Msg.c)), (1, .list 5 (b1.map Msg.c)), (5, .int .i64 i1), (87, .bool v1)], hl [], 0, 88⟩) ?_ ?_
      ·refine cnd H (fun zc4 H => ?_) (fun zc4 H => ?_)
       ·refine a_drW (by kernel_rfl) _ rfl (s := ?zs11) (by kernel_rfl) (by kernel_rfl) ?zs11f ?_ ?_ ?_
        rotate_left 2
        ·refine goS ?_
         try refine goS ?_
         (repeat' apply And.intro) <;> first|rfl|assumption|omega|(simp;done)|(simp;omega)|(simp_all;done)
        ·kernel_rfl
        refine cA_n ?_
        exact wk_lA [] [] (fun t0 => ⟨true, t0, H, rfl⟩)
       ·refine cnd H (fun zc5 H => ?_) (fun zc5 H => ?_)
        ·refine a_drW (by kernel_rfl) _ rfl (s := ?zs12) (by kernel_rfl) (by kernel_rfl) ?zs12f ?_ ?_ ?_
         rotate_left 2
         ·refine goS ?_
          try refine goS ?_
          (repeat' apply And.intro) <;> first|rfl|assumption|omega|(simp;done)|(simp;omega)|(simp_all;done)
         ·kernel_rfl
         refine cA_n ?_
         exact wk_lA [] [] (fun t0 => ⟨true, t0, H, rfl⟩)
        ·refine cnd H (fun zc6 H => ?_) (fun zc6 H => ?_)
         ·refine a_drW (by kernel_rfl) _ rfl (s := ?zs13) (by kernel_rfl) (by kernel_rfl) ?zs13f ?_ ?_ ?_
          rotate_left 2
          ·refine goS ?_
           try refine goS ?_
           (repeat' apply And.intro) <;> first|rfl|assumption|omega|(simp;done)|(simp;omega)|(simp_all;done)
          ·kernel_rfl
          refine cA_n ?_
          exact wk_lA [] [] (fun t0 => ⟨true, t0, H, rfl⟩)
         ·obtain ⟨r1, zh3, H⟩ := bind_some H
          have zk1 := ref14_Ints_pc zh3
          refine cnd H (fun zc7 H => ?_) (fun zc7 H => ?_)
          ·refine a_drW (by kernel_rfl) _ rfl (s := ?zs14) (by kernel_rfl) (by kernel_rfl) ?zs14f ?_ ?_ ?_
           rotate_left 2
           ·try refine goS ?_
            repeat' with_reducible apply And.intro
            all_goals try ((with_reducible show CallW _ _ _ _ _ _ _); refine cW_s [] zk1 (fun h2 e => (.cons (.lst _ _ _ (ci_pu .i64) rfl) (.cons (.lst _ _ _ (ci_pu .i64) rfl) .nil))) (.bool _) ?_; refine goS ?_)
            all_goals ((repeat' apply And.intro) <;> first|rfl|assumption|omega|(simp;done)|(simp;omega)|(simp_all;done))
           ·kernel_rfl
           refine cA_n ?_
           exact wk_lA [] [] (fun t0 => ⟨true, t0, H, rfl⟩)
          ·obtain ⟨r2, zh4, H⟩ := bind_some H
           have zk2 := ref13_Alike_pc zh4
           refine a_drW (by kernel_rfl) _ rfl (s := ?zs15) (by kernel_rfl) (by kernel_rfl) ?zs15f ?_ ?_ ?_
           rotate_left 2
           ·try refine goS ?_
            repeat' with_reducible apply And.intro
            all_goals try ((with_reducible show CallW _ _ _ _ _ _ _); refine cW_s [] zk1 (fun h2 e => (.cons (.lst _ _ _ (ci_pu .i64) rfl) (.cons (.lst _ _ _ (ci_pu .i64) rfl) .nil))) (.bool _) ?_; refine goS ?_)
            repeat' with_reducible apply And.intro
            all_goals try ((with_reducible show CallW _ _ _ _ _ _ _); refine cW_s [] zk2 (fun h2 e => (.cons (.agg' (.cons (.int' rfl) (.cons (.lst _ _ _ (ci_pu .u8) rfl) .nil))) (.cons (.agg' (.cons (.int' rfl) (.cons (.lst _ _ _ (ci_pu .u8) rfl) .nil))) .nil))) (.bool _) ?_; refine goS ?_)
            all_goals ((repeat' apply And.intro) <;> first|rfl|assumption|omega|(simp;done)|(simp;omega)|(simp_all;done))
           ·kernel_rfl
           refine cA_n ?_
           exact wk_lA [] [] (fun t0 => ⟨(!r2), t0, H, rfl⟩)
      ·rintro s ⟨v1, t0, H, rfl⟩
       unfold ref15_SameMsgs_J2 at H
       refine a_cnd H (fun zc3 H => ?_) (fun zc3 H => ?_)
       ·refine a_seq ?_
        refine a_regC _ rfl ?_
        refine sA_n ?_
        refine a_ret ?_
        refine bA_r ?_
        refine sA_r ?_
        refine lA_r ?_
        refine bA_r ?_
        refine cA_r ?_
        obtain rfl := Option.some.inj H
        refine e_r2 (d := ?zd3) ?_ ?_
        rotate_left
        ·simp only [EVT, resR, single, evLoad, cut, TIS, CS, reduceAdd, reduceEqDiff, ↓reduceIte, reduceCtorEq, reduceLT, reduceLeDiff, reduceSub, Nat.reduceBEq, zc3]
         (repeat' apply And.intro) <;> first | rfl | assumption | omega | (simp; done)
        exact ZZ
       ·refine a_skip ?_
        refine bA_n ?_
        refine sA_n ?_
        refine a_regC _ rfl ?_
        refine lA_n ?_
        exact wk_lA [] [] (fun t0 => ⟨_, Nat.lt_succ_self _, (IntKind.wrap .i64 (i1 + 1)), t0, H, rfl⟩)
     ·refine a_exit ?_
      refine sA_e ?_
      refine lA_e ?_
      refine bA_hit ?_
      refine cA_n ?_
      exact wk_lA [] [] (fun t0 => ⟨t0, H, rfl⟩)
  ·rintro s ⟨t0, H, rfl⟩
   unfold ref15_SameMsgs_J1 at H
   refine a_seq ?_
   refine a_regC _ rfl ?_
   refine sA_n ?_
   refine a_ret ?_
   obtain rfl := Option.some.inj H
   refine e_r2 (d := ?zd2) ?_ ?_
   rotate_left
   ·simp only [EVT, resR, single, evLoad, cut, TIS, CS, reduceAdd, reduceEqDiff, ↓reduceIte, reduceCtorEq, reduceLT, reduceLeDiff, reduceSub, Nat.reduceBEq]
    (repeat' apply And.intro) <;> first | rfl | assumption | omega | (simp; done)
   exact ZZ
def slices_Index_J1 : Option Int :=
 some ((-1))
def slices_Index_L1 (s1 : List Int) (v1 : Int) : Nat → Int → Option Int
 | 0, _ => none
 | m_ + 1, v2 => cond (decide (v2 < (s1.length : Int))) ((idx s1 v2).bind fun x1 => cond (v1 == x1) (some (v2)) (slices_Index_L1 s1 v1 m_ (IntKind.wrap .i64 (v2 + 1)))) (slices_Index_J1)
def slices_Index_f (s1 : List Int) (v1 : Int) : Option Int :=
 slices_Index_L1 s1 v1 BIG 0
set_option maxHeartbeats 4000000 in
set_option maxRecDepth 20000 in
theorem slices_Index_pc {s1 : List Int} {v1 : Int} {r : Int} (H : slices_Index_f s1 v1 = some r) : PC Tryd.prog 60 [.list 1 (s1.map (ci .i64)), .int .i64 v1] (.int .i64 r) := by
 refine pcA_of Tryd.func60 (by rfl) (by decide) 19 (by rfl) [.tmp 4] (by rfl) ?_
 unfold slices_Index_f at H
 simp only [ent]
 refine a_seq ?_
 refine a_regC _ rfl ?_
 refine sA_n ?_
 refine a_cut (fun s => ∃ (t0 : Nat → Dat), slices_Index_J1 = some r ∧ s = ⟨tl t0 [], hl [], 0, 19⟩) ?_ ?_
 ·refine a_seq ?_
  refine a_regC _ rfl ?_
  refine sA_n ?_
  refine a_blk ?_
  refine a_loop (fun m s => ∃ (v2 : Int) (t0 : Nat → Dat), slices_Index_L1 s1 v1 m v2 = some r ∧ s = ⟨tl t0 [(0, .list 1 (s1.map (ci .i64))), (1, .int .i64 v1), (7, .int .i64 (s1.length : Int)), (8, .int .i64 v2)], hl [], 0, 19⟩) BIG ?_ ?_
  ·exact wk_lA [] [] (fun t0 => ⟨0, t0, H, rfl⟩)
  ·rintro m_slices_Index_L1 s ⟨v2, t0, H, rfl⟩
   obtain _ | m_slices_Index_L1 := m_slices_Index_L1
   ·cases (show (none : Option _) = some _ from H)
   ·rw [slices_Index_L1] at H
    refine a_seq ?_
    refine a_regC _ rfl ?_
    refine sA_n ?_
    refine a_seq ?_
    refine a_cnd H (fun zc1 H => ?_) (fun zc1 H => ?_)
    ·refine a_skip ?_
     refine sA_n ?_
     refine a_seq ?_
     refine a_blk ?_
     refine a_seq ?_
     refine a_regC _ rfl ?_
     refine sA_n ?_
     refine a_seq ?_
     obtain ⟨x1, zh1, H⟩ := bind_some H
     obtain ⟨zg1, zh1a, zh1b⟩ := idx3 (f := (ci .i64)) zh1
     try simp only [Int.reduceToNat, Int.toNat_natCast] at zg1
     refine a_regC _ rfl ?_
     refine sA_n ?_
     refine a_cnd H (fun zc2 H => ?_) (fun zc2 H => ?_)
     ·refine a_seq ?_
      refine a_regC _ rfl ?_
      refine sA_n ?_
      exact a_ret (bA_r (sA_r (lA_r (bA_r (cA_r RT)))))
     ·refine a_skip ?_
      refine bA_n ?_
      refine sA_n ?_
      refine a_regC _ rfl ?_
      refine lA_n ?_
      exact wk_lA [] [] (fun t0 => ⟨_, Nat.lt_succ_self _, (IntKind.wrap .i64 (v2 + 1)), t0, H, rfl⟩)
    ·refine a_exit ?_
     refine sA_e ?_
     refine lA_e ?_
     refine bA_hit ?_
     refine cA_n ?_
     exact wk_lA [] [] (fun t0 => ⟨t0, H, rfl⟩)
 ·rintro s ⟨t0, H, rfl⟩
  unfold slices_Index_J1 at H
  refine a_seq ?_
  refine a_regC _ rfl ?_
  refine sA_n ?_
  refine a_ret ?_
  obtain rfl := Option.some.inj H
  refine e_r2 (d := ?zd1) ?_ ?_
  rotate_left
  ·simp only [EVT, resR, single, evLoad, cut, TIS, CS, reduceAdd, reduceEqDiff, ↓reduceIte, reduceCtorEq, reduceLT, reduceLeDiff, reduceSub, Nat.reduceBEq]
   (repeat' apply And.intro) <;> first | rfl | assumption | omega | (simp; done)
  exact ZZ
def slices_Contains_f (s1 : List Int) (v1 : Int) : Option Bool :=
 (slices_Index_f s1 v1).bind fun r1 => some ((decide (0 ≤ r1)))
set_option maxHeartbeats 4000000 in
set_option maxRecDepth 20000 in
theorem slices_Contains_pc {s1 : List Int} {v1 : Int} {r : Bool} (H : slices_Contains_f s1 v1 = some r) : PC Tryd.prog 30 [.list 1 (s1.map (ci .i64)), .int .i64 v1] (.bool r) := by
 refine pcA_of Tryd.func30 (by rfl) (by decide) 9 (by rfl) [.tmp 4] (by rfl) ?_
 unfold slices_Contains_f at H
 simp only [ent]
 refine a_seq ?_
 refine a_regC _ rfl ?_
 refine sA_n ?_
 refine a_seq ?_
 obtain ⟨r1, zh1, H⟩ := bind_some H
 have zk1 := slices_Index_pc zh1
 refine a_regK _ rfl ?_
 refine sA_n ?_
 exact a_ret RT
def seat_rises_J1 : Option Bool :=
 some (true)
def seat_rises_L1 (l1 : List Int) : Nat → Int → Option Bool
 | 0, _ => none
 | m_ + 1, i1 => cond (decide (i1 < (l1.length : Int))) ((idx l1 i1).bind fun x1 => (idx l1 (IntKind.wrap .i64 (i1 - 1))).bind fun x2 => cond (decide (x1 ≤ x2)) (some (false)) (seat_rises_L1 l1 m_ (IntKind.wrap .i64 (i1 + 1)))) (seat_rises_J1)
def seat_rises_f (l1 : List Int) : Option Bool :=
 seat_rises_L1 l1 BIG 1
set_option maxHeartbeats 4000000 in
set_option maxRecDepth 20000 in
theorem seat_rises_pc {l1 : List Int} {r : Bool} (H : seat_rises_f l1 = some r) : PC Tryd.prog 33 [.list 1 (l1.map (ci .i64))] (.bool r) := by
 refine pcA_of Tryd.func33 (by rfl) (by decide) 20 (by rfl) [.tmp 2] (by rfl) ?_
 unfold seat_rises_f at H
 simp only [ent]
 refine a_seq ?_
 refine a_regC _ rfl ?_
 refine sA_n ?_
 refine a_cut (fun s => ∃ (t0 : Nat → Dat), seat_rises_J1 = some r ∧ s = ⟨tl t0 [], hl [], 0, 20⟩) ?_ ?_
 ·refine a_seq ?_
  refine a_regC _ rfl ?_
  refine sA_n ?_
  refine a_blk ?_
  refine a_loop (fun m s => ∃ (i1 : Int) (t0 : Nat → Dat), seat_rises_L1 l1 m i1 = some r ∧ s = ⟨tl t0 [(0, .list 1 (l1.map (ci .i64))), (3, .int .i64 i1)], hl [], 0, 20⟩) BIG ?_ ?_
  ·exact wk_lA [] [] (fun t0 => ⟨1, t0, H, rfl⟩)
  ·rintro m_seat_rises_L1 s ⟨i1, t0, H, rfl⟩
   obtain _ | m_seat_rises_L1 := m_seat_rises_L1
   ·cases (show (none : Option _) = some _ from H)
   ·rw [seat_rises_L1] at H
    refine a_seq ?_
    refine a_seq ?_
    refine a_regC _ rfl ?_
    refine sA_n ?_
    refine a_cnd H (fun zc1 H => ?_) (fun zc1 H => ?_)
    ·refine a_skip ?_
     refine sA_n ?_
     refine a_seq ?_
     refine a_blk ?_
     refine a_seq ?_
     obtain ⟨x1, zh1, H⟩ := bind_some H
     obtain ⟨zg1, zh1a, zh1b⟩ := idx3 (f := (ci .i64)) zh1
     try simp only [Int.reduceToNat, Int.toNat_natCast] at zg1
     obtain ⟨x2, zh2, H⟩ := bind_some H
     obtain ⟨zg2, zh2a, zh2b⟩ := idx3 (f := (ci .i64)) zh2
     try simp only [Int.reduceToNat, Int.toNat_natCast] at zg2
     refine a_drW (by kernel_rfl) _ rfl (s := ?zs5) (by kernel_rfl) (by kernel_rfl) ?zs5f ?_ ?_ ?_
     rotate_left 2
     ·refine goS ?_
      (repeat' apply And.intro) <;> first|rfl|assumption|omega|(simp;done)|(simp;omega)|(simp_all;done)
     ·kernel_rfl
     refine sA_n ?_
     refine a_cnd H (fun zc2 H => ?_) (fun zc2 H => ?_)
     ·refine a_seq ?_
      refine a_regC _ rfl ?_
      refine sA_n ?_
      exact a_ret (bA_r (sA_r (lA_r (bA_r (cA_r RT)))))
     ·refine a_skip ?_
      refine bA_n ?_
      refine sA_n ?_
      refine a_regC _ rfl ?_
      refine lA_n ?_
      exact wk_lA [] [] (fun t0 => ⟨_, Nat.lt_succ_self _, (IntKind.wrap .i64 (i1 + 1)), t0, H, rfl⟩)
    ·refine a_exit ?_
     refine sA_e ?_
     refine lA_e ?_
     refine bA_hit ?_
     refine cA_n ?_
     exact wk_lA [] [] (fun t0 => ⟨t0, H, rfl⟩)
 ·rintro s ⟨t0, H, rfl⟩
  unfold seat_rises_J1 at H
  refine a_seq ?_
  refine a_regC _ rfl ?_
  refine sA_n ?_
  refine a_ret ?_
  obtain rfl := Option.some.inj H
  refine e_r2 (d := ?zd1) ?_ ?_
  rotate_left
  ·simp only [EVT, resR, single, evLoad, cut, TIS, CS, reduceAdd, reduceEqDiff, ↓reduceIte, reduceCtorEq, reduceLT, reduceLeDiff, reduceSub, Nat.reduceBEq]
   (repeat' apply And.intro) <;> first | rfl | assumption | omega | (simp; done)
  exact ZZ
def seat_peers_f (l1 : List Int) : Option Bool :=
 cond (decide (1 ≤ (l1.length : Int))) (cond (decide ((l1.length : Int) ≤ 7)) ((seat_rises_f l1).bind fun r1 => cond r1 ((idx l1 0).bind fun x1 => cond (decide (0 ≤ x1)) ((idx l1 (IntKind.wrap .i64 ((l1.length : Int) - 1))).bind fun x2 => some ((decide (x2 ≤ 999)))) (some (false))) (some (false))) (some (false))) (some (false))
set_option maxHeartbeats 4000000 in
set_option maxRecDepth 20000 in
theorem seat_peers_pc {l1 : List Int} {r : Bool} (H : seat_peers_f l1 = some r) : PC Tryd.prog 31 [.list 1 (l1.map (ci .i64))] (.bool r) := by
 refine pcA_of Tryd.func31 (by rfl) (by decide) 30 (by rfl) [.tmp 2] (by rfl) ?_
 unfold seat_peers_f at H
 simp only [ent]
 refine a_seq ?_
 refine a_regC _ rfl ?_
 refine sA_n ?_
 refine a_seq ?_
 refine cnd H (fun zc1 H => ?_) (fun zc1 H => ?_)
 ·refine cnd H (fun zc2 H => ?_) (fun zc2 H => ?_)
  ·obtain ⟨r1, zh1, H⟩ := bind_some H
   have zk1 := seat_rises_pc zh1
   refine cnd H (fun zc3 H => ?_) (fun zc3 H => ?_)
   ·obtain ⟨x1, zh2, H⟩ := bind_some H
    obtain ⟨zg1, zh2a, zh2b⟩ := idx3 (f := (ci .i64)) zh2
    try simp only [Int.reduceToNat, Int.toNat_natCast] at zg1
    refine cnd H (fun zc4 H => ?_) (fun zc4 H => ?_)
    ·obtain ⟨x2, zh3, H⟩ := bind_some H
     obtain ⟨zg2, zh3a, zh3b⟩ := idx3 (f := (ci .i64)) zh3
     try simp only [Int.reduceToNat, Int.toNat_natCast] at zg2
     refine a_regK _ rfl ?_
     refine sA_n ?_
     exact a_ret RT
    ·refine a_reg _ rfl (s := ?zs3) ?_ ?_
     rotate_left
     ·try refine goS ?_
      repeat' with_reducible apply And.intro
      all_goals try ((with_reducible show CallR _ _ _ _ _ _ _); refine cR_s zk1 (.cons (.lst _ _ _ (ci_pu .i64) rfl) .nil) (.bool _) ?_; simp only [EVT, stepR, evOp, St.ev, St.app, St.put, wrs, evBuiltin, datOf, datOf1, evBin, binInt, frz, evIndexAddr, evLoad, cut, TIS, CS, reduceAdd, reduceMul, reduceEqDiff, ↓reduceIte, reduceCtorEq, reduceLT, reduceLeDiff, Array.reduceGetElem?, Int.reduceToNat, reduceSub, Nat.reduceBEq, ↓zc1, ↓zc2, ↓zc3, zg1, ↓zc4])
      all_goals ((repeat' apply And.intro) <;> first|rfl|assumption|omega|(simp;done)|(simp;omega)|(simp_all;done))
     refine sA_n ?_
     refine a_ret ?_
     obtain rfl := Option.some.inj H
     refine e_r2 (d := ?zd2) ?_ ?_
     rotate_left
     ·simp only [EVT, resR, single, evLoad, cut, TIS, CS, reduceAdd, reduceEqDiff, ↓reduceIte, reduceCtorEq, reduceLT, reduceLeDiff, reduceSub, Nat.reduceBEq, zc1, zc2, zc3, zg1, zc4]
      (repeat' apply And.intro) <;> first | rfl | assumption | omega | (simp; done)
     exact (.bool' (by first | rfl | assumption | (simp_all; done)))
   ·refine a_reg _ rfl (s := ?zs4) ?_ ?_
    rotate_left
    ·try refine goS ?_
     repeat' with_reducible apply And.intro
     all_goals try ((with_reducible show CallR _ _ _ _ _ _ _); refine cR_s zk1 (.cons (.lst _ _ _ (ci_pu .i64) rfl) .nil) (.bool _) ?_; simp only [EVT, stepR, evOp, St.ev, St.app, St.put, wrs, evBuiltin, datOf, datOf1, evBin, binInt, frz, evIndexAddr, evLoad, cut, TIS, CS, reduceAdd, reduceMul, reduceEqDiff, ↓reduceIte, reduceCtorEq, reduceLT, reduceLeDiff, Array.reduceGetElem?, Int.reduceToNat, reduceSub, Nat.reduceBEq, ↓zc1, ↓zc2, ↓zc3])
     all_goals ((repeat' apply And.intro) <;> first|rfl|assumption|omega|(simp;done)|(simp;omega)|(simp_all;done))
    refine sA_n ?_
    refine a_ret ?_
    obtain rfl := Option.some.inj H
    refine e_r2 (d := ?zd3) ?_ ?_
    rotate_left
    ·simp only [EVT, resR, single, evLoad, cut, TIS, CS, reduceAdd, reduceEqDiff, ↓reduceIte, reduceCtorEq, reduceLT, reduceLeDiff, reduceSub, Nat.reduceBEq, zc1, zc2, zc3]
     (repeat' apply And.intro) <;> first | rfl | assumption | omega | (simp; done)
    exact (.bool' (by first | rfl | assumption | (simp_all; done)))
  ·refine a_reg _ rfl (s := ?zs5) ?_ ?_
   rotate_left
   ·simp only [EVT, stepR, evOp, St.ev, St.app, St.put, wrs, evBuiltin, datOf, datOf1, evBin, binInt, frz, evIndexAddr, evLoad, cut, TIS, CS, reduceAdd, reduceMul, reduceEqDiff, ↓reduceIte, reduceCtorEq, reduceLT, reduceLeDiff, Array.reduceGetElem?, Int.reduceToNat, reduceSub, Nat.reduceBEq, ↓zc1, ↓zc2]
    try simp only [EVT, stepR, evOp, St.ev, St.app, St.put, wrs, evBuiltin, datOf, datOf1, evBin, binInt, frz, evIndexAddr, evLoad, cut, TIS, CS, reduceAdd, reduceMul, reduceEqDiff, ↓reduceIte, reduceCtorEq, reduceLT, reduceLeDiff, Array.reduceGetElem?, Int.reduceToNat, reduceSub, Nat.reduceBEq, ↓zc1, ↓zc2]
    (repeat' apply And.intro) <;> first|rfl|assumption|omega|(simp;done)|(simp;omega)|(simp_all;done)
   refine sA_n ?_
   refine a_ret ?_
   obtain rfl := Option.some.inj H
   refine e_r2 (d := ?zd4) ?_ ?_
   rotate_left
   ·simp only [EVT, resR, single, evLoad, cut, TIS, CS, reduceAdd, reduceEqDiff, ↓reduceIte, reduceCtorEq, reduceLT, reduceLeDiff, reduceSub, Nat.reduceBEq, zc1, zc2]
    (repeat' apply And.intro) <;> first | rfl | assumption | omega | (simp; done)
   exact ZZ
 ·refine a_reg _ rfl (s := ?zs6) ?_ ?_
  rotate_left
  ·simp only [EVT, stepR, evOp, St.ev, St.app, St.put, wrs, evBuiltin, datOf, datOf1, evBin, binInt, frz, evIndexAddr, evLoad, cut, TIS, CS, reduceAdd, reduceMul, reduceEqDiff, ↓reduceIte, reduceCtorEq, reduceLT, reduceLeDiff, Array.reduceGetElem?, Int.reduceToNat, reduceSub, Nat.reduceBEq, ↓zc1]
   try simp only [EVT, stepR, evOp, St.ev, St.app, St.put, wrs, evBuiltin, datOf, datOf1, evBin, binInt, frz, evIndexAddr, evLoad, cut, TIS, CS, reduceAdd, reduceMul, reduceEqDiff, ↓reduceIte, reduceCtorEq, reduceLT, reduceLeDiff, Array.reduceGetElem?, Int.reduceToNat, reduceSub, Nat.reduceBEq, ↓zc1]
   (repeat' apply And.intro) <;> first|rfl|assumption|omega|(simp;done)|(simp;omega)|(simp_all;done)
  refine sA_n ?_
  refine a_ret ?_
  obtain rfl := Option.some.inj H
  refine e_r2 (d := ?zd5) ?_ ?_
  rotate_left
  ·simp only [EVT, resR, single, evLoad, cut, TIS, CS, reduceAdd, reduceEqDiff, ↓reduceIte, reduceCtorEq, reduceLT, reduceLeDiff, reduceSub, Nat.reduceBEq, zc1]
   (repeat' apply And.intro) <;> first | rfl | assumption | omega | (simp; done)
  exact ZZ
def seat_entries_J1 (l1 : List Entry) : Option Bool :=
 some ((decide ((l1.length : Int) ≤ 500)))
def seat_entries_J2 (k_seat_entries_L1 : Int → Int → Option Bool) (x1 : Entry) (v1 : Int) (v2 : Bool) : Option Bool :=
 cond v2 (some (false)) (k_seat_entries_L1 x1.term (IntKind.wrap .i64 (v1 + 1)))
def seat_entries_L1 (l1 : List Entry) (term1 : Int) : Nat → Int → Int → Option Bool
 | 0, _, _ => none
 | m_ + 1, last1, v1 => cond (decide (v1 < (l1.length : Int))) ((idx l1 v1).bind fun x1 => seat_entries_J2 (seat_entries_L1 l1 term1 m_) x1 v1 ((decide (x1.term < last1)) || ((decide (term1 < x1.term)) || (decide (200 < (x1.data.length : Int)))))) (seat_entries_J1 l1)
def seat_entries_f (l1 : List Entry) (term1 : Int) : Option Bool :=
 seat_entries_L1 l1 term1 BIG 1 0
set_option maxHeartbeats 4000000 in
set_option maxRecDepth 20000 in
theorem seat_entries_pc {l1 : List Entry} {term1 : Int} {r : Bool} (H : seat_entries_f l1 term1 = some r) : PC Tryd.prog 32 [.list 2 (l1.map Entry.c), .int .i64 term1] (.bool r) := by
 refine pcA_of Tryd.func32 (by rfl) (by decide) 36 (by rfl) [.tmp 4] (by rfl) ?_
 unfold seat_entries_f at H
 simp only [ent]
 refine a_seq ?_
 refine a_regC _ rfl ?_
 refine sA_n ?_
 refine a_seq ?_
 refine a_regC _ rfl ?_
 refine sA_n ?_
 refine a_cut (fun s => ∃ (t0 : Nat → Dat), seat_entries_J1 l1 = some r ∧ s = ⟨tl t0 [(0, .list 2 (l1.map Entry.c))], hl [], 0, 36⟩) ?_ ?_
 ·refine a_seq ?_
  refine a_regC _ rfl ?_
  refine sA_n ?_
  refine a_blk ?_
  refine a_loop (fun m s => ∃ (last1 : Int) (v1 : Int) (t0 : Nat → Dat), seat_entries_L1 l1 term1 m last1 v1 = some r ∧ s = ⟨tl t0 [(0, .list 2 (l1.map Entry.c)), (1, .int .i64 term1), (5, .int .i64 last1), (8, .list 2 (l1.map Entry.c)), (9, .int .i64 (l1.length : Int)), (10, .int .i64 v1)], hl [], 0, 36⟩) BIG ?_ ?_
  ·exact wk_lA [] [] (fun t0 => ⟨1, 0, t0, H, rfl⟩)
  ·rintro m_seat_entries_L1 s ⟨last1, v1, t0, H, rfl⟩
   obtain _ | m_seat_entries_L1 := m_seat_entries_L1
   ·cases (show (none : Option _) = some _ from H)
   ·rw [seat_entries_L1] at H
    refine a_seq ?_
    refine a_regC _ rfl ?_
    refine sA_n ?_
    refine a_seq ?_
    refine a_cnd H (fun zc1 H => ?_) (fun zc1 H => ?_)
    ·refine a_skip ?_
     refine sA_n ?_
     refine a_seq ?_
     refine a_blk ?_
     refine a_seq ?_
     obtain ⟨x1, zh1, H⟩ := bind_some H
     obtain ⟨zg1, zh1a, zh1b⟩ := idx3 (f := Entry.c) zh1
     try simp only [Int.reduceToNat, Int.toNat_natCast] at zg1
     refine a_regC _ rfl ?_
     refine sA_n ?_
     refine a_seq ?_
     refine a_cut (fun s => ∃ (v2 : Bool) (t0 : Nat → Dat), seat_entries_J2 (seat_entries_L1 l1 term1 m_seat_entries_L1) x1 v1 v2 = some r ∧ s = ⟨tl t0 [(0, .list 2 (l1.map Entry.c)), (1, .int .i64 term1), (7, .ptr 0 0 0 2), (8, .list 2 (l1.map Entry.c)), (9, .int .i64 (l1.length : Int)), (10, .int .i64 v1), (29, .bool v2)], hl [⟨76, 2, false, [Entry.c x1]⟩], 1, 36⟩) ?_ ?_
     ·refine bool_split (b := (decide (x1.term < last1))) (fun zc3 => ?_) (fun zc3 => ?_)
      ·rw [zc3] at H
       refine a_regC _ rfl ?_
       refine cA_n ?_
       exact wk_lA [(some 10, _)] [] (fun t0 => ⟨true, t0, H, rfl⟩)
      ·rw [zc3] at H
       refine bool_split (b := (decide (term1 < x1.term))) (fun zc4 => ?_) (fun zc4 => ?_)
       ·rw [zc4] at H
        refine a_regC _ rfl ?_
        refine cA_n ?_
        exact wk_lA [(some 10, _)] [] (fun t0 => ⟨true, t0, H, rfl⟩)
       ·rw [zc4] at H
        refine a_regC _ rfl ?_
        refine cA_n ?_
        exact wk_lA [(some 10, _)] [] (fun t0 => ⟨(decide (200 < (x1.data.length : Int))), t0, H, rfl⟩)
     ·rintro s ⟨v2, t0, H, rfl⟩
      unfold seat_entries_J2 at H
      refine a_cnd H (fun zc2 H => ?_) (fun zc2 H => ?_)
      ·refine a_seq ?_
       refine a_regC _ rfl ?_
       refine sA_n ?_
       exact a_ret (sA_r (bA_r (sA_r (lA_r (bA_r (cA_r RT))))))
      ·refine a_skip ?_
       refine sA_n ?_
       refine a_regC _ rfl ?_
       refine bA_n ?_
       refine sA_n ?_
       refine a_regC _ rfl ?_
       refine lA_n ?_
       exact wk_lA [] [] (fun t0 => ⟨_, Nat.lt_succ_self _, x1.term, (IntKind.wrap .i64 (v1 + 1)), t0, H, rfl⟩)
    ·refine a_exit ?_
     refine sA_e ?_
     refine lA_e ?_
     refine bA_hit ?_
     refine cA_n ?_
     exact wk_lA [] [] (fun t0 => ⟨t0, H, rfl⟩)
 ·rintro s ⟨t0, H, rfl⟩
  unfold seat_entries_J1 at H
  refine a_seq ?_
  refine a_regC _ rfl ?_
  refine sA_n ?_
  refine a_ret ?_
  obtain rfl := Option.some.inj H
  refine e_r2 (d := ?zd1) ?_ ?_
  rotate_left
  ·simp only [EVT, resR, single, evLoad, cut, TIS, CS, reduceAdd, reduceEqDiff, ↓reduceIte, reduceCtorEq, reduceLT, reduceLeDiff, reduceSub, Nat.reduceBEq]
   (repeat' apply And.intro) <;> first | rfl | assumption | omega | (simp; done)
  exact ZZ
def slices_IndexFunc_J1 : Option Int :=
 some ((-1))
def slices_IndexFunc_L1 (s1 : List Int) (f1 : Int → Option Bool) : Nat → Int → Option Int
 | 0, _ => none
 | m_ + 1, v1 => cond (decide (v1 < (s1.length : Int))) ((idx s1 v1).bind fun x1 => (f1 x1).bind fun r1 => cond r1 (some (v1)) (slices_IndexFunc_L1 s1 f1 m_ (IntKind.wrap .i64 (v1 + 1)))) (slices_IndexFunc_J1)
def slices_IndexFunc_f (s1 : List Int) (f1 : Int → Option Bool) : Option Int :=
 slices_IndexFunc_L1 s1 f1 BIG 0
set_option maxHeartbeats 4000000 in
set_option maxRecDepth 20000 in
theorem slices_IndexFunc_pc {s1 : List Int} {f1 : Int → Option Bool} {f1_F : FuncId} {f1_caps : List Dat} (f1_hp : ∀ (x0_ : Int) (r : Bool), f1 x0_ = some r → PC Tryd.prog f1_F (.int .i64 x0_ :: f1_caps) (.bool r)) (f1_pu : Pus f1_caps) {r : Int} (H : slices_IndexFunc_f s1 f1 = some r) : PC Tryd.prog 61 [.list 1 (s1.map (ci .i64)), .fn (.func f1_F) [] f1_caps] (.int .i64 r) := by
 refine pcA_of Tryd.func61 (by rfl) (by decide) 19 (by rfl) [.tmp 4] (by rfl) ?_
 unfold slices_IndexFunc_f at H
 simp only [ent]
 refine a_seq ?_
 refine a_regC _ rfl ?_
 refine sA_n ?_
 refine a_cut (fun s => ∃ (t0 : Nat → Dat), slices_IndexFunc_J1 = some r ∧ s = ⟨tl t0 [], hl [], 0, 19⟩) ?_ ?_
 ·refine a_seq ?_
  refine a_regC _ rfl ?_
  refine sA_n ?_
  refine a_blk ?_
  refine a_loop (fun m s => ∃ (v1 : Int) (t0 : Nat → Dat), slices_IndexFunc_L1 s1 f1 m v1 = some r ∧ s = ⟨tl t0 [(0, .list 1 (s1.map (ci .i64))), (1, .fn (.func f1_F) [] f1_caps), (7, .int .i64 (s1.length : Int)), (8, .int .i64 v1)], hl [], 0, 19⟩) BIG ?_ ?_
  ·refine wk_l [] [] [(0, .list 1 (s1.map (ci .i64))), (1, .fn (.func f1_F) [] f1_caps), (7, .int .i64 (s1.length : Int)), (8, .int .i64 0)] (by show ([0, 1, 7, 8] : List Nat).Nodup; decide) (by show ([] : List Nat).Nodup; decide) ?_ ?_ (fun t0 => ⟨0, t0, H, rfl⟩)
   ·exact trivial
   ·(simp only [AllT, ATT, reduceEqDiff, ↓reduceIte, and_true]); exact ⟨(.lst _ _ _ (ci_pu .i64) rfl), (.fn' .nil (RNs.pu f1_pu)), (.int' rfl), (.int' rfl)⟩
  ·rintro m_slices_IndexFunc_L1 s ⟨v1, t0, H, rfl⟩
   obtain _ | m_slices_IndexFunc_L1 := m_slices_IndexFunc_L1
   ·cases (show (none : Option _) = some _ from H)
   ·rw [slices_IndexFunc_L1] at H
    refine a_seq ?_
    refine a_regC _ rfl ?_
    refine sA_n ?_
    refine a_seq ?_
    refine a_cnd H (fun zc1 H => ?_) (fun zc1 H => ?_)
    ·refine a_skip ?_
     refine sA_n ?_
     refine a_seq ?_
     refine a_blk ?_
     refine a_seq ?_
     refine a_regC _ rfl ?_
     refine sA_n ?_
     refine a_seq ?_
     obtain ⟨x1, zh1, H⟩ := bind_some H
     obtain ⟨zg1, zh1a, zh1b⟩ := idx3 (f := (ci .i64)) zh1
     try simp only [Int.reduceToNat, Int.toNat_natCast] at zg1
     obtain ⟨r1, zh2, H⟩ := bind_some H
     have zk1 := f1_hp _ _ zh2
     refine a_reg _ rfl (s := ?zs6) ?_ ?_
     rotate_left
     ·try refine goS ?_
      repeat' with_reducible apply And.intro
      all_goals try ((with_reducible show CallR _ _ _ _ _ _ _); refine cR_s zk1 (.cons (.int' rfl) (Pus.purRs f1_pu)) (.bool _) ?_; refine goS ?_)
      all_goals ((repeat' apply And.intro) <;> first|rfl|assumption|omega|(simp;done)|(simp;omega)|(simp_all;done))
     refine sA_n ?_
     refine a_cnd H (fun zc2 H => ?_) (fun zc2 H => ?_)
     ·refine a_seq ?_
      refine a_regC _ rfl ?_
      refine sA_n ?_
      exact a_ret (bA_r (sA_r (lA_r (bA_r (cA_r RT)))))
     ·refine a_skip ?_
      refine bA_n ?_
      refine sA_n ?_
      refine a_regC _ rfl ?_
      refine lA_n ?_
      refine wk_l [] [] [(0, .list 1 (s1.map (ci .i64))), (1, .fn (.func f1_F) [] f1_caps), (7, .int .i64 (s1.length : Int)), (8, .int .i64 (IntKind.wrap .i64 (v1 + 1)))] (by show ([0, 1, 7, 8] : List Nat).Nodup; decide) (by show ([] : List Nat).Nodup; decide) ?_ ?_ (fun t0 => ⟨_, Nat.lt_succ_self _, (IntKind.wrap .i64 (v1 + 1)), t0, H, rfl⟩)
      ·exact trivial
      ·(simp only [AllT, ATT, reduceEqDiff, ↓reduceIte, and_true]); exact ⟨(.lst _ _ _ (ci_pu .i64) rfl), (.fn' .nil (RNs.pu f1_pu)), (.int' rfl), (.int' rfl)⟩
    ·refine a_exit ?_
     refine sA_e ?_
     refine lA_e ?_
     refine bA_hit ?_
     refine cA_n ?_
     exact wk_lA [] [] (fun t0 => ⟨t0, H, rfl⟩)
 ·rintro s ⟨t0, H, rfl⟩
  unfold slices_IndexFunc_J1 at H
  refine a_seq ?_
  refine a_regC _ rfl ?_
  refine sA_n ?_
  refine a_ret ?_
  obtain rfl := Option.some.inj H
  refine e_r2 (d := ?zd1) ?_ ?_
  rotate_left
  ·simp only [EVT, resR, single, evLoad, cut, TIS, CS, reduceAdd, reduceEqDiff, ↓reduceIte, reduceCtorEq, reduceLT, reduceLeDiff, reduceSub, Nat.reduceBEq]
   (repeat' apply And.intro) <;> first | rfl | assumption | omega | (simp; done)
  exact ZZ
def slices_ContainsFunc_f (s1 : List Int) (f1 : Int → Option Bool) : Option Bool :=
 (slices_IndexFunc_f s1 f1).bind fun r1 => some ((decide (0 ≤ r1)))
set_option maxHeartbeats 4000000 in
set_option maxRecDepth 20000 in
theorem slices_ContainsFunc_pc {s1 : List Int} {f1 : Int → Option Bool} {f1_F : FuncId} {f1_caps : List Dat} (f1_hp : ∀ (x0_ : Int) (r : Bool), f1 x0_ = some r → PC Tryd.prog f1_F (.int .i64 x0_ :: f1_caps) (.bool r)) (f1_pu : Pus f1_caps) {r : Bool} (H : slices_ContainsFunc_f s1 f1 = some r) : PC Tryd.prog 34 [.list 1 (s1.map (ci .i64)), .fn (.func f1_F) [] f1_caps] (.bool r) := by
 refine pcA_of Tryd.func34 (by rfl) (by decide) 9 (by rfl) [.tmp 4] (by rfl) ?_
 unfold slices_ContainsFunc_f at H
 simp only [ent]
 refine a_seq ?_
 refine a_regC _ rfl ?_
 refine sA_n ?_
 refine a_seq ?_
 obtain ⟨r1, zh1, H⟩ := bind_some H
 have zk1 := slices_IndexFunc_pc (f1 := f1) (f1_F := f1_F) (f1_caps := f1_caps) f1_hp f1_pu zh1
 refine a_reg _ rfl (s := ?zs2) ?_ ?_
 rotate_left
 ·try refine goS ?_
  repeat' with_reducible apply And.intro
  all_goals try ((with_reducible show CallR _ _ _ _ _ _ _); refine cR_s zk1 (.cons (.lst _ _ _ (ci_pu .i64) rfl) (.cons (.fn' .nil (Pus.purRs f1_pu)) .nil)) (.int _ _) ?_; refine goS ?_)
  all_goals ((repeat' apply And.intro) <;> first|rfl|assumption|omega|(simp;done)|(simp;omega)|(simp_all;done))
 refine sA_n ?_
 exact a_ret RT
def seat_leads_J2 : Option Bool :=
 some (true)
def seat_leads_J3 (k_seat_leads_L1 : Int → Option Bool) (v2 : Int) (v3 : Bool) : Option Bool :=
 cond v3 (some (false)) (k_seat_leads_L1 (IntKind.wrap .i64 (v2 + 1)))
def seat_leads_L1 (s1 : Seat) : Nat → Int → Option Bool
 | 0, _ => none
 | m_ + 1, v2 => cond (decide (v2 < (s1.match_.length : Int))) ((idx s1.match_ v2).bind fun x1 => cond (decide (x1 < 0)) (seat_leads_J3 (seat_leads_L1 s1 m_) v2 true) (cond (decide ((s1.log.length : Int) < x1)) (seat_leads_J3 (seat_leads_L1 s1 m_) v2 true) ((idx s1.next v2).bind fun x2 => cond (decide (x2 ≤ x1)) (seat_leads_J3 (seat_leads_L1 s1 m_) v2 true) (cond (decide ((IntKind.wrap .i64 ((s1.log.length : Int) + 1)) < x2)) (seat_leads_J3 (seat_leads_L1 s1 m_) v2 true) ((idx s1.peers v2).bind fun x3 => seat_leads_J3 (seat_leads_L1 s1 m_) v2 ((x3 == s1.id) && (x1 != (s1.log.length : Int)))))))) (seat_leads_J2)
def seat_leads_J1 (s1 : Seat) (v1 : Bool) : Option Bool :=
 cond v1 (some (false)) (seat_leads_L1 s1 BIG 0)
def seat_leads_f (s1 : Seat) : Option Bool :=
 seat_leads_J1 s1 (((s1.next.length : Int) != (s1.peers.length : Int)) || (((s1.match_.length : Int) != (s1.peers.length : Int)) || ((decide (0 < (s1.votes.length : Int))) || (s1.voted != s1.id))))
set_option maxHeartbeats 4000000 in
set_option maxRecDepth 20000 in
theorem seat_leads_pc {s1 : Seat} {r : Bool} (H : seat_leads_f s1 = some r) : PC Tryd.prog 36 [.agg (Seat.c s1)] (.bool r) := by
 refine pcA_of Tryd.func36 (by rfl) (by decide) 90 (by rfl) [.tmp 2] (by rfl) ?_
 unfold seat_leads_f at H
 simp only [ent]
 refine a_seq ?_
 refine a_regC _ rfl ?_
 refine sA_n ?_
 refine a_seq ?_
 refine a_regC _ rfl ?_
 refine sA_n ?_
 refine a_seq ?_
 refine a_cut (fun s => ∃ (v1 : Bool) (t0 : Nat → Dat), seat_leads_J1 s1 v1 = some r ∧ s = ⟨tl t0 [(1, .ptr 0 0 0 10), (33, .bool v1)], hl [⟨25, 10, false, [Seat.c s1]⟩], 1, 90⟩) ?_ ?_
 ·refine bool_split (b := ((s1.next.length : Int) != (s1.peers.length : Int))) (fun zc9 => ?_) (fun zc9 => ?_)
  ·rw [zc9] at H
   refine a_regC _ rfl ?_
   refine cA_n ?_
   exact wk_lA [(some 0, _)] [] (fun t0 => ⟨true, t0, H, rfl⟩)
  ·rw [zc9] at H
   refine bool_split (b := ((s1.match_.length : Int) != (s1.peers.length : Int))) (fun zc10 => ?_) (fun zc10 => ?_)
   ·rw [zc10] at H
    refine a_regC _ rfl ?_
    refine cA_n ?_
    exact wk_lA [(some 0, _)] [] (fun t0 => ⟨true, t0, H, rfl⟩)
   ·rw [zc10] at H
    refine bool_split (b := (decide (0 < (s1.votes.length : Int)))) (fun zc11 => ?_) (fun zc11 => ?_)
    ·rw [zc11] at H
     refine a_regC _ rfl ?_
     refine cA_n ?_
     exact wk_lA [(some 0, _)] [] (fun t0 => ⟨true, t0, H, rfl⟩)
    ·rw [zc11] at H
     refine a_regC _ rfl ?_
     refine cA_n ?_
     exact wk_lA [(some 0, _)] [] (fun t0 => ⟨(s1.voted != s1.id), t0, H, rfl⟩)
 ·rintro s ⟨v1, t0, H, rfl⟩
  unfold seat_leads_J1 at H
  refine a_cnd H (fun zc1 H => ?_) (fun zc1 H => ?_)
  ·refine a_seq ?_
   refine a_regC _ rfl ?_
   refine sA_n ?_
   exact a_ret (sA_r RT)
  ·refine a_skip ?_
   refine sA_n ?_
   refine a_cut (fun s => ∃ (t0 : Nat → Dat), seat_leads_J2 = some r ∧ s = ⟨tl t0 [], hl [], 0, 90⟩) ?_ ?_
   ·refine a_seq ?_
    refine a_regC _ rfl ?_
    refine sA_n ?_
    refine a_blk ?_
    refine a_loop (fun m s => ∃ (v2 : Int) (t0 : Nat → Dat), seat_leads_L1 s1 m v2 = some r ∧ s = ⟨tl t0 [(1, .ptr 0 0 0 10), (35, .list 1 (s1.match_.map (ci .i64))), (36, .int .i64 (s1.match_.length : Int)), (37, .int .i64 v2)], hl [⟨25, 10, false, [Seat.c s1]⟩], 1, 90⟩) BIG ?_ ?_
    ·exact wk_lA [(some 0, _)] [] (fun t0 => ⟨0, t0, H, rfl⟩)
    ·rintro m_seat_leads_L1 s ⟨v2, t0, H, rfl⟩
     obtain _ | m_seat_leads_L1 := m_seat_leads_L1
     ·cases (show (none : Option _) = some _ from H)
     ·rw [seat_leads_L1] at H
      refine a_seq ?_
      refine a_regC _ rfl ?_
      refine sA_n ?_
      refine a_seq ?_
      refine a_cnd H (fun zc2 H => ?_) (fun zc2 H => ?_)
      ·refine a_skip ?_
       refine sA_n ?_
       refine a_seq ?_
       refine a_blk ?_
       refine a_seq ?_
       obtain ⟨x1, zh1, H⟩ := bind_some H
       obtain ⟨zg1, zh1a, zh1b⟩ := idx3 (f := (ci .i64)) zh1
       try simp only [Int.reduceToNat, Int.toNat_natCast] at zg1
       refine a_regC _ rfl ?_
       refine sA_n ?_
       refine a_cut (fun s => ∃ (v3 : Bool) (t0 : Nat → Dat), seat_leads_J3 (seat_leads_L1 s1 m_seat_leads_L1) v2 v3 = some r ∧ s = ⟨tl t0 [(1, .ptr 0 0 0 10), (35, .list 1 (s1.match_.map (ci .i64))), (36, .int .i64 (s1.match_.length : Int)), (37, .int .i64 v2), (88, .bool v3)], hl [⟨25, 10, false, [Seat.c s1]⟩], 1, 90⟩) ?_ ?_
       ·refine cnd H (fun zc4 H => ?_) (fun zc4 H => ?_)
        ·refine a_drW (by kernel_rfl) _ rfl (s := ?zs10) (by kernel_rfl) (by kernel_rfl) ?zs10f ?_ ?_ ?_
         rotate_left 2
         ·refine goS ?_
          try refine goS ?_
          (repeat' apply And.intro) <;> first|rfl|assumption|omega|(simp;done)|(simp;omega)|(simp_all;done)
         ·kernel_rfl
         refine cA_n ?_
         exact wk_lA [(some 0, _)] [] (fun t0 => ⟨true, t0, H, rfl⟩)
        ·refine cnd H (fun zc5 H => ?_) (fun zc5 H => ?_)
         ·refine a_drW (by kernel_rfl) _ rfl (s := ?zs11) (by kernel_rfl) (by kernel_rfl) ?zs11f ?_ ?_ ?_
          rotate_left 2
          ·refine goS ?_
           try refine goS ?_
           (repeat' apply And.intro) <;> first|rfl|assumption|omega|(simp;done)|(simp;omega)|(simp_all;done)
          ·kernel_rfl
          refine cA_n ?_
          exact wk_lA [(some 0, _)] [] (fun t0 => ⟨true, t0, H, rfl⟩)
         ·obtain ⟨x2, zh2, H⟩ := bind_some H
          obtain ⟨zg2, zh2a, zh2b⟩ := idx3 (f := (ci .i64)) zh2
          try simp only [Int.reduceToNat, Int.toNat_natCast] at zg2
          refine cnd H (fun zc6 H => ?_) (fun zc6 H => ?_)
          ·refine a_drW (by kernel_rfl) _ rfl (s := ?zs12) (by kernel_rfl) (by kernel_rfl) ?zs12f ?_ ?_ ?_
           rotate_left 2
           ·refine goS ?_
            try refine goS ?_
            (repeat' apply And.intro) <;> first|rfl|assumption|omega|(simp;done)|(simp;omega)|(simp_all;done)
           ·kernel_rfl
           refine cA_n ?_
           exact wk_lA [(some 0, _)] [] (fun t0 => ⟨true, t0, H, rfl⟩)
          ·refine cnd H (fun zc7 H => ?_) (fun zc7 H => ?_)
           ·refine a_drW (by kernel_rfl) _ rfl (s := ?zs13) (by kernel_rfl) (by kernel_rfl) ?zs13f ?_ ?_ ?_
            rotate_left 2
            ·refine goS ?_
             try refine goS ?_
             (repeat' apply And.intro) <;> first|rfl|assumption|omega|(simp;done)|(simp;omega)|(simp_all;done)
            ·kernel_rfl
            refine cA_n ?_
            exact wk_lA [(some 0, _)] [] (fun t0 => ⟨true, t0, H, rfl⟩)
           ·obtain ⟨x3, zh3, H⟩ := bind_some H
            obtain ⟨zg3, zh3a, zh3b⟩ := idx3 (f := (ci .i64)) zh3
            try simp only [Int.reduceToNat, Int.toNat_natCast] at zg3
            refine bool_split (b := (x3 == s1.id)) (fun zc8 => ?_) (fun zc8 => ?_)
            ·rw [zc8] at H
             refine a_drW (by kernel_rfl) _ rfl (s := ?zs14) (by kernel_rfl) (by kernel_rfl) ?zs14f ?_ ?_ ?_
             rotate_left 2
             ·refine goS ?_
              try refine goS ?_
              (repeat' apply And.intro) <;> first|rfl|assumption|omega|(simp;done)|(simp;omega)|(simp_all;done)
             ·kernel_rfl
             refine cA_n ?_
             exact wk_lA [(some 0, _)] [] (fun t0 => ⟨(x1 != (s1.log.length : Int)), t0, H, rfl⟩)
            ·rw [zc8] at H
             refine a_drW (by kernel_rfl) _ rfl (s := ?zs15) (by kernel_rfl) (by kernel_rfl) ?zs15f ?_ ?_ ?_
             rotate_left 2
             ·refine goS ?_
              try refine goS ?_
              (repeat' apply And.intro) <;> first|rfl|assumption|omega|(simp;done)|(simp;omega)|(simp_all;done)
             ·kernel_rfl
             refine cA_n ?_
             exact wk_lA [(some 0, _)] [] (fun t0 => ⟨false, t0, H, rfl⟩)
       ·rintro s ⟨v3, t0, H, rfl⟩
        unfold seat_leads_J3 at H
        refine a_cnd H (fun zc3 H => ?_) (fun zc3 H => ?_)
        ·refine a_seq ?_
         refine a_regC _ rfl ?_
         refine sA_n ?_
         refine a_ret ?_
         refine bA_r ?_
         refine sA_r ?_
         refine lA_r ?_
         refine bA_r ?_
         refine cA_r ?_
         obtain rfl := Option.some.inj H
         refine e_r2 (d := ?zd3) ?_ ?_
         rotate_left
         ·simp only [EVT, resR, single, evLoad, cut, TIS, CS, reduceAdd, reduceEqDiff, ↓reduceIte, reduceCtorEq, reduceLT, reduceLeDiff, reduceSub, Nat.reduceBEq, zc3]
          (repeat' apply And.intro) <;> first | rfl | assumption | omega | (simp; done)
         exact ZZ
        ·refine a_skip ?_
         refine bA_n ?_
         refine sA_n ?_
         refine a_regC _ rfl ?_
         refine lA_n ?_
         exact wk_lA [(some 0, _)] [] (fun t0 => ⟨_, Nat.lt_succ_self _, (IntKind.wrap .i64 (v2 + 1)), t0, H, rfl⟩)
      ·refine a_exit ?_
       refine sA_e ?_
       refine lA_e ?_
       refine bA_hit ?_
       refine cA_n ?_
       exact wk_lA [] [] (fun t0 => ⟨t0, H, rfl⟩)
   ·rintro s ⟨t0, H, rfl⟩
    unfold seat_leads_J2 at H
    refine a_seq ?_
    refine a_regC _ rfl ?_
    refine sA_n ?_
    refine a_ret ?_
    obtain rfl := Option.some.inj H
    refine e_r2 (d := ?zd2) ?_ ?_
    rotate_left
    ·simp only [EVT, resR, single, evLoad, cut, TIS, CS, reduceAdd, reduceEqDiff, ↓reduceIte, reduceCtorEq, reduceLT, reduceLeDiff, reduceSub, Nat.reduceBEq]
     (repeat' apply And.intro) <;> first | rfl | assumption | omega | (simp; done)
    exact ZZ
def vote_Down_f (s1 : Seat) (term1 : Int) : Option Seat :=
 some ((⟨s1.id, s1.peers, term1, (-1), 1, s1.log, s1.commit, [], [], []⟩ : Seat))
set_option maxHeartbeats 4000000 in
set_option maxRecDepth 20000 in
theorem vote_Down_pc {s1 : Seat} {term1 : Int} {r : Seat} (H : vote_Down_f s1 term1 = some r) : PC Tryd.prog 38 [.agg (Seat.c s1), .int .i64 term1] (.agg (Seat.c r)) := by
 refine pcA_of Tryd.func38 (by rfl) (by decide) 13 (by rfl) [.cell 4 25] (by rfl) ?_
 unfold vote_Down_f at H
 simp only [ent]
 refine a_seq ?_
 refine a_regC _ rfl ?_
 refine sA_n ?_
 refine a_seq ?_
 refine a_regC _ rfl ?_
 refine sA_n ?_
 refine a_seq ?_
 refine a_regC _ rfl ?_
 refine sA_n ?_
 refine a_seq ?_
 refine a_regC _ rfl ?_
 refine sA_n ?_
 exact a_ret RT
def vote_Begin_f (s1 : Seat) : Option Seat :=
 (vote_Down_f s1 (IntKind.wrap .i64 (s1.term + 1))).bind fun r1 => some ((⟨r1.id, r1.peers, r1.term, r1.id, 2, r1.log, r1.commit, [r1.id], r1.next, r1.match_⟩ : Seat))
set_option maxHeartbeats 4000000 in
set_option maxRecDepth 20000 in
theorem vote_Begin_pc {s1 : Seat} {r : Seat} (H : vote_Begin_f s1 = some r) : PC Tryd.prog 44 [.agg (Seat.c s1)] (.agg (Seat.c r)) := by
 refine pcA_of Tryd.func44 (by rfl) (by decide) 17 (by rfl) [.cell 2 25] (by rfl) ?_
 unfold vote_Begin_f at H
 simp only [ent]
 refine a_seq ?_
 refine a_regC _ rfl ?_
 refine sA_n ?_
 refine a_seq ?_
 obtain ⟨r1, zh1, H⟩ := bind_some H
 have zk1 := vote_Down_pc zh1
 refine a_regK _ rfl ?_
 refine sA_n ?_
 refine a_seq ?_
 refine a_regC _ rfl ?_
 refine sA_n ?_
 refine a_seq ?_
 refine a_regC _ rfl ?_
 refine sA_n ?_
 exact a_ret RT
def seat_Right_1_f (id1 : Int) (v1 : Seat) : Option Bool :=
 (slices_Contains_f v1.peers id1).bind fun r1 => some (r1)
set_option maxHeartbeats 4000000 in
set_option maxRecDepth 20000 in
theorem seat_Right_1_pc {id1 : Int} {v1 : Seat} {r : Bool} (H : seat_Right_1_f id1 v1 = some r) : PC Tryd.prog 29 [.int .i64 id1, .rop (Seat.c v1) 0 10] (.bool r) := by
 refine pcA_of Tryd.func29 (by rfl) (by decide) 8 (by rfl) [.tmp 3] (by rfl) ?_
 unfold seat_Right_1_f at H
 simp only [ent]
 refine a_seq ?_
 refine a_regC _ rfl ?_
 refine sA_n ?_
 refine a_seq ?_
 obtain ⟨r1, zh1, H⟩ := bind_some H
 have zk1 := slices_Contains_pc zh1
 refine a_regK _ rfl ?_
 refine sA_n ?_
 exact a_ret RT
def log_Fits_J1 (at1 : Int) (term1 : Int) (l1 : List Entry) (v1 : Bool) : Option Bool :=
 cond v1 (some (false)) (cond (at1 == 0) (some ((term1 == 0))) ((idx l1 (IntKind.wrap .i64 (at1 - 1))).bind fun x1 => some ((x1.term == term1))))
def log_Fits_f (l1 : List Entry) (at1 : Int) (term1 : Int) : Option Bool :=
 log_Fits_J1 at1 term1 l1 ((decide (at1 < 0)) || (decide ((l1.length : Int) < at1)))
set_option maxHeartbeats 4000000 in
set_option maxRecDepth 20000 in
theorem log_Fits_pc {l1 : List Entry} {at1 : Int} {term1 : Int} {r : Bool} (H : log_Fits_f l1 at1 term1 = some r) : PC Tryd.prog 74 [.list 2 (l1.map Entry.c), .int .i64 at1, .int .i64 term1] (.bool r) := by
 refine pcA_of Tryd.func74 (by rfl) (by decide) 29 (by rfl) [.tmp 6] (by rfl) ?_
 unfold log_Fits_f at H
 simp only [ent]
 refine a_seq ?_
 refine a_regC _ rfl ?_
 refine sA_n ?_
 refine a_seq ?_
 refine a_blk ?_
 refine a_cut (fun s => ∃ (v1 : Bool) (t0 : Nat → Dat), log_Fits_J1 at1 term1 l1 v1 = some r ∧ s = ⟨tl t0 [(0, .list 2 (l1.map Entry.c)), (1, .int .i64 at1), (2, .int .i64 term1), (7, .bool v1)], hl [], 0, 29⟩) ?_ ?_
 ·refine bool_split (b := (decide (at1 < 0))) (fun zc3 => ?_) (fun zc3 => ?_)
  ·rw [zc3] at H
   refine a_regC _ rfl ?_
   refine cA_n ?_
   exact wk_lA [] [] (fun t0 => ⟨true, t0, H, rfl⟩)
  ·rw [zc3] at H
   refine a_regC _ rfl ?_
   refine cA_n ?_
   exact wk_lA [] [] (fun t0 => ⟨(decide ((l1.length : Int) < at1)), t0, H, rfl⟩)
 ·rintro s ⟨v1, t0, H, rfl⟩
  unfold log_Fits_J1 at H
  refine a_cnd H (fun zc1 H => ?_) (fun zc1 H => ?_)
  ·refine a_seq ?_
   refine a_regC _ rfl ?_
   refine sA_n ?_
   exact a_ret (bA_r (sA_r RT))
  ·refine a_seq ?_
   refine a_regC _ rfl ?_
   refine sA_n ?_
   refine a_cnd H (fun zc2 H => ?_) (fun zc2 H => ?_)
   ·refine a_seq ?_
    refine a_regC _ rfl ?_
    refine sA_n ?_
    refine a_ret ?_
    refine bA_r ?_
    refine sA_r ?_
    obtain rfl := Option.some.inj H
    refine e_r2 (d := ?zd2) ?_ ?_
    rotate_left
    ·simp only [EVT, resR, single, evLoad, cut, TIS, CS, reduceAdd, reduceEqDiff, ↓reduceIte, reduceCtorEq, reduceLT, reduceLeDiff, reduceSub, Nat.reduceBEq, zc1, zc2]
     (repeat' apply And.intro) <;> first | rfl | assumption | omega | (simp; done)
    exact ZZ
   ·refine a_skip ?_
    refine bA_n ?_
    refine sA_n ?_
    refine a_seq ?_
    obtain ⟨x1, zh1, H⟩ := bind_some H
    obtain ⟨zg1, zh1a, zh1b⟩ := idx3 (f := Entry.c) zh1
    try simp only [Int.reduceToNat, Int.toNat_natCast] at zg1
    refine a_regC _ rfl ?_
    refine sA_n ?_
    refine a_ret ?_
    obtain rfl := Option.some.inj H
    refine e_r2 (d := ?zd3) ?_ ?_
    rotate_left
    ·simp only [EVT, resR, single, evLoad, cut, TIS, CS, reduceAdd, reduceEqDiff, ↓reduceIte, reduceCtorEq, reduceLT, reduceLeDiff, reduceSub, Nat.reduceBEq, zc1, zc2, zg1]
     (repeat' apply And.intro) <;> first | rfl | assumption | omega | (simp; done)
    exact ZZ
def log_Newer_J1 (term1 : Int) (l1 : List Entry) (many1 : Int) (last1 : Int) : Option Bool :=
 some ((decide (last1 < term1)) || ((term1 == last1) && (decide ((l1.length : Int) ≤ many1))))
def log_Newer_f (l1 : List Entry) (term1 : Int) (many1 : Int) : Option Bool :=
 cond (decide (0 < (l1.length : Int))) ((idx l1 (IntKind.wrap .i64 ((l1.length : Int) - 1))).bind fun x1 => log_Newer_J1 term1 l1 many1 x1.term) (log_Newer_J1 term1 l1 many1 0)
set_option maxHeartbeats 4000000 in
set_option maxRecDepth 20000 in
theorem log_Newer_pc {l1 : List Entry} {term1 : Int} {many1 : Int} {r : Bool} (H : log_Newer_f l1 term1 many1 = some r) : PC Tryd.prog 73 [.list 2 (l1.map Entry.c), .int .i64 term1, .int .i64 many1] (.bool r) := by
 refine pcA_of Tryd.func73 (by rfl) (by decide) 33 (by rfl) [.tmp 6] (by rfl) ?_
 unfold log_Newer_f at H
 simp only [ent]
 refine a_seq ?_
 refine a_regC _ rfl ?_
 refine sA_n ?_
 refine a_seq ?_
 refine a_regC _ rfl ?_
 refine sA_n ?_
 refine a_cut (fun s => ∃ (last1 : Int) (t0 : Nat → Dat), log_Newer_J1 term1 l1 many1 last1 = some r ∧ s = ⟨tl t0 [(0, .list 2 (l1.map Entry.c)), (1, .int .i64 term1), (2, .int .i64 many1), (7, .int .i64 last1)], hl [], 0, 33⟩) ?_ ?_
 ·refine a_seq ?_
  refine a_regC _ rfl ?_
  refine sA_n ?_
  refine a_seq ?_
  refine a_regC _ rfl ?_
  refine sA_n ?_
  refine a_cnd H (fun zc3 H => ?_) (fun zc3 H => ?_)
  ·obtain ⟨x1, zh1, H⟩ := bind_some H
   obtain ⟨zg1, zh1a, zh1b⟩ := idx3 (f := Entry.c) zh1
   try simp only [Int.reduceToNat, Int.toNat_natCast] at zg1
   refine a_regC _ rfl ?_
   refine cA_n ?_
   exact wk_lA [] [] (fun t0 => ⟨x1.term, t0, H, rfl⟩)
  ·refine a_skip ?_
   refine cA_n ?_
   exact wk_lA [] [] (fun t0 => ⟨0, t0, H, rfl⟩)
 ·rintro s ⟨last1, t0, H, rfl⟩
  unfold log_Newer_J1 at H
  refine a_seq ?_
  refine bool_split (b := (decide (last1 < term1))) (fun zc1 => ?_) (fun zc1 => ?_)
  ·rw [zc1] at H
   refine a_regC _ rfl ?_
   refine sA_n ?_
   exact a_ret RT
  ·rw [zc1] at H
   refine bool_split (b := (term1 == last1)) (fun zc2 => ?_) (fun zc2 => ?_)
   ·rw [zc2] at H
    refine a_regC _ rfl ?_
    refine sA_n ?_
    refine a_ret ?_
    obtain rfl := Option.some.inj H
    refine e_r2 (d := ?zd2) ?_ ?_
    rotate_left
    ·simp only [EVT, resR, single, evLoad, cut, TIS, CS, reduceAdd, reduceEqDiff, ↓reduceIte, reduceCtorEq, reduceLT, reduceLeDiff, reduceSub, Nat.reduceBEq, zc1, zc2]
     (repeat' apply And.intro) <;> first | rfl | assumption | omega | (simp; done)
    exact ZZ
   ·rw [zc2] at H
    refine a_regC _ rfl ?_
    refine sA_n ?_
    refine a_ret ?_
    obtain rfl := Option.some.inj H
    refine e_r2 (d := ?zd3) ?_ ?_
    rotate_left
    ·simp only [EVT, resR, single, evLoad, cut, TIS, CS, reduceAdd, reduceEqDiff, ↓reduceIte, reduceCtorEq, reduceLT, reduceLeDiff, reduceSub, Nat.reduceBEq, zc1, zc2]
     (repeat' apply And.intro) <;> first | rfl | assumption | omega | (simp; done)
    exact ZZ
def bytes_Equal_f (a1 : List Int) (b1 : List Int) : Option Bool :=
 some (((strOfNums a1).toList == (strOfNums b1).toList))
set_option maxHeartbeats 4000000 in
set_option maxRecDepth 20000 in
theorem bytes_Equal_pc {a1 : List Int} {b1 : List Int} {r : Bool} (H : bytes_Equal_f a1 b1 = some r) : PC Tryd.prog 91 [.list 1 (a1.map (ci .u8)), .list 1 (b1.map (ci .u8))] (.bool r) := by
 refine pcA_of Tryd.func91 (by rfl) (by decide) 10 (by rfl) [.tmp 4] (by rfl) ?_
 unfold bytes_Equal_f at H
 simp only [ent]
 refine a_seq ?_
 refine a_regC _ rfl ?_
 refine sA_n ?_
 refine a_seq ?_
 refine a_regC _ rfl ?_
 refine sA_n ?_
 exact a_ret RT
def log_alike_f (a1 : Entry) (b1 : Entry) : Option Bool :=
 cond (a1.term == b1.term) ((bytes_Equal_f a1.data b1.data).bind fun r1 => some (r1)) (some (false))
set_option maxHeartbeats 4000000 in
set_option maxRecDepth 20000 in
theorem log_alike_pc {a1 : Entry} {b1 : Entry} {r : Bool} (H : log_alike_f a1 b1 = some r) : PC Tryd.prog 75 [.agg (Entry.c a1), .agg (Entry.c b1)] (.bool r) := by
 refine pcA_of Tryd.func75 (by rfl) (by decide) 17 (by rfl) [.tmp 4] (by rfl) ?_
 unfold log_alike_f at H
 simp only [ent]
 refine a_seq ?_
 refine a_regC _ rfl ?_
 refine sA_n ?_
 refine a_seq ?_
 refine cnd H (fun zc1 H => ?_) (fun zc1 H => ?_)
 ·obtain ⟨r1, zh1, H⟩ := bind_some H
  have zk1 := bytes_Equal_pc zh1
  refine a_regK _ rfl ?_
  refine sA_n ?_
  exact a_ret RT
 ·refine a_reg _ rfl (s := ?zs3) ?_ ?_
  rotate_left
  ·simp only [EVT, stepR, evOp, St.ev, St.app, St.put, wrs, evFieldAddr, evLoad, cut, evBin, binInt, frz, datOf, datOf1, TIS, CS, reduceAdd, reduceMul, reduceEqDiff, ↓reduceIte, reduceCtorEq, reduceLT, reduceLeDiff, Array.reduceGetElem?, reduceSub, Nat.reduceBEq, ↓zc1]
   try simp only [EVT, stepR, evOp, St.ev, St.app, St.put, wrs, evFieldAddr, evLoad, cut, evBin, binInt, frz, datOf, datOf1, TIS, CS, reduceAdd, reduceMul, reduceEqDiff, ↓reduceIte, reduceCtorEq, reduceLT, reduceLeDiff, Array.reduceGetElem?, reduceSub, Nat.reduceBEq, ↓zc1]
   (repeat' apply And.intro) <;> first|rfl|assumption|omega|(simp;done)|(simp;omega)|(simp_all;done)
  refine sA_n ?_
  refine a_ret ?_
  obtain rfl := Option.some.inj H
  refine e_r2 (d := ?zd2) ?_ ?_
  rotate_left
  ·simp only [EVT, resR, single, evLoad, cut, TIS, CS, reduceAdd, reduceEqDiff, ↓reduceIte, reduceCtorEq, reduceLT, reduceLeDiff, reduceSub, Nat.reduceBEq, zc1]
   (repeat' apply And.intro) <;> first | rfl | assumption | omega | (simp; done)
  exact ZZ
def slices_EqualFunc_J1 : Option Bool :=
 some (true)
def slices_EqualFunc_L1 (s1 : List Entry) (s2 : List Entry) (eq1 : Entry → Entry → Option Bool) : Nat → Int → Option Bool
 | 0, _ => none
 | m_ + 1, v1 => cond (decide (v1 < (s1.length : Int))) ((idx s1 v1).bind fun x1 => (idx s2 v1).bind fun x2 => (eq1 x1 x2).bind fun r1 => cond (!r1) (some (false)) (slices_EqualFunc_L1 s1 s2 eq1 m_ (IntKind.wrap .i64 (v1 + 1)))) (slices_EqualFunc_J1)
def slices_EqualFunc_f (s1 : List Entry) (s2 : List Entry) (eq1 : Entry → Entry → Option Bool) : Option Bool :=
 cond ((s1.length : Int) != (s2.length : Int)) (some (false)) (slices_EqualFunc_L1 s1 s2 eq1 BIG 0)
set_option maxHeartbeats 4000000 in
set_option maxRecDepth 20000 in
theorem slices_EqualFunc_pc {s1 : List Entry} {s2 : List Entry} {eq1 : Entry → Entry → Option Bool} {eq1_F : FuncId} {eq1_caps : List Dat} (eq1_hp : ∀ (x0_ : Entry) (x1_ : Entry) (r : Bool), eq1 x0_ x1_ = some r → PC Tryd.prog eq1_F (.agg (Entry.c x0_) :: .agg (Entry.c x1_) :: eq1_caps) (.bool r)) (eq1_pu : Pus eq1_caps) {r : Bool} (H : slices_EqualFunc_f s1 s2 eq1 = some r) : PC Tryd.prog 76 [.list 2 (s1.map Entry.c), .list 2 (s2.map Entry.c), .fn (.func eq1_F) [] eq1_caps] (.bool r) := by
 refine pcA_of Tryd.func76 (by rfl) (by decide) 32 (by rfl) [.tmp 6] (by rfl) ?_
 unfold slices_EqualFunc_f at H
 simp only [ent]
 refine a_seq ?_
 refine a_regC _ rfl ?_
 refine sA_n ?_
 refine a_seq ?_
 refine a_seq ?_
 refine a_regC _ rfl ?_
 refine sA_n ?_
 refine a_cnd H (fun zc1 H => ?_) (fun zc1 H => ?_)
 ·refine a_seq ?_
  refine a_regC _ rfl ?_
  refine sA_n ?_
  exact a_ret (sA_r RT)
 ·refine a_skip ?_
  refine sA_n ?_
  refine a_cut (fun s => ∃ (t0 : Nat → Dat), slices_EqualFunc_J1 = some r ∧ s = ⟨tl t0 [], hl [], 0, 32⟩) ?_ ?_
  ·refine a_seq ?_
   refine a_regC _ rfl ?_
   refine sA_n ?_
   refine a_blk ?_
   refine a_loop (fun m s => ∃ (v1 : Int) (t0 : Nat → Dat), slices_EqualFunc_L1 s1 s2 eq1 m v1 = some r ∧ s = ⟨tl t0 [(1, .list 2 (s2.map Entry.c)), (2, .fn (.func eq1_F) [] eq1_caps), (15, .list 2 (s1.map Entry.c)), (16, .int .i64 (s1.length : Int)), (17, .int .i64 v1)], hl [], 0, 32⟩) BIG ?_ ?_
   ·refine wk_l [] [] [(1, .list 2 (s2.map Entry.c)), (2, .fn (.func eq1_F) [] eq1_caps), (15, .list 2 (s1.map Entry.c)), (16, .int .i64 (s1.length : Int)), (17, .int .i64 0)] (by show ([1, 2, 15, 16, 17] : List Nat).Nodup; decide) (by show ([] : List Nat).Nodup; decide) ?_ ?_ (fun t0 => ⟨0, t0, H, rfl⟩)
    ·exact trivial
    ·(simp only [AllT, ATT, reduceEqDiff, ↓reduceIte, and_true]); exact ⟨(.lst _ _ _ Entry.pu rfl), (.fn' .nil (RNs.pu eq1_pu)), (.lst _ _ _ Entry.pu rfl), (.int' rfl), (.int' rfl)⟩
   ·rintro m_slices_EqualFunc_L1 s ⟨v1, t0, H, rfl⟩
    obtain _ | m_slices_EqualFunc_L1 := m_slices_EqualFunc_L1
    ·cases (show (none : Option _) = some _ from H)
    ·rw [slices_EqualFunc_L1] at H
     refine a_seq ?_
     refine a_regC _ rfl ?_
     refine sA_n ?_
     refine a_seq ?_
     refine a_cnd H (fun zc2 H => ?_) (fun zc2 H => ?_)
     ·refine a_skip ?_
      refine sA_n ?_
      refine a_seq ?_
      refine a_blk ?_
      refine a_seq ?_
      obtain ⟨x1, zh1, H⟩ := bind_some H
      obtain ⟨zg1, zh1a, zh1b⟩ := idx3 (f := Entry.c) zh1
      try simp only [Int.reduceToNat, Int.toNat_natCast] at zg1
      refine a_regC _ rfl ?_
      refine sA_n ?_
      refine a_seq ?_
      obtain ⟨x2, zh2, H⟩ := bind_some H
      obtain ⟨zg2, zh2a, zh2b⟩ := idx3 (f := Entry.c) zh2
      try simp only [Int.reduceToNat, Int.toNat_natCast] at zg2
      refine a_regC _ rfl ?_
      refine sA_n ?_
      refine a_seq ?_
      obtain ⟨r1, zh3, H⟩ := bind_some H
      have zk1 := eq1_hp _ _ _ zh3
      refine a_reg _ rfl (s := ?zs9) ?_ ?_
      rotate_left
      ·try refine goS ?_
       repeat' with_reducible apply And.intro
       all_goals try ((with_reducible show CallR _ _ _ _ _ _ _); refine cR_s zk1 (.cons (.agg' (.cons (.int' rfl) (.cons (.lst _ _ _ (ci_pu .u8) rfl) .nil))) (.cons (.agg' (.cons (.int' rfl) (.cons (.lst _ _ _ (ci_pu .u8) rfl) .nil))) (Pus.purRs eq1_pu))) (.bool _) ?_; refine goS ?_)
       all_goals ((repeat' apply And.intro) <;> first|rfl|assumption|omega|(simp;done)|(simp;omega)|(simp_all;done))
      refine sA_n ?_
      refine a_cnd H (fun zc3 H => ?_) (fun zc3 H => ?_)
      ·refine a_seq ?_
       refine a_regC _ rfl ?_
       refine sA_n ?_
       refine a_ret ?_
       refine bA_r ?_
       refine sA_r ?_
       refine lA_r ?_
       refine bA_r ?_
       refine cA_r ?_
       obtain rfl := Option.some.inj H
       refine e_r2 (d := ?zd3) ?_ ?_
       rotate_left
       ·simp only [EVT, resR, single, evLoad, cut, TIS, CS, reduceAdd, reduceEqDiff, ↓reduceIte, reduceCtorEq, reduceLT, reduceLeDiff, reduceSub, Nat.reduceBEq, zc2, zg1, zg2, zc3]
        (repeat' apply And.intro) <;> first | rfl | assumption | omega | (simp; done)
       exact ZZ
      ·refine a_skip ?_
       refine bA_n ?_
       refine sA_n ?_
       refine a_regC _ rfl ?_
       refine lA_n ?_
       refine wk_l [] [] [(1, .list 2 (s2.map Entry.c)), (2, .fn (.func eq1_F) [] eq1_caps), (15, .list 2 (s1.map Entry.c)), (16, .int .i64 (s1.length : Int)), (17, .int .i64 (IntKind.wrap .i64 (v1 + 1)))] (by show ([1, 2, 15, 16, 17] : List Nat).Nodup; decide) (by show ([] : List Nat).Nodup; decide) ?_ ?_ (fun t0 => ⟨_, Nat.lt_succ_self _, (IntKind.wrap .i64 (v1 + 1)), t0, H, rfl⟩)
       ·exact trivial
       ·(simp only [AllT, ATT, reduceEqDiff, ↓reduceIte, and_true]); exact ⟨(.lst _ _ _ Entry.pu rfl), (.fn' .nil (RNs.pu eq1_pu)), (.lst _ _ _ Entry.pu rfl), (.int' rfl), (.int' rfl)⟩
     ·refine a_exit ?_
      refine sA_e ?_
      refine lA_e ?_
      refine bA_hit ?_
      refine cA_n ?_
      exact wk_lA [] [] (fun t0 => ⟨t0, H, rfl⟩)
  ·rintro s ⟨t0, H, rfl⟩
   unfold slices_EqualFunc_J1 at H
   refine a_seq ?_
   refine a_regC _ rfl ?_
   refine sA_n ?_
   refine a_ret ?_
   obtain rfl := Option.some.inj H
   refine e_r2 (d := ?zd2) ?_ ?_
   rotate_left
   ·simp only [EVT, resR, single, evLoad, cut, TIS, CS, reduceAdd, reduceEqDiff, ↓reduceIte, reduceCtorEq, reduceLT, reduceLeDiff, reduceSub, Nat.reduceBEq]
    (repeat' apply And.intro) <;> first | rfl | assumption | omega | (simp; done)
   exact ZZ
def log_Same_f (a1 : List Entry) (b1 : List Entry) : Option Bool :=
 (slices_EqualFunc_f a1 b1 log_alike_f).bind fun r1 => some (r1)
set_option maxHeartbeats 4000000 in
set_option maxRecDepth 20000 in
theorem log_Same_pc {a1 : List Entry} {b1 : List Entry} {r : Bool} (H : log_Same_f a1 b1 = some r) : PC Tryd.prog 66 [.list 2 (a1.map Entry.c), .list 2 (b1.map Entry.c)] (.bool r) := by
 refine pcA_of Tryd.func66 (by rfl) (by decide) 8 (by rfl) [.tmp 4] (by rfl) ?_
 unfold log_Same_f at H
 simp only [ent]
 refine a_seq ?_
 refine a_regC _ rfl ?_
 refine sA_n ?_
 refine a_seq ?_
 obtain ⟨r1, zh1, H⟩ := bind_some H
 have zk1 := slices_EqualFunc_pc (eq1 := log_alike_f) (eq1_F := 75) (eq1_caps := []) (fun _ _ _ h => log_alike_pc h) .nil zh1
 refine a_regK _ rfl ?_
 refine sA_n ?_
 exact a_ret RT
def slices_Clone_f (s1 : List Entry) : Option (List Entry) :=
 nilq s1 (some (([] : List Entry))) (chk ((s1.length) * 32 ≤ 140737488355328) (some ((([] : List Entry) ++ s1))))
set_option maxHeartbeats 4000000 in
set_option maxRecDepth 20000 in
theorem slices_Clone_rc {s1 : List Entry} {r : (List Entry)} (H : slices_Clone_f s1 = some r) : RC Tryd.prog 55 [.list 2 (s1.map Entry.c)] [] 0 (.ref 0 0 r.length 2) [some ⟨76, 2, false, r.map Entry.c⟩] := by
 refine rcA_of Tryd.func55 (by rfl) (by decide) 8 (by rfl) [.tmp 2] (by rfl) ?_
 unfold slices_Clone_f at H
 simp only [hent, List.length_cons, List.length_nil, reduceAdd]
 refine a_seq ?_
 refine a_regC _ rfl ?_
 refine sA_n ?_
 refine a_seq ?_
 refine a_seq ?_
 obtain ⟨zh1a, zh1b⟩ := nilq_some H
 refine a_reg2 _ rfl (s1 = []) (s1 := ?zs2a) (s2 := ?zs2b) ?_ ?_ ?_
 rotate_left 2
 ·refine goS ?_
  refine nilq_list rfl Tryd.underlying23 rfl ?_ ?_
  ·intro zb
   simp only [St.put, reduceLT, reduceLeDiff, ↓reduceIte]
   try refine goS ?_
   refine .inl ⟨by simpa using zb, ?_⟩
   rfl
  ·simp only [St.put, reduceLT, reduceLeDiff, ↓reduceIte]
   try refine goS ?_
   refine .inr ?_
   rfl
 ·intro zn; have H := zh1a zn
  refine sA_n ?_
  refine a_condb true (by first | rfl | (simp only [EVT, St.ev, datOf, datOf1, reduceEqDiff, ↓reduceIte]; done) | (simp only [EVT, St.ev, datOf, datOf1, reduceEqDiff, ↓reduceIte]; rfl) | (simp only [EVT, St.ev, datOf, datOf1, reduceEqDiff, ↓reduceIte]; simp_all; done)) (fun zc1 => ?_) (fun zc1 => absurd zc1 (by decide))
  refine a_seq ?_
  refine a_regC _ rfl ?_
  refine sA_n ?_
  refine a_ret ?_
  refine sA_r ?_
  obtain rfl := Option.some.inj H
  refine eR_r ?_
  exact wk_lnA 0 [(none, ⟨76, 2, false, ([] : List Entry).map Entry.c⟩)] [] (L := [(2, .ref 0 0 ([] : List Entry).length 2)]) (fun t0 => ⟨RS, fun j B h => by rcases j with _ | _ <;> first | exact h | (exact absurd h (by simp [hh]))⟩) (fun i h => absurd h (Nat.not_lt_zero i))
 ·have H := zh1b
  refine sA_n ?_
  refine a_condb false (by first | rfl | (simp only [EVT, St.ev, datOf, datOf1, reduceEqDiff, ↓reduceIte]; done) | (simp only [EVT, St.ev, datOf, datOf1, reduceEqDiff, ↓reduceIte]; rfl) | (simp only [EVT, St.ev, datOf, datOf1, reduceEqDiff, ↓reduceIte]; simp_all; done)) (fun zc2 => absurd zc2 (by decide)) (fun zc2 => ?_)
  refine a_skip ?_
  refine sA_n ?_
  refine a_seq ?_
  obtain ⟨zh2, H⟩ := chk_some H
  refine a_regC _ rfl ?_
  refine sA_n ?_
  refine a_ret ?_
  obtain rfl := Option.some.inj H
  refine eR_r ?_
  exact wk_lnA 0 [(some 26, ⟨76, 2, false, (([] : List Entry) ++ s1).map Entry.c⟩)] [] (L := [(2, .ref 0 0 (([] : List Entry) ++ s1).length 2)]) (fun t0 => ⟨RS, fun j B h => by rcases j with _ | _ <;> first | exact h | (exact absurd h (by simp [hh]))⟩) (fun i h => absurd h (Nat.not_lt_zero i))
def log_Put_J1 (out1 : List Entry) : Option ((List Entry) × Bool) :=
 cond (decide (500 < (((out1.length : Nat)) : Int))) (some ([], false)) (some (out1, true))
def log_Put_J2 (k_log_Put_L1 : Int → Option ((List Entry) × Bool)) (v1 : Int) (r2 : (List Entry)) (more1 : List Entry) (p1 : Int) (v2 : Bool) : Option ((List Entry) × Bool) :=
 cond v2 (k_log_Put_L1 (IntKind.wrap .i64 (v1 + 1))) (chk (0 ≤ p1 ∧ p1 ≤ (r2.length : Int)) (chk (0 ≤ v1 ∧ v1 ≤ (more1.length : Int) ∧ (more1.length : Int) ≤ (more1.length : Int)) (chk ((p1.toNat + ((more1.drop v1.toNat).length)) * 32 ≤ 140737488355328) (log_Put_J1 ((r2.take p1.toNat) ++ (more1.drop v1.toNat))))))
def log_Put_L1 (more1 : List Entry) (at1 : Int) (r2 : (List Entry)) : Nat → Int → Option ((List Entry) × Bool)
 | 0, _ => none
 | m_ + 1, v1 => cond (decide (v1 < (more1.length : Int))) ((idx more1 v1).bind fun x1 => cond (decide ((IntKind.wrap .i64 (at1 + v1)) < (((r2.length : Nat)) : Int))) ((idx r2 (IntKind.wrap .i64 (at1 + v1))).bind fun x2 => (log_alike_f x2 x1).bind fun r3 => log_Put_J2 (log_Put_L1 more1 at1 r2 m_) v1 r2 more1 (IntKind.wrap .i64 (at1 + v1)) r3) (log_Put_J2 (log_Put_L1 more1 at1 r2 m_) v1 r2 more1 (IntKind.wrap .i64 (at1 + v1)) false)) (log_Put_J1 r2)
def log_Put_f (l1 : List Entry) (at1 : Int) (term1 : Int) (more1 : List Entry) : Option ((List Entry) × Bool) :=
 (log_Fits_f l1 at1 term1).bind fun r1 => cond (!r1) (some ([], false)) ((slices_Clone_f l1).bind fun r2 => log_Put_L1 more1 at1 r2 BIG 0)
set_option maxHeartbeats 4000000 in
set_option maxRecDepth 20000 in
theorem log_Put_pc {l1 : List Entry} {at1 : Int} {term1 : Int} {more1 : List Entry} {r : (List Entry) × Bool} (H : log_Put_f l1 at1 term1 more1 = some r) : PC Tryd.prog 65 [.list 2 (l1.map Entry.c), .int .i64 at1, .int .i64 term1, .list 2 (more1.map Entry.c)] (.tup [.list 2 (r.1.map Entry.c), .bool r.2]) := by
 refine pcA_of Tryd.func65 (by rfl) (by decide) 55 (by rfl) [.tmp 8, .tmp 9] (by rfl) ?_
 unfold log_Put_f at H
 simp only [ent]
 refine a_seq ?_
 refine a_regC _ rfl ?_
 refine sA_n ?_
 refine a_scope ?_
 refine a_seq ?_
 refine a_seq ?_
 obtain ⟨r1, zh1, H⟩ := bind_some H
 have zk1 := log_Fits_pc zh1
 refine a_regK _ rfl ?_
 refine sA_n ?_
 refine a_cnd H (fun zc1 H => ?_) (fun zc1 H => ?_)
 ·refine a_seq ?_
  refine a_regC _ rfl ?_
  refine sA_n ?_
  exact a_ret (sA_r (gA_r RT))
 ·refine a_skip ?_
  refine sA_n ?_
  refine a_seq ?_
  obtain ⟨r2, zh2, H⟩ := bind_some H
  have zk2 := slices_Clone_rc zh2
  refine a_reg _ rfl (s := ?zs4) ?_ ?_
  rotate_left
  ·try refine goS ?_
   repeat' with_reducible apply And.intro
   all_goals try ((with_reducible show CallR _ _ _ _ _ _ _); refine callR_rcw (r' := .ref 57 0 r2.length 2) [(57, some ⟨76, 2, false, r2.map Entry.c⟩)] [] [] [(57, 0, _)] EQA zk2 (by simp) ND ZZ ZZ ND ND ZZ ZZ ?_; refine goS ?_)
   all_goals ((repeat' apply And.intro) <;> first|rfl|assumption|omega|(simp;done)|(simp;omega)|(simp_all;done))
  refine sA_n ?_
  refine a_seq ?_
  refine a_label ?_
  refine sA_n ?_
  refine a_cut (fun s => ∃ (out1 : List Entry) (t0 : Nat → Dat), log_Put_J1 out1 = some r ∧ s = ⟨tl t0 [(10, .ref 0 0 out1.length 2)], hl [⟨76, 2, false, out1.map Entry.c⟩], 1, 55⟩) ?_ ?_
  ·refine a_seq ?_
   refine a_regC _ rfl ?_
   refine sA_n ?_
   refine a_blk ?_
   refine a_loop (fun m s => ∃ (v1 : Int) (t0 : Nat → Dat), log_Put_L1 more1 at1 r2 m v1 = some r ∧ s = ⟨tl t0 [(1, .int .i64 at1), (3, .list 2 (more1.map Entry.c)), (10, .ref 0 0 r2.length 2), (21, .list 2 (more1.map Entry.c)), (22, .int .i64 (more1.length : Int)), (23, .int .i64 v1)], hl [⟨76, 2, false, r2.map Entry.c⟩], 1, 55⟩) BIG ?_ ?_
   ·exact wk_lA [(some 57, _)] [] (fun t0 => ⟨0, t0, H, rfl⟩)
   ·rintro m_log_Put_L1 s ⟨v1, t0, H, rfl⟩
    obtain _ | m_log_Put_L1 := m_log_Put_L1
    ·cases (show (none : Option _) = some _ from H)
    ·rw [log_Put_L1] at H
     refine a_seq ?_
     refine a_regC _ rfl ?_
     refine sA_n ?_
     refine a_seq ?_
     refine a_cnd H (fun zc3 H => ?_) (fun zc3 H => ?_)
     ·refine a_skip ?_
      refine sA_n ?_
      refine a_seq ?_
      refine a_blk ?_
      refine a_seq ?_
      obtain ⟨x1, zh3, H⟩ := bind_some H
      obtain ⟨zg1, zh3a, zh3b⟩ := idx3 (f := Entry.c) zh3
      try simp only [Int.reduceToNat, Int.toNat_natCast] at zg1
      refine a_regC _ rfl ?_
      refine sA_n ?_
      refine a_seq ?_
      refine a_regC _ rfl ?_
      refine sA_n ?_
      refine a_seq ?_
      refine a_cut (fun s => ∃ (p1 : Int) (v2 : Bool) (t0 : Nat → Dat), log_Put_J2 (log_Put_L1 more1 at1 r2 m_log_Put_L1) v1 r2 more1 p1 v2 = some r ∧ s = ⟨tl t0 [(1, .int .i64 at1), (3, .list 2 (more1.map Entry.c)), (10, .ref 0 0 r2.length 2), (11, .int .i64 v1), (13, .int .i64 p1), (21, .list 2 (more1.map Entry.c)), (22, .int .i64 (more1.length : Int)), (23, .int .i64 v1), (42, .bool v2)], hl [⟨76, 2, false, r2.map Entry.c⟩], 1, 55⟩) ?_ ?_
      ·refine cnd H (fun zc5 H => ?_) (fun zc5 H => ?_)
       ·obtain ⟨x2, zh7, H⟩ := bind_some H
        obtain ⟨zg2, zh7a, zh7b⟩ := idx3 (f := Entry.c) zh7
        try simp only [Int.reduceToNat, Int.toNat_natCast] at zg2
        obtain ⟨r3, zh8, H⟩ := bind_some H
        have zk3 := log_alike_pc zh8
        refine a_drW (by kernel_rfl) _ rfl (s := ?zs14) (by kernel_rfl) (by kernel_rfl) ?zs14f ?_ ?_ ?_
        rotate_left 2
        ·try simp only [EVT, stepW, evOp, St.ev, St.app, St.put, wrs, evBuiltin, evBin, binInt, evIndexAddr, evLoad, cut, frz, datOf, datOf1, TIS, CS, reduceAdd, reduceMul, reduceEqDiff, ↓reduceIte, reduceCtorEq, reduceLT, reduceLeDiff, Array.reduceGetElem?, Int.reduceToNat, reduceSub, Nat.reduceBEq, ↓zc3, zg1, ↓zc5, zg2]
         repeat' with_reducible apply And.intro
         all_goals try ((with_reducible show CallW _ _ _ _ _ _ _); refine cW_s [] zk3 (fun h2 e => (.cons (.agg' (.cons (.int' rfl) (.cons (.lst _ _ _ (ci_pu .u8) rfl) .nil))) (.cons (.agg' (.cons (.int' rfl) (.cons (.lst _ _ _ (ci_pu .u8) rfl) .nil))) .nil))) (.bool _) ?_; simp only [EVT, stepW, evOp, St.ev, St.app, St.put, wrs, evBuiltin, evBin, binInt, evIndexAddr, evLoad, cut, frz, datOf, datOf1, TIS, CS, reduceAdd, reduceMul, reduceEqDiff, ↓reduceIte, reduceCtorEq, reduceLT, reduceLeDiff, Array.reduceGetElem?, Int.reduceToNat, reduceSub, Nat.reduceBEq, ↓zc3, zg1, ↓zc5, zg2])
         all_goals ((repeat' apply And.intro) <;> first|rfl|assumption|omega|(simp;done)|(simp;omega)|(simp_all;done))
        ·kernel_rfl
        refine cA_n ?_
        refine wk_l [(some 0, ⟨76, 2, false, r2.map Entry.c⟩)] [] [(1, .int .i64 at1), (3, .list 2 (more1.map Entry.c)), (10, .ref 0 0 r2.length 2), (11, .int .i64 v1), (13, .int .i64 (IntKind.wrap .i64 (at1 + v1))), (21, .list 2 (more1.map Entry.c)), (22, .int .i64 (more1.length : Int)), (23, .int .i64 v1), (42, .bool r3)] (by show ([1, 3, 10, 11, 13, 21, 22, 23, 42] : List Nat).Nodup; decide) (by show ([0] : List Nat).Nodup; decide) ?_ ?_ (fun t0 => ⟨(IntKind.wrap .i64 (at1 + v1)), r3, t0, H, rfl⟩)
        ·exact ZZ
        ·exact ZT
       ·refine a_drW (by kernel_rfl) _ rfl (s := ?zs15) (by kernel_rfl) (by kernel_rfl) ?zs15f ?_ ?_ ?_
        rotate_left 2
        ·refine goS ?_
         try refine goS ?_
         (repeat' apply And.intro) <;> first|rfl|assumption|omega|(simp;done)|(simp;omega)|(simp_all;done)
        ·kernel_rfl
        refine cA_n ?_
        exact wk_lA [(some 0, _)] [] (fun t0 => ⟨(IntKind.wrap .i64 (at1 + v1)), false, t0, H, rfl⟩)
      ·rintro s ⟨p1, v2, t0, H, rfl⟩
       unfold log_Put_J2 at H
       refine a_cnd H (fun zc4 H => ?_) (fun zc4 H => ?_)
       ·refine a_exit ?_
        refine sA_e ?_
        refine bA_hit ?_
        refine sA_n ?_
        refine a_regC _ rfl ?_
        refine lA_n ?_
        exact wk_lA [(some 0, _)] [] (fun t0 => ⟨_, Nat.lt_succ_self _, (IntKind.wrap .i64 (v1 + 1)), t0, H, rfl⟩)
       ·refine a_skip ?_
        refine sA_n ?_
        refine a_seq ?_
        obtain ⟨zh4, H⟩ := chk_some H
        obtain ⟨zh5, H⟩ := chk_some H
        obtain ⟨zh6, H⟩ := chk_some H
        refine a_drW (by kernel_rfl) _ rfl (s := ?zs13) (by kernel_rfl) (by kernel_rfl) ?zs13f ?_ ?_ ?_
        rotate_left 2
        ·refine goS ?_
         (repeat' apply And.intro) <;> first | rfl | assumption | omega | (left; omega) | (simp; done) | (simp; omega) | (right; exact ⟨_, rfl, rfl, rfl, by decide, by first | omega | (simp; omega)⟩) | (simp_all; done)
        ·kernel_rfl
        refine sA_n ?_
        refine a_exit ?_
        refine bA_e (by decide) ?_
        refine sA_e ?_
        refine lA_e ?_
        refine bA_hit ?_
        refine cA_n ?_
        exact wk_lA [(some 7, _)] [] (fun t0 => ⟨((r2.take p1.toNat) ++ (more1.drop v1.toNat)), t0, H, rfl⟩)
     ·refine a_exit ?_
      refine sA_e ?_
      refine lA_e ?_
      refine bA_hit ?_
      refine cA_n ?_
      exact wk_lA [(some 0, _)] [] (fun t0 => ⟨r2, t0, H, rfl⟩)
  ·rintro s ⟨out1, t0, H, rfl⟩
   unfold log_Put_J1 at H
   refine a_seq ?_
   refine a_seq ?_
   refine a_regC _ rfl ?_
   refine sA_n ?_
   refine a_cnd H (fun zc2 H => ?_) (fun zc2 H => ?_)
   ·refine a_seq ?_
    refine a_regC _ rfl ?_
    refine sA_n ?_
    refine a_ret ?_
    refine sA_r ?_
    refine gA_r ?_
    obtain rfl := Option.some.inj H
    refine e_r2 (d := ?zd2) ?_ ?_
    rotate_left
    ·simp only [EVT, resR, single, evLoad, cut, TIS, CS, reduceAdd, reduceEqDiff, ↓reduceIte, reduceCtorEq, reduceLT, reduceLeDiff, reduceSub, Nat.reduceBEq, zc2]
     (repeat' apply And.intro) <;> first | rfl | assumption | omega | (simp; done)
    exact ZZ
   ·refine a_skip ?_
    refine sA_n ?_
    refine a_seq ?_
    refine a_regC _ rfl ?_
    refine sA_n ?_
    refine a_ret ?_
    refine gA_r ?_
    obtain rfl := Option.some.inj H
    refine e_r2 (d := ?zd3) ?_ ?_
    rotate_left
    ·simp only [EVT, resR, single, evLoad, cut, TIS, CS, reduceAdd, reduceEqDiff, ↓reduceIte, reduceCtorEq, reduceLT, reduceLeDiff, reduceSub, Nat.reduceBEq, zc2]
     (repeat' apply And.intro) <;> first | rfl | assumption | omega | (simp; done)
    exact ZZ
def log_Commit_1_J1 (n1 : Int) : Option Int :=
 some (n1)
def log_Commit_1_J2 (k_log_Commit_1_L1 : Int → Int → Option Int) (v2 : Int) (n3 : Int) : Option Int :=
 k_log_Commit_1_L1 n3 (IntKind.wrap .i64 (v2 + 1))
def log_Commit_1_L1 (v1 : List Int) (p1 : Int) : Nat → Int → Int → Option Int
 | 0, _, _ => none
 | m_ + 1, n2, v2 => cond (decide (v2 < (v1.length : Int))) ((idx v1 v2).bind fun x1 => cond (decide (p1 ≤ x1)) (log_Commit_1_J2 (log_Commit_1_L1 v1 p1 m_) v2 (IntKind.wrap .i64 (n2 + 1))) (log_Commit_1_J2 (log_Commit_1_L1 v1 p1 m_) v2 n2)) (log_Commit_1_J1 n2)
def log_Commit_1_f (p1 : Int) (v1 : List Int) : Option Int :=
 log_Commit_1_L1 v1 p1 BIG 0 0
set_option maxHeartbeats 4000000 in
set_option maxRecDepth 20000 in
theorem log_Commit_1_pc {p1 : Int} {v1 : List Int} {r : Int} (H : log_Commit_1_f p1 v1 = some r) : PC Tryd.prog 90 [.int .i64 p1, .rop ((cl 1 (ci .i64)) v1) 0 1] (.int .i64 r) := by
 refine pcA_of Tryd.func90 (by rfl) (by decide) 20 (by rfl) [.tmp 3] (by rfl) ?_
 unfold log_Commit_1_f at H
 simp only [ent]
 refine a_seq ?_
 refine a_regC _ rfl ?_
 refine sA_n ?_
 refine a_seq ?_
 refine a_regC _ rfl ?_
 refine sA_n ?_
 refine a_cut (fun s => ∃ (n1 : Int) (t0 : Nat → Dat), log_Commit_1_J1 n1 = some r ∧ s = ⟨tl t0 [(4, .int .i64 n1)], hl [], 0, 20⟩) ?_ ?_
 ·refine a_seq ?_
  refine a_regC _ rfl ?_
  refine sA_n ?_
  refine a_blk ?_
  refine a_loop (fun m s => ∃ (n2 : Int) (v2 : Int) (t0 : Nat → Dat), log_Commit_1_L1 v1 p1 m n2 v2 = some r ∧ s = ⟨tl t0 [(0, .int .i64 p1), (4, .int .i64 n2), (7, .list 1 (v1.map (ci .i64))), (8, .int .i64 (v1.length : Int)), (9, .int .i64 v2)], hl [], 0, 20⟩) BIG ?_ ?_
  ·exact wk_lA [] [] (fun t0 => ⟨0, 0, t0, H, rfl⟩)
  ·rintro m_log_Commit_1_L1 s ⟨n2, v2, t0, H, rfl⟩
   obtain _ | m_log_Commit_1_L1 := m_log_Commit_1_L1
   ·cases (show (none : Option _) = some _ from H)
   ·rw [log_Commit_1_L1] at H
    refine a_seq ?_
    refine a_regC _ rfl ?_
    refine sA_n ?_
    refine a_seq ?_
    refine a_cnd H (fun zc1 H => ?_) (fun zc1 H => ?_)
    ·refine a_skip ?_
     refine sA_n ?_
     refine a_cut (fun s => ∃ (n3 : Int) (t0 : Nat → Dat), log_Commit_1_J2 (log_Commit_1_L1 v1 p1 m_log_Commit_1_L1) v2 n3 = some r ∧ s = ⟨tl t0 [(0, .int .i64 p1), (4, .int .i64 n3), (7, .list 1 (v1.map (ci .i64))), (8, .int .i64 (v1.length : Int)), (9, .int .i64 v2)], hl [], 0, 20⟩) ?_ ?_
     ·refine a_blk ?_
      refine a_seq ?_
      obtain ⟨x1, zh1, H⟩ := bind_some H
      obtain ⟨zg1, zh1a, zh1b⟩ := idx3 (f := (ci .i64)) zh1
      try simp only [Int.reduceToNat, Int.toNat_natCast] at zg1
      refine a_regC _ rfl ?_
      refine sA_n ?_
      refine a_seq ?_
      refine a_regC _ rfl ?_
      refine sA_n ?_
      refine a_cnd H (fun zc2 H => ?_) (fun zc2 H => ?_)
      ·refine a_regC _ rfl ?_
       refine bA_n ?_
       refine cA_n ?_
       exact wk_lA [] [] (fun t0 => ⟨(IntKind.wrap .i64 (n2 + 1)), t0, H, rfl⟩)
      ·refine a_skip ?_
       refine bA_n ?_
       refine cA_n ?_
       exact wk_lA [] [] (fun t0 => ⟨n2, t0, H, rfl⟩)
     ·rintro s ⟨n3, t0, H, rfl⟩
      unfold log_Commit_1_J2 at H
      refine a_regC _ rfl ?_
      refine lA_n ?_
      exact wk_lA [] [] (fun t0 => ⟨_, Nat.lt_succ_self _, n3, (IntKind.wrap .i64 (v2 + 1)), t0, H, rfl⟩)
    ·refine a_exit ?_
     refine sA_e ?_
     refine lA_e ?_
     refine bA_hit ?_
     refine cA_n ?_
     exact wk_lA [] [] (fun t0 => ⟨n2, t0, H, rfl⟩)
 ·rintro s ⟨n1, t0, H, rfl⟩
  unfold log_Commit_1_J1 at H
  refine a_seq ?_
  refine a_regC _ rfl ?_
  refine sA_n ?_
  exact a_ret RT
def log_Commit_J1 (was1 : Int) : Option Int :=
 some (was1)
def log_Commit_J2 (k_log_Commit_L1 : Int → Option Int) (p1 : Int) (v1 : Bool) : Option Int :=
 cond v1 (some (p1)) (k_log_Commit_L1 (IntKind.wrap .i64 (p1 - 1)))
def log_Commit_L1 (was1 : Int) (l1 : List Entry) (term1 : Int) (match1 : List Int) : Nat → Int → Option Int
 | 0, _ => none
 | m_ + 1, p1 => cond (decide ((if 0 > was1 then 0 else was1) < p1)) ((idx l1 (IntKind.wrap .i64 (p1 - 1))).bind fun x1 => cond (x1.term == term1) ((log_Commit_1_f p1 match1).bind fun r1 => log_Commit_J2 (log_Commit_L1 was1 l1 term1 match1 m_) p1 (decide ((match1.length : Int) < (IntKind.wrap .i64 (2 * r1))))) (log_Commit_J2 (log_Commit_L1 was1 l1 term1 match1 m_) p1 false)) (log_Commit_J1 was1)
def log_Commit_f (l1 : List Entry) (term1 : Int) (match1 : List Int) (was1 : Int) : Option Int :=
 log_Commit_L1 was1 l1 term1 match1 BIG (l1.length : Int)
set_option maxHeartbeats 4000000 in
set_option maxRecDepth 20000 in
theorem log_Commit_pc {l1 : List Entry} {term1 : Int} {match1 : List Int} {was1 : Int} {r : Int} (H : log_Commit_f l1 term1 match1 was1 = some r) : PC Tryd.prog 70 [.list 2 (l1.map Entry.c), .int .i64 term1, .list 1 (match1.map (ci .i64)), .int .i64 was1] (.int .i64 r) := by
 refine pcA_of Tryd.func70 (by rfl) (by decide) 39 (by rfl) [.tmp 8] (by rfl) ?_
 unfold log_Commit_f at H
 simp only [ent]
 refine a_seq ?_
 refine a_regC _ rfl ?_
 refine sA_n ?_
 refine a_seq ?_
 refine a_regC _ rfl ?_
 refine sA_n ?_
 refine a_cut (fun s => ∃ (t0 : Nat → Dat), log_Commit_J1 was1 = some r ∧ s = ⟨tl t0 [(3, .int .i64 was1)], hl [], 0, 39⟩) ?_ ?_
 ·refine a_seq ?_
  refine a_regC _ rfl ?_
  refine sA_n ?_
  refine a_blk ?_
  refine a_loop (fun m s => ∃ (p1 : Int) (t0 : Nat → Dat), log_Commit_L1 was1 l1 term1 match1 m p1 = some r ∧ s = ⟨tl t0 [(0, .list 2 (l1.map Entry.c)), (1, .int .i64 term1), (3, .int .i64 was1), (6, .ptr 0 0 0 1), (9, .fn (.func 90) [] [.ptr 0 0 0 1]), (10, .int .i64 p1)], hl [⟨22, 1, false, [[.list 1 (match1.map (ci .i64))]]⟩], 1, 39⟩) BIG ?_ ?_
  ·exact wk_lA [(some 0, _)] [] (fun t0 => ⟨(l1.length : Int), t0, H, rfl⟩)
  ·rintro m_log_Commit_L1 s ⟨p1, t0, H, rfl⟩
   obtain _ | m_log_Commit_L1 := m_log_Commit_L1
   ·cases (show (none : Option _) = some _ from H)
   ·rw [log_Commit_L1] at H
    refine a_seq ?_
    refine a_seq ?_
    refine a_regC _ rfl ?_
    refine sA_n ?_
    refine a_cnd H (fun zc1 H => ?_) (fun zc1 H => ?_)
    ·refine a_skip ?_
     refine sA_n ?_
     refine a_seq ?_
     refine a_blk ?_
     refine a_cut (fun s => ∃ (v1 : Bool) (t0 : Nat → Dat), log_Commit_J2 (log_Commit_L1 was1 l1 term1 match1 m_log_Commit_L1) p1 v1 = some r ∧ s = ⟨tl t0 [(0, .list 2 (l1.map Entry.c)), (1, .int .i64 term1), (3, .int .i64 was1), (6, .ptr 0 0 0 1), (9, .fn (.func 90) [] [.ptr 0 0 0 1]), (10, .int .i64 p1), (36, .bool v1)], hl [⟨22, 1, false, [[.list 1 (match1.map (ci .i64))]]⟩], 1, 39⟩) ?_ ?_
     ·obtain ⟨x1, zh1, H⟩ := bind_some H
      obtain ⟨zg1, zh1a, zh1b⟩ := idx3 (f := Entry.c) zh1
      try simp only [Int.reduceToNat, Int.toNat_natCast] at zg1
      refine cnd H (fun zc3 H => ?_) (fun zc3 H => ?_)
      ·obtain ⟨r1, zh2, H⟩ := bind_some H
       have zk1 := log_Commit_1_pc zh2
       refine a_drW (by kernel_rfl) _ rfl (s := ?zs8) (by kernel_rfl) (by kernel_rfl) ?zs8f ?_ ?_ ?_
       rotate_left 2
       ·try refine goS ?_
        repeat' with_reducible apply And.intro
        all_goals try ((with_reducible show CallW _ _ _ _ _ _ _); refine cW_s [0] zk1 (fun h2 e => (.cons (.int' rfl) (.cons (.box ((e 0 (by simp)).trans (by rfl)) (fun e => by cases e) rfl rfl (.cons (.lst _ _ _ (ci_pu .i64) rfl) .nil)) .nil))) (.int _ _) ?_; refine goS ?_)
        all_goals ((repeat' apply And.intro) <;> first|rfl|assumption|omega|(simp;done)|(simp;omega)|(simp_all;done))
       ·kernel_rfl
       refine cA_n ?_
       exact wk_lA [(some 0, _)] [] (fun t0 => ⟨(decide ((match1.length : Int) < (IntKind.wrap .i64 (2 * r1)))), t0, H, rfl⟩)
      ·refine a_drW (by kernel_rfl) _ rfl (s := ?zs9) (by kernel_rfl) (by kernel_rfl) ?zs9f ?_ ?_ ?_
       rotate_left 2
       ·refine goS ?_
        try refine goS ?_
        (repeat' apply And.intro) <;> first|rfl|assumption|omega|(simp;done)|(simp;omega)|(simp_all;done)
       ·kernel_rfl
       refine cA_n ?_
       exact wk_lA [(some 0, _)] [] (fun t0 => ⟨false, t0, H, rfl⟩)
     ·rintro s ⟨v1, t0, H, rfl⟩
      unfold log_Commit_J2 at H
      refine a_cnd H (fun zc2 H => ?_) (fun zc2 H => ?_)
      ·refine a_seq ?_
       refine a_regC _ rfl ?_
       refine sA_n ?_
       exact a_ret (bA_r (sA_r (lA_r (bA_r (cA_r RT)))))
      ·refine a_skip ?_
       refine bA_n ?_
       refine sA_n ?_
       refine a_regC _ rfl ?_
       refine lA_n ?_
       exact wk_lA [(some 0, _)] [] (fun t0 => ⟨_, Nat.lt_succ_self _, (IntKind.wrap .i64 (p1 - 1)), t0, H, rfl⟩)
    ·refine a_exit ?_
     refine sA_e ?_
     refine lA_e ?_
     refine bA_hit ?_
     refine cA_n ?_
     exact wk_lA [] [] (fun t0 => ⟨t0, H, rfl⟩)
 ·rintro s ⟨t0, H, rfl⟩
  unfold log_Commit_J1 at H
  refine a_seq ?_
  refine a_regC _ rfl ?_
  refine sA_n ?_
  refine a_ret ?_
  obtain rfl := Option.some.inj H
  refine e_r2 (d := ?zd1) ?_ ?_
  rotate_left
  ·simp only [EVT, resR, single, evLoad, cut, TIS, CS, reduceAdd, reduceEqDiff, ↓reduceIte, reduceCtorEq, reduceLT, reduceLeDiff, reduceSub, Nat.reduceBEq]
   (repeat' apply And.intro) <;> first | rfl | assumption | omega | (simp; done)
  exact ZZ
def slices_Clone_57_f (s1 : List Int) : Option (List Int) :=
 nilq s1 (some (([] : List Int))) (chk ((s1.length) * 8 ≤ 140737488355328) (some ((([] : List Int) ++ s1))))
set_option maxHeartbeats 4000000 in
set_option maxRecDepth 20000 in
theorem slices_Clone_57_rc {s1 : List Int} {r : (List Int)} (H : slices_Clone_57_f s1 = some r) : RC Tryd.prog 57 [.list 1 (s1.map (ci .i64))] [] 0 (.ref 0 0 r.length 1) [some ⟨3, 1, false, r.map (ci .i64)⟩] := by
 refine rcA_of Tryd.func57 (by rfl) (by decide) 8 (by rfl) [.tmp 2] (by rfl) ?_
 unfold slices_Clone_57_f at H
 simp only [hent, List.length_cons, List.length_nil, reduceAdd]
 refine a_seq ?_
 refine a_regC _ rfl ?_
 refine sA_n ?_
 refine a_seq ?_
 refine a_seq ?_
 obtain ⟨zh1a, zh1b⟩ := nilq_some H
 refine a_reg2 _ rfl (s1 = []) (s1 := ?zs2a) (s2 := ?zs2b) ?_ ?_ ?_
 rotate_left 2
 ·refine goS ?_
  refine nilq_list rfl Tryd.underlying22 rfl ?_ ?_
  ·intro zb
   simp only [St.put, reduceLT, reduceLeDiff, ↓reduceIte]
   try refine goS ?_
   refine .inl ⟨by simpa using zb, ?_⟩
   rfl
  ·simp only [St.put, reduceLT, reduceLeDiff, ↓reduceIte]
   try refine goS ?_
   refine .inr ?_
   rfl
 ·intro zn; have H := zh1a zn
  refine sA_n ?_
  refine a_condb true (by first | rfl | (simp only [EVT, St.ev, datOf, datOf1, reduceEqDiff, ↓reduceIte]; done) | (simp only [EVT, St.ev, datOf, datOf1, reduceEqDiff, ↓reduceIte]; rfl) | (simp only [EVT, St.ev, datOf, datOf1, reduceEqDiff, ↓reduceIte]; simp_all; done)) (fun zc1 => ?_) (fun zc1 => absurd zc1 (by decide))
  refine a_seq ?_
  refine a_regC _ rfl ?_
  refine sA_n ?_
  refine a_ret ?_
  refine sA_r ?_
  obtain rfl := Option.some.inj H
  refine eR_r ?_
  exact wk_lnA 0 [(none, ⟨3, 1, false, ([] : List Int).map (ci .i64)⟩)] [] (L := [(2, .ref 0 0 ([] : List Int).length 1)]) (fun t0 => ⟨RS, fun j B h => by rcases j with _ | _ <;> first | exact h | (exact absurd h (by simp [hh]))⟩) (fun i h => absurd h (Nat.not_lt_zero i))
 ·have H := zh1b
  refine sA_n ?_
  refine a_condb false (by first | rfl | (simp only [EVT, St.ev, datOf, datOf1, reduceEqDiff, ↓reduceIte]; done) | (simp only [EVT, St.ev, datOf, datOf1, reduceEqDiff, ↓reduceIte]; rfl) | (simp only [EVT, St.ev, datOf, datOf1, reduceEqDiff, ↓reduceIte]; simp_all; done)) (fun zc2 => absurd zc2 (by decide)) (fun zc2 => ?_)
  refine a_skip ?_
  refine sA_n ?_
  refine a_seq ?_
  obtain ⟨zh2, H⟩ := chk_some H
  refine a_regC _ rfl ?_
  refine sA_n ?_
  refine a_ret ?_
  obtain rfl := Option.some.inj H
  refine eR_r ?_
  exact wk_lnA 0 [(some 26, ⟨3, 1, false, (([] : List Int) ++ s1).map (ci .i64)⟩)] [] (L := [(2, .ref 0 0 (([] : List Int) ++ s1).length 1)]) (fun t0 => ⟨RS, fun j B h => by rcases j with _ | _ <;> first | exact h | (exact absurd h (by simp [hh]))⟩) (fun i h => absurd h (Nat.not_lt_zero i))
def slices_Clone_56_f (s1 : List Int) : Option (List Int) :=
 nilq s1 (some ([])) (chk ((s1.length) * 1 ≤ 140737488355328) (some ((([] : List Int) ++ s1))))
set_option maxHeartbeats 4000000 in
set_option maxRecDepth 20000 in
theorem slices_Clone_56_pc {s1 : List Int} {r : (List Int)} (H : slices_Clone_56_f s1 = some r) : PC Tryd.prog 56 [.list 1 (s1.map (ci .u8))] (.list 1 (r.map (ci .u8))) := by
 refine pcA_of Tryd.func56 (by rfl) (by decide) 8 (by rfl) [.tmp 2] (by rfl) ?_
 unfold slices_Clone_56_f at H
 simp only [ent]
 refine a_seq ?_
 refine a_regC _ rfl ?_
 refine sA_n ?_
 refine a_seq ?_
 refine a_seq ?_
 obtain ⟨zh1a, zh1b⟩ := nilq_some H
 refine a_reg2 _ rfl (s1 = []) (s1 := ?zs2a) (s2 := ?zs2b) ?_ ?_ ?_
 rotate_left 2
 ·refine goS ?_
  refine nilq_list rfl Tryd.underlying26 rfl ?_ ?_
  ·intro zb
   simp only [St.put, reduceLT, reduceLeDiff, ↓reduceIte]
   try refine goS ?_
   refine .inl ⟨by simpa using zb, ?_⟩
   rfl
  ·simp only [St.put, reduceLT, reduceLeDiff, ↓reduceIte]
   try refine goS ?_
   refine .inr ?_
   rfl
 ·intro zn; have H := zh1a zn
  refine sA_n ?_
  refine a_condb true (by first | rfl | (simp only [EVT, St.ev, datOf, datOf1, reduceEqDiff, ↓reduceIte]; done) | (simp only [EVT, St.ev, datOf, datOf1, reduceEqDiff, ↓reduceIte]; rfl) | (simp only [EVT, St.ev, datOf, datOf1, reduceEqDiff, ↓reduceIte]; simp_all; done)) (fun zc1 => ?_) (fun zc1 => absurd zc1 (by decide))
  refine a_seq ?_
  refine a_regC _ rfl ?_
  refine sA_n ?_
  exact a_ret (sA_r RT)
 ·have H := zh1b
  refine sA_n ?_
  refine a_condb false (by first | rfl | (simp only [EVT, St.ev, datOf, datOf1, reduceEqDiff, ↓reduceIte]; done) | (simp only [EVT, St.ev, datOf, datOf1, reduceEqDiff, ↓reduceIte]; rfl) | (simp only [EVT, St.ev, datOf, datOf1, reduceEqDiff, ↓reduceIte]; simp_all; done)) (fun zc2 => absurd zc2 (by decide)) (fun zc2 => ?_)
  refine a_skip ?_
  refine sA_n ?_
  refine a_seq ?_
  obtain ⟨zh2, H⟩ := chk_some H
  refine a_regC _ rfl ?_
  refine sA_n ?_
  refine a_ret ?_
  obtain rfl := Option.some.inj H
  refine e_r2 (d := ?zd2) ?_ ?_
  rotate_left
  ·simp only [EVT, resR, single, evLoad, cut, TIS, CS, reduceAdd, reduceEqDiff, ↓reduceIte, reduceCtorEq, reduceLT, reduceLeDiff, reduceSub, Nat.reduceBEq]
   (repeat' apply And.intro) <;> first | rfl | assumption | omega | (simp; done)
  exact ZZ
end
end Go.Proofs.YtmkpokcfefjifaaDoor
