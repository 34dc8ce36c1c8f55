/- Functions of the program as Lean functions, and that they are so; printed by a program of mine. -/
import Derived.Test.YtogickapcbibbaaF2
set_option linter.unusedSimpArgs false
set_option linter.unusedVariables false
namespace Go.Proofs.Ytogickapcbibbaa
open Go.Ab
open Nat (reduceAdd reduceMul reduceEqDiff reduceLT reduceLeDiff reduceSub)
noncomputable section

def cmp_Less_f (x1 : Int) (y1 : Int) : Option Bool :=
 (cmp_isNaN_f x1).bind fun r1 => cond r1 ((cmp_isNaN_f y1).bind fun r2 => some ((!r2) || (decide (x1 < y1)))) (some ((decide (x1 < y1))))
set_option maxHeartbeats 4000000 in
set_option maxRecDepth 20000 in
theorem cmp_Less_pc {x1 : Int} {y1 : Int} {r : Bool} (H : cmp_Less_f x1 y1 = some r) : PC Try.prog 107 [.int .i64 x1, .int .i64 y1] (.bool r) := by
 refine pcA_of Try.func107 (by rfl) (by decide) 17 (by rfl) [.tmp 4] (by rfl) ?_
 unfold cmp_Less_f at H
 simp only [ent]
 refine a_seq ?_
 refine a_reg _ rfl (s := ?zs1) ?_ ?_
 rotate_left
 ·simp only [EVT, stepR, evOp, St.ev, St.app, St.put, wrs, datOf, datOf1, TIS, CS, reduceAdd, reduceMul, reduceEqDiff, ↓reduceIte, reduceCtorEq, reduceLT, reduceLeDiff]
  (repeat' apply And.intro) <;> first|rfl|assumption|omega|(simp;done)|(simp;omega)|(simp_all;done)
 refine sA_n ?_
 refine a_seq ?_
 obtain ⟨r1, zh1, H⟩ := bind_some H
 have zk1 := cmp_isNaN_pc zh1
 refine bool_split (b := r1) (fun zc1 => ?_) (fun zc1 => ?_)
 ·have H := cond_t zc1 H
  obtain ⟨r2, zh2, H⟩ := bind_some H
  have zk2 := cmp_isNaN_pc zh2
  refine bool_split (b := (!r2)) (fun zc2 => ?_) (fun zc2 => ?_)
  ·rw [zc2] at H
   refine a_reg _ rfl (s := ?zs2) ?_ ?_
   rotate_left
   ·try simp only [EVT, stepR, evOp, St.ev, St.app, St.put, wrs, frz, evUn, datOf, datOf1, evBin, binInt, TIS, CS, reduceAdd, reduceMul, reduceEqDiff, ↓reduceIte, reduceCtorEq, reduceLT, reduceLeDiff, Array.reduceGetElem?, reduceSub, Nat.reduceBEq, ↓zc1, ↓zc2]
    repeat' with_reducible apply And.intro
    all_goals try ((with_reducible show CallR _ _ _ _ _ _ _); refine cR_s zk1 (.cons (.int' rfl) .nil) (.bool _) ?_; simp only [EVT, stepR, evOp, St.ev, St.app, St.put, wrs, frz, evUn, datOf, datOf1, evBin, binInt, TIS, CS, reduceAdd, reduceMul, reduceEqDiff, ↓reduceIte, reduceCtorEq, reduceLT, reduceLeDiff, Array.reduceGetElem?, reduceSub, Nat.reduceBEq, ↓zc1, ↓zc2])
    repeat' with_reducible apply And.intro
    all_goals try ((with_reducible show CallR _ _ _ _ _ _ _); refine cR_s zk2 (.cons (.int' rfl) .nil) (.bool _) ?_; simp only [EVT, stepR, evOp, St.ev, St.app, St.put, wrs, frz, evUn, datOf, datOf1, evBin, binInt, TIS, CS, reduceAdd, reduceMul, reduceEqDiff, ↓reduceIte, reduceCtorEq, reduceLT, reduceLeDiff, Array.reduceGetElem?, reduceSub, Nat.reduceBEq, ↓zc1, ↓zc2])
    all_goals ((repeat' apply And.intro) <;> first|rfl|assumption|omega|(simp;done)|(simp;omega)|(simp_all;done))
   refine sA_n ?_
   refine a_ret ?_
   obtain rfl := Option.some.inj H
   refine e_r2 (d := ?zd1) ?_ ?_
   rotate_left
   ·simp only [EVT, resR, single, evLoad, cut, TIS, CS, reduceAdd, reduceEqDiff, ↓reduceIte, reduceCtorEq, reduceLT, reduceLeDiff, reduceSub, Nat.reduceBEq, zc1, zc2]
    (repeat' apply And.intro) <;> first | rfl | assumption | omega | (simp; done)
   exact (.bool' (by first | rfl | assumption | (simp_all; done)))
  ·rw [zc2] at H
   refine a_reg _ rfl (s := ?zs3) ?_ ?_
   rotate_left
   ·try simp only [EVT, stepR, evOp, St.ev, St.app, St.put, wrs, frz, evUn, datOf, datOf1, evBin, binInt, TIS, CS, reduceAdd, reduceMul, reduceEqDiff, ↓reduceIte, reduceCtorEq, reduceLT, reduceLeDiff, Array.reduceGetElem?, reduceSub, Nat.reduceBEq, ↓zc1, ↓zc2]
    repeat' with_reducible apply And.intro
    all_goals try ((with_reducible show CallR _ _ _ _ _ _ _); refine cR_s zk1 (.cons (.int' rfl) .nil) (.bool _) ?_; simp only [EVT, stepR, evOp, St.ev, St.app, St.put, wrs, frz, evUn, datOf, datOf1, evBin, binInt, TIS, CS, reduceAdd, reduceMul, reduceEqDiff, ↓reduceIte, reduceCtorEq, reduceLT, reduceLeDiff, Array.reduceGetElem?, reduceSub, Nat.reduceBEq, ↓zc1, ↓zc2])
    repeat' with_reducible apply And.intro
    all_goals try ((with_reducible show CallR _ _ _ _ _ _ _); refine cR_s zk2 (.cons (.int' rfl) .nil) (.bool _) ?_; simp only [EVT, stepR, evOp, St.ev, St.app, St.put, wrs, frz, evUn, datOf, datOf1, evBin, binInt, TIS, CS, reduceAdd, reduceMul, reduceEqDiff, ↓reduceIte, reduceCtorEq, reduceLT, reduceLeDiff, Array.reduceGetElem?, reduceSub, Nat.reduceBEq, ↓zc1, ↓zc2])
    all_goals ((repeat' apply And.intro) <;> first|rfl|assumption|omega|(simp;done)|(simp;omega)|(simp_all;done))
   refine sA_n ?_
   refine a_ret ?_
   obtain rfl := Option.some.inj H
   refine e_r2 (d := ?zd2) ?_ ?_
   rotate_left
   ·simp only [EVT, resR, single, evLoad, cut, TIS, CS, reduceAdd, reduceEqDiff, ↓reduceIte, reduceCtorEq, reduceLT, reduceLeDiff, reduceSub, Nat.reduceBEq, zc1, zc2]
    (repeat' apply And.intro) <;> first | rfl | assumption | omega | (simp; done)
   exact (.bool' rfl)
 ·have H := cond_f zc1 H
  refine a_reg _ rfl (s := ?zs4) ?_ ?_
  rotate_left
  ·try simp only [EVT, stepR, evOp, St.ev, St.app, St.put, wrs, frz, evUn, datOf, datOf1, evBin, binInt, TIS, CS, reduceAdd, reduceMul, reduceEqDiff, ↓reduceIte, reduceCtorEq, reduceLT, reduceLeDiff, Array.reduceGetElem?, reduceSub, Nat.reduceBEq, ↓zc1]
   repeat' with_reducible apply And.intro
   all_goals try ((with_reducible show CallR _ _ _ _ _ _ _); refine cR_s zk1 (.cons (.int' rfl) .nil) (.bool _) ?_; simp only [EVT, stepR, evOp, St.ev, St.app, St.put, wrs, frz, evUn, datOf, datOf1, evBin, binInt, TIS, CS, reduceAdd, reduceMul, reduceEqDiff, ↓reduceIte, reduceCtorEq, reduceLT, reduceLeDiff, Array.reduceGetElem?, reduceSub, Nat.reduceBEq, ↓zc1])
   all_goals ((repeat' apply And.intro) <;> first|rfl|assumption|omega|(simp;done)|(simp;omega)|(simp_all;done))
  refine sA_n ?_
  refine a_ret ?_
  obtain rfl := Option.some.inj H
  refine e_r2 (d := ?zd3) ?_ ?_
  rotate_left
  ·simp only [EVT, resR, single, evLoad, cut, TIS, CS, reduceAdd, reduceEqDiff, ↓reduceIte, reduceCtorEq, reduceLT, reduceLeDiff, reduceSub, Nat.reduceBEq, zc1]
   (repeat' apply And.intro) <;> first | rfl | assumption | omega | (simp; done)
  exact (.bool' rfl)
def slices_insertionSortOrdered_J1 (k_slices_insertionSortOrdered_L1 : (List Int) → Int → Option (List Int)) (i1 : Int) (data3 : List Int) : Option (List Int) :=
 k_slices_insertionSortOrdered_L1 data3 (IntKind.wrap .i64 (i1 + 1))
def slices_insertionSortOrdered_J2 (k_slices_insertionSortOrdered_L2 : (List Int) → Int → Option (List Int)) (k_slices_insertionSortOrdered_L1 : (List Int) → Int → Option (List Int)) (data4 : List Int) (j1 : Int) (i1 : Int) (v1 : Bool) : Option (List Int) :=
 cond v1 ((idx data4 (IntKind.wrap .i64 (j1 - 1))).bind fun x1 => (idx data4 j1).bind fun x2 => (idx (data4.set j1.toNat x1) (IntKind.wrap .i64 (j1 - 1))).bind fun x3 => k_slices_insertionSortOrdered_L2 ((data4.set j1.toNat x1).set ((IntKind.wrap .i64 (j1 - 1)).toNat) x2) (IntKind.wrap .i64 (j1 - 1))) (slices_insertionSortOrdered_J1 k_slices_insertionSortOrdered_L1 i1 data4)
def slices_insertionSortOrdered_L2 (k_slices_insertionSortOrdered_L1 : (List Int) → Int → Option (List Int)) (a1 : Int) (i1 : Int) : Nat → (List Int) → Int → Option (List Int)
 | 0, _, _ => none
 | m_ + 1, data4, j1 => cond (decide (a1 < j1)) ((idx data4 j1).bind fun x4 => (idx data4 (IntKind.wrap .i64 (j1 - 1))).bind fun x5 => (cmp_Less_f x4 x5).bind fun r1 => slices_insertionSortOrdered_J2 (slices_insertionSortOrdered_L2 k_slices_insertionSortOrdered_L1 a1 i1 m_) k_slices_insertionSortOrdered_L1 data4 j1 i1 r1) (slices_insertionSortOrdered_J2 (slices_insertionSortOrdered_L2 k_slices_insertionSortOrdered_L1 a1 i1 m_) k_slices_insertionSortOrdered_L1 data4 j1 i1 false)
def slices_insertionSortOrdered_L1 (b1 : Int) (a1 : Int) : Nat → (List Int) → Int → Option (List Int)
 | 0, _, _ => none
 | m_ + 1, data2, i1 => cond (decide (i1 < b1)) (slices_insertionSortOrdered_L2 (slices_insertionSortOrdered_L1 b1 a1 m_) a1 i1 BIG data2 i1) (some (data2))
def slices_insertionSortOrdered_f (data1 : List Int) (a1 : Int) (b1 : Int) : Option (List Int) :=
 slices_insertionSortOrdered_L1 b1 a1 BIG data1 (IntKind.wrap .i64 (a1 + 1))
set_option maxHeartbeats 4000000 in
set_option maxRecDepth 20000 in
theorem slices_insertionSortOrdered_rc {data1 : List Int} {a1 : Int} {b1 : Int} {r : (List Int)} (H : slices_insertionSortOrdered_f data1 a1 b1 = some r) : RC Try.prog 101 [.ref 0 0 data1.length 1, .int .i64 a1, .int .i64 b1] [⟨3, 1, false, data1.map (ci .i64)⟩] 1 (.tup []) [some ⟨3, 1, false, r.map (ci .i64)⟩] := by
 refine rcA_of Try.func101 (by rfl) (by decide) 49 (by rfl) [] (by rfl) ?_
 unfold slices_insertionSortOrdered_f at H
 simp only [hent, List.length_cons, List.length_nil, reduceAdd]
 refine a_seq ?_
 refine a_reg _ rfl (s := ?zs1) ?_ ?_
 rotate_left
 ·simp only [EVT, stepR, evOp, St.ev, St.app, St.put, wrs, datOf, datOf1, evBin, binInt, TIS, CS, reduceAdd, reduceMul, reduceEqDiff, ↓reduceIte, reduceCtorEq, reduceLT, reduceLeDiff]
  (repeat' apply And.intro) <;> first|rfl|assumption|omega|(simp;done)|(simp;omega)|(simp_all;done)
 refine sA_n ?_
 refine a_blk ?_
 refine a_loop (fun m s => ∃ (data2 : List Int) (i1 : Int) (t0 : Nat → Dat), slices_insertionSortOrdered_L1 b1 a1 m data2 i1 = some r ∧ s = ⟨tl t0 [(0, .ref 0 0 data2.length 1), (1, .int .i64 a1), (2, .int .i64 b1), (6, .int .i64 i1)], hl [⟨3, 1, false, data2.map (ci .i64)⟩], 1, 49⟩) BIG ?_ ?_
 ·refine wk_ln 1 [(some 0, ⟨3, 1, false, data1.map (ci .i64)⟩)] [] [(0, .ref 0 0 data1.length 1), (1, .int .i64 a1), (2, .int .i64 b1), (6, .int .i64 (IntKind.wrap .i64 (a1 + 1)))] (by intro i h; rcases i with _ | i <;> first | rfl | omega) (by show ([0, 1, 2, 6] : List Nat).Nodup; decide) (by show ([0] : List Nat).Nodup; decide) ?_ ?_ (fun t0 => ⟨data1, (IntKind.wrap .i64 (a1 + 1)), t0, H, rfl⟩)
  ·exact (allB_some (by rfl) rfl (.sm _ _ (ci_pu .i64)) trivial)
  ·(simp only [AllT, ATT, reduceEqDiff, ↓reduceIte, and_true]); exact ⟨(.refl' (by first|rfl|omega|(simp;done)|(simp;omega)|(simp_all;done)) rfl), (.int' rfl), (.int' rfl), (.int' rfl)⟩
 ·rintro m_slices_insertionSortOrdered_L1 s ⟨data2, i1, t0, H, rfl⟩
  obtain _ | m_slices_insertionSortOrdered_L1 := m_slices_insertionSortOrdered_L1
  ·cases (show (none : Option _) = some _ from H)
  ·rw [slices_insertionSortOrdered_L1] at H
   refine a_seq ?_
   refine a_seq ?_
   refine a_reg _ rfl (s := ?zs2) ?_ ?_
   rotate_left
   ·simp only [EVT, stepR, evOp, St.ev, St.app, St.put, wrs, evBin, binInt, TIS, CS, reduceAdd, reduceMul, reduceEqDiff, ↓reduceIte, reduceCtorEq, reduceLT, reduceLeDiff]
    (repeat' apply And.intro) <;> first|rfl|assumption|omega|(simp;done)|(simp;omega)|(simp_all;done)
   refine sA_n ?_
   refine a_condb ((decide (i1 < b1))) (by rfl) (fun zc1 => ?_) (fun zc1 => ?_)
   ·have H := cond_t zc1 H
    refine a_skip ?_
    refine sA_n ?_
    refine a_cut (fun s => ∃ (data3 : List Int) (t0 : Nat → Dat), slices_insertionSortOrdered_J1 (slices_insertionSortOrdered_L1 b1 a1 m_slices_insertionSortOrdered_L1) i1 data3 = some r ∧ s = ⟨tl t0 [(0, .ref 0 0 data3.length 1), (1, .int .i64 a1), (2, .int .i64 b1), (6, .int .i64 i1)], hl [⟨3, 1, false, data3.map (ci .i64)⟩], 1, 49⟩) ?_ ?_
    ·refine a_blk ?_
     refine a_seq ?_
     refine a_reg _ rfl (s := ?zs4) ?_ ?_
     rotate_left
     ·simp only [EVT, stepR, evOp, St.ev, St.app, St.put, wrs, TIS, CS, reduceAdd, reduceMul, reduceEqDiff, ↓reduceIte, reduceCtorEq, reduceLT, reduceLeDiff, ↓zc1]
      (repeat' apply And.intro) <;> first|rfl|assumption|omega|(simp;done)|(simp;omega)|(simp_all;done)
     refine sA_n ?_
     refine a_blk ?_
     refine a_loop (fun m s => ∃ (data4 : List Int) (j1 : Int) (t0 : Nat → Dat), slices_insertionSortOrdered_L2 (slices_insertionSortOrdered_L1 b1 a1 m_slices_insertionSortOrdered_L1) a1 i1 m data4 j1 = some r ∧ s = ⟨tl t0 [(0, .ref 0 0 data4.length 1), (1, .int .i64 a1), (2, .int .i64 b1), (6, .int .i64 i1), (7, .int .i64 j1)], hl [⟨3, 1, false, data4.map (ci .i64)⟩], 1, 49⟩) BIG ?_ ?_
     ·refine wk_ln 1 [(some 0, ⟨3, 1, false, data2.map (ci .i64)⟩)] [] [(0, .ref 0 0 data2.length 1), (1, .int .i64 a1), (2, .int .i64 b1), (6, .int .i64 i1), (7, .int .i64 i1)] (by intro i h; rcases i with _ | i <;> first | rfl | omega) (by show ([0, 1, 2, 6, 7] : List Nat).Nodup; decide) (by show ([0] : List Nat).Nodup; decide) ?_ ?_ (fun t0 => ⟨data2, i1, t0, H, rfl⟩)
      ·exact (allB_some (by rfl) rfl (.sm _ _ (ci_pu .i64)) trivial)
      ·(simp only [AllT, ATT, reduceEqDiff, ↓reduceIte, and_true]); exact ⟨(.refl' (by first|rfl|omega|(simp;done)|(simp;omega)|(simp_all;done)) rfl), (.int' rfl), (.int' rfl), (.int' rfl), (.int' rfl)⟩
     ·rintro m_slices_insertionSortOrdered_L2 s ⟨data4, j1, t0, H, rfl⟩
      obtain _ | m_slices_insertionSortOrdered_L2 := m_slices_insertionSortOrdered_L2
      ·cases (show (none : Option _) = some _ from H)
      ·rw [slices_insertionSortOrdered_L2] at H
       refine a_seq ?_
       refine a_cut (fun s => ∃ (v1 : Bool) (t0 : Nat → Dat), slices_insertionSortOrdered_J2 (slices_insertionSortOrdered_L2 (slices_insertionSortOrdered_L1 b1 a1 m_slices_insertionSortOrdered_L1) a1 i1 m_slices_insertionSortOrdered_L2) (slices_insertionSortOrdered_L1 b1 a1 m_slices_insertionSortOrdered_L1) data4 j1 i1 v1 = some r ∧ s = ⟨tl t0 [(0, .ref 0 0 data4.length 1), (1, .int .i64 a1), (2, .int .i64 b1), (6, .int .i64 i1), (7, .int .i64 j1), (30, .bool v1)], hl [⟨3, 1, false, data4.map (ci .i64)⟩], 1, 49⟩) ?_ ?_
       ·refine bool_split (b := (decide (a1 < j1))) (fun zc3 => ?_) (fun zc3 => ?_)
        ·have H := cond_t zc3 H
         obtain ⟨x4, zh4, H⟩ := bind_some H
         have zg4 := idx_map zh4 (ci .i64)
         try simp only [Int.reduceToNat, Int.toNat_natCast] at zg4
         obtain ⟨zh4a, zh4b, _⟩ := idx_some zh4
         obtain ⟨x5, zh5, H⟩ := bind_some H
         have zg5 := idx_map zh5 (ci .i64)
         try simp only [Int.reduceToNat, Int.toNat_natCast] at zg5
         obtain ⟨zh5a, zh5b, _⟩ := idx_some zh5
         obtain ⟨r1, zh6, H⟩ := bind_some H
         have zk1 := cmp_Less_pc zh6
         refine a_drW (by kernel_rfl) _ rfl (s := ?zs7) (by kernel_rfl) (by kernel_rfl) ?zs7f ?_ ?_ ?_
         rotate_left 2
         ·try simp only [EVT, stepW, evOp, St.ev, St.app, St.put, wrs, evBin, binInt, evIndexAddr, evLoad, cut, datOf, datOf1, frz, TIS, CS, reduceAdd, reduceMul, reduceEqDiff, ↓reduceIte, reduceCtorEq, reduceLT, reduceLeDiff, Array.reduceGetElem?, Int.reduceToNat, reduceSub, Nat.reduceBEq, ↓zc3, zg4, zg5]
          repeat' with_reducible apply And.intro
          all_goals try ((with_reducible show CallW _ _ _ _ _ _ _); refine cW_s [] zk1 (fun h2 e => (.cons (.int' rfl) (.cons (.int' rfl) .nil))) (.bool _) ?_; simp only [EVT, stepW, evOp, St.ev, St.app, St.put, wrs, evBin, binInt, evIndexAddr, evLoad, cut, datOf, datOf1, frz, TIS, CS, reduceAdd, reduceMul, reduceEqDiff, ↓reduceIte, reduceCtorEq, reduceLT, reduceLeDiff, Array.reduceGetElem?, Int.reduceToNat, reduceSub, Nat.reduceBEq, ↓zc3, zg4, zg5])
          all_goals ((repeat' apply And.intro) <;> first|rfl|assumption|omega|(simp;done)|(simp;omega)|(simp_all;done))
         ·kernel_rfl
         refine cA_n ?_
         refine wk_ln 1 [(some 0, ⟨3, 1, false, data4.map (ci .i64)⟩)] [] [(0, .ref 0 0 data4.length 1), (1, .int .i64 a1), (2, .int .i64 b1), (6, .int .i64 i1), (7, .int .i64 j1), (30, .bool r1)] (by intro i h; rcases i with _ | i <;> first | rfl | omega) (by show ([0, 1, 2, 6, 7, 30] : List Nat).Nodup; decide) (by show ([0] : List Nat).Nodup; decide) ?_ ?_ (fun t0 => ⟨r1, t0, H, rfl⟩)
         ·exact (allB_some (by rfl) rfl (.sm _ _ (ci_pu .i64)) trivial)
         ·(simp only [AllT, ATT, reduceEqDiff, ↓reduceIte, and_true]); exact ⟨(.refl' (by first|rfl|omega|(simp;done)|(simp;omega)|(simp_all;done)) rfl), (.int' rfl), (.int' rfl), (.int' rfl), (.int' rfl), (.bool' rfl)⟩
        ·have H := cond_f zc3 H
         refine a_drW (by kernel_rfl) _ rfl (s := ?zs8) (by kernel_rfl) (by kernel_rfl) ?zs8f ?_ ?_ ?_
         rotate_left 2
         ·simp only [EVT, stepW, evOp, St.ev, St.app, St.put, wrs, evBin, binInt, evIndexAddr, evLoad, cut, datOf, datOf1, frz, TIS, CS, reduceAdd, reduceMul, reduceEqDiff, ↓reduceIte, reduceCtorEq, reduceLT, reduceLeDiff, Array.reduceGetElem?, Int.reduceToNat, reduceSub, Nat.reduceBEq, ↓zc3]
          try simp only [EVT, stepW, evOp, St.ev, St.app, St.put, wrs, evBin, binInt, evIndexAddr, evLoad, cut, datOf, datOf1, frz, TIS, CS, reduceAdd, reduceMul, reduceEqDiff, ↓reduceIte, reduceCtorEq, reduceLT, reduceLeDiff, Array.reduceGetElem?, Int.reduceToNat, reduceSub, Nat.reduceBEq, ↓zc3]
          (repeat' apply And.intro) <;> first|rfl|assumption|omega|(simp;done)|(simp;omega)|(simp_all;done)
         ·kernel_rfl
         refine cA_n ?_
         refine wk_ln 1 [(some 0, ⟨3, 1, false, data4.map (ci .i64)⟩)] [] [(0, .ref 0 0 data4.length 1), (1, .int .i64 a1), (2, .int .i64 b1), (6, .int .i64 i1), (7, .int .i64 j1), (30, .bool false)] (by intro i h; rcases i with _ | i <;> first | rfl | omega) (by show ([0, 1, 2, 6, 7, 30] : List Nat).Nodup; decide) (by show ([0] : List Nat).Nodup; decide) ?_ ?_ (fun t0 => ⟨false, t0, H, rfl⟩)
         ·exact (allB_some (by rfl) rfl (.sm _ _ (ci_pu .i64)) trivial)
         ·(simp only [AllT, ATT, reduceEqDiff, ↓reduceIte, and_true]); exact ⟨(.refl' (by first|rfl|omega|(simp;done)|(simp;omega)|(simp_all;done)) rfl), (.int' rfl), (.int' rfl), (.int' rfl), (.int' rfl), (.bool' (by first | rfl | assumption | (simp_all; done)))⟩
       ·rintro s ⟨v1, t0, H, rfl⟩
        unfold slices_insertionSortOrdered_J2 at H
        refine a_condb (v1) (by rfl) (fun zc2 => ?_) (fun zc2 => ?_)
        ·have H := cond_t zc2 H
         refine a_skip ?_
         refine sA_n ?_
         refine a_seq ?_
         refine a_blk ?_
         obtain ⟨x1, zh1, H⟩ := bind_some H
         have zg1 := idx_map zh1 (ci .i64)
         try simp only [Int.reduceToNat, Int.toNat_natCast] at zg1
         obtain ⟨zh1a, zh1b, _⟩ := idx_some zh1
         obtain ⟨x2, zh2, H⟩ := bind_some H
         have zg2 := idx_map zh2 (ci .i64)
         try simp only [Int.reduceToNat, Int.toNat_natCast] at zg2
         obtain ⟨zh2a, zh2b, _⟩ := idx_some zh2
         obtain ⟨x3, zh3, H⟩ := bind_some H
         have zg3 := idx_map zh3 (ci .i64)
         try simp only [Int.reduceToNat, Int.toNat_natCast] at zg3
         obtain ⟨zh3a, zh3b, _⟩ := idx_some zh3
         refine a_drW (by kernel_rfl) _ rfl (s := ?zs5) (by kernel_rfl) (by kernel_rfl) ?zs5f ?_ ?_ ?_
         rotate_left 2
         ·simp only [EVT, stepW, evOp, St.ev, St.app, St.put, wrs, datOf, datOf1, evBin, binInt, evIndexAddr, evLoad, cut, evStore, setR, allOne, TIS, CS, reduceAdd, reduceMul, reduceEqDiff, ↓reduceIte, reduceCtorEq, reduceLT, reduceLeDiff, Int.reduceToNat, reduceSub, Nat.reduceBEq, ↓zc2, zg1, zg2, zg3]
          (repeat' apply And.intro) <;> first|rfl|assumption|omega|(simp;done)|(simp;omega)|(simp_all;done)
         ·kernel_rfl
         refine bA_n ?_
         refine sA_n ?_
         refine a_reg _ rfl (s := ?zs6) ?_ ?_
         rotate_left
         ·simp only [EVT, stepR, evOp, St.ev, St.app, St.put, wrs, datOf, datOf1, evBin, binInt, TIS, CS, reduceAdd, reduceMul, reduceEqDiff, ↓reduceIte, reduceCtorEq, reduceLT, reduceLeDiff, ↓zc2, zg1, zg2, zg3]
          (repeat' apply And.intro) <;> first|rfl|assumption|omega|(simp;done)|(simp;omega)|(simp_all;done)
         refine lA_n ?_
         refine wk_ln 1 [(some 0, ⟨3, 1, false, ((data4.set j1.toNat x1).set ((IntKind.wrap .i64 (j1 - 1)).toNat) x2).map (ci .i64)⟩)] [] [(0, .ref 0 0 ((data4.set j1.toNat x1).set ((IntKind.wrap .i64 (j1 - 1)).toNat) x2).length 1), (1, .int .i64 a1), (2, .int .i64 b1), (6, .int .i64 i1), (7, .int .i64 (IntKind.wrap .i64 (j1 - 1)))] (by intro i h; rcases i with _ | i <;> first | rfl | omega) (by show ([0, 1, 2, 6, 7] : List Nat).Nodup; decide) (by show ([0] : List Nat).Nodup; decide) ?_ ?_ (fun t0 => ⟨_, Nat.lt_succ_self _, ((data4.set j1.toNat x1).set ((IntKind.wrap .i64 (j1 - 1)).toNat) x2), (IntKind.wrap .i64 (j1 - 1)), t0, H, rfl⟩)
         ·exact (allB_some (by rfl) rfl (.sm _ _ (ci_pu .i64)) trivial)
         ·(simp only [AllT, ATT, reduceEqDiff, ↓reduceIte, and_true]); exact ⟨(.refl' (by first|rfl|omega|(simp;done)|(simp;omega)|(simp_all;done)) rfl), (.int' rfl), (.int' rfl), (.int' rfl), (.int' rfl)⟩
        ·have H := cond_f zc2 H
         refine a_exit ?_
         refine sA_e ?_
         refine lA_e ?_
         refine bA_hit ?_
         refine bA_n ?_
         refine cA_n ?_
         refine wk_ln 1 [(some 0, ⟨3, 1, false, data4.map (ci .i64)⟩)] [] [(0, .ref 0 0 data4.length 1), (1, .int .i64 a1), (2, .int .i64 b1), (6, .int .i64 i1)] (by intro i h; rcases i with _ | i <;> first | rfl | omega) (by show ([0, 1, 2, 6] : List Nat).Nodup; decide) (by show ([0] : List Nat).Nodup; decide) ?_ ?_ (fun t0 => ⟨data4, t0, H, rfl⟩)
         ·exact (allB_some (by rfl) rfl (.sm _ _ (ci_pu .i64)) trivial)
         ·(simp only [AllT, ATT, reduceEqDiff, ↓reduceIte, and_true]); exact ⟨(.refl' (by first|rfl|omega|(simp;done)|(simp;omega)|(simp_all;done)) rfl), (.int' rfl), (.int' rfl), (.int' rfl)⟩
    ·rintro s ⟨data3, t0, H, rfl⟩
     unfold slices_insertionSortOrdered_J1 at H
     refine a_reg _ rfl (s := ?zs3) ?_ ?_
     rotate_left
     ·simp only [EVT, stepR, evOp, St.ev, St.app, St.put, wrs, datOf, datOf1, evBin, binInt, TIS, CS, reduceAdd, reduceMul, reduceEqDiff, ↓reduceIte, reduceCtorEq, reduceLT, reduceLeDiff]
      (repeat' apply And.intro) <;> first|rfl|assumption|omega|(simp;done)|(simp;omega)|(simp_all;done)
     refine lA_n ?_
     refine wk_ln 1 [(some 0, ⟨3, 1, false, data3.map (ci .i64)⟩)] [] [(0, .ref 0 0 data3.length 1), (1, .int .i64 a1), (2, .int .i64 b1), (6, .int .i64 (IntKind.wrap .i64 (i1 + 1)))] (by intro i h; rcases i with _ | i <;> first | rfl | omega) (by show ([0, 1, 2, 6] : List Nat).Nodup; decide) (by show ([0] : List Nat).Nodup; decide) ?_ ?_ (fun t0 => ⟨_, Nat.lt_succ_self _, data3, (IntKind.wrap .i64 (i1 + 1)), t0, H, rfl⟩)
     ·exact (allB_some (by rfl) rfl (.sm _ _ (ci_pu .i64)) trivial)
     ·(simp only [AllT, ATT, reduceEqDiff, ↓reduceIte, and_true]); exact ⟨(.refl' (by first|rfl|omega|(simp;done)|(simp;omega)|(simp_all;done)) rfl), (.int' rfl), (.int' rfl), (.int' rfl)⟩
   ·have H := cond_f zc1 H
    refine a_exit ?_
    refine sA_e ?_
    refine lA_e ?_
    refine bA_hit ?_
    obtain rfl := Option.some.inj H
    refine eR_n ?_
    refine wk_ln 1 [(some 0, ⟨3, 1, false, data2.map (ci .i64)⟩)] [] [] (by intro i h; rcases i with _ | i <;> first | rfl | omega) (by show ([] : List Nat).Nodup; decide) (by show ([0] : List Nat).Nodup; decide) ?_ ?_ (fun t0 => ⟨by first | rfl | (simp only [EVT, resR, single, evLoad, cut, TIS, CS, reduceAdd, reduceEqDiff, ↓reduceIte, reduceCtorEq, reduceLT, reduceLeDiff, reduceSub, Nat.reduceBEq]; (repeat' apply And.intro) <;> first | rfl | (simp; done)), fun j B h => by rcases j with _ | _ <;> first | exact h | (exact absurd h (by simp [hh]))⟩)
    ·exact (allB_some (by rfl) rfl (.sm _ _ (ci_pu .i64)) trivial)
    ·exact trivial
def slices_pdqsortOrdered_L1 (b1 : Int) (a1 : Int) (data1 : List Int) : Nat → Option (List Int)
 | 0 => none
 | m_ + 1 => chk ((decide ((IntKind.wrap .i64 (b1 - a1)) ≤ 12)) = true) ((slices_insertionSortOrdered_f data1 a1 b1).bind fun r1 => chk (r1.length = data1.length) (some (r1)))
def slices_pdqsortOrdered_f (data1 : List Int) (a1 : Int) (b1 : Int) (limit1 : Int) : Option (List Int) :=
 slices_pdqsortOrdered_L1 b1 a1 data1 BIG
set_option maxHeartbeats 4000000 in
set_option maxRecDepth 20000 in
theorem slices_pdqsortOrdered_rc {data1 : List Int} {a1 : Int} {b1 : Int} {limit1 : Int} {r : (List Int)} (H : slices_pdqsortOrdered_f data1 a1 b1 limit1 = some r) : RC Try.prog 89 [.ref 0 0 data1.length 1, .int .i64 a1, .int .i64 b1, .int .i64 limit1] [⟨3, 1, false, data1.map (ci .i64)⟩] 1 (.tup []) [some ⟨3, 1, false, r.map (ci .i64)⟩] := by
 refine rcA_of Try.func89 (by rfl) (by decide) 134 (by rfl) [] (by rfl) ?_
 unfold slices_pdqsortOrdered_f at H
 simp only [hent, List.length_cons, List.length_nil, reduceAdd]
 refine a_seq ?_
 refine a_reg _ rfl (s := ?zs1) ?_ ?_
 rotate_left
 ·simp only [EVT, stepR, evOp, St.ev, St.app, St.put, wrs, datOf, datOf1, TIS, CS, reduceAdd, reduceMul, reduceEqDiff, ↓reduceIte, reduceCtorEq, reduceLT, reduceLeDiff]
  (repeat' apply And.intro) <;> first|rfl|assumption|omega|(simp;done)|(simp;omega)|(simp_all;done)
 refine sA_n ?_
 refine a_seq ?_
 refine a_reg _ rfl (s := ?zs2) ?_ ?_
 rotate_left
 ·simp only [EVT, stepR, evOp, St.ev, St.app, St.put, wrs, datOf, datOf1, TIS, CS, reduceAdd, reduceMul, reduceEqDiff, ↓reduceIte, reduceCtorEq, reduceLT, reduceLeDiff]
  (repeat' apply And.intro) <;> first|rfl|assumption|omega|(simp;done)|(simp;omega)|(simp_all;done)
 refine sA_n ?_
 refine a_blk ?_
 refine a_loop (fun m s => ∃ (t0 : Nat → Dat), slices_pdqsortOrdered_L1 b1 a1 data1 m = some r ∧ s = ⟨tl t0 [(0, .ref 0 0 data1.length 1), (1, .int .i64 a1), (2, .int .i64 b1), (3, .int .i64 limit1), (8, .bool true), (9, .bool true)], hl [⟨3, 1, false, data1.map (ci .i64)⟩], 1, 134⟩) BIG ?_ ?_
 ·refine wk_ln 1 [(some 0, ⟨3, 1, false, data1.map (ci .i64)⟩)] [] [(0, .ref 0 0 data1.length 1), (1, .int .i64 a1), (2, .int .i64 b1), (3, .int .i64 limit1), (8, .bool true), (9, .bool true)] (by intro i h; rcases i with _ | i <;> first | rfl | omega) (by show ([0, 1, 2, 3, 8, 9] : List Nat).Nodup; decide) (by show ([0] : List Nat).Nodup; decide) ?_ ?_ (fun t0 => ⟨t0, H, rfl⟩)
  ·exact (allB_some (by rfl) rfl (.sm _ _ (ci_pu .i64)) trivial)
  ·(simp only [AllT, ATT, reduceEqDiff, ↓reduceIte, and_true]); exact ⟨(.refl' (by first|rfl|omega|(simp;done)|(simp;omega)|(simp_all;done)) rfl), (.int' rfl), (.int' rfl), (.int' rfl), (.bool' (by first | rfl | assumption | (simp_all; done))), (.bool' (by first | rfl | assumption | (simp_all; done)))⟩
 ·rintro m_slices_pdqsortOrdered_L1 s ⟨t0, H, rfl⟩
  obtain _ | m_slices_pdqsortOrdered_L1 := m_slices_pdqsortOrdered_L1
  ·cases (show (none : Option _) = some _ from H)
  ·rw [slices_pdqsortOrdered_L1] at H
   refine a_blk ?_
   refine a_seq ?_
   refine a_reg _ rfl (s := ?zs3) ?_ ?_
   rotate_left
   ·simp only [EVT, stepR, evOp, St.ev, St.app, St.put, wrs, evBin, binInt, TIS, CS, reduceAdd, reduceMul, reduceEqDiff, ↓reduceIte, reduceCtorEq, reduceLT, reduceLeDiff]
    (repeat' apply And.intro) <;> first|rfl|assumption|omega|(simp;done)|(simp;omega)|(simp_all;done)
   refine sA_n ?_
   refine a_seq ?_
   refine a_seq ?_
   refine a_reg _ rfl (s := ?zs4) ?_ ?_
   rotate_left
   ·simp only [EVT, stepR, evOp, St.ev, St.app, St.put, wrs, datOf, datOf1, evBin, binInt, TIS, CS, reduceAdd, reduceMul, reduceEqDiff, ↓reduceIte, reduceCtorEq, reduceLT, reduceLeDiff]
    (repeat' apply And.intro) <;> first|rfl|assumption|omega|(simp;done)|(simp;omega)|(simp_all;done)
   refine sA_n ?_
   obtain ⟨zh1, H⟩ := chk_some H
   refine a_condb ((decide ((IntKind.wrap .i64 (b1 - a1)) ≤ 12))) (by rfl) (fun zc1 => ?_) (fun zc1x => absurd (zc1x.symm.trans zh1) (by decide))
   ·try skip
    refine a_seq ?_
    obtain ⟨r1, zh2, H⟩ := bind_some H
    have zk1 := slices_insertionSortOrdered_rc zh2
    obtain ⟨zh3, H⟩ := chk_some H
    refine a_reg _ rfl (s := ?zs5) ?_ ?_
    rotate_left
    ·try simp only [EVT, stepR, evOp, St.ev, St.app, St.put, wrs, frz, TIS, CS, reduceAdd, reduceMul, reduceEqDiff, ↓reduceIte, reduceCtorEq, reduceLT, reduceLeDiff, reduceSub, Nat.reduceBEq, ↓zc1]
     repeat' with_reducible apply And.intro
     all_goals try ((with_reducible show CallR _ _ _ _ _ _ _); refine callR_rcw (r' := .tup []) [(0, none), (0, some ⟨3, 1, false, r1.map (ci .i64)⟩)] [(some 0, ⟨3, 1, false, data1.map (ci .i64)⟩)] [] [(0, 0, ⟨3, 1, false, r1.map (ci .i64)⟩)] rfl zk1 (by simp) (by show ([0] : List Nat).Nodup; decide) (allB_some (by rfl) rfl (.sm _ _ (ci_pu .i64)) trivial) (.cons (.refl' (by first|rfl|omega|(simp;done)|(simp;omega)|(simp_all;done)) rfl) (.cons (.int' rfl) (.cons (.int' rfl) .nil))) (by show ([0] : List Nat).Nodup; decide) (by show ([0] : List Nat).Nodup; decide) ⟨.inl ⟨by decide, rfl⟩, ⟨_, rfl, ⟨rfl, rfl, rfl, rfl⟩, .same _ _ (ci_pu .i64) rfl⟩, trivial⟩ (.tup' .nil) ?_; simp only [EVT, stepR, evOp, St.ev, St.app, St.put, wrs, frz, TIS, CS, reduceAdd, reduceMul, reduceEqDiff, ↓reduceIte, reduceCtorEq, reduceLT, reduceLeDiff, reduceSub, Nat.reduceBEq, ↓zc1])
     all_goals ((repeat' apply And.intro) <;> first|rfl|assumption|omega|(simp;done)|(simp;omega)|(simp_all;done))
    refine sA_n ?_
    refine a_ret ?_
    refine sA_r ?_
    refine bA_r ?_
    refine lA_r ?_
    refine bA_r ?_
    obtain rfl := Option.some.inj H
    refine eR_r ?_
    refine wk_ln 1 [(some 0, ⟨3, 1, false, r1.map (ci .i64)⟩)] [] [] (by intro i h; rcases i with _ | i <;> first | rfl | omega) (by show ([] : List Nat).Nodup; decide) (by show ([0] : List Nat).Nodup; decide) ?_ ?_ (fun t0 => ⟨by first | rfl | (simp only [EVT, resR, single, evLoad, cut, TIS, CS, reduceAdd, reduceEqDiff, ↓reduceIte, reduceCtorEq, reduceLT, reduceLeDiff, reduceSub, Nat.reduceBEq]; (repeat' apply And.intro) <;> first | rfl | (simp; done)), fun j B h => by rcases j with _ | _ <;> first | exact h | (exact absurd h (by simp [hh]))⟩)
    ·exact (allB_some (by rfl) rfl (.sm _ _ (ci_pu .i64)) trivial)
    ·exact trivial
def math_bits_Len64_J3 (x4 : Int) (n3 : Int) : Option Int :=
 chk (0 ≤ (IntKind.wrap .u8 x4) ∧ (IntKind.wrap .u8 x4) < ((⟨#[0, 1, 2, 2, 3, 3, 3, 3, 4, 4, 4, 4, 4, 4, 4, 4, 5, 5, 5, 5, 5, 5, 5, 5, 5, 5, 5, 5, 5, 5, 5, 5, 6, 6, 6, 6, 6, 6, 6, 6, 6, 6, 6, 6, 6, 6, 6, 6, 6, 6, 6, 6, 6, 6, 6, 6, 6, 6, 6, 6, 6, 6, 6, 6, 7, 7, 7, 7, 7, 7, 7, 7, 7, 7, 7, 7, 7, 7, 7, 7, 7, 7, 7, 7, 7, 7, 7, 7, 7, 7, 7, 7, 7, 7, 7, 7, 7, 7, 7, 7, 7, 7, 7, 7, 7, 7, 7, 7, 7, 7, 7, 7, 7, 7, 7, 7, 7, 7, 7, 7, 7, 7, 7, 7, 7, 7, 7, 7, 8, 8, 8, 8, 8, 8, 8, 8, 8, 8, 8, 8, 8, 8, 8, 8, 8, 8, 8, 8, 8, 8, 8, 8, 8, 8, 8, 8, 8, 8, 8, 8, 8, 8, 8, 8, 8, 8, 8, 8, 8, 8, 8, 8, 8, 8, 8, 8, 8, 8, 8, 8, 8, 8, 8, 8, 8, 8, 8, 8, 8, 8, 8, 8, 8, 8, 8, 8, 8, 8, 8, 8, 8, 8, 8, 8, 8, 8, 8, 8, 8, 8, 8, 8, 8, 8, 8, 8, 8, 8, 8, 8, 8, 8, 8, 8, 8, 8, 8, 8, 8, 8, 8, 8, 8, 8, 8, 8, 8, 8, 8, 8, 8, 8, 8, 8, 8, 8, 8, 8, 8, 8, 8, 8, 8, 8, 8, 8]⟩ : ByteArray).size : Int)) (some ((IntKind.wrap .i64 (n3 + (IntKind.wrap .i64 (((⟨#[0, 1, 2, 2, 3, 3, 3, 3, 4, 4, 4, 4, 4, 4, 4, 4, 5, 5, 5, 5, 5, 5, 5, 5, 5, 5, 5, 5, 5, 5, 5, 5, 6, 6, 6, 6, 6, 6, 6, 6, 6, 6, 6, 6, 6, 6, 6, 6, 6, 6, 6, 6, 6, 6, 6, 6, 6, 6, 6, 6, 6, 6, 6, 6, 7, 7, 7, 7, 7, 7, 7, 7, 7, 7, 7, 7, 7, 7, 7, 7, 7, 7, 7, 7, 7, 7, 7, 7, 7, 7, 7, 7, 7, 7, 7, 7, 7, 7, 7, 7, 7, 7, 7, 7, 7, 7, 7, 7, 7, 7, 7, 7, 7, 7, 7, 7, 7, 7, 7, 7, 7, 7, 7, 7, 7, 7, 7, 7, 8, 8, 8, 8, 8, 8, 8, 8, 8, 8, 8, 8, 8, 8, 8, 8, 8, 8, 8, 8, 8, 8, 8, 8, 8, 8, 8, 8, 8, 8, 8, 8, 8, 8, 8, 8, 8, 8, 8, 8, 8, 8, 8, 8, 8, 8, 8, 8, 8, 8, 8, 8, 8, 8, 8, 8, 8, 8, 8, 8, 8, 8, 8, 8, 8, 8, 8, 8, 8, 8, 8, 8, 8, 8, 8, 8, 8, 8, 8, 8, 8, 8, 8, 8, 8, 8, 8, 8, 8, 8, 8, 8, 8, 8, 8, 8, 8, 8, 8, 8, 8, 8, 8, 8, 8, 8, 8, 8, 8, 8, 8, 8, 8, 8, 8, 8, 8, 8, 8, 8, 8, 8, 8, 8, 8, 8, 8, 8]⟩ : ByteArray).data.toList.getD (IntKind.wrap .u8 x4).toNat 0).toNat : Int))))))
def math_bits_Len64_J2 (x3 : Int) (n2 : Int) : Option Int :=
 cond (decide (256 ≤ x3)) (math_bits_Len64_J3 (Int.fdiv x3 (2 ^ (min 8 (IntKind.bits .u64)))) (IntKind.wrap .i64 (n2 + 8))) (math_bits_Len64_J3 x3 n2)
def math_bits_Len64_J1 (x2 : Int) (n1 : Int) : Option Int :=
 cond (decide (65536 ≤ x2)) (math_bits_Len64_J2 (Int.fdiv x2 (2 ^ (min 16 (IntKind.bits .u64)))) (IntKind.wrap .i64 (n1 + 16))) (math_bits_Len64_J2 x2 n1)
def math_bits_Len64_f (x1 : Int) : Option Int :=
 cond (decide (4294967296 ≤ x1)) (math_bits_Len64_J1 (Int.fdiv x1 (2 ^ (min 32 (IntKind.bits .u64)))) 32) (math_bits_Len64_J1 x1 0)
set_option maxHeartbeats 4000000 in
set_option maxRecDepth 20000 in
theorem math_bits_Len64_pc {x1 : Int} {r : Int} (H : math_bits_Len64_f x1 = some r) : PC Try.prog 100 [.int .u64 x1] (.int .i64 r) := by
 refine pcA_of Try.func100 (by rfl) (by decide) 25 (by rfl) [.tmp 2] (by rfl) ?_
 unfold math_bits_Len64_f at H
 simp only [ent]
 refine a_seq ?_
 refine a_reg _ rfl (s := ?zs1) ?_ ?_
 rotate_left
 ·simp only [EVT, stepR, evOp, St.ev, St.app, St.put, wrs, datOf, datOf1, TIS, CS, reduceAdd, reduceMul, reduceEqDiff, ↓reduceIte, reduceCtorEq, reduceLT, reduceLeDiff]
  (repeat' apply And.intro) <;> first|rfl|assumption|omega|(simp;done)|(simp;omega)|(simp_all;done)
 refine sA_n ?_
 refine a_cut (fun s => ∃ (x2 : Int) (n1 : Int) (t0 : Nat → Dat), math_bits_Len64_J1 x2 n1 = some r ∧ s = ⟨tl t0 [(0, .int .u64 x2), (2, .int .i64 n1)], hl [], 0, 25⟩) ?_ ?_
 ·refine a_seq ?_
  refine a_reg _ rfl (s := ?zs9) ?_ ?_
  rotate_left
  ·simp only [EVT, stepR, evOp, St.ev, St.app, St.put, wrs, datOf, datOf1, evBin, binInt, TIS, CS, reduceAdd, reduceMul, reduceEqDiff, ↓reduceIte, reduceCtorEq, reduceLT, reduceLeDiff]
   (repeat' apply And.intro) <;> first|rfl|assumption|omega|(simp;done)|(simp;omega)|(simp_all;done)
  refine sA_n ?_
  refine a_condb ((decide (4294967296 ≤ x1))) (by rfl) (fun zc3 => ?_) (fun zc3 => ?_)
  ·have H := cond_t zc3 H
   refine a_seq ?_
   refine a_reg _ rfl (s := ?zs10) ?_ ?_
   rotate_left
   ·simp only [EVT, stepR, evOp, St.ev, St.app, St.put, wrs, datOf, datOf1, evBin, binInt, TIS, CS, reduceAdd, reduceMul, reduceEqDiff, ↓reduceIte, reduceCtorEq, reduceLT, reduceLeDiff, ↓zc3]
    (repeat' apply And.intro) <;> first|rfl|assumption|omega|(simp;done)|(simp;omega)|(simp_all;done)
   refine sA_n ?_
   refine a_reg _ rfl (s := ?zs11) ?_ ?_
   rotate_left
   ·simp only [EVT, stepR, evOp, St.ev, St.app, St.put, wrs, datOf, datOf1, TIS, CS, reduceAdd, reduceMul, reduceEqDiff, ↓reduceIte, reduceCtorEq, reduceLT, reduceLeDiff, ↓zc3]
    (repeat' apply And.intro) <;> first|rfl|assumption|omega|(simp;done)|(simp;omega)|(simp_all;done)
   refine cA_n ?_
   refine wk_l [] [] [(0, .int .u64 (Int.fdiv x1 (2 ^ (min 32 (IntKind.bits .u64))))), (2, .int .i64 32)] (by show ([0, 2] : List Nat).Nodup; decide) (by show ([] : List Nat).Nodup; decide) ?_ ?_ (fun t0 => ⟨(Int.fdiv x1 (2 ^ (min 32 (IntKind.bits .u64)))), 32, t0, H, rfl⟩)
   ·exact trivial
   ·(simp only [AllT, ATT, reduceEqDiff, ↓reduceIte, and_true]); exact ⟨(.int' rfl), (.int' rfl)⟩
  ·have H := cond_f zc3 H
   refine a_skip ?_
   refine cA_n ?_
   refine wk_l [] [] [(0, .int .u64 x1), (2, .int .i64 0)] (by show ([0, 2] : List Nat).Nodup; decide) (by show ([] : List Nat).Nodup; decide) ?_ ?_ (fun t0 => ⟨x1, 0, t0, H, rfl⟩)
   ·exact trivial
   ·(simp only [AllT, ATT, reduceEqDiff, ↓reduceIte, and_true]); exact ⟨(.int' rfl), (.int' rfl)⟩
 ·rintro s ⟨x2, n1, t0, H, rfl⟩
  unfold math_bits_Len64_J1 at H
  refine a_cut (fun s => ∃ (x3 : Int) (n2 : Int) (t0 : Nat → Dat), math_bits_Len64_J2 x3 n2 = some r ∧ s = ⟨tl t0 [(0, .int .u64 x3), (2, .int .i64 n2)], hl [], 0, 25⟩) ?_ ?_
  ·refine a_seq ?_
   refine a_reg _ rfl (s := ?zs6) ?_ ?_
   rotate_left
   ·simp only [EVT, stepR, evOp, St.ev, St.app, St.put, wrs, datOf, datOf1, evBin, binInt, TIS, CS, reduceAdd, reduceMul, reduceEqDiff, ↓reduceIte, reduceCtorEq, reduceLT, reduceLeDiff]
    (repeat' apply And.intro) <;> first|rfl|assumption|omega|(simp;done)|(simp;omega)|(simp_all;done)
   refine sA_n ?_
   refine a_condb ((decide (65536 ≤ x2))) (by rfl) (fun zc2 => ?_) (fun zc2 => ?_)
   ·have H := cond_t zc2 H
    refine a_seq ?_
    refine a_reg _ rfl (s := ?zs7) ?_ ?_
    rotate_left
    ·simp only [EVT, stepR, evOp, St.ev, St.app, St.put, wrs, datOf, datOf1, evBin, binInt, TIS, CS, reduceAdd, reduceMul, reduceEqDiff, ↓reduceIte, reduceCtorEq, reduceLT, reduceLeDiff, ↓zc2]
     (repeat' apply And.intro) <;> first|rfl|assumption|omega|(simp;done)|(simp;omega)|(simp_all;done)
    refine sA_n ?_
    refine a_reg _ rfl (s := ?zs8) ?_ ?_
    rotate_left
    ·simp only [EVT, stepR, evOp, St.ev, St.app, St.put, wrs, datOf, datOf1, evBin, binInt, TIS, CS, reduceAdd, reduceMul, reduceEqDiff, ↓reduceIte, reduceCtorEq, reduceLT, reduceLeDiff, ↓zc2]
     (repeat' apply And.intro) <;> first|rfl|assumption|omega|(simp;done)|(simp;omega)|(simp_all;done)
    refine cA_n ?_
    refine wk_l [] [] [(0, .int .u64 (Int.fdiv x2 (2 ^ (min 16 (IntKind.bits .u64))))), (2, .int .i64 (IntKind.wrap .i64 (n1 + 16)))] (by show ([0, 2] : List Nat).Nodup; decide) (by show ([] : List Nat).Nodup; decide) ?_ ?_ (fun t0 => ⟨(Int.fdiv x2 (2 ^ (min 16 (IntKind.bits .u64)))), (IntKind.wrap .i64 (n1 + 16)), t0, H, rfl⟩)
    ·exact trivial
    ·(simp only [AllT, ATT, reduceEqDiff, ↓reduceIte, and_true]); exact ⟨(.int' rfl), (.int' rfl)⟩
   ·have H := cond_f zc2 H
    refine a_skip ?_
    refine cA_n ?_
    refine wk_l [] [] [(0, .int .u64 x2), (2, .int .i64 n1)] (by show ([0, 2] : List Nat).Nodup; decide) (by show ([] : List Nat).Nodup; decide) ?_ ?_ (fun t0 => ⟨x2, n1, t0, H, rfl⟩)
    ·exact trivial
    ·(simp only [AllT, ATT, reduceEqDiff, ↓reduceIte, and_true]); exact ⟨(.int' rfl), (.int' rfl)⟩
  ·rintro s ⟨x3, n2, t0, H, rfl⟩
   unfold math_bits_Len64_J2 at H
   refine a_cut (fun s => ∃ (x4 : Int) (n3 : Int) (t0 : Nat → Dat), math_bits_Len64_J3 x4 n3 = some r ∧ s = ⟨tl t0 [(0, .int .u64 x4), (2, .int .i64 n3)], hl [], 0, 25⟩) ?_ ?_
   ·refine a_seq ?_
    refine a_reg _ rfl (s := ?zs3) ?_ ?_
    rotate_left
    ·simp only [EVT, stepR, evOp, St.ev, St.app, St.put, wrs, datOf, datOf1, evBin, binInt, TIS, CS, reduceAdd, reduceMul, reduceEqDiff, ↓reduceIte, reduceCtorEq, reduceLT, reduceLeDiff]
     (repeat' apply And.intro) <;> first|rfl|assumption|omega|(simp;done)|(simp;omega)|(simp_all;done)
    refine sA_n ?_
    refine a_condb ((decide (256 ≤ x3))) (by rfl) (fun zc1 => ?_) (fun zc1 => ?_)
    ·have H := cond_t zc1 H
     refine a_seq ?_
     refine a_reg _ rfl (s := ?zs4) ?_ ?_
     rotate_left
     ·simp only [EVT, stepR, evOp, St.ev, St.app, St.put, wrs, datOf, datOf1, evBin, binInt, TIS, CS, reduceAdd, reduceMul, reduceEqDiff, ↓reduceIte, reduceCtorEq, reduceLT, reduceLeDiff, ↓zc1]
      (repeat' apply And.intro) <;> first|rfl|assumption|omega|(simp;done)|(simp;omega)|(simp_all;done)
     refine sA_n ?_
     refine a_reg _ rfl (s := ?zs5) ?_ ?_
     rotate_left
     ·simp only [EVT, stepR, evOp, St.ev, St.app, St.put, wrs, datOf, datOf1, evBin, binInt, TIS, CS, reduceAdd, reduceMul, reduceEqDiff, ↓reduceIte, reduceCtorEq, reduceLT, reduceLeDiff, ↓zc1]
      (repeat' apply And.intro) <;> first|rfl|assumption|omega|(simp;done)|(simp;omega)|(simp_all;done)
     refine cA_n ?_
     refine wk_l [] [] [(0, .int .u64 (Int.fdiv x3 (2 ^ (min 8 (IntKind.bits .u64))))), (2, .int .i64 (IntKind.wrap .i64 (n2 + 8)))] (by show ([0, 2] : List Nat).Nodup; decide) (by show ([] : List Nat).Nodup; decide) ?_ ?_ (fun t0 => ⟨(Int.fdiv x3 (2 ^ (min 8 (IntKind.bits .u64)))), (IntKind.wrap .i64 (n2 + 8)), t0, H, rfl⟩)
     ·exact trivial
     ·(simp only [AllT, ATT, reduceEqDiff, ↓reduceIte, and_true]); exact ⟨(.int' rfl), (.int' rfl)⟩
    ·have H := cond_f zc1 H
     refine a_skip ?_
     refine cA_n ?_
     refine wk_l [] [] [(0, .int .u64 x3), (2, .int .i64 n2)] (by show ([0, 2] : List Nat).Nodup; decide) (by show ([] : List Nat).Nodup; decide) ?_ ?_ (fun t0 => ⟨x3, n2, t0, H, rfl⟩)
     ·exact trivial
     ·(simp only [AllT, ATT, reduceEqDiff, ↓reduceIte, and_true]); exact ⟨(.int' rfl), (.int' rfl)⟩
   ·rintro s ⟨x4, n3, t0, H, rfl⟩
    unfold math_bits_Len64_J3 at H
    refine a_seq ?_
    obtain ⟨zh1, H⟩ := chk_some H
    refine a_reg _ rfl (s := ?zs2) ?_ ?_
    rotate_left
    ·simp only [EVT, stepR, evOp, St.ev, St.app, St.put, wrs, evToStr, elems, datOf, datOf1, evIndex, cut, evBin, binInt, TIS, CS, reduceAdd, reduceMul, reduceEqDiff, ↓reduceIte, reduceCtorEq, reduceLT, reduceLeDiff, Int.reduceToNat, reduceSub]
     (repeat' apply And.intro) <;> first|rfl|assumption|omega|(simp;done)|(simp;omega)|(simp_all;done)
    refine sA_n ?_
    refine a_ret ?_
    obtain rfl := Option.some.inj H
    refine e_r2 (d := ?zd1) ?_ ?_
    rotate_left
    ·simp only [EVT, resR, single, evLoad, cut, TIS, CS, reduceAdd, reduceEqDiff, ↓reduceIte, reduceCtorEq, reduceLT, reduceLeDiff, reduceSub, Nat.reduceBEq]
     (repeat' apply And.intro) <;> first | rfl | assumption | omega | (simp; done)
    exact (.int' rfl)
def math_bits_Len_f (x1 : Int) : Option Int :=
 (math_bits_Len64_f x1).bind fun r1 => some (r1)
set_option maxHeartbeats 4000000 in
set_option maxRecDepth 20000 in
theorem math_bits_Len_pc {x1 : Int} {r : Int} (H : math_bits_Len_f x1 = some r) : PC Try.prog 87 [.int .u64 x1] (.int .i64 r) := by
 refine pcA_of Try.func87 (by rfl) (by decide) 8 (by rfl) [.tmp 2] (by rfl) ?_
 unfold math_bits_Len_f at H
 simp only [ent]
 refine a_seq ?_
 refine a_reg _ rfl (s := ?zs1) ?_ ?_
 rotate_left
 ·simp only [EVT, stepR, evOp, St.ev, St.app, St.put, wrs, datOf, datOf1, TIS, CS, reduceAdd, reduceMul, reduceEqDiff, ↓reduceIte, reduceCtorEq, reduceLT, reduceLeDiff]
  (repeat' apply And.intro) <;> first|rfl|assumption|omega|(simp;done)|(simp;omega)|(simp_all;done)
 refine sA_n ?_
 refine a_seq ?_
 refine a_condb false (by first | rfl | (simp only [EVT, St.ev, datOf, datOf1, reduceEqDiff, ↓reduceIte]; done) | (simp only [EVT, St.ev, datOf, datOf1, reduceEqDiff, ↓reduceIte]; rfl) | (simp only [EVT, St.ev, datOf, datOf1, reduceEqDiff, ↓reduceIte]; simp_all; done)) (fun zc1 => absurd zc1 (by decide)) (fun zc1 => ?_)
 refine a_skip ?_
 refine sA_n ?_
 refine a_seq ?_
 obtain ⟨r1, zh1, H⟩ := bind_some H
 have zk1 := math_bits_Len64_pc zh1
 refine a_reg _ rfl (s := ?zs2) ?_ ?_
 rotate_left
 ·try simp only [EVT, stepR, evOp, St.ev, St.app, St.put, wrs, frz, TIS, CS, reduceAdd, reduceMul, reduceEqDiff, ↓reduceIte, reduceCtorEq, reduceLT, reduceLeDiff, reduceSub, Nat.reduceBEq]
  repeat' with_reducible apply And.intro
  all_goals try ((with_reducible show CallR _ _ _ _ _ _ _); refine cR_s zk1 (.cons (.int' rfl) .nil) (.int _ _) ?_; simp only [EVT, stepR, evOp, St.ev, St.app, St.put, wrs, frz, TIS, CS, reduceAdd, reduceMul, reduceEqDiff, ↓reduceIte, reduceCtorEq, reduceLT, reduceLeDiff, reduceSub, Nat.reduceBEq])
  all_goals ((repeat' apply And.intro) <;> first|rfl|assumption|omega|(simp;done)|(simp;omega)|(simp_all;done))
 refine sA_n ?_
 refine a_ret ?_
 obtain rfl := Option.some.inj H
 refine e_r2 (d := ?zd1) ?_ ?_
 rotate_left
 ·simp only [EVT, resR, single, evLoad, cut, TIS, CS, reduceAdd, reduceEqDiff, ↓reduceIte, reduceCtorEq, reduceLT, reduceLeDiff, reduceSub, Nat.reduceBEq]
  (repeat' apply And.intro) <;> first | rfl | assumption | omega | (simp; done)
 exact (.int' rfl)
def math_bits_Len32_J2 (x3 : Int) (n2 : Int) : Option Int :=
 chk (0 ≤ (IntKind.wrap .u8 x3) ∧ (IntKind.wrap .u8 x3) < ((⟨#[0, 1, 2, 2, 3, 3, 3, 3, 4, 4, 4, 4, 4, 4, 4, 4, 5, 5, 5, 5, 5, 5, 5, 5, 5, 5, 5, 5, 5, 5, 5, 5, 6, 6, 6, 6, 6, 6, 6, 6, 6, 6, 6, 6, 6, 6, 6, 6, 6, 6, 6, 6, 6, 6, 6, 6, 6, 6, 6, 6, 6, 6, 6, 6, 7, 7, 7, 7, 7, 7, 7, 7, 7, 7, 7, 7, 7, 7, 7, 7, 7, 7, 7, 7, 7, 7, 7, 7, 7, 7, 7, 7, 7, 7, 7, 7, 7, 7, 7, 7, 7, 7, 7, 7, 7, 7, 7, 7, 7, 7, 7, 7, 7, 7, 7, 7, 7, 7, 7, 7, 7, 7, 7, 7, 7, 7, 7, 7, 8, 8, 8, 8, 8, 8, 8, 8, 8, 8, 8, 8, 8, 8, 8, 8, 8, 8, 8, 8, 8, 8, 8, 8, 8, 8, 8, 8, 8, 8, 8, 8, 8, 8, 8, 8, 8, 8, 8, 8, 8, 8, 8, 8, 8, 8, 8, 8, 8, 8, 8, 8, 8, 8, 8, 8, 8, 8, 8, 8, 8, 8, 8, 8, 8, 8, 8, 8, 8, 8, 8, 8, 8, 8, 8, 8, 8, 8, 8, 8, 8, 8, 8, 8, 8, 8, 8, 8, 8, 8, 8, 8, 8, 8, 8, 8, 8, 8, 8, 8, 8, 8, 8, 8, 8, 8, 8, 8, 8, 8, 8, 8, 8, 8, 8, 8, 8, 8, 8, 8, 8, 8, 8, 8, 8, 8, 8, 8]⟩ : ByteArray).size : Int)) (some ((IntKind.wrap .i64 (n2 + (IntKind.wrap .i64 (((⟨#[0, 1, 2, 2, 3, 3, 3, 3, 4, 4, 4, 4, 4, 4, 4, 4, 5, 5, 5, 5, 5, 5, 5, 5, 5, 5, 5, 5, 5, 5, 5, 5, 6, 6, 6, 6, 6, 6, 6, 6, 6, 6, 6, 6, 6, 6, 6, 6, 6, 6, 6, 6, 6, 6, 6, 6, 6, 6, 6, 6, 6, 6, 6, 6, 7, 7, 7, 7, 7, 7, 7, 7, 7, 7, 7, 7, 7, 7, 7, 7, 7, 7, 7, 7, 7, 7, 7, 7, 7, 7, 7, 7, 7, 7, 7, 7, 7, 7, 7, 7, 7, 7, 7, 7, 7, 7, 7, 7, 7, 7, 7, 7, 7, 7, 7, 7, 7, 7, 7, 7, 7, 7, 7, 7, 7, 7, 7, 7, 8, 8, 8, 8, 8, 8, 8, 8, 8, 8, 8, 8, 8, 8, 8, 8, 8, 8, 8, 8, 8, 8, 8, 8, 8, 8, 8, 8, 8, 8, 8, 8, 8, 8, 8, 8, 8, 8, 8, 8, 8, 8, 8, 8, 8, 8, 8, 8, 8, 8, 8, 8, 8, 8, 8, 8, 8, 8, 8, 8, 8, 8, 8, 8, 8, 8, 8, 8, 8, 8, 8, 8, 8, 8, 8, 8, 8, 8, 8, 8, 8, 8, 8, 8, 8, 8, 8, 8, 8, 8, 8, 8, 8, 8, 8, 8, 8, 8, 8, 8, 8, 8, 8, 8, 8, 8, 8, 8, 8, 8, 8, 8, 8, 8, 8, 8, 8, 8, 8, 8, 8, 8, 8, 8, 8, 8, 8, 8]⟩ : ByteArray).data.toList.getD (IntKind.wrap .u8 x3).toNat 0).toNat : Int))))))
def math_bits_Len32_J1 (x2 : Int) (n1 : Int) : Option Int :=
 cond (decide (256 ≤ x2)) (math_bits_Len32_J2 (Int.fdiv x2 (2 ^ (min 8 (IntKind.bits .u32)))) (IntKind.wrap .i64 (n1 + 8))) (math_bits_Len32_J2 x2 n1)
def math_bits_Len32_f (x1 : Int) : Option Int :=
 cond (decide (65536 ≤ x1)) (math_bits_Len32_J1 (Int.fdiv x1 (2 ^ (min 16 (IntKind.bits .u32)))) 16) (math_bits_Len32_J1 x1 0)
set_option maxHeartbeats 4000000 in
set_option maxRecDepth 20000 in
theorem math_bits_Len32_pc {x1 : Int} {r : Int} (H : math_bits_Len32_f x1 = some r) : PC Try.prog 99 [.int .u32 x1] (.int .i64 r) := by
 refine pcA_of Try.func99 (by rfl) (by decide) 19 (by rfl) [.tmp 2] (by rfl) ?_
 unfold math_bits_Len32_f at H
 simp only [ent]
 refine a_seq ?_
 refine a_reg _ rfl (s := ?zs1) ?_ ?_
 rotate_left
 ·simp only [EVT, stepR, evOp, St.ev, St.app, St.put, wrs, datOf, datOf1, TIS, CS, reduceAdd, reduceMul, reduceEqDiff, ↓reduceIte, reduceCtorEq, reduceLT, reduceLeDiff]
  (repeat' apply And.intro) <;> first|rfl|assumption|omega|(simp;done)|(simp;omega)|(simp_all;done)
 refine sA_n ?_
 refine a_cut (fun s => ∃ (x2 : Int) (n1 : Int) (t0 : Nat → Dat), math_bits_Len32_J1 x2 n1 = some r ∧ s = ⟨tl t0 [(0, .int .u32 x2), (2, .int .i64 n1)], hl [], 0, 19⟩) ?_ ?_
 ·refine a_seq ?_
  refine a_reg _ rfl (s := ?zs6) ?_ ?_
  rotate_left
  ·simp only [EVT, stepR, evOp, St.ev, St.app, St.put, wrs, datOf, datOf1, evBin, binInt, TIS, CS, reduceAdd, reduceMul, reduceEqDiff, ↓reduceIte, reduceCtorEq, reduceLT, reduceLeDiff]
   (repeat' apply And.intro) <;> first|rfl|assumption|omega|(simp;done)|(simp;omega)|(simp_all;done)
  refine sA_n ?_
  refine a_condb ((decide (65536 ≤ x1))) (by rfl) (fun zc2 => ?_) (fun zc2 => ?_)
  ·have H := cond_t zc2 H
   refine a_seq ?_
   refine a_reg _ rfl (s := ?zs7) ?_ ?_
   rotate_left
   ·simp only [EVT, stepR, evOp, St.ev, St.app, St.put, wrs, datOf, datOf1, evBin, binInt, TIS, CS, reduceAdd, reduceMul, reduceEqDiff, ↓reduceIte, reduceCtorEq, reduceLT, reduceLeDiff, ↓zc2]
    (repeat' apply And.intro) <;> first|rfl|assumption|omega|(simp;done)|(simp;omega)|(simp_all;done)
   refine sA_n ?_
   refine a_reg _ rfl (s := ?zs8) ?_ ?_
   rotate_left
   ·simp only [EVT, stepR, evOp, St.ev, St.app, St.put, wrs, datOf, datOf1, TIS, CS, reduceAdd, reduceMul, reduceEqDiff, ↓reduceIte, reduceCtorEq, reduceLT, reduceLeDiff, ↓zc2]
    (repeat' apply And.intro) <;> first|rfl|assumption|omega|(simp;done)|(simp;omega)|(simp_all;done)
   refine cA_n ?_
   refine wk_l [] [] [(0, .int .u32 (Int.fdiv x1 (2 ^ (min 16 (IntKind.bits .u32))))), (2, .int .i64 16)] (by show ([0, 2] : List Nat).Nodup; decide) (by show ([] : List Nat).Nodup; decide) ?_ ?_ (fun t0 => ⟨(Int.fdiv x1 (2 ^ (min 16 (IntKind.bits .u32)))), 16, t0, H, rfl⟩)
   ·exact trivial
   ·(simp only [AllT, ATT, reduceEqDiff, ↓reduceIte, and_true]); exact ⟨(.int' rfl), (.int' rfl)⟩
  ·have H := cond_f zc2 H
   refine a_skip ?_
   refine cA_n ?_
   refine wk_l [] [] [(0, .int .u32 x1), (2, .int .i64 0)] (by show ([0, 2] : List Nat).Nodup; decide) (by show ([] : List Nat).Nodup; decide) ?_ ?_ (fun t0 => ⟨x1, 0, t0, H, rfl⟩)
   ·exact trivial
   ·(simp only [AllT, ATT, reduceEqDiff, ↓reduceIte, and_true]); exact ⟨(.int' rfl), (.int' rfl)⟩
 ·rintro s ⟨x2, n1, t0, H, rfl⟩
  unfold math_bits_Len32_J1 at H
  refine a_cut (fun s => ∃ (x3 : Int) (n2 : Int) (t0 : Nat → Dat), math_bits_Len32_J2 x3 n2 = some r ∧ s = ⟨tl t0 [(0, .int .u32 x3), (2, .int .i64 n2)], hl [], 0, 19⟩) ?_ ?_
  ·refine a_seq ?_
   refine a_reg _ rfl (s := ?zs3) ?_ ?_
   rotate_left
   ·simp only [EVT, stepR, evOp, St.ev, St.app, St.put, wrs, datOf, datOf1, evBin, binInt, TIS, CS, reduceAdd, reduceMul, reduceEqDiff, ↓reduceIte, reduceCtorEq, reduceLT, reduceLeDiff]
    (repeat' apply And.intro) <;> first|rfl|assumption|omega|(simp;done)|(simp;omega)|(simp_all;done)
   refine sA_n ?_
   refine a_condb ((decide (256 ≤ x2))) (by rfl) (fun zc1 => ?_) (fun zc1 => ?_)
   ·have H := cond_t zc1 H
    refine a_seq ?_
    refine a_reg _ rfl (s := ?zs4) ?_ ?_
    rotate_left
    ·simp only [EVT, stepR, evOp, St.ev, St.app, St.put, wrs, datOf, datOf1, evBin, binInt, TIS, CS, reduceAdd, reduceMul, reduceEqDiff, ↓reduceIte, reduceCtorEq, reduceLT, reduceLeDiff, ↓zc1]
     (repeat' apply And.intro) <;> first|rfl|assumption|omega|(simp;done)|(simp;omega)|(simp_all;done)
    refine sA_n ?_
    refine a_reg _ rfl (s := ?zs5) ?_ ?_
    rotate_left
    ·simp only [EVT, stepR, evOp, St.ev, St.app, St.put, wrs, datOf, datOf1, evBin, binInt, TIS, CS, reduceAdd, reduceMul, reduceEqDiff, ↓reduceIte, reduceCtorEq, reduceLT, reduceLeDiff, ↓zc1]
     (repeat' apply And.intro) <;> first|rfl|assumption|omega|(simp;done)|(simp;omega)|(simp_all;done)
    refine cA_n ?_
    refine wk_l [] [] [(0, .int .u32 (Int.fdiv x2 (2 ^ (min 8 (IntKind.bits .u32))))), (2, .int .i64 (IntKind.wrap .i64 (n1 + 8)))] (by show ([0, 2] : List Nat).Nodup; decide) (by show ([] : List Nat).Nodup; decide) ?_ ?_ (fun t0 => ⟨(Int.fdiv x2 (2 ^ (min 8 (IntKind.bits .u32)))), (IntKind.wrap .i64 (n1 + 8)), t0, H, rfl⟩)
    ·exact trivial
    ·(simp only [AllT, ATT, reduceEqDiff, ↓reduceIte, and_true]); exact ⟨(.int' rfl), (.int' rfl)⟩
   ·have H := cond_f zc1 H
    refine a_skip ?_
    refine cA_n ?_
    refine wk_l [] [] [(0, .int .u32 x2), (2, .int .i64 n1)] (by show ([0, 2] : List Nat).Nodup; decide) (by show ([] : List Nat).Nodup; decide) ?_ ?_ (fun t0 => ⟨x2, n1, t0, H, rfl⟩)
    ·exact trivial
    ·(simp only [AllT, ATT, reduceEqDiff, ↓reduceIte, and_true]); exact ⟨(.int' rfl), (.int' rfl)⟩
  ·rintro s ⟨x3, n2, t0, H, rfl⟩
   unfold math_bits_Len32_J2 at H
   refine a_seq ?_
   obtain ⟨zh1, H⟩ := chk_some H
   refine a_reg _ rfl (s := ?zs2) ?_ ?_
   rotate_left
   ·simp only [EVT, stepR, evOp, St.ev, St.app, St.put, wrs, evToStr, elems, datOf, datOf1, evIndex, cut, evBin, binInt, TIS, CS, reduceAdd, reduceMul, reduceEqDiff, ↓reduceIte, reduceCtorEq, reduceLT, reduceLeDiff, Int.reduceToNat, reduceSub]
    (repeat' apply And.intro) <;> first|rfl|assumption|omega|(simp;done)|(simp;omega)|(simp_all;done)
   refine sA_n ?_
   refine a_ret ?_
   obtain rfl := Option.some.inj H
   refine e_r2 (d := ?zd1) ?_ ?_
   rotate_left
   ·simp only [EVT, resR, single, evLoad, cut, TIS, CS, reduceAdd, reduceEqDiff, ↓reduceIte, reduceCtorEq, reduceLT, reduceLeDiff, reduceSub, Nat.reduceBEq]
    (repeat' apply And.intro) <;> first | rfl | assumption | omega | (simp; done)
   exact (.int' rfl)
def slices_Sort_f (x1 : List Int) : Option (List Int) :=
 (math_bits_Len_f (IntKind.wrap .u64 (((x1.length : Nat)) : Int))).bind fun r1 => (slices_pdqsortOrdered_f x1 0 (((x1.length : Nat)) : Int) r1).bind fun r2 => chk (r2.length = x1.length) (some (r2))
set_option maxHeartbeats 4000000 in
set_option maxRecDepth 20000 in
theorem slices_Sort_rc {x1 : List Int} {r : (List Int)} (H : slices_Sort_f x1 = some r) : RC Try.prog 83 [.ref 0 0 x1.length 1] [⟨3, 1, false, x1.map (ci .i64)⟩] 1 (.tup []) [some ⟨3, 1, false, r.map (ci .i64)⟩] := by
 refine rcA_of Try.func83 (by rfl) (by decide) 11 (by rfl) [] (by rfl) ?_
 unfold slices_Sort_f at H
 simp only [hent, List.length_cons, List.length_nil, reduceAdd]
 refine a_seq ?_
 refine a_reg _ rfl (s := ?zs1) ?_ ?_
 rotate_left
 ·simp only [EVT, stepR, evOp, St.ev, St.app, St.put, wrs, evBuiltin, TIS, CS, reduceAdd, reduceMul, reduceEqDiff, ↓reduceIte, reduceCtorEq, reduceLT, reduceLeDiff, reduceSub, Nat.reduceBEq]
  (repeat' apply And.intro) <;> first|rfl|assumption|omega|(simp;done)|(simp;omega)|(simp_all;done)
 refine sA_n ?_
 obtain ⟨r1, zh1, H⟩ := bind_some H
 have zk1 := math_bits_Len_pc zh1
 obtain ⟨r2, zh2, H⟩ := bind_some H
 have zk2 := slices_pdqsortOrdered_rc zh2
 obtain ⟨zh3, H⟩ := chk_some H
 refine a_reg _ rfl (s := ?zs2) ?_ ?_
 rotate_left
 ·try simp only [EVT, stepR, evOp, St.ev, St.app, St.put, wrs, evToStr, elems, frz, datOf, datOf1, TIS, CS, reduceAdd, reduceMul, reduceEqDiff, ↓reduceIte, reduceCtorEq, reduceLT, reduceLeDiff, reduceSub, Nat.reduceBEq]
  repeat' with_reducible apply And.intro
  all_goals try ((with_reducible show CallR _ _ _ _ _ _ _); refine cR_s zk1 (.cons (.int' rfl) .nil) (.int _ _) ?_; simp only [EVT, stepR, evOp, St.ev, St.app, St.put, wrs, evToStr, elems, frz, datOf, datOf1, TIS, CS, reduceAdd, reduceMul, reduceEqDiff, ↓reduceIte, reduceCtorEq, reduceLT, reduceLeDiff, reduceSub, Nat.reduceBEq])
  repeat' with_reducible apply And.intro
  all_goals try ((with_reducible show CallR _ _ _ _ _ _ _); refine callR_rcw (r' := .tup []) [(0, none), (0, some ⟨3, 1, false, r2.map (ci .i64)⟩)] [(some 0, ⟨3, 1, false, x1.map (ci .i64)⟩)] [] [(0, 0, ⟨3, 1, false, r2.map (ci .i64)⟩)] rfl zk2 (by simp) (by show ([0] : List Nat).Nodup; decide) (allB_some (by rfl) rfl (.sm _ _ (ci_pu .i64)) trivial) (.cons (.refl' (by first|rfl|omega|(simp;done)|(simp;omega)|(simp_all;done)) rfl) (.cons (.int' rfl) (.cons (.int' rfl) (.cons (.int' rfl) .nil)))) (by show ([0] : List Nat).Nodup; decide) (by show ([0] : List Nat).Nodup; decide) ⟨.inl ⟨by decide, rfl⟩, ⟨_, rfl, ⟨rfl, rfl, rfl, rfl⟩, .same _ _ (ci_pu .i64) rfl⟩, trivial⟩ (.tup' .nil) ?_; simp only [EVT, stepR, evOp, St.ev, St.app, St.put, wrs, evToStr, elems, frz, datOf, datOf1, TIS, CS, reduceAdd, reduceMul, reduceEqDiff, ↓reduceIte, reduceCtorEq, reduceLT, reduceLeDiff, reduceSub, Nat.reduceBEq])
  all_goals ((repeat' apply And.intro) <;> first|rfl|assumption|omega|(simp;done)|(simp;omega)|(simp_all;done))
 obtain rfl := Option.some.inj H
 refine eR_n ?_
 refine wk_ln 1 [(some 0, ⟨3, 1, false, r2.map (ci .i64)⟩)] [] [] (by intro i h; rcases i with _ | i <;> first | rfl | omega) (by show ([] : List Nat).Nodup; decide) (by show ([0] : List Nat).Nodup; decide) ?_ ?_ (fun t0 => ⟨by first | rfl | (simp only [EVT, resR, single, evLoad, cut, TIS, CS, reduceAdd, reduceEqDiff, ↓reduceIte, reduceCtorEq, reduceLT, reduceLeDiff, reduceSub, Nat.reduceBEq]; (repeat' apply And.intro) <;> first | rfl | (simp; done)), fun j B h => by rcases j with _ | _ <;> first | exact h | (exact absurd h (by simp [hh]))⟩)
 ·exact (allB_some (by rfl) rfl (.sm _ _ (ci_pu .i64)) trivial)
 ·exact trivial
def slices_Compact_J1 (s1 : List Int) : Option (List Int) :=
 some (s1)
def slices_Compact_J2 (k_slices_Compact_L1 : Int → Option (List Int)) (k1 : Int) : Option (List Int) :=
 k_slices_Compact_L1 (IntKind.wrap .i64 (k1 + 1))
def slices_Compact_L1 (s1 : List Int) : Nat → Int → Option (List Int)
 | 0, _ => none
 | m_ + 1, k1 => cond (decide (k1 < (((s1.length : Nat)) : Int))) ((idx s1 k1).bind fun x1 => (idx s1 (IntKind.wrap .i64 (k1 - 1))).bind fun x2 => chk ((x1 == x2) = false) (slices_Compact_J2 (slices_Compact_L1 s1 m_) k1)) (slices_Compact_J1 s1)
def slices_Compact_f (s1 : List Int) : Option (List Int) :=
 cond (decide ((((s1.length : Nat)) : Int) < 2)) (some (s1)) (slices_Compact_L1 s1 BIG 1)
set_option maxHeartbeats 4000000 in
set_option maxRecDepth 20000 in
theorem slices_Compact_rc {s1 : List Int} {r : (List Int)} (H : slices_Compact_f s1 = some r) : RC Try.prog 75 [.ref 0 0 s1.length 1] [⟨3, 1, false, s1.map (ci .i64)⟩] 0 (.list 1 (r.map (ci .i64))) [] := by
 refine rcA_of Try.func75 (by rfl) (by decide) 61 (by rfl) [.tmp 2] (by rfl) ?_
 unfold slices_Compact_f at H
 simp only [hent, List.length_cons, List.length_nil, reduceAdd]
 refine a_seq ?_
 refine a_reg _ rfl (s := ?zs1) ?_ ?_
 rotate_left
 ·simp only [EVT, stepR, evOp, St.ev, St.app, St.put, wrs, datOf, datOf1, TIS, CS, reduceAdd, reduceMul, reduceEqDiff, ↓reduceIte, reduceCtorEq, reduceLT, reduceLeDiff]
  (repeat' apply And.intro) <;> first|rfl|assumption|omega|(simp;done)|(simp;omega)|(simp_all;done)
 refine sA_n ?_
 refine a_seq ?_
 refine a_seq ?_
 refine a_reg _ rfl (s := ?zs2) ?_ ?_
 rotate_left
 ·simp only [EVT, stepR, evOp, St.ev, St.app, St.put, wrs, evBuiltin, datOf, datOf1, evBin, binInt, TIS, CS, reduceAdd, reduceMul, reduceEqDiff, ↓reduceIte, reduceCtorEq, reduceLT, reduceLeDiff, reduceSub, Nat.reduceBEq]
  (repeat' apply And.intro) <;> first|rfl|assumption|omega|(simp;done)|(simp;omega)|(simp_all;done)
 refine sA_n ?_
 refine a_condb ((decide ((((s1.length : Nat)) : Int) < 2))) (by rfl) (fun zc1 => ?_) (fun zc1 => ?_)
 ·have H := cond_t zc1 H
  refine a_seq ?_
  refine a_reg _ rfl (s := ?zs3) ?_ ?_
  rotate_left
  ·simp only [EVT, stepR, evOp, St.ev, St.app, St.put, wrs, TIS, CS, reduceAdd, reduceMul, reduceEqDiff, ↓reduceIte, reduceCtorEq, reduceLT, reduceLeDiff, ↓zc1]
   (repeat' apply And.intro) <;> first|rfl|assumption|omega|(simp;done)|(simp;omega)|(simp_all;done)
  refine sA_n ?_
  refine a_ret ?_
  refine sA_r ?_
  obtain rfl := Option.some.inj H
  refine eR_r ?_
  refine wk_ln 0 [] [0] [(2, .list 1 (s1.map (ci .i64)))] (fun i h => absurd h (Nat.not_lt_zero i)) (by show ([2] : List Nat).Nodup; decide) (by show ([] : List Nat).Nodup; decide) ?_ ?_ (fun t0 => ⟨by first | rfl | (simp only [EVT, resR, single, evLoad, cut, TIS, CS, reduceAdd, reduceEqDiff, ↓reduceIte, reduceCtorEq, reduceLT, reduceLeDiff, reduceSub, Nat.reduceBEq]; (repeat' apply And.intro) <;> first | rfl | (simp; done)), fun j B h => by rcases j with _ <;> first | exact h | (exact absurd h (by simp [hh]))⟩)
  ·exact trivial
  ·(simp only [AllT, ATT, reduceEqDiff, ↓reduceIte, and_true]); exact (.frz' (by rfl) (by simp) rfl (by first|rfl|omega|(simp;done)|(simp;omega)|(simp_all;done)) (.sm _ _ (ci_pu .i64)))
 ·have H := cond_f zc1 H
  refine a_skip ?_
  refine sA_n ?_
  refine a_cut (fun s => ∃ (t0 : Nat → Dat), slices_Compact_J1 s1 = some r ∧ s = ⟨tl t0 [(0, .ref 0 0 s1.length 1)], hl [⟨3, 1, false, s1.map (ci .i64)⟩], 1, 61⟩) ?_ ?_
  ·refine a_seq ?_
   refine a_reg _ rfl (s := ?zs5) ?_ ?_
   rotate_left
   ·simp only [EVT, stepR, evOp, St.ev, St.app, St.put, wrs, datOf, datOf1, TIS, CS, reduceAdd, reduceMul, reduceEqDiff, ↓reduceIte, reduceCtorEq, reduceLT, reduceLeDiff, ↓zc1]
    (repeat' apply And.intro) <;> first|rfl|assumption|omega|(simp;done)|(simp;omega)|(simp_all;done)
   refine sA_n ?_
   refine a_blk ?_
   refine a_loop (fun m s => ∃ (k1 : Int) (t0 : Nat → Dat), slices_Compact_L1 s1 m k1 = some r ∧ s = ⟨tl t0 [(0, .ref 0 0 s1.length 1), (3, .int .i64 k1)], hl [⟨3, 1, false, s1.map (ci .i64)⟩], 1, 61⟩) BIG ?_ ?_
   ·refine wk_l [(some 0, ⟨3, 1, false, s1.map (ci .i64)⟩)] [] [(0, .ref 0 0 s1.length 1), (3, .int .i64 1)] (by show ([0, 3] : List Nat).Nodup; decide) (by show ([0] : List Nat).Nodup; decide) ?_ ?_ (fun t0 => ⟨1, t0, H, rfl⟩)
    ·exact (allB_some (by rfl) rfl (.sm _ _ (ci_pu .i64)) trivial)
    ·(simp only [AllT, ATT, reduceEqDiff, ↓reduceIte, and_true]); exact ⟨(.refl' (by first|rfl|omega|(simp;done)|(simp;omega)|(simp_all;done)) rfl), (.int' rfl)⟩
   ·rintro m_slices_Compact_L1 s ⟨k1, t0, H, rfl⟩
    obtain _ | m_slices_Compact_L1 := m_slices_Compact_L1
    ·cases (show (none : Option _) = some _ from H)
    ·rw [slices_Compact_L1] at H
     refine a_seq ?_
     refine a_seq ?_
     refine a_reg _ rfl (s := ?zs6) ?_ ?_
     rotate_left
     ·simp only [EVT, stepR, evOp, St.ev, St.app, St.put, wrs, evBuiltin, evBin, binInt, TIS, CS, reduceAdd, reduceMul, reduceEqDiff, ↓reduceIte, reduceCtorEq, reduceLT, reduceLeDiff, reduceSub, Nat.reduceBEq]
      (repeat' apply And.intro) <;> first|rfl|assumption|omega|(simp;done)|(simp;omega)|(simp_all;done)
     refine sA_n ?_
     refine a_condb ((decide (k1 < (((s1.length : Nat)) : Int)))) (by rfl) (fun zc2 => ?_) (fun zc2 => ?_)
     ·have H := cond_t zc2 H
      refine a_skip ?_
      refine sA_n ?_
      refine a_cut (fun s => ∃ (t0 : Nat → Dat), slices_Compact_J2 (slices_Compact_L1 s1 m_slices_Compact_L1) k1 = some r ∧ s = ⟨tl t0 [(0, .ref 0 0 s1.length 1), (3, .int .i64 k1)], hl [⟨3, 1, false, s1.map (ci .i64)⟩], 1, 61⟩) ?_ ?_
      ·refine a_blk ?_
       refine a_seq ?_
       obtain ⟨x1, zh1, H⟩ := bind_some H
       have zg1 := idx_map zh1 (ci .i64)
       try simp only [Int.reduceToNat, Int.toNat_natCast] at zg1
       obtain ⟨zh1a, zh1b, _⟩ := idx_some zh1
       obtain ⟨x2, zh2, H⟩ := bind_some H
       have zg2 := idx_map zh2 (ci .i64)
       try simp only [Int.reduceToNat, Int.toNat_natCast] at zg2
       obtain ⟨zh2a, zh2b, _⟩ := idx_some zh2
       refine a_drW (by kernel_rfl) _ rfl (s := ?zs8) (by kernel_rfl) (by kernel_rfl) ?zs8f ?_ ?_ ?_
       rotate_left 2
       ·simp only [EVT, stepW, evOp, St.ev, St.app, St.put, wrs, evIndexAddr, evLoad, cut, datOf, datOf1, evBin, binInt, TIS, CS, reduceAdd, reduceMul, reduceEqDiff, ↓reduceIte, reduceCtorEq, reduceLT, reduceLeDiff, Int.reduceToNat, reduceSub, Nat.reduceBEq, ↓zc2, zg1, zg2]
        (repeat' apply And.intro) <;> first|rfl|assumption|omega|(simp;done)|(simp;omega)|(simp_all;done)
       ·kernel_rfl
       refine sA_n ?_
       obtain ⟨zh3, H⟩ := chk_some H
       refine a_condb ((x1 == x2)) (by rfl) (fun zc3x => absurd (zc3x.symm.trans zh3) (by decide)) (fun zc3 => ?_)
       ·try skip
        refine a_skip ?_
        refine bA_n ?_
        refine cA_n ?_
        refine wk_l [(some 0, ⟨3, 1, false, s1.map (ci .i64)⟩)] [] [(0, .ref 0 0 s1.length 1), (3, .int .i64 k1)] (by show ([0, 3] : List Nat).Nodup; decide) (by show ([0] : List Nat).Nodup; decide) ?_ ?_ (fun t0 => ⟨t0, H, rfl⟩)
        ·exact (allB_some (by rfl) rfl (.sm _ _ (ci_pu .i64)) trivial)
        ·(simp only [AllT, ATT, reduceEqDiff, ↓reduceIte, and_true]); exact ⟨(.refl' (by first|rfl|omega|(simp;done)|(simp;omega)|(simp_all;done)) rfl), (.int' rfl)⟩
      ·rintro s ⟨t0, H, rfl⟩
       unfold slices_Compact_J2 at H
       refine a_reg _ rfl (s := ?zs7) ?_ ?_
       rotate_left
       ·simp only [EVT, stepR, evOp, St.ev, St.app, St.put, wrs, datOf, datOf1, evBin, binInt, TIS, CS, reduceAdd, reduceMul, reduceEqDiff, ↓reduceIte, reduceCtorEq, reduceLT, reduceLeDiff]
        (repeat' apply And.intro) <;> first|rfl|assumption|omega|(simp;done)|(simp;omega)|(simp_all;done)
       refine lA_n ?_
       refine wk_l [(some 0, ⟨3, 1, false, s1.map (ci .i64)⟩)] [] [(0, .ref 0 0 s1.length 1), (3, .int .i64 (IntKind.wrap .i64 (k1 + 1)))] (by show ([0, 3] : List Nat).Nodup; decide) (by show ([0] : List Nat).Nodup; decide) ?_ ?_ (fun t0 => ⟨_, Nat.lt_succ_self _, (IntKind.wrap .i64 (k1 + 1)), t0, H, rfl⟩)
       ·exact (allB_some (by rfl) rfl (.sm _ _ (ci_pu .i64)) trivial)
       ·(simp only [AllT, ATT, reduceEqDiff, ↓reduceIte, and_true]); exact ⟨(.refl' (by first|rfl|omega|(simp;done)|(simp;omega)|(simp_all;done)) rfl), (.int' rfl)⟩
     ·have H := cond_f zc2 H
      refine a_exit ?_
      refine sA_e ?_
      refine lA_e ?_
      refine bA_hit ?_
      refine cA_n ?_
      refine wk_l [(some 0, ⟨3, 1, false, s1.map (ci .i64)⟩)] [] [(0, .ref 0 0 s1.length 1)] (by show ([0] : List Nat).Nodup; decide) (by show ([0] : List Nat).Nodup; decide) ?_ ?_ (fun t0 => ⟨t0, H, rfl⟩)
      ·exact (allB_some (by rfl) rfl (.sm _ _ (ci_pu .i64)) trivial)
      ·(simp only [AllT, ATT, reduceEqDiff, ↓reduceIte, and_true]); exact (.refl' (by first|rfl|omega|(simp;done)|(simp;omega)|(simp_all;done)) rfl)
  ·rintro s ⟨t0, H, rfl⟩
   unfold slices_Compact_J1 at H
   refine a_seq ?_
   refine a_reg _ rfl (s := ?zs4) ?_ ?_
   rotate_left
   ·simp only [EVT, stepR, evOp, St.ev, St.app, St.put, wrs, TIS, CS, reduceAdd, reduceMul, reduceEqDiff, ↓reduceIte, reduceCtorEq, reduceLT, reduceLeDiff]
    (repeat' apply And.intro) <;> first|rfl|assumption|omega|(simp;done)|(simp;omega)|(simp_all;done)
   refine sA_n ?_
   refine a_ret ?_
   obtain rfl := Option.some.inj H
   refine eR_r ?_
   refine wk_ln 0 [] [0] [(2, .list 1 (s1.map (ci .i64)))] (fun i h => absurd h (Nat.not_lt_zero i)) (by show ([2] : List Nat).Nodup; decide) (by show ([] : List Nat).Nodup; decide) ?_ ?_ (fun t0 => ⟨by first | rfl | (simp only [EVT, resR, single, evLoad, cut, TIS, CS, reduceAdd, reduceEqDiff, ↓reduceIte, reduceCtorEq, reduceLT, reduceLeDiff, reduceSub, Nat.reduceBEq]; (repeat' apply And.intro) <;> first | rfl | (simp; done)), fun j B h => by rcases j with _ <;> first | exact h | (exact absurd h (by simp [hh]))⟩)
   ·exact trivial
   ·(simp only [AllT, ATT, reduceEqDiff, ↓reduceIte, and_true]); exact (.frz' (by rfl) (by simp) rfl (by first|rfl|omega|(simp;done)|(simp;omega)|(simp_all;done)) (.sm _ _ (ci_pu .i64)))
end
end Go.Proofs.Ytogickapcbibbaa
