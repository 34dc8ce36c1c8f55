/- Functions of the program as Lean functions, and that they are so; printed by a program of mine. -/
import Derived.Test.YtogickapcbibbaaF5
set_option linter.unusedSimpArgs false
set_option linter.unusedVariables false
namespace Go.Proofs.Ytogickapcbibbaa
open Go.Ab
open Nat (reduceAdd reduceMul reduceEqDiff reduceLT reduceLeDiff reduceSub)
noncomputable section

def slices_insertionSortCmpFunc_J1 (k_slices_insertionSortCmpFunc_L1 : (List Edge) → Int → Option (List Edge)) (i1 : Int) (data3 : List Edge) : Option (List Edge) :=
 k_slices_insertionSortCmpFunc_L1 data3 (IntKind.wrap .i64 (i1 + 1))
def slices_insertionSortCmpFunc_J2 (k_slices_insertionSortCmpFunc_L2 : (List Edge) → Int → Option (List Edge)) (k_slices_insertionSortCmpFunc_L1 : (List Edge) → Int → Option (List Edge)) (data4 : List Edge) (j1 : Int) (i1 : Int) (v1 : Bool) : Option (List Edge) :=
 cond v1 ((idx data4 (IntKind.wrap .i64 (j1 - 1))).bind fun x1 => (idx data4 j1).bind fun x2 => (idx (data4.set j1.toNat x1) (IntKind.wrap .i64 (j1 - 1))).bind fun x3 => k_slices_insertionSortCmpFunc_L2 ((data4.set j1.toNat x1).set ((IntKind.wrap .i64 (j1 - 1)).toNat) x2) (IntKind.wrap .i64 (j1 - 1))) (slices_insertionSortCmpFunc_J1 k_slices_insertionSortCmpFunc_L1 i1 data4)
def slices_insertionSortCmpFunc_L2 (k_slices_insertionSortCmpFunc_L1 : (List Edge) → Int → Option (List Edge)) (a1 : Int) (cmp1 : Edge → Edge → Option Int) (i1 : Int) : Nat → (List Edge) → Int → Option (List Edge)
 | 0, _, _ => none
 | m_ + 1, data4, j1 => cond (decide (a1 < j1)) ((idx data4 j1).bind fun x4 => (idx data4 (IntKind.wrap .i64 (j1 - 1))).bind fun x5 => (cmp1 x4 x5).bind fun r1 => slices_insertionSortCmpFunc_J2 (slices_insertionSortCmpFunc_L2 k_slices_insertionSortCmpFunc_L1 a1 cmp1 i1 m_) k_slices_insertionSortCmpFunc_L1 data4 j1 i1 (decide (r1 < 0))) (slices_insertionSortCmpFunc_J2 (slices_insertionSortCmpFunc_L2 k_slices_insertionSortCmpFunc_L1 a1 cmp1 i1 m_) k_slices_insertionSortCmpFunc_L1 data4 j1 i1 false)
def slices_insertionSortCmpFunc_L1 (b1 : Int) (a1 : Int) (cmp1 : Edge → Edge → Option Int) : Nat → (List Edge) → Int → Option (List Edge)
 | 0, _, _ => none
 | m_ + 1, data2, i1 => cond (decide (i1 < b1)) (slices_insertionSortCmpFunc_L2 (slices_insertionSortCmpFunc_L1 b1 a1 cmp1 m_) a1 cmp1 i1 BIG data2 i1) (some (data2))
def slices_insertionSortCmpFunc_f (data1 : List Edge) (a1 : Int) (b1 : Int) (cmp1 : Edge → Edge → Option Int) : Option (List Edge) :=
 slices_insertionSortCmpFunc_L1 b1 a1 cmp1 BIG data1 (IntKind.wrap .i64 (a1 + 1))
set_option maxHeartbeats 4000000 in
set_option maxRecDepth 20000 in
theorem slices_insertionSortCmpFunc_rc {data1 : List Edge} {a1 : Int} {b1 : Int} {cmp1 : Edge → Edge → Option Int} {cmp1_F : FuncId} {cmp1_caps : List Dat} (cmp1_hp : ∀ (x0_ : Edge) (x1_ : Edge) (r : Int), cmp1 x0_ x1_ = some r → PC Try.prog cmp1_F (.agg (Edge.c x0_) :: .agg (Edge.c x1_) :: cmp1_caps) (.int .i64 r)) (cmp1_pu : Pus cmp1_caps) {r : (List Edge)} (H : slices_insertionSortCmpFunc_f data1 a1 b1 cmp1 = some r) : RC Try.prog 91 [.ref 0 0 data1.length 3, .int .i64 a1, .int .i64 b1, .fn (.func cmp1_F) [] cmp1_caps] [⟨114, 3, false, data1.map Edge.c⟩] 1 (.tup []) [some ⟨114, 3, false, r.map Edge.c⟩] := by
 refine rcA_of Try.func91 (by rfl) (by decide) 53 (by rfl) [] (by rfl) ?_
 unfold slices_insertionSortCmpFunc_f at H
 simp only [hent, List.length_cons, List.length_nil, reduceAdd]
 refine a_seq ?_
 refine a_reg _ rfl (s := ?zs1) ?_ ?_
 rotate_left
 ·simp only [EVT, stepR, evOp, St.ev, St.app, St.put, wrs, datOf, datOf1, evBin, binInt, TIS, CS, reduceAdd, reduceMul, reduceEqDiff, ↓reduceIte, reduceCtorEq, reduceLT, reduceLeDiff]
  (repeat' apply And.intro) <;> first|rfl|assumption|omega|(simp;done)|(simp;omega)|(simp_all;done)
 refine sA_n ?_
 refine a_blk ?_
 refine a_loop (fun m s => ∃ (data2 : List Edge) (i1 : Int) (t0 : Nat → Dat), slices_insertionSortCmpFunc_L1 b1 a1 cmp1 m data2 i1 = some r ∧ s = ⟨tl t0 [(0, .ref 0 0 data2.length 3), (1, .int .i64 a1), (2, .int .i64 b1), (3, .fn (.func cmp1_F) [] cmp1_caps), (8, .int .i64 i1)], hl [⟨114, 3, false, data2.map Edge.c⟩], 1, 53⟩) BIG ?_ ?_
 ·refine wk_ln 1 [(some 0, ⟨114, 3, false, data1.map Edge.c⟩)] [] [(0, .ref 0 0 data1.length 3), (1, .int .i64 a1), (2, .int .i64 b1), (3, .fn (.func cmp1_F) [] cmp1_caps), (8, .int .i64 (IntKind.wrap .i64 (a1 + 1)))] (by intro i h; rcases i with _ | i <;> first | rfl | omega) (by show ([0, 1, 2, 3, 8] : List Nat).Nodup; decide) (by show ([0] : List Nat).Nodup; decide) ?_ ?_ (fun t0 => ⟨data1, (IntKind.wrap .i64 (a1 + 1)), t0, H, rfl⟩)
  ·exact (allB_some (by rfl) rfl (.sm _ _ Edge.pu) trivial)
  ·(simp only [AllT, ATT, reduceEqDiff, ↓reduceIte, and_true]); exact ⟨(.refl' (by first|rfl|omega|(simp;done)|(simp;omega)|(simp_all;done)) rfl), (.int' rfl), (.int' rfl), (.fn' .nil (RNs.pu cmp1_pu)), (.int' rfl)⟩
 ·rintro m_slices_insertionSortCmpFunc_L1 s ⟨data2, i1, t0, H, rfl⟩
  obtain _ | m_slices_insertionSortCmpFunc_L1 := m_slices_insertionSortCmpFunc_L1
  ·cases (show (none : Option _) = some _ from H)
  ·rw [slices_insertionSortCmpFunc_L1] at H
   refine a_seq ?_
   refine a_seq ?_
   refine a_reg _ rfl (s := ?zs2) ?_ ?_
   rotate_left
   ·simp only [EVT, stepR, evOp, St.ev, St.app, St.put, wrs, evBin, binInt, TIS, CS, reduceAdd, reduceMul, reduceEqDiff, ↓reduceIte, reduceCtorEq, reduceLT, reduceLeDiff]
    (repeat' apply And.intro) <;> first|rfl|assumption|omega|(simp;done)|(simp;omega)|(simp_all;done)
   refine sA_n ?_
   refine a_condb ((decide (i1 < b1))) (by rfl) (fun zc1 => ?_) (fun zc1 => ?_)
   ·have H := cond_t zc1 H
    refine a_skip ?_
    refine sA_n ?_
    refine a_cut (fun s => ∃ (data3 : List Edge) (t0 : Nat → Dat), slices_insertionSortCmpFunc_J1 (slices_insertionSortCmpFunc_L1 b1 a1 cmp1 m_slices_insertionSortCmpFunc_L1) i1 data3 = some r ∧ s = ⟨tl t0 [(0, .ref 0 0 data3.length 3), (1, .int .i64 a1), (2, .int .i64 b1), (3, .fn (.func cmp1_F) [] cmp1_caps), (8, .int .i64 i1)], hl [⟨114, 3, false, data3.map Edge.c⟩], 1, 53⟩) ?_ ?_
    ·refine a_blk ?_
     refine a_seq ?_
     refine a_reg _ rfl (s := ?zs4) ?_ ?_
     rotate_left
     ·simp only [EVT, stepR, evOp, St.ev, St.app, St.put, wrs, TIS, CS, reduceAdd, reduceMul, reduceEqDiff, ↓reduceIte, reduceCtorEq, reduceLT, reduceLeDiff, ↓zc1]
      (repeat' apply And.intro) <;> first|rfl|assumption|omega|(simp;done)|(simp;omega)|(simp_all;done)
     refine sA_n ?_
     refine a_blk ?_
     refine a_loop (fun m s => ∃ (data4 : List Edge) (j1 : Int) (t0 : Nat → Dat), slices_insertionSortCmpFunc_L2 (slices_insertionSortCmpFunc_L1 b1 a1 cmp1 m_slices_insertionSortCmpFunc_L1) a1 cmp1 i1 m data4 j1 = some r ∧ s = ⟨tl t0 [(0, .ref 0 0 data4.length 3), (1, .int .i64 a1), (2, .int .i64 b1), (3, .fn (.func cmp1_F) [] cmp1_caps), (8, .int .i64 i1), (9, .int .i64 j1)], hl [⟨114, 3, false, data4.map Edge.c⟩], 1, 53⟩) BIG ?_ ?_
     ·refine wk_ln 1 [(some 0, ⟨114, 3, false, data2.map Edge.c⟩)] [] [(0, .ref 0 0 data2.length 3), (1, .int .i64 a1), (2, .int .i64 b1), (3, .fn (.func cmp1_F) [] cmp1_caps), (8, .int .i64 i1), (9, .int .i64 i1)] (by intro i h; rcases i with _ | i <;> first | rfl | omega) (by show ([0, 1, 2, 3, 8, 9] : List Nat).Nodup; decide) (by show ([0] : List Nat).Nodup; decide) ?_ ?_ (fun t0 => ⟨data2, i1, t0, H, rfl⟩)
      ·exact (allB_some (by rfl) rfl (.sm _ _ Edge.pu) trivial)
      ·(simp only [AllT, ATT, reduceEqDiff, ↓reduceIte, and_true]); exact ⟨(.refl' (by first|rfl|omega|(simp;done)|(simp;omega)|(simp_all;done)) rfl), (.int' rfl), (.int' rfl), (.fn' .nil (RNs.pu cmp1_pu)), (.int' rfl), (.int' rfl)⟩
     ·rintro m_slices_insertionSortCmpFunc_L2 s ⟨data4, j1, t0, H, rfl⟩
      obtain _ | m_slices_insertionSortCmpFunc_L2 := m_slices_insertionSortCmpFunc_L2
      ·cases (show (none : Option _) = some _ from H)
      ·rw [slices_insertionSortCmpFunc_L2] at H
       refine a_seq ?_
       refine a_cut (fun s => ∃ (v1 : Bool) (t0 : Nat → Dat), slices_insertionSortCmpFunc_J2 (slices_insertionSortCmpFunc_L2 (slices_insertionSortCmpFunc_L1 b1 a1 cmp1 m_slices_insertionSortCmpFunc_L1) a1 cmp1 i1 m_slices_insertionSortCmpFunc_L2) (slices_insertionSortCmpFunc_L1 b1 a1 cmp1 m_slices_insertionSortCmpFunc_L1) data4 j1 i1 v1 = some r ∧ s = ⟨tl t0 [(0, .ref 0 0 data4.length 3), (1, .int .i64 a1), (2, .int .i64 b1), (3, .fn (.func cmp1_F) [] cmp1_caps), (8, .int .i64 i1), (9, .int .i64 j1), (34, .bool v1)], hl [⟨114, 3, false, data4.map Edge.c⟩], 1, 53⟩) ?_ ?_
       ·refine bool_split (b := (decide (a1 < j1))) (fun zc3 => ?_) (fun zc3 => ?_)
        ·have H := cond_t zc3 H
         obtain ⟨x4, zh4, H⟩ := bind_some H
         have zg4 := idx_map zh4 Edge.c
         try simp only [Int.reduceToNat, Int.toNat_natCast] at zg4
         obtain ⟨zh4a, zh4b, _⟩ := idx_some zh4
         obtain ⟨x5, zh5, H⟩ := bind_some H
         have zg5 := idx_map zh5 Edge.c
         try simp only [Int.reduceToNat, Int.toNat_natCast] at zg5
         obtain ⟨zh5a, zh5b, _⟩ := idx_some zh5
         obtain ⟨r1, zh6, H⟩ := bind_some H
         have zk1 := cmp1_hp _ _ _ zh6
         refine a_drW (by kernel_rfl) _ rfl (s := ?zs7) (by kernel_rfl) (by kernel_rfl) ?zs7f ?_ ?_ ?_
         rotate_left 2
         ·try simp only [EVT, stepW, evOp, St.ev, St.app, St.put, wrs, evBin, binInt, evIndexAddr, evLoad, cut, datOf, datOf1, frz, TIS, CS, reduceAdd, reduceMul, reduceEqDiff, ↓reduceIte, reduceCtorEq, reduceLT, reduceLeDiff, Array.reduceGetElem?, Int.reduceToNat, reduceSub, Nat.reduceBEq, ↓zc3, zg4, zg5]
          repeat' with_reducible apply And.intro
          all_goals try ((with_reducible show CallW _ _ _ _ _ _ _); refine cW_s [] zk1 (fun h2 e => (.cons (.agg' (.cons (.int' rfl) (.cons (.int' rfl) (.cons (.bool' rfl) .nil)))) (.cons (.agg' (.cons (.int' rfl) (.cons (.int' rfl) (.cons (.bool' rfl) .nil)))) (Pus.purRs cmp1_pu)))) (.int _ _) ?_; simp only [EVT, stepW, evOp, St.ev, St.app, St.put, wrs, evBin, binInt, evIndexAddr, evLoad, cut, datOf, datOf1, frz, TIS, CS, reduceAdd, reduceMul, reduceEqDiff, ↓reduceIte, reduceCtorEq, reduceLT, reduceLeDiff, Array.reduceGetElem?, Int.reduceToNat, reduceSub, Nat.reduceBEq, ↓zc3, zg4, zg5])
          all_goals ((repeat' apply And.intro) <;> first|rfl|assumption|omega|(simp;done)|(simp;omega)|(simp_all;done))
         ·kernel_rfl
         refine cA_n ?_
         refine wk_ln 1 [(some 0, ⟨114, 3, false, data4.map Edge.c⟩)] [] [(0, .ref 0 0 data4.length 3), (1, .int .i64 a1), (2, .int .i64 b1), (3, .fn (.func cmp1_F) [] cmp1_caps), (8, .int .i64 i1), (9, .int .i64 j1), (34, .bool (decide (r1 < 0)))] (by intro i h; rcases i with _ | i <;> first | rfl | omega) (by show ([0, 1, 2, 3, 8, 9, 34] : List Nat).Nodup; decide) (by show ([0] : List Nat).Nodup; decide) ?_ ?_ (fun t0 => ⟨(decide (r1 < 0)), t0, H, rfl⟩)
         ·exact (allB_some (by rfl) rfl (.sm _ _ Edge.pu) trivial)
         ·(simp only [AllT, ATT, reduceEqDiff, ↓reduceIte, and_true]); exact ⟨(.refl' (by first|rfl|omega|(simp;done)|(simp;omega)|(simp_all;done)) rfl), (.int' rfl), (.int' rfl), (.fn' .nil (RNs.pu cmp1_pu)), (.int' rfl), (.int' rfl), (.bool' rfl)⟩
        ·have H := cond_f zc3 H
         refine a_drW (by kernel_rfl) _ rfl (s := ?zs8) (by kernel_rfl) (by kernel_rfl) ?zs8f ?_ ?_ ?_
         rotate_left 2
         ·simp only [EVT, stepW, evOp, St.ev, St.app, St.put, wrs, evBin, binInt, evIndexAddr, evLoad, cut, datOf, datOf1, frz, TIS, CS, reduceAdd, reduceMul, reduceEqDiff, ↓reduceIte, reduceCtorEq, reduceLT, reduceLeDiff, Array.reduceGetElem?, Int.reduceToNat, reduceSub, Nat.reduceBEq, ↓zc3]
          try simp only [EVT, stepW, evOp, St.ev, St.app, St.put, wrs, evBin, binInt, evIndexAddr, evLoad, cut, datOf, datOf1, frz, TIS, CS, reduceAdd, reduceMul, reduceEqDiff, ↓reduceIte, reduceCtorEq, reduceLT, reduceLeDiff, Array.reduceGetElem?, Int.reduceToNat, reduceSub, Nat.reduceBEq, ↓zc3]
          (repeat' apply And.intro) <;> first|rfl|assumption|omega|(simp;done)|(simp;omega)|(simp_all;done)
         ·kernel_rfl
         refine cA_n ?_
         refine wk_ln 1 [(some 0, ⟨114, 3, false, data4.map Edge.c⟩)] [] [(0, .ref 0 0 data4.length 3), (1, .int .i64 a1), (2, .int .i64 b1), (3, .fn (.func cmp1_F) [] cmp1_caps), (8, .int .i64 i1), (9, .int .i64 j1), (34, .bool false)] (by intro i h; rcases i with _ | i <;> first | rfl | omega) (by show ([0, 1, 2, 3, 8, 9, 34] : List Nat).Nodup; decide) (by show ([0] : List Nat).Nodup; decide) ?_ ?_ (fun t0 => ⟨false, t0, H, rfl⟩)
         ·exact (allB_some (by rfl) rfl (.sm _ _ Edge.pu) trivial)
         ·(simp only [AllT, ATT, reduceEqDiff, ↓reduceIte, and_true]); exact ⟨(.refl' (by first|rfl|omega|(simp;done)|(simp;omega)|(simp_all;done)) rfl), (.int' rfl), (.int' rfl), (.fn' .nil (RNs.pu cmp1_pu)), (.int' rfl), (.int' rfl), (.bool' (by first | rfl | assumption | (simp_all; done)))⟩
       ·rintro s ⟨v1, t0, H, rfl⟩
        unfold slices_insertionSortCmpFunc_J2 at H
        refine a_condb (v1) (by rfl) (fun zc2 => ?_) (fun zc2 => ?_)
        ·have H := cond_t zc2 H
         refine a_skip ?_
         refine sA_n ?_
         refine a_seq ?_
         refine a_blk ?_
         obtain ⟨x1, zh1, H⟩ := bind_some H
         have zg1 := idx_map zh1 Edge.c
         try simp only [Int.reduceToNat, Int.toNat_natCast] at zg1
         obtain ⟨zh1a, zh1b, _⟩ := idx_some zh1
         obtain ⟨x2, zh2, H⟩ := bind_some H
         have zg2 := idx_map zh2 Edge.c
         try simp only [Int.reduceToNat, Int.toNat_natCast] at zg2
         obtain ⟨zh2a, zh2b, _⟩ := idx_some zh2
         obtain ⟨x3, zh3, H⟩ := bind_some H
         have zg3 := idx_map zh3 Edge.c
         try simp only [Int.reduceToNat, Int.toNat_natCast] at zg3
         obtain ⟨zh3a, zh3b, _⟩ := idx_some zh3
         refine a_drW (by kernel_rfl) _ rfl (s := ?zs5) (by kernel_rfl) (by kernel_rfl) ?zs5f ?_ ?_ ?_
         rotate_left 2
         ·simp only [EVT, stepW, evOp, St.ev, St.app, St.put, wrs, datOf, datOf1, evBin, binInt, evIndexAddr, evLoad, cut, evStore, setR, allOne, TIS, CS, reduceAdd, reduceMul, reduceEqDiff, ↓reduceIte, reduceCtorEq, reduceLT, reduceLeDiff, Int.reduceToNat, reduceSub, Nat.reduceBEq, ↓zc2, zg1, zg2, zg3]
          (repeat' apply And.intro) <;> first|rfl|assumption|omega|(simp;done)|(simp;omega)|(simp_all;done)
         ·kernel_rfl
         refine bA_n ?_
         refine sA_n ?_
         refine a_reg _ rfl (s := ?zs6) ?_ ?_
         rotate_left
         ·simp only [EVT, stepR, evOp, St.ev, St.app, St.put, wrs, datOf, datOf1, evBin, binInt, TIS, CS, reduceAdd, reduceMul, reduceEqDiff, ↓reduceIte, reduceCtorEq, reduceLT, reduceLeDiff, ↓zc2, zg1, zg2, zg3]
          (repeat' apply And.intro) <;> first|rfl|assumption|omega|(simp;done)|(simp;omega)|(simp_all;done)
         refine lA_n ?_
         refine wk_ln 1 [(some 0, ⟨114, 3, false, ((data4.set j1.toNat x1).set ((IntKind.wrap .i64 (j1 - 1)).toNat) x2).map Edge.c⟩)] [] [(0, .ref 0 0 ((data4.set j1.toNat x1).set ((IntKind.wrap .i64 (j1 - 1)).toNat) x2).length 3), (1, .int .i64 a1), (2, .int .i64 b1), (3, .fn (.func cmp1_F) [] cmp1_caps), (8, .int .i64 i1), (9, .int .i64 (IntKind.wrap .i64 (j1 - 1)))] (by intro i h; rcases i with _ | i <;> first | rfl | omega) (by show ([0, 1, 2, 3, 8, 9] : List Nat).Nodup; decide) (by show ([0] : List Nat).Nodup; decide) ?_ ?_ (fun t0 => ⟨_, Nat.lt_succ_self _, ((data4.set j1.toNat x1).set ((IntKind.wrap .i64 (j1 - 1)).toNat) x2), (IntKind.wrap .i64 (j1 - 1)), t0, H, rfl⟩)
         ·exact (allB_some (by rfl) rfl (.sm _ _ Edge.pu) trivial)
         ·(simp only [AllT, ATT, reduceEqDiff, ↓reduceIte, and_true]); exact ⟨(.refl' (by first|rfl|omega|(simp;done)|(simp;omega)|(simp_all;done)) rfl), (.int' rfl), (.int' rfl), (.fn' .nil (RNs.pu cmp1_pu)), (.int' rfl), (.int' rfl)⟩
        ·have H := cond_f zc2 H
         refine a_exit ?_
         refine sA_e ?_
         refine lA_e ?_
         refine bA_hit ?_
         refine bA_n ?_
         refine cA_n ?_
         refine wk_ln 1 [(some 0, ⟨114, 3, false, data4.map Edge.c⟩)] [] [(0, .ref 0 0 data4.length 3), (1, .int .i64 a1), (2, .int .i64 b1), (3, .fn (.func cmp1_F) [] cmp1_caps), (8, .int .i64 i1)] (by intro i h; rcases i with _ | i <;> first | rfl | omega) (by show ([0, 1, 2, 3, 8] : List Nat).Nodup; decide) (by show ([0] : List Nat).Nodup; decide) ?_ ?_ (fun t0 => ⟨data4, t0, H, rfl⟩)
         ·exact (allB_some (by rfl) rfl (.sm _ _ Edge.pu) trivial)
         ·(simp only [AllT, ATT, reduceEqDiff, ↓reduceIte, and_true]); exact ⟨(.refl' (by first|rfl|omega|(simp;done)|(simp;omega)|(simp_all;done)) rfl), (.int' rfl), (.int' rfl), (.fn' .nil (RNs.pu cmp1_pu)), (.int' rfl)⟩
    ·rintro s ⟨data3, t0, H, rfl⟩
     unfold slices_insertionSortCmpFunc_J1 at H
     refine a_reg _ rfl (s := ?zs3) ?_ ?_
     rotate_left
     ·simp only [EVT, stepR, evOp, St.ev, St.app, St.put, wrs, datOf, datOf1, evBin, binInt, TIS, CS, reduceAdd, reduceMul, reduceEqDiff, ↓reduceIte, reduceCtorEq, reduceLT, reduceLeDiff]
      (repeat' apply And.intro) <;> first|rfl|assumption|omega|(simp;done)|(simp;omega)|(simp_all;done)
     refine lA_n ?_
     refine wk_ln 1 [(some 0, ⟨114, 3, false, data3.map Edge.c⟩)] [] [(0, .ref 0 0 data3.length 3), (1, .int .i64 a1), (2, .int .i64 b1), (3, .fn (.func cmp1_F) [] cmp1_caps), (8, .int .i64 (IntKind.wrap .i64 (i1 + 1)))] (by intro i h; rcases i with _ | i <;> first | rfl | omega) (by show ([0, 1, 2, 3, 8] : List Nat).Nodup; decide) (by show ([0] : List Nat).Nodup; decide) ?_ ?_ (fun t0 => ⟨_, Nat.lt_succ_self _, data3, (IntKind.wrap .i64 (i1 + 1)), t0, H, rfl⟩)
     ·exact (allB_some (by rfl) rfl (.sm _ _ Edge.pu) trivial)
     ·(simp only [AllT, ATT, reduceEqDiff, ↓reduceIte, and_true]); exact ⟨(.refl' (by first|rfl|omega|(simp;done)|(simp;omega)|(simp_all;done)) rfl), (.int' rfl), (.int' rfl), (.fn' .nil (RNs.pu cmp1_pu)), (.int' rfl)⟩
   ·have H := cond_f zc1 H
    refine a_exit ?_
    refine sA_e ?_
    refine lA_e ?_
    refine bA_hit ?_
    obtain rfl := Option.some.inj H
    refine eR_n ?_
    refine wk_ln 1 [(some 0, ⟨114, 3, false, data2.map Edge.c⟩)] [] [] (by intro i h; rcases i with _ | i <;> first | rfl | omega) (by show ([] : List Nat).Nodup; decide) (by show ([0] : List Nat).Nodup; decide) ?_ ?_ (fun t0 => ⟨by first | rfl | (simp only [EVT, resR, single, evLoad, cut, TIS, CS, reduceAdd, reduceEqDiff, ↓reduceIte, reduceCtorEq, reduceLT, reduceLeDiff, reduceSub, Nat.reduceBEq]; (repeat' apply And.intro) <;> first | rfl | (simp; done)), fun j B h => by rcases j with _ | _ <;> first | exact h | (exact absurd h (by simp [hh]))⟩)
    ·exact (allB_some (by rfl) rfl (.sm _ _ Edge.pu) trivial)
    ·exact trivial
def slices_pdqsortCmpFunc_L1 (b1 : Int) (a1 : Int) (data1 : List Edge) (cmp1 : Edge → Edge → Option Int) : Nat → Option (List Edge)
 | 0 => none
 | m_ + 1 => chk ((decide ((IntKind.wrap .i64 (b1 - a1)) ≤ 12)) = true) ((slices_insertionSortCmpFunc_f data1 a1 b1 cmp1).bind fun r1 => chk (r1.length = data1.length) (some (r1)))
def slices_pdqsortCmpFunc_f (data1 : List Edge) (a1 : Int) (b1 : Int) (limit1 : Int) (cmp1 : Edge → Edge → Option Int) : Option (List Edge) :=
 slices_pdqsortCmpFunc_L1 b1 a1 data1 cmp1 BIG
set_option maxHeartbeats 4000000 in
set_option maxRecDepth 20000 in
theorem slices_pdqsortCmpFunc_rc {data1 : List Edge} {a1 : Int} {b1 : Int} {limit1 : Int} {cmp1 : Edge → Edge → Option Int} {cmp1_F : FuncId} {cmp1_caps : List Dat} (cmp1_hp : ∀ (x0_ : Edge) (x1_ : Edge) (r : Int), cmp1 x0_ x1_ = some r → PC Try.prog cmp1_F (.agg (Edge.c x0_) :: .agg (Edge.c x1_) :: cmp1_caps) (.int .i64 r)) (cmp1_pu : Pus cmp1_caps) {r : (List Edge)} (H : slices_pdqsortCmpFunc_f data1 a1 b1 limit1 cmp1 = some r) : RC Try.prog 86 [.ref 0 0 data1.length 3, .int .i64 a1, .int .i64 b1, .int .i64 limit1, .fn (.func cmp1_F) [] cmp1_caps] [⟨114, 3, false, data1.map Edge.c⟩] 1 (.tup []) [some ⟨114, 3, false, r.map Edge.c⟩] := by
 refine rcA_of Try.func86 (by rfl) (by decide) 148 (by rfl) [] (by rfl) ?_
 unfold slices_pdqsortCmpFunc_f at H
 simp only [hent, List.length_cons, List.length_nil, reduceAdd]
 refine a_seq ?_
 refine a_reg _ rfl (s := ?zs1) ?_ ?_
 rotate_left
 ·simp only [EVT, stepR, evOp, St.ev, St.app, St.put, wrs, datOf, datOf1, TIS, CS, reduceAdd, reduceMul, reduceEqDiff, ↓reduceIte, reduceCtorEq, reduceLT, reduceLeDiff]
  (repeat' apply And.intro) <;> first|rfl|assumption|omega|(simp;done)|(simp;omega)|(simp_all;done)
 refine sA_n ?_
 refine a_seq ?_
 refine a_reg _ rfl (s := ?zs2) ?_ ?_
 rotate_left
 ·simp only [EVT, stepR, evOp, St.ev, St.app, St.put, wrs, datOf, datOf1, TIS, CS, reduceAdd, reduceMul, reduceEqDiff, ↓reduceIte, reduceCtorEq, reduceLT, reduceLeDiff]
  (repeat' apply And.intro) <;> first|rfl|assumption|omega|(simp;done)|(simp;omega)|(simp_all;done)
 refine sA_n ?_
 refine a_blk ?_
 refine a_loop (fun m s => ∃ (t0 : Nat → Dat), slices_pdqsortCmpFunc_L1 b1 a1 data1 cmp1 m = some r ∧ s = ⟨tl t0 [(0, .ref 0 0 data1.length 3), (1, .int .i64 a1), (2, .int .i64 b1), (3, .int .i64 limit1), (4, .fn (.func cmp1_F) [] cmp1_caps), (10, .bool true), (11, .bool true)], hl [⟨114, 3, false, data1.map Edge.c⟩], 1, 148⟩) BIG ?_ ?_
 ·refine wk_ln 1 [(some 0, ⟨114, 3, false, data1.map Edge.c⟩)] [] [(0, .ref 0 0 data1.length 3), (1, .int .i64 a1), (2, .int .i64 b1), (3, .int .i64 limit1), (4, .fn (.func cmp1_F) [] cmp1_caps), (10, .bool true), (11, .bool true)] (by intro i h; rcases i with _ | i <;> first | rfl | omega) (by show ([0, 1, 2, 3, 4, 10, 11] : List Nat).Nodup; decide) (by show ([0] : List Nat).Nodup; decide) ?_ ?_ (fun t0 => ⟨t0, H, rfl⟩)
  ·exact (allB_some (by rfl) rfl (.sm _ _ Edge.pu) trivial)
  ·(simp only [AllT, ATT, reduceEqDiff, ↓reduceIte, and_true]); exact ⟨(.refl' (by first|rfl|omega|(simp;done)|(simp;omega)|(simp_all;done)) rfl), (.int' rfl), (.int' rfl), (.int' rfl), (.fn' .nil (RNs.pu cmp1_pu)), (.bool' (by first | rfl | assumption | (simp_all; done))), (.bool' (by first | rfl | assumption | (simp_all; done)))⟩
 ·rintro m_slices_pdqsortCmpFunc_L1 s ⟨t0, H, rfl⟩
  obtain _ | m_slices_pdqsortCmpFunc_L1 := m_slices_pdqsortCmpFunc_L1
  ·cases (show (none : Option _) = some _ from H)
  ·rw [slices_pdqsortCmpFunc_L1] at H
   refine a_blk ?_
   refine a_seq ?_
   refine a_reg _ rfl (s := ?zs3) ?_ ?_
   rotate_left
   ·simp only [EVT, stepR, evOp, St.ev, St.app, St.put, wrs, evBin, binInt, TIS, CS, reduceAdd, reduceMul, reduceEqDiff, ↓reduceIte, reduceCtorEq, reduceLT, reduceLeDiff]
    (repeat' apply And.intro) <;> first|rfl|assumption|omega|(simp;done)|(simp;omega)|(simp_all;done)
   refine sA_n ?_
   refine a_seq ?_
   refine a_seq ?_
   refine a_reg _ rfl (s := ?zs4) ?_ ?_
   rotate_left
   ·simp only [EVT, stepR, evOp, St.ev, St.app, St.put, wrs, datOf, datOf1, evBin, binInt, TIS, CS, reduceAdd, reduceMul, reduceEqDiff, ↓reduceIte, reduceCtorEq, reduceLT, reduceLeDiff]
    (repeat' apply And.intro) <;> first|rfl|assumption|omega|(simp;done)|(simp;omega)|(simp_all;done)
   refine sA_n ?_
   obtain ⟨zh1, H⟩ := chk_some H
   refine a_condb ((decide ((IntKind.wrap .i64 (b1 - a1)) ≤ 12))) (by rfl) (fun zc1 => ?_) (fun zc1x => absurd (zc1x.symm.trans zh1) (by decide))
   ·try skip
    refine a_seq ?_
    obtain ⟨r1, zh2, H⟩ := bind_some H
    have zk1 := slices_insertionSortCmpFunc_rc (cmp1 := cmp1) (cmp1_F := cmp1_F) (cmp1_caps := cmp1_caps) cmp1_hp cmp1_pu zh2
    obtain ⟨zh3, H⟩ := chk_some H
    refine a_reg _ rfl (s := ?zs5) ?_ ?_
    rotate_left
    ·try simp only [EVT, stepR, evOp, St.ev, St.app, St.put, wrs, frz, TIS, CS, reduceAdd, reduceMul, reduceEqDiff, ↓reduceIte, reduceCtorEq, reduceLT, reduceLeDiff, reduceSub, Nat.reduceBEq, ↓zc1]
     repeat' with_reducible apply And.intro
     all_goals try ((with_reducible show CallR _ _ _ _ _ _ _); refine callR_rcw (r' := .tup []) [(0, none), (0, some ⟨114, 3, false, r1.map Edge.c⟩)] [(some 0, ⟨114, 3, false, data1.map Edge.c⟩)] [] [(0, 0, ⟨114, 3, false, r1.map Edge.c⟩)] rfl zk1 (by simp) (by show ([0] : List Nat).Nodup; decide) (allB_some (by rfl) rfl (.sm _ _ Edge.pu) trivial) (.cons (.refl' (by first|rfl|omega|(simp;done)|(simp;omega)|(simp_all;done)) rfl) (.cons (.int' rfl) (.cons (.int' rfl) (.cons (.fn' .nil (RNs.pu cmp1_pu)) .nil)))) (by show ([0] : List Nat).Nodup; decide) (by show ([0] : List Nat).Nodup; decide) ⟨.inl ⟨by decide, rfl⟩, ⟨_, rfl, ⟨rfl, rfl, rfl, rfl⟩, .same _ _ Edge.pu rfl⟩, trivial⟩ (.tup' .nil) ?_; simp only [EVT, stepR, evOp, St.ev, St.app, St.put, wrs, frz, TIS, CS, reduceAdd, reduceMul, reduceEqDiff, ↓reduceIte, reduceCtorEq, reduceLT, reduceLeDiff, reduceSub, Nat.reduceBEq, ↓zc1])
     all_goals ((repeat' apply And.intro) <;> first|rfl|assumption|omega|(simp;done)|(simp;omega)|(simp_all;done))
    refine sA_n ?_
    refine a_ret ?_
    refine sA_r ?_
    refine bA_r ?_
    refine lA_r ?_
    refine bA_r ?_
    obtain rfl := Option.some.inj H
    refine eR_r ?_
    refine wk_ln 1 [(some 0, ⟨114, 3, false, r1.map Edge.c⟩)] [] [] (by intro i h; rcases i with _ | i <;> first | rfl | omega) (by show ([] : List Nat).Nodup; decide) (by show ([0] : List Nat).Nodup; decide) ?_ ?_ (fun t0 => ⟨by first | rfl | (simp only [EVT, resR, single, evLoad, cut, TIS, CS, reduceAdd, reduceEqDiff, ↓reduceIte, reduceCtorEq, reduceLT, reduceLeDiff, reduceSub, Nat.reduceBEq]; (repeat' apply And.intro) <;> first | rfl | (simp; done)), fun j B h => by rcases j with _ | _ <;> first | exact h | (exact absurd h (by simp [hh]))⟩)
    ·exact (allB_some (by rfl) rfl (.sm _ _ Edge.pu) trivial)
    ·exact trivial
def span_asked_of_1_f (x1 : Edge) (y1 : Edge) : Option Int :=
 (cmp_Compare_f x1.at_ y1.at_).bind fun r1 => some (r1)
set_option maxHeartbeats 4000000 in
set_option maxRecDepth 20000 in
theorem span_asked_of_1_pc {x1 : Edge} {y1 : Edge} {r : Int} (H : span_asked_of_1_f x1 y1 = some r) : PC Try.prog 80 [.agg (Edge.c x1), .agg (Edge.c y1)] (.int .i64 r) := by
 refine pcA_of Try.func80 (by rfl) (by decide) 10 (by rfl) [.tmp 4] (by rfl) ?_
 unfold span_asked_of_1_f at H
 simp only [ent]
 refine a_seq ?_
 refine a_reg _ rfl (s := ?zs1) ?_ ?_
 rotate_left
 ·simp only [EVT, stepR, evOp, St.ev, St.app, St.put, wrs, allOne, datOf, datOf1, TIS, CS, reduceAdd, reduceMul, reduceEqDiff, ↓reduceIte, reduceCtorEq, reduceLT, reduceLeDiff]
  (repeat' apply And.intro) <;> first|rfl|assumption|omega|(simp;done)|(simp;omega)|(simp_all;done)
 refine sA_n ?_
 refine a_seq ?_
 obtain ⟨r1, zh1, H⟩ := bind_some H
 have zk1 := cmp_Compare_pc zh1
 refine a_reg _ rfl (s := ?zs2) ?_ ?_
 rotate_left
 ·try simp only [EVT, stepR, evOp, St.ev, St.app, St.put, wrs, evFieldAddr, evLoad, cut, frz, TIS, CS, reduceAdd, reduceMul, reduceEqDiff, ↓reduceIte, reduceCtorEq, reduceLT, reduceLeDiff, reduceSub, Nat.reduceBEq]
  repeat' with_reducible apply And.intro
  all_goals try ((with_reducible show CallR _ _ _ _ _ _ _); refine cR_s zk1 (.cons (.int' rfl) (.cons (.int' rfl) .nil)) (.int _ _) ?_; simp only [EVT, stepR, evOp, St.ev, St.app, St.put, wrs, evFieldAddr, evLoad, cut, frz, TIS, CS, reduceAdd, reduceMul, reduceEqDiff, ↓reduceIte, reduceCtorEq, reduceLT, reduceLeDiff, reduceSub, Nat.reduceBEq])
  all_goals ((repeat' apply And.intro) <;> first|rfl|assumption|omega|(simp;done)|(simp;omega)|(simp_all;done))
 refine sA_n ?_
 refine a_ret ?_
 obtain rfl := Option.some.inj H
 refine e_r2 (d := ?zd1) ?_ ?_
 rotate_left
 ·simp only [EVT, resR, single, evLoad, cut, TIS, CS, reduceAdd, reduceEqDiff, ↓reduceIte, reduceCtorEq, reduceLT, reduceLeDiff, reduceSub, Nat.reduceBEq]
  (repeat' apply And.intro) <;> first | rfl | assumption | omega | (simp; done)
 exact (.int' rfl)
def slices_SortFunc_f (x1 : List Edge) (cmp1 : Edge → Edge → Option Int) : Option (List Edge) :=
 (math_bits_Len_f (IntKind.wrap .u64 (((x1.length : Nat)) : Int))).bind fun r1 => (slices_pdqsortCmpFunc_f x1 0 (((x1.length : Nat)) : Int) r1 cmp1).bind fun r2 => chk (r2.length = x1.length) (some (r2))
set_option maxHeartbeats 4000000 in
set_option maxRecDepth 20000 in
theorem slices_SortFunc_rc {x1 : List Edge} {cmp1 : Edge → Edge → Option Int} {cmp1_F : FuncId} {cmp1_caps : List Dat} (cmp1_hp : ∀ (x0_ : Edge) (x1_ : Edge) (r : Int), cmp1 x0_ x1_ = some r → PC Try.prog cmp1_F (.agg (Edge.c x0_) :: .agg (Edge.c x1_) :: cmp1_caps) (.int .i64 r)) (cmp1_pu : Pus cmp1_caps) {r : (List Edge)} (H : slices_SortFunc_f x1 cmp1 = some r) : RC Try.prog 79 [.ref 0 0 x1.length 3, .fn (.func cmp1_F) [] cmp1_caps] [⟨114, 3, false, x1.map Edge.c⟩] 1 (.tup []) [some ⟨114, 3, false, r.map Edge.c⟩] := by
 refine rcA_of Try.func79 (by rfl) (by decide) 14 (by rfl) [] (by rfl) ?_
 unfold slices_SortFunc_f at H
 simp only [hent, List.length_cons, List.length_nil, reduceAdd]
 refine a_seq ?_
 refine a_reg _ rfl (s := ?zs1) ?_ ?_
 rotate_left
 ·simp only [EVT, stepR, evOp, St.ev, St.app, St.put, wrs, evBuiltin, TIS, CS, reduceAdd, reduceMul, reduceEqDiff, ↓reduceIte, reduceCtorEq, reduceLT, reduceLeDiff, reduceSub, Nat.reduceBEq]
  (repeat' apply And.intro) <;> first|rfl|assumption|omega|(simp;done)|(simp;omega)|(simp_all;done)
 refine sA_n ?_
 obtain ⟨r1, zh1, H⟩ := bind_some H
 have zk1 := math_bits_Len_pc zh1
 obtain ⟨r2, zh2, H⟩ := bind_some H
 have zk2 := slices_pdqsortCmpFunc_rc (cmp1 := cmp1) (cmp1_F := cmp1_F) (cmp1_caps := cmp1_caps) cmp1_hp cmp1_pu zh2
 obtain ⟨zh3, H⟩ := chk_some H
 refine a_reg _ rfl (s := ?zs2) ?_ ?_
 rotate_left
 ·try simp only [EVT, stepR, evOp, St.ev, St.app, St.put, wrs, evToStr, elems, frz, datOf, datOf1, TIS, CS, reduceAdd, reduceMul, reduceEqDiff, ↓reduceIte, reduceCtorEq, reduceLT, reduceLeDiff, reduceSub, Nat.reduceBEq]
  repeat' with_reducible apply And.intro
  all_goals try ((with_reducible show CallR _ _ _ _ _ _ _); refine cR_s zk1 (.cons (.int' rfl) .nil) (.int _ _) ?_; simp only [EVT, stepR, evOp, St.ev, St.app, St.put, wrs, evToStr, elems, frz, datOf, datOf1, TIS, CS, reduceAdd, reduceMul, reduceEqDiff, ↓reduceIte, reduceCtorEq, reduceLT, reduceLeDiff, reduceSub, Nat.reduceBEq])
  repeat' with_reducible apply And.intro
  all_goals try ((with_reducible show CallR _ _ _ _ _ _ _); refine callR_rcw (r' := .tup []) [(0, none), (0, some ⟨114, 3, false, r2.map Edge.c⟩)] [(some 0, ⟨114, 3, false, x1.map Edge.c⟩)] [] [(0, 0, ⟨114, 3, false, r2.map Edge.c⟩)] rfl zk2 (by simp) (by show ([0] : List Nat).Nodup; decide) (allB_some (by rfl) rfl (.sm _ _ Edge.pu) trivial) (.cons (.refl' (by first|rfl|omega|(simp;done)|(simp;omega)|(simp_all;done)) rfl) (.cons (.int' rfl) (.cons (.int' rfl) (.cons (.int' rfl) (.cons (.fn' .nil (RNs.pu cmp1_pu)) .nil))))) (by show ([0] : List Nat).Nodup; decide) (by show ([0] : List Nat).Nodup; decide) ⟨.inl ⟨by decide, rfl⟩, ⟨_, rfl, ⟨rfl, rfl, rfl, rfl⟩, .same _ _ Edge.pu rfl⟩, trivial⟩ (.tup' .nil) ?_; simp only [EVT, stepR, evOp, St.ev, St.app, St.put, wrs, evToStr, elems, frz, datOf, datOf1, TIS, CS, reduceAdd, reduceMul, reduceEqDiff, ↓reduceIte, reduceCtorEq, reduceLT, reduceLeDiff, reduceSub, Nat.reduceBEq])
  all_goals ((repeat' apply And.intro) <;> first|rfl|assumption|omega|(simp;done)|(simp;omega)|(simp_all;done))
 obtain rfl := Option.some.inj H
 refine eR_n ?_
 refine wk_ln 1 [(some 0, ⟨114, 3, false, r2.map Edge.c⟩)] [] [] (by intro i h; rcases i with _ | i <;> first | rfl | omega) (by show ([] : List Nat).Nodup; decide) (by show ([0] : List Nat).Nodup; decide) ?_ ?_ (fun t0 => ⟨by first | rfl | (simp only [EVT, resR, single, evLoad, cut, TIS, CS, reduceAdd, reduceEqDiff, ↓reduceIte, reduceCtorEq, reduceLT, reduceLeDiff, reduceSub, Nat.reduceBEq]; (repeat' apply And.intro) <;> first | rfl | (simp; done)), fun j B h => by rcases j with _ | _ <;> first | exact h | (exact absurd h (by simp [hh]))⟩)
 ·exact (allB_some (by rfl) rfl (.sm _ _ Edge.pu) trivial)
 ·exact trivial
def span_edges_J1 (out1 : List Edge) : Option (List Edge) :=
 some (out1)
def span_edges_J2 (k_span_edges_L1 : (List Edge) → Int → Option (List Edge)) (v1 : Int) (out3 : List Edge) : Option (List Edge) :=
 k_span_edges_L1 out3 (IntKind.wrap .i64 (v1 + 1))
def span_edges_L1 (l1 : List Span) (set1 : Int) : Nat → (List Edge) → Int → Option (List Edge)
 | 0, _, _ => none
 | m_ + 1, out2, v1 => cond (decide (v1 < (l1.length : Int))) ((idx l1 v1).bind fun x1 => cond (decide ((if 0 > x1.from_ then 0 else x1.from_) < (if 1099511627776 < x1.to_ then 1099511627776 else x1.to_))) (chk ((out2.length + 2) * 24 ≤ 140737488355328) (span_edges_J2 (span_edges_L1 l1 set1 m_) v1 (out2 ++ [(⟨(if 0 > x1.from_ then 0 else x1.from_), set1, true⟩ : Edge), (⟨(if 1099511627776 < x1.to_ then 1099511627776 else x1.to_), set1, false⟩ : Edge)]))) (span_edges_J2 (span_edges_L1 l1 set1 m_) v1 out2)) (span_edges_J1 out2)
def span_edges_f (l1 : List Span) (set1 : Int) : Option (List Edge) :=
 span_edges_L1 l1 set1 BIG [] 0
set_option maxHeartbeats 4000000 in
set_option maxRecDepth 20000 in
theorem span_edges_rc {l1 : List Span} {set1 : Int} {r : (List Edge)} (H : span_edges_f l1 set1 = some r) : RC Try.prog 78 [.list 2 (l1.map Span.c), .int .i64 set1] [] 0 (.ref 0 0 r.length 3) [some ⟨114, 3, false, r.map Edge.c⟩] := by
 refine rcA_of Try.func78 (by rfl) (by decide) 36 (by rfl) [.tmp 4] (by rfl) ?_
 unfold span_edges_f at H
 simp only [hent, List.length_cons, List.length_nil, reduceAdd]
 refine a_seq ?_
 refine a_reg _ rfl (s := ?zs1) ?_ ?_
 rotate_left
 ·simp only [EVT, stepR, evOp, St.ev, St.app, St.put, wrs, datOf, datOf1, TIS, CS, reduceAdd, reduceMul, reduceEqDiff, ↓reduceIte, reduceCtorEq, reduceLT, reduceLeDiff]
  (repeat' apply And.intro) <;> first|rfl|assumption|omega|(simp;done)|(simp;omega)|(simp_all;done)
 refine sA_n ?_
 refine a_seq ?_
 refine a_reg _ rfl (s := ?zs2) ?_ ?_
 rotate_left
 ·simp only [EVT, stepR, evOp, St.ev, St.app, St.put, wrs, datOf, datOf1, TIS, CS, reduceAdd, reduceMul, reduceEqDiff, ↓reduceIte, reduceCtorEq, reduceLT, reduceLeDiff]
  (repeat' apply And.intro) <;> first|rfl|assumption|omega|(simp;done)|(simp;omega)|(simp_all;done)
 refine sA_n ?_
 refine a_cut (fun s => ∃ (out1 : List Edge) (t0 : Nat → Dat), span_edges_J1 out1 = some r ∧ s = ⟨tl t0 [(5, .ref 0 0 out1.length 3)], hl [⟨114, 3, false, out1.map Edge.c⟩], 1, 36⟩) ?_ ?_
 ·refine a_seq ?_
  refine a_reg _ rfl (s := ?zs4) ?_ ?_
  rotate_left
  ·simp only [EVT, stepR, evOp, St.ev, St.app, St.put, wrs, evBuiltin, datOf, datOf1, TIS, CS, reduceAdd, reduceMul, reduceEqDiff, ↓reduceIte, reduceCtorEq, reduceLT, reduceLeDiff, reduceSub, Nat.reduceBEq]
   (repeat' apply And.intro) <;> first|rfl|assumption|omega|(simp;done)|(simp;omega)|(simp_all;done)
  refine sA_n ?_
  refine a_blk ?_
  refine a_loop (fun m s => ∃ (out2 : List Edge) (v1 : Int) (t0 : Nat → Dat), span_edges_L1 l1 set1 m out2 v1 = some r ∧ s = ⟨tl t0 [(1, .int .i64 set1), (5, .ref 0 0 out2.length 3), (10, .list 2 (l1.map Span.c)), (11, .int .i64 (l1.length : Int)), (12, .int .i64 v1)], hl [⟨114, 3, false, out2.map Edge.c⟩], 1, 36⟩) BIG ?_ ?_
  ·refine wk_l [(none, ⟨114, 3, false, [].map Edge.c⟩)] [] [(1, .int .i64 set1), (5, .ref 0 0 [].length 3), (10, .list 2 (l1.map Span.c)), (11, .int .i64 (l1.length : Int)), (12, .int .i64 0)] (by show ([1, 5, 10, 11, 12] : List Nat).Nodup; decide) (by show ([] : List Nat).Nodup; decide) ?_ ?_ (fun t0 => ⟨[], 0, t0, H, rfl⟩)
   ·exact (allB_none rfl trivial)
   ·(simp only [AllT, ATT, reduceEqDiff, ↓reduceIte, and_true]); exact ⟨(.int' rfl), (.nilv _ _ rfl rfl), (.lst _ _ _ Span.pu rfl), (.int' rfl), (.int' rfl)⟩
  ·rintro m_span_edges_L1 s ⟨out2, v1, t0, H, rfl⟩
   obtain _ | m_span_edges_L1 := m_span_edges_L1
   ·cases (show (none : Option _) = some _ from H)
   ·rw [span_edges_L1] at H
    refine a_seq ?_
    refine a_reg _ rfl (s := ?zs5) ?_ ?_
    rotate_left
    ·simp only [EVT, stepR, evOp, St.ev, St.app, St.put, wrs, evBin, binInt, TIS, CS, reduceAdd, reduceMul, reduceEqDiff, ↓reduceIte, reduceCtorEq, reduceLT, reduceLeDiff]
     (repeat' apply And.intro) <;> first|rfl|assumption|omega|(simp;done)|(simp;omega)|(simp_all;done)
    refine sA_n ?_
    refine a_seq ?_
    refine a_condb ((decide (v1 < (l1.length : Int)))) (by rfl) (fun zc1 => ?_) (fun zc1 => ?_)
    ·have H := cond_t zc1 H
     refine a_skip ?_
     refine sA_n ?_
     refine a_cut (fun s => ∃ (out3 : List Edge) (t0 : Nat → Dat), span_edges_J2 (span_edges_L1 l1 set1 m_span_edges_L1) v1 out3 = some r ∧ s = ⟨tl t0 [(1, .int .i64 set1), (5, .ref 0 0 out3.length 3), (10, .list 2 (l1.map Span.c)), (11, .int .i64 (l1.length : Int)), (12, .int .i64 v1)], hl [⟨114, 3, false, out3.map Edge.c⟩], 1, 36⟩) ?_ ?_
     ·refine a_blk ?_
      refine a_seq ?_
      obtain ⟨x1, zh1, H⟩ := bind_some H
      have zg1 := idx_map zh1 Span.c
      try simp only [Int.reduceToNat, Int.toNat_natCast] at zg1
      obtain ⟨zh1a, zh1b, _⟩ := idx_some zh1
      refine a_reg _ rfl (s := ?zs7) ?_ ?_
      rotate_left
      ·simp only [EVT, stepR, evOp, St.ev, St.app, St.put, wrs, evIndexAddr, evLoad, cut, allOne, evStore, setR, TIS, CS, reduceAdd, reduceMul, reduceEqDiff, ↓reduceIte, reduceCtorEq, reduceLT, reduceLeDiff, Int.reduceToNat, reduceSub, Nat.reduceBEq, ↓zc1, zg1]
       (repeat' apply And.intro) <;> first|rfl|assumption|omega|(simp;done)|(simp;omega)|(simp_all;done)
      refine sA_n ?_
      refine a_seq ?_
      refine a_drW (by kernel_rfl) _ rfl (s := ?zs8) (by kernel_rfl) (by kernel_rfl) ?zs8f ?_ ?_ ?_
      rotate_left 2
      ·simp only [EVT, stepW, evOp, St.ev, St.app, St.put, wrs, evFieldAddr, evLoad, cut, datOf, datOf1, evBuiltin, minMax, mmStep, TIS, CS, reduceAdd, reduceMul, reduceEqDiff, ↓reduceIte, reduceCtorEq, reduceLT, reduceLeDiff, reduceSub, Nat.reduceBEq, ↓zc1, zg1]
       (repeat' apply And.intro) <;> first|rfl|assumption|omega|(simp;done)|(simp;omega)|(simp_all;done)
      ·kernel_rfl
      refine sA_n ?_
      refine a_seq ?_
      refine a_reg _ rfl (s := ?zs9) ?_ ?_
      rotate_left
      ·simp only [EVT, stepR, evOp, St.ev, St.app, St.put, wrs, evBin, binInt, TIS, CS, reduceAdd, reduceMul, reduceEqDiff, ↓reduceIte, reduceCtorEq, reduceLT, reduceLeDiff, ↓zc1, zg1]
       (repeat' apply And.intro) <;> first|rfl|assumption|omega|(simp;done)|(simp;omega)|(simp_all;done)
      refine sA_n ?_
      refine a_condb ((decide ((if 0 > x1.from_ then 0 else x1.from_) < (if 1099511627776 < x1.to_ then 1099511627776 else x1.to_)))) (by rfl) (fun zc2 => ?_) (fun zc2 => ?_)
      ·have H := cond_t zc2 H
       obtain ⟨zh2, H⟩ := chk_some H
       refine a_reg _ rfl (s := ?zs10) ?_ ?_
       rotate_left
       ·simp only [EVT, stepR, evOp, St.ev, St.app, St.put, wrs, datOf, datOf1, fillD, setR, allOne, evBuiltin, evAppend, isAl, elems, Option.elim, TIS, CS, reduceAdd, reduceMul, reduceEqDiff, ↓reduceIte, reduceCtorEq, reduceLT, reduceLeDiff, Nat.reduceGT, reduceSub, Nat.reduceBEq, ↓zc1, zg1, ↓zc2]
        (repeat' apply And.intro) <;> first|rfl|assumption|omega|(simp;done)|(simp;omega)|(simp_all;done)
       refine bA_n ?_
       refine cA_n ?_
       refine wk_l [(some 137, ⟨114, 3, false, (out2 ++ [(⟨(if 0 > x1.from_ then 0 else x1.from_), set1, true⟩ : Edge), (⟨(if 1099511627776 < x1.to_ then 1099511627776 else x1.to_), set1, false⟩ : Edge)]).map Edge.c⟩)] [] [(1, .int .i64 set1), (5, .ref 0 0 (out2 ++ [(⟨(if 0 > x1.from_ then 0 else x1.from_), set1, true⟩ : Edge), (⟨(if 1099511627776 < x1.to_ then 1099511627776 else x1.to_), set1, false⟩ : Edge)]).length 3), (10, .list 2 (l1.map Span.c)), (11, .int .i64 (l1.length : Int)), (12, .int .i64 v1)] (by show ([1, 5, 10, 11, 12] : List Nat).Nodup; decide) (by show ([137] : List Nat).Nodup; decide) ?_ ?_ (fun t0 => ⟨(out2 ++ [(⟨(if 0 > x1.from_ then 0 else x1.from_), set1, true⟩ : Edge), (⟨(if 1099511627776 < x1.to_ then 1099511627776 else x1.to_), set1, false⟩ : Edge)]), t0, H, rfl⟩)
       ·exact (allB_some (by rfl) rfl (.sm _ _ Edge.pu) trivial)
       ·(simp only [AllT, ATT, reduceEqDiff, ↓reduceIte, and_true]); exact ⟨(.int' rfl), (.refl' (by first|rfl|omega|(simp;done)|(simp;omega)|(simp_all;done)) rfl), (.lst _ _ _ Span.pu rfl), (.int' rfl), (.int' rfl)⟩
      ·have H := cond_f zc2 H
       refine a_skip ?_
       refine bA_n ?_
       refine cA_n ?_
       refine wk_l [(some 0, ⟨114, 3, false, out2.map Edge.c⟩)] [] [(1, .int .i64 set1), (5, .ref 0 0 out2.length 3), (10, .list 2 (l1.map Span.c)), (11, .int .i64 (l1.length : Int)), (12, .int .i64 v1)] (by show ([1, 5, 10, 11, 12] : List Nat).Nodup; decide) (by show ([0] : List Nat).Nodup; decide) ?_ ?_ (fun t0 => ⟨out2, t0, H, rfl⟩)
       ·exact (allB_some (by rfl) rfl (.sm _ _ Edge.pu) trivial)
       ·(simp only [AllT, ATT, reduceEqDiff, ↓reduceIte, and_true]); exact ⟨(.int' rfl), (.refl' (by first|rfl|omega|(simp;done)|(simp;omega)|(simp_all;done)) rfl), (.lst _ _ _ Span.pu rfl), (.int' rfl), (.int' rfl)⟩
     ·rintro s ⟨out3, t0, H, rfl⟩
      unfold span_edges_J2 at H
      refine a_reg _ rfl (s := ?zs6) ?_ ?_
      rotate_left
      ·simp only [EVT, stepR, evOp, St.ev, St.app, St.put, wrs, datOf, datOf1, evBin, binInt, TIS, CS, reduceAdd, reduceMul, reduceEqDiff, ↓reduceIte, reduceCtorEq, reduceLT, reduceLeDiff]
       (repeat' apply And.intro) <;> first|rfl|assumption|omega|(simp;done)|(simp;omega)|(simp_all;done)
      refine lA_n ?_
      refine wk_l [(some 0, ⟨114, 3, false, out3.map Edge.c⟩)] [] [(1, .int .i64 set1), (5, .ref 0 0 out3.length 3), (10, .list 2 (l1.map Span.c)), (11, .int .i64 (l1.length : Int)), (12, .int .i64 (IntKind.wrap .i64 (v1 + 1)))] (by show ([1, 5, 10, 11, 12] : List Nat).Nodup; decide) (by show ([0] : List Nat).Nodup; decide) ?_ ?_ (fun t0 => ⟨_, Nat.lt_succ_self _, out3, (IntKind.wrap .i64 (v1 + 1)), t0, H, rfl⟩)
      ·exact (allB_some (by rfl) rfl (.sm _ _ Edge.pu) trivial)
      ·(simp only [AllT, ATT, reduceEqDiff, ↓reduceIte, and_true]); exact ⟨(.int' rfl), (.refl' (by first|rfl|omega|(simp;done)|(simp;omega)|(simp_all;done)) rfl), (.lst _ _ _ Span.pu rfl), (.int' rfl), (.int' rfl)⟩
    ·have H := cond_f zc1 H
     refine a_exit ?_
     refine sA_e ?_
     refine lA_e ?_
     refine bA_hit ?_
     refine cA_n ?_
     refine wk_l [(some 0, ⟨114, 3, false, out2.map Edge.c⟩)] [] [(5, .ref 0 0 out2.length 3)] (by show ([5] : List Nat).Nodup; decide) (by show ([0] : List Nat).Nodup; decide) ?_ ?_ (fun t0 => ⟨out2, t0, H, rfl⟩)
     ·exact (allB_some (by rfl) rfl (.sm _ _ Edge.pu) trivial)
     ·(simp only [AllT, ATT, reduceEqDiff, ↓reduceIte, and_true]); exact (.refl' (by first|rfl|omega|(simp;done)|(simp;omega)|(simp_all;done)) rfl)
 ·rintro s ⟨out1, t0, H, rfl⟩
  unfold span_edges_J1 at H
  refine a_seq ?_
  refine a_reg _ rfl (s := ?zs3) ?_ ?_
  rotate_left
  ·simp only [EVT, stepR, evOp, St.ev, St.app, St.put, wrs, TIS, CS, reduceAdd, reduceMul, reduceEqDiff, ↓reduceIte, reduceCtorEq, reduceLT, reduceLeDiff]
   (repeat' apply And.intro) <;> first|rfl|assumption|omega|(simp;done)|(simp;omega)|(simp_all;done)
  refine sA_n ?_
  refine a_ret ?_
  obtain rfl := Option.some.inj H
  refine eR_r ?_
  refine wk_ln 0 [(some 0, ⟨114, 3, false, out1.map Edge.c⟩)] [] [(4, .ref 0 0 out1.length 3)] (fun i h => absurd h (Nat.not_lt_zero i)) (by show ([4] : List Nat).Nodup; decide) (by show ([0] : List Nat).Nodup; decide) ?_ ?_ (fun t0 => ⟨by first | rfl | (simp only [EVT, resR, single, evLoad, cut, TIS, CS, reduceAdd, reduceEqDiff, ↓reduceIte, reduceCtorEq, reduceLT, reduceLeDiff, reduceSub, Nat.reduceBEq]; (repeat' apply And.intro) <;> first | rfl | (simp; done)), fun j B h => by rcases j with _ | _ <;> first | exact h | (exact absurd h (by simp [hh]))⟩)
  ·exact (allB_some (by rfl) rfl (.sm _ _ Edge.pu) trivial)
  ·(simp only [AllT, ATT, reduceEqDiff, ↓reduceIte, and_true]); exact (.refl' (by first|rfl|omega|(simp;done)|(simp;omega)|(simp_all;done)) rfl)
theorem span_edges_pc {l1 : List Span} {set1 : Int} {r : (List Edge)} (H : span_edges_f l1 set1 = some r) : PC Try.prog 78 [.list 2 (l1.map Span.c), .int .i64 set1] (.list 3 (r.map Edge.c)) := rc_pc (span_edges_rc H) (.ownL rfl (fun e => by cases e) rfl (List.length_map _).symm (.same _ _ Edge.pu rfl))
def span_asked_of_J1 (out1 : List Span) : Option (List Span) :=
 some (out1)
def span_asked_of_J2 (k_span_asked_of_L1 : (List Span) → Int → Int → Int → Int → Int → Option (List Span)) (v1 : Int) (v2 : Int) (out3 : List Span) (deep3 : Int) (deep4 : Int) (from2 : Int) : Option (List Span) :=
 k_span_asked_of_L1 out3 deep3 deep4 from2 v1 (IntKind.wrap .i64 (v2 + 1))
def span_asked_of_J6 (k_span_asked_of_L1 : (List Span) → Int → Int → Int → Int → Int → Option (List Span)) (out2 : List Span) (v1 : Int) (v2 : Int) (from3 : Int) (x1 : Edge) (deep5 : Int) (deep2 : Int) (v4 : Bool) : Option (List Span) :=
 cond v4 (chk ((out2.length + 1) * 16 ≤ 140737488355328) (span_asked_of_J2 k_span_asked_of_L1 v1 v2 (out2 ++ [(⟨from3, x1.at_⟩ : Span)]) deep5 deep2 (-1))) (span_asked_of_J2 k_span_asked_of_L1 v1 v2 out2 deep5 deep2 from3)
def span_asked_of_J5 (k_span_asked_of_L1 : (List Span) → Int → Int → Int → Int → Int → Option (List Span)) (out2 : List Span) (v1 : Int) (v2 : Int) (x1 : Edge) (deep5 : Int) (deep2 : Int) (from3 : Int) (in1 : Bool) : Option (List Span) :=
 span_asked_of_J6 k_span_asked_of_L1 out2 v1 v2 from3 x1 deep5 deep2 ((!in1) && (decide (0 ≤ from3)))
def span_asked_of_J7 (k_span_asked_of_L1 : (List Span) → Int → Int → Int → Int → Int → Option (List Span)) (out2 : List Span) (v1 : Int) (v2 : Int) (x1 : Edge) (deep5 : Int) (deep2 : Int) (from1 : Int) (in2 : Bool) (v5 : Bool) : Option (List Span) :=
 cond v5 (span_asked_of_J5 k_span_asked_of_L1 out2 v1 v2 x1 deep5 deep2 x1.at_ in2) (span_asked_of_J5 k_span_asked_of_L1 out2 v1 v2 x1 deep5 deep2 from1 in2)
def span_asked_of_J4 (k_span_asked_of_L1 : (List Span) → Int → Int → Int → Int → Int → Option (List Span)) (v1 : Int) (v2 : Int) (out2 : List Span) (deep2 : Int) (from1 : Int) (q1 : Bool → Bool → Option Bool) (x1 : Edge) (deep5 : Int) (v3 : Bool) : Option (List Span) :=
 cond v3 (span_asked_of_J2 k_span_asked_of_L1 v1 v2 out2 deep5 deep2 from1) ((q1 (decide (0 < deep5)) (decide (0 < deep2))).bind fun r4 => cond r4 (span_asked_of_J7 k_span_asked_of_L1 out2 v1 v2 x1 deep5 deep2 from1 true (decide (from1 < 0))) (span_asked_of_J7 k_span_asked_of_L1 out2 v1 v2 x1 deep5 deep2 from1 false false))
def span_asked_of_J10 (k_span_asked_of_L1 : (List Span) → Int → Int → Int → Int → Int → Option (List Span)) (out2 : List Span) (v1 : Int) (v2 : Int) (from4 : Int) (x1 : Edge) (deep1 : Int) (deep6 : Int) (v7 : Bool) : Option (List Span) :=
 cond v7 (chk ((out2.length + 1) * 16 ≤ 140737488355328) (span_asked_of_J2 k_span_asked_of_L1 v1 v2 (out2 ++ [(⟨from4, x1.at_⟩ : Span)]) deep1 deep6 (-1))) (span_asked_of_J2 k_span_asked_of_L1 v1 v2 out2 deep1 deep6 from4)
def span_asked_of_J9 (k_span_asked_of_L1 : (List Span) → Int → Int → Int → Int → Int → Option (List Span)) (out2 : List Span) (v1 : Int) (v2 : Int) (x1 : Edge) (deep1 : Int) (deep6 : Int) (from4 : Int) (in3 : Bool) : Option (List Span) :=
 span_asked_of_J10 k_span_asked_of_L1 out2 v1 v2 from4 x1 deep1 deep6 ((!in3) && (decide (0 ≤ from4)))
def span_asked_of_J11 (k_span_asked_of_L1 : (List Span) → Int → Int → Int → Int → Int → Option (List Span)) (out2 : List Span) (v1 : Int) (v2 : Int) (x1 : Edge) (deep1 : Int) (deep6 : Int) (from1 : Int) (in4 : Bool) (v8 : Bool) : Option (List Span) :=
 cond v8 (span_asked_of_J9 k_span_asked_of_L1 out2 v1 v2 x1 deep1 deep6 x1.at_ in4) (span_asked_of_J9 k_span_asked_of_L1 out2 v1 v2 x1 deep1 deep6 from1 in4)
def span_asked_of_J8 (k_span_asked_of_L1 : (List Span) → Int → Int → Int → Int → Int → Option (List Span)) (v1 : Int) (v2 : Int) (out2 : List Span) (deep1 : Int) (from1 : Int) (q1 : Bool → Bool → Option Bool) (x1 : Edge) (deep6 : Int) (v6 : Bool) : Option (List Span) :=
 cond v6 (span_asked_of_J2 k_span_asked_of_L1 v1 v2 out2 deep1 deep6 from1) ((q1 (decide (0 < deep1)) (decide (0 < deep6))).bind fun r5 => cond r5 (span_asked_of_J11 k_span_asked_of_L1 out2 v1 v2 x1 deep1 deep6 from1 true (decide (from1 < 0))) (span_asked_of_J11 k_span_asked_of_L1 out2 v1 v2 x1 deep1 deep6 from1 false false))
def span_asked_of_J3 (k_span_asked_of_L1 : (List Span) → Int → Int → Int → Int → Int → Option (List Span)) (x1 : Edge) (v2 : Int) (r3 : (List Edge)) (v1 : Int) (out2 : List Span) (deep2 : Int) (from1 : Int) (q1 : Bool → Bool → Option Bool) (deep1 : Int) (step1 : Int) : Option (List Span) :=
 two x1.set (cond (decide ((IntKind.wrap .i64 (v2 + 1)) < (((r3.length : Nat)) : Int))) ((idx r3 (IntKind.wrap .i64 (v2 + 1))).bind fun x2 => span_asked_of_J4 k_span_asked_of_L1 v1 v2 out2 deep2 from1 q1 x1 (IntKind.wrap .i64 (deep1 + step1)) (x2.at_ == x1.at_)) (span_asked_of_J4 k_span_asked_of_L1 v1 v2 out2 deep2 from1 q1 x1 (IntKind.wrap .i64 (deep1 + step1)) false)) (cond (decide ((IntKind.wrap .i64 (v2 + 1)) < (((r3.length : Nat)) : Int))) ((idx r3 (IntKind.wrap .i64 (v2 + 1))).bind fun x3 => span_asked_of_J8 k_span_asked_of_L1 v1 v2 out2 deep1 from1 q1 x1 (IntKind.wrap .i64 (deep2 + step1)) (x3.at_ == x1.at_)) (span_asked_of_J8 k_span_asked_of_L1 v1 v2 out2 deep1 from1 q1 x1 (IntKind.wrap .i64 (deep2 + step1)) false))
def span_asked_of_L1 (r3 : (List Edge)) (q1 : Bool → Bool → Option Bool) : Nat → (List Span) → Int → Int → Int → Int → Int → Option (List Span)
 | 0, _, _, _, _, _, _ => none
 | m_ + 1, out2, deep1, deep2, from1, v1, v2 => cond (decide (v2 < v1)) ((idx r3 v2).bind fun x1 => cond (!x1.begins) (span_asked_of_J3 (span_asked_of_L1 r3 q1 m_) x1 v2 r3 v1 out2 deep2 from1 q1 deep1 (-1)) (span_asked_of_J3 (span_asked_of_L1 r3 q1 m_) x1 v2 r3 v1 out2 deep2 from1 q1 deep1 1)) (span_asked_of_J1 out2)
def span_asked_of_f (q1 : Bool → Bool → Option Bool) (a1 : List Span) (b1 : List Span) : Option (List Span) :=
 (span_edges_f a1 0).bind fun r1 => (span_edges_f b1 1).bind fun r2 => chk ((r1.length + r2.length) * 24 ≤ 140737488355328) ((slices_SortFunc_f (r1 ++ r2) span_asked_of_1_f).bind fun r3 => chk (r3.length = r1.length + r2.length) (span_asked_of_L1 r3 q1 BIG [] 0 0 (-1) (((r1.length + r2.length : Nat)) : Int) 0))
set_option maxHeartbeats 4000000 in
set_option maxRecDepth 20000 in
theorem span_asked_of_pc {q1 : Bool → Bool → Option Bool} {q1_F : FuncId} {q1_caps : List Dat} (q1_hp : ∀ (x0_ : Bool) (x1_ : Bool) (r : Bool), q1 x0_ x1_ = some r → PC Try.prog q1_F (.bool x0_ :: .bool x1_ :: q1_caps) (.bool r)) (q1_pu : Pus q1_caps) {a1 : List Span} {b1 : List Span} {r : (List Span)} (H : span_asked_of_f q1 a1 b1 = some r) : PC Try.prog 68 [.agg [.fn (.func q1_F) [] q1_caps], .list 2 (a1.map Span.c), .list 2 (b1.map Span.c)] (.list 2 (r.map Span.c)) := by
 refine pcA_of Try.func68 (by rfl) (by decide) 87 (by rfl) [.tmp 6] (by rfl) ?_
 unfold span_asked_of_f at H
 simp only [ent]
 refine a_seq ?_
 refine a_reg _ rfl (s := ?zs1) ?_ ?_
 rotate_left
 ·simp only [EVT, stepR, evOp, St.ev, St.app, St.put, wrs, allOne, datOf, datOf1, TIS, CS, reduceAdd, reduceMul, reduceEqDiff, ↓reduceIte, reduceCtorEq, reduceLT, reduceLeDiff]
  (repeat' apply And.intro) <;> first|rfl|assumption|omega|(simp;done)|(simp;omega)|(simp_all;done)
 refine sA_n ?_
 refine a_seq ?_
 obtain ⟨r1, zh1, H⟩ := bind_some H
 have zk1 := span_edges_rc zh1
 obtain ⟨r2, zh2, H⟩ := bind_some H
 have zk2 := span_edges_rc zh2
 obtain ⟨zh3, H⟩ := chk_some H
 refine a_reg _ rfl (s := ?zs2) ?_ ?_
 rotate_left
 ·try simp only [EVT, stepR, evOp, St.ev, St.app, St.put, wrs, datOf, datOf1, frz, evBuiltin, evAppend, isAl, elems, Option.elim, TIS, CS, reduceAdd, reduceMul, reduceEqDiff, ↓reduceIte, reduceCtorEq, reduceLT, reduceLeDiff, reduceSub, Nat.reduceBEq]
  repeat' with_reducible apply And.intro
  all_goals try ((with_reducible show CallR _ _ _ _ _ _ _); refine callR_ownm (l := r1) (c := Edge.c) [] zk1 Edge.sc (.cons (.lst _ _ _ Span.pu rfl) (.cons (.int' rfl) .nil)) ?_; simp only [EVT, stepR, evOp, St.ev, St.app, St.put, wrs, datOf, datOf1, frz, evBuiltin, evAppend, isAl, elems, Option.elim, TIS, CS, reduceAdd, reduceMul, reduceEqDiff, ↓reduceIte, reduceCtorEq, reduceLT, reduceLeDiff, reduceSub, Nat.reduceBEq])
  repeat' with_reducible apply And.intro
  all_goals try ((with_reducible show CallR _ _ _ _ _ _ _); refine callR_ownm (l := r2) (c := Edge.c) [] zk2 Edge.sc (.cons (.lst _ _ _ Span.pu rfl) (.cons (.int' rfl) .nil)) ?_; simp only [EVT, stepR, evOp, St.ev, St.app, St.put, wrs, datOf, datOf1, frz, evBuiltin, evAppend, isAl, elems, Option.elim, TIS, CS, reduceAdd, reduceMul, reduceEqDiff, ↓reduceIte, reduceCtorEq, reduceLT, reduceLeDiff, reduceSub, Nat.reduceBEq])
  all_goals ((repeat' apply And.intro) <;> first|rfl|assumption|omega|(simp;done)|(simp;omega)|(simp_all;done))
 refine sA_n ?_
 refine a_seq ?_
 obtain ⟨r3, zh4, H⟩ := bind_some H
 have zk3 := slices_SortFunc_rc (cmp1 := span_asked_of_1_f) (cmp1_F := 80) (cmp1_caps := []) (fun _ _ _ h => span_asked_of_1_pc h) .nil zh4
 obtain ⟨zh5, H⟩ := chk_some H
 refine a_reg _ rfl (s := ?zs3) ?_ ?_
 rotate_left
 ·try simp only [EVT, stepR, evOp, St.ev, St.app, St.put, wrs, frz, TIS, CS, reduceAdd, reduceMul, reduceEqDiff, ↓reduceIte, reduceCtorEq, reduceLT, reduceLeDiff, reduceSub, Nat.reduceBEq]
  repeat' with_reducible apply And.intro
  all_goals try ((with_reducible show CallR _ _ _ _ _ _ _); refine callR_rcw (r' := .tup []) [(20, none), (20, some ⟨114, 3, false, r3.map Edge.c⟩)] [(some 20, ⟨114, 3, false, (r1 ++ r2).map Edge.c⟩)] [] [(20, 0, ⟨114, 3, false, r3.map Edge.c⟩)] rfl zk3 (by simp) (by show ([20] : List Nat).Nodup; decide) (allB_some (by rfl) rfl (.sm _ _ Edge.pu) trivial) (.cons (.refl' (by first|rfl|omega|(simp;done)|(simp;omega)|(simp_all;done)) rfl) (.cons (.fn' .nil .nil) .nil)) (by show ([20] : List Nat).Nodup; decide) (by show ([0] : List Nat).Nodup; decide) ⟨.inl ⟨by decide, rfl⟩, ⟨_, rfl, ⟨rfl, rfl, rfl, rfl⟩, .same _ _ Edge.pu rfl⟩, trivial⟩ (.tup' .nil) ?_; simp only [EVT, stepR, evOp, St.ev, St.app, St.put, wrs, frz, TIS, CS, reduceAdd, reduceMul, reduceEqDiff, ↓reduceIte, reduceCtorEq, reduceLT, reduceLeDiff, reduceSub, Nat.reduceBEq])
  all_goals ((repeat' apply And.intro) <;> first|rfl|assumption|omega|(simp;done)|(simp;omega)|(simp_all;done))
 refine sA_n ?_
 refine a_seq ?_
 refine a_reg _ rfl (s := ?zs4) ?_ ?_
 rotate_left
 ·simp only [EVT, stepR, evOp, St.ev, St.app, St.put, wrs, datOf, datOf1, TIS, CS, reduceAdd, reduceMul, reduceEqDiff, ↓reduceIte, reduceCtorEq, reduceLT, reduceLeDiff]
  (repeat' apply And.intro) <;> first|rfl|assumption|omega|(simp;done)|(simp;omega)|(simp_all;done)
 refine sA_n ?_
 refine a_seq ?_
 refine a_reg _ rfl (s := ?zs5) ?_ ?_
 rotate_left
 ·simp only [EVT, stepR, evOp, St.ev, St.app, St.put, wrs, allOne, TIS, CS, reduceAdd, reduceMul, reduceEqDiff, ↓reduceIte, reduceCtorEq, reduceLT, reduceLeDiff]
  (repeat' apply And.intro) <;> first|rfl|assumption|omega|(simp;done)|(simp;omega)|(simp_all;done)
 refine sA_n ?_
 refine a_seq ?_
 refine a_reg _ rfl (s := ?zs6) ?_ ?_
 rotate_left
 ·simp only [EVT, stepR, evOp, St.ev, St.app, St.put, wrs, datOf, datOf1, TIS, CS, reduceAdd, reduceMul, reduceEqDiff, ↓reduceIte, reduceCtorEq, reduceLT, reduceLeDiff]
  (repeat' apply And.intro) <;> first|rfl|assumption|omega|(simp;done)|(simp;omega)|(simp_all;done)
 refine sA_n ?_
 refine a_cut (fun s => ∃ (out1 : List Span) (t0 : Nat → Dat), span_asked_of_J1 out1 = some r ∧ s = ⟨tl t0 [(8, .ref 0 0 out1.length 2)], hl [⟨53, 2, false, out1.map Span.c⟩], 1, 87⟩) ?_ ?_
 ·refine a_seq ?_
  refine a_reg _ rfl (s := ?zs8) ?_ ?_
  rotate_left
  ·simp only [EVT, stepR, evOp, St.ev, St.app, St.put, wrs, evBuiltin, datOf, datOf1, TIS, CS, reduceAdd, reduceMul, reduceEqDiff, ↓reduceIte, reduceCtorEq, reduceLT, reduceLeDiff, reduceSub, Nat.reduceBEq]
   (repeat' apply And.intro) <;> first|rfl|assumption|omega|(simp;done)|(simp;omega)|(simp_all;done)
  refine sA_n ?_
  refine a_blk ?_
  refine a_loop (fun m s => ∃ (out2 : List Span) (deep1 : Int) (deep2 : Int) (from1 : Int) (v1 : Int) (v2 : Int) (t0 : Nat → Dat), span_asked_of_L1 r3 q1 m out2 deep1 deep2 from1 v1 v2 = some r ∧ s = ⟨tl t0 [(3, .ptr 0 0 0 1), (7, .ref 1 0 r3.length 3), (8, .ref 2 0 out2.length 2), (9, .ptr 3 0 0 2), (10, .int .i64 from1), (22, .ref 1 0 r3.length 3), (23, .int .i64 v1), (24, .int .i64 v2)], hl [⟨101, 1, false, [[.fn (.func q1_F) [] q1_caps]]⟩, ⟨114, 3, false, r3.map Edge.c⟩, ⟨53, 2, false, out2.map Span.c⟩, ⟨116, 2, false, [[.int .i64 deep1, .int .i64 deep2]]⟩], 4, 87⟩) BIG ?_ ?_
  ·refine wk_l [(some 0, ⟨101, 1, false, [[.fn (.func q1_F) [] q1_caps]]⟩), (some 20, ⟨114, 3, false, r3.map Edge.c⟩), (none, ⟨53, 2, false, [].map Span.c⟩), (some 88, ⟨116, 2, false, [[.int .i64 0, .int .i64 0]]⟩)] [] [(3, .ptr 0 0 0 1), (7, .ref 1 0 r3.length 3), (8, .ref 2 0 [].length 2), (9, .ptr 3 0 0 2), (10, .int .i64 (-1)), (22, .ref 1 0 r3.length 3), (23, .int .i64 (((r1.length + r2.length : Nat)) : Int)), (24, .int .i64 0)] (by show ([3, 7, 8, 9, 10, 22, 23, 24] : List Nat).Nodup; decide) (by show ([0, 20, 88] : List Nat).Nodup; decide) ?_ ?_ (fun t0 => ⟨[], 0, 0, (-1), (((r1.length + r2.length : Nat)) : Int), 0, t0, H, rfl⟩)
   ·exact (allB_some (by rfl) rfl (.cons (.cons (.fn' .nil (RNs.pu q1_pu)) .nil) .nil) (allB_some (by rfl) rfl (.sm _ _ Edge.pu) (allB_none rfl (allB_some (by rfl) rfl (.cons (.cons (.int' rfl) (.cons (.int' rfl) .nil)) .nil) trivial))))
   ·(simp only [AllT, ATT, reduceEqDiff, ↓reduceIte, and_true]); exact ⟨(.ptr _ _ _ _ _ rfl), (.refl' (by first|rfl|omega|(simp;done)|(simp;omega)|(simp_all;done)) rfl), (.nilv _ _ rfl rfl), (.ptr _ _ _ _ _ rfl), (.int' rfl), (.refl' (by first|rfl|omega|(simp;done)|(simp;omega)|(simp_all;done)) rfl), (.int' rfl), (.int' rfl)⟩
  ·rintro m_span_asked_of_L1 s ⟨out2, deep1, deep2, from1, v1, v2, t0, H, rfl⟩
   obtain _ | m_span_asked_of_L1 := m_span_asked_of_L1
   ·cases (show (none : Option _) = some _ from H)
   ·rw [span_asked_of_L1] at H
    refine a_seq ?_
    refine a_reg _ rfl (s := ?zs9) ?_ ?_
    rotate_left
    ·simp only [EVT, stepR, evOp, St.ev, St.app, St.put, wrs, evBin, binInt, TIS, CS, reduceAdd, reduceMul, reduceEqDiff, ↓reduceIte, reduceCtorEq, reduceLT, reduceLeDiff]
     (repeat' apply And.intro) <;> first|rfl|assumption|omega|(simp;done)|(simp;omega)|(simp_all;done)
    refine sA_n ?_
    refine a_seq ?_
    refine a_condb ((decide (v2 < v1))) (by rfl) (fun zc1 => ?_) (fun zc1 => ?_)
    ·have H := cond_t zc1 H
     refine a_skip ?_
     refine sA_n ?_
     refine a_cut (fun s => ∃ (out3 : List Span) (deep3 : Int) (deep4 : Int) (from2 : Int) (t0 : Nat → Dat), span_asked_of_J2 (span_asked_of_L1 r3 q1 m_span_asked_of_L1) v1 v2 out3 deep3 deep4 from2 = some r ∧ s = ⟨tl t0 [(3, .ptr 0 0 0 1), (7, .ref 1 0 r3.length 3), (8, .ref 2 0 out3.length 2), (9, .ptr 3 0 0 2), (10, .int .i64 from2), (22, .ref 1 0 r3.length 3), (23, .int .i64 v1), (24, .int .i64 v2)], hl [⟨101, 1, false, [[.fn (.func q1_F) [] q1_caps]]⟩, ⟨114, 3, false, r3.map Edge.c⟩, ⟨53, 2, false, out3.map Span.c⟩, ⟨116, 2, false, [[.int .i64 deep3, .int .i64 deep4]]⟩], 4, 87⟩) ?_ ?_
     ·refine a_blk ?_
      refine a_seq ?_
      obtain ⟨x1, zh6, H⟩ := bind_some H
      have zg1 := idx_map zh6 Edge.c
      try simp only [Int.reduceToNat, Int.toNat_natCast] at zg1
      obtain ⟨zh6a, zh6b, _⟩ := idx_some zh6
      refine a_reg _ rfl (s := ?zs11) ?_ ?_
      rotate_left
      ·simp only [EVT, stepR, evOp, St.ev, St.app, St.put, wrs, evIndexAddr, evLoad, cut, allOne, evStore, setR, TIS, CS, reduceAdd, reduceMul, reduceEqDiff, ↓reduceIte, reduceCtorEq, reduceLT, reduceLeDiff, Int.reduceToNat, reduceSub, Nat.reduceBEq, ↓zc1, zg1]
       (repeat' apply And.intro) <;> first|rfl|assumption|omega|(simp;done)|(simp;omega)|(simp_all;done)
      refine sA_n ?_
      refine a_seq ?_
      refine a_reg _ rfl (s := ?zs12) ?_ ?_
      rotate_left
      ·simp only [EVT, stepR, evOp, St.ev, St.app, St.put, wrs, datOf, datOf1, TIS, CS, reduceAdd, reduceMul, reduceEqDiff, ↓reduceIte, reduceCtorEq, reduceLT, reduceLeDiff, ↓zc1, zg1]
       (repeat' apply And.intro) <;> first|rfl|assumption|omega|(simp;done)|(simp;omega)|(simp_all;done)
      refine sA_n ?_
      refine a_seq ?_
      refine a_blk ?_
      refine a_cut (fun s => ∃ (step1 : Int) (t0 : Nat → Dat), span_asked_of_J3 (span_asked_of_L1 r3 q1 m_span_asked_of_L1) x1 v2 r3 v1 out2 deep2 from1 q1 deep1 step1 = some r ∧ s = ⟨tl t0 [(3, .ptr 0 0 0 1), (7, .ref 1 0 r3.length 3), (8, .ref 2 0 out2.length 2), (9, .ptr 3 0 0 2), (10, .int .i64 from1), (11, .int .i64 v2), (12, .ptr 4 0 0 3), (13, .int .i64 step1), (22, .ref 1 0 r3.length 3), (23, .int .i64 v1), (24, .int .i64 v2)], hl [⟨101, 1, false, [[.fn (.func q1_F) [] q1_caps]]⟩, ⟨114, 3, false, r3.map Edge.c⟩, ⟨53, 2, false, out2.map Span.c⟩, ⟨116, 2, false, [[.int .i64 deep1, .int .i64 deep2]]⟩, ⟨114, 3, false, [[.int .i64 x1.at_, .int .i64 x1.set, .bool x1.begins]]⟩], 5, 87⟩) ?_ ?_
      ·refine a_blk ?_
       refine a_seq ?_
       refine a_blk ?_
       refine a_seq ?_
       refine a_seq ?_
       refine a_reg _ rfl (s := ?zs35) ?_ ?_
       rotate_left
       ·simp only [EVT, stepR, evOp, St.ev, St.app, St.put, wrs, evFieldAddr, evLoad, cut, evUn, TIS, CS, reduceAdd, reduceMul, reduceEqDiff, ↓reduceIte, reduceCtorEq, reduceLT, reduceLeDiff, reduceSub, Nat.reduceBEq, ↓zc1, zg1]
        (repeat' apply And.intro) <;> first|rfl|assumption|omega|(simp;done)|(simp;omega)|(simp_all;done)
       refine sA_n ?_
       refine a_condb ((!x1.begins)) (by rfl) (fun zc14 => ?_) (fun zc14 => ?_)
       ·have H := cond_t zc14 H
        refine a_exit ?_
        refine sA_e ?_
        refine bA_hit ?_
        refine sA_n ?_
        refine a_reg _ rfl (s := ?zs36) ?_ ?_
        rotate_left
        ·simp only [EVT, stepR, evOp, St.ev, St.app, St.put, wrs, datOf, datOf1, TIS, CS, reduceAdd, reduceMul, reduceEqDiff, ↓reduceIte, reduceCtorEq, reduceLT, reduceLeDiff, ↓zc1, zg1, ↓zc14]
         (repeat' apply And.intro) <;> first|rfl|assumption|omega|(simp;done)|(simp;omega)|(simp_all;done)
        refine bA_n ?_
        refine cA_n ?_
        refine wk_l [(some 0, ⟨101, 1, false, [[.fn (.func q1_F) [] q1_caps]]⟩), (some 1, ⟨114, 3, false, r3.map Edge.c⟩), (some 2, ⟨53, 2, false, out2.map Span.c⟩), (some 3, ⟨116, 2, false, [[.int .i64 deep1, .int .i64 deep2]]⟩), (some 15, ⟨114, 3, false, [[.int .i64 x1.at_, .int .i64 x1.set, .bool x1.begins]]⟩)] [] [(3, .ptr 0 0 0 1), (7, .ref 1 0 r3.length 3), (8, .ref 2 0 out2.length 2), (9, .ptr 3 0 0 2), (10, .int .i64 from1), (11, .int .i64 v2), (12, .ptr 4 0 0 3), (13, .int .i64 (-1)), (22, .ref 1 0 r3.length 3), (23, .int .i64 v1), (24, .int .i64 v2)] (by show ([3, 7, 8, 9, 10, 11, 12, 13, 22, 23, 24] : List Nat).Nodup; decide) (by show ([0, 1, 2, 3, 15] : List Nat).Nodup; decide) ?_ ?_ (fun t0 => ⟨(-1), t0, H, rfl⟩)
        ·exact (allB_some (by rfl) rfl (.cons (.cons (.fn' .nil (RNs.pu q1_pu)) .nil) .nil) (allB_some (by rfl) rfl (.sm _ _ Edge.pu) (allB_some (by rfl) rfl (.sm _ _ Span.pu) (allB_some (by rfl) rfl (.cons (.cons (.int' rfl) (.cons (.int' rfl) .nil)) .nil) (allB_some (by rfl) rfl (.cons (.cons (.int' rfl) (.cons (.int' rfl) (.cons (.bool' rfl) .nil))) .nil) trivial)))))
        ·(simp only [AllT, ATT, reduceEqDiff, ↓reduceIte, and_true]); exact ⟨(.ptr _ _ _ _ _ rfl), (.refl' (by first|rfl|omega|(simp;done)|(simp;omega)|(simp_all;done)) rfl), (.refl' (by first|rfl|omega|(simp;done)|(simp;omega)|(simp_all;done)) rfl), (.ptr _ _ _ _ _ rfl), (.int' rfl), (.int' rfl), (.ptr _ _ _ _ _ rfl), (.int' rfl), (.refl' (by first|rfl|omega|(simp;done)|(simp;omega)|(simp_all;done)) rfl), (.int' rfl), (.int' rfl)⟩
       ·have H := cond_f zc14 H
        refine a_skip ?_
        refine sA_n ?_
        refine a_exit ?_
        refine bA_e (by decide) ?_
        refine sA_e ?_
        refine bA_hit ?_
        refine cA_n ?_
        refine wk_l [(some 0, ⟨101, 1, false, [[.fn (.func q1_F) [] q1_caps]]⟩), (some 1, ⟨114, 3, false, r3.map Edge.c⟩), (some 2, ⟨53, 2, false, out2.map Span.c⟩), (some 3, ⟨116, 2, false, [[.int .i64 deep1, .int .i64 deep2]]⟩), (some 15, ⟨114, 3, false, [[.int .i64 x1.at_, .int .i64 x1.set, .bool x1.begins]]⟩)] [] [(3, .ptr 0 0 0 1), (7, .ref 1 0 r3.length 3), (8, .ref 2 0 out2.length 2), (9, .ptr 3 0 0 2), (10, .int .i64 from1), (11, .int .i64 v2), (12, .ptr 4 0 0 3), (13, .int .i64 1), (22, .ref 1 0 r3.length 3), (23, .int .i64 v1), (24, .int .i64 v2)] (by show ([3, 7, 8, 9, 10, 11, 12, 13, 22, 23, 24] : List Nat).Nodup; decide) (by show ([0, 1, 2, 3, 15] : List Nat).Nodup; decide) ?_ ?_ (fun t0 => ⟨1, t0, H, rfl⟩)
        ·exact (allB_some (by rfl) rfl (.cons (.cons (.fn' .nil (RNs.pu q1_pu)) .nil) .nil) (allB_some (by rfl) rfl (.sm _ _ Edge.pu) (allB_some (by rfl) rfl (.sm _ _ Span.pu) (allB_some (by rfl) rfl (.cons (.cons (.int' rfl) (.cons (.int' rfl) .nil)) .nil) (allB_some (by rfl) rfl (.cons (.cons (.int' rfl) (.cons (.int' rfl) (.cons (.bool' rfl) .nil))) .nil) trivial)))))
        ·(simp only [AllT, ATT, reduceEqDiff, ↓reduceIte, and_true]); exact ⟨(.ptr _ _ _ _ _ rfl), (.refl' (by first|rfl|omega|(simp;done)|(simp;omega)|(simp_all;done)) rfl), (.refl' (by first|rfl|omega|(simp;done)|(simp;omega)|(simp_all;done)) rfl), (.ptr _ _ _ _ _ rfl), (.int' rfl), (.int' rfl), (.ptr _ _ _ _ _ rfl), (.int' rfl), (.refl' (by first|rfl|omega|(simp;done)|(simp;omega)|(simp_all;done)) rfl), (.int' rfl), (.int' rfl)⟩
      ·rintro s ⟨step1, t0, H, rfl⟩
       unfold span_asked_of_J3 at H
       refine a_seq ?_
       rcases two_some H with ⟨zq1, H⟩ | ⟨zq1, H⟩
       ·try skip
        refine a_reg _ rfl (s := ?zs13) ?_ ?_
        rotate_left
        ·simp only [EVT, stepR, evOp, St.ev, St.app, St.put, wrs, evFieldAddr, evLoad, cut, evIndexAddr, evBin, binInt, evStore, setR, allOne, TIS, CS, reduceAdd, reduceMul, reduceEqDiff, ↓reduceIte, reduceCtorEq, reduceLT, reduceLeDiff, Int.reduceToNat, reduceSub, Nat.reduceBEq, zq1]
         (repeat' apply And.intro) <;> first|rfl|assumption|omega|(simp;done)|(simp;omega)|(simp_all;done)
        refine sA_n ?_
        refine a_exit ?_
        refine bA_hit ?_
        refine sA_n ?_
        refine a_seq ?_
        refine a_cut (fun s => ∃ (deep5 : Int) (v3 : Bool) (t0 : Nat → Dat), span_asked_of_J4 (span_asked_of_L1 r3 q1 m_span_asked_of_L1) v1 v2 out2 deep2 from1 q1 x1 deep5 v3 = some r ∧ s = ⟨tl t0 [(3, .ptr 0 0 0 1), (7, .ref 1 0 r3.length 3), (8, .ref 2 0 out2.length 2), (9, .ptr 3 0 0 2), (10, .int .i64 from1), (12, .ptr 4 0 0 3), (22, .ref 1 0 r3.length 3), (23, .int .i64 v1), (24, .int .i64 v2), (55, .bool v3)], hl [⟨101, 1, false, [[.fn (.func q1_F) [] q1_caps]]⟩, ⟨114, 3, false, r3.map Edge.c⟩, ⟨53, 2, false, out2.map Span.c⟩, ⟨116, 2, false, [[.int .i64 deep5, .int .i64 deep2]]⟩, ⟨114, 3, false, [[.int .i64 x1.at_, .int .i64 0, .bool x1.begins]]⟩], 5, 87⟩) ?_ ?_
        ·refine bool_split (b := (decide ((IntKind.wrap .i64 (v2 + 1)) < (((r3.length : Nat)) : Int)))) (fun zc7 => ?_) (fun zc7 => ?_)
         ·have H := cond_t zc7 H
          obtain ⟨x2, zh9, H⟩ := bind_some H
          have zg2 := idx_map zh9 Edge.c
          try simp only [Int.reduceToNat, Int.toNat_natCast] at zg2
          obtain ⟨zh9a, zh9b, _⟩ := idx_some zh9
          refine a_drW (by kernel_rfl) _ rfl (s := ?zs22) (by kernel_rfl) (by kernel_rfl) ?zs22f ?_ ?_ ?_
          rotate_left 2
          ·simp only [EVT, stepW, evOp, St.ev, St.app, St.put, wrs, datOf, datOf1, evBin, binInt, evBuiltin, evIndexAddr, evFieldAddr, evLoad, cut, TIS, CS, reduceAdd, reduceMul, reduceEqDiff, ↓reduceIte, reduceCtorEq, reduceLT, reduceLeDiff, Array.reduceGetElem?, Int.reduceToNat, reduceSub, Nat.reduceBEq, zq1, ↓zc7, zg2]
           try simp only [EVT, stepW, evOp, St.ev, St.app, St.put, wrs, datOf, datOf1, evBin, binInt, evBuiltin, evIndexAddr, evFieldAddr, evLoad, cut, TIS, CS, reduceAdd, reduceMul, reduceEqDiff, ↓reduceIte, reduceCtorEq, reduceLT, reduceLeDiff, Array.reduceGetElem?, Int.reduceToNat, reduceSub, Nat.reduceBEq, zq1, ↓zc7, zg2]
           (repeat' apply And.intro) <;> first|rfl|assumption|omega|(simp;done)|(simp;omega)|(simp_all;done)
          ·kernel_rfl
          refine cA_n ?_
          refine wk_l [(some 0, ⟨101, 1, false, [[.fn (.func q1_F) [] q1_caps]]⟩), (some 1, ⟨114, 3, false, r3.map Edge.c⟩), (some 2, ⟨53, 2, false, out2.map Span.c⟩), (some 3, ⟨116, 2, false, [[.int .i64 (IntKind.wrap .i64 (deep1 + step1)), .int .i64 deep2]]⟩), (some 4, ⟨114, 3, false, [[.int .i64 x1.at_, .int .i64 0, .bool x1.begins]]⟩)] [] [(3, .ptr 0 0 0 1), (7, .ref 1 0 r3.length 3), (8, .ref 2 0 out2.length 2), (9, .ptr 3 0 0 2), (10, .int .i64 from1), (12, .ptr 4 0 0 3), (22, .ref 1 0 r3.length 3), (23, .int .i64 v1), (24, .int .i64 v2), (55, .bool (x2.at_ == x1.at_))] (by show ([3, 7, 8, 9, 10, 12, 22, 23, 24, 55] : List Nat).Nodup; decide) (by show ([0, 1, 2, 3, 4] : List Nat).Nodup; decide) ?_ ?_ (fun t0 => ⟨(IntKind.wrap .i64 (deep1 + step1)), (x2.at_ == x1.at_), t0, H, rfl⟩)
          ·exact (allB_some (by rfl) rfl (.cons (.cons (.fn' .nil (RNs.pu q1_pu)) .nil) .nil) (allB_some (by rfl) rfl (.sm _ _ Edge.pu) (allB_some (by rfl) rfl (.sm _ _ Span.pu) (allB_some (by rfl) rfl (.cons (.cons (.int' rfl) (.cons (.int' rfl) .nil)) .nil) (allB_some (by rfl) rfl (.cons (.cons (.int' rfl) (.cons (.int' rfl) (.cons (.bool' rfl) .nil))) .nil) trivial)))))
          ·(simp only [AllT, ATT, reduceEqDiff, ↓reduceIte, and_true]); exact ⟨(.ptr _ _ _ _ _ rfl), (.refl' (by first|rfl|omega|(simp;done)|(simp;omega)|(simp_all;done)) rfl), (.refl' (by first|rfl|omega|(simp;done)|(simp;omega)|(simp_all;done)) rfl), (.ptr _ _ _ _ _ rfl), (.int' rfl), (.ptr _ _ _ _ _ rfl), (.refl' (by first|rfl|omega|(simp;done)|(simp;omega)|(simp_all;done)) rfl), (.int' rfl), (.int' rfl), (.bool' rfl)⟩
         ·have H := cond_f zc7 H
          refine a_drW (by kernel_rfl) _ rfl (s := ?zs23) (by kernel_rfl) (by kernel_rfl) ?zs23f ?_ ?_ ?_
          rotate_left 2
          ·simp only [EVT, stepW, evOp, St.ev, St.app, St.put, wrs, datOf, datOf1, evBin, binInt, evBuiltin, evIndexAddr, evFieldAddr, evLoad, cut, TIS, CS, reduceAdd, reduceMul, reduceEqDiff, ↓reduceIte, reduceCtorEq, reduceLT, reduceLeDiff, Array.reduceGetElem?, Int.reduceToNat, reduceSub, Nat.reduceBEq, zq1, ↓zc7]
           try simp only [EVT, stepW, evOp, St.ev, St.app, St.put, wrs, datOf, datOf1, evBin, binInt, evBuiltin, evIndexAddr, evFieldAddr, evLoad, cut, TIS, CS, reduceAdd, reduceMul, reduceEqDiff, ↓reduceIte, reduceCtorEq, reduceLT, reduceLeDiff, Array.reduceGetElem?, Int.reduceToNat, reduceSub, Nat.reduceBEq, zq1, ↓zc7]
           (repeat' apply And.intro) <;> first|rfl|assumption|omega|(simp;done)|(simp;omega)|(simp_all;done)
          ·kernel_rfl
          refine cA_n ?_
          refine wk_l [(some 0, ⟨101, 1, false, [[.fn (.func q1_F) [] q1_caps]]⟩), (some 1, ⟨114, 3, false, r3.map Edge.c⟩), (some 2, ⟨53, 2, false, out2.map Span.c⟩), (some 3, ⟨116, 2, false, [[.int .i64 (IntKind.wrap .i64 (deep1 + step1)), .int .i64 deep2]]⟩), (some 4, ⟨114, 3, false, [[.int .i64 x1.at_, .int .i64 0, .bool x1.begins]]⟩)] [] [(3, .ptr 0 0 0 1), (7, .ref 1 0 r3.length 3), (8, .ref 2 0 out2.length 2), (9, .ptr 3 0 0 2), (10, .int .i64 from1), (12, .ptr 4 0 0 3), (22, .ref 1 0 r3.length 3), (23, .int .i64 v1), (24, .int .i64 v2), (55, .bool false)] (by show ([3, 7, 8, 9, 10, 12, 22, 23, 24, 55] : List Nat).Nodup; decide) (by show ([0, 1, 2, 3, 4] : List Nat).Nodup; decide) ?_ ?_ (fun t0 => ⟨(IntKind.wrap .i64 (deep1 + step1)), false, t0, H, rfl⟩)
          ·exact (allB_some (by rfl) rfl (.cons (.cons (.fn' .nil (RNs.pu q1_pu)) .nil) .nil) (allB_some (by rfl) rfl (.sm _ _ Edge.pu) (allB_some (by rfl) rfl (.sm _ _ Span.pu) (allB_some (by rfl) rfl (.cons (.cons (.int' rfl) (.cons (.int' rfl) .nil)) .nil) (allB_some (by rfl) rfl (.cons (.cons (.int' rfl) (.cons (.int' rfl) (.cons (.bool' rfl) .nil))) .nil) trivial)))))
          ·(simp only [AllT, ATT, reduceEqDiff, ↓reduceIte, and_true]); exact ⟨(.ptr _ _ _ _ _ rfl), (.refl' (by first|rfl|omega|(simp;done)|(simp;omega)|(simp_all;done)) rfl), (.refl' (by first|rfl|omega|(simp;done)|(simp;omega)|(simp_all;done)) rfl), (.ptr _ _ _ _ _ rfl), (.int' rfl), (.ptr _ _ _ _ _ rfl), (.refl' (by first|rfl|omega|(simp;done)|(simp;omega)|(simp_all;done)) rfl), (.int' rfl), (.int' rfl), (.bool' (by first | rfl | assumption | (simp_all; done)))⟩
        ·rintro s ⟨deep5, v3, t0, H, rfl⟩
         unfold span_asked_of_J4 at H
         refine a_condb (v3) (by rfl) (fun zc2 => ?_) (fun zc2 => ?_)
         ·have H := cond_t zc2 H
          refine a_exit ?_
          refine sA_e ?_
          refine bA_hit ?_
          refine cA_n ?_
          refine wk_l [(some 0, ⟨101, 1, false, [[.fn (.func q1_F) [] q1_caps]]⟩), (some 1, ⟨114, 3, false, r3.map Edge.c⟩), (some 2, ⟨53, 2, false, out2.map Span.c⟩), (some 3, ⟨116, 2, false, [[.int .i64 deep5, .int .i64 deep2]]⟩)] [] [(3, .ptr 0 0 0 1), (7, .ref 1 0 r3.length 3), (8, .ref 2 0 out2.length 2), (9, .ptr 3 0 0 2), (10, .int .i64 from1), (22, .ref 1 0 r3.length 3), (23, .int .i64 v1), (24, .int .i64 v2)] (by show ([3, 7, 8, 9, 10, 22, 23, 24] : List Nat).Nodup; decide) (by show ([0, 1, 2, 3] : List Nat).Nodup; decide) ?_ ?_ (fun t0 => ⟨out2, deep5, deep2, from1, t0, H, rfl⟩)
          ·exact (allB_some (by rfl) rfl (.cons (.cons (.fn' .nil (RNs.pu q1_pu)) .nil) .nil) (allB_some (by rfl) rfl (.sm _ _ Edge.pu) (allB_some (by rfl) rfl (.sm _ _ Span.pu) (allB_some (by rfl) rfl (.cons (.cons (.int' rfl) (.cons (.int' rfl) .nil)) .nil) trivial))))
          ·(simp only [AllT, ATT, reduceEqDiff, ↓reduceIte, and_true]); exact ⟨(.ptr _ _ _ _ _ rfl), (.refl' (by first|rfl|omega|(simp;done)|(simp;omega)|(simp_all;done)) rfl), (.refl' (by first|rfl|omega|(simp;done)|(simp;omega)|(simp_all;done)) rfl), (.ptr _ _ _ _ _ rfl), (.int' rfl), (.refl' (by first|rfl|omega|(simp;done)|(simp;omega)|(simp_all;done)) rfl), (.int' rfl), (.int' rfl)⟩
         ·have H := cond_f zc2 H
          refine a_skip ?_
          refine sA_n ?_
          refine a_seq ?_
          obtain ⟨r4, zh7, H⟩ := bind_some H
          have zk4 := q1_hp _ _ _ zh7
          refine a_reg _ rfl (s := ?zs14) ?_ ?_
          rotate_left
          ·try simp only [EVT, stepR, evOp, St.ev, St.app, St.put, wrs, evFieldAddr, evLoad, cut, datOf, datOf1, evIndexAddr, evBin, binInt, frz, TIS, CS, reduceAdd, reduceMul, reduceEqDiff, ↓reduceIte, reduceCtorEq, reduceLT, reduceLeDiff, Int.reduceToNat, reduceSub, Nat.reduceBEq, ↓zc2]
           repeat' with_reducible apply And.intro
           all_goals try ((with_reducible show CallR _ _ _ _ _ _ _); refine cR_s zk4 (.cons (.bool' rfl) (.cons (.bool' rfl) (Pus.purRs q1_pu))) (.bool _) ?_; simp only [EVT, stepR, evOp, St.ev, St.app, St.put, wrs, evFieldAddr, evLoad, cut, datOf, datOf1, evIndexAddr, evBin, binInt, frz, TIS, CS, reduceAdd, reduceMul, reduceEqDiff, ↓reduceIte, reduceCtorEq, reduceLT, reduceLeDiff, Int.reduceToNat, reduceSub, Nat.reduceBEq, ↓zc2])
           all_goals ((repeat' apply And.intro) <;> first|rfl|assumption|omega|(simp;done)|(simp;omega)|(simp_all;done))
          refine sA_n ?_
          refine a_cut (fun s => ∃ (from3 : Int) (in1 : Bool) (t0 : Nat → Dat), span_asked_of_J5 (span_asked_of_L1 r3 q1 m_span_asked_of_L1) out2 v1 v2 x1 deep5 deep2 from3 in1 = some r ∧ s = ⟨tl t0 [(3, .ptr 0 0 0 1), (7, .ref 1 0 r3.length 3), (8, .ref 2 0 out2.length 2), (9, .ptr 3 0 0 2), (10, .int .i64 from3), (12, .ptr 4 0 0 3), (14, .bool in1), (22, .ref 1 0 r3.length 3), (23, .int .i64 v1), (24, .int .i64 v2)], hl [⟨101, 1, false, [[.fn (.func q1_F) [] q1_caps]]⟩, ⟨114, 3, false, r3.map Edge.c⟩, ⟨53, 2, false, out2.map Span.c⟩, ⟨116, 2, false, [[.int .i64 deep5, .int .i64 deep2]]⟩, ⟨114, 3, false, [[.int .i64 x1.at_, .int .i64 0, .bool x1.begins]]⟩], 5, 87⟩) ?_ ?_
          ·refine a_cut (fun s => ∃ (in2 : Bool) (v5 : Bool) (t0 : Nat → Dat), span_asked_of_J7 (span_asked_of_L1 r3 q1 m_span_asked_of_L1) out2 v1 v2 x1 deep5 deep2 from1 in2 v5 = some r ∧ s = ⟨tl t0 [(3, .ptr 0 0 0 1), (7, .ref 1 0 r3.length 3), (8, .ref 2 0 out2.length 2), (9, .ptr 3 0 0 2), (10, .int .i64 from1), (12, .ptr 4 0 0 3), (14, .bool in2), (22, .ref 1 0 r3.length 3), (23, .int .i64 v1), (24, .int .i64 v2), (69, .bool v5)], hl [⟨101, 1, false, [[.fn (.func q1_F) [] q1_caps]]⟩, ⟨114, 3, false, r3.map Edge.c⟩, ⟨53, 2, false, out2.map Span.c⟩, ⟨116, 2, false, [[.int .i64 deep5, .int .i64 deep2]]⟩, ⟨114, 3, false, [[.int .i64 x1.at_, .int .i64 0, .bool x1.begins]]⟩], 5, 87⟩) ?_ ?_
           ·refine bool_split (b := r4) (fun zc6 => ?_) (fun zc6 => ?_)
            ·have H := cond_t zc6 H
             refine a_reg _ rfl (s := ?zs20) ?_ ?_
             rotate_left
             ·simp only [EVT, stepR, evOp, St.ev, St.app, St.put, wrs, datOf, datOf1, evBin, binInt, TIS, CS, reduceAdd, reduceMul, reduceEqDiff, ↓reduceIte, reduceCtorEq, reduceLT, reduceLeDiff, Array.reduceGetElem?, ↓zc2, ↓zc6]
              try simp only [EVT, stepR, evOp, St.ev, St.app, St.put, wrs, datOf, datOf1, evBin, binInt, TIS, CS, reduceAdd, reduceMul, reduceEqDiff, ↓reduceIte, reduceCtorEq, reduceLT, reduceLeDiff, Array.reduceGetElem?, ↓zc2, ↓zc6]
              (repeat' apply And.intro) <;> first|rfl|assumption|omega|(simp;done)|(simp;omega)|(simp_all;done)
             refine cA_n ?_
             refine wk_l [(some 0, ⟨101, 1, false, [[.fn (.func q1_F) [] q1_caps]]⟩), (some 1, ⟨114, 3, false, r3.map Edge.c⟩), (some 2, ⟨53, 2, false, out2.map Span.c⟩), (some 3, ⟨116, 2, false, [[.int .i64 deep5, .int .i64 deep2]]⟩), (some 4, ⟨114, 3, false, [[.int .i64 x1.at_, .int .i64 0, .bool x1.begins]]⟩)] [] [(3, .ptr 0 0 0 1), (7, .ref 1 0 r3.length 3), (8, .ref 2 0 out2.length 2), (9, .ptr 3 0 0 2), (10, .int .i64 from1), (12, .ptr 4 0 0 3), (14, .bool true), (22, .ref 1 0 r3.length 3), (23, .int .i64 v1), (24, .int .i64 v2), (69, .bool (decide (from1 < 0)))] (by show ([3, 7, 8, 9, 10, 12, 14, 22, 23, 24, 69] : List Nat).Nodup; decide) (by show ([0, 1, 2, 3, 4] : List Nat).Nodup; decide) ?_ ?_ (fun t0 => ⟨true, (decide (from1 < 0)), t0, H, rfl⟩)
             ·exact (allB_some (by rfl) rfl (.cons (.cons (.fn' .nil (RNs.pu q1_pu)) .nil) .nil) (allB_some (by rfl) rfl (.sm _ _ Edge.pu) (allB_some (by rfl) rfl (.sm _ _ Span.pu) (allB_some (by rfl) rfl (.cons (.cons (.int' rfl) (.cons (.int' rfl) .nil)) .nil) (allB_some (by rfl) rfl (.cons (.cons (.int' rfl) (.cons (.int' rfl) (.cons (.bool' rfl) .nil))) .nil) trivial)))))
             ·(simp only [AllT, ATT, reduceEqDiff, ↓reduceIte, and_true]); exact ⟨(.ptr _ _ _ _ _ rfl), (.refl' (by first|rfl|omega|(simp;done)|(simp;omega)|(simp_all;done)) rfl), (.refl' (by first|rfl|omega|(simp;done)|(simp;omega)|(simp_all;done)) rfl), (.ptr _ _ _ _ _ rfl), (.int' rfl), (.ptr _ _ _ _ _ rfl), (.bool' (by first | rfl | assumption | (simp_all; done))), (.refl' (by first|rfl|omega|(simp;done)|(simp;omega)|(simp_all;done)) rfl), (.int' rfl), (.int' rfl), (.bool' rfl)⟩
            ·have H := cond_f zc6 H
             refine a_reg _ rfl (s := ?zs21) ?_ ?_
             rotate_left
             ·simp only [EVT, stepR, evOp, St.ev, St.app, St.put, wrs, datOf, datOf1, evBin, binInt, TIS, CS, reduceAdd, reduceMul, reduceEqDiff, ↓reduceIte, reduceCtorEq, reduceLT, reduceLeDiff, Array.reduceGetElem?, ↓zc2, ↓zc6]
              try simp only [EVT, stepR, evOp, St.ev, St.app, St.put, wrs, datOf, datOf1, evBin, binInt, TIS, CS, reduceAdd, reduceMul, reduceEqDiff, ↓reduceIte, reduceCtorEq, reduceLT, reduceLeDiff, Array.reduceGetElem?, ↓zc2, ↓zc6]
              (repeat' apply And.intro) <;> first|rfl|assumption|omega|(simp;done)|(simp;omega)|(simp_all;done)
             refine cA_n ?_
             refine wk_l [(some 0, ⟨101, 1, false, [[.fn (.func q1_F) [] q1_caps]]⟩), (some 1, ⟨114, 3, false, r3.map Edge.c⟩), (some 2, ⟨53, 2, false, out2.map Span.c⟩), (some 3, ⟨116, 2, false, [[.int .i64 deep5, .int .i64 deep2]]⟩), (some 4, ⟨114, 3, false, [[.int .i64 x1.at_, .int .i64 0, .bool x1.begins]]⟩)] [] [(3, .ptr 0 0 0 1), (7, .ref 1 0 r3.length 3), (8, .ref 2 0 out2.length 2), (9, .ptr 3 0 0 2), (10, .int .i64 from1), (12, .ptr 4 0 0 3), (14, .bool false), (22, .ref 1 0 r3.length 3), (23, .int .i64 v1), (24, .int .i64 v2), (69, .bool false)] (by show ([3, 7, 8, 9, 10, 12, 14, 22, 23, 24, 69] : List Nat).Nodup; decide) (by show ([0, 1, 2, 3, 4] : List Nat).Nodup; decide) ?_ ?_ (fun t0 => ⟨false, false, t0, H, rfl⟩)
             ·exact (allB_some (by rfl) rfl (.cons (.cons (.fn' .nil (RNs.pu q1_pu)) .nil) .nil) (allB_some (by rfl) rfl (.sm _ _ Edge.pu) (allB_some (by rfl) rfl (.sm _ _ Span.pu) (allB_some (by rfl) rfl (.cons (.cons (.int' rfl) (.cons (.int' rfl) .nil)) .nil) (allB_some (by rfl) rfl (.cons (.cons (.int' rfl) (.cons (.int' rfl) (.cons (.bool' rfl) .nil))) .nil) trivial)))))
             ·(simp only [AllT, ATT, reduceEqDiff, ↓reduceIte, and_true]); exact ⟨(.ptr _ _ _ _ _ rfl), (.refl' (by first|rfl|omega|(simp;done)|(simp;omega)|(simp_all;done)) rfl), (.refl' (by first|rfl|omega|(simp;done)|(simp;omega)|(simp_all;done)) rfl), (.ptr _ _ _ _ _ rfl), (.int' rfl), (.ptr _ _ _ _ _ rfl), (.bool' (by first | rfl | assumption | (simp_all; done))), (.refl' (by first|rfl|omega|(simp;done)|(simp;omega)|(simp_all;done)) rfl), (.int' rfl), (.int' rfl), (.bool' (by first | rfl | assumption | (simp_all; done)))⟩
           ·rintro s ⟨in2, v5, t0, H, rfl⟩
            unfold span_asked_of_J7 at H
            refine a_condb (v5) (by rfl) (fun zc5 => ?_) (fun zc5 => ?_)
            ·have H := cond_t zc5 H
             refine a_reg _ rfl (s := ?zs19) ?_ ?_
             rotate_left
             ·simp only [EVT, stepR, evOp, St.ev, St.app, St.put, wrs, evFieldAddr, evLoad, cut, TIS, CS, reduceAdd, reduceMul, reduceEqDiff, ↓reduceIte, reduceCtorEq, reduceLT, reduceLeDiff, reduceSub, Nat.reduceBEq, ↓zc5]
              (repeat' apply And.intro) <;> first|rfl|assumption|omega|(simp;done)|(simp;omega)|(simp_all;done)
             refine cA_n ?_
             refine wk_l [(some 0, ⟨101, 1, false, [[.fn (.func q1_F) [] q1_caps]]⟩), (some 1, ⟨114, 3, false, r3.map Edge.c⟩), (some 2, ⟨53, 2, false, out2.map Span.c⟩), (some 3, ⟨116, 2, false, [[.int .i64 deep5, .int .i64 deep2]]⟩), (some 4, ⟨114, 3, false, [[.int .i64 x1.at_, .int .i64 0, .bool x1.begins]]⟩)] [] [(3, .ptr 0 0 0 1), (7, .ref 1 0 r3.length 3), (8, .ref 2 0 out2.length 2), (9, .ptr 3 0 0 2), (10, .int .i64 x1.at_), (12, .ptr 4 0 0 3), (14, .bool in2), (22, .ref 1 0 r3.length 3), (23, .int .i64 v1), (24, .int .i64 v2)] (by show ([3, 7, 8, 9, 10, 12, 14, 22, 23, 24] : List Nat).Nodup; decide) (by show ([0, 1, 2, 3, 4] : List Nat).Nodup; decide) ?_ ?_ (fun t0 => ⟨x1.at_, in2, t0, H, rfl⟩)
             ·exact (allB_some (by rfl) rfl (.cons (.cons (.fn' .nil (RNs.pu q1_pu)) .nil) .nil) (allB_some (by rfl) rfl (.sm _ _ Edge.pu) (allB_some (by rfl) rfl (.sm _ _ Span.pu) (allB_some (by rfl) rfl (.cons (.cons (.int' rfl) (.cons (.int' rfl) .nil)) .nil) (allB_some (by rfl) rfl (.cons (.cons (.int' rfl) (.cons (.int' rfl) (.cons (.bool' rfl) .nil))) .nil) trivial)))))
             ·(simp only [AllT, ATT, reduceEqDiff, ↓reduceIte, and_true]); exact ⟨(.ptr _ _ _ _ _ rfl), (.refl' (by first|rfl|omega|(simp;done)|(simp;omega)|(simp_all;done)) rfl), (.refl' (by first|rfl|omega|(simp;done)|(simp;omega)|(simp_all;done)) rfl), (.ptr _ _ _ _ _ rfl), (.int' rfl), (.ptr _ _ _ _ _ rfl), (.bool' rfl), (.refl' (by first|rfl|omega|(simp;done)|(simp;omega)|(simp_all;done)) rfl), (.int' rfl), (.int' rfl)⟩
            ·have H := cond_f zc5 H
             refine a_skip ?_
             refine cA_n ?_
             refine wk_l [(some 0, ⟨101, 1, false, [[.fn (.func q1_F) [] q1_caps]]⟩), (some 1, ⟨114, 3, false, r3.map Edge.c⟩), (some 2, ⟨53, 2, false, out2.map Span.c⟩), (some 3, ⟨116, 2, false, [[.int .i64 deep5, .int .i64 deep2]]⟩), (some 4, ⟨114, 3, false, [[.int .i64 x1.at_, .int .i64 0, .bool x1.begins]]⟩)] [] [(3, .ptr 0 0 0 1), (7, .ref 1 0 r3.length 3), (8, .ref 2 0 out2.length 2), (9, .ptr 3 0 0 2), (10, .int .i64 from1), (12, .ptr 4 0 0 3), (14, .bool in2), (22, .ref 1 0 r3.length 3), (23, .int .i64 v1), (24, .int .i64 v2)] (by show ([3, 7, 8, 9, 10, 12, 14, 22, 23, 24] : List Nat).Nodup; decide) (by show ([0, 1, 2, 3, 4] : List Nat).Nodup; decide) ?_ ?_ (fun t0 => ⟨from1, in2, t0, H, rfl⟩)
             ·exact (allB_some (by rfl) rfl (.cons (.cons (.fn' .nil (RNs.pu q1_pu)) .nil) .nil) (allB_some (by rfl) rfl (.sm _ _ Edge.pu) (allB_some (by rfl) rfl (.sm _ _ Span.pu) (allB_some (by rfl) rfl (.cons (.cons (.int' rfl) (.cons (.int' rfl) .nil)) .nil) (allB_some (by rfl) rfl (.cons (.cons (.int' rfl) (.cons (.int' rfl) (.cons (.bool' rfl) .nil))) .nil) trivial)))))
             ·(simp only [AllT, ATT, reduceEqDiff, ↓reduceIte, and_true]); exact ⟨(.ptr _ _ _ _ _ rfl), (.refl' (by first|rfl|omega|(simp;done)|(simp;omega)|(simp_all;done)) rfl), (.refl' (by first|rfl|omega|(simp;done)|(simp;omega)|(simp_all;done)) rfl), (.ptr _ _ _ _ _ rfl), (.int' rfl), (.ptr _ _ _ _ _ rfl), (.bool' rfl), (.refl' (by first|rfl|omega|(simp;done)|(simp;omega)|(simp_all;done)) rfl), (.int' rfl), (.int' rfl)⟩
          ·rintro s ⟨from3, in1, t0, H, rfl⟩
           unfold span_asked_of_J5 at H
           refine a_cut (fun s => ∃ (v4 : Bool) (t0 : Nat → Dat), span_asked_of_J6 (span_asked_of_L1 r3 q1 m_span_asked_of_L1) out2 v1 v2 from3 x1 deep5 deep2 v4 = some r ∧ s = ⟨tl t0 [(3, .ptr 0 0 0 1), (7, .ref 1 0 r3.length 3), (8, .ref 2 0 out2.length 2), (9, .ptr 3 0 0 2), (10, .int .i64 from3), (12, .ptr 4 0 0 3), (22, .ref 1 0 r3.length 3), (23, .int .i64 v1), (24, .int .i64 v2), (77, .bool v4)], hl [⟨101, 1, false, [[.fn (.func q1_F) [] q1_caps]]⟩, ⟨114, 3, false, r3.map Edge.c⟩, ⟨53, 2, false, out2.map Span.c⟩, ⟨116, 2, false, [[.int .i64 deep5, .int .i64 deep2]]⟩, ⟨114, 3, false, [[.int .i64 x1.at_, .int .i64 0, .bool x1.begins]]⟩], 5, 87⟩) ?_ ?_
           ·refine bool_split (b := (!in1)) (fun zc4 => ?_) (fun zc4 => ?_)
            ·rw [zc4] at H
             refine a_reg _ rfl (s := ?zs17) ?_ ?_
             rotate_left
             ·simp only [EVT, stepR, evOp, St.ev, St.app, St.put, wrs, evUn, datOf, datOf1, evBin, binInt, TIS, CS, reduceAdd, reduceMul, reduceEqDiff, ↓reduceIte, reduceCtorEq, reduceLT, reduceLeDiff, Array.reduceGetElem?, ↓zc4]
              try simp only [EVT, stepR, evOp, St.ev, St.app, St.put, wrs, evUn, datOf, datOf1, evBin, binInt, TIS, CS, reduceAdd, reduceMul, reduceEqDiff, ↓reduceIte, reduceCtorEq, reduceLT, reduceLeDiff, Array.reduceGetElem?, ↓zc4]
              (repeat' apply And.intro) <;> first|rfl|assumption|omega|(simp;done)|(simp;omega)|(simp_all;done)
             refine cA_n ?_
             refine wk_l [(some 0, ⟨101, 1, false, [[.fn (.func q1_F) [] q1_caps]]⟩), (some 1, ⟨114, 3, false, r3.map Edge.c⟩), (some 2, ⟨53, 2, false, out2.map Span.c⟩), (some 3, ⟨116, 2, false, [[.int .i64 deep5, .int .i64 deep2]]⟩), (some 4, ⟨114, 3, false, [[.int .i64 x1.at_, .int .i64 0, .bool x1.begins]]⟩)] [] [(3, .ptr 0 0 0 1), (7, .ref 1 0 r3.length 3), (8, .ref 2 0 out2.length 2), (9, .ptr 3 0 0 2), (10, .int .i64 from3), (12, .ptr 4 0 0 3), (22, .ref 1 0 r3.length 3), (23, .int .i64 v1), (24, .int .i64 v2), (77, .bool (decide (0 ≤ from3)))] (by show ([3, 7, 8, 9, 10, 12, 22, 23, 24, 77] : List Nat).Nodup; decide) (by show ([0, 1, 2, 3, 4] : List Nat).Nodup; decide) ?_ ?_ (fun t0 => ⟨(decide (0 ≤ from3)), t0, H, rfl⟩)
             ·exact (allB_some (by rfl) rfl (.cons (.cons (.fn' .nil (RNs.pu q1_pu)) .nil) .nil) (allB_some (by rfl) rfl (.sm _ _ Edge.pu) (allB_some (by rfl) rfl (.sm _ _ Span.pu) (allB_some (by rfl) rfl (.cons (.cons (.int' rfl) (.cons (.int' rfl) .nil)) .nil) (allB_some (by rfl) rfl (.cons (.cons (.int' rfl) (.cons (.int' rfl) (.cons (.bool' rfl) .nil))) .nil) trivial)))))
             ·(simp only [AllT, ATT, reduceEqDiff, ↓reduceIte, and_true]); exact ⟨(.ptr _ _ _ _ _ rfl), (.refl' (by first|rfl|omega|(simp;done)|(simp;omega)|(simp_all;done)) rfl), (.refl' (by first|rfl|omega|(simp;done)|(simp;omega)|(simp_all;done)) rfl), (.ptr _ _ _ _ _ rfl), (.int' rfl), (.ptr _ _ _ _ _ rfl), (.refl' (by first|rfl|omega|(simp;done)|(simp;omega)|(simp_all;done)) rfl), (.int' rfl), (.int' rfl), (.bool' rfl)⟩
            ·rw [zc4] at H
             refine a_reg _ rfl (s := ?zs18) ?_ ?_
             rotate_left
             ·simp only [EVT, stepR, evOp, St.ev, St.app, St.put, wrs, evUn, datOf, datOf1, evBin, binInt, TIS, CS, reduceAdd, reduceMul, reduceEqDiff, ↓reduceIte, reduceCtorEq, reduceLT, reduceLeDiff, Array.reduceGetElem?, ↓zc4]
              try simp only [EVT, stepR, evOp, St.ev, St.app, St.put, wrs, evUn, datOf, datOf1, evBin, binInt, TIS, CS, reduceAdd, reduceMul, reduceEqDiff, ↓reduceIte, reduceCtorEq, reduceLT, reduceLeDiff, Array.reduceGetElem?, ↓zc4]
              (repeat' apply And.intro) <;> first|rfl|assumption|omega|(simp;done)|(simp;omega)|(simp_all;done)
             refine cA_n ?_
             refine wk_l [(some 0, ⟨101, 1, false, [[.fn (.func q1_F) [] q1_caps]]⟩), (some 1, ⟨114, 3, false, r3.map Edge.c⟩), (some 2, ⟨53, 2, false, out2.map Span.c⟩), (some 3, ⟨116, 2, false, [[.int .i64 deep5, .int .i64 deep2]]⟩), (some 4, ⟨114, 3, false, [[.int .i64 x1.at_, .int .i64 0, .bool x1.begins]]⟩)] [] [(3, .ptr 0 0 0 1), (7, .ref 1 0 r3.length 3), (8, .ref 2 0 out2.length 2), (9, .ptr 3 0 0 2), (10, .int .i64 from3), (12, .ptr 4 0 0 3), (22, .ref 1 0 r3.length 3), (23, .int .i64 v1), (24, .int .i64 v2), (77, .bool false)] (by show ([3, 7, 8, 9, 10, 12, 22, 23, 24, 77] : List Nat).Nodup; decide) (by show ([0, 1, 2, 3, 4] : List Nat).Nodup; decide) ?_ ?_ (fun t0 => ⟨false, t0, H, rfl⟩)
             ·exact (allB_some (by rfl) rfl (.cons (.cons (.fn' .nil (RNs.pu q1_pu)) .nil) .nil) (allB_some (by rfl) rfl (.sm _ _ Edge.pu) (allB_some (by rfl) rfl (.sm _ _ Span.pu) (allB_some (by rfl) rfl (.cons (.cons (.int' rfl) (.cons (.int' rfl) .nil)) .nil) (allB_some (by rfl) rfl (.cons (.cons (.int' rfl) (.cons (.int' rfl) (.cons (.bool' rfl) .nil))) .nil) trivial)))))
             ·(simp only [AllT, ATT, reduceEqDiff, ↓reduceIte, and_true]); exact ⟨(.ptr _ _ _ _ _ rfl), (.refl' (by first|rfl|omega|(simp;done)|(simp;omega)|(simp_all;done)) rfl), (.refl' (by first|rfl|omega|(simp;done)|(simp;omega)|(simp_all;done)) rfl), (.ptr _ _ _ _ _ rfl), (.int' rfl), (.ptr _ _ _ _ _ rfl), (.refl' (by first|rfl|omega|(simp;done)|(simp;omega)|(simp_all;done)) rfl), (.int' rfl), (.int' rfl), (.bool' (by first | rfl | assumption | (simp_all; done)))⟩
           ·rintro s ⟨v4, t0, H, rfl⟩
            unfold span_asked_of_J6 at H
            refine a_condb (v4) (by rfl) (fun zc3 => ?_) (fun zc3 => ?_)
            ·have H := cond_t zc3 H
             refine a_seq ?_
             obtain ⟨zh8, H⟩ := chk_some H
             refine a_reg _ rfl (s := ?zs15) ?_ ?_
             rotate_left
             ·simp only [EVT, stepR, evOp, St.ev, St.app, St.put, wrs, evFieldAddr, evLoad, cut, fillD, setR, allOne, evBuiltin, evAppend, isAl, elems, Option.elim, TIS, CS, reduceAdd, reduceMul, reduceEqDiff, ↓reduceIte, reduceCtorEq, reduceLT, reduceLeDiff, Nat.reduceGT, reduceSub, Nat.reduceBEq, ↓zc3]
              (repeat' apply And.intro) <;> first|rfl|assumption|omega|(simp;done)|(simp;omega)|(simp_all;done)
             refine sA_n ?_
             refine a_reg _ rfl (s := ?zs16) ?_ ?_
             rotate_left
             ·simp only [EVT, stepR, evOp, St.ev, St.app, St.put, wrs, datOf, datOf1, TIS, CS, reduceAdd, reduceMul, reduceEqDiff, ↓reduceIte, reduceCtorEq, reduceLT, reduceLeDiff, ↓zc3]
              (repeat' apply And.intro) <;> first|rfl|assumption|omega|(simp;done)|(simp;omega)|(simp_all;done)
             refine bA_n ?_
             refine cA_n ?_
             refine wk_l [(some 0, ⟨101, 1, false, [[.fn (.func q1_F) [] q1_caps]]⟩), (some 1, ⟨114, 3, false, r3.map Edge.c⟩), (some 11, ⟨53, 2, false, (out2 ++ [(⟨from3, x1.at_⟩ : Span)]).map Span.c⟩), (some 3, ⟨116, 2, false, [[.int .i64 deep5, .int .i64 deep2]]⟩)] [] [(3, .ptr 0 0 0 1), (7, .ref 1 0 r3.length 3), (8, .ref 2 0 (out2 ++ [(⟨from3, x1.at_⟩ : Span)]).length 2), (9, .ptr 3 0 0 2), (10, .int .i64 (-1)), (22, .ref 1 0 r3.length 3), (23, .int .i64 v1), (24, .int .i64 v2)] (by show ([3, 7, 8, 9, 10, 22, 23, 24] : List Nat).Nodup; decide) (by show ([0, 1, 11, 3] : List Nat).Nodup; decide) ?_ ?_ (fun t0 => ⟨(out2 ++ [(⟨from3, x1.at_⟩ : Span)]), deep5, deep2, (-1), t0, H, rfl⟩)
             ·exact (allB_some (by rfl) rfl (.cons (.cons (.fn' .nil (RNs.pu q1_pu)) .nil) .nil) (allB_some (by rfl) rfl (.sm _ _ Edge.pu) (allB_some (by rfl) rfl (.sm _ _ Span.pu) (allB_some (by rfl) rfl (.cons (.cons (.int' rfl) (.cons (.int' rfl) .nil)) .nil) trivial))))
             ·(simp only [AllT, ATT, reduceEqDiff, ↓reduceIte, and_true]); exact ⟨(.ptr _ _ _ _ _ rfl), (.refl' (by first|rfl|omega|(simp;done)|(simp;omega)|(simp_all;done)) rfl), (.refl' (by first|rfl|omega|(simp;done)|(simp;omega)|(simp_all;done)) rfl), (.ptr _ _ _ _ _ rfl), (.int' rfl), (.refl' (by first|rfl|omega|(simp;done)|(simp;omega)|(simp_all;done)) rfl), (.int' rfl), (.int' rfl)⟩
            ·have H := cond_f zc3 H
             refine a_skip ?_
             refine bA_n ?_
             refine cA_n ?_
             refine wk_l [(some 0, ⟨101, 1, false, [[.fn (.func q1_F) [] q1_caps]]⟩), (some 1, ⟨114, 3, false, r3.map Edge.c⟩), (some 2, ⟨53, 2, false, out2.map Span.c⟩), (some 3, ⟨116, 2, false, [[.int .i64 deep5, .int .i64 deep2]]⟩)] [] [(3, .ptr 0 0 0 1), (7, .ref 1 0 r3.length 3), (8, .ref 2 0 out2.length 2), (9, .ptr 3 0 0 2), (10, .int .i64 from3), (22, .ref 1 0 r3.length 3), (23, .int .i64 v1), (24, .int .i64 v2)] (by show ([3, 7, 8, 9, 10, 22, 23, 24] : List Nat).Nodup; decide) (by show ([0, 1, 2, 3] : List Nat).Nodup; decide) ?_ ?_ (fun t0 => ⟨out2, deep5, deep2, from3, t0, H, rfl⟩)
             ·exact (allB_some (by rfl) rfl (.cons (.cons (.fn' .nil (RNs.pu q1_pu)) .nil) .nil) (allB_some (by rfl) rfl (.sm _ _ Edge.pu) (allB_some (by rfl) rfl (.sm _ _ Span.pu) (allB_some (by rfl) rfl (.cons (.cons (.int' rfl) (.cons (.int' rfl) .nil)) .nil) trivial))))
             ·(simp only [AllT, ATT, reduceEqDiff, ↓reduceIte, and_true]); exact ⟨(.ptr _ _ _ _ _ rfl), (.refl' (by first|rfl|omega|(simp;done)|(simp;omega)|(simp_all;done)) rfl), (.refl' (by first|rfl|omega|(simp;done)|(simp;omega)|(simp_all;done)) rfl), (.ptr _ _ _ _ _ rfl), (.int' rfl), (.refl' (by first|rfl|omega|(simp;done)|(simp;omega)|(simp_all;done)) rfl), (.int' rfl), (.int' rfl)⟩
       ·try skip
        refine a_reg _ rfl (s := ?zs24) ?_ ?_
        rotate_left
        ·simp only [EVT, stepR, evOp, St.ev, St.app, St.put, wrs, evFieldAddr, evLoad, cut, evIndexAddr, evBin, binInt, evStore, setR, allOne, TIS, CS, reduceAdd, reduceMul, reduceEqDiff, ↓reduceIte, reduceCtorEq, reduceLT, reduceLeDiff, Int.reduceToNat, reduceSub, Nat.reduceBEq, zq1]
         (repeat' apply And.intro) <;> first|rfl|assumption|omega|(simp;done)|(simp;omega)|(simp_all;done)
        refine sA_n ?_
        refine a_exit ?_
        refine bA_hit ?_
        refine sA_n ?_
        refine a_seq ?_
        refine a_cut (fun s => ∃ (deep6 : Int) (v6 : Bool) (t0 : Nat → Dat), span_asked_of_J8 (span_asked_of_L1 r3 q1 m_span_asked_of_L1) v1 v2 out2 deep1 from1 q1 x1 deep6 v6 = some r ∧ s = ⟨tl t0 [(3, .ptr 0 0 0 1), (7, .ref 1 0 r3.length 3), (8, .ref 2 0 out2.length 2), (9, .ptr 3 0 0 2), (10, .int .i64 from1), (12, .ptr 4 0 0 3), (22, .ref 1 0 r3.length 3), (23, .int .i64 v1), (24, .int .i64 v2), (55, .bool v6)], hl [⟨101, 1, false, [[.fn (.func q1_F) [] q1_caps]]⟩, ⟨114, 3, false, r3.map Edge.c⟩, ⟨53, 2, false, out2.map Span.c⟩, ⟨116, 2, false, [[.int .i64 deep1, .int .i64 deep6]]⟩, ⟨114, 3, false, [[.int .i64 x1.at_, .int .i64 1, .bool x1.begins]]⟩], 5, 87⟩) ?_ ?_
        ·refine bool_split (b := (decide ((IntKind.wrap .i64 (v2 + 1)) < (((r3.length : Nat)) : Int)))) (fun zc13 => ?_) (fun zc13 => ?_)
         ·have H := cond_t zc13 H
          obtain ⟨x3, zh12, H⟩ := bind_some H
          have zg3 := idx_map zh12 Edge.c
          try simp only [Int.reduceToNat, Int.toNat_natCast] at zg3
          obtain ⟨zh12a, zh12b, _⟩ := idx_some zh12
          refine a_drW (by kernel_rfl) _ rfl (s := ?zs33) (by kernel_rfl) (by kernel_rfl) ?zs33f ?_ ?_ ?_
          rotate_left 2
          ·simp only [EVT, stepW, evOp, St.ev, St.app, St.put, wrs, datOf, datOf1, evBin, binInt, evBuiltin, evIndexAddr, evFieldAddr, evLoad, cut, TIS, CS, reduceAdd, reduceMul, reduceEqDiff, ↓reduceIte, reduceCtorEq, reduceLT, reduceLeDiff, Array.reduceGetElem?, Int.reduceToNat, reduceSub, Nat.reduceBEq, zq1, ↓zc13, zg3]
           try simp only [EVT, stepW, evOp, St.ev, St.app, St.put, wrs, datOf, datOf1, evBin, binInt, evBuiltin, evIndexAddr, evFieldAddr, evLoad, cut, TIS, CS, reduceAdd, reduceMul, reduceEqDiff, ↓reduceIte, reduceCtorEq, reduceLT, reduceLeDiff, Array.reduceGetElem?, Int.reduceToNat, reduceSub, Nat.reduceBEq, zq1, ↓zc13, zg3]
           (repeat' apply And.intro) <;> first|rfl|assumption|omega|(simp;done)|(simp;omega)|(simp_all;done)
          ·kernel_rfl
          refine cA_n ?_
          refine wk_l [(some 0, ⟨101, 1, false, [[.fn (.func q1_F) [] q1_caps]]⟩), (some 1, ⟨114, 3, false, r3.map Edge.c⟩), (some 2, ⟨53, 2, false, out2.map Span.c⟩), (some 3, ⟨116, 2, false, [[.int .i64 deep1, .int .i64 (IntKind.wrap .i64 (deep2 + step1))]]⟩), (some 4, ⟨114, 3, false, [[.int .i64 x1.at_, .int .i64 1, .bool x1.begins]]⟩)] [] [(3, .ptr 0 0 0 1), (7, .ref 1 0 r3.length 3), (8, .ref 2 0 out2.length 2), (9, .ptr 3 0 0 2), (10, .int .i64 from1), (12, .ptr 4 0 0 3), (22, .ref 1 0 r3.length 3), (23, .int .i64 v1), (24, .int .i64 v2), (55, .bool (x3.at_ == x1.at_))] (by show ([3, 7, 8, 9, 10, 12, 22, 23, 24, 55] : List Nat).Nodup; decide) (by show ([0, 1, 2, 3, 4] : List Nat).Nodup; decide) ?_ ?_ (fun t0 => ⟨(IntKind.wrap .i64 (deep2 + step1)), (x3.at_ == x1.at_), t0, H, rfl⟩)
          ·exact (allB_some (by rfl) rfl (.cons (.cons (.fn' .nil (RNs.pu q1_pu)) .nil) .nil) (allB_some (by rfl) rfl (.sm _ _ Edge.pu) (allB_some (by rfl) rfl (.sm _ _ Span.pu) (allB_some (by rfl) rfl (.cons (.cons (.int' rfl) (.cons (.int' rfl) .nil)) .nil) (allB_some (by rfl) rfl (.cons (.cons (.int' rfl) (.cons (.int' rfl) (.cons (.bool' rfl) .nil))) .nil) trivial)))))
          ·(simp only [AllT, ATT, reduceEqDiff, ↓reduceIte, and_true]); exact ⟨(.ptr _ _ _ _ _ rfl), (.refl' (by first|rfl|omega|(simp;done)|(simp;omega)|(simp_all;done)) rfl), (.refl' (by first|rfl|omega|(simp;done)|(simp;omega)|(simp_all;done)) rfl), (.ptr _ _ _ _ _ rfl), (.int' rfl), (.ptr _ _ _ _ _ rfl), (.refl' (by first|rfl|omega|(simp;done)|(simp;omega)|(simp_all;done)) rfl), (.int' rfl), (.int' rfl), (.bool' rfl)⟩
         ·have H := cond_f zc13 H
          refine a_drW (by kernel_rfl) _ rfl (s := ?zs34) (by kernel_rfl) (by kernel_rfl) ?zs34f ?_ ?_ ?_
          rotate_left 2
          ·simp only [EVT, stepW, evOp, St.ev, St.app, St.put, wrs, datOf, datOf1, evBin, binInt, evBuiltin, evIndexAddr, evFieldAddr, evLoad, cut, TIS, CS, reduceAdd, reduceMul, reduceEqDiff, ↓reduceIte, reduceCtorEq, reduceLT, reduceLeDiff, Array.reduceGetElem?, Int.reduceToNat, reduceSub, Nat.reduceBEq, zq1, ↓zc13]
           try simp only [EVT, stepW, evOp, St.ev, St.app, St.put, wrs, datOf, datOf1, evBin, binInt, evBuiltin, evIndexAddr, evFieldAddr, evLoad, cut, TIS, CS, reduceAdd, reduceMul, reduceEqDiff, ↓reduceIte, reduceCtorEq, reduceLT, reduceLeDiff, Array.reduceGetElem?, Int.reduceToNat, reduceSub, Nat.reduceBEq, zq1, ↓zc13]
           (repeat' apply And.intro) <;> first|rfl|assumption|omega|(simp;done)|(simp;omega)|(simp_all;done)
          ·kernel_rfl
          refine cA_n ?_
          refine wk_l [(some 0, ⟨101, 1, false, [[.fn (.func q1_F) [] q1_caps]]⟩), (some 1, ⟨114, 3, false, r3.map Edge.c⟩), (some 2, ⟨53, 2, false, out2.map Span.c⟩), (some 3, ⟨116, 2, false, [[.int .i64 deep1, .int .i64 (IntKind.wrap .i64 (deep2 + step1))]]⟩), (some 4, ⟨114, 3, false, [[.int .i64 x1.at_, .int .i64 1, .bool x1.begins]]⟩)] [] [(3, .ptr 0 0 0 1), (7, .ref 1 0 r3.length 3), (8, .ref 2 0 out2.length 2), (9, .ptr 3 0 0 2), (10, .int .i64 from1), (12, .ptr 4 0 0 3), (22, .ref 1 0 r3.length 3), (23, .int .i64 v1), (24, .int .i64 v2), (55, .bool false)] (by show ([3, 7, 8, 9, 10, 12, 22, 23, 24, 55] : List Nat).Nodup; decide) (by show ([0, 1, 2, 3, 4] : List Nat).Nodup; decide) ?_ ?_ (fun t0 => ⟨(IntKind.wrap .i64 (deep2 + step1)), false, t0, H, rfl⟩)
          ·exact (allB_some (by rfl) rfl (.cons (.cons (.fn' .nil (RNs.pu q1_pu)) .nil) .nil) (allB_some (by rfl) rfl (.sm _ _ Edge.pu) (allB_some (by rfl) rfl (.sm _ _ Span.pu) (allB_some (by rfl) rfl (.cons (.cons (.int' rfl) (.cons (.int' rfl) .nil)) .nil) (allB_some (by rfl) rfl (.cons (.cons (.int' rfl) (.cons (.int' rfl) (.cons (.bool' rfl) .nil))) .nil) trivial)))))
          ·(simp only [AllT, ATT, reduceEqDiff, ↓reduceIte, and_true]); exact ⟨(.ptr _ _ _ _ _ rfl), (.refl' (by first|rfl|omega|(simp;done)|(simp;omega)|(simp_all;done)) rfl), (.refl' (by first|rfl|omega|(simp;done)|(simp;omega)|(simp_all;done)) rfl), (.ptr _ _ _ _ _ rfl), (.int' rfl), (.ptr _ _ _ _ _ rfl), (.refl' (by first|rfl|omega|(simp;done)|(simp;omega)|(simp_all;done)) rfl), (.int' rfl), (.int' rfl), (.bool' (by first | rfl | assumption | (simp_all; done)))⟩
        ·rintro s ⟨deep6, v6, t0, H, rfl⟩
         unfold span_asked_of_J8 at H
         refine a_condb (v6) (by rfl) (fun zc8 => ?_) (fun zc8 => ?_)
         ·have H := cond_t zc8 H
          refine a_exit ?_
          refine sA_e ?_
          refine bA_hit ?_
          refine cA_n ?_
          refine wk_l [(some 0, ⟨101, 1, false, [[.fn (.func q1_F) [] q1_caps]]⟩), (some 1, ⟨114, 3, false, r3.map Edge.c⟩), (some 2, ⟨53, 2, false, out2.map Span.c⟩), (some 3, ⟨116, 2, false, [[.int .i64 deep1, .int .i64 deep6]]⟩)] [] [(3, .ptr 0 0 0 1), (7, .ref 1 0 r3.length 3), (8, .ref 2 0 out2.length 2), (9, .ptr 3 0 0 2), (10, .int .i64 from1), (22, .ref 1 0 r3.length 3), (23, .int .i64 v1), (24, .int .i64 v2)] (by show ([3, 7, 8, 9, 10, 22, 23, 24] : List Nat).Nodup; decide) (by show ([0, 1, 2, 3] : List Nat).Nodup; decide) ?_ ?_ (fun t0 => ⟨out2, deep1, deep6, from1, t0, H, rfl⟩)
          ·exact (allB_some (by rfl) rfl (.cons (.cons (.fn' .nil (RNs.pu q1_pu)) .nil) .nil) (allB_some (by rfl) rfl (.sm _ _ Edge.pu) (allB_some (by rfl) rfl (.sm _ _ Span.pu) (allB_some (by rfl) rfl (.cons (.cons (.int' rfl) (.cons (.int' rfl) .nil)) .nil) trivial))))
          ·(simp only [AllT, ATT, reduceEqDiff, ↓reduceIte, and_true]); exact ⟨(.ptr _ _ _ _ _ rfl), (.refl' (by first|rfl|omega|(simp;done)|(simp;omega)|(simp_all;done)) rfl), (.refl' (by first|rfl|omega|(simp;done)|(simp;omega)|(simp_all;done)) rfl), (.ptr _ _ _ _ _ rfl), (.int' rfl), (.refl' (by first|rfl|omega|(simp;done)|(simp;omega)|(simp_all;done)) rfl), (.int' rfl), (.int' rfl)⟩
         ·have H := cond_f zc8 H
          refine a_skip ?_
          refine sA_n ?_
          refine a_seq ?_
          obtain ⟨r5, zh10, H⟩ := bind_some H
          have zk5 := q1_hp _ _ _ zh10
          refine a_reg _ rfl (s := ?zs25) ?_ ?_
          rotate_left
          ·try simp only [EVT, stepR, evOp, St.ev, St.app, St.put, wrs, evFieldAddr, evLoad, cut, datOf, datOf1, evIndexAddr, evBin, binInt, frz, TIS, CS, reduceAdd, reduceMul, reduceEqDiff, ↓reduceIte, reduceCtorEq, reduceLT, reduceLeDiff, Int.reduceToNat, reduceSub, Nat.reduceBEq, ↓zc8]
           repeat' with_reducible apply And.intro
           all_goals try ((with_reducible show CallR _ _ _ _ _ _ _); refine cR_s zk5 (.cons (.bool' rfl) (.cons (.bool' rfl) (Pus.purRs q1_pu))) (.bool _) ?_; simp only [EVT, stepR, evOp, St.ev, St.app, St.put, wrs, evFieldAddr, evLoad, cut, datOf, datOf1, evIndexAddr, evBin, binInt, frz, TIS, CS, reduceAdd, reduceMul, reduceEqDiff, ↓reduceIte, reduceCtorEq, reduceLT, reduceLeDiff, Int.reduceToNat, reduceSub, Nat.reduceBEq, ↓zc8])
           all_goals ((repeat' apply And.intro) <;> first|rfl|assumption|omega|(simp;done)|(simp;omega)|(simp_all;done))
          refine sA_n ?_
          refine a_cut (fun s => ∃ (from4 : Int) (in3 : Bool) (t0 : Nat → Dat), span_asked_of_J9 (span_asked_of_L1 r3 q1 m_span_asked_of_L1) out2 v1 v2 x1 deep1 deep6 from4 in3 = some r ∧ s = ⟨tl t0 [(3, .ptr 0 0 0 1), (7, .ref 1 0 r3.length 3), (8, .ref 2 0 out2.length 2), (9, .ptr 3 0 0 2), (10, .int .i64 from4), (12, .ptr 4 0 0 3), (14, .bool in3), (22, .ref 1 0 r3.length 3), (23, .int .i64 v1), (24, .int .i64 v2)], hl [⟨101, 1, false, [[.fn (.func q1_F) [] q1_caps]]⟩, ⟨114, 3, false, r3.map Edge.c⟩, ⟨53, 2, false, out2.map Span.c⟩, ⟨116, 2, false, [[.int .i64 deep1, .int .i64 deep6]]⟩, ⟨114, 3, false, [[.int .i64 x1.at_, .int .i64 1, .bool x1.begins]]⟩], 5, 87⟩) ?_ ?_
          ·refine a_cut (fun s => ∃ (in4 : Bool) (v8 : Bool) (t0 : Nat → Dat), span_asked_of_J11 (span_asked_of_L1 r3 q1 m_span_asked_of_L1) out2 v1 v2 x1 deep1 deep6 from1 in4 v8 = some r ∧ s = ⟨tl t0 [(3, .ptr 0 0 0 1), (7, .ref 1 0 r3.length 3), (8, .ref 2 0 out2.length 2), (9, .ptr 3 0 0 2), (10, .int .i64 from1), (12, .ptr 4 0 0 3), (14, .bool in4), (22, .ref 1 0 r3.length 3), (23, .int .i64 v1), (24, .int .i64 v2), (69, .bool v8)], hl [⟨101, 1, false, [[.fn (.func q1_F) [] q1_caps]]⟩, ⟨114, 3, false, r3.map Edge.c⟩, ⟨53, 2, false, out2.map Span.c⟩, ⟨116, 2, false, [[.int .i64 deep1, .int .i64 deep6]]⟩, ⟨114, 3, false, [[.int .i64 x1.at_, .int .i64 1, .bool x1.begins]]⟩], 5, 87⟩) ?_ ?_
           ·refine bool_split (b := r5) (fun zc12 => ?_) (fun zc12 => ?_)
            ·have H := cond_t zc12 H
             refine a_reg _ rfl (s := ?zs31) ?_ ?_
             rotate_left
             ·simp only [EVT, stepR, evOp, St.ev, St.app, St.put, wrs, datOf, datOf1, evBin, binInt, TIS, CS, reduceAdd, reduceMul, reduceEqDiff, ↓reduceIte, reduceCtorEq, reduceLT, reduceLeDiff, Array.reduceGetElem?, ↓zc8, ↓zc12]
              try simp only [EVT, stepR, evOp, St.ev, St.app, St.put, wrs, datOf, datOf1, evBin, binInt, TIS, CS, reduceAdd, reduceMul, reduceEqDiff, ↓reduceIte, reduceCtorEq, reduceLT, reduceLeDiff, Array.reduceGetElem?, ↓zc8, ↓zc12]
              (repeat' apply And.intro) <;> first|rfl|assumption|omega|(simp;done)|(simp;omega)|(simp_all;done)
             refine cA_n ?_
             refine wk_l [(some 0, ⟨101, 1, false, [[.fn (.func q1_F) [] q1_caps]]⟩), (some 1, ⟨114, 3, false, r3.map Edge.c⟩), (some 2, ⟨53, 2, false, out2.map Span.c⟩), (some 3, ⟨116, 2, false, [[.int .i64 deep1, .int .i64 deep6]]⟩), (some 4, ⟨114, 3, false, [[.int .i64 x1.at_, .int .i64 1, .bool x1.begins]]⟩)] [] [(3, .ptr 0 0 0 1), (7, .ref 1 0 r3.length 3), (8, .ref 2 0 out2.length 2), (9, .ptr 3 0 0 2), (10, .int .i64 from1), (12, .ptr 4 0 0 3), (14, .bool true), (22, .ref 1 0 r3.length 3), (23, .int .i64 v1), (24, .int .i64 v2), (69, .bool (decide (from1 < 0)))] (by show ([3, 7, 8, 9, 10, 12, 14, 22, 23, 24, 69] : List Nat).Nodup; decide) (by show ([0, 1, 2, 3, 4] : List Nat).Nodup; decide) ?_ ?_ (fun t0 => ⟨true, (decide (from1 < 0)), t0, H, rfl⟩)
             ·exact (allB_some (by rfl) rfl (.cons (.cons (.fn' .nil (RNs.pu q1_pu)) .nil) .nil) (allB_some (by rfl) rfl (.sm _ _ Edge.pu) (allB_some (by rfl) rfl (.sm _ _ Span.pu) (allB_some (by rfl) rfl (.cons (.cons (.int' rfl) (.cons (.int' rfl) .nil)) .nil) (allB_some (by rfl) rfl (.cons (.cons (.int' rfl) (.cons (.int' rfl) (.cons (.bool' rfl) .nil))) .nil) trivial)))))
             ·(simp only [AllT, ATT, reduceEqDiff, ↓reduceIte, and_true]); exact ⟨(.ptr _ _ _ _ _ rfl), (.refl' (by first|rfl|omega|(simp;done)|(simp;omega)|(simp_all;done)) rfl), (.refl' (by first|rfl|omega|(simp;done)|(simp;omega)|(simp_all;done)) rfl), (.ptr _ _ _ _ _ rfl), (.int' rfl), (.ptr _ _ _ _ _ rfl), (.bool' (by first | rfl | assumption | (simp_all; done))), (.refl' (by first|rfl|omega|(simp;done)|(simp;omega)|(simp_all;done)) rfl), (.int' rfl), (.int' rfl), (.bool' rfl)⟩
            ·have H := cond_f zc12 H
             refine a_reg _ rfl (s := ?zs32) ?_ ?_
             rotate_left
             ·simp only [EVT, stepR, evOp, St.ev, St.app, St.put, wrs, datOf, datOf1, evBin, binInt, TIS, CS, reduceAdd, reduceMul, reduceEqDiff, ↓reduceIte, reduceCtorEq, reduceLT, reduceLeDiff, Array.reduceGetElem?, ↓zc8, ↓zc12]
              try simp only [EVT, stepR, evOp, St.ev, St.app, St.put, wrs, datOf, datOf1, evBin, binInt, TIS, CS, reduceAdd, reduceMul, reduceEqDiff, ↓reduceIte, reduceCtorEq, reduceLT, reduceLeDiff, Array.reduceGetElem?, ↓zc8, ↓zc12]
              (repeat' apply And.intro) <;> first|rfl|assumption|omega|(simp;done)|(simp;omega)|(simp_all;done)
             refine cA_n ?_
             refine wk_l [(some 0, ⟨101, 1, false, [[.fn (.func q1_F) [] q1_caps]]⟩), (some 1, ⟨114, 3, false, r3.map Edge.c⟩), (some 2, ⟨53, 2, false, out2.map Span.c⟩), (some 3, ⟨116, 2, false, [[.int .i64 deep1, .int .i64 deep6]]⟩), (some 4, ⟨114, 3, false, [[.int .i64 x1.at_, .int .i64 1, .bool x1.begins]]⟩)] [] [(3, .ptr 0 0 0 1), (7, .ref 1 0 r3.length 3), (8, .ref 2 0 out2.length 2), (9, .ptr 3 0 0 2), (10, .int .i64 from1), (12, .ptr 4 0 0 3), (14, .bool false), (22, .ref 1 0 r3.length 3), (23, .int .i64 v1), (24, .int .i64 v2), (69, .bool false)] (by show ([3, 7, 8, 9, 10, 12, 14, 22, 23, 24, 69] : List Nat).Nodup; decide) (by show ([0, 1, 2, 3, 4] : List Nat).Nodup; decide) ?_ ?_ (fun t0 => ⟨false, false, t0, H, rfl⟩)
             ·exact (allB_some (by rfl) rfl (.cons (.cons (.fn' .nil (RNs.pu q1_pu)) .nil) .nil) (allB_some (by rfl) rfl (.sm _ _ Edge.pu) (allB_some (by rfl) rfl (.sm _ _ Span.pu) (allB_some (by rfl) rfl (.cons (.cons (.int' rfl) (.cons (.int' rfl) .nil)) .nil) (allB_some (by rfl) rfl (.cons (.cons (.int' rfl) (.cons (.int' rfl) (.cons (.bool' rfl) .nil))) .nil) trivial)))))
             ·(simp only [AllT, ATT, reduceEqDiff, ↓reduceIte, and_true]); exact ⟨(.ptr _ _ _ _ _ rfl), (.refl' (by first|rfl|omega|(simp;done)|(simp;omega)|(simp_all;done)) rfl), (.refl' (by first|rfl|omega|(simp;done)|(simp;omega)|(simp_all;done)) rfl), (.ptr _ _ _ _ _ rfl), (.int' rfl), (.ptr _ _ _ _ _ rfl), (.bool' (by first | rfl | assumption | (simp_all; done))), (.refl' (by first|rfl|omega|(simp;done)|(simp;omega)|(simp_all;done)) rfl), (.int' rfl), (.int' rfl), (.bool' (by first | rfl | assumption | (simp_all; done)))⟩
           ·rintro s ⟨in4, v8, t0, H, rfl⟩
            unfold span_asked_of_J11 at H
            refine a_condb (v8) (by rfl) (fun zc11 => ?_) (fun zc11 => ?_)
            ·have H := cond_t zc11 H
             refine a_reg _ rfl (s := ?zs30) ?_ ?_
             rotate_left
             ·simp only [EVT, stepR, evOp, St.ev, St.app, St.put, wrs, evFieldAddr, evLoad, cut, TIS, CS, reduceAdd, reduceMul, reduceEqDiff, ↓reduceIte, reduceCtorEq, reduceLT, reduceLeDiff, reduceSub, Nat.reduceBEq, ↓zc11]
              (repeat' apply And.intro) <;> first|rfl|assumption|omega|(simp;done)|(simp;omega)|(simp_all;done)
             refine cA_n ?_
             refine wk_l [(some 0, ⟨101, 1, false, [[.fn (.func q1_F) [] q1_caps]]⟩), (some 1, ⟨114, 3, false, r3.map Edge.c⟩), (some 2, ⟨53, 2, false, out2.map Span.c⟩), (some 3, ⟨116, 2, false, [[.int .i64 deep1, .int .i64 deep6]]⟩), (some 4, ⟨114, 3, false, [[.int .i64 x1.at_, .int .i64 1, .bool x1.begins]]⟩)] [] [(3, .ptr 0 0 0 1), (7, .ref 1 0 r3.length 3), (8, .ref 2 0 out2.length 2), (9, .ptr 3 0 0 2), (10, .int .i64 x1.at_), (12, .ptr 4 0 0 3), (14, .bool in4), (22, .ref 1 0 r3.length 3), (23, .int .i64 v1), (24, .int .i64 v2)] (by show ([3, 7, 8, 9, 10, 12, 14, 22, 23, 24] : List Nat).Nodup; decide) (by show ([0, 1, 2, 3, 4] : List Nat).Nodup; decide) ?_ ?_ (fun t0 => ⟨x1.at_, in4, t0, H, rfl⟩)
             ·exact (allB_some (by rfl) rfl (.cons (.cons (.fn' .nil (RNs.pu q1_pu)) .nil) .nil) (allB_some (by rfl) rfl (.sm _ _ Edge.pu) (allB_some (by rfl) rfl (.sm _ _ Span.pu) (allB_some (by rfl) rfl (.cons (.cons (.int' rfl) (.cons (.int' rfl) .nil)) .nil) (allB_some (by rfl) rfl (.cons (.cons (.int' rfl) (.cons (.int' rfl) (.cons (.bool' rfl) .nil))) .nil) trivial)))))
             ·(simp only [AllT, ATT, reduceEqDiff, ↓reduceIte, and_true]); exact ⟨(.ptr _ _ _ _ _ rfl), (.refl' (by first|rfl|omega|(simp;done)|(simp;omega)|(simp_all;done)) rfl), (.refl' (by first|rfl|omega|(simp;done)|(simp;omega)|(simp_all;done)) rfl), (.ptr _ _ _ _ _ rfl), (.int' rfl), (.ptr _ _ _ _ _ rfl), (.bool' rfl), (.refl' (by first|rfl|omega|(simp;done)|(simp;omega)|(simp_all;done)) rfl), (.int' rfl), (.int' rfl)⟩
            ·have H := cond_f zc11 H
             refine a_skip ?_
             refine cA_n ?_
             refine wk_l [(some 0, ⟨101, 1, false, [[.fn (.func q1_F) [] q1_caps]]⟩), (some 1, ⟨114, 3, false, r3.map Edge.c⟩), (some 2, ⟨53, 2, false, out2.map Span.c⟩), (some 3, ⟨116, 2, false, [[.int .i64 deep1, .int .i64 deep6]]⟩), (some 4, ⟨114, 3, false, [[.int .i64 x1.at_, .int .i64 1, .bool x1.begins]]⟩)] [] [(3, .ptr 0 0 0 1), (7, .ref 1 0 r3.length 3), (8, .ref 2 0 out2.length 2), (9, .ptr 3 0 0 2), (10, .int .i64 from1), (12, .ptr 4 0 0 3), (14, .bool in4), (22, .ref 1 0 r3.length 3), (23, .int .i64 v1), (24, .int .i64 v2)] (by show ([3, 7, 8, 9, 10, 12, 14, 22, 23, 24] : List Nat).Nodup; decide) (by show ([0, 1, 2, 3, 4] : List Nat).Nodup; decide) ?_ ?_ (fun t0 => ⟨from1, in4, t0, H, rfl⟩)
             ·exact (allB_some (by rfl) rfl (.cons (.cons (.fn' .nil (RNs.pu q1_pu)) .nil) .nil) (allB_some (by rfl) rfl (.sm _ _ Edge.pu) (allB_some (by rfl) rfl (.sm _ _ Span.pu) (allB_some (by rfl) rfl (.cons (.cons (.int' rfl) (.cons (.int' rfl) .nil)) .nil) (allB_some (by rfl) rfl (.cons (.cons (.int' rfl) (.cons (.int' rfl) (.cons (.bool' rfl) .nil))) .nil) trivial)))))
             ·(simp only [AllT, ATT, reduceEqDiff, ↓reduceIte, and_true]); exact ⟨(.ptr _ _ _ _ _ rfl), (.refl' (by first|rfl|omega|(simp;done)|(simp;omega)|(simp_all;done)) rfl), (.refl' (by first|rfl|omega|(simp;done)|(simp;omega)|(simp_all;done)) rfl), (.ptr _ _ _ _ _ rfl), (.int' rfl), (.ptr _ _ _ _ _ rfl), (.bool' rfl), (.refl' (by first|rfl|omega|(simp;done)|(simp;omega)|(simp_all;done)) rfl), (.int' rfl), (.int' rfl)⟩
          ·rintro s ⟨from4, in3, t0, H, rfl⟩
           unfold span_asked_of_J9 at H
           refine a_cut (fun s => ∃ (v7 : Bool) (t0 : Nat → Dat), span_asked_of_J10 (span_asked_of_L1 r3 q1 m_span_asked_of_L1) out2 v1 v2 from4 x1 deep1 deep6 v7 = some r ∧ s = ⟨tl t0 [(3, .ptr 0 0 0 1), (7, .ref 1 0 r3.length 3), (8, .ref 2 0 out2.length 2), (9, .ptr 3 0 0 2), (10, .int .i64 from4), (12, .ptr 4 0 0 3), (22, .ref 1 0 r3.length 3), (23, .int .i64 v1), (24, .int .i64 v2), (77, .bool v7)], hl [⟨101, 1, false, [[.fn (.func q1_F) [] q1_caps]]⟩, ⟨114, 3, false, r3.map Edge.c⟩, ⟨53, 2, false, out2.map Span.c⟩, ⟨116, 2, false, [[.int .i64 deep1, .int .i64 deep6]]⟩, ⟨114, 3, false, [[.int .i64 x1.at_, .int .i64 1, .bool x1.begins]]⟩], 5, 87⟩) ?_ ?_
           ·refine bool_split (b := (!in3)) (fun zc10 => ?_) (fun zc10 => ?_)
            ·rw [zc10] at H
             refine a_reg _ rfl (s := ?zs28) ?_ ?_
             rotate_left
             ·simp only [EVT, stepR, evOp, St.ev, St.app, St.put, wrs, evUn, datOf, datOf1, evBin, binInt, TIS, CS, reduceAdd, reduceMul, reduceEqDiff, ↓reduceIte, reduceCtorEq, reduceLT, reduceLeDiff, Array.reduceGetElem?, ↓zc10]
              try simp only [EVT, stepR, evOp, St.ev, St.app, St.put, wrs, evUn, datOf, datOf1, evBin, binInt, TIS, CS, reduceAdd, reduceMul, reduceEqDiff, ↓reduceIte, reduceCtorEq, reduceLT, reduceLeDiff, Array.reduceGetElem?, ↓zc10]
              (repeat' apply And.intro) <;> first|rfl|assumption|omega|(simp;done)|(simp;omega)|(simp_all;done)
             refine cA_n ?_
             refine wk_l [(some 0, ⟨101, 1, false, [[.fn (.func q1_F) [] q1_caps]]⟩), (some 1, ⟨114, 3, false, r3.map Edge.c⟩), (some 2, ⟨53, 2, false, out2.map Span.c⟩), (some 3, ⟨116, 2, false, [[.int .i64 deep1, .int .i64 deep6]]⟩), (some 4, ⟨114, 3, false, [[.int .i64 x1.at_, .int .i64 1, .bool x1.begins]]⟩)] [] [(3, .ptr 0 0 0 1), (7, .ref 1 0 r3.length 3), (8, .ref 2 0 out2.length 2), (9, .ptr 3 0 0 2), (10, .int .i64 from4), (12, .ptr 4 0 0 3), (22, .ref 1 0 r3.length 3), (23, .int .i64 v1), (24, .int .i64 v2), (77, .bool (decide (0 ≤ from4)))] (by show ([3, 7, 8, 9, 10, 12, 22, 23, 24, 77] : List Nat).Nodup; decide) (by show ([0, 1, 2, 3, 4] : List Nat).Nodup; decide) ?_ ?_ (fun t0 => ⟨(decide (0 ≤ from4)), t0, H, rfl⟩)
             ·exact (allB_some (by rfl) rfl (.cons (.cons (.fn' .nil (RNs.pu q1_pu)) .nil) .nil) (allB_some (by rfl) rfl (.sm _ _ Edge.pu) (allB_some (by rfl) rfl (.sm _ _ Span.pu) (allB_some (by rfl) rfl (.cons (.cons (.int' rfl) (.cons (.int' rfl) .nil)) .nil) (allB_some (by rfl) rfl (.cons (.cons (.int' rfl) (.cons (.int' rfl) (.cons (.bool' rfl) .nil))) .nil) trivial)))))
             ·(simp only [AllT, ATT, reduceEqDiff, ↓reduceIte, and_true]); exact ⟨(.ptr _ _ _ _ _ rfl), (.refl' (by first|rfl|omega|(simp;done)|(simp;omega)|(simp_all;done)) rfl), (.refl' (by first|rfl|omega|(simp;done)|(simp;omega)|(simp_all;done)) rfl), (.ptr _ _ _ _ _ rfl), (.int' rfl), (.ptr _ _ _ _ _ rfl), (.refl' (by first|rfl|omega|(simp;done)|(simp;omega)|(simp_all;done)) rfl), (.int' rfl), (.int' rfl), (.bool' rfl)⟩
            ·rw [zc10] at H
             refine a_reg _ rfl (s := ?zs29) ?_ ?_
             rotate_left
             ·simp only [EVT, stepR, evOp, St.ev, St.app, St.put, wrs, evUn, datOf, datOf1, evBin, binInt, TIS, CS, reduceAdd, reduceMul, reduceEqDiff, ↓reduceIte, reduceCtorEq, reduceLT, reduceLeDiff, Array.reduceGetElem?, ↓zc10]
              try simp only [EVT, stepR, evOp, St.ev, St.app, St.put, wrs, evUn, datOf, datOf1, evBin, binInt, TIS, CS, reduceAdd, reduceMul, reduceEqDiff, ↓reduceIte, reduceCtorEq, reduceLT, reduceLeDiff, Array.reduceGetElem?, ↓zc10]
              (repeat' apply And.intro) <;> first|rfl|assumption|omega|(simp;done)|(simp;omega)|(simp_all;done)
             refine cA_n ?_
             refine wk_l [(some 0, ⟨101, 1, false, [[.fn (.func q1_F) [] q1_caps]]⟩), (some 1, ⟨114, 3, false, r3.map Edge.c⟩), (some 2, ⟨53, 2, false, out2.map Span.c⟩), (some 3, ⟨116, 2, false, [[.int .i64 deep1, .int .i64 deep6]]⟩), (some 4, ⟨114, 3, false, [[.int .i64 x1.at_, .int .i64 1, .bool x1.begins]]⟩)] [] [(3, .ptr 0 0 0 1), (7, .ref 1 0 r3.length 3), (8, .ref 2 0 out2.length 2), (9, .ptr 3 0 0 2), (10, .int .i64 from4), (12, .ptr 4 0 0 3), (22, .ref 1 0 r3.length 3), (23, .int .i64 v1), (24, .int .i64 v2), (77, .bool false)] (by show ([3, 7, 8, 9, 10, 12, 22, 23, 24, 77] : List Nat).Nodup; decide) (by show ([0, 1, 2, 3, 4] : List Nat).Nodup; decide) ?_ ?_ (fun t0 => ⟨false, t0, H, rfl⟩)
             ·exact (allB_some (by rfl) rfl (.cons (.cons (.fn' .nil (RNs.pu q1_pu)) .nil) .nil) (allB_some (by rfl) rfl (.sm _ _ Edge.pu) (allB_some (by rfl) rfl (.sm _ _ Span.pu) (allB_some (by rfl) rfl (.cons (.cons (.int' rfl) (.cons (.int' rfl) .nil)) .nil) (allB_some (by rfl) rfl (.cons (.cons (.int' rfl) (.cons (.int' rfl) (.cons (.bool' rfl) .nil))) .nil) trivial)))))
             ·(simp only [AllT, ATT, reduceEqDiff, ↓reduceIte, and_true]); exact ⟨(.ptr _ _ _ _ _ rfl), (.refl' (by first|rfl|omega|(simp;done)|(simp;omega)|(simp_all;done)) rfl), (.refl' (by first|rfl|omega|(simp;done)|(simp;omega)|(simp_all;done)) rfl), (.ptr _ _ _ _ _ rfl), (.int' rfl), (.ptr _ _ _ _ _ rfl), (.refl' (by first|rfl|omega|(simp;done)|(simp;omega)|(simp_all;done)) rfl), (.int' rfl), (.int' rfl), (.bool' (by first | rfl | assumption | (simp_all; done)))⟩
           ·rintro s ⟨v7, t0, H, rfl⟩
            unfold span_asked_of_J10 at H
            refine a_condb (v7) (by rfl) (fun zc9 => ?_) (fun zc9 => ?_)
            ·have H := cond_t zc9 H
             refine a_seq ?_
             obtain ⟨zh11, H⟩ := chk_some H
             refine a_reg _ rfl (s := ?zs26) ?_ ?_
             rotate_left
             ·simp only [EVT, stepR, evOp, St.ev, St.app, St.put, wrs, evFieldAddr, evLoad, cut, fillD, setR, allOne, evBuiltin, evAppend, isAl, elems, Option.elim, TIS, CS, reduceAdd, reduceMul, reduceEqDiff, ↓reduceIte, reduceCtorEq, reduceLT, reduceLeDiff, Nat.reduceGT, reduceSub, Nat.reduceBEq, ↓zc9]
              (repeat' apply And.intro) <;> first|rfl|assumption|omega|(simp;done)|(simp;omega)|(simp_all;done)
             refine sA_n ?_
             refine a_reg _ rfl (s := ?zs27) ?_ ?_
             rotate_left
             ·simp only [EVT, stepR, evOp, St.ev, St.app, St.put, wrs, datOf, datOf1, TIS, CS, reduceAdd, reduceMul, reduceEqDiff, ↓reduceIte, reduceCtorEq, reduceLT, reduceLeDiff, ↓zc9]
              (repeat' apply And.intro) <;> first|rfl|assumption|omega|(simp;done)|(simp;omega)|(simp_all;done)
             refine bA_n ?_
             refine cA_n ?_
             refine wk_l [(some 0, ⟨101, 1, false, [[.fn (.func q1_F) [] q1_caps]]⟩), (some 1, ⟨114, 3, false, r3.map Edge.c⟩), (some 11, ⟨53, 2, false, (out2 ++ [(⟨from4, x1.at_⟩ : Span)]).map Span.c⟩), (some 3, ⟨116, 2, false, [[.int .i64 deep1, .int .i64 deep6]]⟩)] [] [(3, .ptr 0 0 0 1), (7, .ref 1 0 r3.length 3), (8, .ref 2 0 (out2 ++ [(⟨from4, x1.at_⟩ : Span)]).length 2), (9, .ptr 3 0 0 2), (10, .int .i64 (-1)), (22, .ref 1 0 r3.length 3), (23, .int .i64 v1), (24, .int .i64 v2)] (by show ([3, 7, 8, 9, 10, 22, 23, 24] : List Nat).Nodup; decide) (by show ([0, 1, 11, 3] : List Nat).Nodup; decide) ?_ ?_ (fun t0 => ⟨(out2 ++ [(⟨from4, x1.at_⟩ : Span)]), deep1, deep6, (-1), t0, H, rfl⟩)
             ·exact (allB_some (by rfl) rfl (.cons (.cons (.fn' .nil (RNs.pu q1_pu)) .nil) .nil) (allB_some (by rfl) rfl (.sm _ _ Edge.pu) (allB_some (by rfl) rfl (.sm _ _ Span.pu) (allB_some (by rfl) rfl (.cons (.cons (.int' rfl) (.cons (.int' rfl) .nil)) .nil) trivial))))
             ·(simp only [AllT, ATT, reduceEqDiff, ↓reduceIte, and_true]); exact ⟨(.ptr _ _ _ _ _ rfl), (.refl' (by first|rfl|omega|(simp;done)|(simp;omega)|(simp_all;done)) rfl), (.refl' (by first|rfl|omega|(simp;done)|(simp;omega)|(simp_all;done)) rfl), (.ptr _ _ _ _ _ rfl), (.int' rfl), (.refl' (by first|rfl|omega|(simp;done)|(simp;omega)|(simp_all;done)) rfl), (.int' rfl), (.int' rfl)⟩
            ·have H := cond_f zc9 H
             refine a_skip ?_
             refine bA_n ?_
             refine cA_n ?_
             refine wk_l [(some 0, ⟨101, 1, false, [[.fn (.func q1_F) [] q1_caps]]⟩), (some 1, ⟨114, 3, false, r3.map Edge.c⟩), (some 2, ⟨53, 2, false, out2.map Span.c⟩), (some 3, ⟨116, 2, false, [[.int .i64 deep1, .int .i64 deep6]]⟩)] [] [(3, .ptr 0 0 0 1), (7, .ref 1 0 r3.length 3), (8, .ref 2 0 out2.length 2), (9, .ptr 3 0 0 2), (10, .int .i64 from4), (22, .ref 1 0 r3.length 3), (23, .int .i64 v1), (24, .int .i64 v2)] (by show ([3, 7, 8, 9, 10, 22, 23, 24] : List Nat).Nodup; decide) (by show ([0, 1, 2, 3] : List Nat).Nodup; decide) ?_ ?_ (fun t0 => ⟨out2, deep1, deep6, from4, t0, H, rfl⟩)
             ·exact (allB_some (by rfl) rfl (.cons (.cons (.fn' .nil (RNs.pu q1_pu)) .nil) .nil) (allB_some (by rfl) rfl (.sm _ _ Edge.pu) (allB_some (by rfl) rfl (.sm _ _ Span.pu) (allB_some (by rfl) rfl (.cons (.cons (.int' rfl) (.cons (.int' rfl) .nil)) .nil) trivial))))
             ·(simp only [AllT, ATT, reduceEqDiff, ↓reduceIte, and_true]); exact ⟨(.ptr _ _ _ _ _ rfl), (.refl' (by first|rfl|omega|(simp;done)|(simp;omega)|(simp_all;done)) rfl), (.refl' (by first|rfl|omega|(simp;done)|(simp;omega)|(simp_all;done)) rfl), (.ptr _ _ _ _ _ rfl), (.int' rfl), (.refl' (by first|rfl|omega|(simp;done)|(simp;omega)|(simp_all;done)) rfl), (.int' rfl), (.int' rfl)⟩
     ·rintro s ⟨out3, deep3, deep4, from2, t0, H, rfl⟩
      unfold span_asked_of_J2 at H
      refine a_reg _ rfl (s := ?zs10) ?_ ?_
      rotate_left
      ·simp only [EVT, stepR, evOp, St.ev, St.app, St.put, wrs, datOf, datOf1, evBin, binInt, TIS, CS, reduceAdd, reduceMul, reduceEqDiff, ↓reduceIte, reduceCtorEq, reduceLT, reduceLeDiff]
       (repeat' apply And.intro) <;> first|rfl|assumption|omega|(simp;done)|(simp;omega)|(simp_all;done)
      refine lA_n ?_
      refine wk_l [(some 0, ⟨101, 1, false, [[.fn (.func q1_F) [] q1_caps]]⟩), (some 1, ⟨114, 3, false, r3.map Edge.c⟩), (some 2, ⟨53, 2, false, out3.map Span.c⟩), (some 3, ⟨116, 2, false, [[.int .i64 deep3, .int .i64 deep4]]⟩)] [] [(3, .ptr 0 0 0 1), (7, .ref 1 0 r3.length 3), (8, .ref 2 0 out3.length 2), (9, .ptr 3 0 0 2), (10, .int .i64 from2), (22, .ref 1 0 r3.length 3), (23, .int .i64 v1), (24, .int .i64 (IntKind.wrap .i64 (v2 + 1)))] (by show ([3, 7, 8, 9, 10, 22, 23, 24] : List Nat).Nodup; decide) (by show ([0, 1, 2, 3] : List Nat).Nodup; decide) ?_ ?_ (fun t0 => ⟨_, Nat.lt_succ_self _, out3, deep3, deep4, from2, v1, (IntKind.wrap .i64 (v2 + 1)), t0, H, rfl⟩)
      ·exact (allB_some (by rfl) rfl (.cons (.cons (.fn' .nil (RNs.pu q1_pu)) .nil) .nil) (allB_some (by rfl) rfl (.sm _ _ Edge.pu) (allB_some (by rfl) rfl (.sm _ _ Span.pu) (allB_some (by rfl) rfl (.cons (.cons (.int' rfl) (.cons (.int' rfl) .nil)) .nil) trivial))))
      ·(simp only [AllT, ATT, reduceEqDiff, ↓reduceIte, and_true]); exact ⟨(.ptr _ _ _ _ _ rfl), (.refl' (by first|rfl|omega|(simp;done)|(simp;omega)|(simp_all;done)) rfl), (.refl' (by first|rfl|omega|(simp;done)|(simp;omega)|(simp_all;done)) rfl), (.ptr _ _ _ _ _ rfl), (.int' rfl), (.refl' (by first|rfl|omega|(simp;done)|(simp;omega)|(simp_all;done)) rfl), (.int' rfl), (.int' rfl)⟩
    ·have H := cond_f zc1 H
     refine a_exit ?_
     refine sA_e ?_
     refine lA_e ?_
     refine bA_hit ?_
     refine cA_n ?_
     refine wk_l [(some 2, ⟨53, 2, false, out2.map Span.c⟩)] [] [(8, .ref 0 0 out2.length 2)] (by show ([8] : List Nat).Nodup; decide) (by show ([2] : List Nat).Nodup; decide) ?_ ?_ (fun t0 => ⟨out2, t0, H, rfl⟩)
     ·exact (allB_some (by rfl) rfl (.sm _ _ Span.pu) trivial)
     ·(simp only [AllT, ATT, reduceEqDiff, ↓reduceIte, and_true]); exact (.refl' (by first|rfl|omega|(simp;done)|(simp;omega)|(simp_all;done)) rfl)
 ·rintro s ⟨out1, t0, H, rfl⟩
  unfold span_asked_of_J1 at H
  refine a_seq ?_
  refine a_reg _ rfl (s := ?zs7) ?_ ?_
  rotate_left
  ·simp only [EVT, stepR, evOp, St.ev, St.app, St.put, wrs, TIS, CS, reduceAdd, reduceMul, reduceEqDiff, ↓reduceIte, reduceCtorEq, reduceLT, reduceLeDiff]
   (repeat' apply And.intro) <;> first|rfl|assumption|omega|(simp;done)|(simp;omega)|(simp_all;done)
  refine sA_n ?_
  refine a_ret ?_
  obtain rfl := Option.some.inj H
  refine e_r2 (d := ?zd1) ?_ ?_
  rotate_left
  ·simp only [EVT, resR, single, evLoad, cut, TIS, CS, reduceAdd, reduceEqDiff, ↓reduceIte, reduceCtorEq, reduceLT, reduceLeDiff, reduceSub, Nat.reduceBEq]
   (repeat' apply And.intro) <;> first | rfl | assumption | omega | (simp; done)
  exact (.ownL (by rfl) (fun e => by cases e) rfl (by first|rfl|omega|(simp;done)|(simp;omega)|(simp_all;done)) (.sm _ _ Span.pu))
def span_Add_1_f (x1 : Bool) (y1 : Bool) : Option Bool :=
 some (x1 || y1)
set_option maxHeartbeats 4000000 in
set_option maxRecDepth 20000 in
theorem span_Add_1_pc {x1 : Bool} {y1 : Bool} {r : Bool} (H : span_Add_1_f x1 y1 = some r) : PC Try.prog 81 [.bool x1, .bool y1] (.bool r) := by
 refine pcA_of Try.func81 (by rfl) (by decide) 9 (by rfl) [.tmp 4] (by rfl) ?_
 unfold span_Add_1_f at H
 simp only [ent]
 refine a_seq ?_
 refine a_reg _ rfl (s := ?zs1) ?_ ?_
 rotate_left
 ·simp only [EVT, stepR, evOp, St.ev, St.app, St.put, wrs, datOf, datOf1, TIS, CS, reduceAdd, reduceMul, reduceEqDiff, ↓reduceIte, reduceCtorEq, reduceLT, reduceLeDiff]
  (repeat' apply And.intro) <;> first|rfl|assumption|omega|(simp;done)|(simp;omega)|(simp_all;done)
 refine sA_n ?_
 refine a_seq ?_
 refine bool_split (b := x1) (fun zc1 => ?_) (fun zc1 => ?_)
 ·rw [zc1] at H
  refine a_reg _ rfl (s := ?zs2) ?_ ?_
  rotate_left
  ·simp only [EVT, stepR, evOp, St.ev, St.app, St.put, wrs, datOf, datOf1, TIS, CS, reduceAdd, reduceMul, reduceEqDiff, ↓reduceIte, reduceCtorEq, reduceLT, reduceLeDiff, Array.reduceGetElem?, ↓zc1]
   try simp only [EVT, stepR, evOp, St.ev, St.app, St.put, wrs, datOf, datOf1, TIS, CS, reduceAdd, reduceMul, reduceEqDiff, ↓reduceIte, reduceCtorEq, reduceLT, reduceLeDiff, Array.reduceGetElem?, ↓zc1]
   (repeat' apply And.intro) <;> first|rfl|assumption|omega|(simp;done)|(simp;omega)|(simp_all;done)
  refine sA_n ?_
  refine a_ret ?_
  obtain rfl := Option.some.inj H
  refine e_r2 (d := ?zd1) ?_ ?_
  rotate_left
  ·simp only [EVT, resR, single, evLoad, cut, TIS, CS, reduceAdd, reduceEqDiff, ↓reduceIte, reduceCtorEq, reduceLT, reduceLeDiff, reduceSub, Nat.reduceBEq, zc1]
   (repeat' apply And.intro) <;> first | rfl | assumption | omega | (simp; done)
  exact (.bool' (by first | rfl | assumption | (simp_all; done)))
 ·rw [zc1] at H
  refine a_reg _ rfl (s := ?zs3) ?_ ?_
  rotate_left
  ·simp only [EVT, stepR, evOp, St.ev, St.app, St.put, wrs, datOf, datOf1, TIS, CS, reduceAdd, reduceMul, reduceEqDiff, ↓reduceIte, reduceCtorEq, reduceLT, reduceLeDiff, Array.reduceGetElem?, ↓zc1]
   try simp only [EVT, stepR, evOp, St.ev, St.app, St.put, wrs, datOf, datOf1, TIS, CS, reduceAdd, reduceMul, reduceEqDiff, ↓reduceIte, reduceCtorEq, reduceLT, reduceLeDiff, Array.reduceGetElem?, ↓zc1]
   (repeat' apply And.intro) <;> first|rfl|assumption|omega|(simp;done)|(simp;omega)|(simp_all;done)
  refine sA_n ?_
  refine a_ret ?_
  obtain rfl := Option.some.inj H
  refine e_r2 (d := ?zd2) ?_ ?_
  rotate_left
  ·simp only [EVT, resR, single, evLoad, cut, TIS, CS, reduceAdd, reduceEqDiff, ↓reduceIte, reduceCtorEq, reduceLT, reduceLeDiff, reduceSub, Nat.reduceBEq, zc1]
   (repeat' apply And.intro) <;> first | rfl | assumption | omega | (simp; done)
  exact (.bool' rfl)
def span_Cut_1_f (x1 : Bool) (y1 : Bool) : Option Bool :=
 some (x1 && (!y1))
set_option maxHeartbeats 4000000 in
set_option maxRecDepth 20000 in
theorem span_Cut_1_pc {x1 : Bool} {y1 : Bool} {r : Bool} (H : span_Cut_1_f x1 y1 = some r) : PC Try.prog 67 [.bool x1, .bool y1] (.bool r) := by
 refine pcA_of Try.func67 (by rfl) (by decide) 10 (by rfl) [.tmp 4] (by rfl) ?_
 unfold span_Cut_1_f at H
 simp only [ent]
 refine a_seq ?_
 refine a_reg _ rfl (s := ?zs1) ?_ ?_
 rotate_left
 ·simp only [EVT, stepR, evOp, St.ev, St.app, St.put, wrs, datOf, datOf1, TIS, CS, reduceAdd, reduceMul, reduceEqDiff, ↓reduceIte, reduceCtorEq, reduceLT, reduceLeDiff]
  (repeat' apply And.intro) <;> first|rfl|assumption|omega|(simp;done)|(simp;omega)|(simp_all;done)
 refine sA_n ?_
 refine a_seq ?_
 refine bool_split (b := x1) (fun zc1 => ?_) (fun zc1 => ?_)
 ·rw [zc1] at H
  refine a_reg _ rfl (s := ?zs2) ?_ ?_
  rotate_left
  ·simp only [EVT, stepR, evOp, St.ev, St.app, St.put, wrs, evUn, datOf, datOf1, TIS, CS, reduceAdd, reduceMul, reduceEqDiff, ↓reduceIte, reduceCtorEq, reduceLT, reduceLeDiff, Array.reduceGetElem?, ↓zc1]
   try simp only [EVT, stepR, evOp, St.ev, St.app, St.put, wrs, evUn, datOf, datOf1, TIS, CS, reduceAdd, reduceMul, reduceEqDiff, ↓reduceIte, reduceCtorEq, reduceLT, reduceLeDiff, Array.reduceGetElem?, ↓zc1]
   (repeat' apply And.intro) <;> first|rfl|assumption|omega|(simp;done)|(simp;omega)|(simp_all;done)
  refine sA_n ?_
  refine a_ret ?_
  obtain rfl := Option.some.inj H
  refine e_r2 (d := ?zd1) ?_ ?_
  rotate_left
  ·simp only [EVT, resR, single, evLoad, cut, TIS, CS, reduceAdd, reduceEqDiff, ↓reduceIte, reduceCtorEq, reduceLT, reduceLeDiff, reduceSub, Nat.reduceBEq, zc1]
   (repeat' apply And.intro) <;> first | rfl | assumption | omega | (simp; done)
  exact (.bool' rfl)
 ·rw [zc1] at H
  refine a_reg _ rfl (s := ?zs3) ?_ ?_
  rotate_left
  ·simp only [EVT, stepR, evOp, St.ev, St.app, St.put, wrs, evUn, datOf, datOf1, TIS, CS, reduceAdd, reduceMul, reduceEqDiff, ↓reduceIte, reduceCtorEq, reduceLT, reduceLeDiff, Array.reduceGetElem?, ↓zc1]
   try simp only [EVT, stepR, evOp, St.ev, St.app, St.put, wrs, evUn, datOf, datOf1, TIS, CS, reduceAdd, reduceMul, reduceEqDiff, ↓reduceIte, reduceCtorEq, reduceLT, reduceLeDiff, Array.reduceGetElem?, ↓zc1]
   (repeat' apply And.intro) <;> first|rfl|assumption|omega|(simp;done)|(simp;omega)|(simp_all;done)
  refine sA_n ?_
  refine a_ret ?_
  obtain rfl := Option.some.inj H
  refine e_r2 (d := ?zd2) ?_ ?_
  rotate_left
  ·simp only [EVT, resR, single, evLoad, cut, TIS, CS, reduceAdd, reduceEqDiff, ↓reduceIte, reduceCtorEq, reduceLT, reduceLeDiff, reduceSub, Nat.reduceBEq, zc1]
   (repeat' apply And.intro) <;> first | rfl | assumption | omega | (simp; done)
  exact (.bool' (by first | rfl | assumption | (simp_all; done)))
def span_Add_f (a1 : List Span) (b1 : List Span) : Option (List Span) :=
 (span_asked_of_f span_Add_1_f a1 b1).bind fun r1 => some (r1)
set_option maxHeartbeats 4000000 in
set_option maxRecDepth 20000 in
theorem span_Add_pc {a1 : List Span} {b1 : List Span} {r : (List Span)} (H : span_Add_f a1 b1 = some r) : PC Try.prog 69 [.list 2 (a1.map Span.c), .list 2 (b1.map Span.c)] (.list 2 (r.map Span.c)) := by
 refine pcA_of Try.func69 (by rfl) (by decide) 9 (by rfl) [.tmp 4] (by rfl) ?_
 unfold span_Add_f at H
 simp only [ent]
 refine a_seq ?_
 refine a_reg _ rfl (s := ?zs1) ?_ ?_
 rotate_left
 ·simp only [EVT, stepR, evOp, St.ev, St.app, St.put, wrs, datOf, datOf1, TIS, CS, reduceAdd, reduceMul, reduceEqDiff, ↓reduceIte, reduceCtorEq, reduceLT, reduceLeDiff]
  (repeat' apply And.intro) <;> first|rfl|assumption|omega|(simp;done)|(simp;omega)|(simp_all;done)
 refine sA_n ?_
 refine a_seq ?_
 obtain ⟨r1, zh1, H⟩ := bind_some H
 have zk1 := span_asked_of_pc (q1 := span_Add_1_f) (q1_F := 81) (q1_caps := []) (fun _ _ _ h => span_Add_1_pc h) .nil zh1
 refine a_reg _ rfl (s := ?zs2) ?_ ?_
 rotate_left
 ·try simp only [EVT, stepR, evOp, St.ev, St.app, St.put, wrs, fillD, setR, frz, TIS, CS, reduceAdd, reduceMul, reduceEqDiff, ↓reduceIte, reduceCtorEq, reduceLT, reduceLeDiff, Nat.reduceGT, reduceSub, Nat.reduceBEq]
  repeat' with_reducible apply And.intro
  all_goals try ((with_reducible show CallR _ _ _ _ _ _ _); refine cR_p zk1 (.cons (.agg' (.cons (.fn' .nil .nil) .nil)) (.cons (.lst _ _ _ Span.pu rfl) (.cons (.lst _ _ _ Span.pu rfl) .nil))) ?_; simp only [EVT, stepR, evOp, St.ev, St.app, St.put, wrs, fillD, setR, frz, TIS, CS, reduceAdd, reduceMul, reduceEqDiff, ↓reduceIte, reduceCtorEq, reduceLT, reduceLeDiff, Nat.reduceGT, reduceSub, Nat.reduceBEq])
  all_goals ((repeat' apply And.intro) <;> first|rfl|assumption|omega|(simp;done)|(simp;omega)|(simp_all;done))
 refine sA_n ?_
 refine a_ret ?_
 obtain rfl := Option.some.inj H
 refine e_r2 (d := ?zd1) ?_ ?_
 rotate_left
 ·simp only [EVT, resR, single, evLoad, cut, TIS, CS, reduceAdd, reduceEqDiff, ↓reduceIte, reduceCtorEq, reduceLT, reduceLeDiff, reduceSub, Nat.reduceBEq]
  (repeat' apply And.intro) <;> first | rfl | assumption | omega | (simp; done)
 exact (.lst _ _ _ Span.pu rfl)
def span_Norm_f (l1 : List Span) : Option (List Span) :=
 (span_Add_f l1 []).bind fun r1 => some (r1)
set_option maxHeartbeats 4000000 in
set_option maxRecDepth 20000 in
theorem span_Norm_pc {l1 : List Span} {r : (List Span)} (H : span_Norm_f l1 = some r) : PC Try.prog 48 [.list 2 (l1.map Span.c)] (.list 2 (r.map Span.c)) := by
 refine pcA_of Try.func48 (by rfl) (by decide) 5 (by rfl) [.tmp 2] (by rfl) ?_
 unfold span_Norm_f at H
 simp only [ent]
 refine a_seq ?_
 refine a_reg _ rfl (s := ?zs1) ?_ ?_
 rotate_left
 ·simp only [EVT, stepR, evOp, St.ev, St.app, St.put, wrs, datOf, datOf1, TIS, CS, reduceAdd, reduceMul, reduceEqDiff, ↓reduceIte, reduceCtorEq, reduceLT, reduceLeDiff]
  (repeat' apply And.intro) <;> first|rfl|assumption|omega|(simp;done)|(simp;omega)|(simp_all;done)
 refine sA_n ?_
 refine a_seq ?_
 obtain ⟨r1, zh1, H⟩ := bind_some H
 have zk1 := span_Add_pc zh1
 refine a_reg _ rfl (s := ?zs2) ?_ ?_
 rotate_left
 ·try simp only [EVT, stepR, evOp, St.ev, St.app, St.put, wrs, datOf, datOf1, frz, TIS, CS, reduceAdd, reduceMul, reduceEqDiff, ↓reduceIte, reduceCtorEq, reduceLT, reduceLeDiff, reduceSub, Nat.reduceBEq]
  repeat' with_reducible apply And.intro
  all_goals try ((with_reducible show CallR _ _ _ _ _ _ _); refine cR_p zk1 (.cons (.lst _ _ _ Span.pu rfl) (.cons (.nil _) .nil)) ?_; simp only [EVT, stepR, evOp, St.ev, St.app, St.put, wrs, datOf, datOf1, frz, TIS, CS, reduceAdd, reduceMul, reduceEqDiff, ↓reduceIte, reduceCtorEq, reduceLT, reduceLeDiff, reduceSub, Nat.reduceBEq])
  all_goals ((repeat' apply And.intro) <;> first|rfl|assumption|omega|(simp;done)|(simp;omega)|(simp_all;done))
 refine sA_n ?_
 refine a_ret ?_
 obtain rfl := Option.some.inj H
 refine e_r2 (d := ?zd1) ?_ ?_
 rotate_left
 ·simp only [EVT, resR, single, evLoad, cut, TIS, CS, reduceAdd, reduceEqDiff, ↓reduceIte, reduceCtorEq, reduceLT, reduceLeDiff, reduceSub, Nat.reduceBEq]
  (repeat' apply And.intro) <;> first | rfl | assumption | omega | (simp; done)
 exact (.lst _ _ _ Span.pu rfl)
def span_Cut_f (a1 : List Span) (b1 : List Span) : Option (List Span) :=
 (span_asked_of_f span_Cut_1_f a1 b1).bind fun r1 => some (r1)
set_option maxHeartbeats 4000000 in
set_option maxRecDepth 20000 in
theorem span_Cut_pc {a1 : List Span} {b1 : List Span} {r : (List Span)} (H : span_Cut_f a1 b1 = some r) : PC Try.prog 47 [.list 2 (a1.map Span.c), .list 2 (b1.map Span.c)] (.list 2 (r.map Span.c)) := by
 refine pcA_of Try.func47 (by rfl) (by decide) 9 (by rfl) [.tmp 4] (by rfl) ?_
 unfold span_Cut_f at H
 simp only [ent]
 refine a_seq ?_
 refine a_reg _ rfl (s := ?zs1) ?_ ?_
 rotate_left
 ·simp only [EVT, stepR, evOp, St.ev, St.app, St.put, wrs, datOf, datOf1, TIS, CS, reduceAdd, reduceMul, reduceEqDiff, ↓reduceIte, reduceCtorEq, reduceLT, reduceLeDiff]
  (repeat' apply And.intro) <;> first|rfl|assumption|omega|(simp;done)|(simp;omega)|(simp_all;done)
 refine sA_n ?_
 refine a_seq ?_
 obtain ⟨r1, zh1, H⟩ := bind_some H
 have zk1 := span_asked_of_pc (q1 := span_Cut_1_f) (q1_F := 67) (q1_caps := []) (fun _ _ _ h => span_Cut_1_pc h) .nil zh1
 refine a_reg _ rfl (s := ?zs2) ?_ ?_
 rotate_left
 ·try simp only [EVT, stepR, evOp, St.ev, St.app, St.put, wrs, fillD, setR, frz, TIS, CS, reduceAdd, reduceMul, reduceEqDiff, ↓reduceIte, reduceCtorEq, reduceLT, reduceLeDiff, Nat.reduceGT, reduceSub, Nat.reduceBEq]
  repeat' with_reducible apply And.intro
  all_goals try ((with_reducible show CallR _ _ _ _ _ _ _); refine cR_p zk1 (.cons (.agg' (.cons (.fn' .nil .nil) .nil)) (.cons (.lst _ _ _ Span.pu rfl) (.cons (.lst _ _ _ Span.pu rfl) .nil))) ?_; simp only [EVT, stepR, evOp, St.ev, St.app, St.put, wrs, fillD, setR, frz, TIS, CS, reduceAdd, reduceMul, reduceEqDiff, ↓reduceIte, reduceCtorEq, reduceLT, reduceLeDiff, Nat.reduceGT, reduceSub, Nat.reduceBEq])
  all_goals ((repeat' apply And.intro) <;> first|rfl|assumption|omega|(simp;done)|(simp;omega)|(simp_all;done))
 refine sA_n ?_
 refine a_ret ?_
 obtain rfl := Option.some.inj H
 refine e_r2 (d := ?zd1) ?_ ?_
 rotate_left
 ·simp only [EVT, resR, single, evLoad, cut, TIS, CS, reduceAdd, reduceEqDiff, ↓reduceIte, reduceCtorEq, reduceLT, reduceLeDiff, reduceSub, Nat.reduceBEq]
  (repeat' apply And.intro) <;> first | rfl | assumption | omega | (simp; done)
 exact (.lst _ _ _ Span.pu rfl)
def lease_Has_J2 (s1 : Span) (all1 : List Span) : Option Bool :=
 (span_Norm_f all1).bind fun r1 => (span_Cut_f [s1] r1).bind fun r2 => some (((r2.length : Int) == 0))
def lease_Has_J3 (k_lease_Has_L1 : (List Span) → Int → Option Bool) (v2 : Int) (all3 : List Span) : Option Bool :=
 k_lease_Has_L1 all3 (IntKind.wrap .i64 (v2 + 1))
def lease_Has_J4 (k_lease_Has_L1 : (List Span) → Int → Option Bool) (all2 : List Span) (v2 : Int) (x1 : Lease) (v3 : Bool) : Option Bool :=
 cond v3 (chk ((all2.length + 1) * 16 ≤ 140737488355328) (lease_Has_J3 k_lease_Has_L1 v2 (all2 ++ [x1.span]))) (lease_Has_J3 k_lease_Has_L1 v2 all2)
def lease_Has_L1 (l1 : List Lease) (client1 : Int) (ino1 : Int) (kind1 : Int) (s1 : Span) : Nat → (List Span) → Int → Option Bool
 | 0, _, _ => none
 | m_ + 1, all2, v2 => cond (decide (v2 < (l1.length : Int))) ((idx l1 v2).bind fun x1 => lease_Has_J4 (lease_Has_L1 l1 client1 ino1 kind1 s1 m_) all2 v2 x1 ((x1.client == client1) && ((x1.ino == ino1) && ((x1.kind == kind1) || (x1.kind == 2))))) (lease_Has_J2 s1 all2)
def lease_Has_J1 (l1 : List Lease) (client1 : Int) (ino1 : Int) (kind1 : Int) (s1 : Span) (v1 : Bool) : Option Bool :=
 cond v1 (some (false)) (lease_Has_L1 l1 client1 ino1 kind1 s1 BIG [] 0)
def lease_Has_f (l1 : List Lease) (client1 : Int) (ino1 : Int) (kind1 : Int) (s1 : Span) : Option Bool :=
 (lease_spanned_f s1).bind fun r3 => cond (!r3) (lease_Has_J1 l1 client1 ino1 kind1 s1 true) ((lease_kinded_f kind1).bind fun r4 => lease_Has_J1 l1 client1 ino1 kind1 s1 (!r4))
set_option maxHeartbeats 4000000 in
set_option maxRecDepth 20000 in
theorem lease_Has_pc {l1 : List Lease} {client1 : Int} {ino1 : Int} {kind1 : Int} {s1 : Span} {r : Bool} (H : lease_Has_f l1 client1 ino1 kind1 s1 = some r) : PC Try.prog 19 [.list 7 (l1.map Lease.c), .int .i64 client1, .int .i64 ino1, .int .i64 kind1, .agg (Span.c s1)] (.bool r) := by
 refine pcA_of Try.func19 (by rfl) (by decide) 62 (by rfl) [.tmp 10] (by rfl) ?_
 unfold lease_Has_f at H
 simp only [ent]
 refine a_seq ?_
 refine a_reg _ rfl (s := ?zs1) ?_ ?_
 rotate_left
 ·simp only [EVT, stepR, evOp, St.ev, St.app, St.put, wrs, allOne, datOf, datOf1, TIS, CS, reduceAdd, reduceMul, reduceEqDiff, ↓reduceIte, reduceCtorEq, reduceLT, reduceLeDiff]
  (repeat' apply And.intro) <;> first|rfl|assumption|omega|(simp;done)|(simp;omega)|(simp_all;done)
 refine sA_n ?_
 refine a_seq ?_
 refine a_cut (fun s => ∃ (v1 : Bool) (t0 : Nat → Dat), lease_Has_J1 l1 client1 ino1 kind1 s1 v1 = some r ∧ s = ⟨tl t0 [(0, .list 7 (l1.map Lease.c)), (1, .int .i64 client1), (2, .int .i64 ino1), (3, .int .i64 kind1), (9, .ptr 0 0 0 2), (21, .bool v1)], hl [⟨53, 2, false, [[.int .i64 s1.from_, .int .i64 s1.to_]]⟩], 1, 62⟩) ?_ ?_
 ·obtain ⟨r3, zh5, H⟩ := bind_some H
  have zk3 := lease_spanned_pc zh5
  refine bool_split (b := (!r3)) (fun zc7 => ?_) (fun zc7 => ?_)
  ·have H := cond_t zc7 H
   refine a_reg _ rfl (s := ?zs14) ?_ ?_
   rotate_left
   ·try simp only [EVT, stepR, evOp, St.ev, St.app, St.put, wrs, evLoad, cut, frz, evUn, datOf, datOf1, TIS, CS, reduceAdd, reduceMul, reduceEqDiff, ↓reduceIte, reduceCtorEq, reduceLT, reduceLeDiff, Array.reduceGetElem?, reduceSub, Nat.reduceBEq, ↓zc7]
    repeat' with_reducible apply And.intro
    all_goals try ((with_reducible show CallR _ _ _ _ _ _ _); refine cR_s zk3 (.cons (.agg' (.cons (.int' rfl) (.cons (.int' rfl) .nil))) .nil) (.bool _) ?_; simp only [EVT, stepR, evOp, St.ev, St.app, St.put, wrs, evLoad, cut, frz, evUn, datOf, datOf1, TIS, CS, reduceAdd, reduceMul, reduceEqDiff, ↓reduceIte, reduceCtorEq, reduceLT, reduceLeDiff, Array.reduceGetElem?, reduceSub, Nat.reduceBEq, ↓zc7])
    all_goals ((repeat' apply And.intro) <;> first|rfl|assumption|omega|(simp;done)|(simp;omega)|(simp_all;done))
   refine cA_n ?_
   refine wk_l [(some 0, ⟨53, 2, false, [[.int .i64 s1.from_, .int .i64 s1.to_]]⟩)] [] [(0, .list 7 (l1.map Lease.c)), (1, .int .i64 client1), (2, .int .i64 ino1), (3, .int .i64 kind1), (9, .ptr 0 0 0 2), (21, .bool true)] (by show ([0, 1, 2, 3, 9, 21] : List Nat).Nodup; decide) (by show ([0] : List Nat).Nodup; decide) ?_ ?_ (fun t0 => ⟨true, t0, H, rfl⟩)
   ·exact (allB_some (by rfl) rfl (.cons (.cons (.int' rfl) (.cons (.int' rfl) .nil)) .nil) trivial)
   ·(simp only [AllT, ATT, reduceEqDiff, ↓reduceIte, and_true]); exact ⟨(.lst _ _ _ Lease.pu rfl), (.int' rfl), (.int' rfl), (.int' rfl), (.ptr _ _ _ _ _ rfl), (.bool' (by first | rfl | assumption | (simp_all; done)))⟩
  ·have H := cond_f zc7 H
   obtain ⟨r4, zh6, H⟩ := bind_some H
   have zk4 := lease_kinded_pc zh6
   refine a_reg _ rfl (s := ?zs15) ?_ ?_
   rotate_left
   ·try simp only [EVT, stepR, evOp, St.ev, St.app, St.put, wrs, evLoad, cut, frz, evUn, datOf, datOf1, TIS, CS, reduceAdd, reduceMul, reduceEqDiff, ↓reduceIte, reduceCtorEq, reduceLT, reduceLeDiff, Array.reduceGetElem?, reduceSub, Nat.reduceBEq, ↓zc7]
    repeat' with_reducible apply And.intro
    all_goals try ((with_reducible show CallR _ _ _ _ _ _ _); refine cR_s zk3 (.cons (.agg' (.cons (.int' rfl) (.cons (.int' rfl) .nil))) .nil) (.bool _) ?_; simp only [EVT, stepR, evOp, St.ev, St.app, St.put, wrs, evLoad, cut, frz, evUn, datOf, datOf1, TIS, CS, reduceAdd, reduceMul, reduceEqDiff, ↓reduceIte, reduceCtorEq, reduceLT, reduceLeDiff, Array.reduceGetElem?, reduceSub, Nat.reduceBEq, ↓zc7])
    repeat' with_reducible apply And.intro
    all_goals try ((with_reducible show CallR _ _ _ _ _ _ _); refine cR_s zk4 (.cons (.int' rfl) .nil) (.bool _) ?_; simp only [EVT, stepR, evOp, St.ev, St.app, St.put, wrs, evLoad, cut, frz, evUn, datOf, datOf1, TIS, CS, reduceAdd, reduceMul, reduceEqDiff, ↓reduceIte, reduceCtorEq, reduceLT, reduceLeDiff, Array.reduceGetElem?, reduceSub, Nat.reduceBEq, ↓zc7])
    all_goals ((repeat' apply And.intro) <;> first|rfl|assumption|omega|(simp;done)|(simp;omega)|(simp_all;done))
   refine cA_n ?_
   refine wk_l [(some 0, ⟨53, 2, false, [[.int .i64 s1.from_, .int .i64 s1.to_]]⟩)] [] [(0, .list 7 (l1.map Lease.c)), (1, .int .i64 client1), (2, .int .i64 ino1), (3, .int .i64 kind1), (9, .ptr 0 0 0 2), (21, .bool (!r4))] (by show ([0, 1, 2, 3, 9, 21] : List Nat).Nodup; decide) (by show ([0] : List Nat).Nodup; decide) ?_ ?_ (fun t0 => ⟨(!r4), t0, H, rfl⟩)
   ·exact (allB_some (by rfl) rfl (.cons (.cons (.int' rfl) (.cons (.int' rfl) .nil)) .nil) trivial)
   ·(simp only [AllT, ATT, reduceEqDiff, ↓reduceIte, and_true]); exact ⟨(.lst _ _ _ Lease.pu rfl), (.int' rfl), (.int' rfl), (.int' rfl), (.ptr _ _ _ _ _ rfl), (.bool' rfl)⟩
 ·rintro s ⟨v1, t0, H, rfl⟩
  unfold lease_Has_J1 at H
  refine a_condb (v1) (by rfl) (fun zc1 => ?_) (fun zc1 => ?_)
  ·have H := cond_t zc1 H
   refine a_seq ?_
   refine a_reg _ rfl (s := ?zs2) ?_ ?_
   rotate_left
   ·simp only [EVT, stepR, evOp, St.ev, St.app, St.put, wrs, datOf, datOf1, TIS, CS, reduceAdd, reduceMul, reduceEqDiff, ↓reduceIte, reduceCtorEq, reduceLT, reduceLeDiff, ↓zc1]
    (repeat' apply And.intro) <;> first|rfl|assumption|omega|(simp;done)|(simp;omega)|(simp_all;done)
   refine sA_n ?_
   refine a_ret ?_
   refine sA_r ?_
   obtain rfl := Option.some.inj H
   refine e_r2 (d := ?zd1) ?_ ?_
   rotate_left
   ·simp only [EVT, resR, single, evLoad, cut, TIS, CS, reduceAdd, reduceEqDiff, ↓reduceIte, reduceCtorEq, reduceLT, reduceLeDiff, reduceSub, Nat.reduceBEq, zc1]
    (repeat' apply And.intro) <;> first | rfl | assumption | omega | (simp; done)
   exact (.bool' (by first | rfl | assumption | (simp_all; done)))
  ·have H := cond_f zc1 H
   refine a_skip ?_
   refine sA_n ?_
   refine a_seq ?_
   refine a_reg _ rfl (s := ?zs3) ?_ ?_
   rotate_left
   ·simp only [EVT, stepR, evOp, St.ev, St.app, St.put, wrs, datOf, datOf1, TIS, CS, reduceAdd, reduceMul, reduceEqDiff, ↓reduceIte, reduceCtorEq, reduceLT, reduceLeDiff, ↓zc1]
    (repeat' apply And.intro) <;> first|rfl|assumption|omega|(simp;done)|(simp;omega)|(simp_all;done)
   refine sA_n ?_
   refine a_cut (fun s => ∃ (all1 : List Span) (t0 : Nat → Dat), lease_Has_J2 s1 all1 = some r ∧ s = ⟨tl t0 [(9, .ptr 0 0 0 2), (11, .ref 1 0 all1.length 2)], hl [⟨53, 2, false, [[.int .i64 s1.from_, .int .i64 s1.to_]]⟩, ⟨53, 2, false, all1.map Span.c⟩], 2, 62⟩) ?_ ?_
   ·refine a_seq ?_
    refine a_reg _ rfl (s := ?zs5) ?_ ?_
    rotate_left
    ·simp only [EVT, stepR, evOp, St.ev, St.app, St.put, wrs, evBuiltin, datOf, datOf1, TIS, CS, reduceAdd, reduceMul, reduceEqDiff, ↓reduceIte, reduceCtorEq, reduceLT, reduceLeDiff, reduceSub, Nat.reduceBEq, ↓zc1]
     (repeat' apply And.intro) <;> first|rfl|assumption|omega|(simp;done)|(simp;omega)|(simp_all;done)
    refine sA_n ?_
    refine a_blk ?_
    refine a_loop (fun m s => ∃ (all2 : List Span) (v2 : Int) (t0 : Nat → Dat), lease_Has_L1 l1 client1 ino1 kind1 s1 m all2 v2 = some r ∧ s = ⟨tl t0 [(1, .int .i64 client1), (2, .int .i64 ino1), (3, .int .i64 kind1), (9, .ptr 0 0 0 2), (11, .ref 1 0 all2.length 2), (22, .list 7 (l1.map Lease.c)), (23, .int .i64 (l1.length : Int)), (24, .int .i64 v2)], hl [⟨53, 2, false, [[.int .i64 s1.from_, .int .i64 s1.to_]]⟩, ⟨53, 2, false, all2.map Span.c⟩], 2, 62⟩) BIG ?_ ?_
    ·refine wk_l [(some 0, ⟨53, 2, false, [[.int .i64 s1.from_, .int .i64 s1.to_]]⟩), (none, ⟨53, 2, false, [].map Span.c⟩)] [] [(1, .int .i64 client1), (2, .int .i64 ino1), (3, .int .i64 kind1), (9, .ptr 0 0 0 2), (11, .ref 1 0 [].length 2), (22, .list 7 (l1.map Lease.c)), (23, .int .i64 (l1.length : Int)), (24, .int .i64 0)] (by show ([1, 2, 3, 9, 11, 22, 23, 24] : List Nat).Nodup; decide) (by show ([0] : List Nat).Nodup; decide) ?_ ?_ (fun t0 => ⟨[], 0, t0, H, rfl⟩)
     ·exact (allB_some (by rfl) rfl (.cons (.cons (.int' rfl) (.cons (.int' rfl) .nil)) .nil) (allB_none rfl trivial))
     ·(simp only [AllT, ATT, reduceEqDiff, ↓reduceIte, and_true]); exact ⟨(.int' rfl), (.int' rfl), (.int' rfl), (.ptr _ _ _ _ _ rfl), (.nilv _ _ rfl rfl), (.lst _ _ _ Lease.pu rfl), (.int' rfl), (.int' rfl)⟩
    ·rintro m_lease_Has_L1 s ⟨all2, v2, t0, H, rfl⟩
     obtain _ | m_lease_Has_L1 := m_lease_Has_L1
     ·cases (show (none : Option _) = some _ from H)
     ·rw [lease_Has_L1] at H
      refine a_seq ?_
      refine a_reg _ rfl (s := ?zs6) ?_ ?_
      rotate_left
      ·simp only [EVT, stepR, evOp, St.ev, St.app, St.put, wrs, evBin, binInt, TIS, CS, reduceAdd, reduceMul, reduceEqDiff, ↓reduceIte, reduceCtorEq, reduceLT, reduceLeDiff]
       (repeat' apply And.intro) <;> first|rfl|assumption|omega|(simp;done)|(simp;omega)|(simp_all;done)
      refine sA_n ?_
      refine a_seq ?_
      refine a_condb ((decide (v2 < (l1.length : Int)))) (by rfl) (fun zc2 => ?_) (fun zc2 => ?_)
      ·have H := cond_t zc2 H
       refine a_skip ?_
       refine sA_n ?_
       refine a_cut (fun s => ∃ (all3 : List Span) (t0 : Nat → Dat), lease_Has_J3 (lease_Has_L1 l1 client1 ino1 kind1 s1 m_lease_Has_L1) v2 all3 = some r ∧ s = ⟨tl t0 [(1, .int .i64 client1), (2, .int .i64 ino1), (3, .int .i64 kind1), (9, .ptr 0 0 0 2), (11, .ref 1 0 all3.length 2), (22, .list 7 (l1.map Lease.c)), (23, .int .i64 (l1.length : Int)), (24, .int .i64 v2)], hl [⟨53, 2, false, [[.int .i64 s1.from_, .int .i64 s1.to_]]⟩, ⟨53, 2, false, all3.map Span.c⟩], 2, 62⟩) ?_ ?_
       ·refine a_blk ?_
        refine a_seq ?_
        obtain ⟨x1, zh3, H⟩ := bind_some H
        have zg1 := idx_map zh3 Lease.c
        try simp only [Int.reduceToNat, Int.toNat_natCast] at zg1
        obtain ⟨zh3a, zh3b, _⟩ := idx_some zh3
        refine a_reg _ rfl (s := ?zs8) ?_ ?_
        rotate_left
        ·simp only [EVT, stepR, evOp, St.ev, St.app, St.put, wrs, evIndexAddr, evLoad, cut, allOne, evStore, setR, TIS, CS, reduceAdd, reduceMul, reduceEqDiff, ↓reduceIte, reduceCtorEq, reduceLT, reduceLeDiff, Int.reduceToNat, reduceSub, Nat.reduceBEq, ↓zc2, zg1]
         (repeat' apply And.intro) <;> first|rfl|assumption|omega|(simp;done)|(simp;omega)|(simp_all;done)
        refine sA_n ?_
        refine a_cut (fun s => ∃ (v3 : Bool) (t0 : Nat → Dat), lease_Has_J4 (lease_Has_L1 l1 client1 ino1 kind1 s1 m_lease_Has_L1) all2 v2 x1 v3 = some r ∧ s = ⟨tl t0 [(1, .int .i64 client1), (2, .int .i64 ino1), (3, .int .i64 kind1), (9, .ptr 0 0 0 2), (11, .ref 1 0 all2.length 2), (13, .ptr 2 0 0 7), (22, .list 7 (l1.map Lease.c)), (23, .int .i64 (l1.length : Int)), (24, .int .i64 v2), (48, .bool v3)], hl [⟨53, 2, false, [[.int .i64 s1.from_, .int .i64 s1.to_]]⟩, ⟨53, 2, false, all2.map Span.c⟩, ⟨68, 7, false, [[.int .i64 x1.client, .int .i64 x1.ino, .int .i64 x1.kind, .int .i64 x1.span.from_, .int .i64 x1.span.to_, .int .i64 x1.until_, .int .i64 x1.epoch]]⟩], 3, 62⟩) ?_ ?_
        ·refine bool_split (b := (x1.client == client1)) (fun zc4 => ?_) (fun zc4 => ?_)
         ·rw [zc4] at H
          refine bool_split (b := (x1.ino == ino1)) (fun zc5 => ?_) (fun zc5 => ?_)
          ·rw [zc5] at H
           refine bool_split (b := (x1.kind == kind1)) (fun zc6 => ?_) (fun zc6 => ?_)
           ·rw [zc6] at H
            refine a_reg _ rfl (s := ?zs10) ?_ ?_
            rotate_left
            ·simp only [EVT, stepR, evOp, St.ev, St.app, St.put, wrs, evFieldAddr, evLoad, cut, evBin, binInt, datOf, datOf1, TIS, CS, reduceAdd, reduceMul, reduceEqDiff, ↓reduceIte, reduceCtorEq, reduceLT, reduceLeDiff, Array.reduceGetElem?, reduceSub, Nat.reduceBEq, ↓zc2, zg1, ↓zc4, ↓zc5, ↓zc6]
             try simp only [EVT, stepR, evOp, St.ev, St.app, St.put, wrs, evFieldAddr, evLoad, cut, evBin, binInt, datOf, datOf1, TIS, CS, reduceAdd, reduceMul, reduceEqDiff, ↓reduceIte, reduceCtorEq, reduceLT, reduceLeDiff, Array.reduceGetElem?, reduceSub, Nat.reduceBEq, ↓zc2, zg1, ↓zc4, ↓zc5, ↓zc6]
             (repeat' apply And.intro) <;> first|rfl|assumption|omega|(simp;done)|(simp;omega)|(simp_all;done)
            refine cA_n ?_
            refine wk_l [(some 0, ⟨53, 2, false, [[.int .i64 s1.from_, .int .i64 s1.to_]]⟩), (some 1, ⟨53, 2, false, all2.map Span.c⟩), (some 12, ⟨68, 7, false, [[.int .i64 x1.client, .int .i64 x1.ino, .int .i64 x1.kind, .int .i64 x1.span.from_, .int .i64 x1.span.to_, .int .i64 x1.until_, .int .i64 x1.epoch]]⟩)] [] [(1, .int .i64 client1), (2, .int .i64 ino1), (3, .int .i64 kind1), (9, .ptr 0 0 0 2), (11, .ref 1 0 all2.length 2), (13, .ptr 2 0 0 7), (22, .list 7 (l1.map Lease.c)), (23, .int .i64 (l1.length : Int)), (24, .int .i64 v2), (48, .bool true)] (by show ([1, 2, 3, 9, 11, 13, 22, 23, 24, 48] : List Nat).Nodup; decide) (by show ([0, 1, 12] : List Nat).Nodup; decide) ?_ ?_ (fun t0 => ⟨true, t0, H, rfl⟩)
            ·exact (allB_some (by rfl) rfl (.cons (.cons (.int' rfl) (.cons (.int' rfl) .nil)) .nil) (allB_some (by rfl) rfl (.sm _ _ Span.pu) (allB_some (by rfl) rfl (.cons (.cons (.int' rfl) (.cons (.int' rfl) (.cons (.int' rfl) (.cons (.int' rfl) (.cons (.int' rfl) (.cons (.int' rfl) (.cons (.int' rfl) .nil))))))) .nil) trivial)))
            ·(simp only [AllT, ATT, reduceEqDiff, ↓reduceIte, and_true]); exact ⟨(.int' rfl), (.int' rfl), (.int' rfl), (.ptr _ _ _ _ _ rfl), (.refl' (by first|rfl|omega|(simp;done)|(simp;omega)|(simp_all;done)) rfl), (.ptr _ _ _ _ _ rfl), (.lst _ _ _ Lease.pu rfl), (.int' rfl), (.int' rfl), (.bool' (by first | rfl | assumption | (simp_all; done)))⟩
           ·rw [zc6] at H
            refine a_reg _ rfl (s := ?zs11) ?_ ?_
            rotate_left
            ·simp only [EVT, stepR, evOp, St.ev, St.app, St.put, wrs, evFieldAddr, evLoad, cut, evBin, binInt, datOf, datOf1, TIS, CS, reduceAdd, reduceMul, reduceEqDiff, ↓reduceIte, reduceCtorEq, reduceLT, reduceLeDiff, Array.reduceGetElem?, reduceSub, Nat.reduceBEq, ↓zc2, zg1, ↓zc4, ↓zc5, ↓zc6]
             try simp only [EVT, stepR, evOp, St.ev, St.app, St.put, wrs, evFieldAddr, evLoad, cut, evBin, binInt, datOf, datOf1, TIS, CS, reduceAdd, reduceMul, reduceEqDiff, ↓reduceIte, reduceCtorEq, reduceLT, reduceLeDiff, Array.reduceGetElem?, reduceSub, Nat.reduceBEq, ↓zc2, zg1, ↓zc4, ↓zc5, ↓zc6]
             (repeat' apply And.intro) <;> first|rfl|assumption|omega|(simp;done)|(simp;omega)|(simp_all;done)
            refine cA_n ?_
            refine wk_l [(some 0, ⟨53, 2, false, [[.int .i64 s1.from_, .int .i64 s1.to_]]⟩), (some 1, ⟨53, 2, false, all2.map Span.c⟩), (some 12, ⟨68, 7, false, [[.int .i64 x1.client, .int .i64 x1.ino, .int .i64 x1.kind, .int .i64 x1.span.from_, .int .i64 x1.span.to_, .int .i64 x1.until_, .int .i64 x1.epoch]]⟩)] [] [(1, .int .i64 client1), (2, .int .i64 ino1), (3, .int .i64 kind1), (9, .ptr 0 0 0 2), (11, .ref 1 0 all2.length 2), (13, .ptr 2 0 0 7), (22, .list 7 (l1.map Lease.c)), (23, .int .i64 (l1.length : Int)), (24, .int .i64 v2), (48, .bool (x1.kind == 2))] (by show ([1, 2, 3, 9, 11, 13, 22, 23, 24, 48] : List Nat).Nodup; decide) (by show ([0, 1, 12] : List Nat).Nodup; decide) ?_ ?_ (fun t0 => ⟨(x1.kind == 2), t0, H, rfl⟩)
            ·exact (allB_some (by rfl) rfl (.cons (.cons (.int' rfl) (.cons (.int' rfl) .nil)) .nil) (allB_some (by rfl) rfl (.sm _ _ Span.pu) (allB_some (by rfl) rfl (.cons (.cons (.int' rfl) (.cons (.int' rfl) (.cons (.int' rfl) (.cons (.int' rfl) (.cons (.int' rfl) (.cons (.int' rfl) (.cons (.int' rfl) .nil))))))) .nil) trivial)))
            ·(simp only [AllT, ATT, reduceEqDiff, ↓reduceIte, and_true]); exact ⟨(.int' rfl), (.int' rfl), (.int' rfl), (.ptr _ _ _ _ _ rfl), (.refl' (by first|rfl|omega|(simp;done)|(simp;omega)|(simp_all;done)) rfl), (.ptr _ _ _ _ _ rfl), (.lst _ _ _ Lease.pu rfl), (.int' rfl), (.int' rfl), (.bool' rfl)⟩
          ·rw [zc5] at H
           refine a_reg _ rfl (s := ?zs12) ?_ ?_
           rotate_left
           ·simp only [EVT, stepR, evOp, St.ev, St.app, St.put, wrs, evFieldAddr, evLoad, cut, evBin, binInt, datOf, datOf1, TIS, CS, reduceAdd, reduceMul, reduceEqDiff, ↓reduceIte, reduceCtorEq, reduceLT, reduceLeDiff, Array.reduceGetElem?, reduceSub, Nat.reduceBEq, ↓zc2, zg1, ↓zc4, ↓zc5]
            try simp only [EVT, stepR, evOp, St.ev, St.app, St.put, wrs, evFieldAddr, evLoad, cut, evBin, binInt, datOf, datOf1, TIS, CS, reduceAdd, reduceMul, reduceEqDiff, ↓reduceIte, reduceCtorEq, reduceLT, reduceLeDiff, Array.reduceGetElem?, reduceSub, Nat.reduceBEq, ↓zc2, zg1, ↓zc4, ↓zc5]
            (repeat' apply And.intro) <;> first|rfl|assumption|omega|(simp;done)|(simp;omega)|(simp_all;done)
           refine cA_n ?_
           refine wk_l [(some 0, ⟨53, 2, false, [[.int .i64 s1.from_, .int .i64 s1.to_]]⟩), (some 1, ⟨53, 2, false, all2.map Span.c⟩), (some 12, ⟨68, 7, false, [[.int .i64 x1.client, .int .i64 x1.ino, .int .i64 x1.kind, .int .i64 x1.span.from_, .int .i64 x1.span.to_, .int .i64 x1.until_, .int .i64 x1.epoch]]⟩)] [] [(1, .int .i64 client1), (2, .int .i64 ino1), (3, .int .i64 kind1), (9, .ptr 0 0 0 2), (11, .ref 1 0 all2.length 2), (13, .ptr 2 0 0 7), (22, .list 7 (l1.map Lease.c)), (23, .int .i64 (l1.length : Int)), (24, .int .i64 v2), (48, .bool false)] (by show ([1, 2, 3, 9, 11, 13, 22, 23, 24, 48] : List Nat).Nodup; decide) (by show ([0, 1, 12] : List Nat).Nodup; decide) ?_ ?_ (fun t0 => ⟨false, t0, H, rfl⟩)
           ·exact (allB_some (by rfl) rfl (.cons (.cons (.int' rfl) (.cons (.int' rfl) .nil)) .nil) (allB_some (by rfl) rfl (.sm _ _ Span.pu) (allB_some (by rfl) rfl (.cons (.cons (.int' rfl) (.cons (.int' rfl) (.cons (.int' rfl) (.cons (.int' rfl) (.cons (.int' rfl) (.cons (.int' rfl) (.cons (.int' rfl) .nil))))))) .nil) trivial)))
           ·(simp only [AllT, ATT, reduceEqDiff, ↓reduceIte, and_true]); exact ⟨(.int' rfl), (.int' rfl), (.int' rfl), (.ptr _ _ _ _ _ rfl), (.refl' (by first|rfl|omega|(simp;done)|(simp;omega)|(simp_all;done)) rfl), (.ptr _ _ _ _ _ rfl), (.lst _ _ _ Lease.pu rfl), (.int' rfl), (.int' rfl), (.bool' (by first | rfl | assumption | (simp_all; done)))⟩
         ·rw [zc4] at H
          refine a_reg _ rfl (s := ?zs13) ?_ ?_
          rotate_left
          ·simp only [EVT, stepR, evOp, St.ev, St.app, St.put, wrs, evFieldAddr, evLoad, cut, evBin, binInt, datOf, datOf1, TIS, CS, reduceAdd, reduceMul, reduceEqDiff, ↓reduceIte, reduceCtorEq, reduceLT, reduceLeDiff, Array.reduceGetElem?, reduceSub, Nat.reduceBEq, ↓zc2, zg1, ↓zc4]
           try simp only [EVT, stepR, evOp, St.ev, St.app, St.put, wrs, evFieldAddr, evLoad, cut, evBin, binInt, datOf, datOf1, TIS, CS, reduceAdd, reduceMul, reduceEqDiff, ↓reduceIte, reduceCtorEq, reduceLT, reduceLeDiff, Array.reduceGetElem?, reduceSub, Nat.reduceBEq, ↓zc2, zg1, ↓zc4]
           (repeat' apply And.intro) <;> first|rfl|assumption|omega|(simp;done)|(simp;omega)|(simp_all;done)
          refine cA_n ?_
          refine wk_l [(some 0, ⟨53, 2, false, [[.int .i64 s1.from_, .int .i64 s1.to_]]⟩), (some 1, ⟨53, 2, false, all2.map Span.c⟩), (some 12, ⟨68, 7, false, [[.int .i64 x1.client, .int .i64 x1.ino, .int .i64 x1.kind, .int .i64 x1.span.from_, .int .i64 x1.span.to_, .int .i64 x1.until_, .int .i64 x1.epoch]]⟩)] [] [(1, .int .i64 client1), (2, .int .i64 ino1), (3, .int .i64 kind1), (9, .ptr 0 0 0 2), (11, .ref 1 0 all2.length 2), (13, .ptr 2 0 0 7), (22, .list 7 (l1.map Lease.c)), (23, .int .i64 (l1.length : Int)), (24, .int .i64 v2), (48, .bool false)] (by show ([1, 2, 3, 9, 11, 13, 22, 23, 24, 48] : List Nat).Nodup; decide) (by show ([0, 1, 12] : List Nat).Nodup; decide) ?_ ?_ (fun t0 => ⟨false, t0, H, rfl⟩)
          ·exact (allB_some (by rfl) rfl (.cons (.cons (.int' rfl) (.cons (.int' rfl) .nil)) .nil) (allB_some (by rfl) rfl (.sm _ _ Span.pu) (allB_some (by rfl) rfl (.cons (.cons (.int' rfl) (.cons (.int' rfl) (.cons (.int' rfl) (.cons (.int' rfl) (.cons (.int' rfl) (.cons (.int' rfl) (.cons (.int' rfl) .nil))))))) .nil) trivial)))
          ·(simp only [AllT, ATT, reduceEqDiff, ↓reduceIte, and_true]); exact ⟨(.int' rfl), (.int' rfl), (.int' rfl), (.ptr _ _ _ _ _ rfl), (.refl' (by first|rfl|omega|(simp;done)|(simp;omega)|(simp_all;done)) rfl), (.ptr _ _ _ _ _ rfl), (.lst _ _ _ Lease.pu rfl), (.int' rfl), (.int' rfl), (.bool' (by first | rfl | assumption | (simp_all; done)))⟩
        ·rintro s ⟨v3, t0, H, rfl⟩
         unfold lease_Has_J4 at H
         refine a_condb (v3) (by rfl) (fun zc3 => ?_) (fun zc3 => ?_)
         ·have H := cond_t zc3 H
          obtain ⟨zh4, H⟩ := chk_some H
          refine a_reg _ rfl (s := ?zs9) ?_ ?_
          rotate_left
          ·simp only [EVT, stepR, evOp, St.ev, St.app, St.put, wrs, evFieldAddr, evLoad, cut, allOne, evBuiltin, evAppend, isAl, elems, Option.elim, TIS, CS, reduceAdd, reduceMul, reduceEqDiff, ↓reduceIte, reduceCtorEq, reduceLT, reduceLeDiff, reduceSub, Nat.reduceBEq, ↓zc3]
           (repeat' apply And.intro) <;> first|rfl|assumption|omega|(simp;done)|(simp;omega)|(simp_all;done)
          refine bA_n ?_
          refine cA_n ?_
          refine wk_l [(some 0, ⟨53, 2, false, [[.int .i64 s1.from_, .int .i64 s1.to_]]⟩), (some 7, ⟨53, 2, false, (all2 ++ [x1.span]).map Span.c⟩)] [] [(1, .int .i64 client1), (2, .int .i64 ino1), (3, .int .i64 kind1), (9, .ptr 0 0 0 2), (11, .ref 1 0 (all2 ++ [x1.span]).length 2), (22, .list 7 (l1.map Lease.c)), (23, .int .i64 (l1.length : Int)), (24, .int .i64 v2)] (by show ([1, 2, 3, 9, 11, 22, 23, 24] : List Nat).Nodup; decide) (by show ([0, 7] : List Nat).Nodup; decide) ?_ ?_ (fun t0 => ⟨(all2 ++ [x1.span]), t0, H, rfl⟩)
          ·exact (allB_some (by rfl) rfl (.cons (.cons (.int' rfl) (.cons (.int' rfl) .nil)) .nil) (allB_some (by rfl) rfl (.sm _ _ Span.pu) trivial))
          ·(simp only [AllT, ATT, reduceEqDiff, ↓reduceIte, and_true]); exact ⟨(.int' rfl), (.int' rfl), (.int' rfl), (.ptr _ _ _ _ _ rfl), (.refl' (by first|rfl|omega|(simp;done)|(simp;omega)|(simp_all;done)) rfl), (.lst _ _ _ Lease.pu rfl), (.int' rfl), (.int' rfl)⟩
         ·have H := cond_f zc3 H
          refine a_skip ?_
          refine bA_n ?_
          refine cA_n ?_
          refine wk_l [(some 0, ⟨53, 2, false, [[.int .i64 s1.from_, .int .i64 s1.to_]]⟩), (some 1, ⟨53, 2, false, all2.map Span.c⟩)] [] [(1, .int .i64 client1), (2, .int .i64 ino1), (3, .int .i64 kind1), (9, .ptr 0 0 0 2), (11, .ref 1 0 all2.length 2), (22, .list 7 (l1.map Lease.c)), (23, .int .i64 (l1.length : Int)), (24, .int .i64 v2)] (by show ([1, 2, 3, 9, 11, 22, 23, 24] : List Nat).Nodup; decide) (by show ([0, 1] : List Nat).Nodup; decide) ?_ ?_ (fun t0 => ⟨all2, t0, H, rfl⟩)
          ·exact (allB_some (by rfl) rfl (.cons (.cons (.int' rfl) (.cons (.int' rfl) .nil)) .nil) (allB_some (by rfl) rfl (.sm _ _ Span.pu) trivial))
          ·(simp only [AllT, ATT, reduceEqDiff, ↓reduceIte, and_true]); exact ⟨(.int' rfl), (.int' rfl), (.int' rfl), (.ptr _ _ _ _ _ rfl), (.refl' (by first|rfl|omega|(simp;done)|(simp;omega)|(simp_all;done)) rfl), (.lst _ _ _ Lease.pu rfl), (.int' rfl), (.int' rfl)⟩
       ·rintro s ⟨all3, t0, H, rfl⟩
        unfold lease_Has_J3 at H
        refine a_reg _ rfl (s := ?zs7) ?_ ?_
        rotate_left
        ·simp only [EVT, stepR, evOp, St.ev, St.app, St.put, wrs, datOf, datOf1, evBin, binInt, TIS, CS, reduceAdd, reduceMul, reduceEqDiff, ↓reduceIte, reduceCtorEq, reduceLT, reduceLeDiff]
         (repeat' apply And.intro) <;> first|rfl|assumption|omega|(simp;done)|(simp;omega)|(simp_all;done)
        refine lA_n ?_
        refine wk_l [(some 0, ⟨53, 2, false, [[.int .i64 s1.from_, .int .i64 s1.to_]]⟩), (some 1, ⟨53, 2, false, all3.map Span.c⟩)] [] [(1, .int .i64 client1), (2, .int .i64 ino1), (3, .int .i64 kind1), (9, .ptr 0 0 0 2), (11, .ref 1 0 all3.length 2), (22, .list 7 (l1.map Lease.c)), (23, .int .i64 (l1.length : Int)), (24, .int .i64 (IntKind.wrap .i64 (v2 + 1)))] (by show ([1, 2, 3, 9, 11, 22, 23, 24] : List Nat).Nodup; decide) (by show ([0, 1] : List Nat).Nodup; decide) ?_ ?_ (fun t0 => ⟨_, Nat.lt_succ_self _, all3, (IntKind.wrap .i64 (v2 + 1)), t0, H, rfl⟩)
        ·exact (allB_some (by rfl) rfl (.cons (.cons (.int' rfl) (.cons (.int' rfl) .nil)) .nil) (allB_some (by rfl) rfl (.sm _ _ Span.pu) trivial))
        ·(simp only [AllT, ATT, reduceEqDiff, ↓reduceIte, and_true]); exact ⟨(.int' rfl), (.int' rfl), (.int' rfl), (.ptr _ _ _ _ _ rfl), (.refl' (by first|rfl|omega|(simp;done)|(simp;omega)|(simp_all;done)) rfl), (.lst _ _ _ Lease.pu rfl), (.int' rfl), (.int' rfl)⟩
      ·have H := cond_f zc2 H
       refine a_exit ?_
       refine sA_e ?_
       refine lA_e ?_
       refine bA_hit ?_
       refine cA_n ?_
       refine wk_l [(some 0, ⟨53, 2, false, [[.int .i64 s1.from_, .int .i64 s1.to_]]⟩), (some 1, ⟨53, 2, false, all2.map Span.c⟩)] [] [(9, .ptr 0 0 0 2), (11, .ref 1 0 all2.length 2)] (by show ([9, 11] : List Nat).Nodup; decide) (by show ([0, 1] : List Nat).Nodup; decide) ?_ ?_ (fun t0 => ⟨all2, t0, H, rfl⟩)
       ·exact (allB_some (by rfl) rfl (.cons (.cons (.int' rfl) (.cons (.int' rfl) .nil)) .nil) (allB_some (by rfl) rfl (.sm _ _ Span.pu) trivial))
       ·(simp only [AllT, ATT, reduceEqDiff, ↓reduceIte, and_true]); exact ⟨(.ptr _ _ _ _ _ rfl), (.refl' (by first|rfl|omega|(simp;done)|(simp;omega)|(simp_all;done)) rfl)⟩
   ·rintro s ⟨all1, t0, H, rfl⟩
    unfold lease_Has_J2 at H
    refine a_seq ?_
    obtain ⟨r1, zh1, H⟩ := bind_some H
    have zk1 := span_Norm_pc zh1
    obtain ⟨r2, zh2, H⟩ := bind_some H
    have zk2 := span_Cut_pc zh2
    refine a_drW (by kernel_rfl) _ rfl (s := ?zs4) (by kernel_rfl) (by kernel_rfl) ?zs4f ?_ ?_ ?_
    rotate_left 2
    ·try simp only [EVT, stepW, evOp, St.ev, St.app, St.put, wrs, evLoad, cut, allOne, frz, evBuiltin, datOf, datOf1, evBin, binInt, TIS, CS, reduceAdd, reduceMul, reduceEqDiff, ↓reduceIte, reduceCtorEq, reduceLT, reduceLeDiff, reduceSub, Nat.reduceBEq]
     repeat' with_reducible apply And.intro
     all_goals try ((with_reducible show CallW _ _ _ _ _ _ _); refine cW_f [1] [1] (by decide) zk1 (fun h2 e => (.cons (.ownL ((wrs_frz h2 _ h2 1).trans (by rw [e 1 (by simp)]; rfl)) (fun _ => rfl) rfl (by first|rfl|omega|(simp;done)|(simp;omega)|(simp_all;done)) (.sm _ _ Span.pu)) .nil)) ?_; simp only [EVT, stepW, evOp, St.ev, St.app, St.put, wrs, evLoad, cut, allOne, frz, evBuiltin, datOf, datOf1, evBin, binInt, TIS, CS, reduceAdd, reduceMul, reduceEqDiff, ↓reduceIte, reduceCtorEq, reduceLT, reduceLeDiff, reduceSub, Nat.reduceBEq])
     repeat' with_reducible apply And.intro
     all_goals try ((with_reducible show CallW _ _ _ _ _ _ _); refine cW_f [3] [3] (by decide) zk2 (fun h2 e => (.cons (.ownL ((wrs_frz h2 _ h2 3).trans (by rw [e 3 (by simp)]; rfl)) (fun _ => rfl) rfl (by first|rfl|omega|(simp;done)|(simp;omega)|(simp_all;done)) (.sm _ _ Span.pu)) (.cons (.lst _ _ _ Span.pu rfl) .nil))) ?_; simp only [EVT, stepW, evOp, St.ev, St.app, St.put, wrs, evLoad, cut, allOne, frz, evBuiltin, datOf, datOf1, evBin, binInt, TIS, CS, reduceAdd, reduceMul, reduceEqDiff, ↓reduceIte, reduceCtorEq, reduceLT, reduceLeDiff, reduceSub, Nat.reduceBEq])
     all_goals ((repeat' apply And.intro) <;> first|rfl|assumption|omega|(simp;done)|(simp;omega)|(simp_all;done))
    ·kernel_rfl
    refine sA_n ?_
    refine a_ret ?_
    obtain rfl := Option.some.inj H
    refine e_r2 (d := ?zd2) ?_ ?_
    rotate_left
    ·simp only [EVT, resR, single, evLoad, cut, TIS, CS, reduceAdd, reduceEqDiff, ↓reduceIte, reduceCtorEq, reduceLT, reduceLeDiff, reduceSub, Nat.reduceBEq]
     (repeat' apply And.intro) <;> first | rfl | assumption | omega | (simp; done)
    exact (.bool' rfl)
end
end Go.Proofs.Ytogickapcbibbaa
