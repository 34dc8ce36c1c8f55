/- Functions of the program as Lean functions, and that they are so; printed by a program of mine. -/
import Derived.Test.YtogickapcbibbaaE1
set_option linter.unusedSimpArgs false
set_option linter.unusedVariables false
namespace Go.Proofs.Ytogickapcbibbaa
open Go.Ab
open Nat (reduceAdd reduceMul reduceEqDiff reduceLT reduceLeDiff reduceSub)
noncomputable section

def ref02_Bytes_J1 : Option Bool :=
 some (true)
def ref02_Bytes_L1 (a1 : List Int) (b1 : List Int) : Nat → Int → Option Bool
 | 0, _ => none
 | m_ + 1, i1 => cond (decide (i1 < (a1.length : Int))) ((idx a1 i1).bind fun x1 => (idx b1 i1).bind fun x2 => cond (x1 != x2) (some (false)) (ref02_Bytes_L1 a1 b1 m_ (IntKind.wrap .i64 (i1 + 1)))) (ref02_Bytes_J1)
def ref02_Bytes_f (a1 : List Int) (b1 : List Int) : Option Bool :=
 cond ((a1.length : Int) != (b1.length : Int)) (some (false)) (ref02_Bytes_L1 a1 b1 BIG 0)
set_option maxHeartbeats 4000000 in
set_option maxRecDepth 20000 in
theorem ref02_Bytes_pc {a1 : List Int} {b1 : List Int} {r : Bool} (H : ref02_Bytes_f a1 b1 = some r) : PC Try.prog 11 [.list 1 (a1.map (ci .u8)), .list 1 (b1.map (ci .u8))] (.bool r) := by
 refine pcA_of Try.func11 (by rfl) (by decide) 26 (by rfl) [.tmp 4] (by rfl) ?_
 unfold ref02_Bytes_f at H
 simp only [ent]
 refine a_seq ?_
 refine a_reg _ rfl (s := ?zs1) ?_ ?_
 rotate_left
 ·simp only [EVT, stepR, evOp, St.ev, St.app, St.put, wrs, datOf, datOf1, TIS, CS, reduceAdd, reduceMul, reduceEqDiff, ↓reduceIte, reduceCtorEq, reduceLT, reduceLeDiff]
  (repeat' apply And.intro) <;> first|rfl|assumption|omega|(simp;done)|(simp;omega)|(simp_all;done)
 refine sA_n ?_
 refine a_seq ?_
 refine a_seq ?_
 refine a_reg _ rfl (s := ?zs2) ?_ ?_
 rotate_left
 ·simp only [EVT, stepR, evOp, St.ev, St.app, St.put, wrs, evBuiltin, evBin, binInt, TIS, CS, reduceAdd, reduceMul, reduceEqDiff, ↓reduceIte, reduceCtorEq, reduceLT, reduceLeDiff, reduceSub, Nat.reduceBEq]
  (repeat' apply And.intro) <;> first|rfl|assumption|omega|(simp;done)|(simp;omega)|(simp_all;done)
 refine sA_n ?_
 refine a_condb (((a1.length : Int) != (b1.length : Int))) (by rfl) (fun zc1 => ?_) (fun zc1 => ?_)
 ·have H := cond_t zc1 H
  refine a_seq ?_
  refine a_reg _ rfl (s := ?zs3) ?_ ?_
  rotate_left
  ·simp only [EVT, stepR, evOp, St.ev, St.app, St.put, wrs, datOf, datOf1, TIS, CS, reduceAdd, reduceMul, reduceEqDiff, ↓reduceIte, reduceCtorEq, reduceLT, reduceLeDiff, ↓zc1]
   (repeat' apply And.intro) <;> first|rfl|assumption|omega|(simp;done)|(simp;omega)|(simp_all;done)
  refine sA_n ?_
  refine a_ret ?_
  refine sA_r ?_
  obtain rfl := Option.some.inj H
  refine e_r2 (d := ?zd1) ?_ ?_
  rotate_left
  ·simp only [EVT, resR, single, evLoad, cut, TIS, CS, reduceAdd, reduceEqDiff, ↓reduceIte, reduceCtorEq, reduceLT, reduceLeDiff, reduceSub, Nat.reduceBEq, zc1]
   (repeat' apply And.intro) <;> first | rfl | assumption | omega | (simp; done)
  exact (.bool' (by first | rfl | assumption | (simp_all; done)))
 ·have H := cond_f zc1 H
  refine a_skip ?_
  refine sA_n ?_
  refine a_cut (fun s => ∃ (t0 : Nat → Dat), ref02_Bytes_J1 = some r ∧ s = ⟨tl t0 [], hl [], 0, 26⟩) ?_ ?_
  ·refine a_seq ?_
   refine a_reg _ rfl (s := ?zs5) ?_ ?_
   rotate_left
   ·simp only [EVT, stepR, evOp, St.ev, St.app, St.put, wrs, datOf, datOf1, TIS, CS, reduceAdd, reduceMul, reduceEqDiff, ↓reduceIte, reduceCtorEq, reduceLT, reduceLeDiff, ↓zc1]
    (repeat' apply And.intro) <;> first|rfl|assumption|omega|(simp;done)|(simp;omega)|(simp_all;done)
   refine sA_n ?_
   refine a_blk ?_
   refine a_loop (fun m s => ∃ (i1 : Int) (t0 : Nat → Dat), ref02_Bytes_L1 a1 b1 m i1 = some r ∧ s = ⟨tl t0 [(0, .list 1 (a1.map (ci .u8))), (1, .list 1 (b1.map (ci .u8))), (5, .int .i64 i1)], hl [], 0, 26⟩) BIG ?_ ?_
   ·refine wk_l [] [] [(0, .list 1 (a1.map (ci .u8))), (1, .list 1 (b1.map (ci .u8))), (5, .int .i64 0)] (by show ([0, 1, 5] : List Nat).Nodup; decide) (by show ([] : List Nat).Nodup; decide) ?_ ?_ (fun t0 => ⟨0, t0, H, rfl⟩)
    ·exact trivial
    ·(simp only [AllT, ATT, reduceEqDiff, ↓reduceIte, and_true]); exact ⟨(.lst _ _ _ (ci_pu .u8) rfl), (.lst _ _ _ (ci_pu .u8) rfl), (.int' rfl)⟩
   ·rintro m_ref02_Bytes_L1 s ⟨i1, t0, H, rfl⟩
    obtain _ | m_ref02_Bytes_L1 := m_ref02_Bytes_L1
    ·cases (show (none : Option _) = some _ from H)
    ·rw [ref02_Bytes_L1] at H
     refine a_seq ?_
     refine a_seq ?_
     refine a_reg _ rfl (s := ?zs6) ?_ ?_
     rotate_left
     ·simp only [EVT, stepR, evOp, St.ev, St.app, St.put, wrs, evBuiltin, evBin, binInt, TIS, CS, reduceAdd, reduceMul, reduceEqDiff, ↓reduceIte, reduceCtorEq, reduceLT, reduceLeDiff, reduceSub, Nat.reduceBEq]
      (repeat' apply And.intro) <;> first|rfl|assumption|omega|(simp;done)|(simp;omega)|(simp_all;done)
     refine sA_n ?_
     refine a_condb ((decide (i1 < (a1.length : Int)))) (by rfl) (fun zc2 => ?_) (fun zc2 => ?_)
     ·have H := cond_t zc2 H
      refine a_skip ?_
      refine sA_n ?_
      refine a_seq ?_
      refine a_blk ?_
      refine a_seq ?_
      obtain ⟨x1, zh1, H⟩ := bind_some H
      have zg1 := idx_map zh1 (ci .u8)
      try simp only [Int.reduceToNat, Int.toNat_natCast] at zg1
      obtain ⟨zh1a, zh1b, _⟩ := idx_some zh1
      obtain ⟨x2, zh2, H⟩ := bind_some H
      have zg2 := idx_map zh2 (ci .u8)
      try simp only [Int.reduceToNat, Int.toNat_natCast] at zg2
      obtain ⟨zh2a, zh2b, _⟩ := idx_some zh2
      refine a_drW (by kernel_rfl) _ rfl (s := ?zs7) (by kernel_rfl) (by kernel_rfl) ?zs7f ?_ ?_ ?_
      rotate_left 2
      ·simp only [EVT, stepW, evOp, St.ev, St.app, St.put, wrs, evIndexAddr, evLoad, cut, evBin, binInt, TIS, CS, reduceAdd, reduceMul, reduceEqDiff, ↓reduceIte, reduceCtorEq, reduceLT, reduceLeDiff, Int.reduceToNat, reduceSub, Nat.reduceBEq, ↓zc2, zg1, zg2]
       (repeat' apply And.intro) <;> first|rfl|assumption|omega|(simp;done)|(simp;omega)|(simp_all;done)
      ·kernel_rfl
      refine sA_n ?_
      refine a_condb ((x1 != x2)) (by rfl) (fun zc3 => ?_) (fun zc3 => ?_)
      ·have H := cond_t zc3 H
       refine a_seq ?_
       refine a_reg _ rfl (s := ?zs8) ?_ ?_
       rotate_left
       ·simp only [EVT, stepR, evOp, St.ev, St.app, St.put, wrs, datOf, datOf1, TIS, CS, reduceAdd, reduceMul, reduceEqDiff, ↓reduceIte, reduceCtorEq, reduceLT, reduceLeDiff, ↓zc2, zg1, zg2, ↓zc3]
        (repeat' apply And.intro) <;> first|rfl|assumption|omega|(simp;done)|(simp;omega)|(simp_all;done)
       refine sA_n ?_
       refine a_ret ?_
       refine bA_r ?_
       refine sA_r ?_
       refine lA_r ?_
       refine bA_r ?_
       refine cA_r ?_
       obtain rfl := Option.some.inj H
       refine e_r2 (d := ?zd3) ?_ ?_
       rotate_left
       ·simp only [EVT, resR, single, evLoad, cut, TIS, CS, reduceAdd, reduceEqDiff, ↓reduceIte, reduceCtorEq, reduceLT, reduceLeDiff, reduceSub, Nat.reduceBEq, zc2, zg1, zg2, zc3]
        (repeat' apply And.intro) <;> first | rfl | assumption | omega | (simp; done)
       exact (.bool' (by first | rfl | assumption | (simp_all; done)))
      ·have H := cond_f zc3 H
       refine a_skip ?_
       refine bA_n ?_
       refine sA_n ?_
       refine a_reg _ rfl (s := ?zs9) ?_ ?_
       rotate_left
       ·simp only [EVT, stepR, evOp, St.ev, St.app, St.put, wrs, datOf, datOf1, evBin, binInt, TIS, CS, reduceAdd, reduceMul, reduceEqDiff, ↓reduceIte, reduceCtorEq, reduceLT, reduceLeDiff, ↓zc2, zg1, zg2, ↓zc3]
        (repeat' apply And.intro) <;> first|rfl|assumption|omega|(simp;done)|(simp;omega)|(simp_all;done)
       refine lA_n ?_
       refine wk_l [] [] [(0, .list 1 (a1.map (ci .u8))), (1, .list 1 (b1.map (ci .u8))), (5, .int .i64 (IntKind.wrap .i64 (i1 + 1)))] (by show ([0, 1, 5] : List Nat).Nodup; decide) (by show ([] : List Nat).Nodup; decide) ?_ ?_ (fun t0 => ⟨_, Nat.lt_succ_self _, (IntKind.wrap .i64 (i1 + 1)), t0, H, rfl⟩)
       ·exact trivial
       ·(simp only [AllT, ATT, reduceEqDiff, ↓reduceIte, and_true]); exact ⟨(.lst _ _ _ (ci_pu .u8) rfl), (.lst _ _ _ (ci_pu .u8) rfl), (.int' rfl)⟩
     ·have H := cond_f zc2 H
      refine a_exit ?_
      refine sA_e ?_
      refine lA_e ?_
      refine bA_hit ?_
      refine cA_n ?_
      refine wk_l [] [] [] (by show ([] : List Nat).Nodup; decide) (by show ([] : List Nat).Nodup; decide) ?_ ?_ (fun t0 => ⟨t0, H, rfl⟩)
      ·exact trivial
      ·exact trivial
  ·rintro s ⟨t0, H, rfl⟩
   unfold ref02_Bytes_J1 at H
   refine a_seq ?_
   refine a_reg _ rfl (s := ?zs4) ?_ ?_
   rotate_left
   ·simp only [EVT, stepR, evOp, St.ev, St.app, St.put, wrs, datOf, datOf1, TIS, CS, reduceAdd, reduceMul, reduceEqDiff, ↓reduceIte, reduceCtorEq, reduceLT, reduceLeDiff]
    (repeat' apply And.intro) <;> first|rfl|assumption|omega|(simp;done)|(simp;omega)|(simp_all;done)
   refine sA_n ?_
   refine a_ret ?_
   obtain rfl := Option.some.inj H
   refine e_r2 (d := ?zd2) ?_ ?_
   rotate_left
   ·simp only [EVT, resR, single, evLoad, cut, TIS, CS, reduceAdd, reduceEqDiff, ↓reduceIte, reduceCtorEq, reduceLT, reduceLeDiff, reduceSub, Nat.reduceBEq]
    (repeat' apply And.intro) <;> first | rfl | assumption | omega | (simp; done)
   exact (.bool' (by first | rfl | assumption | (simp_all; done)))
def ref02_Ints_J1 : Option Bool :=
 some (true)
def ref02_Ints_L1 (a1 : List Int) (b1 : List Int) : Nat → Int → Option Bool
 | 0, _ => none
 | m_ + 1, i1 => cond (decide (i1 < (a1.length : Int))) ((idx a1 i1).bind fun x1 => (idx b1 i1).bind fun x2 => cond (x1 != x2) (some (false)) (ref02_Ints_L1 a1 b1 m_ (IntKind.wrap .i64 (i1 + 1)))) (ref02_Ints_J1)
def ref02_Ints_f (a1 : List Int) (b1 : List Int) : Option Bool :=
 cond ((a1.length : Int) != (b1.length : Int)) (some (false)) (ref02_Ints_L1 a1 b1 BIG 0)
set_option maxHeartbeats 4000000 in
set_option maxRecDepth 20000 in
theorem ref02_Ints_pc {a1 : List Int} {b1 : List Int} {r : Bool} (H : ref02_Ints_f a1 b1 = some r) : PC Try.prog 16 [.list 1 (a1.map (ci .i64)), .list 1 (b1.map (ci .i64))] (.bool r) := by
 refine pcA_of Try.func16 (by rfl) (by decide) 26 (by rfl) [.tmp 4] (by rfl) ?_
 unfold ref02_Ints_f at H
 simp only [ent]
 refine a_seq ?_
 refine a_reg _ rfl (s := ?zs1) ?_ ?_
 rotate_left
 ·simp only [EVT, stepR, evOp, St.ev, St.app, St.put, wrs, datOf, datOf1, TIS, CS, reduceAdd, reduceMul, reduceEqDiff, ↓reduceIte, reduceCtorEq, reduceLT, reduceLeDiff]
  (repeat' apply And.intro) <;> first|rfl|assumption|omega|(simp;done)|(simp;omega)|(simp_all;done)
 refine sA_n ?_
 refine a_seq ?_
 refine a_seq ?_
 refine a_reg _ rfl (s := ?zs2) ?_ ?_
 rotate_left
 ·simp only [EVT, stepR, evOp, St.ev, St.app, St.put, wrs, evBuiltin, evBin, binInt, TIS, CS, reduceAdd, reduceMul, reduceEqDiff, ↓reduceIte, reduceCtorEq, reduceLT, reduceLeDiff, reduceSub, Nat.reduceBEq]
  (repeat' apply And.intro) <;> first|rfl|assumption|omega|(simp;done)|(simp;omega)|(simp_all;done)
 refine sA_n ?_
 refine a_condb (((a1.length : Int) != (b1.length : Int))) (by rfl) (fun zc1 => ?_) (fun zc1 => ?_)
 ·have H := cond_t zc1 H
  refine a_seq ?_
  refine a_reg _ rfl (s := ?zs3) ?_ ?_
  rotate_left
  ·simp only [EVT, stepR, evOp, St.ev, St.app, St.put, wrs, datOf, datOf1, TIS, CS, reduceAdd, reduceMul, reduceEqDiff, ↓reduceIte, reduceCtorEq, reduceLT, reduceLeDiff, ↓zc1]
   (repeat' apply And.intro) <;> first|rfl|assumption|omega|(simp;done)|(simp;omega)|(simp_all;done)
  refine sA_n ?_
  refine a_ret ?_
  refine sA_r ?_
  obtain rfl := Option.some.inj H
  refine e_r2 (d := ?zd1) ?_ ?_
  rotate_left
  ·simp only [EVT, resR, single, evLoad, cut, TIS, CS, reduceAdd, reduceEqDiff, ↓reduceIte, reduceCtorEq, reduceLT, reduceLeDiff, reduceSub, Nat.reduceBEq, zc1]
   (repeat' apply And.intro) <;> first | rfl | assumption | omega | (simp; done)
  exact (.bool' (by first | rfl | assumption | (simp_all; done)))
 ·have H := cond_f zc1 H
  refine a_skip ?_
  refine sA_n ?_
  refine a_cut (fun s => ∃ (t0 : Nat → Dat), ref02_Ints_J1 = some r ∧ s = ⟨tl t0 [], hl [], 0, 26⟩) ?_ ?_
  ·refine a_seq ?_
   refine a_reg _ rfl (s := ?zs5) ?_ ?_
   rotate_left
   ·simp only [EVT, stepR, evOp, St.ev, St.app, St.put, wrs, datOf, datOf1, TIS, CS, reduceAdd, reduceMul, reduceEqDiff, ↓reduceIte, reduceCtorEq, reduceLT, reduceLeDiff, ↓zc1]
    (repeat' apply And.intro) <;> first|rfl|assumption|omega|(simp;done)|(simp;omega)|(simp_all;done)
   refine sA_n ?_
   refine a_blk ?_
   refine a_loop (fun m s => ∃ (i1 : Int) (t0 : Nat → Dat), ref02_Ints_L1 a1 b1 m i1 = some r ∧ s = ⟨tl t0 [(0, .list 1 (a1.map (ci .i64))), (1, .list 1 (b1.map (ci .i64))), (5, .int .i64 i1)], hl [], 0, 26⟩) BIG ?_ ?_
   ·refine wk_l [] [] [(0, .list 1 (a1.map (ci .i64))), (1, .list 1 (b1.map (ci .i64))), (5, .int .i64 0)] (by show ([0, 1, 5] : List Nat).Nodup; decide) (by show ([] : List Nat).Nodup; decide) ?_ ?_ (fun t0 => ⟨0, t0, H, rfl⟩)
    ·exact trivial
    ·(simp only [AllT, ATT, reduceEqDiff, ↓reduceIte, and_true]); exact ⟨(.lst _ _ _ (ci_pu .i64) rfl), (.lst _ _ _ (ci_pu .i64) rfl), (.int' rfl)⟩
   ·rintro m_ref02_Ints_L1 s ⟨i1, t0, H, rfl⟩
    obtain _ | m_ref02_Ints_L1 := m_ref02_Ints_L1
    ·cases (show (none : Option _) = some _ from H)
    ·rw [ref02_Ints_L1] at H
     refine a_seq ?_
     refine a_seq ?_
     refine a_reg _ rfl (s := ?zs6) ?_ ?_
     rotate_left
     ·simp only [EVT, stepR, evOp, St.ev, St.app, St.put, wrs, evBuiltin, evBin, binInt, TIS, CS, reduceAdd, reduceMul, reduceEqDiff, ↓reduceIte, reduceCtorEq, reduceLT, reduceLeDiff, reduceSub, Nat.reduceBEq]
      (repeat' apply And.intro) <;> first|rfl|assumption|omega|(simp;done)|(simp;omega)|(simp_all;done)
     refine sA_n ?_
     refine a_condb ((decide (i1 < (a1.length : Int)))) (by rfl) (fun zc2 => ?_) (fun zc2 => ?_)
     ·have H := cond_t zc2 H
      refine a_skip ?_
      refine sA_n ?_
      refine a_seq ?_
      refine a_blk ?_
      refine a_seq ?_
      obtain ⟨x1, zh1, H⟩ := bind_some H
      have zg1 := idx_map zh1 (ci .i64)
      try simp only [Int.reduceToNat, Int.toNat_natCast] at zg1
      obtain ⟨zh1a, zh1b, _⟩ := idx_some zh1
      obtain ⟨x2, zh2, H⟩ := bind_some H
      have zg2 := idx_map zh2 (ci .i64)
      try simp only [Int.reduceToNat, Int.toNat_natCast] at zg2
      obtain ⟨zh2a, zh2b, _⟩ := idx_some zh2
      refine a_drW (by kernel_rfl) _ rfl (s := ?zs7) (by kernel_rfl) (by kernel_rfl) ?zs7f ?_ ?_ ?_
      rotate_left 2
      ·simp only [EVT, stepW, evOp, St.ev, St.app, St.put, wrs, evIndexAddr, evLoad, cut, evBin, binInt, TIS, CS, reduceAdd, reduceMul, reduceEqDiff, ↓reduceIte, reduceCtorEq, reduceLT, reduceLeDiff, Int.reduceToNat, reduceSub, Nat.reduceBEq, ↓zc2, zg1, zg2]
       (repeat' apply And.intro) <;> first|rfl|assumption|omega|(simp;done)|(simp;omega)|(simp_all;done)
      ·kernel_rfl
      refine sA_n ?_
      refine a_condb ((x1 != x2)) (by rfl) (fun zc3 => ?_) (fun zc3 => ?_)
      ·have H := cond_t zc3 H
       refine a_seq ?_
       refine a_reg _ rfl (s := ?zs8) ?_ ?_
       rotate_left
       ·simp only [EVT, stepR, evOp, St.ev, St.app, St.put, wrs, datOf, datOf1, TIS, CS, reduceAdd, reduceMul, reduceEqDiff, ↓reduceIte, reduceCtorEq, reduceLT, reduceLeDiff, ↓zc2, zg1, zg2, ↓zc3]
        (repeat' apply And.intro) <;> first|rfl|assumption|omega|(simp;done)|(simp;omega)|(simp_all;done)
       refine sA_n ?_
       refine a_ret ?_
       refine bA_r ?_
       refine sA_r ?_
       refine lA_r ?_
       refine bA_r ?_
       refine cA_r ?_
       obtain rfl := Option.some.inj H
       refine e_r2 (d := ?zd3) ?_ ?_
       rotate_left
       ·simp only [EVT, resR, single, evLoad, cut, TIS, CS, reduceAdd, reduceEqDiff, ↓reduceIte, reduceCtorEq, reduceLT, reduceLeDiff, reduceSub, Nat.reduceBEq, zc2, zg1, zg2, zc3]
        (repeat' apply And.intro) <;> first | rfl | assumption | omega | (simp; done)
       exact (.bool' (by first | rfl | assumption | (simp_all; done)))
      ·have H := cond_f zc3 H
       refine a_skip ?_
       refine bA_n ?_
       refine sA_n ?_
       refine a_reg _ rfl (s := ?zs9) ?_ ?_
       rotate_left
       ·simp only [EVT, stepR, evOp, St.ev, St.app, St.put, wrs, datOf, datOf1, evBin, binInt, TIS, CS, reduceAdd, reduceMul, reduceEqDiff, ↓reduceIte, reduceCtorEq, reduceLT, reduceLeDiff, ↓zc2, zg1, zg2, ↓zc3]
        (repeat' apply And.intro) <;> first|rfl|assumption|omega|(simp;done)|(simp;omega)|(simp_all;done)
       refine lA_n ?_
       refine wk_l [] [] [(0, .list 1 (a1.map (ci .i64))), (1, .list 1 (b1.map (ci .i64))), (5, .int .i64 (IntKind.wrap .i64 (i1 + 1)))] (by show ([0, 1, 5] : List Nat).Nodup; decide) (by show ([] : List Nat).Nodup; decide) ?_ ?_ (fun t0 => ⟨_, Nat.lt_succ_self _, (IntKind.wrap .i64 (i1 + 1)), t0, H, rfl⟩)
       ·exact trivial
       ·(simp only [AllT, ATT, reduceEqDiff, ↓reduceIte, and_true]); exact ⟨(.lst _ _ _ (ci_pu .i64) rfl), (.lst _ _ _ (ci_pu .i64) rfl), (.int' rfl)⟩
     ·have H := cond_f zc2 H
      refine a_exit ?_
      refine sA_e ?_
      refine lA_e ?_
      refine bA_hit ?_
      refine cA_n ?_
      refine wk_l [] [] [] (by show ([] : List Nat).Nodup; decide) (by show ([] : List Nat).Nodup; decide) ?_ ?_ (fun t0 => ⟨t0, H, rfl⟩)
      ·exact trivial
      ·exact trivial
  ·rintro s ⟨t0, H, rfl⟩
   unfold ref02_Ints_J1 at H
   refine a_seq ?_
   refine a_reg _ rfl (s := ?zs4) ?_ ?_
   rotate_left
   ·simp only [EVT, stepR, evOp, St.ev, St.app, St.put, wrs, datOf, datOf1, TIS, CS, reduceAdd, reduceMul, reduceEqDiff, ↓reduceIte, reduceCtorEq, reduceLT, reduceLeDiff]
    (repeat' apply And.intro) <;> first|rfl|assumption|omega|(simp;done)|(simp;omega)|(simp_all;done)
   refine sA_n ?_
   refine a_ret ?_
   obtain rfl := Option.some.inj H
   refine e_r2 (d := ?zd2) ?_ ?_
   rotate_left
   ·simp only [EVT, resR, single, evLoad, cut, TIS, CS, reduceAdd, reduceEqDiff, ↓reduceIte, reduceCtorEq, reduceLT, reduceLeDiff, reduceSub, Nat.reduceBEq]
    (repeat' apply And.intro) <;> first | rfl | assumption | omega | (simp; done)
   exact (.bool' (by first | rfl | assumption | (simp_all; done)))
def clock_within_f (n1 : Int) (from1 : Int) (to1 : Int) : Option Int :=
 some ((if to1 < (if from1 > n1 then from1 else n1) then to1 else (if from1 > n1 then from1 else n1)))
set_option maxHeartbeats 4000000 in
set_option maxRecDepth 20000 in
theorem clock_within_pc {n1 : Int} {from1 : Int} {to1 : Int} {r : Int} (H : clock_within_f n1 from1 to1 = some r) : PC Try.prog 49 [.int .i64 n1, .int .i64 from1, .int .i64 to1] (.int .i64 r) := by
 refine pcA_of Try.func49 (by rfl) (by decide) 12 (by rfl) [.tmp 6] (by rfl) ?_
 unfold clock_within_f at H
 simp only [ent]
 refine a_seq ?_
 refine a_reg _ rfl (s := ?zs1) ?_ ?_
 rotate_left
 ·simp only [EVT, stepR, evOp, St.ev, St.app, St.put, wrs, datOf, datOf1, TIS, CS, reduceAdd, reduceMul, reduceEqDiff, ↓reduceIte, reduceCtorEq, reduceLT, reduceLeDiff]
  (repeat' apply And.intro) <;> first|rfl|assumption|omega|(simp;done)|(simp;omega)|(simp_all;done)
 refine sA_n ?_
 refine a_seq ?_
 refine a_reg _ rfl (s := ?zs2) ?_ ?_
 rotate_left
 ·simp only [EVT, stepR, evOp, St.ev, St.app, St.put, wrs, evBuiltin, minMax, mmStep, TIS, CS, reduceAdd, reduceMul, reduceEqDiff, ↓reduceIte, reduceCtorEq, reduceLT, reduceLeDiff, reduceSub, Nat.reduceBEq]
  (repeat' apply And.intro) <;> first|rfl|assumption|omega|(simp;done)|(simp;omega)|(simp_all;done)
 refine sA_n ?_
 refine a_ret ?_
 obtain rfl := Option.some.inj H
 refine e_r2 (d := ?zd1) ?_ ?_
 rotate_left
 ·simp only [EVT, resR, single, evLoad, cut, TIS, CS, reduceAdd, reduceEqDiff, ↓reduceIte, reduceCtorEq, reduceLT, reduceLeDiff, reduceSub, Nat.reduceBEq]
  (repeat' apply And.intro) <;> first | rfl | assumption | omega | (simp; done)
 exact (.int' rfl)
def clock_span_least_f (r1 : Int) : Option Int :=
 some ((IntKind.wrap .i64 (Int.tdiv (IntKind.wrap .i64 (r1 * 999)) 1000)))
set_option maxHeartbeats 4000000 in
set_option maxRecDepth 20000 in
theorem clock_span_least_pc {r1 : Int} {r : Int} (H : clock_span_least_f r1 = some r) : PC Try.prog 52 [.int .i64 r1] (.int .i64 r) := by
 refine pcA_of Try.func52 (by rfl) (by decide) 6 (by rfl) [.tmp 2] (by rfl) ?_
 unfold clock_span_least_f at H
 simp only [ent]
 refine a_seq ?_
 refine a_reg _ rfl (s := ?zs1) ?_ ?_
 rotate_left
 ·simp only [EVT, stepR, evOp, St.ev, St.app, St.put, wrs, datOf, datOf1, TIS, CS, reduceAdd, reduceMul, reduceEqDiff, ↓reduceIte, reduceCtorEq, reduceLT, reduceLeDiff]
  (repeat' apply And.intro) <;> first|rfl|assumption|omega|(simp;done)|(simp;omega)|(simp_all;done)
 refine sA_n ?_
 refine a_seq ?_
 refine a_reg _ rfl (s := ?zs2) ?_ ?_
 rotate_left
 ·simp only [EVT, stepR, evOp, St.ev, St.app, St.put, wrs, datOf, datOf1, evBin, binInt, TIS, CS, reduceAdd, reduceMul, reduceEqDiff, ↓reduceIte, reduceCtorEq, reduceLT, reduceLeDiff]
  (repeat' apply And.intro) <;> first|rfl|assumption|omega|(simp;done)|(simp;omega)|(simp_all;done)
 refine sA_n ?_
 refine a_ret ?_
 obtain rfl := Option.some.inj H
 refine e_r2 (d := ?zd1) ?_ ?_
 rotate_left
 ·simp only [EVT, resR, single, evLoad, cut, TIS, CS, reduceAdd, reduceEqDiff, ↓reduceIte, reduceCtorEq, reduceLT, reduceLeDiff, reduceSub, Nat.reduceBEq]
  (repeat' apply And.intro) <;> first | rfl | assumption | omega | (simp; done)
 exact (.int' rfl)
def clock_Least_f (real1 : Int) : Option Int :=
 (clock_within_f real1 0 2199023255552).bind fun r1 => (clock_span_least_f r1).bind fun r2 => some (r2)
set_option maxHeartbeats 4000000 in
set_option maxRecDepth 20000 in
theorem clock_Least_pc {real1 : Int} {r : Int} (H : clock_Least_f real1 = some r) : PC Try.prog 22 [.int .i64 real1] (.int .i64 r) := by
 refine pcA_of Try.func22 (by rfl) (by decide) 9 (by rfl) [.tmp 2] (by rfl) ?_
 unfold clock_Least_f at H
 simp only [ent]
 refine a_seq ?_
 refine a_reg _ rfl (s := ?zs1) ?_ ?_
 rotate_left
 ·simp only [EVT, stepR, evOp, St.ev, St.app, St.put, wrs, datOf, datOf1, TIS, CS, reduceAdd, reduceMul, reduceEqDiff, ↓reduceIte, reduceCtorEq, reduceLT, reduceLeDiff]
  (repeat' apply And.intro) <;> first|rfl|assumption|omega|(simp;done)|(simp;omega)|(simp_all;done)
 refine sA_n ?_
 refine a_seq ?_
 obtain ⟨r1, zh1, H⟩ := bind_some H
 have zk1 := clock_within_pc zh1
 refine a_reg _ rfl (s := ?zs2) ?_ ?_
 rotate_left
 ·try simp only [EVT, stepR, evOp, St.ev, St.app, St.put, wrs, datOf, datOf1, frz, TIS, CS, reduceAdd, reduceMul, reduceEqDiff, ↓reduceIte, reduceCtorEq, reduceLT, reduceLeDiff, reduceSub, Nat.reduceBEq]
  repeat' with_reducible apply And.intro
  all_goals try ((with_reducible show CallR _ _ _ _ _ _ _); refine cR_s zk1 (.cons (.int' rfl) (.cons (.int' rfl) (.cons (.int' rfl) .nil))) (.int _ _) ?_; simp only [EVT, stepR, evOp, St.ev, St.app, St.put, wrs, datOf, datOf1, frz, TIS, CS, reduceAdd, reduceMul, reduceEqDiff, ↓reduceIte, reduceCtorEq, reduceLT, reduceLeDiff, reduceSub, Nat.reduceBEq])
  all_goals ((repeat' apply And.intro) <;> first|rfl|assumption|omega|(simp;done)|(simp;omega)|(simp_all;done))
 refine sA_n ?_
 refine a_seq ?_
 obtain ⟨r2, zh2, H⟩ := bind_some H
 have zk2 := clock_span_least_pc zh2
 refine a_reg _ rfl (s := ?zs3) ?_ ?_
 rotate_left
 ·try simp only [EVT, stepR, evOp, St.ev, St.app, St.put, wrs, frz, TIS, CS, reduceAdd, reduceMul, reduceEqDiff, ↓reduceIte, reduceCtorEq, reduceLT, reduceLeDiff, reduceSub, Nat.reduceBEq]
  repeat' with_reducible apply And.intro
  all_goals try ((with_reducible show CallR _ _ _ _ _ _ _); refine cR_s zk2 (.cons (.int' rfl) .nil) (.int _ _) ?_; simp only [EVT, stepR, evOp, St.ev, St.app, St.put, wrs, frz, TIS, CS, reduceAdd, reduceMul, reduceEqDiff, ↓reduceIte, reduceCtorEq, reduceLT, reduceLeDiff, reduceSub, Nat.reduceBEq])
  all_goals ((repeat' apply And.intro) <;> first|rfl|assumption|omega|(simp;done)|(simp;omega)|(simp_all;done))
 refine sA_n ?_
 refine a_ret ?_
 obtain rfl := Option.some.inj H
 refine e_r2 (d := ?zd1) ?_ ?_
 rotate_left
 ·simp only [EVT, resR, single, evLoad, cut, TIS, CS, reduceAdd, reduceEqDiff, ↓reduceIte, reduceCtorEq, reduceLT, reduceLeDiff, reduceSub, Nat.reduceBEq]
  (repeat' apply And.intro) <;> first | rfl | assumption | omega | (simp; done)
 exact (.int' rfl)
def clock_span_most_f (r1 : Int) : Option Int :=
 some ((IntKind.wrap .i64 (Int.tdiv (IntKind.wrap .i64 ((IntKind.wrap .i64 ((IntKind.wrap .i64 (r1 * 1001)) + 1000)) - 1)) 1000)))
set_option maxHeartbeats 4000000 in
set_option maxRecDepth 20000 in
theorem clock_span_most_pc {r1 : Int} {r : Int} (H : clock_span_most_f r1 = some r) : PC Try.prog 53 [.int .i64 r1] (.int .i64 r) := by
 refine pcA_of Try.func53 (by rfl) (by decide) 8 (by rfl) [.tmp 2] (by rfl) ?_
 unfold clock_span_most_f at H
 simp only [ent]
 refine a_seq ?_
 refine a_reg _ rfl (s := ?zs1) ?_ ?_
 rotate_left
 ·simp only [EVT, stepR, evOp, St.ev, St.app, St.put, wrs, datOf, datOf1, TIS, CS, reduceAdd, reduceMul, reduceEqDiff, ↓reduceIte, reduceCtorEq, reduceLT, reduceLeDiff]
  (repeat' apply And.intro) <;> first|rfl|assumption|omega|(simp;done)|(simp;omega)|(simp_all;done)
 refine sA_n ?_
 refine a_seq ?_
 refine a_reg _ rfl (s := ?zs2) ?_ ?_
 rotate_left
 ·simp only [EVT, stepR, evOp, St.ev, St.app, St.put, wrs, datOf, datOf1, evBin, binInt, TIS, CS, reduceAdd, reduceMul, reduceEqDiff, ↓reduceIte, reduceCtorEq, reduceLT, reduceLeDiff]
  (repeat' apply And.intro) <;> first|rfl|assumption|omega|(simp;done)|(simp;omega)|(simp_all;done)
 refine sA_n ?_
 refine a_ret ?_
 obtain rfl := Option.some.inj H
 refine e_r2 (d := ?zd1) ?_ ?_
 rotate_left
 ·simp only [EVT, resR, single, evLoad, cut, TIS, CS, reduceAdd, reduceEqDiff, ↓reduceIte, reduceCtorEq, reduceLT, reduceLeDiff, reduceSub, Nat.reduceBEq]
  (repeat' apply And.intro) <;> first | rfl | assumption | omega | (simp; done)
 exact (.int' rfl)
def clock_Most_f (real1 : Int) : Option Int :=
 (clock_within_f real1 0 2199023255552).bind fun r1 => (clock_span_most_f r1).bind fun r2 => some (r2)
set_option maxHeartbeats 4000000 in
set_option maxRecDepth 20000 in
theorem clock_Most_pc {real1 : Int} {r : Int} (H : clock_Most_f real1 = some r) : PC Try.prog 23 [.int .i64 real1] (.int .i64 r) := by
 refine pcA_of Try.func23 (by rfl) (by decide) 9 (by rfl) [.tmp 2] (by rfl) ?_
 unfold clock_Most_f at H
 simp only [ent]
 refine a_seq ?_
 refine a_reg _ rfl (s := ?zs1) ?_ ?_
 rotate_left
 ·simp only [EVT, stepR, evOp, St.ev, St.app, St.put, wrs, datOf, datOf1, TIS, CS, reduceAdd, reduceMul, reduceEqDiff, ↓reduceIte, reduceCtorEq, reduceLT, reduceLeDiff]
  (repeat' apply And.intro) <;> first|rfl|assumption|omega|(simp;done)|(simp;omega)|(simp_all;done)
 refine sA_n ?_
 refine a_seq ?_
 obtain ⟨r1, zh1, H⟩ := bind_some H
 have zk1 := clock_within_pc zh1
 refine a_reg _ rfl (s := ?zs2) ?_ ?_
 rotate_left
 ·try simp only [EVT, stepR, evOp, St.ev, St.app, St.put, wrs, datOf, datOf1, frz, TIS, CS, reduceAdd, reduceMul, reduceEqDiff, ↓reduceIte, reduceCtorEq, reduceLT, reduceLeDiff, reduceSub, Nat.reduceBEq]
  repeat' with_reducible apply And.intro
  all_goals try ((with_reducible show CallR _ _ _ _ _ _ _); refine cR_s zk1 (.cons (.int' rfl) (.cons (.int' rfl) (.cons (.int' rfl) .nil))) (.int _ _) ?_; simp only [EVT, stepR, evOp, St.ev, St.app, St.put, wrs, datOf, datOf1, frz, TIS, CS, reduceAdd, reduceMul, reduceEqDiff, ↓reduceIte, reduceCtorEq, reduceLT, reduceLeDiff, reduceSub, Nat.reduceBEq])
  all_goals ((repeat' apply And.intro) <;> first|rfl|assumption|omega|(simp;done)|(simp;omega)|(simp_all;done))
 refine sA_n ?_
 refine a_seq ?_
 obtain ⟨r2, zh2, H⟩ := bind_some H
 have zk2 := clock_span_most_pc zh2
 refine a_reg _ rfl (s := ?zs3) ?_ ?_
 rotate_left
 ·try simp only [EVT, stepR, evOp, St.ev, St.app, St.put, wrs, frz, TIS, CS, reduceAdd, reduceMul, reduceEqDiff, ↓reduceIte, reduceCtorEq, reduceLT, reduceLeDiff, reduceSub, Nat.reduceBEq]
  repeat' with_reducible apply And.intro
  all_goals try ((with_reducible show CallR _ _ _ _ _ _ _); refine cR_s zk2 (.cons (.int' rfl) .nil) (.int _ _) ?_; simp only [EVT, stepR, evOp, St.ev, St.app, St.put, wrs, frz, TIS, CS, reduceAdd, reduceMul, reduceEqDiff, ↓reduceIte, reduceCtorEq, reduceLT, reduceLeDiff, reduceSub, Nat.reduceBEq])
  all_goals ((repeat' apply And.intro) <;> first|rfl|assumption|omega|(simp;done)|(simp;omega)|(simp_all;done))
 refine sA_n ?_
 refine a_ret ?_
 obtain rfl := Option.some.inj H
 refine e_r2 (d := ?zd1) ?_ ?_
 rotate_left
 ·simp only [EVT, resR, single, evLoad, cut, TIS, CS, reduceAdd, reduceEqDiff, ↓reduceIte, reduceCtorEq, reduceLT, reduceLeDiff, reduceSub, Nat.reduceBEq]
  (repeat' apply And.intro) <;> first | rfl | assumption | omega | (simp; done)
 exact (.int' rfl)
def law03_Between_f (from1 : Int) (to1 : Int) (pick1 : Int) : Option Int :=
 cond (decide (to1 ≤ from1)) (some (from1)) (chk ((IntKind.wrap .u64 (IntKind.wrap .i64 ((IntKind.wrap .i64 (to1 - from1)) + 1))) ≠ 0) (some ((IntKind.wrap .i64 (from1 + (IntKind.wrap .i64 (Int.tmod pick1 (IntKind.wrap .u64 (IntKind.wrap .i64 ((IntKind.wrap .i64 (to1 - from1)) + 1))))))))))
set_option maxHeartbeats 4000000 in
set_option maxRecDepth 20000 in
theorem law03_Between_pc {from1 : Int} {to1 : Int} {pick1 : Int} {r : Int} (H : law03_Between_f from1 to1 pick1 = some r) : PC Try.prog 24 [.int .i64 from1, .int .i64 to1, .int .u64 pick1] (.int .i64 r) := by
 refine pcA_of Try.func24 (by rfl) (by decide) 21 (by rfl) [.tmp 6] (by rfl) ?_
 unfold law03_Between_f at H
 simp only [ent]
 refine a_seq ?_
 refine a_reg _ rfl (s := ?zs1) ?_ ?_
 rotate_left
 ·simp only [EVT, stepR, evOp, St.ev, St.app, St.put, wrs, datOf, datOf1, TIS, CS, reduceAdd, reduceMul, reduceEqDiff, ↓reduceIte, reduceCtorEq, reduceLT, reduceLeDiff]
  (repeat' apply And.intro) <;> first|rfl|assumption|omega|(simp;done)|(simp;omega)|(simp_all;done)
 refine sA_n ?_
 refine a_seq ?_
 refine a_seq ?_
 refine a_reg _ rfl (s := ?zs2) ?_ ?_
 rotate_left
 ·simp only [EVT, stepR, evOp, St.ev, St.app, St.put, wrs, evBin, binInt, TIS, CS, reduceAdd, reduceMul, reduceEqDiff, ↓reduceIte, reduceCtorEq, reduceLT, reduceLeDiff]
  (repeat' apply And.intro) <;> first|rfl|assumption|omega|(simp;done)|(simp;omega)|(simp_all;done)
 refine sA_n ?_
 refine a_condb ((decide (to1 ≤ from1))) (by rfl) (fun zc1 => ?_) (fun zc1 => ?_)
 ·have H := cond_t zc1 H
  refine a_seq ?_
  refine a_reg _ rfl (s := ?zs3) ?_ ?_
  rotate_left
  ·simp only [EVT, stepR, evOp, St.ev, St.app, St.put, wrs, TIS, CS, reduceAdd, reduceMul, reduceEqDiff, ↓reduceIte, reduceCtorEq, reduceLT, reduceLeDiff, ↓zc1]
   (repeat' apply And.intro) <;> first|rfl|assumption|omega|(simp;done)|(simp;omega)|(simp_all;done)
  refine sA_n ?_
  refine a_ret ?_
  refine sA_r ?_
  obtain rfl := Option.some.inj H
  refine e_r2 (d := ?zd1) ?_ ?_
  rotate_left
  ·simp only [EVT, resR, single, evLoad, cut, TIS, CS, reduceAdd, reduceEqDiff, ↓reduceIte, reduceCtorEq, reduceLT, reduceLeDiff, reduceSub, Nat.reduceBEq, zc1]
   (repeat' apply And.intro) <;> first | rfl | assumption | omega | (simp; done)
  exact (.int' rfl)
 ·have H := cond_f zc1 H
  refine a_skip ?_
  refine sA_n ?_
  refine a_seq ?_
  obtain ⟨zh1, H⟩ := chk_some H
  refine a_reg _ rfl (s := ?zs4) ?_ ?_
  rotate_left
  ·simp only [EVT, stepR, evOp, St.ev, St.app, St.put, wrs, evBin, binInt, datOf, datOf1, evToStr, elems, TIS, CS, reduceAdd, reduceMul, reduceEqDiff, ↓reduceIte, reduceCtorEq, reduceLT, reduceLeDiff, ↓zc1]
   (repeat' apply And.intro) <;> first|rfl|assumption|omega|(simp;done)|(simp;omega)|(simp_all;done)
  refine sA_n ?_
  refine a_ret ?_
  obtain rfl := Option.some.inj H
  refine e_r2 (d := ?zd2) ?_ ?_
  rotate_left
  ·simp only [EVT, resR, single, evLoad, cut, TIS, CS, reduceAdd, reduceEqDiff, ↓reduceIte, reduceCtorEq, reduceLT, reduceLeDiff, reduceSub, Nat.reduceBEq, zc1]
   (repeat' apply And.intro) <;> first | rfl | assumption | omega | (simp; done)
  exact (.int' rfl)
def clock_first_J1 (from2 : Int) : Option Int :=
 some (from2)
def clock_first_L1 (so1 : Int → Option Bool) : Nat → Int → Int → Option Int
 | 0, _, _ => none
 | m_ + 1, from3, to2 => cond (decide (from3 < to2)) ((so1 (IntKind.wrap .i64 (from3 + (IntKind.wrap .i64 (Int.tdiv (IntKind.wrap .i64 (to2 - from3)) 2))))).bind fun r1 => cond r1 (clock_first_L1 so1 m_ from3 (IntKind.wrap .i64 (from3 + (IntKind.wrap .i64 (Int.tdiv (IntKind.wrap .i64 (to2 - from3)) 2))))) (clock_first_L1 so1 m_ (IntKind.wrap .i64 ((IntKind.wrap .i64 (from3 + (IntKind.wrap .i64 (Int.tdiv (IntKind.wrap .i64 (to2 - from3)) 2)))) + 1)) to2)) (clock_first_J1 from3)
def clock_first_f (from1 : Int) (to1 : Int) (so1 : Int → Option Bool) : Option Int :=
 clock_first_L1 so1 BIG from1 to1
set_option maxHeartbeats 4000000 in
set_option maxRecDepth 20000 in
theorem clock_first_pc {from1 : Int} {to1 : Int} {so1 : Int → Option Bool} {so1_F : FuncId} {so1_caps : List Dat} (so1_hp : ∀ (x0_ : Int) (r : Bool), so1 x0_ = some r → PC Try.prog so1_F (.int .i64 x0_ :: so1_caps) (.bool r)) (so1_pu : Pus so1_caps) {r : Int} (H : clock_first_f from1 to1 so1 = some r) : PC Try.prog 50 [.int .i64 from1, .int .i64 to1, .fn (.func so1_F) [] so1_caps] (.int .i64 r) := by
 refine pcA_of Try.func50 (by rfl) (by decide) 24 (by rfl) [.tmp 6] (by rfl) ?_
 unfold clock_first_f at H
 simp only [ent]
 refine a_seq ?_
 refine a_reg _ rfl (s := ?zs1) ?_ ?_
 rotate_left
 ·simp only [EVT, stepR, evOp, St.ev, St.app, St.put, wrs, datOf, datOf1, TIS, CS, reduceAdd, reduceMul, reduceEqDiff, ↓reduceIte, reduceCtorEq, reduceLT, reduceLeDiff]
  (repeat' apply And.intro) <;> first|rfl|assumption|omega|(simp;done)|(simp;omega)|(simp_all;done)
 refine sA_n ?_
 refine a_cut (fun s => ∃ (from2 : Int) (t0 : Nat → Dat), clock_first_J1 from2 = some r ∧ s = ⟨tl t0 [(0, .int .i64 from2)], hl [], 0, 24⟩) ?_ ?_
 ·refine a_blk ?_
  refine a_loop (fun m s => ∃ (from3 : Int) (to2 : Int) (t0 : Nat → Dat), clock_first_L1 so1 m from3 to2 = some r ∧ s = ⟨tl t0 [(0, .int .i64 from3), (1, .int .i64 to2), (2, .fn (.func so1_F) [] so1_caps)], hl [], 0, 24⟩) BIG ?_ ?_
  ·refine wk_l [] [] [(0, .int .i64 from1), (1, .int .i64 to1), (2, .fn (.func so1_F) [] so1_caps)] (by show ([0, 1, 2] : List Nat).Nodup; decide) (by show ([] : List Nat).Nodup; decide) ?_ ?_ (fun t0 => ⟨from1, to1, t0, H, rfl⟩)
   ·exact trivial
   ·(simp only [AllT, ATT, reduceEqDiff, ↓reduceIte, and_true]); exact ⟨(.int' rfl), (.int' rfl), (.fn' .nil (RNs.pu so1_pu))⟩
  ·rintro m_clock_first_L1 s ⟨from3, to2, t0, H, rfl⟩
   obtain _ | m_clock_first_L1 := m_clock_first_L1
   ·cases (show (none : Option _) = some _ from H)
   ·rw [clock_first_L1] at H
    refine a_seq ?_
    refine a_seq ?_
    refine a_reg _ rfl (s := ?zs3) ?_ ?_
    rotate_left
    ·simp only [EVT, stepR, evOp, St.ev, St.app, St.put, wrs, evBin, binInt, TIS, CS, reduceAdd, reduceMul, reduceEqDiff, ↓reduceIte, reduceCtorEq, reduceLT, reduceLeDiff]
     (repeat' apply And.intro) <;> first|rfl|assumption|omega|(simp;done)|(simp;omega)|(simp_all;done)
    refine sA_n ?_
    refine a_condb ((decide (from3 < to2))) (by rfl) (fun zc1 => ?_) (fun zc1 => ?_)
    ·have H := cond_t zc1 H
     refine a_skip ?_
     refine sA_n ?_
     refine a_blk ?_
     refine a_seq ?_
     refine a_reg _ rfl (s := ?zs4) ?_ ?_
     rotate_left
     ·simp only [EVT, stepR, evOp, St.ev, St.app, St.put, wrs, evBin, binInt, datOf, datOf1, TIS, CS, reduceAdd, reduceMul, reduceEqDiff, ↓reduceIte, reduceCtorEq, reduceLT, reduceLeDiff, ↓zc1]
      (repeat' apply And.intro) <;> first|rfl|assumption|omega|(simp;done)|(simp;omega)|(simp_all;done)
     refine sA_n ?_
     refine a_seq ?_
     obtain ⟨r1, zh1, H⟩ := bind_some H
     have zk1 := so1_hp _ _ zh1
     refine a_reg _ rfl (s := ?zs5) ?_ ?_
     rotate_left
     ·try simp only [EVT, stepR, evOp, St.ev, St.app, St.put, wrs, frz, TIS, CS, reduceAdd, reduceMul, reduceEqDiff, ↓reduceIte, reduceCtorEq, reduceLT, reduceLeDiff, reduceSub, Nat.reduceBEq, ↓zc1]
      repeat' with_reducible apply And.intro
      all_goals try ((with_reducible show CallR _ _ _ _ _ _ _); refine cR_s zk1 (.cons (.int' rfl) (Pus.purRs so1_pu)) (.bool _) ?_; simp only [EVT, stepR, evOp, St.ev, St.app, St.put, wrs, frz, TIS, CS, reduceAdd, reduceMul, reduceEqDiff, ↓reduceIte, reduceCtorEq, reduceLT, reduceLeDiff, reduceSub, Nat.reduceBEq, ↓zc1])
      all_goals ((repeat' apply And.intro) <;> first|rfl|assumption|omega|(simp;done)|(simp;omega)|(simp_all;done))
     refine sA_n ?_
     refine a_condb (r1) (by rfl) (fun zc2 => ?_) (fun zc2 => ?_)
     ·have H := cond_t zc2 H
      refine a_reg _ rfl (s := ?zs6) ?_ ?_
      rotate_left
      ·simp only [EVT, stepR, evOp, St.ev, St.app, St.put, wrs, TIS, CS, reduceAdd, reduceMul, reduceEqDiff, ↓reduceIte, reduceCtorEq, reduceLT, reduceLeDiff, ↓zc1, ↓zc2]
       (repeat' apply And.intro) <;> first|rfl|assumption|omega|(simp;done)|(simp;omega)|(simp_all;done)
      refine bA_n ?_
      refine lA_n ?_
      refine wk_l [] [] [(0, .int .i64 from3), (1, .int .i64 (IntKind.wrap .i64 (from3 + (IntKind.wrap .i64 (Int.tdiv (IntKind.wrap .i64 (to2 - from3)) 2))))), (2, .fn (.func so1_F) [] so1_caps)] (by show ([0, 1, 2] : List Nat).Nodup; decide) (by show ([] : List Nat).Nodup; decide) ?_ ?_ (fun t0 => ⟨_, Nat.lt_succ_self _, from3, (IntKind.wrap .i64 (from3 + (IntKind.wrap .i64 (Int.tdiv (IntKind.wrap .i64 (to2 - from3)) 2)))), t0, H, rfl⟩)
      ·exact trivial
      ·(simp only [AllT, ATT, reduceEqDiff, ↓reduceIte, and_true]); exact ⟨(.int' rfl), (.int' rfl), (.fn' .nil (RNs.pu so1_pu))⟩
     ·have H := cond_f zc2 H
      refine a_reg _ rfl (s := ?zs7) ?_ ?_
      rotate_left
      ·simp only [EVT, stepR, evOp, St.ev, St.app, St.put, wrs, datOf, datOf1, evBin, binInt, TIS, CS, reduceAdd, reduceMul, reduceEqDiff, ↓reduceIte, reduceCtorEq, reduceLT, reduceLeDiff, ↓zc1, ↓zc2]
       (repeat' apply And.intro) <;> first|rfl|assumption|omega|(simp;done)|(simp;omega)|(simp_all;done)
      refine bA_n ?_
      refine lA_n ?_
      refine wk_l [] [] [(0, .int .i64 (IntKind.wrap .i64 ((IntKind.wrap .i64 (from3 + (IntKind.wrap .i64 (Int.tdiv (IntKind.wrap .i64 (to2 - from3)) 2)))) + 1))), (1, .int .i64 to2), (2, .fn (.func so1_F) [] so1_caps)] (by show ([0, 1, 2] : List Nat).Nodup; decide) (by show ([] : List Nat).Nodup; decide) ?_ ?_ (fun t0 => ⟨_, Nat.lt_succ_self _, (IntKind.wrap .i64 ((IntKind.wrap .i64 (from3 + (IntKind.wrap .i64 (Int.tdiv (IntKind.wrap .i64 (to2 - from3)) 2)))) + 1)), to2, t0, H, rfl⟩)
      ·exact trivial
      ·(simp only [AllT, ATT, reduceEqDiff, ↓reduceIte, and_true]); exact ⟨(.int' rfl), (.int' rfl), (.fn' .nil (RNs.pu so1_pu))⟩
    ·have H := cond_f zc1 H
     refine a_exit ?_
     refine sA_e ?_
     refine lA_e ?_
     refine bA_hit ?_
     refine cA_n ?_
     refine wk_l [] [] [(0, .int .i64 from3)] (by show ([0] : List Nat).Nodup; decide) (by show ([] : List Nat).Nodup; decide) ?_ ?_ (fun t0 => ⟨from3, t0, H, rfl⟩)
     ·exact trivial
     ·(simp only [AllT, ATT, reduceEqDiff, ↓reduceIte, and_true]); exact (.int' rfl)
 ·rintro s ⟨from2, t0, H, rfl⟩
  unfold clock_first_J1 at H
  refine a_seq ?_
  refine a_reg _ rfl (s := ?zs2) ?_ ?_
  rotate_left
  ·simp only [EVT, stepR, evOp, St.ev, St.app, St.put, wrs, TIS, CS, reduceAdd, reduceMul, reduceEqDiff, ↓reduceIte, reduceCtorEq, reduceLT, reduceLeDiff]
   (repeat' apply And.intro) <;> first|rfl|assumption|omega|(simp;done)|(simp;omega)|(simp_all;done)
  refine sA_n ?_
  refine a_ret ?_
  obtain rfl := Option.some.inj H
  refine e_r2 (d := ?zd1) ?_ ?_
  rotate_left
  ·simp only [EVT, resR, single, evLoad, cut, TIS, CS, reduceAdd, reduceEqDiff, ↓reduceIte, reduceCtorEq, reduceLT, reduceLeDiff, reduceSub, Nat.reduceBEq]
   (repeat' apply And.intro) <;> first | rfl | assumption | omega | (simp; done)
  exact (.int' rfl)
def clock_Wait_1_f (r1 : Int) (v1 : Int) : Option Bool :=
 (clock_span_least_f r1).bind fun r2 => some ((decide (v1 ≤ r2)))
set_option maxHeartbeats 4000000 in
set_option maxRecDepth 20000 in
theorem clock_Wait_1_pc {r1 : Int} {v1 : Int} {r : Bool} (H : clock_Wait_1_f r1 v1 = some r) : PC Try.prog 51 [.int .i64 r1, .rop ((ci .i64) v1) 0 1] (.bool r) := by
 refine pcA_of Try.func51 (by rfl) (by decide) 8 (by rfl) [.tmp 3] (by rfl) ?_
 unfold clock_Wait_1_f at H
 simp only [ent]
 refine a_seq ?_
 refine a_reg _ rfl (s := ?zs1) ?_ ?_
 rotate_left
 ·simp only [EVT, stepR, evOp, St.ev, St.app, St.put, wrs, datOf, datOf1, TIS, CS, reduceAdd, reduceMul, reduceEqDiff, ↓reduceIte, reduceCtorEq, reduceLT, reduceLeDiff]
  (repeat' apply And.intro) <;> first|rfl|assumption|omega|(simp;done)|(simp;omega)|(simp_all;done)
 refine sA_n ?_
 refine a_seq ?_
 obtain ⟨r2, zh1, H⟩ := bind_some H
 have zk1 := clock_span_least_pc zh1
 refine a_drW (by kernel_rfl) _ rfl (s := ?zs2) (by kernel_rfl) (by kernel_rfl) ?zs2f ?_ ?_ ?_
 rotate_left 2
 ·try simp only [EVT, stepW, evOp, St.ev, St.app, St.put, wrs, frz, evLoad, cut, evBin, binInt, TIS, CS, reduceAdd, reduceMul, reduceEqDiff, ↓reduceIte, reduceCtorEq, reduceLT, reduceLeDiff, reduceSub, Nat.reduceBEq]
  repeat' with_reducible apply And.intro
  all_goals try ((with_reducible show CallW _ _ _ _ _ _ _); refine cW_s [] zk1 (fun h2 e => (.cons (.int' rfl) .nil)) (.int _ _) ?_; simp only [EVT, stepW, evOp, St.ev, St.app, St.put, wrs, frz, evLoad, cut, evBin, binInt, TIS, CS, reduceAdd, reduceMul, reduceEqDiff, ↓reduceIte, reduceCtorEq, reduceLT, reduceLeDiff, reduceSub, Nat.reduceBEq])
  all_goals ((repeat' apply And.intro) <;> first|rfl|assumption|omega|(simp;done)|(simp;omega)|(simp_all;done))
 ·kernel_rfl
 refine sA_n ?_
 refine a_ret ?_
 obtain rfl := Option.some.inj H
 refine e_r2 (d := ?zd1) ?_ ?_
 rotate_left
 ·simp only [EVT, resR, single, evLoad, cut, TIS, CS, reduceAdd, reduceEqDiff, ↓reduceIte, reduceCtorEq, reduceLT, reduceLeDiff, reduceSub, Nat.reduceBEq]
  (repeat' apply And.intro) <;> first | rfl | assumption | omega | (simp; done)
 exact (.bool' rfl)
def clock_Wait_f (n1 : Int) : Option Int :=
 (clock_within_f n1 0 1099511627776).bind fun r1 => (clock_first_f 0 2199023255552 (fun y0_ => clock_Wait_1_f y0_ r1)).bind fun r2 => cond (r2 == 0) (some (0)) ((clock_span_most_f (IntKind.wrap .i64 (r2 - 1))).bind fun r3 => some ((IntKind.wrap .i64 (r3 + 1))))
set_option maxHeartbeats 4000000 in
set_option maxRecDepth 20000 in
theorem clock_Wait_pc {n1 : Int} {r : Int} (H : clock_Wait_f n1 = some r) : PC Try.prog 21 [.int .i64 n1] (.int .i64 r) := by
 refine pcA_of Try.func21 (by rfl) (by decide) 14 (by rfl) [.tmp 2] (by rfl) ?_
 unfold clock_Wait_f at H
 simp only [ent]
 refine a_seq ?_
 refine a_reg _ rfl (s := ?zs1) ?_ ?_
 rotate_left
 ·simp only [EVT, stepR, evOp, St.ev, St.app, St.put, wrs, allOne, datOf, datOf1, TIS, CS, reduceAdd, reduceMul, reduceEqDiff, ↓reduceIte, reduceCtorEq, reduceLT, reduceLeDiff]
  (repeat' apply And.intro) <;> first|rfl|assumption|omega|(simp;done)|(simp;omega)|(simp_all;done)
 refine sA_n ?_
 refine a_seq ?_
 obtain ⟨r1, zh1, H⟩ := bind_some H
 have zk1 := clock_within_pc zh1
 refine a_reg _ rfl (s := ?zs2) ?_ ?_
 rotate_left
 ·try simp only [EVT, stepR, evOp, St.ev, St.app, St.put, wrs, evLoad, cut, datOf, datOf1, frz, evStore, setR, allOne, TIS, CS, reduceAdd, reduceMul, reduceEqDiff, ↓reduceIte, reduceCtorEq, reduceLT, reduceLeDiff, reduceSub, Nat.reduceBEq]
  repeat' with_reducible apply And.intro
  all_goals try ((with_reducible show CallR _ _ _ _ _ _ _); refine cR_s zk1 (.cons (.int' rfl) (.cons (.int' rfl) (.cons (.int' rfl) .nil))) (.int _ _) ?_; simp only [EVT, stepR, evOp, St.ev, St.app, St.put, wrs, evLoad, cut, datOf, datOf1, frz, evStore, setR, allOne, TIS, CS, reduceAdd, reduceMul, reduceEqDiff, ↓reduceIte, reduceCtorEq, reduceLT, reduceLeDiff, reduceSub, Nat.reduceBEq])
  all_goals ((repeat' apply And.intro) <;> first|rfl|assumption|omega|(simp;done)|(simp;omega)|(simp_all;done))
 refine sA_n ?_
 refine a_seq ?_
 obtain ⟨r2, zh2, H⟩ := bind_some H
 have zk2 := clock_first_pc (so1 := (fun y0_ => clock_Wait_1_f y0_ r1)) (so1_F := 51) (so1_caps := [.rop ((ci .i64) r1) 0 1]) (fun _ _ h => clock_Wait_1_pc h) (.cons (.rop _ _ _ ((ci_pu .i64) _)) .nil) zh2
 refine a_reg _ rfl (s := ?zs3) ?_ ?_
 rotate_left
 ·try simp only [EVT, stepR, evOp, St.ev, St.app, St.put, wrs, datOf, datOf1, frz, TIS, CS, reduceAdd, reduceMul, reduceEqDiff, ↓reduceIte, reduceCtorEq, reduceLT, reduceLeDiff, reduceSub, Nat.reduceBEq]
  repeat' with_reducible apply And.intro
  all_goals try ((with_reducible show CallR _ _ _ _ _ _ _); refine cR_s zk2 (.cons (.int' rfl) (.cons (.int' rfl) (.cons (.fn' .nil (.cons (.box (by rfl) (fun e => by cases e) rfl rfl (.cons (.int' rfl) .nil)) .nil)) .nil))) (.int _ _) ?_; simp only [EVT, stepR, evOp, St.ev, St.app, St.put, wrs, datOf, datOf1, frz, TIS, CS, reduceAdd, reduceMul, reduceEqDiff, ↓reduceIte, reduceCtorEq, reduceLT, reduceLeDiff, reduceSub, Nat.reduceBEq])
  all_goals ((repeat' apply And.intro) <;> first|rfl|assumption|omega|(simp;done)|(simp;omega)|(simp_all;done))
 refine sA_n ?_
 refine a_seq ?_
 refine a_seq ?_
 refine a_reg _ rfl (s := ?zs4) ?_ ?_
 rotate_left
 ·simp only [EVT, stepR, evOp, St.ev, St.app, St.put, wrs, datOf, datOf1, evBin, binInt, TIS, CS, reduceAdd, reduceMul, reduceEqDiff, ↓reduceIte, reduceCtorEq, reduceLT, reduceLeDiff]
  (repeat' apply And.intro) <;> first|rfl|assumption|omega|(simp;done)|(simp;omega)|(simp_all;done)
 refine sA_n ?_
 refine a_condb ((r2 == 0)) (by rfl) (fun zc1 => ?_) (fun zc1 => ?_)
 ·have H := cond_t zc1 H
  refine a_seq ?_
  refine a_reg _ rfl (s := ?zs5) ?_ ?_
  rotate_left
  ·simp only [EVT, stepR, evOp, St.ev, St.app, St.put, wrs, datOf, datOf1, TIS, CS, reduceAdd, reduceMul, reduceEqDiff, ↓reduceIte, reduceCtorEq, reduceLT, reduceLeDiff, ↓zc1]
   (repeat' apply And.intro) <;> first|rfl|assumption|omega|(simp;done)|(simp;omega)|(simp_all;done)
  refine sA_n ?_
  refine a_ret ?_
  refine sA_r ?_
  obtain rfl := Option.some.inj H
  refine e_r2 (d := ?zd1) ?_ ?_
  rotate_left
  ·simp only [EVT, resR, single, evLoad, cut, TIS, CS, reduceAdd, reduceEqDiff, ↓reduceIte, reduceCtorEq, reduceLT, reduceLeDiff, reduceSub, Nat.reduceBEq, zc1]
   (repeat' apply And.intro) <;> first | rfl | assumption | omega | (simp; done)
  exact (.int' rfl)
 ·have H := cond_f zc1 H
  refine a_skip ?_
  refine sA_n ?_
  refine a_seq ?_
  obtain ⟨r3, zh3, H⟩ := bind_some H
  have zk3 := clock_span_most_pc zh3
  refine a_reg _ rfl (s := ?zs6) ?_ ?_
  rotate_left
  ·try simp only [EVT, stepR, evOp, St.ev, St.app, St.put, wrs, datOf, datOf1, evBin, binInt, frz, TIS, CS, reduceAdd, reduceMul, reduceEqDiff, ↓reduceIte, reduceCtorEq, reduceLT, reduceLeDiff, reduceSub, Nat.reduceBEq, ↓zc1]
   repeat' with_reducible apply And.intro
   all_goals try ((with_reducible show CallR _ _ _ _ _ _ _); refine cR_s zk3 (.cons (.int' rfl) .nil) (.int _ _) ?_; simp only [EVT, stepR, evOp, St.ev, St.app, St.put, wrs, datOf, datOf1, evBin, binInt, frz, TIS, CS, reduceAdd, reduceMul, reduceEqDiff, ↓reduceIte, reduceCtorEq, reduceLT, reduceLeDiff, reduceSub, Nat.reduceBEq, ↓zc1])
   all_goals ((repeat' apply And.intro) <;> first|rfl|assumption|omega|(simp;done)|(simp;omega)|(simp_all;done))
  refine sA_n ?_
  refine a_ret ?_
  obtain rfl := Option.some.inj H
  refine e_r2 (d := ?zd2) ?_ ?_
  rotate_left
  ·simp only [EVT, resR, single, evLoad, cut, TIS, CS, reduceAdd, reduceEqDiff, ↓reduceIte, reduceCtorEq, reduceLT, reduceLeDiff, reduceSub, Nat.reduceBEq, zc1]
   (repeat' apply And.intro) <;> first | rfl | assumption | omega | (simp; done)
  exact (.int' rfl)
def law03_Shows_J1 (out1 : List Int) : Option (List Int) :=
 some (out1)
def law03_Shows_J2 (k_law03_Shows_L1 : (List Int) → Int → Option (List Int)) (i1 : Int) (out3 : List Int) : Option (List Int) :=
 k_law03_Shows_L1 out3 (IntKind.wrap .i64 (i1 + 1))
def law03_Shows_J4 (k_law03_Shows_L1 : (List Int) → Int → Option (List Int)) (from1 : Int) (to1 : Int) (out2 : List Int) (i1 : Int) (pick1 : Int) : Option (List Int) :=
 (law03_Between_f from1 to1 pick1).bind fun r1 => chk ((out2.length + 1) * 8 ≤ 140737488355328) (law03_Shows_J2 k_law03_Shows_L1 i1 (out2 ++ [r1]))
def law03_Shows_J3 (k_law03_Shows_L1 : (List Int) → Int → Option (List Int)) (i1 : Int) (picks1 : List Int) (out2 : List Int) (from1 : Int) (to1 : Int) : Option (List Int) :=
 cond (decide (i1 < (picks1.length : Int))) ((idx picks1 i1).bind fun x1 => law03_Shows_J4 k_law03_Shows_L1 from1 to1 out2 i1 (IntKind.wrap .u64 x1)) (law03_Shows_J4 k_law03_Shows_L1 from1 to1 out2 i1 0)
def law03_Shows_L2 (k_law03_Shows_L1 : (List Int) → Int → Option (List Int)) (i1 : Int) (out2 : List Int) (reals1 : List Int) (picks1 : List Int) : Nat → Int → Int → Int → Option (List Int)
 | 0, _, _, _ => none
 | m_ + 1, from2, to2, k1 => cond (decide (k1 < i1)) ((idx out2 k1).bind fun x2 => (idx reals1 i1).bind fun x3 => (idx reals1 k1).bind fun x4 => (clock_Least_f (IntKind.wrap .i64 (x3 - x4))).bind fun r2 => (clock_Most_f (IntKind.wrap .i64 (x3 - x4))).bind fun r3 => law03_Shows_L2 k_law03_Shows_L1 i1 out2 reals1 picks1 m_ (if (IntKind.wrap .i64 (x2 + r2)) > from2 then (IntKind.wrap .i64 (x2 + r2)) else from2) (if (IntKind.wrap .i64 (x2 + r3)) < to2 then (IntKind.wrap .i64 (x2 + r3)) else to2) (IntKind.wrap .i64 (k1 + 1))) (law03_Shows_J3 k_law03_Shows_L1 i1 picks1 out2 from2 to2)
def law03_Shows_L1 (reals1 : List Int) (picks1 : List Int) : Nat → (List Int) → Int → Option (List Int)
 | 0, _, _ => none
 | m_ + 1, out2, i1 => cond (decide (i1 < (reals1.length : Int))) (cond (i1 == 0) (chk ((out2.length + 1) * 8 ≤ 140737488355328) (law03_Shows_J2 (law03_Shows_L1 reals1 picks1 m_) i1 (out2 ++ [0]))) (law03_Shows_L2 (law03_Shows_L1 reals1 picks1 m_) i1 out2 reals1 picks1 BIG 0 4398046511104 0)) (law03_Shows_J1 out2)
def law03_Shows_f (reals1 : List Int) (picks1 : List Int) : Option (List Int) :=
 law03_Shows_L1 reals1 picks1 BIG ([] : List Int) 0
set_option maxHeartbeats 4000000 in
set_option maxRecDepth 20000 in
theorem law03_Shows_pc {reals1 : List Int} {picks1 : List Int} {r : (List Int)} (H : law03_Shows_f reals1 picks1 = some r) : PC Try.prog 6 [.list 1 (reals1.map (ci .i64)), .list 1 (picks1.map (ci .u16))] (.list 1 (r.map (ci .i64))) := by
 refine pcA_of Try.func6 (by rfl) (by decide) 79 (by rfl) [.tmp 4] (by rfl) ?_
 unfold law03_Shows_f at H
 simp only [ent]
 refine a_seq ?_
 refine a_reg _ rfl (s := ?zs1) ?_ ?_
 rotate_left
 ·simp only [EVT, stepR, evOp, St.ev, St.app, St.put, wrs, datOf, datOf1, TIS, CS, reduceAdd, reduceMul, reduceEqDiff, ↓reduceIte, reduceCtorEq, reduceLT, reduceLeDiff]
  (repeat' apply And.intro) <;> first|rfl|assumption|omega|(simp;done)|(simp;omega)|(simp_all;done)
 refine sA_n ?_
 refine a_seq ?_
 refine a_reg _ rfl (s := ?zs2) ?_ ?_
 rotate_left
 ·simp only [EVT, stepR, evOp, St.ev, St.app, St.put, wrs, allOne, TIS, CS, reduceAdd, reduceMul, reduceEqDiff, ↓reduceIte, reduceCtorEq, reduceLT, reduceLeDiff, reduceSub, Nat.reduceBEq]
  (repeat' apply And.intro) <;> first|rfl|assumption|omega|(simp;done)|(simp;omega)|(simp_all;done)
 refine sA_n ?_
 refine a_cut (fun s => ∃ (out1 : List Int) (t0 : Nat → Dat), law03_Shows_J1 out1 = some r ∧ s = ⟨tl t0 [(5, .ref 0 0 out1.length 1)], hl [⟨3, 1, false, out1.map (ci .i64)⟩], 1, 79⟩) ?_ ?_
 ·refine a_seq ?_
  refine a_reg _ rfl (s := ?zs4) ?_ ?_
  rotate_left
  ·simp only [EVT, stepR, evOp, St.ev, St.app, St.put, wrs, datOf, datOf1, TIS, CS, reduceAdd, reduceMul, reduceEqDiff, ↓reduceIte, reduceCtorEq, reduceLT, reduceLeDiff]
   (repeat' apply And.intro) <;> first|rfl|assumption|omega|(simp;done)|(simp;omega)|(simp_all;done)
  refine sA_n ?_
  refine a_blk ?_
  refine a_loop (fun m s => ∃ (out2 : List Int) (i1 : Int) (t0 : Nat → Dat), law03_Shows_L1 reals1 picks1 m out2 i1 = some r ∧ s = ⟨tl t0 [(0, .list 1 (reals1.map (ci .i64))), (1, .list 1 (picks1.map (ci .u16))), (5, .ref 0 0 out2.length 1), (6, .int .i64 i1)], hl [⟨3, 1, false, out2.map (ci .i64)⟩], 1, 79⟩) BIG ?_ ?_
  ·refine wk_l [(some 8, ⟨3, 1, false, ([] : List Int).map (ci .i64)⟩)] [] [(0, .list 1 (reals1.map (ci .i64))), (1, .list 1 (picks1.map (ci .u16))), (5, .ref 0 0 ([] : List Int).length 1), (6, .int .i64 0)] (by show ([0, 1, 5, 6] : List Nat).Nodup; decide) (by show ([8] : List Nat).Nodup; decide) ?_ ?_ (fun t0 => ⟨([] : List Int), 0, t0, H, rfl⟩)
   ·exact (allB_some (by rfl) rfl (.sm _ _ (ci_pu .i64)) trivial)
   ·(simp only [AllT, ATT, reduceEqDiff, ↓reduceIte, and_true]); exact ⟨(.lst _ _ _ (ci_pu .i64) rfl), (.lst _ _ _ (ci_pu .u16) rfl), (.refl' (by first|rfl|omega|(simp;done)|(simp;omega)|(simp_all;done)) rfl), (.int' rfl)⟩
  ·rintro m_law03_Shows_L1 s ⟨out2, i1, t0, H, rfl⟩
   obtain _ | m_law03_Shows_L1 := m_law03_Shows_L1
   ·cases (show (none : Option _) = some _ from H)
   ·rw [law03_Shows_L1] at H
    refine a_seq ?_
    refine a_seq ?_
    refine a_reg _ rfl (s := ?zs5) ?_ ?_
    rotate_left
    ·simp only [EVT, stepR, evOp, St.ev, St.app, St.put, wrs, evBuiltin, evBin, binInt, TIS, CS, reduceAdd, reduceMul, reduceEqDiff, ↓reduceIte, reduceCtorEq, reduceLT, reduceLeDiff, reduceSub, Nat.reduceBEq]
     (repeat' apply And.intro) <;> first|rfl|assumption|omega|(simp;done)|(simp;omega)|(simp_all;done)
    refine sA_n ?_
    refine a_condb ((decide (i1 < (reals1.length : Int)))) (by rfl) (fun zc1 => ?_) (fun zc1 => ?_)
    ·have H := cond_t zc1 H
     refine a_skip ?_
     refine sA_n ?_
     refine a_cut (fun s => ∃ (out3 : List Int) (t0 : Nat → Dat), law03_Shows_J2 (law03_Shows_L1 reals1 picks1 m_law03_Shows_L1) i1 out3 = some r ∧ s = ⟨tl t0 [(0, .list 1 (reals1.map (ci .i64))), (1, .list 1 (picks1.map (ci .u16))), (5, .ref 0 0 out3.length 1), (6, .int .i64 i1)], hl [⟨3, 1, false, out3.map (ci .i64)⟩], 1, 79⟩) ?_ ?_
     ·refine a_blk ?_
      refine a_seq ?_
      refine a_seq ?_
      refine a_reg _ rfl (s := ?zs7) ?_ ?_
      rotate_left
      ·simp only [EVT, stepR, evOp, St.ev, St.app, St.put, wrs, datOf, datOf1, evBin, binInt, TIS, CS, reduceAdd, reduceMul, reduceEqDiff, ↓reduceIte, reduceCtorEq, reduceLT, reduceLeDiff, ↓zc1]
       (repeat' apply And.intro) <;> first|rfl|assumption|omega|(simp;done)|(simp;omega)|(simp_all;done)
      refine sA_n ?_
      refine a_condb ((i1 == 0)) (by rfl) (fun zc2 => ?_) (fun zc2 => ?_)
      ·have H := cond_t zc2 H
       refine a_seq ?_
       obtain ⟨zh1, H⟩ := chk_some H
       refine a_reg _ rfl (s := ?zs8) ?_ ?_
       rotate_left
       ·simp only [EVT, stepR, evOp, St.ev, St.app, St.put, wrs, datOf, datOf1, allOne, evBuiltin, evAppend, isAl, elems, Option.elim, TIS, CS, reduceAdd, reduceMul, reduceEqDiff, ↓reduceIte, reduceCtorEq, reduceLT, reduceLeDiff, reduceSub, Nat.reduceBEq, ↓zc1, ↓zc2]
        (repeat' apply And.intro) <;> first|rfl|assumption|omega|(simp;done)|(simp;omega)|(simp_all;done)
       refine sA_n ?_
       refine a_exit ?_
       refine sA_e ?_
       refine bA_hit ?_
       refine cA_n ?_
       refine wk_l [(some 51, ⟨3, 1, false, (out2 ++ [0]).map (ci .i64)⟩)] [] [(0, .list 1 (reals1.map (ci .i64))), (1, .list 1 (picks1.map (ci .u16))), (5, .ref 0 0 (out2 ++ [0]).length 1), (6, .int .i64 i1)] (by show ([0, 1, 5, 6] : List Nat).Nodup; decide) (by show ([51] : List Nat).Nodup; decide) ?_ ?_ (fun t0 => ⟨(out2 ++ [0]), t0, H, rfl⟩)
       ·exact (allB_some (by rfl) rfl (.sm _ _ (ci_pu .i64)) trivial)
       ·(simp only [AllT, ATT, reduceEqDiff, ↓reduceIte, and_true]); exact ⟨(.lst _ _ _ (ci_pu .i64) rfl), (.lst _ _ _ (ci_pu .u16) rfl), (.refl' (by first|rfl|omega|(simp;done)|(simp;omega)|(simp_all;done)) rfl), (.int' rfl)⟩
      ·have H := cond_f zc2 H
       refine a_skip ?_
       refine sA_n ?_
       refine a_seq ?_
       refine a_reg _ rfl (s := ?zs9) ?_ ?_
       rotate_left
       ·simp only [EVT, stepR, evOp, St.ev, St.app, St.put, wrs, datOf, datOf1, TIS, CS, reduceAdd, reduceMul, reduceEqDiff, ↓reduceIte, reduceCtorEq, reduceLT, reduceLeDiff, ↓zc1, ↓zc2]
        (repeat' apply And.intro) <;> first|rfl|assumption|omega|(simp;done)|(simp;omega)|(simp_all;done)
       refine sA_n ?_
       refine a_cut (fun s => ∃ (from1 : Int) (to1 : Int) (t0 : Nat → Dat), law03_Shows_J3 (law03_Shows_L1 reals1 picks1 m_law03_Shows_L1) i1 picks1 out2 from1 to1 = some r ∧ s = ⟨tl t0 [(0, .list 1 (reals1.map (ci .i64))), (1, .list 1 (picks1.map (ci .u16))), (5, .ref 0 0 out2.length 1), (6, .int .i64 i1), (7, .int .i64 from1), (8, .int .i64 to1)], hl [⟨3, 1, false, out2.map (ci .i64)⟩], 1, 79⟩) ?_ ?_
       ·refine a_seq ?_
        refine a_reg _ rfl (s := ?zs14) ?_ ?_
        rotate_left
        ·simp only [EVT, stepR, evOp, St.ev, St.app, St.put, wrs, datOf, datOf1, TIS, CS, reduceAdd, reduceMul, reduceEqDiff, ↓reduceIte, reduceCtorEq, reduceLT, reduceLeDiff, ↓zc1, ↓zc2]
         (repeat' apply And.intro) <;> first|rfl|assumption|omega|(simp;done)|(simp;omega)|(simp_all;done)
        refine sA_n ?_
        refine a_blk ?_
        refine a_loop (fun m s => ∃ (from2 : Int) (to2 : Int) (k1 : Int) (t0 : Nat → Dat), law03_Shows_L2 (law03_Shows_L1 reals1 picks1 m_law03_Shows_L1) i1 out2 reals1 picks1 m from2 to2 k1 = some r ∧ s = ⟨tl t0 [(0, .list 1 (reals1.map (ci .i64))), (1, .list 1 (picks1.map (ci .u16))), (5, .ref 0 0 out2.length 1), (6, .int .i64 i1), (7, .int .i64 from2), (8, .int .i64 to2), (9, .int .i64 k1)], hl [⟨3, 1, false, out2.map (ci .i64)⟩], 1, 79⟩) BIG ?_ ?_
        ·refine wk_l [(some 0, ⟨3, 1, false, out2.map (ci .i64)⟩)] [] [(0, .list 1 (reals1.map (ci .i64))), (1, .list 1 (picks1.map (ci .u16))), (5, .ref 0 0 out2.length 1), (6, .int .i64 i1), (7, .int .i64 0), (8, .int .i64 4398046511104), (9, .int .i64 0)] (by show ([0, 1, 5, 6, 7, 8, 9] : List Nat).Nodup; decide) (by show ([0] : List Nat).Nodup; decide) ?_ ?_ (fun t0 => ⟨0, 4398046511104, 0, t0, H, rfl⟩)
         ·exact (allB_some (by rfl) rfl (.sm _ _ (ci_pu .i64)) trivial)
         ·(simp only [AllT, ATT, reduceEqDiff, ↓reduceIte, and_true]); exact ⟨(.lst _ _ _ (ci_pu .i64) rfl), (.lst _ _ _ (ci_pu .u16) rfl), (.refl' (by first|rfl|omega|(simp;done)|(simp;omega)|(simp_all;done)) rfl), (.int' rfl), (.int' rfl), (.int' rfl), (.int' rfl)⟩
        ·rintro m_law03_Shows_L2 s ⟨from2, to2, k1, t0, H, rfl⟩
         obtain _ | m_law03_Shows_L2 := m_law03_Shows_L2
         ·cases (show (none : Option _) = some _ from H)
         ·rw [law03_Shows_L2] at H
          refine a_seq ?_
          refine a_seq ?_
          refine a_reg _ rfl (s := ?zs15) ?_ ?_
          rotate_left
          ·simp only [EVT, stepR, evOp, St.ev, St.app, St.put, wrs, evBin, binInt, TIS, CS, reduceAdd, reduceMul, reduceEqDiff, ↓reduceIte, reduceCtorEq, reduceLT, reduceLeDiff]
           (repeat' apply And.intro) <;> first|rfl|assumption|omega|(simp;done)|(simp;omega)|(simp_all;done)
          refine sA_n ?_
          refine a_condb ((decide (k1 < i1))) (by rfl) (fun zc4 => ?_) (fun zc4 => ?_)
          ·have H := cond_t zc4 H
           refine a_skip ?_
           refine sA_n ?_
           refine a_seq ?_
           refine a_blk ?_
           refine a_seq ?_
           obtain ⟨x2, zh5, H⟩ := bind_some H
           have zg2 := idx_map zh5 (ci .i64)
           try simp only [Int.reduceToNat, Int.toNat_natCast] at zg2
           obtain ⟨zh5a, zh5b, _⟩ := idx_some zh5
           obtain ⟨x3, zh6, H⟩ := bind_some H
           have zg3 := idx_map zh6 (ci .i64)
           try simp only [Int.reduceToNat, Int.toNat_natCast] at zg3
           obtain ⟨zh6a, zh6b, _⟩ := idx_some zh6
           obtain ⟨x4, zh7, H⟩ := bind_some H
           have zg4 := idx_map zh7 (ci .i64)
           try simp only [Int.reduceToNat, Int.toNat_natCast] at zg4
           obtain ⟨zh7a, zh7b, _⟩ := idx_some zh7
           obtain ⟨r2, zh8, H⟩ := bind_some H
           have zk2 := clock_Least_pc zh8
           refine a_drW (by kernel_rfl) _ rfl (s := ?zs16) (by kernel_rfl) (by kernel_rfl) ?zs16f ?_ ?_ ?_
           rotate_left 2
           ·try simp only [EVT, stepW, evOp, St.ev, St.app, St.put, wrs, evIndexAddr, evLoad, cut, evBin, binInt, frz, evBuiltin, minMax, mmStep, TIS, CS, reduceAdd, reduceMul, reduceEqDiff, ↓reduceIte, reduceCtorEq, reduceLT, reduceLeDiff, Int.reduceToNat, reduceSub, Nat.reduceBEq, ↓zc4, zg2, zg3, zg4]
            repeat' with_reducible apply And.intro
            all_goals try ((with_reducible show CallW _ _ _ _ _ _ _); refine cW_s [] zk2 (fun h2 e => (.cons (.int' rfl) .nil)) (.int _ _) ?_; simp only [EVT, stepW, evOp, St.ev, St.app, St.put, wrs, evIndexAddr, evLoad, cut, evBin, binInt, frz, evBuiltin, minMax, mmStep, TIS, CS, reduceAdd, reduceMul, reduceEqDiff, ↓reduceIte, reduceCtorEq, reduceLT, reduceLeDiff, Int.reduceToNat, reduceSub, Nat.reduceBEq, ↓zc4, zg2, zg3, zg4])
            all_goals ((repeat' apply And.intro) <;> first|rfl|assumption|omega|(simp;done)|(simp;omega)|(simp_all;done))
           ·kernel_rfl
           refine sA_n ?_
           obtain ⟨r3, zh9, H⟩ := bind_some H
           have zk3 := clock_Most_pc zh9
           refine a_drW (by kernel_rfl) _ rfl (s := ?zs17) (by kernel_rfl) (by kernel_rfl) ?zs17f ?_ ?_ ?_
           rotate_left 2
           ·try simp only [EVT, stepW, evOp, St.ev, St.app, St.put, wrs, evIndexAddr, evLoad, cut, evBin, binInt, frz, evBuiltin, minMax, mmStep, TIS, CS, reduceAdd, reduceMul, reduceEqDiff, ↓reduceIte, reduceCtorEq, reduceLT, reduceLeDiff, Int.reduceToNat, reduceSub, Nat.reduceBEq, ↓zc4, zg2, zg3, zg4]
            repeat' with_reducible apply And.intro
            all_goals try ((with_reducible show CallW _ _ _ _ _ _ _); refine cW_s [] zk3 (fun h2 e => (.cons (.int' rfl) .nil)) (.int _ _) ?_; simp only [EVT, stepW, evOp, St.ev, St.app, St.put, wrs, evIndexAddr, evLoad, cut, evBin, binInt, frz, evBuiltin, minMax, mmStep, TIS, CS, reduceAdd, reduceMul, reduceEqDiff, ↓reduceIte, reduceCtorEq, reduceLT, reduceLeDiff, Int.reduceToNat, reduceSub, Nat.reduceBEq, ↓zc4, zg2, zg3, zg4])
            all_goals ((repeat' apply And.intro) <;> first|rfl|assumption|omega|(simp;done)|(simp;omega)|(simp_all;done))
           ·kernel_rfl
           refine bA_n ?_
           refine sA_n ?_
           refine a_reg _ rfl (s := ?zs18) ?_ ?_
           rotate_left
           ·simp only [EVT, stepR, evOp, St.ev, St.app, St.put, wrs, datOf, datOf1, evBin, binInt, TIS, CS, reduceAdd, reduceMul, reduceEqDiff, ↓reduceIte, reduceCtorEq, reduceLT, reduceLeDiff, ↓zc4, zg2, zg3, zg4]
            (repeat' apply And.intro) <;> first|rfl|assumption|omega|(simp;done)|(simp;omega)|(simp_all;done)
           refine lA_n ?_
           refine wk_l [(some 0, ⟨3, 1, false, out2.map (ci .i64)⟩)] [] [(0, .list 1 (reals1.map (ci .i64))), (1, .list 1 (picks1.map (ci .u16))), (5, .ref 0 0 out2.length 1), (6, .int .i64 i1), (7, .int .i64 (if (IntKind.wrap .i64 (x2 + r2)) > from2 then (IntKind.wrap .i64 (x2 + r2)) else from2)), (8, .int .i64 (if (IntKind.wrap .i64 (x2 + r3)) < to2 then (IntKind.wrap .i64 (x2 + r3)) else to2)), (9, .int .i64 (IntKind.wrap .i64 (k1 + 1)))] (by show ([0, 1, 5, 6, 7, 8, 9] : List Nat).Nodup; decide) (by show ([0] : List Nat).Nodup; decide) ?_ ?_ (fun t0 => ⟨_, Nat.lt_succ_self _, (if (IntKind.wrap .i64 (x2 + r2)) > from2 then (IntKind.wrap .i64 (x2 + r2)) else from2), (if (IntKind.wrap .i64 (x2 + r3)) < to2 then (IntKind.wrap .i64 (x2 + r3)) else to2), (IntKind.wrap .i64 (k1 + 1)), t0, H, rfl⟩)
           ·exact (allB_some (by rfl) rfl (.sm _ _ (ci_pu .i64)) trivial)
           ·(simp only [AllT, ATT, reduceEqDiff, ↓reduceIte, and_true]); exact ⟨(.lst _ _ _ (ci_pu .i64) rfl), (.lst _ _ _ (ci_pu .u16) rfl), (.refl' (by first|rfl|omega|(simp;done)|(simp;omega)|(simp_all;done)) rfl), (.int' rfl), (.int' rfl), (.int' rfl), (.int' rfl)⟩
          ·have H := cond_f zc4 H
           refine a_exit ?_
           refine sA_e ?_
           refine lA_e ?_
           refine bA_hit ?_
           refine cA_n ?_
           refine wk_l [(some 0, ⟨3, 1, false, out2.map (ci .i64)⟩)] [] [(0, .list 1 (reals1.map (ci .i64))), (1, .list 1 (picks1.map (ci .u16))), (5, .ref 0 0 out2.length 1), (6, .int .i64 i1), (7, .int .i64 from2), (8, .int .i64 to2)] (by show ([0, 1, 5, 6, 7, 8] : List Nat).Nodup; decide) (by show ([0] : List Nat).Nodup; decide) ?_ ?_ (fun t0 => ⟨from2, to2, t0, H, rfl⟩)
           ·exact (allB_some (by rfl) rfl (.sm _ _ (ci_pu .i64)) trivial)
           ·(simp only [AllT, ATT, reduceEqDiff, ↓reduceIte, and_true]); exact ⟨(.lst _ _ _ (ci_pu .i64) rfl), (.lst _ _ _ (ci_pu .u16) rfl), (.refl' (by first|rfl|omega|(simp;done)|(simp;omega)|(simp_all;done)) rfl), (.int' rfl), (.int' rfl), (.int' rfl)⟩
       ·rintro s ⟨from1, to1, t0, H, rfl⟩
        unfold law03_Shows_J3 at H
        refine a_seq ?_
        refine a_reg _ rfl (s := ?zs10) ?_ ?_
        rotate_left
        ·simp only [EVT, stepR, evOp, St.ev, St.app, St.put, wrs, datOf, datOf1, TIS, CS, reduceAdd, reduceMul, reduceEqDiff, ↓reduceIte, reduceCtorEq, reduceLT, reduceLeDiff]
         (repeat' apply And.intro) <;> first|rfl|assumption|omega|(simp;done)|(simp;omega)|(simp_all;done)
        refine sA_n ?_
        refine a_cut (fun s => ∃ (pick1 : Int) (t0 : Nat → Dat), law03_Shows_J4 (law03_Shows_L1 reals1 picks1 m_law03_Shows_L1) from1 to1 out2 i1 pick1 = some r ∧ s = ⟨tl t0 [(0, .list 1 (reals1.map (ci .i64))), (1, .list 1 (picks1.map (ci .u16))), (5, .ref 0 0 out2.length 1), (6, .int .i64 i1), (7, .int .i64 from1), (8, .int .i64 to1), (10, .int .u64 pick1)], hl [⟨3, 1, false, out2.map (ci .i64)⟩], 1, 79⟩) ?_ ?_
        ·refine a_seq ?_
         refine a_reg _ rfl (s := ?zs12) ?_ ?_
         rotate_left
         ·simp only [EVT, stepR, evOp, St.ev, St.app, St.put, wrs, evBuiltin, evBin, binInt, TIS, CS, reduceAdd, reduceMul, reduceEqDiff, ↓reduceIte, reduceCtorEq, reduceLT, reduceLeDiff, reduceSub, Nat.reduceBEq]
          (repeat' apply And.intro) <;> first|rfl|assumption|omega|(simp;done)|(simp;omega)|(simp_all;done)
         refine sA_n ?_
         refine a_condb ((decide (i1 < (picks1.length : Int)))) (by rfl) (fun zc3 => ?_) (fun zc3 => ?_)
         ·have H := cond_t zc3 H
          obtain ⟨x1, zh4, H⟩ := bind_some H
          have zg1 := idx_map zh4 (ci .u16)
          try simp only [Int.reduceToNat, Int.toNat_natCast] at zg1
          obtain ⟨zh4a, zh4b, _⟩ := idx_some zh4
          refine a_reg _ rfl (s := ?zs13) ?_ ?_
          rotate_left
          ·simp only [EVT, stepR, evOp, St.ev, St.app, St.put, wrs, evIndexAddr, evLoad, cut, evToStr, elems, TIS, CS, reduceAdd, reduceMul, reduceEqDiff, ↓reduceIte, reduceCtorEq, reduceLT, reduceLeDiff, Int.reduceToNat, reduceSub, Nat.reduceBEq, ↓zc3, zg1]
           (repeat' apply And.intro) <;> first|rfl|assumption|omega|(simp;done)|(simp;omega)|(simp_all;done)
          refine cA_n ?_
          refine wk_l [(some 0, ⟨3, 1, false, out2.map (ci .i64)⟩)] [] [(0, .list 1 (reals1.map (ci .i64))), (1, .list 1 (picks1.map (ci .u16))), (5, .ref 0 0 out2.length 1), (6, .int .i64 i1), (7, .int .i64 from1), (8, .int .i64 to1), (10, .int .u64 (IntKind.wrap .u64 x1))] (by show ([0, 1, 5, 6, 7, 8, 10] : List Nat).Nodup; decide) (by show ([0] : List Nat).Nodup; decide) ?_ ?_ (fun t0 => ⟨(IntKind.wrap .u64 x1), t0, H, rfl⟩)
          ·exact (allB_some (by rfl) rfl (.sm _ _ (ci_pu .i64)) trivial)
          ·(simp only [AllT, ATT, reduceEqDiff, ↓reduceIte, and_true]); exact ⟨(.lst _ _ _ (ci_pu .i64) rfl), (.lst _ _ _ (ci_pu .u16) rfl), (.refl' (by first|rfl|omega|(simp;done)|(simp;omega)|(simp_all;done)) rfl), (.int' rfl), (.int' rfl), (.int' rfl), (.int' rfl)⟩
         ·have H := cond_f zc3 H
          refine a_skip ?_
          refine cA_n ?_
          refine wk_l [(some 0, ⟨3, 1, false, out2.map (ci .i64)⟩)] [] [(0, .list 1 (reals1.map (ci .i64))), (1, .list 1 (picks1.map (ci .u16))), (5, .ref 0 0 out2.length 1), (6, .int .i64 i1), (7, .int .i64 from1), (8, .int .i64 to1), (10, .int .u64 0)] (by show ([0, 1, 5, 6, 7, 8, 10] : List Nat).Nodup; decide) (by show ([0] : List Nat).Nodup; decide) ?_ ?_ (fun t0 => ⟨0, t0, H, rfl⟩)
          ·exact (allB_some (by rfl) rfl (.sm _ _ (ci_pu .i64)) trivial)
          ·(simp only [AllT, ATT, reduceEqDiff, ↓reduceIte, and_true]); exact ⟨(.lst _ _ _ (ci_pu .i64) rfl), (.lst _ _ _ (ci_pu .u16) rfl), (.refl' (by first|rfl|omega|(simp;done)|(simp;omega)|(simp_all;done)) rfl), (.int' rfl), (.int' rfl), (.int' rfl), (.int' rfl)⟩
        ·rintro s ⟨pick1, t0, H, rfl⟩
         unfold law03_Shows_J4 at H
         obtain ⟨r1, zh2, H⟩ := bind_some H
         have zk1 := law03_Between_pc zh2
         obtain ⟨zh3, H⟩ := chk_some H
         refine a_reg _ rfl (s := ?zs11) ?_ ?_
         rotate_left
         ·try simp only [EVT, stepR, evOp, St.ev, St.app, St.put, wrs, frz, allOne, evBuiltin, evAppend, isAl, elems, Option.elim, TIS, CS, reduceAdd, reduceMul, reduceEqDiff, ↓reduceIte, reduceCtorEq, reduceLT, reduceLeDiff, reduceSub, Nat.reduceBEq]
          repeat' with_reducible apply And.intro
          all_goals try ((with_reducible show CallR _ _ _ _ _ _ _); refine cR_s zk1 (.cons (.int' rfl) (.cons (.int' rfl) (.cons (.int' rfl) .nil))) (.int _ _) ?_; simp only [EVT, stepR, evOp, St.ev, St.app, St.put, wrs, frz, allOne, evBuiltin, evAppend, isAl, elems, Option.elim, TIS, CS, reduceAdd, reduceMul, reduceEqDiff, ↓reduceIte, reduceCtorEq, reduceLT, reduceLeDiff, reduceSub, Nat.reduceBEq])
          all_goals ((repeat' apply And.intro) <;> first|rfl|assumption|omega|(simp;done)|(simp;omega)|(simp_all;done))
         refine bA_n ?_
         refine cA_n ?_
         refine wk_l [(some 7, ⟨3, 1, false, (out2 ++ [r1]).map (ci .i64)⟩)] [] [(0, .list 1 (reals1.map (ci .i64))), (1, .list 1 (picks1.map (ci .u16))), (5, .ref 0 0 (out2 ++ [r1]).length 1), (6, .int .i64 i1)] (by show ([0, 1, 5, 6] : List Nat).Nodup; decide) (by show ([7] : List Nat).Nodup; decide) ?_ ?_ (fun t0 => ⟨(out2 ++ [r1]), t0, H, rfl⟩)
         ·exact (allB_some (by rfl) rfl (.sm _ _ (ci_pu .i64)) trivial)
         ·(simp only [AllT, ATT, reduceEqDiff, ↓reduceIte, and_true]); exact ⟨(.lst _ _ _ (ci_pu .i64) rfl), (.lst _ _ _ (ci_pu .u16) rfl), (.refl' (by first|rfl|omega|(simp;done)|(simp;omega)|(simp_all;done)) rfl), (.int' rfl)⟩
     ·rintro s ⟨out3, t0, H, rfl⟩
      unfold law03_Shows_J2 at H
      refine a_reg _ rfl (s := ?zs6) ?_ ?_
      rotate_left
      ·simp only [EVT, stepR, evOp, St.ev, St.app, St.put, wrs, datOf, datOf1, evBin, binInt, TIS, CS, reduceAdd, reduceMul, reduceEqDiff, ↓reduceIte, reduceCtorEq, reduceLT, reduceLeDiff]
       (repeat' apply And.intro) <;> first|rfl|assumption|omega|(simp;done)|(simp;omega)|(simp_all;done)
      refine lA_n ?_
      refine wk_l [(some 0, ⟨3, 1, false, out3.map (ci .i64)⟩)] [] [(0, .list 1 (reals1.map (ci .i64))), (1, .list 1 (picks1.map (ci .u16))), (5, .ref 0 0 out3.length 1), (6, .int .i64 (IntKind.wrap .i64 (i1 + 1)))] (by show ([0, 1, 5, 6] : List Nat).Nodup; decide) (by show ([0] : List Nat).Nodup; decide) ?_ ?_ (fun t0 => ⟨_, Nat.lt_succ_self _, out3, (IntKind.wrap .i64 (i1 + 1)), t0, H, rfl⟩)
      ·exact (allB_some (by rfl) rfl (.sm _ _ (ci_pu .i64)) trivial)
      ·(simp only [AllT, ATT, reduceEqDiff, ↓reduceIte, and_true]); exact ⟨(.lst _ _ _ (ci_pu .i64) rfl), (.lst _ _ _ (ci_pu .u16) rfl), (.refl' (by first|rfl|omega|(simp;done)|(simp;omega)|(simp_all;done)) rfl), (.int' rfl)⟩
    ·have H := cond_f zc1 H
     refine a_exit ?_
     refine sA_e ?_
     refine lA_e ?_
     refine bA_hit ?_
     refine cA_n ?_
     refine wk_l [(some 0, ⟨3, 1, false, out2.map (ci .i64)⟩)] [] [(5, .ref 0 0 out2.length 1)] (by show ([5] : List Nat).Nodup; decide) (by show ([0] : List Nat).Nodup; decide) ?_ ?_ (fun t0 => ⟨out2, t0, H, rfl⟩)
     ·exact (allB_some (by rfl) rfl (.sm _ _ (ci_pu .i64)) trivial)
     ·(simp only [AllT, ATT, reduceEqDiff, ↓reduceIte, and_true]); exact (.refl' (by first|rfl|omega|(simp;done)|(simp;omega)|(simp_all;done)) rfl)
 ·rintro s ⟨out1, t0, H, rfl⟩
  unfold law03_Shows_J1 at H
  refine a_seq ?_
  refine a_reg _ rfl (s := ?zs3) ?_ ?_
  rotate_left
  ·simp only [EVT, stepR, evOp, St.ev, St.app, St.put, wrs, TIS, CS, reduceAdd, reduceMul, reduceEqDiff, ↓reduceIte, reduceCtorEq, reduceLT, reduceLeDiff]
   (repeat' apply And.intro) <;> first|rfl|assumption|omega|(simp;done)|(simp;omega)|(simp_all;done)
  refine sA_n ?_
  refine a_ret ?_
  obtain rfl := Option.some.inj H
  refine e_r2 (d := ?zd1) ?_ ?_
  rotate_left
  ·simp only [EVT, resR, single, evLoad, cut, TIS, CS, reduceAdd, reduceEqDiff, ↓reduceIte, reduceCtorEq, reduceLT, reduceLeDiff, reduceSub, Nat.reduceBEq]
   (repeat' apply And.intro) <;> first | rfl | assumption | omega | (simp; done)
  exact (.ownL (by rfl) (fun e => by cases e) rfl (by first|rfl|omega|(simp;done)|(simp;omega)|(simp_all;done)) (.sm _ _ (ci_pu .i64)))
def clock_Right_J1 : Option Bool :=
 some (true)
def clock_Right_J2 (k_clock_Right_L1 : Int → Option Bool) (v1 : Int) : Option Bool :=
 k_clock_Right_L1 (IntKind.wrap .i64 (v1 + 1))
def clock_Right_J4 (k_clock_Right_L2 : Int → Option Bool) (v3 : Int) (v4 : Bool) : Option Bool :=
 cond v4 (some (false)) (k_clock_Right_L2 (IntKind.wrap .i64 (v3 + 1)))
def clock_Right_L2 (k_clock_Right_L1 : Int → Option Bool) (v1 : Int) (reals1 : List Int) (shown1 : List Int) (x1 : Int) : Nat → Int → Option Bool
 | 0, _ => none
 | m_ + 1, v3 => cond (decide (v3 < v1)) ((idx reals1 v3).bind fun x2 => (idx shown1 v1).bind fun x3 => (idx shown1 v3).bind fun x4 => cond (decide ((IntKind.wrap .i64 (x1 - x2)) < 0)) (clock_Right_J4 (clock_Right_L2 k_clock_Right_L1 v1 reals1 shown1 x1 m_) v3 true) ((clock_Least_f (IntKind.wrap .i64 (x1 - x2))).bind fun r1 => cond (decide ((IntKind.wrap .i64 (x3 - x4)) < r1)) (clock_Right_J4 (clock_Right_L2 k_clock_Right_L1 v1 reals1 shown1 x1 m_) v3 true) ((clock_Most_f (IntKind.wrap .i64 (x1 - x2))).bind fun r2 => clock_Right_J4 (clock_Right_L2 k_clock_Right_L1 v1 reals1 shown1 x1 m_) v3 (decide (r2 < (IntKind.wrap .i64 (x3 - x4))))))) (clock_Right_J2 k_clock_Right_L1 v1)
def clock_Right_J3 (k_clock_Right_L1 : Int → Option Bool) (v1 : Int) (reals1 : List Int) (shown1 : List Int) (x1 : Int) (v2 : Bool) : Option Bool :=
 cond v2 (some (false)) (clock_Right_L2 k_clock_Right_L1 v1 reals1 shown1 x1 BIG 0)
def clock_Right_L1 (reals1 : List Int) (shown1 : List Int) : Nat → Int → Option Bool
 | 0, _ => none
 | m_ + 1, v1 => cond (decide (v1 < (reals1.length : Int))) ((idx reals1 v1).bind fun x1 => cond (decide (x1 < 0)) (clock_Right_J3 (clock_Right_L1 reals1 shown1 m_) v1 reals1 shown1 x1 true) (cond (decide (2199023255552 < x1)) (clock_Right_J3 (clock_Right_L1 reals1 shown1 m_) v1 reals1 shown1 x1 true) ((idx shown1 v1).bind fun x5 => clock_Right_J3 (clock_Right_L1 reals1 shown1 m_) v1 reals1 shown1 x1 ((decide (x5 < 0)) || (decide (4398046511104 < x5)))))) (clock_Right_J1)
def clock_Right_f (reals1 : List Int) (shown1 : List Int) : Option Bool :=
 cond ((reals1.length : Int) != (shown1.length : Int)) (some (false)) (clock_Right_L1 reals1 shown1 BIG 0)
set_option maxHeartbeats 4000000 in
set_option maxRecDepth 20000 in
theorem clock_Right_pc {reals1 : List Int} {shown1 : List Int} {r : Bool} (H : clock_Right_f reals1 shown1 = some r) : PC Try.prog 7 [.list 1 (reals1.map (ci .i64)), .list 1 (shown1.map (ci .i64))] (.bool r) := by
 refine pcA_of Try.func7 (by rfl) (by decide) 77 (by rfl) [.tmp 4] (by rfl) ?_
 unfold clock_Right_f at H
 simp only [ent]
 refine a_seq ?_
 refine a_reg _ rfl (s := ?zs1) ?_ ?_
 rotate_left
 ·simp only [EVT, stepR, evOp, St.ev, St.app, St.put, wrs, datOf, datOf1, TIS, CS, reduceAdd, reduceMul, reduceEqDiff, ↓reduceIte, reduceCtorEq, reduceLT, reduceLeDiff]
  (repeat' apply And.intro) <;> first|rfl|assumption|omega|(simp;done)|(simp;omega)|(simp_all;done)
 refine sA_n ?_
 refine a_seq ?_
 refine a_seq ?_
 refine a_reg _ rfl (s := ?zs2) ?_ ?_
 rotate_left
 ·simp only [EVT, stepR, evOp, St.ev, St.app, St.put, wrs, evBuiltin, evBin, binInt, TIS, CS, reduceAdd, reduceMul, reduceEqDiff, ↓reduceIte, reduceCtorEq, reduceLT, reduceLeDiff, reduceSub, Nat.reduceBEq]
  (repeat' apply And.intro) <;> first|rfl|assumption|omega|(simp;done)|(simp;omega)|(simp_all;done)
 refine sA_n ?_
 refine a_condb (((reals1.length : Int) != (shown1.length : Int))) (by rfl) (fun zc1 => ?_) (fun zc1 => ?_)
 ·have H := cond_t zc1 H
  refine a_seq ?_
  refine a_reg _ rfl (s := ?zs3) ?_ ?_
  rotate_left
  ·simp only [EVT, stepR, evOp, St.ev, St.app, St.put, wrs, datOf, datOf1, TIS, CS, reduceAdd, reduceMul, reduceEqDiff, ↓reduceIte, reduceCtorEq, reduceLT, reduceLeDiff, ↓zc1]
   (repeat' apply And.intro) <;> first|rfl|assumption|omega|(simp;done)|(simp;omega)|(simp_all;done)
  refine sA_n ?_
  refine a_ret ?_
  refine sA_r ?_
  obtain rfl := Option.some.inj H
  refine e_r2 (d := ?zd1) ?_ ?_
  rotate_left
  ·simp only [EVT, resR, single, evLoad, cut, TIS, CS, reduceAdd, reduceEqDiff, ↓reduceIte, reduceCtorEq, reduceLT, reduceLeDiff, reduceSub, Nat.reduceBEq, zc1]
   (repeat' apply And.intro) <;> first | rfl | assumption | omega | (simp; done)
  exact (.bool' (by first | rfl | assumption | (simp_all; done)))
 ·have H := cond_f zc1 H
  refine a_skip ?_
  refine sA_n ?_
  refine a_cut (fun s => ∃ (t0 : Nat → Dat), clock_Right_J1 = some r ∧ s = ⟨tl t0 [], hl [], 0, 77⟩) ?_ ?_
  ·refine a_seq ?_
   refine a_reg _ rfl (s := ?zs5) ?_ ?_
   rotate_left
   ·simp only [EVT, stepR, evOp, St.ev, St.app, St.put, wrs, evBuiltin, datOf, datOf1, TIS, CS, reduceAdd, reduceMul, reduceEqDiff, ↓reduceIte, reduceCtorEq, reduceLT, reduceLeDiff, reduceSub, Nat.reduceBEq, ↓zc1]
    (repeat' apply And.intro) <;> first|rfl|assumption|omega|(simp;done)|(simp;omega)|(simp_all;done)
   refine sA_n ?_
   refine a_blk ?_
   refine a_loop (fun m s => ∃ (v1 : Int) (t0 : Nat → Dat), clock_Right_L1 reals1 shown1 m v1 = some r ∧ s = ⟨tl t0 [(0, .list 1 (reals1.map (ci .i64))), (1, .list 1 (shown1.map (ci .i64))), (15, .list 1 (reals1.map (ci .i64))), (16, .int .i64 (reals1.length : Int)), (17, .int .i64 v1)], hl [], 0, 77⟩) BIG ?_ ?_
   ·refine wk_l [] [] [(0, .list 1 (reals1.map (ci .i64))), (1, .list 1 (shown1.map (ci .i64))), (15, .list 1 (reals1.map (ci .i64))), (16, .int .i64 (reals1.length : Int)), (17, .int .i64 0)] (by show ([0, 1, 15, 16, 17] : List Nat).Nodup; decide) (by show ([] : List Nat).Nodup; decide) ?_ ?_ (fun t0 => ⟨0, t0, H, rfl⟩)
    ·exact trivial
    ·(simp only [AllT, ATT, reduceEqDiff, ↓reduceIte, and_true]); exact ⟨(.lst _ _ _ (ci_pu .i64) rfl), (.lst _ _ _ (ci_pu .i64) rfl), (.lst _ _ _ (ci_pu .i64) rfl), (.int' rfl), (.int' rfl)⟩
   ·rintro m_clock_Right_L1 s ⟨v1, t0, H, rfl⟩
    obtain _ | m_clock_Right_L1 := m_clock_Right_L1
    ·cases (show (none : Option _) = some _ from H)
    ·rw [clock_Right_L1] at H
     refine a_seq ?_
     refine a_reg _ rfl (s := ?zs6) ?_ ?_
     rotate_left
     ·simp only [EVT, stepR, evOp, St.ev, St.app, St.put, wrs, evBin, binInt, TIS, CS, reduceAdd, reduceMul, reduceEqDiff, ↓reduceIte, reduceCtorEq, reduceLT, reduceLeDiff]
      (repeat' apply And.intro) <;> first|rfl|assumption|omega|(simp;done)|(simp;omega)|(simp_all;done)
     refine sA_n ?_
     refine a_seq ?_
     refine a_condb ((decide (v1 < (reals1.length : Int)))) (by rfl) (fun zc2 => ?_) (fun zc2 => ?_)
     ·have H := cond_t zc2 H
      refine a_skip ?_
      refine sA_n ?_
      refine a_cut (fun s => ∃ (t0 : Nat → Dat), clock_Right_J2 (clock_Right_L1 reals1 shown1 m_clock_Right_L1) v1 = some r ∧ s = ⟨tl t0 [(0, .list 1 (reals1.map (ci .i64))), (1, .list 1 (shown1.map (ci .i64))), (15, .list 1 (reals1.map (ci .i64))), (16, .int .i64 (reals1.length : Int)), (17, .int .i64 v1)], hl [], 0, 77⟩) ?_ ?_
      ·refine a_blk ?_
       refine a_seq ?_
       obtain ⟨x1, zh1, H⟩ := bind_some H
       have zg1 := idx_map zh1 (ci .i64)
       try simp only [Int.reduceToNat, Int.toNat_natCast] at zg1
       obtain ⟨zh1a, zh1b, _⟩ := idx_some zh1
       refine a_reg _ rfl (s := ?zs8) ?_ ?_
       rotate_left
       ·simp only [EVT, stepR, evOp, St.ev, St.app, St.put, wrs, evIndexAddr, evLoad, cut, TIS, CS, reduceAdd, reduceMul, reduceEqDiff, ↓reduceIte, reduceCtorEq, reduceLT, reduceLeDiff, Int.reduceToNat, reduceSub, Nat.reduceBEq, ↓zc2, zg1]
        (repeat' apply And.intro) <;> first|rfl|assumption|omega|(simp;done)|(simp;omega)|(simp_all;done)
       refine sA_n ?_
       refine a_seq ?_
       refine a_cut (fun s => ∃ (v2 : Bool) (t0 : Nat → Dat), clock_Right_J3 (clock_Right_L1 reals1 shown1 m_clock_Right_L1) v1 reals1 shown1 x1 v2 = some r ∧ s = ⟨tl t0 [(0, .list 1 (reals1.map (ci .i64))), (1, .list 1 (shown1.map (ci .i64))), (5, .int .i64 v1), (6, .int .i64 x1), (15, .list 1 (reals1.map (ci .i64))), (16, .int .i64 (reals1.length : Int)), (17, .int .i64 v1), (41, .bool v2)], hl [], 0, 77⟩) ?_ ?_
       ·refine bool_split (b := (decide (x1 < 0))) (fun zc8 => ?_) (fun zc8 => ?_)
        ·have H := cond_t zc8 H
         refine a_reg _ rfl (s := ?zs19) ?_ ?_
         rotate_left
         ·simp only [EVT, stepR, evOp, St.ev, St.app, St.put, wrs, datOf, datOf1, evBin, binInt, evIndexAddr, evLoad, cut, TIS, CS, reduceAdd, reduceMul, reduceEqDiff, ↓reduceIte, reduceCtorEq, reduceLT, reduceLeDiff, Array.reduceGetElem?, Int.reduceToNat, reduceSub, Nat.reduceBEq, ↓zc2, zg1, ↓zc8]
          try simp only [EVT, stepR, evOp, St.ev, St.app, St.put, wrs, datOf, datOf1, evBin, binInt, evIndexAddr, evLoad, cut, TIS, CS, reduceAdd, reduceMul, reduceEqDiff, ↓reduceIte, reduceCtorEq, reduceLT, reduceLeDiff, Array.reduceGetElem?, Int.reduceToNat, reduceSub, Nat.reduceBEq, ↓zc2, zg1, ↓zc8]
          (repeat' apply And.intro) <;> first|rfl|assumption|omega|(simp;done)|(simp;omega)|(simp_all;done)
         refine cA_n ?_
         refine wk_l [] [] [(0, .list 1 (reals1.map (ci .i64))), (1, .list 1 (shown1.map (ci .i64))), (5, .int .i64 v1), (6, .int .i64 x1), (15, .list 1 (reals1.map (ci .i64))), (16, .int .i64 (reals1.length : Int)), (17, .int .i64 v1), (41, .bool true)] (by show ([0, 1, 5, 6, 15, 16, 17, 41] : List Nat).Nodup; decide) (by show ([] : List Nat).Nodup; decide) ?_ ?_ (fun t0 => ⟨true, t0, H, rfl⟩)
         ·exact trivial
         ·(simp only [AllT, ATT, reduceEqDiff, ↓reduceIte, and_true]); exact ⟨(.lst _ _ _ (ci_pu .i64) rfl), (.lst _ _ _ (ci_pu .i64) rfl), (.int' rfl), (.int' rfl), (.lst _ _ _ (ci_pu .i64) rfl), (.int' rfl), (.int' rfl), (.bool' (by first | rfl | assumption | (simp_all; done)))⟩
        ·have H := cond_f zc8 H
         refine bool_split (b := (decide (2199023255552 < x1))) (fun zc9 => ?_) (fun zc9 => ?_)
         ·have H := cond_t zc9 H
          refine a_reg _ rfl (s := ?zs20) ?_ ?_
          rotate_left
          ·simp only [EVT, stepR, evOp, St.ev, St.app, St.put, wrs, datOf, datOf1, evBin, binInt, evIndexAddr, evLoad, cut, TIS, CS, reduceAdd, reduceMul, reduceEqDiff, ↓reduceIte, reduceCtorEq, reduceLT, reduceLeDiff, Array.reduceGetElem?, Int.reduceToNat, reduceSub, Nat.reduceBEq, ↓zc2, zg1, ↓zc8, ↓zc9]
           try simp only [EVT, stepR, evOp, St.ev, St.app, St.put, wrs, datOf, datOf1, evBin, binInt, evIndexAddr, evLoad, cut, TIS, CS, reduceAdd, reduceMul, reduceEqDiff, ↓reduceIte, reduceCtorEq, reduceLT, reduceLeDiff, Array.reduceGetElem?, Int.reduceToNat, reduceSub, Nat.reduceBEq, ↓zc2, zg1, ↓zc8, ↓zc9]
           (repeat' apply And.intro) <;> first|rfl|assumption|omega|(simp;done)|(simp;omega)|(simp_all;done)
          refine cA_n ?_
          refine wk_l [] [] [(0, .list 1 (reals1.map (ci .i64))), (1, .list 1 (shown1.map (ci .i64))), (5, .int .i64 v1), (6, .int .i64 x1), (15, .list 1 (reals1.map (ci .i64))), (16, .int .i64 (reals1.length : Int)), (17, .int .i64 v1), (41, .bool true)] (by show ([0, 1, 5, 6, 15, 16, 17, 41] : List Nat).Nodup; decide) (by show ([] : List Nat).Nodup; decide) ?_ ?_ (fun t0 => ⟨true, t0, H, rfl⟩)
          ·exact trivial
          ·(simp only [AllT, ATT, reduceEqDiff, ↓reduceIte, and_true]); exact ⟨(.lst _ _ _ (ci_pu .i64) rfl), (.lst _ _ _ (ci_pu .i64) rfl), (.int' rfl), (.int' rfl), (.lst _ _ _ (ci_pu .i64) rfl), (.int' rfl), (.int' rfl), (.bool' (by first | rfl | assumption | (simp_all; done)))⟩
         ·have H := cond_f zc9 H
          obtain ⟨x5, zh7, H⟩ := bind_some H
          have zg5 := idx_map zh7 (ci .i64)
          try simp only [Int.reduceToNat, Int.toNat_natCast] at zg5
          obtain ⟨zh7a, zh7b, _⟩ := idx_some zh7
          refine bool_split (b := (decide (x5 < 0))) (fun zc10 => ?_) (fun zc10 => ?_)
          ·rw [zc10] at H
           refine a_reg _ rfl (s := ?zs21) ?_ ?_
           rotate_left
           ·simp only [EVT, stepR, evOp, St.ev, St.app, St.put, wrs, datOf, datOf1, evBin, binInt, evIndexAddr, evLoad, cut, TIS, CS, reduceAdd, reduceMul, reduceEqDiff, ↓reduceIte, reduceCtorEq, reduceLT, reduceLeDiff, Array.reduceGetElem?, Int.reduceToNat, reduceSub, Nat.reduceBEq, ↓zc2, zg1, ↓zc8, ↓zc9, zg5, ↓zc10]
            try simp only [EVT, stepR, evOp, St.ev, St.app, St.put, wrs, datOf, datOf1, evBin, binInt, evIndexAddr, evLoad, cut, TIS, CS, reduceAdd, reduceMul, reduceEqDiff, ↓reduceIte, reduceCtorEq, reduceLT, reduceLeDiff, Array.reduceGetElem?, Int.reduceToNat, reduceSub, Nat.reduceBEq, ↓zc2, zg1, ↓zc8, ↓zc9, zg5, ↓zc10]
            (repeat' apply And.intro) <;> first|rfl|assumption|omega|(simp;done)|(simp;omega)|(simp_all;done)
           refine cA_n ?_
           refine wk_l [] [] [(0, .list 1 (reals1.map (ci .i64))), (1, .list 1 (shown1.map (ci .i64))), (5, .int .i64 v1), (6, .int .i64 x1), (15, .list 1 (reals1.map (ci .i64))), (16, .int .i64 (reals1.length : Int)), (17, .int .i64 v1), (41, .bool true)] (by show ([0, 1, 5, 6, 15, 16, 17, 41] : List Nat).Nodup; decide) (by show ([] : List Nat).Nodup; decide) ?_ ?_ (fun t0 => ⟨true, t0, H, rfl⟩)
           ·exact trivial
           ·(simp only [AllT, ATT, reduceEqDiff, ↓reduceIte, and_true]); exact ⟨(.lst _ _ _ (ci_pu .i64) rfl), (.lst _ _ _ (ci_pu .i64) rfl), (.int' rfl), (.int' rfl), (.lst _ _ _ (ci_pu .i64) rfl), (.int' rfl), (.int' rfl), (.bool' (by first | rfl | assumption | (simp_all; done)))⟩
          ·rw [zc10] at H
           refine a_reg _ rfl (s := ?zs22) ?_ ?_
           rotate_left
           ·simp only [EVT, stepR, evOp, St.ev, St.app, St.put, wrs, datOf, datOf1, evBin, binInt, evIndexAddr, evLoad, cut, TIS, CS, reduceAdd, reduceMul, reduceEqDiff, ↓reduceIte, reduceCtorEq, reduceLT, reduceLeDiff, Array.reduceGetElem?, Int.reduceToNat, reduceSub, Nat.reduceBEq, ↓zc2, zg1, ↓zc8, ↓zc9, zg5, ↓zc10]
            try simp only [EVT, stepR, evOp, St.ev, St.app, St.put, wrs, datOf, datOf1, evBin, binInt, evIndexAddr, evLoad, cut, TIS, CS, reduceAdd, reduceMul, reduceEqDiff, ↓reduceIte, reduceCtorEq, reduceLT, reduceLeDiff, Array.reduceGetElem?, Int.reduceToNat, reduceSub, Nat.reduceBEq, ↓zc2, zg1, ↓zc8, ↓zc9, zg5, ↓zc10]
            (repeat' apply And.intro) <;> first|rfl|assumption|omega|(simp;done)|(simp;omega)|(simp_all;done)
           refine cA_n ?_
           refine wk_l [] [] [(0, .list 1 (reals1.map (ci .i64))), (1, .list 1 (shown1.map (ci .i64))), (5, .int .i64 v1), (6, .int .i64 x1), (15, .list 1 (reals1.map (ci .i64))), (16, .int .i64 (reals1.length : Int)), (17, .int .i64 v1), (41, .bool (decide (4398046511104 < x5)))] (by show ([0, 1, 5, 6, 15, 16, 17, 41] : List Nat).Nodup; decide) (by show ([] : List Nat).Nodup; decide) ?_ ?_ (fun t0 => ⟨(decide (4398046511104 < x5)), t0, H, rfl⟩)
           ·exact trivial
           ·(simp only [AllT, ATT, reduceEqDiff, ↓reduceIte, and_true]); exact ⟨(.lst _ _ _ (ci_pu .i64) rfl), (.lst _ _ _ (ci_pu .i64) rfl), (.int' rfl), (.int' rfl), (.lst _ _ _ (ci_pu .i64) rfl), (.int' rfl), (.int' rfl), (.bool' rfl)⟩
       ·rintro s ⟨v2, t0, H, rfl⟩
        unfold clock_Right_J3 at H
        refine a_condb (v2) (by rfl) (fun zc3 => ?_) (fun zc3 => ?_)
        ·have H := cond_t zc3 H
         refine a_seq ?_
         refine a_reg _ rfl (s := ?zs9) ?_ ?_
         rotate_left
         ·simp only [EVT, stepR, evOp, St.ev, St.app, St.put, wrs, datOf, datOf1, TIS, CS, reduceAdd, reduceMul, reduceEqDiff, ↓reduceIte, reduceCtorEq, reduceLT, reduceLeDiff, ↓zc3]
          (repeat' apply And.intro) <;> first|rfl|assumption|omega|(simp;done)|(simp;omega)|(simp_all;done)
         refine sA_n ?_
         refine a_ret ?_
         refine sA_r ?_
         refine bA_r ?_
         refine cA_r ?_
         refine lA_r ?_
         refine bA_r ?_
         refine cA_r ?_
         obtain rfl := Option.some.inj H
         refine e_r2 (d := ?zd3) ?_ ?_
         rotate_left
         ·simp only [EVT, resR, single, evLoad, cut, TIS, CS, reduceAdd, reduceEqDiff, ↓reduceIte, reduceCtorEq, reduceLT, reduceLeDiff, reduceSub, Nat.reduceBEq, zc3]
          (repeat' apply And.intro) <;> first | rfl | assumption | omega | (simp; done)
         exact (.bool' (by first | rfl | assumption | (simp_all; done)))
        ·have H := cond_f zc3 H
         refine a_skip ?_
         refine sA_n ?_
         refine a_seq ?_
         refine a_reg _ rfl (s := ?zs10) ?_ ?_
         rotate_left
         ·simp only [EVT, stepR, evOp, St.ev, St.app, St.put, wrs, datOf, datOf1, TIS, CS, reduceAdd, reduceMul, reduceEqDiff, ↓reduceIte, reduceCtorEq, reduceLT, reduceLeDiff, ↓zc3]
          (repeat' apply And.intro) <;> first|rfl|assumption|omega|(simp;done)|(simp;omega)|(simp_all;done)
         refine sA_n ?_
         refine a_blk ?_
         refine a_loop (fun m s => ∃ (v3 : Int) (t0 : Nat → Dat), clock_Right_L2 (clock_Right_L1 reals1 shown1 m_clock_Right_L1) v1 reals1 shown1 x1 m v3 = some r ∧ s = ⟨tl t0 [(0, .list 1 (reals1.map (ci .i64))), (1, .list 1 (shown1.map (ci .i64))), (5, .int .i64 v1), (6, .int .i64 x1), (15, .list 1 (reals1.map (ci .i64))), (16, .int .i64 (reals1.length : Int)), (17, .int .i64 v1), (42, .int .i64 v1), (43, .int .i64 v3)], hl [], 0, 77⟩) BIG ?_ ?_
         ·refine wk_l [] [] [(0, .list 1 (reals1.map (ci .i64))), (1, .list 1 (shown1.map (ci .i64))), (5, .int .i64 v1), (6, .int .i64 x1), (15, .list 1 (reals1.map (ci .i64))), (16, .int .i64 (reals1.length : Int)), (17, .int .i64 v1), (42, .int .i64 v1), (43, .int .i64 0)] (by show ([0, 1, 5, 6, 15, 16, 17, 42, 43] : List Nat).Nodup; decide) (by show ([] : List Nat).Nodup; decide) ?_ ?_ (fun t0 => ⟨0, t0, H, rfl⟩)
          ·exact trivial
          ·(simp only [AllT, ATT, reduceEqDiff, ↓reduceIte, and_true]); exact ⟨(.lst _ _ _ (ci_pu .i64) rfl), (.lst _ _ _ (ci_pu .i64) rfl), (.int' rfl), (.int' rfl), (.lst _ _ _ (ci_pu .i64) rfl), (.int' rfl), (.int' rfl), (.int' rfl), (.int' rfl)⟩
         ·rintro m_clock_Right_L2 s ⟨v3, t0, H, rfl⟩
          obtain _ | m_clock_Right_L2 := m_clock_Right_L2
          ·cases (show (none : Option _) = some _ from H)
          ·rw [clock_Right_L2] at H
           refine a_seq ?_
           refine a_reg _ rfl (s := ?zs11) ?_ ?_
           rotate_left
           ·simp only [EVT, stepR, evOp, St.ev, St.app, St.put, wrs, evBin, binInt, TIS, CS, reduceAdd, reduceMul, reduceEqDiff, ↓reduceIte, reduceCtorEq, reduceLT, reduceLeDiff]
            (repeat' apply And.intro) <;> first|rfl|assumption|omega|(simp;done)|(simp;omega)|(simp_all;done)
           refine sA_n ?_
           refine a_seq ?_
           refine a_condb ((decide (v3 < v1))) (by rfl) (fun zc4 => ?_) (fun zc4 => ?_)
           ·have H := cond_t zc4 H
            refine a_skip ?_
            refine sA_n ?_
            refine a_seq ?_
            refine a_blk ?_
            refine a_seq ?_
            refine a_reg _ rfl (s := ?zs12) ?_ ?_
            rotate_left
            ·simp only [EVT, stepR, evOp, St.ev, St.app, St.put, wrs, TIS, CS, reduceAdd, reduceMul, reduceEqDiff, ↓reduceIte, reduceCtorEq, reduceLT, reduceLeDiff, ↓zc4]
             (repeat' apply And.intro) <;> first|rfl|assumption|omega|(simp;done)|(simp;omega)|(simp_all;done)
            refine sA_n ?_
            refine a_seq ?_
            obtain ⟨x2, zh2, H⟩ := bind_some H
            have zg2 := idx_map zh2 (ci .i64)
            try simp only [Int.reduceToNat, Int.toNat_natCast] at zg2
            obtain ⟨zh2a, zh2b, _⟩ := idx_some zh2
            obtain ⟨x3, zh3, H⟩ := bind_some H
            have zg3 := idx_map zh3 (ci .i64)
            try simp only [Int.reduceToNat, Int.toNat_natCast] at zg3
            obtain ⟨zh3a, zh3b, _⟩ := idx_some zh3
            obtain ⟨x4, zh4, H⟩ := bind_some H
            have zg4 := idx_map zh4 (ci .i64)
            try simp only [Int.reduceToNat, Int.toNat_natCast] at zg4
            obtain ⟨zh4a, zh4b, _⟩ := idx_some zh4
            refine a_drW (by kernel_rfl) _ rfl (s := ?zs13) (by kernel_rfl) (by kernel_rfl) ?zs13f ?_ ?_ ?_
            rotate_left 2
            ·simp only [EVT, stepW, evOp, St.ev, St.app, St.put, wrs, evIndexAddr, evLoad, cut, evBin, binInt, TIS, CS, reduceAdd, reduceMul, reduceEqDiff, ↓reduceIte, reduceCtorEq, reduceLT, reduceLeDiff, Int.reduceToNat, reduceSub, Nat.reduceBEq, ↓zc4, zg2, zg3, zg4]
             (repeat' apply And.intro) <;> first|rfl|assumption|omega|(simp;done)|(simp;omega)|(simp_all;done)
            ·kernel_rfl
            refine sA_n ?_
            refine a_cut (fun s => ∃ (v4 : Bool) (t0 : Nat → Dat), clock_Right_J4 (clock_Right_L2 (clock_Right_L1 reals1 shown1 m_clock_Right_L1) v1 reals1 shown1 x1 m_clock_Right_L2) v3 v4 = some r ∧ s = ⟨tl t0 [(0, .list 1 (reals1.map (ci .i64))), (1, .list 1 (shown1.map (ci .i64))), (5, .int .i64 v1), (6, .int .i64 x1), (15, .list 1 (reals1.map (ci .i64))), (16, .int .i64 (reals1.length : Int)), (17, .int .i64 v1), (42, .int .i64 v1), (43, .int .i64 v3), (74, .bool v4)], hl [], 0, 77⟩) ?_ ?_
            ·refine bool_split (b := (decide ((IntKind.wrap .i64 (x1 - x2)) < 0))) (fun zc6 => ?_) (fun zc6 => ?_)
             ·have H := cond_t zc6 H
              refine a_reg _ rfl (s := ?zs16) ?_ ?_
              rotate_left
              ·simp only [EVT, stepR, evOp, St.ev, St.app, St.put, wrs, datOf, datOf1, evBin, binInt, frz, TIS, CS, reduceAdd, reduceMul, reduceEqDiff, ↓reduceIte, reduceCtorEq, reduceLT, reduceLeDiff, Array.reduceGetElem?, reduceSub, Nat.reduceBEq, ↓zc4, zg2, zg3, zg4, ↓zc6]
               try simp only [EVT, stepR, evOp, St.ev, St.app, St.put, wrs, datOf, datOf1, evBin, binInt, frz, TIS, CS, reduceAdd, reduceMul, reduceEqDiff, ↓reduceIte, reduceCtorEq, reduceLT, reduceLeDiff, Array.reduceGetElem?, reduceSub, Nat.reduceBEq, ↓zc4, zg2, zg3, zg4, ↓zc6]
               (repeat' apply And.intro) <;> first|rfl|assumption|omega|(simp;done)|(simp;omega)|(simp_all;done)
              refine cA_n ?_
              refine wk_l [] [] [(0, .list 1 (reals1.map (ci .i64))), (1, .list 1 (shown1.map (ci .i64))), (5, .int .i64 v1), (6, .int .i64 x1), (15, .list 1 (reals1.map (ci .i64))), (16, .int .i64 (reals1.length : Int)), (17, .int .i64 v1), (42, .int .i64 v1), (43, .int .i64 v3), (74, .bool true)] (by show ([0, 1, 5, 6, 15, 16, 17, 42, 43, 74] : List Nat).Nodup; decide) (by show ([] : List Nat).Nodup; decide) ?_ ?_ (fun t0 => ⟨true, t0, H, rfl⟩)
              ·exact trivial
              ·(simp only [AllT, ATT, reduceEqDiff, ↓reduceIte, and_true]); exact ⟨(.lst _ _ _ (ci_pu .i64) rfl), (.lst _ _ _ (ci_pu .i64) rfl), (.int' rfl), (.int' rfl), (.lst _ _ _ (ci_pu .i64) rfl), (.int' rfl), (.int' rfl), (.int' rfl), (.int' rfl), (.bool' (by first | rfl | assumption | (simp_all; done)))⟩
             ·have H := cond_f zc6 H
              obtain ⟨r1, zh5, H⟩ := bind_some H
              have zk1 := clock_Least_pc zh5
              refine bool_split (b := (decide ((IntKind.wrap .i64 (x3 - x4)) < r1))) (fun zc7 => ?_) (fun zc7 => ?_)
              ·have H := cond_t zc7 H
               refine a_reg _ rfl (s := ?zs17) ?_ ?_
               rotate_left
               ·try simp only [EVT, stepR, evOp, St.ev, St.app, St.put, wrs, datOf, datOf1, evBin, binInt, frz, TIS, CS, reduceAdd, reduceMul, reduceEqDiff, ↓reduceIte, reduceCtorEq, reduceLT, reduceLeDiff, Array.reduceGetElem?, reduceSub, Nat.reduceBEq, ↓zc4, zg2, zg3, zg4, ↓zc6, ↓zc7]
                repeat' with_reducible apply And.intro
                all_goals try ((with_reducible show CallR _ _ _ _ _ _ _); refine cR_s zk1 (.cons (.int' rfl) .nil) (.int _ _) ?_; simp only [EVT, stepR, evOp, St.ev, St.app, St.put, wrs, datOf, datOf1, evBin, binInt, frz, TIS, CS, reduceAdd, reduceMul, reduceEqDiff, ↓reduceIte, reduceCtorEq, reduceLT, reduceLeDiff, Array.reduceGetElem?, reduceSub, Nat.reduceBEq, ↓zc4, zg2, zg3, zg4, ↓zc6, ↓zc7])
                all_goals ((repeat' apply And.intro) <;> first|rfl|assumption|omega|(simp;done)|(simp;omega)|(simp_all;done))
               refine cA_n ?_
               refine wk_l [] [] [(0, .list 1 (reals1.map (ci .i64))), (1, .list 1 (shown1.map (ci .i64))), (5, .int .i64 v1), (6, .int .i64 x1), (15, .list 1 (reals1.map (ci .i64))), (16, .int .i64 (reals1.length : Int)), (17, .int .i64 v1), (42, .int .i64 v1), (43, .int .i64 v3), (74, .bool true)] (by show ([0, 1, 5, 6, 15, 16, 17, 42, 43, 74] : List Nat).Nodup; decide) (by show ([] : List Nat).Nodup; decide) ?_ ?_ (fun t0 => ⟨true, t0, H, rfl⟩)
               ·exact trivial
               ·(simp only [AllT, ATT, reduceEqDiff, ↓reduceIte, and_true]); exact ⟨(.lst _ _ _ (ci_pu .i64) rfl), (.lst _ _ _ (ci_pu .i64) rfl), (.int' rfl), (.int' rfl), (.lst _ _ _ (ci_pu .i64) rfl), (.int' rfl), (.int' rfl), (.int' rfl), (.int' rfl), (.bool' (by first | rfl | assumption | (simp_all; done)))⟩
              ·have H := cond_f zc7 H
               obtain ⟨r2, zh6, H⟩ := bind_some H
               have zk2 := clock_Most_pc zh6
               refine a_reg _ rfl (s := ?zs18) ?_ ?_
               rotate_left
               ·try simp only [EVT, stepR, evOp, St.ev, St.app, St.put, wrs, datOf, datOf1, evBin, binInt, frz, TIS, CS, reduceAdd, reduceMul, reduceEqDiff, ↓reduceIte, reduceCtorEq, reduceLT, reduceLeDiff, Array.reduceGetElem?, reduceSub, Nat.reduceBEq, ↓zc4, zg2, zg3, zg4, ↓zc6, ↓zc7]
                repeat' with_reducible apply And.intro
                all_goals try ((with_reducible show CallR _ _ _ _ _ _ _); refine cR_s zk1 (.cons (.int' rfl) .nil) (.int _ _) ?_; simp only [EVT, stepR, evOp, St.ev, St.app, St.put, wrs, datOf, datOf1, evBin, binInt, frz, TIS, CS, reduceAdd, reduceMul, reduceEqDiff, ↓reduceIte, reduceCtorEq, reduceLT, reduceLeDiff, Array.reduceGetElem?, reduceSub, Nat.reduceBEq, ↓zc4, zg2, zg3, zg4, ↓zc6, ↓zc7])
                repeat' with_reducible apply And.intro
                all_goals try ((with_reducible show CallR _ _ _ _ _ _ _); refine cR_s zk2 (.cons (.int' rfl) .nil) (.int _ _) ?_; simp only [EVT, stepR, evOp, St.ev, St.app, St.put, wrs, datOf, datOf1, evBin, binInt, frz, TIS, CS, reduceAdd, reduceMul, reduceEqDiff, ↓reduceIte, reduceCtorEq, reduceLT, reduceLeDiff, Array.reduceGetElem?, reduceSub, Nat.reduceBEq, ↓zc4, zg2, zg3, zg4, ↓zc6, ↓zc7])
                all_goals ((repeat' apply And.intro) <;> first|rfl|assumption|omega|(simp;done)|(simp;omega)|(simp_all;done))
               refine cA_n ?_
               refine wk_l [] [] [(0, .list 1 (reals1.map (ci .i64))), (1, .list 1 (shown1.map (ci .i64))), (5, .int .i64 v1), (6, .int .i64 x1), (15, .list 1 (reals1.map (ci .i64))), (16, .int .i64 (reals1.length : Int)), (17, .int .i64 v1), (42, .int .i64 v1), (43, .int .i64 v3), (74, .bool (decide (r2 < (IntKind.wrap .i64 (x3 - x4)))))] (by show ([0, 1, 5, 6, 15, 16, 17, 42, 43, 74] : List Nat).Nodup; decide) (by show ([] : List Nat).Nodup; decide) ?_ ?_ (fun t0 => ⟨(decide (r2 < (IntKind.wrap .i64 (x3 - x4)))), t0, H, rfl⟩)
               ·exact trivial
               ·(simp only [AllT, ATT, reduceEqDiff, ↓reduceIte, and_true]); exact ⟨(.lst _ _ _ (ci_pu .i64) rfl), (.lst _ _ _ (ci_pu .i64) rfl), (.int' rfl), (.int' rfl), (.lst _ _ _ (ci_pu .i64) rfl), (.int' rfl), (.int' rfl), (.int' rfl), (.int' rfl), (.bool' rfl)⟩
            ·rintro s ⟨v4, t0, H, rfl⟩
             unfold clock_Right_J4 at H
             refine a_condb (v4) (by rfl) (fun zc5 => ?_) (fun zc5 => ?_)
             ·have H := cond_t zc5 H
              refine a_seq ?_
              refine a_reg _ rfl (s := ?zs14) ?_ ?_
              rotate_left
              ·simp only [EVT, stepR, evOp, St.ev, St.app, St.put, wrs, datOf, datOf1, TIS, CS, reduceAdd, reduceMul, reduceEqDiff, ↓reduceIte, reduceCtorEq, reduceLT, reduceLeDiff, ↓zc5]
               (repeat' apply And.intro) <;> first|rfl|assumption|omega|(simp;done)|(simp;omega)|(simp_all;done)
              refine sA_n ?_
              refine a_ret ?_
              refine bA_r ?_
              refine sA_r ?_
              refine lA_r ?_
              refine bA_r ?_
              refine bA_r ?_
              refine cA_r ?_
              refine lA_r ?_
              refine bA_r ?_
              refine cA_r ?_
              obtain rfl := Option.some.inj H
              refine e_r2 (d := ?zd4) ?_ ?_
              rotate_left
              ·simp only [EVT, resR, single, evLoad, cut, TIS, CS, reduceAdd, reduceEqDiff, ↓reduceIte, reduceCtorEq, reduceLT, reduceLeDiff, reduceSub, Nat.reduceBEq, zc5]
               (repeat' apply And.intro) <;> first | rfl | assumption | omega | (simp; done)
              exact (.bool' (by first | rfl | assumption | (simp_all; done)))
             ·have H := cond_f zc5 H
              refine a_skip ?_
              refine bA_n ?_
              refine sA_n ?_
              refine a_reg _ rfl (s := ?zs15) ?_ ?_
              rotate_left
              ·simp only [EVT, stepR, evOp, St.ev, St.app, St.put, wrs, datOf, datOf1, evBin, binInt, TIS, CS, reduceAdd, reduceMul, reduceEqDiff, ↓reduceIte, reduceCtorEq, reduceLT, reduceLeDiff, ↓zc5]
               (repeat' apply And.intro) <;> first|rfl|assumption|omega|(simp;done)|(simp;omega)|(simp_all;done)
              refine lA_n ?_
              refine wk_l [] [] [(0, .list 1 (reals1.map (ci .i64))), (1, .list 1 (shown1.map (ci .i64))), (5, .int .i64 v1), (6, .int .i64 x1), (15, .list 1 (reals1.map (ci .i64))), (16, .int .i64 (reals1.length : Int)), (17, .int .i64 v1), (42, .int .i64 v1), (43, .int .i64 (IntKind.wrap .i64 (v3 + 1)))] (by show ([0, 1, 5, 6, 15, 16, 17, 42, 43] : List Nat).Nodup; decide) (by show ([] : List Nat).Nodup; decide) ?_ ?_ (fun t0 => ⟨_, Nat.lt_succ_self _, (IntKind.wrap .i64 (v3 + 1)), t0, H, rfl⟩)
              ·exact trivial
              ·(simp only [AllT, ATT, reduceEqDiff, ↓reduceIte, and_true]); exact ⟨(.lst _ _ _ (ci_pu .i64) rfl), (.lst _ _ _ (ci_pu .i64) rfl), (.int' rfl), (.int' rfl), (.lst _ _ _ (ci_pu .i64) rfl), (.int' rfl), (.int' rfl), (.int' rfl), (.int' rfl)⟩
           ·have H := cond_f zc4 H
            refine a_exit ?_
            refine sA_e ?_
            refine lA_e ?_
            refine bA_hit ?_
            refine bA_n ?_
            refine cA_n ?_
            refine wk_l [] [] [(0, .list 1 (reals1.map (ci .i64))), (1, .list 1 (shown1.map (ci .i64))), (15, .list 1 (reals1.map (ci .i64))), (16, .int .i64 (reals1.length : Int)), (17, .int .i64 v1)] (by show ([0, 1, 15, 16, 17] : List Nat).Nodup; decide) (by show ([] : List Nat).Nodup; decide) ?_ ?_ (fun t0 => ⟨t0, H, rfl⟩)
            ·exact trivial
            ·(simp only [AllT, ATT, reduceEqDiff, ↓reduceIte, and_true]); exact ⟨(.lst _ _ _ (ci_pu .i64) rfl), (.lst _ _ _ (ci_pu .i64) rfl), (.lst _ _ _ (ci_pu .i64) rfl), (.int' rfl), (.int' rfl)⟩
      ·rintro s ⟨t0, H, rfl⟩
       unfold clock_Right_J2 at H
       refine a_reg _ rfl (s := ?zs7) ?_ ?_
       rotate_left
       ·simp only [EVT, stepR, evOp, St.ev, St.app, St.put, wrs, datOf, datOf1, evBin, binInt, TIS, CS, reduceAdd, reduceMul, reduceEqDiff, ↓reduceIte, reduceCtorEq, reduceLT, reduceLeDiff]
        (repeat' apply And.intro) <;> first|rfl|assumption|omega|(simp;done)|(simp;omega)|(simp_all;done)
       refine lA_n ?_
       refine wk_l [] [] [(0, .list 1 (reals1.map (ci .i64))), (1, .list 1 (shown1.map (ci .i64))), (15, .list 1 (reals1.map (ci .i64))), (16, .int .i64 (reals1.length : Int)), (17, .int .i64 (IntKind.wrap .i64 (v1 + 1)))] (by show ([0, 1, 15, 16, 17] : List Nat).Nodup; decide) (by show ([] : List Nat).Nodup; decide) ?_ ?_ (fun t0 => ⟨_, Nat.lt_succ_self _, (IntKind.wrap .i64 (v1 + 1)), t0, H, rfl⟩)
       ·exact trivial
       ·(simp only [AllT, ATT, reduceEqDiff, ↓reduceIte, and_true]); exact ⟨(.lst _ _ _ (ci_pu .i64) rfl), (.lst _ _ _ (ci_pu .i64) rfl), (.lst _ _ _ (ci_pu .i64) rfl), (.int' rfl), (.int' rfl)⟩
     ·have H := cond_f zc2 H
      refine a_exit ?_
      refine sA_e ?_
      refine lA_e ?_
      refine bA_hit ?_
      refine cA_n ?_
      refine wk_l [] [] [] (by show ([] : List Nat).Nodup; decide) (by show ([] : List Nat).Nodup; decide) ?_ ?_ (fun t0 => ⟨t0, H, rfl⟩)
      ·exact trivial
      ·exact trivial
  ·rintro s ⟨t0, H, rfl⟩
   unfold clock_Right_J1 at H
   refine a_seq ?_
   refine a_reg _ rfl (s := ?zs4) ?_ ?_
   rotate_left
   ·simp only [EVT, stepR, evOp, St.ev, St.app, St.put, wrs, datOf, datOf1, TIS, CS, reduceAdd, reduceMul, reduceEqDiff, ↓reduceIte, reduceCtorEq, reduceLT, reduceLeDiff]
    (repeat' apply And.intro) <;> first|rfl|assumption|omega|(simp;done)|(simp;omega)|(simp_all;done)
   refine sA_n ?_
   refine a_ret ?_
   obtain rfl := Option.some.inj H
   refine e_r2 (d := ?zd2) ?_ ?_
   rotate_left
   ·simp only [EVT, resR, single, evLoad, cut, TIS, CS, reduceAdd, reduceEqDiff, ↓reduceIte, reduceCtorEq, reduceLT, reduceLeDiff, reduceSub, Nat.reduceBEq]
    (repeat' apply And.intro) <;> first | rfl | assumption | omega | (simp; done)
   exact (.bool' (by first | rfl | assumption | (simp_all; done)))
def slices_Clone_f (s1 : List Int) : Option (List Int) :=
 nilq s1 (some ([])) (chk ((s1.length) * 1 ≤ 140737488355328) (some ((([] : List Int) ++ s1))))
set_option maxHeartbeats 4000000 in
set_option maxRecDepth 20000 in
theorem slices_Clone_pc {s1 : List Int} {r : (List Int)} (H : slices_Clone_f s1 = some r) : PC Try.prog 28 [.list 1 (s1.map (ci .u8))] (.list 1 (r.map (ci .u8))) := by
 refine pcA_of Try.func28 (by rfl) (by decide) 8 (by rfl) [.tmp 2] (by rfl) ?_
 unfold slices_Clone_f at H
 simp only [ent]
 refine a_seq ?_
 refine a_reg _ rfl (s := ?zs1) ?_ ?_
 rotate_left
 ·simp only [EVT, stepR, evOp, St.ev, St.app, St.put, wrs, datOf, datOf1, TIS, CS, reduceAdd, reduceMul, reduceEqDiff, ↓reduceIte, reduceCtorEq, reduceLT, reduceLeDiff]
  (repeat' apply And.intro) <;> first|rfl|assumption|omega|(simp;done)|(simp;omega)|(simp_all;done)
 refine sA_n ?_
 refine a_seq ?_
 refine a_seq ?_
 obtain ⟨zh1a, zh1b⟩ := nilq_some H
 refine a_reg2 _ rfl (s1 = []) (s1 := ?zs2a) (s2 := ?zs2b) ?_ ?_ ?_
 rotate_left 2
 ·simp only [EVT, stepR, evOp, St.ev, St.app, St.put, wrs, datOf, datOf1, evBin, binInt, TIS, CS, reduceAdd, reduceMul, reduceEqDiff, ↓reduceIte, reduceCtorEq, reduceLT, reduceLeDiff]
  refine nilq_list rfl Try.underlying36 rfl ?_ ?_
  ·intro zb
   simp only [St.put, reduceLT, reduceLeDiff, ↓reduceIte]
   try simp only [EVT, stepR, evOp, St.ev, St.app, St.put, wrs, datOf, datOf1, evBin, binInt, TIS, CS, reduceAdd, reduceMul, reduceEqDiff, ↓reduceIte, reduceCtorEq, reduceLT, reduceLeDiff]
   refine .inl ⟨by simpa using zb, ?_⟩
   rfl
  ·simp only [St.put, reduceLT, reduceLeDiff, ↓reduceIte]
   try simp only [EVT, stepR, evOp, St.ev, St.app, St.put, wrs, datOf, datOf1, evBin, binInt, TIS, CS, reduceAdd, reduceMul, reduceEqDiff, ↓reduceIte, reduceCtorEq, reduceLT, reduceLeDiff]
   refine .inr ?_
   rfl
 ·intro zn; have H := zh1a zn
  refine sA_n ?_
  refine a_condb true (by first | rfl | (simp only [EVT, St.ev, datOf, datOf1, reduceEqDiff, ↓reduceIte]; done) | (simp only [EVT, St.ev, datOf, datOf1, reduceEqDiff, ↓reduceIte]; rfl) | (simp only [EVT, St.ev, datOf, datOf1, reduceEqDiff, ↓reduceIte]; simp_all; done)) (fun zc1 => ?_) (fun zc1 => absurd zc1 (by decide))
  refine a_seq ?_
  refine a_reg _ rfl (s := ?zs3) ?_ ?_
  rotate_left
  ·simp only [EVT, stepR, evOp, St.ev, St.app, St.put, wrs, datOf, datOf1, TIS, CS, reduceAdd, reduceMul, reduceEqDiff, ↓reduceIte, reduceCtorEq, reduceLT, reduceLeDiff]
   (repeat' apply And.intro) <;> first|rfl|assumption|omega|(simp;done)|(simp;omega)|(simp_all;done)
  refine sA_n ?_
  refine a_ret ?_
  refine sA_r ?_
  obtain rfl := Option.some.inj H
  refine e_r2 (d := ?zd1) ?_ ?_
  rotate_left
  ·simp only [EVT, resR, single, evLoad, cut, TIS, CS, reduceAdd, reduceEqDiff, ↓reduceIte, reduceCtorEq, reduceLT, reduceLeDiff, reduceSub, Nat.reduceBEq]
   (repeat' apply And.intro) <;> first | rfl | assumption | omega | (simp; done)
  exact (.nil _)
 ·have H := zh1b
  refine sA_n ?_
  refine a_condb false (by first | rfl | (simp only [EVT, St.ev, datOf, datOf1, reduceEqDiff, ↓reduceIte]; done) | (simp only [EVT, St.ev, datOf, datOf1, reduceEqDiff, ↓reduceIte]; rfl) | (simp only [EVT, St.ev, datOf, datOf1, reduceEqDiff, ↓reduceIte]; simp_all; done)) (fun zc2 => absurd zc2 (by decide)) (fun zc2 => ?_)
  refine a_skip ?_
  refine sA_n ?_
  refine a_seq ?_
  obtain ⟨zh2, H⟩ := chk_some H
  refine a_reg _ rfl (s := ?zs4) ?_ ?_
  rotate_left
  ·simp only [EVT, stepR, evOp, St.ev, St.app, St.put, wrs, allOne, evBuiltin, evAppend, isAl, elems, Option.elim, TIS, CS, reduceAdd, reduceMul, reduceEqDiff, ↓reduceIte, reduceCtorEq, reduceLT, reduceLeDiff, reduceSub, Nat.reduceBEq]
   (repeat' apply And.intro) <;> first|rfl|assumption|omega|(simp;done)|(simp;omega)|(simp_all;done)
  refine sA_n ?_
  refine a_ret ?_
  obtain rfl := Option.some.inj H
  refine e_r2 (d := ?zd2) ?_ ?_
  rotate_left
  ·simp only [EVT, resR, single, evLoad, cut, TIS, CS, reduceAdd, reduceEqDiff, ↓reduceIte, reduceCtorEq, reduceLT, reduceLeDiff, reduceSub, Nat.reduceBEq]
   (repeat' apply And.intro) <;> first | rfl | assumption | omega | (simp; done)
  exact (.ownL (by rfl) (fun e => by cases e) rfl (by first|rfl|omega|(simp;done)|(simp;omega)|(simp_all;done)) (.sm _ _ (ci_pu .u8)))
def top_wholeR14_f : Option Span :=
 some ((⟨0, 4096⟩ : Span))
set_option maxHeartbeats 4000000 in
set_option maxRecDepth 20000 in
theorem top_wholeR14_pc {r : Span} (H : top_wholeR14_f = some r) : PC Try.prog 20 [] (.agg (Span.c r)) := by
 refine pcA_of Try.func20 (by rfl) (by decide) 2 (by rfl) [.cell 0 53] (by rfl) ?_
 unfold top_wholeR14_f at H
 simp only [ent]
 refine a_seq ?_
 refine a_reg _ rfl (s := ?zs1) ?_ ?_
 rotate_left
 ·simp only [EVT, stepR, evOp, St.ev, St.app, St.put, wrs, allOne, TIS, CS, reduceAdd, reduceMul, reduceEqDiff, ↓reduceIte, reduceCtorEq, reduceLT, reduceLeDiff]
  (repeat' apply And.intro) <;> first|rfl|assumption|omega|(simp;done)|(simp;omega)|(simp_all;done)
 refine sA_n ?_
 refine a_seq ?_
 refine a_reg _ rfl (s := ?zs2) ?_ ?_
 rotate_left
 ·simp only [EVT, stepR, evOp, St.ev, St.app, St.put, wrs, datOf, datOf1, fillD, setR, evStore, allOne, TIS, CS, reduceAdd, reduceMul, reduceEqDiff, ↓reduceIte, reduceCtorEq, reduceLT, reduceLeDiff, reduceSub, Nat.reduceBEq]
  (repeat' apply And.intro) <;> first|rfl|assumption|omega|(simp;done)|(simp;omega)|(simp_all;done)
 refine sA_n ?_
 refine a_ret ?_
 obtain rfl := Option.some.inj H
 refine e_r2 (d := ?zd1) ?_ ?_
 rotate_left
 ·simp only [EVT, resR, single, evLoad, cut, TIS, CS, reduceAdd, reduceEqDiff, ↓reduceIte, reduceCtorEq, reduceLT, reduceLeDiff, reduceSub, Nat.reduceBEq]
  (repeat' apply And.intro) <;> first | rfl | assumption | omega | (simp; done)
 exact (.agg' (.cons (.int' rfl) (.cons (.int' rfl) .nil)))
def lease_spanned_f (s1 : Span) : Option Bool :=
 some ((decide (0 ≤ s1.from_)) && ((decide (s1.from_ < s1.to_)) && (decide (s1.to_ ≤ 1099511627776))))
set_option maxHeartbeats 4000000 in
set_option maxRecDepth 20000 in
theorem lease_spanned_pc {s1 : Span} {r : Bool} (H : lease_spanned_f s1 = some r) : PC Try.prog 45 [.agg (Span.c s1)] (.bool r) := by
 refine pcA_of Try.func45 (by rfl) (by decide) 18 (by rfl) [.tmp 2] (by rfl) ?_
 unfold lease_spanned_f at H
 simp only [ent]
 refine a_seq ?_
 refine a_reg _ rfl (s := ?zs1) ?_ ?_
 rotate_left
 ·simp only [EVT, stepR, evOp, St.ev, St.app, St.put, wrs, allOne, datOf, datOf1, TIS, CS, reduceAdd, reduceMul, reduceEqDiff, ↓reduceIte, reduceCtorEq, reduceLT, reduceLeDiff]
  (repeat' apply And.intro) <;> first|rfl|assumption|omega|(simp;done)|(simp;omega)|(simp_all;done)
 refine sA_n ?_
 refine a_seq ?_
 refine bool_split (b := (decide (0 ≤ s1.from_))) (fun zc1 => ?_) (fun zc1 => ?_)
 ·rw [zc1] at H
  refine bool_split (b := (decide (s1.from_ < s1.to_))) (fun zc2 => ?_) (fun zc2 => ?_)
  ·rw [zc2] at H
   refine a_reg _ rfl (s := ?zs2) ?_ ?_
   rotate_left
   ·simp only [EVT, stepR, evOp, St.ev, St.app, St.put, wrs, evFieldAddr, evLoad, cut, datOf, datOf1, evBin, binInt, TIS, CS, reduceAdd, reduceMul, reduceEqDiff, ↓reduceIte, reduceCtorEq, reduceLT, reduceLeDiff, Array.reduceGetElem?, reduceSub, Nat.reduceBEq, ↓zc1, ↓zc2]
    try simp only [EVT, stepR, evOp, St.ev, St.app, St.put, wrs, evFieldAddr, evLoad, cut, datOf, datOf1, evBin, binInt, TIS, CS, reduceAdd, reduceMul, reduceEqDiff, ↓reduceIte, reduceCtorEq, reduceLT, reduceLeDiff, Array.reduceGetElem?, reduceSub, Nat.reduceBEq, ↓zc1, ↓zc2]
    (repeat' apply And.intro) <;> first|rfl|assumption|omega|(simp;done)|(simp;omega)|(simp_all;done)
   refine sA_n ?_
   refine a_ret ?_
   obtain rfl := Option.some.inj H
   refine e_r2 (d := ?zd1) ?_ ?_
   rotate_left
   ·simp only [EVT, resR, single, evLoad, cut, TIS, CS, reduceAdd, reduceEqDiff, ↓reduceIte, reduceCtorEq, reduceLT, reduceLeDiff, reduceSub, Nat.reduceBEq, zc1, zc2]
    (repeat' apply And.intro) <;> first | rfl | assumption | omega | (simp; done)
   exact (.bool' rfl)
  ·rw [zc2] at H
   refine a_reg _ rfl (s := ?zs3) ?_ ?_
   rotate_left
   ·simp only [EVT, stepR, evOp, St.ev, St.app, St.put, wrs, evFieldAddr, evLoad, cut, datOf, datOf1, evBin, binInt, TIS, CS, reduceAdd, reduceMul, reduceEqDiff, ↓reduceIte, reduceCtorEq, reduceLT, reduceLeDiff, Array.reduceGetElem?, reduceSub, Nat.reduceBEq, ↓zc1, ↓zc2]
    try simp only [EVT, stepR, evOp, St.ev, St.app, St.put, wrs, evFieldAddr, evLoad, cut, datOf, datOf1, evBin, binInt, TIS, CS, reduceAdd, reduceMul, reduceEqDiff, ↓reduceIte, reduceCtorEq, reduceLT, reduceLeDiff, Array.reduceGetElem?, reduceSub, Nat.reduceBEq, ↓zc1, ↓zc2]
    (repeat' apply And.intro) <;> first|rfl|assumption|omega|(simp;done)|(simp;omega)|(simp_all;done)
   refine sA_n ?_
   refine a_ret ?_
   obtain rfl := Option.some.inj H
   refine e_r2 (d := ?zd2) ?_ ?_
   rotate_left
   ·simp only [EVT, resR, single, evLoad, cut, TIS, CS, reduceAdd, reduceEqDiff, ↓reduceIte, reduceCtorEq, reduceLT, reduceLeDiff, reduceSub, Nat.reduceBEq, zc1, zc2]
    (repeat' apply And.intro) <;> first | rfl | assumption | omega | (simp; done)
   exact (.bool' (by first | rfl | assumption | (simp_all; done)))
 ·rw [zc1] at H
  refine a_reg _ rfl (s := ?zs4) ?_ ?_
  rotate_left
  ·simp only [EVT, stepR, evOp, St.ev, St.app, St.put, wrs, evFieldAddr, evLoad, cut, datOf, datOf1, evBin, binInt, TIS, CS, reduceAdd, reduceMul, reduceEqDiff, ↓reduceIte, reduceCtorEq, reduceLT, reduceLeDiff, Array.reduceGetElem?, reduceSub, Nat.reduceBEq, ↓zc1]
   try simp only [EVT, stepR, evOp, St.ev, St.app, St.put, wrs, evFieldAddr, evLoad, cut, datOf, datOf1, evBin, binInt, TIS, CS, reduceAdd, reduceMul, reduceEqDiff, ↓reduceIte, reduceCtorEq, reduceLT, reduceLeDiff, Array.reduceGetElem?, reduceSub, Nat.reduceBEq, ↓zc1]
   (repeat' apply And.intro) <;> first|rfl|assumption|omega|(simp;done)|(simp;omega)|(simp_all;done)
  refine sA_n ?_
  refine a_ret ?_
  obtain rfl := Option.some.inj H
  refine e_r2 (d := ?zd3) ?_ ?_
  rotate_left
  ·simp only [EVT, resR, single, evLoad, cut, TIS, CS, reduceAdd, reduceEqDiff, ↓reduceIte, reduceCtorEq, reduceLT, reduceLeDiff, reduceSub, Nat.reduceBEq, zc1]
   (repeat' apply And.intro) <;> first | rfl | assumption | omega | (simp; done)
  exact (.bool' (by first | rfl | assumption | (simp_all; done)))
def lease_kinded_f (kind1 : Int) : Option Bool :=
 some ((kind1 == 1) || (kind1 == 2))
set_option maxHeartbeats 4000000 in
set_option maxRecDepth 20000 in
theorem lease_kinded_pc {kind1 : Int} {r : Bool} (H : lease_kinded_f kind1 = some r) : PC Try.prog 46 [.int .i64 kind1] (.bool r) := by
 refine pcA_of Try.func46 (by rfl) (by decide) 9 (by rfl) [.tmp 2] (by rfl) ?_
 unfold lease_kinded_f at H
 simp only [ent]
 refine a_seq ?_
 refine a_reg _ rfl (s := ?zs1) ?_ ?_
 rotate_left
 ·simp only [EVT, stepR, evOp, St.ev, St.app, St.put, wrs, datOf, datOf1, TIS, CS, reduceAdd, reduceMul, reduceEqDiff, ↓reduceIte, reduceCtorEq, reduceLT, reduceLeDiff]
  (repeat' apply And.intro) <;> first|rfl|assumption|omega|(simp;done)|(simp;omega)|(simp_all;done)
 refine sA_n ?_
 refine a_seq ?_
 refine bool_split (b := (kind1 == 1)) (fun zc1 => ?_) (fun zc1 => ?_)
 ·rw [zc1] at H
  refine a_reg _ rfl (s := ?zs2) ?_ ?_
  rotate_left
  ·simp only [EVT, stepR, evOp, St.ev, St.app, St.put, wrs, datOf, datOf1, evBin, binInt, TIS, CS, reduceAdd, reduceMul, reduceEqDiff, ↓reduceIte, reduceCtorEq, reduceLT, reduceLeDiff, Array.reduceGetElem?, ↓zc1]
   try simp only [EVT, stepR, evOp, St.ev, St.app, St.put, wrs, datOf, datOf1, evBin, binInt, TIS, CS, reduceAdd, reduceMul, reduceEqDiff, ↓reduceIte, reduceCtorEq, reduceLT, reduceLeDiff, Array.reduceGetElem?, ↓zc1]
   (repeat' apply And.intro) <;> first|rfl|assumption|omega|(simp;done)|(simp;omega)|(simp_all;done)
  refine sA_n ?_
  refine a_ret ?_
  obtain rfl := Option.some.inj H
  refine e_r2 (d := ?zd1) ?_ ?_
  rotate_left
  ·simp only [EVT, resR, single, evLoad, cut, TIS, CS, reduceAdd, reduceEqDiff, ↓reduceIte, reduceCtorEq, reduceLT, reduceLeDiff, reduceSub, Nat.reduceBEq, zc1]
   (repeat' apply And.intro) <;> first | rfl | assumption | omega | (simp; done)
  exact (.bool' (by first | rfl | assumption | (simp_all; done)))
 ·rw [zc1] at H
  refine a_reg _ rfl (s := ?zs3) ?_ ?_
  rotate_left
  ·simp only [EVT, stepR, evOp, St.ev, St.app, St.put, wrs, datOf, datOf1, evBin, binInt, TIS, CS, reduceAdd, reduceMul, reduceEqDiff, ↓reduceIte, reduceCtorEq, reduceLT, reduceLeDiff, Array.reduceGetElem?, ↓zc1]
   try simp only [EVT, stepR, evOp, St.ev, St.app, St.put, wrs, datOf, datOf1, evBin, binInt, TIS, CS, reduceAdd, reduceMul, reduceEqDiff, ↓reduceIte, reduceCtorEq, reduceLT, reduceLeDiff, Array.reduceGetElem?, ↓zc1]
   (repeat' apply And.intro) <;> first|rfl|assumption|omega|(simp;done)|(simp;omega)|(simp_all;done)
  refine sA_n ?_
  refine a_ret ?_
  obtain rfl := Option.some.inj H
  refine e_r2 (d := ?zd2) ?_ ?_
  rotate_left
  ·simp only [EVT, resR, single, evLoad, cut, TIS, CS, reduceAdd, reduceEqDiff, ↓reduceIte, reduceCtorEq, reduceLT, reduceLeDiff, reduceSub, Nat.reduceBEq, zc1]
   (repeat' apply And.intro) <;> first | rfl | assumption | omega | (simp; done)
  exact (.bool' rfl)
def lease_one_f (x1 : Lease) : Option Bool :=
 cond (decide (0 ≤ x1.client)) (cond (decide (x1.client < 16)) (cond (decide (1 ≤ x1.ino)) ((lease_kinded_f x1.kind).bind fun r1 => cond r1 ((lease_spanned_f x1.span).bind fun r2 => some (r2 && ((decide (0 ≤ x1.until_)) && ((decide (x1.until_ ≤ 4398046511104)) && (decide (0 ≤ x1.epoch)))))) (some (false))) (some (false))) (some (false))) (some (false))
set_option maxHeartbeats 4000000 in
set_option maxRecDepth 20000 in
theorem lease_one_pc {x1 : Lease} {r : Bool} (H : lease_one_f x1 = some r) : PC Try.prog 31 [.agg (Lease.c x1)] (.bool r) := by
 refine pcA_of Try.func31 (by rfl) (by decide) 41 (by rfl) [.tmp 2] (by rfl) ?_
 unfold lease_one_f at H
 simp only [ent]
 refine a_seq ?_
 refine a_reg _ rfl (s := ?zs1) ?_ ?_
 rotate_left
 ·simp only [EVT, stepR, evOp, St.ev, St.app, St.put, wrs, allOne, datOf, datOf1, TIS, CS, reduceAdd, reduceMul, reduceEqDiff, ↓reduceIte, reduceCtorEq, reduceLT, reduceLeDiff]
  (repeat' apply And.intro) <;> first|rfl|assumption|omega|(simp;done)|(simp;omega)|(simp_all;done)
 refine sA_n ?_
 refine a_seq ?_
 refine bool_split (b := (decide (0 ≤ x1.client))) (fun zc1 => ?_) (fun zc1 => ?_)
 ·have H := cond_t zc1 H
  refine bool_split (b := (decide (x1.client < 16))) (fun zc2 => ?_) (fun zc2 => ?_)
  ·have H := cond_t zc2 H
   refine bool_split (b := (decide (1 ≤ x1.ino))) (fun zc3 => ?_) (fun zc3 => ?_)
   ·have H := cond_t zc3 H
    obtain ⟨r1, zh1, H⟩ := bind_some H
    have zk1 := lease_kinded_pc zh1
    refine bool_split (b := r1) (fun zc4 => ?_) (fun zc4 => ?_)
    ·have H := cond_t zc4 H
     obtain ⟨r2, zh2, H⟩ := bind_some H
     have zk2 := lease_spanned_pc zh2
     refine bool_split (b := r2) (fun zc5 => ?_) (fun zc5 => ?_)
     ·rw [zc5] at H
      refine bool_split (b := (decide (0 ≤ x1.until_))) (fun zc6 => ?_) (fun zc6 => ?_)
      ·rw [zc6] at H
       refine bool_split (b := (decide (x1.until_ ≤ 4398046511104))) (fun zc7 => ?_) (fun zc7 => ?_)
       ·rw [zc7] at H
        refine a_reg _ rfl (s := ?zs2) ?_ ?_
        rotate_left
        ·try simp only [EVT, stepR, evOp, St.ev, St.app, St.put, wrs, evFieldAddr, evLoad, cut, datOf, datOf1, evBin, binInt, frz, TIS, CS, reduceAdd, reduceMul, reduceEqDiff, ↓reduceIte, reduceCtorEq, reduceLT, reduceLeDiff, Array.reduceGetElem?, reduceSub, Nat.reduceBEq, ↓zc1, ↓zc2, ↓zc3, ↓zc4, ↓zc5, ↓zc6, ↓zc7]
         repeat' with_reducible apply And.intro
         all_goals try ((with_reducible show CallR _ _ _ _ _ _ _); refine cR_s zk1 (.cons (.int' rfl) .nil) (.bool _) ?_; simp only [EVT, stepR, evOp, St.ev, St.app, St.put, wrs, evFieldAddr, evLoad, cut, datOf, datOf1, evBin, binInt, frz, TIS, CS, reduceAdd, reduceMul, reduceEqDiff, ↓reduceIte, reduceCtorEq, reduceLT, reduceLeDiff, Array.reduceGetElem?, reduceSub, Nat.reduceBEq, ↓zc1, ↓zc2, ↓zc3, ↓zc4, ↓zc5, ↓zc6, ↓zc7])
         repeat' with_reducible apply And.intro
         all_goals try ((with_reducible show CallR _ _ _ _ _ _ _); refine cR_s zk2 (.cons (.agg' (.cons (.int' rfl) (.cons (.int' rfl) .nil))) .nil) (.bool _) ?_; simp only [EVT, stepR, evOp, St.ev, St.app, St.put, wrs, evFieldAddr, evLoad, cut, datOf, datOf1, evBin, binInt, frz, TIS, CS, reduceAdd, reduceMul, reduceEqDiff, ↓reduceIte, reduceCtorEq, reduceLT, reduceLeDiff, Array.reduceGetElem?, reduceSub, Nat.reduceBEq, ↓zc1, ↓zc2, ↓zc3, ↓zc4, ↓zc5, ↓zc6, ↓zc7])
         all_goals ((repeat' apply And.intro) <;> first|rfl|assumption|omega|(simp;done)|(simp;omega)|(simp_all;done))
        refine sA_n ?_
        refine a_ret ?_
        obtain rfl := Option.some.inj H
        refine e_r2 (d := ?zd1) ?_ ?_
        rotate_left
        ·simp only [EVT, resR, single, evLoad, cut, TIS, CS, reduceAdd, reduceEqDiff, ↓reduceIte, reduceCtorEq, reduceLT, reduceLeDiff, reduceSub, Nat.reduceBEq, zc1, zc2, zc3, zc4, zc5, zc6, zc7]
         (repeat' apply And.intro) <;> first | rfl | assumption | omega | (simp; done)
        exact (.bool' rfl)
       ·rw [zc7] at H
        refine a_reg _ rfl (s := ?zs3) ?_ ?_
        rotate_left
        ·try simp only [EVT, stepR, evOp, St.ev, St.app, St.put, wrs, evFieldAddr, evLoad, cut, datOf, datOf1, evBin, binInt, frz, TIS, CS, reduceAdd, reduceMul, reduceEqDiff, ↓reduceIte, reduceCtorEq, reduceLT, reduceLeDiff, Array.reduceGetElem?, reduceSub, Nat.reduceBEq, ↓zc1, ↓zc2, ↓zc3, ↓zc4, ↓zc5, ↓zc6, ↓zc7]
         repeat' with_reducible apply And.intro
         all_goals try ((with_reducible show CallR _ _ _ _ _ _ _); refine cR_s zk1 (.cons (.int' rfl) .nil) (.bool _) ?_; simp only [EVT, stepR, evOp, St.ev, St.app, St.put, wrs, evFieldAddr, evLoad, cut, datOf, datOf1, evBin, binInt, frz, TIS, CS, reduceAdd, reduceMul, reduceEqDiff, ↓reduceIte, reduceCtorEq, reduceLT, reduceLeDiff, Array.reduceGetElem?, reduceSub, Nat.reduceBEq, ↓zc1, ↓zc2, ↓zc3, ↓zc4, ↓zc5, ↓zc6, ↓zc7])
         repeat' with_reducible apply And.intro
         all_goals try ((with_reducible show CallR _ _ _ _ _ _ _); refine cR_s zk2 (.cons (.agg' (.cons (.int' rfl) (.cons (.int' rfl) .nil))) .nil) (.bool _) ?_; simp only [EVT, stepR, evOp, St.ev, St.app, St.put, wrs, evFieldAddr, evLoad, cut, datOf, datOf1, evBin, binInt, frz, TIS, CS, reduceAdd, reduceMul, reduceEqDiff, ↓reduceIte, reduceCtorEq, reduceLT, reduceLeDiff, Array.reduceGetElem?, reduceSub, Nat.reduceBEq, ↓zc1, ↓zc2, ↓zc3, ↓zc4, ↓zc5, ↓zc6, ↓zc7])
         all_goals ((repeat' apply And.intro) <;> first|rfl|assumption|omega|(simp;done)|(simp;omega)|(simp_all;done))
        refine sA_n ?_
        refine a_ret ?_
        obtain rfl := Option.some.inj H
        refine e_r2 (d := ?zd2) ?_ ?_
        rotate_left
        ·simp only [EVT, resR, single, evLoad, cut, TIS, CS, reduceAdd, reduceEqDiff, ↓reduceIte, reduceCtorEq, reduceLT, reduceLeDiff, reduceSub, Nat.reduceBEq, zc1, zc2, zc3, zc4, zc5, zc6, zc7]
         (repeat' apply And.intro) <;> first | rfl | assumption | omega | (simp; done)
        exact (.bool' (by first | rfl | assumption | (simp_all; done)))
      ·rw [zc6] at H
       refine a_reg _ rfl (s := ?zs4) ?_ ?_
       rotate_left
       ·try simp only [EVT, stepR, evOp, St.ev, St.app, St.put, wrs, evFieldAddr, evLoad, cut, datOf, datOf1, evBin, binInt, frz, TIS, CS, reduceAdd, reduceMul, reduceEqDiff, ↓reduceIte, reduceCtorEq, reduceLT, reduceLeDiff, Array.reduceGetElem?, reduceSub, Nat.reduceBEq, ↓zc1, ↓zc2, ↓zc3, ↓zc4, ↓zc5, ↓zc6]
        repeat' with_reducible apply And.intro
        all_goals try ((with_reducible show CallR _ _ _ _ _ _ _); refine cR_s zk1 (.cons (.int' rfl) .nil) (.bool _) ?_; simp only [EVT, stepR, evOp, St.ev, St.app, St.put, wrs, evFieldAddr, evLoad, cut, datOf, datOf1, evBin, binInt, frz, TIS, CS, reduceAdd, reduceMul, reduceEqDiff, ↓reduceIte, reduceCtorEq, reduceLT, reduceLeDiff, Array.reduceGetElem?, reduceSub, Nat.reduceBEq, ↓zc1, ↓zc2, ↓zc3, ↓zc4, ↓zc5, ↓zc6])
        repeat' with_reducible apply And.intro
        all_goals try ((with_reducible show CallR _ _ _ _ _ _ _); refine cR_s zk2 (.cons (.agg' (.cons (.int' rfl) (.cons (.int' rfl) .nil))) .nil) (.bool _) ?_; simp only [EVT, stepR, evOp, St.ev, St.app, St.put, wrs, evFieldAddr, evLoad, cut, datOf, datOf1, evBin, binInt, frz, TIS, CS, reduceAdd, reduceMul, reduceEqDiff, ↓reduceIte, reduceCtorEq, reduceLT, reduceLeDiff, Array.reduceGetElem?, reduceSub, Nat.reduceBEq, ↓zc1, ↓zc2, ↓zc3, ↓zc4, ↓zc5, ↓zc6])
        all_goals ((repeat' apply And.intro) <;> first|rfl|assumption|omega|(simp;done)|(simp;omega)|(simp_all;done))
       refine sA_n ?_
       refine a_ret ?_
       obtain rfl := Option.some.inj H
       refine e_r2 (d := ?zd3) ?_ ?_
       rotate_left
       ·simp only [EVT, resR, single, evLoad, cut, TIS, CS, reduceAdd, reduceEqDiff, ↓reduceIte, reduceCtorEq, reduceLT, reduceLeDiff, reduceSub, Nat.reduceBEq, zc1, zc2, zc3, zc4, zc5, zc6]
        (repeat' apply And.intro) <;> first | rfl | assumption | omega | (simp; done)
       exact (.bool' (by first | rfl | assumption | (simp_all; done)))
     ·rw [zc5] at H
      refine a_reg _ rfl (s := ?zs5) ?_ ?_
      rotate_left
      ·try simp only [EVT, stepR, evOp, St.ev, St.app, St.put, wrs, evFieldAddr, evLoad, cut, datOf, datOf1, evBin, binInt, frz, TIS, CS, reduceAdd, reduceMul, reduceEqDiff, ↓reduceIte, reduceCtorEq, reduceLT, reduceLeDiff, Array.reduceGetElem?, reduceSub, Nat.reduceBEq, ↓zc1, ↓zc2, ↓zc3, ↓zc4, ↓zc5]
       repeat' with_reducible apply And.intro
       all_goals try ((with_reducible show CallR _ _ _ _ _ _ _); refine cR_s zk1 (.cons (.int' rfl) .nil) (.bool _) ?_; simp only [EVT, stepR, evOp, St.ev, St.app, St.put, wrs, evFieldAddr, evLoad, cut, datOf, datOf1, evBin, binInt, frz, TIS, CS, reduceAdd, reduceMul, reduceEqDiff, ↓reduceIte, reduceCtorEq, reduceLT, reduceLeDiff, Array.reduceGetElem?, reduceSub, Nat.reduceBEq, ↓zc1, ↓zc2, ↓zc3, ↓zc4, ↓zc5])
       repeat' with_reducible apply And.intro
       all_goals try ((with_reducible show CallR _ _ _ _ _ _ _); refine cR_s zk2 (.cons (.agg' (.cons (.int' rfl) (.cons (.int' rfl) .nil))) .nil) (.bool _) ?_; simp only [EVT, stepR, evOp, St.ev, St.app, St.put, wrs, evFieldAddr, evLoad, cut, datOf, datOf1, evBin, binInt, frz, TIS, CS, reduceAdd, reduceMul, reduceEqDiff, ↓reduceIte, reduceCtorEq, reduceLT, reduceLeDiff, Array.reduceGetElem?, reduceSub, Nat.reduceBEq, ↓zc1, ↓zc2, ↓zc3, ↓zc4, ↓zc5])
       all_goals ((repeat' apply And.intro) <;> first|rfl|assumption|omega|(simp;done)|(simp;omega)|(simp_all;done))
      refine sA_n ?_
      refine a_ret ?_
      obtain rfl := Option.some.inj H
      refine e_r2 (d := ?zd4) ?_ ?_
      rotate_left
      ·simp only [EVT, resR, single, evLoad, cut, TIS, CS, reduceAdd, reduceEqDiff, ↓reduceIte, reduceCtorEq, reduceLT, reduceLeDiff, reduceSub, Nat.reduceBEq, zc1, zc2, zc3, zc4, zc5]
       (repeat' apply And.intro) <;> first | rfl | assumption | omega | (simp; done)
      exact (.bool' (by first | rfl | assumption | (simp_all; done)))
    ·have H := cond_f zc4 H
     refine a_reg _ rfl (s := ?zs6) ?_ ?_
     rotate_left
     ·try simp only [EVT, stepR, evOp, St.ev, St.app, St.put, wrs, evFieldAddr, evLoad, cut, datOf, datOf1, evBin, binInt, frz, TIS, CS, reduceAdd, reduceMul, reduceEqDiff, ↓reduceIte, reduceCtorEq, reduceLT, reduceLeDiff, Array.reduceGetElem?, reduceSub, Nat.reduceBEq, ↓zc1, ↓zc2, ↓zc3, ↓zc4]
      repeat' with_reducible apply And.intro
      all_goals try ((with_reducible show CallR _ _ _ _ _ _ _); refine cR_s zk1 (.cons (.int' rfl) .nil) (.bool _) ?_; simp only [EVT, stepR, evOp, St.ev, St.app, St.put, wrs, evFieldAddr, evLoad, cut, datOf, datOf1, evBin, binInt, frz, TIS, CS, reduceAdd, reduceMul, reduceEqDiff, ↓reduceIte, reduceCtorEq, reduceLT, reduceLeDiff, Array.reduceGetElem?, reduceSub, Nat.reduceBEq, ↓zc1, ↓zc2, ↓zc3, ↓zc4])
      all_goals ((repeat' apply And.intro) <;> first|rfl|assumption|omega|(simp;done)|(simp;omega)|(simp_all;done))
     refine sA_n ?_
     refine a_ret ?_
     obtain rfl := Option.some.inj H
     refine e_r2 (d := ?zd5) ?_ ?_
     rotate_left
     ·simp only [EVT, resR, single, evLoad, cut, TIS, CS, reduceAdd, reduceEqDiff, ↓reduceIte, reduceCtorEq, reduceLT, reduceLeDiff, reduceSub, Nat.reduceBEq, zc1, zc2, zc3, zc4]
      (repeat' apply And.intro) <;> first | rfl | assumption | omega | (simp; done)
     exact (.bool' (by first | rfl | assumption | (simp_all; done)))
   ·have H := cond_f zc3 H
    refine a_reg _ rfl (s := ?zs7) ?_ ?_
    rotate_left
    ·simp only [EVT, stepR, evOp, St.ev, St.app, St.put, wrs, evFieldAddr, evLoad, cut, datOf, datOf1, evBin, binInt, frz, TIS, CS, reduceAdd, reduceMul, reduceEqDiff, ↓reduceIte, reduceCtorEq, reduceLT, reduceLeDiff, Array.reduceGetElem?, reduceSub, Nat.reduceBEq, ↓zc1, ↓zc2, ↓zc3]
     try simp only [EVT, stepR, evOp, St.ev, St.app, St.put, wrs, evFieldAddr, evLoad, cut, datOf, datOf1, evBin, binInt, frz, TIS, CS, reduceAdd, reduceMul, reduceEqDiff, ↓reduceIte, reduceCtorEq, reduceLT, reduceLeDiff, Array.reduceGetElem?, reduceSub, Nat.reduceBEq, ↓zc1, ↓zc2, ↓zc3]
     (repeat' apply And.intro) <;> first|rfl|assumption|omega|(simp;done)|(simp;omega)|(simp_all;done)
    refine sA_n ?_
    refine a_ret ?_
    obtain rfl := Option.some.inj H
    refine e_r2 (d := ?zd6) ?_ ?_
    rotate_left
    ·simp only [EVT, resR, single, evLoad, cut, TIS, CS, reduceAdd, reduceEqDiff, ↓reduceIte, reduceCtorEq, reduceLT, reduceLeDiff, reduceSub, Nat.reduceBEq, zc1, zc2, zc3]
     (repeat' apply And.intro) <;> first | rfl | assumption | omega | (simp; done)
    exact (.bool' (by first | rfl | assumption | (simp_all; done)))
  ·have H := cond_f zc2 H
   refine a_reg _ rfl (s := ?zs8) ?_ ?_
   rotate_left
   ·simp only [EVT, stepR, evOp, St.ev, St.app, St.put, wrs, evFieldAddr, evLoad, cut, datOf, datOf1, evBin, binInt, frz, TIS, CS, reduceAdd, reduceMul, reduceEqDiff, ↓reduceIte, reduceCtorEq, reduceLT, reduceLeDiff, Array.reduceGetElem?, reduceSub, Nat.reduceBEq, ↓zc1, ↓zc2]
    try simp only [EVT, stepR, evOp, St.ev, St.app, St.put, wrs, evFieldAddr, evLoad, cut, datOf, datOf1, evBin, binInt, frz, TIS, CS, reduceAdd, reduceMul, reduceEqDiff, ↓reduceIte, reduceCtorEq, reduceLT, reduceLeDiff, Array.reduceGetElem?, reduceSub, Nat.reduceBEq, ↓zc1, ↓zc2]
    (repeat' apply And.intro) <;> first|rfl|assumption|omega|(simp;done)|(simp;omega)|(simp_all;done)
   refine sA_n ?_
   refine a_ret ?_
   obtain rfl := Option.some.inj H
   refine e_r2 (d := ?zd7) ?_ ?_
   rotate_left
   ·simp only [EVT, resR, single, evLoad, cut, TIS, CS, reduceAdd, reduceEqDiff, ↓reduceIte, reduceCtorEq, reduceLT, reduceLeDiff, reduceSub, Nat.reduceBEq, zc1, zc2]
    (repeat' apply And.intro) <;> first | rfl | assumption | omega | (simp; done)
   exact (.bool' (by first | rfl | assumption | (simp_all; done)))
 ·have H := cond_f zc1 H
  refine a_reg _ rfl (s := ?zs9) ?_ ?_
  rotate_left
  ·simp only [EVT, stepR, evOp, St.ev, St.app, St.put, wrs, evFieldAddr, evLoad, cut, datOf, datOf1, evBin, binInt, frz, TIS, CS, reduceAdd, reduceMul, reduceEqDiff, ↓reduceIte, reduceCtorEq, reduceLT, reduceLeDiff, Array.reduceGetElem?, reduceSub, Nat.reduceBEq, ↓zc1]
   try simp only [EVT, stepR, evOp, St.ev, St.app, St.put, wrs, evFieldAddr, evLoad, cut, datOf, datOf1, evBin, binInt, frz, TIS, CS, reduceAdd, reduceMul, reduceEqDiff, ↓reduceIte, reduceCtorEq, reduceLT, reduceLeDiff, Array.reduceGetElem?, reduceSub, Nat.reduceBEq, ↓zc1]
   (repeat' apply And.intro) <;> first|rfl|assumption|omega|(simp;done)|(simp;omega)|(simp_all;done)
  refine sA_n ?_
  refine a_ret ?_
  obtain rfl := Option.some.inj H
  refine e_r2 (d := ?zd8) ?_ ?_
  rotate_left
  ·simp only [EVT, resR, single, evLoad, cut, TIS, CS, reduceAdd, reduceEqDiff, ↓reduceIte, reduceCtorEq, reduceLT, reduceLeDiff, reduceSub, Nat.reduceBEq, zc1]
   (repeat' apply And.intro) <;> first | rfl | assumption | omega | (simp; done)
  exact (.bool' (by first | rfl | assumption | (simp_all; done)))
def lease_clash_f (a1 : Lease) (b1 : Lease) : Option Bool :=
 some ((a1.client != b1.client) && ((a1.ino == b1.ino) && (cond (a1.kind == 2) (decide ((if b1.span.from_ > a1.span.from_ then b1.span.from_ else a1.span.from_) < (if b1.span.to_ < a1.span.to_ then b1.span.to_ else a1.span.to_))) ((b1.kind == 2) && (decide ((if b1.span.from_ > a1.span.from_ then b1.span.from_ else a1.span.from_) < (if b1.span.to_ < a1.span.to_ then b1.span.to_ else a1.span.to_)))))))
set_option maxHeartbeats 4000000 in
set_option maxRecDepth 20000 in
theorem lease_clash_pc {a1 : Lease} {b1 : Lease} {r : Bool} (H : lease_clash_f a1 b1 = some r) : PC Try.prog 34 [.agg (Lease.c a1), .agg (Lease.c b1)] (.bool r) := by
 refine pcA_of Try.func34 (by rfl) (by decide) 44 (by rfl) [.tmp 4] (by rfl) ?_
 unfold lease_clash_f at H
 simp only [ent]
 refine a_seq ?_
 refine a_reg _ rfl (s := ?zs1) ?_ ?_
 rotate_left
 ·simp only [EVT, stepR, evOp, St.ev, St.app, St.put, wrs, allOne, datOf, datOf1, TIS, CS, reduceAdd, reduceMul, reduceEqDiff, ↓reduceIte, reduceCtorEq, reduceLT, reduceLeDiff]
  (repeat' apply And.intro) <;> first|rfl|assumption|omega|(simp;done)|(simp;omega)|(simp_all;done)
 refine sA_n ?_
 refine a_seq ?_
 refine bool_split (b := (a1.client != b1.client)) (fun zc1 => ?_) (fun zc1 => ?_)
 ·rw [zc1] at H
  refine bool_split (b := (a1.ino == b1.ino)) (fun zc2 => ?_) (fun zc2 => ?_)
  ·rw [zc2] at H
   refine bool_split (b := (a1.kind == 2)) (fun zc3 => ?_) (fun zc3 => ?_)
   ·rw [zc3] at H
    refine a_reg _ rfl (s := ?zs2) ?_ ?_
    rotate_left
    ·simp only [EVT, stepR, evOp, St.ev, St.app, St.put, wrs, evFieldAddr, evLoad, cut, evBin, binInt, datOf, datOf1, evBuiltin, minMax, mmStep, TIS, CS, reduceAdd, reduceMul, reduceEqDiff, ↓reduceIte, reduceCtorEq, reduceLT, reduceLeDiff, Array.reduceGetElem?, reduceSub, Nat.reduceBEq, ↓zc1, ↓zc2, ↓zc3]
     try simp only [EVT, stepR, evOp, St.ev, St.app, St.put, wrs, evFieldAddr, evLoad, cut, evBin, binInt, datOf, datOf1, evBuiltin, minMax, mmStep, TIS, CS, reduceAdd, reduceMul, reduceEqDiff, ↓reduceIte, reduceCtorEq, reduceLT, reduceLeDiff, Array.reduceGetElem?, reduceSub, Nat.reduceBEq, ↓zc1, ↓zc2, ↓zc3]
     (repeat' apply And.intro) <;> first|rfl|assumption|omega|(simp;done)|(simp;omega)|(simp_all;done)
    refine sA_n ?_
    refine a_ret ?_
    obtain rfl := Option.some.inj H
    refine e_r2 (d := ?zd1) ?_ ?_
    rotate_left
    ·simp only [EVT, resR, single, evLoad, cut, TIS, CS, reduceAdd, reduceEqDiff, ↓reduceIte, reduceCtorEq, reduceLT, reduceLeDiff, reduceSub, Nat.reduceBEq, zc1, zc2, zc3]
     (repeat' apply And.intro) <;> first | rfl | assumption | omega | (simp; done)
    exact (.bool' rfl)
   ·rw [zc3] at H
    refine bool_split (b := (b1.kind == 2)) (fun zc4 => ?_) (fun zc4 => ?_)
    ·rw [zc4] at H
     refine a_reg _ rfl (s := ?zs3) ?_ ?_
     rotate_left
     ·simp only [EVT, stepR, evOp, St.ev, St.app, St.put, wrs, evFieldAddr, evLoad, cut, evBin, binInt, datOf, datOf1, evBuiltin, minMax, mmStep, TIS, CS, reduceAdd, reduceMul, reduceEqDiff, ↓reduceIte, reduceCtorEq, reduceLT, reduceLeDiff, Array.reduceGetElem?, reduceSub, Nat.reduceBEq, ↓zc1, ↓zc2, ↓zc3, ↓zc4]
      try simp only [EVT, stepR, evOp, St.ev, St.app, St.put, wrs, evFieldAddr, evLoad, cut, evBin, binInt, datOf, datOf1, evBuiltin, minMax, mmStep, TIS, CS, reduceAdd, reduceMul, reduceEqDiff, ↓reduceIte, reduceCtorEq, reduceLT, reduceLeDiff, Array.reduceGetElem?, reduceSub, Nat.reduceBEq, ↓zc1, ↓zc2, ↓zc3, ↓zc4]
      (repeat' apply And.intro) <;> first|rfl|assumption|omega|(simp;done)|(simp;omega)|(simp_all;done)
     refine sA_n ?_
     refine a_ret ?_
     obtain rfl := Option.some.inj H
     refine e_r2 (d := ?zd2) ?_ ?_
     rotate_left
     ·simp only [EVT, resR, single, evLoad, cut, TIS, CS, reduceAdd, reduceEqDiff, ↓reduceIte, reduceCtorEq, reduceLT, reduceLeDiff, reduceSub, Nat.reduceBEq, zc1, zc2, zc3, zc4]
      (repeat' apply And.intro) <;> first | rfl | assumption | omega | (simp; done)
     exact (.bool' rfl)
    ·rw [zc4] at H
     refine a_reg _ rfl (s := ?zs4) ?_ ?_
     rotate_left
     ·simp only [EVT, stepR, evOp, St.ev, St.app, St.put, wrs, evFieldAddr, evLoad, cut, evBin, binInt, datOf, datOf1, evBuiltin, minMax, mmStep, TIS, CS, reduceAdd, reduceMul, reduceEqDiff, ↓reduceIte, reduceCtorEq, reduceLT, reduceLeDiff, Array.reduceGetElem?, reduceSub, Nat.reduceBEq, ↓zc1, ↓zc2, ↓zc3, ↓zc4]
      try simp only [EVT, stepR, evOp, St.ev, St.app, St.put, wrs, evFieldAddr, evLoad, cut, evBin, binInt, datOf, datOf1, evBuiltin, minMax, mmStep, TIS, CS, reduceAdd, reduceMul, reduceEqDiff, ↓reduceIte, reduceCtorEq, reduceLT, reduceLeDiff, Array.reduceGetElem?, reduceSub, Nat.reduceBEq, ↓zc1, ↓zc2, ↓zc3, ↓zc4]
      (repeat' apply And.intro) <;> first|rfl|assumption|omega|(simp;done)|(simp;omega)|(simp_all;done)
     refine sA_n ?_
     refine a_ret ?_
     obtain rfl := Option.some.inj H
     refine e_r2 (d := ?zd3) ?_ ?_
     rotate_left
     ·simp only [EVT, resR, single, evLoad, cut, TIS, CS, reduceAdd, reduceEqDiff, ↓reduceIte, reduceCtorEq, reduceLT, reduceLeDiff, reduceSub, Nat.reduceBEq, zc1, zc2, zc3, zc4]
      (repeat' apply And.intro) <;> first | rfl | assumption | omega | (simp; done)
     exact (.bool' (by first | rfl | assumption | (simp_all; done)))
  ·rw [zc2] at H
   refine a_reg _ rfl (s := ?zs5) ?_ ?_
   rotate_left
   ·simp only [EVT, stepR, evOp, St.ev, St.app, St.put, wrs, evFieldAddr, evLoad, cut, evBin, binInt, datOf, datOf1, evBuiltin, minMax, mmStep, TIS, CS, reduceAdd, reduceMul, reduceEqDiff, ↓reduceIte, reduceCtorEq, reduceLT, reduceLeDiff, Array.reduceGetElem?, reduceSub, Nat.reduceBEq, ↓zc1, ↓zc2]
    try simp only [EVT, stepR, evOp, St.ev, St.app, St.put, wrs, evFieldAddr, evLoad, cut, evBin, binInt, datOf, datOf1, evBuiltin, minMax, mmStep, TIS, CS, reduceAdd, reduceMul, reduceEqDiff, ↓reduceIte, reduceCtorEq, reduceLT, reduceLeDiff, Array.reduceGetElem?, reduceSub, Nat.reduceBEq, ↓zc1, ↓zc2]
    (repeat' apply And.intro) <;> first|rfl|assumption|omega|(simp;done)|(simp;omega)|(simp_all;done)
   refine sA_n ?_
   refine a_ret ?_
   obtain rfl := Option.some.inj H
   refine e_r2 (d := ?zd4) ?_ ?_
   rotate_left
   ·simp only [EVT, resR, single, evLoad, cut, TIS, CS, reduceAdd, reduceEqDiff, ↓reduceIte, reduceCtorEq, reduceLT, reduceLeDiff, reduceSub, Nat.reduceBEq, zc1, zc2]
    (repeat' apply And.intro) <;> first | rfl | assumption | omega | (simp; done)
   exact (.bool' (by first | rfl | assumption | (simp_all; done)))
 ·rw [zc1] at H
  refine a_reg _ rfl (s := ?zs6) ?_ ?_
  rotate_left
  ·simp only [EVT, stepR, evOp, St.ev, St.app, St.put, wrs, evFieldAddr, evLoad, cut, evBin, binInt, datOf, datOf1, evBuiltin, minMax, mmStep, TIS, CS, reduceAdd, reduceMul, reduceEqDiff, ↓reduceIte, reduceCtorEq, reduceLT, reduceLeDiff, Array.reduceGetElem?, reduceSub, Nat.reduceBEq, ↓zc1]
   try simp only [EVT, stepR, evOp, St.ev, St.app, St.put, wrs, evFieldAddr, evLoad, cut, evBin, binInt, datOf, datOf1, evBuiltin, minMax, mmStep, TIS, CS, reduceAdd, reduceMul, reduceEqDiff, ↓reduceIte, reduceCtorEq, reduceLT, reduceLeDiff, Array.reduceGetElem?, reduceSub, Nat.reduceBEq, ↓zc1]
   (repeat' apply And.intro) <;> first|rfl|assumption|omega|(simp;done)|(simp;omega)|(simp_all;done)
  refine sA_n ?_
  refine a_ret ?_
  obtain rfl := Option.some.inj H
  refine e_r2 (d := ?zd5) ?_ ?_
  rotate_left
  ·simp only [EVT, resR, single, evLoad, cut, TIS, CS, reduceAdd, reduceEqDiff, ↓reduceIte, reduceCtorEq, reduceLT, reduceLeDiff, reduceSub, Nat.reduceBEq, zc1]
   (repeat' apply And.intro) <;> first | rfl | assumption | omega | (simp; done)
  exact (.bool' (by first | rfl | assumption | (simp_all; done)))
def lease_Right_1_f (y1 : Lease) (v1 : Lease) : Option Bool :=
 (lease_clash_f v1 y1).bind fun r1 => some (r1)
set_option maxHeartbeats 4000000 in
set_option maxRecDepth 20000 in
theorem lease_Right_1_pc {y1 : Lease} {v1 : Lease} {r : Bool} (H : lease_Right_1_f y1 v1 = some r) : PC Try.prog 33 [.agg (Lease.c y1), .rop (Lease.c v1) 0 7] (.bool r) := by
 refine pcA_of Try.func33 (by rfl) (by decide) 7 (by rfl) [.tmp 3] (by rfl) ?_
 unfold lease_Right_1_f at H
 simp only [ent]
 refine a_seq ?_
 refine a_reg _ rfl (s := ?zs1) ?_ ?_
 rotate_left
 ·simp only [EVT, stepR, evOp, St.ev, St.app, St.put, wrs, allOne, datOf, datOf1, TIS, CS, reduceAdd, reduceMul, reduceEqDiff, ↓reduceIte, reduceCtorEq, reduceLT, reduceLeDiff]
  (repeat' apply And.intro) <;> first|rfl|assumption|omega|(simp;done)|(simp;omega)|(simp_all;done)
 refine sA_n ?_
 refine a_seq ?_
 obtain ⟨r1, zh1, H⟩ := bind_some H
 have zk1 := lease_clash_pc zh1
 refine a_reg _ rfl (s := ?zs2) ?_ ?_
 rotate_left
 ·try simp only [EVT, stepR, evOp, St.ev, St.app, St.put, wrs, evLoad, cut, frz, TIS, CS, reduceAdd, reduceMul, reduceEqDiff, ↓reduceIte, reduceCtorEq, reduceLT, reduceLeDiff, reduceSub, Nat.reduceBEq]
  repeat' with_reducible apply And.intro
  all_goals try ((with_reducible show CallR _ _ _ _ _ _ _); refine cR_s zk1 (.cons (.agg' (.cons (.int' rfl) (.cons (.int' rfl) (.cons (.int' rfl) (.cons (.int' rfl) (.cons (.int' rfl) (.cons (.int' rfl) (.cons (.int' rfl) .nil)))))))) (.cons (.agg' (.cons (.int' rfl) (.cons (.int' rfl) (.cons (.int' rfl) (.cons (.int' rfl) (.cons (.int' rfl) (.cons (.int' rfl) (.cons (.int' rfl) .nil)))))))) .nil)) (.bool _) ?_; simp only [EVT, stepR, evOp, St.ev, St.app, St.put, wrs, evLoad, cut, frz, TIS, CS, reduceAdd, reduceMul, reduceEqDiff, ↓reduceIte, reduceCtorEq, reduceLT, reduceLeDiff, reduceSub, Nat.reduceBEq])
  all_goals ((repeat' apply And.intro) <;> first|rfl|assumption|omega|(simp;done)|(simp;omega)|(simp_all;done))
 refine sA_n ?_
 refine a_ret ?_
 obtain rfl := Option.some.inj H
 refine e_r2 (d := ?zd1) ?_ ?_
 rotate_left
 ·simp only [EVT, resR, single, evLoad, cut, TIS, CS, reduceAdd, reduceEqDiff, ↓reduceIte, reduceCtorEq, reduceLT, reduceLeDiff, reduceSub, Nat.reduceBEq]
  (repeat' apply And.intro) <;> first | rfl | assumption | omega | (simp; done)
 exact (.bool' rfl)
def slices_IndexFunc_J1 : Option Int :=
 some ((-1))
def slices_IndexFunc_L1 (s1 : List Lease) (f1 : Lease → Option Bool) : Nat → Int → Option Int
 | 0, _ => none
 | m_ + 1, v1 => cond (decide (v1 < (s1.length : Int))) ((idx s1 v1).bind fun x1 => (f1 x1).bind fun r1 => cond r1 (some (v1)) (slices_IndexFunc_L1 s1 f1 m_ (IntKind.wrap .i64 (v1 + 1)))) (slices_IndexFunc_J1)
def slices_IndexFunc_f (s1 : List Lease) (f1 : Lease → Option Bool) : Option Int :=
 slices_IndexFunc_L1 s1 f1 BIG 0
set_option maxHeartbeats 4000000 in
set_option maxRecDepth 20000 in
theorem slices_IndexFunc_pc {s1 : List Lease} {f1 : Lease → Option Bool} {f1_F : FuncId} {f1_caps : List Dat} (f1_hp : ∀ (x0_ : Lease) (r : Bool), f1 x0_ = some r → PC Try.prog f1_F (.agg (Lease.c x0_) :: f1_caps) (.bool r)) (f1_pu : Pus f1_caps) {r : Int} (H : slices_IndexFunc_f s1 f1 = some r) : PC Try.prog 55 [.list 7 (s1.map Lease.c), .fn (.func f1_F) [] f1_caps] (.int .i64 r) := by
 refine pcA_of Try.func55 (by rfl) (by decide) 19 (by rfl) [.tmp 4] (by rfl) ?_
 unfold slices_IndexFunc_f at H
 simp only [ent]
 refine a_seq ?_
 refine a_reg _ rfl (s := ?zs1) ?_ ?_
 rotate_left
 ·simp only [EVT, stepR, evOp, St.ev, St.app, St.put, wrs, datOf, datOf1, TIS, CS, reduceAdd, reduceMul, reduceEqDiff, ↓reduceIte, reduceCtorEq, reduceLT, reduceLeDiff]
  (repeat' apply And.intro) <;> first|rfl|assumption|omega|(simp;done)|(simp;omega)|(simp_all;done)
 refine sA_n ?_
 refine a_cut (fun s => ∃ (t0 : Nat → Dat), slices_IndexFunc_J1 = some r ∧ s = ⟨tl t0 [], hl [], 0, 19⟩) ?_ ?_
 ·refine a_seq ?_
  refine a_reg _ rfl (s := ?zs3) ?_ ?_
  rotate_left
  ·simp only [EVT, stepR, evOp, St.ev, St.app, St.put, wrs, evBuiltin, datOf, datOf1, TIS, CS, reduceAdd, reduceMul, reduceEqDiff, ↓reduceIte, reduceCtorEq, reduceLT, reduceLeDiff, reduceSub, Nat.reduceBEq]
   (repeat' apply And.intro) <;> first|rfl|assumption|omega|(simp;done)|(simp;omega)|(simp_all;done)
  refine sA_n ?_
  refine a_blk ?_
  refine a_loop (fun m s => ∃ (v1 : Int) (t0 : Nat → Dat), slices_IndexFunc_L1 s1 f1 m v1 = some r ∧ s = ⟨tl t0 [(0, .list 7 (s1.map Lease.c)), (1, .fn (.func f1_F) [] f1_caps), (7, .int .i64 (s1.length : Int)), (8, .int .i64 v1)], hl [], 0, 19⟩) BIG ?_ ?_
  ·refine wk_l [] [] [(0, .list 7 (s1.map Lease.c)), (1, .fn (.func f1_F) [] f1_caps), (7, .int .i64 (s1.length : Int)), (8, .int .i64 0)] (by show ([0, 1, 7, 8] : List Nat).Nodup; decide) (by show ([] : List Nat).Nodup; decide) ?_ ?_ (fun t0 => ⟨0, t0, H, rfl⟩)
   ·exact trivial
   ·(simp only [AllT, ATT, reduceEqDiff, ↓reduceIte, and_true]); exact ⟨(.lst _ _ _ Lease.pu rfl), (.fn' .nil (RNs.pu f1_pu)), (.int' rfl), (.int' rfl)⟩
  ·rintro m_slices_IndexFunc_L1 s ⟨v1, t0, H, rfl⟩
   obtain _ | m_slices_IndexFunc_L1 := m_slices_IndexFunc_L1
   ·cases (show (none : Option _) = some _ from H)
   ·rw [slices_IndexFunc_L1] at H
    refine a_seq ?_
    refine a_reg _ rfl (s := ?zs4) ?_ ?_
    rotate_left
    ·simp only [EVT, stepR, evOp, St.ev, St.app, St.put, wrs, evBin, binInt, TIS, CS, reduceAdd, reduceMul, reduceEqDiff, ↓reduceIte, reduceCtorEq, reduceLT, reduceLeDiff]
     (repeat' apply And.intro) <;> first|rfl|assumption|omega|(simp;done)|(simp;omega)|(simp_all;done)
    refine sA_n ?_
    refine a_seq ?_
    refine a_condb ((decide (v1 < (s1.length : Int)))) (by rfl) (fun zc1 => ?_) (fun zc1 => ?_)
    ·have H := cond_t zc1 H
     refine a_skip ?_
     refine sA_n ?_
     refine a_seq ?_
     refine a_blk ?_
     refine a_seq ?_
     refine a_reg _ rfl (s := ?zs5) ?_ ?_
     rotate_left
     ·simp only [EVT, stepR, evOp, St.ev, St.app, St.put, wrs, TIS, CS, reduceAdd, reduceMul, reduceEqDiff, ↓reduceIte, reduceCtorEq, reduceLT, reduceLeDiff, ↓zc1]
      (repeat' apply And.intro) <;> first|rfl|assumption|omega|(simp;done)|(simp;omega)|(simp_all;done)
     refine sA_n ?_
     refine a_seq ?_
     obtain ⟨x1, zh1, H⟩ := bind_some H
     have zg1 := idx_map zh1 Lease.c
     try simp only [Int.reduceToNat, Int.toNat_natCast] at zg1
     obtain ⟨zh1a, zh1b, _⟩ := idx_some zh1
     obtain ⟨r1, zh2, H⟩ := bind_some H
     have zk1 := f1_hp _ _ zh2
     refine a_reg _ rfl (s := ?zs6) ?_ ?_
     rotate_left
     ·try simp only [EVT, stepR, evOp, St.ev, St.app, St.put, wrs, evIndexAddr, evLoad, cut, frz, TIS, CS, reduceAdd, reduceMul, reduceEqDiff, ↓reduceIte, reduceCtorEq, reduceLT, reduceLeDiff, Int.reduceToNat, reduceSub, Nat.reduceBEq, ↓zc1, zg1]
      repeat' with_reducible apply And.intro
      all_goals try ((with_reducible show CallR _ _ _ _ _ _ _); refine cR_s zk1 (.cons (.agg' (.cons (.int' rfl) (.cons (.int' rfl) (.cons (.int' rfl) (.cons (.int' rfl) (.cons (.int' rfl) (.cons (.int' rfl) (.cons (.int' rfl) .nil)))))))) (Pus.purRs f1_pu)) (.bool _) ?_; simp only [EVT, stepR, evOp, St.ev, St.app, St.put, wrs, evIndexAddr, evLoad, cut, frz, TIS, CS, reduceAdd, reduceMul, reduceEqDiff, ↓reduceIte, reduceCtorEq, reduceLT, reduceLeDiff, Int.reduceToNat, reduceSub, Nat.reduceBEq, ↓zc1, zg1])
      all_goals ((repeat' apply And.intro) <;> first|rfl|assumption|omega|(simp;done)|(simp;omega)|(simp_all;done))
     refine sA_n ?_
     refine a_condb (r1) (by rfl) (fun zc2 => ?_) (fun zc2 => ?_)
     ·have H := cond_t zc2 H
      refine a_seq ?_
      refine a_reg _ rfl (s := ?zs7) ?_ ?_
      rotate_left
      ·simp only [EVT, stepR, evOp, St.ev, St.app, St.put, wrs, TIS, CS, reduceAdd, reduceMul, reduceEqDiff, ↓reduceIte, reduceCtorEq, reduceLT, reduceLeDiff, ↓zc1, zg1, ↓zc2]
       (repeat' apply And.intro) <;> first|rfl|assumption|omega|(simp;done)|(simp;omega)|(simp_all;done)
      refine sA_n ?_
      refine a_ret ?_
      refine bA_r ?_
      refine sA_r ?_
      refine lA_r ?_
      refine bA_r ?_
      refine cA_r ?_
      obtain rfl := Option.some.inj H
      refine e_r2 (d := ?zd2) ?_ ?_
      rotate_left
      ·simp only [EVT, resR, single, evLoad, cut, TIS, CS, reduceAdd, reduceEqDiff, ↓reduceIte, reduceCtorEq, reduceLT, reduceLeDiff, reduceSub, Nat.reduceBEq, zc1, zg1, zc2]
       (repeat' apply And.intro) <;> first | rfl | assumption | omega | (simp; done)
      exact (.int' rfl)
     ·have H := cond_f zc2 H
      refine a_skip ?_
      refine bA_n ?_
      refine sA_n ?_
      refine a_reg _ rfl (s := ?zs8) ?_ ?_
      rotate_left
      ·simp only [EVT, stepR, evOp, St.ev, St.app, St.put, wrs, datOf, datOf1, evBin, binInt, TIS, CS, reduceAdd, reduceMul, reduceEqDiff, ↓reduceIte, reduceCtorEq, reduceLT, reduceLeDiff, ↓zc1, zg1, ↓zc2]
       (repeat' apply And.intro) <;> first|rfl|assumption|omega|(simp;done)|(simp;omega)|(simp_all;done)
      refine lA_n ?_
      refine wk_l [] [] [(0, .list 7 (s1.map Lease.c)), (1, .fn (.func f1_F) [] f1_caps), (7, .int .i64 (s1.length : Int)), (8, .int .i64 (IntKind.wrap .i64 (v1 + 1)))] (by show ([0, 1, 7, 8] : List Nat).Nodup; decide) (by show ([] : List Nat).Nodup; decide) ?_ ?_ (fun t0 => ⟨_, Nat.lt_succ_self _, (IntKind.wrap .i64 (v1 + 1)), t0, H, rfl⟩)
      ·exact trivial
      ·(simp only [AllT, ATT, reduceEqDiff, ↓reduceIte, and_true]); exact ⟨(.lst _ _ _ Lease.pu rfl), (.fn' .nil (RNs.pu f1_pu)), (.int' rfl), (.int' rfl)⟩
    ·have H := cond_f zc1 H
     refine a_exit ?_
     refine sA_e ?_
     refine lA_e ?_
     refine bA_hit ?_
     refine cA_n ?_
     refine wk_l [] [] [] (by show ([] : List Nat).Nodup; decide) (by show ([] : List Nat).Nodup; decide) ?_ ?_ (fun t0 => ⟨t0, H, rfl⟩)
     ·exact trivial
     ·exact trivial
 ·rintro s ⟨t0, H, rfl⟩
  unfold slices_IndexFunc_J1 at H
  refine a_seq ?_
  refine a_reg _ rfl (s := ?zs2) ?_ ?_
  rotate_left
  ·simp only [EVT, stepR, evOp, St.ev, St.app, St.put, wrs, datOf, datOf1, TIS, CS, reduceAdd, reduceMul, reduceEqDiff, ↓reduceIte, reduceCtorEq, reduceLT, reduceLeDiff]
   (repeat' apply And.intro) <;> first|rfl|assumption|omega|(simp;done)|(simp;omega)|(simp_all;done)
  refine sA_n ?_
  refine a_ret ?_
  obtain rfl := Option.some.inj H
  refine e_r2 (d := ?zd1) ?_ ?_
  rotate_left
  ·simp only [EVT, resR, single, evLoad, cut, TIS, CS, reduceAdd, reduceEqDiff, ↓reduceIte, reduceCtorEq, reduceLT, reduceLeDiff, reduceSub, Nat.reduceBEq]
   (repeat' apply And.intro) <;> first | rfl | assumption | omega | (simp; done)
  exact (.int' rfl)
def slices_ContainsFunc_f (s1 : List Lease) (f1 : Lease → Option Bool) : Option Bool :=
 (slices_IndexFunc_f s1 f1).bind fun r1 => some ((decide (0 ≤ r1)))
set_option maxHeartbeats 4000000 in
set_option maxRecDepth 20000 in
theorem slices_ContainsFunc_pc {s1 : List Lease} {f1 : Lease → Option Bool} {f1_F : FuncId} {f1_caps : List Dat} (f1_hp : ∀ (x0_ : Lease) (r : Bool), f1 x0_ = some r → PC Try.prog f1_F (.agg (Lease.c x0_) :: f1_caps) (.bool r)) (f1_pu : Pus f1_caps) {r : Bool} (H : slices_ContainsFunc_f s1 f1 = some r) : PC Try.prog 32 [.list 7 (s1.map Lease.c), .fn (.func f1_F) [] f1_caps] (.bool r) := by
 refine pcA_of Try.func32 (by rfl) (by decide) 9 (by rfl) [.tmp 4] (by rfl) ?_
 unfold slices_ContainsFunc_f at H
 simp only [ent]
 refine a_seq ?_
 refine a_reg _ rfl (s := ?zs1) ?_ ?_
 rotate_left
 ·simp only [EVT, stepR, evOp, St.ev, St.app, St.put, wrs, datOf, datOf1, TIS, CS, reduceAdd, reduceMul, reduceEqDiff, ↓reduceIte, reduceCtorEq, reduceLT, reduceLeDiff]
  (repeat' apply And.intro) <;> first|rfl|assumption|omega|(simp;done)|(simp;omega)|(simp_all;done)
 refine sA_n ?_
 refine a_seq ?_
 obtain ⟨r1, zh1, H⟩ := bind_some H
 have zk1 := slices_IndexFunc_pc (f1 := f1) (f1_F := f1_F) (f1_caps := f1_caps) f1_hp f1_pu zh1
 refine a_reg _ rfl (s := ?zs2) ?_ ?_
 rotate_left
 ·try simp only [EVT, stepR, evOp, St.ev, St.app, St.put, wrs, frz, datOf, datOf1, evBin, binInt, TIS, CS, reduceAdd, reduceMul, reduceEqDiff, ↓reduceIte, reduceCtorEq, reduceLT, reduceLeDiff, reduceSub, Nat.reduceBEq]
  repeat' with_reducible apply And.intro
  all_goals try ((with_reducible show CallR _ _ _ _ _ _ _); refine cR_s zk1 (.cons (.lst _ _ _ Lease.pu rfl) (.cons (.fn' .nil (Pus.purRs f1_pu)) .nil)) (.int _ _) ?_; simp only [EVT, stepR, evOp, St.ev, St.app, St.put, wrs, frz, datOf, datOf1, evBin, binInt, TIS, CS, reduceAdd, reduceMul, reduceEqDiff, ↓reduceIte, reduceCtorEq, reduceLT, reduceLeDiff, reduceSub, Nat.reduceBEq])
  all_goals ((repeat' apply And.intro) <;> first|rfl|assumption|omega|(simp;done)|(simp;omega)|(simp_all;done))
 refine sA_n ?_
 refine a_ret ?_
 obtain rfl := Option.some.inj H
 refine e_r2 (d := ?zd1) ?_ ?_
 rotate_left
 ·simp only [EVT, resR, single, evLoad, cut, TIS, CS, reduceAdd, reduceEqDiff, ↓reduceIte, reduceCtorEq, reduceLT, reduceLeDiff, reduceSub, Nat.reduceBEq]
  (repeat' apply And.intro) <;> first | rfl | assumption | omega | (simp; done)
 exact (.bool' rfl)
def lease_Right_J1 : Option Bool :=
 some (true)
def lease_Right_J2 (k_lease_Right_L1 : Int → Option Bool) (v1 : Int) (v2 : Bool) : Option Bool :=
 cond v2 (some (false)) (k_lease_Right_L1 (IntKind.wrap .i64 (v1 + 1)))
def lease_Right_L1 (l1 : List Lease) : Nat → Int → Option Bool
 | 0, _ => none
 | m_ + 1, v1 => cond (decide (v1 < (l1.length : Int))) ((idx l1 v1).bind fun x1 => (lease_one_f x1).bind fun r1 => cond (!r1) (lease_Right_J2 (lease_Right_L1 l1 m_) v1 true) (chk (0 ≤ 0 ∧ 0 ≤ v1 ∧ v1 ≤ (l1.length : Int)) ((slices_ContainsFunc_f ((l1.take v1.toNat).drop 0) (fun y0_ => lease_Right_1_f y0_ x1)).bind fun r2 => lease_Right_J2 (lease_Right_L1 l1 m_) v1 r2))) (lease_Right_J1)
def lease_Right_f (l1 : List Lease) : Option Bool :=
 cond (decide (64 < (l1.length : Int))) (some (false)) (lease_Right_L1 l1 BIG 0)
set_option maxHeartbeats 4000000 in
set_option maxRecDepth 20000 in
theorem lease_Right_pc {l1 : List Lease} {r : Bool} (H : lease_Right_f l1 = some r) : PC Try.prog 12 [.list 7 (l1.map Lease.c)] (.bool r) := by
 refine pcA_of Try.func12 (by rfl) (by decide) 26 (by rfl) [.tmp 2] (by rfl) ?_
 unfold lease_Right_f at H
 simp only [ent]
 refine a_seq ?_
 refine a_reg _ rfl (s := ?zs1) ?_ ?_
 rotate_left
 ·simp only [EVT, stepR, evOp, St.ev, St.app, St.put, wrs, datOf, datOf1, TIS, CS, reduceAdd, reduceMul, reduceEqDiff, ↓reduceIte, reduceCtorEq, reduceLT, reduceLeDiff]
  (repeat' apply And.intro) <;> first|rfl|assumption|omega|(simp;done)|(simp;omega)|(simp_all;done)
 refine sA_n ?_
 refine a_seq ?_
 refine a_seq ?_
 refine a_reg _ rfl (s := ?zs2) ?_ ?_
 rotate_left
 ·simp only [EVT, stepR, evOp, St.ev, St.app, St.put, wrs, evBuiltin, datOf, datOf1, evBin, binInt, TIS, CS, reduceAdd, reduceMul, reduceEqDiff, ↓reduceIte, reduceCtorEq, reduceLT, reduceLeDiff, reduceSub, Nat.reduceBEq]
  (repeat' apply And.intro) <;> first|rfl|assumption|omega|(simp;done)|(simp;omega)|(simp_all;done)
 refine sA_n ?_
 refine a_condb ((decide (64 < (l1.length : Int)))) (by rfl) (fun zc1 => ?_) (fun zc1 => ?_)
 ·have H := cond_t zc1 H
  refine a_seq ?_
  refine a_reg _ rfl (s := ?zs3) ?_ ?_
  rotate_left
  ·simp only [EVT, stepR, evOp, St.ev, St.app, St.put, wrs, datOf, datOf1, TIS, CS, reduceAdd, reduceMul, reduceEqDiff, ↓reduceIte, reduceCtorEq, reduceLT, reduceLeDiff, ↓zc1]
   (repeat' apply And.intro) <;> first|rfl|assumption|omega|(simp;done)|(simp;omega)|(simp_all;done)
  refine sA_n ?_
  refine a_ret ?_
  refine sA_r ?_
  obtain rfl := Option.some.inj H
  refine e_r2 (d := ?zd1) ?_ ?_
  rotate_left
  ·simp only [EVT, resR, single, evLoad, cut, TIS, CS, reduceAdd, reduceEqDiff, ↓reduceIte, reduceCtorEq, reduceLT, reduceLeDiff, reduceSub, Nat.reduceBEq, zc1]
   (repeat' apply And.intro) <;> first | rfl | assumption | omega | (simp; done)
  exact (.bool' (by first | rfl | assumption | (simp_all; done)))
 ·have H := cond_f zc1 H
  refine a_skip ?_
  refine sA_n ?_
  refine a_cut (fun s => ∃ (t0 : Nat → Dat), lease_Right_J1 = some r ∧ s = ⟨tl t0 [], hl [], 0, 26⟩) ?_ ?_
  ·refine a_seq ?_
   refine a_reg _ rfl (s := ?zs5) ?_ ?_
   rotate_left
   ·simp only [EVT, stepR, evOp, St.ev, St.app, St.put, wrs, evBuiltin, datOf, datOf1, TIS, CS, reduceAdd, reduceMul, reduceEqDiff, ↓reduceIte, reduceCtorEq, reduceLT, reduceLeDiff, reduceSub, Nat.reduceBEq, ↓zc1]
    (repeat' apply And.intro) <;> first|rfl|assumption|omega|(simp;done)|(simp;omega)|(simp_all;done)
   refine sA_n ?_
   refine a_blk ?_
   refine a_loop (fun m s => ∃ (v1 : Int) (t0 : Nat → Dat), lease_Right_L1 l1 m v1 = some r ∧ s = ⟨tl t0 [(0, .list 7 (l1.map Lease.c)), (8, .list 7 (l1.map Lease.c)), (9, .int .i64 (l1.length : Int)), (10, .int .i64 v1)], hl [], 0, 26⟩) BIG ?_ ?_
   ·refine wk_l [] [] [(0, .list 7 (l1.map Lease.c)), (8, .list 7 (l1.map Lease.c)), (9, .int .i64 (l1.length : Int)), (10, .int .i64 0)] (by show ([0, 8, 9, 10] : List Nat).Nodup; decide) (by show ([] : List Nat).Nodup; decide) ?_ ?_ (fun t0 => ⟨0, t0, H, rfl⟩)
    ·exact trivial
    ·(simp only [AllT, ATT, reduceEqDiff, ↓reduceIte, and_true]); exact ⟨(.lst _ _ _ Lease.pu rfl), (.lst _ _ _ Lease.pu rfl), (.int' rfl), (.int' rfl)⟩
   ·rintro m_lease_Right_L1 s ⟨v1, t0, H, rfl⟩
    obtain _ | m_lease_Right_L1 := m_lease_Right_L1
    ·cases (show (none : Option _) = some _ from H)
    ·rw [lease_Right_L1] at H
     refine a_seq ?_
     refine a_reg _ rfl (s := ?zs6) ?_ ?_
     rotate_left
     ·simp only [EVT, stepR, evOp, St.ev, St.app, St.put, wrs, evBin, binInt, TIS, CS, reduceAdd, reduceMul, reduceEqDiff, ↓reduceIte, reduceCtorEq, reduceLT, reduceLeDiff]
      (repeat' apply And.intro) <;> first|rfl|assumption|omega|(simp;done)|(simp;omega)|(simp_all;done)
     refine sA_n ?_
     refine a_seq ?_
     refine a_condb ((decide (v1 < (l1.length : Int)))) (by rfl) (fun zc2 => ?_) (fun zc2 => ?_)
     ·have H := cond_t zc2 H
      refine a_skip ?_
      refine sA_n ?_
      refine a_seq ?_
      refine a_blk ?_
      refine a_seq ?_
      obtain ⟨x1, zh1, H⟩ := bind_some H
      have zg1 := idx_map zh1 Lease.c
      try simp only [Int.reduceToNat, Int.toNat_natCast] at zg1
      obtain ⟨zh1a, zh1b, _⟩ := idx_some zh1
      refine a_reg _ rfl (s := ?zs7) ?_ ?_
      rotate_left
      ·simp only [EVT, stepR, evOp, St.ev, St.app, St.put, wrs, evIndexAddr, evLoad, cut, allOne, evStore, setR, TIS, CS, reduceAdd, reduceMul, reduceEqDiff, ↓reduceIte, reduceCtorEq, reduceLT, reduceLeDiff, Int.reduceToNat, reduceSub, Nat.reduceBEq, ↓zc2, zg1]
       (repeat' apply And.intro) <;> first|rfl|assumption|omega|(simp;done)|(simp;omega)|(simp_all;done)
      refine sA_n ?_
      refine a_cut (fun s => ∃ (v2 : Bool) (t0 : Nat → Dat), lease_Right_J2 (lease_Right_L1 l1 m_lease_Right_L1) v1 v2 = some r ∧ s = ⟨tl t0 [(0, .list 7 (l1.map Lease.c)), (8, .list 7 (l1.map Lease.c)), (9, .int .i64 (l1.length : Int)), (10, .int .i64 v1), (24, .bool v2)], hl [], 0, 26⟩) ?_ ?_
      ·obtain ⟨r1, zh2, H⟩ := bind_some H
       have zk1 := lease_one_pc zh2
       refine bool_split (b := (!r1)) (fun zc4 => ?_) (fun zc4 => ?_)
       ·have H := cond_t zc4 H
        refine a_reg _ rfl (s := ?zs10) ?_ ?_
        rotate_left
        ·try simp only [EVT, stepR, evOp, St.ev, St.app, St.put, wrs, evLoad, cut, frz, evUn, evSlice, sliceOk, sl_if0, sl_if1, sl_if2, sl_if3, tk_map, dp_map, datOf, datOf1, TIS, CS, reduceAdd, reduceMul, reduceEqDiff, ↓reduceIte, reduceCtorEq, reduceLT, reduceLeDiff, Array.reduceGetElem?, Int.reduceToNat, reduceSub, Nat.reduceBEq, ↓zc2, zg1, ↓zc4]
         repeat' with_reducible apply And.intro
         all_goals try ((with_reducible show CallR _ _ _ _ _ _ _); refine cR_s zk1 (.cons (.agg' (.cons (.int' rfl) (.cons (.int' rfl) (.cons (.int' rfl) (.cons (.int' rfl) (.cons (.int' rfl) (.cons (.int' rfl) (.cons (.int' rfl) .nil)))))))) .nil) (.bool _) ?_; simp only [EVT, stepR, evOp, St.ev, St.app, St.put, wrs, evLoad, cut, frz, evUn, evSlice, sliceOk, sl_if0, sl_if1, sl_if2, sl_if3, tk_map, dp_map, datOf, datOf1, TIS, CS, reduceAdd, reduceMul, reduceEqDiff, ↓reduceIte, reduceCtorEq, reduceLT, reduceLeDiff, Array.reduceGetElem?, Int.reduceToNat, reduceSub, Nat.reduceBEq, ↓zc2, zg1, ↓zc4])
         all_goals ((repeat' apply And.intro) <;> first | rfl | assumption | omega | (left; omega) | (simp; done) | (simp; omega) | (right; exact ⟨_, rfl, rfl, rfl, by decide, by first | omega | (simp; omega)⟩) | (simp_all; done))
        refine cA_n ?_
        refine wk_l [] [] [(0, .list 7 (l1.map Lease.c)), (8, .list 7 (l1.map Lease.c)), (9, .int .i64 (l1.length : Int)), (10, .int .i64 v1), (24, .bool true)] (by show ([0, 8, 9, 10, 24] : List Nat).Nodup; decide) (by show ([] : List Nat).Nodup; decide) ?_ ?_ (fun t0 => ⟨true, t0, H, rfl⟩)
        ·exact trivial
        ·(simp only [AllT, ATT, reduceEqDiff, ↓reduceIte, and_true]); exact ⟨(.lst _ _ _ Lease.pu rfl), (.lst _ _ _ Lease.pu rfl), (.int' rfl), (.int' rfl), (.bool' (by first | rfl | assumption | (simp_all; done)))⟩
       ·have H := cond_f zc4 H
        obtain ⟨zh3, H⟩ := chk_some H
        obtain ⟨r2, zh4, H⟩ := bind_some H
        have zk2 := slices_ContainsFunc_pc (f1 := (fun y0_ => lease_Right_1_f y0_ x1)) (f1_F := 33) (f1_caps := [.rop (Lease.c x1) 0 7]) (fun _ _ h => lease_Right_1_pc h) (.cons (.rop _ _ _ (Lease.pu _)) .nil) zh4
        refine a_reg _ rfl (s := ?zs11) ?_ ?_
        rotate_left
        ·try simp only [EVT, stepR, evOp, St.ev, St.app, St.put, wrs, evLoad, cut, frz, evUn, evSlice, sliceOk, sl_if0, sl_if1, sl_if2, sl_if3, tk_map, dp_map, datOf, datOf1, TIS, CS, reduceAdd, reduceMul, reduceEqDiff, ↓reduceIte, reduceCtorEq, reduceLT, reduceLeDiff, Array.reduceGetElem?, Int.reduceToNat, reduceSub, Nat.reduceBEq, ↓zc2, zg1, ↓zc4]
         repeat' with_reducible apply And.intro
         all_goals try ((with_reducible show CallR _ _ _ _ _ _ _); refine cR_s zk1 (.cons (.agg' (.cons (.int' rfl) (.cons (.int' rfl) (.cons (.int' rfl) (.cons (.int' rfl) (.cons (.int' rfl) (.cons (.int' rfl) (.cons (.int' rfl) .nil)))))))) .nil) (.bool _) ?_; simp only [EVT, stepR, evOp, St.ev, St.app, St.put, wrs, evLoad, cut, frz, evUn, evSlice, sliceOk, sl_if0, sl_if1, sl_if2, sl_if3, tk_map, dp_map, datOf, datOf1, TIS, CS, reduceAdd, reduceMul, reduceEqDiff, ↓reduceIte, reduceCtorEq, reduceLT, reduceLeDiff, Array.reduceGetElem?, Int.reduceToNat, reduceSub, Nat.reduceBEq, ↓zc2, zg1, ↓zc4])
         repeat' with_reducible apply And.intro
         all_goals try ((with_reducible show CallR _ _ _ _ _ _ _); refine cR_s zk2 (.cons (.lst _ _ _ Lease.pu rfl) (.cons (.fn' .nil (.cons (.box (by rfl) (fun e => by cases e) rfl rfl (.cons (.int' rfl) (.cons (.int' rfl) (.cons (.int' rfl) (.cons (.int' rfl) (.cons (.int' rfl) (.cons (.int' rfl) (.cons (.int' rfl) .nil)))))))) .nil)) .nil)) (.bool _) ?_; simp only [EVT, stepR, evOp, St.ev, St.app, St.put, wrs, evLoad, cut, frz, evUn, evSlice, sliceOk, sl_if0, sl_if1, sl_if2, sl_if3, tk_map, dp_map, datOf, datOf1, TIS, CS, reduceAdd, reduceMul, reduceEqDiff, ↓reduceIte, reduceCtorEq, reduceLT, reduceLeDiff, Array.reduceGetElem?, Int.reduceToNat, reduceSub, Nat.reduceBEq, ↓zc2, zg1, ↓zc4])
         all_goals ((repeat' apply And.intro) <;> first | rfl | assumption | omega | (left; omega) | (simp; done) | (simp; omega) | (right; exact ⟨_, rfl, rfl, rfl, by decide, by first | omega | (simp; omega)⟩) | (simp_all; done))
        refine cA_n ?_
        refine wk_l [] [] [(0, .list 7 (l1.map Lease.c)), (8, .list 7 (l1.map Lease.c)), (9, .int .i64 (l1.length : Int)), (10, .int .i64 v1), (24, .bool r2)] (by show ([0, 8, 9, 10, 24] : List Nat).Nodup; decide) (by show ([] : List Nat).Nodup; decide) ?_ ?_ (fun t0 => ⟨r2, t0, H, rfl⟩)
        ·exact trivial
        ·(simp only [AllT, ATT, reduceEqDiff, ↓reduceIte, and_true]); exact ⟨(.lst _ _ _ Lease.pu rfl), (.lst _ _ _ Lease.pu rfl), (.int' rfl), (.int' rfl), (.bool' rfl)⟩
      ·rintro s ⟨v2, t0, H, rfl⟩
       unfold lease_Right_J2 at H
       refine a_condb (v2) (by rfl) (fun zc3 => ?_) (fun zc3 => ?_)
       ·have H := cond_t zc3 H
        refine a_seq ?_
        refine a_reg _ rfl (s := ?zs8) ?_ ?_
        rotate_left
        ·simp only [EVT, stepR, evOp, St.ev, St.app, St.put, wrs, datOf, datOf1, TIS, CS, reduceAdd, reduceMul, reduceEqDiff, ↓reduceIte, reduceCtorEq, reduceLT, reduceLeDiff, ↓zc3]
         (repeat' apply And.intro) <;> first|rfl|assumption|omega|(simp;done)|(simp;omega)|(simp_all;done)
        refine sA_n ?_
        refine a_ret ?_
        refine bA_r ?_
        refine sA_r ?_
        refine lA_r ?_
        refine bA_r ?_
        refine cA_r ?_
        obtain rfl := Option.some.inj H
        refine e_r2 (d := ?zd3) ?_ ?_
        rotate_left
        ·simp only [EVT, resR, single, evLoad, cut, TIS, CS, reduceAdd, reduceEqDiff, ↓reduceIte, reduceCtorEq, reduceLT, reduceLeDiff, reduceSub, Nat.reduceBEq, zc3]
         (repeat' apply And.intro) <;> first | rfl | assumption | omega | (simp; done)
        exact (.bool' (by first | rfl | assumption | (simp_all; done)))
       ·have H := cond_f zc3 H
        refine a_skip ?_
        refine bA_n ?_
        refine sA_n ?_
        refine a_reg _ rfl (s := ?zs9) ?_ ?_
        rotate_left
        ·simp only [EVT, stepR, evOp, St.ev, St.app, St.put, wrs, datOf, datOf1, evBin, binInt, TIS, CS, reduceAdd, reduceMul, reduceEqDiff, ↓reduceIte, reduceCtorEq, reduceLT, reduceLeDiff, ↓zc3]
         (repeat' apply And.intro) <;> first|rfl|assumption|omega|(simp;done)|(simp;omega)|(simp_all;done)
        refine lA_n ?_
        refine wk_l [] [] [(0, .list 7 (l1.map Lease.c)), (8, .list 7 (l1.map Lease.c)), (9, .int .i64 (l1.length : Int)), (10, .int .i64 (IntKind.wrap .i64 (v1 + 1)))] (by show ([0, 8, 9, 10] : List Nat).Nodup; decide) (by show ([] : List Nat).Nodup; decide) ?_ ?_ (fun t0 => ⟨_, Nat.lt_succ_self _, (IntKind.wrap .i64 (v1 + 1)), t0, H, rfl⟩)
        ·exact trivial
        ·(simp only [AllT, ATT, reduceEqDiff, ↓reduceIte, and_true]); exact ⟨(.lst _ _ _ Lease.pu rfl), (.lst _ _ _ Lease.pu rfl), (.int' rfl), (.int' rfl)⟩
     ·have H := cond_f zc2 H
      refine a_exit ?_
      refine sA_e ?_
      refine lA_e ?_
      refine bA_hit ?_
      refine cA_n ?_
      refine wk_l [] [] [] (by show ([] : List Nat).Nodup; decide) (by show ([] : List Nat).Nodup; decide) ?_ ?_ (fun t0 => ⟨t0, H, rfl⟩)
      ·exact trivial
      ·exact trivial
  ·rintro s ⟨t0, H, rfl⟩
   unfold lease_Right_J1 at H
   refine a_seq ?_
   refine a_reg _ rfl (s := ?zs4) ?_ ?_
   rotate_left
   ·simp only [EVT, stepR, evOp, St.ev, St.app, St.put, wrs, datOf, datOf1, TIS, CS, reduceAdd, reduceMul, reduceEqDiff, ↓reduceIte, reduceCtorEq, reduceLT, reduceLeDiff]
    (repeat' apply And.intro) <;> first|rfl|assumption|omega|(simp;done)|(simp;omega)|(simp_all;done)
   refine sA_n ?_
   refine a_ret ?_
   obtain rfl := Option.some.inj H
   refine e_r2 (d := ?zd2) ?_ ?_
   rotate_left
   ·simp only [EVT, resR, single, evLoad, cut, TIS, CS, reduceAdd, reduceEqDiff, ↓reduceIte, reduceCtorEq, reduceLT, reduceLeDiff, reduceSub, Nat.reduceBEq]
    (repeat' apply And.intro) <;> first | rfl | assumption | omega | (simp; done)
   exact (.bool' (by first | rfl | assumption | (simp_all; done)))
end
end Go.Proofs.Ytogickapcbibbaa
