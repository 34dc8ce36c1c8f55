/- Functions of the program as Lean functions, and that they are so; printed by a program of mine. -/
import Derived.Test.YtifkepfcjhebfaaF1
set_option linter.unusedSimpArgs false
set_option linter.unusedVariables false
namespace Go.Proofs.Ytifkepfcjhebfaa
open Go.Ab
open Nat (reduceAdd reduceMul reduceEqDiff reduceLT reduceLeDiff reduceSub)
noncomputable section

def pack_numbers_J1 (out1 : List Int) : Option (List Int) :=
 some (out1)
def pack_numbers_L1 (l1 : List Int) : Nat → (List Int) → Int → Option (List Int)
 | 0, _, _ => none
 | m_ + 1, out2, v1 => cond (decide (v1 < (l1.length : Int))) ((idx l1 v1).bind fun x1 => (pack_Int_f x1).bind fun r1 => chk ((out2.length + r1.length) * 1 ≤ 140737488355328) (pack_numbers_L1 l1 m_ (out2 ++ r1) (IntKind.wrap .i64 (v1 + 1)))) (pack_numbers_J1 out2)
def pack_numbers_f (l1 : List Int) : Option (List Int) :=
 pack_numbers_L1 l1 BIG [] 0
set_option maxHeartbeats 4000000 in
set_option maxRecDepth 20000 in
theorem pack_numbers_rc {l1 : List Int} {r : (List Int)} (H : pack_numbers_f l1 = some r) : RC Try.prog 38 [.list 1 (l1.map (ci .i64))] [] 0 (.ref 0 0 r.length 1) [some ⟨5, 1, false, r.map (ci .u8)⟩] := by
 refine rcA_of Try.func38 (by rfl) (by decide) 18 (by rfl) [.tmp 2] (by rfl) ?_
 unfold pack_numbers_f at H
 simp only [hent, List.length_cons, List.length_nil, reduceAdd]
 refine a_seq ?_
 refine a_reg _ rfl (s := ?zs1) ?_ ?_
 rotate_left
 ·simp only [EVT, stepR, evOp, St.ev, St.app, St.put, wrs, datOf, datOf1, TIS, CS, reduceAdd, reduceMul, reduceEqDiff, ↓reduceIte, reduceCtorEq, reduceLT, reduceLeDiff]
  (repeat' apply And.intro) <;> first|rfl|assumption|omega|(simp;done)|(simp;omega)|(simp_all;done)
 refine sA_n ?_
 refine a_seq ?_
 refine a_reg _ rfl (s := ?zs2) ?_ ?_
 rotate_left
 ·simp only [EVT, stepR, evOp, St.ev, St.app, St.put, wrs, datOf, datOf1, TIS, CS, reduceAdd, reduceMul, reduceEqDiff, ↓reduceIte, reduceCtorEq, reduceLT, reduceLeDiff]
  (repeat' apply And.intro) <;> first|rfl|assumption|omega|(simp;done)|(simp;omega)|(simp_all;done)
 refine sA_n ?_
 refine a_cut (fun s => ∃ (out1 : List Int) (t0 : Nat → Dat), pack_numbers_J1 out1 = some r ∧ s = ⟨tl t0 [(3, .ref 0 0 out1.length 1)], hl [⟨5, 1, false, out1.map (ci .u8)⟩], 1, 18⟩) ?_ ?_
 ·refine a_seq ?_
  refine a_reg _ rfl (s := ?zs4) ?_ ?_
  rotate_left
  ·simp only [EVT, stepR, evOp, St.ev, St.app, St.put, wrs, evBuiltin, datOf, datOf1, TIS, CS, reduceAdd, reduceMul, reduceEqDiff, ↓reduceIte, reduceCtorEq, reduceLT, reduceLeDiff, reduceSub, Nat.reduceBEq]
   (repeat' apply And.intro) <;> first|rfl|assumption|omega|(simp;done)|(simp;omega)|(simp_all;done)
  refine sA_n ?_
  refine a_blk ?_
  refine a_loop (fun m s => ∃ (out2 : List Int) (v1 : Int) (t0 : Nat → Dat), pack_numbers_L1 l1 m out2 v1 = some r ∧ s = ⟨tl t0 [(3, .ref 0 0 out2.length 1), (6, .list 1 (l1.map (ci .i64))), (7, .int .i64 (l1.length : Int)), (8, .int .i64 v1)], hl [⟨5, 1, false, out2.map (ci .u8)⟩], 1, 18⟩) BIG ?_ ?_
  ·refine wk_l [(none, ⟨5, 1, false, [].map (ci .u8)⟩)] [] [(3, .ref 0 0 [].length 1), (6, .list 1 (l1.map (ci .i64))), (7, .int .i64 (l1.length : Int)), (8, .int .i64 0)] (by show ([3, 6, 7, 8] : List Nat).Nodup; decide) (by show ([] : List Nat).Nodup; decide) ?_ ?_ (fun t0 => ⟨[], 0, t0, H, rfl⟩)
   ·exact (allB_none rfl trivial)
   ·(simp only [AllT, tl_cons, tl_nil, upd_apply, List.getD_cons_zero, List.getD_cons_succ, reduceEqDiff, ↓reduceIte, and_true]); exact ⟨(.nilv _ _ rfl rfl), (.lst _ _ _ (ci_pu .i64) rfl), (.int' rfl), (.int' rfl)⟩
  ·rintro m_pack_numbers_L1 s ⟨out2, v1, t0, H, rfl⟩
   obtain _ | m_pack_numbers_L1 := m_pack_numbers_L1
   ·cases (show (none : Option _) = some _ from H)
   ·rw [pack_numbers_L1] at H
    refine a_seq ?_
    refine a_reg _ rfl (s := ?zs5) ?_ ?_
    rotate_left
    ·simp only [EVT, stepR, evOp, St.ev, St.app, St.put, wrs, evBin, binInt, TIS, CS, reduceAdd, reduceMul, reduceEqDiff, ↓reduceIte, reduceCtorEq, reduceLT, reduceLeDiff]
     (repeat' apply And.intro) <;> first|rfl|assumption|omega|(simp;done)|(simp;omega)|(simp_all;done)
    refine sA_n ?_
    refine a_seq ?_
    refine a_condb ((decide (v1 < (l1.length : Int)))) (by rfl) (fun zc1 => ?_) (fun zc1 => ?_)
    ·have H := cond_t zc1 H
     refine a_skip ?_
     refine sA_n ?_
     refine a_seq ?_
     refine a_blk ?_
     refine a_seq ?_
     obtain ⟨x1, zh1, H⟩ := bind_some H
     have zg1 := idx_map zh1 (ci .i64)
     try simp only [Int.reduceToNat] at zg1
     obtain ⟨zh1a, zh1b, _⟩ := idx_some zh1
     refine a_reg _ rfl (s := ?zs6) ?_ ?_
     rotate_left
     ·simp only [EVT, stepR, evOp, St.ev, St.app, St.put, wrs, evIndexAddr, evLoad, cut, TIS, CS, reduceAdd, reduceMul, reduceEqDiff, ↓reduceIte, reduceCtorEq, reduceLT, reduceLeDiff, Int.reduceToNat, reduceSub, Nat.reduceBEq, ↓zc1, zg1]
      (repeat' apply And.intro) <;> first|rfl|assumption|omega|(simp;done)|(simp;omega)|(simp_all;done)
     refine sA_n ?_
     obtain ⟨r1, zh2, H⟩ := bind_some H
     have zk1 := pack_Int_rc zh2
     obtain ⟨zh3, H⟩ := chk_some H
     refine a_reg _ rfl (s := ?zs7) ?_ ?_
     rotate_left
     ·try simp only [EVT, stepR, evOp, St.ev, St.app, St.put, wrs, frz, evBuiltin, evAppend, elems, Option.elim, TIS, CS, reduceAdd, reduceMul, reduceEqDiff, ↓reduceIte, reduceCtorEq, reduceLT, reduceLeDiff, reduceSub, Nat.reduceBEq, ↓zc1, zg1]
      repeat' with_reducible apply And.intro
      all_goals try ((with_reducible show CallR _ _ _ _ _ _ _); refine callR_rcw (r' := .ref 35 0 r1.length 1) [(35, some ⟨5, 1, false, r1.map (ci .u8)⟩)] [] [] [(35, 0, ⟨5, 1, false, r1.map (ci .u8)⟩)] rfl zk1 (by simp) (by show ([] : List Nat).Nodup; decide) trivial (.cons (.int' rfl) .nil) (by show ([35] : List Nat).Nodup; decide) (by show ([0] : List Nat).Nodup; decide) ⟨.inr ⟨rfl, by decide⟩, ⟨_, rfl, ⟨rfl, rfl, rfl, rfl⟩, .same _ _ (ci_pu .u8) rfl⟩, trivial⟩ (.refl' rfl rfl) ?_; simp only [EVT, stepR, evOp, St.ev, St.app, St.put, wrs, frz, evBuiltin, evAppend, elems, Option.elim, TIS, CS, reduceAdd, reduceMul, reduceEqDiff, ↓reduceIte, reduceCtorEq, reduceLT, reduceLeDiff, reduceSub, Nat.reduceBEq, ↓zc1, zg1])
      all_goals ((repeat' apply And.intro) <;> first|rfl|assumption|omega|(simp;done)|(simp;omega)|(simp_all;done))
     refine bA_n ?_
     refine sA_n ?_
     refine a_reg _ rfl (s := ?zs8) ?_ ?_
     rotate_left
     ·simp only [EVT, stepR, evOp, St.ev, St.app, St.put, wrs, datOf, datOf1, evBin, binInt, TIS, CS, reduceAdd, reduceMul, reduceEqDiff, ↓reduceIte, reduceCtorEq, reduceLT, reduceLeDiff, ↓zc1, zg1]
      (repeat' apply And.intro) <;> first|rfl|assumption|omega|(simp;done)|(simp;omega)|(simp_all;done)
     refine lA_n ?_
     refine wk_l [(some 36, ⟨5, 1, false, (out2 ++ r1).map (ci .u8)⟩)] [] [(3, .ref 0 0 (out2 ++ r1).length 1), (6, .list 1 (l1.map (ci .i64))), (7, .int .i64 (l1.length : Int)), (8, .int .i64 (IntKind.wrap .i64 (v1 + 1)))] (by show ([3, 6, 7, 8] : List Nat).Nodup; decide) (by show ([36] : List Nat).Nodup; decide) ?_ ?_ (fun t0 => ⟨_, Nat.lt_succ_self _, (out2 ++ r1), (IntKind.wrap .i64 (v1 + 1)), t0, H, rfl⟩)
     ·exact (allB_some (by rfl) rfl (.same _ _ (ci_pu .u8) (by first | rfl | (simp only [MPT, CS,  List.nil_append]; done) | (simp [CS,  ci_eq, cb_eq, cs_eq, cl_eq]; done) | (simp [CS,  ci_eq, cb_eq, cs_eq, cl_eq]; intro hz; rw [List.take_of_length_le (by simp; omega)]))) trivial)
     ·(simp only [AllT, tl_cons, tl_nil, upd_apply, List.getD_cons_zero, List.getD_cons_succ, reduceEqDiff, ↓reduceIte, and_true]); exact ⟨(.refl' (by first | rfl | omega | (simp; done) | (simp [strBytes_len]; done) | (simp; omega) | (simp_all; done)) rfl), (.lst _ _ _ (ci_pu .i64) rfl), (.int' rfl), (.int' rfl)⟩
    ·have H := cond_f zc1 H
     refine a_exit ?_
     refine sA_e ?_
     refine lA_e ?_
     refine bA_hit ?_
     refine cA_n ?_
     refine wk_l [(some 0, ⟨5, 1, false, out2.map (ci .u8)⟩)] [] [(3, .ref 0 0 out2.length 1)] (by show ([3] : List Nat).Nodup; decide) (by show ([0] : List Nat).Nodup; decide) ?_ ?_ (fun t0 => ⟨out2, t0, H, rfl⟩)
     ·exact (allB_some (by rfl) rfl (.same _ _ (ci_pu .u8) (by first | rfl | (simp only [MPT, CS,  List.nil_append]; done) | (simp [CS,  ci_eq, cb_eq, cs_eq, cl_eq]; done) | (simp [CS,  ci_eq, cb_eq, cs_eq, cl_eq]; intro hz; rw [List.take_of_length_le (by simp; omega)]))) trivial)
     ·(simp only [AllT, tl_cons, tl_nil, upd_apply, List.getD_cons_zero, List.getD_cons_succ, reduceEqDiff, ↓reduceIte, and_true]); exact (.refl' (by first | rfl | omega | (simp; done) | (simp [strBytes_len]; done) | (simp; omega) | (simp_all; done)) rfl)
 ·rintro s ⟨out1, t0, H, rfl⟩
  unfold pack_numbers_J1 at H
  refine a_seq ?_
  refine a_reg _ rfl (s := ?zs3) ?_ ?_
  rotate_left
  ·simp only [EVT, stepR, evOp, St.ev, St.app, St.put, wrs, TIS, CS, reduceAdd, reduceMul, reduceEqDiff, ↓reduceIte, reduceCtorEq, reduceLT, reduceLeDiff]
   (repeat' apply And.intro) <;> first|rfl|assumption|omega|(simp;done)|(simp;omega)|(simp_all;done)
  refine sA_n ?_
  refine a_ret ?_
  obtain rfl := Option.some.inj H
  refine eR_r ?_
  refine wk_ln 0 [(some 0, ⟨5, 1, false, out1.map (ci .u8)⟩)] [] [(2, .ref 0 0 out1.length 1)] (fun i h => absurd h (Nat.not_lt_zero i)) (by show ([2] : List Nat).Nodup; decide) (by show ([0] : List Nat).Nodup; decide) ?_ ?_ (fun t0 => ⟨by first | rfl | (simp only [EVT, resR, single, evLoad, cut, TIS, CS, reduceAdd, reduceEqDiff, ↓reduceIte, reduceCtorEq, reduceLT, reduceLeDiff, reduceSub, Nat.reduceBEq]; (repeat' apply And.intro) <;> first | rfl | (simp; done)), fun j B h => by rcases j with _ | _ <;> first | exact h | (exact absurd h (by simp [hh]))⟩)
  ·exact (allB_some (by rfl) rfl (.same _ _ (ci_pu .u8) (by first | rfl | (simp only [MPT, CS,  List.nil_append]; done) | (simp [CS,  ci_eq, cb_eq, cs_eq, cl_eq]; done) | (simp [CS,  ci_eq, cb_eq, cs_eq, cl_eq]; intro hz; rw [List.take_of_length_le (by simp; omega)]))) trivial)
  ·(simp only [AllT, tl_cons, tl_nil, upd_apply, List.getD_cons_zero, List.getD_cons_succ, reduceEqDiff, ↓reduceIte, and_true]); exact (.refl' (by first | rfl | omega | (simp; done) | (simp [strBytes_len]; done) | (simp; omega) | (simp_all; done)) rfl)
theorem pack_numbers_pc {l1 : List Int} {r : (List Int)} (H : pack_numbers_f l1 = some r) : PC Try.prog 38 [.list 1 (l1.map (ci .i64))] (.list 1 (r.map (ci .u8))) := rc_pc (pack_numbers_rc H) (.ownL rfl (fun e => by cases e) rfl (List.length_map _).symm (.same _ _ (ci_pu .u8) rfl))
def ref01_all_J1 (out1 : List Int) : Option (List Int) :=
 some (out1)
def ref01_all_L1 (l1 : List (List Int)) : Nat → (List Int) → Int → Option (List Int)
 | 0, _, _ => none
 | m_ + 1, out2, i1 => cond (decide (i1 < (l1.length : Int))) ((idx l1 i1).bind fun x1 => chk ((out2.length + x1.length) * 1 ≤ 140737488355328) (ref01_all_L1 l1 m_ (out2 ++ x1) (IntKind.wrap .i64 (i1 + 1)))) (ref01_all_J1 out2)
def ref01_all_f (l1 : List (List Int)) : Option (List Int) :=
 ref01_all_L1 l1 BIG ([] : List Int) 0
set_option maxHeartbeats 4000000 in
set_option maxRecDepth 20000 in
theorem ref01_all_rc {l1 : List (List Int)} {r : (List Int)} (H : ref01_all_f l1 = some r) : RC Try.prog 40 [.list 1 (l1.map (cl 1 (ci .u8)))] [] 0 (.ref 0 0 r.length 1) [some ⟨5, 1, false, r.map (ci .u8)⟩] := by
 refine rcA_of Try.func40 (by rfl) (by decide) 19 (by rfl) [.tmp 2] (by rfl) ?_
 unfold ref01_all_f at H
 simp only [hent, List.length_cons, List.length_nil, reduceAdd]
 refine a_seq ?_
 refine a_reg _ rfl (s := ?zs1) ?_ ?_
 rotate_left
 ·simp only [EVT, stepR, evOp, St.ev, St.app, St.put, wrs, datOf, datOf1, TIS, CS, reduceAdd, reduceMul, reduceEqDiff, ↓reduceIte, reduceCtorEq, reduceLT, reduceLeDiff]
  (repeat' apply And.intro) <;> first|rfl|assumption|omega|(simp;done)|(simp;omega)|(simp_all;done)
 refine sA_n ?_
 refine a_seq ?_
 refine a_reg _ rfl (s := ?zs2) ?_ ?_
 rotate_left
 ·simp only [EVT, stepR, evOp, St.ev, St.app, St.put, wrs, allOne, TIS, CS, reduceAdd, reduceMul, reduceEqDiff, ↓reduceIte, reduceCtorEq, reduceLT, reduceLeDiff, reduceSub, Nat.reduceBEq]
  (repeat' apply And.intro) <;> first|rfl|assumption|omega|(simp;done)|(simp;omega)|(simp_all;done)
 refine sA_n ?_
 refine a_cut (fun s => ∃ (out1 : List Int) (t0 : Nat → Dat), ref01_all_J1 out1 = some r ∧ s = ⟨tl t0 [(3, .ref 0 0 out1.length 1)], hl [⟨5, 1, false, out1.map (ci .u8)⟩], 1, 19⟩) ?_ ?_
 ·refine a_seq ?_
  refine a_reg _ rfl (s := ?zs4) ?_ ?_
  rotate_left
  ·simp only [EVT, stepR, evOp, St.ev, St.app, St.put, wrs, datOf, datOf1, TIS, CS, reduceAdd, reduceMul, reduceEqDiff, ↓reduceIte, reduceCtorEq, reduceLT, reduceLeDiff]
   (repeat' apply And.intro) <;> first|rfl|assumption|omega|(simp;done)|(simp;omega)|(simp_all;done)
  refine sA_n ?_
  refine a_blk ?_
  refine a_loop (fun m s => ∃ (out2 : List Int) (i1 : Int) (t0 : Nat → Dat), ref01_all_L1 l1 m out2 i1 = some r ∧ s = ⟨tl t0 [(0, .list 1 (l1.map (cl 1 (ci .u8)))), (3, .ref 0 0 out2.length 1), (4, .int .i64 i1)], hl [⟨5, 1, false, out2.map (ci .u8)⟩], 1, 19⟩) BIG ?_ ?_
  ·refine wk_l [(some 8, ⟨5, 1, false, ([] : List Int).map (ci .u8)⟩)] [] [(0, .list 1 (l1.map (cl 1 (ci .u8)))), (3, .ref 0 0 ([] : List Int).length 1), (4, .int .i64 0)] (by show ([0, 3, 4] : List Nat).Nodup; decide) (by show ([8] : List Nat).Nodup; decide) ?_ ?_ (fun t0 => ⟨([] : List Int), 0, t0, H, rfl⟩)
   ·exact (allB_some (by rfl) rfl (.same _ _ (ci_pu .u8) (by first | rfl | (simp only [MPT, CS,  List.nil_append]; done) | (simp [CS,  ci_eq, cb_eq, cs_eq, cl_eq]; done) | (simp [CS,  ci_eq, cb_eq, cs_eq, cl_eq]; intro hz; rw [List.take_of_length_le (by simp; omega)]))) trivial)
   ·(simp only [AllT, tl_cons, tl_nil, upd_apply, List.getD_cons_zero, List.getD_cons_succ, reduceEqDiff, ↓reduceIte, and_true]); exact ⟨(.lst _ _ _ (cl_pu (ci_pu .u8)) rfl), (.refl' (by first | rfl | omega | (simp; done) | (simp [strBytes_len]; done) | (simp; omega) | (simp_all; done)) rfl), (.int' rfl)⟩
  ·rintro m_ref01_all_L1 s ⟨out2, i1, t0, H, rfl⟩
   obtain _ | m_ref01_all_L1 := m_ref01_all_L1
   ·cases (show (none : Option _) = some _ from H)
   ·rw [ref01_all_L1] at H
    refine a_seq ?_
    refine a_seq ?_
    refine a_reg _ rfl (s := ?zs5) ?_ ?_
    rotate_left
    ·simp only [EVT, stepR, evOp, St.ev, St.app, St.put, wrs, evBuiltin, evBin, binInt, TIS, CS, reduceAdd, reduceMul, reduceEqDiff, ↓reduceIte, reduceCtorEq, reduceLT, reduceLeDiff, reduceSub, Nat.reduceBEq]
     (repeat' apply And.intro) <;> first|rfl|assumption|omega|(simp;done)|(simp;omega)|(simp_all;done)
    refine sA_n ?_
    refine a_condb ((decide (i1 < (l1.length : Int)))) (by rfl) (fun zc1 => ?_) (fun zc1 => ?_)
    ·have H := cond_t zc1 H
     refine a_skip ?_
     refine sA_n ?_
     refine a_seq ?_
     refine a_blk ?_
     obtain ⟨x1, zh1, H⟩ := bind_some H
     have zg1 := idx_map zh1 (cl 1 (ci .u8))
     try simp only [Int.reduceToNat] at zg1
     obtain ⟨zh1a, zh1b, _⟩ := idx_some zh1
     obtain ⟨zh2, H⟩ := chk_some H
     refine a_reg _ rfl (s := ?zs6) ?_ ?_
     rotate_left
     ·simp only [EVT, stepR, evOp, St.ev, St.app, St.put, wrs, evIndexAddr, evLoad, cut, evBuiltin, evAppend, elems, Option.elim, TIS, CS, reduceAdd, reduceMul, reduceEqDiff, ↓reduceIte, reduceCtorEq, reduceLT, reduceLeDiff, Int.reduceToNat, reduceSub, Nat.reduceBEq, ↓zc1, zg1]
      (repeat' apply And.intro) <;> first|rfl|assumption|omega|(simp;done)|(simp;omega)|(simp_all;done)
     refine bA_n ?_
     refine sA_n ?_
     refine a_reg _ rfl (s := ?zs7) ?_ ?_
     rotate_left
     ·simp only [EVT, stepR, evOp, St.ev, St.app, St.put, wrs, datOf, datOf1, evBin, binInt, TIS, CS, reduceAdd, reduceMul, reduceEqDiff, ↓reduceIte, reduceCtorEq, reduceLT, reduceLeDiff, ↓zc1, zg1]
      (repeat' apply And.intro) <;> first|rfl|assumption|omega|(simp;done)|(simp;omega)|(simp_all;done)
     refine lA_n ?_
     refine wk_l [(some 38, ⟨5, 1, false, (out2 ++ x1).map (ci .u8)⟩)] [] [(0, .list 1 (l1.map (cl 1 (ci .u8)))), (3, .ref 0 0 (out2 ++ x1).length 1), (4, .int .i64 (IntKind.wrap .i64 (i1 + 1)))] (by show ([0, 3, 4] : List Nat).Nodup; decide) (by show ([38] : List Nat).Nodup; decide) ?_ ?_ (fun t0 => ⟨_, Nat.lt_succ_self _, (out2 ++ x1), (IntKind.wrap .i64 (i1 + 1)), t0, H, rfl⟩)
     ·exact (allB_some (by rfl) rfl (.same _ _ (ci_pu .u8) (by first | rfl | (simp only [MPT, CS,  List.nil_append]; done) | (simp [CS,  ci_eq, cb_eq, cs_eq, cl_eq]; done) | (simp [CS,  ci_eq, cb_eq, cs_eq, cl_eq]; intro hz; rw [List.take_of_length_le (by simp; omega)]))) trivial)
     ·(simp only [AllT, tl_cons, tl_nil, upd_apply, List.getD_cons_zero, List.getD_cons_succ, reduceEqDiff, ↓reduceIte, and_true]); exact ⟨(.lst _ _ _ (cl_pu (ci_pu .u8)) rfl), (.refl' (by first | rfl | omega | (simp; done) | (simp [strBytes_len]; done) | (simp; omega) | (simp_all; done)) rfl), (.int' rfl)⟩
    ·have H := cond_f zc1 H
     refine a_exit ?_
     refine sA_e ?_
     refine lA_e ?_
     refine bA_hit ?_
     refine cA_n ?_
     refine wk_l [(some 0, ⟨5, 1, false, out2.map (ci .u8)⟩)] [] [(3, .ref 0 0 out2.length 1)] (by show ([3] : List Nat).Nodup; decide) (by show ([0] : List Nat).Nodup; decide) ?_ ?_ (fun t0 => ⟨out2, t0, H, rfl⟩)
     ·exact (allB_some (by rfl) rfl (.same _ _ (ci_pu .u8) (by first | rfl | (simp only [MPT, CS,  List.nil_append]; done) | (simp [CS,  ci_eq, cb_eq, cs_eq, cl_eq]; done) | (simp [CS,  ci_eq, cb_eq, cs_eq, cl_eq]; intro hz; rw [List.take_of_length_le (by simp; omega)]))) trivial)
     ·(simp only [AllT, tl_cons, tl_nil, upd_apply, List.getD_cons_zero, List.getD_cons_succ, reduceEqDiff, ↓reduceIte, and_true]); exact (.refl' (by first | rfl | omega | (simp; done) | (simp [strBytes_len]; done) | (simp; omega) | (simp_all; done)) rfl)
 ·rintro s ⟨out1, t0, H, rfl⟩
  unfold ref01_all_J1 at H
  refine a_seq ?_
  refine a_reg _ rfl (s := ?zs3) ?_ ?_
  rotate_left
  ·simp only [EVT, stepR, evOp, St.ev, St.app, St.put, wrs, TIS, CS, reduceAdd, reduceMul, reduceEqDiff, ↓reduceIte, reduceCtorEq, reduceLT, reduceLeDiff]
   (repeat' apply And.intro) <;> first|rfl|assumption|omega|(simp;done)|(simp;omega)|(simp_all;done)
  refine sA_n ?_
  refine a_ret ?_
  obtain rfl := Option.some.inj H
  refine eR_r ?_
  refine wk_ln 0 [(some 0, ⟨5, 1, false, out1.map (ci .u8)⟩)] [] [(2, .ref 0 0 out1.length 1)] (fun i h => absurd h (Nat.not_lt_zero i)) (by show ([2] : List Nat).Nodup; decide) (by show ([0] : List Nat).Nodup; decide) ?_ ?_ (fun t0 => ⟨by first | rfl | (simp only [EVT, resR, single, evLoad, cut, TIS, CS, reduceAdd, reduceEqDiff, ↓reduceIte, reduceCtorEq, reduceLT, reduceLeDiff, reduceSub, Nat.reduceBEq]; (repeat' apply And.intro) <;> first | rfl | (simp; done)), fun j B h => by rcases j with _ | _ <;> first | exact h | (exact absurd h (by simp [hh]))⟩)
  ·exact (allB_some (by rfl) rfl (.same _ _ (ci_pu .u8) (by first | rfl | (simp only [MPT, CS,  List.nil_append]; done) | (simp [CS,  ci_eq, cb_eq, cs_eq, cl_eq]; done) | (simp [CS,  ci_eq, cb_eq, cs_eq, cl_eq]; intro hz; rw [List.take_of_length_le (by simp; omega)]))) trivial)
  ·(simp only [AllT, tl_cons, tl_nil, upd_apply, List.getD_cons_zero, List.getD_cons_succ, reduceEqDiff, ↓reduceIte, and_true]); exact (.refl' (by first | rfl | omega | (simp; done) | (simp [strBytes_len]; done) | (simp; omega) | (simp_all; done)) rfl)
theorem ref01_all_pc {l1 : List (List Int)} {r : (List Int)} (H : ref01_all_f l1 = some r) : PC Try.prog 40 [.list 1 (l1.map (cl 1 (ci .u8)))] (.list 1 (r.map (ci .u8))) := rc_pc (ref01_all_rc H) (.ownL rfl (fun e => by cases e) rfl (List.length_map _).symm (.same _ _ (ci_pu .u8) rfl))
def pack_Str_f (s1 : ByteArray) : Option (List Int) :=
 (pack_Int_f (s1.size : Int)).bind fun r1 => chk ((r1.length + s1.size) * 1 ≤ 140737488355328) (some ((r1 ++ (strBytes s1))))
set_option maxHeartbeats 4000000 in
set_option maxRecDepth 20000 in
theorem pack_Str_rc {s1 : ByteArray} {r : (List Int)} (H : pack_Str_f s1 = some r) : RC Try.prog 22 [.str s1] [] 0 (.ref 0 0 r.length 1) [some ⟨5, 1, false, r.map (ci .u8)⟩] := by
 refine rcA_of Try.func22 (by rfl) (by decide) 8 (by rfl) [.tmp 2] (by rfl) ?_
 unfold pack_Str_f at H
 simp only [hent, List.length_cons, List.length_nil, reduceAdd]
 refine a_seq ?_
 refine a_reg _ rfl (s := ?zs1) ?_ ?_
 rotate_left
 ·simp only [EVT, stepR, evOp, St.ev, St.app, St.put, wrs, datOf, datOf1, TIS, CS, reduceAdd, reduceMul, reduceEqDiff, ↓reduceIte, reduceCtorEq, reduceLT, reduceLeDiff]
  (repeat' apply And.intro) <;> first|rfl|assumption|omega|(simp;done)|(simp;omega)|(simp_all;done)
 refine sA_n ?_
 refine a_seq ?_
 obtain ⟨r1, zh1, H⟩ := bind_some H
 have zk1 := pack_Int_rc zh1
 obtain ⟨zh2, H⟩ := chk_some H
 refine a_reg _ rfl (s := ?zs2) ?_ ?_
 rotate_left
 ·try simp only [EVT, stepR, evOp, St.ev, St.app, St.put, wrs, evBuiltin, frz, evAppend, elems, Option.elim, TIS, othE, evAppStr, strCells_eq, strBytes_len, CS, reduceAdd, reduceMul, reduceEqDiff, ↓reduceIte, reduceCtorEq, reduceLT, reduceLeDiff, reduceSub, Nat.reduceBEq]
  repeat' with_reducible apply And.intro
  all_goals try ((with_reducible show CallR _ _ _ _ _ _ _); refine callR_rcw (r' := .ref 10 0 r1.length 1) [(10, some ⟨5, 1, false, r1.map (ci .u8)⟩)] [] [] [(10, 0, ⟨5, 1, false, r1.map (ci .u8)⟩)] rfl zk1 (by simp) (by show ([] : List Nat).Nodup; decide) trivial (.cons (.int' rfl) .nil) (by show ([10] : List Nat).Nodup; decide) (by show ([0] : List Nat).Nodup; decide) ⟨.inr ⟨rfl, by decide⟩, ⟨_, rfl, ⟨rfl, rfl, rfl, rfl⟩, .same _ _ (ci_pu .u8) rfl⟩, trivial⟩ (.refl' rfl rfl) ?_; simp only [EVT, stepR, evOp, St.ev, St.app, St.put, wrs, evBuiltin, frz, evAppend, elems, Option.elim, TIS, othE, evAppStr, strCells_eq, strBytes_len, CS, reduceAdd, reduceMul, reduceEqDiff, ↓reduceIte, reduceCtorEq, reduceLT, reduceLeDiff, reduceSub, Nat.reduceBEq])
  repeat' with_reducible apply And.intro
  all_goals try ((with_reducible show OthR _ _ _ _ _); refine oth_appstr rfl rfl Try.underlying9 ?_; simp only [EVT, stepR, evOp, St.ev, St.app, St.put, wrs, evBuiltin, frz, evAppend, elems, Option.elim, TIS, othE, evAppStr, strCells_eq, strBytes_len, CS, reduceAdd, reduceMul, reduceEqDiff, ↓reduceIte, reduceCtorEq, reduceLT, reduceLeDiff, reduceSub, Nat.reduceBEq])
  all_goals ((repeat' apply And.intro) <;> first|rfl|assumption|omega|(simp;done)|(simp;omega)|(simp_all;done))
 refine sA_n ?_
 refine a_ret ?_
 obtain rfl := Option.some.inj H
 refine eR_r ?_
 refine wk_ln 0 [(some 12, ⟨5, 1, false, (r1 ++ (strBytes s1)).map (ci .u8)⟩)] [] [(2, .ref 0 0 (r1 ++ (strBytes s1)).length 1)] (fun i h => absurd h (Nat.not_lt_zero i)) (by show ([2] : List Nat).Nodup; decide) (by show ([12] : List Nat).Nodup; decide) ?_ ?_ (fun t0 => ⟨by first | rfl | (simp only [EVT, resR, single, evLoad, cut, TIS, CS, reduceAdd, reduceEqDiff, ↓reduceIte, reduceCtorEq, reduceLT, reduceLeDiff, reduceSub, Nat.reduceBEq]; (repeat' apply And.intro) <;> first | rfl | (simp; done)), fun j B h => by rcases j with _ | _ <;> first | exact h | (exact absurd h (by simp [hh]))⟩)
 ·exact (allB_some (by rfl) rfl (.same _ _ (ci_pu .u8) (by first | rfl | (simp only [MPT, CS,  List.nil_append]; done) | (simp [CS,  ci_eq, cb_eq, cs_eq, cl_eq]; done) | (simp [CS,  ci_eq, cb_eq, cs_eq, cl_eq]; intro hz; rw [List.take_of_length_le (by simp; omega)]))) trivial)
 ·(simp only [AllT, tl_cons, tl_nil, upd_apply, List.getD_cons_zero, List.getD_cons_succ, reduceEqDiff, ↓reduceIte, and_true]); exact (.refl' (by first | rfl | omega | (simp; done) | (simp [strBytes_len]; done) | (simp; omega) | (simp_all; done)) rfl)
theorem pack_Str_pc {s1 : ByteArray} {r : (List Int)} (H : pack_Str_f s1 = some r) : PC Try.prog 22 [.str s1] (.list 1 (r.map (ci .u8))) := rc_pc (pack_Str_rc H) (.ownL rfl (fun e => by cases e) rfl (List.length_map _).symm (.same _ _ (ci_pu .u8) rfl))
def ref01_Str_J1 (out1 : List Int) : Option (List Int) :=
 some (out1)
def ref01_Str_L1 (s1 : ByteArray) : Nat → (List Int) → Int → Option (List Int)
 | 0, _, _ => none
 | m_ + 1, out2, i1 => cond (decide (i1 < (s1.size : Int))) (chk (0 ≤ i1 ∧ i1 < (s1.size : Int)) (chk ((out2.length + 1) * 1 ≤ 140737488355328) (ref01_Str_L1 s1 m_ (out2 ++ [((s1.data.toList.getD i1.toNat 0).toNat : Int)]) (IntKind.wrap .i64 (i1 + 1))))) (ref01_Str_J1 out2)
def ref01_Str_f (s1 : ByteArray) : Option (List Int) :=
 (ref01_Int_f (s1.size : Int)).bind fun r1 => ref01_Str_L1 s1 BIG r1 0
set_option maxHeartbeats 4000000 in
set_option maxRecDepth 20000 in
theorem ref01_Str_rc {s1 : ByteArray} {r : (List Int)} (H : ref01_Str_f s1 = some r) : RC Try.prog 23 [.str s1] [] 0 (.ref 0 0 r.length 1) [some ⟨5, 1, false, r.map (ci .u8)⟩] := by
 refine rcA_of Try.func23 (by rfl) (by decide) 21 (by rfl) [.tmp 2] (by rfl) ?_
 unfold ref01_Str_f at H
 simp only [hent, List.length_cons, List.length_nil, reduceAdd]
 refine a_seq ?_
 refine a_reg _ rfl (s := ?zs1) ?_ ?_
 rotate_left
 ·simp only [EVT, stepR, evOp, St.ev, St.app, St.put, wrs, datOf, datOf1, TIS, CS, reduceAdd, reduceMul, reduceEqDiff, ↓reduceIte, reduceCtorEq, reduceLT, reduceLeDiff]
  (repeat' apply And.intro) <;> first|rfl|assumption|omega|(simp;done)|(simp;omega)|(simp_all;done)
 refine sA_n ?_
 refine a_seq ?_
 obtain ⟨r1, zh1, H⟩ := bind_some H
 have zk1 := ref01_Int_rc zh1
 refine a_reg _ rfl (s := ?zs2) ?_ ?_
 rotate_left
 ·try simp only [EVT, stepR, evOp, St.ev, St.app, St.put, wrs, evBuiltin, frz, TIS, CS, reduceAdd, reduceMul, reduceEqDiff, ↓reduceIte, reduceCtorEq, reduceLT, reduceLeDiff, reduceSub, Nat.reduceBEq]
  repeat' with_reducible apply And.intro
  all_goals try ((with_reducible show CallR _ _ _ _ _ _ _); refine callR_rcw (r' := .ref 10 0 r1.length 1) [(10, some ⟨5, 1, false, r1.map (ci .u8)⟩)] [] [] [(10, 0, ⟨5, 1, false, r1.map (ci .u8)⟩)] rfl zk1 (by simp) (by show ([] : List Nat).Nodup; decide) trivial (.cons (.int' rfl) .nil) (by show ([10] : List Nat).Nodup; decide) (by show ([0] : List Nat).Nodup; decide) ⟨.inr ⟨rfl, by decide⟩, ⟨_, rfl, ⟨rfl, rfl, rfl, rfl⟩, .same _ _ (ci_pu .u8) rfl⟩, trivial⟩ (.refl' rfl rfl) ?_; simp only [EVT, stepR, evOp, St.ev, St.app, St.put, wrs, evBuiltin, frz, TIS, CS, reduceAdd, reduceMul, reduceEqDiff, ↓reduceIte, reduceCtorEq, reduceLT, reduceLeDiff, reduceSub, Nat.reduceBEq])
  all_goals ((repeat' apply And.intro) <;> first|rfl|assumption|omega|(simp;done)|(simp;omega)|(simp_all;done))
 refine sA_n ?_
 refine a_cut (fun s => ∃ (out1 : List Int) (t0 : Nat → Dat), ref01_Str_J1 out1 = some r ∧ s = ⟨tl t0 [(3, .ref 0 0 out1.length 1)], hl [⟨5, 1, false, out1.map (ci .u8)⟩], 1, 21⟩) ?_ ?_
 ·refine a_seq ?_
  refine a_reg _ rfl (s := ?zs4) ?_ ?_
  rotate_left
  ·simp only [EVT, stepR, evOp, St.ev, St.app, St.put, wrs, datOf, datOf1, TIS, CS, reduceAdd, reduceMul, reduceEqDiff, ↓reduceIte, reduceCtorEq, reduceLT, reduceLeDiff]
   (repeat' apply And.intro) <;> first|rfl|assumption|omega|(simp;done)|(simp;omega)|(simp_all;done)
  refine sA_n ?_
  refine a_blk ?_
  refine a_loop (fun m s => ∃ (out2 : List Int) (i1 : Int) (t0 : Nat → Dat), ref01_Str_L1 s1 m out2 i1 = some r ∧ s = ⟨tl t0 [(0, .str s1), (3, .ref 0 0 out2.length 1), (4, .int .i64 i1)], hl [⟨5, 1, false, out2.map (ci .u8)⟩], 1, 21⟩) BIG ?_ ?_
  ·refine wk_l [(some 10, ⟨5, 1, false, r1.map (ci .u8)⟩)] [] [(0, .str s1), (3, .ref 0 0 r1.length 1), (4, .int .i64 0)] (by show ([0, 3, 4] : List Nat).Nodup; decide) (by show ([10] : List Nat).Nodup; decide) ?_ ?_ (fun t0 => ⟨r1, 0, t0, H, rfl⟩)
   ·exact (allB_some (by rfl) rfl (.same _ _ (ci_pu .u8) (by first | rfl | (simp only [MPT, CS,  List.nil_append]; done) | (simp [CS,  ci_eq, cb_eq, cs_eq, cl_eq]; done) | (simp [CS,  ci_eq, cb_eq, cs_eq, cl_eq]; intro hz; rw [List.take_of_length_le (by simp; omega)]))) trivial)
   ·(simp only [AllT, tl_cons, tl_nil, upd_apply, List.getD_cons_zero, List.getD_cons_succ, reduceEqDiff, ↓reduceIte, and_true]); exact ⟨(.str' rfl), (.refl' (by first | rfl | omega | (simp; done) | (simp [strBytes_len]; done) | (simp; omega) | (simp_all; done)) rfl), (.int' rfl)⟩
  ·rintro m_ref01_Str_L1 s ⟨out2, i1, t0, H, rfl⟩
   obtain _ | m_ref01_Str_L1 := m_ref01_Str_L1
   ·cases (show (none : Option _) = some _ from H)
   ·rw [ref01_Str_L1] at H
    refine a_seq ?_
    refine a_seq ?_
    refine a_reg _ rfl (s := ?zs5) ?_ ?_
    rotate_left
    ·simp only [EVT, stepR, evOp, St.ev, St.app, St.put, wrs, evBuiltin, evBin, binInt, TIS, CS, reduceAdd, reduceMul, reduceEqDiff, ↓reduceIte, reduceCtorEq, reduceLT, reduceLeDiff, reduceSub, Nat.reduceBEq]
     (repeat' apply And.intro) <;> first|rfl|assumption|omega|(simp;done)|(simp;omega)|(simp_all;done)
    refine sA_n ?_
    refine a_condb ((decide (i1 < (s1.size : Int)))) (by rfl) (fun zc1 => ?_) (fun zc1 => ?_)
    ·have H := cond_t zc1 H
     refine a_skip ?_
     refine sA_n ?_
     refine a_seq ?_
     refine a_blk ?_
     obtain ⟨zh2, H⟩ := chk_some H
     obtain ⟨zh3, H⟩ := chk_some H
     refine a_reg _ rfl (s := ?zs6) ?_ ?_
     rotate_left
     ·simp only [EVT, stepR, evOp, St.ev, St.app, St.put, wrs, evIndex, cut, allOne, evBuiltin, evAppend, elems, Option.elim, TIS, CS, reduceAdd, reduceMul, reduceEqDiff, ↓reduceIte, reduceCtorEq, reduceLT, reduceLeDiff, Int.reduceToNat, reduceSub, Nat.reduceBEq, ↓zc1]
      (repeat' apply And.intro) <;> first|rfl|assumption|omega|(simp;done)|(simp;omega)|(simp_all;done)
     refine bA_n ?_
     refine sA_n ?_
     refine a_reg _ rfl (s := ?zs7) ?_ ?_
     rotate_left
     ·simp only [EVT, stepR, evOp, St.ev, St.app, St.put, wrs, datOf, datOf1, evBin, binInt, TIS, CS, reduceAdd, reduceMul, reduceEqDiff, ↓reduceIte, reduceCtorEq, reduceLT, reduceLeDiff, ↓zc1]
      (repeat' apply And.intro) <;> first|rfl|assumption|omega|(simp;done)|(simp;omega)|(simp_all;done)
     refine lA_n ?_
     refine wk_l [(some 38, ⟨5, 1, false, (out2 ++ [((s1.data.toList.getD i1.toNat 0).toNat : Int)]).map (ci .u8)⟩)] [] [(0, .str s1), (3, .ref 0 0 (out2 ++ [((s1.data.toList.getD i1.toNat 0).toNat : Int)]).length 1), (4, .int .i64 (IntKind.wrap .i64 (i1 + 1)))] (by show ([0, 3, 4] : List Nat).Nodup; decide) (by show ([38] : List Nat).Nodup; decide) ?_ ?_ (fun t0 => ⟨_, Nat.lt_succ_self _, (out2 ++ [((s1.data.toList.getD i1.toNat 0).toNat : Int)]), (IntKind.wrap .i64 (i1 + 1)), t0, H, rfl⟩)
     ·exact (allB_some (by rfl) rfl (.same _ _ (ci_pu .u8) (by first | rfl | (simp only [MPT, CS,  List.nil_append]; done) | (simp [CS,  ci_eq, cb_eq, cs_eq, cl_eq]; done) | (simp [CS,  ci_eq, cb_eq, cs_eq, cl_eq]; intro hz; rw [List.take_of_length_le (by simp; omega)]))) trivial)
     ·(simp only [AllT, tl_cons, tl_nil, upd_apply, List.getD_cons_zero, List.getD_cons_succ, reduceEqDiff, ↓reduceIte, and_true]); exact ⟨(.str' rfl), (.refl' (by first | rfl | omega | (simp; done) | (simp [strBytes_len]; done) | (simp; omega) | (simp_all; done)) rfl), (.int' rfl)⟩
    ·have H := cond_f zc1 H
     refine a_exit ?_
     refine sA_e ?_
     refine lA_e ?_
     refine bA_hit ?_
     refine cA_n ?_
     refine wk_l [(some 0, ⟨5, 1, false, out2.map (ci .u8)⟩)] [] [(3, .ref 0 0 out2.length 1)] (by show ([3] : List Nat).Nodup; decide) (by show ([0] : List Nat).Nodup; decide) ?_ ?_ (fun t0 => ⟨out2, t0, H, rfl⟩)
     ·exact (allB_some (by rfl) rfl (.same _ _ (ci_pu .u8) (by first | rfl | (simp only [MPT, CS,  List.nil_append]; done) | (simp [CS,  ci_eq, cb_eq, cs_eq, cl_eq]; done) | (simp [CS,  ci_eq, cb_eq, cs_eq, cl_eq]; intro hz; rw [List.take_of_length_le (by simp; omega)]))) trivial)
     ·(simp only [AllT, tl_cons, tl_nil, upd_apply, List.getD_cons_zero, List.getD_cons_succ, reduceEqDiff, ↓reduceIte, and_true]); exact (.refl' (by first | rfl | omega | (simp; done) | (simp [strBytes_len]; done) | (simp; omega) | (simp_all; done)) rfl)
 ·rintro s ⟨out1, t0, H, rfl⟩
  unfold ref01_Str_J1 at H
  refine a_seq ?_
  refine a_reg _ rfl (s := ?zs3) ?_ ?_
  rotate_left
  ·simp only [EVT, stepR, evOp, St.ev, St.app, St.put, wrs, TIS, CS, reduceAdd, reduceMul, reduceEqDiff, ↓reduceIte, reduceCtorEq, reduceLT, reduceLeDiff]
   (repeat' apply And.intro) <;> first|rfl|assumption|omega|(simp;done)|(simp;omega)|(simp_all;done)
  refine sA_n ?_
  refine a_ret ?_
  obtain rfl := Option.some.inj H
  refine eR_r ?_
  refine wk_ln 0 [(some 0, ⟨5, 1, false, out1.map (ci .u8)⟩)] [] [(2, .ref 0 0 out1.length 1)] (fun i h => absurd h (Nat.not_lt_zero i)) (by show ([2] : List Nat).Nodup; decide) (by show ([0] : List Nat).Nodup; decide) ?_ ?_ (fun t0 => ⟨by first | rfl | (simp only [EVT, resR, single, evLoad, cut, TIS, CS, reduceAdd, reduceEqDiff, ↓reduceIte, reduceCtorEq, reduceLT, reduceLeDiff, reduceSub, Nat.reduceBEq]; (repeat' apply And.intro) <;> first | rfl | (simp; done)), fun j B h => by rcases j with _ | _ <;> first | exact h | (exact absurd h (by simp [hh]))⟩)
  ·exact (allB_some (by rfl) rfl (.same _ _ (ci_pu .u8) (by first | rfl | (simp only [MPT, CS,  List.nil_append]; done) | (simp [CS,  ci_eq, cb_eq, cs_eq, cl_eq]; done) | (simp [CS,  ci_eq, cb_eq, cs_eq, cl_eq]; intro hz; rw [List.take_of_length_le (by simp; omega)]))) trivial)
  ·(simp only [AllT, tl_cons, tl_nil, upd_apply, List.getD_cons_zero, List.getD_cons_succ, reduceEqDiff, ↓reduceIte, and_true]); exact (.refl' (by first | rfl | omega | (simp; done) | (simp [strBytes_len]; done) | (simp; omega) | (simp_all; done)) rfl)
theorem ref01_Str_pc {s1 : ByteArray} {r : (List Int)} (H : ref01_Str_f s1 = some r) : PC Try.prog 23 [.str s1] (.list 1 (r.map (ci .u8))) := rc_pc (ref01_Str_rc H) (.ownL rfl (fun e => by cases e) rfl (List.length_map _).symm (.same _ _ (ci_pu .u8) rfl))
def pack_Ints_f (l1 : List Int) : Option (List Int) :=
 (pack_Int_f (l1.length : Int)).bind fun r1 => (pack_numbers_f l1).bind fun r2 => chk ((r1.length + r2.length) * 1 ≤ 140737488355328) (some ((r1 ++ r2)))
set_option maxHeartbeats 4000000 in
set_option maxRecDepth 20000 in
theorem pack_Ints_rc {l1 : List Int} {r : (List Int)} (H : pack_Ints_f l1 = some r) : RC Try.prog 20 [.list 1 (l1.map (ci .i64))] [] 0 (.ref 0 0 r.length 1) [some ⟨5, 1, false, r.map (ci .u8)⟩] := by
 refine rcA_of Try.func20 (by rfl) (by decide) 9 (by rfl) [.tmp 2] (by rfl) ?_
 unfold pack_Ints_f at H
 simp only [hent, List.length_cons, List.length_nil, reduceAdd]
 refine a_seq ?_
 refine a_reg _ rfl (s := ?zs1) ?_ ?_
 rotate_left
 ·simp only [EVT, stepR, evOp, St.ev, St.app, St.put, wrs, datOf, datOf1, TIS, CS, reduceAdd, reduceMul, reduceEqDiff, ↓reduceIte, reduceCtorEq, reduceLT, reduceLeDiff]
  (repeat' apply And.intro) <;> first|rfl|assumption|omega|(simp;done)|(simp;omega)|(simp_all;done)
 refine sA_n ?_
 refine a_seq ?_
 obtain ⟨r1, zh1, H⟩ := bind_some H
 have zk1 := pack_Int_rc zh1
 obtain ⟨r2, zh2, H⟩ := bind_some H
 have zk2 := pack_numbers_rc zh2
 obtain ⟨zh3, H⟩ := chk_some H
 refine a_reg _ rfl (s := ?zs2) ?_ ?_
 rotate_left
 ·try simp only [EVT, stepR, evOp, St.ev, St.app, St.put, wrs, evBuiltin, frz, evAppend, elems, Option.elim, TIS, CS, reduceAdd, reduceMul, reduceEqDiff, ↓reduceIte, reduceCtorEq, reduceLT, reduceLeDiff, reduceSub, Nat.reduceBEq]
  repeat' with_reducible apply And.intro
  all_goals try ((with_reducible show CallR _ _ _ _ _ _ _); refine callR_rcw (r' := .ref 10 0 r1.length 1) [(10, some ⟨5, 1, false, r1.map (ci .u8)⟩)] [] [] [(10, 0, ⟨5, 1, false, r1.map (ci .u8)⟩)] rfl zk1 (by simp) (by show ([] : List Nat).Nodup; decide) trivial (.cons (.int' rfl) .nil) (by show ([10] : List Nat).Nodup; decide) (by show ([0] : List Nat).Nodup; decide) ⟨.inr ⟨rfl, by decide⟩, ⟨_, rfl, ⟨rfl, rfl, rfl, rfl⟩, .same _ _ (ci_pu .u8) rfl⟩, trivial⟩ (.refl' rfl rfl) ?_; simp only [EVT, stepR, evOp, St.ev, St.app, St.put, wrs, evBuiltin, frz, evAppend, elems, Option.elim, TIS, CS, reduceAdd, reduceMul, reduceEqDiff, ↓reduceIte, reduceCtorEq, reduceLT, reduceLeDiff, reduceSub, Nat.reduceBEq])
  repeat' with_reducible apply And.intro
  all_goals try ((with_reducible show CallR _ _ _ _ _ _ _); refine callR_rcw (r' := .ref 12 0 r2.length 1) [(12, some ⟨5, 1, false, r2.map (ci .u8)⟩)] [] [] [(12, 0, ⟨5, 1, false, r2.map (ci .u8)⟩)] rfl zk2 (by simp) (by show ([] : List Nat).Nodup; decide) trivial (.cons (.lst _ _ _ (ci_pu .i64) rfl) .nil) (by show ([12] : List Nat).Nodup; decide) (by show ([0] : List Nat).Nodup; decide) ⟨.inr ⟨rfl, by decide⟩, ⟨_, rfl, ⟨rfl, rfl, rfl, rfl⟩, .same _ _ (ci_pu .u8) rfl⟩, trivial⟩ (.refl' rfl rfl) ?_; simp only [EVT, stepR, evOp, St.ev, St.app, St.put, wrs, evBuiltin, frz, evAppend, elems, Option.elim, TIS, CS, reduceAdd, reduceMul, reduceEqDiff, ↓reduceIte, reduceCtorEq, reduceLT, reduceLeDiff, reduceSub, Nat.reduceBEq])
  all_goals ((repeat' apply And.intro) <;> first|rfl|assumption|omega|(simp;done)|(simp;omega)|(simp_all;done))
 refine sA_n ?_
 refine a_ret ?_
 obtain rfl := Option.some.inj H
 refine eR_r ?_
 refine wk_ln 0 [(some 13, ⟨5, 1, false, (r1 ++ r2).map (ci .u8)⟩)] [] [(2, .ref 0 0 (r1 ++ r2).length 1)] (fun i h => absurd h (Nat.not_lt_zero i)) (by show ([2] : List Nat).Nodup; decide) (by show ([13] : List Nat).Nodup; decide) ?_ ?_ (fun t0 => ⟨by first | rfl | (simp only [EVT, resR, single, evLoad, cut, TIS, CS, reduceAdd, reduceEqDiff, ↓reduceIte, reduceCtorEq, reduceLT, reduceLeDiff, reduceSub, Nat.reduceBEq]; (repeat' apply And.intro) <;> first | rfl | (simp; done)), fun j B h => by rcases j with _ | _ <;> first | exact h | (exact absurd h (by simp [hh]))⟩)
 ·exact (allB_some (by rfl) rfl (.same _ _ (ci_pu .u8) (by first | rfl | (simp only [MPT, CS,  List.nil_append]; done) | (simp [CS,  ci_eq, cb_eq, cs_eq, cl_eq]; done) | (simp [CS,  ci_eq, cb_eq, cs_eq, cl_eq]; intro hz; rw [List.take_of_length_le (by simp; omega)]))) trivial)
 ·(simp only [AllT, tl_cons, tl_nil, upd_apply, List.getD_cons_zero, List.getD_cons_succ, reduceEqDiff, ↓reduceIte, and_true]); exact (.refl' (by first | rfl | omega | (simp; done) | (simp [strBytes_len]; done) | (simp; omega) | (simp_all; done)) rfl)
theorem pack_Ints_pc {l1 : List Int} {r : (List Int)} (H : pack_Ints_f l1 = some r) : PC Try.prog 20 [.list 1 (l1.map (ci .i64))] (.list 1 (r.map (ci .u8))) := rc_pc (pack_Ints_rc H) (.ownL rfl (fun e => by cases e) rfl (List.length_map _).symm (.same _ _ (ci_pu .u8) rfl))
def ref01_Ints_J1 (out1 : List Int) : Option (List Int) :=
 some (out1)
def ref01_Ints_L1 (l1 : List Int) : Nat → (List Int) → Int → Option (List Int)
 | 0, _, _ => none
 | m_ + 1, out2, i1 => cond (decide (i1 < (l1.length : Int))) ((idx l1 i1).bind fun x1 => (ref01_Int_f x1).bind fun r2 => chk ((out2.length + r2.length) * 1 ≤ 140737488355328) (ref01_Ints_L1 l1 m_ (out2 ++ r2) (IntKind.wrap .i64 (i1 + 1)))) (ref01_Ints_J1 out2)
def ref01_Ints_f (l1 : List Int) : Option (List Int) :=
 (ref01_Int_f (l1.length : Int)).bind fun r1 => ref01_Ints_L1 l1 BIG r1 0
set_option maxHeartbeats 4000000 in
set_option maxRecDepth 20000 in
theorem ref01_Ints_rc {l1 : List Int} {r : (List Int)} (H : ref01_Ints_f l1 = some r) : RC Try.prog 21 [.list 1 (l1.map (ci .i64))] [] 0 (.ref 0 0 r.length 1) [some ⟨5, 1, false, r.map (ci .u8)⟩] := by
 refine rcA_of Try.func21 (by rfl) (by decide) 22 (by rfl) [.tmp 2] (by rfl) ?_
 unfold ref01_Ints_f at H
 simp only [hent, List.length_cons, List.length_nil, reduceAdd]
 refine a_seq ?_
 refine a_reg _ rfl (s := ?zs1) ?_ ?_
 rotate_left
 ·simp only [EVT, stepR, evOp, St.ev, St.app, St.put, wrs, datOf, datOf1, TIS, CS, reduceAdd, reduceMul, reduceEqDiff, ↓reduceIte, reduceCtorEq, reduceLT, reduceLeDiff]
  (repeat' apply And.intro) <;> first|rfl|assumption|omega|(simp;done)|(simp;omega)|(simp_all;done)
 refine sA_n ?_
 refine a_seq ?_
 obtain ⟨r1, zh1, H⟩ := bind_some H
 have zk1 := ref01_Int_rc zh1
 refine a_reg _ rfl (s := ?zs2) ?_ ?_
 rotate_left
 ·try simp only [EVT, stepR, evOp, St.ev, St.app, St.put, wrs, evBuiltin, frz, TIS, CS, reduceAdd, reduceMul, reduceEqDiff, ↓reduceIte, reduceCtorEq, reduceLT, reduceLeDiff, reduceSub, Nat.reduceBEq]
  repeat' with_reducible apply And.intro
  all_goals try ((with_reducible show CallR _ _ _ _ _ _ _); refine callR_rcw (r' := .ref 10 0 r1.length 1) [(10, some ⟨5, 1, false, r1.map (ci .u8)⟩)] [] [] [(10, 0, ⟨5, 1, false, r1.map (ci .u8)⟩)] rfl zk1 (by simp) (by show ([] : List Nat).Nodup; decide) trivial (.cons (.int' rfl) .nil) (by show ([10] : List Nat).Nodup; decide) (by show ([0] : List Nat).Nodup; decide) ⟨.inr ⟨rfl, by decide⟩, ⟨_, rfl, ⟨rfl, rfl, rfl, rfl⟩, .same _ _ (ci_pu .u8) rfl⟩, trivial⟩ (.refl' rfl rfl) ?_; simp only [EVT, stepR, evOp, St.ev, St.app, St.put, wrs, evBuiltin, frz, TIS, CS, reduceAdd, reduceMul, reduceEqDiff, ↓reduceIte, reduceCtorEq, reduceLT, reduceLeDiff, reduceSub, Nat.reduceBEq])
  all_goals ((repeat' apply And.intro) <;> first|rfl|assumption|omega|(simp;done)|(simp;omega)|(simp_all;done))
 refine sA_n ?_
 refine a_cut (fun s => ∃ (out1 : List Int) (t0 : Nat → Dat), ref01_Ints_J1 out1 = some r ∧ s = ⟨tl t0 [(3, .ref 0 0 out1.length 1)], hl [⟨5, 1, false, out1.map (ci .u8)⟩], 1, 22⟩) ?_ ?_
 ·refine a_seq ?_
  refine a_reg _ rfl (s := ?zs4) ?_ ?_
  rotate_left
  ·simp only [EVT, stepR, evOp, St.ev, St.app, St.put, wrs, datOf, datOf1, TIS, CS, reduceAdd, reduceMul, reduceEqDiff, ↓reduceIte, reduceCtorEq, reduceLT, reduceLeDiff]
   (repeat' apply And.intro) <;> first|rfl|assumption|omega|(simp;done)|(simp;omega)|(simp_all;done)
  refine sA_n ?_
  refine a_blk ?_
  refine a_loop (fun m s => ∃ (out2 : List Int) (i1 : Int) (t0 : Nat → Dat), ref01_Ints_L1 l1 m out2 i1 = some r ∧ s = ⟨tl t0 [(0, .list 1 (l1.map (ci .i64))), (3, .ref 0 0 out2.length 1), (4, .int .i64 i1)], hl [⟨5, 1, false, out2.map (ci .u8)⟩], 1, 22⟩) BIG ?_ ?_
  ·refine wk_l [(some 10, ⟨5, 1, false, r1.map (ci .u8)⟩)] [] [(0, .list 1 (l1.map (ci .i64))), (3, .ref 0 0 r1.length 1), (4, .int .i64 0)] (by show ([0, 3, 4] : List Nat).Nodup; decide) (by show ([10] : List Nat).Nodup; decide) ?_ ?_ (fun t0 => ⟨r1, 0, t0, H, rfl⟩)
   ·exact (allB_some (by rfl) rfl (.same _ _ (ci_pu .u8) (by first | rfl | (simp only [MPT, CS,  List.nil_append]; done) | (simp [CS,  ci_eq, cb_eq, cs_eq, cl_eq]; done) | (simp [CS,  ci_eq, cb_eq, cs_eq, cl_eq]; intro hz; rw [List.take_of_length_le (by simp; omega)]))) trivial)
   ·(simp only [AllT, tl_cons, tl_nil, upd_apply, List.getD_cons_zero, List.getD_cons_succ, reduceEqDiff, ↓reduceIte, and_true]); exact ⟨(.lst _ _ _ (ci_pu .i64) rfl), (.refl' (by first | rfl | omega | (simp; done) | (simp [strBytes_len]; done) | (simp; omega) | (simp_all; done)) rfl), (.int' rfl)⟩
  ·rintro m_ref01_Ints_L1 s ⟨out2, i1, t0, H, rfl⟩
   obtain _ | m_ref01_Ints_L1 := m_ref01_Ints_L1
   ·cases (show (none : Option _) = some _ from H)
   ·rw [ref01_Ints_L1] at H
    refine a_seq ?_
    refine a_seq ?_
    refine a_reg _ rfl (s := ?zs5) ?_ ?_
    rotate_left
    ·simp only [EVT, stepR, evOp, St.ev, St.app, St.put, wrs, evBuiltin, evBin, binInt, TIS, CS, reduceAdd, reduceMul, reduceEqDiff, ↓reduceIte, reduceCtorEq, reduceLT, reduceLeDiff, reduceSub, Nat.reduceBEq]
     (repeat' apply And.intro) <;> first|rfl|assumption|omega|(simp;done)|(simp;omega)|(simp_all;done)
    refine sA_n ?_
    refine a_condb ((decide (i1 < (l1.length : Int)))) (by rfl) (fun zc1 => ?_) (fun zc1 => ?_)
    ·have H := cond_t zc1 H
     refine a_skip ?_
     refine sA_n ?_
     refine a_seq ?_
     refine a_blk ?_
     obtain ⟨x1, zh2, H⟩ := bind_some H
     have zg1 := idx_map zh2 (ci .i64)
     try simp only [Int.reduceToNat] at zg1
     obtain ⟨zh2a, zh2b, _⟩ := idx_some zh2
     obtain ⟨r2, zh3, H⟩ := bind_some H
     have zk2 := ref01_Int_rc zh3
     obtain ⟨zh4, H⟩ := chk_some H
     refine a_reg _ rfl (s := ?zs6) ?_ ?_
     rotate_left
     ·try simp only [EVT, stepR, evOp, St.ev, St.app, St.put, wrs, evIndexAddr, evLoad, cut, frz, evBuiltin, evAppend, elems, Option.elim, TIS, CS, reduceAdd, reduceMul, reduceEqDiff, ↓reduceIte, reduceCtorEq, reduceLT, reduceLeDiff, Int.reduceToNat, reduceSub, Nat.reduceBEq, ↓zc1, zg1]
      repeat' with_reducible apply And.intro
      all_goals try ((with_reducible show CallR _ _ _ _ _ _ _); refine callR_rcw (r' := .ref 38 0 r2.length 1) [(38, some ⟨5, 1, false, r2.map (ci .u8)⟩)] [] [] [(38, 0, ⟨5, 1, false, r2.map (ci .u8)⟩)] rfl zk2 (by simp) (by show ([] : List Nat).Nodup; decide) trivial (.cons (.int' rfl) .nil) (by show ([38] : List Nat).Nodup; decide) (by show ([0] : List Nat).Nodup; decide) ⟨.inr ⟨rfl, by decide⟩, ⟨_, rfl, ⟨rfl, rfl, rfl, rfl⟩, .same _ _ (ci_pu .u8) rfl⟩, trivial⟩ (.refl' rfl rfl) ?_; simp only [EVT, stepR, evOp, St.ev, St.app, St.put, wrs, evIndexAddr, evLoad, cut, frz, evBuiltin, evAppend, elems, Option.elim, TIS, CS, reduceAdd, reduceMul, reduceEqDiff, ↓reduceIte, reduceCtorEq, reduceLT, reduceLeDiff, Int.reduceToNat, reduceSub, Nat.reduceBEq, ↓zc1, zg1])
      all_goals ((repeat' apply And.intro) <;> first|rfl|assumption|omega|(simp;done)|(simp;omega)|(simp_all;done))
     refine bA_n ?_
     refine sA_n ?_
     refine a_reg _ rfl (s := ?zs7) ?_ ?_
     rotate_left
     ·simp only [EVT, stepR, evOp, St.ev, St.app, St.put, wrs, datOf, datOf1, evBin, binInt, TIS, CS, reduceAdd, reduceMul, reduceEqDiff, ↓reduceIte, reduceCtorEq, reduceLT, reduceLeDiff, ↓zc1, zg1]
      (repeat' apply And.intro) <;> first|rfl|assumption|omega|(simp;done)|(simp;omega)|(simp_all;done)
     refine lA_n ?_
     refine wk_l [(some 39, ⟨5, 1, false, (out2 ++ r2).map (ci .u8)⟩)] [] [(0, .list 1 (l1.map (ci .i64))), (3, .ref 0 0 (out2 ++ r2).length 1), (4, .int .i64 (IntKind.wrap .i64 (i1 + 1)))] (by show ([0, 3, 4] : List Nat).Nodup; decide) (by show ([39] : List Nat).Nodup; decide) ?_ ?_ (fun t0 => ⟨_, Nat.lt_succ_self _, (out2 ++ r2), (IntKind.wrap .i64 (i1 + 1)), t0, H, rfl⟩)
     ·exact (allB_some (by rfl) rfl (.same _ _ (ci_pu .u8) (by first | rfl | (simp only [MPT, CS,  List.nil_append]; done) | (simp [CS,  ci_eq, cb_eq, cs_eq, cl_eq]; done) | (simp [CS,  ci_eq, cb_eq, cs_eq, cl_eq]; intro hz; rw [List.take_of_length_le (by simp; omega)]))) trivial)
     ·(simp only [AllT, tl_cons, tl_nil, upd_apply, List.getD_cons_zero, List.getD_cons_succ, reduceEqDiff, ↓reduceIte, and_true]); exact ⟨(.lst _ _ _ (ci_pu .i64) rfl), (.refl' (by first | rfl | omega | (simp; done) | (simp [strBytes_len]; done) | (simp; omega) | (simp_all; done)) rfl), (.int' rfl)⟩
    ·have H := cond_f zc1 H
     refine a_exit ?_
     refine sA_e ?_
     refine lA_e ?_
     refine bA_hit ?_
     refine cA_n ?_
     refine wk_l [(some 0, ⟨5, 1, false, out2.map (ci .u8)⟩)] [] [(3, .ref 0 0 out2.length 1)] (by show ([3] : List Nat).Nodup; decide) (by show ([0] : List Nat).Nodup; decide) ?_ ?_ (fun t0 => ⟨out2, t0, H, rfl⟩)
     ·exact (allB_some (by rfl) rfl (.same _ _ (ci_pu .u8) (by first | rfl | (simp only [MPT, CS,  List.nil_append]; done) | (simp [CS,  ci_eq, cb_eq, cs_eq, cl_eq]; done) | (simp [CS,  ci_eq, cb_eq, cs_eq, cl_eq]; intro hz; rw [List.take_of_length_le (by simp; omega)]))) trivial)
     ·(simp only [AllT, tl_cons, tl_nil, upd_apply, List.getD_cons_zero, List.getD_cons_succ, reduceEqDiff, ↓reduceIte, and_true]); exact (.refl' (by first | rfl | omega | (simp; done) | (simp [strBytes_len]; done) | (simp; omega) | (simp_all; done)) rfl)
 ·rintro s ⟨out1, t0, H, rfl⟩
  unfold ref01_Ints_J1 at H
  refine a_seq ?_
  refine a_reg _ rfl (s := ?zs3) ?_ ?_
  rotate_left
  ·simp only [EVT, stepR, evOp, St.ev, St.app, St.put, wrs, TIS, CS, reduceAdd, reduceMul, reduceEqDiff, ↓reduceIte, reduceCtorEq, reduceLT, reduceLeDiff]
   (repeat' apply And.intro) <;> first|rfl|assumption|omega|(simp;done)|(simp;omega)|(simp_all;done)
  refine sA_n ?_
  refine a_ret ?_
  obtain rfl := Option.some.inj H
  refine eR_r ?_
  refine wk_ln 0 [(some 0, ⟨5, 1, false, out1.map (ci .u8)⟩)] [] [(2, .ref 0 0 out1.length 1)] (fun i h => absurd h (Nat.not_lt_zero i)) (by show ([2] : List Nat).Nodup; decide) (by show ([0] : List Nat).Nodup; decide) ?_ ?_ (fun t0 => ⟨by first | rfl | (simp only [EVT, resR, single, evLoad, cut, TIS, CS, reduceAdd, reduceEqDiff, ↓reduceIte, reduceCtorEq, reduceLT, reduceLeDiff, reduceSub, Nat.reduceBEq]; (repeat' apply And.intro) <;> first | rfl | (simp; done)), fun j B h => by rcases j with _ | _ <;> first | exact h | (exact absurd h (by simp [hh]))⟩)
  ·exact (allB_some (by rfl) rfl (.same _ _ (ci_pu .u8) (by first | rfl | (simp only [MPT, CS,  List.nil_append]; done) | (simp [CS,  ci_eq, cb_eq, cs_eq, cl_eq]; done) | (simp [CS,  ci_eq, cb_eq, cs_eq, cl_eq]; intro hz; rw [List.take_of_length_le (by simp; omega)]))) trivial)
  ·(simp only [AllT, tl_cons, tl_nil, upd_apply, List.getD_cons_zero, List.getD_cons_succ, reduceEqDiff, ↓reduceIte, and_true]); exact (.refl' (by first | rfl | omega | (simp; done) | (simp [strBytes_len]; done) | (simp; omega) | (simp_all; done)) rfl)
theorem ref01_Ints_pc {l1 : List Int} {r : (List Int)} (H : ref01_Ints_f l1 = some r) : PC Try.prog 21 [.list 1 (l1.map (ci .i64))] (.list 1 (r.map (ci .u8))) := rc_pc (ref01_Ints_rc H) (.ownL rfl (fun e => by cases e) rfl (List.length_map _).symm (.same _ _ (ci_pu .u8) rfl))
end
end Go.Proofs.Ytifkepfcjhebfaa
