/- Functions of the program as Lean functions, and that they are so; printed by a program of mine. -/
import Derived.Test.YtifkepfcjhebfaaTy
set_option linter.unusedSimpArgs false
set_option linter.unusedVariables false
namespace Go.Proofs.Ytifkepfcjhebfaa
open Go.Ab
open Nat (reduceAdd reduceMul reduceEqDiff reduceLT reduceLeDiff reduceSub)
noncomputable section

def pack_Int_J1 (out1 : List Int) (u1 : Int) : Option (List Int) :=
 chk ((out1.length + 1) * 1 ≤ 140737488355328) (some ((out1 ++ [(IntKind.wrap .u8 u1)])))
def pack_Int_L1 : Nat → (List Int) → Int → Option (List Int)
 | 0, _, _ => none
 | m_ + 1, out2, u2 => cond (decide (128 ≤ u2)) (chk ((out2.length + 1) * 1 ≤ 140737488355328) (pack_Int_L1 m_ (out2 ++ [(IntKind.wrap .u8 (BitVec.ofInt (IntKind.bits .u8) (IntKind.wrap .u8 u2) ||| BitVec.ofInt (IntKind.bits .u8) 128).toNat)]) (Int.fdiv u2 (2 ^ (min 7 (IntKind.bits .u64)))))) (pack_Int_J1 out2 u2)
def pack_Int_f (n1 : Int) : Option (List Int) :=
 pack_Int_L1 BIG [] (IntKind.wrap .u64 (BitVec.ofInt (IntKind.bits .u64) (IntKind.wrap .u64 ((IntKind.wrap .u64 n1) * 2 ^ (min 1 (IntKind.bits .u64)))) ^^^ BitVec.ofInt (IntKind.bits .u64) (IntKind.wrap .u64 (Int.fdiv n1 (2 ^ (min 63 (IntKind.bits .i64)))))).toNat)
set_option maxHeartbeats 4000000 in
set_option maxRecDepth 20000 in
theorem pack_Int_rc {n1 : Int} {r : (List Int)} (H : pack_Int_f n1 = some r) : RC Try.prog 18 [.int .i64 n1] [] 0 (.ref 0 0 r.length 1) [some ⟨5, 1, false, r.map (ci .u8)⟩] := by
 refine rcA_of Try.func18 (by rfl) (by decide) 27 (by rfl) [.tmp 2] (by rfl) ?_
 unfold pack_Int_f at H
 simp only [hent, List.length_cons, List.length_nil, reduceAdd]
 refine a_seq ?_
 refine a_reg _ rfl (s := ?zs1) ?_ ?_
 rotate_left
 ·simp only [EVT, stepR, evOp, St.ev, St.app, St.put, wrs, datOf, datOf1, TIS, CS, reduceAdd, reduceMul, reduceEqDiff, ↓reduceIte, reduceCtorEq, reduceLT, reduceLeDiff]
  (repeat' apply And.intro) <;> first|rfl|assumption|omega|(simp;done)|(simp;omega)|(simp_all;done)
 refine sA_n ?_
 refine a_seq ?_
 refine a_reg _ rfl (s := ?zs2) ?_ ?_
 rotate_left
 ·simp only [EVT, stepR, evOp, St.ev, St.app, St.put, wrs, datOf, datOf1, TIS, CS, reduceAdd, reduceMul, reduceEqDiff, ↓reduceIte, reduceCtorEq, reduceLT, reduceLeDiff]
  (repeat' apply And.intro) <;> first|rfl|assumption|omega|(simp;done)|(simp;omega)|(simp_all;done)
 refine sA_n ?_
 refine a_seq ?_
 refine a_reg _ rfl (s := ?zs3) ?_ ?_
 rotate_left
 ·simp only [EVT, stepR, evOp, St.ev, St.app, St.put, wrs, evToStr, elems, datOf, datOf1, evBin, binInt, TIS, CS, reduceAdd, reduceMul, reduceEqDiff, ↓reduceIte, reduceCtorEq, reduceLT, reduceLeDiff]
  (repeat' apply And.intro) <;> first|rfl|assumption|omega|(simp;done)|(simp;omega)|(simp_all;done)
 refine sA_n ?_
 refine a_cut (fun s => ∃ (out1 : List Int) (u1 : Int) (t0 : Nat → Dat), pack_Int_J1 out1 u1 = some r ∧ s = ⟨tl t0 [(3, .ref 0 0 out1.length 1), (4, .int .u64 u1)], hl [⟨5, 1, false, out1.map (ci .u8)⟩], 1, 27⟩) ?_ ?_
 ·refine a_blk ?_
  refine a_loop (fun m s => ∃ (out2 : List Int) (u2 : Int) (t0 : Nat → Dat), pack_Int_L1 m out2 u2 = some r ∧ s = ⟨tl t0 [(3, .ref 0 0 out2.length 1), (4, .int .u64 u2)], hl [⟨5, 1, false, out2.map (ci .u8)⟩], 1, 27⟩) BIG ?_ ?_
  ·refine wk_l [(none, ⟨5, 1, false, [].map (ci .u8)⟩)] [] [(3, .ref 0 0 [].length 1), (4, .int .u64 (IntKind.wrap .u64 (BitVec.ofInt (IntKind.bits .u64) (IntKind.wrap .u64 ((IntKind.wrap .u64 n1) * 2 ^ (min 1 (IntKind.bits .u64)))) ^^^ BitVec.ofInt (IntKind.bits .u64) (IntKind.wrap .u64 (Int.fdiv n1 (2 ^ (min 63 (IntKind.bits .i64)))))).toNat))] (by show ([3, 4] : List Nat).Nodup; decide) (by show ([] : List Nat).Nodup; decide) ?_ ?_ (fun t0 => ⟨[], (IntKind.wrap .u64 (BitVec.ofInt (IntKind.bits .u64) (IntKind.wrap .u64 ((IntKind.wrap .u64 n1) * 2 ^ (min 1 (IntKind.bits .u64)))) ^^^ BitVec.ofInt (IntKind.bits .u64) (IntKind.wrap .u64 (Int.fdiv n1 (2 ^ (min 63 (IntKind.bits .i64)))))).toNat), t0, H, rfl⟩)
   ·exact (allB_none rfl trivial)
   ·(simp only [AllT, tl_cons, tl_nil, upd_apply, List.getD_cons_zero, List.getD_cons_succ, reduceEqDiff, ↓reduceIte, and_true]); exact ⟨(.nilv _ _ rfl rfl), (.int' rfl)⟩
  ·rintro m_pack_Int_L1 s ⟨out2, u2, t0, H, rfl⟩
   obtain _ | m_pack_Int_L1 := m_pack_Int_L1
   ·cases (show (none : Option _) = some _ from H)
   ·rw [pack_Int_L1] at H
    refine a_seq ?_
    refine a_seq ?_
    refine a_reg _ rfl (s := ?zs5) ?_ ?_
    rotate_left
    ·simp only [EVT, stepR, evOp, St.ev, St.app, St.put, wrs, datOf, datOf1, evBin, binInt, TIS, CS, reduceAdd, reduceMul, reduceEqDiff, ↓reduceIte, reduceCtorEq, reduceLT, reduceLeDiff]
     (repeat' apply And.intro) <;> first|rfl|assumption|omega|(simp;done)|(simp;omega)|(simp_all;done)
    refine sA_n ?_
    refine a_condb ((decide (128 ≤ u2))) (by rfl) (fun zc1 => ?_) (fun zc1 => ?_)
    ·have H := cond_t zc1 H
     refine a_skip ?_
     refine sA_n ?_
     refine a_seq ?_
     refine a_blk ?_
     obtain ⟨zh2, H⟩ := chk_some H
     refine a_reg _ rfl (s := ?zs6) ?_ ?_
     rotate_left
     ·simp only [EVT, stepR, evOp, St.ev, St.app, St.put, wrs, evToStr, elems, datOf, datOf1, evBin, binInt, allOne, evBuiltin, evAppend, Option.elim, TIS, CS, reduceAdd, reduceMul, reduceEqDiff, ↓reduceIte, reduceCtorEq, reduceLT, reduceLeDiff, reduceSub, Nat.reduceBEq, ↓zc1]
      (repeat' apply And.intro) <;> first|rfl|assumption|omega|(simp;done)|(simp;omega)|(simp_all;done)
     refine bA_n ?_
     refine sA_n ?_
     refine a_reg _ rfl (s := ?zs7) ?_ ?_
     rotate_left
     ·simp only [EVT, stepR, evOp, St.ev, St.app, St.put, wrs, datOf, datOf1, evBin, binInt, TIS, CS, reduceAdd, reduceMul, reduceEqDiff, ↓reduceIte, reduceCtorEq, reduceLT, reduceLeDiff, ↓zc1]
      (repeat' apply And.intro) <;> first|rfl|assumption|omega|(simp;done)|(simp;omega)|(simp_all;done)
     refine lA_n ?_
     refine wk_l [(some 22, ⟨5, 1, false, (out2 ++ [(IntKind.wrap .u8 (BitVec.ofInt (IntKind.bits .u8) (IntKind.wrap .u8 u2) ||| BitVec.ofInt (IntKind.bits .u8) 128).toNat)]).map (ci .u8)⟩)] [] [(3, .ref 0 0 (out2 ++ [(IntKind.wrap .u8 (BitVec.ofInt (IntKind.bits .u8) (IntKind.wrap .u8 u2) ||| BitVec.ofInt (IntKind.bits .u8) 128).toNat)]).length 1), (4, .int .u64 (Int.fdiv u2 (2 ^ (min 7 (IntKind.bits .u64)))))] (by show ([3, 4] : List Nat).Nodup; decide) (by show ([22] : List Nat).Nodup; decide) ?_ ?_ (fun t0 => ⟨_, Nat.lt_succ_self _, (out2 ++ [(IntKind.wrap .u8 (BitVec.ofInt (IntKind.bits .u8) (IntKind.wrap .u8 u2) ||| BitVec.ofInt (IntKind.bits .u8) 128).toNat)]), (Int.fdiv u2 (2 ^ (min 7 (IntKind.bits .u64)))), t0, H, rfl⟩)
     ·exact (allB_some (by rfl) rfl (.same _ _ (ci_pu .u8) (by first | rfl | (simp only [MPT, CS,  List.nil_append]; done) | (simp [CS,  ci_eq, cb_eq, cs_eq, cl_eq]; done) | (simp [CS,  ci_eq, cb_eq, cs_eq, cl_eq]; intro hz; rw [List.take_of_length_le (by simp; omega)]))) trivial)
     ·(simp only [AllT, tl_cons, tl_nil, upd_apply, List.getD_cons_zero, List.getD_cons_succ, reduceEqDiff, ↓reduceIte, and_true]); exact ⟨(.refl' (by first | rfl | omega | (simp; done) | (simp [strBytes_len]; done) | (simp; omega) | (simp_all; done)) rfl), (.int' rfl)⟩
    ·have H := cond_f zc1 H
     refine a_exit ?_
     refine sA_e ?_
     refine lA_e ?_
     refine bA_hit ?_
     refine cA_n ?_
     refine wk_l [(some 0, ⟨5, 1, false, out2.map (ci .u8)⟩)] [] [(3, .ref 0 0 out2.length 1), (4, .int .u64 u2)] (by show ([3, 4] : List Nat).Nodup; decide) (by show ([0] : List Nat).Nodup; decide) ?_ ?_ (fun t0 => ⟨out2, u2, t0, H, rfl⟩)
     ·exact (allB_some (by rfl) rfl (.same _ _ (ci_pu .u8) (by first | rfl | (simp only [MPT, CS,  List.nil_append]; done) | (simp [CS,  ci_eq, cb_eq, cs_eq, cl_eq]; done) | (simp [CS,  ci_eq, cb_eq, cs_eq, cl_eq]; intro hz; rw [List.take_of_length_le (by simp; omega)]))) trivial)
     ·(simp only [AllT, tl_cons, tl_nil, upd_apply, List.getD_cons_zero, List.getD_cons_succ, reduceEqDiff, ↓reduceIte, and_true]); exact ⟨(.refl' (by first | rfl | omega | (simp; done) | (simp [strBytes_len]; done) | (simp; omega) | (simp_all; done)) rfl), (.int' rfl)⟩
 ·rintro s ⟨out1, u1, t0, H, rfl⟩
  unfold pack_Int_J1 at H
  refine a_seq ?_
  obtain ⟨zh1, H⟩ := chk_some H
  refine a_reg _ rfl (s := ?zs4) ?_ ?_
  rotate_left
  ·simp only [EVT, stepR, evOp, St.ev, St.app, St.put, wrs, evToStr, elems, allOne, evBuiltin, evAppend, Option.elim, TIS, CS, reduceAdd, reduceMul, reduceEqDiff, ↓reduceIte, reduceCtorEq, reduceLT, reduceLeDiff, reduceSub, Nat.reduceBEq]
   (repeat' apply And.intro) <;> first|rfl|assumption|omega|(simp;done)|(simp;omega)|(simp_all;done)
  refine sA_n ?_
  refine a_ret ?_
  obtain rfl := Option.some.inj H
  refine eR_r ?_
  refine wk_ln 0 [(some 5, ⟨5, 1, false, (out1 ++ [(IntKind.wrap .u8 u1)]).map (ci .u8)⟩)] [] [(2, .ref 0 0 (out1 ++ [(IntKind.wrap .u8 u1)]).length 1)] (fun i h => absurd h (Nat.not_lt_zero i)) (by show ([2] : List Nat).Nodup; decide) (by show ([5] : List Nat).Nodup; decide) ?_ ?_ (fun t0 => ⟨by first | rfl | (simp only [EVT, resR, single, evLoad, cut, TIS, CS, reduceAdd, reduceEqDiff, ↓reduceIte, reduceCtorEq, reduceLT, reduceLeDiff, reduceSub, Nat.reduceBEq]; (repeat' apply And.intro) <;> first | rfl | (simp; done)), fun j B h => by rcases j with _ | _ <;> first | exact h | (exact absurd h (by simp [hh]))⟩)
  ·exact (allB_some (by rfl) rfl (.same _ _ (ci_pu .u8) (by first | rfl | (simp only [MPT, CS,  List.nil_append]; done) | (simp [CS,  ci_eq, cb_eq, cs_eq, cl_eq]; done) | (simp [CS,  ci_eq, cb_eq, cs_eq, cl_eq]; intro hz; rw [List.take_of_length_le (by simp; omega)]))) trivial)
  ·(simp only [AllT, tl_cons, tl_nil, upd_apply, List.getD_cons_zero, List.getD_cons_succ, reduceEqDiff, ↓reduceIte, and_true]); exact (.refl' (by first | rfl | omega | (simp; done) | (simp [strBytes_len]; done) | (simp; omega) | (simp_all; done)) rfl)
theorem pack_Int_pc {n1 : Int} {r : (List Int)} (H : pack_Int_f n1 = some r) : PC Try.prog 18 [.int .i64 n1] (.list 1 (r.map (ci .u8))) := rc_pc (pack_Int_rc H) (.ownL rfl (fun e => by cases e) rfl (List.length_map _).symm (.same _ _ (ci_pu .u8) rfl))
def ref01_zig_f (n1 : Int) : Option Int :=
 cond (decide (n1 < 0)) (some ((IntKind.wrap .u64 ((IntKind.wrap .u64 (2 * (IntKind.wrap .u64 (IntKind.wrap .i64 (0 - (IntKind.wrap .i64 (n1 + 1))))))) + 1)))) (some ((IntKind.wrap .u64 (2 * (IntKind.wrap .u64 n1)))))
set_option maxHeartbeats 4000000 in
set_option maxRecDepth 20000 in
theorem ref01_zig_pc {n1 : Int} {r : Int} (H : ref01_zig_f n1 = some r) : PC Try.prog 39 [.int .i64 n1] (.int .u64 r) := by
 refine pcA_of Try.func39 (by rfl) (by decide) 14 (by rfl) [.tmp 2] (by rfl) ?_
 unfold ref01_zig_f at H
 simp only [ent]
 refine a_seq ?_
 refine a_reg _ rfl (s := ?zs1) ?_ ?_
 rotate_left
 ·simp only [EVT, stepR, evOp, St.ev, St.app, St.put, wrs, datOf, datOf1, TIS, CS, reduceAdd, reduceMul, reduceEqDiff, ↓reduceIte, reduceCtorEq, reduceLT, reduceLeDiff]
  (repeat' apply And.intro) <;> first|rfl|assumption|omega|(simp;done)|(simp;omega)|(simp_all;done)
 refine sA_n ?_
 refine a_seq ?_
 refine a_seq ?_
 refine a_reg _ rfl (s := ?zs2) ?_ ?_
 rotate_left
 ·simp only [EVT, stepR, evOp, St.ev, St.app, St.put, wrs, datOf, datOf1, evBin, binInt, TIS, CS, reduceAdd, reduceMul, reduceEqDiff, ↓reduceIte, reduceCtorEq, reduceLT, reduceLeDiff]
  (repeat' apply And.intro) <;> first|rfl|assumption|omega|(simp;done)|(simp;omega)|(simp_all;done)
 refine sA_n ?_
 refine a_condb ((decide (n1 < 0))) (by rfl) (fun zc1 => ?_) (fun zc1 => ?_)
 ·have H := cond_t zc1 H
  refine a_seq ?_
  refine a_reg _ rfl (s := ?zs3) ?_ ?_
  rotate_left
  ·simp only [EVT, stepR, evOp, St.ev, St.app, St.put, wrs, datOf, datOf1, evBin, binInt, evUn, evToStr, elems, TIS, CS, reduceAdd, reduceMul, reduceEqDiff, ↓reduceIte, reduceCtorEq, reduceLT, reduceLeDiff, ↓zc1]
   (repeat' apply And.intro) <;> first|rfl|assumption|omega|(simp;done)|(simp;omega)|(simp_all;done)
  refine sA_n ?_
  refine a_ret ?_
  refine sA_r ?_
  obtain rfl := Option.some.inj H
  refine e_r2 (d := ?zd1) ?_ ?_
  rotate_left
  ·simp only [EVT, resR, single, evLoad, cut, TIS, CS, reduceAdd, reduceEqDiff, ↓reduceIte, reduceCtorEq, reduceLT, reduceLeDiff, reduceSub, Nat.reduceBEq, zc1]
   (repeat' apply And.intro) <;> first | rfl | assumption | omega | (simp; done)
  exact (.int' rfl)
 ·have H := cond_f zc1 H
  refine a_skip ?_
  refine sA_n ?_
  refine a_seq ?_
  refine a_reg _ rfl (s := ?zs4) ?_ ?_
  rotate_left
  ·simp only [EVT, stepR, evOp, St.ev, St.app, St.put, wrs, evToStr, elems, datOf, datOf1, evBin, binInt, TIS, CS, reduceAdd, reduceMul, reduceEqDiff, ↓reduceIte, reduceCtorEq, reduceLT, reduceLeDiff, ↓zc1]
   (repeat' apply And.intro) <;> first|rfl|assumption|omega|(simp;done)|(simp;omega)|(simp_all;done)
  refine sA_n ?_
  refine a_ret ?_
  obtain rfl := Option.some.inj H
  refine e_r2 (d := ?zd2) ?_ ?_
  rotate_left
  ·simp only [EVT, resR, single, evLoad, cut, TIS, CS, reduceAdd, reduceEqDiff, ↓reduceIte, reduceCtorEq, reduceLT, reduceLeDiff, reduceSub, Nat.reduceBEq, zc1]
   (repeat' apply And.intro) <;> first | rfl | assumption | omega | (simp; done)
  exact (.int' rfl)
def ref01_Int_J1 (out1 : List Int) (u1 : Int) : Option (List Int) :=
 chk ((out1.length + 1) * 1 ≤ 140737488355328) (some ((out1 ++ [(IntKind.wrap .u8 u1)])))
def ref01_Int_L1 : Nat → (List Int) → Int → Option (List Int)
 | 0, _, _ => none
 | m_ + 1, out2, u2 => cond (decide (128 ≤ u2)) (chk ((out2.length + 1) * 1 ≤ 140737488355328) (ref01_Int_L1 m_ (out2 ++ [(IntKind.wrap .u8 (IntKind.wrap .u64 (128 + (Int.tmod u2 128))))]) (IntKind.wrap .u64 (Int.tdiv u2 128)))) (ref01_Int_J1 out2 u2)
def ref01_Int_f (n1 : Int) : Option (List Int) :=
 (ref01_zig_f n1).bind fun r1 => ref01_Int_L1 BIG ([] : List Int) r1
set_option maxHeartbeats 4000000 in
set_option maxRecDepth 20000 in
theorem ref01_Int_rc {n1 : Int} {r : (List Int)} (H : ref01_Int_f n1 = some r) : RC Try.prog 19 [.int .i64 n1] [] 0 (.ref 0 0 r.length 1) [some ⟨5, 1, false, r.map (ci .u8)⟩] := by
 refine rcA_of Try.func19 (by rfl) (by decide) 25 (by rfl) [.tmp 2] (by rfl) ?_
 unfold ref01_Int_f at H
 simp only [hent, List.length_cons, List.length_nil, reduceAdd]
 refine a_seq ?_
 refine a_reg _ rfl (s := ?zs1) ?_ ?_
 rotate_left
 ·simp only [EVT, stepR, evOp, St.ev, St.app, St.put, wrs, datOf, datOf1, TIS, CS, reduceAdd, reduceMul, reduceEqDiff, ↓reduceIte, reduceCtorEq, reduceLT, reduceLeDiff]
  (repeat' apply And.intro) <;> first|rfl|assumption|omega|(simp;done)|(simp;omega)|(simp_all;done)
 refine sA_n ?_
 refine a_seq ?_
 refine a_reg _ rfl (s := ?zs2) ?_ ?_
 rotate_left
 ·simp only [EVT, stepR, evOp, St.ev, St.app, St.put, wrs, allOne, TIS, CS, reduceAdd, reduceMul, reduceEqDiff, ↓reduceIte, reduceCtorEq, reduceLT, reduceLeDiff, reduceSub, Nat.reduceBEq]
  (repeat' apply And.intro) <;> first|rfl|assumption|omega|(simp;done)|(simp;omega)|(simp_all;done)
 refine sA_n ?_
 refine a_seq ?_
 obtain ⟨r1, zh1, H⟩ := bind_some H
 have zk1 := ref01_zig_pc zh1
 refine a_reg _ rfl (s := ?zs3) ?_ ?_
 rotate_left
 ·try simp only [EVT, stepR, evOp, St.ev, St.app, St.put, wrs, frz, TIS, CS, reduceAdd, reduceMul, reduceEqDiff, ↓reduceIte, reduceCtorEq, reduceLT, reduceLeDiff, reduceSub, Nat.reduceBEq]
  repeat' with_reducible apply And.intro
  all_goals try ((with_reducible show CallR _ _ _ _ _ _ _); refine cR_s zk1 (.cons (.int' rfl) .nil) (.int _ _) ?_; simp only [EVT, stepR, evOp, St.ev, St.app, St.put, wrs, frz, TIS, CS, reduceAdd, reduceMul, reduceEqDiff, ↓reduceIte, reduceCtorEq, reduceLT, reduceLeDiff, reduceSub, Nat.reduceBEq])
  all_goals ((repeat' apply And.intro) <;> first|rfl|assumption|omega|(simp;done)|(simp;omega)|(simp_all;done))
 refine sA_n ?_
 refine a_cut (fun s => ∃ (out1 : List Int) (u1 : Int) (t0 : Nat → Dat), ref01_Int_J1 out1 u1 = some r ∧ s = ⟨tl t0 [(3, .ref 0 0 out1.length 1), (4, .int .u64 u1)], hl [⟨5, 1, false, out1.map (ci .u8)⟩], 1, 25⟩) ?_ ?_
 ·refine a_blk ?_
  refine a_loop (fun m s => ∃ (out2 : List Int) (u2 : Int) (t0 : Nat → Dat), ref01_Int_L1 m out2 u2 = some r ∧ s = ⟨tl t0 [(3, .ref 0 0 out2.length 1), (4, .int .u64 u2)], hl [⟨5, 1, false, out2.map (ci .u8)⟩], 1, 25⟩) BIG ?_ ?_
  ·refine wk_l [(some 8, ⟨5, 1, false, ([] : List Int).map (ci .u8)⟩)] [] [(3, .ref 0 0 ([] : List Int).length 1), (4, .int .u64 r1)] (by show ([3, 4] : List Nat).Nodup; decide) (by show ([8] : List Nat).Nodup; decide) ?_ ?_ (fun t0 => ⟨([] : List Int), r1, t0, H, rfl⟩)
   ·exact (allB_some (by rfl) rfl (.same _ _ (ci_pu .u8) (by first | rfl | (simp only [MPT, CS,  List.nil_append]; done) | (simp [CS,  ci_eq, cb_eq, cs_eq, cl_eq]; done) | (simp [CS,  ci_eq, cb_eq, cs_eq, cl_eq]; intro hz; rw [List.take_of_length_le (by simp; omega)]))) trivial)
   ·(simp only [AllT, tl_cons, tl_nil, upd_apply, List.getD_cons_zero, List.getD_cons_succ, reduceEqDiff, ↓reduceIte, and_true]); exact ⟨(.refl' (by first | rfl | omega | (simp; done) | (simp [strBytes_len]; done) | (simp; omega) | (simp_all; done)) rfl), (.int' rfl)⟩
  ·rintro m_ref01_Int_L1 s ⟨out2, u2, t0, H, rfl⟩
   obtain _ | m_ref01_Int_L1 := m_ref01_Int_L1
   ·cases (show (none : Option _) = some _ from H)
   ·rw [ref01_Int_L1] at H
    refine a_seq ?_
    refine a_seq ?_
    refine a_reg _ rfl (s := ?zs6) ?_ ?_
    rotate_left
    ·simp only [EVT, stepR, evOp, St.ev, St.app, St.put, wrs, datOf, datOf1, evBin, binInt, TIS, CS, reduceAdd, reduceMul, reduceEqDiff, ↓reduceIte, reduceCtorEq, reduceLT, reduceLeDiff]
     (repeat' apply And.intro) <;> first|rfl|assumption|omega|(simp;done)|(simp;omega)|(simp_all;done)
    refine sA_n ?_
    refine a_condb ((decide (128 ≤ u2))) (by rfl) (fun zc1 => ?_) (fun zc1 => ?_)
    ·have H := cond_t zc1 H
     refine a_skip ?_
     refine sA_n ?_
     refine a_blk ?_
     refine a_seq ?_
     obtain ⟨zh3, H⟩ := chk_some H
     refine a_reg _ rfl (s := ?zs7) ?_ ?_
     rotate_left
     ·simp only [EVT, stepR, evOp, St.ev, St.app, St.put, wrs, datOf, datOf1, evBin, binInt, evToStr, elems, allOne, evBuiltin, evAppend, Option.elim, TIS, CS, reduceAdd, reduceMul, reduceEqDiff, ↓reduceIte, reduceCtorEq, reduceLT, reduceLeDiff, reduceSub, Nat.reduceBEq, ↓zc1]
      (repeat' apply And.intro) <;> first|rfl|assumption|omega|(simp;done)|(simp;omega)|(simp_all;done)
     refine sA_n ?_
     refine a_reg _ rfl (s := ?zs8) ?_ ?_
     rotate_left
     ·simp only [EVT, stepR, evOp, St.ev, St.app, St.put, wrs, datOf, datOf1, evBin, binInt, TIS, CS, reduceAdd, reduceMul, reduceEqDiff, ↓reduceIte, reduceCtorEq, reduceLT, reduceLeDiff, ↓zc1]
      (repeat' apply And.intro) <;> first|rfl|assumption|omega|(simp;done)|(simp;omega)|(simp_all;done)
     refine bA_n ?_
     refine lA_n ?_
     refine wk_l [(some 23, ⟨5, 1, false, (out2 ++ [(IntKind.wrap .u8 (IntKind.wrap .u64 (128 + (Int.tmod u2 128))))]).map (ci .u8)⟩)] [] [(3, .ref 0 0 (out2 ++ [(IntKind.wrap .u8 (IntKind.wrap .u64 (128 + (Int.tmod u2 128))))]).length 1), (4, .int .u64 (IntKind.wrap .u64 (Int.tdiv u2 128)))] (by show ([3, 4] : List Nat).Nodup; decide) (by show ([23] : List Nat).Nodup; decide) ?_ ?_ (fun t0 => ⟨_, Nat.lt_succ_self _, (out2 ++ [(IntKind.wrap .u8 (IntKind.wrap .u64 (128 + (Int.tmod u2 128))))]), (IntKind.wrap .u64 (Int.tdiv u2 128)), t0, H, rfl⟩)
     ·exact (allB_some (by rfl) rfl (.same _ _ (ci_pu .u8) (by first | rfl | (simp only [MPT, CS,  List.nil_append]; done) | (simp [CS,  ci_eq, cb_eq, cs_eq, cl_eq]; done) | (simp [CS,  ci_eq, cb_eq, cs_eq, cl_eq]; intro hz; rw [List.take_of_length_le (by simp; omega)]))) trivial)
     ·(simp only [AllT, tl_cons, tl_nil, upd_apply, List.getD_cons_zero, List.getD_cons_succ, reduceEqDiff, ↓reduceIte, and_true]); exact ⟨(.refl' (by first | rfl | omega | (simp; done) | (simp [strBytes_len]; done) | (simp; omega) | (simp_all; done)) rfl), (.int' rfl)⟩
    ·have H := cond_f zc1 H
     refine a_exit ?_
     refine sA_e ?_
     refine lA_e ?_
     refine bA_hit ?_
     refine cA_n ?_
     refine wk_l [(some 0, ⟨5, 1, false, out2.map (ci .u8)⟩)] [] [(3, .ref 0 0 out2.length 1), (4, .int .u64 u2)] (by show ([3, 4] : List Nat).Nodup; decide) (by show ([0] : List Nat).Nodup; decide) ?_ ?_ (fun t0 => ⟨out2, u2, t0, H, rfl⟩)
     ·exact (allB_some (by rfl) rfl (.same _ _ (ci_pu .u8) (by first | rfl | (simp only [MPT, CS,  List.nil_append]; done) | (simp [CS,  ci_eq, cb_eq, cs_eq, cl_eq]; done) | (simp [CS,  ci_eq, cb_eq, cs_eq, cl_eq]; intro hz; rw [List.take_of_length_le (by simp; omega)]))) trivial)
     ·(simp only [AllT, tl_cons, tl_nil, upd_apply, List.getD_cons_zero, List.getD_cons_succ, reduceEqDiff, ↓reduceIte, and_true]); exact ⟨(.refl' (by first | rfl | omega | (simp; done) | (simp [strBytes_len]; done) | (simp; omega) | (simp_all; done)) rfl), (.int' rfl)⟩
 ·rintro s ⟨out1, u1, t0, H, rfl⟩
  unfold ref01_Int_J1 at H
  refine a_seq ?_
  obtain ⟨zh2, H⟩ := chk_some H
  refine a_reg _ rfl (s := ?zs4) ?_ ?_
  rotate_left
  ·simp only [EVT, stepR, evOp, St.ev, St.app, St.put, wrs, evToStr, elems, allOne, evBuiltin, evAppend, Option.elim, TIS, CS, reduceAdd, reduceMul, reduceEqDiff, ↓reduceIte, reduceCtorEq, reduceLT, reduceLeDiff, reduceSub, Nat.reduceBEq]
   (repeat' apply And.intro) <;> first|rfl|assumption|omega|(simp;done)|(simp;omega)|(simp_all;done)
  refine sA_n ?_
  refine a_seq ?_
  refine a_reg _ rfl (s := ?zs5) ?_ ?_
  rotate_left
  ·simp only [EVT, stepR, evOp, St.ev, St.app, St.put, wrs, TIS, CS, reduceAdd, reduceMul, reduceEqDiff, ↓reduceIte, reduceCtorEq, reduceLT, reduceLeDiff]
   (repeat' apply And.intro) <;> first|rfl|assumption|omega|(simp;done)|(simp;omega)|(simp_all;done)
  refine sA_n ?_
  refine a_ret ?_
  obtain rfl := Option.some.inj H
  refine eR_r ?_
  refine wk_ln 0 [(some 5, ⟨5, 1, false, (out1 ++ [(IntKind.wrap .u8 u1)]).map (ci .u8)⟩)] [] [(2, .ref 0 0 (out1 ++ [(IntKind.wrap .u8 u1)]).length 1)] (fun i h => absurd h (Nat.not_lt_zero i)) (by show ([2] : List Nat).Nodup; decide) (by show ([5] : List Nat).Nodup; decide) ?_ ?_ (fun t0 => ⟨by first | rfl | (simp only [EVT, resR, single, evLoad, cut, TIS, CS, reduceAdd, reduceEqDiff, ↓reduceIte, reduceCtorEq, reduceLT, reduceLeDiff, reduceSub, Nat.reduceBEq]; (repeat' apply And.intro) <;> first | rfl | (simp; done)), fun j B h => by rcases j with _ | _ <;> first | exact h | (exact absurd h (by simp [hh]))⟩)
  ·exact (allB_some (by rfl) rfl (.same _ _ (ci_pu .u8) (by first | rfl | (simp only [MPT, CS,  List.nil_append]; done) | (simp [CS,  ci_eq, cb_eq, cs_eq, cl_eq]; done) | (simp [CS,  ci_eq, cb_eq, cs_eq, cl_eq]; intro hz; rw [List.take_of_length_le (by simp; omega)]))) trivial)
  ·(simp only [AllT, tl_cons, tl_nil, upd_apply, List.getD_cons_zero, List.getD_cons_succ, reduceEqDiff, ↓reduceIte, and_true]); exact (.refl' (by first | rfl | omega | (simp; done) | (simp [strBytes_len]; done) | (simp; omega) | (simp_all; done)) rfl)
theorem ref01_Int_pc {n1 : Int} {r : (List Int)} (H : ref01_Int_f n1 = some r) : PC Try.prog 19 [.int .i64 n1] (.list 1 (r.map (ci .u8))) := rc_pc (ref01_Int_rc H) (.ownL rfl (fun e => by cases e) rfl (List.length_map _).symm (.same _ _ (ci_pu .u8) rfl))
def ref01_zag_f (u1 : Int) : Option Int :=
 cond ((Int.tmod u1 2) == 1) (some ((IntKind.wrap .i64 ((IntKind.wrap .i64 (0 - (IntKind.wrap .i64 (IntKind.wrap .u64 (Int.tdiv u1 2))))) - 1)))) (some ((IntKind.wrap .i64 (IntKind.wrap .u64 (Int.tdiv u1 2)))))
set_option maxHeartbeats 4000000 in
set_option maxRecDepth 20000 in
theorem ref01_zag_pc {u1 : Int} {r : Int} (H : ref01_zag_f u1 = some r) : PC Try.prog 45 [.int .u64 u1] (.int .i64 r) := by
 refine pcA_of Try.func45 (by rfl) (by decide) 14 (by rfl) [.tmp 2] (by rfl) ?_
 unfold ref01_zag_f at H
 simp only [ent]
 refine a_seq ?_
 refine a_reg _ rfl (s := ?zs1) ?_ ?_
 rotate_left
 ·simp only [EVT, stepR, evOp, St.ev, St.app, St.put, wrs, datOf, datOf1, TIS, CS, reduceAdd, reduceMul, reduceEqDiff, ↓reduceIte, reduceCtorEq, reduceLT, reduceLeDiff]
  (repeat' apply And.intro) <;> first|rfl|assumption|omega|(simp;done)|(simp;omega)|(simp_all;done)
 refine sA_n ?_
 refine a_seq ?_
 refine a_seq ?_
 refine a_reg _ rfl (s := ?zs2) ?_ ?_
 rotate_left
 ·simp only [EVT, stepR, evOp, St.ev, St.app, St.put, wrs, datOf, datOf1, evBin, binInt, TIS, CS, reduceAdd, reduceMul, reduceEqDiff, ↓reduceIte, reduceCtorEq, reduceLT, reduceLeDiff]
  (repeat' apply And.intro) <;> first|rfl|assumption|omega|(simp;done)|(simp;omega)|(simp_all;done)
 refine sA_n ?_
 refine a_condb (((Int.tmod u1 2) == 1)) (by rfl) (fun zc1 => ?_) (fun zc1 => ?_)
 ·have H := cond_t zc1 H
  refine a_seq ?_
  refine a_reg _ rfl (s := ?zs3) ?_ ?_
  rotate_left
  ·simp only [EVT, stepR, evOp, St.ev, St.app, St.put, wrs, datOf, datOf1, evBin, binInt, evToStr, elems, evUn, TIS, CS, reduceAdd, reduceMul, reduceEqDiff, ↓reduceIte, reduceCtorEq, reduceLT, reduceLeDiff, ↓zc1]
   (repeat' apply And.intro) <;> first|rfl|assumption|omega|(simp;done)|(simp;omega)|(simp_all;done)
  refine sA_n ?_
  refine a_ret ?_
  refine sA_r ?_
  obtain rfl := Option.some.inj H
  refine e_r2 (d := ?zd1) ?_ ?_
  rotate_left
  ·simp only [EVT, resR, single, evLoad, cut, TIS, CS, reduceAdd, reduceEqDiff, ↓reduceIte, reduceCtorEq, reduceLT, reduceLeDiff, reduceSub, Nat.reduceBEq, zc1]
   (repeat' apply And.intro) <;> first | rfl | assumption | omega | (simp; done)
  exact (.int' rfl)
 ·have H := cond_f zc1 H
  refine a_skip ?_
  refine sA_n ?_
  refine a_seq ?_
  refine a_reg _ rfl (s := ?zs4) ?_ ?_
  rotate_left
  ·simp only [EVT, stepR, evOp, St.ev, St.app, St.put, wrs, datOf, datOf1, evBin, binInt, evToStr, elems, TIS, CS, reduceAdd, reduceMul, reduceEqDiff, ↓reduceIte, reduceCtorEq, reduceLT, reduceLeDiff, ↓zc1]
   (repeat' apply And.intro) <;> first|rfl|assumption|omega|(simp;done)|(simp;omega)|(simp_all;done)
  refine sA_n ?_
  refine a_ret ?_
  obtain rfl := Option.some.inj H
  refine e_r2 (d := ?zd2) ?_ ?_
  rotate_left
  ·simp only [EVT, resR, single, evLoad, cut, TIS, CS, reduceAdd, reduceEqDiff, ↓reduceIte, reduceCtorEq, reduceLT, reduceLeDiff, reduceSub, Nat.reduceBEq, zc1]
   (repeat' apply And.intro) <;> first | rfl | assumption | omega | (simp; done)
  exact (.int' rfl)
def ref01_Same_f (a1 : List Int) (b1 : List Int) : Option Bool :=
 some (((strOfNums a1).toList == (strOfNums b1).toList))
set_option maxHeartbeats 4000000 in
set_option maxRecDepth 20000 in
theorem ref01_Same_pc {a1 : List Int} {b1 : List Int} {r : Bool} (H : ref01_Same_f a1 b1 = some r) : PC Try.prog 12 [.list 1 (a1.map (ci .u8)), .list 1 (b1.map (ci .u8))] (.bool r) := by
 refine pcA_of Try.func12 (by rfl) (by decide) 10 (by rfl) [.tmp 4] (by rfl) ?_
 unfold ref01_Same_f at H
 simp only [ent]
 refine a_seq ?_
 refine a_reg _ rfl (s := ?zs1) ?_ ?_
 rotate_left
 ·simp only [EVT, stepR, evOp, St.ev, St.app, St.put, wrs, datOf, datOf1, TIS, CS, reduceAdd, reduceMul, reduceEqDiff, ↓reduceIte, reduceCtorEq, reduceLT, reduceLeDiff]
  (repeat' apply And.intro) <;> first|rfl|assumption|omega|(simp;done)|(simp;omega)|(simp_all;done)
 refine sA_n ?_
 refine a_seq ?_
 refine a_reg _ rfl (s := ?zs2) ?_ ?_
 rotate_left
 ·simp only [EVT, stepR, evOp, St.ev, St.app, St.put, wrs, evToStr, elems, evBin, binInt, TIS, CS, reduceAdd, reduceMul, reduceEqDiff, ↓reduceIte, reduceCtorEq, reduceLT, reduceLeDiff]
  (repeat' apply And.intro) <;> first|rfl|assumption|omega|(simp;done)|(simp;omega)|(simp_all;done)
 refine sA_n ?_
 refine a_ret ?_
 obtain rfl := Option.some.inj H
 refine e_r2 (d := ?zd1) ?_ ?_
 rotate_left
 ·simp only [EVT, resR, single, evLoad, cut, TIS, CS, reduceAdd, reduceEqDiff, ↓reduceIte, reduceCtorEq, reduceLT, reduceLeDiff, reduceSub, Nat.reduceBEq]
  (repeat' apply And.intro) <;> first | rfl | assumption | omega | (simp; done)
 exact (.bool' rfl)
def ref01_SameInts_J1 : Option Bool :=
 some (true)
def ref01_SameInts_L1 (a1 : List Int) (b1 : List Int) : Nat → Int → Option Bool
 | 0, _ => none
 | m_ + 1, i1 => cond (decide (i1 < (a1.length : Int))) ((idx a1 i1).bind fun x1 => (idx b1 i1).bind fun x2 => cond (x1 != x2) (some (false)) (ref01_SameInts_L1 a1 b1 m_ (IntKind.wrap .i64 (i1 + 1)))) (ref01_SameInts_J1)
def ref01_SameInts_f (a1 : List Int) (b1 : List Int) : Option Bool :=
 cond ((a1.length : Int) != (b1.length : Int)) (some (false)) (ref01_SameInts_L1 a1 b1 BIG 0)
set_option maxHeartbeats 4000000 in
set_option maxRecDepth 20000 in
theorem ref01_SameInts_pc {a1 : List Int} {b1 : List Int} {r : Bool} (H : ref01_SameInts_f a1 b1 = some r) : PC Try.prog 30 [.list 1 (a1.map (ci .i64)), .list 1 (b1.map (ci .i64))] (.bool r) := by
 refine pcA_of Try.func30 (by rfl) (by decide) 26 (by rfl) [.tmp 4] (by rfl) ?_
 unfold ref01_SameInts_f at H
 simp only [ent]
 refine a_seq ?_
 refine a_reg _ rfl (s := ?zs1) ?_ ?_
 rotate_left
 ·simp only [EVT, stepR, evOp, St.ev, St.app, St.put, wrs, datOf, datOf1, TIS, CS, reduceAdd, reduceMul, reduceEqDiff, ↓reduceIte, reduceCtorEq, reduceLT, reduceLeDiff]
  (repeat' apply And.intro) <;> first|rfl|assumption|omega|(simp;done)|(simp;omega)|(simp_all;done)
 refine sA_n ?_
 refine a_seq ?_
 refine a_seq ?_
 refine a_reg _ rfl (s := ?zs2) ?_ ?_
 rotate_left
 ·simp only [EVT, stepR, evOp, St.ev, St.app, St.put, wrs, evBuiltin, evBin, binInt, TIS, CS, reduceAdd, reduceMul, reduceEqDiff, ↓reduceIte, reduceCtorEq, reduceLT, reduceLeDiff, reduceSub, Nat.reduceBEq]
  (repeat' apply And.intro) <;> first|rfl|assumption|omega|(simp;done)|(simp;omega)|(simp_all;done)
 refine sA_n ?_
 refine a_condb (((a1.length : Int) != (b1.length : Int))) (by rfl) (fun zc1 => ?_) (fun zc1 => ?_)
 ·have H := cond_t zc1 H
  refine a_seq ?_
  refine a_reg _ rfl (s := ?zs3) ?_ ?_
  rotate_left
  ·simp only [EVT, stepR, evOp, St.ev, St.app, St.put, wrs, datOf, datOf1, TIS, CS, reduceAdd, reduceMul, reduceEqDiff, ↓reduceIte, reduceCtorEq, reduceLT, reduceLeDiff, ↓zc1]
   (repeat' apply And.intro) <;> first|rfl|assumption|omega|(simp;done)|(simp;omega)|(simp_all;done)
  refine sA_n ?_
  refine a_ret ?_
  refine sA_r ?_
  obtain rfl := Option.some.inj H
  refine e_r2 (d := ?zd1) ?_ ?_
  rotate_left
  ·simp only [EVT, resR, single, evLoad, cut, TIS, CS, reduceAdd, reduceEqDiff, ↓reduceIte, reduceCtorEq, reduceLT, reduceLeDiff, reduceSub, Nat.reduceBEq, zc1]
   (repeat' apply And.intro) <;> first | rfl | assumption | omega | (simp; done)
  exact (.bool' (by first | rfl | assumption | (simp_all; done)))
 ·have H := cond_f zc1 H
  refine a_skip ?_
  refine sA_n ?_
  refine a_cut (fun s => ∃ (t0 : Nat → Dat), ref01_SameInts_J1 = some r ∧ s = ⟨tl t0 [], hl [], 0, 26⟩) ?_ ?_
  ·refine a_seq ?_
   refine a_reg _ rfl (s := ?zs5) ?_ ?_
   rotate_left
   ·simp only [EVT, stepR, evOp, St.ev, St.app, St.put, wrs, datOf, datOf1, TIS, CS, reduceAdd, reduceMul, reduceEqDiff, ↓reduceIte, reduceCtorEq, reduceLT, reduceLeDiff, ↓zc1]
    (repeat' apply And.intro) <;> first|rfl|assumption|omega|(simp;done)|(simp;omega)|(simp_all;done)
   refine sA_n ?_
   refine a_blk ?_
   refine a_loop (fun m s => ∃ (i1 : Int) (t0 : Nat → Dat), ref01_SameInts_L1 a1 b1 m i1 = some r ∧ s = ⟨tl t0 [(0, .list 1 (a1.map (ci .i64))), (1, .list 1 (b1.map (ci .i64))), (5, .int .i64 i1)], hl [], 0, 26⟩) BIG ?_ ?_
   ·refine wk_l [] [] [(0, .list 1 (a1.map (ci .i64))), (1, .list 1 (b1.map (ci .i64))), (5, .int .i64 0)] (by show ([0, 1, 5] : List Nat).Nodup; decide) (by show ([] : List Nat).Nodup; decide) ?_ ?_ (fun t0 => ⟨0, t0, H, rfl⟩)
    ·exact trivial
    ·(simp only [AllT, tl_cons, tl_nil, upd_apply, List.getD_cons_zero, List.getD_cons_succ, reduceEqDiff, ↓reduceIte, and_true]); exact ⟨(.lst _ _ _ (ci_pu .i64) rfl), (.lst _ _ _ (ci_pu .i64) rfl), (.int' rfl)⟩
   ·rintro m_ref01_SameInts_L1 s ⟨i1, t0, H, rfl⟩
    obtain _ | m_ref01_SameInts_L1 := m_ref01_SameInts_L1
    ·cases (show (none : Option _) = some _ from H)
    ·rw [ref01_SameInts_L1] at H
     refine a_seq ?_
     refine a_seq ?_
     refine a_reg _ rfl (s := ?zs6) ?_ ?_
     rotate_left
     ·simp only [EVT, stepR, evOp, St.ev, St.app, St.put, wrs, evBuiltin, evBin, binInt, TIS, CS, reduceAdd, reduceMul, reduceEqDiff, ↓reduceIte, reduceCtorEq, reduceLT, reduceLeDiff, reduceSub, Nat.reduceBEq]
      (repeat' apply And.intro) <;> first|rfl|assumption|omega|(simp;done)|(simp;omega)|(simp_all;done)
     refine sA_n ?_
     refine a_condb ((decide (i1 < (a1.length : Int)))) (by rfl) (fun zc2 => ?_) (fun zc2 => ?_)
     ·have H := cond_t zc2 H
      refine a_skip ?_
      refine sA_n ?_
      refine a_seq ?_
      refine a_blk ?_
      refine a_seq ?_
      obtain ⟨x1, zh1, H⟩ := bind_some H
      have zg1 := idx_map zh1 (ci .i64)
      try simp only [Int.reduceToNat] at zg1
      obtain ⟨zh1a, zh1b, _⟩ := idx_some zh1
      obtain ⟨x2, zh2, H⟩ := bind_some H
      have zg2 := idx_map zh2 (ci .i64)
      try simp only [Int.reduceToNat] at zg2
      obtain ⟨zh2a, zh2b, _⟩ := idx_some zh2
      refine a_drW (by kernel_rfl) _ rfl (s := ?zs7) (by kernel_rfl) (by kernel_rfl) ?zs7f ?_ ?_ ?_
      rotate_left 2
      ·simp only [EVT, stepW, evOp, St.ev, St.app, St.put, wrs, evIndexAddr, evLoad, cut, evBin, binInt, TIS, CS, reduceAdd, reduceMul, reduceEqDiff, ↓reduceIte, reduceCtorEq, reduceLT, reduceLeDiff, Int.reduceToNat, reduceSub, Nat.reduceBEq, ↓zc2, zg1, zg2]
       (repeat' apply And.intro) <;> first|rfl|assumption|omega|(simp;done)|(simp;omega)|(simp_all;done)
      ·kernel_rfl
      refine sA_n ?_
      refine a_condb ((x1 != x2)) (by rfl) (fun zc3 => ?_) (fun zc3 => ?_)
      ·have H := cond_t zc3 H
       refine a_seq ?_
       refine a_reg _ rfl (s := ?zs8) ?_ ?_
       rotate_left
       ·simp only [EVT, stepR, evOp, St.ev, St.app, St.put, wrs, datOf, datOf1, TIS, CS, reduceAdd, reduceMul, reduceEqDiff, ↓reduceIte, reduceCtorEq, reduceLT, reduceLeDiff, ↓zc2, zg1, zg2, ↓zc3]
        (repeat' apply And.intro) <;> first|rfl|assumption|omega|(simp;done)|(simp;omega)|(simp_all;done)
       refine sA_n ?_
       refine a_ret ?_
       refine bA_r ?_
       refine sA_r ?_
       refine lA_r ?_
       refine bA_r ?_
       refine cA_r ?_
       obtain rfl := Option.some.inj H
       refine e_r2 (d := ?zd3) ?_ ?_
       rotate_left
       ·simp only [EVT, resR, single, evLoad, cut, TIS, CS, reduceAdd, reduceEqDiff, ↓reduceIte, reduceCtorEq, reduceLT, reduceLeDiff, reduceSub, Nat.reduceBEq, zc2, zg1, zg2, zc3]
        (repeat' apply And.intro) <;> first | rfl | assumption | omega | (simp; done)
       exact (.bool' (by first | rfl | assumption | (simp_all; done)))
      ·have H := cond_f zc3 H
       refine a_skip ?_
       refine bA_n ?_
       refine sA_n ?_
       refine a_reg _ rfl (s := ?zs9) ?_ ?_
       rotate_left
       ·simp only [EVT, stepR, evOp, St.ev, St.app, St.put, wrs, datOf, datOf1, evBin, binInt, TIS, CS, reduceAdd, reduceMul, reduceEqDiff, ↓reduceIte, reduceCtorEq, reduceLT, reduceLeDiff, ↓zc2, zg1, zg2, ↓zc3]
        (repeat' apply And.intro) <;> first|rfl|assumption|omega|(simp;done)|(simp;omega)|(simp_all;done)
       refine lA_n ?_
       refine wk_l [] [] [(0, .list 1 (a1.map (ci .i64))), (1, .list 1 (b1.map (ci .i64))), (5, .int .i64 (IntKind.wrap .i64 (i1 + 1)))] (by show ([0, 1, 5] : List Nat).Nodup; decide) (by show ([] : List Nat).Nodup; decide) ?_ ?_ (fun t0 => ⟨_, Nat.lt_succ_self _, (IntKind.wrap .i64 (i1 + 1)), t0, H, rfl⟩)
       ·exact trivial
       ·(simp only [AllT, tl_cons, tl_nil, upd_apply, List.getD_cons_zero, List.getD_cons_succ, reduceEqDiff, ↓reduceIte, and_true]); exact ⟨(.lst _ _ _ (ci_pu .i64) rfl), (.lst _ _ _ (ci_pu .i64) rfl), (.int' rfl)⟩
     ·have H := cond_f zc2 H
      refine a_exit ?_
      refine sA_e ?_
      refine lA_e ?_
      refine bA_hit ?_
      refine cA_n ?_
      refine wk_l [] [] [] (by show ([] : List Nat).Nodup; decide) (by show ([] : List Nat).Nodup; decide) ?_ ?_ (fun t0 => ⟨t0, H, rfl⟩)
      ·exact trivial
      ·exact trivial
  ·rintro s ⟨t0, H, rfl⟩
   unfold ref01_SameInts_J1 at H
   refine a_seq ?_
   refine a_reg _ rfl (s := ?zs4) ?_ ?_
   rotate_left
   ·simp only [EVT, stepR, evOp, St.ev, St.app, St.put, wrs, datOf, datOf1, TIS, CS, reduceAdd, reduceMul, reduceEqDiff, ↓reduceIte, reduceCtorEq, reduceLT, reduceLeDiff]
    (repeat' apply And.intro) <;> first|rfl|assumption|omega|(simp;done)|(simp;omega)|(simp_all;done)
   refine sA_n ?_
   refine a_ret ?_
   obtain rfl := Option.some.inj H
   refine e_r2 (d := ?zd2) ?_ ?_
   rotate_left
   ·simp only [EVT, resR, single, evLoad, cut, TIS, CS, reduceAdd, reduceEqDiff, ↓reduceIte, reduceCtorEq, reduceLT, reduceLeDiff, reduceSub, Nat.reduceBEq]
    (repeat' apply And.intro) <;> first | rfl | assumption | omega | (simp; done)
   exact (.bool' (by first | rfl | assumption | (simp_all; done)))
def pack_ReadInt_J1 : Option (Int × (List Int) × Int) :=
 some (0, [], 10)
def pack_ReadInt_J3 (v1 : Int) (b1 : List Int) (u1 : Int) (x1 : Int) (v3 : Bool) : Option (Int × (List Int) × Int) :=
 cond v3 (some (0, [], 11)) (chk (0 ≤ (IntKind.wrap .i64 (v1 + 1)) ∧ (IntKind.wrap .i64 (v1 + 1)) ≤ (b1.length : Int) ∧ (b1.length : Int) ≤ (b1.length : Int)) (some ((IntKind.wrap .i64 (BitVec.ofInt (IntKind.bits .i64) (IntKind.wrap .i64 (Int.fdiv (IntKind.wrap .u64 (BitVec.ofInt (IntKind.bits .u64) u1 ||| BitVec.ofInt (IntKind.bits .u64) (IntKind.wrap .u64 ((IntKind.wrap .u64 (IntKind.wrap .u8 (BitVec.ofInt (IntKind.bits .u8) x1 &&& BitVec.ofInt (IntKind.bits .u8) 127).toNat)) * 2 ^ (min (IntKind.wrap .i64 (7 * v1)).toNat (IntKind.bits .u64))))).toNat) (2 ^ (min 1 (IntKind.bits .u64))))) ^^^ BitVec.ofInt (IntKind.bits .i64) (IntKind.wrap .i64 (0 - (IntKind.wrap .i64 (IntKind.wrap .u64 (BitVec.ofInt (IntKind.bits .u64) (IntKind.wrap .u64 (BitVec.ofInt (IntKind.bits .u64) u1 ||| BitVec.ofInt (IntKind.bits .u64) (IntKind.wrap .u64 ((IntKind.wrap .u64 (IntKind.wrap .u8 (BitVec.ofInt (IntKind.bits .u8) x1 &&& BitVec.ofInt (IntKind.bits .u8) 127).toNat)) * 2 ^ (min (IntKind.wrap .i64 (7 * v1)).toNat (IntKind.bits .u64))))).toNat) &&& BitVec.ofInt (IntKind.bits .u64) 1).toNat))))).toNat), (b1.drop (IntKind.wrap .i64 (v1 + 1)).toNat), 0)))
def pack_ReadInt_J2 (k_pack_ReadInt_L1 : Int → Int → Option (Int × (List Int) × Int)) (v1 : Int) (x1 : Int) (u1 : Int) (b1 : List Int) (v2 : Bool) : Option (Int × (List Int) × Int) :=
 cond v2 (some (0, [], 11)) (chk (0 ≤ (IntKind.wrap .i64 (7 * v1))) (cond (decide (128 ≤ x1)) (k_pack_ReadInt_L1 (IntKind.wrap .u64 (BitVec.ofInt (IntKind.bits .u64) u1 ||| BitVec.ofInt (IntKind.bits .u64) (IntKind.wrap .u64 ((IntKind.wrap .u64 (IntKind.wrap .u8 (BitVec.ofInt (IntKind.bits .u8) x1 &&& BitVec.ofInt (IntKind.bits .u8) 127).toNat)) * 2 ^ (min (IntKind.wrap .i64 (7 * v1)).toNat (IntKind.bits .u64))))).toNat) (IntKind.wrap .i64 (v1 + 1))) (pack_ReadInt_J3 v1 b1 u1 x1 ((x1 == 0) && (decide (0 < v1))))))
def pack_ReadInt_L1 (b1 : List Int) : Nat → Int → Int → Option (Int × (List Int) × Int)
 | 0, _, _ => none
 | m_ + 1, u1, v1 => cond (decide (v1 < (b1.length : Int))) ((idx b1 v1).bind fun x1 => pack_ReadInt_J2 (pack_ReadInt_L1 b1 m_) v1 x1 u1 b1 ((v1 == 9) && (decide (1 < x1)))) (pack_ReadInt_J1)
def pack_ReadInt_f (b1 : List Int) : Option (Int × (List Int) × Int) :=
 pack_ReadInt_L1 b1 BIG 0 0
set_option maxHeartbeats 4000000 in
set_option maxRecDepth 20000 in
theorem pack_ReadInt_pc {b1 : List Int} {r : Int × (List Int) × Int} (H : pack_ReadInt_f b1 = some r) : PC Try.prog 29 [.list 1 (b1.map (ci .u8))] (.tup [.int .i64 r.1, .list 1 (r.2.1.map (ci .u8)), .int .i64 r.2.2]) := by
 refine pcA_of Try.func29 (by rfl) (by decide) 50 (by rfl) [.tmp 2, .tmp 3, .tmp 4] (by rfl) ?_
 unfold pack_ReadInt_f at H
 simp only [ent]
 refine a_seq ?_
 refine a_reg _ rfl (s := ?zs1) ?_ ?_
 rotate_left
 ·simp only [EVT, stepR, evOp, St.ev, St.app, St.put, wrs, datOf, datOf1, TIS, CS, reduceAdd, reduceMul, reduceEqDiff, ↓reduceIte, reduceCtorEq, reduceLT, reduceLeDiff]
  (repeat' apply And.intro) <;> first|rfl|assumption|omega|(simp;done)|(simp;omega)|(simp_all;done)
 refine sA_n ?_
 refine a_seq ?_
 refine a_reg _ rfl (s := ?zs2) ?_ ?_
 rotate_left
 ·simp only [EVT, stepR, evOp, St.ev, St.app, St.put, wrs, datOf, datOf1, TIS, CS, reduceAdd, reduceMul, reduceEqDiff, ↓reduceIte, reduceCtorEq, reduceLT, reduceLeDiff]
  (repeat' apply And.intro) <;> first|rfl|assumption|omega|(simp;done)|(simp;omega)|(simp_all;done)
 refine sA_n ?_
 refine a_cut (fun s => ∃ (t0 : Nat → Dat), pack_ReadInt_J1 = some r ∧ s = ⟨tl t0 [], hl [], 0, 50⟩) ?_ ?_
 ·refine a_seq ?_
  refine a_reg _ rfl (s := ?zs4) ?_ ?_
  rotate_left
  ·simp only [EVT, stepR, evOp, St.ev, St.app, St.put, wrs, evBuiltin, datOf, datOf1, TIS, CS, reduceAdd, reduceMul, reduceEqDiff, ↓reduceIte, reduceCtorEq, reduceLT, reduceLeDiff, reduceSub, Nat.reduceBEq]
   (repeat' apply And.intro) <;> first|rfl|assumption|omega|(simp;done)|(simp;omega)|(simp_all;done)
  refine sA_n ?_
  refine a_blk ?_
  refine a_loop (fun m s => ∃ (u1 : Int) (v1 : Int) (t0 : Nat → Dat), pack_ReadInt_L1 b1 m u1 v1 = some r ∧ s = ⟨tl t0 [(0, .list 1 (b1.map (ci .u8))), (5, .int .u64 u1), (8, .list 1 (b1.map (ci .u8))), (9, .int .i64 (b1.length : Int)), (10, .int .i64 v1)], hl [], 0, 50⟩) BIG ?_ ?_
  ·refine wk_l [] [] [(0, .list 1 (b1.map (ci .u8))), (5, .int .u64 0), (8, .list 1 (b1.map (ci .u8))), (9, .int .i64 (b1.length : Int)), (10, .int .i64 0)] (by show ([0, 5, 8, 9, 10] : List Nat).Nodup; decide) (by show ([] : List Nat).Nodup; decide) ?_ ?_ (fun t0 => ⟨0, 0, t0, H, rfl⟩)
   ·exact trivial
   ·(simp only [AllT, tl_cons, tl_nil, upd_apply, List.getD_cons_zero, List.getD_cons_succ, reduceEqDiff, ↓reduceIte, and_true]); exact ⟨(.lst _ _ _ (ci_pu .u8) rfl), (.int' rfl), (.lst _ _ _ (ci_pu .u8) rfl), (.int' rfl), (.int' rfl)⟩
  ·rintro m_pack_ReadInt_L1 s ⟨u1, v1, t0, H, rfl⟩
   obtain _ | m_pack_ReadInt_L1 := m_pack_ReadInt_L1
   ·cases (show (none : Option _) = some _ from H)
   ·rw [pack_ReadInt_L1] at H
    refine a_seq ?_
    refine a_reg _ rfl (s := ?zs5) ?_ ?_
    rotate_left
    ·simp only [EVT, stepR, evOp, St.ev, St.app, St.put, wrs, evBin, binInt, TIS, CS, reduceAdd, reduceMul, reduceEqDiff, ↓reduceIte, reduceCtorEq, reduceLT, reduceLeDiff]
     (repeat' apply And.intro) <;> first|rfl|assumption|omega|(simp;done)|(simp;omega)|(simp_all;done)
    refine sA_n ?_
    refine a_seq ?_
    refine a_condb ((decide (v1 < (b1.length : Int)))) (by rfl) (fun zc1 => ?_) (fun zc1 => ?_)
    ·have H := cond_t zc1 H
     refine a_skip ?_
     refine sA_n ?_
     refine a_seq ?_
     refine a_blk ?_
     refine a_seq ?_
     obtain ⟨x1, zh1, H⟩ := bind_some H
     have zg1 := idx_map zh1 (ci .u8)
     try simp only [Int.reduceToNat] at zg1
     obtain ⟨zh1a, zh1b, _⟩ := idx_some zh1
     refine a_reg _ rfl (s := ?zs6) ?_ ?_
     rotate_left
     ·simp only [EVT, stepR, evOp, St.ev, St.app, St.put, wrs, evIndexAddr, evLoad, cut, TIS, CS, reduceAdd, reduceMul, reduceEqDiff, ↓reduceIte, reduceCtorEq, reduceLT, reduceLeDiff, Int.reduceToNat, reduceSub, Nat.reduceBEq, ↓zc1, zg1]
      (repeat' apply And.intro) <;> first|rfl|assumption|omega|(simp;done)|(simp;omega)|(simp_all;done)
     refine sA_n ?_
     refine a_seq ?_
     refine a_cut (fun s => ∃ (v2 : Bool) (t0 : Nat → Dat), pack_ReadInt_J2 (pack_ReadInt_L1 b1 m_pack_ReadInt_L1) v1 x1 u1 b1 v2 = some r ∧ s = ⟨tl t0 [(0, .list 1 (b1.map (ci .u8))), (5, .int .u64 u1), (6, .int .i64 v1), (7, .int .u8 x1), (8, .list 1 (b1.map (ci .u8))), (9, .int .i64 (b1.length : Int)), (10, .int .i64 v1), (20, .bool v2)], hl [], 0, 50⟩) ?_ ?_
     ·refine bool_split (b := (v1 == 9)) (fun zc6 => ?_) (fun zc6 => ?_)
      ·rw [zc6] at H
       refine a_reg _ rfl (s := ?zs15) ?_ ?_
       rotate_left
       ·simp only [EVT, stepR, evOp, St.ev, St.app, St.put, wrs, datOf, datOf1, evBin, binInt, TIS, CS, reduceAdd, reduceMul, reduceEqDiff, ↓reduceIte, reduceCtorEq, reduceLT, reduceLeDiff, Array.reduceGetElem?, ↓zc1, zg1, ↓zc6]
        try simp only [EVT, stepR, evOp, St.ev, St.app, St.put, wrs, datOf, datOf1, evBin, binInt, TIS, CS, reduceAdd, reduceMul, reduceEqDiff, ↓reduceIte, reduceCtorEq, reduceLT, reduceLeDiff, Array.reduceGetElem?, ↓zc1, zg1, ↓zc6]
        (repeat' apply And.intro) <;> first|rfl|assumption|omega|(simp;done)|(simp;omega)|(simp_all;done)
       refine cA_n ?_
       refine wk_l [] [] [(0, .list 1 (b1.map (ci .u8))), (5, .int .u64 u1), (6, .int .i64 v1), (7, .int .u8 x1), (8, .list 1 (b1.map (ci .u8))), (9, .int .i64 (b1.length : Int)), (10, .int .i64 v1), (20, .bool (decide (1 < x1)))] (by show ([0, 5, 6, 7, 8, 9, 10, 20] : List Nat).Nodup; decide) (by show ([] : List Nat).Nodup; decide) ?_ ?_ (fun t0 => ⟨(decide (1 < x1)), t0, H, rfl⟩)
       ·exact trivial
       ·(simp only [AllT, tl_cons, tl_nil, upd_apply, List.getD_cons_zero, List.getD_cons_succ, reduceEqDiff, ↓reduceIte, and_true]); exact ⟨(.lst _ _ _ (ci_pu .u8) rfl), (.int' rfl), (.int' rfl), (.int' rfl), (.lst _ _ _ (ci_pu .u8) rfl), (.int' rfl), (.int' rfl), (.bool' rfl)⟩
      ·rw [zc6] at H
       refine a_reg _ rfl (s := ?zs16) ?_ ?_
       rotate_left
       ·simp only [EVT, stepR, evOp, St.ev, St.app, St.put, wrs, datOf, datOf1, evBin, binInt, TIS, CS, reduceAdd, reduceMul, reduceEqDiff, ↓reduceIte, reduceCtorEq, reduceLT, reduceLeDiff, Array.reduceGetElem?, ↓zc1, zg1, ↓zc6]
        try simp only [EVT, stepR, evOp, St.ev, St.app, St.put, wrs, datOf, datOf1, evBin, binInt, TIS, CS, reduceAdd, reduceMul, reduceEqDiff, ↓reduceIte, reduceCtorEq, reduceLT, reduceLeDiff, Array.reduceGetElem?, ↓zc1, zg1, ↓zc6]
        (repeat' apply And.intro) <;> first|rfl|assumption|omega|(simp;done)|(simp;omega)|(simp_all;done)
       refine cA_n ?_
       refine wk_l [] [] [(0, .list 1 (b1.map (ci .u8))), (5, .int .u64 u1), (6, .int .i64 v1), (7, .int .u8 x1), (8, .list 1 (b1.map (ci .u8))), (9, .int .i64 (b1.length : Int)), (10, .int .i64 v1), (20, .bool false)] (by show ([0, 5, 6, 7, 8, 9, 10, 20] : List Nat).Nodup; decide) (by show ([] : List Nat).Nodup; decide) ?_ ?_ (fun t0 => ⟨false, t0, H, rfl⟩)
       ·exact trivial
       ·(simp only [AllT, tl_cons, tl_nil, upd_apply, List.getD_cons_zero, List.getD_cons_succ, reduceEqDiff, ↓reduceIte, and_true]); exact ⟨(.lst _ _ _ (ci_pu .u8) rfl), (.int' rfl), (.int' rfl), (.int' rfl), (.lst _ _ _ (ci_pu .u8) rfl), (.int' rfl), (.int' rfl), (.bool' (by first | rfl | assumption | (simp_all; done)))⟩
     ·rintro s ⟨v2, t0, H, rfl⟩
      unfold pack_ReadInt_J2 at H
      refine a_condb (v2) (by rfl) (fun zc2 => ?_) (fun zc2 => ?_)
      ·have H := cond_t zc2 H
       refine a_seq ?_
       refine a_reg _ rfl (s := ?zs7) ?_ ?_
       rotate_left
       ·simp only [EVT, stepR, evOp, St.ev, St.app, St.put, wrs, datOf, datOf1, TIS, CS, reduceAdd, reduceMul, reduceEqDiff, ↓reduceIte, reduceCtorEq, reduceLT, reduceLeDiff, ↓zc2]
        (repeat' apply And.intro) <;> first|rfl|assumption|omega|(simp;done)|(simp;omega)|(simp_all;done)
       refine sA_n ?_
       refine a_ret ?_
       refine sA_r ?_
       refine bA_r ?_
       refine sA_r ?_
       refine lA_r ?_
       refine bA_r ?_
       refine cA_r ?_
       obtain rfl := Option.some.inj H
       refine e_r2 (d := ?zd2) ?_ ?_
       rotate_left
       ·simp only [EVT, resR, single, evLoad, cut, TIS, CS, reduceAdd, reduceEqDiff, ↓reduceIte, reduceCtorEq, reduceLT, reduceLeDiff, reduceSub, Nat.reduceBEq, zc2]
        (repeat' apply And.intro) <;> first | rfl | assumption | omega | (simp; done)
       exact (.tup' (.cons (.int' rfl) (.cons (.nil _) (.cons (.int' rfl) .nil))))
      ·have H := cond_f zc2 H
       refine a_skip ?_
       refine sA_n ?_
       refine a_seq ?_
       obtain ⟨zh2, H⟩ := chk_some H
       refine a_reg _ rfl (s := ?zs8) ?_ ?_
       rotate_left
       ·simp only [EVT, stepR, evOp, St.ev, St.app, St.put, wrs, datOf, datOf1, evBin, binInt, evToStr, elems, TIS, CS, reduceAdd, reduceMul, reduceEqDiff, ↓reduceIte, reduceCtorEq, reduceLT, reduceLeDiff, ↓zc2]
        (repeat' apply And.intro) <;> first|rfl|assumption|omega|(simp;done)|(simp;omega)|(simp_all;done)
       refine sA_n ?_
       refine a_seq ?_
       refine a_seq ?_
       refine a_reg _ rfl (s := ?zs9) ?_ ?_
       rotate_left
       ·simp only [EVT, stepR, evOp, St.ev, St.app, St.put, wrs, datOf, datOf1, evBin, binInt, TIS, CS, reduceAdd, reduceMul, reduceEqDiff, ↓reduceIte, reduceCtorEq, reduceLT, reduceLeDiff, ↓zc2]
        (repeat' apply And.intro) <;> first|rfl|assumption|omega|(simp;done)|(simp;omega)|(simp_all;done)
       refine sA_n ?_
       refine a_condb ((decide (128 ≤ x1))) (by rfl) (fun zc3 => ?_) (fun zc3 => ?_)
       ·have H := cond_t zc3 H
        refine a_exit ?_
        refine sA_e ?_
        refine bA_hit ?_
        refine sA_n ?_
        refine a_reg _ rfl (s := ?zs10) ?_ ?_
        rotate_left
        ·simp only [EVT, stepR, evOp, St.ev, St.app, St.put, wrs, datOf, datOf1, evBin, binInt, TIS, CS, reduceAdd, reduceMul, reduceEqDiff, ↓reduceIte, reduceCtorEq, reduceLT, reduceLeDiff, ↓zc2, ↓zc3]
         (repeat' apply And.intro) <;> first|rfl|assumption|omega|(simp;done)|(simp;omega)|(simp_all;done)
        refine lA_n ?_
        refine wk_l [] [] [(0, .list 1 (b1.map (ci .u8))), (5, .int .u64 (IntKind.wrap .u64 (BitVec.ofInt (IntKind.bits .u64) u1 ||| BitVec.ofInt (IntKind.bits .u64) (IntKind.wrap .u64 ((IntKind.wrap .u64 (IntKind.wrap .u8 (BitVec.ofInt (IntKind.bits .u8) x1 &&& BitVec.ofInt (IntKind.bits .u8) 127).toNat)) * 2 ^ (min (IntKind.wrap .i64 (7 * v1)).toNat (IntKind.bits .u64))))).toNat)), (8, .list 1 (b1.map (ci .u8))), (9, .int .i64 (b1.length : Int)), (10, .int .i64 (IntKind.wrap .i64 (v1 + 1)))] (by show ([0, 5, 8, 9, 10] : List Nat).Nodup; decide) (by show ([] : List Nat).Nodup; decide) ?_ ?_ (fun t0 => ⟨_, Nat.lt_succ_self _, (IntKind.wrap .u64 (BitVec.ofInt (IntKind.bits .u64) u1 ||| BitVec.ofInt (IntKind.bits .u64) (IntKind.wrap .u64 ((IntKind.wrap .u64 (IntKind.wrap .u8 (BitVec.ofInt (IntKind.bits .u8) x1 &&& BitVec.ofInt (IntKind.bits .u8) 127).toNat)) * 2 ^ (min (IntKind.wrap .i64 (7 * v1)).toNat (IntKind.bits .u64))))).toNat), (IntKind.wrap .i64 (v1 + 1)), t0, H, rfl⟩)
        ·exact trivial
        ·(simp only [AllT, tl_cons, tl_nil, upd_apply, List.getD_cons_zero, List.getD_cons_succ, reduceEqDiff, ↓reduceIte, and_true]); exact ⟨(.lst _ _ _ (ci_pu .u8) rfl), (.int' rfl), (.lst _ _ _ (ci_pu .u8) rfl), (.int' rfl), (.int' rfl)⟩
       ·have H := cond_f zc3 H
        refine a_skip ?_
        refine sA_n ?_
        refine a_seq ?_
        refine a_cut (fun s => ∃ (v3 : Bool) (t0 : Nat → Dat), pack_ReadInt_J3 v1 b1 u1 x1 v3 = some r ∧ s = ⟨tl t0 [(0, .list 1 (b1.map (ci .u8))), (5, .int .u64 (IntKind.wrap .u64 (BitVec.ofInt (IntKind.bits .u64) u1 ||| BitVec.ofInt (IntKind.bits .u64) (IntKind.wrap .u64 ((IntKind.wrap .u64 (IntKind.wrap .u8 (BitVec.ofInt (IntKind.bits .u8) x1 &&& BitVec.ofInt (IntKind.bits .u8) 127).toNat)) * 2 ^ (min (IntKind.wrap .i64 (7 * v1)).toNat (IntKind.bits .u64))))).toNat)), (6, .int .i64 v1), (36, .bool v3)], hl [], 0, 50⟩) ?_ ?_
        ·refine bool_split (b := (x1 == 0)) (fun zc5 => ?_) (fun zc5 => ?_)
         ·rw [zc5] at H
          refine a_reg _ rfl (s := ?zs13) ?_ ?_
          rotate_left
          ·simp only [EVT, stepR, evOp, St.ev, St.app, St.put, wrs, datOf, datOf1, evBin, binInt, TIS, CS, reduceAdd, reduceMul, reduceEqDiff, ↓reduceIte, reduceCtorEq, reduceLT, reduceLeDiff, Array.reduceGetElem?, ↓zc2, ↓zc3, ↓zc5]
           try simp only [EVT, stepR, evOp, St.ev, St.app, St.put, wrs, datOf, datOf1, evBin, binInt, TIS, CS, reduceAdd, reduceMul, reduceEqDiff, ↓reduceIte, reduceCtorEq, reduceLT, reduceLeDiff, Array.reduceGetElem?, ↓zc2, ↓zc3, ↓zc5]
           (repeat' apply And.intro) <;> first|rfl|assumption|omega|(simp;done)|(simp;omega)|(simp_all;done)
          refine cA_n ?_
          refine wk_l [] [] [(0, .list 1 (b1.map (ci .u8))), (5, .int .u64 (IntKind.wrap .u64 (BitVec.ofInt (IntKind.bits .u64) u1 ||| BitVec.ofInt (IntKind.bits .u64) (IntKind.wrap .u64 ((IntKind.wrap .u64 (IntKind.wrap .u8 (BitVec.ofInt (IntKind.bits .u8) x1 &&& BitVec.ofInt (IntKind.bits .u8) 127).toNat)) * 2 ^ (min (IntKind.wrap .i64 (7 * v1)).toNat (IntKind.bits .u64))))).toNat)), (6, .int .i64 v1), (36, .bool (decide (0 < v1)))] (by show ([0, 5, 6, 36] : List Nat).Nodup; decide) (by show ([] : List Nat).Nodup; decide) ?_ ?_ (fun t0 => ⟨(decide (0 < v1)), t0, H, rfl⟩)
          ·exact trivial
          ·(simp only [AllT, tl_cons, tl_nil, upd_apply, List.getD_cons_zero, List.getD_cons_succ, reduceEqDiff, ↓reduceIte, and_true]); exact ⟨(.lst _ _ _ (ci_pu .u8) rfl), (.int' rfl), (.int' rfl), (.bool' rfl)⟩
         ·rw [zc5] at H
          refine a_reg _ rfl (s := ?zs14) ?_ ?_
          rotate_left
          ·simp only [EVT, stepR, evOp, St.ev, St.app, St.put, wrs, datOf, datOf1, evBin, binInt, TIS, CS, reduceAdd, reduceMul, reduceEqDiff, ↓reduceIte, reduceCtorEq, reduceLT, reduceLeDiff, Array.reduceGetElem?, ↓zc2, ↓zc3, ↓zc5]
           try simp only [EVT, stepR, evOp, St.ev, St.app, St.put, wrs, datOf, datOf1, evBin, binInt, TIS, CS, reduceAdd, reduceMul, reduceEqDiff, ↓reduceIte, reduceCtorEq, reduceLT, reduceLeDiff, Array.reduceGetElem?, ↓zc2, ↓zc3, ↓zc5]
           (repeat' apply And.intro) <;> first|rfl|assumption|omega|(simp;done)|(simp;omega)|(simp_all;done)
          refine cA_n ?_
          refine wk_l [] [] [(0, .list 1 (b1.map (ci .u8))), (5, .int .u64 (IntKind.wrap .u64 (BitVec.ofInt (IntKind.bits .u64) u1 ||| BitVec.ofInt (IntKind.bits .u64) (IntKind.wrap .u64 ((IntKind.wrap .u64 (IntKind.wrap .u8 (BitVec.ofInt (IntKind.bits .u8) x1 &&& BitVec.ofInt (IntKind.bits .u8) 127).toNat)) * 2 ^ (min (IntKind.wrap .i64 (7 * v1)).toNat (IntKind.bits .u64))))).toNat)), (6, .int .i64 v1), (36, .bool false)] (by show ([0, 5, 6, 36] : List Nat).Nodup; decide) (by show ([] : List Nat).Nodup; decide) ?_ ?_ (fun t0 => ⟨false, t0, H, rfl⟩)
          ·exact trivial
          ·(simp only [AllT, tl_cons, tl_nil, upd_apply, List.getD_cons_zero, List.getD_cons_succ, reduceEqDiff, ↓reduceIte, and_true]); exact ⟨(.lst _ _ _ (ci_pu .u8) rfl), (.int' rfl), (.int' rfl), (.bool' (by first | rfl | assumption | (simp_all; done)))⟩
        ·rintro s ⟨v3, t0, H, rfl⟩
         unfold pack_ReadInt_J3 at H
         refine a_condb (v3) (by rfl) (fun zc4 => ?_) (fun zc4 => ?_)
         ·have H := cond_t zc4 H
          refine a_seq ?_
          refine a_reg _ rfl (s := ?zs11) ?_ ?_
          rotate_left
          ·simp only [EVT, stepR, evOp, St.ev, St.app, St.put, wrs, datOf, datOf1, TIS, CS, reduceAdd, reduceMul, reduceEqDiff, ↓reduceIte, reduceCtorEq, reduceLT, reduceLeDiff, ↓zc4]
           (repeat' apply And.intro) <;> first|rfl|assumption|omega|(simp;done)|(simp;omega)|(simp_all;done)
          refine sA_n ?_
          refine a_ret ?_
          refine sA_r ?_
          refine bA_r ?_
          refine sA_r ?_
          refine lA_r ?_
          refine bA_r ?_
          refine cA_r ?_
          obtain rfl := Option.some.inj H
          refine e_r2 (d := ?zd3) ?_ ?_
          rotate_left
          ·simp only [EVT, resR, single, evLoad, cut, TIS, CS, reduceAdd, reduceEqDiff, ↓reduceIte, reduceCtorEq, reduceLT, reduceLeDiff, reduceSub, Nat.reduceBEq, zc4]
           (repeat' apply And.intro) <;> first | rfl | assumption | omega | (simp; done)
          exact (.tup' (.cons (.int' rfl) (.cons (.nil _) (.cons (.int' rfl) .nil))))
         ·have H := cond_f zc4 H
          refine a_skip ?_
          refine sA_n ?_
          refine a_seq ?_
          obtain ⟨zh3, H⟩ := chk_some H
          refine a_drW (by kernel_rfl) _ rfl (s := ?zs12) (by kernel_rfl) (by kernel_rfl) ?zs12f ?_ ?_ ?_
          rotate_left 2
          ·simp only [EVT, stepW, evOp, St.ev, St.app, St.put, wrs, datOf, datOf1, evBin, binInt, evToStr, elems, evUn, evSlice, sliceOk, sl_if0, sl_if1, sl_if2, sl_if3, tk_map, dp_map, TIS, CS, reduceAdd, reduceMul, reduceEqDiff, ↓reduceIte, reduceCtorEq, reduceLT, reduceLeDiff, Int.reduceToNat, reduceSub, ↓zc4]
           (repeat' apply And.intro) <;> first|rfl|assumption|omega|(simp;done)|(simp;omega)|(simp_all;done)
          ·kernel_rfl
          refine sA_n ?_
          refine a_ret ?_
          refine bA_r ?_
          refine sA_r ?_
          refine lA_r ?_
          refine bA_r ?_
          refine cA_r ?_
          obtain rfl := Option.some.inj H
          refine e_r2 (d := ?zd4) ?_ ?_
          rotate_left
          ·simp only [EVT, resR, single, evLoad, cut, TIS, CS, reduceAdd, reduceEqDiff, ↓reduceIte, reduceCtorEq, reduceLT, reduceLeDiff, reduceSub, Nat.reduceBEq, zc4]
           (repeat' apply And.intro) <;> first | rfl | assumption | omega | (simp; done)
          exact (.tup' (.cons (.int' rfl) (.cons (.lst _ _ _ (ci_pu .u8) rfl) (.cons (.int' rfl) .nil))))
    ·have H := cond_f zc1 H
     refine a_exit ?_
     refine sA_e ?_
     refine lA_e ?_
     refine bA_hit ?_
     refine cA_n ?_
     refine wk_l [] [] [] (by show ([] : List Nat).Nodup; decide) (by show ([] : List Nat).Nodup; decide) ?_ ?_ (fun t0 => ⟨t0, H, rfl⟩)
     ·exact trivial
     ·exact trivial
 ·rintro s ⟨t0, H, rfl⟩
  unfold pack_ReadInt_J1 at H
  refine a_seq ?_
  refine a_reg _ rfl (s := ?zs3) ?_ ?_
  rotate_left
  ·simp only [EVT, stepR, evOp, St.ev, St.app, St.put, wrs, datOf, datOf1, TIS, CS, reduceAdd, reduceMul, reduceEqDiff, ↓reduceIte, reduceCtorEq, reduceLT, reduceLeDiff]
   (repeat' apply And.intro) <;> first|rfl|assumption|omega|(simp;done)|(simp;omega)|(simp_all;done)
  refine sA_n ?_
  refine a_ret ?_
  obtain rfl := Option.some.inj H
  refine e_r2 (d := ?zd1) ?_ ?_
  rotate_left
  ·simp only [EVT, resR, single, evLoad, cut, TIS, CS, reduceAdd, reduceEqDiff, ↓reduceIte, reduceCtorEq, reduceLT, reduceLeDiff, reduceSub, Nat.reduceBEq]
   (repeat' apply And.intro) <;> first | rfl | assumption | omega | (simp; done)
  exact (.tup' (.cons (.int' rfl) (.cons (.nil _) (.cons (.int' rfl) .nil))))
def ref01_ReadInt_J1 : Option (Int × (List Int) × Int) :=
 some (0, [], 10)
def ref01_ReadInt_J4 (u1 : Int) (by1 : Int) (x1 : Int) (i1 : Int) (b1 : List Int) (v3 : Bool) : Option (Int × (List Int) × Int) :=
 cond v3 (some (0, [], 11)) ((ref01_zag_f (IntKind.wrap .u64 (u1 + (IntKind.wrap .u64 (by1 * (IntKind.wrap .u64 (Int.tmod x1 128))))))).bind fun r1 => chk (0 ≤ (IntKind.wrap .i64 (i1 + 1)) ∧ (IntKind.wrap .i64 (i1 + 1)) ≤ (b1.length : Int) ∧ (b1.length : Int) ≤ (b1.length : Int)) (some (r1, (b1.drop (IntKind.wrap .i64 (i1 + 1)).toNat), 0)))
def ref01_ReadInt_J3 (k_ref01_ReadInt_L1 : Int → Int → Int → Option (Int × (List Int) × Int)) (b1 : List Int) (i1 : Int) (u1 : Int) (by1 : Int) (x1 : Int) (v2 : Bool) : Option (Int × (List Int) × Int) :=
 cond v2 (some (0, [], 11)) ((idx b1 i1).bind fun x2 => cond (decide (x2 < 128)) (ref01_ReadInt_J4 u1 by1 x1 i1 b1 ((decide (0 < i1)) && (x2 == 0))) (k_ref01_ReadInt_L1 (IntKind.wrap .u64 (u1 + (IntKind.wrap .u64 (by1 * (IntKind.wrap .u64 (Int.tmod x1 128)))))) (IntKind.wrap .u64 (by1 * 128)) (IntKind.wrap .i64 (i1 + 1))))
def ref01_ReadInt_J2 (k_ref01_ReadInt_L1 : Int → Int → Int → Option (Int × (List Int) × Int)) (b1 : List Int) (i1 : Int) (u1 : Int) (by1 : Int) (v1 : Bool) : Option (Int × (List Int) × Int) :=
 cond v1 ((idx b1 i1).bind fun x1 => ref01_ReadInt_J3 k_ref01_ReadInt_L1 b1 i1 u1 by1 x1 ((i1 == 9) && (decide (1 < x1)))) (ref01_ReadInt_J1)
def ref01_ReadInt_L1 (b1 : List Int) : Nat → Int → Int → Int → Option (Int × (List Int) × Int)
 | 0, _, _, _ => none
 | m_ + 1, u1, by1, i1 => ref01_ReadInt_J2 (ref01_ReadInt_L1 b1 m_) b1 i1 u1 by1 ((decide (i1 < (b1.length : Int))) && (decide (i1 < 10)))
def ref01_ReadInt_f (b1 : List Int) : Option (Int × (List Int) × Int) :=
 ref01_ReadInt_L1 b1 BIG 0 1 0
set_option maxHeartbeats 4000000 in
set_option maxRecDepth 20000 in
theorem ref01_ReadInt_pc {b1 : List Int} {r : Int × (List Int) × Int} (H : ref01_ReadInt_f b1 = some r) : PC Try.prog 33 [.list 1 (b1.map (ci .u8))] (.tup [.int .i64 r.1, .list 1 (r.2.1.map (ci .u8)), .int .i64 r.2.2]) := by
 refine pcA_of Try.func33 (by rfl) (by decide) 61 (by rfl) [.tmp 2, .tmp 3, .tmp 4] (by rfl) ?_
 unfold ref01_ReadInt_f at H
 simp only [ent]
 refine a_seq ?_
 refine a_reg _ rfl (s := ?zs1) ?_ ?_
 rotate_left
 ·simp only [EVT, stepR, evOp, St.ev, St.app, St.put, wrs, datOf, datOf1, TIS, CS, reduceAdd, reduceMul, reduceEqDiff, ↓reduceIte, reduceCtorEq, reduceLT, reduceLeDiff]
  (repeat' apply And.intro) <;> first|rfl|assumption|omega|(simp;done)|(simp;omega)|(simp_all;done)
 refine sA_n ?_
 refine a_seq ?_
 refine a_reg _ rfl (s := ?zs2) ?_ ?_
 rotate_left
 ·simp only [EVT, stepR, evOp, St.ev, St.app, St.put, wrs, datOf, datOf1, TIS, CS, reduceAdd, reduceMul, reduceEqDiff, ↓reduceIte, reduceCtorEq, reduceLT, reduceLeDiff]
  (repeat' apply And.intro) <;> first|rfl|assumption|omega|(simp;done)|(simp;omega)|(simp_all;done)
 refine sA_n ?_
 refine a_seq ?_
 refine a_reg _ rfl (s := ?zs3) ?_ ?_
 rotate_left
 ·simp only [EVT, stepR, evOp, St.ev, St.app, St.put, wrs, datOf, datOf1, TIS, CS, reduceAdd, reduceMul, reduceEqDiff, ↓reduceIte, reduceCtorEq, reduceLT, reduceLeDiff]
  (repeat' apply And.intro) <;> first|rfl|assumption|omega|(simp;done)|(simp;omega)|(simp_all;done)
 refine sA_n ?_
 refine a_cut (fun s => ∃ (t0 : Nat → Dat), ref01_ReadInt_J1 = some r ∧ s = ⟨tl t0 [], hl [], 0, 61⟩) ?_ ?_
 ·refine a_seq ?_
  refine a_reg _ rfl (s := ?zs5) ?_ ?_
  rotate_left
  ·simp only [EVT, stepR, evOp, St.ev, St.app, St.put, wrs, datOf, datOf1, TIS, CS, reduceAdd, reduceMul, reduceEqDiff, ↓reduceIte, reduceCtorEq, reduceLT, reduceLeDiff]
   (repeat' apply And.intro) <;> first|rfl|assumption|omega|(simp;done)|(simp;omega)|(simp_all;done)
  refine sA_n ?_
  refine a_blk ?_
  refine a_loop (fun m s => ∃ (u1 : Int) (by1 : Int) (i1 : Int) (t0 : Nat → Dat), ref01_ReadInt_L1 b1 m u1 by1 i1 = some r ∧ s = ⟨tl t0 [(0, .list 1 (b1.map (ci .u8))), (5, .int .u64 u1), (6, .int .u64 by1), (7, .int .i64 i1)], hl [], 0, 61⟩) BIG ?_ ?_
  ·refine wk_l [] [] [(0, .list 1 (b1.map (ci .u8))), (5, .int .u64 0), (6, .int .u64 1), (7, .int .i64 0)] (by show ([0, 5, 6, 7] : List Nat).Nodup; decide) (by show ([] : List Nat).Nodup; decide) ?_ ?_ (fun t0 => ⟨0, 1, 0, t0, H, rfl⟩)
   ·exact trivial
   ·(simp only [AllT, tl_cons, tl_nil, upd_apply, List.getD_cons_zero, List.getD_cons_succ, reduceEqDiff, ↓reduceIte, and_true]); exact ⟨(.lst _ _ _ (ci_pu .u8) rfl), (.int' rfl), (.int' rfl), (.int' rfl)⟩
  ·rintro m_ref01_ReadInt_L1 s ⟨u1, by1, i1, t0, H, rfl⟩
   obtain _ | m_ref01_ReadInt_L1 := m_ref01_ReadInt_L1
   ·cases (show (none : Option _) = some _ from H)
   ·rw [ref01_ReadInt_L1.eq_def] at H; dsimp only at H
    refine a_seq ?_
    refine a_cut (fun s => ∃ (v1 : Bool) (t0 : Nat → Dat), ref01_ReadInt_J2 (ref01_ReadInt_L1 b1 m_ref01_ReadInt_L1) b1 i1 u1 by1 v1 = some r ∧ s = ⟨tl t0 [(0, .list 1 (b1.map (ci .u8))), (5, .int .u64 u1), (6, .int .u64 by1), (7, .int .i64 i1), (16, .bool v1)], hl [], 0, 61⟩) ?_ ?_
    ·refine bool_split (b := (decide (i1 < (b1.length : Int)))) (fun zc7 => ?_) (fun zc7 => ?_)
     ·rw [zc7] at H
      refine a_reg _ rfl (s := ?zs18) ?_ ?_
      rotate_left
      ·simp only [EVT, stepR, evOp, St.ev, St.app, St.put, wrs, evBuiltin, evBin, binInt, datOf, datOf1, TIS, CS, reduceAdd, reduceMul, reduceEqDiff, ↓reduceIte, reduceCtorEq, reduceLT, reduceLeDiff, Array.reduceGetElem?, reduceSub, Nat.reduceBEq, ↓zc7]
       try simp only [EVT, stepR, evOp, St.ev, St.app, St.put, wrs, evBuiltin, evBin, binInt, datOf, datOf1, TIS, CS, reduceAdd, reduceMul, reduceEqDiff, ↓reduceIte, reduceCtorEq, reduceLT, reduceLeDiff, Array.reduceGetElem?, reduceSub, Nat.reduceBEq, ↓zc7]
       (repeat' apply And.intro) <;> first|rfl|assumption|omega|(simp;done)|(simp;omega)|(simp_all;done)
      refine cA_n ?_
      refine wk_l [] [] [(0, .list 1 (b1.map (ci .u8))), (5, .int .u64 u1), (6, .int .u64 by1), (7, .int .i64 i1), (16, .bool (decide (i1 < 10)))] (by show ([0, 5, 6, 7, 16] : List Nat).Nodup; decide) (by show ([] : List Nat).Nodup; decide) ?_ ?_ (fun t0 => ⟨(decide (i1 < 10)), t0, H, rfl⟩)
      ·exact trivial
      ·(simp only [AllT, tl_cons, tl_nil, upd_apply, List.getD_cons_zero, List.getD_cons_succ, reduceEqDiff, ↓reduceIte, and_true]); exact ⟨(.lst _ _ _ (ci_pu .u8) rfl), (.int' rfl), (.int' rfl), (.int' rfl), (.bool' rfl)⟩
     ·rw [zc7] at H
      refine a_reg _ rfl (s := ?zs19) ?_ ?_
      rotate_left
      ·simp only [EVT, stepR, evOp, St.ev, St.app, St.put, wrs, evBuiltin, evBin, binInt, datOf, datOf1, TIS, CS, reduceAdd, reduceMul, reduceEqDiff, ↓reduceIte, reduceCtorEq, reduceLT, reduceLeDiff, Array.reduceGetElem?, reduceSub, Nat.reduceBEq, ↓zc7]
       try simp only [EVT, stepR, evOp, St.ev, St.app, St.put, wrs, evBuiltin, evBin, binInt, datOf, datOf1, TIS, CS, reduceAdd, reduceMul, reduceEqDiff, ↓reduceIte, reduceCtorEq, reduceLT, reduceLeDiff, Array.reduceGetElem?, reduceSub, Nat.reduceBEq, ↓zc7]
       (repeat' apply And.intro) <;> first|rfl|assumption|omega|(simp;done)|(simp;omega)|(simp_all;done)
      refine cA_n ?_
      refine wk_l [] [] [(0, .list 1 (b1.map (ci .u8))), (5, .int .u64 u1), (6, .int .u64 by1), (7, .int .i64 i1), (16, .bool false)] (by show ([0, 5, 6, 7, 16] : List Nat).Nodup; decide) (by show ([] : List Nat).Nodup; decide) ?_ ?_ (fun t0 => ⟨false, t0, H, rfl⟩)
      ·exact trivial
      ·(simp only [AllT, tl_cons, tl_nil, upd_apply, List.getD_cons_zero, List.getD_cons_succ, reduceEqDiff, ↓reduceIte, and_true]); exact ⟨(.lst _ _ _ (ci_pu .u8) rfl), (.int' rfl), (.int' rfl), (.int' rfl), (.bool' (by first | rfl | assumption | (simp_all; done)))⟩
    ·rintro s ⟨v1, t0, H, rfl⟩
     unfold ref01_ReadInt_J2 at H
     refine a_condb (v1) (by rfl) (fun zc1 => ?_) (fun zc1 => ?_)
     ·have H := cond_t zc1 H
      refine a_skip ?_
      refine sA_n ?_
      refine a_seq ?_
      refine a_blk ?_
      refine a_seq ?_
      obtain ⟨x1, zh1, H⟩ := bind_some H
      have zg1 := idx_map zh1 (ci .u8)
      try simp only [Int.reduceToNat] at zg1
      obtain ⟨zh1a, zh1b, _⟩ := idx_some zh1
      refine a_reg _ rfl (s := ?zs6) ?_ ?_
      rotate_left
      ·simp only [EVT, stepR, evOp, St.ev, St.app, St.put, wrs, evIndexAddr, evLoad, cut, datOf, datOf1, evBin, binInt, evToStr, elems, TIS, CS, reduceAdd, reduceMul, reduceEqDiff, ↓reduceIte, reduceCtorEq, reduceLT, reduceLeDiff, Int.reduceToNat, reduceSub, Nat.reduceBEq, ↓zc1, zg1]
       (repeat' apply And.intro) <;> first|rfl|assumption|omega|(simp;done)|(simp;omega)|(simp_all;done)
      refine sA_n ?_
      refine a_seq ?_
      refine a_cut (fun s => ∃ (v2 : Bool) (t0 : Nat → Dat), ref01_ReadInt_J3 (ref01_ReadInt_L1 b1 m_ref01_ReadInt_L1) b1 i1 u1 by1 x1 v2 = some r ∧ s = ⟨tl t0 [(0, .list 1 (b1.map (ci .u8))), (5, .int .u64 u1), (6, .int .u64 by1), (7, .int .i64 i1), (8, .int .u64 (IntKind.wrap .u64 (Int.tmod x1 128))), (33, .bool v2)], hl [], 0, 61⟩) ?_ ?_
      ·refine bool_split (b := (i1 == 9)) (fun zc6 => ?_) (fun zc6 => ?_)
       ·rw [zc6] at H
        refine a_reg _ rfl (s := ?zs16) ?_ ?_
        rotate_left
        ·simp only [EVT, stepR, evOp, St.ev, St.app, St.put, wrs, datOf, datOf1, evBin, binInt, evIndexAddr, evLoad, cut, TIS, CS, reduceAdd, reduceMul, reduceEqDiff, ↓reduceIte, reduceCtorEq, reduceLT, reduceLeDiff, Array.reduceGetElem?, Int.reduceToNat, reduceSub, Nat.reduceBEq, ↓zc1, zg1, ↓zc6]
         try simp only [EVT, stepR, evOp, St.ev, St.app, St.put, wrs, datOf, datOf1, evBin, binInt, evIndexAddr, evLoad, cut, TIS, CS, reduceAdd, reduceMul, reduceEqDiff, ↓reduceIte, reduceCtorEq, reduceLT, reduceLeDiff, Array.reduceGetElem?, Int.reduceToNat, reduceSub, Nat.reduceBEq, ↓zc1, zg1, ↓zc6]
         (repeat' apply And.intro) <;> first|rfl|assumption|omega|(simp;done)|(simp;omega)|(simp_all;done)
        refine cA_n ?_
        refine wk_l [] [] [(0, .list 1 (b1.map (ci .u8))), (5, .int .u64 u1), (6, .int .u64 by1), (7, .int .i64 i1), (8, .int .u64 (IntKind.wrap .u64 (Int.tmod x1 128))), (33, .bool (decide (1 < x1)))] (by show ([0, 5, 6, 7, 8, 33] : List Nat).Nodup; decide) (by show ([] : List Nat).Nodup; decide) ?_ ?_ (fun t0 => ⟨(decide (1 < x1)), t0, H, rfl⟩)
        ·exact trivial
        ·(simp only [AllT, tl_cons, tl_nil, upd_apply, List.getD_cons_zero, List.getD_cons_succ, reduceEqDiff, ↓reduceIte, and_true]); exact ⟨(.lst _ _ _ (ci_pu .u8) rfl), (.int' rfl), (.int' rfl), (.int' rfl), (.int' rfl), (.bool' rfl)⟩
       ·rw [zc6] at H
        refine a_reg _ rfl (s := ?zs17) ?_ ?_
        rotate_left
        ·simp only [EVT, stepR, evOp, St.ev, St.app, St.put, wrs, datOf, datOf1, evBin, binInt, evIndexAddr, evLoad, cut, TIS, CS, reduceAdd, reduceMul, reduceEqDiff, ↓reduceIte, reduceCtorEq, reduceLT, reduceLeDiff, Array.reduceGetElem?, Int.reduceToNat, reduceSub, Nat.reduceBEq, ↓zc1, zg1, ↓zc6]
         try simp only [EVT, stepR, evOp, St.ev, St.app, St.put, wrs, datOf, datOf1, evBin, binInt, evIndexAddr, evLoad, cut, TIS, CS, reduceAdd, reduceMul, reduceEqDiff, ↓reduceIte, reduceCtorEq, reduceLT, reduceLeDiff, Array.reduceGetElem?, Int.reduceToNat, reduceSub, Nat.reduceBEq, ↓zc1, zg1, ↓zc6]
         (repeat' apply And.intro) <;> first|rfl|assumption|omega|(simp;done)|(simp;omega)|(simp_all;done)
        refine cA_n ?_
        refine wk_l [] [] [(0, .list 1 (b1.map (ci .u8))), (5, .int .u64 u1), (6, .int .u64 by1), (7, .int .i64 i1), (8, .int .u64 (IntKind.wrap .u64 (Int.tmod x1 128))), (33, .bool false)] (by show ([0, 5, 6, 7, 8, 33] : List Nat).Nodup; decide) (by show ([] : List Nat).Nodup; decide) ?_ ?_ (fun t0 => ⟨false, t0, H, rfl⟩)
        ·exact trivial
        ·(simp only [AllT, tl_cons, tl_nil, upd_apply, List.getD_cons_zero, List.getD_cons_succ, reduceEqDiff, ↓reduceIte, and_true]); exact ⟨(.lst _ _ _ (ci_pu .u8) rfl), (.int' rfl), (.int' rfl), (.int' rfl), (.int' rfl), (.bool' (by first | rfl | assumption | (simp_all; done)))⟩
      ·rintro s ⟨v2, t0, H, rfl⟩
       unfold ref01_ReadInt_J3 at H
       refine a_condb (v2) (by rfl) (fun zc2 => ?_) (fun zc2 => ?_)
       ·have H := cond_t zc2 H
        refine a_seq ?_
        refine a_reg _ rfl (s := ?zs7) ?_ ?_
        rotate_left
        ·simp only [EVT, stepR, evOp, St.ev, St.app, St.put, wrs, datOf, datOf1, TIS, CS, reduceAdd, reduceMul, reduceEqDiff, ↓reduceIte, reduceCtorEq, reduceLT, reduceLeDiff, ↓zc2]
         (repeat' apply And.intro) <;> first|rfl|assumption|omega|(simp;done)|(simp;omega)|(simp_all;done)
        refine sA_n ?_
        refine a_ret ?_
        refine sA_r ?_
        refine bA_r ?_
        refine sA_r ?_
        refine lA_r ?_
        refine bA_r ?_
        refine cA_r ?_
        obtain rfl := Option.some.inj H
        refine e_r2 (d := ?zd2) ?_ ?_
        rotate_left
        ·simp only [EVT, resR, single, evLoad, cut, TIS, CS, reduceAdd, reduceEqDiff, ↓reduceIte, reduceCtorEq, reduceLT, reduceLeDiff, reduceSub, Nat.reduceBEq, zc2]
         (repeat' apply And.intro) <;> first | rfl | assumption | omega | (simp; done)
        exact (.tup' (.cons (.int' rfl) (.cons (.nil _) (.cons (.int' rfl) .nil))))
       ·have H := cond_f zc2 H
        refine a_skip ?_
        refine sA_n ?_
        refine a_seq ?_
        refine a_reg _ rfl (s := ?zs8) ?_ ?_
        rotate_left
        ·simp only [EVT, stepR, evOp, St.ev, St.app, St.put, wrs, evBin, binInt, TIS, CS, reduceAdd, reduceMul, reduceEqDiff, ↓reduceIte, reduceCtorEq, reduceLT, reduceLeDiff, ↓zc2]
         (repeat' apply And.intro) <;> first|rfl|assumption|omega|(simp;done)|(simp;omega)|(simp_all;done)
        refine sA_n ?_
        refine a_seq ?_
        refine a_reg _ rfl (s := ?zs9) ?_ ?_
        rotate_left
        ·simp only [EVT, stepR, evOp, St.ev, St.app, St.put, wrs, datOf, datOf1, evBin, binInt, TIS, CS, reduceAdd, reduceMul, reduceEqDiff, ↓reduceIte, reduceCtorEq, reduceLT, reduceLeDiff, ↓zc2]
         (repeat' apply And.intro) <;> first|rfl|assumption|omega|(simp;done)|(simp;omega)|(simp_all;done)
        refine sA_n ?_
        refine a_seq ?_
        obtain ⟨x2, zh2, H⟩ := bind_some H
        have zg2 := idx_map zh2 (ci .u8)
        try simp only [Int.reduceToNat] at zg2
        obtain ⟨zh2a, zh2b, _⟩ := idx_some zh2
        refine a_reg _ rfl (s := ?zs10) ?_ ?_
        rotate_left
        ·simp only [EVT, stepR, evOp, St.ev, St.app, St.put, wrs, evIndexAddr, evLoad, cut, datOf, datOf1, evBin, binInt, TIS, CS, reduceAdd, reduceMul, reduceEqDiff, ↓reduceIte, reduceCtorEq, reduceLT, reduceLeDiff, Int.reduceToNat, reduceSub, Nat.reduceBEq, ↓zc2, zg2]
         (repeat' apply And.intro) <;> first|rfl|assumption|omega|(simp;done)|(simp;omega)|(simp_all;done)
        refine sA_n ?_
        refine a_condb ((decide (x2 < 128))) (by rfl) (fun zc3 => ?_) (fun zc3 => ?_)
        ·have H := cond_t zc3 H
         refine a_seq ?_
         refine a_cut (fun s => ∃ (v3 : Bool) (t0 : Nat → Dat), ref01_ReadInt_J4 u1 by1 x1 i1 b1 v3 = some r ∧ s = ⟨tl t0 [(0, .list 1 (b1.map (ci .u8))), (5, .int .u64 (IntKind.wrap .u64 (u1 + (IntKind.wrap .u64 (by1 * (IntKind.wrap .u64 (Int.tmod x1 128))))))), (7, .int .i64 i1), (54, .bool v3)], hl [], 0, 61⟩) ?_ ?_
         ·refine bool_split (b := (decide (0 < i1))) (fun zc5 => ?_) (fun zc5 => ?_)
          ·rw [zc5] at H
           refine a_reg _ rfl (s := ?zs13) ?_ ?_
           rotate_left
           ·simp only [EVT, stepR, evOp, St.ev, St.app, St.put, wrs, datOf, datOf1, evBin, binInt, evIndexAddr, evLoad, cut, TIS, CS, reduceAdd, reduceMul, reduceEqDiff, ↓reduceIte, reduceCtorEq, reduceLT, reduceLeDiff, Array.reduceGetElem?, Int.reduceToNat, reduceSub, Nat.reduceBEq, ↓zc2, zg2, ↓zc3, ↓zc5]
            try simp only [EVT, stepR, evOp, St.ev, St.app, St.put, wrs, datOf, datOf1, evBin, binInt, evIndexAddr, evLoad, cut, TIS, CS, reduceAdd, reduceMul, reduceEqDiff, ↓reduceIte, reduceCtorEq, reduceLT, reduceLeDiff, Array.reduceGetElem?, Int.reduceToNat, reduceSub, Nat.reduceBEq, ↓zc2, zg2, ↓zc3, ↓zc5]
            (repeat' apply And.intro) <;> first|rfl|assumption|omega|(simp;done)|(simp;omega)|(simp_all;done)
           refine cA_n ?_
           refine wk_l [] [] [(0, .list 1 (b1.map (ci .u8))), (5, .int .u64 (IntKind.wrap .u64 (u1 + (IntKind.wrap .u64 (by1 * (IntKind.wrap .u64 (Int.tmod x1 128))))))), (7, .int .i64 i1), (54, .bool (x2 == 0))] (by show ([0, 5, 7, 54] : List Nat).Nodup; decide) (by show ([] : List Nat).Nodup; decide) ?_ ?_ (fun t0 => ⟨(x2 == 0), t0, H, rfl⟩)
           ·exact trivial
           ·(simp only [AllT, tl_cons, tl_nil, upd_apply, List.getD_cons_zero, List.getD_cons_succ, reduceEqDiff, ↓reduceIte, and_true]); exact ⟨(.lst _ _ _ (ci_pu .u8) rfl), (.int' rfl), (.int' rfl), (.bool' rfl)⟩
          ·rw [zc5] at H
           refine a_reg _ rfl (s := ?zs14) ?_ ?_
           rotate_left
           ·simp only [EVT, stepR, evOp, St.ev, St.app, St.put, wrs, datOf, datOf1, evBin, binInt, evIndexAddr, evLoad, cut, TIS, CS, reduceAdd, reduceMul, reduceEqDiff, ↓reduceIte, reduceCtorEq, reduceLT, reduceLeDiff, Array.reduceGetElem?, Int.reduceToNat, reduceSub, Nat.reduceBEq, ↓zc2, zg2, ↓zc3, ↓zc5]
            try simp only [EVT, stepR, evOp, St.ev, St.app, St.put, wrs, datOf, datOf1, evBin, binInt, evIndexAddr, evLoad, cut, TIS, CS, reduceAdd, reduceMul, reduceEqDiff, ↓reduceIte, reduceCtorEq, reduceLT, reduceLeDiff, Array.reduceGetElem?, Int.reduceToNat, reduceSub, Nat.reduceBEq, ↓zc2, zg2, ↓zc3, ↓zc5]
            (repeat' apply And.intro) <;> first|rfl|assumption|omega|(simp;done)|(simp;omega)|(simp_all;done)
           refine cA_n ?_
           refine wk_l [] [] [(0, .list 1 (b1.map (ci .u8))), (5, .int .u64 (IntKind.wrap .u64 (u1 + (IntKind.wrap .u64 (by1 * (IntKind.wrap .u64 (Int.tmod x1 128))))))), (7, .int .i64 i1), (54, .bool false)] (by show ([0, 5, 7, 54] : List Nat).Nodup; decide) (by show ([] : List Nat).Nodup; decide) ?_ ?_ (fun t0 => ⟨false, t0, H, rfl⟩)
           ·exact trivial
           ·(simp only [AllT, tl_cons, tl_nil, upd_apply, List.getD_cons_zero, List.getD_cons_succ, reduceEqDiff, ↓reduceIte, and_true]); exact ⟨(.lst _ _ _ (ci_pu .u8) rfl), (.int' rfl), (.int' rfl), (.bool' (by first | rfl | assumption | (simp_all; done)))⟩
         ·rintro s ⟨v3, t0, H, rfl⟩
          unfold ref01_ReadInt_J4 at H
          refine a_condb (v3) (by rfl) (fun zc4 => ?_) (fun zc4 => ?_)
          ·have H := cond_t zc4 H
           refine a_seq ?_
           refine a_reg _ rfl (s := ?zs11) ?_ ?_
           rotate_left
           ·simp only [EVT, stepR, evOp, St.ev, St.app, St.put, wrs, datOf, datOf1, TIS, CS, reduceAdd, reduceMul, reduceEqDiff, ↓reduceIte, reduceCtorEq, reduceLT, reduceLeDiff, ↓zc4]
            (repeat' apply And.intro) <;> first|rfl|assumption|omega|(simp;done)|(simp;omega)|(simp_all;done)
           refine sA_n ?_
           refine a_ret ?_
           refine sA_r ?_
           refine bA_r ?_
           refine sA_r ?_
           refine lA_r ?_
           refine bA_r ?_
           refine cA_r ?_
           obtain rfl := Option.some.inj H
           refine e_r2 (d := ?zd3) ?_ ?_
           rotate_left
           ·simp only [EVT, resR, single, evLoad, cut, TIS, CS, reduceAdd, reduceEqDiff, ↓reduceIte, reduceCtorEq, reduceLT, reduceLeDiff, reduceSub, Nat.reduceBEq, zc4]
            (repeat' apply And.intro) <;> first | rfl | assumption | omega | (simp; done)
           exact (.tup' (.cons (.int' rfl) (.cons (.nil _) (.cons (.int' rfl) .nil))))
          ·have H := cond_f zc4 H
           refine a_skip ?_
           refine sA_n ?_
           refine a_seq ?_
           obtain ⟨r1, zh3, H⟩ := bind_some H
           have zk1 := ref01_zag_pc zh3
           obtain ⟨zh4, H⟩ := chk_some H
           refine a_drW (by kernel_rfl) _ rfl (s := ?zs12) (by kernel_rfl) (by kernel_rfl) ?zs12f ?_ ?_ ?_
           rotate_left 2
           ·try simp only [EVT, stepW, evOp, St.ev, St.app, St.put, wrs, frz, datOf, datOf1, evBin, binInt, evSlice, sliceOk, sl_if0, sl_if1, sl_if2, sl_if3, tk_map, dp_map, TIS, CS, reduceAdd, reduceMul, reduceEqDiff, ↓reduceIte, reduceCtorEq, reduceLT, reduceLeDiff, Int.reduceToNat, reduceSub, Nat.reduceBEq, ↓zc4]
            repeat' with_reducible apply And.intro
            all_goals try ((with_reducible show CallW _ _ _ _ _ _ _); refine cW_s [] zk1 (fun h2 e => (.cons (.int' rfl) .nil)) (.int _ _) ?_; simp only [EVT, stepW, evOp, St.ev, St.app, St.put, wrs, frz, datOf, datOf1, evBin, binInt, evSlice, sliceOk, sl_if0, sl_if1, sl_if2, sl_if3, tk_map, dp_map, TIS, CS, reduceAdd, reduceMul, reduceEqDiff, ↓reduceIte, reduceCtorEq, reduceLT, reduceLeDiff, Int.reduceToNat, reduceSub, Nat.reduceBEq, ↓zc4])
            all_goals ((repeat' apply And.intro) <;> first|rfl|assumption|omega|(simp;done)|(simp;omega)|(simp_all;done))
           ·kernel_rfl
           refine sA_n ?_
           refine a_ret ?_
           refine bA_r ?_
           refine sA_r ?_
           refine lA_r ?_
           refine bA_r ?_
           refine cA_r ?_
           obtain rfl := Option.some.inj H
           refine e_r2 (d := ?zd4) ?_ ?_
           rotate_left
           ·simp only [EVT, resR, single, evLoad, cut, TIS, CS, reduceAdd, reduceEqDiff, ↓reduceIte, reduceCtorEq, reduceLT, reduceLeDiff, reduceSub, Nat.reduceBEq, zc4]
            (repeat' apply And.intro) <;> first | rfl | assumption | omega | (simp; done)
           exact (.tup' (.cons (.int' rfl) (.cons (.lst _ _ _ (ci_pu .u8) rfl) (.cons (.int' rfl) .nil))))
        ·have H := cond_f zc3 H
         refine a_skip ?_
         refine bA_n ?_
         refine sA_n ?_
         refine a_reg _ rfl (s := ?zs15) ?_ ?_
         rotate_left
         ·simp only [EVT, stepR, evOp, St.ev, St.app, St.put, wrs, datOf, datOf1, evBin, binInt, TIS, CS, reduceAdd, reduceMul, reduceEqDiff, ↓reduceIte, reduceCtorEq, reduceLT, reduceLeDiff, ↓zc2, zg2, ↓zc3]
          (repeat' apply And.intro) <;> first|rfl|assumption|omega|(simp;done)|(simp;omega)|(simp_all;done)
         refine lA_n ?_
         refine wk_l [] [] [(0, .list 1 (b1.map (ci .u8))), (5, .int .u64 (IntKind.wrap .u64 (u1 + (IntKind.wrap .u64 (by1 * (IntKind.wrap .u64 (Int.tmod x1 128))))))), (6, .int .u64 (IntKind.wrap .u64 (by1 * 128))), (7, .int .i64 (IntKind.wrap .i64 (i1 + 1)))] (by show ([0, 5, 6, 7] : List Nat).Nodup; decide) (by show ([] : List Nat).Nodup; decide) ?_ ?_ (fun t0 => ⟨_, Nat.lt_succ_self _, (IntKind.wrap .u64 (u1 + (IntKind.wrap .u64 (by1 * (IntKind.wrap .u64 (Int.tmod x1 128)))))), (IntKind.wrap .u64 (by1 * 128)), (IntKind.wrap .i64 (i1 + 1)), t0, H, rfl⟩)
         ·exact trivial
         ·(simp only [AllT, tl_cons, tl_nil, upd_apply, List.getD_cons_zero, List.getD_cons_succ, reduceEqDiff, ↓reduceIte, and_true]); exact ⟨(.lst _ _ _ (ci_pu .u8) rfl), (.int' rfl), (.int' rfl), (.int' rfl)⟩
     ·have H := cond_f zc1 H
      refine a_exit ?_
      refine sA_e ?_
      refine lA_e ?_
      refine bA_hit ?_
      refine cA_n ?_
      refine wk_l [] [] [] (by show ([] : List Nat).Nodup; decide) (by show ([] : List Nat).Nodup; decide) ?_ ?_ (fun t0 => ⟨t0, H, rfl⟩)
      ·exact trivial
      ·exact trivial
 ·rintro s ⟨t0, H, rfl⟩
  unfold ref01_ReadInt_J1 at H
  refine a_seq ?_
  refine a_reg _ rfl (s := ?zs4) ?_ ?_
  rotate_left
  ·simp only [EVT, stepR, evOp, St.ev, St.app, St.put, wrs, datOf, datOf1, TIS, CS, reduceAdd, reduceMul, reduceEqDiff, ↓reduceIte, reduceCtorEq, reduceLT, reduceLeDiff]
   (repeat' apply And.intro) <;> first|rfl|assumption|omega|(simp;done)|(simp;omega)|(simp_all;done)
  refine sA_n ?_
  refine a_ret ?_
  obtain rfl := Option.some.inj H
  refine e_r2 (d := ?zd1) ?_ ?_
  rotate_left
  ·simp only [EVT, resR, single, evLoad, cut, TIS, CS, reduceAdd, reduceEqDiff, ↓reduceIte, reduceCtorEq, reduceLT, reduceLeDiff, reduceSub, Nat.reduceBEq]
   (repeat' apply And.intro) <;> first | rfl | assumption | omega | (simp; done)
  exact (.tup' (.cons (.int' rfl) (.cons (.nil _) (.cons (.int' rfl) .nil))))
def law01_few_f (b1 : List Int) : Option (List Int) :=
 chk (0 ≤ 0 ∧ 0 ≤ (if 2000 < (b1.length : Int) then 2000 else (b1.length : Int)) ∧ (if 2000 < (b1.length : Int) then 2000 else (b1.length : Int)) ≤ (b1.length : Int)) (chk ((0 + (((b1.take (if 2000 < (b1.length : Int) then 2000 else (b1.length : Int)).toNat).drop 0).length)) * 1 ≤ 140737488355328) (some ((([] : List Int) ++ ((b1.take (if 2000 < (b1.length : Int) then 2000 else (b1.length : Int)).toNat).drop 0)))))
set_option maxHeartbeats 4000000 in
set_option maxRecDepth 20000 in
theorem law01_few_rc {b1 : List Int} {r : (List Int)} (H : law01_few_f b1 = some r) : RC Try.prog 26 [.list 1 (b1.map (ci .u8))] [] 0 (.ref 0 0 r.length 1) [some ⟨5, 1, false, r.map (ci .u8)⟩] := by
 refine rcA_of Try.func26 (by rfl) (by decide) 10 (by rfl) [.tmp 2] (by rfl) ?_
 unfold law01_few_f at H
 simp only [hent, List.length_cons, List.length_nil, reduceAdd]
 refine a_seq ?_
 refine a_reg _ rfl (s := ?zs1) ?_ ?_
 rotate_left
 ·simp only [EVT, stepR, evOp, St.ev, St.app, St.put, wrs, datOf, datOf1, TIS, CS, reduceAdd, reduceMul, reduceEqDiff, ↓reduceIte, reduceCtorEq, reduceLT, reduceLeDiff]
  (repeat' apply And.intro) <;> first|rfl|assumption|omega|(simp;done)|(simp;omega)|(simp_all;done)
 refine sA_n ?_
 refine a_seq ?_
 obtain ⟨zh1, H⟩ := chk_some H
 obtain ⟨zh2, H⟩ := chk_some H
 refine a_reg _ rfl (s := ?zs2) ?_ ?_
 rotate_left
 ·simp only [EVT, stepR, evOp, St.ev, St.app, St.put, wrs, allOne, evBuiltin, datOf, datOf1, minMax, mmStep, evSlice, sliceOk, sl_if0, sl_if1, sl_if2, sl_if3, tk_map, dp_map, evAppend, elems, Option.elim, TIS, CS, reduceAdd, reduceMul, reduceEqDiff, ↓reduceIte, reduceCtorEq, reduceLT, reduceLeDiff, Int.reduceToNat, reduceSub, Nat.reduceBEq]
  (repeat' apply And.intro) <;> first|rfl|assumption|omega|(simp;done)|(simp;omega)|(simp_all;done)
 refine sA_n ?_
 refine a_ret ?_
 obtain rfl := Option.some.inj H
 refine eR_r ?_
 refine wk_ln 0 [(some 14, ⟨5, 1, false, (([] : List Int) ++ ((b1.take (if 2000 < (b1.length : Int) then 2000 else (b1.length : Int)).toNat).drop 0)).map (ci .u8)⟩)] [] [(2, .ref 0 0 (([] : List Int) ++ ((b1.take (if 2000 < (b1.length : Int) then 2000 else (b1.length : Int)).toNat).drop 0)).length 1)] (fun i h => absurd h (Nat.not_lt_zero i)) (by show ([2] : List Nat).Nodup; decide) (by show ([14] : List Nat).Nodup; decide) ?_ ?_ (fun t0 => ⟨by first | rfl | (simp only [EVT, resR, single, evLoad, cut, TIS, CS, reduceAdd, reduceEqDiff, ↓reduceIte, reduceCtorEq, reduceLT, reduceLeDiff, reduceSub, Nat.reduceBEq]; (repeat' apply And.intro) <;> first | rfl | (simp; done)), fun j B h => by rcases j with _ | _ <;> first | exact h | (exact absurd h (by simp [hh]))⟩)
 ·exact (allB_some (by rfl) rfl (.same _ _ (ci_pu .u8) (by first | rfl | (simp only [MPT, CS,  List.nil_append]; done) | (simp [CS,  ci_eq, cb_eq, cs_eq, cl_eq]; done) | (simp [CS,  ci_eq, cb_eq, cs_eq, cl_eq]; intro hz; rw [List.take_of_length_le (by simp; omega)]))) trivial)
 ·(simp only [AllT, tl_cons, tl_nil, upd_apply, List.getD_cons_zero, List.getD_cons_succ, reduceEqDiff, ↓reduceIte, and_true]); exact (.refl' (by first | rfl | omega | (simp; done) | (simp [strBytes_len]; done) | (simp; omega) | (simp_all; done)) rfl)
theorem law01_few_pc {b1 : List Int} {r : (List Int)} (H : law01_few_f b1 = some r) : PC Try.prog 26 [.list 1 (b1.map (ci .u8))] (.list 1 (r.map (ci .u8))) := rc_pc (law01_few_rc H) (.ownL rfl (fun e => by cases e) rfl (List.length_map _).symm (.same _ _ (ci_pu .u8) rfl))
end
end Go.Proofs.Ytifkepfcjhebfaa
