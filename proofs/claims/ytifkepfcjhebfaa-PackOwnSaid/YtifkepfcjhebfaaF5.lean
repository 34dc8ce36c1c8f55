/- Functions of the program as Lean functions, and that they are so; printed by a program of mine. -/
import Derived.Test.YtifkepfcjhebfaaF4
set_option linter.unusedSimpArgs false
set_option linter.unusedVariables false
namespace Go.Proofs.Ytifkepfcjhebfaa
open Go.Ab
open Nat (reduceAdd reduceMul reduceEqDiff reduceLT reduceLeDiff reduceSub)
noncomputable section

def pack_ReadInts_J1 (r1 : Reader) (out1 : List Int) : Option ((List Int) × (List Int) × Int) :=
 cond (r1.e != 0) (some ([], [], r1.e)) (some (out1, r1.rest.b, 0))
def pack_ReadInts_L1 (r2 : Int × Reader) : Nat → Reader → (List Int) → Int → Option ((List Int) × (List Int) × Int)
 | 0, _, _, _ => none
 | m_ + 1, r3, out2, v1 => cond (decide (v1 < r2.1)) ((pack_reader_num_f r3).bind fun r4 => chk ((out2.length + 1) * 8 ≤ 140737488355328) (cond (r4.2.e != 0) (pack_ReadInts_J1 r4.2 (out2 ++ [r4.1])) (pack_ReadInts_L1 r2 m_ r4.2 (out2 ++ [r4.1]) (IntKind.wrap .i64 (v1 + 1))))) (pack_ReadInts_J1 r3 out2)
def pack_ReadInts_f (b1 : List Int) : Option ((List Int) × (List Int) × Int) :=
 (pack_reader_count_f (⟨(⟨b1⟩ : Rest), 0⟩ : Reader)).bind fun r2 => pack_ReadInts_L1 r2 BIG r2.2 [] 0
set_option maxHeartbeats 4000000 in
set_option maxRecDepth 20000 in
theorem pack_ReadInts_pc {b1 : List Int} {r : (List Int) × (List Int) × Int} (H : pack_ReadInts_f b1 = some r) : PC Try.prog 27 [.list 1 (b1.map (ci .u8))] (.tup [.list 1 (r.1.map (ci .i64)), .list 1 (r.2.1.map (ci .u8)), .int .i64 r.2.2]) := by
 refine pcA_of Try.func27 (by rfl) (by decide) 41 (by rfl) [.tmp 2, .tmp 3, .tmp 4] (by rfl) ?_
 unfold pack_ReadInts_f at H
 simp only [ent]
 refine a_seq ?_
 refine a_reg _ rfl (s := ?zs1) ?_ ?_
 rotate_left
 ·simp only [EVT, stepR, evOp, St.ev, St.app, St.put, wrs, datOf, datOf1, TIS, CS, reduceAdd, reduceMul, reduceEqDiff, ↓reduceIte, reduceCtorEq, reduceLT, reduceLeDiff]
  (repeat' apply And.intro) <;> first|rfl|assumption|omega|(simp;done)|(simp;omega)|(simp_all;done)
 refine sA_n ?_
 refine a_seq ?_
 refine a_reg _ rfl (s := ?zs2) ?_ ?_
 rotate_left
 ·simp only [EVT, stepR, evOp, St.ev, St.app, St.put, wrs, fillD, setR, allOne, TIS, CS, reduceAdd, reduceMul, reduceEqDiff, ↓reduceIte, reduceCtorEq, reduceLT, reduceLeDiff, reduceSub, Nat.reduceBEq]
  (repeat' apply And.intro) <;> first|rfl|assumption|omega|(simp;done)|(simp;omega)|(simp_all;done)
 refine sA_n ?_
 refine a_seq ?_
 refine a_reg _ rfl (s := ?zs3) ?_ ?_
 rotate_left
 ·simp only [EVT, stepR, evOp, St.ev, St.app, St.put, wrs, datOf, datOf1, TIS, CS, reduceAdd, reduceMul, reduceEqDiff, ↓reduceIte, reduceCtorEq, reduceLT, reduceLeDiff]
  (repeat' apply And.intro) <;> first|rfl|assumption|omega|(simp;done)|(simp;omega)|(simp_all;done)
 refine sA_n ?_
 refine a_cut (fun s => ∃ (r1 : Reader) (out1 : List Int) (t0 : Nat → Dat), pack_ReadInts_J1 r1 out1 = some r ∧ s = ⟨tl t0 [(5, .ptr 0 0 0 2), (6, .ref 1 0 out1.length 1)], hl [⟨68, 2, false, [[.list 1 (r1.rest.b.map (ci .u8)), .int .i64 r1.e]]⟩, ⟨3, 1, false, out1.map (ci .i64)⟩], 2, 41⟩) ?_ ?_
 ·refine a_seq ?_
  obtain ⟨r2, zh1, H⟩ := bind_some H
  have zk1 := pack_reader_count_rc zh1
  refine a_reg _ rfl (s := ?zs7) ?_ ?_
  rotate_left
  ·try simp only [EVT, stepR, evOp, St.ev, St.app, St.put, wrs, frz, datOf, datOf1, TIS, CS, reduceAdd, reduceMul, reduceEqDiff, ↓reduceIte, reduceCtorEq, reduceLT, reduceLeDiff, reduceSub, Nat.reduceBEq]
   repeat' with_reducible apply And.intro
   all_goals try ((with_reducible show CallR _ _ _ _ _ _ _); refine callR_rcw (r' := .int .i64 r2.1) [(27, none), (27, some ⟨68, 2, false, [[.list 1 (r2.2.rest.b.map (ci .u8)), .int .i64 r2.2.e]]⟩)] [(some 27, ⟨68, 2, false, [Reader.c (⟨(⟨b1⟩ : Rest), 0⟩ : Reader)]⟩)] [] [(27, 0, ⟨68, 2, false, [[.list 1 (r2.2.rest.b.map (ci .u8)), .int .i64 r2.2.e]]⟩)] rfl zk1 (by simp) (by show ([27] : List Nat).Nodup; decide) (allB_some (by rfl) rfl (.cons (.cons (.lst _ _ _ (ci_pu .u8) rfl) (.cons (.int' rfl) .nil)) .nil) trivial) (.cons (.ptr _ _ _ _ _ rfl) .nil) (by show ([27] : List Nat).Nodup; decide) (by show ([0] : List Nat).Nodup; decide) ⟨.inl ⟨by decide, rfl⟩, ⟨_, rfl, ⟨rfl, rfl, rfl, rfl⟩, .cons (RNs.pu (Reader.pu _)) .nil⟩, trivial⟩ (.int' rfl) ?_; simp only [EVT, stepR, evOp, St.ev, St.app, St.put, wrs, frz, datOf, datOf1, TIS, CS, reduceAdd, reduceMul, reduceEqDiff, ↓reduceIte, reduceCtorEq, reduceLT, reduceLeDiff, reduceSub, Nat.reduceBEq])
   all_goals ((repeat' apply And.intro) <;> first|rfl|assumption|omega|(simp;done)|(simp;omega)|(simp_all;done))
  refine sA_n ?_
  refine a_blk ?_
  refine a_loop (fun m s => ∃ (r3 : Reader) (out2 : List Int) (v1 : Int) (t0 : Nat → Dat), pack_ReadInts_L1 r2 m r3 out2 v1 = some r ∧ s = ⟨tl t0 [(5, .ptr 0 0 0 2), (6, .ref 1 0 out2.length 1), (12, .int .i64 r2.1), (13, .int .i64 v1)], hl [⟨68, 2, false, [[.list 1 (r3.rest.b.map (ci .u8)), .int .i64 r3.e]]⟩, ⟨3, 1, false, out2.map (ci .i64)⟩], 2, 41⟩) BIG ?_ ?_
  ·refine wk_l [(some 27, ⟨68, 2, false, [[.list 1 (r2.2.rest.b.map (ci .u8)), .int .i64 r2.2.e]]⟩), (none, ⟨3, 1, false, [].map (ci .i64)⟩)] [] [(5, .ptr 0 0 0 2), (6, .ref 1 0 [].length 1), (12, .int .i64 r2.1), (13, .int .i64 0)] (by show ([5, 6, 12, 13] : List Nat).Nodup; decide) (by show ([27] : List Nat).Nodup; decide) ?_ ?_ (fun t0 => ⟨r2.2, [], 0, t0, H, rfl⟩)
   ·exact (allB_some (by rfl) rfl (.cons (.cons (.lst _ _ _ (ci_pu .u8) rfl) (.cons (.int' rfl) .nil)) .nil) (allB_none rfl trivial))
   ·(simp only [AllT, tl_cons, tl_nil, upd_apply, List.getD_cons_zero, List.getD_cons_succ, reduceEqDiff, ↓reduceIte, and_true]); exact ⟨(.ptr _ _ _ _ _ rfl), (.nilv _ _ rfl rfl), (.int' rfl), (.int' rfl)⟩
  ·rintro m_pack_ReadInts_L1 s ⟨r3, out2, v1, t0, H, rfl⟩
   obtain _ | m_pack_ReadInts_L1 := m_pack_ReadInts_L1
   ·cases (show (none : Option _) = some _ from H)
   ·rw [pack_ReadInts_L1] at H
    refine a_seq ?_
    refine a_reg _ rfl (s := ?zs8) ?_ ?_
    rotate_left
    ·simp only [EVT, stepR, evOp, St.ev, St.app, St.put, wrs, evBin, binInt, TIS, CS, reduceAdd, reduceMul, reduceEqDiff, ↓reduceIte, reduceCtorEq, reduceLT, reduceLeDiff]
     (repeat' apply And.intro) <;> first|rfl|assumption|omega|(simp;done)|(simp;omega)|(simp_all;done)
    refine sA_n ?_
    refine a_seq ?_
    refine a_condb ((decide (v1 < r2.1))) (by rfl) (fun zc2 => ?_) (fun zc2 => ?_)
    ·have H := cond_t zc2 H
     refine a_skip ?_
     refine sA_n ?_
     refine a_seq ?_
     refine a_blk ?_
     refine a_seq ?_
     obtain ⟨r4, zh2, H⟩ := bind_some H
     have zk2 := pack_reader_num_rc zh2
     obtain ⟨zh3, H⟩ := chk_some H
     refine a_reg _ rfl (s := ?zs9) ?_ ?_
     rotate_left
     ·try simp only [EVT, stepR, evOp, St.ev, St.app, St.put, wrs, frz, allOne, evBuiltin, evAppend, elems, Option.elim, TIS, CS, reduceAdd, reduceMul, reduceEqDiff, ↓reduceIte, reduceCtorEq, reduceLT, reduceLeDiff, reduceSub, Nat.reduceBEq, ↓zc2]
      repeat' with_reducible apply And.intro
      all_goals try ((with_reducible show CallR _ _ _ _ _ _ _); refine callR_rcw (r' := .int .i64 r4.1) [(0, none), (0, some ⟨68, 2, false, [[.list 1 (r4.2.rest.b.map (ci .u8)), .int .i64 r4.2.e]]⟩)] [(some 0, ⟨68, 2, false, [Reader.c r3]⟩)] [] [(0, 0, ⟨68, 2, false, [[.list 1 (r4.2.rest.b.map (ci .u8)), .int .i64 r4.2.e]]⟩)] rfl zk2 (by simp) (by show ([0] : List Nat).Nodup; decide) (allB_some (by rfl) rfl (.cons (.cons (.lst _ _ _ (ci_pu .u8) rfl) (.cons (.int' rfl) .nil)) .nil) trivial) (.cons (.ptr _ _ _ _ _ rfl) .nil) (by show ([0] : List Nat).Nodup; decide) (by show ([0] : List Nat).Nodup; decide) ⟨.inl ⟨by decide, rfl⟩, ⟨_, rfl, ⟨rfl, rfl, rfl, rfl⟩, .cons (RNs.pu (Reader.pu _)) .nil⟩, trivial⟩ (.int' rfl) ?_; simp only [EVT, stepR, evOp, St.ev, St.app, St.put, wrs, frz, allOne, evBuiltin, evAppend, elems, Option.elim, TIS, CS, reduceAdd, reduceMul, reduceEqDiff, ↓reduceIte, reduceCtorEq, reduceLT, reduceLeDiff, reduceSub, Nat.reduceBEq, ↓zc2])
      all_goals ((repeat' apply And.intro) <;> first|rfl|assumption|omega|(simp;done)|(simp;omega)|(simp_all;done))
     refine sA_n ?_
     refine a_seq ?_
     refine a_reg _ rfl (s := ?zs10) ?_ ?_
     rotate_left
     ·simp only [EVT, stepR, evOp, St.ev, St.app, St.put, wrs, evFieldAddr, evLoad, cut, datOf, datOf1, evBin, binInt, TIS, CS, reduceAdd, reduceMul, reduceEqDiff, ↓reduceIte, reduceCtorEq, reduceLT, reduceLeDiff, reduceSub, Nat.reduceBEq, ↓zc2]
      (repeat' apply And.intro) <;> first|rfl|assumption|omega|(simp;done)|(simp;omega)|(simp_all;done)
     refine sA_n ?_
     refine a_condb ((r4.2.e != 0)) (by rfl) (fun zc3 => ?_) (fun zc3 => ?_)
     ·have H := cond_t zc3 H
      refine a_exit ?_
      refine bA_e (by decide) ?_
      refine sA_e ?_
      refine lA_e ?_
      refine bA_hit ?_
      refine cA_n ?_
      refine wk_l [(some 0, ⟨68, 2, false, [[.list 1 (r4.2.rest.b.map (ci .u8)), .int .i64 r4.2.e]]⟩), (some 14, ⟨3, 1, false, (out2 ++ [r4.1]).map (ci .i64)⟩)] [] [(5, .ptr 0 0 0 2), (6, .ref 1 0 (out2 ++ [r4.1]).length 1)] (by show ([5, 6] : List Nat).Nodup; decide) (by show ([0, 14] : List Nat).Nodup; decide) ?_ ?_ (fun t0 => ⟨r4.2, (out2 ++ [r4.1]), t0, H, rfl⟩)
      ·exact (allB_some (by rfl) rfl (.cons (.cons (.lst _ _ _ (ci_pu .u8) rfl) (.cons (.int' rfl) .nil)) .nil) (allB_some (by rfl) rfl (.same _ _ (ci_pu .i64) (by first | rfl | (simp only [MPT, CS,  List.nil_append]; done) | (simp [CS,  ci_eq, cb_eq, cs_eq, cl_eq]; done) | (simp [CS,  ci_eq, cb_eq, cs_eq, cl_eq]; intro hz; rw [List.take_of_length_le (by simp; omega)]))) trivial))
      ·(simp only [AllT, tl_cons, tl_nil, upd_apply, List.getD_cons_zero, List.getD_cons_succ, reduceEqDiff, ↓reduceIte, and_true]); exact ⟨(.ptr _ _ _ _ _ rfl), (.refl' (by first | rfl | omega | (simp; done) | (simp [strBytes_len]; done) | (simp; omega) | (simp_all; done)) rfl)⟩
     ·have H := cond_f zc3 H
      refine a_skip ?_
      refine bA_n ?_
      refine sA_n ?_
      refine a_reg _ rfl (s := ?zs11) ?_ ?_
      rotate_left
      ·simp only [EVT, stepR, evOp, St.ev, St.app, St.put, wrs, datOf, datOf1, evBin, binInt, TIS, CS, reduceAdd, reduceMul, reduceEqDiff, ↓reduceIte, reduceCtorEq, reduceLT, reduceLeDiff, ↓zc2, ↓zc3]
       (repeat' apply And.intro) <;> first|rfl|assumption|omega|(simp;done)|(simp;omega)|(simp_all;done)
      refine lA_n ?_
      refine wk_l [(some 0, ⟨68, 2, false, [[.list 1 (r4.2.rest.b.map (ci .u8)), .int .i64 r4.2.e]]⟩), (some 14, ⟨3, 1, false, (out2 ++ [r4.1]).map (ci .i64)⟩)] [] [(5, .ptr 0 0 0 2), (6, .ref 1 0 (out2 ++ [r4.1]).length 1), (12, .int .i64 r2.1), (13, .int .i64 (IntKind.wrap .i64 (v1 + 1)))] (by show ([5, 6, 12, 13] : List Nat).Nodup; decide) (by show ([0, 14] : List Nat).Nodup; decide) ?_ ?_ (fun t0 => ⟨_, Nat.lt_succ_self _, r4.2, (out2 ++ [r4.1]), (IntKind.wrap .i64 (v1 + 1)), t0, H, rfl⟩)
      ·exact (allB_some (by rfl) rfl (.cons (.cons (.lst _ _ _ (ci_pu .u8) rfl) (.cons (.int' rfl) .nil)) .nil) (allB_some (by rfl) rfl (.same _ _ (ci_pu .i64) (by first | rfl | (simp only [MPT, CS,  List.nil_append]; done) | (simp [CS,  ci_eq, cb_eq, cs_eq, cl_eq]; done) | (simp [CS,  ci_eq, cb_eq, cs_eq, cl_eq]; intro hz; rw [List.take_of_length_le (by simp; omega)]))) trivial))
      ·(simp only [AllT, tl_cons, tl_nil, upd_apply, List.getD_cons_zero, List.getD_cons_succ, reduceEqDiff, ↓reduceIte, and_true]); exact ⟨(.ptr _ _ _ _ _ rfl), (.refl' (by first | rfl | omega | (simp; done) | (simp [strBytes_len]; done) | (simp; omega) | (simp_all; done)) rfl), (.int' rfl), (.int' rfl)⟩
    ·have H := cond_f zc2 H
     refine a_exit ?_
     refine sA_e ?_
     refine lA_e ?_
     refine bA_hit ?_
     refine cA_n ?_
     refine wk_l [(some 0, ⟨68, 2, false, [[.list 1 (r3.rest.b.map (ci .u8)), .int .i64 r3.e]]⟩), (some 1, ⟨3, 1, false, out2.map (ci .i64)⟩)] [] [(5, .ptr 0 0 0 2), (6, .ref 1 0 out2.length 1)] (by show ([5, 6] : List Nat).Nodup; decide) (by show ([0, 1] : List Nat).Nodup; decide) ?_ ?_ (fun t0 => ⟨r3, out2, t0, H, rfl⟩)
     ·exact (allB_some (by rfl) rfl (.cons (.cons (.lst _ _ _ (ci_pu .u8) rfl) (.cons (.int' rfl) .nil)) .nil) (allB_some (by rfl) rfl (.same _ _ (ci_pu .i64) (by first | rfl | (simp only [MPT, CS,  List.nil_append]; done) | (simp [CS,  ci_eq, cb_eq, cs_eq, cl_eq]; done) | (simp [CS,  ci_eq, cb_eq, cs_eq, cl_eq]; intro hz; rw [List.take_of_length_le (by simp; omega)]))) trivial))
     ·(simp only [AllT, tl_cons, tl_nil, upd_apply, List.getD_cons_zero, List.getD_cons_succ, reduceEqDiff, ↓reduceIte, and_true]); exact ⟨(.ptr _ _ _ _ _ rfl), (.refl' (by first | rfl | omega | (simp; done) | (simp [strBytes_len]; done) | (simp; omega) | (simp_all; done)) rfl)⟩
 ·rintro s ⟨r1, out1, t0, H, rfl⟩
  unfold pack_ReadInts_J1 at H
  refine a_seq ?_
  refine a_seq ?_
  refine a_reg _ rfl (s := ?zs4) ?_ ?_
  rotate_left
  ·simp only [EVT, stepR, evOp, St.ev, St.app, St.put, wrs, evFieldAddr, evLoad, cut, datOf, datOf1, evBin, binInt, TIS, CS, reduceAdd, reduceMul, reduceEqDiff, ↓reduceIte, reduceCtorEq, reduceLT, reduceLeDiff, reduceSub, Nat.reduceBEq]
   (repeat' apply And.intro) <;> first|rfl|assumption|omega|(simp;done)|(simp;omega)|(simp_all;done)
  refine sA_n ?_
  refine a_condb ((r1.e != 0)) (by rfl) (fun zc1 => ?_) (fun zc1 => ?_)
  ·have H := cond_t zc1 H
   refine a_seq ?_
   refine a_drW (by kernel_rfl) _ rfl (s := ?zs5) (by kernel_rfl) (by kernel_rfl) ?zs5f ?_ ?_ ?_
   rotate_left 2
   ·simp only [EVT, stepW, evOp, St.ev, St.app, St.put, wrs, evFieldAddr, evLoad, cut, datOf, datOf1, TIS, CS, reduceAdd, reduceMul, reduceEqDiff, ↓reduceIte, reduceCtorEq, reduceLT, reduceLeDiff, reduceSub, Nat.reduceBEq, ↓zc1]
    (repeat' apply And.intro) <;> first|rfl|assumption|omega|(simp;done)|(simp;omega)|(simp_all;done)
   ·kernel_rfl
   refine sA_n ?_
   refine a_ret ?_
   refine sA_r ?_
   obtain rfl := Option.some.inj H
   refine e_r2 (d := ?zd1) ?_ ?_
   rotate_left
   ·simp only [EVT, resR, single, evLoad, cut, TIS, CS, reduceAdd, reduceEqDiff, ↓reduceIte, reduceCtorEq, reduceLT, reduceLeDiff, reduceSub, Nat.reduceBEq, zc1]
    (repeat' apply And.intro) <;> first | rfl | assumption | omega | (simp; done)
   exact (.tup' (.cons (.nil _) (.cons (.nil _) (.cons (.int' rfl) .nil))))
  ·have H := cond_f zc1 H
   refine a_skip ?_
   refine sA_n ?_
   refine a_seq ?_
   refine a_drW (by kernel_rfl) _ rfl (s := ?zs6) (by kernel_rfl) (by kernel_rfl) ?zs6f ?_ ?_ ?_
   rotate_left 2
   ·simp only [EVT, stepW, evOp, St.ev, St.app, St.put, wrs, evFieldAddr, evLoad, cut, datOf, datOf1, TIS, CS, reduceAdd, reduceMul, reduceEqDiff, ↓reduceIte, reduceCtorEq, reduceLT, reduceLeDiff, reduceSub, Nat.reduceBEq, ↓zc1]
    (repeat' apply And.intro) <;> first|rfl|assumption|omega|(simp;done)|(simp;omega)|(simp_all;done)
   ·kernel_rfl
   refine sA_n ?_
   refine a_ret ?_
   obtain rfl := Option.some.inj H
   refine e_r2 (d := ?zd2) ?_ ?_
   rotate_left
   ·simp only [EVT, resR, single, evLoad, cut, TIS, CS, reduceAdd, reduceEqDiff, ↓reduceIte, reduceCtorEq, reduceLT, reduceLeDiff, reduceSub, Nat.reduceBEq, zc1]
    (repeat' apply And.intro) <;> first | rfl | assumption | omega | (simp; done)
   exact (.tup' (.cons (.ownL (by rfl) (fun e => by cases e) rfl (by first | rfl | omega | (simp; done) | (simp [strBytes_len]; done) | (simp; omega) | (simp_all; done)) (.same _ _ (ci_pu .i64) (by first | rfl | (simp only [MPT, CS,  List.nil_append]; done) | (simp [CS,  ci_eq, cb_eq, cs_eq, cl_eq]; done) | (simp [CS,  ci_eq, cb_eq, cs_eq, cl_eq]; intro hz; rw [List.take_of_length_le (by simp; omega)])))) (.cons (.lst _ _ _ (ci_pu .u8) rfl) (.cons (.int' rfl) .nil))))
def pack_ReadStr_f (b1 : List Int) : Option (ByteArray × (List Int) × Int) :=
 (pack_reader_str_f (⟨(⟨b1⟩ : Rest), 0⟩ : Reader)).bind fun r1 => cond (r1.2.e != 0) (some ((⟨#[]⟩ : ByteArray), [], r1.2.e)) (some (r1.1, r1.2.rest.b, 0))
set_option maxHeartbeats 4000000 in
set_option maxRecDepth 20000 in
theorem pack_ReadStr_pc {b1 : List Int} {r : ByteArray × (List Int) × Int} (H : pack_ReadStr_f b1 = some r) : PC Try.prog 28 [.list 1 (b1.map (ci .u8))] (.tup [.str r.1, .list 1 (r.2.1.map (ci .u8)), .int .i64 r.2.2]) := by
 refine pcA_of Try.func28 (by rfl) (by decide) 28 (by rfl) [.tmp 2, .tmp 3, .tmp 4] (by rfl) ?_
 unfold pack_ReadStr_f at H
 simp only [ent]
 refine a_seq ?_
 refine a_reg _ rfl (s := ?zs1) ?_ ?_
 rotate_left
 ·simp only [EVT, stepR, evOp, St.ev, St.app, St.put, wrs, datOf, datOf1, TIS, CS, reduceAdd, reduceMul, reduceEqDiff, ↓reduceIte, reduceCtorEq, reduceLT, reduceLeDiff]
  (repeat' apply And.intro) <;> first|rfl|assumption|omega|(simp;done)|(simp;omega)|(simp_all;done)
 refine sA_n ?_
 refine a_seq ?_
 refine a_reg _ rfl (s := ?zs2) ?_ ?_
 rotate_left
 ·simp only [EVT, stepR, evOp, St.ev, St.app, St.put, wrs, fillD, setR, allOne, TIS, CS, reduceAdd, reduceMul, reduceEqDiff, ↓reduceIte, reduceCtorEq, reduceLT, reduceLeDiff, reduceSub, Nat.reduceBEq]
  (repeat' apply And.intro) <;> first|rfl|assumption|omega|(simp;done)|(simp;omega)|(simp_all;done)
 refine sA_n ?_
 refine a_seq ?_
 obtain ⟨r1, zh1, H⟩ := bind_some H
 have zk1 := pack_reader_str_rc zh1
 refine a_reg _ rfl (s := ?zs3) ?_ ?_
 rotate_left
 ·try simp only [EVT, stepR, evOp, St.ev, St.app, St.put, wrs, frz, TIS, CS, reduceAdd, reduceMul, reduceEqDiff, ↓reduceIte, reduceCtorEq, reduceLT, reduceLeDiff, reduceSub, Nat.reduceBEq]
  repeat' with_reducible apply And.intro
  all_goals try ((with_reducible show CallR _ _ _ _ _ _ _); refine callR_rcw (r' := .str r1.1) [(27, none), (27, some ⟨68, 2, false, [[.list 1 (r1.2.rest.b.map (ci .u8)), .int .i64 r1.2.e]]⟩)] [(some 27, ⟨68, 2, false, [Reader.c (⟨(⟨b1⟩ : Rest), 0⟩ : Reader)]⟩)] [] [(27, 0, ⟨68, 2, false, [[.list 1 (r1.2.rest.b.map (ci .u8)), .int .i64 r1.2.e]]⟩)] rfl zk1 (by simp) (by show ([27] : List Nat).Nodup; decide) (allB_some (by rfl) rfl (.cons (.cons (.lst _ _ _ (ci_pu .u8) rfl) (.cons (.int' rfl) .nil)) .nil) trivial) (.cons (.ptr _ _ _ _ _ rfl) .nil) (by show ([27] : List Nat).Nodup; decide) (by show ([0] : List Nat).Nodup; decide) ⟨.inl ⟨by decide, rfl⟩, ⟨_, rfl, ⟨rfl, rfl, rfl, rfl⟩, .cons (RNs.pu (Reader.pu _)) .nil⟩, trivial⟩ (.str' rfl) ?_; simp only [EVT, stepR, evOp, St.ev, St.app, St.put, wrs, frz, TIS, CS, reduceAdd, reduceMul, reduceEqDiff, ↓reduceIte, reduceCtorEq, reduceLT, reduceLeDiff, reduceSub, Nat.reduceBEq])
  all_goals ((repeat' apply And.intro) <;> first|rfl|assumption|omega|(simp;done)|(simp;omega)|(simp_all;done))
 refine sA_n ?_
 refine a_seq ?_
 refine a_seq ?_
 refine a_reg _ rfl (s := ?zs4) ?_ ?_
 rotate_left
 ·simp only [EVT, stepR, evOp, St.ev, St.app, St.put, wrs, evFieldAddr, evLoad, cut, datOf, datOf1, evBin, binInt, TIS, CS, reduceAdd, reduceMul, reduceEqDiff, ↓reduceIte, reduceCtorEq, reduceLT, reduceLeDiff, reduceSub, Nat.reduceBEq]
  (repeat' apply And.intro) <;> first|rfl|assumption|omega|(simp;done)|(simp;omega)|(simp_all;done)
 refine sA_n ?_
 refine a_condb ((r1.2.e != 0)) (by rfl) (fun zc1 => ?_) (fun zc1 => ?_)
 ·have H := cond_t zc1 H
  refine a_seq ?_
  refine a_drW (by kernel_rfl) _ rfl (s := ?zs5) (by kernel_rfl) (by kernel_rfl) ?zs5f ?_ ?_ ?_
  rotate_left 2
  ·simp only [EVT, stepW, evOp, St.ev, St.app, St.put, wrs, evFieldAddr, evLoad, cut, datOf, datOf1, TIS, CS, reduceAdd, reduceMul, reduceEqDiff, ↓reduceIte, reduceCtorEq, reduceLT, reduceLeDiff, reduceSub, Nat.reduceBEq, ↓zc1]
   (repeat' apply And.intro) <;> first|rfl|assumption|omega|(simp;done)|(simp;omega)|(simp_all;done)
  ·kernel_rfl
  refine sA_n ?_
  refine a_ret ?_
  refine sA_r ?_
  obtain rfl := Option.some.inj H
  refine e_r2 (d := ?zd1) ?_ ?_
  rotate_left
  ·simp only [EVT, resR, single, evLoad, cut, TIS, CS, reduceAdd, reduceEqDiff, ↓reduceIte, reduceCtorEq, reduceLT, reduceLeDiff, reduceSub, Nat.reduceBEq, zc1]
   (repeat' apply And.intro) <;> first | rfl | assumption | omega | (simp; done)
  exact (.tup' (.cons (.str' rfl) (.cons (.nil _) (.cons (.int' rfl) .nil))))
 ·have H := cond_f zc1 H
  refine a_skip ?_
  refine sA_n ?_
  refine a_seq ?_
  refine a_drW (by kernel_rfl) _ rfl (s := ?zs6) (by kernel_rfl) (by kernel_rfl) ?zs6f ?_ ?_ ?_
  rotate_left 2
  ·simp only [EVT, stepW, evOp, St.ev, St.app, St.put, wrs, evFieldAddr, evLoad, cut, datOf, datOf1, TIS, CS, reduceAdd, reduceMul, reduceEqDiff, ↓reduceIte, reduceCtorEq, reduceLT, reduceLeDiff, reduceSub, Nat.reduceBEq, ↓zc1]
   (repeat' apply And.intro) <;> first|rfl|assumption|omega|(simp;done)|(simp;omega)|(simp_all;done)
  ·kernel_rfl
  refine sA_n ?_
  refine a_ret ?_
  obtain rfl := Option.some.inj H
  refine e_r2 (d := ?zd2) ?_ ?_
  rotate_left
  ·simp only [EVT, resR, single, evLoad, cut, TIS, CS, reduceAdd, reduceEqDiff, ↓reduceIte, reduceCtorEq, reduceLT, reduceLeDiff, reduceSub, Nat.reduceBEq, zc1]
   (repeat' apply And.intro) <;> first | rfl | assumption | omega | (simp; done)
  exact (.tup' (.cons (.str' rfl) (.cons (.lst _ _ _ (ci_pu .u8) rfl) (.cons (.int' rfl) .nil))))
def ref01_ReadInts_J1 (out1 : List Int) (rest1 : List Int) : Option ((List Int) × (List Int) × Int) :=
 some (out1, rest1, 0)
def ref01_ReadInts_L1 (r1 : Int × (List Int) × Int) : Nat → (List Int) → (List Int) → Int → Option ((List Int) × (List Int) × Int)
 | 0, _, _, _ => none
 | m_ + 1, out2, rest2, i1 => cond (decide (i1 < r1.1)) ((ref01_ReadInt_f rest2).bind fun r2 => cond (r2.2.2 != 0) (some ([], [], r2.2.2)) (chk ((out2.length + 1) * 8 ≤ 140737488355328) (ref01_ReadInts_L1 r1 m_ (out2 ++ [r2.1]) r2.2.1 (IntKind.wrap .i64 (i1 + 1))))) (ref01_ReadInts_J1 out2 rest2)
def ref01_ReadInts_f (b1 : List Int) : Option ((List Int) × (List Int) × Int) :=
 (ref01_count_f b1).bind fun r1 => cond (r1.2.2 != 0) (some ([], [], r1.2.2)) (ref01_ReadInts_L1 r1 BIG ([] : List Int) r1.2.1 0)
set_option maxHeartbeats 4000000 in
set_option maxRecDepth 20000 in
theorem ref01_ReadInts_pc {b1 : List Int} {r : (List Int) × (List Int) × Int} (H : ref01_ReadInts_f b1 = some r) : PC Try.prog 35 [.list 1 (b1.map (ci .u8))] (.tup [.list 1 (r.1.map (ci .i64)), .list 1 (r.2.1.map (ci .u8)), .int .i64 r.2.2]) := by
 refine pcA_of Try.func35 (by rfl) (by decide) 44 (by rfl) [.tmp 2, .tmp 3, .tmp 4] (by rfl) ?_
 unfold ref01_ReadInts_f at H
 simp only [ent]
 refine a_seq ?_
 refine a_reg _ rfl (s := ?zs1) ?_ ?_
 rotate_left
 ·simp only [EVT, stepR, evOp, St.ev, St.app, St.put, wrs, datOf, datOf1, TIS, CS, reduceAdd, reduceMul, reduceEqDiff, ↓reduceIte, reduceCtorEq, reduceLT, reduceLeDiff]
  (repeat' apply And.intro) <;> first|rfl|assumption|omega|(simp;done)|(simp;omega)|(simp_all;done)
 refine sA_n ?_
 refine a_seq ?_
 refine a_reg _ rfl (s := ?zs2) ?_ ?_
 rotate_left
 ·simp only [EVT, stepR, evOp, St.ev, St.app, St.put, wrs, allOne, TIS, CS, reduceAdd, reduceMul, reduceEqDiff, ↓reduceIte, reduceCtorEq, reduceLT, reduceLeDiff, reduceSub, Nat.reduceBEq]
  (repeat' apply And.intro) <;> first|rfl|assumption|omega|(simp;done)|(simp;omega)|(simp_all;done)
 refine sA_n ?_
 refine a_seq ?_
 obtain ⟨r1, zh1, H⟩ := bind_some H
 have zk1 := ref01_count_pc zh1
 refine a_reg _ rfl (s := ?zs3) ?_ ?_
 rotate_left
 ·try simp only [EVT, stepR, evOp, St.ev, St.app, St.put, wrs, frz, TIS, CS, reduceAdd, reduceMul, reduceEqDiff, ↓reduceIte, reduceCtorEq, reduceLT, reduceLeDiff, reduceSub, Nat.reduceBEq]
  repeat' with_reducible apply And.intro
  all_goals try ((with_reducible show CallR _ _ _ _ _ _ _); refine cR_p zk1 (.cons (.lst _ _ _ (ci_pu .u8) rfl) .nil) ?_; simp only [EVT, stepR, evOp, St.ev, St.app, St.put, wrs, frz, TIS, CS, reduceAdd, reduceMul, reduceEqDiff, ↓reduceIte, reduceCtorEq, reduceLT, reduceLeDiff, reduceSub, Nat.reduceBEq])
  all_goals ((repeat' apply And.intro) <;> first|rfl|assumption|omega|(simp;done)|(simp;omega)|(simp_all;done))
 refine sA_n ?_
 refine a_seq ?_
 refine a_seq ?_
 refine a_reg _ rfl (s := ?zs4) ?_ ?_
 rotate_left
 ·simp only [EVT, stepR, evOp, St.ev, St.app, St.put, wrs, datOf, datOf1, evBin, binInt, TIS, CS, reduceAdd, reduceMul, reduceEqDiff, ↓reduceIte, reduceCtorEq, reduceLT, reduceLeDiff]
  (repeat' apply And.intro) <;> first|rfl|assumption|omega|(simp;done)|(simp;omega)|(simp_all;done)
 refine sA_n ?_
 refine a_condb ((r1.2.2 != 0)) (by rfl) (fun zc1 => ?_) (fun zc1 => ?_)
 ·have H := cond_t zc1 H
  refine a_seq ?_
  refine a_reg _ rfl (s := ?zs5) ?_ ?_
  rotate_left
  ·simp only [EVT, stepR, evOp, St.ev, St.app, St.put, wrs, datOf, datOf1, TIS, CS, reduceAdd, reduceMul, reduceEqDiff, ↓reduceIte, reduceCtorEq, reduceLT, reduceLeDiff, ↓zc1]
   (repeat' apply And.intro) <;> first|rfl|assumption|omega|(simp;done)|(simp;omega)|(simp_all;done)
  refine sA_n ?_
  refine a_ret ?_
  refine sA_r ?_
  obtain rfl := Option.some.inj H
  refine e_r2 (d := ?zd1) ?_ ?_
  rotate_left
  ·simp only [EVT, resR, single, evLoad, cut, TIS, CS, reduceAdd, reduceEqDiff, ↓reduceIte, reduceCtorEq, reduceLT, reduceLeDiff, reduceSub, Nat.reduceBEq, zc1]
   (repeat' apply And.intro) <;> first | rfl | assumption | omega | (simp; done)
  exact (.tup' (.cons (.nil _) (.cons (.nil _) (.cons (.int' rfl) .nil))))
 ·have H := cond_f zc1 H
  refine a_skip ?_
  refine sA_n ?_
  refine a_cut (fun s => ∃ (out1 : List Int) (rest1 : List Int) (t0 : Nat → Dat), ref01_ReadInts_J1 out1 rest1 = some r ∧ s = ⟨tl t0 [(5, .ref 0 0 out1.length 1), (7, .list 1 (rest1.map (ci .u8)))], hl [⟨3, 1, false, out1.map (ci .i64)⟩], 1, 44⟩) ?_ ?_
  ·refine a_seq ?_
   refine a_reg _ rfl (s := ?zs7) ?_ ?_
   rotate_left
   ·simp only [EVT, stepR, evOp, St.ev, St.app, St.put, wrs, datOf, datOf1, TIS, CS, reduceAdd, reduceMul, reduceEqDiff, ↓reduceIte, reduceCtorEq, reduceLT, reduceLeDiff, ↓zc1]
    (repeat' apply And.intro) <;> first|rfl|assumption|omega|(simp;done)|(simp;omega)|(simp_all;done)
   refine sA_n ?_
   refine a_blk ?_
   refine a_loop (fun m s => ∃ (out2 : List Int) (rest2 : List Int) (i1 : Int) (t0 : Nat → Dat), ref01_ReadInts_L1 r1 m out2 rest2 i1 = some r ∧ s = ⟨tl t0 [(5, .ref 0 0 out2.length 1), (6, .int .i64 r1.1), (7, .list 1 (rest2.map (ci .u8))), (9, .int .i64 i1)], hl [⟨3, 1, false, out2.map (ci .i64)⟩], 1, 44⟩) BIG ?_ ?_
   ·refine wk_l [(some 24, ⟨3, 1, false, ([] : List Int).map (ci .i64)⟩)] [] [(5, .ref 0 0 ([] : List Int).length 1), (6, .int .i64 r1.1), (7, .list 1 (r1.2.1.map (ci .u8))), (9, .int .i64 0)] (by show ([5, 6, 7, 9] : List Nat).Nodup; decide) (by show ([24] : List Nat).Nodup; decide) ?_ ?_ (fun t0 => ⟨([] : List Int), r1.2.1, 0, t0, H, rfl⟩)
    ·exact (allB_some (by rfl) rfl (.same _ _ (ci_pu .i64) (by first | rfl | (simp only [MPT, CS,  List.nil_append]; done) | (simp [CS,  ci_eq, cb_eq, cs_eq, cl_eq]; done) | (simp [CS,  ci_eq, cb_eq, cs_eq, cl_eq]; intro hz; rw [List.take_of_length_le (by simp; omega)]))) trivial)
    ·(simp only [AllT, tl_cons, tl_nil, upd_apply, List.getD_cons_zero, List.getD_cons_succ, reduceEqDiff, ↓reduceIte, and_true]); exact ⟨(.refl' (by first | rfl | omega | (simp; done) | (simp [strBytes_len]; done) | (simp; omega) | (simp_all; done)) rfl), (.int' rfl), (.lst _ _ _ (ci_pu .u8) rfl), (.int' rfl)⟩
   ·rintro m_ref01_ReadInts_L1 s ⟨out2, rest2, i1, t0, H, rfl⟩
    obtain _ | m_ref01_ReadInts_L1 := m_ref01_ReadInts_L1
    ·cases (show (none : Option _) = some _ from H)
    ·rw [ref01_ReadInts_L1] at H
     refine a_seq ?_
     refine a_seq ?_
     refine a_reg _ rfl (s := ?zs8) ?_ ?_
     rotate_left
     ·simp only [EVT, stepR, evOp, St.ev, St.app, St.put, wrs, evBin, binInt, TIS, CS, reduceAdd, reduceMul, reduceEqDiff, ↓reduceIte, reduceCtorEq, reduceLT, reduceLeDiff]
      (repeat' apply And.intro) <;> first|rfl|assumption|omega|(simp;done)|(simp;omega)|(simp_all;done)
     refine sA_n ?_
     refine a_condb ((decide (i1 < r1.1))) (by rfl) (fun zc2 => ?_) (fun zc2 => ?_)
     ·have H := cond_t zc2 H
      refine a_skip ?_
      refine sA_n ?_
      refine a_seq ?_
      refine a_blk ?_
      refine a_seq ?_
      obtain ⟨r2, zh2, H⟩ := bind_some H
      have zk2 := ref01_ReadInt_pc zh2
      refine a_reg _ rfl (s := ?zs9) ?_ ?_
      rotate_left
      ·try simp only [EVT, stepR, evOp, St.ev, St.app, St.put, wrs, frz, TIS, CS, reduceAdd, reduceMul, reduceEqDiff, ↓reduceIte, reduceCtorEq, reduceLT, reduceLeDiff, reduceSub, Nat.reduceBEq, ↓zc2]
       repeat' with_reducible apply And.intro
       all_goals try ((with_reducible show CallR _ _ _ _ _ _ _); refine cR_p zk2 (.cons (.lst _ _ _ (ci_pu .u8) rfl) .nil) ?_; simp only [EVT, stepR, evOp, St.ev, St.app, St.put, wrs, frz, TIS, CS, reduceAdd, reduceMul, reduceEqDiff, ↓reduceIte, reduceCtorEq, reduceLT, reduceLeDiff, reduceSub, Nat.reduceBEq, ↓zc2])
       all_goals ((repeat' apply And.intro) <;> first|rfl|assumption|omega|(simp;done)|(simp;omega)|(simp_all;done))
      refine sA_n ?_
      refine a_seq ?_
      refine a_seq ?_
      refine a_reg _ rfl (s := ?zs10) ?_ ?_
      rotate_left
      ·simp only [EVT, stepR, evOp, St.ev, St.app, St.put, wrs, datOf, datOf1, evBin, binInt, TIS, CS, reduceAdd, reduceMul, reduceEqDiff, ↓reduceIte, reduceCtorEq, reduceLT, reduceLeDiff, ↓zc2]
       (repeat' apply And.intro) <;> first|rfl|assumption|omega|(simp;done)|(simp;omega)|(simp_all;done)
      refine sA_n ?_
      refine a_condb ((r2.2.2 != 0)) (by rfl) (fun zc3 => ?_) (fun zc3 => ?_)
      ·have H := cond_t zc3 H
       refine a_seq ?_
       refine a_reg _ rfl (s := ?zs11) ?_ ?_
       rotate_left
       ·simp only [EVT, stepR, evOp, St.ev, St.app, St.put, wrs, datOf, datOf1, TIS, CS, reduceAdd, reduceMul, reduceEqDiff, ↓reduceIte, reduceCtorEq, reduceLT, reduceLeDiff, ↓zc2, ↓zc3]
        (repeat' apply And.intro) <;> first|rfl|assumption|omega|(simp;done)|(simp;omega)|(simp_all;done)
       refine sA_n ?_
       refine a_ret ?_
       refine sA_r ?_
       refine bA_r ?_
       refine sA_r ?_
       refine lA_r ?_
       refine bA_r ?_
       refine cA_r ?_
       obtain rfl := Option.some.inj H
       refine e_r2 (d := ?zd3) ?_ ?_
       rotate_left
       ·simp only [EVT, resR, single, evLoad, cut, TIS, CS, reduceAdd, reduceEqDiff, ↓reduceIte, reduceCtorEq, reduceLT, reduceLeDiff, reduceSub, Nat.reduceBEq, zc2, zc3]
        (repeat' apply And.intro) <;> first | rfl | assumption | omega | (simp; done)
       exact (.tup' (.cons (.nil _) (.cons (.nil _) (.cons (.int' rfl) .nil))))
      ·have H := cond_f zc3 H
       refine a_skip ?_
       refine sA_n ?_
       refine a_seq ?_
       obtain ⟨zh3, H⟩ := chk_some H
       refine a_reg _ rfl (s := ?zs12) ?_ ?_
       rotate_left
       ·simp only [EVT, stepR, evOp, St.ev, St.app, St.put, wrs, allOne, evBuiltin, evAppend, elems, Option.elim, TIS, CS, reduceAdd, reduceMul, reduceEqDiff, ↓reduceIte, reduceCtorEq, reduceLT, reduceLeDiff, reduceSub, Nat.reduceBEq, ↓zc2, ↓zc3]
        (repeat' apply And.intro) <;> first|rfl|assumption|omega|(simp;done)|(simp;omega)|(simp_all;done)
       refine sA_n ?_
       refine a_reg _ rfl (s := ?zs13) ?_ ?_
       rotate_left
       ·simp only [EVT, stepR, evOp, St.ev, St.app, St.put, wrs, TIS, CS, reduceAdd, reduceMul, reduceEqDiff, ↓reduceIte, reduceCtorEq, reduceLT, reduceLeDiff, ↓zc2, ↓zc3]
        (repeat' apply And.intro) <;> first|rfl|assumption|omega|(simp;done)|(simp;omega)|(simp_all;done)
       refine bA_n ?_
       refine sA_n ?_
       refine a_reg _ rfl (s := ?zs14) ?_ ?_
       rotate_left
       ·simp only [EVT, stepR, evOp, St.ev, St.app, St.put, wrs, datOf, datOf1, evBin, binInt, TIS, CS, reduceAdd, reduceMul, reduceEqDiff, ↓reduceIte, reduceCtorEq, reduceLT, reduceLeDiff, ↓zc2, ↓zc3]
        (repeat' apply And.intro) <;> first|rfl|assumption|omega|(simp;done)|(simp;omega)|(simp_all;done)
       refine lA_n ?_
       refine wk_l [(some 116, ⟨3, 1, false, (out2 ++ [r2.1]).map (ci .i64)⟩)] [] [(5, .ref 0 0 (out2 ++ [r2.1]).length 1), (6, .int .i64 r1.1), (7, .list 1 (r2.2.1.map (ci .u8))), (9, .int .i64 (IntKind.wrap .i64 (i1 + 1)))] (by show ([5, 6, 7, 9] : List Nat).Nodup; decide) (by show ([116] : List Nat).Nodup; decide) ?_ ?_ (fun t0 => ⟨_, Nat.lt_succ_self _, (out2 ++ [r2.1]), r2.2.1, (IntKind.wrap .i64 (i1 + 1)), t0, H, rfl⟩)
       ·exact (allB_some (by rfl) rfl (.same _ _ (ci_pu .i64) (by first | rfl | (simp only [MPT, CS,  List.nil_append]; done) | (simp [CS,  ci_eq, cb_eq, cs_eq, cl_eq]; done) | (simp [CS,  ci_eq, cb_eq, cs_eq, cl_eq]; intro hz; rw [List.take_of_length_le (by simp; omega)]))) trivial)
       ·(simp only [AllT, tl_cons, tl_nil, upd_apply, List.getD_cons_zero, List.getD_cons_succ, reduceEqDiff, ↓reduceIte, and_true]); exact ⟨(.refl' (by first | rfl | omega | (simp; done) | (simp [strBytes_len]; done) | (simp; omega) | (simp_all; done)) rfl), (.int' rfl), (.lst _ _ _ (ci_pu .u8) rfl), (.int' rfl)⟩
     ·have H := cond_f zc2 H
      refine a_exit ?_
      refine sA_e ?_
      refine lA_e ?_
      refine bA_hit ?_
      refine cA_n ?_
      refine wk_l [(some 0, ⟨3, 1, false, out2.map (ci .i64)⟩)] [] [(5, .ref 0 0 out2.length 1), (7, .list 1 (rest2.map (ci .u8)))] (by show ([5, 7] : List Nat).Nodup; decide) (by show ([0] : List Nat).Nodup; decide) ?_ ?_ (fun t0 => ⟨out2, rest2, t0, H, rfl⟩)
      ·exact (allB_some (by rfl) rfl (.same _ _ (ci_pu .i64) (by first | rfl | (simp only [MPT, CS,  List.nil_append]; done) | (simp [CS,  ci_eq, cb_eq, cs_eq, cl_eq]; done) | (simp [CS,  ci_eq, cb_eq, cs_eq, cl_eq]; intro hz; rw [List.take_of_length_le (by simp; omega)]))) trivial)
      ·(simp only [AllT, tl_cons, tl_nil, upd_apply, List.getD_cons_zero, List.getD_cons_succ, reduceEqDiff, ↓reduceIte, and_true]); exact ⟨(.refl' (by first | rfl | omega | (simp; done) | (simp [strBytes_len]; done) | (simp; omega) | (simp_all; done)) rfl), (.lst _ _ _ (ci_pu .u8) rfl)⟩
  ·rintro s ⟨out1, rest1, t0, H, rfl⟩
   unfold ref01_ReadInts_J1 at H
   refine a_seq ?_
   refine a_reg _ rfl (s := ?zs6) ?_ ?_
   rotate_left
   ·simp only [EVT, stepR, evOp, St.ev, St.app, St.put, wrs, datOf, datOf1, TIS, CS, reduceAdd, reduceMul, reduceEqDiff, ↓reduceIte, reduceCtorEq, reduceLT, reduceLeDiff]
    (repeat' apply And.intro) <;> first|rfl|assumption|omega|(simp;done)|(simp;omega)|(simp_all;done)
   refine sA_n ?_
   refine a_ret ?_
   obtain rfl := Option.some.inj H
   refine e_r2 (d := ?zd2) ?_ ?_
   rotate_left
   ·simp only [EVT, resR, single, evLoad, cut, TIS, CS, reduceAdd, reduceEqDiff, ↓reduceIte, reduceCtorEq, reduceLT, reduceLeDiff, reduceSub, Nat.reduceBEq]
    (repeat' apply And.intro) <;> first | rfl | assumption | omega | (simp; done)
   exact (.tup' (.cons (.ownL (by rfl) (fun e => by cases e) rfl (by first | rfl | omega | (simp; done) | (simp [strBytes_len]; done) | (simp; omega) | (simp_all; done)) (.same _ _ (ci_pu .i64) (by first | rfl | (simp only [MPT, CS,  List.nil_append]; done) | (simp [CS,  ci_eq, cb_eq, cs_eq, cl_eq]; done) | (simp [CS,  ci_eq, cb_eq, cs_eq, cl_eq]; intro hz; rw [List.take_of_length_le (by simp; omega)])))) (.cons (.lst _ _ _ (ci_pu .u8) rfl) (.cons (.int' rfl) .nil))))
def pack_ReadOp_f (b1 : List Int) : Option (Op × Int) :=
 (pack_reader_num_f (⟨(⟨b1⟩ : Rest), 0⟩ : Reader)).bind fun r1 => (pack_reader_num_f r1.2).bind fun r2 => (pack_reader_str_f r2.2).bind fun r3 => (pack_reader_str_f r3.2).bind fun r4 => (pack_reader_num_f r4.2).bind fun r5 => (pack_reader_num_f r5.2).bind fun r6 => (pack_reader_num_f r6.2).bind fun r7 => (pack_reader_str_f r7.2).bind fun r8 => chk (r8.1.size ≤ 140737488355328) ((pack_reader_end_f r8.2).bind fun r9 => cond (r9.1 != 0) (some ((⟨0, 0, ByteArray.empty, ByteArray.empty, 0, 0, 0, []⟩ : Op), r9.1)) (some ((⟨r1.1, r2.1, r3.1, r4.1, r5.1, r6.1, r7.1, (strBytes r8.1)⟩ : Op), 0)))
set_option maxHeartbeats 4000000 in
set_option maxRecDepth 20000 in
theorem pack_ReadOp_pc {b1 : List Int} {r : Op × Int} (H : pack_ReadOp_f b1 = some r) : PC Try.prog 31 [.list 1 (b1.map (ci .u8))] (.tup [.agg (Op.c r.1), .int .i64 r.2]) := by
 refine pcA_of Try.func31 (by rfl) (by decide) 43 (by rfl) [.cell 2 24, .tmp 3] (by rfl) ?_
 unfold pack_ReadOp_f at H
 simp only [ent]
 refine a_seq ?_
 refine a_reg _ rfl (s := ?zs1) ?_ ?_
 rotate_left
 ·simp only [EVT, stepR, evOp, St.ev, St.app, St.put, wrs, allOne, datOf, datOf1, TIS, CS, reduceAdd, reduceMul, reduceEqDiff, ↓reduceIte, reduceCtorEq, reduceLT, reduceLeDiff]
  (repeat' apply And.intro) <;> first|rfl|assumption|omega|(simp;done)|(simp;omega)|(simp_all;done)
 refine sA_n ?_
 refine a_seq ?_
 refine a_reg _ rfl (s := ?zs2) ?_ ?_
 rotate_left
 ·simp only [EVT, stepR, evOp, St.ev, St.app, St.put, wrs, fillD, setR, allOne, TIS, CS, reduceAdd, reduceMul, reduceEqDiff, ↓reduceIte, reduceCtorEq, reduceLT, reduceLeDiff, reduceSub, Nat.reduceBEq]
  (repeat' apply And.intro) <;> first|rfl|assumption|omega|(simp;done)|(simp;omega)|(simp_all;done)
 refine sA_n ?_
 refine a_seq ?_
 refine a_reg _ rfl (s := ?zs3) ?_ ?_
 rotate_left
 ·simp only [EVT, stepR, evOp, St.ev, St.app, St.put, wrs, allOne, TIS, CS, reduceAdd, reduceMul, reduceEqDiff, ↓reduceIte, reduceCtorEq, reduceLT, reduceLeDiff]
  (repeat' apply And.intro) <;> first|rfl|assumption|omega|(simp;done)|(simp;omega)|(simp_all;done)
 refine sA_n ?_
 refine a_seq ?_
 obtain ⟨r1, zh1, H⟩ := bind_some H
 have zk1 := pack_reader_num_rc zh1
 obtain ⟨r2, zh2, H⟩ := bind_some H
 have zk2 := pack_reader_num_rc zh2
 refine a_reg _ rfl (s := ?zs4) ?_ ?_
 rotate_left
 ·try simp only [EVT, stepR, evOp, St.ev, St.app, St.put, wrs, frz, evFieldAddr, evStore, setR, allOne, TIS, CS, reduceAdd, reduceMul, reduceEqDiff, ↓reduceIte, reduceCtorEq, reduceLT, reduceLeDiff, reduceSub, Nat.reduceBEq]
  repeat' with_reducible apply And.intro
  all_goals try ((with_reducible show CallR _ _ _ _ _ _ _); refine callR_rcw (r' := .int .i64 r1.1) [(19, none), (19, some ⟨68, 2, false, [[.list 1 (r1.2.rest.b.map (ci .u8)), .int .i64 r1.2.e]]⟩)] [(some 19, ⟨68, 2, false, [Reader.c (⟨(⟨b1⟩ : Rest), 0⟩ : Reader)]⟩)] [] [(19, 0, ⟨68, 2, false, [[.list 1 (r1.2.rest.b.map (ci .u8)), .int .i64 r1.2.e]]⟩)] rfl zk1 (by simp) (by show ([19] : List Nat).Nodup; decide) (allB_some (by rfl) rfl (.cons (.cons (.lst _ _ _ (ci_pu .u8) rfl) (.cons (.int' rfl) .nil)) .nil) trivial) (.cons (.ptr _ _ _ _ _ rfl) .nil) (by show ([19] : List Nat).Nodup; decide) (by show ([0] : List Nat).Nodup; decide) ⟨.inl ⟨by decide, rfl⟩, ⟨_, rfl, ⟨rfl, rfl, rfl, rfl⟩, .cons (RNs.pu (Reader.pu _)) .nil⟩, trivial⟩ (.int' rfl) ?_; simp only [EVT, stepR, evOp, St.ev, St.app, St.put, wrs, frz, evFieldAddr, evStore, setR, allOne, TIS, CS, reduceAdd, reduceMul, reduceEqDiff, ↓reduceIte, reduceCtorEq, reduceLT, reduceLeDiff, reduceSub, Nat.reduceBEq])
  repeat' with_reducible apply And.intro
  all_goals try ((with_reducible show CallR _ _ _ _ _ _ _); refine callR_rcw (r' := .int .i64 r2.1) [(19, none), (19, some ⟨68, 2, false, [[.list 1 (r2.2.rest.b.map (ci .u8)), .int .i64 r2.2.e]]⟩)] [(some 19, ⟨68, 2, false, [Reader.c r1.2]⟩)] [] [(19, 0, ⟨68, 2, false, [[.list 1 (r2.2.rest.b.map (ci .u8)), .int .i64 r2.2.e]]⟩)] rfl zk2 (by simp) (by show ([19] : List Nat).Nodup; decide) (allB_some (by rfl) rfl (.cons (.cons (.lst _ _ _ (ci_pu .u8) rfl) (.cons (.int' rfl) .nil)) .nil) trivial) (.cons (.ptr _ _ _ _ _ rfl) .nil) (by show ([19] : List Nat).Nodup; decide) (by show ([0] : List Nat).Nodup; decide) ⟨.inl ⟨by decide, rfl⟩, ⟨_, rfl, ⟨rfl, rfl, rfl, rfl⟩, .cons (RNs.pu (Reader.pu _)) .nil⟩, trivial⟩ (.int' rfl) ?_; simp only [EVT, stepR, evOp, St.ev, St.app, St.put, wrs, frz, evFieldAddr, evStore, setR, allOne, TIS, CS, reduceAdd, reduceMul, reduceEqDiff, ↓reduceIte, reduceCtorEq, reduceLT, reduceLeDiff, reduceSub, Nat.reduceBEq])
  all_goals ((repeat' apply And.intro) <;> first|rfl|assumption|omega|(simp;done)|(simp;omega)|(simp_all;done))
 refine sA_n ?_
 refine a_seq ?_
 obtain ⟨r3, zh3, H⟩ := bind_some H
 have zk3 := pack_reader_str_rc zh3
 obtain ⟨r4, zh4, H⟩ := bind_some H
 have zk4 := pack_reader_str_rc zh4
 refine a_reg _ rfl (s := ?zs5) ?_ ?_
 rotate_left
 ·try simp only [EVT, stepR, evOp, St.ev, St.app, St.put, wrs, frz, evFieldAddr, evStore, setR, allOne, TIS, CS, reduceAdd, reduceMul, reduceEqDiff, ↓reduceIte, reduceCtorEq, reduceLT, reduceLeDiff, reduceSub, Nat.reduceBEq]
  repeat' with_reducible apply And.intro
  all_goals try ((with_reducible show CallR _ _ _ _ _ _ _); refine callR_rcw (r' := .str r3.1) [(19, none), (19, some ⟨68, 2, false, [[.list 1 (r3.2.rest.b.map (ci .u8)), .int .i64 r3.2.e]]⟩)] [(some 19, ⟨68, 2, false, [Reader.c r2.2]⟩)] [] [(19, 0, ⟨68, 2, false, [[.list 1 (r3.2.rest.b.map (ci .u8)), .int .i64 r3.2.e]]⟩)] rfl zk3 (by simp) (by show ([19] : List Nat).Nodup; decide) (allB_some (by rfl) rfl (.cons (.cons (.lst _ _ _ (ci_pu .u8) rfl) (.cons (.int' rfl) .nil)) .nil) trivial) (.cons (.ptr _ _ _ _ _ rfl) .nil) (by show ([19] : List Nat).Nodup; decide) (by show ([0] : List Nat).Nodup; decide) ⟨.inl ⟨by decide, rfl⟩, ⟨_, rfl, ⟨rfl, rfl, rfl, rfl⟩, .cons (RNs.pu (Reader.pu _)) .nil⟩, trivial⟩ (.str' rfl) ?_; simp only [EVT, stepR, evOp, St.ev, St.app, St.put, wrs, frz, evFieldAddr, evStore, setR, allOne, TIS, CS, reduceAdd, reduceMul, reduceEqDiff, ↓reduceIte, reduceCtorEq, reduceLT, reduceLeDiff, reduceSub, Nat.reduceBEq])
  repeat' with_reducible apply And.intro
  all_goals try ((with_reducible show CallR _ _ _ _ _ _ _); refine callR_rcw (r' := .str r4.1) [(19, none), (19, some ⟨68, 2, false, [[.list 1 (r4.2.rest.b.map (ci .u8)), .int .i64 r4.2.e]]⟩)] [(some 19, ⟨68, 2, false, [Reader.c r3.2]⟩)] [] [(19, 0, ⟨68, 2, false, [[.list 1 (r4.2.rest.b.map (ci .u8)), .int .i64 r4.2.e]]⟩)] rfl zk4 (by simp) (by show ([19] : List Nat).Nodup; decide) (allB_some (by rfl) rfl (.cons (.cons (.lst _ _ _ (ci_pu .u8) rfl) (.cons (.int' rfl) .nil)) .nil) trivial) (.cons (.ptr _ _ _ _ _ rfl) .nil) (by show ([19] : List Nat).Nodup; decide) (by show ([0] : List Nat).Nodup; decide) ⟨.inl ⟨by decide, rfl⟩, ⟨_, rfl, ⟨rfl, rfl, rfl, rfl⟩, .cons (RNs.pu (Reader.pu _)) .nil⟩, trivial⟩ (.str' rfl) ?_; simp only [EVT, stepR, evOp, St.ev, St.app, St.put, wrs, frz, evFieldAddr, evStore, setR, allOne, TIS, CS, reduceAdd, reduceMul, reduceEqDiff, ↓reduceIte, reduceCtorEq, reduceLT, reduceLeDiff, reduceSub, Nat.reduceBEq])
  all_goals ((repeat' apply And.intro) <;> first|rfl|assumption|omega|(simp;done)|(simp;omega)|(simp_all;done))
 refine sA_n ?_
 refine a_seq ?_
 obtain ⟨r5, zh5, H⟩ := bind_some H
 have zk5 := pack_reader_num_rc zh5
 obtain ⟨r6, zh6, H⟩ := bind_some H
 have zk6 := pack_reader_num_rc zh6
 obtain ⟨r7, zh7, H⟩ := bind_some H
 have zk7 := pack_reader_num_rc zh7
 refine a_reg _ rfl (s := ?zs6) ?_ ?_
 rotate_left
 ·try simp only [EVT, stepR, evOp, St.ev, St.app, St.put, wrs, frz, evFieldAddr, evStore, setR, allOne, TIS, CS, reduceAdd, reduceMul, reduceEqDiff, ↓reduceIte, reduceCtorEq, reduceLT, reduceLeDiff, reduceSub, Nat.reduceBEq]
  repeat' with_reducible apply And.intro
  all_goals try ((with_reducible show CallR _ _ _ _ _ _ _); refine callR_rcw (r' := .int .i64 r5.1) [(19, none), (19, some ⟨68, 2, false, [[.list 1 (r5.2.rest.b.map (ci .u8)), .int .i64 r5.2.e]]⟩)] [(some 19, ⟨68, 2, false, [Reader.c r4.2]⟩)] [] [(19, 0, ⟨68, 2, false, [[.list 1 (r5.2.rest.b.map (ci .u8)), .int .i64 r5.2.e]]⟩)] rfl zk5 (by simp) (by show ([19] : List Nat).Nodup; decide) (allB_some (by rfl) rfl (.cons (.cons (.lst _ _ _ (ci_pu .u8) rfl) (.cons (.int' rfl) .nil)) .nil) trivial) (.cons (.ptr _ _ _ _ _ rfl) .nil) (by show ([19] : List Nat).Nodup; decide) (by show ([0] : List Nat).Nodup; decide) ⟨.inl ⟨by decide, rfl⟩, ⟨_, rfl, ⟨rfl, rfl, rfl, rfl⟩, .cons (RNs.pu (Reader.pu _)) .nil⟩, trivial⟩ (.int' rfl) ?_; simp only [EVT, stepR, evOp, St.ev, St.app, St.put, wrs, frz, evFieldAddr, evStore, setR, allOne, TIS, CS, reduceAdd, reduceMul, reduceEqDiff, ↓reduceIte, reduceCtorEq, reduceLT, reduceLeDiff, reduceSub, Nat.reduceBEq])
  repeat' with_reducible apply And.intro
  all_goals try ((with_reducible show CallR _ _ _ _ _ _ _); refine callR_rcw (r' := .int .i64 r6.1) [(19, none), (19, some ⟨68, 2, false, [[.list 1 (r6.2.rest.b.map (ci .u8)), .int .i64 r6.2.e]]⟩)] [(some 19, ⟨68, 2, false, [Reader.c r5.2]⟩)] [] [(19, 0, ⟨68, 2, false, [[.list 1 (r6.2.rest.b.map (ci .u8)), .int .i64 r6.2.e]]⟩)] rfl zk6 (by simp) (by show ([19] : List Nat).Nodup; decide) (allB_some (by rfl) rfl (.cons (.cons (.lst _ _ _ (ci_pu .u8) rfl) (.cons (.int' rfl) .nil)) .nil) trivial) (.cons (.ptr _ _ _ _ _ rfl) .nil) (by show ([19] : List Nat).Nodup; decide) (by show ([0] : List Nat).Nodup; decide) ⟨.inl ⟨by decide, rfl⟩, ⟨_, rfl, ⟨rfl, rfl, rfl, rfl⟩, .cons (RNs.pu (Reader.pu _)) .nil⟩, trivial⟩ (.int' rfl) ?_; simp only [EVT, stepR, evOp, St.ev, St.app, St.put, wrs, frz, evFieldAddr, evStore, setR, allOne, TIS, CS, reduceAdd, reduceMul, reduceEqDiff, ↓reduceIte, reduceCtorEq, reduceLT, reduceLeDiff, reduceSub, Nat.reduceBEq])
  repeat' with_reducible apply And.intro
  all_goals try ((with_reducible show CallR _ _ _ _ _ _ _); refine callR_rcw (r' := .int .i64 r7.1) [(19, none), (19, some ⟨68, 2, false, [[.list 1 (r7.2.rest.b.map (ci .u8)), .int .i64 r7.2.e]]⟩)] [(some 19, ⟨68, 2, false, [Reader.c r6.2]⟩)] [] [(19, 0, ⟨68, 2, false, [[.list 1 (r7.2.rest.b.map (ci .u8)), .int .i64 r7.2.e]]⟩)] rfl zk7 (by simp) (by show ([19] : List Nat).Nodup; decide) (allB_some (by rfl) rfl (.cons (.cons (.lst _ _ _ (ci_pu .u8) rfl) (.cons (.int' rfl) .nil)) .nil) trivial) (.cons (.ptr _ _ _ _ _ rfl) .nil) (by show ([19] : List Nat).Nodup; decide) (by show ([0] : List Nat).Nodup; decide) ⟨.inl ⟨by decide, rfl⟩, ⟨_, rfl, ⟨rfl, rfl, rfl, rfl⟩, .cons (RNs.pu (Reader.pu _)) .nil⟩, trivial⟩ (.int' rfl) ?_; simp only [EVT, stepR, evOp, St.ev, St.app, St.put, wrs, frz, evFieldAddr, evStore, setR, allOne, TIS, CS, reduceAdd, reduceMul, reduceEqDiff, ↓reduceIte, reduceCtorEq, reduceLT, reduceLeDiff, reduceSub, Nat.reduceBEq])
  all_goals ((repeat' apply And.intro) <;> first|rfl|assumption|omega|(simp;done)|(simp;omega)|(simp_all;done))
 refine sA_n ?_
 refine a_seq ?_
 obtain ⟨r8, zh8, H⟩ := bind_some H
 have zk8 := pack_reader_str_rc zh8
 obtain ⟨zh9, H⟩ := chk_some H
 refine a_reg _ rfl (s := ?zs7) ?_ ?_
 rotate_left
 ·try simp only [EVT, stepR, evOp, St.ev, St.app, St.put, wrs, frz, evToStr, elems, evFieldAddr, evStore, setR, allOne, TIS, othE, evAppStr, strCells_eq, strBytes_len, CS, reduceAdd, reduceMul, reduceEqDiff, ↓reduceIte, reduceCtorEq, reduceLT, reduceLeDiff, reduceSub, Nat.reduceBEq]
  repeat' with_reducible apply And.intro
  all_goals try ((with_reducible show CallR _ _ _ _ _ _ _); refine callR_rcw (r' := .str r8.1) [(19, none), (19, some ⟨68, 2, false, [[.list 1 (r8.2.rest.b.map (ci .u8)), .int .i64 r8.2.e]]⟩)] [(some 19, ⟨68, 2, false, [Reader.c r7.2]⟩)] [] [(19, 0, ⟨68, 2, false, [[.list 1 (r8.2.rest.b.map (ci .u8)), .int .i64 r8.2.e]]⟩)] rfl zk8 (by simp) (by show ([19] : List Nat).Nodup; decide) (allB_some (by rfl) rfl (.cons (.cons (.lst _ _ _ (ci_pu .u8) rfl) (.cons (.int' rfl) .nil)) .nil) trivial) (.cons (.ptr _ _ _ _ _ rfl) .nil) (by show ([19] : List Nat).Nodup; decide) (by show ([0] : List Nat).Nodup; decide) ⟨.inl ⟨by decide, rfl⟩, ⟨_, rfl, ⟨rfl, rfl, rfl, rfl⟩, .cons (RNs.pu (Reader.pu _)) .nil⟩, trivial⟩ (.str' rfl) ?_; simp only [EVT, stepR, evOp, St.ev, St.app, St.put, wrs, frz, evToStr, elems, evFieldAddr, evStore, setR, allOne, TIS, othE, evAppStr, strCells_eq, strBytes_len, CS, reduceAdd, reduceMul, reduceEqDiff, ↓reduceIte, reduceCtorEq, reduceLT, reduceLeDiff, reduceSub, Nat.reduceBEq])
  repeat' with_reducible apply And.intro
  all_goals try ((with_reducible show OthR _ _ _ _ _); refine oth_strbytes rfl rfl Try.underlying9 Try.underlying22 Try.underlying5 (by assumption) ?_; simp only [EVT, stepR, evOp, St.ev, St.app, St.put, wrs, frz, evToStr, elems, evFieldAddr, evStore, setR, allOne, TIS, othE, evAppStr, strCells_eq, strBytes_len, CS, reduceAdd, reduceMul, reduceEqDiff, ↓reduceIte, reduceCtorEq, reduceLT, reduceLeDiff, reduceSub, Nat.reduceBEq])
  all_goals ((repeat' apply And.intro) <;> first|rfl|assumption|omega|(simp;done)|(simp;omega)|(simp_all;done))
 refine sA_n ?_
 refine a_seq ?_
 refine a_seq ?_
 obtain ⟨r9, zh10, H⟩ := bind_some H
 have zk9 := pack_reader_end_rc zh10
 refine a_reg _ rfl (s := ?zs8) ?_ ?_
 rotate_left
 ·try simp only [EVT, stepR, evOp, St.ev, St.app, St.put, wrs, frz, TIS, CS, reduceAdd, reduceMul, reduceEqDiff, ↓reduceIte, reduceCtorEq, reduceLT, reduceLeDiff, reduceSub, Nat.reduceBEq]
  repeat' with_reducible apply And.intro
  all_goals try ((with_reducible show CallR _ _ _ _ _ _ _); refine callR_rcw (r' := .int .i64 r9.1) [(19, none), (19, some ⟨68, 2, false, [[.list 1 (r9.2.rest.b.map (ci .u8)), .int .i64 r9.2.e]]⟩)] [(some 19, ⟨68, 2, false, [Reader.c r8.2]⟩)] [] [(19, 0, ⟨68, 2, false, [[.list 1 (r9.2.rest.b.map (ci .u8)), .int .i64 r9.2.e]]⟩)] rfl zk9 (by simp) (by show ([19] : List Nat).Nodup; decide) (allB_some (by rfl) rfl (.cons (.cons (.lst _ _ _ (ci_pu .u8) rfl) (.cons (.int' rfl) .nil)) .nil) trivial) (.cons (.ptr _ _ _ _ _ rfl) .nil) (by show ([19] : List Nat).Nodup; decide) (by show ([0] : List Nat).Nodup; decide) ⟨.inl ⟨by decide, rfl⟩, ⟨_, rfl, ⟨rfl, rfl, rfl, rfl⟩, .cons (RNs.pu (Reader.pu _)) .nil⟩, trivial⟩ (.int' rfl) ?_; simp only [EVT, stepR, evOp, St.ev, St.app, St.put, wrs, frz, TIS, CS, reduceAdd, reduceMul, reduceEqDiff, ↓reduceIte, reduceCtorEq, reduceLT, reduceLeDiff, reduceSub, Nat.reduceBEq])
  all_goals ((repeat' apply And.intro) <;> first|rfl|assumption|omega|(simp;done)|(simp;omega)|(simp_all;done))
 refine sA_n ?_
 refine a_seq ?_
 refine a_reg _ rfl (s := ?zs9) ?_ ?_
 rotate_left
 ·simp only [EVT, stepR, evOp, St.ev, St.app, St.put, wrs, datOf, datOf1, evBin, binInt, TIS, CS, reduceAdd, reduceMul, reduceEqDiff, ↓reduceIte, reduceCtorEq, reduceLT, reduceLeDiff]
  (repeat' apply And.intro) <;> first|rfl|assumption|omega|(simp;done)|(simp;omega)|(simp_all;done)
 refine sA_n ?_
 refine a_condb ((r9.1 != 0)) (by rfl) (fun zc1 => ?_) (fun zc1 => ?_)
 ·have H := cond_t zc1 H
  refine a_seq ?_
  refine a_reg _ rfl (s := ?zs10) ?_ ?_
  rotate_left
  ·simp only [EVT, stepR, evOp, St.ev, St.app, St.put, wrs, fillD, setR, evStore, allOne, TIS, CS, reduceAdd, reduceMul, reduceEqDiff, ↓reduceIte, reduceCtorEq, reduceLT, reduceLeDiff, reduceSub, Nat.reduceBEq, ↓zc1]
   (repeat' apply And.intro) <;> first|rfl|assumption|omega|(simp;done)|(simp;omega)|(simp_all;done)
  refine sA_n ?_
  refine a_ret ?_
  refine sA_r ?_
  obtain rfl := Option.some.inj H
  refine e_r2 (d := ?zd1) ?_ ?_
  rotate_left
  ·simp only [EVT, resR, single, evLoad, cut, TIS, CS, reduceAdd, reduceEqDiff, ↓reduceIte, reduceCtorEq, reduceLT, reduceLeDiff, reduceSub, Nat.reduceBEq, zc1]
   (repeat' apply And.intro) <;> first | rfl | assumption | omega | (simp; done)
  exact (.tup' (.cons (.agg' (.cons (.int' rfl) (.cons (.int' rfl) (.cons (.str' rfl) (.cons (.str' rfl) (.cons (.int' rfl) (.cons (.int' rfl) (.cons (.int' rfl) (.cons (.nil _) .nil))))))))) (.cons (.int' rfl) .nil)))
 ·have H := cond_f zc1 H
  refine a_skip ?_
  refine sA_n ?_
  refine a_seq ?_
  refine a_reg _ rfl (s := ?zs11) ?_ ?_
  rotate_left
  ·simp only [EVT, stepR, evOp, St.ev, St.app, St.put, wrs, evLoad, cut, evStore, setR, allOne, datOf, datOf1, TIS, CS, reduceAdd, reduceMul, reduceEqDiff, ↓reduceIte, reduceCtorEq, reduceLT, reduceLeDiff, reduceSub, Nat.reduceBEq, ↓zc1]
   (repeat' apply And.intro) <;> first|rfl|assumption|omega|(simp;done)|(simp;omega)|(simp_all;done)
  refine sA_n ?_
  refine a_ret ?_
  obtain rfl := Option.some.inj H
  refine e_r2 (d := ?zd2) ?_ ?_
  rotate_left
  ·simp only [EVT, resR, single, evLoad, cut, TIS, CS, reduceAdd, reduceEqDiff, ↓reduceIte, reduceCtorEq, reduceLT, reduceLeDiff, reduceSub, Nat.reduceBEq, zc1]
   (repeat' apply And.intro) <;> first | rfl | assumption | omega | (simp; done)
  exact (.tup' (.cons (.agg' (.cons (.int' rfl) (.cons (.int' rfl) (.cons (.str' rfl) (.cons (.str' rfl) (.cons (.int' rfl) (.cons (.int' rfl) (.cons (.int' rfl) (.cons (.lst _ _ _ (ci_pu .u8) rfl) .nil))))))))) (.cons (.int' rfl) .nil)))
def pack_ReadAns_J1 (r1 : Int × Reader) (r2 : Int × Reader) (r3 : Int × Reader) (r4 : Int × Reader) (r5 : Int × Reader) (r6 : Reader) (names1 : List ByteArray) : Option (Ans × Int) :=
 (pack_reader_str_f r6).bind fun r7 => chk (r7.1.size ≤ 140737488355328) ((pack_reader_end_f r7.2).bind fun r8 => cond (r8.1 != 0) (some ((⟨0, 0, 0, 0, 0, [], []⟩ : Ans), r8.1)) (some ((⟨r1.1, r2.1, r3.1, r4.1, r5.1, names1, (strBytes r7.1)⟩ : Ans), 0)))
def pack_ReadAns_L1 (r9 : Int × Reader) (r1 : Int × Reader) (r2 : Int × Reader) (r3 : Int × Reader) (r4 : Int × Reader) (r5 : Int × Reader) : Nat → Reader → (List ByteArray) → Int → Option (Ans × Int)
 | 0, _, _, _ => none
 | m_ + 1, r10, names2, v1 => cond (decide (v1 < r9.1)) ((pack_reader_str_f r10).bind fun r11 => chk ((names2.length + 1) * 16 ≤ 140737488355328) (cond (r11.2.e != 0) (pack_ReadAns_J1 r1 r2 r3 r4 r5 r11.2 (names2 ++ [r11.1])) (pack_ReadAns_L1 r9 r1 r2 r3 r4 r5 m_ r11.2 (names2 ++ [r11.1]) (IntKind.wrap .i64 (v1 + 1))))) (pack_ReadAns_J1 r1 r2 r3 r4 r5 r10 names2)
def pack_ReadAns_f (b1 : List Int) : Option (Ans × Int) :=
 (pack_reader_num_f (⟨(⟨b1⟩ : Rest), 0⟩ : Reader)).bind fun r1 => (pack_reader_num_f r1.2).bind fun r2 => (pack_reader_num_f r2.2).bind fun r3 => (pack_reader_num_f r3.2).bind fun r4 => (pack_reader_num_f r4.2).bind fun r5 => (pack_reader_count_f r5.2).bind fun r9 => pack_ReadAns_L1 r9 r1 r2 r3 r4 r5 BIG r9.2 [] 0
set_option maxHeartbeats 4000000 in
set_option maxRecDepth 20000 in
theorem pack_ReadAns_pc {b1 : List Int} {r : Ans × Int} (H : pack_ReadAns_f b1 = some r) : PC Try.prog 32 [.list 1 (b1.map (ci .u8))] (.tup [.agg (Ans.c r.1), .int .i64 r.2]) := by
 refine pcA_of Try.func32 (by rfl) (by decide) 54 (by rfl) [.cell 2 30, .tmp 3] (by rfl) ?_
 unfold pack_ReadAns_f at H
 simp only [ent]
 refine a_seq ?_
 refine a_reg _ rfl (s := ?zs1) ?_ ?_
 rotate_left
 ·simp only [EVT, stepR, evOp, St.ev, St.app, St.put, wrs, allOne, datOf, datOf1, TIS, CS, reduceAdd, reduceMul, reduceEqDiff, ↓reduceIte, reduceCtorEq, reduceLT, reduceLeDiff]
  (repeat' apply And.intro) <;> first|rfl|assumption|omega|(simp;done)|(simp;omega)|(simp_all;done)
 refine sA_n ?_
 refine a_seq ?_
 refine a_reg _ rfl (s := ?zs2) ?_ ?_
 rotate_left
 ·simp only [EVT, stepR, evOp, St.ev, St.app, St.put, wrs, fillD, setR, allOne, TIS, CS, reduceAdd, reduceMul, reduceEqDiff, ↓reduceIte, reduceCtorEq, reduceLT, reduceLeDiff, reduceSub, Nat.reduceBEq]
  (repeat' apply And.intro) <;> first|rfl|assumption|omega|(simp;done)|(simp;omega)|(simp_all;done)
 refine sA_n ?_
 refine a_seq ?_
 refine a_reg _ rfl (s := ?zs3) ?_ ?_
 rotate_left
 ·simp only [EVT, stepR, evOp, St.ev, St.app, St.put, wrs, allOne, TIS, CS, reduceAdd, reduceMul, reduceEqDiff, ↓reduceIte, reduceCtorEq, reduceLT, reduceLeDiff]
  (repeat' apply And.intro) <;> first|rfl|assumption|omega|(simp;done)|(simp;omega)|(simp_all;done)
 refine sA_n ?_
 refine a_seq ?_
 obtain ⟨r1, zh1, H⟩ := bind_some H
 have zk1 := pack_reader_num_rc zh1
 refine a_reg _ rfl (s := ?zs4) ?_ ?_
 rotate_left
 ·try simp only [EVT, stepR, evOp, St.ev, St.app, St.put, wrs, frz, evFieldAddr, evStore, setR, allOne, TIS, CS, reduceAdd, reduceMul, reduceEqDiff, ↓reduceIte, reduceCtorEq, reduceLT, reduceLeDiff, reduceSub, Nat.reduceBEq]
  repeat' with_reducible apply And.intro
  all_goals try ((with_reducible show CallR _ _ _ _ _ _ _); refine callR_rcw (r' := .int .i64 r1.1) [(19, none), (19, some ⟨68, 2, false, [[.list 1 (r1.2.rest.b.map (ci .u8)), .int .i64 r1.2.e]]⟩)] [(some 19, ⟨68, 2, false, [Reader.c (⟨(⟨b1⟩ : Rest), 0⟩ : Reader)]⟩)] [] [(19, 0, ⟨68, 2, false, [[.list 1 (r1.2.rest.b.map (ci .u8)), .int .i64 r1.2.e]]⟩)] rfl zk1 (by simp) (by show ([19] : List Nat).Nodup; decide) (allB_some (by rfl) rfl (.cons (.cons (.lst _ _ _ (ci_pu .u8) rfl) (.cons (.int' rfl) .nil)) .nil) trivial) (.cons (.ptr _ _ _ _ _ rfl) .nil) (by show ([19] : List Nat).Nodup; decide) (by show ([0] : List Nat).Nodup; decide) ⟨.inl ⟨by decide, rfl⟩, ⟨_, rfl, ⟨rfl, rfl, rfl, rfl⟩, .cons (RNs.pu (Reader.pu _)) .nil⟩, trivial⟩ (.int' rfl) ?_; simp only [EVT, stepR, evOp, St.ev, St.app, St.put, wrs, frz, evFieldAddr, evStore, setR, allOne, TIS, CS, reduceAdd, reduceMul, reduceEqDiff, ↓reduceIte, reduceCtorEq, reduceLT, reduceLeDiff, reduceSub, Nat.reduceBEq])
  all_goals ((repeat' apply And.intro) <;> first|rfl|assumption|omega|(simp;done)|(simp;omega)|(simp_all;done))
 refine sA_n ?_
 refine a_seq ?_
 obtain ⟨r2, zh2, H⟩ := bind_some H
 have zk2 := pack_reader_num_rc zh2
 obtain ⟨r3, zh3, H⟩ := bind_some H
 have zk3 := pack_reader_num_rc zh3
 obtain ⟨r4, zh4, H⟩ := bind_some H
 have zk4 := pack_reader_num_rc zh4
 obtain ⟨r5, zh5, H⟩ := bind_some H
 have zk5 := pack_reader_num_rc zh5
 refine a_reg _ rfl (s := ?zs5) ?_ ?_
 rotate_left
 ·try simp only [EVT, stepR, evOp, St.ev, St.app, St.put, wrs, frz, evFieldAddr, evStore, setR, allOne, TIS, CS, reduceAdd, reduceMul, reduceEqDiff, ↓reduceIte, reduceCtorEq, reduceLT, reduceLeDiff, reduceSub, Nat.reduceBEq]
  repeat' with_reducible apply And.intro
  all_goals try ((with_reducible show CallR _ _ _ _ _ _ _); refine callR_rcw (r' := .int .i64 r2.1) [(19, none), (19, some ⟨68, 2, false, [[.list 1 (r2.2.rest.b.map (ci .u8)), .int .i64 r2.2.e]]⟩)] [(some 19, ⟨68, 2, false, [Reader.c r1.2]⟩)] [] [(19, 0, ⟨68, 2, false, [[.list 1 (r2.2.rest.b.map (ci .u8)), .int .i64 r2.2.e]]⟩)] rfl zk2 (by simp) (by show ([19] : List Nat).Nodup; decide) (allB_some (by rfl) rfl (.cons (.cons (.lst _ _ _ (ci_pu .u8) rfl) (.cons (.int' rfl) .nil)) .nil) trivial) (.cons (.ptr _ _ _ _ _ rfl) .nil) (by show ([19] : List Nat).Nodup; decide) (by show ([0] : List Nat).Nodup; decide) ⟨.inl ⟨by decide, rfl⟩, ⟨_, rfl, ⟨rfl, rfl, rfl, rfl⟩, .cons (RNs.pu (Reader.pu _)) .nil⟩, trivial⟩ (.int' rfl) ?_; simp only [EVT, stepR, evOp, St.ev, St.app, St.put, wrs, frz, evFieldAddr, evStore, setR, allOne, TIS, CS, reduceAdd, reduceMul, reduceEqDiff, ↓reduceIte, reduceCtorEq, reduceLT, reduceLeDiff, reduceSub, Nat.reduceBEq])
  repeat' with_reducible apply And.intro
  all_goals try ((with_reducible show CallR _ _ _ _ _ _ _); refine callR_rcw (r' := .int .i64 r3.1) [(19, none), (19, some ⟨68, 2, false, [[.list 1 (r3.2.rest.b.map (ci .u8)), .int .i64 r3.2.e]]⟩)] [(some 19, ⟨68, 2, false, [Reader.c r2.2]⟩)] [] [(19, 0, ⟨68, 2, false, [[.list 1 (r3.2.rest.b.map (ci .u8)), .int .i64 r3.2.e]]⟩)] rfl zk3 (by simp) (by show ([19] : List Nat).Nodup; decide) (allB_some (by rfl) rfl (.cons (.cons (.lst _ _ _ (ci_pu .u8) rfl) (.cons (.int' rfl) .nil)) .nil) trivial) (.cons (.ptr _ _ _ _ _ rfl) .nil) (by show ([19] : List Nat).Nodup; decide) (by show ([0] : List Nat).Nodup; decide) ⟨.inl ⟨by decide, rfl⟩, ⟨_, rfl, ⟨rfl, rfl, rfl, rfl⟩, .cons (RNs.pu (Reader.pu _)) .nil⟩, trivial⟩ (.int' rfl) ?_; simp only [EVT, stepR, evOp, St.ev, St.app, St.put, wrs, frz, evFieldAddr, evStore, setR, allOne, TIS, CS, reduceAdd, reduceMul, reduceEqDiff, ↓reduceIte, reduceCtorEq, reduceLT, reduceLeDiff, reduceSub, Nat.reduceBEq])
  repeat' with_reducible apply And.intro
  all_goals try ((with_reducible show CallR _ _ _ _ _ _ _); refine callR_rcw (r' := .int .i64 r4.1) [(19, none), (19, some ⟨68, 2, false, [[.list 1 (r4.2.rest.b.map (ci .u8)), .int .i64 r4.2.e]]⟩)] [(some 19, ⟨68, 2, false, [Reader.c r3.2]⟩)] [] [(19, 0, ⟨68, 2, false, [[.list 1 (r4.2.rest.b.map (ci .u8)), .int .i64 r4.2.e]]⟩)] rfl zk4 (by simp) (by show ([19] : List Nat).Nodup; decide) (allB_some (by rfl) rfl (.cons (.cons (.lst _ _ _ (ci_pu .u8) rfl) (.cons (.int' rfl) .nil)) .nil) trivial) (.cons (.ptr _ _ _ _ _ rfl) .nil) (by show ([19] : List Nat).Nodup; decide) (by show ([0] : List Nat).Nodup; decide) ⟨.inl ⟨by decide, rfl⟩, ⟨_, rfl, ⟨rfl, rfl, rfl, rfl⟩, .cons (RNs.pu (Reader.pu _)) .nil⟩, trivial⟩ (.int' rfl) ?_; simp only [EVT, stepR, evOp, St.ev, St.app, St.put, wrs, frz, evFieldAddr, evStore, setR, allOne, TIS, CS, reduceAdd, reduceMul, reduceEqDiff, ↓reduceIte, reduceCtorEq, reduceLT, reduceLeDiff, reduceSub, Nat.reduceBEq])
  repeat' with_reducible apply And.intro
  all_goals try ((with_reducible show CallR _ _ _ _ _ _ _); refine callR_rcw (r' := .int .i64 r5.1) [(19, none), (19, some ⟨68, 2, false, [[.list 1 (r5.2.rest.b.map (ci .u8)), .int .i64 r5.2.e]]⟩)] [(some 19, ⟨68, 2, false, [Reader.c r4.2]⟩)] [] [(19, 0, ⟨68, 2, false, [[.list 1 (r5.2.rest.b.map (ci .u8)), .int .i64 r5.2.e]]⟩)] rfl zk5 (by simp) (by show ([19] : List Nat).Nodup; decide) (allB_some (by rfl) rfl (.cons (.cons (.lst _ _ _ (ci_pu .u8) rfl) (.cons (.int' rfl) .nil)) .nil) trivial) (.cons (.ptr _ _ _ _ _ rfl) .nil) (by show ([19] : List Nat).Nodup; decide) (by show ([0] : List Nat).Nodup; decide) ⟨.inl ⟨by decide, rfl⟩, ⟨_, rfl, ⟨rfl, rfl, rfl, rfl⟩, .cons (RNs.pu (Reader.pu _)) .nil⟩, trivial⟩ (.int' rfl) ?_; simp only [EVT, stepR, evOp, St.ev, St.app, St.put, wrs, frz, evFieldAddr, evStore, setR, allOne, TIS, CS, reduceAdd, reduceMul, reduceEqDiff, ↓reduceIte, reduceCtorEq, reduceLT, reduceLeDiff, reduceSub, Nat.reduceBEq])
  all_goals ((repeat' apply And.intro) <;> first|rfl|assumption|omega|(simp;done)|(simp;omega)|(simp_all;done))
 refine sA_n ?_
 refine a_cut (fun s => ∃ (r6 : Reader) (names1 : List ByteArray) (t0 : Nat → Dat), pack_ReadAns_J1 r1 r2 r3 r4 r5 r6 names1 = some r ∧ s = ⟨tl t0 [(2, .ptr 0 0 0 7), (4, .ptr 1 0 0 2), (5, .ptr 2 0 0 7)], hl [⟨30, 7, false, [[.int .i64 0, .int .i64 0, .int .i64 0, .int .i64 0, .int .i64 0, .nil, .nil]]⟩, ⟨68, 2, false, [[.list 1 (r6.rest.b.map (ci .u8)), .int .i64 r6.e]]⟩, ⟨30, 7, false, [[.int .i64 r1.1, .int .i64 r2.1, .int .i64 r3.1, .int .i64 r4.1, .int .i64 r5.1, .ref 3 0 names1.length 1, .nil]]⟩, ⟨9, 1, false, names1.map cs⟩], 4, 54⟩) ?_ ?_
 ·refine a_seq ?_
  obtain ⟨r9, zh9, H⟩ := bind_some H
  have zk8 := pack_reader_count_rc zh9
  refine a_reg _ rfl (s := ?zs11) ?_ ?_
  rotate_left
  ·try simp only [EVT, stepR, evOp, St.ev, St.app, St.put, wrs, frz, datOf, datOf1, TIS, CS, reduceAdd, reduceMul, reduceEqDiff, ↓reduceIte, reduceCtorEq, reduceLT, reduceLeDiff, reduceSub, Nat.reduceBEq]
   repeat' with_reducible apply And.intro
   all_goals try ((with_reducible show CallR _ _ _ _ _ _ _); refine callR_rcw (r' := .int .i64 r9.1) [(19, none), (19, some ⟨68, 2, false, [[.list 1 (r9.2.rest.b.map (ci .u8)), .int .i64 r9.2.e]]⟩)] [(some 19, ⟨68, 2, false, [Reader.c r5.2]⟩)] [] [(19, 0, ⟨68, 2, false, [[.list 1 (r9.2.rest.b.map (ci .u8)), .int .i64 r9.2.e]]⟩)] rfl zk8 (by simp) (by show ([19] : List Nat).Nodup; decide) (allB_some (by rfl) rfl (.cons (.cons (.lst _ _ _ (ci_pu .u8) rfl) (.cons (.int' rfl) .nil)) .nil) trivial) (.cons (.ptr _ _ _ _ _ rfl) .nil) (by show ([19] : List Nat).Nodup; decide) (by show ([0] : List Nat).Nodup; decide) ⟨.inl ⟨by decide, rfl⟩, ⟨_, rfl, ⟨rfl, rfl, rfl, rfl⟩, .cons (RNs.pu (Reader.pu _)) .nil⟩, trivial⟩ (.int' rfl) ?_; simp only [EVT, stepR, evOp, St.ev, St.app, St.put, wrs, frz, datOf, datOf1, TIS, CS, reduceAdd, reduceMul, reduceEqDiff, ↓reduceIte, reduceCtorEq, reduceLT, reduceLeDiff, reduceSub, Nat.reduceBEq])
   all_goals ((repeat' apply And.intro) <;> first|rfl|assumption|omega|(simp;done)|(simp;omega)|(simp_all;done))
  refine sA_n ?_
  refine a_blk ?_
  refine a_loop (fun m s => ∃ (r10 : Reader) (names2 : List ByteArray) (v1 : Int) (t0 : Nat → Dat), pack_ReadAns_L1 r9 r1 r2 r3 r4 r5 m r10 names2 v1 = some r ∧ s = ⟨tl t0 [(2, .ptr 0 0 0 7), (4, .ptr 1 0 0 2), (5, .ptr 2 0 0 7), (27, .int .i64 r9.1), (28, .int .i64 v1)], hl [⟨30, 7, false, [[.int .i64 0, .int .i64 0, .int .i64 0, .int .i64 0, .int .i64 0, .nil, .nil]]⟩, ⟨68, 2, false, [[.list 1 (r10.rest.b.map (ci .u8)), .int .i64 r10.e]]⟩, ⟨30, 7, false, [[.int .i64 r1.1, .int .i64 r2.1, .int .i64 r3.1, .int .i64 r4.1, .int .i64 r5.1, .ref 3 0 names2.length 1, .nil]]⟩, ⟨9, 1, false, names2.map cs⟩], 4, 54⟩) BIG ?_ ?_
  ·refine wk_l [(some 0, ⟨30, 7, false, [[.int .i64 0, .int .i64 0, .int .i64 0, .int .i64 0, .int .i64 0, .nil, .nil]]⟩), (some 19, ⟨68, 2, false, [[.list 1 (r9.2.rest.b.map (ci .u8)), .int .i64 r9.2.e]]⟩), (some 56, ⟨30, 7, false, [[.int .i64 r1.1, .int .i64 r2.1, .int .i64 r3.1, .int .i64 r4.1, .int .i64 r5.1, .ref 3 0 [].length 1, .nil]]⟩), (none, ⟨9, 1, false, [].map cs⟩)] [] [(2, .ptr 0 0 0 7), (4, .ptr 1 0 0 2), (5, .ptr 2 0 0 7), (27, .int .i64 r9.1), (28, .int .i64 0)] (by show ([2, 4, 5, 27, 28] : List Nat).Nodup; decide) (by show ([0, 19, 56] : List Nat).Nodup; decide) ?_ ?_ (fun t0 => ⟨r9.2, [], 0, t0, H, rfl⟩)
   ·exact (allB_some (by rfl) rfl (.cons (.cons (.int' rfl) (.cons (.int' rfl) (.cons (.int' rfl) (.cons (.int' rfl) (.cons (.int' rfl) (.cons .nil' (.cons .nil' .nil))))))) .nil) (allB_some (by rfl) rfl (.cons (.cons (.lst _ _ _ (ci_pu .u8) rfl) (.cons (.int' rfl) .nil)) .nil) (allB_some (by rfl) rfl (.cons (.cons (.int' rfl) (.cons (.int' rfl) (.cons (.int' rfl) (.cons (.int' rfl) (.cons (.int' rfl) (.cons (.nilv _ _ rfl rfl) (.cons .nil' .nil))))))) .nil) (allB_none rfl trivial))))
   ·(simp only [AllT, tl_cons, tl_nil, upd_apply, List.getD_cons_zero, List.getD_cons_succ, reduceEqDiff, ↓reduceIte, and_true]); exact ⟨(.ptr _ _ _ _ _ rfl), (.ptr _ _ _ _ _ rfl), (.ptr _ _ _ _ _ rfl), (.int' rfl), (.int' rfl)⟩
  ·rintro m_pack_ReadAns_L1 s ⟨r10, names2, v1, t0, H, rfl⟩
   obtain _ | m_pack_ReadAns_L1 := m_pack_ReadAns_L1
   ·cases (show (none : Option _) = some _ from H)
   ·rw [pack_ReadAns_L1] at H
    refine a_seq ?_
    refine a_reg _ rfl (s := ?zs12) ?_ ?_
    rotate_left
    ·simp only [EVT, stepR, evOp, St.ev, St.app, St.put, wrs, evBin, binInt, TIS, CS, reduceAdd, reduceMul, reduceEqDiff, ↓reduceIte, reduceCtorEq, reduceLT, reduceLeDiff]
     (repeat' apply And.intro) <;> first|rfl|assumption|omega|(simp;done)|(simp;omega)|(simp_all;done)
    refine sA_n ?_
    refine a_seq ?_
    refine a_condb ((decide (v1 < r9.1))) (by rfl) (fun zc2 => ?_) (fun zc2 => ?_)
    ·have H := cond_t zc2 H
     refine a_skip ?_
     refine sA_n ?_
     refine a_seq ?_
     refine a_blk ?_
     refine a_seq ?_
     obtain ⟨r11, zh10, H⟩ := bind_some H
     have zk9 := pack_reader_str_rc zh10
     obtain ⟨zh11, H⟩ := chk_some H
     refine a_drW (by kernel_rfl) _ rfl (s := ?zs13) (by kernel_rfl) (by kernel_rfl) ?zs13f ?_ ?_ ?_
     rotate_left 2
     ·try simp only [EVT, stepW, evOp, St.ev, St.app, St.put, wrs, evFieldAddr, evLoad, cut, frz, allOne, evBuiltin, evAppend, elems, Option.elim, evStore, setR, TIS, CS, reduceAdd, reduceMul, reduceEqDiff, ↓reduceIte, reduceCtorEq, reduceLT, reduceLeDiff, reduceSub, Nat.reduceBEq, ↓zc2]
      repeat' with_reducible apply And.intro
      all_goals try ((with_reducible show CallW _ _ _ _ _ _ _); refine callW_rcw (r' := .str r11.1) [1] [(1, none), (1, some ⟨68, 2, false, [[.list 1 (r11.2.rest.b.map (ci .u8)), .int .i64 r11.2.e]]⟩)] [(some 1, ⟨68, 2, false, [Reader.c r10]⟩)] [] [(1, 0, ⟨68, 2, false, [[.list 1 (r11.2.rest.b.map (ci .u8)), .int .i64 r11.2.e]]⟩)] rfl (by decide) zk9 (by simp) (by show ([1] : List Nat).Nodup; decide) (fun h2 e => (allB_some ((e 1 (by simp)).trans (by rfl)) rfl (.cons (.cons (.lst _ _ _ (ci_pu .u8) rfl) (.cons (.int' rfl) .nil)) .nil) trivial)) (fun h2 e => (.cons (.ptr _ _ _ _ _ rfl) .nil)) (by show ([1] : List Nat).Nodup; decide) (by show ([0] : List Nat).Nodup; decide) ⟨.inl ⟨by decide, rfl⟩, ⟨_, rfl, ⟨rfl, rfl, rfl, rfl⟩, .cons (RNs.pu (Reader.pu _)) .nil⟩, trivial⟩ (.str' rfl) ?_; simp only [EVT, stepW, evOp, St.ev, St.app, St.put, wrs, evFieldAddr, evLoad, cut, frz, allOne, evBuiltin, evAppend, elems, Option.elim, evStore, setR, TIS, CS, reduceAdd, reduceMul, reduceEqDiff, ↓reduceIte, reduceCtorEq, reduceLT, reduceLeDiff, reduceSub, Nat.reduceBEq, ↓zc2])
      all_goals ((repeat' apply And.intro) <;> first|rfl|assumption|omega|(simp;done)|(simp;omega)|(simp_all;done))
     ·kernel_rfl
     refine sA_n ?_
     refine a_seq ?_
     refine a_reg _ rfl (s := ?zs14) ?_ ?_
     rotate_left
     ·simp only [EVT, stepR, evOp, St.ev, St.app, St.put, wrs, evFieldAddr, evLoad, cut, datOf, datOf1, evBin, binInt, TIS, CS, reduceAdd, reduceMul, reduceEqDiff, ↓reduceIte, reduceCtorEq, reduceLT, reduceLeDiff, reduceSub, Nat.reduceBEq, ↓zc2]
      (repeat' apply And.intro) <;> first|rfl|assumption|omega|(simp;done)|(simp;omega)|(simp_all;done)
     refine sA_n ?_
     refine a_condb ((r11.2.e != 0)) (by rfl) (fun zc3 => ?_) (fun zc3 => ?_)
     ·have H := cond_t zc3 H
      refine a_exit ?_
      refine bA_e (by decide) ?_
      refine sA_e ?_
      refine lA_e ?_
      refine bA_hit ?_
      refine cA_n ?_
      refine wk_l [(some 0, ⟨30, 7, false, [[.int .i64 0, .int .i64 0, .int .i64 0, .int .i64 0, .int .i64 0, .nil, .nil]]⟩), (some 1, ⟨68, 2, false, [[.list 1 (r11.2.rest.b.map (ci .u8)), .int .i64 r11.2.e]]⟩), (some 2, ⟨30, 7, false, [[.int .i64 r1.1, .int .i64 r2.1, .int .i64 r3.1, .int .i64 r4.1, .int .i64 r5.1, .ref 3 0 (names2 ++ [r11.1]).length 1, .nil]]⟩), (some 17, ⟨9, 1, false, (names2 ++ [r11.1]).map cs⟩)] [] [(2, .ptr 0 0 0 7), (4, .ptr 1 0 0 2), (5, .ptr 2 0 0 7)] (by show ([2, 4, 5] : List Nat).Nodup; decide) (by show ([0, 1, 2, 17] : List Nat).Nodup; decide) ?_ ?_ (fun t0 => ⟨r11.2, (names2 ++ [r11.1]), t0, H, rfl⟩)
      ·exact (allB_some (by rfl) rfl (.cons (.cons (.int' rfl) (.cons (.int' rfl) (.cons (.int' rfl) (.cons (.int' rfl) (.cons (.int' rfl) (.cons .nil' (.cons .nil' .nil))))))) .nil) (allB_some (by rfl) rfl (.cons (.cons (.lst _ _ _ (ci_pu .u8) rfl) (.cons (.int' rfl) .nil)) .nil) (allB_some (by rfl) rfl (.cons (.cons (.int' rfl) (.cons (.int' rfl) (.cons (.int' rfl) (.cons (.int' rfl) (.cons (.int' rfl) (.cons (.refl' (by first | rfl | omega | (simp; done) | (simp [strBytes_len]; done) | (simp; omega) | (simp_all; done)) rfl) (.cons .nil' .nil))))))) .nil) (allB_some (by rfl) rfl (.same _ _ cs_pu (by first | rfl | (simp only [MPT, CS,  List.nil_append]; done) | (simp [CS,  ci_eq, cb_eq, cs_eq, cl_eq]; done) | (simp [CS,  ci_eq, cb_eq, cs_eq, cl_eq]; intro hz; rw [List.take_of_length_le (by simp; omega)]))) trivial))))
      ·(simp only [AllT, tl_cons, tl_nil, upd_apply, List.getD_cons_zero, List.getD_cons_succ, reduceEqDiff, ↓reduceIte, and_true]); exact ⟨(.ptr _ _ _ _ _ rfl), (.ptr _ _ _ _ _ rfl), (.ptr _ _ _ _ _ rfl)⟩
     ·have H := cond_f zc3 H
      refine a_skip ?_
      refine bA_n ?_
      refine sA_n ?_
      refine a_reg _ rfl (s := ?zs15) ?_ ?_
      rotate_left
      ·simp only [EVT, stepR, evOp, St.ev, St.app, St.put, wrs, datOf, datOf1, evBin, binInt, TIS, CS, reduceAdd, reduceMul, reduceEqDiff, ↓reduceIte, reduceCtorEq, reduceLT, reduceLeDiff, ↓zc2, ↓zc3]
       (repeat' apply And.intro) <;> first|rfl|assumption|omega|(simp;done)|(simp;omega)|(simp_all;done)
      refine lA_n ?_
      refine wk_l [(some 0, ⟨30, 7, false, [[.int .i64 0, .int .i64 0, .int .i64 0, .int .i64 0, .int .i64 0, .nil, .nil]]⟩), (some 1, ⟨68, 2, false, [[.list 1 (r11.2.rest.b.map (ci .u8)), .int .i64 r11.2.e]]⟩), (some 2, ⟨30, 7, false, [[.int .i64 r1.1, .int .i64 r2.1, .int .i64 r3.1, .int .i64 r4.1, .int .i64 r5.1, .ref 3 0 (names2 ++ [r11.1]).length 1, .nil]]⟩), (some 17, ⟨9, 1, false, (names2 ++ [r11.1]).map cs⟩)] [] [(2, .ptr 0 0 0 7), (4, .ptr 1 0 0 2), (5, .ptr 2 0 0 7), (27, .int .i64 r9.1), (28, .int .i64 (IntKind.wrap .i64 (v1 + 1)))] (by show ([2, 4, 5, 27, 28] : List Nat).Nodup; decide) (by show ([0, 1, 2, 17] : List Nat).Nodup; decide) ?_ ?_ (fun t0 => ⟨_, Nat.lt_succ_self _, r11.2, (names2 ++ [r11.1]), (IntKind.wrap .i64 (v1 + 1)), t0, H, rfl⟩)
      ·exact (allB_some (by rfl) rfl (.cons (.cons (.int' rfl) (.cons (.int' rfl) (.cons (.int' rfl) (.cons (.int' rfl) (.cons (.int' rfl) (.cons .nil' (.cons .nil' .nil))))))) .nil) (allB_some (by rfl) rfl (.cons (.cons (.lst _ _ _ (ci_pu .u8) rfl) (.cons (.int' rfl) .nil)) .nil) (allB_some (by rfl) rfl (.cons (.cons (.int' rfl) (.cons (.int' rfl) (.cons (.int' rfl) (.cons (.int' rfl) (.cons (.int' rfl) (.cons (.refl' (by first | rfl | omega | (simp; done) | (simp [strBytes_len]; done) | (simp; omega) | (simp_all; done)) rfl) (.cons .nil' .nil))))))) .nil) (allB_some (by rfl) rfl (.same _ _ cs_pu (by first | rfl | (simp only [MPT, CS,  List.nil_append]; done) | (simp [CS,  ci_eq, cb_eq, cs_eq, cl_eq]; done) | (simp [CS,  ci_eq, cb_eq, cs_eq, cl_eq]; intro hz; rw [List.take_of_length_le (by simp; omega)]))) trivial))))
      ·(simp only [AllT, tl_cons, tl_nil, upd_apply, List.getD_cons_zero, List.getD_cons_succ, reduceEqDiff, ↓reduceIte, and_true]); exact ⟨(.ptr _ _ _ _ _ rfl), (.ptr _ _ _ _ _ rfl), (.ptr _ _ _ _ _ rfl), (.int' rfl), (.int' rfl)⟩
    ·have H := cond_f zc2 H
     refine a_exit ?_
     refine sA_e ?_
     refine lA_e ?_
     refine bA_hit ?_
     refine cA_n ?_
     refine wk_l [(some 0, ⟨30, 7, false, [[.int .i64 0, .int .i64 0, .int .i64 0, .int .i64 0, .int .i64 0, .nil, .nil]]⟩), (some 1, ⟨68, 2, false, [[.list 1 (r10.rest.b.map (ci .u8)), .int .i64 r10.e]]⟩), (some 2, ⟨30, 7, false, [[.int .i64 r1.1, .int .i64 r2.1, .int .i64 r3.1, .int .i64 r4.1, .int .i64 r5.1, .ref 3 0 names2.length 1, .nil]]⟩), (some 3, ⟨9, 1, false, names2.map cs⟩)] [] [(2, .ptr 0 0 0 7), (4, .ptr 1 0 0 2), (5, .ptr 2 0 0 7)] (by show ([2, 4, 5] : List Nat).Nodup; decide) (by show ([0, 1, 2, 3] : List Nat).Nodup; decide) ?_ ?_ (fun t0 => ⟨r10, names2, t0, H, rfl⟩)
     ·exact (allB_some (by rfl) rfl (.cons (.cons (.int' rfl) (.cons (.int' rfl) (.cons (.int' rfl) (.cons (.int' rfl) (.cons (.int' rfl) (.cons .nil' (.cons .nil' .nil))))))) .nil) (allB_some (by rfl) rfl (.cons (.cons (.lst _ _ _ (ci_pu .u8) rfl) (.cons (.int' rfl) .nil)) .nil) (allB_some (by rfl) rfl (.cons (.cons (.int' rfl) (.cons (.int' rfl) (.cons (.int' rfl) (.cons (.int' rfl) (.cons (.int' rfl) (.cons (.refl' (by first | rfl | omega | (simp; done) | (simp [strBytes_len]; done) | (simp; omega) | (simp_all; done)) rfl) (.cons .nil' .nil))))))) .nil) (allB_some (by rfl) rfl (.same _ _ cs_pu (by first | rfl | (simp only [MPT, CS,  List.nil_append]; done) | (simp [CS,  ci_eq, cb_eq, cs_eq, cl_eq]; done) | (simp [CS,  ci_eq, cb_eq, cs_eq, cl_eq]; intro hz; rw [List.take_of_length_le (by simp; omega)]))) trivial))))
     ·(simp only [AllT, tl_cons, tl_nil, upd_apply, List.getD_cons_zero, List.getD_cons_succ, reduceEqDiff, ↓reduceIte, and_true]); exact ⟨(.ptr _ _ _ _ _ rfl), (.ptr _ _ _ _ _ rfl), (.ptr _ _ _ _ _ rfl)⟩
 ·rintro s ⟨r6, names1, t0, H, rfl⟩
  unfold pack_ReadAns_J1 at H
  refine a_seq ?_
  obtain ⟨r7, zh6, H⟩ := bind_some H
  have zk6 := pack_reader_str_rc zh6
  obtain ⟨zh7, H⟩ := chk_some H
  refine a_reg _ rfl (s := ?zs6) ?_ ?_
  rotate_left
  ·try simp only [EVT, stepR, evOp, St.ev, St.app, St.put, wrs, frz, evToStr, elems, evFieldAddr, evStore, setR, allOne, TIS, othE, evAppStr, strCells_eq, strBytes_len, CS, reduceAdd, reduceMul, reduceEqDiff, ↓reduceIte, reduceCtorEq, reduceLT, reduceLeDiff, reduceSub, Nat.reduceBEq]
   repeat' with_reducible apply And.intro
   all_goals try ((with_reducible show CallR _ _ _ _ _ _ _); refine callR_rcw (r' := .str r7.1) [(1, none), (1, some ⟨68, 2, false, [[.list 1 (r7.2.rest.b.map (ci .u8)), .int .i64 r7.2.e]]⟩)] [(some 1, ⟨68, 2, false, [Reader.c r6]⟩)] [] [(1, 0, ⟨68, 2, false, [[.list 1 (r7.2.rest.b.map (ci .u8)), .int .i64 r7.2.e]]⟩)] rfl zk6 (by simp) (by show ([1] : List Nat).Nodup; decide) (allB_some (by rfl) rfl (.cons (.cons (.lst _ _ _ (ci_pu .u8) rfl) (.cons (.int' rfl) .nil)) .nil) trivial) (.cons (.ptr _ _ _ _ _ rfl) .nil) (by show ([1] : List Nat).Nodup; decide) (by show ([0] : List Nat).Nodup; decide) ⟨.inl ⟨by decide, rfl⟩, ⟨_, rfl, ⟨rfl, rfl, rfl, rfl⟩, .cons (RNs.pu (Reader.pu _)) .nil⟩, trivial⟩ (.str' rfl) ?_; simp only [EVT, stepR, evOp, St.ev, St.app, St.put, wrs, frz, evToStr, elems, evFieldAddr, evStore, setR, allOne, TIS, othE, evAppStr, strCells_eq, strBytes_len, CS, reduceAdd, reduceMul, reduceEqDiff, ↓reduceIte, reduceCtorEq, reduceLT, reduceLeDiff, reduceSub, Nat.reduceBEq])
   repeat' with_reducible apply And.intro
   all_goals try ((with_reducible show OthR _ _ _ _ _); refine oth_strbytes rfl rfl Try.underlying9 Try.underlying22 Try.underlying5 (by assumption) ?_; simp only [EVT, stepR, evOp, St.ev, St.app, St.put, wrs, frz, evToStr, elems, evFieldAddr, evStore, setR, allOne, TIS, othE, evAppStr, strCells_eq, strBytes_len, CS, reduceAdd, reduceMul, reduceEqDiff, ↓reduceIte, reduceCtorEq, reduceLT, reduceLeDiff, reduceSub, Nat.reduceBEq])
   all_goals ((repeat' apply And.intro) <;> first|rfl|assumption|omega|(simp;done)|(simp;omega)|(simp_all;done))
  refine sA_n ?_
  refine a_seq ?_
  refine a_seq ?_
  obtain ⟨r8, zh8, H⟩ := bind_some H
  have zk7 := pack_reader_end_rc zh8
  refine a_reg _ rfl (s := ?zs7) ?_ ?_
  rotate_left
  ·try simp only [EVT, stepR, evOp, St.ev, St.app, St.put, wrs, frz, TIS, CS, reduceAdd, reduceMul, reduceEqDiff, ↓reduceIte, reduceCtorEq, reduceLT, reduceLeDiff, reduceSub, Nat.reduceBEq]
   repeat' with_reducible apply And.intro
   all_goals try ((with_reducible show CallR _ _ _ _ _ _ _); refine callR_rcw (r' := .int .i64 r8.1) [(1, none), (1, some ⟨68, 2, false, [[.list 1 (r8.2.rest.b.map (ci .u8)), .int .i64 r8.2.e]]⟩)] [(some 1, ⟨68, 2, false, [Reader.c r7.2]⟩)] [] [(1, 0, ⟨68, 2, false, [[.list 1 (r8.2.rest.b.map (ci .u8)), .int .i64 r8.2.e]]⟩)] rfl zk7 (by simp) (by show ([1] : List Nat).Nodup; decide) (allB_some (by rfl) rfl (.cons (.cons (.lst _ _ _ (ci_pu .u8) rfl) (.cons (.int' rfl) .nil)) .nil) trivial) (.cons (.ptr _ _ _ _ _ rfl) .nil) (by show ([1] : List Nat).Nodup; decide) (by show ([0] : List Nat).Nodup; decide) ⟨.inl ⟨by decide, rfl⟩, ⟨_, rfl, ⟨rfl, rfl, rfl, rfl⟩, .cons (RNs.pu (Reader.pu _)) .nil⟩, trivial⟩ (.int' rfl) ?_; simp only [EVT, stepR, evOp, St.ev, St.app, St.put, wrs, frz, TIS, CS, reduceAdd, reduceMul, reduceEqDiff, ↓reduceIte, reduceCtorEq, reduceLT, reduceLeDiff, reduceSub, Nat.reduceBEq])
   all_goals ((repeat' apply And.intro) <;> first|rfl|assumption|omega|(simp;done)|(simp;omega)|(simp_all;done))
  refine sA_n ?_
  refine a_seq ?_
  refine a_reg _ rfl (s := ?zs8) ?_ ?_
  rotate_left
  ·simp only [EVT, stepR, evOp, St.ev, St.app, St.put, wrs, datOf, datOf1, evBin, binInt, TIS, CS, reduceAdd, reduceMul, reduceEqDiff, ↓reduceIte, reduceCtorEq, reduceLT, reduceLeDiff]
   (repeat' apply And.intro) <;> first|rfl|assumption|omega|(simp;done)|(simp;omega)|(simp_all;done)
  refine sA_n ?_
  refine a_condb ((r8.1 != 0)) (by rfl) (fun zc1 => ?_) (fun zc1 => ?_)
  ·have H := cond_t zc1 H
   refine a_seq ?_
   refine a_reg _ rfl (s := ?zs9) ?_ ?_
   rotate_left
   ·simp only [EVT, stepR, evOp, St.ev, St.app, St.put, wrs, fillD, setR, evStore, allOne, TIS, CS, reduceAdd, reduceMul, reduceEqDiff, ↓reduceIte, reduceCtorEq, reduceLT, reduceLeDiff, reduceSub, Nat.reduceBEq, ↓zc1]
    (repeat' apply And.intro) <;> first|rfl|assumption|omega|(simp;done)|(simp;omega)|(simp_all;done)
   refine sA_n ?_
   refine a_ret ?_
   refine sA_r ?_
   obtain rfl := Option.some.inj H
   refine e_r2 (d := ?zd1) ?_ ?_
   rotate_left
   ·simp only [EVT, resR, single, evLoad, cut, TIS, CS, reduceAdd, reduceEqDiff, ↓reduceIte, reduceCtorEq, reduceLT, reduceLeDiff, reduceSub, Nat.reduceBEq, zc1]
    (repeat' apply And.intro) <;> first | rfl | assumption | omega | (simp; done)
   exact (.tup' (.cons (.agg' (.cons (.int' rfl) (.cons (.int' rfl) (.cons (.int' rfl) (.cons (.int' rfl) (.cons (.int' rfl) (.cons (.nil _) (.cons (.nil _) .nil)))))))) (.cons (.int' rfl) .nil)))
  ·have H := cond_f zc1 H
   refine a_skip ?_
   refine sA_n ?_
   refine a_seq ?_
   refine a_reg _ rfl (s := ?zs10) ?_ ?_
   rotate_left
   ·simp only [EVT, stepR, evOp, St.ev, St.app, St.put, wrs, evLoad, cut, evStore, setR, allOne, datOf, datOf1, TIS, CS, reduceAdd, reduceMul, reduceEqDiff, ↓reduceIte, reduceCtorEq, reduceLT, reduceLeDiff, reduceSub, Nat.reduceBEq, ↓zc1]
    (repeat' apply And.intro) <;> first|rfl|assumption|omega|(simp;done)|(simp;omega)|(simp_all;done)
   refine sA_n ?_
   refine a_ret ?_
   obtain rfl := Option.some.inj H
   refine e_r2 (d := ?zd2) ?_ ?_
   rotate_left
   ·simp only [EVT, resR, single, evLoad, cut, TIS, CS, reduceAdd, reduceEqDiff, ↓reduceIte, reduceCtorEq, reduceLT, reduceLeDiff, reduceSub, Nat.reduceBEq, zc1]
    (repeat' apply And.intro) <;> first | rfl | assumption | omega | (simp; done)
   exact (.tup' (.cons (.agg' (.cons (.int' rfl) (.cons (.int' rfl) (.cons (.int' rfl) (.cons (.int' rfl) (.cons (.int' rfl) (.cons (.ownL (by rfl) (fun e => by cases e) rfl (by first | rfl | omega | (simp; done) | (simp [strBytes_len]; done) | (simp; omega) | (simp_all; done)) (.same _ _ cs_pu (by first | rfl | (simp only [MPT, CS,  List.nil_append]; done) | (simp [CS,  ci_eq, cb_eq, cs_eq, cl_eq]; done) | (simp [CS,  ci_eq, cb_eq, cs_eq, cl_eq]; intro hz; rw [List.take_of_length_le (by simp; omega)])))) (.cons (.lst _ _ _ (ci_pu .u8) rfl) .nil)))))))) (.cons (.int' rfl) .nil)))
def ref01_ReadOp_f (b1 : List Int) : Option (Op × Int) :=
 (ref01_reader_num_f (⟨b1, 0⟩ : Reader74)).bind fun r1 => (ref01_reader_num_f r1.2).bind fun r2 => (ref01_reader_str_f r2.2).bind fun r3 => (ref01_reader_str_f r3.2).bind fun r4 => (ref01_reader_num_f r4.2).bind fun r5 => (ref01_reader_num_f r5.2).bind fun r6 => (ref01_reader_num_f r6.2).bind fun r7 => (ref01_reader_str_f r7.2).bind fun r8 => chk (r8.1.size ≤ 140737488355328) ((ref01_reader_end_f r8.2).bind fun r9 => cond (r9.1 != 0) (some ((⟨0, 0, ByteArray.empty, ByteArray.empty, 0, 0, 0, []⟩ : Op), r9.1)) (some ((⟨r1.1, r2.1, r3.1, r4.1, r5.1, r6.1, r7.1, (strBytes r8.1)⟩ : Op), 0)))
set_option maxHeartbeats 4000000 in
set_option maxRecDepth 20000 in
theorem ref01_ReadOp_pc {b1 : List Int} {r : Op × Int} (H : ref01_ReadOp_f b1 = some r) : PC Try.prog 36 [.list 1 (b1.map (ci .u8))] (.tup [.agg (Op.c r.1), .int .i64 r.2]) := by
 refine pcA_of Try.func36 (by rfl) (by decide) 43 (by rfl) [.cell 2 24, .tmp 3] (by rfl) ?_
 unfold ref01_ReadOp_f at H
 simp only [ent]
 refine a_seq ?_
 refine a_reg _ rfl (s := ?zs1) ?_ ?_
 rotate_left
 ·simp only [EVT, stepR, evOp, St.ev, St.app, St.put, wrs, allOne, datOf, datOf1, TIS, CS, reduceAdd, reduceMul, reduceEqDiff, ↓reduceIte, reduceCtorEq, reduceLT, reduceLeDiff]
  (repeat' apply And.intro) <;> first|rfl|assumption|omega|(simp;done)|(simp;omega)|(simp_all;done)
 refine sA_n ?_
 refine a_seq ?_
 refine a_reg _ rfl (s := ?zs2) ?_ ?_
 rotate_left
 ·simp only [EVT, stepR, evOp, St.ev, St.app, St.put, wrs, fillD, setR, allOne, TIS, CS, reduceAdd, reduceMul, reduceEqDiff, ↓reduceIte, reduceCtorEq, reduceLT, reduceLeDiff, reduceSub, Nat.reduceBEq]
  (repeat' apply And.intro) <;> first|rfl|assumption|omega|(simp;done)|(simp;omega)|(simp_all;done)
 refine sA_n ?_
 refine a_seq ?_
 refine a_reg _ rfl (s := ?zs3) ?_ ?_
 rotate_left
 ·simp only [EVT, stepR, evOp, St.ev, St.app, St.put, wrs, fillD, setR, allOne, evStore, TIS, CS, reduceAdd, reduceMul, reduceEqDiff, ↓reduceIte, reduceCtorEq, reduceLT, reduceLeDiff, reduceSub, Nat.reduceBEq]
  (repeat' apply And.intro) <;> first|rfl|assumption|omega|(simp;done)|(simp;omega)|(simp_all;done)
 refine sA_n ?_
 refine a_seq ?_
 obtain ⟨r1, zh1, H⟩ := bind_some H
 have zk1 := ref01_reader_num_rc zh1
 refine a_reg _ rfl (s := ?zs4) ?_ ?_
 rotate_left
 ·try simp only [EVT, stepR, evOp, St.ev, St.app, St.put, wrs, frz, evFieldAddr, evStore, setR, allOne, TIS, CS, reduceAdd, reduceMul, reduceEqDiff, ↓reduceIte, reduceCtorEq, reduceLT, reduceLeDiff, reduceSub, Nat.reduceBEq]
  repeat' with_reducible apply And.intro
  all_goals try ((with_reducible show CallR _ _ _ _ _ _ _); refine callR_rcw (r' := .int .i64 r1.1) [(18, none), (18, some ⟨75, 2, false, [[.list 1 (r1.2.b.map (ci .u8)), .int .i64 r1.2.e]]⟩)] [(some 18, ⟨75, 2, false, [Reader74.c (⟨b1, 0⟩ : Reader74)]⟩)] [] [(18, 0, ⟨75, 2, false, [[.list 1 (r1.2.b.map (ci .u8)), .int .i64 r1.2.e]]⟩)] rfl zk1 (by simp) (by show ([18] : List Nat).Nodup; decide) (allB_some (by rfl) rfl (.cons (.cons (.lst _ _ _ (ci_pu .u8) rfl) (.cons (.int' rfl) .nil)) .nil) trivial) (.cons (.ptr _ _ _ _ _ rfl) .nil) (by show ([18] : List Nat).Nodup; decide) (by show ([0] : List Nat).Nodup; decide) ⟨.inl ⟨by decide, rfl⟩, ⟨_, rfl, ⟨rfl, rfl, rfl, rfl⟩, .cons (RNs.pu (Reader74.pu _)) .nil⟩, trivial⟩ (.int' rfl) ?_; simp only [EVT, stepR, evOp, St.ev, St.app, St.put, wrs, frz, evFieldAddr, evStore, setR, allOne, TIS, CS, reduceAdd, reduceMul, reduceEqDiff, ↓reduceIte, reduceCtorEq, reduceLT, reduceLeDiff, reduceSub, Nat.reduceBEq])
  all_goals ((repeat' apply And.intro) <;> first|rfl|assumption|omega|(simp;done)|(simp;omega)|(simp_all;done))
 refine sA_n ?_
 refine a_seq ?_
 obtain ⟨r2, zh2, H⟩ := bind_some H
 have zk2 := ref01_reader_num_rc zh2
 refine a_reg _ rfl (s := ?zs5) ?_ ?_
 rotate_left
 ·try simp only [EVT, stepR, evOp, St.ev, St.app, St.put, wrs, frz, evFieldAddr, evStore, setR, allOne, TIS, CS, reduceAdd, reduceMul, reduceEqDiff, ↓reduceIte, reduceCtorEq, reduceLT, reduceLeDiff, reduceSub, Nat.reduceBEq]
  repeat' with_reducible apply And.intro
  all_goals try ((with_reducible show CallR _ _ _ _ _ _ _); refine callR_rcw (r' := .int .i64 r2.1) [(18, none), (18, some ⟨75, 2, false, [[.list 1 (r2.2.b.map (ci .u8)), .int .i64 r2.2.e]]⟩)] [(some 18, ⟨75, 2, false, [Reader74.c r1.2]⟩)] [] [(18, 0, ⟨75, 2, false, [[.list 1 (r2.2.b.map (ci .u8)), .int .i64 r2.2.e]]⟩)] rfl zk2 (by simp) (by show ([18] : List Nat).Nodup; decide) (allB_some (by rfl) rfl (.cons (.cons (.lst _ _ _ (ci_pu .u8) rfl) (.cons (.int' rfl) .nil)) .nil) trivial) (.cons (.ptr _ _ _ _ _ rfl) .nil) (by show ([18] : List Nat).Nodup; decide) (by show ([0] : List Nat).Nodup; decide) ⟨.inl ⟨by decide, rfl⟩, ⟨_, rfl, ⟨rfl, rfl, rfl, rfl⟩, .cons (RNs.pu (Reader74.pu _)) .nil⟩, trivial⟩ (.int' rfl) ?_; simp only [EVT, stepR, evOp, St.ev, St.app, St.put, wrs, frz, evFieldAddr, evStore, setR, allOne, TIS, CS, reduceAdd, reduceMul, reduceEqDiff, ↓reduceIte, reduceCtorEq, reduceLT, reduceLeDiff, reduceSub, Nat.reduceBEq])
  all_goals ((repeat' apply And.intro) <;> first|rfl|assumption|omega|(simp;done)|(simp;omega)|(simp_all;done))
 refine sA_n ?_
 refine a_seq ?_
 obtain ⟨r3, zh3, H⟩ := bind_some H
 have zk3 := ref01_reader_str_rc zh3
 refine a_reg _ rfl (s := ?zs6) ?_ ?_
 rotate_left
 ·try simp only [EVT, stepR, evOp, St.ev, St.app, St.put, wrs, frz, evFieldAddr, evStore, setR, allOne, TIS, CS, reduceAdd, reduceMul, reduceEqDiff, ↓reduceIte, reduceCtorEq, reduceLT, reduceLeDiff, reduceSub, Nat.reduceBEq]
  repeat' with_reducible apply And.intro
  all_goals try ((with_reducible show CallR _ _ _ _ _ _ _); refine callR_rcw (r' := .str r3.1) [(18, none), (18, some ⟨75, 2, false, [[.list 1 (r3.2.b.map (ci .u8)), .int .i64 r3.2.e]]⟩)] [(some 18, ⟨75, 2, false, [Reader74.c r2.2]⟩)] [] [(18, 0, ⟨75, 2, false, [[.list 1 (r3.2.b.map (ci .u8)), .int .i64 r3.2.e]]⟩)] rfl zk3 (by simp) (by show ([18] : List Nat).Nodup; decide) (allB_some (by rfl) rfl (.cons (.cons (.lst _ _ _ (ci_pu .u8) rfl) (.cons (.int' rfl) .nil)) .nil) trivial) (.cons (.ptr _ _ _ _ _ rfl) .nil) (by show ([18] : List Nat).Nodup; decide) (by show ([0] : List Nat).Nodup; decide) ⟨.inl ⟨by decide, rfl⟩, ⟨_, rfl, ⟨rfl, rfl, rfl, rfl⟩, .cons (RNs.pu (Reader74.pu _)) .nil⟩, trivial⟩ (.str' rfl) ?_; simp only [EVT, stepR, evOp, St.ev, St.app, St.put, wrs, frz, evFieldAddr, evStore, setR, allOne, TIS, CS, reduceAdd, reduceMul, reduceEqDiff, ↓reduceIte, reduceCtorEq, reduceLT, reduceLeDiff, reduceSub, Nat.reduceBEq])
  all_goals ((repeat' apply And.intro) <;> first|rfl|assumption|omega|(simp;done)|(simp;omega)|(simp_all;done))
 refine sA_n ?_
 refine a_seq ?_
 obtain ⟨r4, zh4, H⟩ := bind_some H
 have zk4 := ref01_reader_str_rc zh4
 refine a_reg _ rfl (s := ?zs7) ?_ ?_
 rotate_left
 ·try simp only [EVT, stepR, evOp, St.ev, St.app, St.put, wrs, frz, evFieldAddr, evStore, setR, allOne, TIS, CS, reduceAdd, reduceMul, reduceEqDiff, ↓reduceIte, reduceCtorEq, reduceLT, reduceLeDiff, reduceSub, Nat.reduceBEq]
  repeat' with_reducible apply And.intro
  all_goals try ((with_reducible show CallR _ _ _ _ _ _ _); refine callR_rcw (r' := .str r4.1) [(18, none), (18, some ⟨75, 2, false, [[.list 1 (r4.2.b.map (ci .u8)), .int .i64 r4.2.e]]⟩)] [(some 18, ⟨75, 2, false, [Reader74.c r3.2]⟩)] [] [(18, 0, ⟨75, 2, false, [[.list 1 (r4.2.b.map (ci .u8)), .int .i64 r4.2.e]]⟩)] rfl zk4 (by simp) (by show ([18] : List Nat).Nodup; decide) (allB_some (by rfl) rfl (.cons (.cons (.lst _ _ _ (ci_pu .u8) rfl) (.cons (.int' rfl) .nil)) .nil) trivial) (.cons (.ptr _ _ _ _ _ rfl) .nil) (by show ([18] : List Nat).Nodup; decide) (by show ([0] : List Nat).Nodup; decide) ⟨.inl ⟨by decide, rfl⟩, ⟨_, rfl, ⟨rfl, rfl, rfl, rfl⟩, .cons (RNs.pu (Reader74.pu _)) .nil⟩, trivial⟩ (.str' rfl) ?_; simp only [EVT, stepR, evOp, St.ev, St.app, St.put, wrs, frz, evFieldAddr, evStore, setR, allOne, TIS, CS, reduceAdd, reduceMul, reduceEqDiff, ↓reduceIte, reduceCtorEq, reduceLT, reduceLeDiff, reduceSub, Nat.reduceBEq])
  all_goals ((repeat' apply And.intro) <;> first|rfl|assumption|omega|(simp;done)|(simp;omega)|(simp_all;done))
 refine sA_n ?_
 refine a_seq ?_
 obtain ⟨r5, zh5, H⟩ := bind_some H
 have zk5 := ref01_reader_num_rc zh5
 refine a_reg _ rfl (s := ?zs8) ?_ ?_
 rotate_left
 ·try simp only [EVT, stepR, evOp, St.ev, St.app, St.put, wrs, frz, evFieldAddr, evStore, setR, allOne, TIS, CS, reduceAdd, reduceMul, reduceEqDiff, ↓reduceIte, reduceCtorEq, reduceLT, reduceLeDiff, reduceSub, Nat.reduceBEq]
  repeat' with_reducible apply And.intro
  all_goals try ((with_reducible show CallR _ _ _ _ _ _ _); refine callR_rcw (r' := .int .i64 r5.1) [(18, none), (18, some ⟨75, 2, false, [[.list 1 (r5.2.b.map (ci .u8)), .int .i64 r5.2.e]]⟩)] [(some 18, ⟨75, 2, false, [Reader74.c r4.2]⟩)] [] [(18, 0, ⟨75, 2, false, [[.list 1 (r5.2.b.map (ci .u8)), .int .i64 r5.2.e]]⟩)] rfl zk5 (by simp) (by show ([18] : List Nat).Nodup; decide) (allB_some (by rfl) rfl (.cons (.cons (.lst _ _ _ (ci_pu .u8) rfl) (.cons (.int' rfl) .nil)) .nil) trivial) (.cons (.ptr _ _ _ _ _ rfl) .nil) (by show ([18] : List Nat).Nodup; decide) (by show ([0] : List Nat).Nodup; decide) ⟨.inl ⟨by decide, rfl⟩, ⟨_, rfl, ⟨rfl, rfl, rfl, rfl⟩, .cons (RNs.pu (Reader74.pu _)) .nil⟩, trivial⟩ (.int' rfl) ?_; simp only [EVT, stepR, evOp, St.ev, St.app, St.put, wrs, frz, evFieldAddr, evStore, setR, allOne, TIS, CS, reduceAdd, reduceMul, reduceEqDiff, ↓reduceIte, reduceCtorEq, reduceLT, reduceLeDiff, reduceSub, Nat.reduceBEq])
  all_goals ((repeat' apply And.intro) <;> first|rfl|assumption|omega|(simp;done)|(simp;omega)|(simp_all;done))
 refine sA_n ?_
 refine a_seq ?_
 obtain ⟨r6, zh6, H⟩ := bind_some H
 have zk6 := ref01_reader_num_rc zh6
 refine a_reg _ rfl (s := ?zs9) ?_ ?_
 rotate_left
 ·try simp only [EVT, stepR, evOp, St.ev, St.app, St.put, wrs, frz, evFieldAddr, evStore, setR, allOne, TIS, CS, reduceAdd, reduceMul, reduceEqDiff, ↓reduceIte, reduceCtorEq, reduceLT, reduceLeDiff, reduceSub, Nat.reduceBEq]
  repeat' with_reducible apply And.intro
  all_goals try ((with_reducible show CallR _ _ _ _ _ _ _); refine callR_rcw (r' := .int .i64 r6.1) [(18, none), (18, some ⟨75, 2, false, [[.list 1 (r6.2.b.map (ci .u8)), .int .i64 r6.2.e]]⟩)] [(some 18, ⟨75, 2, false, [Reader74.c r5.2]⟩)] [] [(18, 0, ⟨75, 2, false, [[.list 1 (r6.2.b.map (ci .u8)), .int .i64 r6.2.e]]⟩)] rfl zk6 (by simp) (by show ([18] : List Nat).Nodup; decide) (allB_some (by rfl) rfl (.cons (.cons (.lst _ _ _ (ci_pu .u8) rfl) (.cons (.int' rfl) .nil)) .nil) trivial) (.cons (.ptr _ _ _ _ _ rfl) .nil) (by show ([18] : List Nat).Nodup; decide) (by show ([0] : List Nat).Nodup; decide) ⟨.inl ⟨by decide, rfl⟩, ⟨_, rfl, ⟨rfl, rfl, rfl, rfl⟩, .cons (RNs.pu (Reader74.pu _)) .nil⟩, trivial⟩ (.int' rfl) ?_; simp only [EVT, stepR, evOp, St.ev, St.app, St.put, wrs, frz, evFieldAddr, evStore, setR, allOne, TIS, CS, reduceAdd, reduceMul, reduceEqDiff, ↓reduceIte, reduceCtorEq, reduceLT, reduceLeDiff, reduceSub, Nat.reduceBEq])
  all_goals ((repeat' apply And.intro) <;> first|rfl|assumption|omega|(simp;done)|(simp;omega)|(simp_all;done))
 refine sA_n ?_
 refine a_seq ?_
 obtain ⟨r7, zh7, H⟩ := bind_some H
 have zk7 := ref01_reader_num_rc zh7
 refine a_reg _ rfl (s := ?zs10) ?_ ?_
 rotate_left
 ·try simp only [EVT, stepR, evOp, St.ev, St.app, St.put, wrs, frz, evFieldAddr, evStore, setR, allOne, TIS, CS, reduceAdd, reduceMul, reduceEqDiff, ↓reduceIte, reduceCtorEq, reduceLT, reduceLeDiff, reduceSub, Nat.reduceBEq]
  repeat' with_reducible apply And.intro
  all_goals try ((with_reducible show CallR _ _ _ _ _ _ _); refine callR_rcw (r' := .int .i64 r7.1) [(18, none), (18, some ⟨75, 2, false, [[.list 1 (r7.2.b.map (ci .u8)), .int .i64 r7.2.e]]⟩)] [(some 18, ⟨75, 2, false, [Reader74.c r6.2]⟩)] [] [(18, 0, ⟨75, 2, false, [[.list 1 (r7.2.b.map (ci .u8)), .int .i64 r7.2.e]]⟩)] rfl zk7 (by simp) (by show ([18] : List Nat).Nodup; decide) (allB_some (by rfl) rfl (.cons (.cons (.lst _ _ _ (ci_pu .u8) rfl) (.cons (.int' rfl) .nil)) .nil) trivial) (.cons (.ptr _ _ _ _ _ rfl) .nil) (by show ([18] : List Nat).Nodup; decide) (by show ([0] : List Nat).Nodup; decide) ⟨.inl ⟨by decide, rfl⟩, ⟨_, rfl, ⟨rfl, rfl, rfl, rfl⟩, .cons (RNs.pu (Reader74.pu _)) .nil⟩, trivial⟩ (.int' rfl) ?_; simp only [EVT, stepR, evOp, St.ev, St.app, St.put, wrs, frz, evFieldAddr, evStore, setR, allOne, TIS, CS, reduceAdd, reduceMul, reduceEqDiff, ↓reduceIte, reduceCtorEq, reduceLT, reduceLeDiff, reduceSub, Nat.reduceBEq])
  all_goals ((repeat' apply And.intro) <;> first|rfl|assumption|omega|(simp;done)|(simp;omega)|(simp_all;done))
 refine sA_n ?_
 refine a_seq ?_
 obtain ⟨r8, zh8, H⟩ := bind_some H
 have zk8 := ref01_reader_str_rc zh8
 obtain ⟨zh9, H⟩ := chk_some H
 refine a_reg _ rfl (s := ?zs11) ?_ ?_
 rotate_left
 ·try simp only [EVT, stepR, evOp, St.ev, St.app, St.put, wrs, frz, evToStr, elems, evFieldAddr, evStore, setR, allOne, TIS, othE, evAppStr, strCells_eq, strBytes_len, CS, reduceAdd, reduceMul, reduceEqDiff, ↓reduceIte, reduceCtorEq, reduceLT, reduceLeDiff, reduceSub, Nat.reduceBEq]
  repeat' with_reducible apply And.intro
  all_goals try ((with_reducible show CallR _ _ _ _ _ _ _); refine callR_rcw (r' := .str r8.1) [(18, none), (18, some ⟨75, 2, false, [[.list 1 (r8.2.b.map (ci .u8)), .int .i64 r8.2.e]]⟩)] [(some 18, ⟨75, 2, false, [Reader74.c r7.2]⟩)] [] [(18, 0, ⟨75, 2, false, [[.list 1 (r8.2.b.map (ci .u8)), .int .i64 r8.2.e]]⟩)] rfl zk8 (by simp) (by show ([18] : List Nat).Nodup; decide) (allB_some (by rfl) rfl (.cons (.cons (.lst _ _ _ (ci_pu .u8) rfl) (.cons (.int' rfl) .nil)) .nil) trivial) (.cons (.ptr _ _ _ _ _ rfl) .nil) (by show ([18] : List Nat).Nodup; decide) (by show ([0] : List Nat).Nodup; decide) ⟨.inl ⟨by decide, rfl⟩, ⟨_, rfl, ⟨rfl, rfl, rfl, rfl⟩, .cons (RNs.pu (Reader74.pu _)) .nil⟩, trivial⟩ (.str' rfl) ?_; simp only [EVT, stepR, evOp, St.ev, St.app, St.put, wrs, frz, evToStr, elems, evFieldAddr, evStore, setR, allOne, TIS, othE, evAppStr, strCells_eq, strBytes_len, CS, reduceAdd, reduceMul, reduceEqDiff, ↓reduceIte, reduceCtorEq, reduceLT, reduceLeDiff, reduceSub, Nat.reduceBEq])
  repeat' with_reducible apply And.intro
  all_goals try ((with_reducible show OthR _ _ _ _ _); refine oth_strbytes rfl rfl Try.underlying9 Try.underlying22 Try.underlying5 (by assumption) ?_; simp only [EVT, stepR, evOp, St.ev, St.app, St.put, wrs, frz, evToStr, elems, evFieldAddr, evStore, setR, allOne, TIS, othE, evAppStr, strCells_eq, strBytes_len, CS, reduceAdd, reduceMul, reduceEqDiff, ↓reduceIte, reduceCtorEq, reduceLT, reduceLeDiff, reduceSub, Nat.reduceBEq])
  all_goals ((repeat' apply And.intro) <;> first|rfl|assumption|omega|(simp;done)|(simp;omega)|(simp_all;done))
 refine sA_n ?_
 refine a_seq ?_
 obtain ⟨r9, zh10, H⟩ := bind_some H
 have zk9 := ref01_reader_end_rc zh10
 refine a_reg _ rfl (s := ?zs12) ?_ ?_
 rotate_left
 ·try simp only [EVT, stepR, evOp, St.ev, St.app, St.put, wrs, frz, TIS, CS, reduceAdd, reduceMul, reduceEqDiff, ↓reduceIte, reduceCtorEq, reduceLT, reduceLeDiff, reduceSub, Nat.reduceBEq]
  repeat' with_reducible apply And.intro
  all_goals try ((with_reducible show CallR _ _ _ _ _ _ _); refine callR_rcw (r' := .int .i64 r9.1) [(18, none), (18, some ⟨75, 2, false, [[.list 1 (r9.2.b.map (ci .u8)), .int .i64 r9.2.e]]⟩)] [(some 18, ⟨75, 2, false, [Reader74.c r8.2]⟩)] [] [(18, 0, ⟨75, 2, false, [[.list 1 (r9.2.b.map (ci .u8)), .int .i64 r9.2.e]]⟩)] rfl zk9 (by simp) (by show ([18] : List Nat).Nodup; decide) (allB_some (by rfl) rfl (.cons (.cons (.lst _ _ _ (ci_pu .u8) rfl) (.cons (.int' rfl) .nil)) .nil) trivial) (.cons (.ptr _ _ _ _ _ rfl) .nil) (by show ([18] : List Nat).Nodup; decide) (by show ([0] : List Nat).Nodup; decide) ⟨.inl ⟨by decide, rfl⟩, ⟨_, rfl, ⟨rfl, rfl, rfl, rfl⟩, .cons (RNs.pu (Reader74.pu _)) .nil⟩, trivial⟩ (.int' rfl) ?_; simp only [EVT, stepR, evOp, St.ev, St.app, St.put, wrs, frz, TIS, CS, reduceAdd, reduceMul, reduceEqDiff, ↓reduceIte, reduceCtorEq, reduceLT, reduceLeDiff, reduceSub, Nat.reduceBEq])
  all_goals ((repeat' apply And.intro) <;> first|rfl|assumption|omega|(simp;done)|(simp;omega)|(simp_all;done))
 refine sA_n ?_
 refine a_seq ?_
 refine a_seq ?_
 refine a_reg _ rfl (s := ?zs13) ?_ ?_
 rotate_left
 ·simp only [EVT, stepR, evOp, St.ev, St.app, St.put, wrs, datOf, datOf1, evBin, binInt, TIS, CS, reduceAdd, reduceMul, reduceEqDiff, ↓reduceIte, reduceCtorEq, reduceLT, reduceLeDiff]
  (repeat' apply And.intro) <;> first|rfl|assumption|omega|(simp;done)|(simp;omega)|(simp_all;done)
 refine sA_n ?_
 refine a_condb ((r9.1 != 0)) (by rfl) (fun zc1 => ?_) (fun zc1 => ?_)
 ·have H := cond_t zc1 H
  refine a_seq ?_
  refine a_reg _ rfl (s := ?zs14) ?_ ?_
  rotate_left
  ·simp only [EVT, stepR, evOp, St.ev, St.app, St.put, wrs, fillD, setR, evStore, allOne, TIS, CS, reduceAdd, reduceMul, reduceEqDiff, ↓reduceIte, reduceCtorEq, reduceLT, reduceLeDiff, reduceSub, Nat.reduceBEq, ↓zc1]
   (repeat' apply And.intro) <;> first|rfl|assumption|omega|(simp;done)|(simp;omega)|(simp_all;done)
  refine sA_n ?_
  refine a_ret ?_
  refine sA_r ?_
  obtain rfl := Option.some.inj H
  refine e_r2 (d := ?zd1) ?_ ?_
  rotate_left
  ·simp only [EVT, resR, single, evLoad, cut, TIS, CS, reduceAdd, reduceEqDiff, ↓reduceIte, reduceCtorEq, reduceLT, reduceLeDiff, reduceSub, Nat.reduceBEq, zc1]
   (repeat' apply And.intro) <;> first | rfl | assumption | omega | (simp; done)
  exact (.tup' (.cons (.agg' (.cons (.int' rfl) (.cons (.int' rfl) (.cons (.str' rfl) (.cons (.str' rfl) (.cons (.int' rfl) (.cons (.int' rfl) (.cons (.int' rfl) (.cons (.nil _) .nil))))))))) (.cons (.int' rfl) .nil)))
 ·have H := cond_f zc1 H
  refine a_skip ?_
  refine sA_n ?_
  refine a_seq ?_
  refine a_reg _ rfl (s := ?zs15) ?_ ?_
  rotate_left
  ·simp only [EVT, stepR, evOp, St.ev, St.app, St.put, wrs, evLoad, cut, evStore, setR, allOne, datOf, datOf1, TIS, CS, reduceAdd, reduceMul, reduceEqDiff, ↓reduceIte, reduceCtorEq, reduceLT, reduceLeDiff, reduceSub, Nat.reduceBEq, ↓zc1]
   (repeat' apply And.intro) <;> first|rfl|assumption|omega|(simp;done)|(simp;omega)|(simp_all;done)
  refine sA_n ?_
  refine a_ret ?_
  obtain rfl := Option.some.inj H
  refine e_r2 (d := ?zd2) ?_ ?_
  rotate_left
  ·simp only [EVT, resR, single, evLoad, cut, TIS, CS, reduceAdd, reduceEqDiff, ↓reduceIte, reduceCtorEq, reduceLT, reduceLeDiff, reduceSub, Nat.reduceBEq, zc1]
   (repeat' apply And.intro) <;> first | rfl | assumption | omega | (simp; done)
  exact (.tup' (.cons (.agg' (.cons (.int' rfl) (.cons (.int' rfl) (.cons (.str' rfl) (.cons (.str' rfl) (.cons (.int' rfl) (.cons (.int' rfl) (.cons (.int' rfl) (.cons (.lst _ _ _ (ci_pu .u8) rfl) .nil))))))))) (.cons (.int' rfl) .nil)))
def ref01_ReadAns_J1 (r1 : Int × Reader74) (r2 : Int × Reader74) (r3 : Int × Reader74) (r4 : Int × Reader74) (r5 : Int × Reader74) (r7 : Reader74) (names1 : List ByteArray) : Option (Ans × Int) :=
 (ref01_reader_str_f r7).bind fun r8 => chk (r8.1.size ≤ 140737488355328) ((ref01_reader_end_f r8.2).bind fun r9 => cond (r9.1 != 0) (some ((⟨0, 0, 0, 0, 0, [], []⟩ : Ans), r9.1)) (some ((⟨r1.1, r2.1, r3.1, r4.1, r5.1, names1, (strBytes r8.1)⟩ : Ans), 0)))
def ref01_ReadAns_J2 (k_ref01_ReadAns_L1 : Reader74 → (List ByteArray) → Int → Option (Ans × Int)) (r10 : Reader74) (names2 : List ByteArray) (i1 : Int) (r1 : Int × Reader74) (r2 : Int × Reader74) (r3 : Int × Reader74) (r4 : Int × Reader74) (r5 : Int × Reader74) (v1 : Bool) : Option (Ans × Int) :=
 cond v1 ((ref01_reader_str_f r10).bind fun r11 => chk ((names2.length + 1) * 16 ≤ 140737488355328) (k_ref01_ReadAns_L1 r11.2 (names2 ++ [r11.1]) (IntKind.wrap .i64 (i1 + 1)))) (ref01_ReadAns_J1 r1 r2 r3 r4 r5 r10 names2)
def ref01_ReadAns_L1 (r1 : Int × Reader74) (r2 : Int × Reader74) (r3 : Int × Reader74) (r4 : Int × Reader74) (r5 : Int × Reader74) (r6 : Int × (List Int) × Int) : Nat → Reader74 → (List ByteArray) → Int → Option (Ans × Int)
 | 0, _, _, _ => none
 | m_ + 1, r10, names2, i1 => ref01_ReadAns_J2 (ref01_ReadAns_L1 r1 r2 r3 r4 r5 r6 m_) r10 names2 i1 r1 r2 r3 r4 r5 ((decide (i1 < r6.1)) && (r10.e == 0))
def ref01_ReadAns_f (b1 : List Int) : Option (Ans × Int) :=
 (ref01_reader_num_f (⟨b1, 0⟩ : Reader74)).bind fun r1 => (ref01_reader_num_f r1.2).bind fun r2 => (ref01_reader_num_f r2.2).bind fun r3 => (ref01_reader_num_f r3.2).bind fun r4 => (ref01_reader_num_f r4.2).bind fun r5 => cond (r5.2.e != 0) (some ((⟨0, 0, 0, 0, 0, [], []⟩ : Ans), r5.2.e)) ((ref01_count_f r5.2.b).bind fun r6 => cond (r6.2.2 != 0) (some ((⟨0, 0, 0, 0, 0, [], []⟩ : Ans), r6.2.2)) (ref01_ReadAns_L1 r1 r2 r3 r4 r5 r6 BIG (⟨r6.2.1, r5.2.e⟩ : Reader74) [] 0))
set_option maxHeartbeats 4000000 in
set_option maxRecDepth 20000 in
theorem ref01_ReadAns_pc {b1 : List Int} {r : Ans × Int} (H : ref01_ReadAns_f b1 = some r) : PC Try.prog 37 [.list 1 (b1.map (ci .u8))] (.tup [.agg (Ans.c r.1), .int .i64 r.2]) := by
 refine pcA_of Try.func37 (by rfl) (by decide) 87 (by rfl) [.cell 2 30, .tmp 3] (by rfl) ?_
 unfold ref01_ReadAns_f at H
 simp only [ent]
 refine a_seq ?_
 refine a_reg _ rfl (s := ?zs1) ?_ ?_
 rotate_left
 ·simp only [EVT, stepR, evOp, St.ev, St.app, St.put, wrs, allOne, datOf, datOf1, TIS, CS, reduceAdd, reduceMul, reduceEqDiff, ↓reduceIte, reduceCtorEq, reduceLT, reduceLeDiff]
  (repeat' apply And.intro) <;> first|rfl|assumption|omega|(simp;done)|(simp;omega)|(simp_all;done)
 refine sA_n ?_
 refine a_seq ?_
 refine a_reg _ rfl (s := ?zs2) ?_ ?_
 rotate_left
 ·simp only [EVT, stepR, evOp, St.ev, St.app, St.put, wrs, fillD, setR, allOne, TIS, CS, reduceAdd, reduceMul, reduceEqDiff, ↓reduceIte, reduceCtorEq, reduceLT, reduceLeDiff, reduceSub, Nat.reduceBEq]
  (repeat' apply And.intro) <;> first|rfl|assumption|omega|(simp;done)|(simp;omega)|(simp_all;done)
 refine sA_n ?_
 refine a_seq ?_
 refine a_reg _ rfl (s := ?zs3) ?_ ?_
 rotate_left
 ·simp only [EVT, stepR, evOp, St.ev, St.app, St.put, wrs, fillD, setR, allOne, evStore, TIS, CS, reduceAdd, reduceMul, reduceEqDiff, ↓reduceIte, reduceCtorEq, reduceLT, reduceLeDiff, reduceSub, Nat.reduceBEq]
  (repeat' apply And.intro) <;> first|rfl|assumption|omega|(simp;done)|(simp;omega)|(simp_all;done)
 refine sA_n ?_
 refine a_seq ?_
 obtain ⟨r1, zh1, H⟩ := bind_some H
 have zk1 := ref01_reader_num_rc zh1
 refine a_reg _ rfl (s := ?zs4) ?_ ?_
 rotate_left
 ·try simp only [EVT, stepR, evOp, St.ev, St.app, St.put, wrs, frz, evFieldAddr, evStore, setR, allOne, TIS, CS, reduceAdd, reduceMul, reduceEqDiff, ↓reduceIte, reduceCtorEq, reduceLT, reduceLeDiff, reduceSub, Nat.reduceBEq]
  repeat' with_reducible apply And.intro
  all_goals try ((with_reducible show CallR _ _ _ _ _ _ _); refine callR_rcw (r' := .int .i64 r1.1) [(18, none), (18, some ⟨75, 2, false, [[.list 1 (r1.2.b.map (ci .u8)), .int .i64 r1.2.e]]⟩)] [(some 18, ⟨75, 2, false, [Reader74.c (⟨b1, 0⟩ : Reader74)]⟩)] [] [(18, 0, ⟨75, 2, false, [[.list 1 (r1.2.b.map (ci .u8)), .int .i64 r1.2.e]]⟩)] rfl zk1 (by simp) (by show ([18] : List Nat).Nodup; decide) (allB_some (by rfl) rfl (.cons (.cons (.lst _ _ _ (ci_pu .u8) rfl) (.cons (.int' rfl) .nil)) .nil) trivial) (.cons (.ptr _ _ _ _ _ rfl) .nil) (by show ([18] : List Nat).Nodup; decide) (by show ([0] : List Nat).Nodup; decide) ⟨.inl ⟨by decide, rfl⟩, ⟨_, rfl, ⟨rfl, rfl, rfl, rfl⟩, .cons (RNs.pu (Reader74.pu _)) .nil⟩, trivial⟩ (.int' rfl) ?_; simp only [EVT, stepR, evOp, St.ev, St.app, St.put, wrs, frz, evFieldAddr, evStore, setR, allOne, TIS, CS, reduceAdd, reduceMul, reduceEqDiff, ↓reduceIte, reduceCtorEq, reduceLT, reduceLeDiff, reduceSub, Nat.reduceBEq])
  all_goals ((repeat' apply And.intro) <;> first|rfl|assumption|omega|(simp;done)|(simp;omega)|(simp_all;done))
 refine sA_n ?_
 refine a_seq ?_
 obtain ⟨r2, zh2, H⟩ := bind_some H
 have zk2 := ref01_reader_num_rc zh2
 refine a_reg _ rfl (s := ?zs5) ?_ ?_
 rotate_left
 ·try simp only [EVT, stepR, evOp, St.ev, St.app, St.put, wrs, frz, evFieldAddr, evStore, setR, allOne, TIS, CS, reduceAdd, reduceMul, reduceEqDiff, ↓reduceIte, reduceCtorEq, reduceLT, reduceLeDiff, reduceSub, Nat.reduceBEq]
  repeat' with_reducible apply And.intro
  all_goals try ((with_reducible show CallR _ _ _ _ _ _ _); refine callR_rcw (r' := .int .i64 r2.1) [(18, none), (18, some ⟨75, 2, false, [[.list 1 (r2.2.b.map (ci .u8)), .int .i64 r2.2.e]]⟩)] [(some 18, ⟨75, 2, false, [Reader74.c r1.2]⟩)] [] [(18, 0, ⟨75, 2, false, [[.list 1 (r2.2.b.map (ci .u8)), .int .i64 r2.2.e]]⟩)] rfl zk2 (by simp) (by show ([18] : List Nat).Nodup; decide) (allB_some (by rfl) rfl (.cons (.cons (.lst _ _ _ (ci_pu .u8) rfl) (.cons (.int' rfl) .nil)) .nil) trivial) (.cons (.ptr _ _ _ _ _ rfl) .nil) (by show ([18] : List Nat).Nodup; decide) (by show ([0] : List Nat).Nodup; decide) ⟨.inl ⟨by decide, rfl⟩, ⟨_, rfl, ⟨rfl, rfl, rfl, rfl⟩, .cons (RNs.pu (Reader74.pu _)) .nil⟩, trivial⟩ (.int' rfl) ?_; simp only [EVT, stepR, evOp, St.ev, St.app, St.put, wrs, frz, evFieldAddr, evStore, setR, allOne, TIS, CS, reduceAdd, reduceMul, reduceEqDiff, ↓reduceIte, reduceCtorEq, reduceLT, reduceLeDiff, reduceSub, Nat.reduceBEq])
  all_goals ((repeat' apply And.intro) <;> first|rfl|assumption|omega|(simp;done)|(simp;omega)|(simp_all;done))
 refine sA_n ?_
 refine a_seq ?_
 obtain ⟨r3, zh3, H⟩ := bind_some H
 have zk3 := ref01_reader_num_rc zh3
 refine a_reg _ rfl (s := ?zs6) ?_ ?_
 rotate_left
 ·try simp only [EVT, stepR, evOp, St.ev, St.app, St.put, wrs, frz, evFieldAddr, evStore, setR, allOne, TIS, CS, reduceAdd, reduceMul, reduceEqDiff, ↓reduceIte, reduceCtorEq, reduceLT, reduceLeDiff, reduceSub, Nat.reduceBEq]
  repeat' with_reducible apply And.intro
  all_goals try ((with_reducible show CallR _ _ _ _ _ _ _); refine callR_rcw (r' := .int .i64 r3.1) [(18, none), (18, some ⟨75, 2, false, [[.list 1 (r3.2.b.map (ci .u8)), .int .i64 r3.2.e]]⟩)] [(some 18, ⟨75, 2, false, [Reader74.c r2.2]⟩)] [] [(18, 0, ⟨75, 2, false, [[.list 1 (r3.2.b.map (ci .u8)), .int .i64 r3.2.e]]⟩)] rfl zk3 (by simp) (by show ([18] : List Nat).Nodup; decide) (allB_some (by rfl) rfl (.cons (.cons (.lst _ _ _ (ci_pu .u8) rfl) (.cons (.int' rfl) .nil)) .nil) trivial) (.cons (.ptr _ _ _ _ _ rfl) .nil) (by show ([18] : List Nat).Nodup; decide) (by show ([0] : List Nat).Nodup; decide) ⟨.inl ⟨by decide, rfl⟩, ⟨_, rfl, ⟨rfl, rfl, rfl, rfl⟩, .cons (RNs.pu (Reader74.pu _)) .nil⟩, trivial⟩ (.int' rfl) ?_; simp only [EVT, stepR, evOp, St.ev, St.app, St.put, wrs, frz, evFieldAddr, evStore, setR, allOne, TIS, CS, reduceAdd, reduceMul, reduceEqDiff, ↓reduceIte, reduceCtorEq, reduceLT, reduceLeDiff, reduceSub, Nat.reduceBEq])
  all_goals ((repeat' apply And.intro) <;> first|rfl|assumption|omega|(simp;done)|(simp;omega)|(simp_all;done))
 refine sA_n ?_
 refine a_seq ?_
 obtain ⟨r4, zh4, H⟩ := bind_some H
 have zk4 := ref01_reader_num_rc zh4
 refine a_reg _ rfl (s := ?zs7) ?_ ?_
 rotate_left
 ·try simp only [EVT, stepR, evOp, St.ev, St.app, St.put, wrs, frz, evFieldAddr, evStore, setR, allOne, TIS, CS, reduceAdd, reduceMul, reduceEqDiff, ↓reduceIte, reduceCtorEq, reduceLT, reduceLeDiff, reduceSub, Nat.reduceBEq]
  repeat' with_reducible apply And.intro
  all_goals try ((with_reducible show CallR _ _ _ _ _ _ _); refine callR_rcw (r' := .int .i64 r4.1) [(18, none), (18, some ⟨75, 2, false, [[.list 1 (r4.2.b.map (ci .u8)), .int .i64 r4.2.e]]⟩)] [(some 18, ⟨75, 2, false, [Reader74.c r3.2]⟩)] [] [(18, 0, ⟨75, 2, false, [[.list 1 (r4.2.b.map (ci .u8)), .int .i64 r4.2.e]]⟩)] rfl zk4 (by simp) (by show ([18] : List Nat).Nodup; decide) (allB_some (by rfl) rfl (.cons (.cons (.lst _ _ _ (ci_pu .u8) rfl) (.cons (.int' rfl) .nil)) .nil) trivial) (.cons (.ptr _ _ _ _ _ rfl) .nil) (by show ([18] : List Nat).Nodup; decide) (by show ([0] : List Nat).Nodup; decide) ⟨.inl ⟨by decide, rfl⟩, ⟨_, rfl, ⟨rfl, rfl, rfl, rfl⟩, .cons (RNs.pu (Reader74.pu _)) .nil⟩, trivial⟩ (.int' rfl) ?_; simp only [EVT, stepR, evOp, St.ev, St.app, St.put, wrs, frz, evFieldAddr, evStore, setR, allOne, TIS, CS, reduceAdd, reduceMul, reduceEqDiff, ↓reduceIte, reduceCtorEq, reduceLT, reduceLeDiff, reduceSub, Nat.reduceBEq])
  all_goals ((repeat' apply And.intro) <;> first|rfl|assumption|omega|(simp;done)|(simp;omega)|(simp_all;done))
 refine sA_n ?_
 refine a_seq ?_
 obtain ⟨r5, zh5, H⟩ := bind_some H
 have zk5 := ref01_reader_num_rc zh5
 refine a_reg _ rfl (s := ?zs8) ?_ ?_
 rotate_left
 ·try simp only [EVT, stepR, evOp, St.ev, St.app, St.put, wrs, frz, evFieldAddr, evStore, setR, allOne, TIS, CS, reduceAdd, reduceMul, reduceEqDiff, ↓reduceIte, reduceCtorEq, reduceLT, reduceLeDiff, reduceSub, Nat.reduceBEq]
  repeat' with_reducible apply And.intro
  all_goals try ((with_reducible show CallR _ _ _ _ _ _ _); refine callR_rcw (r' := .int .i64 r5.1) [(18, none), (18, some ⟨75, 2, false, [[.list 1 (r5.2.b.map (ci .u8)), .int .i64 r5.2.e]]⟩)] [(some 18, ⟨75, 2, false, [Reader74.c r4.2]⟩)] [] [(18, 0, ⟨75, 2, false, [[.list 1 (r5.2.b.map (ci .u8)), .int .i64 r5.2.e]]⟩)] rfl zk5 (by simp) (by show ([18] : List Nat).Nodup; decide) (allB_some (by rfl) rfl (.cons (.cons (.lst _ _ _ (ci_pu .u8) rfl) (.cons (.int' rfl) .nil)) .nil) trivial) (.cons (.ptr _ _ _ _ _ rfl) .nil) (by show ([18] : List Nat).Nodup; decide) (by show ([0] : List Nat).Nodup; decide) ⟨.inl ⟨by decide, rfl⟩, ⟨_, rfl, ⟨rfl, rfl, rfl, rfl⟩, .cons (RNs.pu (Reader74.pu _)) .nil⟩, trivial⟩ (.int' rfl) ?_; simp only [EVT, stepR, evOp, St.ev, St.app, St.put, wrs, frz, evFieldAddr, evStore, setR, allOne, TIS, CS, reduceAdd, reduceMul, reduceEqDiff, ↓reduceIte, reduceCtorEq, reduceLT, reduceLeDiff, reduceSub, Nat.reduceBEq])
  all_goals ((repeat' apply And.intro) <;> first|rfl|assumption|omega|(simp;done)|(simp;omega)|(simp_all;done))
 refine sA_n ?_
 refine a_seq ?_
 refine a_seq ?_
 refine a_reg _ rfl (s := ?zs9) ?_ ?_
 rotate_left
 ·simp only [EVT, stepR, evOp, St.ev, St.app, St.put, wrs, evFieldAddr, evLoad, cut, datOf, datOf1, evBin, binInt, TIS, CS, reduceAdd, reduceMul, reduceEqDiff, ↓reduceIte, reduceCtorEq, reduceLT, reduceLeDiff, reduceSub, Nat.reduceBEq]
  (repeat' apply And.intro) <;> first|rfl|assumption|omega|(simp;done)|(simp;omega)|(simp_all;done)
 refine sA_n ?_
 refine a_condb ((r5.2.e != 0)) (by rfl) (fun zc1 => ?_) (fun zc1 => ?_)
 ·have H := cond_t zc1 H
  refine a_seq ?_
  refine a_drW (by kernel_rfl) _ rfl (s := ?zs10) (by kernel_rfl) (by kernel_rfl) ?zs10f ?_ ?_ ?_
  rotate_left 2
  ·simp only [EVT, stepW, evOp, St.ev, St.app, St.put, wrs, fillD, setR, evFieldAddr, evLoad, cut, evStore, allOne, TIS, CS, reduceAdd, reduceMul, reduceEqDiff, ↓reduceIte, reduceCtorEq, reduceLT, reduceLeDiff, reduceSub, Nat.reduceBEq, ↓zc1]
   (repeat' apply And.intro) <;> first|rfl|assumption|omega|(simp;done)|(simp;omega)|(simp_all;done)
  ·kernel_rfl
  refine sA_n ?_
  refine a_ret ?_
  refine sA_r ?_
  obtain rfl := Option.some.inj H
  refine e_r2 (d := ?zd1) ?_ ?_
  rotate_left
  ·simp only [EVT, resR, single, evLoad, cut, TIS, CS, reduceAdd, reduceEqDiff, ↓reduceIte, reduceCtorEq, reduceLT, reduceLeDiff, reduceSub, Nat.reduceBEq, zc1]
   (repeat' apply And.intro) <;> first | rfl | assumption | omega | (simp; done)
  exact (.tup' (.cons (.agg' (.cons (.int' rfl) (.cons (.int' rfl) (.cons (.int' rfl) (.cons (.int' rfl) (.cons (.int' rfl) (.cons (.nil _) (.cons (.nil _) .nil)))))))) (.cons (.int' rfl) .nil)))
 ·have H := cond_f zc1 H
  refine a_skip ?_
  refine sA_n ?_
  refine a_seq ?_
  obtain ⟨r6, zh6, H⟩ := bind_some H
  have zk6 := ref01_count_pc zh6
  refine a_reg _ rfl (s := ?zs11) ?_ ?_
  rotate_left
  ·try simp only [EVT, stepR, evOp, St.ev, St.app, St.put, wrs, evFieldAddr, evLoad, cut, frz, TIS, CS, reduceAdd, reduceMul, reduceEqDiff, ↓reduceIte, reduceCtorEq, reduceLT, reduceLeDiff, reduceSub, Nat.reduceBEq, ↓zc1]
   repeat' with_reducible apply And.intro
   all_goals try ((with_reducible show CallR _ _ _ _ _ _ _); refine cR_p zk6 (.cons (.lst _ _ _ (ci_pu .u8) rfl) .nil) ?_; simp only [EVT, stepR, evOp, St.ev, St.app, St.put, wrs, evFieldAddr, evLoad, cut, frz, TIS, CS, reduceAdd, reduceMul, reduceEqDiff, ↓reduceIte, reduceCtorEq, reduceLT, reduceLeDiff, reduceSub, Nat.reduceBEq, ↓zc1])
   all_goals ((repeat' apply And.intro) <;> first|rfl|assumption|omega|(simp;done)|(simp;omega)|(simp_all;done))
  refine sA_n ?_
  refine a_seq ?_
  refine a_seq ?_
  refine a_reg _ rfl (s := ?zs12) ?_ ?_
  rotate_left
  ·simp only [EVT, stepR, evOp, St.ev, St.app, St.put, wrs, datOf, datOf1, evBin, binInt, TIS, CS, reduceAdd, reduceMul, reduceEqDiff, ↓reduceIte, reduceCtorEq, reduceLT, reduceLeDiff, ↓zc1]
   (repeat' apply And.intro) <;> first|rfl|assumption|omega|(simp;done)|(simp;omega)|(simp_all;done)
  refine sA_n ?_
  refine a_condb ((r6.2.2 != 0)) (by rfl) (fun zc2 => ?_) (fun zc2 => ?_)
  ·have H := cond_t zc2 H
   refine a_seq ?_
   refine a_reg _ rfl (s := ?zs13) ?_ ?_
   rotate_left
   ·simp only [EVT, stepR, evOp, St.ev, St.app, St.put, wrs, fillD, setR, evStore, allOne, TIS, CS, reduceAdd, reduceMul, reduceEqDiff, ↓reduceIte, reduceCtorEq, reduceLT, reduceLeDiff, reduceSub, Nat.reduceBEq, ↓zc1, ↓zc2]
    (repeat' apply And.intro) <;> first|rfl|assumption|omega|(simp;done)|(simp;omega)|(simp_all;done)
   refine sA_n ?_
   refine a_ret ?_
   refine sA_r ?_
   obtain rfl := Option.some.inj H
   refine e_r2 (d := ?zd2) ?_ ?_
   rotate_left
   ·simp only [EVT, resR, single, evLoad, cut, TIS, CS, reduceAdd, reduceEqDiff, ↓reduceIte, reduceCtorEq, reduceLT, reduceLeDiff, reduceSub, Nat.reduceBEq, zc1, zc2]
    (repeat' apply And.intro) <;> first | rfl | assumption | omega | (simp; done)
   exact (.tup' (.cons (.agg' (.cons (.int' rfl) (.cons (.int' rfl) (.cons (.int' rfl) (.cons (.int' rfl) (.cons (.int' rfl) (.cons (.nil _) (.cons (.nil _) .nil)))))))) (.cons (.int' rfl) .nil)))
  ·have H := cond_f zc2 H
   refine a_skip ?_
   refine sA_n ?_
   refine a_seq ?_
   refine a_reg _ rfl (s := ?zs14) ?_ ?_
   rotate_left
   ·simp only [EVT, stepR, evOp, St.ev, St.app, St.put, wrs, evFieldAddr, evStore, setR, allOne, TIS, CS, reduceAdd, reduceMul, reduceEqDiff, ↓reduceIte, reduceCtorEq, reduceLT, reduceLeDiff, reduceSub, Nat.reduceBEq, ↓zc1, ↓zc2]
    (repeat' apply And.intro) <;> first|rfl|assumption|omega|(simp;done)|(simp;omega)|(simp_all;done)
   refine sA_n ?_
   refine a_cut (fun s => ∃ (r7 : Reader74) (names1 : List ByteArray) (t0 : Nat → Dat), ref01_ReadAns_J1 r1 r2 r3 r4 r5 r7 names1 = some r ∧ s = ⟨tl t0 [(2, .ptr 0 0 0 7), (4, .ptr 1 0 0 2), (5, .ptr 2 0 0 7)], hl [⟨30, 7, false, [[.int .i64 0, .int .i64 0, .int .i64 0, .int .i64 0, .int .i64 0, .nil, .nil]]⟩, ⟨75, 2, false, [[.list 1 (r7.b.map (ci .u8)), .int .i64 r7.e]]⟩, ⟨30, 7, false, [[.int .i64 r1.1, .int .i64 r2.1, .int .i64 r3.1, .int .i64 r4.1, .int .i64 r5.1, .ref 3 0 names1.length 1, .nil]]⟩, ⟨9, 1, false, names1.map cs⟩], 4, 87⟩) ?_ ?_
   ·refine a_seq ?_
    refine a_reg _ rfl (s := ?zs20) ?_ ?_
    rotate_left
    ·simp only [EVT, stepR, evOp, St.ev, St.app, St.put, wrs, datOf, datOf1, TIS, CS, reduceAdd, reduceMul, reduceEqDiff, ↓reduceIte, reduceCtorEq, reduceLT, reduceLeDiff, ↓zc1, ↓zc2]
     (repeat' apply And.intro) <;> first|rfl|assumption|omega|(simp;done)|(simp;omega)|(simp_all;done)
    refine sA_n ?_
    refine a_blk ?_
    refine a_loop (fun m s => ∃ (r10 : Reader74) (names2 : List ByteArray) (i1 : Int) (t0 : Nat → Dat), ref01_ReadAns_L1 r1 r2 r3 r4 r5 r6 m r10 names2 i1 = some r ∧ s = ⟨tl t0 [(2, .ptr 0 0 0 7), (4, .ptr 1 0 0 2), (5, .ptr 2 0 0 7), (6, .int .i64 r6.1), (9, .int .i64 i1)], hl [⟨30, 7, false, [[.int .i64 0, .int .i64 0, .int .i64 0, .int .i64 0, .int .i64 0, .nil, .nil]]⟩, ⟨75, 2, false, [[.list 1 (r10.b.map (ci .u8)), .int .i64 r10.e]]⟩, ⟨30, 7, false, [[.int .i64 r1.1, .int .i64 r2.1, .int .i64 r3.1, .int .i64 r4.1, .int .i64 r5.1, .ref 3 0 names2.length 1, .nil]]⟩, ⟨9, 1, false, names2.map cs⟩], 4, 87⟩) BIG ?_ ?_
    ·refine wk_l [(some 0, ⟨30, 7, false, [[.int .i64 0, .int .i64 0, .int .i64 0, .int .i64 0, .int .i64 0, .nil, .nil]]⟩), (some 18, ⟨75, 2, false, [[.list 1 ((⟨r6.2.1, r5.2.e⟩ : Reader74).b.map (ci .u8)), .int .i64 (⟨r6.2.1, r5.2.e⟩ : Reader74).e]]⟩), (some 49, ⟨30, 7, false, [[.int .i64 r1.1, .int .i64 r2.1, .int .i64 r3.1, .int .i64 r4.1, .int .i64 r5.1, .ref 3 0 [].length 1, .nil]]⟩), (none, ⟨9, 1, false, [].map cs⟩)] [] [(2, .ptr 0 0 0 7), (4, .ptr 1 0 0 2), (5, .ptr 2 0 0 7), (6, .int .i64 r6.1), (9, .int .i64 0)] (by show ([2, 4, 5, 6, 9] : List Nat).Nodup; decide) (by show ([0, 18, 49] : List Nat).Nodup; decide) ?_ ?_ (fun t0 => ⟨(⟨r6.2.1, r5.2.e⟩ : Reader74), [], 0, t0, H, rfl⟩)
     ·exact (allB_some (by rfl) rfl (.cons (.cons (.int' rfl) (.cons (.int' rfl) (.cons (.int' rfl) (.cons (.int' rfl) (.cons (.int' rfl) (.cons .nil' (.cons .nil' .nil))))))) .nil) (allB_some (by rfl) rfl (.cons (.cons (.lst _ _ _ (ci_pu .u8) rfl) (.cons (.int' rfl) .nil)) .nil) (allB_some (by rfl) rfl (.cons (.cons (.int' rfl) (.cons (.int' rfl) (.cons (.int' rfl) (.cons (.int' rfl) (.cons (.int' rfl) (.cons (.nilv _ _ rfl rfl) (.cons .nil' .nil))))))) .nil) (allB_none rfl trivial))))
     ·(simp only [AllT, tl_cons, tl_nil, upd_apply, List.getD_cons_zero, List.getD_cons_succ, reduceEqDiff, ↓reduceIte, and_true]); exact ⟨(.ptr _ _ _ _ _ rfl), (.ptr _ _ _ _ _ rfl), (.ptr _ _ _ _ _ rfl), (.int' rfl), (.int' rfl)⟩
    ·rintro m_ref01_ReadAns_L1 s ⟨r10, names2, i1, t0, H, rfl⟩
     obtain _ | m_ref01_ReadAns_L1 := m_ref01_ReadAns_L1
     ·cases (show (none : Option _) = some _ from H)
     ·rw [ref01_ReadAns_L1] at H
      refine a_seq ?_
      refine a_cut (fun s => ∃ (v1 : Bool) (t0 : Nat → Dat), ref01_ReadAns_J2 (ref01_ReadAns_L1 r1 r2 r3 r4 r5 r6 m_ref01_ReadAns_L1) r10 names2 i1 r1 r2 r3 r4 r5 v1 = some r ∧ s = ⟨tl t0 [(2, .ptr 0 0 0 7), (4, .ptr 1 0 0 2), (5, .ptr 2 0 0 7), (6, .int .i64 r6.1), (9, .int .i64 i1), (66, .bool v1)], hl [⟨30, 7, false, [[.int .i64 0, .int .i64 0, .int .i64 0, .int .i64 0, .int .i64 0, .nil, .nil]]⟩, ⟨75, 2, false, [[.list 1 (r10.b.map (ci .u8)), .int .i64 r10.e]]⟩, ⟨30, 7, false, [[.int .i64 r1.1, .int .i64 r2.1, .int .i64 r3.1, .int .i64 r4.1, .int .i64 r5.1, .ref 3 0 names2.length 1, .nil]]⟩, ⟨9, 1, false, names2.map cs⟩], 4, 87⟩) ?_ ?_
      ·refine bool_split (b := (decide (i1 < r6.1))) (fun zc5 => ?_) (fun zc5 => ?_)
       ·rw [zc5] at H
        refine a_reg _ rfl (s := ?zs23) ?_ ?_
        rotate_left
        ·simp only [EVT, stepR, evOp, St.ev, St.app, St.put, wrs, evBin, binInt, evFieldAddr, evLoad, cut, datOf, datOf1, TIS, CS, reduceAdd, reduceMul, reduceEqDiff, ↓reduceIte, reduceCtorEq, reduceLT, reduceLeDiff, Array.reduceGetElem?, reduceSub, Nat.reduceBEq, ↓zc5]
         try simp only [EVT, stepR, evOp, St.ev, St.app, St.put, wrs, evBin, binInt, evFieldAddr, evLoad, cut, datOf, datOf1, TIS, CS, reduceAdd, reduceMul, reduceEqDiff, ↓reduceIte, reduceCtorEq, reduceLT, reduceLeDiff, Array.reduceGetElem?, reduceSub, Nat.reduceBEq, ↓zc5]
         (repeat' apply And.intro) <;> first|rfl|assumption|omega|(simp;done)|(simp;omega)|(simp_all;done)
        refine cA_n ?_
        refine wk_l [(some 0, ⟨30, 7, false, [[.int .i64 0, .int .i64 0, .int .i64 0, .int .i64 0, .int .i64 0, .nil, .nil]]⟩), (some 1, ⟨75, 2, false, [[.list 1 (r10.b.map (ci .u8)), .int .i64 r10.e]]⟩), (some 2, ⟨30, 7, false, [[.int .i64 r1.1, .int .i64 r2.1, .int .i64 r3.1, .int .i64 r4.1, .int .i64 r5.1, .ref 3 0 names2.length 1, .nil]]⟩), (some 3, ⟨9, 1, false, names2.map cs⟩)] [] [(2, .ptr 0 0 0 7), (4, .ptr 1 0 0 2), (5, .ptr 2 0 0 7), (6, .int .i64 r6.1), (9, .int .i64 i1), (66, .bool (r10.e == 0))] (by show ([2, 4, 5, 6, 9, 66] : List Nat).Nodup; decide) (by show ([0, 1, 2, 3] : List Nat).Nodup; decide) ?_ ?_ (fun t0 => ⟨(r10.e == 0), t0, H, rfl⟩)
        ·exact (allB_some (by rfl) rfl (.cons (.cons (.int' rfl) (.cons (.int' rfl) (.cons (.int' rfl) (.cons (.int' rfl) (.cons (.int' rfl) (.cons .nil' (.cons .nil' .nil))))))) .nil) (allB_some (by rfl) rfl (.cons (.cons (.lst _ _ _ (ci_pu .u8) rfl) (.cons (.int' rfl) .nil)) .nil) (allB_some (by rfl) rfl (.cons (.cons (.int' rfl) (.cons (.int' rfl) (.cons (.int' rfl) (.cons (.int' rfl) (.cons (.int' rfl) (.cons (.refl' (by first | rfl | omega | (simp; done) | (simp [strBytes_len]; done) | (simp; omega) | (simp_all; done)) rfl) (.cons .nil' .nil))))))) .nil) (allB_some (by rfl) rfl (.same _ _ cs_pu (by first | rfl | (simp only [MPT, CS,  List.nil_append]; done) | (simp [CS,  ci_eq, cb_eq, cs_eq, cl_eq]; done) | (simp [CS,  ci_eq, cb_eq, cs_eq, cl_eq]; intro hz; rw [List.take_of_length_le (by simp; omega)]))) trivial))))
        ·(simp only [AllT, tl_cons, tl_nil, upd_apply, List.getD_cons_zero, List.getD_cons_succ, reduceEqDiff, ↓reduceIte, and_true]); exact ⟨(.ptr _ _ _ _ _ rfl), (.ptr _ _ _ _ _ rfl), (.ptr _ _ _ _ _ rfl), (.int' rfl), (.int' rfl), (.bool' rfl)⟩
       ·rw [zc5] at H
        refine a_reg _ rfl (s := ?zs24) ?_ ?_
        rotate_left
        ·simp only [EVT, stepR, evOp, St.ev, St.app, St.put, wrs, evBin, binInt, evFieldAddr, evLoad, cut, datOf, datOf1, TIS, CS, reduceAdd, reduceMul, reduceEqDiff, ↓reduceIte, reduceCtorEq, reduceLT, reduceLeDiff, Array.reduceGetElem?, reduceSub, Nat.reduceBEq, ↓zc5]
         try simp only [EVT, stepR, evOp, St.ev, St.app, St.put, wrs, evBin, binInt, evFieldAddr, evLoad, cut, datOf, datOf1, TIS, CS, reduceAdd, reduceMul, reduceEqDiff, ↓reduceIte, reduceCtorEq, reduceLT, reduceLeDiff, Array.reduceGetElem?, reduceSub, Nat.reduceBEq, ↓zc5]
         (repeat' apply And.intro) <;> first|rfl|assumption|omega|(simp;done)|(simp;omega)|(simp_all;done)
        refine cA_n ?_
        refine wk_l [(some 0, ⟨30, 7, false, [[.int .i64 0, .int .i64 0, .int .i64 0, .int .i64 0, .int .i64 0, .nil, .nil]]⟩), (some 1, ⟨75, 2, false, [[.list 1 (r10.b.map (ci .u8)), .int .i64 r10.e]]⟩), (some 2, ⟨30, 7, false, [[.int .i64 r1.1, .int .i64 r2.1, .int .i64 r3.1, .int .i64 r4.1, .int .i64 r5.1, .ref 3 0 names2.length 1, .nil]]⟩), (some 3, ⟨9, 1, false, names2.map cs⟩)] [] [(2, .ptr 0 0 0 7), (4, .ptr 1 0 0 2), (5, .ptr 2 0 0 7), (6, .int .i64 r6.1), (9, .int .i64 i1), (66, .bool false)] (by show ([2, 4, 5, 6, 9, 66] : List Nat).Nodup; decide) (by show ([0, 1, 2, 3] : List Nat).Nodup; decide) ?_ ?_ (fun t0 => ⟨false, t0, H, rfl⟩)
        ·exact (allB_some (by rfl) rfl (.cons (.cons (.int' rfl) (.cons (.int' rfl) (.cons (.int' rfl) (.cons (.int' rfl) (.cons (.int' rfl) (.cons .nil' (.cons .nil' .nil))))))) .nil) (allB_some (by rfl) rfl (.cons (.cons (.lst _ _ _ (ci_pu .u8) rfl) (.cons (.int' rfl) .nil)) .nil) (allB_some (by rfl) rfl (.cons (.cons (.int' rfl) (.cons (.int' rfl) (.cons (.int' rfl) (.cons (.int' rfl) (.cons (.int' rfl) (.cons (.refl' (by first | rfl | omega | (simp; done) | (simp [strBytes_len]; done) | (simp; omega) | (simp_all; done)) rfl) (.cons .nil' .nil))))))) .nil) (allB_some (by rfl) rfl (.same _ _ cs_pu (by first | rfl | (simp only [MPT, CS,  List.nil_append]; done) | (simp [CS,  ci_eq, cb_eq, cs_eq, cl_eq]; done) | (simp [CS,  ci_eq, cb_eq, cs_eq, cl_eq]; intro hz; rw [List.take_of_length_le (by simp; omega)]))) trivial))))
        ·(simp only [AllT, tl_cons, tl_nil, upd_apply, List.getD_cons_zero, List.getD_cons_succ, reduceEqDiff, ↓reduceIte, and_true]); exact ⟨(.ptr _ _ _ _ _ rfl), (.ptr _ _ _ _ _ rfl), (.ptr _ _ _ _ _ rfl), (.int' rfl), (.int' rfl), (.bool' (by first | rfl | assumption | (simp_all; done)))⟩
      ·rintro s ⟨v1, t0, H, rfl⟩
       unfold ref01_ReadAns_J2 at H
       refine a_condb (v1) (by rfl) (fun zc4 => ?_) (fun zc4 => ?_)
       ·have H := cond_t zc4 H
        refine a_skip ?_
        refine sA_n ?_
        refine a_seq ?_
        refine a_blk ?_
        obtain ⟨r11, zh10, H⟩ := bind_some H
        have zk9 := ref01_reader_str_rc zh10
        obtain ⟨zh11, H⟩ := chk_some H
        refine a_drW (by kernel_rfl) _ rfl (s := ?zs21) (by kernel_rfl) (by kernel_rfl) ?zs21f ?_ ?_ ?_
        rotate_left 2
        ·try simp only [EVT, stepW, evOp, St.ev, St.app, St.put, wrs, evFieldAddr, evLoad, cut, frz, allOne, evBuiltin, evAppend, elems, Option.elim, evStore, setR, TIS, CS, reduceAdd, reduceMul, reduceEqDiff, ↓reduceIte, reduceCtorEq, reduceLT, reduceLeDiff, reduceSub, Nat.reduceBEq, ↓zc4]
         repeat' with_reducible apply And.intro
         all_goals try ((with_reducible show CallW _ _ _ _ _ _ _); refine callW_rcw (r' := .str r11.1) [1] [(1, none), (1, some ⟨75, 2, false, [[.list 1 (r11.2.b.map (ci .u8)), .int .i64 r11.2.e]]⟩)] [(some 1, ⟨75, 2, false, [Reader74.c r10]⟩)] [] [(1, 0, ⟨75, 2, false, [[.list 1 (r11.2.b.map (ci .u8)), .int .i64 r11.2.e]]⟩)] rfl (by decide) zk9 (by simp) (by show ([1] : List Nat).Nodup; decide) (fun h2 e => (allB_some ((e 1 (by simp)).trans (by rfl)) rfl (.cons (.cons (.lst _ _ _ (ci_pu .u8) rfl) (.cons (.int' rfl) .nil)) .nil) trivial)) (fun h2 e => (.cons (.ptr _ _ _ _ _ rfl) .nil)) (by show ([1] : List Nat).Nodup; decide) (by show ([0] : List Nat).Nodup; decide) ⟨.inl ⟨by decide, rfl⟩, ⟨_, rfl, ⟨rfl, rfl, rfl, rfl⟩, .cons (RNs.pu (Reader74.pu _)) .nil⟩, trivial⟩ (.str' rfl) ?_; simp only [EVT, stepW, evOp, St.ev, St.app, St.put, wrs, evFieldAddr, evLoad, cut, frz, allOne, evBuiltin, evAppend, elems, Option.elim, evStore, setR, TIS, CS, reduceAdd, reduceMul, reduceEqDiff, ↓reduceIte, reduceCtorEq, reduceLT, reduceLeDiff, reduceSub, Nat.reduceBEq, ↓zc4])
         all_goals ((repeat' apply And.intro) <;> first|rfl|assumption|omega|(simp;done)|(simp;omega)|(simp_all;done))
        ·kernel_rfl
        refine bA_n ?_
        refine sA_n ?_
        refine a_reg _ rfl (s := ?zs22) ?_ ?_
        rotate_left
        ·simp only [EVT, stepR, evOp, St.ev, St.app, St.put, wrs, datOf, datOf1, evBin, binInt, TIS, CS, reduceAdd, reduceMul, reduceEqDiff, ↓reduceIte, reduceCtorEq, reduceLT, reduceLeDiff, ↓zc4]
         (repeat' apply And.intro) <;> first|rfl|assumption|omega|(simp;done)|(simp;omega)|(simp_all;done)
        refine lA_n ?_
        refine wk_l [(some 0, ⟨30, 7, false, [[.int .i64 0, .int .i64 0, .int .i64 0, .int .i64 0, .int .i64 0, .nil, .nil]]⟩), (some 1, ⟨75, 2, false, [[.list 1 (r11.2.b.map (ci .u8)), .int .i64 r11.2.e]]⟩), (some 2, ⟨30, 7, false, [[.int .i64 r1.1, .int .i64 r2.1, .int .i64 r3.1, .int .i64 r4.1, .int .i64 r5.1, .ref 3 0 (names2 ++ [r11.1]).length 1, .nil]]⟩), (some 9, ⟨9, 1, false, (names2 ++ [r11.1]).map cs⟩)] [] [(2, .ptr 0 0 0 7), (4, .ptr 1 0 0 2), (5, .ptr 2 0 0 7), (6, .int .i64 r6.1), (9, .int .i64 (IntKind.wrap .i64 (i1 + 1)))] (by show ([2, 4, 5, 6, 9] : List Nat).Nodup; decide) (by show ([0, 1, 2, 9] : List Nat).Nodup; decide) ?_ ?_ (fun t0 => ⟨_, Nat.lt_succ_self _, r11.2, (names2 ++ [r11.1]), (IntKind.wrap .i64 (i1 + 1)), t0, H, rfl⟩)
        ·exact (allB_some (by rfl) rfl (.cons (.cons (.int' rfl) (.cons (.int' rfl) (.cons (.int' rfl) (.cons (.int' rfl) (.cons (.int' rfl) (.cons .nil' (.cons .nil' .nil))))))) .nil) (allB_some (by rfl) rfl (.cons (.cons (.lst _ _ _ (ci_pu .u8) rfl) (.cons (.int' rfl) .nil)) .nil) (allB_some (by rfl) rfl (.cons (.cons (.int' rfl) (.cons (.int' rfl) (.cons (.int' rfl) (.cons (.int' rfl) (.cons (.int' rfl) (.cons (.refl' (by first | rfl | omega | (simp; done) | (simp [strBytes_len]; done) | (simp; omega) | (simp_all; done)) rfl) (.cons .nil' .nil))))))) .nil) (allB_some (by rfl) rfl (.same _ _ cs_pu (by first | rfl | (simp only [MPT, CS,  List.nil_append]; done) | (simp [CS,  ci_eq, cb_eq, cs_eq, cl_eq]; done) | (simp [CS,  ci_eq, cb_eq, cs_eq, cl_eq]; intro hz; rw [List.take_of_length_le (by simp; omega)]))) trivial))))
        ·(simp only [AllT, tl_cons, tl_nil, upd_apply, List.getD_cons_zero, List.getD_cons_succ, reduceEqDiff, ↓reduceIte, and_true]); exact ⟨(.ptr _ _ _ _ _ rfl), (.ptr _ _ _ _ _ rfl), (.ptr _ _ _ _ _ rfl), (.int' rfl), (.int' rfl)⟩
       ·have H := cond_f zc4 H
        refine a_exit ?_
        refine sA_e ?_
        refine lA_e ?_
        refine bA_hit ?_
        refine cA_n ?_
        refine wk_l [(some 0, ⟨30, 7, false, [[.int .i64 0, .int .i64 0, .int .i64 0, .int .i64 0, .int .i64 0, .nil, .nil]]⟩), (some 1, ⟨75, 2, false, [[.list 1 (r10.b.map (ci .u8)), .int .i64 r10.e]]⟩), (some 2, ⟨30, 7, false, [[.int .i64 r1.1, .int .i64 r2.1, .int .i64 r3.1, .int .i64 r4.1, .int .i64 r5.1, .ref 3 0 names2.length 1, .nil]]⟩), (some 3, ⟨9, 1, false, names2.map cs⟩)] [] [(2, .ptr 0 0 0 7), (4, .ptr 1 0 0 2), (5, .ptr 2 0 0 7)] (by show ([2, 4, 5] : List Nat).Nodup; decide) (by show ([0, 1, 2, 3] : List Nat).Nodup; decide) ?_ ?_ (fun t0 => ⟨r10, names2, t0, H, rfl⟩)
        ·exact (allB_some (by rfl) rfl (.cons (.cons (.int' rfl) (.cons (.int' rfl) (.cons (.int' rfl) (.cons (.int' rfl) (.cons (.int' rfl) (.cons .nil' (.cons .nil' .nil))))))) .nil) (allB_some (by rfl) rfl (.cons (.cons (.lst _ _ _ (ci_pu .u8) rfl) (.cons (.int' rfl) .nil)) .nil) (allB_some (by rfl) rfl (.cons (.cons (.int' rfl) (.cons (.int' rfl) (.cons (.int' rfl) (.cons (.int' rfl) (.cons (.int' rfl) (.cons (.refl' (by first | rfl | omega | (simp; done) | (simp [strBytes_len]; done) | (simp; omega) | (simp_all; done)) rfl) (.cons .nil' .nil))))))) .nil) (allB_some (by rfl) rfl (.same _ _ cs_pu (by first | rfl | (simp only [MPT, CS,  List.nil_append]; done) | (simp [CS,  ci_eq, cb_eq, cs_eq, cl_eq]; done) | (simp [CS,  ci_eq, cb_eq, cs_eq, cl_eq]; intro hz; rw [List.take_of_length_le (by simp; omega)]))) trivial))))
        ·(simp only [AllT, tl_cons, tl_nil, upd_apply, List.getD_cons_zero, List.getD_cons_succ, reduceEqDiff, ↓reduceIte, and_true]); exact ⟨(.ptr _ _ _ _ _ rfl), (.ptr _ _ _ _ _ rfl), (.ptr _ _ _ _ _ rfl)⟩
   ·rintro s ⟨r7, names1, t0, H, rfl⟩
    unfold ref01_ReadAns_J1 at H
    refine a_seq ?_
    obtain ⟨r8, zh7, H⟩ := bind_some H
    have zk7 := ref01_reader_str_rc zh7
    obtain ⟨zh8, H⟩ := chk_some H
    refine a_reg _ rfl (s := ?zs15) ?_ ?_
    rotate_left
    ·try simp only [EVT, stepR, evOp, St.ev, St.app, St.put, wrs, frz, evToStr, elems, evFieldAddr, evStore, setR, allOne, TIS, othE, evAppStr, strCells_eq, strBytes_len, CS, reduceAdd, reduceMul, reduceEqDiff, ↓reduceIte, reduceCtorEq, reduceLT, reduceLeDiff, reduceSub, Nat.reduceBEq]
     repeat' with_reducible apply And.intro
     all_goals try ((with_reducible show CallR _ _ _ _ _ _ _); refine callR_rcw (r' := .str r8.1) [(1, none), (1, some ⟨75, 2, false, [[.list 1 (r8.2.b.map (ci .u8)), .int .i64 r8.2.e]]⟩)] [(some 1, ⟨75, 2, false, [Reader74.c r7]⟩)] [] [(1, 0, ⟨75, 2, false, [[.list 1 (r8.2.b.map (ci .u8)), .int .i64 r8.2.e]]⟩)] rfl zk7 (by simp) (by show ([1] : List Nat).Nodup; decide) (allB_some (by rfl) rfl (.cons (.cons (.lst _ _ _ (ci_pu .u8) rfl) (.cons (.int' rfl) .nil)) .nil) trivial) (.cons (.ptr _ _ _ _ _ rfl) .nil) (by show ([1] : List Nat).Nodup; decide) (by show ([0] : List Nat).Nodup; decide) ⟨.inl ⟨by decide, rfl⟩, ⟨_, rfl, ⟨rfl, rfl, rfl, rfl⟩, .cons (RNs.pu (Reader74.pu _)) .nil⟩, trivial⟩ (.str' rfl) ?_; simp only [EVT, stepR, evOp, St.ev, St.app, St.put, wrs, frz, evToStr, elems, evFieldAddr, evStore, setR, allOne, TIS, othE, evAppStr, strCells_eq, strBytes_len, CS, reduceAdd, reduceMul, reduceEqDiff, ↓reduceIte, reduceCtorEq, reduceLT, reduceLeDiff, reduceSub, Nat.reduceBEq])
     repeat' with_reducible apply And.intro
     all_goals try ((with_reducible show OthR _ _ _ _ _); refine oth_strbytes rfl rfl Try.underlying9 Try.underlying22 Try.underlying5 (by assumption) ?_; simp only [EVT, stepR, evOp, St.ev, St.app, St.put, wrs, frz, evToStr, elems, evFieldAddr, evStore, setR, allOne, TIS, othE, evAppStr, strCells_eq, strBytes_len, CS, reduceAdd, reduceMul, reduceEqDiff, ↓reduceIte, reduceCtorEq, reduceLT, reduceLeDiff, reduceSub, Nat.reduceBEq])
     all_goals ((repeat' apply And.intro) <;> first|rfl|assumption|omega|(simp;done)|(simp;omega)|(simp_all;done))
    refine sA_n ?_
    refine a_seq ?_
    obtain ⟨r9, zh9, H⟩ := bind_some H
    have zk8 := ref01_reader_end_rc zh9
    refine a_reg _ rfl (s := ?zs16) ?_ ?_
    rotate_left
    ·try simp only [EVT, stepR, evOp, St.ev, St.app, St.put, wrs, frz, TIS, CS, reduceAdd, reduceMul, reduceEqDiff, ↓reduceIte, reduceCtorEq, reduceLT, reduceLeDiff, reduceSub, Nat.reduceBEq]
     repeat' with_reducible apply And.intro
     all_goals try ((with_reducible show CallR _ _ _ _ _ _ _); refine callR_rcw (r' := .int .i64 r9.1) [(1, none), (1, some ⟨75, 2, false, [[.list 1 (r9.2.b.map (ci .u8)), .int .i64 r9.2.e]]⟩)] [(some 1, ⟨75, 2, false, [Reader74.c r8.2]⟩)] [] [(1, 0, ⟨75, 2, false, [[.list 1 (r9.2.b.map (ci .u8)), .int .i64 r9.2.e]]⟩)] rfl zk8 (by simp) (by show ([1] : List Nat).Nodup; decide) (allB_some (by rfl) rfl (.cons (.cons (.lst _ _ _ (ci_pu .u8) rfl) (.cons (.int' rfl) .nil)) .nil) trivial) (.cons (.ptr _ _ _ _ _ rfl) .nil) (by show ([1] : List Nat).Nodup; decide) (by show ([0] : List Nat).Nodup; decide) ⟨.inl ⟨by decide, rfl⟩, ⟨_, rfl, ⟨rfl, rfl, rfl, rfl⟩, .cons (RNs.pu (Reader74.pu _)) .nil⟩, trivial⟩ (.int' rfl) ?_; simp only [EVT, stepR, evOp, St.ev, St.app, St.put, wrs, frz, TIS, CS, reduceAdd, reduceMul, reduceEqDiff, ↓reduceIte, reduceCtorEq, reduceLT, reduceLeDiff, reduceSub, Nat.reduceBEq])
     all_goals ((repeat' apply And.intro) <;> first|rfl|assumption|omega|(simp;done)|(simp;omega)|(simp_all;done))
    refine sA_n ?_
    refine a_seq ?_
    refine a_seq ?_
    refine a_reg _ rfl (s := ?zs17) ?_ ?_
    rotate_left
    ·simp only [EVT, stepR, evOp, St.ev, St.app, St.put, wrs, datOf, datOf1, evBin, binInt, TIS, CS, reduceAdd, reduceMul, reduceEqDiff, ↓reduceIte, reduceCtorEq, reduceLT, reduceLeDiff]
     (repeat' apply And.intro) <;> first|rfl|assumption|omega|(simp;done)|(simp;omega)|(simp_all;done)
    refine sA_n ?_
    refine a_condb ((r9.1 != 0)) (by rfl) (fun zc3 => ?_) (fun zc3 => ?_)
    ·have H := cond_t zc3 H
     refine a_seq ?_
     refine a_reg _ rfl (s := ?zs18) ?_ ?_
     rotate_left
     ·simp only [EVT, stepR, evOp, St.ev, St.app, St.put, wrs, fillD, setR, evStore, allOne, TIS, CS, reduceAdd, reduceMul, reduceEqDiff, ↓reduceIte, reduceCtorEq, reduceLT, reduceLeDiff, reduceSub, Nat.reduceBEq, ↓zc3]
      (repeat' apply And.intro) <;> first|rfl|assumption|omega|(simp;done)|(simp;omega)|(simp_all;done)
     refine sA_n ?_
     refine a_ret ?_
     refine sA_r ?_
     obtain rfl := Option.some.inj H
     refine e_r2 (d := ?zd3) ?_ ?_
     rotate_left
     ·simp only [EVT, resR, single, evLoad, cut, TIS, CS, reduceAdd, reduceEqDiff, ↓reduceIte, reduceCtorEq, reduceLT, reduceLeDiff, reduceSub, Nat.reduceBEq, zc3]
      (repeat' apply And.intro) <;> first | rfl | assumption | omega | (simp; done)
     exact (.tup' (.cons (.agg' (.cons (.int' rfl) (.cons (.int' rfl) (.cons (.int' rfl) (.cons (.int' rfl) (.cons (.int' rfl) (.cons (.nil _) (.cons (.nil _) .nil)))))))) (.cons (.int' rfl) .nil)))
    ·have H := cond_f zc3 H
     refine a_skip ?_
     refine sA_n ?_
     refine a_seq ?_
     refine a_reg _ rfl (s := ?zs19) ?_ ?_
     rotate_left
     ·simp only [EVT, stepR, evOp, St.ev, St.app, St.put, wrs, evLoad, cut, evStore, setR, allOne, datOf, datOf1, TIS, CS, reduceAdd, reduceMul, reduceEqDiff, ↓reduceIte, reduceCtorEq, reduceLT, reduceLeDiff, reduceSub, Nat.reduceBEq, ↓zc3]
      (repeat' apply And.intro) <;> first|rfl|assumption|omega|(simp;done)|(simp;omega)|(simp_all;done)
     refine sA_n ?_
     refine a_ret ?_
     obtain rfl := Option.some.inj H
     refine e_r2 (d := ?zd4) ?_ ?_
     rotate_left
     ·simp only [EVT, resR, single, evLoad, cut, TIS, CS, reduceAdd, reduceEqDiff, ↓reduceIte, reduceCtorEq, reduceLT, reduceLeDiff, reduceSub, Nat.reduceBEq, zc3]
      (repeat' apply And.intro) <;> first | rfl | assumption | omega | (simp; done)
     exact (.tup' (.cons (.agg' (.cons (.int' rfl) (.cons (.int' rfl) (.cons (.int' rfl) (.cons (.int' rfl) (.cons (.int' rfl) (.cons (.ownL (by rfl) (fun e => by cases e) rfl (by first | rfl | omega | (simp; done) | (simp [strBytes_len]; done) | (simp; omega) | (simp_all; done)) (.same _ _ cs_pu (by first | rfl | (simp only [MPT, CS,  List.nil_append]; done) | (simp [CS,  ci_eq, cb_eq, cs_eq, cl_eq]; done) | (simp [CS,  ci_eq, cb_eq, cs_eq, cl_eq]; intro hz; rw [List.take_of_length_le (by simp; omega)])))) (.cons (.lst _ _ _ (ci_pu .u8) rfl) .nil)))))))) (.cons (.int' rfl) .nil)))
end
end Go.Proofs.Ytifkepfcjhebfaa
