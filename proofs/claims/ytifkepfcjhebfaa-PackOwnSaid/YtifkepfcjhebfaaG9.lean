/- Functions of the program as Lean functions, and that they are so; printed by a program of mine. -/
import Derived.Test.YtifkepfcjhebfaaF6
set_option linter.unusedSimpArgs false
set_option linter.unusedVariables false
namespace Go.Proofs.Ytifkepfcjhebfaa
open Go.Ab
open Nat (reduceAdd reduceMul reduceEqDiff reduceLT reduceLeDiff reduceSub)
noncomputable section

def law01_PackOwn_J3 (r2 : (List Int)) (r1 : Bool) (v3 : Bool) : Option Bool :=
 cond v3 (some (false)) ((pack_ReadOp_f r2).bind fun r6 => (pack_ReadAns_f r2).bind fun r7 => cond r1 (cond (r6.2 == 0) ((pack_Op_f r6.1).bind fun r8 => (ref01_Same_f r8 r2).bind fun r9 => cond r9 (cond (r7.2 == 0) ((pack_Ans_f r7.1).bind fun r10 => (ref01_Same_f r10 r2).bind fun r11 => cond r11 (some (true)) (cond (r7.2 != 0) ((ref01_SameAns_f r7.1 (⟨0, 0, 0, 0, 0, [], []⟩ : Ans)).bind fun r12 => some (r12)) (some (false)))) (cond (r7.2 != 0) ((ref01_SameAns_f r7.1 (⟨0, 0, 0, 0, 0, [], []⟩ : Ans)).bind fun r13 => some (r13)) (some (false)))) (cond (r6.2 != 0) ((ref01_SameOp_f r6.1 (⟨0, 0, ByteArray.empty, ByteArray.empty, 0, 0, 0, []⟩ : Op)).bind fun r14 => cond r14 (cond (r7.2 == 0) ((pack_Ans_f r7.1).bind fun r15 => (ref01_Same_f r15 r2).bind fun r16 => cond r16 (some (true)) (cond (r7.2 != 0) ((ref01_SameAns_f r7.1 (⟨0, 0, 0, 0, 0, [], []⟩ : Ans)).bind fun r17 => some (r17)) (some (false)))) (cond (r7.2 != 0) ((ref01_SameAns_f r7.1 (⟨0, 0, 0, 0, 0, [], []⟩ : Ans)).bind fun r18 => some (r18)) (some (false)))) (some (false))) (some (false)))) (cond (r6.2 != 0) ((ref01_SameOp_f r6.1 (⟨0, 0, ByteArray.empty, ByteArray.empty, 0, 0, 0, []⟩ : Op)).bind fun r19 => cond r19 (cond (r7.2 == 0) ((pack_Ans_f r7.1).bind fun r20 => (ref01_Same_f r20 r2).bind fun r21 => cond r21 (some (true)) (cond (r7.2 != 0) ((ref01_SameAns_f r7.1 (⟨0, 0, 0, 0, 0, [], []⟩ : Ans)).bind fun r22 => some (r22)) (some (false)))) (cond (r7.2 != 0) ((ref01_SameAns_f r7.1 (⟨0, 0, 0, 0, 0, [], []⟩ : Ans)).bind fun r23 => some (r23)) (some (false)))) (some (false))) (some (false)))) (some (false)))
def law01_PackOwn_J2 (r2 : (List Int)) (r1 : Bool) (v2 : Bool) : Option Bool :=
 cond v2 (some (false)) ((pack_ReadInts_f r2).bind fun r5 => cond (r5.2.2 == 0) ((pack_Ints_f r5.1).bind fun r24 => (law01_few_f r24).bind fun r25 => chk ((r25.length + r5.2.1.length) * 1 ≤ 140737488355328) ((ref01_Same_f (r25 ++ r5.2.1) r2).bind fun r26 => law01_PackOwn_J3 r2 r1 ((!r26) || ((r5.2.2 != 0) && (decide (0 < (IntKind.wrap .i64 ((r5.1.length : Int) + (r5.2.1.length : Int))))))))) (law01_PackOwn_J3 r2 r1 ((r5.2.2 != 0) && (decide (0 < (IntKind.wrap .i64 ((r5.1.length : Int) + (r5.2.1.length : Int))))))))
def law01_PackOwn_J1 (r2 : (List Int)) (r1 : Bool) (v1 : Bool) : Option Bool :=
 cond v1 (some (false)) ((pack_ReadStr_f r2).bind fun r4 => cond (r4.2.2 == 0) ((pack_Str_f r4.1).bind fun r27 => (law01_few_f r27).bind fun r28 => chk ((r28.length + r4.2.1.length) * 1 ≤ 140737488355328) ((ref01_Same_f (r28 ++ r4.2.1) r2).bind fun r29 => law01_PackOwn_J2 r2 r1 ((!r29) || ((r4.2.2 != 0) && ((!(r4.1.toList == (⟨#[]⟩ : ByteArray).toList)) || (decide (0 < (r4.2.1.length : Int)))))))) (law01_PackOwn_J2 r2 r1 ((r4.2.2 != 0) && ((!(r4.1.toList == (⟨#[]⟩ : ByteArray).toList)) || (decide (0 < (r4.2.1.length : Int)))))))
def law01_PackOwn_f (b1 : List Int) : Option Bool :=
 (law01_head_f).bind fun r1 => (law01_few_f b1).bind fun r2 => (pack_ReadInt_f r2).bind fun r3 => cond (r3.2.2 == 0) ((pack_Int_f r3.1).bind fun r30 => (law01_few_f r30).bind fun r31 => chk ((r31.length + r3.2.1.length) * 1 ≤ 140737488355328) ((ref01_Same_f (r31 ++ r3.2.1) r2).bind fun r32 => law01_PackOwn_J1 r2 r1 ((!r32) || ((r3.2.2 != 0) && ((r3.1 != 0) || (decide (0 < (r3.2.1.length : Int)))))))) (law01_PackOwn_J1 r2 r1 ((r3.2.2 != 0) && ((r3.1 != 0) || (decide (0 < (r3.2.1.length : Int))))))
set_option maxHeartbeats 4000000 in
set_option maxRecDepth 20000 in
theorem law01_PackOwn_pc {b1 : List Int} {r : Bool} (H : law01_PackOwn_f b1 = some r) : PC Try.prog 9 [.list 1 (b1.map (ci .u8))] (.bool r) := by
 refine pcA_of Try.func9 (by rfl) (by decide) 157 (by rfl) [.tmp 2] (by rfl) ?_
 unfold law01_PackOwn_f at H
 simp only [ent]
 refine a_seq ?_
 refine a_reg _ rfl (s := ?zs1) ?_ ?_
 rotate_left
 ·simp only [EVT, stepR, evOp, St.ev, St.app, St.put, wrs, datOf, datOf1, TIS, CS, reduceAdd, reduceMul, reduceEqDiff, ↓reduceIte, reduceCtorEq, reduceLT, reduceLeDiff]
  (repeat' apply And.intro) <;> first|rfl|assumption|omega|(simp;done)|(simp;omega)|(simp_all;done)
 refine sA_n ?_
 refine a_seq ?_
 obtain ⟨r1, zh1, H⟩ := bind_some H
 have zk1 := law01_head_pc zh1
 refine a_reg _ rfl (s := ?zs2) ?_ ?_
 rotate_left
 ·try simp only [EVT, stepR, evOp, St.ev, St.app, St.put, wrs, frz, TIS, CS, reduceAdd, reduceMul, reduceEqDiff, ↓reduceIte, reduceCtorEq, reduceLT, reduceLeDiff, reduceSub, Nat.reduceBEq]
  repeat' with_reducible apply And.intro
  all_goals try ((with_reducible show CallR _ _ _ _ _ _ _); refine cR_s zk1 .nil (.bool _) ?_; simp only [EVT, stepR, evOp, St.ev, St.app, St.put, wrs, frz, TIS, CS, reduceAdd, reduceMul, reduceEqDiff, ↓reduceIte, reduceCtorEq, reduceLT, reduceLeDiff, reduceSub, Nat.reduceBEq])
  all_goals ((repeat' apply And.intro) <;> first|rfl|assumption|omega|(simp;done)|(simp;omega)|(simp_all;done))
 refine sA_n ?_
 refine a_seq ?_
 obtain ⟨r2, zh2, H⟩ := bind_some H
 have zk2 := law01_few_rc zh2
 refine a_reg _ rfl (s := ?zs3) ?_ ?_
 rotate_left
 ·try simp only [EVT, stepR, evOp, St.ev, St.app, St.put, wrs, frz, TIS, CS, reduceAdd, reduceMul, reduceEqDiff, ↓reduceIte, reduceCtorEq, reduceLT, reduceLeDiff, reduceSub, Nat.reduceBEq]
  repeat' with_reducible apply And.intro
  all_goals try ((with_reducible show CallR _ _ _ _ _ _ _); refine callR_rcw (r' := .ref 25 0 r2.length 1) [(25, some ⟨5, 1, false, r2.map (ci .u8)⟩)] [] [] [(25, 0, ⟨5, 1, false, r2.map (ci .u8)⟩)] rfl zk2 (by simp) (by show ([] : List Nat).Nodup; decide) trivial (.cons (.lst _ _ _ (ci_pu .u8) rfl) .nil) (by show ([25] : List Nat).Nodup; decide) (by show ([0] : List Nat).Nodup; decide) ⟨.inr ⟨rfl, by decide⟩, ⟨_, rfl, ⟨rfl, rfl, rfl, rfl⟩, .same _ _ (ci_pu .u8) rfl⟩, trivial⟩ (.refl' rfl rfl) ?_; simp only [EVT, stepR, evOp, St.ev, St.app, St.put, wrs, frz, TIS, CS, reduceAdd, reduceMul, reduceEqDiff, ↓reduceIte, reduceCtorEq, reduceLT, reduceLeDiff, reduceSub, Nat.reduceBEq])
  all_goals ((repeat' apply And.intro) <;> first|rfl|assumption|omega|(simp;done)|(simp;omega)|(simp_all;done))
 refine sA_n ?_
 refine a_seq ?_
 obtain ⟨r3, zh3, H⟩ := bind_some H
 have zk3 := pack_ReadInt_pc zh3
 refine a_reg _ rfl (s := ?zs4) ?_ ?_
 rotate_left
 ·try simp only [EVT, stepR, evOp, St.ev, St.app, St.put, wrs, frz, TIS, CS, reduceAdd, reduceMul, reduceEqDiff, ↓reduceIte, reduceCtorEq, reduceLT, reduceLeDiff, reduceSub, Nat.reduceBEq]
  repeat' with_reducible apply And.intro
  all_goals try ((with_reducible show CallR _ _ _ _ _ _ _); refine cR_f [25] zk3 (.cons (.ownL ((wrs_frz _ _ _ 25).trans (by rfl)) (fun _ => rfl) rfl (by first | rfl | omega | (simp; done) | (simp [strBytes_len]; done) | (simp; omega) | (simp_all; done)) (.same _ _ (ci_pu .u8) (by first | rfl | (simp only [MPT, CS,  List.nil_append]; done) | (simp [CS,  ci_eq, cb_eq, cs_eq, cl_eq]; done) | (simp [CS,  ci_eq, cb_eq, cs_eq, cl_eq]; intro hz; rw [List.take_of_length_le (by simp; omega)])))) .nil) ?_; simp only [EVT, stepR, evOp, St.ev, St.app, St.put, wrs, frz, TIS, CS, reduceAdd, reduceMul, reduceEqDiff, ↓reduceIte, reduceCtorEq, reduceLT, reduceLeDiff, reduceSub, Nat.reduceBEq])
  all_goals ((repeat' apply And.intro) <;> first|rfl|assumption|omega|(simp;done)|(simp;omega)|(simp_all;done))
 refine sA_n ?_
 refine a_seq ?_
 refine a_cut (fun s => ∃ (v1 : Bool) (t0 : Nat → Dat), law01_PackOwn_J1 r2 r1 v1 = some r ∧ s = ⟨tl t0 [(3, .bool r1), (4, .list 1 (r2.map (ci .u8))), (46, .bool v1)], hl [], 0, 157⟩) ?_ ?_
 ·refine bool_split (b := (r3.2.2 == 0)) (fun zc33 => ?_) (fun zc33 => ?_)
  ·have H := cond_t zc33 H
   obtain ⟨r30, zh32, H⟩ := bind_some H
   have zk30 := pack_Int_rc zh32
   obtain ⟨r31, zh33, H⟩ := bind_some H
   have zk31 := law01_few_rc zh33
   obtain ⟨zh34, H⟩ := chk_some H
   obtain ⟨r32, zh35, H⟩ := bind_some H
   have zk32 := ref01_Same_pc zh35
   refine bool_split (b := (!r32)) (fun zc34 => ?_) (fun zc34 => ?_)
   ·rw [zc34] at H
    refine a_reg _ rfl (s := ?zs44) ?_ ?_
    rotate_left
    ·try simp only [EVT, stepR, evOp, St.ev, St.app, St.put, wrs, datOf, datOf1, evBin, binInt, frz, evBuiltin, evAppend, isAl, elems, Option.elim, evUn, TIS, CS, reduceAdd, reduceMul, reduceEqDiff, ↓reduceIte, reduceCtorEq, reduceLT, reduceLeDiff, Array.reduceGetElem?, reduceSub, Nat.reduceBEq, ↓zc33, ↓zc34]
     repeat' with_reducible apply And.intro
     all_goals try ((with_reducible show CallR _ _ _ _ _ _ _); refine callR_rcw (r' := .ref 124 0 r30.length 1) [(124, some ⟨5, 1, false, r30.map (ci .u8)⟩)] [] [] [(124, 0, ⟨5, 1, false, r30.map (ci .u8)⟩)] rfl zk30 (by simp) (by show ([] : List Nat).Nodup; decide) trivial (.cons (.int' rfl) .nil) (by show ([124] : List Nat).Nodup; decide) (by show ([0] : List Nat).Nodup; decide) ⟨.inr ⟨rfl, by decide⟩, ⟨_, rfl, ⟨rfl, rfl, rfl, rfl⟩, .same _ _ (ci_pu .u8) rfl⟩, trivial⟩ (.refl' rfl rfl) ?_; simp only [EVT, stepR, evOp, St.ev, St.app, St.put, wrs, datOf, datOf1, evBin, binInt, frz, evBuiltin, evAppend, isAl, elems, Option.elim, evUn, TIS, CS, reduceAdd, reduceMul, reduceEqDiff, ↓reduceIte, reduceCtorEq, reduceLT, reduceLeDiff, Array.reduceGetElem?, reduceSub, Nat.reduceBEq, ↓zc33, ↓zc34])
     repeat' with_reducible apply And.intro
     all_goals try ((with_reducible show CallR _ _ _ _ _ _ _); refine callR_rcw (r' := .ref 125 0 r31.length 1) [(124, some ⟨5, 1, true, r30.map (ci .u8)⟩), (125, some ⟨5, 1, false, r31.map (ci .u8)⟩)] [] [124] [(125, 0, ⟨5, 1, false, r31.map (ci .u8)⟩)] rfl zk31 (by simp) (by show ([] : List Nat).Nodup; decide) trivial (.cons (.frz' (by rfl) (by simp) rfl (by first | rfl | omega | (simp; done) | (simp [strBytes_len]; done) | (simp; omega) | (simp_all; done)) (.same _ _ (ci_pu .u8) (by first | rfl | (simp only [MPT, CS,  List.nil_append]; done) | (simp [CS,  ci_eq, cb_eq, cs_eq, cl_eq]; done) | (simp [CS,  ci_eq, cb_eq, cs_eq, cl_eq]; intro hz; rw [List.take_of_length_le (by simp; omega)])))) .nil) (by show ([125] : List Nat).Nodup; decide) (by show ([0] : List Nat).Nodup; decide) ⟨.inr ⟨rfl, by decide⟩, ⟨_, rfl, ⟨rfl, rfl, rfl, rfl⟩, .same _ _ (ci_pu .u8) rfl⟩, trivial⟩ (.refl' rfl rfl) ?_; simp only [EVT, stepR, evOp, St.ev, St.app, St.put, wrs, datOf, datOf1, evBin, binInt, frz, evBuiltin, evAppend, isAl, elems, Option.elim, evUn, TIS, CS, reduceAdd, reduceMul, reduceEqDiff, ↓reduceIte, reduceCtorEq, reduceLT, reduceLeDiff, Array.reduceGetElem?, reduceSub, Nat.reduceBEq, ↓zc33, ↓zc34])
     repeat' with_reducible apply And.intro
     all_goals try ((with_reducible show CallR _ _ _ _ _ _ _); refine cR_s zk32 (.cons (.ownL (by rfl) (fun e => by cases e) rfl (by first | rfl | omega | (simp; done) | (simp [strBytes_len]; done) | (simp; omega) | (simp_all; done)) (.same _ _ (ci_pu .u8) (by first | rfl | (simp only [MPT, CS,  List.nil_append]; done) | (simp [CS,  ci_eq, cb_eq, cs_eq, cl_eq]; done) | (simp [CS,  ci_eq, cb_eq, cs_eq, cl_eq]; intro hz; rw [List.take_of_length_le (by simp; omega)])))) (.cons (.ownL (by rfl) (fun _ => rfl) rfl (by first | rfl | omega | (simp; done) | (simp [strBytes_len]; done) | (simp; omega) | (simp_all; done)) (.same _ _ (ci_pu .u8) (by first | rfl | (simp only [MPT, CS,  List.nil_append]; done) | (simp [CS,  ci_eq, cb_eq, cs_eq, cl_eq]; done) | (simp [CS,  ci_eq, cb_eq, cs_eq, cl_eq]; intro hz; rw [List.take_of_length_le (by simp; omega)])))) .nil)) (.bool _) ?_; simp only [EVT, stepR, evOp, St.ev, St.app, St.put, wrs, datOf, datOf1, evBin, binInt, frz, evBuiltin, evAppend, isAl, elems, Option.elim, evUn, TIS, CS, reduceAdd, reduceMul, reduceEqDiff, ↓reduceIte, reduceCtorEq, reduceLT, reduceLeDiff, Array.reduceGetElem?, reduceSub, Nat.reduceBEq, ↓zc33, ↓zc34])
     all_goals ((repeat' apply And.intro) <;> first|rfl|assumption|omega|(simp;done)|(simp;omega)|(simp_all;done))
    refine cA_n ?_
    refine wk_l [] [25] [(3, .bool r1), (4, .list 1 (r2.map (ci .u8))), (46, .bool true)] (by show ([3, 4, 46] : List Nat).Nodup; decide) (by show ([] : List Nat).Nodup; decide) ?_ ?_ (fun t0 => ⟨true, t0, H, rfl⟩)
    ·exact trivial
    ·(simp only [AllT, tl_cons, tl_nil, upd_apply, List.getD_cons_zero, List.getD_cons_succ, reduceEqDiff, ↓reduceIte, and_true]); exact ⟨(.bool' rfl), (.frz' (by rfl) (by simp) rfl (by first | rfl | omega | (simp; done) | (simp [strBytes_len]; done) | (simp; omega) | (simp_all; done)) (.same _ _ (ci_pu .u8) (by first | rfl | (simp only [MPT, CS,  List.nil_append]; done) | (simp [CS,  ci_eq, cb_eq, cs_eq, cl_eq]; done) | (simp [CS,  ci_eq, cb_eq, cs_eq, cl_eq]; intro hz; rw [List.take_of_length_le (by simp; omega)])))), (.bool' (by first | rfl | assumption | (simp_all; done)))⟩
   ·rw [zc34] at H
    refine bool_split (b := (r3.2.2 != 0)) (fun zc35 => ?_) (fun zc35 => ?_)
    ·rw [zc35] at H
     refine bool_split (b := (r3.1 != 0)) (fun zc36 => ?_) (fun zc36 => ?_)
     ·rw [zc36] at H
      refine a_reg _ rfl (s := ?zs45) ?_ ?_
      rotate_left
      ·try simp only [EVT, stepR, evOp, St.ev, St.app, St.put, wrs, datOf, datOf1, evBin, binInt, frz, evBuiltin, evAppend, isAl, elems, Option.elim, evUn, TIS, CS, reduceAdd, reduceMul, reduceEqDiff, ↓reduceIte, reduceCtorEq, reduceLT, reduceLeDiff, Array.reduceGetElem?, reduceSub, Nat.reduceBEq, ↓zc33, ↓zc34, ↓zc35, ↓zc36]
       repeat' with_reducible apply And.intro
       all_goals try ((with_reducible show CallR _ _ _ _ _ _ _); refine callR_rcw (r' := .ref 124 0 r30.length 1) [(124, some ⟨5, 1, false, r30.map (ci .u8)⟩)] [] [] [(124, 0, ⟨5, 1, false, r30.map (ci .u8)⟩)] rfl zk30 (by simp) (by show ([] : List Nat).Nodup; decide) trivial (.cons (.int' rfl) .nil) (by show ([124] : List Nat).Nodup; decide) (by show ([0] : List Nat).Nodup; decide) ⟨.inr ⟨rfl, by decide⟩, ⟨_, rfl, ⟨rfl, rfl, rfl, rfl⟩, .same _ _ (ci_pu .u8) rfl⟩, trivial⟩ (.refl' rfl rfl) ?_; simp only [EVT, stepR, evOp, St.ev, St.app, St.put, wrs, datOf, datOf1, evBin, binInt, frz, evBuiltin, evAppend, isAl, elems, Option.elim, evUn, TIS, CS, reduceAdd, reduceMul, reduceEqDiff, ↓reduceIte, reduceCtorEq, reduceLT, reduceLeDiff, Array.reduceGetElem?, reduceSub, Nat.reduceBEq, ↓zc33, ↓zc34, ↓zc35, ↓zc36])
       repeat' with_reducible apply And.intro
       all_goals try ((with_reducible show CallR _ _ _ _ _ _ _); refine callR_rcw (r' := .ref 125 0 r31.length 1) [(124, some ⟨5, 1, true, r30.map (ci .u8)⟩), (125, some ⟨5, 1, false, r31.map (ci .u8)⟩)] [] [124] [(125, 0, ⟨5, 1, false, r31.map (ci .u8)⟩)] rfl zk31 (by simp) (by show ([] : List Nat).Nodup; decide) trivial (.cons (.frz' (by rfl) (by simp) rfl (by first | rfl | omega | (simp; done) | (simp [strBytes_len]; done) | (simp; omega) | (simp_all; done)) (.same _ _ (ci_pu .u8) (by first | rfl | (simp only [MPT, CS,  List.nil_append]; done) | (simp [CS,  ci_eq, cb_eq, cs_eq, cl_eq]; done) | (simp [CS,  ci_eq, cb_eq, cs_eq, cl_eq]; intro hz; rw [List.take_of_length_le (by simp; omega)])))) .nil) (by show ([125] : List Nat).Nodup; decide) (by show ([0] : List Nat).Nodup; decide) ⟨.inr ⟨rfl, by decide⟩, ⟨_, rfl, ⟨rfl, rfl, rfl, rfl⟩, .same _ _ (ci_pu .u8) rfl⟩, trivial⟩ (.refl' rfl rfl) ?_; simp only [EVT, stepR, evOp, St.ev, St.app, St.put, wrs, datOf, datOf1, evBin, binInt, frz, evBuiltin, evAppend, isAl, elems, Option.elim, evUn, TIS, CS, reduceAdd, reduceMul, reduceEqDiff, ↓reduceIte, reduceCtorEq, reduceLT, reduceLeDiff, Array.reduceGetElem?, reduceSub, Nat.reduceBEq, ↓zc33, ↓zc34, ↓zc35, ↓zc36])
       repeat' with_reducible apply And.intro
       all_goals try ((with_reducible show CallR _ _ _ _ _ _ _); refine cR_s zk32 (.cons (.ownL (by rfl) (fun e => by cases e) rfl (by first | rfl | omega | (simp; done) | (simp [strBytes_len]; done) | (simp; omega) | (simp_all; done)) (.same _ _ (ci_pu .u8) (by first | rfl | (simp only [MPT, CS,  List.nil_append]; done) | (simp [CS,  ci_eq, cb_eq, cs_eq, cl_eq]; done) | (simp [CS,  ci_eq, cb_eq, cs_eq, cl_eq]; intro hz; rw [List.take_of_length_le (by simp; omega)])))) (.cons (.ownL (by rfl) (fun _ => rfl) rfl (by first | rfl | omega | (simp; done) | (simp [strBytes_len]; done) | (simp; omega) | (simp_all; done)) (.same _ _ (ci_pu .u8) (by first | rfl | (simp only [MPT, CS,  List.nil_append]; done) | (simp [CS,  ci_eq, cb_eq, cs_eq, cl_eq]; done) | (simp [CS,  ci_eq, cb_eq, cs_eq, cl_eq]; intro hz; rw [List.take_of_length_le (by simp; omega)])))) .nil)) (.bool _) ?_; simp only [EVT, stepR, evOp, St.ev, St.app, St.put, wrs, datOf, datOf1, evBin, binInt, frz, evBuiltin, evAppend, isAl, elems, Option.elim, evUn, TIS, CS, reduceAdd, reduceMul, reduceEqDiff, ↓reduceIte, reduceCtorEq, reduceLT, reduceLeDiff, Array.reduceGetElem?, reduceSub, Nat.reduceBEq, ↓zc33, ↓zc34, ↓zc35, ↓zc36])
       all_goals ((repeat' apply And.intro) <;> first|rfl|assumption|omega|(simp;done)|(simp;omega)|(simp_all;done))
      refine cA_n ?_
      refine wk_l [] [25] [(3, .bool r1), (4, .list 1 (r2.map (ci .u8))), (46, .bool true)] (by show ([3, 4, 46] : List Nat).Nodup; decide) (by show ([] : List Nat).Nodup; decide) ?_ ?_ (fun t0 => ⟨true, t0, H, rfl⟩)
      ·exact trivial
      ·(simp only [AllT, tl_cons, tl_nil, upd_apply, List.getD_cons_zero, List.getD_cons_succ, reduceEqDiff, ↓reduceIte, and_true]); exact ⟨(.bool' rfl), (.frz' (by rfl) (by simp) rfl (by first | rfl | omega | (simp; done) | (simp [strBytes_len]; done) | (simp; omega) | (simp_all; done)) (.same _ _ (ci_pu .u8) (by first | rfl | (simp only [MPT, CS,  List.nil_append]; done) | (simp [CS,  ci_eq, cb_eq, cs_eq, cl_eq]; done) | (simp [CS,  ci_eq, cb_eq, cs_eq, cl_eq]; intro hz; rw [List.take_of_length_le (by simp; omega)])))), (.bool' (by first | rfl | assumption | (simp_all; done)))⟩
     ·rw [zc36] at H
      refine a_reg _ rfl (s := ?zs46) ?_ ?_
      rotate_left
      ·try simp only [EVT, stepR, evOp, St.ev, St.app, St.put, wrs, datOf, datOf1, evBin, binInt, frz, evBuiltin, evAppend, isAl, elems, Option.elim, evUn, TIS, CS, reduceAdd, reduceMul, reduceEqDiff, ↓reduceIte, reduceCtorEq, reduceLT, reduceLeDiff, Array.reduceGetElem?, reduceSub, Nat.reduceBEq, ↓zc33, ↓zc34, ↓zc35, ↓zc36]
       repeat' with_reducible apply And.intro
       all_goals try ((with_reducible show CallR _ _ _ _ _ _ _); refine callR_rcw (r' := .ref 124 0 r30.length 1) [(124, some ⟨5, 1, false, r30.map (ci .u8)⟩)] [] [] [(124, 0, ⟨5, 1, false, r30.map (ci .u8)⟩)] rfl zk30 (by simp) (by show ([] : List Nat).Nodup; decide) trivial (.cons (.int' rfl) .nil) (by show ([124] : List Nat).Nodup; decide) (by show ([0] : List Nat).Nodup; decide) ⟨.inr ⟨rfl, by decide⟩, ⟨_, rfl, ⟨rfl, rfl, rfl, rfl⟩, .same _ _ (ci_pu .u8) rfl⟩, trivial⟩ (.refl' rfl rfl) ?_; simp only [EVT, stepR, evOp, St.ev, St.app, St.put, wrs, datOf, datOf1, evBin, binInt, frz, evBuiltin, evAppend, isAl, elems, Option.elim, evUn, TIS, CS, reduceAdd, reduceMul, reduceEqDiff, ↓reduceIte, reduceCtorEq, reduceLT, reduceLeDiff, Array.reduceGetElem?, reduceSub, Nat.reduceBEq, ↓zc33, ↓zc34, ↓zc35, ↓zc36])
       repeat' with_reducible apply And.intro
       all_goals try ((with_reducible show CallR _ _ _ _ _ _ _); refine callR_rcw (r' := .ref 125 0 r31.length 1) [(124, some ⟨5, 1, true, r30.map (ci .u8)⟩), (125, some ⟨5, 1, false, r31.map (ci .u8)⟩)] [] [124] [(125, 0, ⟨5, 1, false, r31.map (ci .u8)⟩)] rfl zk31 (by simp) (by show ([] : List Nat).Nodup; decide) trivial (.cons (.frz' (by rfl) (by simp) rfl (by first | rfl | omega | (simp; done) | (simp [strBytes_len]; done) | (simp; omega) | (simp_all; done)) (.same _ _ (ci_pu .u8) (by first | rfl | (simp only [MPT, CS,  List.nil_append]; done) | (simp [CS,  ci_eq, cb_eq, cs_eq, cl_eq]; done) | (simp [CS,  ci_eq, cb_eq, cs_eq, cl_eq]; intro hz; rw [List.take_of_length_le (by simp; omega)])))) .nil) (by show ([125] : List Nat).Nodup; decide) (by show ([0] : List Nat).Nodup; decide) ⟨.inr ⟨rfl, by decide⟩, ⟨_, rfl, ⟨rfl, rfl, rfl, rfl⟩, .same _ _ (ci_pu .u8) rfl⟩, trivial⟩ (.refl' rfl rfl) ?_; simp only [EVT, stepR, evOp, St.ev, St.app, St.put, wrs, datOf, datOf1, evBin, binInt, frz, evBuiltin, evAppend, isAl, elems, Option.elim, evUn, TIS, CS, reduceAdd, reduceMul, reduceEqDiff, ↓reduceIte, reduceCtorEq, reduceLT, reduceLeDiff, Array.reduceGetElem?, reduceSub, Nat.reduceBEq, ↓zc33, ↓zc34, ↓zc35, ↓zc36])
       repeat' with_reducible apply And.intro
       all_goals try ((with_reducible show CallR _ _ _ _ _ _ _); refine cR_s zk32 (.cons (.ownL (by rfl) (fun e => by cases e) rfl (by first | rfl | omega | (simp; done) | (simp [strBytes_len]; done) | (simp; omega) | (simp_all; done)) (.same _ _ (ci_pu .u8) (by first | rfl | (simp only [MPT, CS,  List.nil_append]; done) | (simp [CS,  ci_eq, cb_eq, cs_eq, cl_eq]; done) | (simp [CS,  ci_eq, cb_eq, cs_eq, cl_eq]; intro hz; rw [List.take_of_length_le (by simp; omega)])))) (.cons (.ownL (by rfl) (fun _ => rfl) rfl (by first | rfl | omega | (simp; done) | (simp [strBytes_len]; done) | (simp; omega) | (simp_all; done)) (.same _ _ (ci_pu .u8) (by first | rfl | (simp only [MPT, CS,  List.nil_append]; done) | (simp [CS,  ci_eq, cb_eq, cs_eq, cl_eq]; done) | (simp [CS,  ci_eq, cb_eq, cs_eq, cl_eq]; intro hz; rw [List.take_of_length_le (by simp; omega)])))) .nil)) (.bool _) ?_; simp only [EVT, stepR, evOp, St.ev, St.app, St.put, wrs, datOf, datOf1, evBin, binInt, frz, evBuiltin, evAppend, isAl, elems, Option.elim, evUn, TIS, CS, reduceAdd, reduceMul, reduceEqDiff, ↓reduceIte, reduceCtorEq, reduceLT, reduceLeDiff, Array.reduceGetElem?, reduceSub, Nat.reduceBEq, ↓zc33, ↓zc34, ↓zc35, ↓zc36])
       all_goals ((repeat' apply And.intro) <;> first|rfl|assumption|omega|(simp;done)|(simp;omega)|(simp_all;done))
      refine cA_n ?_
      refine wk_l [] [25] [(3, .bool r1), (4, .list 1 (r2.map (ci .u8))), (46, .bool (decide (0 < (r3.2.1.length : Int))))] (by show ([3, 4, 46] : List Nat).Nodup; decide) (by show ([] : List Nat).Nodup; decide) ?_ ?_ (fun t0 => ⟨(decide (0 < (r3.2.1.length : Int))), t0, H, rfl⟩)
      ·exact trivial
      ·(simp only [AllT, tl_cons, tl_nil, upd_apply, List.getD_cons_zero, List.getD_cons_succ, reduceEqDiff, ↓reduceIte, and_true]); exact ⟨(.bool' rfl), (.frz' (by rfl) (by simp) rfl (by first | rfl | omega | (simp; done) | (simp [strBytes_len]; done) | (simp; omega) | (simp_all; done)) (.same _ _ (ci_pu .u8) (by first | rfl | (simp only [MPT, CS,  List.nil_append]; done) | (simp [CS,  ci_eq, cb_eq, cs_eq, cl_eq]; done) | (simp [CS,  ci_eq, cb_eq, cs_eq, cl_eq]; intro hz; rw [List.take_of_length_le (by simp; omega)])))), (.bool' rfl)⟩
    ·rw [zc35] at H
     refine a_reg _ rfl (s := ?zs47) ?_ ?_
     rotate_left
     ·try simp only [EVT, stepR, evOp, St.ev, St.app, St.put, wrs, datOf, datOf1, evBin, binInt, frz, evBuiltin, evAppend, isAl, elems, Option.elim, evUn, TIS, CS, reduceAdd, reduceMul, reduceEqDiff, ↓reduceIte, reduceCtorEq, reduceLT, reduceLeDiff, Array.reduceGetElem?, reduceSub, Nat.reduceBEq, ↓zc33, ↓zc34, ↓zc35]
      repeat' with_reducible apply And.intro
      all_goals try ((with_reducible show CallR _ _ _ _ _ _ _); refine callR_rcw (r' := .ref 124 0 r30.length 1) [(124, some ⟨5, 1, false, r30.map (ci .u8)⟩)] [] [] [(124, 0, ⟨5, 1, false, r30.map (ci .u8)⟩)] rfl zk30 (by simp) (by show ([] : List Nat).Nodup; decide) trivial (.cons (.int' rfl) .nil) (by show ([124] : List Nat).Nodup; decide) (by show ([0] : List Nat).Nodup; decide) ⟨.inr ⟨rfl, by decide⟩, ⟨_, rfl, ⟨rfl, rfl, rfl, rfl⟩, .same _ _ (ci_pu .u8) rfl⟩, trivial⟩ (.refl' rfl rfl) ?_; simp only [EVT, stepR, evOp, St.ev, St.app, St.put, wrs, datOf, datOf1, evBin, binInt, frz, evBuiltin, evAppend, isAl, elems, Option.elim, evUn, TIS, CS, reduceAdd, reduceMul, reduceEqDiff, ↓reduceIte, reduceCtorEq, reduceLT, reduceLeDiff, Array.reduceGetElem?, reduceSub, Nat.reduceBEq, ↓zc33, ↓zc34, ↓zc35])
      repeat' with_reducible apply And.intro
      all_goals try ((with_reducible show CallR _ _ _ _ _ _ _); refine callR_rcw (r' := .ref 125 0 r31.length 1) [(124, some ⟨5, 1, true, r30.map (ci .u8)⟩), (125, some ⟨5, 1, false, r31.map (ci .u8)⟩)] [] [124] [(125, 0, ⟨5, 1, false, r31.map (ci .u8)⟩)] rfl zk31 (by simp) (by show ([] : List Nat).Nodup; decide) trivial (.cons (.frz' (by rfl) (by simp) rfl (by first | rfl | omega | (simp; done) | (simp [strBytes_len]; done) | (simp; omega) | (simp_all; done)) (.same _ _ (ci_pu .u8) (by first | rfl | (simp only [MPT, CS,  List.nil_append]; done) | (simp [CS,  ci_eq, cb_eq, cs_eq, cl_eq]; done) | (simp [CS,  ci_eq, cb_eq, cs_eq, cl_eq]; intro hz; rw [List.take_of_length_le (by simp; omega)])))) .nil) (by show ([125] : List Nat).Nodup; decide) (by show ([0] : List Nat).Nodup; decide) ⟨.inr ⟨rfl, by decide⟩, ⟨_, rfl, ⟨rfl, rfl, rfl, rfl⟩, .same _ _ (ci_pu .u8) rfl⟩, trivial⟩ (.refl' rfl rfl) ?_; simp only [EVT, stepR, evOp, St.ev, St.app, St.put, wrs, datOf, datOf1, evBin, binInt, frz, evBuiltin, evAppend, isAl, elems, Option.elim, evUn, TIS, CS, reduceAdd, reduceMul, reduceEqDiff, ↓reduceIte, reduceCtorEq, reduceLT, reduceLeDiff, Array.reduceGetElem?, reduceSub, Nat.reduceBEq, ↓zc33, ↓zc34, ↓zc35])
      repeat' with_reducible apply And.intro
      all_goals try ((with_reducible show CallR _ _ _ _ _ _ _); refine cR_s zk32 (.cons (.ownL (by rfl) (fun e => by cases e) rfl (by first | rfl | omega | (simp; done) | (simp [strBytes_len]; done) | (simp; omega) | (simp_all; done)) (.same _ _ (ci_pu .u8) (by first | rfl | (simp only [MPT, CS,  List.nil_append]; done) | (simp [CS,  ci_eq, cb_eq, cs_eq, cl_eq]; done) | (simp [CS,  ci_eq, cb_eq, cs_eq, cl_eq]; intro hz; rw [List.take_of_length_le (by simp; omega)])))) (.cons (.ownL (by rfl) (fun _ => rfl) rfl (by first | rfl | omega | (simp; done) | (simp [strBytes_len]; done) | (simp; omega) | (simp_all; done)) (.same _ _ (ci_pu .u8) (by first | rfl | (simp only [MPT, CS,  List.nil_append]; done) | (simp [CS,  ci_eq, cb_eq, cs_eq, cl_eq]; done) | (simp [CS,  ci_eq, cb_eq, cs_eq, cl_eq]; intro hz; rw [List.take_of_length_le (by simp; omega)])))) .nil)) (.bool _) ?_; simp only [EVT, stepR, evOp, St.ev, St.app, St.put, wrs, datOf, datOf1, evBin, binInt, frz, evBuiltin, evAppend, isAl, elems, Option.elim, evUn, TIS, CS, reduceAdd, reduceMul, reduceEqDiff, ↓reduceIte, reduceCtorEq, reduceLT, reduceLeDiff, Array.reduceGetElem?, reduceSub, Nat.reduceBEq, ↓zc33, ↓zc34, ↓zc35])
      all_goals ((repeat' apply And.intro) <;> first|rfl|assumption|omega|(simp;done)|(simp;omega)|(simp_all;done))
     refine cA_n ?_
     refine wk_l [] [25] [(3, .bool r1), (4, .list 1 (r2.map (ci .u8))), (46, .bool false)] (by show ([3, 4, 46] : List Nat).Nodup; decide) (by show ([] : List Nat).Nodup; decide) ?_ ?_ (fun t0 => ⟨false, t0, H, rfl⟩)
     ·exact trivial
     ·(simp only [AllT, tl_cons, tl_nil, upd_apply, List.getD_cons_zero, List.getD_cons_succ, reduceEqDiff, ↓reduceIte, and_true]); exact ⟨(.bool' rfl), (.frz' (by rfl) (by simp) rfl (by first | rfl | omega | (simp; done) | (simp [strBytes_len]; done) | (simp; omega) | (simp_all; done)) (.same _ _ (ci_pu .u8) (by first | rfl | (simp only [MPT, CS,  List.nil_append]; done) | (simp [CS,  ci_eq, cb_eq, cs_eq, cl_eq]; done) | (simp [CS,  ci_eq, cb_eq, cs_eq, cl_eq]; intro hz; rw [List.take_of_length_le (by simp; omega)])))), (.bool' (by first | rfl | assumption | (simp_all; done)))⟩
  ·have H := cond_f zc33 H
   refine bool_split (b := (r3.2.2 != 0)) (fun zc37 => ?_) (fun zc37 => ?_)
   ·rw [zc37] at H
    refine bool_split (b := (r3.1 != 0)) (fun zc38 => ?_) (fun zc38 => ?_)
    ·rw [zc38] at H
     refine a_reg _ rfl (s := ?zs48) ?_ ?_
     rotate_left
     ·simp only [EVT, stepR, evOp, St.ev, St.app, St.put, wrs, datOf, datOf1, evBin, binInt, frz, evBuiltin, evAppend, isAl, elems, Option.elim, evUn, TIS, CS, reduceAdd, reduceMul, reduceEqDiff, ↓reduceIte, reduceCtorEq, reduceLT, reduceLeDiff, Array.reduceGetElem?, reduceSub, Nat.reduceBEq, ↓zc33, ↓zc37, ↓zc38]
      try simp only [EVT, stepR, evOp, St.ev, St.app, St.put, wrs, datOf, datOf1, evBin, binInt, frz, evBuiltin, evAppend, isAl, elems, Option.elim, evUn, TIS, CS, reduceAdd, reduceMul, reduceEqDiff, ↓reduceIte, reduceCtorEq, reduceLT, reduceLeDiff, Array.reduceGetElem?, reduceSub, Nat.reduceBEq, ↓zc33, ↓zc37, ↓zc38]
      (repeat' apply And.intro) <;> first|rfl|assumption|omega|(simp;done)|(simp;omega)|(simp_all;done)
     refine cA_n ?_
     refine wk_l [] [25] [(3, .bool r1), (4, .list 1 (r2.map (ci .u8))), (46, .bool true)] (by show ([3, 4, 46] : List Nat).Nodup; decide) (by show ([] : List Nat).Nodup; decide) ?_ ?_ (fun t0 => ⟨true, t0, H, rfl⟩)
     ·exact trivial
     ·(simp only [AllT, tl_cons, tl_nil, upd_apply, List.getD_cons_zero, List.getD_cons_succ, reduceEqDiff, ↓reduceIte, and_true]); exact ⟨(.bool' rfl), (.frz' (by rfl) (by simp) rfl (by first | rfl | omega | (simp; done) | (simp [strBytes_len]; done) | (simp; omega) | (simp_all; done)) (.same _ _ (ci_pu .u8) (by first | rfl | (simp only [MPT, CS,  List.nil_append]; done) | (simp [CS,  ci_eq, cb_eq, cs_eq, cl_eq]; done) | (simp [CS,  ci_eq, cb_eq, cs_eq, cl_eq]; intro hz; rw [List.take_of_length_le (by simp; omega)])))), (.bool' (by first | rfl | assumption | (simp_all; done)))⟩
    ·rw [zc38] at H
     refine a_reg _ rfl (s := ?zs49) ?_ ?_
     rotate_left
     ·simp only [EVT, stepR, evOp, St.ev, St.app, St.put, wrs, datOf, datOf1, evBin, binInt, frz, evBuiltin, evAppend, isAl, elems, Option.elim, evUn, TIS, CS, reduceAdd, reduceMul, reduceEqDiff, ↓reduceIte, reduceCtorEq, reduceLT, reduceLeDiff, Array.reduceGetElem?, reduceSub, Nat.reduceBEq, ↓zc33, ↓zc37, ↓zc38]
      try simp only [EVT, stepR, evOp, St.ev, St.app, St.put, wrs, datOf, datOf1, evBin, binInt, frz, evBuiltin, evAppend, isAl, elems, Option.elim, evUn, TIS, CS, reduceAdd, reduceMul, reduceEqDiff, ↓reduceIte, reduceCtorEq, reduceLT, reduceLeDiff, Array.reduceGetElem?, reduceSub, Nat.reduceBEq, ↓zc33, ↓zc37, ↓zc38]
      (repeat' apply And.intro) <;> first|rfl|assumption|omega|(simp;done)|(simp;omega)|(simp_all;done)
     refine cA_n ?_
     refine wk_l [] [25] [(3, .bool r1), (4, .list 1 (r2.map (ci .u8))), (46, .bool (decide (0 < (r3.2.1.length : Int))))] (by show ([3, 4, 46] : List Nat).Nodup; decide) (by show ([] : List Nat).Nodup; decide) ?_ ?_ (fun t0 => ⟨(decide (0 < (r3.2.1.length : Int))), t0, H, rfl⟩)
     ·exact trivial
     ·(simp only [AllT, tl_cons, tl_nil, upd_apply, List.getD_cons_zero, List.getD_cons_succ, reduceEqDiff, ↓reduceIte, and_true]); exact ⟨(.bool' rfl), (.frz' (by rfl) (by simp) rfl (by first | rfl | omega | (simp; done) | (simp [strBytes_len]; done) | (simp; omega) | (simp_all; done)) (.same _ _ (ci_pu .u8) (by first | rfl | (simp only [MPT, CS,  List.nil_append]; done) | (simp [CS,  ci_eq, cb_eq, cs_eq, cl_eq]; done) | (simp [CS,  ci_eq, cb_eq, cs_eq, cl_eq]; intro hz; rw [List.take_of_length_le (by simp; omega)])))), (.bool' rfl)⟩
   ·rw [zc37] at H
    refine a_reg _ rfl (s := ?zs50) ?_ ?_
    rotate_left
    ·simp only [EVT, stepR, evOp, St.ev, St.app, St.put, wrs, datOf, datOf1, evBin, binInt, frz, evBuiltin, evAppend, isAl, elems, Option.elim, evUn, TIS, CS, reduceAdd, reduceMul, reduceEqDiff, ↓reduceIte, reduceCtorEq, reduceLT, reduceLeDiff, Array.reduceGetElem?, reduceSub, Nat.reduceBEq, ↓zc33, ↓zc37]
     try simp only [EVT, stepR, evOp, St.ev, St.app, St.put, wrs, datOf, datOf1, evBin, binInt, frz, evBuiltin, evAppend, isAl, elems, Option.elim, evUn, TIS, CS, reduceAdd, reduceMul, reduceEqDiff, ↓reduceIte, reduceCtorEq, reduceLT, reduceLeDiff, Array.reduceGetElem?, reduceSub, Nat.reduceBEq, ↓zc33, ↓zc37]
     (repeat' apply And.intro) <;> first|rfl|assumption|omega|(simp;done)|(simp;omega)|(simp_all;done)
    refine cA_n ?_
    refine wk_l [] [25] [(3, .bool r1), (4, .list 1 (r2.map (ci .u8))), (46, .bool false)] (by show ([3, 4, 46] : List Nat).Nodup; decide) (by show ([] : List Nat).Nodup; decide) ?_ ?_ (fun t0 => ⟨false, t0, H, rfl⟩)
    ·exact trivial
    ·(simp only [AllT, tl_cons, tl_nil, upd_apply, List.getD_cons_zero, List.getD_cons_succ, reduceEqDiff, ↓reduceIte, and_true]); exact ⟨(.bool' rfl), (.frz' (by rfl) (by simp) rfl (by first | rfl | omega | (simp; done) | (simp [strBytes_len]; done) | (simp; omega) | (simp_all; done)) (.same _ _ (ci_pu .u8) (by first | rfl | (simp only [MPT, CS,  List.nil_append]; done) | (simp [CS,  ci_eq, cb_eq, cs_eq, cl_eq]; done) | (simp [CS,  ci_eq, cb_eq, cs_eq, cl_eq]; intro hz; rw [List.take_of_length_le (by simp; omega)])))), (.bool' (by first | rfl | assumption | (simp_all; done)))⟩
 ·rintro s ⟨v1, t0, H, rfl⟩
  unfold law01_PackOwn_J1 at H
  refine a_condb (v1) (by rfl) (fun zc1 => ?_) (fun zc1 => ?_)
  ·have H := cond_t zc1 H
   refine a_seq ?_
   refine a_reg _ rfl (s := ?zs5) ?_ ?_
   rotate_left
   ·simp only [EVT, stepR, evOp, St.ev, St.app, St.put, wrs, datOf, datOf1, TIS, CS, reduceAdd, reduceMul, reduceEqDiff, ↓reduceIte, reduceCtorEq, reduceLT, reduceLeDiff, ↓zc1]
    (repeat' apply And.intro) <;> first|rfl|assumption|omega|(simp;done)|(simp;omega)|(simp_all;done)
   refine sA_n ?_
   refine a_ret ?_
   refine sA_r ?_
   obtain rfl := Option.some.inj H
   refine e_r2 (d := ?zd1) ?_ ?_
   rotate_left
   ·simp only [EVT, resR, single, evLoad, cut, TIS, CS, reduceAdd, reduceEqDiff, ↓reduceIte, reduceCtorEq, reduceLT, reduceLeDiff, reduceSub, Nat.reduceBEq, zc1]
    (repeat' apply And.intro) <;> first | rfl | assumption | omega | (simp; done)
   exact (.bool' (by first | rfl | assumption | (simp_all; done)))
  ·have H := cond_f zc1 H
   refine a_skip ?_
   refine sA_n ?_
   refine a_seq ?_
   obtain ⟨r4, zh4, H⟩ := bind_some H
   have zk4 := pack_ReadStr_pc zh4
   refine a_reg _ rfl (s := ?zs6) ?_ ?_
   rotate_left
   ·try simp only [EVT, stepR, evOp, St.ev, St.app, St.put, wrs, frz, TIS, CS, reduceAdd, reduceMul, reduceEqDiff, ↓reduceIte, reduceCtorEq, reduceLT, reduceLeDiff, reduceSub, Nat.reduceBEq, ↓zc1]
    repeat' with_reducible apply And.intro
    all_goals try ((with_reducible show CallR _ _ _ _ _ _ _); refine cR_p zk4 (.cons (.lst _ _ _ (ci_pu .u8) rfl) .nil) ?_; simp only [EVT, stepR, evOp, St.ev, St.app, St.put, wrs, frz, TIS, CS, reduceAdd, reduceMul, reduceEqDiff, ↓reduceIte, reduceCtorEq, reduceLT, reduceLeDiff, reduceSub, Nat.reduceBEq, ↓zc1])
    all_goals ((repeat' apply And.intro) <;> first|rfl|assumption|omega|(simp;done)|(simp;omega)|(simp_all;done))
   refine sA_n ?_
   refine a_seq ?_
   refine a_cut (fun s => ∃ (v2 : Bool) (t0 : Nat → Dat), law01_PackOwn_J2 r2 r1 v2 = some r ∧ s = ⟨tl t0 [(3, .bool r1), (4, .list 1 (r2.map (ci .u8))), (77, .bool v2)], hl [], 0, 157⟩) ?_ ?_
   ·refine bool_split (b := (r4.2.2 == 0)) (fun zc27 => ?_) (fun zc27 => ?_)
    ·have H := cond_t zc27 H
     obtain ⟨r27, zh28, H⟩ := bind_some H
     have zk27 := pack_Str_rc zh28
     obtain ⟨r28, zh29, H⟩ := bind_some H
     have zk28 := law01_few_rc zh29
     obtain ⟨zh30, H⟩ := chk_some H
     obtain ⟨r29, zh31, H⟩ := bind_some H
     have zk29 := ref01_Same_pc zh31
     refine bool_split (b := (!r29)) (fun zc28 => ?_) (fun zc28 => ?_)
     ·rw [zc28] at H
      refine a_reg _ rfl (s := ?zs37) ?_ ?_
      rotate_left
      ·try simp only [EVT, stepR, evOp, St.ev, St.app, St.put, wrs, datOf, datOf1, evBin, binInt, frz, evBuiltin, evAppend, isAl, elems, Option.elim, evUn, TIS, CS, reduceAdd, reduceMul, reduceEqDiff, ↓reduceIte, reduceCtorEq, reduceLT, reduceLeDiff, Array.reduceGetElem?, reduceSub, Nat.reduceBEq, ↓zc1, ↓zc27, ↓zc28]
       repeat' with_reducible apply And.intro
       all_goals try ((with_reducible show CallR _ _ _ _ _ _ _); refine callR_rcw (r' := .ref 76 0 r27.length 1) [(76, some ⟨5, 1, false, r27.map (ci .u8)⟩)] [] [] [(76, 0, ⟨5, 1, false, r27.map (ci .u8)⟩)] rfl zk27 (by simp) (by show ([] : List Nat).Nodup; decide) trivial (.cons (.str' rfl) .nil) (by show ([76] : List Nat).Nodup; decide) (by show ([0] : List Nat).Nodup; decide) ⟨.inr ⟨rfl, by decide⟩, ⟨_, rfl, ⟨rfl, rfl, rfl, rfl⟩, .same _ _ (ci_pu .u8) rfl⟩, trivial⟩ (.refl' rfl rfl) ?_; simp only [EVT, stepR, evOp, St.ev, St.app, St.put, wrs, datOf, datOf1, evBin, binInt, frz, evBuiltin, evAppend, isAl, elems, Option.elim, evUn, TIS, CS, reduceAdd, reduceMul, reduceEqDiff, ↓reduceIte, reduceCtorEq, reduceLT, reduceLeDiff, Array.reduceGetElem?, reduceSub, Nat.reduceBEq, ↓zc1, ↓zc27, ↓zc28])
       repeat' with_reducible apply And.intro
       all_goals try ((with_reducible show CallR _ _ _ _ _ _ _); refine callR_rcw (r' := .ref 77 0 r28.length 1) [(76, some ⟨5, 1, true, r27.map (ci .u8)⟩), (77, some ⟨5, 1, false, r28.map (ci .u8)⟩)] [] [76] [(77, 0, ⟨5, 1, false, r28.map (ci .u8)⟩)] rfl zk28 (by simp) (by show ([] : List Nat).Nodup; decide) trivial (.cons (.frz' (by rfl) (by simp) rfl (by first | rfl | omega | (simp; done) | (simp [strBytes_len]; done) | (simp; omega) | (simp_all; done)) (.same _ _ (ci_pu .u8) (by first | rfl | (simp only [MPT, CS,  List.nil_append]; done) | (simp [CS,  ci_eq, cb_eq, cs_eq, cl_eq]; done) | (simp [CS,  ci_eq, cb_eq, cs_eq, cl_eq]; intro hz; rw [List.take_of_length_le (by simp; omega)])))) .nil) (by show ([77] : List Nat).Nodup; decide) (by show ([0] : List Nat).Nodup; decide) ⟨.inr ⟨rfl, by decide⟩, ⟨_, rfl, ⟨rfl, rfl, rfl, rfl⟩, .same _ _ (ci_pu .u8) rfl⟩, trivial⟩ (.refl' rfl rfl) ?_; simp only [EVT, stepR, evOp, St.ev, St.app, St.put, wrs, datOf, datOf1, evBin, binInt, frz, evBuiltin, evAppend, isAl, elems, Option.elim, evUn, TIS, CS, reduceAdd, reduceMul, reduceEqDiff, ↓reduceIte, reduceCtorEq, reduceLT, reduceLeDiff, Array.reduceGetElem?, reduceSub, Nat.reduceBEq, ↓zc1, ↓zc27, ↓zc28])
       repeat' with_reducible apply And.intro
       all_goals try ((with_reducible show CallR _ _ _ _ _ _ _); refine cR_s zk29 (.cons (.ownL (by rfl) (fun e => by cases e) rfl (by first | rfl | omega | (simp; done) | (simp [strBytes_len]; done) | (simp; omega) | (simp_all; done)) (.same _ _ (ci_pu .u8) (by first | rfl | (simp only [MPT, CS,  List.nil_append]; done) | (simp [CS,  ci_eq, cb_eq, cs_eq, cl_eq]; done) | (simp [CS,  ci_eq, cb_eq, cs_eq, cl_eq]; intro hz; rw [List.take_of_length_le (by simp; omega)])))) (.cons (.lst _ _ _ (ci_pu .u8) rfl) .nil)) (.bool _) ?_; simp only [EVT, stepR, evOp, St.ev, St.app, St.put, wrs, datOf, datOf1, evBin, binInt, frz, evBuiltin, evAppend, isAl, elems, Option.elim, evUn, TIS, CS, reduceAdd, reduceMul, reduceEqDiff, ↓reduceIte, reduceCtorEq, reduceLT, reduceLeDiff, Array.reduceGetElem?, reduceSub, Nat.reduceBEq, ↓zc1, ↓zc27, ↓zc28])
       all_goals ((repeat' apply And.intro) <;> first|rfl|assumption|omega|(simp;done)|(simp;omega)|(simp_all;done))
      refine cA_n ?_
      refine wk_l [] [] [(3, .bool r1), (4, .list 1 (r2.map (ci .u8))), (77, .bool true)] (by show ([3, 4, 77] : List Nat).Nodup; decide) (by show ([] : List Nat).Nodup; decide) ?_ ?_ (fun t0 => ⟨true, t0, H, rfl⟩)
      ·exact trivial
      ·(simp only [AllT, tl_cons, tl_nil, upd_apply, List.getD_cons_zero, List.getD_cons_succ, reduceEqDiff, ↓reduceIte, and_true]); exact ⟨(.bool' rfl), (.lst _ _ _ (ci_pu .u8) rfl), (.bool' (by first | rfl | assumption | (simp_all; done)))⟩
     ·rw [zc28] at H
      refine bool_split (b := (r4.2.2 != 0)) (fun zc29 => ?_) (fun zc29 => ?_)
      ·rw [zc29] at H
       refine bool_split (b := (!(r4.1.toList == (⟨#[]⟩ : ByteArray).toList))) (fun zc30 => ?_) (fun zc30 => ?_)
       ·rw [zc30] at H
        refine a_reg _ rfl (s := ?zs38) ?_ ?_
        rotate_left
        ·try simp only [EVT, stepR, evOp, St.ev, St.app, St.put, wrs, datOf, datOf1, evBin, binInt, frz, evBuiltin, evAppend, isAl, elems, Option.elim, evUn, TIS, CS, reduceAdd, reduceMul, reduceEqDiff, ↓reduceIte, reduceCtorEq, reduceLT, reduceLeDiff, Array.reduceGetElem?, reduceSub, Nat.reduceBEq, ↓zc1, ↓zc27, ↓zc28, ↓zc29, ↓zc30]
         repeat' with_reducible apply And.intro
         all_goals try ((with_reducible show CallR _ _ _ _ _ _ _); refine callR_rcw (r' := .ref 76 0 r27.length 1) [(76, some ⟨5, 1, false, r27.map (ci .u8)⟩)] [] [] [(76, 0, ⟨5, 1, false, r27.map (ci .u8)⟩)] rfl zk27 (by simp) (by show ([] : List Nat).Nodup; decide) trivial (.cons (.str' rfl) .nil) (by show ([76] : List Nat).Nodup; decide) (by show ([0] : List Nat).Nodup; decide) ⟨.inr ⟨rfl, by decide⟩, ⟨_, rfl, ⟨rfl, rfl, rfl, rfl⟩, .same _ _ (ci_pu .u8) rfl⟩, trivial⟩ (.refl' rfl rfl) ?_; simp only [EVT, stepR, evOp, St.ev, St.app, St.put, wrs, datOf, datOf1, evBin, binInt, frz, evBuiltin, evAppend, isAl, elems, Option.elim, evUn, TIS, CS, reduceAdd, reduceMul, reduceEqDiff, ↓reduceIte, reduceCtorEq, reduceLT, reduceLeDiff, Array.reduceGetElem?, reduceSub, Nat.reduceBEq, ↓zc1, ↓zc27, ↓zc28, ↓zc29, ↓zc30])
         repeat' with_reducible apply And.intro
         all_goals try ((with_reducible show CallR _ _ _ _ _ _ _); refine callR_rcw (r' := .ref 77 0 r28.length 1) [(76, some ⟨5, 1, true, r27.map (ci .u8)⟩), (77, some ⟨5, 1, false, r28.map (ci .u8)⟩)] [] [76] [(77, 0, ⟨5, 1, false, r28.map (ci .u8)⟩)] rfl zk28 (by simp) (by show ([] : List Nat).Nodup; decide) trivial (.cons (.frz' (by rfl) (by simp) rfl (by first | rfl | omega | (simp; done) | (simp [strBytes_len]; done) | (simp; omega) | (simp_all; done)) (.same _ _ (ci_pu .u8) (by first | rfl | (simp only [MPT, CS,  List.nil_append]; done) | (simp [CS,  ci_eq, cb_eq, cs_eq, cl_eq]; done) | (simp [CS,  ci_eq, cb_eq, cs_eq, cl_eq]; intro hz; rw [List.take_of_length_le (by simp; omega)])))) .nil) (by show ([77] : List Nat).Nodup; decide) (by show ([0] : List Nat).Nodup; decide) ⟨.inr ⟨rfl, by decide⟩, ⟨_, rfl, ⟨rfl, rfl, rfl, rfl⟩, .same _ _ (ci_pu .u8) rfl⟩, trivial⟩ (.refl' rfl rfl) ?_; simp only [EVT, stepR, evOp, St.ev, St.app, St.put, wrs, datOf, datOf1, evBin, binInt, frz, evBuiltin, evAppend, isAl, elems, Option.elim, evUn, TIS, CS, reduceAdd, reduceMul, reduceEqDiff, ↓reduceIte, reduceCtorEq, reduceLT, reduceLeDiff, Array.reduceGetElem?, reduceSub, Nat.reduceBEq, ↓zc1, ↓zc27, ↓zc28, ↓zc29, ↓zc30])
         repeat' with_reducible apply And.intro
         all_goals try ((with_reducible show CallR _ _ _ _ _ _ _); refine cR_s zk29 (.cons (.ownL (by rfl) (fun e => by cases e) rfl (by first | rfl | omega | (simp; done) | (simp [strBytes_len]; done) | (simp; omega) | (simp_all; done)) (.same _ _ (ci_pu .u8) (by first | rfl | (simp only [MPT, CS,  List.nil_append]; done) | (simp [CS,  ci_eq, cb_eq, cs_eq, cl_eq]; done) | (simp [CS,  ci_eq, cb_eq, cs_eq, cl_eq]; intro hz; rw [List.take_of_length_le (by simp; omega)])))) (.cons (.lst _ _ _ (ci_pu .u8) rfl) .nil)) (.bool _) ?_; simp only [EVT, stepR, evOp, St.ev, St.app, St.put, wrs, datOf, datOf1, evBin, binInt, frz, evBuiltin, evAppend, isAl, elems, Option.elim, evUn, TIS, CS, reduceAdd, reduceMul, reduceEqDiff, ↓reduceIte, reduceCtorEq, reduceLT, reduceLeDiff, Array.reduceGetElem?, reduceSub, Nat.reduceBEq, ↓zc1, ↓zc27, ↓zc28, ↓zc29, ↓zc30])
         all_goals ((repeat' apply And.intro) <;> first|rfl|assumption|omega|(simp;done)|(simp;omega)|(simp_all;done))
        refine cA_n ?_
        refine wk_l [] [] [(3, .bool r1), (4, .list 1 (r2.map (ci .u8))), (77, .bool true)] (by show ([3, 4, 77] : List Nat).Nodup; decide) (by show ([] : List Nat).Nodup; decide) ?_ ?_ (fun t0 => ⟨true, t0, H, rfl⟩)
        ·exact trivial
        ·(simp only [AllT, tl_cons, tl_nil, upd_apply, List.getD_cons_zero, List.getD_cons_succ, reduceEqDiff, ↓reduceIte, and_true]); exact ⟨(.bool' rfl), (.lst _ _ _ (ci_pu .u8) rfl), (.bool' (by first | rfl | assumption | (simp_all; done)))⟩
       ·rw [zc30] at H
        refine a_reg _ rfl (s := ?zs39) ?_ ?_
        rotate_left
        ·try simp only [EVT, stepR, evOp, St.ev, St.app, St.put, wrs, datOf, datOf1, evBin, binInt, frz, evBuiltin, evAppend, isAl, elems, Option.elim, evUn, TIS, CS, reduceAdd, reduceMul, reduceEqDiff, ↓reduceIte, reduceCtorEq, reduceLT, reduceLeDiff, Array.reduceGetElem?, reduceSub, Nat.reduceBEq, ↓zc1, ↓zc27, ↓zc28, ↓zc29, ↓zc30]
         repeat' with_reducible apply And.intro
         all_goals try ((with_reducible show CallR _ _ _ _ _ _ _); refine callR_rcw (r' := .ref 76 0 r27.length 1) [(76, some ⟨5, 1, false, r27.map (ci .u8)⟩)] [] [] [(76, 0, ⟨5, 1, false, r27.map (ci .u8)⟩)] rfl zk27 (by simp) (by show ([] : List Nat).Nodup; decide) trivial (.cons (.str' rfl) .nil) (by show ([76] : List Nat).Nodup; decide) (by show ([0] : List Nat).Nodup; decide) ⟨.inr ⟨rfl, by decide⟩, ⟨_, rfl, ⟨rfl, rfl, rfl, rfl⟩, .same _ _ (ci_pu .u8) rfl⟩, trivial⟩ (.refl' rfl rfl) ?_; simp only [EVT, stepR, evOp, St.ev, St.app, St.put, wrs, datOf, datOf1, evBin, binInt, frz, evBuiltin, evAppend, isAl, elems, Option.elim, evUn, TIS, CS, reduceAdd, reduceMul, reduceEqDiff, ↓reduceIte, reduceCtorEq, reduceLT, reduceLeDiff, Array.reduceGetElem?, reduceSub, Nat.reduceBEq, ↓zc1, ↓zc27, ↓zc28, ↓zc29, ↓zc30])
         repeat' with_reducible apply And.intro
         all_goals try ((with_reducible show CallR _ _ _ _ _ _ _); refine callR_rcw (r' := .ref 77 0 r28.length 1) [(76, some ⟨5, 1, true, r27.map (ci .u8)⟩), (77, some ⟨5, 1, false, r28.map (ci .u8)⟩)] [] [76] [(77, 0, ⟨5, 1, false, r28.map (ci .u8)⟩)] rfl zk28 (by simp) (by show ([] : List Nat).Nodup; decide) trivial (.cons (.frz' (by rfl) (by simp) rfl (by first | rfl | omega | (simp; done) | (simp [strBytes_len]; done) | (simp; omega) | (simp_all; done)) (.same _ _ (ci_pu .u8) (by first | rfl | (simp only [MPT, CS,  List.nil_append]; done) | (simp [CS,  ci_eq, cb_eq, cs_eq, cl_eq]; done) | (simp [CS,  ci_eq, cb_eq, cs_eq, cl_eq]; intro hz; rw [List.take_of_length_le (by simp; omega)])))) .nil) (by show ([77] : List Nat).Nodup; decide) (by show ([0] : List Nat).Nodup; decide) ⟨.inr ⟨rfl, by decide⟩, ⟨_, rfl, ⟨rfl, rfl, rfl, rfl⟩, .same _ _ (ci_pu .u8) rfl⟩, trivial⟩ (.refl' rfl rfl) ?_; simp only [EVT, stepR, evOp, St.ev, St.app, St.put, wrs, datOf, datOf1, evBin, binInt, frz, evBuiltin, evAppend, isAl, elems, Option.elim, evUn, TIS, CS, reduceAdd, reduceMul, reduceEqDiff, ↓reduceIte, reduceCtorEq, reduceLT, reduceLeDiff, Array.reduceGetElem?, reduceSub, Nat.reduceBEq, ↓zc1, ↓zc27, ↓zc28, ↓zc29, ↓zc30])
         repeat' with_reducible apply And.intro
         all_goals try ((with_reducible show CallR _ _ _ _ _ _ _); refine cR_s zk29 (.cons (.ownL (by rfl) (fun e => by cases e) rfl (by first | rfl | omega | (simp; done) | (simp [strBytes_len]; done) | (simp; omega) | (simp_all; done)) (.same _ _ (ci_pu .u8) (by first | rfl | (simp only [MPT, CS,  List.nil_append]; done) | (simp [CS,  ci_eq, cb_eq, cs_eq, cl_eq]; done) | (simp [CS,  ci_eq, cb_eq, cs_eq, cl_eq]; intro hz; rw [List.take_of_length_le (by simp; omega)])))) (.cons (.lst _ _ _ (ci_pu .u8) rfl) .nil)) (.bool _) ?_; simp only [EVT, stepR, evOp, St.ev, St.app, St.put, wrs, datOf, datOf1, evBin, binInt, frz, evBuiltin, evAppend, isAl, elems, Option.elim, evUn, TIS, CS, reduceAdd, reduceMul, reduceEqDiff, ↓reduceIte, reduceCtorEq, reduceLT, reduceLeDiff, Array.reduceGetElem?, reduceSub, Nat.reduceBEq, ↓zc1, ↓zc27, ↓zc28, ↓zc29, ↓zc30])
         all_goals ((repeat' apply And.intro) <;> first|rfl|assumption|omega|(simp;done)|(simp;omega)|(simp_all;done))
        refine cA_n ?_
        refine wk_l [] [] [(3, .bool r1), (4, .list 1 (r2.map (ci .u8))), (77, .bool (decide (0 < (r4.2.1.length : Int))))] (by show ([3, 4, 77] : List Nat).Nodup; decide) (by show ([] : List Nat).Nodup; decide) ?_ ?_ (fun t0 => ⟨(decide (0 < (r4.2.1.length : Int))), t0, H, rfl⟩)
        ·exact trivial
        ·(simp only [AllT, tl_cons, tl_nil, upd_apply, List.getD_cons_zero, List.getD_cons_succ, reduceEqDiff, ↓reduceIte, and_true]); exact ⟨(.bool' rfl), (.lst _ _ _ (ci_pu .u8) rfl), (.bool' rfl)⟩
      ·rw [zc29] at H
       refine a_reg _ rfl (s := ?zs40) ?_ ?_
       rotate_left
       ·try simp only [EVT, stepR, evOp, St.ev, St.app, St.put, wrs, datOf, datOf1, evBin, binInt, frz, evBuiltin, evAppend, isAl, elems, Option.elim, evUn, TIS, CS, reduceAdd, reduceMul, reduceEqDiff, ↓reduceIte, reduceCtorEq, reduceLT, reduceLeDiff, Array.reduceGetElem?, reduceSub, Nat.reduceBEq, ↓zc1, ↓zc27, ↓zc28, ↓zc29]
        repeat' with_reducible apply And.intro
        all_goals try ((with_reducible show CallR _ _ _ _ _ _ _); refine callR_rcw (r' := .ref 76 0 r27.length 1) [(76, some ⟨5, 1, false, r27.map (ci .u8)⟩)] [] [] [(76, 0, ⟨5, 1, false, r27.map (ci .u8)⟩)] rfl zk27 (by simp) (by show ([] : List Nat).Nodup; decide) trivial (.cons (.str' rfl) .nil) (by show ([76] : List Nat).Nodup; decide) (by show ([0] : List Nat).Nodup; decide) ⟨.inr ⟨rfl, by decide⟩, ⟨_, rfl, ⟨rfl, rfl, rfl, rfl⟩, .same _ _ (ci_pu .u8) rfl⟩, trivial⟩ (.refl' rfl rfl) ?_; simp only [EVT, stepR, evOp, St.ev, St.app, St.put, wrs, datOf, datOf1, evBin, binInt, frz, evBuiltin, evAppend, isAl, elems, Option.elim, evUn, TIS, CS, reduceAdd, reduceMul, reduceEqDiff, ↓reduceIte, reduceCtorEq, reduceLT, reduceLeDiff, Array.reduceGetElem?, reduceSub, Nat.reduceBEq, ↓zc1, ↓zc27, ↓zc28, ↓zc29])
        repeat' with_reducible apply And.intro
        all_goals try ((with_reducible show CallR _ _ _ _ _ _ _); refine callR_rcw (r' := .ref 77 0 r28.length 1) [(76, some ⟨5, 1, true, r27.map (ci .u8)⟩), (77, some ⟨5, 1, false, r28.map (ci .u8)⟩)] [] [76] [(77, 0, ⟨5, 1, false, r28.map (ci .u8)⟩)] rfl zk28 (by simp) (by show ([] : List Nat).Nodup; decide) trivial (.cons (.frz' (by rfl) (by simp) rfl (by first | rfl | omega | (simp; done) | (simp [strBytes_len]; done) | (simp; omega) | (simp_all; done)) (.same _ _ (ci_pu .u8) (by first | rfl | (simp only [MPT, CS,  List.nil_append]; done) | (simp [CS,  ci_eq, cb_eq, cs_eq, cl_eq]; done) | (simp [CS,  ci_eq, cb_eq, cs_eq, cl_eq]; intro hz; rw [List.take_of_length_le (by simp; omega)])))) .nil) (by show ([77] : List Nat).Nodup; decide) (by show ([0] : List Nat).Nodup; decide) ⟨.inr ⟨rfl, by decide⟩, ⟨_, rfl, ⟨rfl, rfl, rfl, rfl⟩, .same _ _ (ci_pu .u8) rfl⟩, trivial⟩ (.refl' rfl rfl) ?_; simp only [EVT, stepR, evOp, St.ev, St.app, St.put, wrs, datOf, datOf1, evBin, binInt, frz, evBuiltin, evAppend, isAl, elems, Option.elim, evUn, TIS, CS, reduceAdd, reduceMul, reduceEqDiff, ↓reduceIte, reduceCtorEq, reduceLT, reduceLeDiff, Array.reduceGetElem?, reduceSub, Nat.reduceBEq, ↓zc1, ↓zc27, ↓zc28, ↓zc29])
        repeat' with_reducible apply And.intro
        all_goals try ((with_reducible show CallR _ _ _ _ _ _ _); refine cR_s zk29 (.cons (.ownL (by rfl) (fun e => by cases e) rfl (by first | rfl | omega | (simp; done) | (simp [strBytes_len]; done) | (simp; omega) | (simp_all; done)) (.same _ _ (ci_pu .u8) (by first | rfl | (simp only [MPT, CS,  List.nil_append]; done) | (simp [CS,  ci_eq, cb_eq, cs_eq, cl_eq]; done) | (simp [CS,  ci_eq, cb_eq, cs_eq, cl_eq]; intro hz; rw [List.take_of_length_le (by simp; omega)])))) (.cons (.lst _ _ _ (ci_pu .u8) rfl) .nil)) (.bool _) ?_; simp only [EVT, stepR, evOp, St.ev, St.app, St.put, wrs, datOf, datOf1, evBin, binInt, frz, evBuiltin, evAppend, isAl, elems, Option.elim, evUn, TIS, CS, reduceAdd, reduceMul, reduceEqDiff, ↓reduceIte, reduceCtorEq, reduceLT, reduceLeDiff, Array.reduceGetElem?, reduceSub, Nat.reduceBEq, ↓zc1, ↓zc27, ↓zc28, ↓zc29])
        all_goals ((repeat' apply And.intro) <;> first|rfl|assumption|omega|(simp;done)|(simp;omega)|(simp_all;done))
       refine cA_n ?_
       refine wk_l [] [] [(3, .bool r1), (4, .list 1 (r2.map (ci .u8))), (77, .bool false)] (by show ([3, 4, 77] : List Nat).Nodup; decide) (by show ([] : List Nat).Nodup; decide) ?_ ?_ (fun t0 => ⟨false, t0, H, rfl⟩)
       ·exact trivial
       ·(simp only [AllT, tl_cons, tl_nil, upd_apply, List.getD_cons_zero, List.getD_cons_succ, reduceEqDiff, ↓reduceIte, and_true]); exact ⟨(.bool' rfl), (.lst _ _ _ (ci_pu .u8) rfl), (.bool' (by first | rfl | assumption | (simp_all; done)))⟩
    ·have H := cond_f zc27 H
     refine bool_split (b := (r4.2.2 != 0)) (fun zc31 => ?_) (fun zc31 => ?_)
     ·rw [zc31] at H
      refine bool_split (b := (!(r4.1.toList == (⟨#[]⟩ : ByteArray).toList))) (fun zc32 => ?_) (fun zc32 => ?_)
      ·rw [zc32] at H
       refine a_reg _ rfl (s := ?zs41) ?_ ?_
       rotate_left
       ·simp only [EVT, stepR, evOp, St.ev, St.app, St.put, wrs, datOf, datOf1, evBin, binInt, frz, evBuiltin, evAppend, isAl, elems, Option.elim, evUn, TIS, CS, reduceAdd, reduceMul, reduceEqDiff, ↓reduceIte, reduceCtorEq, reduceLT, reduceLeDiff, Array.reduceGetElem?, reduceSub, Nat.reduceBEq, ↓zc1, ↓zc27, ↓zc31, ↓zc32]
        try simp only [EVT, stepR, evOp, St.ev, St.app, St.put, wrs, datOf, datOf1, evBin, binInt, frz, evBuiltin, evAppend, isAl, elems, Option.elim, evUn, TIS, CS, reduceAdd, reduceMul, reduceEqDiff, ↓reduceIte, reduceCtorEq, reduceLT, reduceLeDiff, Array.reduceGetElem?, reduceSub, Nat.reduceBEq, ↓zc1, ↓zc27, ↓zc31, ↓zc32]
        (repeat' apply And.intro) <;> first|rfl|assumption|omega|(simp;done)|(simp;omega)|(simp_all;done)
       refine cA_n ?_
       refine wk_l [] [] [(3, .bool r1), (4, .list 1 (r2.map (ci .u8))), (77, .bool true)] (by show ([3, 4, 77] : List Nat).Nodup; decide) (by show ([] : List Nat).Nodup; decide) ?_ ?_ (fun t0 => ⟨true, t0, H, rfl⟩)
       ·exact trivial
       ·(simp only [AllT, tl_cons, tl_nil, upd_apply, List.getD_cons_zero, List.getD_cons_succ, reduceEqDiff, ↓reduceIte, and_true]); exact ⟨(.bool' rfl), (.lst _ _ _ (ci_pu .u8) rfl), (.bool' (by first | rfl | assumption | (simp_all; done)))⟩
      ·rw [zc32] at H
       refine a_reg _ rfl (s := ?zs42) ?_ ?_
       rotate_left
       ·simp only [EVT, stepR, evOp, St.ev, St.app, St.put, wrs, datOf, datOf1, evBin, binInt, frz, evBuiltin, evAppend, isAl, elems, Option.elim, evUn, TIS, CS, reduceAdd, reduceMul, reduceEqDiff, ↓reduceIte, reduceCtorEq, reduceLT, reduceLeDiff, Array.reduceGetElem?, reduceSub, Nat.reduceBEq, ↓zc1, ↓zc27, ↓zc31, ↓zc32]
        try simp only [EVT, stepR, evOp, St.ev, St.app, St.put, wrs, datOf, datOf1, evBin, binInt, frz, evBuiltin, evAppend, isAl, elems, Option.elim, evUn, TIS, CS, reduceAdd, reduceMul, reduceEqDiff, ↓reduceIte, reduceCtorEq, reduceLT, reduceLeDiff, Array.reduceGetElem?, reduceSub, Nat.reduceBEq, ↓zc1, ↓zc27, ↓zc31, ↓zc32]
        (repeat' apply And.intro) <;> first|rfl|assumption|omega|(simp;done)|(simp;omega)|(simp_all;done)
       refine cA_n ?_
       refine wk_l [] [] [(3, .bool r1), (4, .list 1 (r2.map (ci .u8))), (77, .bool (decide (0 < (r4.2.1.length : Int))))] (by show ([3, 4, 77] : List Nat).Nodup; decide) (by show ([] : List Nat).Nodup; decide) ?_ ?_ (fun t0 => ⟨(decide (0 < (r4.2.1.length : Int))), t0, H, rfl⟩)
       ·exact trivial
       ·(simp only [AllT, tl_cons, tl_nil, upd_apply, List.getD_cons_zero, List.getD_cons_succ, reduceEqDiff, ↓reduceIte, and_true]); exact ⟨(.bool' rfl), (.lst _ _ _ (ci_pu .u8) rfl), (.bool' rfl)⟩
     ·rw [zc31] at H
      refine a_reg _ rfl (s := ?zs43) ?_ ?_
      rotate_left
      ·simp only [EVT, stepR, evOp, St.ev, St.app, St.put, wrs, datOf, datOf1, evBin, binInt, frz, evBuiltin, evAppend, isAl, elems, Option.elim, evUn, TIS, CS, reduceAdd, reduceMul, reduceEqDiff, ↓reduceIte, reduceCtorEq, reduceLT, reduceLeDiff, Array.reduceGetElem?, reduceSub, Nat.reduceBEq, ↓zc1, ↓zc27, ↓zc31]
       try simp only [EVT, stepR, evOp, St.ev, St.app, St.put, wrs, datOf, datOf1, evBin, binInt, frz, evBuiltin, evAppend, isAl, elems, Option.elim, evUn, TIS, CS, reduceAdd, reduceMul, reduceEqDiff, ↓reduceIte, reduceCtorEq, reduceLT, reduceLeDiff, Array.reduceGetElem?, reduceSub, Nat.reduceBEq, ↓zc1, ↓zc27, ↓zc31]
       (repeat' apply And.intro) <;> first|rfl|assumption|omega|(simp;done)|(simp;omega)|(simp_all;done)
      refine cA_n ?_
      refine wk_l [] [] [(3, .bool r1), (4, .list 1 (r2.map (ci .u8))), (77, .bool false)] (by show ([3, 4, 77] : List Nat).Nodup; decide) (by show ([] : List Nat).Nodup; decide) ?_ ?_ (fun t0 => ⟨false, t0, H, rfl⟩)
      ·exact trivial
      ·(simp only [AllT, tl_cons, tl_nil, upd_apply, List.getD_cons_zero, List.getD_cons_succ, reduceEqDiff, ↓reduceIte, and_true]); exact ⟨(.bool' rfl), (.lst _ _ _ (ci_pu .u8) rfl), (.bool' (by first | rfl | assumption | (simp_all; done)))⟩
   ·rintro s ⟨v2, t0, H, rfl⟩
    unfold law01_PackOwn_J2 at H
    refine a_condb (v2) (by rfl) (fun zc2 => ?_) (fun zc2 => ?_)
    ·have H := cond_t zc2 H
     refine a_seq ?_
     refine a_reg _ rfl (s := ?zs7) ?_ ?_
     rotate_left
     ·simp only [EVT, stepR, evOp, St.ev, St.app, St.put, wrs, datOf, datOf1, TIS, CS, reduceAdd, reduceMul, reduceEqDiff, ↓reduceIte, reduceCtorEq, reduceLT, reduceLeDiff, ↓zc2]
      (repeat' apply And.intro) <;> first|rfl|assumption|omega|(simp;done)|(simp;omega)|(simp_all;done)
     refine sA_n ?_
     refine a_ret ?_
     refine sA_r ?_
     obtain rfl := Option.some.inj H
     refine e_r2 (d := ?zd2) ?_ ?_
     rotate_left
     ·simp only [EVT, resR, single, evLoad, cut, TIS, CS, reduceAdd, reduceEqDiff, ↓reduceIte, reduceCtorEq, reduceLT, reduceLeDiff, reduceSub, Nat.reduceBEq, zc2]
      (repeat' apply And.intro) <;> first | rfl | assumption | omega | (simp; done)
     exact (.bool' (by first | rfl | assumption | (simp_all; done)))
    ·have H := cond_f zc2 H
     refine a_skip ?_
     refine sA_n ?_
     refine a_seq ?_
     obtain ⟨r5, zh5, H⟩ := bind_some H
     have zk5 := pack_ReadInts_pc zh5
     refine a_reg _ rfl (s := ?zs8) ?_ ?_
     rotate_left
     ·try simp only [EVT, stepR, evOp, St.ev, St.app, St.put, wrs, frz, TIS, CS, reduceAdd, reduceMul, reduceEqDiff, ↓reduceIte, reduceCtorEq, reduceLT, reduceLeDiff, reduceSub, Nat.reduceBEq, ↓zc2]
      repeat' with_reducible apply And.intro
      all_goals try ((with_reducible show CallR _ _ _ _ _ _ _); refine cR_p zk5 (.cons (.lst _ _ _ (ci_pu .u8) rfl) .nil) ?_; simp only [EVT, stepR, evOp, St.ev, St.app, St.put, wrs, frz, TIS, CS, reduceAdd, reduceMul, reduceEqDiff, ↓reduceIte, reduceCtorEq, reduceLT, reduceLeDiff, reduceSub, Nat.reduceBEq, ↓zc2])
      all_goals ((repeat' apply And.intro) <;> first|rfl|assumption|omega|(simp;done)|(simp;omega)|(simp_all;done))
     refine sA_n ?_
     refine a_seq ?_
     refine a_cut (fun s => ∃ (v3 : Bool) (t0 : Nat → Dat), law01_PackOwn_J3 r2 r1 v3 = some r ∧ s = ⟨tl t0 [(3, .bool r1), (4, .list 1 (r2.map (ci .u8))), (107, .bool v3)], hl [], 0, 157⟩) ?_ ?_
     ·refine bool_split (b := (r5.2.2 == 0)) (fun zc23 => ?_) (fun zc23 => ?_)
      ·have H := cond_t zc23 H
       obtain ⟨r24, zh24, H⟩ := bind_some H
       have zk24 := pack_Ints_rc zh24
       obtain ⟨r25, zh25, H⟩ := bind_some H
       have zk25 := law01_few_rc zh25
       obtain ⟨zh26, H⟩ := chk_some H
       obtain ⟨r26, zh27, H⟩ := bind_some H
       have zk26 := ref01_Same_pc zh27
       refine bool_split (b := (!r26)) (fun zc24 => ?_) (fun zc24 => ?_)
       ·rw [zc24] at H
        refine a_reg _ rfl (s := ?zs32) ?_ ?_
        rotate_left
        ·try simp only [EVT, stepR, evOp, St.ev, St.app, St.put, wrs, datOf, datOf1, evBin, binInt, frz, evBuiltin, evAppend, isAl, elems, Option.elim, evUn, TIS, CS, reduceAdd, reduceMul, reduceEqDiff, ↓reduceIte, reduceCtorEq, reduceLT, reduceLeDiff, Array.reduceGetElem?, reduceSub, Nat.reduceBEq, ↓zc2, ↓zc23, ↓zc24]
         repeat' with_reducible apply And.intro
         all_goals try ((with_reducible show CallR _ _ _ _ _ _ _); refine callR_rcw (r' := .ref 76 0 r24.length 1) [(76, some ⟨5, 1, false, r24.map (ci .u8)⟩)] [] [] [(76, 0, ⟨5, 1, false, r24.map (ci .u8)⟩)] rfl zk24 (by simp) (by show ([] : List Nat).Nodup; decide) trivial (.cons (.lst _ _ _ (ci_pu .i64) rfl) .nil) (by show ([76] : List Nat).Nodup; decide) (by show ([0] : List Nat).Nodup; decide) ⟨.inr ⟨rfl, by decide⟩, ⟨_, rfl, ⟨rfl, rfl, rfl, rfl⟩, .same _ _ (ci_pu .u8) rfl⟩, trivial⟩ (.refl' rfl rfl) ?_; simp only [EVT, stepR, evOp, St.ev, St.app, St.put, wrs, datOf, datOf1, evBin, binInt, frz, evBuiltin, evAppend, isAl, elems, Option.elim, evUn, TIS, CS, reduceAdd, reduceMul, reduceEqDiff, ↓reduceIte, reduceCtorEq, reduceLT, reduceLeDiff, Array.reduceGetElem?, reduceSub, Nat.reduceBEq, ↓zc2, ↓zc23, ↓zc24])
         repeat' with_reducible apply And.intro
         all_goals try ((with_reducible show CallR _ _ _ _ _ _ _); refine callR_rcw (r' := .ref 77 0 r25.length 1) [(76, some ⟨5, 1, true, r24.map (ci .u8)⟩), (77, some ⟨5, 1, false, r25.map (ci .u8)⟩)] [] [76] [(77, 0, ⟨5, 1, false, r25.map (ci .u8)⟩)] rfl zk25 (by simp) (by show ([] : List Nat).Nodup; decide) trivial (.cons (.frz' (by rfl) (by simp) rfl (by first | rfl | omega | (simp; done) | (simp [strBytes_len]; done) | (simp; omega) | (simp_all; done)) (.same _ _ (ci_pu .u8) (by first | rfl | (simp only [MPT, CS,  List.nil_append]; done) | (simp [CS,  ci_eq, cb_eq, cs_eq, cl_eq]; done) | (simp [CS,  ci_eq, cb_eq, cs_eq, cl_eq]; intro hz; rw [List.take_of_length_le (by simp; omega)])))) .nil) (by show ([77] : List Nat).Nodup; decide) (by show ([0] : List Nat).Nodup; decide) ⟨.inr ⟨rfl, by decide⟩, ⟨_, rfl, ⟨rfl, rfl, rfl, rfl⟩, .same _ _ (ci_pu .u8) rfl⟩, trivial⟩ (.refl' rfl rfl) ?_; simp only [EVT, stepR, evOp, St.ev, St.app, St.put, wrs, datOf, datOf1, evBin, binInt, frz, evBuiltin, evAppend, isAl, elems, Option.elim, evUn, TIS, CS, reduceAdd, reduceMul, reduceEqDiff, ↓reduceIte, reduceCtorEq, reduceLT, reduceLeDiff, Array.reduceGetElem?, reduceSub, Nat.reduceBEq, ↓zc2, ↓zc23, ↓zc24])
         repeat' with_reducible apply And.intro
         all_goals try ((with_reducible show CallR _ _ _ _ _ _ _); refine cR_s zk26 (.cons (.ownL (by rfl) (fun e => by cases e) rfl (by first | rfl | omega | (simp; done) | (simp [strBytes_len]; done) | (simp; omega) | (simp_all; done)) (.same _ _ (ci_pu .u8) (by first | rfl | (simp only [MPT, CS,  List.nil_append]; done) | (simp [CS,  ci_eq, cb_eq, cs_eq, cl_eq]; done) | (simp [CS,  ci_eq, cb_eq, cs_eq, cl_eq]; intro hz; rw [List.take_of_length_le (by simp; omega)])))) (.cons (.lst _ _ _ (ci_pu .u8) rfl) .nil)) (.bool _) ?_; simp only [EVT, stepR, evOp, St.ev, St.app, St.put, wrs, datOf, datOf1, evBin, binInt, frz, evBuiltin, evAppend, isAl, elems, Option.elim, evUn, TIS, CS, reduceAdd, reduceMul, reduceEqDiff, ↓reduceIte, reduceCtorEq, reduceLT, reduceLeDiff, Array.reduceGetElem?, reduceSub, Nat.reduceBEq, ↓zc2, ↓zc23, ↓zc24])
         all_goals ((repeat' apply And.intro) <;> first|rfl|assumption|omega|(simp;done)|(simp;omega)|(simp_all;done))
        refine cA_n ?_
        refine wk_l [] [] [(3, .bool r1), (4, .list 1 (r2.map (ci .u8))), (107, .bool true)] (by show ([3, 4, 107] : List Nat).Nodup; decide) (by show ([] : List Nat).Nodup; decide) ?_ ?_ (fun t0 => ⟨true, t0, H, rfl⟩)
        ·exact trivial
        ·(simp only [AllT, tl_cons, tl_nil, upd_apply, List.getD_cons_zero, List.getD_cons_succ, reduceEqDiff, ↓reduceIte, and_true]); exact ⟨(.bool' rfl), (.lst _ _ _ (ci_pu .u8) rfl), (.bool' (by first | rfl | assumption | (simp_all; done)))⟩
       ·rw [zc24] at H
        refine bool_split (b := (r5.2.2 != 0)) (fun zc25 => ?_) (fun zc25 => ?_)
        ·rw [zc25] at H
         refine a_reg _ rfl (s := ?zs33) ?_ ?_
         rotate_left
         ·try simp only [EVT, stepR, evOp, St.ev, St.app, St.put, wrs, datOf, datOf1, evBin, binInt, frz, evBuiltin, evAppend, isAl, elems, Option.elim, evUn, TIS, CS, reduceAdd, reduceMul, reduceEqDiff, ↓reduceIte, reduceCtorEq, reduceLT, reduceLeDiff, Array.reduceGetElem?, reduceSub, Nat.reduceBEq, ↓zc2, ↓zc23, ↓zc24, ↓zc25]
          repeat' with_reducible apply And.intro
          all_goals try ((with_reducible show CallR _ _ _ _ _ _ _); refine callR_rcw (r' := .ref 76 0 r24.length 1) [(76, some ⟨5, 1, false, r24.map (ci .u8)⟩)] [] [] [(76, 0, ⟨5, 1, false, r24.map (ci .u8)⟩)] rfl zk24 (by simp) (by show ([] : List Nat).Nodup; decide) trivial (.cons (.lst _ _ _ (ci_pu .i64) rfl) .nil) (by show ([76] : List Nat).Nodup; decide) (by show ([0] : List Nat).Nodup; decide) ⟨.inr ⟨rfl, by decide⟩, ⟨_, rfl, ⟨rfl, rfl, rfl, rfl⟩, .same _ _ (ci_pu .u8) rfl⟩, trivial⟩ (.refl' rfl rfl) ?_; simp only [EVT, stepR, evOp, St.ev, St.app, St.put, wrs, datOf, datOf1, evBin, binInt, frz, evBuiltin, evAppend, isAl, elems, Option.elim, evUn, TIS, CS, reduceAdd, reduceMul, reduceEqDiff, ↓reduceIte, reduceCtorEq, reduceLT, reduceLeDiff, Array.reduceGetElem?, reduceSub, Nat.reduceBEq, ↓zc2, ↓zc23, ↓zc24, ↓zc25])
          repeat' with_reducible apply And.intro
          all_goals try ((with_reducible show CallR _ _ _ _ _ _ _); refine callR_rcw (r' := .ref 77 0 r25.length 1) [(76, some ⟨5, 1, true, r24.map (ci .u8)⟩), (77, some ⟨5, 1, false, r25.map (ci .u8)⟩)] [] [76] [(77, 0, ⟨5, 1, false, r25.map (ci .u8)⟩)] rfl zk25 (by simp) (by show ([] : List Nat).Nodup; decide) trivial (.cons (.frz' (by rfl) (by simp) rfl (by first | rfl | omega | (simp; done) | (simp [strBytes_len]; done) | (simp; omega) | (simp_all; done)) (.same _ _ (ci_pu .u8) (by first | rfl | (simp only [MPT, CS,  List.nil_append]; done) | (simp [CS,  ci_eq, cb_eq, cs_eq, cl_eq]; done) | (simp [CS,  ci_eq, cb_eq, cs_eq, cl_eq]; intro hz; rw [List.take_of_length_le (by simp; omega)])))) .nil) (by show ([77] : List Nat).Nodup; decide) (by show ([0] : List Nat).Nodup; decide) ⟨.inr ⟨rfl, by decide⟩, ⟨_, rfl, ⟨rfl, rfl, rfl, rfl⟩, .same _ _ (ci_pu .u8) rfl⟩, trivial⟩ (.refl' rfl rfl) ?_; simp only [EVT, stepR, evOp, St.ev, St.app, St.put, wrs, datOf, datOf1, evBin, binInt, frz, evBuiltin, evAppend, isAl, elems, Option.elim, evUn, TIS, CS, reduceAdd, reduceMul, reduceEqDiff, ↓reduceIte, reduceCtorEq, reduceLT, reduceLeDiff, Array.reduceGetElem?, reduceSub, Nat.reduceBEq, ↓zc2, ↓zc23, ↓zc24, ↓zc25])
          repeat' with_reducible apply And.intro
          all_goals try ((with_reducible show CallR _ _ _ _ _ _ _); refine cR_s zk26 (.cons (.ownL (by rfl) (fun e => by cases e) rfl (by first | rfl | omega | (simp; done) | (simp [strBytes_len]; done) | (simp; omega) | (simp_all; done)) (.same _ _ (ci_pu .u8) (by first | rfl | (simp only [MPT, CS,  List.nil_append]; done) | (simp [CS,  ci_eq, cb_eq, cs_eq, cl_eq]; done) | (simp [CS,  ci_eq, cb_eq, cs_eq, cl_eq]; intro hz; rw [List.take_of_length_le (by simp; omega)])))) (.cons (.lst _ _ _ (ci_pu .u8) rfl) .nil)) (.bool _) ?_; simp only [EVT, stepR, evOp, St.ev, St.app, St.put, wrs, datOf, datOf1, evBin, binInt, frz, evBuiltin, evAppend, isAl, elems, Option.elim, evUn, TIS, CS, reduceAdd, reduceMul, reduceEqDiff, ↓reduceIte, reduceCtorEq, reduceLT, reduceLeDiff, Array.reduceGetElem?, reduceSub, Nat.reduceBEq, ↓zc2, ↓zc23, ↓zc24, ↓zc25])
          all_goals ((repeat' apply And.intro) <;> first|rfl|assumption|omega|(simp;done)|(simp;omega)|(simp_all;done))
         refine cA_n ?_
         refine wk_l [] [] [(3, .bool r1), (4, .list 1 (r2.map (ci .u8))), (107, .bool (decide (0 < (IntKind.wrap .i64 ((r5.1.length : Int) + (r5.2.1.length : Int))))))] (by show ([3, 4, 107] : List Nat).Nodup; decide) (by show ([] : List Nat).Nodup; decide) ?_ ?_ (fun t0 => ⟨(decide (0 < (IntKind.wrap .i64 ((r5.1.length : Int) + (r5.2.1.length : Int))))), t0, H, rfl⟩)
         ·exact trivial
         ·(simp only [AllT, tl_cons, tl_nil, upd_apply, List.getD_cons_zero, List.getD_cons_succ, reduceEqDiff, ↓reduceIte, and_true]); exact ⟨(.bool' rfl), (.lst _ _ _ (ci_pu .u8) rfl), (.bool' rfl)⟩
        ·rw [zc25] at H
         refine a_reg _ rfl (s := ?zs34) ?_ ?_
         rotate_left
         ·try simp only [EVT, stepR, evOp, St.ev, St.app, St.put, wrs, datOf, datOf1, evBin, binInt, frz, evBuiltin, evAppend, isAl, elems, Option.elim, evUn, TIS, CS, reduceAdd, reduceMul, reduceEqDiff, ↓reduceIte, reduceCtorEq, reduceLT, reduceLeDiff, Array.reduceGetElem?, reduceSub, Nat.reduceBEq, ↓zc2, ↓zc23, ↓zc24, ↓zc25]
          repeat' with_reducible apply And.intro
          all_goals try ((with_reducible show CallR _ _ _ _ _ _ _); refine callR_rcw (r' := .ref 76 0 r24.length 1) [(76, some ⟨5, 1, false, r24.map (ci .u8)⟩)] [] [] [(76, 0, ⟨5, 1, false, r24.map (ci .u8)⟩)] rfl zk24 (by simp) (by show ([] : List Nat).Nodup; decide) trivial (.cons (.lst _ _ _ (ci_pu .i64) rfl) .nil) (by show ([76] : List Nat).Nodup; decide) (by show ([0] : List Nat).Nodup; decide) ⟨.inr ⟨rfl, by decide⟩, ⟨_, rfl, ⟨rfl, rfl, rfl, rfl⟩, .same _ _ (ci_pu .u8) rfl⟩, trivial⟩ (.refl' rfl rfl) ?_; simp only [EVT, stepR, evOp, St.ev, St.app, St.put, wrs, datOf, datOf1, evBin, binInt, frz, evBuiltin, evAppend, isAl, elems, Option.elim, evUn, TIS, CS, reduceAdd, reduceMul, reduceEqDiff, ↓reduceIte, reduceCtorEq, reduceLT, reduceLeDiff, Array.reduceGetElem?, reduceSub, Nat.reduceBEq, ↓zc2, ↓zc23, ↓zc24, ↓zc25])
          repeat' with_reducible apply And.intro
          all_goals try ((with_reducible show CallR _ _ _ _ _ _ _); refine callR_rcw (r' := .ref 77 0 r25.length 1) [(76, some ⟨5, 1, true, r24.map (ci .u8)⟩), (77, some ⟨5, 1, false, r25.map (ci .u8)⟩)] [] [76] [(77, 0, ⟨5, 1, false, r25.map (ci .u8)⟩)] rfl zk25 (by simp) (by show ([] : List Nat).Nodup; decide) trivial (.cons (.frz' (by rfl) (by simp) rfl (by first | rfl | omega | (simp; done) | (simp [strBytes_len]; done) | (simp; omega) | (simp_all; done)) (.same _ _ (ci_pu .u8) (by first | rfl | (simp only [MPT, CS,  List.nil_append]; done) | (simp [CS,  ci_eq, cb_eq, cs_eq, cl_eq]; done) | (simp [CS,  ci_eq, cb_eq, cs_eq, cl_eq]; intro hz; rw [List.take_of_length_le (by simp; omega)])))) .nil) (by show ([77] : List Nat).Nodup; decide) (by show ([0] : List Nat).Nodup; decide) ⟨.inr ⟨rfl, by decide⟩, ⟨_, rfl, ⟨rfl, rfl, rfl, rfl⟩, .same _ _ (ci_pu .u8) rfl⟩, trivial⟩ (.refl' rfl rfl) ?_; simp only [EVT, stepR, evOp, St.ev, St.app, St.put, wrs, datOf, datOf1, evBin, binInt, frz, evBuiltin, evAppend, isAl, elems, Option.elim, evUn, TIS, CS, reduceAdd, reduceMul, reduceEqDiff, ↓reduceIte, reduceCtorEq, reduceLT, reduceLeDiff, Array.reduceGetElem?, reduceSub, Nat.reduceBEq, ↓zc2, ↓zc23, ↓zc24, ↓zc25])
          repeat' with_reducible apply And.intro
          all_goals try ((with_reducible show CallR _ _ _ _ _ _ _); refine cR_s zk26 (.cons (.ownL (by rfl) (fun e => by cases e) rfl (by first | rfl | omega | (simp; done) | (simp [strBytes_len]; done) | (simp; omega) | (simp_all; done)) (.same _ _ (ci_pu .u8) (by first | rfl | (simp only [MPT, CS,  List.nil_append]; done) | (simp [CS,  ci_eq, cb_eq, cs_eq, cl_eq]; done) | (simp [CS,  ci_eq, cb_eq, cs_eq, cl_eq]; intro hz; rw [List.take_of_length_le (by simp; omega)])))) (.cons (.lst _ _ _ (ci_pu .u8) rfl) .nil)) (.bool _) ?_; simp only [EVT, stepR, evOp, St.ev, St.app, St.put, wrs, datOf, datOf1, evBin, binInt, frz, evBuiltin, evAppend, isAl, elems, Option.elim, evUn, TIS, CS, reduceAdd, reduceMul, reduceEqDiff, ↓reduceIte, reduceCtorEq, reduceLT, reduceLeDiff, Array.reduceGetElem?, reduceSub, Nat.reduceBEq, ↓zc2, ↓zc23, ↓zc24, ↓zc25])
          all_goals ((repeat' apply And.intro) <;> first|rfl|assumption|omega|(simp;done)|(simp;omega)|(simp_all;done))
         refine cA_n ?_
         refine wk_l [] [] [(3, .bool r1), (4, .list 1 (r2.map (ci .u8))), (107, .bool false)] (by show ([3, 4, 107] : List Nat).Nodup; decide) (by show ([] : List Nat).Nodup; decide) ?_ ?_ (fun t0 => ⟨false, t0, H, rfl⟩)
         ·exact trivial
         ·(simp only [AllT, tl_cons, tl_nil, upd_apply, List.getD_cons_zero, List.getD_cons_succ, reduceEqDiff, ↓reduceIte, and_true]); exact ⟨(.bool' rfl), (.lst _ _ _ (ci_pu .u8) rfl), (.bool' (by first | rfl | assumption | (simp_all; done)))⟩
      ·have H := cond_f zc23 H
       refine bool_split (b := (r5.2.2 != 0)) (fun zc26 => ?_) (fun zc26 => ?_)
       ·rw [zc26] at H
        refine a_reg _ rfl (s := ?zs35) ?_ ?_
        rotate_left
        ·simp only [EVT, stepR, evOp, St.ev, St.app, St.put, wrs, datOf, datOf1, evBin, binInt, frz, evBuiltin, evAppend, isAl, elems, Option.elim, evUn, TIS, CS, reduceAdd, reduceMul, reduceEqDiff, ↓reduceIte, reduceCtorEq, reduceLT, reduceLeDiff, Array.reduceGetElem?, reduceSub, Nat.reduceBEq, ↓zc2, ↓zc23, ↓zc26]
         try simp only [EVT, stepR, evOp, St.ev, St.app, St.put, wrs, datOf, datOf1, evBin, binInt, frz, evBuiltin, evAppend, isAl, elems, Option.elim, evUn, TIS, CS, reduceAdd, reduceMul, reduceEqDiff, ↓reduceIte, reduceCtorEq, reduceLT, reduceLeDiff, Array.reduceGetElem?, reduceSub, Nat.reduceBEq, ↓zc2, ↓zc23, ↓zc26]
         (repeat' apply And.intro) <;> first|rfl|assumption|omega|(simp;done)|(simp;omega)|(simp_all;done)
        refine cA_n ?_
        refine wk_l [] [] [(3, .bool r1), (4, .list 1 (r2.map (ci .u8))), (107, .bool (decide (0 < (IntKind.wrap .i64 ((r5.1.length : Int) + (r5.2.1.length : Int))))))] (by show ([3, 4, 107] : List Nat).Nodup; decide) (by show ([] : List Nat).Nodup; decide) ?_ ?_ (fun t0 => ⟨(decide (0 < (IntKind.wrap .i64 ((r5.1.length : Int) + (r5.2.1.length : Int))))), t0, H, rfl⟩)
        ·exact trivial
        ·(simp only [AllT, tl_cons, tl_nil, upd_apply, List.getD_cons_zero, List.getD_cons_succ, reduceEqDiff, ↓reduceIte, and_true]); exact ⟨(.bool' rfl), (.lst _ _ _ (ci_pu .u8) rfl), (.bool' rfl)⟩
       ·rw [zc26] at H
        refine a_reg _ rfl (s := ?zs36) ?_ ?_
        rotate_left
        ·simp only [EVT, stepR, evOp, St.ev, St.app, St.put, wrs, datOf, datOf1, evBin, binInt, frz, evBuiltin, evAppend, isAl, elems, Option.elim, evUn, TIS, CS, reduceAdd, reduceMul, reduceEqDiff, ↓reduceIte, reduceCtorEq, reduceLT, reduceLeDiff, Array.reduceGetElem?, reduceSub, Nat.reduceBEq, ↓zc2, ↓zc23, ↓zc26]
         try simp only [EVT, stepR, evOp, St.ev, St.app, St.put, wrs, datOf, datOf1, evBin, binInt, frz, evBuiltin, evAppend, isAl, elems, Option.elim, evUn, TIS, CS, reduceAdd, reduceMul, reduceEqDiff, ↓reduceIte, reduceCtorEq, reduceLT, reduceLeDiff, Array.reduceGetElem?, reduceSub, Nat.reduceBEq, ↓zc2, ↓zc23, ↓zc26]
         (repeat' apply And.intro) <;> first|rfl|assumption|omega|(simp;done)|(simp;omega)|(simp_all;done)
        refine cA_n ?_
        refine wk_l [] [] [(3, .bool r1), (4, .list 1 (r2.map (ci .u8))), (107, .bool false)] (by show ([3, 4, 107] : List Nat).Nodup; decide) (by show ([] : List Nat).Nodup; decide) ?_ ?_ (fun t0 => ⟨false, t0, H, rfl⟩)
        ·exact trivial
        ·(simp only [AllT, tl_cons, tl_nil, upd_apply, List.getD_cons_zero, List.getD_cons_succ, reduceEqDiff, ↓reduceIte, and_true]); exact ⟨(.bool' rfl), (.lst _ _ _ (ci_pu .u8) rfl), (.bool' (by first | rfl | assumption | (simp_all; done)))⟩
     ·rintro s ⟨v3, t0, H, rfl⟩
      unfold law01_PackOwn_J3 at H
      refine a_condb (v3) (by rfl) (fun zc3 => ?_) (fun zc3 => ?_)
      ·have H := cond_t zc3 H
       refine a_seq ?_
       refine a_reg _ rfl (s := ?zs9) ?_ ?_
       rotate_left
       ·simp only [EVT, stepR, evOp, St.ev, St.app, St.put, wrs, datOf, datOf1, TIS, CS, reduceAdd, reduceMul, reduceEqDiff, ↓reduceIte, reduceCtorEq, reduceLT, reduceLeDiff, ↓zc3]
        (repeat' apply And.intro) <;> first|rfl|assumption|omega|(simp;done)|(simp;omega)|(simp_all;done)
       refine sA_n ?_
       refine a_ret ?_
       refine sA_r ?_
       obtain rfl := Option.some.inj H
       refine e_r2 (d := ?zd3) ?_ ?_
       rotate_left
       ·simp only [EVT, resR, single, evLoad, cut, TIS, CS, reduceAdd, reduceEqDiff, ↓reduceIte, reduceCtorEq, reduceLT, reduceLeDiff, reduceSub, Nat.reduceBEq, zc3]
        (repeat' apply And.intro) <;> first | rfl | assumption | omega | (simp; done)
       exact (.bool' (by first | rfl | assumption | (simp_all; done)))
      ·have H := cond_f zc3 H
       refine a_skip ?_
       refine sA_n ?_
       refine a_seq ?_
       obtain ⟨r6, zh6, H⟩ := bind_some H
       have zk6 := pack_ReadOp_pc zh6
       refine a_reg _ rfl (s := ?zs10) ?_ ?_
       rotate_left
       ·try simp only [EVT, stepR, evOp, St.ev, St.app, St.put, wrs, frz, allOne, evStore, setR, TIS, CS, reduceAdd, reduceMul, reduceEqDiff, ↓reduceIte, reduceCtorEq, reduceLT, reduceLeDiff, reduceSub, Nat.reduceBEq, ↓zc3]
        repeat' with_reducible apply And.intro
        all_goals try ((with_reducible show CallR _ _ _ _ _ _ _); refine cR_p zk6 (.cons (.lst _ _ _ (ci_pu .u8) rfl) .nil) ?_; simp only [EVT, stepR, evOp, St.ev, St.app, St.put, wrs, frz, allOne, evStore, setR, TIS, CS, reduceAdd, reduceMul, reduceEqDiff, ↓reduceIte, reduceCtorEq, reduceLT, reduceLeDiff, reduceSub, Nat.reduceBEq, ↓zc3])
        all_goals ((repeat' apply And.intro) <;> first|rfl|assumption|omega|(simp;done)|(simp;omega)|(simp_all;done))
       refine sA_n ?_
       refine a_seq ?_
       obtain ⟨r7, zh7, H⟩ := bind_some H
       have zk7 := pack_ReadAns_pc zh7
       refine a_reg _ rfl (s := ?zs11) ?_ ?_
       rotate_left
       ·try simp only [EVT, stepR, evOp, St.ev, St.app, St.put, wrs, frz, allOne, evStore, setR, TIS, CS, reduceAdd, reduceMul, reduceEqDiff, ↓reduceIte, reduceCtorEq, reduceLT, reduceLeDiff, reduceSub, Nat.reduceBEq, ↓zc3]
        repeat' with_reducible apply And.intro
        all_goals try ((with_reducible show CallR _ _ _ _ _ _ _); refine cR_p zk7 (.cons (.lst _ _ _ (ci_pu .u8) rfl) .nil) ?_; simp only [EVT, stepR, evOp, St.ev, St.app, St.put, wrs, frz, allOne, evStore, setR, TIS, CS, reduceAdd, reduceMul, reduceEqDiff, ↓reduceIte, reduceCtorEq, reduceLT, reduceLeDiff, reduceSub, Nat.reduceBEq, ↓zc3])
        all_goals ((repeat' apply And.intro) <;> first|rfl|assumption|omega|(simp;done)|(simp;omega)|(simp_all;done))
       refine sA_n ?_
       refine a_seq ?_
       refine bool_split (b := r1) (fun zc4 => ?_) (fun zc4 => ?_)
       ·have H := cond_t zc4 H
        refine bool_split (b := (r6.2 == 0)) (fun zc5 => ?_) (fun zc5 => ?_)
        ·have H := cond_t zc5 H
         obtain ⟨r8, zh8, H⟩ := bind_some H
         have zk8 := pack_Op_rc zh8
         obtain ⟨r9, zh9, H⟩ := bind_some H
         have zk9 := ref01_Same_pc zh9
         refine bool_split (b := r9) (fun zc6 => ?_) (fun zc6 => ?_)
         ·have H := cond_t zc6 H
          refine bool_split (b := (r7.2 == 0)) (fun zc7 => ?_) (fun zc7 => ?_)
          ·have H := cond_t zc7 H
           obtain ⟨r10, zh10, H⟩ := bind_some H
           have zk10 := pack_Ans_rc zh10
           obtain ⟨r11, zh11, H⟩ := bind_some H
           have zk11 := ref01_Same_pc zh11
           refine bool_split (b := r11) (fun zc8 => ?_) (fun zc8 => ?_)
           ·have H := cond_t zc8 H
            refine a_reg _ rfl (s := ?zs12) ?_ ?_
            rotate_left
            ·try simp only [EVT, stepR, evOp, St.ev, St.app, St.put, wrs, datOf, datOf1, evBin, binInt, evLoad, cut, frz, fillD, setR, TIS, CS, reduceAdd, reduceMul, reduceEqDiff, ↓reduceIte, reduceCtorEq, reduceLT, reduceLeDiff, Array.reduceGetElem?, reduceSub, Nat.reduceBEq, ↓zc3, ↓zc4, ↓zc5, ↓zc6, ↓zc7, ↓zc8]
             repeat' with_reducible apply And.intro
             all_goals try ((with_reducible show CallR _ _ _ _ _ _ _); refine callR_rcw (r' := .ref 134 0 r8.length 1) [(134, some ⟨5, 1, false, r8.map (ci .u8)⟩)] [] [] [(134, 0, ⟨5, 1, false, r8.map (ci .u8)⟩)] rfl zk8 (by simp) (by show ([] : List Nat).Nodup; decide) trivial (.cons (.agg' (.cons (.int' rfl) (.cons (.int' rfl) (.cons (.str' rfl) (.cons (.str' rfl) (.cons (.int' rfl) (.cons (.int' rfl) (.cons (.int' rfl) (.cons (.lst _ _ _ (ci_pu .u8) rfl) .nil))))))))) .nil) (by show ([134] : List Nat).Nodup; decide) (by show ([0] : List Nat).Nodup; decide) ⟨.inr ⟨rfl, by decide⟩, ⟨_, rfl, ⟨rfl, rfl, rfl, rfl⟩, .same _ _ (ci_pu .u8) rfl⟩, trivial⟩ (.refl' rfl rfl) ?_; simp only [EVT, stepR, evOp, St.ev, St.app, St.put, wrs, datOf, datOf1, evBin, binInt, evLoad, cut, frz, fillD, setR, TIS, CS, reduceAdd, reduceMul, reduceEqDiff, ↓reduceIte, reduceCtorEq, reduceLT, reduceLeDiff, Array.reduceGetElem?, reduceSub, Nat.reduceBEq, ↓zc3, ↓zc4, ↓zc5, ↓zc6, ↓zc7, ↓zc8])
             repeat' with_reducible apply And.intro
             all_goals try ((with_reducible show CallR _ _ _ _ _ _ _); refine cR_s zk9 (.cons (.ownL (by rfl) (fun e => by cases e) rfl (by first | rfl | omega | (simp; done) | (simp [strBytes_len]; done) | (simp; omega) | (simp_all; done)) (.same _ _ (ci_pu .u8) (by first | rfl | (simp only [MPT, CS,  List.nil_append]; done) | (simp [CS,  ci_eq, cb_eq, cs_eq, cl_eq]; done) | (simp [CS,  ci_eq, cb_eq, cs_eq, cl_eq]; intro hz; rw [List.take_of_length_le (by simp; omega)])))) (.cons (.lst _ _ _ (ci_pu .u8) rfl) .nil)) (.bool _) ?_; simp only [EVT, stepR, evOp, St.ev, St.app, St.put, wrs, datOf, datOf1, evBin, binInt, evLoad, cut, frz, fillD, setR, TIS, CS, reduceAdd, reduceMul, reduceEqDiff, ↓reduceIte, reduceCtorEq, reduceLT, reduceLeDiff, Array.reduceGetElem?, reduceSub, Nat.reduceBEq, ↓zc3, ↓zc4, ↓zc5, ↓zc6, ↓zc7, ↓zc8])
             repeat' with_reducible apply And.intro
             all_goals try ((with_reducible show CallR _ _ _ _ _ _ _); refine callR_rcw (r' := .ref 153 0 r10.length 1) [(153, some ⟨5, 1, false, r10.map (ci .u8)⟩)] [] [] [(153, 0, ⟨5, 1, false, r10.map (ci .u8)⟩)] rfl zk10 (by simp) (by show ([] : List Nat).Nodup; decide) trivial (.cons (.agg' (.cons (.int' rfl) (.cons (.int' rfl) (.cons (.int' rfl) (.cons (.int' rfl) (.cons (.int' rfl) (.cons (.lst _ _ _ cs_pu rfl) (.cons (.lst _ _ _ (ci_pu .u8) rfl) .nil)))))))) .nil) (by show ([153] : List Nat).Nodup; decide) (by show ([0] : List Nat).Nodup; decide) ⟨.inr ⟨rfl, by decide⟩, ⟨_, rfl, ⟨rfl, rfl, rfl, rfl⟩, .same _ _ (ci_pu .u8) rfl⟩, trivial⟩ (.refl' rfl rfl) ?_; simp only [EVT, stepR, evOp, St.ev, St.app, St.put, wrs, datOf, datOf1, evBin, binInt, evLoad, cut, frz, fillD, setR, TIS, CS, reduceAdd, reduceMul, reduceEqDiff, ↓reduceIte, reduceCtorEq, reduceLT, reduceLeDiff, Array.reduceGetElem?, reduceSub, Nat.reduceBEq, ↓zc3, ↓zc4, ↓zc5, ↓zc6, ↓zc7, ↓zc8])
             repeat' with_reducible apply And.intro
             all_goals try ((with_reducible show CallR _ _ _ _ _ _ _); refine cR_s zk11 (.cons (.ownL (by rfl) (fun e => by cases e) rfl (by first | rfl | omega | (simp; done) | (simp [strBytes_len]; done) | (simp; omega) | (simp_all; done)) (.same _ _ (ci_pu .u8) (by first | rfl | (simp only [MPT, CS,  List.nil_append]; done) | (simp [CS,  ci_eq, cb_eq, cs_eq, cl_eq]; done) | (simp [CS,  ci_eq, cb_eq, cs_eq, cl_eq]; intro hz; rw [List.take_of_length_le (by simp; omega)])))) (.cons (.lst _ _ _ (ci_pu .u8) rfl) .nil)) (.bool _) ?_; simp only [EVT, stepR, evOp, St.ev, St.app, St.put, wrs, datOf, datOf1, evBin, binInt, evLoad, cut, frz, fillD, setR, TIS, CS, reduceAdd, reduceMul, reduceEqDiff, ↓reduceIte, reduceCtorEq, reduceLT, reduceLeDiff, Array.reduceGetElem?, reduceSub, Nat.reduceBEq, ↓zc3, ↓zc4, ↓zc5, ↓zc6, ↓zc7, ↓zc8])
             all_goals ((repeat' apply And.intro) <;> first|rfl|assumption|omega|(simp;done)|(simp;omega)|(simp_all;done))
            refine sA_n ?_
            refine a_ret ?_
            obtain rfl := Option.some.inj H
            refine e_r2 (d := ?zd4) ?_ ?_
            rotate_left
            ·simp only [EVT, resR, single, evLoad, cut, TIS, CS, reduceAdd, reduceEqDiff, ↓reduceIte, reduceCtorEq, reduceLT, reduceLeDiff, reduceSub, Nat.reduceBEq, zc3, zc4, zc5, zc6, zc7, zc8]
             (repeat' apply And.intro) <;> first | rfl | assumption | omega | (simp; done)
            exact (.bool' (by first | rfl | assumption | (simp_all; done)))
           ·have H := cond_f zc8 H
            refine bool_split (b := (r7.2 != 0)) (fun zc9 => ?_) (fun zc9 => ?_)
            ·have H := cond_t zc9 H
             obtain ⟨r12, zh12, H⟩ := bind_some H
             have zk12 := ref01_SameAns_pc zh12
             refine a_reg _ rfl (s := ?zs13) ?_ ?_
             rotate_left
             ·try simp only [EVT, stepR, evOp, St.ev, St.app, St.put, wrs, datOf, datOf1, evBin, binInt, evLoad, cut, frz, fillD, setR, TIS, CS, reduceAdd, reduceMul, reduceEqDiff, ↓reduceIte, reduceCtorEq, reduceLT, reduceLeDiff, Array.reduceGetElem?, reduceSub, Nat.reduceBEq, ↓zc3, ↓zc4, ↓zc5, ↓zc6, ↓zc7, ↓zc8, ↓zc9]
              repeat' with_reducible apply And.intro
              all_goals try ((with_reducible show CallR _ _ _ _ _ _ _); refine callR_rcw (r' := .ref 134 0 r8.length 1) [(134, some ⟨5, 1, false, r8.map (ci .u8)⟩)] [] [] [(134, 0, ⟨5, 1, false, r8.map (ci .u8)⟩)] rfl zk8 (by simp) (by show ([] : List Nat).Nodup; decide) trivial (.cons (.agg' (.cons (.int' rfl) (.cons (.int' rfl) (.cons (.str' rfl) (.cons (.str' rfl) (.cons (.int' rfl) (.cons (.int' rfl) (.cons (.int' rfl) (.cons (.lst _ _ _ (ci_pu .u8) rfl) .nil))))))))) .nil) (by show ([134] : List Nat).Nodup; decide) (by show ([0] : List Nat).Nodup; decide) ⟨.inr ⟨rfl, by decide⟩, ⟨_, rfl, ⟨rfl, rfl, rfl, rfl⟩, .same _ _ (ci_pu .u8) rfl⟩, trivial⟩ (.refl' rfl rfl) ?_; simp only [EVT, stepR, evOp, St.ev, St.app, St.put, wrs, datOf, datOf1, evBin, binInt, evLoad, cut, frz, fillD, setR, TIS, CS, reduceAdd, reduceMul, reduceEqDiff, ↓reduceIte, reduceCtorEq, reduceLT, reduceLeDiff, Array.reduceGetElem?, reduceSub, Nat.reduceBEq, ↓zc3, ↓zc4, ↓zc5, ↓zc6, ↓zc7, ↓zc8, ↓zc9])
              repeat' with_reducible apply And.intro
              all_goals try ((with_reducible show CallR _ _ _ _ _ _ _); refine cR_s zk9 (.cons (.ownL (by rfl) (fun e => by cases e) rfl (by first | rfl | omega | (simp; done) | (simp [strBytes_len]; done) | (simp; omega) | (simp_all; done)) (.same _ _ (ci_pu .u8) (by first | rfl | (simp only [MPT, CS,  List.nil_append]; done) | (simp [CS,  ci_eq, cb_eq, cs_eq, cl_eq]; done) | (simp [CS,  ci_eq, cb_eq, cs_eq, cl_eq]; intro hz; rw [List.take_of_length_le (by simp; omega)])))) (.cons (.lst _ _ _ (ci_pu .u8) rfl) .nil)) (.bool _) ?_; simp only [EVT, stepR, evOp, St.ev, St.app, St.put, wrs, datOf, datOf1, evBin, binInt, evLoad, cut, frz, fillD, setR, TIS, CS, reduceAdd, reduceMul, reduceEqDiff, ↓reduceIte, reduceCtorEq, reduceLT, reduceLeDiff, Array.reduceGetElem?, reduceSub, Nat.reduceBEq, ↓zc3, ↓zc4, ↓zc5, ↓zc6, ↓zc7, ↓zc8, ↓zc9])
              repeat' with_reducible apply And.intro
              all_goals try ((with_reducible show CallR _ _ _ _ _ _ _); refine callR_rcw (r' := .ref 153 0 r10.length 1) [(153, some ⟨5, 1, false, r10.map (ci .u8)⟩)] [] [] [(153, 0, ⟨5, 1, false, r10.map (ci .u8)⟩)] rfl zk10 (by simp) (by show ([] : List Nat).Nodup; decide) trivial (.cons (.agg' (.cons (.int' rfl) (.cons (.int' rfl) (.cons (.int' rfl) (.cons (.int' rfl) (.cons (.int' rfl) (.cons (.lst _ _ _ cs_pu rfl) (.cons (.lst _ _ _ (ci_pu .u8) rfl) .nil)))))))) .nil) (by show ([153] : List Nat).Nodup; decide) (by show ([0] : List Nat).Nodup; decide) ⟨.inr ⟨rfl, by decide⟩, ⟨_, rfl, ⟨rfl, rfl, rfl, rfl⟩, .same _ _ (ci_pu .u8) rfl⟩, trivial⟩ (.refl' rfl rfl) ?_; simp only [EVT, stepR, evOp, St.ev, St.app, St.put, wrs, datOf, datOf1, evBin, binInt, evLoad, cut, frz, fillD, setR, TIS, CS, reduceAdd, reduceMul, reduceEqDiff, ↓reduceIte, reduceCtorEq, reduceLT, reduceLeDiff, Array.reduceGetElem?, reduceSub, Nat.reduceBEq, ↓zc3, ↓zc4, ↓zc5, ↓zc6, ↓zc7, ↓zc8, ↓zc9])
              repeat' with_reducible apply And.intro
              all_goals try ((with_reducible show CallR _ _ _ _ _ _ _); refine cR_s zk11 (.cons (.ownL (by rfl) (fun e => by cases e) rfl (by first | rfl | omega | (simp; done) | (simp [strBytes_len]; done) | (simp; omega) | (simp_all; done)) (.same _ _ (ci_pu .u8) (by first | rfl | (simp only [MPT, CS,  List.nil_append]; done) | (simp [CS,  ci_eq, cb_eq, cs_eq, cl_eq]; done) | (simp [CS,  ci_eq, cb_eq, cs_eq, cl_eq]; intro hz; rw [List.take_of_length_le (by simp; omega)])))) (.cons (.lst _ _ _ (ci_pu .u8) rfl) .nil)) (.bool _) ?_; simp only [EVT, stepR, evOp, St.ev, St.app, St.put, wrs, datOf, datOf1, evBin, binInt, evLoad, cut, frz, fillD, setR, TIS, CS, reduceAdd, reduceMul, reduceEqDiff, ↓reduceIte, reduceCtorEq, reduceLT, reduceLeDiff, Array.reduceGetElem?, reduceSub, Nat.reduceBEq, ↓zc3, ↓zc4, ↓zc5, ↓zc6, ↓zc7, ↓zc8, ↓zc9])
              repeat' with_reducible apply And.intro
              all_goals try ((with_reducible show CallR _ _ _ _ _ _ _); refine cR_s zk12 (.cons (.agg' (.cons (.int' rfl) (.cons (.int' rfl) (.cons (.int' rfl) (.cons (.int' rfl) (.cons (.int' rfl) (.cons (.lst _ _ _ cs_pu rfl) (.cons (.lst _ _ _ (ci_pu .u8) rfl) .nil)))))))) (.cons (.agg' (.cons (.int' rfl) (.cons (.int' rfl) (.cons (.int' rfl) (.cons (.int' rfl) (.cons (.int' rfl) (.cons (.nil _) (.cons (.nil _) .nil)))))))) .nil)) (.bool _) ?_; simp only [EVT, stepR, evOp, St.ev, St.app, St.put, wrs, datOf, datOf1, evBin, binInt, evLoad, cut, frz, fillD, setR, TIS, CS, reduceAdd, reduceMul, reduceEqDiff, ↓reduceIte, reduceCtorEq, reduceLT, reduceLeDiff, Array.reduceGetElem?, reduceSub, Nat.reduceBEq, ↓zc3, ↓zc4, ↓zc5, ↓zc6, ↓zc7, ↓zc8, ↓zc9])
              all_goals ((repeat' apply And.intro) <;> first|rfl|assumption|omega|(simp;done)|(simp;omega)|(simp_all;done))
             refine sA_n ?_
             refine a_ret ?_
             obtain rfl := Option.some.inj H
             refine e_r2 (d := ?zd5) ?_ ?_
             rotate_left
             ·simp only [EVT, resR, single, evLoad, cut, TIS, CS, reduceAdd, reduceEqDiff, ↓reduceIte, reduceCtorEq, reduceLT, reduceLeDiff, reduceSub, Nat.reduceBEq, zc3, zc4, zc5, zc6, zc7, zc8, zc9]
              (repeat' apply And.intro) <;> first | rfl | assumption | omega | (simp; done)
             exact (.bool' rfl)
            ·have H := cond_f zc9 H
             refine a_reg _ rfl (s := ?zs14) ?_ ?_
             rotate_left
             ·try simp only [EVT, stepR, evOp, St.ev, St.app, St.put, wrs, datOf, datOf1, evBin, binInt, evLoad, cut, frz, fillD, setR, TIS, CS, reduceAdd, reduceMul, reduceEqDiff, ↓reduceIte, reduceCtorEq, reduceLT, reduceLeDiff, Array.reduceGetElem?, reduceSub, Nat.reduceBEq, ↓zc3, ↓zc4, ↓zc5, ↓zc6, ↓zc7, ↓zc8, ↓zc9]
              repeat' with_reducible apply And.intro
              all_goals try ((with_reducible show CallR _ _ _ _ _ _ _); refine callR_rcw (r' := .ref 134 0 r8.length 1) [(134, some ⟨5, 1, false, r8.map (ci .u8)⟩)] [] [] [(134, 0, ⟨5, 1, false, r8.map (ci .u8)⟩)] rfl zk8 (by simp) (by show ([] : List Nat).Nodup; decide) trivial (.cons (.agg' (.cons (.int' rfl) (.cons (.int' rfl) (.cons (.str' rfl) (.cons (.str' rfl) (.cons (.int' rfl) (.cons (.int' rfl) (.cons (.int' rfl) (.cons (.lst _ _ _ (ci_pu .u8) rfl) .nil))))))))) .nil) (by show ([134] : List Nat).Nodup; decide) (by show ([0] : List Nat).Nodup; decide) ⟨.inr ⟨rfl, by decide⟩, ⟨_, rfl, ⟨rfl, rfl, rfl, rfl⟩, .same _ _ (ci_pu .u8) rfl⟩, trivial⟩ (.refl' rfl rfl) ?_; simp only [EVT, stepR, evOp, St.ev, St.app, St.put, wrs, datOf, datOf1, evBin, binInt, evLoad, cut, frz, fillD, setR, TIS, CS, reduceAdd, reduceMul, reduceEqDiff, ↓reduceIte, reduceCtorEq, reduceLT, reduceLeDiff, Array.reduceGetElem?, reduceSub, Nat.reduceBEq, ↓zc3, ↓zc4, ↓zc5, ↓zc6, ↓zc7, ↓zc8, ↓zc9])
              repeat' with_reducible apply And.intro
              all_goals try ((with_reducible show CallR _ _ _ _ _ _ _); refine cR_s zk9 (.cons (.ownL (by rfl) (fun e => by cases e) rfl (by first | rfl | omega | (simp; done) | (simp [strBytes_len]; done) | (simp; omega) | (simp_all; done)) (.same _ _ (ci_pu .u8) (by first | rfl | (simp only [MPT, CS,  List.nil_append]; done) | (simp [CS,  ci_eq, cb_eq, cs_eq, cl_eq]; done) | (simp [CS,  ci_eq, cb_eq, cs_eq, cl_eq]; intro hz; rw [List.take_of_length_le (by simp; omega)])))) (.cons (.lst _ _ _ (ci_pu .u8) rfl) .nil)) (.bool _) ?_; simp only [EVT, stepR, evOp, St.ev, St.app, St.put, wrs, datOf, datOf1, evBin, binInt, evLoad, cut, frz, fillD, setR, TIS, CS, reduceAdd, reduceMul, reduceEqDiff, ↓reduceIte, reduceCtorEq, reduceLT, reduceLeDiff, Array.reduceGetElem?, reduceSub, Nat.reduceBEq, ↓zc3, ↓zc4, ↓zc5, ↓zc6, ↓zc7, ↓zc8, ↓zc9])
              repeat' with_reducible apply And.intro
              all_goals try ((with_reducible show CallR _ _ _ _ _ _ _); refine callR_rcw (r' := .ref 153 0 r10.length 1) [(153, some ⟨5, 1, false, r10.map (ci .u8)⟩)] [] [] [(153, 0, ⟨5, 1, false, r10.map (ci .u8)⟩)] rfl zk10 (by simp) (by show ([] : List Nat).Nodup; decide) trivial (.cons (.agg' (.cons (.int' rfl) (.cons (.int' rfl) (.cons (.int' rfl) (.cons (.int' rfl) (.cons (.int' rfl) (.cons (.lst _ _ _ cs_pu rfl) (.cons (.lst _ _ _ (ci_pu .u8) rfl) .nil)))))))) .nil) (by show ([153] : List Nat).Nodup; decide) (by show ([0] : List Nat).Nodup; decide) ⟨.inr ⟨rfl, by decide⟩, ⟨_, rfl, ⟨rfl, rfl, rfl, rfl⟩, .same _ _ (ci_pu .u8) rfl⟩, trivial⟩ (.refl' rfl rfl) ?_; simp only [EVT, stepR, evOp, St.ev, St.app, St.put, wrs, datOf, datOf1, evBin, binInt, evLoad, cut, frz, fillD, setR, TIS, CS, reduceAdd, reduceMul, reduceEqDiff, ↓reduceIte, reduceCtorEq, reduceLT, reduceLeDiff, Array.reduceGetElem?, reduceSub, Nat.reduceBEq, ↓zc3, ↓zc4, ↓zc5, ↓zc6, ↓zc7, ↓zc8, ↓zc9])
              repeat' with_reducible apply And.intro
              all_goals try ((with_reducible show CallR _ _ _ _ _ _ _); refine cR_s zk11 (.cons (.ownL (by rfl) (fun e => by cases e) rfl (by first | rfl | omega | (simp; done) | (simp [strBytes_len]; done) | (simp; omega) | (simp_all; done)) (.same _ _ (ci_pu .u8) (by first | rfl | (simp only [MPT, CS,  List.nil_append]; done) | (simp [CS,  ci_eq, cb_eq, cs_eq, cl_eq]; done) | (simp [CS,  ci_eq, cb_eq, cs_eq, cl_eq]; intro hz; rw [List.take_of_length_le (by simp; omega)])))) (.cons (.lst _ _ _ (ci_pu .u8) rfl) .nil)) (.bool _) ?_; simp only [EVT, stepR, evOp, St.ev, St.app, St.put, wrs, datOf, datOf1, evBin, binInt, evLoad, cut, frz, fillD, setR, TIS, CS, reduceAdd, reduceMul, reduceEqDiff, ↓reduceIte, reduceCtorEq, reduceLT, reduceLeDiff, Array.reduceGetElem?, reduceSub, Nat.reduceBEq, ↓zc3, ↓zc4, ↓zc5, ↓zc6, ↓zc7, ↓zc8, ↓zc9])
              all_goals ((repeat' apply And.intro) <;> first|rfl|assumption|omega|(simp;done)|(simp;omega)|(simp_all;done))
             refine sA_n ?_
             refine a_ret ?_
             obtain rfl := Option.some.inj H
             refine e_r2 (d := ?zd6) ?_ ?_
             rotate_left
             ·simp only [EVT, resR, single, evLoad, cut, TIS, CS, reduceAdd, reduceEqDiff, ↓reduceIte, reduceCtorEq, reduceLT, reduceLeDiff, reduceSub, Nat.reduceBEq, zc3, zc4, zc5, zc6, zc7, zc8, zc9]
              (repeat' apply And.intro) <;> first | rfl | assumption | omega | (simp; done)
             exact (.bool' (by first | rfl | assumption | (simp_all; done)))
          ·have H := cond_f zc7 H
           refine bool_split (b := (r7.2 != 0)) (fun zc10 => ?_) (fun zc10 => ?_)
           ·have H := cond_t zc10 H
            obtain ⟨r13, zh13, H⟩ := bind_some H
            have zk13 := ref01_SameAns_pc zh13
            refine a_reg _ rfl (s := ?zs15) ?_ ?_
            rotate_left
            ·try simp only [EVT, stepR, evOp, St.ev, St.app, St.put, wrs, datOf, datOf1, evBin, binInt, evLoad, cut, frz, fillD, setR, TIS, CS, reduceAdd, reduceMul, reduceEqDiff, ↓reduceIte, reduceCtorEq, reduceLT, reduceLeDiff, Array.reduceGetElem?, reduceSub, Nat.reduceBEq, ↓zc3, ↓zc4, ↓zc5, ↓zc6, ↓zc7, ↓zc10]
             repeat' with_reducible apply And.intro
             all_goals try ((with_reducible show CallR _ _ _ _ _ _ _); refine callR_rcw (r' := .ref 134 0 r8.length 1) [(134, some ⟨5, 1, false, r8.map (ci .u8)⟩)] [] [] [(134, 0, ⟨5, 1, false, r8.map (ci .u8)⟩)] rfl zk8 (by simp) (by show ([] : List Nat).Nodup; decide) trivial (.cons (.agg' (.cons (.int' rfl) (.cons (.int' rfl) (.cons (.str' rfl) (.cons (.str' rfl) (.cons (.int' rfl) (.cons (.int' rfl) (.cons (.int' rfl) (.cons (.lst _ _ _ (ci_pu .u8) rfl) .nil))))))))) .nil) (by show ([134] : List Nat).Nodup; decide) (by show ([0] : List Nat).Nodup; decide) ⟨.inr ⟨rfl, by decide⟩, ⟨_, rfl, ⟨rfl, rfl, rfl, rfl⟩, .same _ _ (ci_pu .u8) rfl⟩, trivial⟩ (.refl' rfl rfl) ?_; simp only [EVT, stepR, evOp, St.ev, St.app, St.put, wrs, datOf, datOf1, evBin, binInt, evLoad, cut, frz, fillD, setR, TIS, CS, reduceAdd, reduceMul, reduceEqDiff, ↓reduceIte, reduceCtorEq, reduceLT, reduceLeDiff, Array.reduceGetElem?, reduceSub, Nat.reduceBEq, ↓zc3, ↓zc4, ↓zc5, ↓zc6, ↓zc7, ↓zc10])
             repeat' with_reducible apply And.intro
             all_goals try ((with_reducible show CallR _ _ _ _ _ _ _); refine cR_s zk9 (.cons (.ownL (by rfl) (fun e => by cases e) rfl (by first | rfl | omega | (simp; done) | (simp [strBytes_len]; done) | (simp; omega) | (simp_all; done)) (.same _ _ (ci_pu .u8) (by first | rfl | (simp only [MPT, CS,  List.nil_append]; done) | (simp [CS,  ci_eq, cb_eq, cs_eq, cl_eq]; done) | (simp [CS,  ci_eq, cb_eq, cs_eq, cl_eq]; intro hz; rw [List.take_of_length_le (by simp; omega)])))) (.cons (.lst _ _ _ (ci_pu .u8) rfl) .nil)) (.bool _) ?_; simp only [EVT, stepR, evOp, St.ev, St.app, St.put, wrs, datOf, datOf1, evBin, binInt, evLoad, cut, frz, fillD, setR, TIS, CS, reduceAdd, reduceMul, reduceEqDiff, ↓reduceIte, reduceCtorEq, reduceLT, reduceLeDiff, Array.reduceGetElem?, reduceSub, Nat.reduceBEq, ↓zc3, ↓zc4, ↓zc5, ↓zc6, ↓zc7, ↓zc10])
             repeat' with_reducible apply And.intro
             all_goals try ((with_reducible show CallR _ _ _ _ _ _ _); refine cR_s zk13 (.cons (.agg' (.cons (.int' rfl) (.cons (.int' rfl) (.cons (.int' rfl) (.cons (.int' rfl) (.cons (.int' rfl) (.cons (.lst _ _ _ cs_pu rfl) (.cons (.lst _ _ _ (ci_pu .u8) rfl) .nil)))))))) (.cons (.agg' (.cons (.int' rfl) (.cons (.int' rfl) (.cons (.int' rfl) (.cons (.int' rfl) (.cons (.int' rfl) (.cons (.nil _) (.cons (.nil _) .nil)))))))) .nil)) (.bool _) ?_; simp only [EVT, stepR, evOp, St.ev, St.app, St.put, wrs, datOf, datOf1, evBin, binInt, evLoad, cut, frz, fillD, setR, TIS, CS, reduceAdd, reduceMul, reduceEqDiff, ↓reduceIte, reduceCtorEq, reduceLT, reduceLeDiff, Array.reduceGetElem?, reduceSub, Nat.reduceBEq, ↓zc3, ↓zc4, ↓zc5, ↓zc6, ↓zc7, ↓zc10])
             all_goals ((repeat' apply And.intro) <;> first|rfl|assumption|omega|(simp;done)|(simp;omega)|(simp_all;done))
            refine sA_n ?_
            refine a_ret ?_
            obtain rfl := Option.some.inj H
            refine e_r2 (d := ?zd7) ?_ ?_
            rotate_left
            ·simp only [EVT, resR, single, evLoad, cut, TIS, CS, reduceAdd, reduceEqDiff, ↓reduceIte, reduceCtorEq, reduceLT, reduceLeDiff, reduceSub, Nat.reduceBEq, zc3, zc4, zc5, zc6, zc7, zc10]
             (repeat' apply And.intro) <;> first | rfl | assumption | omega | (simp; done)
            exact (.bool' rfl)
           ·have H := cond_f zc10 H
            refine a_reg _ rfl (s := ?zs16) ?_ ?_
            rotate_left
            ·try simp only [EVT, stepR, evOp, St.ev, St.app, St.put, wrs, datOf, datOf1, evBin, binInt, evLoad, cut, frz, fillD, setR, TIS, CS, reduceAdd, reduceMul, reduceEqDiff, ↓reduceIte, reduceCtorEq, reduceLT, reduceLeDiff, Array.reduceGetElem?, reduceSub, Nat.reduceBEq, ↓zc3, ↓zc4, ↓zc5, ↓zc6, ↓zc7, ↓zc10]
             repeat' with_reducible apply And.intro
             all_goals try ((with_reducible show CallR _ _ _ _ _ _ _); refine callR_rcw (r' := .ref 134 0 r8.length 1) [(134, some ⟨5, 1, false, r8.map (ci .u8)⟩)] [] [] [(134, 0, ⟨5, 1, false, r8.map (ci .u8)⟩)] rfl zk8 (by simp) (by show ([] : List Nat).Nodup; decide) trivial (.cons (.agg' (.cons (.int' rfl) (.cons (.int' rfl) (.cons (.str' rfl) (.cons (.str' rfl) (.cons (.int' rfl) (.cons (.int' rfl) (.cons (.int' rfl) (.cons (.lst _ _ _ (ci_pu .u8) rfl) .nil))))))))) .nil) (by show ([134] : List Nat).Nodup; decide) (by show ([0] : List Nat).Nodup; decide) ⟨.inr ⟨rfl, by decide⟩, ⟨_, rfl, ⟨rfl, rfl, rfl, rfl⟩, .same _ _ (ci_pu .u8) rfl⟩, trivial⟩ (.refl' rfl rfl) ?_; simp only [EVT, stepR, evOp, St.ev, St.app, St.put, wrs, datOf, datOf1, evBin, binInt, evLoad, cut, frz, fillD, setR, TIS, CS, reduceAdd, reduceMul, reduceEqDiff, ↓reduceIte, reduceCtorEq, reduceLT, reduceLeDiff, Array.reduceGetElem?, reduceSub, Nat.reduceBEq, ↓zc3, ↓zc4, ↓zc5, ↓zc6, ↓zc7, ↓zc10])
             repeat' with_reducible apply And.intro
             all_goals try ((with_reducible show CallR _ _ _ _ _ _ _); refine cR_s zk9 (.cons (.ownL (by rfl) (fun e => by cases e) rfl (by first | rfl | omega | (simp; done) | (simp [strBytes_len]; done) | (simp; omega) | (simp_all; done)) (.same _ _ (ci_pu .u8) (by first | rfl | (simp only [MPT, CS,  List.nil_append]; done) | (simp [CS,  ci_eq, cb_eq, cs_eq, cl_eq]; done) | (simp [CS,  ci_eq, cb_eq, cs_eq, cl_eq]; intro hz; rw [List.take_of_length_le (by simp; omega)])))) (.cons (.lst _ _ _ (ci_pu .u8) rfl) .nil)) (.bool _) ?_; simp only [EVT, stepR, evOp, St.ev, St.app, St.put, wrs, datOf, datOf1, evBin, binInt, evLoad, cut, frz, fillD, setR, TIS, CS, reduceAdd, reduceMul, reduceEqDiff, ↓reduceIte, reduceCtorEq, reduceLT, reduceLeDiff, Array.reduceGetElem?, reduceSub, Nat.reduceBEq, ↓zc3, ↓zc4, ↓zc5, ↓zc6, ↓zc7, ↓zc10])
             all_goals ((repeat' apply And.intro) <;> first|rfl|assumption|omega|(simp;done)|(simp;omega)|(simp_all;done))
            refine sA_n ?_
            refine a_ret ?_
            obtain rfl := Option.some.inj H
            refine e_r2 (d := ?zd8) ?_ ?_
            rotate_left
            ·simp only [EVT, resR, single, evLoad, cut, TIS, CS, reduceAdd, reduceEqDiff, ↓reduceIte, reduceCtorEq, reduceLT, reduceLeDiff, reduceSub, Nat.reduceBEq, zc3, zc4, zc5, zc6, zc7, zc10]
             (repeat' apply And.intro) <;> first | rfl | assumption | omega | (simp; done)
            exact (.bool' (by first | rfl | assumption | (simp_all; done)))
         ·have H := cond_f zc6 H
          refine bool_split (b := (r6.2 != 0)) (fun zc11 => ?_) (fun zc11 => ?_)
          ·have H := cond_t zc11 H
           obtain ⟨r14, zh14, H⟩ := bind_some H
           have zk14 := ref01_SameOp_pc zh14
           refine bool_split (b := r14) (fun zc12 => ?_) (fun zc12 => ?_)
           ·have H := cond_t zc12 H
            refine bool_split (b := (r7.2 == 0)) (fun zc13 => ?_) (fun zc13 => ?_)
            ·have H := cond_t zc13 H
             obtain ⟨r15, zh15, H⟩ := bind_some H
             have zk15 := pack_Ans_rc zh15
             obtain ⟨r16, zh16, H⟩ := bind_some H
             have zk16 := ref01_Same_pc zh16
             refine bool_split (b := r16) (fun zc14 => ?_) (fun zc14 => ?_)
             ·have H := cond_t zc14 H
              refine a_reg _ rfl (s := ?zs17) ?_ ?_
              rotate_left
              ·try simp only [EVT, stepR, evOp, St.ev, St.app, St.put, wrs, datOf, datOf1, evBin, binInt, evLoad, cut, frz, fillD, setR, TIS, CS, reduceAdd, reduceMul, reduceEqDiff, ↓reduceIte, reduceCtorEq, reduceLT, reduceLeDiff, Array.reduceGetElem?, reduceSub, Nat.reduceBEq, ↓zc3, ↓zc4, ↓zc5, ↓zc6, ↓zc11, ↓zc12, ↓zc13, ↓zc14]
               repeat' with_reducible apply And.intro
               all_goals try ((with_reducible show CallR _ _ _ _ _ _ _); refine callR_rcw (r' := .ref 134 0 r8.length 1) [(134, some ⟨5, 1, false, r8.map (ci .u8)⟩)] [] [] [(134, 0, ⟨5, 1, false, r8.map (ci .u8)⟩)] rfl zk8 (by simp) (by show ([] : List Nat).Nodup; decide) trivial (.cons (.agg' (.cons (.int' rfl) (.cons (.int' rfl) (.cons (.str' rfl) (.cons (.str' rfl) (.cons (.int' rfl) (.cons (.int' rfl) (.cons (.int' rfl) (.cons (.lst _ _ _ (ci_pu .u8) rfl) .nil))))))))) .nil) (by show ([134] : List Nat).Nodup; decide) (by show ([0] : List Nat).Nodup; decide) ⟨.inr ⟨rfl, by decide⟩, ⟨_, rfl, ⟨rfl, rfl, rfl, rfl⟩, .same _ _ (ci_pu .u8) rfl⟩, trivial⟩ (.refl' rfl rfl) ?_; simp only [EVT, stepR, evOp, St.ev, St.app, St.put, wrs, datOf, datOf1, evBin, binInt, evLoad, cut, frz, fillD, setR, TIS, CS, reduceAdd, reduceMul, reduceEqDiff, ↓reduceIte, reduceCtorEq, reduceLT, reduceLeDiff, Array.reduceGetElem?, reduceSub, Nat.reduceBEq, ↓zc3, ↓zc4, ↓zc5, ↓zc6, ↓zc11, ↓zc12, ↓zc13, ↓zc14])
               repeat' with_reducible apply And.intro
               all_goals try ((with_reducible show CallR _ _ _ _ _ _ _); refine cR_s zk9 (.cons (.ownL (by rfl) (fun e => by cases e) rfl (by first | rfl | omega | (simp; done) | (simp [strBytes_len]; done) | (simp; omega) | (simp_all; done)) (.same _ _ (ci_pu .u8) (by first | rfl | (simp only [MPT, CS,  List.nil_append]; done) | (simp [CS,  ci_eq, cb_eq, cs_eq, cl_eq]; done) | (simp [CS,  ci_eq, cb_eq, cs_eq, cl_eq]; intro hz; rw [List.take_of_length_le (by simp; omega)])))) (.cons (.lst _ _ _ (ci_pu .u8) rfl) .nil)) (.bool _) ?_; simp only [EVT, stepR, evOp, St.ev, St.app, St.put, wrs, datOf, datOf1, evBin, binInt, evLoad, cut, frz, fillD, setR, TIS, CS, reduceAdd, reduceMul, reduceEqDiff, ↓reduceIte, reduceCtorEq, reduceLT, reduceLeDiff, Array.reduceGetElem?, reduceSub, Nat.reduceBEq, ↓zc3, ↓zc4, ↓zc5, ↓zc6, ↓zc11, ↓zc12, ↓zc13, ↓zc14])
               repeat' with_reducible apply And.intro
               all_goals try ((with_reducible show CallR _ _ _ _ _ _ _); refine cR_s zk14 (.cons (.agg' (.cons (.int' rfl) (.cons (.int' rfl) (.cons (.str' rfl) (.cons (.str' rfl) (.cons (.int' rfl) (.cons (.int' rfl) (.cons (.int' rfl) (.cons (.lst _ _ _ (ci_pu .u8) rfl) .nil))))))))) (.cons (.agg' (.cons (.int' rfl) (.cons (.int' rfl) (.cons (.str' rfl) (.cons (.str' rfl) (.cons (.int' rfl) (.cons (.int' rfl) (.cons (.int' rfl) (.cons (.nil _) .nil))))))))) .nil)) (.bool _) ?_; simp only [EVT, stepR, evOp, St.ev, St.app, St.put, wrs, datOf, datOf1, evBin, binInt, evLoad, cut, frz, fillD, setR, TIS, CS, reduceAdd, reduceMul, reduceEqDiff, ↓reduceIte, reduceCtorEq, reduceLT, reduceLeDiff, Array.reduceGetElem?, reduceSub, Nat.reduceBEq, ↓zc3, ↓zc4, ↓zc5, ↓zc6, ↓zc11, ↓zc12, ↓zc13, ↓zc14])
               repeat' with_reducible apply And.intro
               all_goals try ((with_reducible show CallR _ _ _ _ _ _ _); refine callR_rcw (r' := .ref 153 0 r15.length 1) [(153, some ⟨5, 1, false, r15.map (ci .u8)⟩)] [] [] [(153, 0, ⟨5, 1, false, r15.map (ci .u8)⟩)] rfl zk15 (by simp) (by show ([] : List Nat).Nodup; decide) trivial (.cons (.agg' (.cons (.int' rfl) (.cons (.int' rfl) (.cons (.int' rfl) (.cons (.int' rfl) (.cons (.int' rfl) (.cons (.lst _ _ _ cs_pu rfl) (.cons (.lst _ _ _ (ci_pu .u8) rfl) .nil)))))))) .nil) (by show ([153] : List Nat).Nodup; decide) (by show ([0] : List Nat).Nodup; decide) ⟨.inr ⟨rfl, by decide⟩, ⟨_, rfl, ⟨rfl, rfl, rfl, rfl⟩, .same _ _ (ci_pu .u8) rfl⟩, trivial⟩ (.refl' rfl rfl) ?_; simp only [EVT, stepR, evOp, St.ev, St.app, St.put, wrs, datOf, datOf1, evBin, binInt, evLoad, cut, frz, fillD, setR, TIS, CS, reduceAdd, reduceMul, reduceEqDiff, ↓reduceIte, reduceCtorEq, reduceLT, reduceLeDiff, Array.reduceGetElem?, reduceSub, Nat.reduceBEq, ↓zc3, ↓zc4, ↓zc5, ↓zc6, ↓zc11, ↓zc12, ↓zc13, ↓zc14])
               repeat' with_reducible apply And.intro
               all_goals try ((with_reducible show CallR _ _ _ _ _ _ _); refine cR_s zk16 (.cons (.ownL (by rfl) (fun e => by cases e) rfl (by first | rfl | omega | (simp; done) | (simp [strBytes_len]; done) | (simp; omega) | (simp_all; done)) (.same _ _ (ci_pu .u8) (by first | rfl | (simp only [MPT, CS,  List.nil_append]; done) | (simp [CS,  ci_eq, cb_eq, cs_eq, cl_eq]; done) | (simp [CS,  ci_eq, cb_eq, cs_eq, cl_eq]; intro hz; rw [List.take_of_length_le (by simp; omega)])))) (.cons (.lst _ _ _ (ci_pu .u8) rfl) .nil)) (.bool _) ?_; simp only [EVT, stepR, evOp, St.ev, St.app, St.put, wrs, datOf, datOf1, evBin, binInt, evLoad, cut, frz, fillD, setR, TIS, CS, reduceAdd, reduceMul, reduceEqDiff, ↓reduceIte, reduceCtorEq, reduceLT, reduceLeDiff, Array.reduceGetElem?, reduceSub, Nat.reduceBEq, ↓zc3, ↓zc4, ↓zc5, ↓zc6, ↓zc11, ↓zc12, ↓zc13, ↓zc14])
               all_goals ((repeat' apply And.intro) <;> first|rfl|assumption|omega|(simp;done)|(simp;omega)|(simp_all;done))
              refine sA_n ?_
              refine a_ret ?_
              obtain rfl := Option.some.inj H
              refine e_r2 (d := ?zd9) ?_ ?_
              rotate_left
              ·simp only [EVT, resR, single, evLoad, cut, TIS, CS, reduceAdd, reduceEqDiff, ↓reduceIte, reduceCtorEq, reduceLT, reduceLeDiff, reduceSub, Nat.reduceBEq, zc3, zc4, zc5, zc6, zc11, zc12, zc13, zc14]
               (repeat' apply And.intro) <;> first | rfl | assumption | omega | (simp; done)
              exact (.bool' (by first | rfl | assumption | (simp_all; done)))
             ·have H := cond_f zc14 H
              refine bool_split (b := (r7.2 != 0)) (fun zc15 => ?_) (fun zc15 => ?_)
              ·have H := cond_t zc15 H
               obtain ⟨r17, zh17, H⟩ := bind_some H
               have zk17 := ref01_SameAns_pc zh17
               refine a_reg _ rfl (s := ?zs18) ?_ ?_
               rotate_left
               ·try simp only [EVT, stepR, evOp, St.ev, St.app, St.put, wrs, datOf, datOf1, evBin, binInt, evLoad, cut, frz, fillD, setR, TIS, CS, reduceAdd, reduceMul, reduceEqDiff, ↓reduceIte, reduceCtorEq, reduceLT, reduceLeDiff, Array.reduceGetElem?, reduceSub, Nat.reduceBEq, ↓zc3, ↓zc4, ↓zc5, ↓zc6, ↓zc11, ↓zc12, ↓zc13, ↓zc14, ↓zc15]
                repeat' with_reducible apply And.intro
                all_goals try ((with_reducible show CallR _ _ _ _ _ _ _); refine callR_rcw (r' := .ref 134 0 r8.length 1) [(134, some ⟨5, 1, false, r8.map (ci .u8)⟩)] [] [] [(134, 0, ⟨5, 1, false, r8.map (ci .u8)⟩)] rfl zk8 (by simp) (by show ([] : List Nat).Nodup; decide) trivial (.cons (.agg' (.cons (.int' rfl) (.cons (.int' rfl) (.cons (.str' rfl) (.cons (.str' rfl) (.cons (.int' rfl) (.cons (.int' rfl) (.cons (.int' rfl) (.cons (.lst _ _ _ (ci_pu .u8) rfl) .nil))))))))) .nil) (by show ([134] : List Nat).Nodup; decide) (by show ([0] : List Nat).Nodup; decide) ⟨.inr ⟨rfl, by decide⟩, ⟨_, rfl, ⟨rfl, rfl, rfl, rfl⟩, .same _ _ (ci_pu .u8) rfl⟩, trivial⟩ (.refl' rfl rfl) ?_; simp only [EVT, stepR, evOp, St.ev, St.app, St.put, wrs, datOf, datOf1, evBin, binInt, evLoad, cut, frz, fillD, setR, TIS, CS, reduceAdd, reduceMul, reduceEqDiff, ↓reduceIte, reduceCtorEq, reduceLT, reduceLeDiff, Array.reduceGetElem?, reduceSub, Nat.reduceBEq, ↓zc3, ↓zc4, ↓zc5, ↓zc6, ↓zc11, ↓zc12, ↓zc13, ↓zc14, ↓zc15])
                repeat' with_reducible apply And.intro
                all_goals try ((with_reducible show CallR _ _ _ _ _ _ _); refine cR_s zk9 (.cons (.ownL (by rfl) (fun e => by cases e) rfl (by first | rfl | omega | (simp; done) | (simp [strBytes_len]; done) | (simp; omega) | (simp_all; done)) (.same _ _ (ci_pu .u8) (by first | rfl | (simp only [MPT, CS,  List.nil_append]; done) | (simp [CS,  ci_eq, cb_eq, cs_eq, cl_eq]; done) | (simp [CS,  ci_eq, cb_eq, cs_eq, cl_eq]; intro hz; rw [List.take_of_length_le (by simp; omega)])))) (.cons (.lst _ _ _ (ci_pu .u8) rfl) .nil)) (.bool _) ?_; simp only [EVT, stepR, evOp, St.ev, St.app, St.put, wrs, datOf, datOf1, evBin, binInt, evLoad, cut, frz, fillD, setR, TIS, CS, reduceAdd, reduceMul, reduceEqDiff, ↓reduceIte, reduceCtorEq, reduceLT, reduceLeDiff, Array.reduceGetElem?, reduceSub, Nat.reduceBEq, ↓zc3, ↓zc4, ↓zc5, ↓zc6, ↓zc11, ↓zc12, ↓zc13, ↓zc14, ↓zc15])
                repeat' with_reducible apply And.intro
                all_goals try ((with_reducible show CallR _ _ _ _ _ _ _); refine cR_s zk14 (.cons (.agg' (.cons (.int' rfl) (.cons (.int' rfl) (.cons (.str' rfl) (.cons (.str' rfl) (.cons (.int' rfl) (.cons (.int' rfl) (.cons (.int' rfl) (.cons (.lst _ _ _ (ci_pu .u8) rfl) .nil))))))))) (.cons (.agg' (.cons (.int' rfl) (.cons (.int' rfl) (.cons (.str' rfl) (.cons (.str' rfl) (.cons (.int' rfl) (.cons (.int' rfl) (.cons (.int' rfl) (.cons (.nil _) .nil))))))))) .nil)) (.bool _) ?_; simp only [EVT, stepR, evOp, St.ev, St.app, St.put, wrs, datOf, datOf1, evBin, binInt, evLoad, cut, frz, fillD, setR, TIS, CS, reduceAdd, reduceMul, reduceEqDiff, ↓reduceIte, reduceCtorEq, reduceLT, reduceLeDiff, Array.reduceGetElem?, reduceSub, Nat.reduceBEq, ↓zc3, ↓zc4, ↓zc5, ↓zc6, ↓zc11, ↓zc12, ↓zc13, ↓zc14, ↓zc15])
                repeat' with_reducible apply And.intro
                all_goals try ((with_reducible show CallR _ _ _ _ _ _ _); refine callR_rcw (r' := .ref 153 0 r15.length 1) [(153, some ⟨5, 1, false, r15.map (ci .u8)⟩)] [] [] [(153, 0, ⟨5, 1, false, r15.map (ci .u8)⟩)] rfl zk15 (by simp) (by show ([] : List Nat).Nodup; decide) trivial (.cons (.agg' (.cons (.int' rfl) (.cons (.int' rfl) (.cons (.int' rfl) (.cons (.int' rfl) (.cons (.int' rfl) (.cons (.lst _ _ _ cs_pu rfl) (.cons (.lst _ _ _ (ci_pu .u8) rfl) .nil)))))))) .nil) (by show ([153] : List Nat).Nodup; decide) (by show ([0] : List Nat).Nodup; decide) ⟨.inr ⟨rfl, by decide⟩, ⟨_, rfl, ⟨rfl, rfl, rfl, rfl⟩, .same _ _ (ci_pu .u8) rfl⟩, trivial⟩ (.refl' rfl rfl) ?_; simp only [EVT, stepR, evOp, St.ev, St.app, St.put, wrs, datOf, datOf1, evBin, binInt, evLoad, cut, frz, fillD, setR, TIS, CS, reduceAdd, reduceMul, reduceEqDiff, ↓reduceIte, reduceCtorEq, reduceLT, reduceLeDiff, Array.reduceGetElem?, reduceSub, Nat.reduceBEq, ↓zc3, ↓zc4, ↓zc5, ↓zc6, ↓zc11, ↓zc12, ↓zc13, ↓zc14, ↓zc15])
                repeat' with_reducible apply And.intro
                all_goals try ((with_reducible show CallR _ _ _ _ _ _ _); refine cR_s zk16 (.cons (.ownL (by rfl) (fun e => by cases e) rfl (by first | rfl | omega | (simp; done) | (simp [strBytes_len]; done) | (simp; omega) | (simp_all; done)) (.same _ _ (ci_pu .u8) (by first | rfl | (simp only [MPT, CS,  List.nil_append]; done) | (simp [CS,  ci_eq, cb_eq, cs_eq, cl_eq]; done) | (simp [CS,  ci_eq, cb_eq, cs_eq, cl_eq]; intro hz; rw [List.take_of_length_le (by simp; omega)])))) (.cons (.lst _ _ _ (ci_pu .u8) rfl) .nil)) (.bool _) ?_; simp only [EVT, stepR, evOp, St.ev, St.app, St.put, wrs, datOf, datOf1, evBin, binInt, evLoad, cut, frz, fillD, setR, TIS, CS, reduceAdd, reduceMul, reduceEqDiff, ↓reduceIte, reduceCtorEq, reduceLT, reduceLeDiff, Array.reduceGetElem?, reduceSub, Nat.reduceBEq, ↓zc3, ↓zc4, ↓zc5, ↓zc6, ↓zc11, ↓zc12, ↓zc13, ↓zc14, ↓zc15])
                repeat' with_reducible apply And.intro
                all_goals try ((with_reducible show CallR _ _ _ _ _ _ _); refine cR_s zk17 (.cons (.agg' (.cons (.int' rfl) (.cons (.int' rfl) (.cons (.int' rfl) (.cons (.int' rfl) (.cons (.int' rfl) (.cons (.lst _ _ _ cs_pu rfl) (.cons (.lst _ _ _ (ci_pu .u8) rfl) .nil)))))))) (.cons (.agg' (.cons (.int' rfl) (.cons (.int' rfl) (.cons (.int' rfl) (.cons (.int' rfl) (.cons (.int' rfl) (.cons (.nil _) (.cons (.nil _) .nil)))))))) .nil)) (.bool _) ?_; simp only [EVT, stepR, evOp, St.ev, St.app, St.put, wrs, datOf, datOf1, evBin, binInt, evLoad, cut, frz, fillD, setR, TIS, CS, reduceAdd, reduceMul, reduceEqDiff, ↓reduceIte, reduceCtorEq, reduceLT, reduceLeDiff, Array.reduceGetElem?, reduceSub, Nat.reduceBEq, ↓zc3, ↓zc4, ↓zc5, ↓zc6, ↓zc11, ↓zc12, ↓zc13, ↓zc14, ↓zc15])
                all_goals ((repeat' apply And.intro) <;> first|rfl|assumption|omega|(simp;done)|(simp;omega)|(simp_all;done))
               refine sA_n ?_
               refine a_ret ?_
               obtain rfl := Option.some.inj H
               refine e_r2 (d := ?zd10) ?_ ?_
               rotate_left
               ·simp only [EVT, resR, single, evLoad, cut, TIS, CS, reduceAdd, reduceEqDiff, ↓reduceIte, reduceCtorEq, reduceLT, reduceLeDiff, reduceSub, Nat.reduceBEq, zc3, zc4, zc5, zc6, zc11, zc12, zc13, zc14, zc15]
                (repeat' apply And.intro) <;> first | rfl | assumption | omega | (simp; done)
               exact (.bool' rfl)
              ·have H := cond_f zc15 H
               refine a_reg _ rfl (s := ?zs19) ?_ ?_
               rotate_left
               ·try simp only [EVT, stepR, evOp, St.ev, St.app, St.put, wrs, datOf, datOf1, evBin, binInt, evLoad, cut, frz, fillD, setR, TIS, CS, reduceAdd, reduceMul, reduceEqDiff, ↓reduceIte, reduceCtorEq, reduceLT, reduceLeDiff, Array.reduceGetElem?, reduceSub, Nat.reduceBEq, ↓zc3, ↓zc4, ↓zc5, ↓zc6, ↓zc11, ↓zc12, ↓zc13, ↓zc14, ↓zc15]
                repeat' with_reducible apply And.intro
                all_goals try ((with_reducible show CallR _ _ _ _ _ _ _); refine callR_rcw (r' := .ref 134 0 r8.length 1) [(134, some ⟨5, 1, false, r8.map (ci .u8)⟩)] [] [] [(134, 0, ⟨5, 1, false, r8.map (ci .u8)⟩)] rfl zk8 (by simp) (by show ([] : List Nat).Nodup; decide) trivial (.cons (.agg' (.cons (.int' rfl) (.cons (.int' rfl) (.cons (.str' rfl) (.cons (.str' rfl) (.cons (.int' rfl) (.cons (.int' rfl) (.cons (.int' rfl) (.cons (.lst _ _ _ (ci_pu .u8) rfl) .nil))))))))) .nil) (by show ([134] : List Nat).Nodup; decide) (by show ([0] : List Nat).Nodup; decide) ⟨.inr ⟨rfl, by decide⟩, ⟨_, rfl, ⟨rfl, rfl, rfl, rfl⟩, .same _ _ (ci_pu .u8) rfl⟩, trivial⟩ (.refl' rfl rfl) ?_; simp only [EVT, stepR, evOp, St.ev, St.app, St.put, wrs, datOf, datOf1, evBin, binInt, evLoad, cut, frz, fillD, setR, TIS, CS, reduceAdd, reduceMul, reduceEqDiff, ↓reduceIte, reduceCtorEq, reduceLT, reduceLeDiff, Array.reduceGetElem?, reduceSub, Nat.reduceBEq, ↓zc3, ↓zc4, ↓zc5, ↓zc6, ↓zc11, ↓zc12, ↓zc13, ↓zc14, ↓zc15])
                repeat' with_reducible apply And.intro
                all_goals try ((with_reducible show CallR _ _ _ _ _ _ _); refine cR_s zk9 (.cons (.ownL (by rfl) (fun e => by cases e) rfl (by first | rfl | omega | (simp; done) | (simp [strBytes_len]; done) | (simp; omega) | (simp_all; done)) (.same _ _ (ci_pu .u8) (by first | rfl | (simp only [MPT, CS,  List.nil_append]; done) | (simp [CS,  ci_eq, cb_eq, cs_eq, cl_eq]; done) | (simp [CS,  ci_eq, cb_eq, cs_eq, cl_eq]; intro hz; rw [List.take_of_length_le (by simp; omega)])))) (.cons (.lst _ _ _ (ci_pu .u8) rfl) .nil)) (.bool _) ?_; simp only [EVT, stepR, evOp, St.ev, St.app, St.put, wrs, datOf, datOf1, evBin, binInt, evLoad, cut, frz, fillD, setR, TIS, CS, reduceAdd, reduceMul, reduceEqDiff, ↓reduceIte, reduceCtorEq, reduceLT, reduceLeDiff, Array.reduceGetElem?, reduceSub, Nat.reduceBEq, ↓zc3, ↓zc4, ↓zc5, ↓zc6, ↓zc11, ↓zc12, ↓zc13, ↓zc14, ↓zc15])
                repeat' with_reducible apply And.intro
                all_goals try ((with_reducible show CallR _ _ _ _ _ _ _); refine cR_s zk14 (.cons (.agg' (.cons (.int' rfl) (.cons (.int' rfl) (.cons (.str' rfl) (.cons (.str' rfl) (.cons (.int' rfl) (.cons (.int' rfl) (.cons (.int' rfl) (.cons (.lst _ _ _ (ci_pu .u8) rfl) .nil))))))))) (.cons (.agg' (.cons (.int' rfl) (.cons (.int' rfl) (.cons (.str' rfl) (.cons (.str' rfl) (.cons (.int' rfl) (.cons (.int' rfl) (.cons (.int' rfl) (.cons (.nil _) .nil))))))))) .nil)) (.bool _) ?_; simp only [EVT, stepR, evOp, St.ev, St.app, St.put, wrs, datOf, datOf1, evBin, binInt, evLoad, cut, frz, fillD, setR, TIS, CS, reduceAdd, reduceMul, reduceEqDiff, ↓reduceIte, reduceCtorEq, reduceLT, reduceLeDiff, Array.reduceGetElem?, reduceSub, Nat.reduceBEq, ↓zc3, ↓zc4, ↓zc5, ↓zc6, ↓zc11, ↓zc12, ↓zc13, ↓zc14, ↓zc15])
                repeat' with_reducible apply And.intro
                all_goals try ((with_reducible show CallR _ _ _ _ _ _ _); refine callR_rcw (r' := .ref 153 0 r15.length 1) [(153, some ⟨5, 1, false, r15.map (ci .u8)⟩)] [] [] [(153, 0, ⟨5, 1, false, r15.map (ci .u8)⟩)] rfl zk15 (by simp) (by show ([] : List Nat).Nodup; decide) trivial (.cons (.agg' (.cons (.int' rfl) (.cons (.int' rfl) (.cons (.int' rfl) (.cons (.int' rfl) (.cons (.int' rfl) (.cons (.lst _ _ _ cs_pu rfl) (.cons (.lst _ _ _ (ci_pu .u8) rfl) .nil)))))))) .nil) (by show ([153] : List Nat).Nodup; decide) (by show ([0] : List Nat).Nodup; decide) ⟨.inr ⟨rfl, by decide⟩, ⟨_, rfl, ⟨rfl, rfl, rfl, rfl⟩, .same _ _ (ci_pu .u8) rfl⟩, trivial⟩ (.refl' rfl rfl) ?_; simp only [EVT, stepR, evOp, St.ev, St.app, St.put, wrs, datOf, datOf1, evBin, binInt, evLoad, cut, frz, fillD, setR, TIS, CS, reduceAdd, reduceMul, reduceEqDiff, ↓reduceIte, reduceCtorEq, reduceLT, reduceLeDiff, Array.reduceGetElem?, reduceSub, Nat.reduceBEq, ↓zc3, ↓zc4, ↓zc5, ↓zc6, ↓zc11, ↓zc12, ↓zc13, ↓zc14, ↓zc15])
                repeat' with_reducible apply And.intro
                all_goals try ((with_reducible show CallR _ _ _ _ _ _ _); refine cR_s zk16 (.cons (.ownL (by rfl) (fun e => by cases e) rfl (by first | rfl | omega | (simp; done) | (simp [strBytes_len]; done) | (simp; omega) | (simp_all; done)) (.same _ _ (ci_pu .u8) (by first | rfl | (simp only [MPT, CS,  List.nil_append]; done) | (simp [CS,  ci_eq, cb_eq, cs_eq, cl_eq]; done) | (simp [CS,  ci_eq, cb_eq, cs_eq, cl_eq]; intro hz; rw [List.take_of_length_le (by simp; omega)])))) (.cons (.lst _ _ _ (ci_pu .u8) rfl) .nil)) (.bool _) ?_; simp only [EVT, stepR, evOp, St.ev, St.app, St.put, wrs, datOf, datOf1, evBin, binInt, evLoad, cut, frz, fillD, setR, TIS, CS, reduceAdd, reduceMul, reduceEqDiff, ↓reduceIte, reduceCtorEq, reduceLT, reduceLeDiff, Array.reduceGetElem?, reduceSub, Nat.reduceBEq, ↓zc3, ↓zc4, ↓zc5, ↓zc6, ↓zc11, ↓zc12, ↓zc13, ↓zc14, ↓zc15])
                all_goals ((repeat' apply And.intro) <;> first|rfl|assumption|omega|(simp;done)|(simp;omega)|(simp_all;done))
               refine sA_n ?_
               refine a_ret ?_
               obtain rfl := Option.some.inj H
               refine e_r2 (d := ?zd11) ?_ ?_
               rotate_left
               ·simp only [EVT, resR, single, evLoad, cut, TIS, CS, reduceAdd, reduceEqDiff, ↓reduceIte, reduceCtorEq, reduceLT, reduceLeDiff, reduceSub, Nat.reduceBEq, zc3, zc4, zc5, zc6, zc11, zc12, zc13, zc14, zc15]
                (repeat' apply And.intro) <;> first | rfl | assumption | omega | (simp; done)
               exact (.bool' (by first | rfl | assumption | (simp_all; done)))
            ·have H := cond_f zc13 H
             refine bool_split (b := (r7.2 != 0)) (fun zc16 => ?_) (fun zc16 => ?_)
             ·have H := cond_t zc16 H
              obtain ⟨r18, zh18, H⟩ := bind_some H
              have zk18 := ref01_SameAns_pc zh18
              refine a_reg _ rfl (s := ?zs20) ?_ ?_
              rotate_left
              ·try simp only [EVT, stepR, evOp, St.ev, St.app, St.put, wrs, datOf, datOf1, evBin, binInt, evLoad, cut, frz, fillD, setR, TIS, CS, reduceAdd, reduceMul, reduceEqDiff, ↓reduceIte, reduceCtorEq, reduceLT, reduceLeDiff, Array.reduceGetElem?, reduceSub, Nat.reduceBEq, ↓zc3, ↓zc4, ↓zc5, ↓zc6, ↓zc11, ↓zc12, ↓zc13, ↓zc16]
               repeat' with_reducible apply And.intro
               all_goals try ((with_reducible show CallR _ _ _ _ _ _ _); refine callR_rcw (r' := .ref 134 0 r8.length 1) [(134, some ⟨5, 1, false, r8.map (ci .u8)⟩)] [] [] [(134, 0, ⟨5, 1, false, r8.map (ci .u8)⟩)] rfl zk8 (by simp) (by show ([] : List Nat).Nodup; decide) trivial (.cons (.agg' (.cons (.int' rfl) (.cons (.int' rfl) (.cons (.str' rfl) (.cons (.str' rfl) (.cons (.int' rfl) (.cons (.int' rfl) (.cons (.int' rfl) (.cons (.lst _ _ _ (ci_pu .u8) rfl) .nil))))))))) .nil) (by show ([134] : List Nat).Nodup; decide) (by show ([0] : List Nat).Nodup; decide) ⟨.inr ⟨rfl, by decide⟩, ⟨_, rfl, ⟨rfl, rfl, rfl, rfl⟩, .same _ _ (ci_pu .u8) rfl⟩, trivial⟩ (.refl' rfl rfl) ?_; simp only [EVT, stepR, evOp, St.ev, St.app, St.put, wrs, datOf, datOf1, evBin, binInt, evLoad, cut, frz, fillD, setR, TIS, CS, reduceAdd, reduceMul, reduceEqDiff, ↓reduceIte, reduceCtorEq, reduceLT, reduceLeDiff, Array.reduceGetElem?, reduceSub, Nat.reduceBEq, ↓zc3, ↓zc4, ↓zc5, ↓zc6, ↓zc11, ↓zc12, ↓zc13, ↓zc16])
               repeat' with_reducible apply And.intro
               all_goals try ((with_reducible show CallR _ _ _ _ _ _ _); refine cR_s zk9 (.cons (.ownL (by rfl) (fun e => by cases e) rfl (by first | rfl | omega | (simp; done) | (simp [strBytes_len]; done) | (simp; omega) | (simp_all; done)) (.same _ _ (ci_pu .u8) (by first | rfl | (simp only [MPT, CS,  List.nil_append]; done) | (simp [CS,  ci_eq, cb_eq, cs_eq, cl_eq]; done) | (simp [CS,  ci_eq, cb_eq, cs_eq, cl_eq]; intro hz; rw [List.take_of_length_le (by simp; omega)])))) (.cons (.lst _ _ _ (ci_pu .u8) rfl) .nil)) (.bool _) ?_; simp only [EVT, stepR, evOp, St.ev, St.app, St.put, wrs, datOf, datOf1, evBin, binInt, evLoad, cut, frz, fillD, setR, TIS, CS, reduceAdd, reduceMul, reduceEqDiff, ↓reduceIte, reduceCtorEq, reduceLT, reduceLeDiff, Array.reduceGetElem?, reduceSub, Nat.reduceBEq, ↓zc3, ↓zc4, ↓zc5, ↓zc6, ↓zc11, ↓zc12, ↓zc13, ↓zc16])
               repeat' with_reducible apply And.intro
               all_goals try ((with_reducible show CallR _ _ _ _ _ _ _); refine cR_s zk14 (.cons (.agg' (.cons (.int' rfl) (.cons (.int' rfl) (.cons (.str' rfl) (.cons (.str' rfl) (.cons (.int' rfl) (.cons (.int' rfl) (.cons (.int' rfl) (.cons (.lst _ _ _ (ci_pu .u8) rfl) .nil))))))))) (.cons (.agg' (.cons (.int' rfl) (.cons (.int' rfl) (.cons (.str' rfl) (.cons (.str' rfl) (.cons (.int' rfl) (.cons (.int' rfl) (.cons (.int' rfl) (.cons (.nil _) .nil))))))))) .nil)) (.bool _) ?_; simp only [EVT, stepR, evOp, St.ev, St.app, St.put, wrs, datOf, datOf1, evBin, binInt, evLoad, cut, frz, fillD, setR, TIS, CS, reduceAdd, reduceMul, reduceEqDiff, ↓reduceIte, reduceCtorEq, reduceLT, reduceLeDiff, Array.reduceGetElem?, reduceSub, Nat.reduceBEq, ↓zc3, ↓zc4, ↓zc5, ↓zc6, ↓zc11, ↓zc12, ↓zc13, ↓zc16])
               repeat' with_reducible apply And.intro
               all_goals try ((with_reducible show CallR _ _ _ _ _ _ _); refine cR_s zk18 (.cons (.agg' (.cons (.int' rfl) (.cons (.int' rfl) (.cons (.int' rfl) (.cons (.int' rfl) (.cons (.int' rfl) (.cons (.lst _ _ _ cs_pu rfl) (.cons (.lst _ _ _ (ci_pu .u8) rfl) .nil)))))))) (.cons (.agg' (.cons (.int' rfl) (.cons (.int' rfl) (.cons (.int' rfl) (.cons (.int' rfl) (.cons (.int' rfl) (.cons (.nil _) (.cons (.nil _) .nil)))))))) .nil)) (.bool _) ?_; simp only [EVT, stepR, evOp, St.ev, St.app, St.put, wrs, datOf, datOf1, evBin, binInt, evLoad, cut, frz, fillD, setR, TIS, CS, reduceAdd, reduceMul, reduceEqDiff, ↓reduceIte, reduceCtorEq, reduceLT, reduceLeDiff, Array.reduceGetElem?, reduceSub, Nat.reduceBEq, ↓zc3, ↓zc4, ↓zc5, ↓zc6, ↓zc11, ↓zc12, ↓zc13, ↓zc16])
               all_goals ((repeat' apply And.intro) <;> first|rfl|assumption|omega|(simp;done)|(simp;omega)|(simp_all;done))
              refine sA_n ?_
              refine a_ret ?_
              obtain rfl := Option.some.inj H
              refine e_r2 (d := ?zd12) ?_ ?_
              rotate_left
              ·simp only [EVT, resR, single, evLoad, cut, TIS, CS, reduceAdd, reduceEqDiff, ↓reduceIte, reduceCtorEq, reduceLT, reduceLeDiff, reduceSub, Nat.reduceBEq, zc3, zc4, zc5, zc6, zc11, zc12, zc13, zc16]
               (repeat' apply And.intro) <;> first | rfl | assumption | omega | (simp; done)
              exact (.bool' rfl)
             ·have H := cond_f zc16 H
              refine a_reg _ rfl (s := ?zs21) ?_ ?_
              rotate_left
              ·try simp only [EVT, stepR, evOp, St.ev, St.app, St.put, wrs, datOf, datOf1, evBin, binInt, evLoad, cut, frz, fillD, setR, TIS, CS, reduceAdd, reduceMul, reduceEqDiff, ↓reduceIte, reduceCtorEq, reduceLT, reduceLeDiff, Array.reduceGetElem?, reduceSub, Nat.reduceBEq, ↓zc3, ↓zc4, ↓zc5, ↓zc6, ↓zc11, ↓zc12, ↓zc13, ↓zc16]
               repeat' with_reducible apply And.intro
               all_goals try ((with_reducible show CallR _ _ _ _ _ _ _); refine callR_rcw (r' := .ref 134 0 r8.length 1) [(134, some ⟨5, 1, false, r8.map (ci .u8)⟩)] [] [] [(134, 0, ⟨5, 1, false, r8.map (ci .u8)⟩)] rfl zk8 (by simp) (by show ([] : List Nat).Nodup; decide) trivial (.cons (.agg' (.cons (.int' rfl) (.cons (.int' rfl) (.cons (.str' rfl) (.cons (.str' rfl) (.cons (.int' rfl) (.cons (.int' rfl) (.cons (.int' rfl) (.cons (.lst _ _ _ (ci_pu .u8) rfl) .nil))))))))) .nil) (by show ([134] : List Nat).Nodup; decide) (by show ([0] : List Nat).Nodup; decide) ⟨.inr ⟨rfl, by decide⟩, ⟨_, rfl, ⟨rfl, rfl, rfl, rfl⟩, .same _ _ (ci_pu .u8) rfl⟩, trivial⟩ (.refl' rfl rfl) ?_; simp only [EVT, stepR, evOp, St.ev, St.app, St.put, wrs, datOf, datOf1, evBin, binInt, evLoad, cut, frz, fillD, setR, TIS, CS, reduceAdd, reduceMul, reduceEqDiff, ↓reduceIte, reduceCtorEq, reduceLT, reduceLeDiff, Array.reduceGetElem?, reduceSub, Nat.reduceBEq, ↓zc3, ↓zc4, ↓zc5, ↓zc6, ↓zc11, ↓zc12, ↓zc13, ↓zc16])
               repeat' with_reducible apply And.intro
               all_goals try ((with_reducible show CallR _ _ _ _ _ _ _); refine cR_s zk9 (.cons (.ownL (by rfl) (fun e => by cases e) rfl (by first | rfl | omega | (simp; done) | (simp [strBytes_len]; done) | (simp; omega) | (simp_all; done)) (.same _ _ (ci_pu .u8) (by first | rfl | (simp only [MPT, CS,  List.nil_append]; done) | (simp [CS,  ci_eq, cb_eq, cs_eq, cl_eq]; done) | (simp [CS,  ci_eq, cb_eq, cs_eq, cl_eq]; intro hz; rw [List.take_of_length_le (by simp; omega)])))) (.cons (.lst _ _ _ (ci_pu .u8) rfl) .nil)) (.bool _) ?_; simp only [EVT, stepR, evOp, St.ev, St.app, St.put, wrs, datOf, datOf1, evBin, binInt, evLoad, cut, frz, fillD, setR, TIS, CS, reduceAdd, reduceMul, reduceEqDiff, ↓reduceIte, reduceCtorEq, reduceLT, reduceLeDiff, Array.reduceGetElem?, reduceSub, Nat.reduceBEq, ↓zc3, ↓zc4, ↓zc5, ↓zc6, ↓zc11, ↓zc12, ↓zc13, ↓zc16])
               repeat' with_reducible apply And.intro
               all_goals try ((with_reducible show CallR _ _ _ _ _ _ _); refine cR_s zk14 (.cons (.agg' (.cons (.int' rfl) (.cons (.int' rfl) (.cons (.str' rfl) (.cons (.str' rfl) (.cons (.int' rfl) (.cons (.int' rfl) (.cons (.int' rfl) (.cons (.lst _ _ _ (ci_pu .u8) rfl) .nil))))))))) (.cons (.agg' (.cons (.int' rfl) (.cons (.int' rfl) (.cons (.str' rfl) (.cons (.str' rfl) (.cons (.int' rfl) (.cons (.int' rfl) (.cons (.int' rfl) (.cons (.nil _) .nil))))))))) .nil)) (.bool _) ?_; simp only [EVT, stepR, evOp, St.ev, St.app, St.put, wrs, datOf, datOf1, evBin, binInt, evLoad, cut, frz, fillD, setR, TIS, CS, reduceAdd, reduceMul, reduceEqDiff, ↓reduceIte, reduceCtorEq, reduceLT, reduceLeDiff, Array.reduceGetElem?, reduceSub, Nat.reduceBEq, ↓zc3, ↓zc4, ↓zc5, ↓zc6, ↓zc11, ↓zc12, ↓zc13, ↓zc16])
               all_goals ((repeat' apply And.intro) <;> first|rfl|assumption|omega|(simp;done)|(simp;omega)|(simp_all;done))
              refine sA_n ?_
              refine a_ret ?_
              obtain rfl := Option.some.inj H
              refine e_r2 (d := ?zd13) ?_ ?_
              rotate_left
              ·simp only [EVT, resR, single, evLoad, cut, TIS, CS, reduceAdd, reduceEqDiff, ↓reduceIte, reduceCtorEq, reduceLT, reduceLeDiff, reduceSub, Nat.reduceBEq, zc3, zc4, zc5, zc6, zc11, zc12, zc13, zc16]
               (repeat' apply And.intro) <;> first | rfl | assumption | omega | (simp; done)
              exact (.bool' (by first | rfl | assumption | (simp_all; done)))
           ·have H := cond_f zc12 H
            refine a_reg _ rfl (s := ?zs22) ?_ ?_
            rotate_left
            ·try simp only [EVT, stepR, evOp, St.ev, St.app, St.put, wrs, datOf, datOf1, evBin, binInt, evLoad, cut, frz, fillD, setR, TIS, CS, reduceAdd, reduceMul, reduceEqDiff, ↓reduceIte, reduceCtorEq, reduceLT, reduceLeDiff, Array.reduceGetElem?, reduceSub, Nat.reduceBEq, ↓zc3, ↓zc4, ↓zc5, ↓zc6, ↓zc11, ↓zc12]
             repeat' with_reducible apply And.intro
             all_goals try ((with_reducible show CallR _ _ _ _ _ _ _); refine callR_rcw (r' := .ref 134 0 r8.length 1) [(134, some ⟨5, 1, false, r8.map (ci .u8)⟩)] [] [] [(134, 0, ⟨5, 1, false, r8.map (ci .u8)⟩)] rfl zk8 (by simp) (by show ([] : List Nat).Nodup; decide) trivial (.cons (.agg' (.cons (.int' rfl) (.cons (.int' rfl) (.cons (.str' rfl) (.cons (.str' rfl) (.cons (.int' rfl) (.cons (.int' rfl) (.cons (.int' rfl) (.cons (.lst _ _ _ (ci_pu .u8) rfl) .nil))))))))) .nil) (by show ([134] : List Nat).Nodup; decide) (by show ([0] : List Nat).Nodup; decide) ⟨.inr ⟨rfl, by decide⟩, ⟨_, rfl, ⟨rfl, rfl, rfl, rfl⟩, .same _ _ (ci_pu .u8) rfl⟩, trivial⟩ (.refl' rfl rfl) ?_; simp only [EVT, stepR, evOp, St.ev, St.app, St.put, wrs, datOf, datOf1, evBin, binInt, evLoad, cut, frz, fillD, setR, TIS, CS, reduceAdd, reduceMul, reduceEqDiff, ↓reduceIte, reduceCtorEq, reduceLT, reduceLeDiff, Array.reduceGetElem?, reduceSub, Nat.reduceBEq, ↓zc3, ↓zc4, ↓zc5, ↓zc6, ↓zc11, ↓zc12])
             repeat' with_reducible apply And.intro
             all_goals try ((with_reducible show CallR _ _ _ _ _ _ _); refine cR_s zk9 (.cons (.ownL (by rfl) (fun e => by cases e) rfl (by first | rfl | omega | (simp; done) | (simp [strBytes_len]; done) | (simp; omega) | (simp_all; done)) (.same _ _ (ci_pu .u8) (by first | rfl | (simp only [MPT, CS,  List.nil_append]; done) | (simp [CS,  ci_eq, cb_eq, cs_eq, cl_eq]; done) | (simp [CS,  ci_eq, cb_eq, cs_eq, cl_eq]; intro hz; rw [List.take_of_length_le (by simp; omega)])))) (.cons (.lst _ _ _ (ci_pu .u8) rfl) .nil)) (.bool _) ?_; simp only [EVT, stepR, evOp, St.ev, St.app, St.put, wrs, datOf, datOf1, evBin, binInt, evLoad, cut, frz, fillD, setR, TIS, CS, reduceAdd, reduceMul, reduceEqDiff, ↓reduceIte, reduceCtorEq, reduceLT, reduceLeDiff, Array.reduceGetElem?, reduceSub, Nat.reduceBEq, ↓zc3, ↓zc4, ↓zc5, ↓zc6, ↓zc11, ↓zc12])
             repeat' with_reducible apply And.intro
             all_goals try ((with_reducible show CallR _ _ _ _ _ _ _); refine cR_s zk14 (.cons (.agg' (.cons (.int' rfl) (.cons (.int' rfl) (.cons (.str' rfl) (.cons (.str' rfl) (.cons (.int' rfl) (.cons (.int' rfl) (.cons (.int' rfl) (.cons (.lst _ _ _ (ci_pu .u8) rfl) .nil))))))))) (.cons (.agg' (.cons (.int' rfl) (.cons (.int' rfl) (.cons (.str' rfl) (.cons (.str' rfl) (.cons (.int' rfl) (.cons (.int' rfl) (.cons (.int' rfl) (.cons (.nil _) .nil))))))))) .nil)) (.bool _) ?_; simp only [EVT, stepR, evOp, St.ev, St.app, St.put, wrs, datOf, datOf1, evBin, binInt, evLoad, cut, frz, fillD, setR, TIS, CS, reduceAdd, reduceMul, reduceEqDiff, ↓reduceIte, reduceCtorEq, reduceLT, reduceLeDiff, Array.reduceGetElem?, reduceSub, Nat.reduceBEq, ↓zc3, ↓zc4, ↓zc5, ↓zc6, ↓zc11, ↓zc12])
             all_goals ((repeat' apply And.intro) <;> first|rfl|assumption|omega|(simp;done)|(simp;omega)|(simp_all;done))
            refine sA_n ?_
            refine a_ret ?_
            obtain rfl := Option.some.inj H
            refine e_r2 (d := ?zd14) ?_ ?_
            rotate_left
            ·simp only [EVT, resR, single, evLoad, cut, TIS, CS, reduceAdd, reduceEqDiff, ↓reduceIte, reduceCtorEq, reduceLT, reduceLeDiff, reduceSub, Nat.reduceBEq, zc3, zc4, zc5, zc6, zc11, zc12]
             (repeat' apply And.intro) <;> first | rfl | assumption | omega | (simp; done)
            exact (.bool' (by first | rfl | assumption | (simp_all; done)))
          ·have H := cond_f zc11 H
           refine a_reg _ rfl (s := ?zs23) ?_ ?_
           rotate_left
           ·try simp only [EVT, stepR, evOp, St.ev, St.app, St.put, wrs, datOf, datOf1, evBin, binInt, evLoad, cut, frz, fillD, setR, TIS, CS, reduceAdd, reduceMul, reduceEqDiff, ↓reduceIte, reduceCtorEq, reduceLT, reduceLeDiff, Array.reduceGetElem?, reduceSub, Nat.reduceBEq, ↓zc3, ↓zc4, ↓zc5, ↓zc6, ↓zc11]
            repeat' with_reducible apply And.intro
            all_goals try ((with_reducible show CallR _ _ _ _ _ _ _); refine callR_rcw (r' := .ref 134 0 r8.length 1) [(134, some ⟨5, 1, false, r8.map (ci .u8)⟩)] [] [] [(134, 0, ⟨5, 1, false, r8.map (ci .u8)⟩)] rfl zk8 (by simp) (by show ([] : List Nat).Nodup; decide) trivial (.cons (.agg' (.cons (.int' rfl) (.cons (.int' rfl) (.cons (.str' rfl) (.cons (.str' rfl) (.cons (.int' rfl) (.cons (.int' rfl) (.cons (.int' rfl) (.cons (.lst _ _ _ (ci_pu .u8) rfl) .nil))))))))) .nil) (by show ([134] : List Nat).Nodup; decide) (by show ([0] : List Nat).Nodup; decide) ⟨.inr ⟨rfl, by decide⟩, ⟨_, rfl, ⟨rfl, rfl, rfl, rfl⟩, .same _ _ (ci_pu .u8) rfl⟩, trivial⟩ (.refl' rfl rfl) ?_; simp only [EVT, stepR, evOp, St.ev, St.app, St.put, wrs, datOf, datOf1, evBin, binInt, evLoad, cut, frz, fillD, setR, TIS, CS, reduceAdd, reduceMul, reduceEqDiff, ↓reduceIte, reduceCtorEq, reduceLT, reduceLeDiff, Array.reduceGetElem?, reduceSub, Nat.reduceBEq, ↓zc3, ↓zc4, ↓zc5, ↓zc6, ↓zc11])
            repeat' with_reducible apply And.intro
            all_goals try ((with_reducible show CallR _ _ _ _ _ _ _); refine cR_s zk9 (.cons (.ownL (by rfl) (fun e => by cases e) rfl (by first | rfl | omega | (simp; done) | (simp [strBytes_len]; done) | (simp; omega) | (simp_all; done)) (.same _ _ (ci_pu .u8) (by first | rfl | (simp only [MPT, CS,  List.nil_append]; done) | (simp [CS,  ci_eq, cb_eq, cs_eq, cl_eq]; done) | (simp [CS,  ci_eq, cb_eq, cs_eq, cl_eq]; intro hz; rw [List.take_of_length_le (by simp; omega)])))) (.cons (.lst _ _ _ (ci_pu .u8) rfl) .nil)) (.bool _) ?_; simp only [EVT, stepR, evOp, St.ev, St.app, St.put, wrs, datOf, datOf1, evBin, binInt, evLoad, cut, frz, fillD, setR, TIS, CS, reduceAdd, reduceMul, reduceEqDiff, ↓reduceIte, reduceCtorEq, reduceLT, reduceLeDiff, Array.reduceGetElem?, reduceSub, Nat.reduceBEq, ↓zc3, ↓zc4, ↓zc5, ↓zc6, ↓zc11])
            all_goals ((repeat' apply And.intro) <;> first|rfl|assumption|omega|(simp;done)|(simp;omega)|(simp_all;done))
           refine sA_n ?_
           refine a_ret ?_
           obtain rfl := Option.some.inj H
           refine e_r2 (d := ?zd15) ?_ ?_
           rotate_left
           ·simp only [EVT, resR, single, evLoad, cut, TIS, CS, reduceAdd, reduceEqDiff, ↓reduceIte, reduceCtorEq, reduceLT, reduceLeDiff, reduceSub, Nat.reduceBEq, zc3, zc4, zc5, zc6, zc11]
            (repeat' apply And.intro) <;> first | rfl | assumption | omega | (simp; done)
           exact (.bool' (by first | rfl | assumption | (simp_all; done)))
        ·have H := cond_f zc5 H
         refine bool_split (b := (r6.2 != 0)) (fun zc17 => ?_) (fun zc17 => ?_)
         ·have H := cond_t zc17 H
          obtain ⟨r19, zh19, H⟩ := bind_some H
          have zk19 := ref01_SameOp_pc zh19
          refine bool_split (b := r19) (fun zc18 => ?_) (fun zc18 => ?_)
          ·have H := cond_t zc18 H
           refine bool_split (b := (r7.2 == 0)) (fun zc19 => ?_) (fun zc19 => ?_)
           ·have H := cond_t zc19 H
            obtain ⟨r20, zh20, H⟩ := bind_some H
            have zk20 := pack_Ans_rc zh20
            obtain ⟨r21, zh21, H⟩ := bind_some H
            have zk21 := ref01_Same_pc zh21
            refine bool_split (b := r21) (fun zc20 => ?_) (fun zc20 => ?_)
            ·have H := cond_t zc20 H
             refine a_reg _ rfl (s := ?zs24) ?_ ?_
             rotate_left
             ·try simp only [EVT, stepR, evOp, St.ev, St.app, St.put, wrs, datOf, datOf1, evBin, binInt, evLoad, cut, frz, fillD, setR, TIS, CS, reduceAdd, reduceMul, reduceEqDiff, ↓reduceIte, reduceCtorEq, reduceLT, reduceLeDiff, Array.reduceGetElem?, reduceSub, Nat.reduceBEq, ↓zc3, ↓zc4, ↓zc5, ↓zc17, ↓zc18, ↓zc19, ↓zc20]
              repeat' with_reducible apply And.intro
              all_goals try ((with_reducible show CallR _ _ _ _ _ _ _); refine cR_s zk19 (.cons (.agg' (.cons (.int' rfl) (.cons (.int' rfl) (.cons (.str' rfl) (.cons (.str' rfl) (.cons (.int' rfl) (.cons (.int' rfl) (.cons (.int' rfl) (.cons (.lst _ _ _ (ci_pu .u8) rfl) .nil))))))))) (.cons (.agg' (.cons (.int' rfl) (.cons (.int' rfl) (.cons (.str' rfl) (.cons (.str' rfl) (.cons (.int' rfl) (.cons (.int' rfl) (.cons (.int' rfl) (.cons (.nil _) .nil))))))))) .nil)) (.bool _) ?_; simp only [EVT, stepR, evOp, St.ev, St.app, St.put, wrs, datOf, datOf1, evBin, binInt, evLoad, cut, frz, fillD, setR, TIS, CS, reduceAdd, reduceMul, reduceEqDiff, ↓reduceIte, reduceCtorEq, reduceLT, reduceLeDiff, Array.reduceGetElem?, reduceSub, Nat.reduceBEq, ↓zc3, ↓zc4, ↓zc5, ↓zc17, ↓zc18, ↓zc19, ↓zc20])
              repeat' with_reducible apply And.intro
              all_goals try ((with_reducible show CallR _ _ _ _ _ _ _); refine callR_rcw (r' := .ref 153 0 r20.length 1) [(153, some ⟨5, 1, false, r20.map (ci .u8)⟩)] [] [] [(153, 0, ⟨5, 1, false, r20.map (ci .u8)⟩)] rfl zk20 (by simp) (by show ([] : List Nat).Nodup; decide) trivial (.cons (.agg' (.cons (.int' rfl) (.cons (.int' rfl) (.cons (.int' rfl) (.cons (.int' rfl) (.cons (.int' rfl) (.cons (.lst _ _ _ cs_pu rfl) (.cons (.lst _ _ _ (ci_pu .u8) rfl) .nil)))))))) .nil) (by show ([153] : List Nat).Nodup; decide) (by show ([0] : List Nat).Nodup; decide) ⟨.inr ⟨rfl, by decide⟩, ⟨_, rfl, ⟨rfl, rfl, rfl, rfl⟩, .same _ _ (ci_pu .u8) rfl⟩, trivial⟩ (.refl' rfl rfl) ?_; simp only [EVT, stepR, evOp, St.ev, St.app, St.put, wrs, datOf, datOf1, evBin, binInt, evLoad, cut, frz, fillD, setR, TIS, CS, reduceAdd, reduceMul, reduceEqDiff, ↓reduceIte, reduceCtorEq, reduceLT, reduceLeDiff, Array.reduceGetElem?, reduceSub, Nat.reduceBEq, ↓zc3, ↓zc4, ↓zc5, ↓zc17, ↓zc18, ↓zc19, ↓zc20])
              repeat' with_reducible apply And.intro
              all_goals try ((with_reducible show CallR _ _ _ _ _ _ _); refine cR_s zk21 (.cons (.ownL (by rfl) (fun e => by cases e) rfl (by first | rfl | omega | (simp; done) | (simp [strBytes_len]; done) | (simp; omega) | (simp_all; done)) (.same _ _ (ci_pu .u8) (by first | rfl | (simp only [MPT, CS,  List.nil_append]; done) | (simp [CS,  ci_eq, cb_eq, cs_eq, cl_eq]; done) | (simp [CS,  ci_eq, cb_eq, cs_eq, cl_eq]; intro hz; rw [List.take_of_length_le (by simp; omega)])))) (.cons (.lst _ _ _ (ci_pu .u8) rfl) .nil)) (.bool _) ?_; simp only [EVT, stepR, evOp, St.ev, St.app, St.put, wrs, datOf, datOf1, evBin, binInt, evLoad, cut, frz, fillD, setR, TIS, CS, reduceAdd, reduceMul, reduceEqDiff, ↓reduceIte, reduceCtorEq, reduceLT, reduceLeDiff, Array.reduceGetElem?, reduceSub, Nat.reduceBEq, ↓zc3, ↓zc4, ↓zc5, ↓zc17, ↓zc18, ↓zc19, ↓zc20])
              all_goals ((repeat' apply And.intro) <;> first|rfl|assumption|omega|(simp;done)|(simp;omega)|(simp_all;done))
             refine sA_n ?_
             refine a_ret ?_
             obtain rfl := Option.some.inj H
             refine e_r2 (d := ?zd16) ?_ ?_
             rotate_left
             ·simp only [EVT, resR, single, evLoad, cut, TIS, CS, reduceAdd, reduceEqDiff, ↓reduceIte, reduceCtorEq, reduceLT, reduceLeDiff, reduceSub, Nat.reduceBEq, zc3, zc4, zc5, zc17, zc18, zc19, zc20]
              (repeat' apply And.intro) <;> first | rfl | assumption | omega | (simp; done)
             exact (.bool' (by first | rfl | assumption | (simp_all; done)))
            ·have H := cond_f zc20 H
             refine bool_split (b := (r7.2 != 0)) (fun zc21 => ?_) (fun zc21 => ?_)
             ·have H := cond_t zc21 H
              obtain ⟨r22, zh22, H⟩ := bind_some H
              have zk22 := ref01_SameAns_pc zh22
              refine a_reg _ rfl (s := ?zs25) ?_ ?_
              rotate_left
              ·try simp only [EVT, stepR, evOp, St.ev, St.app, St.put, wrs, datOf, datOf1, evBin, binInt, evLoad, cut, frz, fillD, setR, TIS, CS, reduceAdd, reduceMul, reduceEqDiff, ↓reduceIte, reduceCtorEq, reduceLT, reduceLeDiff, Array.reduceGetElem?, reduceSub, Nat.reduceBEq, ↓zc3, ↓zc4, ↓zc5, ↓zc17, ↓zc18, ↓zc19, ↓zc20, ↓zc21]
               repeat' with_reducible apply And.intro
               all_goals try ((with_reducible show CallR _ _ _ _ _ _ _); refine cR_s zk19 (.cons (.agg' (.cons (.int' rfl) (.cons (.int' rfl) (.cons (.str' rfl) (.cons (.str' rfl) (.cons (.int' rfl) (.cons (.int' rfl) (.cons (.int' rfl) (.cons (.lst _ _ _ (ci_pu .u8) rfl) .nil))))))))) (.cons (.agg' (.cons (.int' rfl) (.cons (.int' rfl) (.cons (.str' rfl) (.cons (.str' rfl) (.cons (.int' rfl) (.cons (.int' rfl) (.cons (.int' rfl) (.cons (.nil _) .nil))))))))) .nil)) (.bool _) ?_; simp only [EVT, stepR, evOp, St.ev, St.app, St.put, wrs, datOf, datOf1, evBin, binInt, evLoad, cut, frz, fillD, setR, TIS, CS, reduceAdd, reduceMul, reduceEqDiff, ↓reduceIte, reduceCtorEq, reduceLT, reduceLeDiff, Array.reduceGetElem?, reduceSub, Nat.reduceBEq, ↓zc3, ↓zc4, ↓zc5, ↓zc17, ↓zc18, ↓zc19, ↓zc20, ↓zc21])
               repeat' with_reducible apply And.intro
               all_goals try ((with_reducible show CallR _ _ _ _ _ _ _); refine callR_rcw (r' := .ref 153 0 r20.length 1) [(153, some ⟨5, 1, false, r20.map (ci .u8)⟩)] [] [] [(153, 0, ⟨5, 1, false, r20.map (ci .u8)⟩)] rfl zk20 (by simp) (by show ([] : List Nat).Nodup; decide) trivial (.cons (.agg' (.cons (.int' rfl) (.cons (.int' rfl) (.cons (.int' rfl) (.cons (.int' rfl) (.cons (.int' rfl) (.cons (.lst _ _ _ cs_pu rfl) (.cons (.lst _ _ _ (ci_pu .u8) rfl) .nil)))))))) .nil) (by show ([153] : List Nat).Nodup; decide) (by show ([0] : List Nat).Nodup; decide) ⟨.inr ⟨rfl, by decide⟩, ⟨_, rfl, ⟨rfl, rfl, rfl, rfl⟩, .same _ _ (ci_pu .u8) rfl⟩, trivial⟩ (.refl' rfl rfl) ?_; simp only [EVT, stepR, evOp, St.ev, St.app, St.put, wrs, datOf, datOf1, evBin, binInt, evLoad, cut, frz, fillD, setR, TIS, CS, reduceAdd, reduceMul, reduceEqDiff, ↓reduceIte, reduceCtorEq, reduceLT, reduceLeDiff, Array.reduceGetElem?, reduceSub, Nat.reduceBEq, ↓zc3, ↓zc4, ↓zc5, ↓zc17, ↓zc18, ↓zc19, ↓zc20, ↓zc21])
               repeat' with_reducible apply And.intro
               all_goals try ((with_reducible show CallR _ _ _ _ _ _ _); refine cR_s zk21 (.cons (.ownL (by rfl) (fun e => by cases e) rfl (by first | rfl | omega | (simp; done) | (simp [strBytes_len]; done) | (simp; omega) | (simp_all; done)) (.same _ _ (ci_pu .u8) (by first | rfl | (simp only [MPT, CS,  List.nil_append]; done) | (simp [CS,  ci_eq, cb_eq, cs_eq, cl_eq]; done) | (simp [CS,  ci_eq, cb_eq, cs_eq, cl_eq]; intro hz; rw [List.take_of_length_le (by simp; omega)])))) (.cons (.lst _ _ _ (ci_pu .u8) rfl) .nil)) (.bool _) ?_; simp only [EVT, stepR, evOp, St.ev, St.app, St.put, wrs, datOf, datOf1, evBin, binInt, evLoad, cut, frz, fillD, setR, TIS, CS, reduceAdd, reduceMul, reduceEqDiff, ↓reduceIte, reduceCtorEq, reduceLT, reduceLeDiff, Array.reduceGetElem?, reduceSub, Nat.reduceBEq, ↓zc3, ↓zc4, ↓zc5, ↓zc17, ↓zc18, ↓zc19, ↓zc20, ↓zc21])
               repeat' with_reducible apply And.intro
               all_goals try ((with_reducible show CallR _ _ _ _ _ _ _); refine cR_s zk22 (.cons (.agg' (.cons (.int' rfl) (.cons (.int' rfl) (.cons (.int' rfl) (.cons (.int' rfl) (.cons (.int' rfl) (.cons (.lst _ _ _ cs_pu rfl) (.cons (.lst _ _ _ (ci_pu .u8) rfl) .nil)))))))) (.cons (.agg' (.cons (.int' rfl) (.cons (.int' rfl) (.cons (.int' rfl) (.cons (.int' rfl) (.cons (.int' rfl) (.cons (.nil _) (.cons (.nil _) .nil)))))))) .nil)) (.bool _) ?_; simp only [EVT, stepR, evOp, St.ev, St.app, St.put, wrs, datOf, datOf1, evBin, binInt, evLoad, cut, frz, fillD, setR, TIS, CS, reduceAdd, reduceMul, reduceEqDiff, ↓reduceIte, reduceCtorEq, reduceLT, reduceLeDiff, Array.reduceGetElem?, reduceSub, Nat.reduceBEq, ↓zc3, ↓zc4, ↓zc5, ↓zc17, ↓zc18, ↓zc19, ↓zc20, ↓zc21])
               all_goals ((repeat' apply And.intro) <;> first|rfl|assumption|omega|(simp;done)|(simp;omega)|(simp_all;done))
              refine sA_n ?_
              refine a_ret ?_
              obtain rfl := Option.some.inj H
              refine e_r2 (d := ?zd17) ?_ ?_
              rotate_left
              ·simp only [EVT, resR, single, evLoad, cut, TIS, CS, reduceAdd, reduceEqDiff, ↓reduceIte, reduceCtorEq, reduceLT, reduceLeDiff, reduceSub, Nat.reduceBEq, zc3, zc4, zc5, zc17, zc18, zc19, zc20, zc21]
               (repeat' apply And.intro) <;> first | rfl | assumption | omega | (simp; done)
              exact (.bool' rfl)
             ·have H := cond_f zc21 H
              refine a_reg _ rfl (s := ?zs26) ?_ ?_
              rotate_left
              ·try simp only [EVT, stepR, evOp, St.ev, St.app, St.put, wrs, datOf, datOf1, evBin, binInt, evLoad, cut, frz, fillD, setR, TIS, CS, reduceAdd, reduceMul, reduceEqDiff, ↓reduceIte, reduceCtorEq, reduceLT, reduceLeDiff, Array.reduceGetElem?, reduceSub, Nat.reduceBEq, ↓zc3, ↓zc4, ↓zc5, ↓zc17, ↓zc18, ↓zc19, ↓zc20, ↓zc21]
               repeat' with_reducible apply And.intro
               all_goals try ((with_reducible show CallR _ _ _ _ _ _ _); refine cR_s zk19 (.cons (.agg' (.cons (.int' rfl) (.cons (.int' rfl) (.cons (.str' rfl) (.cons (.str' rfl) (.cons (.int' rfl) (.cons (.int' rfl) (.cons (.int' rfl) (.cons (.lst _ _ _ (ci_pu .u8) rfl) .nil))))))))) (.cons (.agg' (.cons (.int' rfl) (.cons (.int' rfl) (.cons (.str' rfl) (.cons (.str' rfl) (.cons (.int' rfl) (.cons (.int' rfl) (.cons (.int' rfl) (.cons (.nil _) .nil))))))))) .nil)) (.bool _) ?_; simp only [EVT, stepR, evOp, St.ev, St.app, St.put, wrs, datOf, datOf1, evBin, binInt, evLoad, cut, frz, fillD, setR, TIS, CS, reduceAdd, reduceMul, reduceEqDiff, ↓reduceIte, reduceCtorEq, reduceLT, reduceLeDiff, Array.reduceGetElem?, reduceSub, Nat.reduceBEq, ↓zc3, ↓zc4, ↓zc5, ↓zc17, ↓zc18, ↓zc19, ↓zc20, ↓zc21])
               repeat' with_reducible apply And.intro
               all_goals try ((with_reducible show CallR _ _ _ _ _ _ _); refine callR_rcw (r' := .ref 153 0 r20.length 1) [(153, some ⟨5, 1, false, r20.map (ci .u8)⟩)] [] [] [(153, 0, ⟨5, 1, false, r20.map (ci .u8)⟩)] rfl zk20 (by simp) (by show ([] : List Nat).Nodup; decide) trivial (.cons (.agg' (.cons (.int' rfl) (.cons (.int' rfl) (.cons (.int' rfl) (.cons (.int' rfl) (.cons (.int' rfl) (.cons (.lst _ _ _ cs_pu rfl) (.cons (.lst _ _ _ (ci_pu .u8) rfl) .nil)))))))) .nil) (by show ([153] : List Nat).Nodup; decide) (by show ([0] : List Nat).Nodup; decide) ⟨.inr ⟨rfl, by decide⟩, ⟨_, rfl, ⟨rfl, rfl, rfl, rfl⟩, .same _ _ (ci_pu .u8) rfl⟩, trivial⟩ (.refl' rfl rfl) ?_; simp only [EVT, stepR, evOp, St.ev, St.app, St.put, wrs, datOf, datOf1, evBin, binInt, evLoad, cut, frz, fillD, setR, TIS, CS, reduceAdd, reduceMul, reduceEqDiff, ↓reduceIte, reduceCtorEq, reduceLT, reduceLeDiff, Array.reduceGetElem?, reduceSub, Nat.reduceBEq, ↓zc3, ↓zc4, ↓zc5, ↓zc17, ↓zc18, ↓zc19, ↓zc20, ↓zc21])
               repeat' with_reducible apply And.intro
               all_goals try ((with_reducible show CallR _ _ _ _ _ _ _); refine cR_s zk21 (.cons (.ownL (by rfl) (fun e => by cases e) rfl (by first | rfl | omega | (simp; done) | (simp [strBytes_len]; done) | (simp; omega) | (simp_all; done)) (.same _ _ (ci_pu .u8) (by first | rfl | (simp only [MPT, CS,  List.nil_append]; done) | (simp [CS,  ci_eq, cb_eq, cs_eq, cl_eq]; done) | (simp [CS,  ci_eq, cb_eq, cs_eq, cl_eq]; intro hz; rw [List.take_of_length_le (by simp; omega)])))) (.cons (.lst _ _ _ (ci_pu .u8) rfl) .nil)) (.bool _) ?_; simp only [EVT, stepR, evOp, St.ev, St.app, St.put, wrs, datOf, datOf1, evBin, binInt, evLoad, cut, frz, fillD, setR, TIS, CS, reduceAdd, reduceMul, reduceEqDiff, ↓reduceIte, reduceCtorEq, reduceLT, reduceLeDiff, Array.reduceGetElem?, reduceSub, Nat.reduceBEq, ↓zc3, ↓zc4, ↓zc5, ↓zc17, ↓zc18, ↓zc19, ↓zc20, ↓zc21])
               all_goals ((repeat' apply And.intro) <;> first|rfl|assumption|omega|(simp;done)|(simp;omega)|(simp_all;done))
              refine sA_n ?_
              refine a_ret ?_
              obtain rfl := Option.some.inj H
              refine e_r2 (d := ?zd18) ?_ ?_
              rotate_left
              ·simp only [EVT, resR, single, evLoad, cut, TIS, CS, reduceAdd, reduceEqDiff, ↓reduceIte, reduceCtorEq, reduceLT, reduceLeDiff, reduceSub, Nat.reduceBEq, zc3, zc4, zc5, zc17, zc18, zc19, zc20, zc21]
               (repeat' apply And.intro) <;> first | rfl | assumption | omega | (simp; done)
              exact (.bool' (by first | rfl | assumption | (simp_all; done)))
           ·have H := cond_f zc19 H
            refine bool_split (b := (r7.2 != 0)) (fun zc22 => ?_) (fun zc22 => ?_)
            ·have H := cond_t zc22 H
             obtain ⟨r23, zh23, H⟩ := bind_some H
             have zk23 := ref01_SameAns_pc zh23
             refine a_reg _ rfl (s := ?zs27) ?_ ?_
             rotate_left
             ·try simp only [EVT, stepR, evOp, St.ev, St.app, St.put, wrs, datOf, datOf1, evBin, binInt, evLoad, cut, frz, fillD, setR, TIS, CS, reduceAdd, reduceMul, reduceEqDiff, ↓reduceIte, reduceCtorEq, reduceLT, reduceLeDiff, Array.reduceGetElem?, reduceSub, Nat.reduceBEq, ↓zc3, ↓zc4, ↓zc5, ↓zc17, ↓zc18, ↓zc19, ↓zc22]
              repeat' with_reducible apply And.intro
              all_goals try ((with_reducible show CallR _ _ _ _ _ _ _); refine cR_s zk19 (.cons (.agg' (.cons (.int' rfl) (.cons (.int' rfl) (.cons (.str' rfl) (.cons (.str' rfl) (.cons (.int' rfl) (.cons (.int' rfl) (.cons (.int' rfl) (.cons (.lst _ _ _ (ci_pu .u8) rfl) .nil))))))))) (.cons (.agg' (.cons (.int' rfl) (.cons (.int' rfl) (.cons (.str' rfl) (.cons (.str' rfl) (.cons (.int' rfl) (.cons (.int' rfl) (.cons (.int' rfl) (.cons (.nil _) .nil))))))))) .nil)) (.bool _) ?_; simp only [EVT, stepR, evOp, St.ev, St.app, St.put, wrs, datOf, datOf1, evBin, binInt, evLoad, cut, frz, fillD, setR, TIS, CS, reduceAdd, reduceMul, reduceEqDiff, ↓reduceIte, reduceCtorEq, reduceLT, reduceLeDiff, Array.reduceGetElem?, reduceSub, Nat.reduceBEq, ↓zc3, ↓zc4, ↓zc5, ↓zc17, ↓zc18, ↓zc19, ↓zc22])
              repeat' with_reducible apply And.intro
              all_goals try ((with_reducible show CallR _ _ _ _ _ _ _); refine cR_s zk23 (.cons (.agg' (.cons (.int' rfl) (.cons (.int' rfl) (.cons (.int' rfl) (.cons (.int' rfl) (.cons (.int' rfl) (.cons (.lst _ _ _ cs_pu rfl) (.cons (.lst _ _ _ (ci_pu .u8) rfl) .nil)))))))) (.cons (.agg' (.cons (.int' rfl) (.cons (.int' rfl) (.cons (.int' rfl) (.cons (.int' rfl) (.cons (.int' rfl) (.cons (.nil _) (.cons (.nil _) .nil)))))))) .nil)) (.bool _) ?_; simp only [EVT, stepR, evOp, St.ev, St.app, St.put, wrs, datOf, datOf1, evBin, binInt, evLoad, cut, frz, fillD, setR, TIS, CS, reduceAdd, reduceMul, reduceEqDiff, ↓reduceIte, reduceCtorEq, reduceLT, reduceLeDiff, Array.reduceGetElem?, reduceSub, Nat.reduceBEq, ↓zc3, ↓zc4, ↓zc5, ↓zc17, ↓zc18, ↓zc19, ↓zc22])
              all_goals ((repeat' apply And.intro) <;> first|rfl|assumption|omega|(simp;done)|(simp;omega)|(simp_all;done))
             refine sA_n ?_
             refine a_ret ?_
             obtain rfl := Option.some.inj H
             refine e_r2 (d := ?zd19) ?_ ?_
             rotate_left
             ·simp only [EVT, resR, single, evLoad, cut, TIS, CS, reduceAdd, reduceEqDiff, ↓reduceIte, reduceCtorEq, reduceLT, reduceLeDiff, reduceSub, Nat.reduceBEq, zc3, zc4, zc5, zc17, zc18, zc19, zc22]
              (repeat' apply And.intro) <;> first | rfl | assumption | omega | (simp; done)
             exact (.bool' rfl)
            ·have H := cond_f zc22 H
             refine a_reg _ rfl (s := ?zs28) ?_ ?_
             rotate_left
             ·try simp only [EVT, stepR, evOp, St.ev, St.app, St.put, wrs, datOf, datOf1, evBin, binInt, evLoad, cut, frz, fillD, setR, TIS, CS, reduceAdd, reduceMul, reduceEqDiff, ↓reduceIte, reduceCtorEq, reduceLT, reduceLeDiff, Array.reduceGetElem?, reduceSub, Nat.reduceBEq, ↓zc3, ↓zc4, ↓zc5, ↓zc17, ↓zc18, ↓zc19, ↓zc22]
              repeat' with_reducible apply And.intro
              all_goals try ((with_reducible show CallR _ _ _ _ _ _ _); refine cR_s zk19 (.cons (.agg' (.cons (.int' rfl) (.cons (.int' rfl) (.cons (.str' rfl) (.cons (.str' rfl) (.cons (.int' rfl) (.cons (.int' rfl) (.cons (.int' rfl) (.cons (.lst _ _ _ (ci_pu .u8) rfl) .nil))))))))) (.cons (.agg' (.cons (.int' rfl) (.cons (.int' rfl) (.cons (.str' rfl) (.cons (.str' rfl) (.cons (.int' rfl) (.cons (.int' rfl) (.cons (.int' rfl) (.cons (.nil _) .nil))))))))) .nil)) (.bool _) ?_; simp only [EVT, stepR, evOp, St.ev, St.app, St.put, wrs, datOf, datOf1, evBin, binInt, evLoad, cut, frz, fillD, setR, TIS, CS, reduceAdd, reduceMul, reduceEqDiff, ↓reduceIte, reduceCtorEq, reduceLT, reduceLeDiff, Array.reduceGetElem?, reduceSub, Nat.reduceBEq, ↓zc3, ↓zc4, ↓zc5, ↓zc17, ↓zc18, ↓zc19, ↓zc22])
              all_goals ((repeat' apply And.intro) <;> first|rfl|assumption|omega|(simp;done)|(simp;omega)|(simp_all;done))
             refine sA_n ?_
             refine a_ret ?_
             obtain rfl := Option.some.inj H
             refine e_r2 (d := ?zd20) ?_ ?_
             rotate_left
             ·simp only [EVT, resR, single, evLoad, cut, TIS, CS, reduceAdd, reduceEqDiff, ↓reduceIte, reduceCtorEq, reduceLT, reduceLeDiff, reduceSub, Nat.reduceBEq, zc3, zc4, zc5, zc17, zc18, zc19, zc22]
              (repeat' apply And.intro) <;> first | rfl | assumption | omega | (simp; done)
             exact (.bool' (by first | rfl | assumption | (simp_all; done)))
          ·have H := cond_f zc18 H
           refine a_reg _ rfl (s := ?zs29) ?_ ?_
           rotate_left
           ·try simp only [EVT, stepR, evOp, St.ev, St.app, St.put, wrs, datOf, datOf1, evBin, binInt, evLoad, cut, frz, fillD, setR, TIS, CS, reduceAdd, reduceMul, reduceEqDiff, ↓reduceIte, reduceCtorEq, reduceLT, reduceLeDiff, Array.reduceGetElem?, reduceSub, Nat.reduceBEq, ↓zc3, ↓zc4, ↓zc5, ↓zc17, ↓zc18]
            repeat' with_reducible apply And.intro
            all_goals try ((with_reducible show CallR _ _ _ _ _ _ _); refine cR_s zk19 (.cons (.agg' (.cons (.int' rfl) (.cons (.int' rfl) (.cons (.str' rfl) (.cons (.str' rfl) (.cons (.int' rfl) (.cons (.int' rfl) (.cons (.int' rfl) (.cons (.lst _ _ _ (ci_pu .u8) rfl) .nil))))))))) (.cons (.agg' (.cons (.int' rfl) (.cons (.int' rfl) (.cons (.str' rfl) (.cons (.str' rfl) (.cons (.int' rfl) (.cons (.int' rfl) (.cons (.int' rfl) (.cons (.nil _) .nil))))))))) .nil)) (.bool _) ?_; simp only [EVT, stepR, evOp, St.ev, St.app, St.put, wrs, datOf, datOf1, evBin, binInt, evLoad, cut, frz, fillD, setR, TIS, CS, reduceAdd, reduceMul, reduceEqDiff, ↓reduceIte, reduceCtorEq, reduceLT, reduceLeDiff, Array.reduceGetElem?, reduceSub, Nat.reduceBEq, ↓zc3, ↓zc4, ↓zc5, ↓zc17, ↓zc18])
            all_goals ((repeat' apply And.intro) <;> first|rfl|assumption|omega|(simp;done)|(simp;omega)|(simp_all;done))
           refine sA_n ?_
           refine a_ret ?_
           obtain rfl := Option.some.inj H
           refine e_r2 (d := ?zd21) ?_ ?_
           rotate_left
           ·simp only [EVT, resR, single, evLoad, cut, TIS, CS, reduceAdd, reduceEqDiff, ↓reduceIte, reduceCtorEq, reduceLT, reduceLeDiff, reduceSub, Nat.reduceBEq, zc3, zc4, zc5, zc17, zc18]
            (repeat' apply And.intro) <;> first | rfl | assumption | omega | (simp; done)
           exact (.bool' (by first | rfl | assumption | (simp_all; done)))
         ·have H := cond_f zc17 H
          refine a_reg _ rfl (s := ?zs30) ?_ ?_
          rotate_left
          ·simp only [EVT, stepR, evOp, St.ev, St.app, St.put, wrs, datOf, datOf1, evBin, binInt, evLoad, cut, frz, fillD, setR, TIS, CS, reduceAdd, reduceMul, reduceEqDiff, ↓reduceIte, reduceCtorEq, reduceLT, reduceLeDiff, Array.reduceGetElem?, reduceSub, Nat.reduceBEq, ↓zc3, ↓zc4, ↓zc5, ↓zc17]
           try simp only [EVT, stepR, evOp, St.ev, St.app, St.put, wrs, datOf, datOf1, evBin, binInt, evLoad, cut, frz, fillD, setR, TIS, CS, reduceAdd, reduceMul, reduceEqDiff, ↓reduceIte, reduceCtorEq, reduceLT, reduceLeDiff, Array.reduceGetElem?, reduceSub, Nat.reduceBEq, ↓zc3, ↓zc4, ↓zc5, ↓zc17]
           (repeat' apply And.intro) <;> first|rfl|assumption|omega|(simp;done)|(simp;omega)|(simp_all;done)
          refine sA_n ?_
          refine a_ret ?_
          obtain rfl := Option.some.inj H
          refine e_r2 (d := ?zd22) ?_ ?_
          rotate_left
          ·simp only [EVT, resR, single, evLoad, cut, TIS, CS, reduceAdd, reduceEqDiff, ↓reduceIte, reduceCtorEq, reduceLT, reduceLeDiff, reduceSub, Nat.reduceBEq, zc3, zc4, zc5, zc17]
           (repeat' apply And.intro) <;> first | rfl | assumption | omega | (simp; done)
          exact (.bool' (by first | rfl | assumption | (simp_all; done)))
       ·have H := cond_f zc4 H
        refine a_reg _ rfl (s := ?zs31) ?_ ?_
        rotate_left
        ·simp only [EVT, stepR, evOp, St.ev, St.app, St.put, wrs, datOf, datOf1, evBin, binInt, evLoad, cut, frz, fillD, setR, TIS, CS, reduceAdd, reduceMul, reduceEqDiff, ↓reduceIte, reduceCtorEq, reduceLT, reduceLeDiff, Array.reduceGetElem?, reduceSub, Nat.reduceBEq, ↓zc3, ↓zc4]
         try simp only [EVT, stepR, evOp, St.ev, St.app, St.put, wrs, datOf, datOf1, evBin, binInt, evLoad, cut, frz, fillD, setR, TIS, CS, reduceAdd, reduceMul, reduceEqDiff, ↓reduceIte, reduceCtorEq, reduceLT, reduceLeDiff, Array.reduceGetElem?, reduceSub, Nat.reduceBEq, ↓zc3, ↓zc4]
         (repeat' apply And.intro) <;> first|rfl|assumption|omega|(simp;done)|(simp;omega)|(simp_all;done)
        refine sA_n ?_
        refine a_ret ?_
        obtain rfl := Option.some.inj H
        refine e_r2 (d := ?zd23) ?_ ?_
        rotate_left
        ·simp only [EVT, resR, single, evLoad, cut, TIS, CS, reduceAdd, reduceEqDiff, ↓reduceIte, reduceCtorEq, reduceLT, reduceLeDiff, reduceSub, Nat.reduceBEq, zc3, zc4]
         (repeat' apply And.intro) <;> first | rfl | assumption | omega | (simp; done)
        exact (.bool' (by first | rfl | assumption | (simp_all; done)))
end
end Go.Proofs.Ytifkepfcjhebfaa
