/- Functions of the program as Lean functions, and that they are so; printed by a program of mine. -/
import Derived.Test.YtifkepfcjhebfaaF2
set_option linter.unusedSimpArgs false
set_option linter.unusedVariables false
namespace Go.Proofs.Ytifkepfcjhebfaa
open Go.Ab
open Nat (reduceAdd reduceMul reduceEqDiff reduceLT reduceLeDiff reduceSub)
noncomputable section

def pack_Op_f (o1 : Op) : Option (List Int) :=
 (pack_numbers_f [o1.kind, o1.client]).bind fun r1 => (pack_Str_f o1.path).bind fun r2 => chk ((r1.length + r2.length) * 1 ≤ 140737488355328) ((pack_Str_f o1.to_).bind fun r3 => chk (((r1.length + r2.length) + r3.length) * 1 ≤ 140737488355328) ((pack_numbers_f [o1.n, o1.m, o1.handle]).bind fun r4 => chk ((((r1.length + r2.length) + r3.length) + r4.length) * 1 ≤ 140737488355328) ((pack_Str_f (strOfNums o1.data)).bind fun r5 => chk (((((r1.length + r2.length) + r3.length) + r4.length) + r5.length) * 1 ≤ 140737488355328) (some (((((r1 ++ r2) ++ r3) ++ r4) ++ r5))))))
set_option maxHeartbeats 4000000 in
set_option maxRecDepth 20000 in
theorem pack_Op_rc {o1 : Op} {r : (List Int)} (H : pack_Op_f o1 = some r) : RC Try.prog 13 [.agg (Op.c o1)] [] 0 (.ref 0 0 r.length 1) [some ⟨5, 1, false, r.map (ci .u8)⟩] := by
 refine rcA_of Try.func13 (by rfl) (by decide) 36 (by rfl) [.tmp 2] (by rfl) ?_
 unfold pack_Op_f at H
 simp only [hent, List.length_cons, List.length_nil, reduceAdd]
 refine a_seq ?_
 refine a_reg _ rfl (s := ?zs1) ?_ ?_
 rotate_left
 ·simp only [EVT, stepR, evOp, St.ev, St.app, St.put, wrs, allOne, datOf, datOf1, TIS, CS, reduceAdd, reduceMul, reduceEqDiff, ↓reduceIte, reduceCtorEq, reduceLT, reduceLeDiff]
  (repeat' apply And.intro) <;> first|rfl|assumption|omega|(simp;done)|(simp;omega)|(simp_all;done)
 refine sA_n ?_
 refine a_seq ?_
 obtain ⟨r1, zh1, H⟩ := bind_some H
 have zk1 := pack_numbers_rc zh1
 refine a_reg _ rfl (s := ?zs2) ?_ ?_
 rotate_left
 ·try simp only [EVT, stepR, evOp, St.ev, St.app, St.put, wrs, evFieldAddr, evLoad, cut, allOne, frz, TIS, CS, reduceAdd, reduceMul, reduceEqDiff, ↓reduceIte, reduceCtorEq, reduceLT, reduceLeDiff, reduceSub, Nat.reduceBEq]
  repeat' with_reducible apply And.intro
  all_goals try ((with_reducible show CallR _ _ _ _ _ _ _); refine callR_rcw (r' := .ref 21 0 r1.length 1) [(20, some ⟨3, 1, true, [o1.kind, o1.client].map (ci .i64)⟩), (21, some ⟨5, 1, false, r1.map (ci .u8)⟩)] [] [20] [(21, 0, ⟨5, 1, false, r1.map (ci .u8)⟩)] rfl zk1 (by simp) (by show ([] : List Nat).Nodup; decide) trivial (.cons (.frz' (by rfl) (by simp) rfl (by first | rfl | omega | (simp; done) | (simp [strBytes_len]; done) | (simp; omega) | (simp_all; done)) (.same _ _ (ci_pu .i64) (by first | rfl | (simp only [MPT, CS,  List.nil_append]; done) | (simp [CS,  ci_eq, cb_eq, cs_eq, cl_eq]; done) | (simp [CS,  ci_eq, cb_eq, cs_eq, cl_eq]; intro hz; rw [List.take_of_length_le (by simp; omega)])))) .nil) (by show ([21] : List Nat).Nodup; decide) (by show ([0] : List Nat).Nodup; decide) ⟨.inr ⟨rfl, by decide⟩, ⟨_, rfl, ⟨rfl, rfl, rfl, rfl⟩, .same _ _ (ci_pu .u8) rfl⟩, trivial⟩ (.refl' rfl rfl) ?_; simp only [EVT, stepR, evOp, St.ev, St.app, St.put, wrs, evFieldAddr, evLoad, cut, allOne, frz, TIS, CS, reduceAdd, reduceMul, reduceEqDiff, ↓reduceIte, reduceCtorEq, reduceLT, reduceLeDiff, reduceSub, Nat.reduceBEq])
  all_goals ((repeat' apply And.intro) <;> first|rfl|assumption|omega|(simp;done)|(simp;omega)|(simp_all;done))
 refine sA_n ?_
 refine a_seq ?_
 obtain ⟨r2, zh2, H⟩ := bind_some H
 have zk2 := pack_Str_pc zh2
 obtain ⟨zh3, H⟩ := chk_some H
 refine a_reg _ rfl (s := ?zs3) ?_ ?_
 rotate_left
 ·try simp only [EVT, stepR, evOp, St.ev, St.app, St.put, wrs, evFieldAddr, evLoad, cut, frz, evBuiltin, evAppend, elems, Option.elim, TIS, CS, reduceAdd, reduceMul, reduceEqDiff, ↓reduceIte, reduceCtorEq, reduceLT, reduceLeDiff, reduceSub, Nat.reduceBEq]
  repeat' with_reducible apply And.intro
  all_goals try ((with_reducible show CallR _ _ _ _ _ _ _); refine cR_p zk2 (.cons (.str' rfl) .nil) ?_; simp only [EVT, stepR, evOp, St.ev, St.app, St.put, wrs, evFieldAddr, evLoad, cut, frz, evBuiltin, evAppend, elems, Option.elim, TIS, CS, reduceAdd, reduceMul, reduceEqDiff, ↓reduceIte, reduceCtorEq, reduceLT, reduceLeDiff, reduceSub, Nat.reduceBEq])
  all_goals ((repeat' apply And.intro) <;> first|rfl|assumption|omega|(simp;done)|(simp;omega)|(simp_all;done))
 refine sA_n ?_
 refine a_seq ?_
 obtain ⟨r3, zh4, H⟩ := bind_some H
 have zk3 := pack_Str_pc zh4
 obtain ⟨zh5, H⟩ := chk_some H
 refine a_reg _ rfl (s := ?zs4) ?_ ?_
 rotate_left
 ·try simp only [EVT, stepR, evOp, St.ev, St.app, St.put, wrs, evFieldAddr, evLoad, cut, frz, evBuiltin, evAppend, elems, Option.elim, TIS, CS, reduceAdd, reduceMul, reduceEqDiff, ↓reduceIte, reduceCtorEq, reduceLT, reduceLeDiff, reduceSub, Nat.reduceBEq]
  repeat' with_reducible apply And.intro
  all_goals try ((with_reducible show CallR _ _ _ _ _ _ _); refine cR_p zk3 (.cons (.str' rfl) .nil) ?_; simp only [EVT, stepR, evOp, St.ev, St.app, St.put, wrs, evFieldAddr, evLoad, cut, frz, evBuiltin, evAppend, elems, Option.elim, TIS, CS, reduceAdd, reduceMul, reduceEqDiff, ↓reduceIte, reduceCtorEq, reduceLT, reduceLeDiff, reduceSub, Nat.reduceBEq])
  all_goals ((repeat' apply And.intro) <;> first|rfl|assumption|omega|(simp;done)|(simp;omega)|(simp_all;done))
 refine sA_n ?_
 refine a_seq ?_
 obtain ⟨r4, zh6, H⟩ := bind_some H
 have zk4 := pack_numbers_rc zh6
 obtain ⟨zh7, H⟩ := chk_some H
 refine a_reg _ rfl (s := ?zs5) ?_ ?_
 rotate_left
 ·try simp only [EVT, stepR, evOp, St.ev, St.app, St.put, wrs, evFieldAddr, evLoad, cut, allOne, frz, evBuiltin, evAppend, elems, Option.elim, TIS, CS, reduceAdd, reduceMul, reduceEqDiff, ↓reduceIte, reduceCtorEq, reduceLT, reduceLeDiff, reduceSub, Nat.reduceBEq]
  repeat' with_reducible apply And.intro
  all_goals try ((with_reducible show CallR _ _ _ _ _ _ _); refine callR_rcw (r' := .ref 176 0 r4.length 1) [(175, some ⟨3, 1, true, [o1.n, o1.m, o1.handle].map (ci .i64)⟩), (176, some ⟨5, 1, false, r4.map (ci .u8)⟩)] [] [175] [(176, 0, ⟨5, 1, false, r4.map (ci .u8)⟩)] rfl zk4 (by simp) (by show ([] : List Nat).Nodup; decide) trivial (.cons (.frz' (by rfl) (by simp) rfl (by first | rfl | omega | (simp; done) | (simp [strBytes_len]; done) | (simp; omega) | (simp_all; done)) (.same _ _ (ci_pu .i64) (by first | rfl | (simp only [MPT, CS,  List.nil_append]; done) | (simp [CS,  ci_eq, cb_eq, cs_eq, cl_eq]; done) | (simp [CS,  ci_eq, cb_eq, cs_eq, cl_eq]; intro hz; rw [List.take_of_length_le (by simp; omega)])))) .nil) (by show ([176] : List Nat).Nodup; decide) (by show ([0] : List Nat).Nodup; decide) ⟨.inr ⟨rfl, by decide⟩, ⟨_, rfl, ⟨rfl, rfl, rfl, rfl⟩, .same _ _ (ci_pu .u8) rfl⟩, trivial⟩ (.refl' rfl rfl) ?_; simp only [EVT, stepR, evOp, St.ev, St.app, St.put, wrs, evFieldAddr, evLoad, cut, allOne, frz, evBuiltin, evAppend, elems, Option.elim, TIS, CS, reduceAdd, reduceMul, reduceEqDiff, ↓reduceIte, reduceCtorEq, reduceLT, reduceLeDiff, reduceSub, Nat.reduceBEq])
  all_goals ((repeat' apply And.intro) <;> first|rfl|assumption|omega|(simp;done)|(simp;omega)|(simp_all;done))
 refine sA_n ?_
 refine a_seq ?_
 obtain ⟨r5, zh8, H⟩ := bind_some H
 have zk5 := pack_Str_pc zh8
 obtain ⟨zh9, H⟩ := chk_some H
 refine a_reg _ rfl (s := ?zs6) ?_ ?_
 rotate_left
 ·try simp only [EVT, stepR, evOp, St.ev, St.app, St.put, wrs, evFieldAddr, evLoad, cut, evToStr, elems, frz, evBuiltin, evAppend, Option.elim, TIS, CS, reduceAdd, reduceMul, reduceEqDiff, ↓reduceIte, reduceCtorEq, reduceLT, reduceLeDiff, reduceSub, Nat.reduceBEq]
  repeat' with_reducible apply And.intro
  all_goals try ((with_reducible show CallR _ _ _ _ _ _ _); refine cR_p zk5 (.cons (.str' rfl) .nil) ?_; simp only [EVT, stepR, evOp, St.ev, St.app, St.put, wrs, evFieldAddr, evLoad, cut, evToStr, elems, frz, evBuiltin, evAppend, Option.elim, TIS, CS, reduceAdd, reduceMul, reduceEqDiff, ↓reduceIte, reduceCtorEq, reduceLT, reduceLeDiff, reduceSub, Nat.reduceBEq])
  all_goals ((repeat' apply And.intro) <;> first|rfl|assumption|omega|(simp;done)|(simp;omega)|(simp_all;done))
 refine sA_n ?_
 refine a_ret ?_
 obtain rfl := Option.some.inj H
 refine eR_r ?_
 refine wk_ln 0 [(some 261, ⟨5, 1, false, ((((r1 ++ r2) ++ r3) ++ r4) ++ r5).map (ci .u8)⟩)] [] [(2, .ref 0 0 ((((r1 ++ r2) ++ r3) ++ r4) ++ r5).length 1)] (fun i h => absurd h (Nat.not_lt_zero i)) (by show ([2] : List Nat).Nodup; decide) (by show ([261] : List Nat).Nodup; decide) ?_ ?_ (fun t0 => ⟨by first | rfl | (simp only [EVT, resR, single, evLoad, cut, TIS, CS, reduceAdd, reduceEqDiff, ↓reduceIte, reduceCtorEq, reduceLT, reduceLeDiff, reduceSub, Nat.reduceBEq]; (repeat' apply And.intro) <;> first | rfl | (simp; done)), fun j B h => by rcases j with _ | _ <;> first | exact h | (exact absurd h (by simp [hh]))⟩)
 ·exact (allB_some (by rfl) rfl (.same _ _ (ci_pu .u8) (by first | rfl | (simp only [MPT, CS,  List.nil_append]; done) | (simp [CS,  ci_eq, cb_eq, cs_eq, cl_eq]; done) | (simp [CS,  ci_eq, cb_eq, cs_eq, cl_eq]; intro hz; rw [List.take_of_length_le (by simp; omega)]))) trivial)
 ·(simp only [AllT, tl_cons, tl_nil, upd_apply, List.getD_cons_zero, List.getD_cons_succ, reduceEqDiff, ↓reduceIte, and_true]); exact (.refl' (by first | rfl | omega | (simp; done) | (simp [strBytes_len]; done) | (simp; omega) | (simp_all; done)) rfl)
theorem pack_Op_pc {o1 : Op} {r : (List Int)} (H : pack_Op_f o1 = some r) : PC Try.prog 13 [.agg (Op.c o1)] (.list 1 (r.map (ci .u8))) := rc_pc (pack_Op_rc H) (.ownL rfl (fun e => by cases e) rfl (List.length_map _).symm (.same _ _ (ci_pu .u8) rfl))
def ref01_Op_f (o1 : Op) : Option (List Int) :=
 (ref01_Int_f o1.kind).bind fun r1 => (ref01_Int_f o1.client).bind fun r2 => (ref01_Str_f o1.path).bind fun r3 => (ref01_Str_f o1.to_).bind fun r4 => (ref01_Int_f o1.n).bind fun r5 => (ref01_Int_f o1.m).bind fun r6 => (ref01_Int_f o1.handle).bind fun r7 => (ref01_Str_f (strOfNums o1.data)).bind fun r8 => (ref01_all_f [r1, r2, r3, r4, r5, r6, r7, r8]).bind fun r9 => some (r9)
set_option maxHeartbeats 4000000 in
set_option maxRecDepth 20000 in
theorem ref01_Op_rc {o1 : Op} {r : (List Int)} (H : ref01_Op_f o1 = some r) : RC Try.prog 24 [.agg (Op.c o1)] [] 0 (.list 1 (r.map (ci .u8))) [] := by
 refine rcA_of Try.func24 (by rfl) (by decide) 30 (by rfl) [.tmp 2] (by rfl) ?_
 unfold ref01_Op_f at H
 simp only [hent, List.length_cons, List.length_nil, reduceAdd]
 refine a_seq ?_
 refine a_reg _ rfl (s := ?zs1) ?_ ?_
 rotate_left
 ·simp only [EVT, stepR, evOp, St.ev, St.app, St.put, wrs, allOne, datOf, datOf1, TIS, CS, reduceAdd, reduceMul, reduceEqDiff, ↓reduceIte, reduceCtorEq, reduceLT, reduceLeDiff]
  (repeat' apply And.intro) <;> first|rfl|assumption|omega|(simp;done)|(simp;omega)|(simp_all;done)
 refine sA_n ?_
 refine a_seq ?_
 obtain ⟨r1, zh1, H⟩ := bind_some H
 have zk1 := ref01_Int_pc zh1
 obtain ⟨r2, zh2, H⟩ := bind_some H
 have zk2 := ref01_Int_pc zh2
 obtain ⟨r3, zh3, H⟩ := bind_some H
 have zk3 := ref01_Str_pc zh3
 obtain ⟨r4, zh4, H⟩ := bind_some H
 have zk4 := ref01_Str_pc zh4
 obtain ⟨r5, zh5, H⟩ := bind_some H
 have zk5 := ref01_Int_pc zh5
 obtain ⟨r6, zh6, H⟩ := bind_some H
 have zk6 := ref01_Int_pc zh6
 obtain ⟨r7, zh7, H⟩ := bind_some H
 have zk7 := ref01_Int_pc zh7
 obtain ⟨r8, zh8, H⟩ := bind_some H
 have zk8 := ref01_Str_pc zh8
 obtain ⟨r9, zh9, H⟩ := bind_some H
 have zk9 := ref01_all_pc zh9
 refine a_drW (by kernel_rfl) _ rfl (s := ?zs2) (by kernel_rfl) (by kernel_rfl) ?zs2f ?_ ?_ ?_
 rotate_left 2
 ·try simp only [EVT, stepW, evOp, St.ev, St.app, St.put, wrs, evFieldAddr, evLoad, cut, frz, evToStr, elems, allOne, TIS, CS, reduceAdd, reduceMul, reduceEqDiff, ↓reduceIte, reduceCtorEq, reduceLT, reduceLeDiff, reduceSub, Nat.reduceBEq]
  repeat' with_reducible apply And.intro
  all_goals try ((with_reducible show CallW _ _ _ _ _ _ _); refine cW_p [] zk1 (fun h2 e => (.cons (.int' rfl) .nil)) ?_; simp only [EVT, stepW, evOp, St.ev, St.app, St.put, wrs, evFieldAddr, evLoad, cut, frz, evToStr, elems, allOne, TIS, CS, reduceAdd, reduceMul, reduceEqDiff, ↓reduceIte, reduceCtorEq, reduceLT, reduceLeDiff, reduceSub, Nat.reduceBEq])
  repeat' with_reducible apply And.intro
  all_goals try ((with_reducible show CallW _ _ _ _ _ _ _); refine cW_p [] zk2 (fun h2 e => (.cons (.int' rfl) .nil)) ?_; simp only [EVT, stepW, evOp, St.ev, St.app, St.put, wrs, evFieldAddr, evLoad, cut, frz, evToStr, elems, allOne, TIS, CS, reduceAdd, reduceMul, reduceEqDiff, ↓reduceIte, reduceCtorEq, reduceLT, reduceLeDiff, reduceSub, Nat.reduceBEq])
  repeat' with_reducible apply And.intro
  all_goals try ((with_reducible show CallW _ _ _ _ _ _ _); refine cW_p [] zk3 (fun h2 e => (.cons (.str' rfl) .nil)) ?_; simp only [EVT, stepW, evOp, St.ev, St.app, St.put, wrs, evFieldAddr, evLoad, cut, frz, evToStr, elems, allOne, TIS, CS, reduceAdd, reduceMul, reduceEqDiff, ↓reduceIte, reduceCtorEq, reduceLT, reduceLeDiff, reduceSub, Nat.reduceBEq])
  repeat' with_reducible apply And.intro
  all_goals try ((with_reducible show CallW _ _ _ _ _ _ _); refine cW_p [] zk4 (fun h2 e => (.cons (.str' rfl) .nil)) ?_; simp only [EVT, stepW, evOp, St.ev, St.app, St.put, wrs, evFieldAddr, evLoad, cut, frz, evToStr, elems, allOne, TIS, CS, reduceAdd, reduceMul, reduceEqDiff, ↓reduceIte, reduceCtorEq, reduceLT, reduceLeDiff, reduceSub, Nat.reduceBEq])
  repeat' with_reducible apply And.intro
  all_goals try ((with_reducible show CallW _ _ _ _ _ _ _); refine cW_p [] zk5 (fun h2 e => (.cons (.int' rfl) .nil)) ?_; simp only [EVT, stepW, evOp, St.ev, St.app, St.put, wrs, evFieldAddr, evLoad, cut, frz, evToStr, elems, allOne, TIS, CS, reduceAdd, reduceMul, reduceEqDiff, ↓reduceIte, reduceCtorEq, reduceLT, reduceLeDiff, reduceSub, Nat.reduceBEq])
  repeat' with_reducible apply And.intro
  all_goals try ((with_reducible show CallW _ _ _ _ _ _ _); refine cW_p [] zk6 (fun h2 e => (.cons (.int' rfl) .nil)) ?_; simp only [EVT, stepW, evOp, St.ev, St.app, St.put, wrs, evFieldAddr, evLoad, cut, frz, evToStr, elems, allOne, TIS, CS, reduceAdd, reduceMul, reduceEqDiff, ↓reduceIte, reduceCtorEq, reduceLT, reduceLeDiff, reduceSub, Nat.reduceBEq])
  repeat' with_reducible apply And.intro
  all_goals try ((with_reducible show CallW _ _ _ _ _ _ _); refine cW_p [] zk7 (fun h2 e => (.cons (.int' rfl) .nil)) ?_; simp only [EVT, stepW, evOp, St.ev, St.app, St.put, wrs, evFieldAddr, evLoad, cut, frz, evToStr, elems, allOne, TIS, CS, reduceAdd, reduceMul, reduceEqDiff, ↓reduceIte, reduceCtorEq, reduceLT, reduceLeDiff, reduceSub, Nat.reduceBEq])
  repeat' with_reducible apply And.intro
  all_goals try ((with_reducible show CallW _ _ _ _ _ _ _); refine cW_p [] zk8 (fun h2 e => (.cons (.str' rfl) .nil)) ?_; simp only [EVT, stepW, evOp, St.ev, St.app, St.put, wrs, evFieldAddr, evLoad, cut, frz, evToStr, elems, allOne, TIS, CS, reduceAdd, reduceMul, reduceEqDiff, ↓reduceIte, reduceCtorEq, reduceLT, reduceLeDiff, reduceSub, Nat.reduceBEq])
  repeat' with_reducible apply And.intro
  all_goals try ((with_reducible show CallW _ _ _ _ _ _ _); refine cW_f [41] [41] (by decide) zk9 (fun h2 e => (.cons (.ownL ((wrs_frz h2 _ h2 41).trans (by rw [e 41 (by simp)]; rfl)) (fun _ => rfl) rfl (by first | rfl | omega | (simp; done) | (simp [strBytes_len]; done) | (simp; omega) | (simp_all; done)) (.same _ _ (cl_pu (ci_pu .u8)) (by first | rfl | (simp only [MPT, CS,  List.nil_append]; done) | (simp [CS,  ci_eq, cb_eq, cs_eq, cl_eq]; done) | (simp [CS,  ci_eq, cb_eq, cs_eq, cl_eq]; intro hz; rw [List.take_of_length_le (by simp; omega)])))) .nil)) ?_; simp only [EVT, stepW, evOp, St.ev, St.app, St.put, wrs, evFieldAddr, evLoad, cut, frz, evToStr, elems, allOne, TIS, CS, reduceAdd, reduceMul, reduceEqDiff, ↓reduceIte, reduceCtorEq, reduceLT, reduceLeDiff, reduceSub, Nat.reduceBEq])
  all_goals ((repeat' apply And.intro) <;> first|rfl|assumption|omega|(simp;done)|(simp;omega)|(simp_all;done))
 ·kernel_rfl
 refine sA_n ?_
 refine a_ret ?_
 obtain rfl := Option.some.inj H
 refine eR_r ?_
 refine wk_ln 0 [] [] [(2, .list 1 (r9.map (ci .u8)))] (fun i h => absurd h (Nat.not_lt_zero i)) (by show ([2] : List Nat).Nodup; decide) (by show ([] : List Nat).Nodup; decide) ?_ ?_ (fun t0 => ⟨by first | rfl | (simp only [EVT, resR, single, evLoad, cut, TIS, CS, reduceAdd, reduceEqDiff, ↓reduceIte, reduceCtorEq, reduceLT, reduceLeDiff, reduceSub, Nat.reduceBEq]; (repeat' apply And.intro) <;> first | rfl | (simp; done)), fun j B h => by rcases j with _ <;> first | exact h | (exact absurd h (by simp [hh]))⟩)
 ·exact trivial
 ·(simp only [AllT, tl_cons, tl_nil, upd_apply, List.getD_cons_zero, List.getD_cons_succ, reduceEqDiff, ↓reduceIte, and_true]); exact (.lst _ _ _ (ci_pu .u8) rfl)
theorem ref01_Op_pc {o1 : Op} {r : (List Int)} (H : ref01_Op_f o1 = some r) : PC Try.prog 24 [.agg (Op.c o1)] (.list 1 (r.map (ci .u8))) := rc_pc (ref01_Op_rc H) (.lst _ _ _ (ci_pu .u8) rfl)
def pack_Ans_J1 (a1 : Ans) (b1 : List Int) : Option (List Int) :=
 (pack_Str_f (strOfNums a1.data)).bind fun r2 => chk ((b1.length + r2.length) * 1 ≤ 140737488355328) (some ((b1 ++ r2)))
def pack_Ans_L1 (a1 : Ans) : Nat → (List Int) → Int → Option (List Int)
 | 0, _, _ => none
 | m_ + 1, b2, v1 => cond (decide (v1 < (a1.names.length : Int))) ((idx a1.names v1).bind fun x1 => (pack_Str_f x1).bind fun r3 => chk ((b2.length + r3.length) * 1 ≤ 140737488355328) (pack_Ans_L1 a1 m_ (b2 ++ r3) (IntKind.wrap .i64 (v1 + 1)))) (pack_Ans_J1 a1 b2)
def pack_Ans_f (a1 : Ans) : Option (List Int) :=
 (pack_numbers_f [a1.err, a1.ino, a1.kind, a1.n, a1.m, (a1.names.length : Int)]).bind fun r1 => pack_Ans_L1 a1 BIG r1 0
set_option maxHeartbeats 4000000 in
set_option maxRecDepth 20000 in
theorem pack_Ans_rc {a1 : Ans} {r : (List Int)} (H : pack_Ans_f a1 = some r) : RC Try.prog 15 [.agg (Ans.c a1)] [] 0 (.ref 0 0 r.length 1) [some ⟨5, 1, false, r.map (ci .u8)⟩] := by
 refine rcA_of Try.func15 (by rfl) (by decide) 39 (by rfl) [.tmp 2] (by rfl) ?_
 unfold pack_Ans_f at H
 simp only [hent, List.length_cons, List.length_nil, reduceAdd]
 refine a_seq ?_
 refine a_reg _ rfl (s := ?zs1) ?_ ?_
 rotate_left
 ·simp only [EVT, stepR, evOp, St.ev, St.app, St.put, wrs, allOne, datOf, datOf1, TIS, CS, reduceAdd, reduceMul, reduceEqDiff, ↓reduceIte, reduceCtorEq, reduceLT, reduceLeDiff]
  (repeat' apply And.intro) <;> first|rfl|assumption|omega|(simp;done)|(simp;omega)|(simp_all;done)
 refine sA_n ?_
 refine a_seq ?_
 obtain ⟨r1, zh1, H⟩ := bind_some H
 have zk1 := pack_numbers_rc zh1
 refine a_reg _ rfl (s := ?zs2) ?_ ?_
 rotate_left
 ·try simp only [EVT, stepR, evOp, St.ev, St.app, St.put, wrs, evFieldAddr, evLoad, cut, evBuiltin, allOne, frz, TIS, CS, reduceAdd, reduceMul, reduceEqDiff, ↓reduceIte, reduceCtorEq, reduceLT, reduceLeDiff, reduceSub, Nat.reduceBEq]
  repeat' with_reducible apply And.intro
  all_goals try ((with_reducible show CallR _ _ _ _ _ _ _); refine callR_rcw (r' := .ref 30 0 r1.length 1) [(29, some ⟨3, 1, true, [a1.err, a1.ino, a1.kind, a1.n, a1.m, (a1.names.length : Int)].map (ci .i64)⟩), (30, some ⟨5, 1, false, r1.map (ci .u8)⟩)] [] [29] [(30, 0, ⟨5, 1, false, r1.map (ci .u8)⟩)] rfl zk1 (by simp) (by show ([] : List Nat).Nodup; decide) trivial (.cons (.frz' (by rfl) (by simp) rfl (by first | rfl | omega | (simp; done) | (simp [strBytes_len]; done) | (simp; omega) | (simp_all; done)) (.same _ _ (ci_pu .i64) (by first | rfl | (simp only [MPT, CS,  List.nil_append]; done) | (simp [CS,  ci_eq, cb_eq, cs_eq, cl_eq]; done) | (simp [CS,  ci_eq, cb_eq, cs_eq, cl_eq]; intro hz; rw [List.take_of_length_le (by simp; omega)])))) .nil) (by show ([30] : List Nat).Nodup; decide) (by show ([0] : List Nat).Nodup; decide) ⟨.inr ⟨rfl, by decide⟩, ⟨_, rfl, ⟨rfl, rfl, rfl, rfl⟩, .same _ _ (ci_pu .u8) rfl⟩, trivial⟩ (.refl' rfl rfl) ?_; simp only [EVT, stepR, evOp, St.ev, St.app, St.put, wrs, evFieldAddr, evLoad, cut, evBuiltin, allOne, frz, TIS, CS, reduceAdd, reduceMul, reduceEqDiff, ↓reduceIte, reduceCtorEq, reduceLT, reduceLeDiff, reduceSub, Nat.reduceBEq])
  all_goals ((repeat' apply And.intro) <;> first|rfl|assumption|omega|(simp;done)|(simp;omega)|(simp_all;done))
 refine sA_n ?_
 refine a_cut (fun s => ∃ (b1 : List Int) (t0 : Nat → Dat), pack_Ans_J1 a1 b1 = some r ∧ s = ⟨tl t0 [(1, .ptr 0 0 0 7), (3, .ref 1 0 b1.length 1)], hl [⟨30, 7, false, [[.int .i64 a1.err, .int .i64 a1.ino, .int .i64 a1.kind, .int .i64 a1.n, .int .i64 a1.m, .list 1 (a1.names.map cs), .list 1 (a1.data.map (ci .u8))]]⟩, ⟨5, 1, false, b1.map (ci .u8)⟩], 2, 39⟩) ?_ ?_
 ·refine a_seq ?_
  refine a_reg _ rfl (s := ?zs4) ?_ ?_
  rotate_left
  ·simp only [EVT, stepR, evOp, St.ev, St.app, St.put, wrs, evFieldAddr, evLoad, cut, evBuiltin, datOf, datOf1, TIS, CS, reduceAdd, reduceMul, reduceEqDiff, ↓reduceIte, reduceCtorEq, reduceLT, reduceLeDiff, reduceSub, Nat.reduceBEq]
   (repeat' apply And.intro) <;> first|rfl|assumption|omega|(simp;done)|(simp;omega)|(simp_all;done)
  refine sA_n ?_
  refine a_blk ?_
  refine a_loop (fun m s => ∃ (b2 : List Int) (v1 : Int) (t0 : Nat → Dat), pack_Ans_L1 a1 m b2 v1 = some r ∧ s = ⟨tl t0 [(1, .ptr 0 0 0 7), (3, .ref 1 0 b2.length 1), (22, .list 1 (a1.names.map cs)), (23, .int .i64 (a1.names.length : Int)), (24, .int .i64 v1)], hl [⟨30, 7, false, [[.int .i64 a1.err, .int .i64 a1.ino, .int .i64 a1.kind, .int .i64 a1.n, .int .i64 a1.m, .list 1 (a1.names.map cs), .list 1 (a1.data.map (ci .u8))]]⟩, ⟨5, 1, false, b2.map (ci .u8)⟩], 2, 39⟩) BIG ?_ ?_
  ·refine wk_l [(some 0, ⟨30, 7, false, [[.int .i64 a1.err, .int .i64 a1.ino, .int .i64 a1.kind, .int .i64 a1.n, .int .i64 a1.m, .list 1 (a1.names.map cs), .list 1 (a1.data.map (ci .u8))]]⟩), (some 30, ⟨5, 1, false, r1.map (ci .u8)⟩)] [] [(1, .ptr 0 0 0 7), (3, .ref 1 0 r1.length 1), (22, .list 1 (a1.names.map cs)), (23, .int .i64 (a1.names.length : Int)), (24, .int .i64 0)] (by show ([1, 3, 22, 23, 24] : List Nat).Nodup; decide) (by show ([0, 30] : List Nat).Nodup; decide) ?_ ?_ (fun t0 => ⟨r1, 0, t0, H, rfl⟩)
   ·exact (allB_some (by rfl) rfl (.cons (.cons (.int' rfl) (.cons (.int' rfl) (.cons (.int' rfl) (.cons (.int' rfl) (.cons (.int' rfl) (.cons (.lst _ _ _ cs_pu rfl) (.cons (.lst _ _ _ (ci_pu .u8) rfl) .nil))))))) .nil) (allB_some (by rfl) rfl (.same _ _ (ci_pu .u8) (by first | rfl | (simp only [MPT, CS,  List.nil_append]; done) | (simp [CS,  ci_eq, cb_eq, cs_eq, cl_eq]; done) | (simp [CS,  ci_eq, cb_eq, cs_eq, cl_eq]; intro hz; rw [List.take_of_length_le (by simp; omega)]))) trivial))
   ·(simp only [AllT, tl_cons, tl_nil, upd_apply, List.getD_cons_zero, List.getD_cons_succ, reduceEqDiff, ↓reduceIte, and_true]); exact ⟨(.ptr _ _ _ _ _ rfl), (.refl' (by first | rfl | omega | (simp; done) | (simp [strBytes_len]; done) | (simp; omega) | (simp_all; done)) rfl), (.lst _ _ _ cs_pu rfl), (.int' rfl), (.int' rfl)⟩
  ·rintro m_pack_Ans_L1 s ⟨b2, v1, t0, H, rfl⟩
   obtain _ | m_pack_Ans_L1 := m_pack_Ans_L1
   ·cases (show (none : Option _) = some _ from H)
   ·rw [pack_Ans_L1] at H
    refine a_seq ?_
    refine a_reg _ rfl (s := ?zs5) ?_ ?_
    rotate_left
    ·simp only [EVT, stepR, evOp, St.ev, St.app, St.put, wrs, evBin, binInt, TIS, CS, reduceAdd, reduceMul, reduceEqDiff, ↓reduceIte, reduceCtorEq, reduceLT, reduceLeDiff]
     (repeat' apply And.intro) <;> first|rfl|assumption|omega|(simp;done)|(simp;omega)|(simp_all;done)
    refine sA_n ?_
    refine a_seq ?_
    refine a_condb ((decide (v1 < (a1.names.length : Int)))) (by rfl) (fun zc1 => ?_) (fun zc1 => ?_)
    ·have H := cond_t zc1 H
     refine a_skip ?_
     refine sA_n ?_
     refine a_seq ?_
     refine a_blk ?_
     refine a_seq ?_
     obtain ⟨x1, zh4, H⟩ := bind_some H
     have zg1 := idx_map zh4 cs
     try simp only [Int.reduceToNat] at zg1
     obtain ⟨zh4a, zh4b, _⟩ := idx_some zh4
     refine a_reg _ rfl (s := ?zs6) ?_ ?_
     rotate_left
     ·simp only [EVT, stepR, evOp, St.ev, St.app, St.put, wrs, evIndexAddr, evLoad, cut, TIS, CS, reduceAdd, reduceMul, reduceEqDiff, ↓reduceIte, reduceCtorEq, reduceLT, reduceLeDiff, Int.reduceToNat, reduceSub, Nat.reduceBEq, ↓zc1, zg1]
      (repeat' apply And.intro) <;> first|rfl|assumption|omega|(simp;done)|(simp;omega)|(simp_all;done)
     refine sA_n ?_
     obtain ⟨r3, zh5, H⟩ := bind_some H
     have zk3 := pack_Str_pc zh5
     obtain ⟨zh6, H⟩ := chk_some H
     refine a_reg _ rfl (s := ?zs7) ?_ ?_
     rotate_left
     ·try simp only [EVT, stepR, evOp, St.ev, St.app, St.put, wrs, frz, evBuiltin, evAppend, elems, Option.elim, TIS, CS, reduceAdd, reduceMul, reduceEqDiff, ↓reduceIte, reduceCtorEq, reduceLT, reduceLeDiff, reduceSub, Nat.reduceBEq, ↓zc1, zg1]
      repeat' with_reducible apply And.intro
      all_goals try ((with_reducible show CallR _ _ _ _ _ _ _); refine cR_p zk3 (.cons (.str' rfl) .nil) ?_; simp only [EVT, stepR, evOp, St.ev, St.app, St.put, wrs, frz, evBuiltin, evAppend, elems, Option.elim, TIS, CS, reduceAdd, reduceMul, reduceEqDiff, ↓reduceIte, reduceCtorEq, reduceLT, reduceLeDiff, reduceSub, Nat.reduceBEq, ↓zc1, zg1])
      all_goals ((repeat' apply And.intro) <;> first|rfl|assumption|omega|(simp;done)|(simp;omega)|(simp_all;done))
     refine bA_n ?_
     refine sA_n ?_
     refine a_reg _ rfl (s := ?zs8) ?_ ?_
     rotate_left
     ·simp only [EVT, stepR, evOp, St.ev, St.app, St.put, wrs, datOf, datOf1, evBin, binInt, TIS, CS, reduceAdd, reduceMul, reduceEqDiff, ↓reduceIte, reduceCtorEq, reduceLT, reduceLeDiff, ↓zc1, zg1]
      (repeat' apply And.intro) <;> first|rfl|assumption|omega|(simp;done)|(simp;omega)|(simp_all;done)
     refine lA_n ?_
     refine wk_l [(some 0, ⟨30, 7, false, [[.int .i64 a1.err, .int .i64 a1.ino, .int .i64 a1.kind, .int .i64 a1.n, .int .i64 a1.m, .list 1 (a1.names.map cs), .list 1 (a1.data.map (ci .u8))]]⟩), (some 37, ⟨5, 1, false, (b2 ++ r3).map (ci .u8)⟩)] [] [(1, .ptr 0 0 0 7), (3, .ref 1 0 (b2 ++ r3).length 1), (22, .list 1 (a1.names.map cs)), (23, .int .i64 (a1.names.length : Int)), (24, .int .i64 (IntKind.wrap .i64 (v1 + 1)))] (by show ([1, 3, 22, 23, 24] : List Nat).Nodup; decide) (by show ([0, 37] : List Nat).Nodup; decide) ?_ ?_ (fun t0 => ⟨_, Nat.lt_succ_self _, (b2 ++ r3), (IntKind.wrap .i64 (v1 + 1)), t0, H, rfl⟩)
     ·exact (allB_some (by rfl) rfl (.cons (.cons (.int' rfl) (.cons (.int' rfl) (.cons (.int' rfl) (.cons (.int' rfl) (.cons (.int' rfl) (.cons (.lst _ _ _ cs_pu rfl) (.cons (.lst _ _ _ (ci_pu .u8) rfl) .nil))))))) .nil) (allB_some (by rfl) rfl (.same _ _ (ci_pu .u8) (by first | rfl | (simp only [MPT, CS,  List.nil_append]; done) | (simp [CS,  ci_eq, cb_eq, cs_eq, cl_eq]; done) | (simp [CS,  ci_eq, cb_eq, cs_eq, cl_eq]; intro hz; rw [List.take_of_length_le (by simp; omega)]))) trivial))
     ·(simp only [AllT, tl_cons, tl_nil, upd_apply, List.getD_cons_zero, List.getD_cons_succ, reduceEqDiff, ↓reduceIte, and_true]); exact ⟨(.ptr _ _ _ _ _ rfl), (.refl' (by first | rfl | omega | (simp; done) | (simp [strBytes_len]; done) | (simp; omega) | (simp_all; done)) rfl), (.lst _ _ _ cs_pu rfl), (.int' rfl), (.int' rfl)⟩
    ·have H := cond_f zc1 H
     refine a_exit ?_
     refine sA_e ?_
     refine lA_e ?_
     refine bA_hit ?_
     refine cA_n ?_
     refine wk_l [(some 0, ⟨30, 7, false, [[.int .i64 a1.err, .int .i64 a1.ino, .int .i64 a1.kind, .int .i64 a1.n, .int .i64 a1.m, .list 1 (a1.names.map cs), .list 1 (a1.data.map (ci .u8))]]⟩), (some 1, ⟨5, 1, false, b2.map (ci .u8)⟩)] [] [(1, .ptr 0 0 0 7), (3, .ref 1 0 b2.length 1)] (by show ([1, 3] : List Nat).Nodup; decide) (by show ([0, 1] : List Nat).Nodup; decide) ?_ ?_ (fun t0 => ⟨b2, t0, H, rfl⟩)
     ·exact (allB_some (by rfl) rfl (.cons (.cons (.int' rfl) (.cons (.int' rfl) (.cons (.int' rfl) (.cons (.int' rfl) (.cons (.int' rfl) (.cons (.lst _ _ _ cs_pu rfl) (.cons (.lst _ _ _ (ci_pu .u8) rfl) .nil))))))) .nil) (allB_some (by rfl) rfl (.same _ _ (ci_pu .u8) (by first | rfl | (simp only [MPT, CS,  List.nil_append]; done) | (simp [CS,  ci_eq, cb_eq, cs_eq, cl_eq]; done) | (simp [CS,  ci_eq, cb_eq, cs_eq, cl_eq]; intro hz; rw [List.take_of_length_le (by simp; omega)]))) trivial))
     ·(simp only [AllT, tl_cons, tl_nil, upd_apply, List.getD_cons_zero, List.getD_cons_succ, reduceEqDiff, ↓reduceIte, and_true]); exact ⟨(.ptr _ _ _ _ _ rfl), (.refl' (by first | rfl | omega | (simp; done) | (simp [strBytes_len]; done) | (simp; omega) | (simp_all; done)) rfl)⟩
 ·rintro s ⟨b1, t0, H, rfl⟩
  unfold pack_Ans_J1 at H
  refine a_seq ?_
  obtain ⟨r2, zh2, H⟩ := bind_some H
  have zk2 := pack_Str_pc zh2
  obtain ⟨zh3, H⟩ := chk_some H
  refine a_reg _ rfl (s := ?zs3) ?_ ?_
  rotate_left
  ·try simp only [EVT, stepR, evOp, St.ev, St.app, St.put, wrs, evFieldAddr, evLoad, cut, evToStr, elems, frz, evBuiltin, evAppend, Option.elim, TIS, CS, reduceAdd, reduceMul, reduceEqDiff, ↓reduceIte, reduceCtorEq, reduceLT, reduceLeDiff, reduceSub, Nat.reduceBEq]
   repeat' with_reducible apply And.intro
   all_goals try ((with_reducible show CallR _ _ _ _ _ _ _); refine cR_p zk2 (.cons (.str' rfl) .nil) ?_; simp only [EVT, stepR, evOp, St.ev, St.app, St.put, wrs, evFieldAddr, evLoad, cut, evToStr, elems, frz, evBuiltin, evAppend, Option.elim, TIS, CS, reduceAdd, reduceMul, reduceEqDiff, ↓reduceIte, reduceCtorEq, reduceLT, reduceLeDiff, reduceSub, Nat.reduceBEq])
   all_goals ((repeat' apply And.intro) <;> first|rfl|assumption|omega|(simp;done)|(simp;omega)|(simp_all;done))
  refine sA_n ?_
  refine a_ret ?_
  obtain rfl := Option.some.inj H
  refine eR_r ?_
  refine wk_ln 0 [(some 7, ⟨5, 1, false, (b1 ++ r2).map (ci .u8)⟩)] [] [(2, .ref 0 0 (b1 ++ r2).length 1)] (fun i h => absurd h (Nat.not_lt_zero i)) (by show ([2] : List Nat).Nodup; decide) (by show ([7] : List Nat).Nodup; decide) ?_ ?_ (fun t0 => ⟨by first | rfl | (simp only [EVT, resR, single, evLoad, cut, TIS, CS, reduceAdd, reduceEqDiff, ↓reduceIte, reduceCtorEq, reduceLT, reduceLeDiff, reduceSub, Nat.reduceBEq]; (repeat' apply And.intro) <;> first | rfl | (simp; done)), fun j B h => by rcases j with _ | _ <;> first | exact h | (exact absurd h (by simp [hh]))⟩)
  ·exact (allB_some (by rfl) rfl (.same _ _ (ci_pu .u8) (by first | rfl | (simp only [MPT, CS,  List.nil_append]; done) | (simp [CS,  ci_eq, cb_eq, cs_eq, cl_eq]; done) | (simp [CS,  ci_eq, cb_eq, cs_eq, cl_eq]; intro hz; rw [List.take_of_length_le (by simp; omega)]))) trivial)
  ·(simp only [AllT, tl_cons, tl_nil, upd_apply, List.getD_cons_zero, List.getD_cons_succ, reduceEqDiff, ↓reduceIte, and_true]); exact (.refl' (by first | rfl | omega | (simp; done) | (simp [strBytes_len]; done) | (simp; omega) | (simp_all; done)) rfl)
theorem pack_Ans_pc {a1 : Ans} {r : (List Int)} (H : pack_Ans_f a1 = some r) : PC Try.prog 15 [.agg (Ans.c a1)] (.list 1 (r.map (ci .u8))) := rc_pc (pack_Ans_rc H) (.ownL rfl (fun e => by cases e) rfl (List.length_map _).symm (.same _ _ (ci_pu .u8) rfl))
def ref01_Ans_J1 (a1 : Ans) (out1 : List Int) : Option (List Int) :=
 (ref01_Str_f (strOfNums a1.data)).bind fun r8 => (ref01_all_f [out1, r8]).bind fun r9 => some (r9)
def ref01_Ans_L1 (a1 : Ans) : Nat → (List Int) → Int → Option (List Int)
 | 0, _, _ => none
 | m_ + 1, out2, i1 => cond (decide (i1 < (a1.names.length : Int))) ((idx a1.names i1).bind fun x1 => (ref01_Str_f x1).bind fun r10 => chk ((out2.length + r10.length) * 1 ≤ 140737488355328) (ref01_Ans_L1 a1 m_ (out2 ++ r10) (IntKind.wrap .i64 (i1 + 1)))) (ref01_Ans_J1 a1 out2)
def ref01_Ans_f (a1 : Ans) : Option (List Int) :=
 (ref01_Int_f a1.err).bind fun r1 => (ref01_Int_f a1.ino).bind fun r2 => (ref01_Int_f a1.kind).bind fun r3 => (ref01_Int_f a1.n).bind fun r4 => (ref01_Int_f a1.m).bind fun r5 => (ref01_Int_f (a1.names.length : Int)).bind fun r6 => (ref01_all_f [r1, r2, r3, r4, r5, r6]).bind fun r7 => ref01_Ans_L1 a1 BIG r7 0
set_option maxHeartbeats 4000000 in
set_option maxRecDepth 20000 in
theorem ref01_Ans_rc {a1 : Ans} {r : (List Int)} (H : ref01_Ans_f a1 = some r) : RC Try.prog 25 [.agg (Ans.c a1)] [] 0 (.list 1 (r.map (ci .u8))) [] := by
 refine rcA_of Try.func25 (by rfl) (by decide) 48 (by rfl) [.tmp 2] (by rfl) ?_
 unfold ref01_Ans_f at H
 simp only [hent, List.length_cons, List.length_nil, reduceAdd]
 refine a_seq ?_
 refine a_reg _ rfl (s := ?zs1) ?_ ?_
 rotate_left
 ·simp only [EVT, stepR, evOp, St.ev, St.app, St.put, wrs, allOne, datOf, datOf1, TIS, CS, reduceAdd, reduceMul, reduceEqDiff, ↓reduceIte, reduceCtorEq, reduceLT, reduceLeDiff]
  (repeat' apply And.intro) <;> first|rfl|assumption|omega|(simp;done)|(simp;omega)|(simp_all;done)
 refine sA_n ?_
 refine a_seq ?_
 obtain ⟨r1, zh1, H⟩ := bind_some H
 have zk1 := ref01_Int_pc zh1
 obtain ⟨r2, zh2, H⟩ := bind_some H
 have zk2 := ref01_Int_pc zh2
 obtain ⟨r3, zh3, H⟩ := bind_some H
 have zk3 := ref01_Int_pc zh3
 obtain ⟨r4, zh4, H⟩ := bind_some H
 have zk4 := ref01_Int_pc zh4
 obtain ⟨r5, zh5, H⟩ := bind_some H
 have zk5 := ref01_Int_pc zh5
 obtain ⟨r6, zh6, H⟩ := bind_some H
 have zk6 := ref01_Int_pc zh6
 obtain ⟨r7, zh7, H⟩ := bind_some H
 have zk7 := ref01_all_rc zh7
 refine a_drW (by kernel_rfl) _ rfl (s := ?zs2) (by kernel_rfl) (by kernel_rfl) ?zs2f ?_ ?_ ?_
 rotate_left 2
 ·try simp only [EVT, stepW, evOp, St.ev, St.app, St.put, wrs, evFieldAddr, evLoad, cut, frz, evBuiltin, allOne, TIS, CS, reduceAdd, reduceMul, reduceEqDiff, ↓reduceIte, reduceCtorEq, reduceLT, reduceLeDiff, reduceSub, Nat.reduceBEq]
  repeat' with_reducible apply And.intro
  all_goals try ((with_reducible show CallW _ _ _ _ _ _ _); refine cW_p [] zk1 (fun h2 e => (.cons (.int' rfl) .nil)) ?_; simp only [EVT, stepW, evOp, St.ev, St.app, St.put, wrs, evFieldAddr, evLoad, cut, frz, evBuiltin, allOne, TIS, CS, reduceAdd, reduceMul, reduceEqDiff, ↓reduceIte, reduceCtorEq, reduceLT, reduceLeDiff, reduceSub, Nat.reduceBEq])
  repeat' with_reducible apply And.intro
  all_goals try ((with_reducible show CallW _ _ _ _ _ _ _); refine cW_p [] zk2 (fun h2 e => (.cons (.int' rfl) .nil)) ?_; simp only [EVT, stepW, evOp, St.ev, St.app, St.put, wrs, evFieldAddr, evLoad, cut, frz, evBuiltin, allOne, TIS, CS, reduceAdd, reduceMul, reduceEqDiff, ↓reduceIte, reduceCtorEq, reduceLT, reduceLeDiff, reduceSub, Nat.reduceBEq])
  repeat' with_reducible apply And.intro
  all_goals try ((with_reducible show CallW _ _ _ _ _ _ _); refine cW_p [] zk3 (fun h2 e => (.cons (.int' rfl) .nil)) ?_; simp only [EVT, stepW, evOp, St.ev, St.app, St.put, wrs, evFieldAddr, evLoad, cut, frz, evBuiltin, allOne, TIS, CS, reduceAdd, reduceMul, reduceEqDiff, ↓reduceIte, reduceCtorEq, reduceLT, reduceLeDiff, reduceSub, Nat.reduceBEq])
  repeat' with_reducible apply And.intro
  all_goals try ((with_reducible show CallW _ _ _ _ _ _ _); refine cW_p [] zk4 (fun h2 e => (.cons (.int' rfl) .nil)) ?_; simp only [EVT, stepW, evOp, St.ev, St.app, St.put, wrs, evFieldAddr, evLoad, cut, frz, evBuiltin, allOne, TIS, CS, reduceAdd, reduceMul, reduceEqDiff, ↓reduceIte, reduceCtorEq, reduceLT, reduceLeDiff, reduceSub, Nat.reduceBEq])
  repeat' with_reducible apply And.intro
  all_goals try ((with_reducible show CallW _ _ _ _ _ _ _); refine cW_p [] zk5 (fun h2 e => (.cons (.int' rfl) .nil)) ?_; simp only [EVT, stepW, evOp, St.ev, St.app, St.put, wrs, evFieldAddr, evLoad, cut, frz, evBuiltin, allOne, TIS, CS, reduceAdd, reduceMul, reduceEqDiff, ↓reduceIte, reduceCtorEq, reduceLT, reduceLeDiff, reduceSub, Nat.reduceBEq])
  repeat' with_reducible apply And.intro
  all_goals try ((with_reducible show CallW _ _ _ _ _ _ _); refine cW_p [] zk6 (fun h2 e => (.cons (.int' rfl) .nil)) ?_; simp only [EVT, stepW, evOp, St.ev, St.app, St.put, wrs, evFieldAddr, evLoad, cut, frz, evBuiltin, allOne, TIS, CS, reduceAdd, reduceMul, reduceEqDiff, ↓reduceIte, reduceCtorEq, reduceLT, reduceLeDiff, reduceSub, Nat.reduceBEq])
  repeat' with_reducible apply And.intro
  all_goals try ((with_reducible show CallW _ _ _ _ _ _ _); refine callW_rcw (r' := .ref 36 0 r7.length 1) [35] [(35, some ⟨22, 1, true, [r1, r2, r3, r4, r5, r6].map (cl 1 (ci .u8))⟩), (36, some ⟨5, 1, false, r7.map (ci .u8)⟩)] [] [35] [(36, 0, ⟨5, 1, false, r7.map (ci .u8)⟩)] rfl (by decide) zk7 (by simp) (by show ([] : List Nat).Nodup; decide) (fun h2 e => trivial) (fun h2 e => (.cons (.frz' ((e 35 (by simp)).trans (by rfl)) (by simp) rfl (by first | rfl | omega | (simp; done) | (simp [strBytes_len]; done) | (simp; omega) | (simp_all; done)) (.same _ _ (cl_pu (ci_pu .u8)) (by first | rfl | (simp only [MPT, CS,  List.nil_append]; done) | (simp [CS,  ci_eq, cb_eq, cs_eq, cl_eq]; done) | (simp [CS,  ci_eq, cb_eq, cs_eq, cl_eq]; intro hz; rw [List.take_of_length_le (by simp; omega)])))) .nil)) (by show ([36] : List Nat).Nodup; decide) (by show ([0] : List Nat).Nodup; decide) ⟨.inr ⟨rfl, by decide⟩, ⟨_, rfl, ⟨rfl, rfl, rfl, rfl⟩, .same _ _ (ci_pu .u8) rfl⟩, trivial⟩ (.refl' rfl rfl) ?_; simp only [EVT, stepW, evOp, St.ev, St.app, St.put, wrs, evFieldAddr, evLoad, cut, frz, evBuiltin, allOne, TIS, CS, reduceAdd, reduceMul, reduceEqDiff, ↓reduceIte, reduceCtorEq, reduceLT, reduceLeDiff, reduceSub, Nat.reduceBEq])
  all_goals ((repeat' apply And.intro) <;> first|rfl|assumption|omega|(simp;done)|(simp;omega)|(simp_all;done))
 ·kernel_rfl
 refine sA_n ?_
 refine a_cut (fun s => ∃ (out1 : List Int) (t0 : Nat → Dat), ref01_Ans_J1 a1 out1 = some r ∧ s = ⟨tl t0 [(1, .ptr 0 0 0 7), (3, .list 1 (out1.map (ci .u8)))], hl [⟨30, 7, false, [[.int .i64 a1.err, .int .i64 a1.ino, .int .i64 a1.kind, .int .i64 a1.n, .int .i64 a1.m, .list 1 (a1.names.map cs), .list 1 (a1.data.map (ci .u8))]]⟩], 1, 48⟩) ?_ ?_
 ·refine a_seq ?_
  refine a_reg _ rfl (s := ?zs4) ?_ ?_
  rotate_left
  ·simp only [EVT, stepR, evOp, St.ev, St.app, St.put, wrs, datOf, datOf1, TIS, CS, reduceAdd, reduceMul, reduceEqDiff, ↓reduceIte, reduceCtorEq, reduceLT, reduceLeDiff]
   (repeat' apply And.intro) <;> first|rfl|assumption|omega|(simp;done)|(simp;omega)|(simp_all;done)
  refine sA_n ?_
  refine a_blk ?_
  refine a_loop (fun m s => ∃ (out2 : List Int) (i1 : Int) (t0 : Nat → Dat), ref01_Ans_L1 a1 m out2 i1 = some r ∧ s = ⟨tl t0 [(1, .ptr 0 0 0 7), (3, .ref 1 0 out2.length 1), (4, .int .i64 i1)], hl [⟨30, 7, false, [[.int .i64 a1.err, .int .i64 a1.ino, .int .i64 a1.kind, .int .i64 a1.n, .int .i64 a1.m, .list 1 (a1.names.map cs), .list 1 (a1.data.map (ci .u8))]]⟩, ⟨5, 1, false, out2.map (ci .u8)⟩], 2, 48⟩) BIG ?_ ?_
  ·refine wk_l [(some 0, ⟨30, 7, false, [[.int .i64 a1.err, .int .i64 a1.ino, .int .i64 a1.kind, .int .i64 a1.n, .int .i64 a1.m, .list 1 (a1.names.map cs), .list 1 (a1.data.map (ci .u8))]]⟩), (some 36, ⟨5, 1, false, r7.map (ci .u8)⟩)] [] [(1, .ptr 0 0 0 7), (3, .ref 1 0 r7.length 1), (4, .int .i64 0)] (by show ([1, 3, 4] : List Nat).Nodup; decide) (by show ([0, 36] : List Nat).Nodup; decide) ?_ ?_ (fun t0 => ⟨r7, 0, t0, H, rfl⟩)
   ·exact (allB_some (by rfl) rfl (.cons (.cons (.int' rfl) (.cons (.int' rfl) (.cons (.int' rfl) (.cons (.int' rfl) (.cons (.int' rfl) (.cons (.lst _ _ _ cs_pu rfl) (.cons (.lst _ _ _ (ci_pu .u8) rfl) .nil))))))) .nil) (allB_some (by rfl) rfl (.same _ _ (ci_pu .u8) (by first | rfl | (simp only [MPT, CS,  List.nil_append]; done) | (simp [CS,  ci_eq, cb_eq, cs_eq, cl_eq]; done) | (simp [CS,  ci_eq, cb_eq, cs_eq, cl_eq]; intro hz; rw [List.take_of_length_le (by simp; omega)]))) trivial))
   ·(simp only [AllT, tl_cons, tl_nil, upd_apply, List.getD_cons_zero, List.getD_cons_succ, reduceEqDiff, ↓reduceIte, and_true]); exact ⟨(.ptr _ _ _ _ _ rfl), (.refl' (by first | rfl | omega | (simp; done) | (simp [strBytes_len]; done) | (simp; omega) | (simp_all; done)) rfl), (.int' rfl)⟩
  ·rintro m_ref01_Ans_L1 s ⟨out2, i1, t0, H, rfl⟩
   obtain _ | m_ref01_Ans_L1 := m_ref01_Ans_L1
   ·cases (show (none : Option _) = some _ from H)
   ·rw [ref01_Ans_L1] at H
    refine a_seq ?_
    refine a_seq ?_
    refine a_reg _ rfl (s := ?zs5) ?_ ?_
    rotate_left
    ·simp only [EVT, stepR, evOp, St.ev, St.app, St.put, wrs, evFieldAddr, evLoad, cut, evBuiltin, evBin, binInt, TIS, CS, reduceAdd, reduceMul, reduceEqDiff, ↓reduceIte, reduceCtorEq, reduceLT, reduceLeDiff, reduceSub, Nat.reduceBEq]
     (repeat' apply And.intro) <;> first|rfl|assumption|omega|(simp;done)|(simp;omega)|(simp_all;done)
    refine sA_n ?_
    refine a_condb ((decide (i1 < (a1.names.length : Int)))) (by rfl) (fun zc1 => ?_) (fun zc1 => ?_)
    ·have H := cond_t zc1 H
     refine a_skip ?_
     refine sA_n ?_
     refine a_seq ?_
     refine a_blk ?_
     obtain ⟨x1, zh10, H⟩ := bind_some H
     have zg1 := idx_map zh10 cs
     try simp only [Int.reduceToNat] at zg1
     obtain ⟨zh10a, zh10b, _⟩ := idx_some zh10
     obtain ⟨r10, zh11, H⟩ := bind_some H
     have zk10 := ref01_Str_pc zh11
     obtain ⟨zh12, H⟩ := chk_some H
     refine a_reg _ rfl (s := ?zs6) ?_ ?_
     rotate_left
     ·try simp only [EVT, stepR, evOp, St.ev, St.app, St.put, wrs, evFieldAddr, evLoad, cut, evIndexAddr, frz, evBuiltin, evAppend, elems, Option.elim, TIS, CS, reduceAdd, reduceMul, reduceEqDiff, ↓reduceIte, reduceCtorEq, reduceLT, reduceLeDiff, Int.reduceToNat, reduceSub, Nat.reduceBEq, ↓zc1, zg1]
      repeat' with_reducible apply And.intro
      all_goals try ((with_reducible show CallR _ _ _ _ _ _ _); refine cR_p zk10 (.cons (.str' rfl) .nil) ?_; simp only [EVT, stepR, evOp, St.ev, St.app, St.put, wrs, evFieldAddr, evLoad, cut, evIndexAddr, frz, evBuiltin, evAppend, elems, Option.elim, TIS, CS, reduceAdd, reduceMul, reduceEqDiff, ↓reduceIte, reduceCtorEq, reduceLT, reduceLeDiff, Int.reduceToNat, reduceSub, Nat.reduceBEq, ↓zc1, zg1])
      all_goals ((repeat' apply And.intro) <;> first|rfl|assumption|omega|(simp;done)|(simp;omega)|(simp_all;done))
     refine bA_n ?_
     refine sA_n ?_
     refine a_reg _ rfl (s := ?zs7) ?_ ?_
     rotate_left
     ·simp only [EVT, stepR, evOp, St.ev, St.app, St.put, wrs, datOf, datOf1, evBin, binInt, TIS, CS, reduceAdd, reduceMul, reduceEqDiff, ↓reduceIte, reduceCtorEq, reduceLT, reduceLeDiff, ↓zc1, zg1]
      (repeat' apply And.intro) <;> first|rfl|assumption|omega|(simp;done)|(simp;omega)|(simp_all;done)
     refine lA_n ?_
     refine wk_l [(some 0, ⟨30, 7, false, [[.int .i64 a1.err, .int .i64 a1.ino, .int .i64 a1.kind, .int .i64 a1.n, .int .i64 a1.m, .list 1 (a1.names.map cs), .list 1 (a1.data.map (ci .u8))]]⟩), (some 49, ⟨5, 1, false, (out2 ++ r10).map (ci .u8)⟩)] [] [(1, .ptr 0 0 0 7), (3, .ref 1 0 (out2 ++ r10).length 1), (4, .int .i64 (IntKind.wrap .i64 (i1 + 1)))] (by show ([1, 3, 4] : List Nat).Nodup; decide) (by show ([0, 49] : List Nat).Nodup; decide) ?_ ?_ (fun t0 => ⟨_, Nat.lt_succ_self _, (out2 ++ r10), (IntKind.wrap .i64 (i1 + 1)), t0, H, rfl⟩)
     ·exact (allB_some (by rfl) rfl (.cons (.cons (.int' rfl) (.cons (.int' rfl) (.cons (.int' rfl) (.cons (.int' rfl) (.cons (.int' rfl) (.cons (.lst _ _ _ cs_pu rfl) (.cons (.lst _ _ _ (ci_pu .u8) rfl) .nil))))))) .nil) (allB_some (by rfl) rfl (.same _ _ (ci_pu .u8) (by first | rfl | (simp only [MPT, CS,  List.nil_append]; done) | (simp [CS,  ci_eq, cb_eq, cs_eq, cl_eq]; done) | (simp [CS,  ci_eq, cb_eq, cs_eq, cl_eq]; intro hz; rw [List.take_of_length_le (by simp; omega)]))) trivial))
     ·(simp only [AllT, tl_cons, tl_nil, upd_apply, List.getD_cons_zero, List.getD_cons_succ, reduceEqDiff, ↓reduceIte, and_true]); exact ⟨(.ptr _ _ _ _ _ rfl), (.refl' (by first | rfl | omega | (simp; done) | (simp [strBytes_len]; done) | (simp; omega) | (simp_all; done)) rfl), (.int' rfl)⟩
    ·have H := cond_f zc1 H
     refine a_exit ?_
     refine sA_e ?_
     refine lA_e ?_
     refine bA_hit ?_
     refine cA_n ?_
     refine wk_l [(some 0, ⟨30, 7, false, [[.int .i64 a1.err, .int .i64 a1.ino, .int .i64 a1.kind, .int .i64 a1.n, .int .i64 a1.m, .list 1 (a1.names.map cs), .list 1 (a1.data.map (ci .u8))]]⟩)] [1] [(1, .ptr 0 0 0 7), (3, .list 1 (out2.map (ci .u8)))] (by show ([1, 3] : List Nat).Nodup; decide) (by show ([0] : List Nat).Nodup; decide) ?_ ?_ (fun t0 => ⟨out2, t0, H, rfl⟩)
     ·exact (allB_some (by rfl) rfl (.cons (.cons (.int' rfl) (.cons (.int' rfl) (.cons (.int' rfl) (.cons (.int' rfl) (.cons (.int' rfl) (.cons (.lst _ _ _ cs_pu rfl) (.cons (.lst _ _ _ (ci_pu .u8) rfl) .nil))))))) .nil) trivial)
     ·(simp only [AllT, tl_cons, tl_nil, upd_apply, List.getD_cons_zero, List.getD_cons_succ, reduceEqDiff, ↓reduceIte, and_true]); exact ⟨(.ptr _ _ _ _ _ rfl), (.frz' (by rfl) (by simp) rfl (by first | rfl | omega | (simp; done) | (simp [strBytes_len]; done) | (simp; omega) | (simp_all; done)) (.same _ _ (ci_pu .u8) (by first | rfl | (simp only [MPT, CS,  List.nil_append]; done) | (simp [CS,  ci_eq, cb_eq, cs_eq, cl_eq]; done) | (simp [CS,  ci_eq, cb_eq, cs_eq, cl_eq]; intro hz; rw [List.take_of_length_le (by simp; omega)]))))⟩
 ·rintro s ⟨out1, t0, H, rfl⟩
  unfold ref01_Ans_J1 at H
  refine a_seq ?_
  obtain ⟨r8, zh8, H⟩ := bind_some H
  have zk8 := ref01_Str_pc zh8
  obtain ⟨r9, zh9, H⟩ := bind_some H
  have zk9 := ref01_all_rc zh9
  refine a_reg _ rfl (s := ?zs3) ?_ ?_
  rotate_left
  ·try simp only [EVT, stepR, evOp, St.ev, St.app, St.put, wrs, evFieldAddr, evLoad, cut, evToStr, elems, frz, allOne, TIS, CS, reduceAdd, reduceMul, reduceEqDiff, ↓reduceIte, reduceCtorEq, reduceLT, reduceLeDiff, reduceSub, Nat.reduceBEq]
   repeat' with_reducible apply And.intro
   all_goals try ((with_reducible show CallR _ _ _ _ _ _ _); refine cR_p zk8 (.cons (.str' rfl) .nil) ?_; simp only [EVT, stepR, evOp, St.ev, St.app, St.put, wrs, evFieldAddr, evLoad, cut, evToStr, elems, frz, allOne, TIS, CS, reduceAdd, reduceMul, reduceEqDiff, ↓reduceIte, reduceCtorEq, reduceLT, reduceLeDiff, reduceSub, Nat.reduceBEq])
   repeat' with_reducible apply And.intro
   all_goals try ((with_reducible show CallR _ _ _ _ _ _ _); refine callR_rcw (r' := .ref 7 0 r9.length 1) [(6, some ⟨22, 1, true, [out1, r8].map (cl 1 (ci .u8))⟩), (7, some ⟨5, 1, false, r9.map (ci .u8)⟩)] [] [6] [(7, 0, ⟨5, 1, false, r9.map (ci .u8)⟩)] rfl zk9 (by simp) (by show ([] : List Nat).Nodup; decide) trivial (.cons (.frz' (by rfl) (by simp) rfl (by first | rfl | omega | (simp; done) | (simp [strBytes_len]; done) | (simp; omega) | (simp_all; done)) (.same _ _ (cl_pu (ci_pu .u8)) (by first | rfl | (simp only [MPT, CS,  List.nil_append]; done) | (simp [CS,  ci_eq, cb_eq, cs_eq, cl_eq]; done) | (simp [CS,  ci_eq, cb_eq, cs_eq, cl_eq]; intro hz; rw [List.take_of_length_le (by simp; omega)])))) .nil) (by show ([7] : List Nat).Nodup; decide) (by show ([0] : List Nat).Nodup; decide) ⟨.inr ⟨rfl, by decide⟩, ⟨_, rfl, ⟨rfl, rfl, rfl, rfl⟩, .same _ _ (ci_pu .u8) rfl⟩, trivial⟩ (.refl' rfl rfl) ?_; simp only [EVT, stepR, evOp, St.ev, St.app, St.put, wrs, evFieldAddr, evLoad, cut, evToStr, elems, frz, allOne, TIS, CS, reduceAdd, reduceMul, reduceEqDiff, ↓reduceIte, reduceCtorEq, reduceLT, reduceLeDiff, reduceSub, Nat.reduceBEq])
   all_goals ((repeat' apply And.intro) <;> first|rfl|assumption|omega|(simp;done)|(simp;omega)|(simp_all;done))
  refine sA_n ?_
  refine a_ret ?_
  obtain rfl := Option.some.inj H
  refine eR_r ?_
  refine wk_ln 0 [] [7] [(2, .list 1 (r9.map (ci .u8)))] (fun i h => absurd h (Nat.not_lt_zero i)) (by show ([2] : List Nat).Nodup; decide) (by show ([] : List Nat).Nodup; decide) ?_ ?_ (fun t0 => ⟨by first | rfl | (simp only [EVT, resR, single, evLoad, cut, TIS, CS, reduceAdd, reduceEqDiff, ↓reduceIte, reduceCtorEq, reduceLT, reduceLeDiff, reduceSub, Nat.reduceBEq]; (repeat' apply And.intro) <;> first | rfl | (simp; done)), fun j B h => by rcases j with _ <;> first | exact h | (exact absurd h (by simp [hh]))⟩)
  ·exact trivial
  ·(simp only [AllT, tl_cons, tl_nil, upd_apply, List.getD_cons_zero, List.getD_cons_succ, reduceEqDiff, ↓reduceIte, and_true]); exact (.frz' (by rfl) (by simp) rfl (by first | rfl | omega | (simp; done) | (simp [strBytes_len]; done) | (simp; omega) | (simp_all; done)) (.same _ _ (ci_pu .u8) (by first | rfl | (simp only [MPT, CS,  List.nil_append]; done) | (simp [CS,  ci_eq, cb_eq, cs_eq, cl_eq]; done) | (simp [CS,  ci_eq, cb_eq, cs_eq, cl_eq]; intro hz; rw [List.take_of_length_le (by simp; omega)]))))
theorem ref01_Ans_pc {a1 : Ans} {r : (List Int)} (H : ref01_Ans_f a1 = some r) : PC Try.prog 25 [.agg (Ans.c a1)] (.list 1 (r.map (ci .u8))) := rc_pc (ref01_Ans_rc H) (.lst _ _ _ (ci_pu .u8) rfl)
def ref01_CutOp_f (o1 : Op) : Option Op :=
 chk (0 ≤ 0 ∧ 0 ≤ (if 300 < (o1.path.size : Int) then 300 else (o1.path.size : Int)) ∧ (if 300 < (o1.path.size : Int) then 300 else (o1.path.size : Int)) ≤ (o1.path.size : Int)) (chk (0 ≤ 0 ∧ 0 ≤ (if 300 < (o1.to_.size : Int) then 300 else (o1.to_.size : Int)) ∧ (if 300 < (o1.to_.size : Int) then 300 else (o1.to_.size : Int)) ≤ (o1.to_.size : Int)) (chk (0 ≤ 0 ∧ 0 ≤ (if 300 < (o1.data.length : Int) then 300 else (o1.data.length : Int)) ∧ (if 300 < (o1.data.length : Int) then 300 else (o1.data.length : Int)) ≤ (o1.data.length : Int)) (chk ((0 + (((o1.data.take (if 300 < (o1.data.length : Int) then 300 else (o1.data.length : Int)).toNat).drop 0).length)) * 1 ≤ 140737488355328) (some ((⟨o1.kind, o1.client, (o1.path.extract 0 (if 300 < (o1.path.size : Int) then 300 else (o1.path.size : Int)).toNat), (o1.to_.extract 0 (if 300 < (o1.to_.size : Int) then 300 else (o1.to_.size : Int)).toNat), o1.n, o1.m, o1.handle, (([] : List Int) ++ ((o1.data.take (if 300 < (o1.data.length : Int) then 300 else (o1.data.length : Int)).toNat).drop 0))⟩ : Op))))))
set_option maxHeartbeats 4000000 in
set_option maxRecDepth 20000 in
theorem ref01_CutOp_pc {o1 : Op} {r : Op} (H : ref01_CutOp_f o1 = some r) : PC Try.prog 11 [.agg (Op.c o1)] (.agg (Op.c r)) := by
 refine pcA_of Try.func11 (by rfl) (by decide) 30 (by rfl) [.cell 2 24] (by rfl) ?_
 unfold ref01_CutOp_f at H
 simp only [ent]
 refine a_seq ?_
 refine a_reg _ rfl (s := ?zs1) ?_ ?_
 rotate_left
 ·simp only [EVT, stepR, evOp, St.ev, St.app, St.put, wrs, allOne, TIS, CS, reduceAdd, reduceMul, reduceEqDiff, ↓reduceIte, reduceCtorEq, reduceLT, reduceLeDiff]
  (repeat' apply And.intro) <;> first|rfl|assumption|omega|(simp;done)|(simp;omega)|(simp_all;done)
 refine sA_n ?_
 refine a_seq ?_
 obtain ⟨zh1, H⟩ := chk_some H
 refine a_reg _ rfl (s := ?zs2) ?_ ?_
 rotate_left
 ·simp only [EVT, stepR, evOp, St.ev, St.app, St.put, wrs, evFieldAddr, evLoad, cut, evBuiltin, datOf, datOf1, minMax, mmStep, evSlice, sliceOk, sl_if0, sl_if1, sl_if2, sl_if3, tk_map, dp_map, evStore, setR, allOne, TIS, CS, reduceAdd, reduceMul, reduceEqDiff, ↓reduceIte, reduceCtorEq, reduceLT, reduceLeDiff, Int.reduceToNat, reduceSub, Nat.reduceBEq]
  (repeat' apply And.intro) <;> first|rfl|assumption|omega|(simp;done)|(simp;omega)|(simp_all;done)
 refine sA_n ?_
 refine a_seq ?_
 obtain ⟨zh2, H⟩ := chk_some H
 refine a_reg _ rfl (s := ?zs3) ?_ ?_
 rotate_left
 ·simp only [EVT, stepR, evOp, St.ev, St.app, St.put, wrs, evFieldAddr, evLoad, cut, evBuiltin, datOf, datOf1, minMax, mmStep, evSlice, sliceOk, sl_if0, sl_if1, sl_if2, sl_if3, tk_map, dp_map, evStore, setR, allOne, TIS, CS, reduceAdd, reduceMul, reduceEqDiff, ↓reduceIte, reduceCtorEq, reduceLT, reduceLeDiff, Int.reduceToNat, reduceSub, Nat.reduceBEq]
  (repeat' apply And.intro) <;> first|rfl|assumption|omega|(simp;done)|(simp;omega)|(simp_all;done)
 refine sA_n ?_
 refine a_seq ?_
 obtain ⟨zh3, H⟩ := chk_some H
 obtain ⟨zh4, H⟩ := chk_some H
 refine a_reg _ rfl (s := ?zs4) ?_ ?_
 rotate_left
 ·simp only [EVT, stepR, evOp, St.ev, St.app, St.put, wrs, allOne, evFieldAddr, evLoad, cut, evBuiltin, datOf, datOf1, minMax, mmStep, evSlice, sliceOk, sl_if0, sl_if1, sl_if2, sl_if3, tk_map, dp_map, evAppend, elems, Option.elim, evStore, setR, TIS, CS, reduceAdd, reduceMul, reduceEqDiff, ↓reduceIte, reduceCtorEq, reduceLT, reduceLeDiff, Int.reduceToNat, reduceSub, Nat.reduceBEq]
  (repeat' apply And.intro) <;> first|rfl|assumption|omega|(simp;done)|(simp;omega)|(simp_all;done)
 refine sA_n ?_
 refine a_seq ?_
 refine a_reg _ rfl (s := ?zs5) ?_ ?_
 rotate_left
 ·simp only [EVT, stepR, evOp, St.ev, St.app, St.put, wrs, evLoad, cut, evStore, setR, allOne, TIS, CS, reduceAdd, reduceMul, reduceEqDiff, ↓reduceIte, reduceCtorEq, reduceLT, reduceLeDiff, reduceSub, Nat.reduceBEq]
  (repeat' apply And.intro) <;> first|rfl|assumption|omega|(simp;done)|(simp;omega)|(simp_all;done)
 refine sA_n ?_
 refine a_ret ?_
 obtain rfl := Option.some.inj H
 refine e_r2 (d := ?zd1) ?_ ?_
 rotate_left
 ·simp only [EVT, resR, single, evLoad, cut, TIS, CS, reduceAdd, reduceEqDiff, ↓reduceIte, reduceCtorEq, reduceLT, reduceLeDiff, reduceSub, Nat.reduceBEq]
  (repeat' apply And.intro) <;> first | rfl | assumption | omega | (simp; done)
 exact (.agg' (.cons (.int' rfl) (.cons (.int' rfl) (.cons (.str' rfl) (.cons (.str' rfl) (.cons (.int' rfl) (.cons (.int' rfl) (.cons (.int' rfl) (.cons (.ownL (by rfl) (fun e => by cases e) rfl (by first | rfl | omega | (simp; done) | (simp [strBytes_len]; done) | (simp; omega) | (simp_all; done)) (.same _ _ (ci_pu .u8) (by first | rfl | (simp only [MPT, CS,  List.nil_append]; done) | (simp [CS,  ci_eq, cb_eq, cs_eq, cl_eq]; done) | (simp [CS,  ci_eq, cb_eq, cs_eq, cl_eq]; intro hz; rw [List.take_of_length_le (by simp; omega)])))) .nil)))))))))
def ref01_CutAns_J1 (a1 : Ans) (l1 : List ByteArray) : Option Ans :=
 chk (0 ≤ 0 ∧ 0 ≤ (if 300 < (a1.data.length : Int) then 300 else (a1.data.length : Int)) ∧ (if 300 < (a1.data.length : Int) then 300 else (a1.data.length : Int)) ≤ (a1.data.length : Int)) (chk ((0 + (((a1.data.take (if 300 < (a1.data.length : Int) then 300 else (a1.data.length : Int)).toNat).drop 0).length)) * 1 ≤ 140737488355328) (some ((⟨a1.err, a1.ino, a1.kind, a1.n, a1.m, l1, (([] : List Int) ++ ((a1.data.take (if 300 < (a1.data.length : Int) then 300 else (a1.data.length : Int)).toNat).drop 0))⟩ : Ans))))
def ref01_CutAns_J2 (k_ref01_CutAns_L1 : (List ByteArray) → Int → Option Ans) (a1 : Ans) (i1 : Int) (l2 : List ByteArray) (v1 : Bool) : Option Ans :=
 cond v1 ((idx a1.names i1).bind fun x1 => chk (0 ≤ 0 ∧ 0 ≤ (if 100 < (x1.size : Int) then 100 else (x1.size : Int)) ∧ (if 100 < (x1.size : Int) then 100 else (x1.size : Int)) ≤ (x1.size : Int)) (chk ((l2.length + 1) * 16 ≤ 140737488355328) (k_ref01_CutAns_L1 (l2 ++ [(x1.extract 0 (if 100 < (x1.size : Int) then 100 else (x1.size : Int)).toNat)]) (IntKind.wrap .i64 (i1 + 1))))) (ref01_CutAns_J1 a1 l2)
def ref01_CutAns_L1 (a1 : Ans) : Nat → (List ByteArray) → Int → Option Ans
 | 0, _, _ => none
 | m_ + 1, l2, i1 => ref01_CutAns_J2 (ref01_CutAns_L1 a1 m_) a1 i1 l2 ((decide (i1 < (a1.names.length : Int))) && (decide (i1 < 40)))
def ref01_CutAns_f (a1 : Ans) : Option Ans :=
 ref01_CutAns_L1 a1 BIG ([] : List ByteArray) 0
set_option maxHeartbeats 4000000 in
set_option maxRecDepth 20000 in
theorem ref01_CutAns_pc {a1 : Ans} {r : Ans} (H : ref01_CutAns_f a1 = some r) : PC Try.prog 17 [.agg (Ans.c a1)] (.agg (Ans.c r)) := by
 refine pcA_of Try.func17 (by rfl) (by decide) 46 (by rfl) [.cell 2 30] (by rfl) ?_
 unfold ref01_CutAns_f at H
 simp only [ent]
 refine a_seq ?_
 refine a_reg _ rfl (s := ?zs1) ?_ ?_
 rotate_left
 ·simp only [EVT, stepR, evOp, St.ev, St.app, St.put, wrs, allOne, TIS, CS, reduceAdd, reduceMul, reduceEqDiff, ↓reduceIte, reduceCtorEq, reduceLT, reduceLeDiff]
  (repeat' apply And.intro) <;> first|rfl|assumption|omega|(simp;done)|(simp;omega)|(simp_all;done)
 refine sA_n ?_
 refine a_seq ?_
 refine a_reg _ rfl (s := ?zs2) ?_ ?_
 rotate_left
 ·simp only [EVT, stepR, evOp, St.ev, St.app, St.put, wrs, allOne, TIS, CS, reduceAdd, reduceMul, reduceEqDiff, ↓reduceIte, reduceCtorEq, reduceLT, reduceLeDiff, reduceSub, Nat.reduceBEq]
  (repeat' apply And.intro) <;> first|rfl|assumption|omega|(simp;done)|(simp;omega)|(simp_all;done)
 refine sA_n ?_
 refine a_cut (fun s => ∃ (l1 : List ByteArray) (t0 : Nat → Dat), ref01_CutAns_J1 a1 l1 = some r ∧ s = ⟨tl t0 [(1, .ptr 0 0 0 7), (2, .ptr 1 0 0 7), (3, .ref 2 0 l1.length 1)], hl [⟨30, 7, false, [[.int .i64 a1.err, .int .i64 a1.ino, .int .i64 a1.kind, .int .i64 a1.n, .int .i64 a1.m, .list 1 (a1.names.map cs), .list 1 (a1.data.map (ci .u8))]]⟩, ⟨30, 7, false, [[.int .i64 0, .int .i64 0, .int .i64 0, .int .i64 0, .int .i64 0, .nil, .nil]]⟩, ⟨9, 1, false, l1.map cs⟩], 3, 46⟩) ?_ ?_
 ·refine a_seq ?_
  refine a_reg _ rfl (s := ?zs6) ?_ ?_
  rotate_left
  ·simp only [EVT, stepR, evOp, St.ev, St.app, St.put, wrs, datOf, datOf1, TIS, CS, reduceAdd, reduceMul, reduceEqDiff, ↓reduceIte, reduceCtorEq, reduceLT, reduceLeDiff]
   (repeat' apply And.intro) <;> first|rfl|assumption|omega|(simp;done)|(simp;omega)|(simp_all;done)
  refine sA_n ?_
  refine a_blk ?_
  refine a_loop (fun m s => ∃ (l2 : List ByteArray) (i1 : Int) (t0 : Nat → Dat), ref01_CutAns_L1 a1 m l2 i1 = some r ∧ s = ⟨tl t0 [(1, .ptr 0 0 0 7), (2, .ptr 1 0 0 7), (3, .ref 2 0 l2.length 1), (4, .int .i64 i1)], hl [⟨30, 7, false, [[.int .i64 a1.err, .int .i64 a1.ino, .int .i64 a1.kind, .int .i64 a1.n, .int .i64 a1.m, .list 1 (a1.names.map cs), .list 1 (a1.data.map (ci .u8))]]⟩, ⟨30, 7, false, [[.int .i64 0, .int .i64 0, .int .i64 0, .int .i64 0, .int .i64 0, .nil, .nil]]⟩, ⟨9, 1, false, l2.map cs⟩], 3, 46⟩) BIG ?_ ?_
  ·refine wk_l [(some 0, ⟨30, 7, false, [[.int .i64 a1.err, .int .i64 a1.ino, .int .i64 a1.kind, .int .i64 a1.n, .int .i64 a1.m, .list 1 (a1.names.map cs), .list 1 (a1.data.map (ci .u8))]]⟩), (some 1, ⟨30, 7, false, [[.int .i64 0, .int .i64 0, .int .i64 0, .int .i64 0, .int .i64 0, .nil, .nil]]⟩), (some 16, ⟨9, 1, false, ([] : List ByteArray).map cs⟩)] [] [(1, .ptr 0 0 0 7), (2, .ptr 1 0 0 7), (3, .ref 2 0 ([] : List ByteArray).length 1), (4, .int .i64 0)] (by show ([1, 2, 3, 4] : List Nat).Nodup; decide) (by show ([0, 1, 16] : List Nat).Nodup; decide) ?_ ?_ (fun t0 => ⟨([] : List ByteArray), 0, t0, H, rfl⟩)
   ·exact (allB_some (by rfl) rfl (.cons (.cons (.int' rfl) (.cons (.int' rfl) (.cons (.int' rfl) (.cons (.int' rfl) (.cons (.int' rfl) (.cons (.lst _ _ _ cs_pu rfl) (.cons (.lst _ _ _ (ci_pu .u8) rfl) .nil))))))) .nil) (allB_some (by rfl) rfl (.cons (.cons (.int' rfl) (.cons (.int' rfl) (.cons (.int' rfl) (.cons (.int' rfl) (.cons (.int' rfl) (.cons .nil' (.cons .nil' .nil))))))) .nil) (allB_some (by rfl) rfl (.same _ _ cs_pu (by first | rfl | (simp only [MPT, CS,  List.nil_append]; done) | (simp [CS,  ci_eq, cb_eq, cs_eq, cl_eq]; done) | (simp [CS,  ci_eq, cb_eq, cs_eq, cl_eq]; intro hz; rw [List.take_of_length_le (by simp; omega)]))) trivial)))
   ·(simp only [AllT, tl_cons, tl_nil, upd_apply, List.getD_cons_zero, List.getD_cons_succ, reduceEqDiff, ↓reduceIte, and_true]); exact ⟨(.ptr _ _ _ _ _ rfl), (.ptr _ _ _ _ _ rfl), (.refl' (by first | rfl | omega | (simp; done) | (simp [strBytes_len]; done) | (simp; omega) | (simp_all; done)) rfl), (.int' rfl)⟩
  ·rintro m_ref01_CutAns_L1 s ⟨l2, i1, t0, H, rfl⟩
   obtain _ | m_ref01_CutAns_L1 := m_ref01_CutAns_L1
   ·cases (show (none : Option _) = some _ from H)
   ·rw [ref01_CutAns_L1] at H
    refine a_seq ?_
    refine a_cut (fun s => ∃ (v1 : Bool) (t0 : Nat → Dat), ref01_CutAns_J2 (ref01_CutAns_L1 a1 m_ref01_CutAns_L1) a1 i1 l2 v1 = some r ∧ s = ⟨tl t0 [(1, .ptr 0 0 0 7), (2, .ptr 1 0 0 7), (3, .ref 2 0 l2.length 1), (4, .int .i64 i1), (14, .bool v1)], hl [⟨30, 7, false, [[.int .i64 a1.err, .int .i64 a1.ino, .int .i64 a1.kind, .int .i64 a1.n, .int .i64 a1.m, .list 1 (a1.names.map cs), .list 1 (a1.data.map (ci .u8))]]⟩, ⟨30, 7, false, [[.int .i64 0, .int .i64 0, .int .i64 0, .int .i64 0, .int .i64 0, .nil, .nil]]⟩, ⟨9, 1, false, l2.map cs⟩], 3, 46⟩) ?_ ?_
    ·refine bool_split (b := (decide (i1 < (a1.names.length : Int)))) (fun zc2 => ?_) (fun zc2 => ?_)
     ·rw [zc2] at H
      refine a_reg _ rfl (s := ?zs9) ?_ ?_
      rotate_left
      ·simp only [EVT, stepR, evOp, St.ev, St.app, St.put, wrs, evFieldAddr, evLoad, cut, evBuiltin, evBin, binInt, datOf, datOf1, TIS, CS, reduceAdd, reduceMul, reduceEqDiff, ↓reduceIte, reduceCtorEq, reduceLT, reduceLeDiff, Array.reduceGetElem?, reduceSub, Nat.reduceBEq, ↓zc2]
       try simp only [EVT, stepR, evOp, St.ev, St.app, St.put, wrs, evFieldAddr, evLoad, cut, evBuiltin, evBin, binInt, datOf, datOf1, TIS, CS, reduceAdd, reduceMul, reduceEqDiff, ↓reduceIte, reduceCtorEq, reduceLT, reduceLeDiff, Array.reduceGetElem?, reduceSub, Nat.reduceBEq, ↓zc2]
       (repeat' apply And.intro) <;> first|rfl|assumption|omega|(simp;done)|(simp;omega)|(simp_all;done)
      refine cA_n ?_
      refine wk_l [(some 0, ⟨30, 7, false, [[.int .i64 a1.err, .int .i64 a1.ino, .int .i64 a1.kind, .int .i64 a1.n, .int .i64 a1.m, .list 1 (a1.names.map cs), .list 1 (a1.data.map (ci .u8))]]⟩), (some 1, ⟨30, 7, false, [[.int .i64 0, .int .i64 0, .int .i64 0, .int .i64 0, .int .i64 0, .nil, .nil]]⟩), (some 2, ⟨9, 1, false, l2.map cs⟩)] [] [(1, .ptr 0 0 0 7), (2, .ptr 1 0 0 7), (3, .ref 2 0 l2.length 1), (4, .int .i64 i1), (14, .bool (decide (i1 < 40)))] (by show ([1, 2, 3, 4, 14] : List Nat).Nodup; decide) (by show ([0, 1, 2] : List Nat).Nodup; decide) ?_ ?_ (fun t0 => ⟨(decide (i1 < 40)), t0, H, rfl⟩)
      ·exact (allB_some (by rfl) rfl (.cons (.cons (.int' rfl) (.cons (.int' rfl) (.cons (.int' rfl) (.cons (.int' rfl) (.cons (.int' rfl) (.cons (.lst _ _ _ cs_pu rfl) (.cons (.lst _ _ _ (ci_pu .u8) rfl) .nil))))))) .nil) (allB_some (by rfl) rfl (.cons (.cons (.int' rfl) (.cons (.int' rfl) (.cons (.int' rfl) (.cons (.int' rfl) (.cons (.int' rfl) (.cons .nil' (.cons .nil' .nil))))))) .nil) (allB_some (by rfl) rfl (.same _ _ cs_pu (by first | rfl | (simp only [MPT, CS,  List.nil_append]; done) | (simp [CS,  ci_eq, cb_eq, cs_eq, cl_eq]; done) | (simp [CS,  ci_eq, cb_eq, cs_eq, cl_eq]; intro hz; rw [List.take_of_length_le (by simp; omega)]))) trivial)))
      ·(simp only [AllT, tl_cons, tl_nil, upd_apply, List.getD_cons_zero, List.getD_cons_succ, reduceEqDiff, ↓reduceIte, and_true]); exact ⟨(.ptr _ _ _ _ _ rfl), (.ptr _ _ _ _ _ rfl), (.refl' (by first | rfl | omega | (simp; done) | (simp [strBytes_len]; done) | (simp; omega) | (simp_all; done)) rfl), (.int' rfl), (.bool' rfl)⟩
     ·rw [zc2] at H
      refine a_reg _ rfl (s := ?zs10) ?_ ?_
      rotate_left
      ·simp only [EVT, stepR, evOp, St.ev, St.app, St.put, wrs, evFieldAddr, evLoad, cut, evBuiltin, evBin, binInt, datOf, datOf1, TIS, CS, reduceAdd, reduceMul, reduceEqDiff, ↓reduceIte, reduceCtorEq, reduceLT, reduceLeDiff, Array.reduceGetElem?, reduceSub, Nat.reduceBEq, ↓zc2]
       try simp only [EVT, stepR, evOp, St.ev, St.app, St.put, wrs, evFieldAddr, evLoad, cut, evBuiltin, evBin, binInt, datOf, datOf1, TIS, CS, reduceAdd, reduceMul, reduceEqDiff, ↓reduceIte, reduceCtorEq, reduceLT, reduceLeDiff, Array.reduceGetElem?, reduceSub, Nat.reduceBEq, ↓zc2]
       (repeat' apply And.intro) <;> first|rfl|assumption|omega|(simp;done)|(simp;omega)|(simp_all;done)
      refine cA_n ?_
      refine wk_l [(some 0, ⟨30, 7, false, [[.int .i64 a1.err, .int .i64 a1.ino, .int .i64 a1.kind, .int .i64 a1.n, .int .i64 a1.m, .list 1 (a1.names.map cs), .list 1 (a1.data.map (ci .u8))]]⟩), (some 1, ⟨30, 7, false, [[.int .i64 0, .int .i64 0, .int .i64 0, .int .i64 0, .int .i64 0, .nil, .nil]]⟩), (some 2, ⟨9, 1, false, l2.map cs⟩)] [] [(1, .ptr 0 0 0 7), (2, .ptr 1 0 0 7), (3, .ref 2 0 l2.length 1), (4, .int .i64 i1), (14, .bool false)] (by show ([1, 2, 3, 4, 14] : List Nat).Nodup; decide) (by show ([0, 1, 2] : List Nat).Nodup; decide) ?_ ?_ (fun t0 => ⟨false, t0, H, rfl⟩)
      ·exact (allB_some (by rfl) rfl (.cons (.cons (.int' rfl) (.cons (.int' rfl) (.cons (.int' rfl) (.cons (.int' rfl) (.cons (.int' rfl) (.cons (.lst _ _ _ cs_pu rfl) (.cons (.lst _ _ _ (ci_pu .u8) rfl) .nil))))))) .nil) (allB_some (by rfl) rfl (.cons (.cons (.int' rfl) (.cons (.int' rfl) (.cons (.int' rfl) (.cons (.int' rfl) (.cons (.int' rfl) (.cons .nil' (.cons .nil' .nil))))))) .nil) (allB_some (by rfl) rfl (.same _ _ cs_pu (by first | rfl | (simp only [MPT, CS,  List.nil_append]; done) | (simp [CS,  ci_eq, cb_eq, cs_eq, cl_eq]; done) | (simp [CS,  ci_eq, cb_eq, cs_eq, cl_eq]; intro hz; rw [List.take_of_length_le (by simp; omega)]))) trivial)))
      ·(simp only [AllT, tl_cons, tl_nil, upd_apply, List.getD_cons_zero, List.getD_cons_succ, reduceEqDiff, ↓reduceIte, and_true]); exact ⟨(.ptr _ _ _ _ _ rfl), (.ptr _ _ _ _ _ rfl), (.refl' (by first | rfl | omega | (simp; done) | (simp [strBytes_len]; done) | (simp; omega) | (simp_all; done)) rfl), (.int' rfl), (.bool' (by first | rfl | assumption | (simp_all; done)))⟩
    ·rintro s ⟨v1, t0, H, rfl⟩
     unfold ref01_CutAns_J2 at H
     refine a_condb (v1) (by rfl) (fun zc1 => ?_) (fun zc1 => ?_)
     ·have H := cond_t zc1 H
      refine a_skip ?_
      refine sA_n ?_
      refine a_seq ?_
      refine a_blk ?_
      obtain ⟨x1, zh3, H⟩ := bind_some H
      have zg1 := idx_map zh3 cs
      try simp only [Int.reduceToNat] at zg1
      obtain ⟨zh3a, zh3b, _⟩ := idx_some zh3
      obtain ⟨zh4, H⟩ := chk_some H
      obtain ⟨zh5, H⟩ := chk_some H
      refine a_drW (by kernel_rfl) _ rfl (s := ?zs7) (by kernel_rfl) (by kernel_rfl) ?zs7f ?_ ?_ ?_
      rotate_left 2
      ·simp only [EVT, stepW, evOp, St.ev, St.app, St.put, wrs, evFieldAddr, evLoad, cut, evIndexAddr, evBuiltin, datOf, datOf1, minMax, mmStep, evSlice, sliceOk, sl_if0, sl_if1, sl_if2, sl_if3, tk_map, dp_map, allOne, evAppend, elems, Option.elim, TIS, CS, reduceAdd, reduceMul, reduceEqDiff, ↓reduceIte, reduceCtorEq, reduceLT, reduceLeDiff, Int.reduceToNat, reduceSub, Nat.reduceBEq, ↓zc1, zg1]
       (repeat' apply And.intro) <;> first|rfl|assumption|omega|(simp;done)|(simp;omega)|(simp_all;done)
      ·kernel_rfl
      refine bA_n ?_
      refine sA_n ?_
      refine a_reg _ rfl (s := ?zs8) ?_ ?_
      rotate_left
      ·simp only [EVT, stepR, evOp, St.ev, St.app, St.put, wrs, datOf, datOf1, evBin, binInt, TIS, CS, reduceAdd, reduceMul, reduceEqDiff, ↓reduceIte, reduceCtorEq, reduceLT, reduceLeDiff, ↓zc1, zg1]
       (repeat' apply And.intro) <;> first|rfl|assumption|omega|(simp;done)|(simp;omega)|(simp_all;done)
      refine lA_n ?_
      refine wk_l [(some 0, ⟨30, 7, false, [[.int .i64 a1.err, .int .i64 a1.ino, .int .i64 a1.kind, .int .i64 a1.n, .int .i64 a1.m, .list 1 (a1.names.map cs), .list 1 (a1.data.map (ci .u8))]]⟩), (some 1, ⟨30, 7, false, [[.int .i64 0, .int .i64 0, .int .i64 0, .int .i64 0, .int .i64 0, .nil, .nil]]⟩), (some 18, ⟨9, 1, false, (l2 ++ [(x1.extract 0 (if 100 < (x1.size : Int) then 100 else (x1.size : Int)).toNat)]).map cs⟩)] [] [(1, .ptr 0 0 0 7), (2, .ptr 1 0 0 7), (3, .ref 2 0 (l2 ++ [(x1.extract 0 (if 100 < (x1.size : Int) then 100 else (x1.size : Int)).toNat)]).length 1), (4, .int .i64 (IntKind.wrap .i64 (i1 + 1)))] (by show ([1, 2, 3, 4] : List Nat).Nodup; decide) (by show ([0, 1, 18] : List Nat).Nodup; decide) ?_ ?_ (fun t0 => ⟨_, Nat.lt_succ_self _, (l2 ++ [(x1.extract 0 (if 100 < (x1.size : Int) then 100 else (x1.size : Int)).toNat)]), (IntKind.wrap .i64 (i1 + 1)), t0, H, rfl⟩)
      ·exact (allB_some (by rfl) rfl (.cons (.cons (.int' rfl) (.cons (.int' rfl) (.cons (.int' rfl) (.cons (.int' rfl) (.cons (.int' rfl) (.cons (.lst _ _ _ cs_pu rfl) (.cons (.lst _ _ _ (ci_pu .u8) rfl) .nil))))))) .nil) (allB_some (by rfl) rfl (.cons (.cons (.int' rfl) (.cons (.int' rfl) (.cons (.int' rfl) (.cons (.int' rfl) (.cons (.int' rfl) (.cons .nil' (.cons .nil' .nil))))))) .nil) (allB_some (by rfl) rfl (.same _ _ cs_pu (by first | rfl | (simp only [MPT, CS,  List.nil_append]; done) | (simp [CS,  ci_eq, cb_eq, cs_eq, cl_eq]; done) | (simp [CS,  ci_eq, cb_eq, cs_eq, cl_eq]; intro hz; rw [List.take_of_length_le (by simp; omega)]))) trivial)))
      ·(simp only [AllT, tl_cons, tl_nil, upd_apply, List.getD_cons_zero, List.getD_cons_succ, reduceEqDiff, ↓reduceIte, and_true]); exact ⟨(.ptr _ _ _ _ _ rfl), (.ptr _ _ _ _ _ rfl), (.refl' (by first | rfl | omega | (simp; done) | (simp [strBytes_len]; done) | (simp; omega) | (simp_all; done)) rfl), (.int' rfl)⟩
     ·have H := cond_f zc1 H
      refine a_exit ?_
      refine sA_e ?_
      refine lA_e ?_
      refine bA_hit ?_
      refine cA_n ?_
      refine wk_l [(some 0, ⟨30, 7, false, [[.int .i64 a1.err, .int .i64 a1.ino, .int .i64 a1.kind, .int .i64 a1.n, .int .i64 a1.m, .list 1 (a1.names.map cs), .list 1 (a1.data.map (ci .u8))]]⟩), (some 1, ⟨30, 7, false, [[.int .i64 0, .int .i64 0, .int .i64 0, .int .i64 0, .int .i64 0, .nil, .nil]]⟩), (some 2, ⟨9, 1, false, l2.map cs⟩)] [] [(1, .ptr 0 0 0 7), (2, .ptr 1 0 0 7), (3, .ref 2 0 l2.length 1)] (by show ([1, 2, 3] : List Nat).Nodup; decide) (by show ([0, 1, 2] : List Nat).Nodup; decide) ?_ ?_ (fun t0 => ⟨l2, t0, H, rfl⟩)
      ·exact (allB_some (by rfl) rfl (.cons (.cons (.int' rfl) (.cons (.int' rfl) (.cons (.int' rfl) (.cons (.int' rfl) (.cons (.int' rfl) (.cons (.lst _ _ _ cs_pu rfl) (.cons (.lst _ _ _ (ci_pu .u8) rfl) .nil))))))) .nil) (allB_some (by rfl) rfl (.cons (.cons (.int' rfl) (.cons (.int' rfl) (.cons (.int' rfl) (.cons (.int' rfl) (.cons (.int' rfl) (.cons .nil' (.cons .nil' .nil))))))) .nil) (allB_some (by rfl) rfl (.same _ _ cs_pu (by first | rfl | (simp only [MPT, CS,  List.nil_append]; done) | (simp [CS,  ci_eq, cb_eq, cs_eq, cl_eq]; done) | (simp [CS,  ci_eq, cb_eq, cs_eq, cl_eq]; intro hz; rw [List.take_of_length_le (by simp; omega)]))) trivial)))
      ·(simp only [AllT, tl_cons, tl_nil, upd_apply, List.getD_cons_zero, List.getD_cons_succ, reduceEqDiff, ↓reduceIte, and_true]); exact ⟨(.ptr _ _ _ _ _ rfl), (.ptr _ _ _ _ _ rfl), (.refl' (by first | rfl | omega | (simp; done) | (simp [strBytes_len]; done) | (simp; omega) | (simp_all; done)) rfl)⟩
 ·rintro s ⟨l1, t0, H, rfl⟩
  unfold ref01_CutAns_J1 at H
  refine a_seq ?_
  refine a_reg _ rfl (s := ?zs3) ?_ ?_
  rotate_left
  ·simp only [EVT, stepR, evOp, St.ev, St.app, St.put, wrs, evFieldAddr, evStore, setR, allOne, TIS, CS, reduceAdd, reduceMul, reduceEqDiff, ↓reduceIte, reduceCtorEq, reduceLT, reduceLeDiff, reduceSub, Nat.reduceBEq]
   (repeat' apply And.intro) <;> first|rfl|assumption|omega|(simp;done)|(simp;omega)|(simp_all;done)
  refine sA_n ?_
  refine a_seq ?_
  obtain ⟨zh1, H⟩ := chk_some H
  obtain ⟨zh2, H⟩ := chk_some H
  refine a_reg _ rfl (s := ?zs4) ?_ ?_
  rotate_left
  ·simp only [EVT, stepR, evOp, St.ev, St.app, St.put, wrs, allOne, evFieldAddr, evLoad, cut, evBuiltin, datOf, datOf1, minMax, mmStep, evSlice, sliceOk, sl_if0, sl_if1, sl_if2, sl_if3, tk_map, dp_map, evAppend, elems, Option.elim, evStore, setR, TIS, CS, reduceAdd, reduceMul, reduceEqDiff, ↓reduceIte, reduceCtorEq, reduceLT, reduceLeDiff, Int.reduceToNat, reduceSub, Nat.reduceBEq]
   (repeat' apply And.intro) <;> first|rfl|assumption|omega|(simp;done)|(simp;omega)|(simp_all;done)
  refine sA_n ?_
  refine a_seq ?_
  refine a_reg _ rfl (s := ?zs5) ?_ ?_
  rotate_left
  ·simp only [EVT, stepR, evOp, St.ev, St.app, St.put, wrs, evLoad, cut, evStore, setR, allOne, TIS, CS, reduceAdd, reduceMul, reduceEqDiff, ↓reduceIte, reduceCtorEq, reduceLT, reduceLeDiff, reduceSub, Nat.reduceBEq]
   (repeat' apply And.intro) <;> first|rfl|assumption|omega|(simp;done)|(simp;omega)|(simp_all;done)
  refine sA_n ?_
  refine a_ret ?_
  obtain rfl := Option.some.inj H
  refine e_r2 (d := ?zd1) ?_ ?_
  rotate_left
  ·simp only [EVT, resR, single, evLoad, cut, TIS, CS, reduceAdd, reduceEqDiff, ↓reduceIte, reduceCtorEq, reduceLT, reduceLeDiff, reduceSub, Nat.reduceBEq]
   (repeat' apply And.intro) <;> first | rfl | assumption | omega | (simp; done)
  exact (.agg' (.cons (.int' rfl) (.cons (.int' rfl) (.cons (.int' rfl) (.cons (.int' rfl) (.cons (.int' rfl) (.cons (.ownL (by rfl) (fun e => by cases e) rfl (by first | rfl | omega | (simp; done) | (simp [strBytes_len]; done) | (simp; omega) | (simp_all; done)) (.same _ _ cs_pu (by first | rfl | (simp only [MPT, CS,  List.nil_append]; done) | (simp [CS,  ci_eq, cb_eq, cs_eq, cl_eq]; done) | (simp [CS,  ci_eq, cb_eq, cs_eq, cl_eq]; intro hz; rw [List.take_of_length_le (by simp; omega)])))) (.cons (.ownL (by rfl) (fun e => by cases e) rfl (by first | rfl | omega | (simp; done) | (simp [strBytes_len]; done) | (simp; omega) | (simp_all; done)) (.same _ _ (ci_pu .u8) (by first | rfl | (simp only [MPT, CS,  List.nil_append]; done) | (simp [CS,  ci_eq, cb_eq, cs_eq, cl_eq]; done) | (simp [CS,  ci_eq, cb_eq, cs_eq, cl_eq]; intro hz; rw [List.take_of_length_le (by simp; omega)])))) .nil))))))))
def ref01_SameOp_f (a1 : Op) (b1 : Op) : Option Bool :=
 cond (a1.kind == b1.kind) (cond (a1.client == b1.client) (cond (a1.path.toList == b1.path.toList) (cond (a1.to_.toList == b1.to_.toList) (cond (a1.n == b1.n) (cond (a1.m == b1.m) (cond (a1.handle == b1.handle) ((ref01_Same_f a1.data b1.data).bind fun r1 => some (r1)) (some (false))) (some (false))) (some (false))) (some (false))) (some (false))) (some (false))) (some (false))
set_option maxHeartbeats 4000000 in
set_option maxRecDepth 20000 in
theorem ref01_SameOp_pc {a1 : Op} {b1 : Op} {r : Bool} (H : ref01_SameOp_f a1 b1 = some r) : PC Try.prog 14 [.agg (Op.c a1), .agg (Op.c b1)] (.bool r) := by
 refine pcA_of Try.func14 (by rfl) (by decide) 59 (by rfl) [.tmp 4] (by rfl) ?_
 unfold ref01_SameOp_f at H
 simp only [ent]
 refine a_seq ?_
 refine a_reg _ rfl (s := ?zs1) ?_ ?_
 rotate_left
 ·simp only [EVT, stepR, evOp, St.ev, St.app, St.put, wrs, allOne, datOf, datOf1, TIS, CS, reduceAdd, reduceMul, reduceEqDiff, ↓reduceIte, reduceCtorEq, reduceLT, reduceLeDiff]
  (repeat' apply And.intro) <;> first|rfl|assumption|omega|(simp;done)|(simp;omega)|(simp_all;done)
 refine sA_n ?_
 refine a_seq ?_
 refine bool_split (b := (a1.kind == b1.kind)) (fun zc1 => ?_) (fun zc1 => ?_)
 ·have H := cond_t zc1 H
  refine bool_split (b := (a1.client == b1.client)) (fun zc2 => ?_) (fun zc2 => ?_)
  ·have H := cond_t zc2 H
   refine bool_split (b := (a1.path.toList == b1.path.toList)) (fun zc3 => ?_) (fun zc3 => ?_)
   ·have H := cond_t zc3 H
    refine bool_split (b := (a1.to_.toList == b1.to_.toList)) (fun zc4 => ?_) (fun zc4 => ?_)
    ·have H := cond_t zc4 H
     refine bool_split (b := (a1.n == b1.n)) (fun zc5 => ?_) (fun zc5 => ?_)
     ·have H := cond_t zc5 H
      refine bool_split (b := (a1.m == b1.m)) (fun zc6 => ?_) (fun zc6 => ?_)
      ·have H := cond_t zc6 H
       refine bool_split (b := (a1.handle == b1.handle)) (fun zc7 => ?_) (fun zc7 => ?_)
       ·have H := cond_t zc7 H
        obtain ⟨r1, zh1, H⟩ := bind_some H
        have zk1 := ref01_Same_pc zh1
        refine a_reg _ rfl (s := ?zs2) ?_ ?_
        rotate_left
        ·try simp only [EVT, stepR, evOp, St.ev, St.app, St.put, wrs, evFieldAddr, evLoad, cut, evBin, binInt, datOf, datOf1, frz, TIS, CS, reduceAdd, reduceMul, reduceEqDiff, ↓reduceIte, reduceCtorEq, reduceLT, reduceLeDiff, Array.reduceGetElem?, reduceSub, Nat.reduceBEq, ↓zc1, ↓zc2, ↓zc3, ↓zc4, ↓zc5, ↓zc6, ↓zc7]
         repeat' with_reducible apply And.intro
         all_goals try ((with_reducible show CallR _ _ _ _ _ _ _); refine cR_s zk1 (.cons (.lst _ _ _ (ci_pu .u8) rfl) (.cons (.lst _ _ _ (ci_pu .u8) rfl) .nil)) (.bool _) ?_; simp only [EVT, stepR, evOp, St.ev, St.app, St.put, wrs, evFieldAddr, evLoad, cut, evBin, binInt, datOf, datOf1, frz, TIS, CS, reduceAdd, reduceMul, reduceEqDiff, ↓reduceIte, reduceCtorEq, reduceLT, reduceLeDiff, Array.reduceGetElem?, reduceSub, Nat.reduceBEq, ↓zc1, ↓zc2, ↓zc3, ↓zc4, ↓zc5, ↓zc6, ↓zc7])
         all_goals ((repeat' apply And.intro) <;> first|rfl|assumption|omega|(simp;done)|(simp;omega)|(simp_all;done))
        refine sA_n ?_
        refine a_ret ?_
        obtain rfl := Option.some.inj H
        refine e_r2 (d := ?zd1) ?_ ?_
        rotate_left
        ·simp only [EVT, resR, single, evLoad, cut, TIS, CS, reduceAdd, reduceEqDiff, ↓reduceIte, reduceCtorEq, reduceLT, reduceLeDiff, reduceSub, Nat.reduceBEq, zc1, zc2, zc3, zc4, zc5, zc6, zc7]
         (repeat' apply And.intro) <;> first | rfl | assumption | omega | (simp; done)
        exact (.bool' rfl)
       ·have H := cond_f zc7 H
        refine a_reg _ rfl (s := ?zs3) ?_ ?_
        rotate_left
        ·simp only [EVT, stepR, evOp, St.ev, St.app, St.put, wrs, evFieldAddr, evLoad, cut, evBin, binInt, datOf, datOf1, frz, TIS, CS, reduceAdd, reduceMul, reduceEqDiff, ↓reduceIte, reduceCtorEq, reduceLT, reduceLeDiff, Array.reduceGetElem?, reduceSub, Nat.reduceBEq, ↓zc1, ↓zc2, ↓zc3, ↓zc4, ↓zc5, ↓zc6, ↓zc7]
         try simp only [EVT, stepR, evOp, St.ev, St.app, St.put, wrs, evFieldAddr, evLoad, cut, evBin, binInt, datOf, datOf1, frz, TIS, CS, reduceAdd, reduceMul, reduceEqDiff, ↓reduceIte, reduceCtorEq, reduceLT, reduceLeDiff, Array.reduceGetElem?, reduceSub, Nat.reduceBEq, ↓zc1, ↓zc2, ↓zc3, ↓zc4, ↓zc5, ↓zc6, ↓zc7]
         (repeat' apply And.intro) <;> first|rfl|assumption|omega|(simp;done)|(simp;omega)|(simp_all;done)
        refine sA_n ?_
        refine a_ret ?_
        obtain rfl := Option.some.inj H
        refine e_r2 (d := ?zd2) ?_ ?_
        rotate_left
        ·simp only [EVT, resR, single, evLoad, cut, TIS, CS, reduceAdd, reduceEqDiff, ↓reduceIte, reduceCtorEq, reduceLT, reduceLeDiff, reduceSub, Nat.reduceBEq, zc1, zc2, zc3, zc4, zc5, zc6, zc7]
         (repeat' apply And.intro) <;> first | rfl | assumption | omega | (simp; done)
        exact (.bool' (by first | rfl | assumption | (simp_all; done)))
      ·have H := cond_f zc6 H
       refine a_reg _ rfl (s := ?zs4) ?_ ?_
       rotate_left
       ·simp only [EVT, stepR, evOp, St.ev, St.app, St.put, wrs, evFieldAddr, evLoad, cut, evBin, binInt, datOf, datOf1, frz, TIS, CS, reduceAdd, reduceMul, reduceEqDiff, ↓reduceIte, reduceCtorEq, reduceLT, reduceLeDiff, Array.reduceGetElem?, reduceSub, Nat.reduceBEq, ↓zc1, ↓zc2, ↓zc3, ↓zc4, ↓zc5, ↓zc6]
        try simp only [EVT, stepR, evOp, St.ev, St.app, St.put, wrs, evFieldAddr, evLoad, cut, evBin, binInt, datOf, datOf1, frz, TIS, CS, reduceAdd, reduceMul, reduceEqDiff, ↓reduceIte, reduceCtorEq, reduceLT, reduceLeDiff, Array.reduceGetElem?, reduceSub, Nat.reduceBEq, ↓zc1, ↓zc2, ↓zc3, ↓zc4, ↓zc5, ↓zc6]
        (repeat' apply And.intro) <;> first|rfl|assumption|omega|(simp;done)|(simp;omega)|(simp_all;done)
       refine sA_n ?_
       refine a_ret ?_
       obtain rfl := Option.some.inj H
       refine e_r2 (d := ?zd3) ?_ ?_
       rotate_left
       ·simp only [EVT, resR, single, evLoad, cut, TIS, CS, reduceAdd, reduceEqDiff, ↓reduceIte, reduceCtorEq, reduceLT, reduceLeDiff, reduceSub, Nat.reduceBEq, zc1, zc2, zc3, zc4, zc5, zc6]
        (repeat' apply And.intro) <;> first | rfl | assumption | omega | (simp; done)
       exact (.bool' (by first | rfl | assumption | (simp_all; done)))
     ·have H := cond_f zc5 H
      refine a_reg _ rfl (s := ?zs5) ?_ ?_
      rotate_left
      ·simp only [EVT, stepR, evOp, St.ev, St.app, St.put, wrs, evFieldAddr, evLoad, cut, evBin, binInt, datOf, datOf1, frz, TIS, CS, reduceAdd, reduceMul, reduceEqDiff, ↓reduceIte, reduceCtorEq, reduceLT, reduceLeDiff, Array.reduceGetElem?, reduceSub, Nat.reduceBEq, ↓zc1, ↓zc2, ↓zc3, ↓zc4, ↓zc5]
       try simp only [EVT, stepR, evOp, St.ev, St.app, St.put, wrs, evFieldAddr, evLoad, cut, evBin, binInt, datOf, datOf1, frz, TIS, CS, reduceAdd, reduceMul, reduceEqDiff, ↓reduceIte, reduceCtorEq, reduceLT, reduceLeDiff, Array.reduceGetElem?, reduceSub, Nat.reduceBEq, ↓zc1, ↓zc2, ↓zc3, ↓zc4, ↓zc5]
       (repeat' apply And.intro) <;> first|rfl|assumption|omega|(simp;done)|(simp;omega)|(simp_all;done)
      refine sA_n ?_
      refine a_ret ?_
      obtain rfl := Option.some.inj H
      refine e_r2 (d := ?zd4) ?_ ?_
      rotate_left
      ·simp only [EVT, resR, single, evLoad, cut, TIS, CS, reduceAdd, reduceEqDiff, ↓reduceIte, reduceCtorEq, reduceLT, reduceLeDiff, reduceSub, Nat.reduceBEq, zc1, zc2, zc3, zc4, zc5]
       (repeat' apply And.intro) <;> first | rfl | assumption | omega | (simp; done)
      exact (.bool' (by first | rfl | assumption | (simp_all; done)))
    ·have H := cond_f zc4 H
     refine a_reg _ rfl (s := ?zs6) ?_ ?_
     rotate_left
     ·simp only [EVT, stepR, evOp, St.ev, St.app, St.put, wrs, evFieldAddr, evLoad, cut, evBin, binInt, datOf, datOf1, frz, TIS, CS, reduceAdd, reduceMul, reduceEqDiff, ↓reduceIte, reduceCtorEq, reduceLT, reduceLeDiff, Array.reduceGetElem?, reduceSub, Nat.reduceBEq, ↓zc1, ↓zc2, ↓zc3, ↓zc4]
      try simp only [EVT, stepR, evOp, St.ev, St.app, St.put, wrs, evFieldAddr, evLoad, cut, evBin, binInt, datOf, datOf1, frz, TIS, CS, reduceAdd, reduceMul, reduceEqDiff, ↓reduceIte, reduceCtorEq, reduceLT, reduceLeDiff, Array.reduceGetElem?, reduceSub, Nat.reduceBEq, ↓zc1, ↓zc2, ↓zc3, ↓zc4]
      (repeat' apply And.intro) <;> first|rfl|assumption|omega|(simp;done)|(simp;omega)|(simp_all;done)
     refine sA_n ?_
     refine a_ret ?_
     obtain rfl := Option.some.inj H
     refine e_r2 (d := ?zd5) ?_ ?_
     rotate_left
     ·simp only [EVT, resR, single, evLoad, cut, TIS, CS, reduceAdd, reduceEqDiff, ↓reduceIte, reduceCtorEq, reduceLT, reduceLeDiff, reduceSub, Nat.reduceBEq, zc1, zc2, zc3, zc4]
      (repeat' apply And.intro) <;> first | rfl | assumption | omega | (simp; done)
     exact (.bool' (by first | rfl | assumption | (simp_all; done)))
   ·have H := cond_f zc3 H
    refine a_reg _ rfl (s := ?zs7) ?_ ?_
    rotate_left
    ·simp only [EVT, stepR, evOp, St.ev, St.app, St.put, wrs, evFieldAddr, evLoad, cut, evBin, binInt, datOf, datOf1, frz, TIS, CS, reduceAdd, reduceMul, reduceEqDiff, ↓reduceIte, reduceCtorEq, reduceLT, reduceLeDiff, Array.reduceGetElem?, reduceSub, Nat.reduceBEq, ↓zc1, ↓zc2, ↓zc3]
     try simp only [EVT, stepR, evOp, St.ev, St.app, St.put, wrs, evFieldAddr, evLoad, cut, evBin, binInt, datOf, datOf1, frz, TIS, CS, reduceAdd, reduceMul, reduceEqDiff, ↓reduceIte, reduceCtorEq, reduceLT, reduceLeDiff, Array.reduceGetElem?, reduceSub, Nat.reduceBEq, ↓zc1, ↓zc2, ↓zc3]
     (repeat' apply And.intro) <;> first|rfl|assumption|omega|(simp;done)|(simp;omega)|(simp_all;done)
    refine sA_n ?_
    refine a_ret ?_
    obtain rfl := Option.some.inj H
    refine e_r2 (d := ?zd6) ?_ ?_
    rotate_left
    ·simp only [EVT, resR, single, evLoad, cut, TIS, CS, reduceAdd, reduceEqDiff, ↓reduceIte, reduceCtorEq, reduceLT, reduceLeDiff, reduceSub, Nat.reduceBEq, zc1, zc2, zc3]
     (repeat' apply And.intro) <;> first | rfl | assumption | omega | (simp; done)
    exact (.bool' (by first | rfl | assumption | (simp_all; done)))
  ·have H := cond_f zc2 H
   refine a_reg _ rfl (s := ?zs8) ?_ ?_
   rotate_left
   ·simp only [EVT, stepR, evOp, St.ev, St.app, St.put, wrs, evFieldAddr, evLoad, cut, evBin, binInt, datOf, datOf1, frz, TIS, CS, reduceAdd, reduceMul, reduceEqDiff, ↓reduceIte, reduceCtorEq, reduceLT, reduceLeDiff, Array.reduceGetElem?, reduceSub, Nat.reduceBEq, ↓zc1, ↓zc2]
    try simp only [EVT, stepR, evOp, St.ev, St.app, St.put, wrs, evFieldAddr, evLoad, cut, evBin, binInt, datOf, datOf1, frz, TIS, CS, reduceAdd, reduceMul, reduceEqDiff, ↓reduceIte, reduceCtorEq, reduceLT, reduceLeDiff, Array.reduceGetElem?, reduceSub, Nat.reduceBEq, ↓zc1, ↓zc2]
    (repeat' apply And.intro) <;> first|rfl|assumption|omega|(simp;done)|(simp;omega)|(simp_all;done)
   refine sA_n ?_
   refine a_ret ?_
   obtain rfl := Option.some.inj H
   refine e_r2 (d := ?zd7) ?_ ?_
   rotate_left
   ·simp only [EVT, resR, single, evLoad, cut, TIS, CS, reduceAdd, reduceEqDiff, ↓reduceIte, reduceCtorEq, reduceLT, reduceLeDiff, reduceSub, Nat.reduceBEq, zc1, zc2]
    (repeat' apply And.intro) <;> first | rfl | assumption | omega | (simp; done)
   exact (.bool' (by first | rfl | assumption | (simp_all; done)))
 ·have H := cond_f zc1 H
  refine a_reg _ rfl (s := ?zs9) ?_ ?_
  rotate_left
  ·simp only [EVT, stepR, evOp, St.ev, St.app, St.put, wrs, evFieldAddr, evLoad, cut, evBin, binInt, datOf, datOf1, frz, TIS, CS, reduceAdd, reduceMul, reduceEqDiff, ↓reduceIte, reduceCtorEq, reduceLT, reduceLeDiff, Array.reduceGetElem?, reduceSub, Nat.reduceBEq, ↓zc1]
   try simp only [EVT, stepR, evOp, St.ev, St.app, St.put, wrs, evFieldAddr, evLoad, cut, evBin, binInt, datOf, datOf1, frz, TIS, CS, reduceAdd, reduceMul, reduceEqDiff, ↓reduceIte, reduceCtorEq, reduceLT, reduceLeDiff, Array.reduceGetElem?, reduceSub, Nat.reduceBEq, ↓zc1]
   (repeat' apply And.intro) <;> first|rfl|assumption|omega|(simp;done)|(simp;omega)|(simp_all;done)
  refine sA_n ?_
  refine a_ret ?_
  obtain rfl := Option.some.inj H
  refine e_r2 (d := ?zd8) ?_ ?_
  rotate_left
  ·simp only [EVT, resR, single, evLoad, cut, TIS, CS, reduceAdd, reduceEqDiff, ↓reduceIte, reduceCtorEq, reduceLT, reduceLeDiff, reduceSub, Nat.reduceBEq, zc1]
   (repeat' apply And.intro) <;> first | rfl | assumption | omega | (simp; done)
  exact (.bool' (by first | rfl | assumption | (simp_all; done)))
def ref01_SameAns_J2 : Option Bool :=
 some (true)
def ref01_SameAns_L1 (a1 : Ans) (b1 : Ans) : Nat → Int → Option Bool
 | 0, _ => none
 | m_ + 1, i1 => cond (decide (i1 < (a1.names.length : Int))) ((idx a1.names i1).bind fun x1 => (idx b1.names i1).bind fun x2 => cond (!(x1.toList == x2.toList)) (some (false)) (ref01_SameAns_L1 a1 b1 m_ (IntKind.wrap .i64 (i1 + 1)))) (ref01_SameAns_J2)
def ref01_SameAns_J1 (a1 : Ans) (b1 : Ans) (v1 : Bool) : Option Bool :=
 cond v1 (some (false)) (ref01_SameAns_L1 a1 b1 BIG 0)
def ref01_SameAns_f (a1 : Ans) (b1 : Ans) : Option Bool :=
 cond (a1.err != b1.err) (ref01_SameAns_J1 a1 b1 true) (cond (a1.ino != b1.ino) (ref01_SameAns_J1 a1 b1 true) (cond (a1.kind != b1.kind) (ref01_SameAns_J1 a1 b1 true) (cond (a1.n != b1.n) (ref01_SameAns_J1 a1 b1 true) (cond (a1.m != b1.m) (ref01_SameAns_J1 a1 b1 true) (cond ((a1.names.length : Int) != (b1.names.length : Int)) (ref01_SameAns_J1 a1 b1 true) ((ref01_Same_f a1.data b1.data).bind fun r1 => ref01_SameAns_J1 a1 b1 (!r1)))))))
set_option maxHeartbeats 4000000 in
set_option maxRecDepth 20000 in
theorem ref01_SameAns_pc {a1 : Ans} {b1 : Ans} {r : Bool} (H : ref01_SameAns_f a1 b1 = some r) : PC Try.prog 16 [.agg (Ans.c a1), .agg (Ans.c b1)] (.bool r) := by
 refine pcA_of Try.func16 (by rfl) (by decide) 74 (by rfl) [.tmp 4] (by rfl) ?_
 unfold ref01_SameAns_f at H
 simp only [ent]
 refine a_seq ?_
 refine a_reg _ rfl (s := ?zs1) ?_ ?_
 rotate_left
 ·simp only [EVT, stepR, evOp, St.ev, St.app, St.put, wrs, allOne, datOf, datOf1, TIS, CS, reduceAdd, reduceMul, reduceEqDiff, ↓reduceIte, reduceCtorEq, reduceLT, reduceLeDiff]
  (repeat' apply And.intro) <;> first|rfl|assumption|omega|(simp;done)|(simp;omega)|(simp_all;done)
 refine sA_n ?_
 refine a_seq ?_
 refine a_cut (fun s => ∃ (v1 : Bool) (t0 : Nat → Dat), ref01_SameAns_J1 a1 b1 v1 = some r ∧ s = ⟨tl t0 [(2, .ptr 0 0 0 7), (3, .ptr 1 0 0 7), (55, .bool v1)], hl [⟨30, 7, false, [[.int .i64 a1.err, .int .i64 a1.ino, .int .i64 a1.kind, .int .i64 a1.n, .int .i64 a1.m, .list 1 (a1.names.map cs), .list 1 (a1.data.map (ci .u8))]]⟩, ⟨30, 7, false, [[.int .i64 b1.err, .int .i64 b1.ino, .int .i64 b1.kind, .int .i64 b1.n, .int .i64 b1.m, .list 1 (b1.names.map cs), .list 1 (b1.data.map (ci .u8))]]⟩], 2, 74⟩) ?_ ?_
 ·refine bool_split (b := (a1.err != b1.err)) (fun zc4 => ?_) (fun zc4 => ?_)
  ·have H := cond_t zc4 H
   refine a_reg _ rfl (s := ?zs9) ?_ ?_
   rotate_left
   ·simp only [EVT, stepR, evOp, St.ev, St.app, St.put, wrs, evFieldAddr, evLoad, cut, evBin, binInt, datOf, datOf1, evBuiltin, frz, evUn, TIS, CS, reduceAdd, reduceMul, reduceEqDiff, ↓reduceIte, reduceCtorEq, reduceLT, reduceLeDiff, Array.reduceGetElem?, reduceSub, Nat.reduceBEq, ↓zc4]
    try simp only [EVT, stepR, evOp, St.ev, St.app, St.put, wrs, evFieldAddr, evLoad, cut, evBin, binInt, datOf, datOf1, evBuiltin, frz, evUn, TIS, CS, reduceAdd, reduceMul, reduceEqDiff, ↓reduceIte, reduceCtorEq, reduceLT, reduceLeDiff, Array.reduceGetElem?, reduceSub, Nat.reduceBEq, ↓zc4]
    (repeat' apply And.intro) <;> first|rfl|assumption|omega|(simp;done)|(simp;omega)|(simp_all;done)
   refine cA_n ?_
   refine wk_l [(some 0, ⟨30, 7, false, [[.int .i64 a1.err, .int .i64 a1.ino, .int .i64 a1.kind, .int .i64 a1.n, .int .i64 a1.m, .list 1 (a1.names.map cs), .list 1 (a1.data.map (ci .u8))]]⟩), (some 1, ⟨30, 7, false, [[.int .i64 b1.err, .int .i64 b1.ino, .int .i64 b1.kind, .int .i64 b1.n, .int .i64 b1.m, .list 1 (b1.names.map cs), .list 1 (b1.data.map (ci .u8))]]⟩)] [] [(2, .ptr 0 0 0 7), (3, .ptr 1 0 0 7), (55, .bool true)] (by show ([2, 3, 55] : List Nat).Nodup; decide) (by show ([0, 1] : List Nat).Nodup; decide) ?_ ?_ (fun t0 => ⟨true, t0, H, rfl⟩)
   ·exact (allB_some (by rfl) rfl (.cons (.cons (.int' rfl) (.cons (.int' rfl) (.cons (.int' rfl) (.cons (.int' rfl) (.cons (.int' rfl) (.cons (.lst _ _ _ cs_pu rfl) (.cons (.lst _ _ _ (ci_pu .u8) rfl) .nil))))))) .nil) (allB_some (by rfl) rfl (.cons (.cons (.int' rfl) (.cons (.int' rfl) (.cons (.int' rfl) (.cons (.int' rfl) (.cons (.int' rfl) (.cons (.lst _ _ _ cs_pu rfl) (.cons (.lst _ _ _ (ci_pu .u8) rfl) .nil))))))) .nil) trivial))
   ·(simp only [AllT, tl_cons, tl_nil, upd_apply, List.getD_cons_zero, List.getD_cons_succ, reduceEqDiff, ↓reduceIte, and_true]); exact ⟨(.ptr _ _ _ _ _ rfl), (.ptr _ _ _ _ _ rfl), (.bool' (by first | rfl | assumption | (simp_all; done)))⟩
  ·have H := cond_f zc4 H
   refine bool_split (b := (a1.ino != b1.ino)) (fun zc5 => ?_) (fun zc5 => ?_)
   ·have H := cond_t zc5 H
    refine a_reg _ rfl (s := ?zs10) ?_ ?_
    rotate_left
    ·simp only [EVT, stepR, evOp, St.ev, St.app, St.put, wrs, evFieldAddr, evLoad, cut, evBin, binInt, datOf, datOf1, evBuiltin, frz, evUn, TIS, CS, reduceAdd, reduceMul, reduceEqDiff, ↓reduceIte, reduceCtorEq, reduceLT, reduceLeDiff, Array.reduceGetElem?, reduceSub, Nat.reduceBEq, ↓zc4, ↓zc5]
     try simp only [EVT, stepR, evOp, St.ev, St.app, St.put, wrs, evFieldAddr, evLoad, cut, evBin, binInt, datOf, datOf1, evBuiltin, frz, evUn, TIS, CS, reduceAdd, reduceMul, reduceEqDiff, ↓reduceIte, reduceCtorEq, reduceLT, reduceLeDiff, Array.reduceGetElem?, reduceSub, Nat.reduceBEq, ↓zc4, ↓zc5]
     (repeat' apply And.intro) <;> first|rfl|assumption|omega|(simp;done)|(simp;omega)|(simp_all;done)
    refine cA_n ?_
    refine wk_l [(some 0, ⟨30, 7, false, [[.int .i64 a1.err, .int .i64 a1.ino, .int .i64 a1.kind, .int .i64 a1.n, .int .i64 a1.m, .list 1 (a1.names.map cs), .list 1 (a1.data.map (ci .u8))]]⟩), (some 1, ⟨30, 7, false, [[.int .i64 b1.err, .int .i64 b1.ino, .int .i64 b1.kind, .int .i64 b1.n, .int .i64 b1.m, .list 1 (b1.names.map cs), .list 1 (b1.data.map (ci .u8))]]⟩)] [] [(2, .ptr 0 0 0 7), (3, .ptr 1 0 0 7), (55, .bool true)] (by show ([2, 3, 55] : List Nat).Nodup; decide) (by show ([0, 1] : List Nat).Nodup; decide) ?_ ?_ (fun t0 => ⟨true, t0, H, rfl⟩)
    ·exact (allB_some (by rfl) rfl (.cons (.cons (.int' rfl) (.cons (.int' rfl) (.cons (.int' rfl) (.cons (.int' rfl) (.cons (.int' rfl) (.cons (.lst _ _ _ cs_pu rfl) (.cons (.lst _ _ _ (ci_pu .u8) rfl) .nil))))))) .nil) (allB_some (by rfl) rfl (.cons (.cons (.int' rfl) (.cons (.int' rfl) (.cons (.int' rfl) (.cons (.int' rfl) (.cons (.int' rfl) (.cons (.lst _ _ _ cs_pu rfl) (.cons (.lst _ _ _ (ci_pu .u8) rfl) .nil))))))) .nil) trivial))
    ·(simp only [AllT, tl_cons, tl_nil, upd_apply, List.getD_cons_zero, List.getD_cons_succ, reduceEqDiff, ↓reduceIte, and_true]); exact ⟨(.ptr _ _ _ _ _ rfl), (.ptr _ _ _ _ _ rfl), (.bool' (by first | rfl | assumption | (simp_all; done)))⟩
   ·have H := cond_f zc5 H
    refine bool_split (b := (a1.kind != b1.kind)) (fun zc6 => ?_) (fun zc6 => ?_)
    ·have H := cond_t zc6 H
     refine a_reg _ rfl (s := ?zs11) ?_ ?_
     rotate_left
     ·simp only [EVT, stepR, evOp, St.ev, St.app, St.put, wrs, evFieldAddr, evLoad, cut, evBin, binInt, datOf, datOf1, evBuiltin, frz, evUn, TIS, CS, reduceAdd, reduceMul, reduceEqDiff, ↓reduceIte, reduceCtorEq, reduceLT, reduceLeDiff, Array.reduceGetElem?, reduceSub, Nat.reduceBEq, ↓zc4, ↓zc5, ↓zc6]
      try simp only [EVT, stepR, evOp, St.ev, St.app, St.put, wrs, evFieldAddr, evLoad, cut, evBin, binInt, datOf, datOf1, evBuiltin, frz, evUn, TIS, CS, reduceAdd, reduceMul, reduceEqDiff, ↓reduceIte, reduceCtorEq, reduceLT, reduceLeDiff, Array.reduceGetElem?, reduceSub, Nat.reduceBEq, ↓zc4, ↓zc5, ↓zc6]
      (repeat' apply And.intro) <;> first|rfl|assumption|omega|(simp;done)|(simp;omega)|(simp_all;done)
     refine cA_n ?_
     refine wk_l [(some 0, ⟨30, 7, false, [[.int .i64 a1.err, .int .i64 a1.ino, .int .i64 a1.kind, .int .i64 a1.n, .int .i64 a1.m, .list 1 (a1.names.map cs), .list 1 (a1.data.map (ci .u8))]]⟩), (some 1, ⟨30, 7, false, [[.int .i64 b1.err, .int .i64 b1.ino, .int .i64 b1.kind, .int .i64 b1.n, .int .i64 b1.m, .list 1 (b1.names.map cs), .list 1 (b1.data.map (ci .u8))]]⟩)] [] [(2, .ptr 0 0 0 7), (3, .ptr 1 0 0 7), (55, .bool true)] (by show ([2, 3, 55] : List Nat).Nodup; decide) (by show ([0, 1] : List Nat).Nodup; decide) ?_ ?_ (fun t0 => ⟨true, t0, H, rfl⟩)
     ·exact (allB_some (by rfl) rfl (.cons (.cons (.int' rfl) (.cons (.int' rfl) (.cons (.int' rfl) (.cons (.int' rfl) (.cons (.int' rfl) (.cons (.lst _ _ _ cs_pu rfl) (.cons (.lst _ _ _ (ci_pu .u8) rfl) .nil))))))) .nil) (allB_some (by rfl) rfl (.cons (.cons (.int' rfl) (.cons (.int' rfl) (.cons (.int' rfl) (.cons (.int' rfl) (.cons (.int' rfl) (.cons (.lst _ _ _ cs_pu rfl) (.cons (.lst _ _ _ (ci_pu .u8) rfl) .nil))))))) .nil) trivial))
     ·(simp only [AllT, tl_cons, tl_nil, upd_apply, List.getD_cons_zero, List.getD_cons_succ, reduceEqDiff, ↓reduceIte, and_true]); exact ⟨(.ptr _ _ _ _ _ rfl), (.ptr _ _ _ _ _ rfl), (.bool' (by first | rfl | assumption | (simp_all; done)))⟩
    ·have H := cond_f zc6 H
     refine bool_split (b := (a1.n != b1.n)) (fun zc7 => ?_) (fun zc7 => ?_)
     ·have H := cond_t zc7 H
      refine a_reg _ rfl (s := ?zs12) ?_ ?_
      rotate_left
      ·simp only [EVT, stepR, evOp, St.ev, St.app, St.put, wrs, evFieldAddr, evLoad, cut, evBin, binInt, datOf, datOf1, evBuiltin, frz, evUn, TIS, CS, reduceAdd, reduceMul, reduceEqDiff, ↓reduceIte, reduceCtorEq, reduceLT, reduceLeDiff, Array.reduceGetElem?, reduceSub, Nat.reduceBEq, ↓zc4, ↓zc5, ↓zc6, ↓zc7]
       try simp only [EVT, stepR, evOp, St.ev, St.app, St.put, wrs, evFieldAddr, evLoad, cut, evBin, binInt, datOf, datOf1, evBuiltin, frz, evUn, TIS, CS, reduceAdd, reduceMul, reduceEqDiff, ↓reduceIte, reduceCtorEq, reduceLT, reduceLeDiff, Array.reduceGetElem?, reduceSub, Nat.reduceBEq, ↓zc4, ↓zc5, ↓zc6, ↓zc7]
       (repeat' apply And.intro) <;> first|rfl|assumption|omega|(simp;done)|(simp;omega)|(simp_all;done)
      refine cA_n ?_
      refine wk_l [(some 0, ⟨30, 7, false, [[.int .i64 a1.err, .int .i64 a1.ino, .int .i64 a1.kind, .int .i64 a1.n, .int .i64 a1.m, .list 1 (a1.names.map cs), .list 1 (a1.data.map (ci .u8))]]⟩), (some 1, ⟨30, 7, false, [[.int .i64 b1.err, .int .i64 b1.ino, .int .i64 b1.kind, .int .i64 b1.n, .int .i64 b1.m, .list 1 (b1.names.map cs), .list 1 (b1.data.map (ci .u8))]]⟩)] [] [(2, .ptr 0 0 0 7), (3, .ptr 1 0 0 7), (55, .bool true)] (by show ([2, 3, 55] : List Nat).Nodup; decide) (by show ([0, 1] : List Nat).Nodup; decide) ?_ ?_ (fun t0 => ⟨true, t0, H, rfl⟩)
      ·exact (allB_some (by rfl) rfl (.cons (.cons (.int' rfl) (.cons (.int' rfl) (.cons (.int' rfl) (.cons (.int' rfl) (.cons (.int' rfl) (.cons (.lst _ _ _ cs_pu rfl) (.cons (.lst _ _ _ (ci_pu .u8) rfl) .nil))))))) .nil) (allB_some (by rfl) rfl (.cons (.cons (.int' rfl) (.cons (.int' rfl) (.cons (.int' rfl) (.cons (.int' rfl) (.cons (.int' rfl) (.cons (.lst _ _ _ cs_pu rfl) (.cons (.lst _ _ _ (ci_pu .u8) rfl) .nil))))))) .nil) trivial))
      ·(simp only [AllT, tl_cons, tl_nil, upd_apply, List.getD_cons_zero, List.getD_cons_succ, reduceEqDiff, ↓reduceIte, and_true]); exact ⟨(.ptr _ _ _ _ _ rfl), (.ptr _ _ _ _ _ rfl), (.bool' (by first | rfl | assumption | (simp_all; done)))⟩
     ·have H := cond_f zc7 H
      refine bool_split (b := (a1.m != b1.m)) (fun zc8 => ?_) (fun zc8 => ?_)
      ·have H := cond_t zc8 H
       refine a_reg _ rfl (s := ?zs13) ?_ ?_
       rotate_left
       ·simp only [EVT, stepR, evOp, St.ev, St.app, St.put, wrs, evFieldAddr, evLoad, cut, evBin, binInt, datOf, datOf1, evBuiltin, frz, evUn, TIS, CS, reduceAdd, reduceMul, reduceEqDiff, ↓reduceIte, reduceCtorEq, reduceLT, reduceLeDiff, Array.reduceGetElem?, reduceSub, Nat.reduceBEq, ↓zc4, ↓zc5, ↓zc6, ↓zc7, ↓zc8]
        try simp only [EVT, stepR, evOp, St.ev, St.app, St.put, wrs, evFieldAddr, evLoad, cut, evBin, binInt, datOf, datOf1, evBuiltin, frz, evUn, TIS, CS, reduceAdd, reduceMul, reduceEqDiff, ↓reduceIte, reduceCtorEq, reduceLT, reduceLeDiff, Array.reduceGetElem?, reduceSub, Nat.reduceBEq, ↓zc4, ↓zc5, ↓zc6, ↓zc7, ↓zc8]
        (repeat' apply And.intro) <;> first|rfl|assumption|omega|(simp;done)|(simp;omega)|(simp_all;done)
       refine cA_n ?_
       refine wk_l [(some 0, ⟨30, 7, false, [[.int .i64 a1.err, .int .i64 a1.ino, .int .i64 a1.kind, .int .i64 a1.n, .int .i64 a1.m, .list 1 (a1.names.map cs), .list 1 (a1.data.map (ci .u8))]]⟩), (some 1, ⟨30, 7, false, [[.int .i64 b1.err, .int .i64 b1.ino, .int .i64 b1.kind, .int .i64 b1.n, .int .i64 b1.m, .list 1 (b1.names.map cs), .list 1 (b1.data.map (ci .u8))]]⟩)] [] [(2, .ptr 0 0 0 7), (3, .ptr 1 0 0 7), (55, .bool true)] (by show ([2, 3, 55] : List Nat).Nodup; decide) (by show ([0, 1] : List Nat).Nodup; decide) ?_ ?_ (fun t0 => ⟨true, t0, H, rfl⟩)
       ·exact (allB_some (by rfl) rfl (.cons (.cons (.int' rfl) (.cons (.int' rfl) (.cons (.int' rfl) (.cons (.int' rfl) (.cons (.int' rfl) (.cons (.lst _ _ _ cs_pu rfl) (.cons (.lst _ _ _ (ci_pu .u8) rfl) .nil))))))) .nil) (allB_some (by rfl) rfl (.cons (.cons (.int' rfl) (.cons (.int' rfl) (.cons (.int' rfl) (.cons (.int' rfl) (.cons (.int' rfl) (.cons (.lst _ _ _ cs_pu rfl) (.cons (.lst _ _ _ (ci_pu .u8) rfl) .nil))))))) .nil) trivial))
       ·(simp only [AllT, tl_cons, tl_nil, upd_apply, List.getD_cons_zero, List.getD_cons_succ, reduceEqDiff, ↓reduceIte, and_true]); exact ⟨(.ptr _ _ _ _ _ rfl), (.ptr _ _ _ _ _ rfl), (.bool' (by first | rfl | assumption | (simp_all; done)))⟩
      ·have H := cond_f zc8 H
       refine bool_split (b := ((a1.names.length : Int) != (b1.names.length : Int))) (fun zc9 => ?_) (fun zc9 => ?_)
       ·have H := cond_t zc9 H
        refine a_reg _ rfl (s := ?zs14) ?_ ?_
        rotate_left
        ·simp only [EVT, stepR, evOp, St.ev, St.app, St.put, wrs, evFieldAddr, evLoad, cut, evBin, binInt, datOf, datOf1, evBuiltin, frz, evUn, TIS, CS, reduceAdd, reduceMul, reduceEqDiff, ↓reduceIte, reduceCtorEq, reduceLT, reduceLeDiff, Array.reduceGetElem?, reduceSub, Nat.reduceBEq, ↓zc4, ↓zc5, ↓zc6, ↓zc7, ↓zc8, ↓zc9]
         try simp only [EVT, stepR, evOp, St.ev, St.app, St.put, wrs, evFieldAddr, evLoad, cut, evBin, binInt, datOf, datOf1, evBuiltin, frz, evUn, TIS, CS, reduceAdd, reduceMul, reduceEqDiff, ↓reduceIte, reduceCtorEq, reduceLT, reduceLeDiff, Array.reduceGetElem?, reduceSub, Nat.reduceBEq, ↓zc4, ↓zc5, ↓zc6, ↓zc7, ↓zc8, ↓zc9]
         (repeat' apply And.intro) <;> first|rfl|assumption|omega|(simp;done)|(simp;omega)|(simp_all;done)
        refine cA_n ?_
        refine wk_l [(some 0, ⟨30, 7, false, [[.int .i64 a1.err, .int .i64 a1.ino, .int .i64 a1.kind, .int .i64 a1.n, .int .i64 a1.m, .list 1 (a1.names.map cs), .list 1 (a1.data.map (ci .u8))]]⟩), (some 1, ⟨30, 7, false, [[.int .i64 b1.err, .int .i64 b1.ino, .int .i64 b1.kind, .int .i64 b1.n, .int .i64 b1.m, .list 1 (b1.names.map cs), .list 1 (b1.data.map (ci .u8))]]⟩)] [] [(2, .ptr 0 0 0 7), (3, .ptr 1 0 0 7), (55, .bool true)] (by show ([2, 3, 55] : List Nat).Nodup; decide) (by show ([0, 1] : List Nat).Nodup; decide) ?_ ?_ (fun t0 => ⟨true, t0, H, rfl⟩)
        ·exact (allB_some (by rfl) rfl (.cons (.cons (.int' rfl) (.cons (.int' rfl) (.cons (.int' rfl) (.cons (.int' rfl) (.cons (.int' rfl) (.cons (.lst _ _ _ cs_pu rfl) (.cons (.lst _ _ _ (ci_pu .u8) rfl) .nil))))))) .nil) (allB_some (by rfl) rfl (.cons (.cons (.int' rfl) (.cons (.int' rfl) (.cons (.int' rfl) (.cons (.int' rfl) (.cons (.int' rfl) (.cons (.lst _ _ _ cs_pu rfl) (.cons (.lst _ _ _ (ci_pu .u8) rfl) .nil))))))) .nil) trivial))
        ·(simp only [AllT, tl_cons, tl_nil, upd_apply, List.getD_cons_zero, List.getD_cons_succ, reduceEqDiff, ↓reduceIte, and_true]); exact ⟨(.ptr _ _ _ _ _ rfl), (.ptr _ _ _ _ _ rfl), (.bool' (by first | rfl | assumption | (simp_all; done)))⟩
       ·have H := cond_f zc9 H
        obtain ⟨r1, zh3, H⟩ := bind_some H
        have zk1 := ref01_Same_pc zh3
        refine a_reg _ rfl (s := ?zs15) ?_ ?_
        rotate_left
        ·try simp only [EVT, stepR, evOp, St.ev, St.app, St.put, wrs, evFieldAddr, evLoad, cut, evBin, binInt, datOf, datOf1, evBuiltin, frz, evUn, TIS, CS, reduceAdd, reduceMul, reduceEqDiff, ↓reduceIte, reduceCtorEq, reduceLT, reduceLeDiff, Array.reduceGetElem?, reduceSub, Nat.reduceBEq, ↓zc4, ↓zc5, ↓zc6, ↓zc7, ↓zc8, ↓zc9]
         repeat' with_reducible apply And.intro
         all_goals try ((with_reducible show CallR _ _ _ _ _ _ _); refine cR_s zk1 (.cons (.lst _ _ _ (ci_pu .u8) rfl) (.cons (.lst _ _ _ (ci_pu .u8) rfl) .nil)) (.bool _) ?_; simp only [EVT, stepR, evOp, St.ev, St.app, St.put, wrs, evFieldAddr, evLoad, cut, evBin, binInt, datOf, datOf1, evBuiltin, frz, evUn, TIS, CS, reduceAdd, reduceMul, reduceEqDiff, ↓reduceIte, reduceCtorEq, reduceLT, reduceLeDiff, Array.reduceGetElem?, reduceSub, Nat.reduceBEq, ↓zc4, ↓zc5, ↓zc6, ↓zc7, ↓zc8, ↓zc9])
         all_goals ((repeat' apply And.intro) <;> first|rfl|assumption|omega|(simp;done)|(simp;omega)|(simp_all;done))
        refine cA_n ?_
        refine wk_l [(some 0, ⟨30, 7, false, [[.int .i64 a1.err, .int .i64 a1.ino, .int .i64 a1.kind, .int .i64 a1.n, .int .i64 a1.m, .list 1 (a1.names.map cs), .list 1 (a1.data.map (ci .u8))]]⟩), (some 1, ⟨30, 7, false, [[.int .i64 b1.err, .int .i64 b1.ino, .int .i64 b1.kind, .int .i64 b1.n, .int .i64 b1.m, .list 1 (b1.names.map cs), .list 1 (b1.data.map (ci .u8))]]⟩)] [] [(2, .ptr 0 0 0 7), (3, .ptr 1 0 0 7), (55, .bool (!r1))] (by show ([2, 3, 55] : List Nat).Nodup; decide) (by show ([0, 1] : List Nat).Nodup; decide) ?_ ?_ (fun t0 => ⟨(!r1), t0, H, rfl⟩)
        ·exact (allB_some (by rfl) rfl (.cons (.cons (.int' rfl) (.cons (.int' rfl) (.cons (.int' rfl) (.cons (.int' rfl) (.cons (.int' rfl) (.cons (.lst _ _ _ cs_pu rfl) (.cons (.lst _ _ _ (ci_pu .u8) rfl) .nil))))))) .nil) (allB_some (by rfl) rfl (.cons (.cons (.int' rfl) (.cons (.int' rfl) (.cons (.int' rfl) (.cons (.int' rfl) (.cons (.int' rfl) (.cons (.lst _ _ _ cs_pu rfl) (.cons (.lst _ _ _ (ci_pu .u8) rfl) .nil))))))) .nil) trivial))
        ·(simp only [AllT, tl_cons, tl_nil, upd_apply, List.getD_cons_zero, List.getD_cons_succ, reduceEqDiff, ↓reduceIte, and_true]); exact ⟨(.ptr _ _ _ _ _ rfl), (.ptr _ _ _ _ _ rfl), (.bool' rfl)⟩
 ·rintro s ⟨v1, t0, H, rfl⟩
  unfold ref01_SameAns_J1 at H
  refine a_condb (v1) (by rfl) (fun zc1 => ?_) (fun zc1 => ?_)
  ·have H := cond_t zc1 H
   refine a_seq ?_
   refine a_reg _ rfl (s := ?zs2) ?_ ?_
   rotate_left
   ·simp only [EVT, stepR, evOp, St.ev, St.app, St.put, wrs, datOf, datOf1, TIS, CS, reduceAdd, reduceMul, reduceEqDiff, ↓reduceIte, reduceCtorEq, reduceLT, reduceLeDiff, ↓zc1]
    (repeat' apply And.intro) <;> first|rfl|assumption|omega|(simp;done)|(simp;omega)|(simp_all;done)
   refine sA_n ?_
   refine a_ret ?_
   refine sA_r ?_
   obtain rfl := Option.some.inj H
   refine e_r2 (d := ?zd1) ?_ ?_
   rotate_left
   ·simp only [EVT, resR, single, evLoad, cut, TIS, CS, reduceAdd, reduceEqDiff, ↓reduceIte, reduceCtorEq, reduceLT, reduceLeDiff, reduceSub, Nat.reduceBEq, zc1]
    (repeat' apply And.intro) <;> first | rfl | assumption | omega | (simp; done)
   exact (.bool' (by first | rfl | assumption | (simp_all; done)))
  ·have H := cond_f zc1 H
   refine a_skip ?_
   refine sA_n ?_
   refine a_cut (fun s => ∃ (t0 : Nat → Dat), ref01_SameAns_J2 = some r ∧ s = ⟨tl t0 [], hl [], 0, 74⟩) ?_ ?_
   ·refine a_seq ?_
    refine a_reg _ rfl (s := ?zs4) ?_ ?_
    rotate_left
    ·simp only [EVT, stepR, evOp, St.ev, St.app, St.put, wrs, datOf, datOf1, TIS, CS, reduceAdd, reduceMul, reduceEqDiff, ↓reduceIte, reduceCtorEq, reduceLT, reduceLeDiff, ↓zc1]
     (repeat' apply And.intro) <;> first|rfl|assumption|omega|(simp;done)|(simp;omega)|(simp_all;done)
    refine sA_n ?_
    refine a_blk ?_
    refine a_loop (fun m s => ∃ (i1 : Int) (t0 : Nat → Dat), ref01_SameAns_L1 a1 b1 m i1 = some r ∧ s = ⟨tl t0 [(2, .ptr 0 0 0 7), (3, .ptr 1 0 0 7), (5, .int .i64 i1)], hl [⟨30, 7, false, [[.int .i64 a1.err, .int .i64 a1.ino, .int .i64 a1.kind, .int .i64 a1.n, .int .i64 a1.m, .list 1 (a1.names.map cs), .list 1 (a1.data.map (ci .u8))]]⟩, ⟨30, 7, false, [[.int .i64 b1.err, .int .i64 b1.ino, .int .i64 b1.kind, .int .i64 b1.n, .int .i64 b1.m, .list 1 (b1.names.map cs), .list 1 (b1.data.map (ci .u8))]]⟩], 2, 74⟩) BIG ?_ ?_
    ·refine wk_l [(some 0, ⟨30, 7, false, [[.int .i64 a1.err, .int .i64 a1.ino, .int .i64 a1.kind, .int .i64 a1.n, .int .i64 a1.m, .list 1 (a1.names.map cs), .list 1 (a1.data.map (ci .u8))]]⟩), (some 1, ⟨30, 7, false, [[.int .i64 b1.err, .int .i64 b1.ino, .int .i64 b1.kind, .int .i64 b1.n, .int .i64 b1.m, .list 1 (b1.names.map cs), .list 1 (b1.data.map (ci .u8))]]⟩)] [] [(2, .ptr 0 0 0 7), (3, .ptr 1 0 0 7), (5, .int .i64 0)] (by show ([2, 3, 5] : List Nat).Nodup; decide) (by show ([0, 1] : List Nat).Nodup; decide) ?_ ?_ (fun t0 => ⟨0, t0, H, rfl⟩)
     ·exact (allB_some (by rfl) rfl (.cons (.cons (.int' rfl) (.cons (.int' rfl) (.cons (.int' rfl) (.cons (.int' rfl) (.cons (.int' rfl) (.cons (.lst _ _ _ cs_pu rfl) (.cons (.lst _ _ _ (ci_pu .u8) rfl) .nil))))))) .nil) (allB_some (by rfl) rfl (.cons (.cons (.int' rfl) (.cons (.int' rfl) (.cons (.int' rfl) (.cons (.int' rfl) (.cons (.int' rfl) (.cons (.lst _ _ _ cs_pu rfl) (.cons (.lst _ _ _ (ci_pu .u8) rfl) .nil))))))) .nil) trivial))
     ·(simp only [AllT, tl_cons, tl_nil, upd_apply, List.getD_cons_zero, List.getD_cons_succ, reduceEqDiff, ↓reduceIte, and_true]); exact ⟨(.ptr _ _ _ _ _ rfl), (.ptr _ _ _ _ _ rfl), (.int' rfl)⟩
    ·rintro m_ref01_SameAns_L1 s ⟨i1, t0, H, rfl⟩
     obtain _ | m_ref01_SameAns_L1 := m_ref01_SameAns_L1
     ·cases (show (none : Option _) = some _ from H)
     ·rw [ref01_SameAns_L1] at H
      refine a_seq ?_
      refine a_seq ?_
      refine a_reg _ rfl (s := ?zs5) ?_ ?_
      rotate_left
      ·simp only [EVT, stepR, evOp, St.ev, St.app, St.put, wrs, evFieldAddr, evLoad, cut, evBuiltin, evBin, binInt, TIS, CS, reduceAdd, reduceMul, reduceEqDiff, ↓reduceIte, reduceCtorEq, reduceLT, reduceLeDiff, reduceSub, Nat.reduceBEq]
       (repeat' apply And.intro) <;> first|rfl|assumption|omega|(simp;done)|(simp;omega)|(simp_all;done)
      refine sA_n ?_
      refine a_condb ((decide (i1 < (a1.names.length : Int)))) (by rfl) (fun zc2 => ?_) (fun zc2 => ?_)
      ·have H := cond_t zc2 H
       refine a_skip ?_
       refine sA_n ?_
       refine a_seq ?_
       refine a_blk ?_
       refine a_seq ?_
       obtain ⟨x1, zh1, H⟩ := bind_some H
       have zg1 := idx_map zh1 cs
       try simp only [Int.reduceToNat] at zg1
       obtain ⟨zh1a, zh1b, _⟩ := idx_some zh1
       obtain ⟨x2, zh2, H⟩ := bind_some H
       have zg2 := idx_map zh2 cs
       try simp only [Int.reduceToNat] at zg2
       obtain ⟨zh2a, zh2b, _⟩ := idx_some zh2
       refine a_drW (by kernel_rfl) _ rfl (s := ?zs6) (by kernel_rfl) (by kernel_rfl) ?zs6f ?_ ?_ ?_
       rotate_left 2
       ·simp only [EVT, stepW, evOp, St.ev, St.app, St.put, wrs, evFieldAddr, evLoad, cut, evIndexAddr, evBin, binInt, TIS, CS, reduceAdd, reduceMul, reduceEqDiff, ↓reduceIte, reduceCtorEq, reduceLT, reduceLeDiff, Int.reduceToNat, reduceSub, Nat.reduceBEq, ↓zc2, zg1, zg2]
        (repeat' apply And.intro) <;> first|rfl|assumption|omega|(simp;done)|(simp;omega)|(simp_all;done)
       ·kernel_rfl
       refine sA_n ?_
       refine a_condb ((!(x1.toList == x2.toList))) (by rfl) (fun zc3 => ?_) (fun zc3 => ?_)
       ·have H := cond_t zc3 H
        refine a_seq ?_
        refine a_reg _ rfl (s := ?zs7) ?_ ?_
        rotate_left
        ·simp only [EVT, stepR, evOp, St.ev, St.app, St.put, wrs, datOf, datOf1, TIS, CS, reduceAdd, reduceMul, reduceEqDiff, ↓reduceIte, reduceCtorEq, reduceLT, reduceLeDiff, ↓zc2, zg1, zg2, ↓zc3]
         (repeat' apply And.intro) <;> first|rfl|assumption|omega|(simp;done)|(simp;omega)|(simp_all;done)
        refine sA_n ?_
        refine a_ret ?_
        refine bA_r ?_
        refine sA_r ?_
        refine lA_r ?_
        refine bA_r ?_
        refine cA_r ?_
        obtain rfl := Option.some.inj H
        refine e_r2 (d := ?zd3) ?_ ?_
        rotate_left
        ·simp only [EVT, resR, single, evLoad, cut, TIS, CS, reduceAdd, reduceEqDiff, ↓reduceIte, reduceCtorEq, reduceLT, reduceLeDiff, reduceSub, Nat.reduceBEq, zc2, zg1, zg2, zc3]
         (repeat' apply And.intro) <;> first | rfl | assumption | omega | (simp; done)
        exact (.bool' (by first | rfl | assumption | (simp_all; done)))
       ·have H := cond_f zc3 H
        refine a_skip ?_
        refine bA_n ?_
        refine sA_n ?_
        refine a_reg _ rfl (s := ?zs8) ?_ ?_
        rotate_left
        ·simp only [EVT, stepR, evOp, St.ev, St.app, St.put, wrs, datOf, datOf1, evBin, binInt, TIS, CS, reduceAdd, reduceMul, reduceEqDiff, ↓reduceIte, reduceCtorEq, reduceLT, reduceLeDiff, ↓zc2, zg1, zg2, ↓zc3]
         (repeat' apply And.intro) <;> first|rfl|assumption|omega|(simp;done)|(simp;omega)|(simp_all;done)
        refine lA_n ?_
        refine wk_l [(some 0, ⟨30, 7, false, [[.int .i64 a1.err, .int .i64 a1.ino, .int .i64 a1.kind, .int .i64 a1.n, .int .i64 a1.m, .list 1 (a1.names.map cs), .list 1 (a1.data.map (ci .u8))]]⟩), (some 1, ⟨30, 7, false, [[.int .i64 b1.err, .int .i64 b1.ino, .int .i64 b1.kind, .int .i64 b1.n, .int .i64 b1.m, .list 1 (b1.names.map cs), .list 1 (b1.data.map (ci .u8))]]⟩)] [] [(2, .ptr 0 0 0 7), (3, .ptr 1 0 0 7), (5, .int .i64 (IntKind.wrap .i64 (i1 + 1)))] (by show ([2, 3, 5] : List Nat).Nodup; decide) (by show ([0, 1] : List Nat).Nodup; decide) ?_ ?_ (fun t0 => ⟨_, Nat.lt_succ_self _, (IntKind.wrap .i64 (i1 + 1)), t0, H, rfl⟩)
        ·exact (allB_some (by rfl) rfl (.cons (.cons (.int' rfl) (.cons (.int' rfl) (.cons (.int' rfl) (.cons (.int' rfl) (.cons (.int' rfl) (.cons (.lst _ _ _ cs_pu rfl) (.cons (.lst _ _ _ (ci_pu .u8) rfl) .nil))))))) .nil) (allB_some (by rfl) rfl (.cons (.cons (.int' rfl) (.cons (.int' rfl) (.cons (.int' rfl) (.cons (.int' rfl) (.cons (.int' rfl) (.cons (.lst _ _ _ cs_pu rfl) (.cons (.lst _ _ _ (ci_pu .u8) rfl) .nil))))))) .nil) trivial))
        ·(simp only [AllT, tl_cons, tl_nil, upd_apply, List.getD_cons_zero, List.getD_cons_succ, reduceEqDiff, ↓reduceIte, and_true]); exact ⟨(.ptr _ _ _ _ _ rfl), (.ptr _ _ _ _ _ rfl), (.int' rfl)⟩
      ·have H := cond_f zc2 H
       refine a_exit ?_
       refine sA_e ?_
       refine lA_e ?_
       refine bA_hit ?_
       refine cA_n ?_
       refine wk_l [] [] [] (by show ([] : List Nat).Nodup; decide) (by show ([] : List Nat).Nodup; decide) ?_ ?_ (fun t0 => ⟨t0, H, rfl⟩)
       ·exact trivial
       ·exact trivial
   ·rintro s ⟨t0, H, rfl⟩
    unfold ref01_SameAns_J2 at H
    refine a_seq ?_
    refine a_reg _ rfl (s := ?zs3) ?_ ?_
    rotate_left
    ·simp only [EVT, stepR, evOp, St.ev, St.app, St.put, wrs, datOf, datOf1, TIS, CS, reduceAdd, reduceMul, reduceEqDiff, ↓reduceIte, reduceCtorEq, reduceLT, reduceLeDiff]
     (repeat' apply And.intro) <;> first|rfl|assumption|omega|(simp;done)|(simp;omega)|(simp_all;done)
    refine sA_n ?_
    refine a_ret ?_
    obtain rfl := Option.some.inj H
    refine e_r2 (d := ?zd2) ?_ ?_
    rotate_left
    ·simp only [EVT, resR, single, evLoad, cut, TIS, CS, reduceAdd, reduceEqDiff, ↓reduceIte, reduceCtorEq, reduceLT, reduceLeDiff, reduceSub, Nat.reduceBEq]
     (repeat' apply And.intro) <;> first | rfl | assumption | omega | (simp; done)
    exact (.bool' (by first | rfl | assumption | (simp_all; done)))
end
end Go.Proofs.Ytifkepfcjhebfaa
