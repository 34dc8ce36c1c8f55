/- Functions of the program as Lean functions, and that they are so; printed by a program of mine. -/
import Derived.Test.YtogickapcbibbaaF4
set_option linter.unusedSimpArgs false
set_option linter.unusedVariables false
namespace Go.Proofs.Ytogickapcbibbaa
open Go.Ab
open Nat (reduceAdd reduceMul reduceEqDiff reduceLT reduceLeDiff reduceSub)
noncomputable section

def slices_Insert_f (s1 : List Kept) (i1 : Int) (v1 : List Kept) : Option (List Kept) :=
 chk (0 ≤ i1 ∧ i1 ≤ (s1.length : Int) ∧ (s1.length : Int) ≤ (s1.length : Int)) (chk (((v1.length : Int) == 0) = false) (chk ((i1 == (((s1.length : Nat)) : Int)) = true) (chk ((s1.length + v1.length) * 72 ≤ 140737488355328) (some ((s1 ++ v1))))))
set_option maxHeartbeats 4000000 in
set_option maxRecDepth 20000 in
theorem slices_Insert_rc {s1 : List Kept} {i1 : Int} {v1 : List Kept} {r : (List Kept)} (H : slices_Insert_f s1 i1 v1 = some r) : RC Try.prog 65 [.ref 0 0 s1.length 6, .int .i64 i1, .list 6 (v1.map Kept.c)] [⟨62, 6, false, s1.map Kept.c⟩] 0 (.ref 0 0 r.length 6) [some ⟨62, 6, false, r.map Kept.c⟩] := by
 refine rcA_of Try.func65 (by rfl) (by decide) 95 (by rfl) [.tmp 6] (by rfl) ?_
 unfold slices_Insert_f at H
 simp only [hent, List.length_cons, List.length_nil, reduceAdd]
 refine a_seq ?_
 refine a_reg _ rfl (s := ?zs1) ?_ ?_
 rotate_left
 ·simp only [EVT, stepR, evOp, St.ev, St.app, St.put, wrs, datOf, datOf1, TIS, CS, reduceAdd, reduceMul, reduceEqDiff, ↓reduceIte, reduceCtorEq, reduceLT, reduceLeDiff]
  (repeat' apply And.intro) <;> first|rfl|assumption|omega|(simp;done)|(simp;omega)|(simp_all;done)
 refine sA_n ?_
 refine a_seq ?_
 obtain ⟨zh1, H⟩ := chk_some H
 refine a_reg _ rfl (s := ?zs2) ?_ ?_
 rotate_left
 ·simp only [EVT, stepR, evOp, St.ev, St.app, St.put, wrs, evSlice, sliceOk, sl_if0, sl_if1, sl_if2, sl_if3, tk_map, dp_map, TIS, CS, reduceAdd, reduceMul, reduceEqDiff, ↓reduceIte, reduceCtorEq, reduceLT, reduceLeDiff, Int.reduceToNat, reduceSub]
  (repeat' apply And.intro) <;> first | rfl | assumption | omega | (left; omega) | (simp; done) | (simp; omega) | (right; exact ⟨_, rfl, rfl, rfl, by decide, by first | omega | (simp; omega)⟩) | (simp_all; done)
 refine sA_n ?_
 refine a_seq ?_
 refine a_reg _ rfl (s := ?zs3) ?_ ?_
 rotate_left
 ·simp only [EVT, stepR, evOp, St.ev, St.app, St.put, wrs, evBuiltin, TIS, CS, reduceAdd, reduceMul, reduceEqDiff, ↓reduceIte, reduceCtorEq, reduceLT, reduceLeDiff, reduceSub, Nat.reduceBEq]
  (repeat' apply And.intro) <;> first|rfl|assumption|omega|(simp;done)|(simp;omega)|(simp_all;done)
 refine sA_n ?_
 refine a_seq ?_
 refine a_seq ?_
 refine a_reg _ rfl (s := ?zs4) ?_ ?_
 rotate_left
 ·simp only [EVT, stepR, evOp, St.ev, St.app, St.put, wrs, datOf, datOf1, evBin, binInt, TIS, CS, reduceAdd, reduceMul, reduceEqDiff, ↓reduceIte, reduceCtorEq, reduceLT, reduceLeDiff]
  (repeat' apply And.intro) <;> first|rfl|assumption|omega|(simp;done)|(simp;omega)|(simp_all;done)
 refine sA_n ?_
 obtain ⟨zh2, H⟩ := chk_some H
 refine a_condb (((v1.length : Int) == 0)) (by rfl) (fun zc1x => absurd (zc1x.symm.trans zh2) (by decide)) (fun zc1 => ?_)
 ·try skip
  refine a_skip ?_
  refine sA_n ?_
  refine a_seq ?_
  refine a_reg _ rfl (s := ?zs5) ?_ ?_
  rotate_left
  ·simp only [EVT, stepR, evOp, St.ev, St.app, St.put, wrs, evBuiltin, TIS, CS, reduceAdd, reduceMul, reduceEqDiff, ↓reduceIte, reduceCtorEq, reduceLT, reduceLeDiff, reduceSub, Nat.reduceBEq, ↓zc1]
   (repeat' apply And.intro) <;> first|rfl|assumption|omega|(simp;done)|(simp;omega)|(simp_all;done)
  refine sA_n ?_
  refine a_seq ?_
  refine a_seq ?_
  refine a_reg _ rfl (s := ?zs6) ?_ ?_
  rotate_left
  ·simp only [EVT, stepR, evOp, St.ev, St.app, St.put, wrs, evBin, binInt, TIS, CS, reduceAdd, reduceMul, reduceEqDiff, ↓reduceIte, reduceCtorEq, reduceLT, reduceLeDiff, ↓zc1]
   (repeat' apply And.intro) <;> first|rfl|assumption|omega|(simp;done)|(simp;omega)|(simp_all;done)
  refine sA_n ?_
  obtain ⟨zh3, H⟩ := chk_some H
  refine a_condb ((i1 == (((s1.length : Nat)) : Int))) (by rfl) (fun zc2 => ?_) (fun zc2x => absurd (zc2x.symm.trans zh3) (by decide))
  ·try skip
   refine a_seq ?_
   obtain ⟨zh4, H⟩ := chk_some H
   refine a_reg _ rfl (s := ?zs7) ?_ ?_
   rotate_left
   ·simp only [EVT, stepR, evOp, St.ev, St.app, St.put, wrs, evBuiltin, evAppend, isAl, elems, Option.elim, TIS, CS, reduceAdd, reduceMul, reduceEqDiff, ↓reduceIte, reduceCtorEq, reduceLT, reduceLeDiff, reduceSub, Nat.reduceBEq, ↓zc1, ↓zc2]
    (repeat' apply And.intro) <;> first|rfl|assumption|omega|(simp;done)|(simp;omega)|(simp_all;done)
   refine sA_n ?_
   refine a_ret ?_
   refine sA_r ?_
   obtain rfl := Option.some.inj H
   refine eR_r ?_
   refine wk_ln 0 [(some 123, ⟨62, 6, false, (s1 ++ v1).map Kept.c⟩)] [] [(6, .ref 0 0 (s1 ++ v1).length 6)] (fun i h => absurd h (Nat.not_lt_zero i)) (by show ([6] : List Nat).Nodup; decide) (by show ([123] : List Nat).Nodup; decide) ?_ ?_ (fun t0 => ⟨by first | rfl | (simp only [EVT, resR, single, evLoad, cut, TIS, CS, reduceAdd, reduceEqDiff, ↓reduceIte, reduceCtorEq, reduceLT, reduceLeDiff, reduceSub, Nat.reduceBEq]; (repeat' apply And.intro) <;> first | rfl | (simp; done)), fun j B h => by rcases j with _ | _ <;> first | exact h | (exact absurd h (by simp [hh]))⟩)
   ·exact (allB_some (by rfl) rfl (.sm _ _ Kept.pu) trivial)
   ·(simp only [AllT, ATT, reduceEqDiff, ↓reduceIte, and_true]); exact (.refl' (by first|rfl|omega|(simp;done)|(simp;omega)|(simp_all;done)) rfl)
def cache_put_f (l1 : List Kept) (k1 : Kept) : Option (List Kept) :=
 (slices_BinarySearchFunc_f l1 k1 cache_order_f).bind fun r1 => (slices_Clone_64_f l1).bind fun r2 => cond r1.2 ((idx r2 r1.1).bind fun x1 => some ((r2.set r1.1.toNat k1))) ((slices_Insert_f r2 r1.1 [k1]).bind fun r3 => some (r3))
set_option maxHeartbeats 4000000 in
set_option maxRecDepth 20000 in
theorem cache_put_rc {l1 : List Kept} {k1 : Kept} {r : (List Kept)} (H : cache_put_f l1 k1 = some r) : RC Try.prog 40 [.list 6 (l1.map Kept.c), .agg (Kept.c k1)] [] 0 (.ref 0 0 r.length 6) [some ⟨62, 6, false, r.map Kept.c⟩] := by
 refine rcA_of Try.func40 (by rfl) (by decide) 27 (by rfl) [.tmp 4] (by rfl) ?_
 unfold cache_put_f at H
 simp only [hent, List.length_cons, List.length_nil, reduceAdd]
 refine a_seq ?_
 refine a_reg _ rfl (s := ?zs1) ?_ ?_
 rotate_left
 ·simp only [EVT, stepR, evOp, St.ev, St.app, St.put, wrs, allOne, datOf, datOf1, TIS, CS, reduceAdd, reduceMul, reduceEqDiff, ↓reduceIte, reduceCtorEq, reduceLT, reduceLeDiff]
  (repeat' apply And.intro) <;> first|rfl|assumption|omega|(simp;done)|(simp;omega)|(simp_all;done)
 refine sA_n ?_
 refine a_seq ?_
 obtain ⟨r1, zh1, H⟩ := bind_some H
 have zk1 := slices_BinarySearchFunc_pc (cmp1 := cache_order_f) (cmp1_F := 35) (cmp1_caps := []) (fun _ _ _ h => cache_order_pc h) .nil zh1
 refine a_reg _ rfl (s := ?zs2) ?_ ?_
 rotate_left
 ·try simp only [EVT, stepR, evOp, St.ev, St.app, St.put, wrs, evLoad, cut, frz, TIS, CS, reduceAdd, reduceMul, reduceEqDiff, ↓reduceIte, reduceCtorEq, reduceLT, reduceLeDiff, reduceSub, Nat.reduceBEq]
  repeat' with_reducible apply And.intro
  all_goals try ((with_reducible show CallR _ _ _ _ _ _ _); refine cR_s zk1 (.cons (.lst _ _ _ Kept.pu rfl) (.cons (.agg' (.cons (.int' rfl) (.cons (.str' rfl) (.cons (.int' rfl) (.cons (.int' rfl) (.cons (.lst _ _ _ (ci_pu .u8) rfl) (.cons (.int' rfl) .nil))))))) (.cons (.fn' .nil .nil) .nil))) (Scal.tup _ (by intro i c h; rcases i with _ | _ | _ | i <;> simp at h <;> subst h <;> constructor)) ?_; simp only [EVT, stepR, evOp, St.ev, St.app, St.put, wrs, evLoad, cut, frz, TIS, CS, reduceAdd, reduceMul, reduceEqDiff, ↓reduceIte, reduceCtorEq, reduceLT, reduceLeDiff, reduceSub, Nat.reduceBEq])
  all_goals ((repeat' apply And.intro) <;> first|rfl|assumption|omega|(simp;done)|(simp;omega)|(simp_all;done))
 refine sA_n ?_
 refine a_seq ?_
 obtain ⟨r2, zh2, H⟩ := bind_some H
 have zk2 := slices_Clone_64_rc zh2
 refine a_reg _ rfl (s := ?zs3) ?_ ?_
 rotate_left
 ·try simp only [EVT, stepR, evOp, St.ev, St.app, St.put, wrs, frz, TIS, CS, reduceAdd, reduceMul, reduceEqDiff, ↓reduceIte, reduceCtorEq, reduceLT, reduceLeDiff, reduceSub, Nat.reduceBEq]
  repeat' with_reducible apply And.intro
  all_goals try ((with_reducible show CallR _ _ _ _ _ _ _); refine callR_rcw (r' := .ref 81 0 r2.length 6) [(81, some ⟨62, 6, false, r2.map Kept.c⟩)] [] [] [(81, 0, ⟨62, 6, false, r2.map Kept.c⟩)] rfl zk2 (by simp) (by show ([] : List Nat).Nodup; decide) trivial (.cons (.lst _ _ _ Kept.pu rfl) .nil) (by show ([81] : List Nat).Nodup; decide) (by show ([0] : List Nat).Nodup; decide) ⟨.inr ⟨rfl, by decide⟩, ⟨_, rfl, ⟨rfl, rfl, rfl, rfl⟩, .same _ _ Kept.pu rfl⟩, trivial⟩ (.refl' rfl rfl) ?_; simp only [EVT, stepR, evOp, St.ev, St.app, St.put, wrs, frz, TIS, CS, reduceAdd, reduceMul, reduceEqDiff, ↓reduceIte, reduceCtorEq, reduceLT, reduceLeDiff, reduceSub, Nat.reduceBEq])
  all_goals ((repeat' apply And.intro) <;> first|rfl|assumption|omega|(simp;done)|(simp;omega)|(simp_all;done))
 refine sA_n ?_
 refine a_seq ?_
 refine a_seq ?_
 refine a_reg _ rfl (s := ?zs4) ?_ ?_
 rotate_left
 ·simp only [EVT, stepR, evOp, St.ev, St.app, St.put, wrs, TIS, CS, reduceAdd, reduceMul, reduceEqDiff, ↓reduceIte, reduceCtorEq, reduceLT, reduceLeDiff]
  (repeat' apply And.intro) <;> first|rfl|assumption|omega|(simp;done)|(simp;omega)|(simp_all;done)
 refine sA_n ?_
 refine a_condb (r1.2) (by rfl) (fun zc1 => ?_) (fun zc1 => ?_)
 ·have H := cond_t zc1 H
  refine a_seq ?_
  obtain ⟨x1, zh3, H⟩ := bind_some H
  have zg1 := idx_map zh3 Kept.c
  try simp only [Int.reduceToNat, Int.toNat_natCast] at zg1
  obtain ⟨zh3a, zh3b, _⟩ := idx_some zh3
  refine a_reg _ rfl (s := ?zs5) ?_ ?_
  rotate_left
  ·simp only [EVT, stepR, evOp, St.ev, St.app, St.put, wrs, evLoad, cut, evIndexAddr, evStore, setR, allOne, TIS, CS, reduceAdd, reduceMul, reduceEqDiff, ↓reduceIte, reduceCtorEq, reduceLT, reduceLeDiff, Int.reduceToNat, reduceSub, Nat.reduceBEq, ↓zc1, zg1]
   (repeat' apply And.intro) <;> first|rfl|assumption|omega|(simp;done)|(simp;omega)|(simp_all;done)
  refine sA_n ?_
  refine a_seq ?_
  refine a_reg _ rfl (s := ?zs6) ?_ ?_
  rotate_left
  ·simp only [EVT, stepR, evOp, St.ev, St.app, St.put, wrs, TIS, CS, reduceAdd, reduceMul, reduceEqDiff, ↓reduceIte, reduceCtorEq, reduceLT, reduceLeDiff, ↓zc1, zg1]
   (repeat' apply And.intro) <;> first|rfl|assumption|omega|(simp;done)|(simp;omega)|(simp_all;done)
  refine sA_n ?_
  refine a_ret ?_
  refine sA_r ?_
  obtain rfl := Option.some.inj H
  refine eR_r ?_
  refine wk_ln 0 [(some 81, ⟨62, 6, false, (r2.set r1.1.toNat k1).map Kept.c⟩)] [] [(4, .ref 0 0 (r2.set r1.1.toNat k1).length 6)] (fun i h => absurd h (Nat.not_lt_zero i)) (by show ([4] : List Nat).Nodup; decide) (by show ([81] : List Nat).Nodup; decide) ?_ ?_ (fun t0 => ⟨by first | rfl | (simp only [EVT, resR, single, evLoad, cut, TIS, CS, reduceAdd, reduceEqDiff, ↓reduceIte, reduceCtorEq, reduceLT, reduceLeDiff, reduceSub, Nat.reduceBEq]; (repeat' apply And.intro) <;> first | rfl | (simp; done)), fun j B h => by rcases j with _ | _ <;> first | exact h | (exact absurd h (by simp [hh]))⟩)
  ·exact (allB_some (by rfl) rfl (.sm _ _ Kept.pu) trivial)
  ·(simp only [AllT, ATT, reduceEqDiff, ↓reduceIte, and_true]); exact (.refl' (by first|rfl|omega|(simp;done)|(simp;omega)|(simp_all;done)) rfl)
 ·have H := cond_f zc1 H
  refine a_skip ?_
  refine sA_n ?_
  refine a_seq ?_
  obtain ⟨r3, zh4, H⟩ := bind_some H
  have zk3 := slices_Insert_rc zh4
  refine a_reg _ rfl (s := ?zs7) ?_ ?_
  rotate_left
  ·try simp only [EVT, stepR, evOp, St.ev, St.app, St.put, wrs, evLoad, cut, allOne, frz, TIS, CS, reduceAdd, reduceMul, reduceEqDiff, ↓reduceIte, reduceCtorEq, reduceLT, reduceLeDiff, reduceSub, Nat.reduceBEq, ↓zc1]
   repeat' with_reducible apply And.intro
   all_goals try ((with_reducible show CallR _ _ _ _ _ _ _); refine callR_rcw (r' := .ref 116 0 r3.length 6) [(115, some ⟨62, 6, true, [k1].map Kept.c⟩), (81, none), (116, some ⟨62, 6, false, r3.map Kept.c⟩)] [(some 81, ⟨62, 6, false, r2.map Kept.c⟩)] [115] [(116, 0, ⟨62, 6, false, r3.map Kept.c⟩)] rfl zk3 (by simp) (by show ([81] : List Nat).Nodup; decide) (allB_some (by rfl) rfl (.sm _ _ Kept.pu) trivial) (.cons (.refl' (by first|rfl|omega|(simp;done)|(simp;omega)|(simp_all;done)) rfl) (.cons (.int' rfl) (.cons (.frz' (by rfl) (by simp) rfl (by first|rfl|omega|(simp;done)|(simp;omega)|(simp_all;done)) (.sm _ _ Kept.pu)) .nil))) (by show ([116] : List Nat).Nodup; decide) (by show ([0] : List Nat).Nodup; decide) ⟨.inr ⟨rfl, by decide⟩, ⟨_, rfl, ⟨rfl, rfl, rfl, rfl⟩, .same _ _ Kept.pu rfl⟩, trivial⟩ (.refl' rfl rfl) ?_; simp only [EVT, stepR, evOp, St.ev, St.app, St.put, wrs, evLoad, cut, allOne, frz, TIS, CS, reduceAdd, reduceMul, reduceEqDiff, ↓reduceIte, reduceCtorEq, reduceLT, reduceLeDiff, reduceSub, Nat.reduceBEq, ↓zc1])
   all_goals ((repeat' apply And.intro) <;> first|rfl|assumption|omega|(simp;done)|(simp;omega)|(simp_all;done))
  refine sA_n ?_
  refine a_ret ?_
  obtain rfl := Option.some.inj H
  refine eR_r ?_
  refine wk_ln 0 [(some 116, ⟨62, 6, false, r3.map Kept.c⟩)] [] [(4, .ref 0 0 r3.length 6)] (fun i h => absurd h (Nat.not_lt_zero i)) (by show ([4] : List Nat).Nodup; decide) (by show ([116] : List Nat).Nodup; decide) ?_ ?_ (fun t0 => ⟨by first | rfl | (simp only [EVT, resR, single, evLoad, cut, TIS, CS, reduceAdd, reduceEqDiff, ↓reduceIte, reduceCtorEq, reduceLT, reduceLeDiff, reduceSub, Nat.reduceBEq]; (repeat' apply And.intro) <;> first | rfl | (simp; done)), fun j B h => by rcases j with _ | _ <;> first | exact h | (exact absurd h (by simp [hh]))⟩)
  ·exact (allB_some (by rfl) rfl (.sm _ _ Kept.pu) trivial)
  ·(simp only [AllT, ATT, reduceEqDiff, ↓reduceIte, and_true]); exact (.refl' (by first|rfl|omega|(simp;done)|(simp;omega)|(simp_all;done)) rfl)
theorem cache_put_pc {l1 : List Kept} {k1 : Kept} {r : (List Kept)} (H : cache_put_f l1 k1 = some r) : PC Try.prog 40 [.list 6 (l1.map Kept.c), .agg (Kept.c k1)] (.list 6 (r.map Kept.c)) := rc_pc (cache_put_rc H) (.ownL rfl (fun e => by cases e) rfl (List.length_map _).symm (.same _ _ Kept.pu rfl))
def cache_Page_f (l1 : List Kept) (ino1 : Int) (page1 : Int) (data1 : List Int) (until1 : Int) : Option (List Kept) :=
 (slices_Clone_f data1).bind fun r1 => (cache_put_f l1 (⟨ino1, ByteArray.empty, page1, 0, r1, until1⟩ : Kept)).bind fun r2 => some (r2)
set_option maxHeartbeats 4000000 in
set_option maxRecDepth 20000 in
theorem cache_Page_pc {l1 : List Kept} {ino1 : Int} {page1 : Int} {data1 : List Int} {until1 : Int} {r : (List Kept)} (H : cache_Page_f l1 ino1 page1 data1 until1 = some r) : PC Try.prog 15 [.list 6 (l1.map Kept.c), .int .i64 ino1, .int .i64 page1, .list 1 (data1.map (ci .u8)), .int .i64 until1] (.list 6 (r.map Kept.c)) := by
 refine pcA_of Try.func15 (by rfl) (by decide) 19 (by rfl) [.tmp 10] (by rfl) ?_
 unfold cache_Page_f at H
 simp only [ent]
 refine a_seq ?_
 refine a_reg _ rfl (s := ?zs1) ?_ ?_
 rotate_left
 ·simp only [EVT, stepR, evOp, St.ev, St.app, St.put, wrs, datOf, datOf1, TIS, CS, reduceAdd, reduceMul, reduceEqDiff, ↓reduceIte, reduceCtorEq, reduceLT, reduceLeDiff]
  (repeat' apply And.intro) <;> first|rfl|assumption|omega|(simp;done)|(simp;omega)|(simp_all;done)
 refine sA_n ?_
 refine a_seq ?_
 obtain ⟨r1, zh1, H⟩ := bind_some H
 have zk1 := slices_Clone_pc zh1
 obtain ⟨r2, zh2, H⟩ := bind_some H
 have zk2 := cache_put_rc zh2
 refine a_reg _ rfl (s := ?zs2) ?_ ?_
 rotate_left
 ·try simp only [EVT, stepR, evOp, St.ev, St.app, St.put, wrs, frz, fillD, setR, TIS, CS, reduceAdd, reduceMul, reduceEqDiff, ↓reduceIte, reduceCtorEq, reduceLT, reduceLeDiff, Nat.reduceGT, reduceSub, Nat.reduceBEq]
  repeat' with_reducible apply And.intro
  all_goals try ((with_reducible show CallR _ _ _ _ _ _ _); refine cR_p zk1 (.cons (.lst _ _ _ (ci_pu .u8) rfl) .nil) ?_; simp only [EVT, stepR, evOp, St.ev, St.app, St.put, wrs, frz, fillD, setR, TIS, CS, reduceAdd, reduceMul, reduceEqDiff, ↓reduceIte, reduceCtorEq, reduceLT, reduceLeDiff, Nat.reduceGT, reduceSub, Nat.reduceBEq])
  repeat' with_reducible apply And.intro
  all_goals try ((with_reducible show CallR _ _ _ _ _ _ _); refine callR_rcw (r' := .ref 15 0 r2.length 6) [(15, some ⟨62, 6, false, r2.map Kept.c⟩)] [] [] [(15, 0, ⟨62, 6, false, r2.map Kept.c⟩)] rfl zk2 (by simp) (by show ([] : List Nat).Nodup; decide) trivial (.cons (.lst _ _ _ Kept.pu rfl) (.cons (.agg' (.cons (.int' rfl) (.cons (.str' rfl) (.cons (.int' rfl) (.cons (.int' rfl) (.cons (.lst _ _ _ (ci_pu .u8) rfl) (.cons (.int' rfl) .nil))))))) .nil)) (by show ([15] : List Nat).Nodup; decide) (by show ([0] : List Nat).Nodup; decide) ⟨.inr ⟨rfl, by decide⟩, ⟨_, rfl, ⟨rfl, rfl, rfl, rfl⟩, .same _ _ Kept.pu rfl⟩, trivial⟩ (.refl' rfl rfl) ?_; simp only [EVT, stepR, evOp, St.ev, St.app, St.put, wrs, frz, fillD, setR, TIS, CS, reduceAdd, reduceMul, reduceEqDiff, ↓reduceIte, reduceCtorEq, reduceLT, reduceLeDiff, Nat.reduceGT, reduceSub, Nat.reduceBEq])
  all_goals ((repeat' apply And.intro) <;> first|rfl|assumption|omega|(simp;done)|(simp;omega)|(simp_all;done))
 refine sA_n ?_
 refine a_ret ?_
 obtain rfl := Option.some.inj H
 refine e_r2 (d := ?zd1) ?_ ?_
 rotate_left
 ·simp only [EVT, resR, single, evLoad, cut, TIS, CS, reduceAdd, reduceEqDiff, ↓reduceIte, reduceCtorEq, reduceLT, reduceLeDiff, reduceSub, Nat.reduceBEq]
  (repeat' apply And.intro) <;> first | rfl | assumption | omega | (simp; done)
 exact (.ownL (by rfl) (fun e => by cases e) rfl (by first|rfl|omega|(simp;done)|(simp;omega)|(simp_all;done)) (.sm _ _ Kept.pu))
def cache_Name_f (l1 : List Kept) (dir1 : Int) (name1 : ByteArray) (is1 : Int) (until1 : Int) : Option (List Kept) :=
 cond (name1.toList == (⟨#[]⟩ : ByteArray).toList) (some (l1)) ((cache_put_f l1 (⟨dir1, name1, 0, is1, [], until1⟩ : Kept)).bind fun r1 => some (r1))
set_option maxHeartbeats 4000000 in
set_option maxRecDepth 20000 in
theorem cache_Name_pc {l1 : List Kept} {dir1 : Int} {name1 : ByteArray} {is1 : Int} {until1 : Int} {r : (List Kept)} (H : cache_Name_f l1 dir1 name1 is1 until1 = some r) : PC Try.prog 25 [.list 6 (l1.map Kept.c), .int .i64 dir1, .str name1, .int .i64 is1, .int .i64 until1] (.list 6 (r.map Kept.c)) := by
 refine pcA_of Try.func25 (by rfl) (by decide) 21 (by rfl) [.tmp 10] (by rfl) ?_
 unfold cache_Name_f at H
 simp only [ent]
 refine a_seq ?_
 refine a_reg _ rfl (s := ?zs1) ?_ ?_
 rotate_left
 ·simp only [EVT, stepR, evOp, St.ev, St.app, St.put, wrs, datOf, datOf1, TIS, CS, reduceAdd, reduceMul, reduceEqDiff, ↓reduceIte, reduceCtorEq, reduceLT, reduceLeDiff]
  (repeat' apply And.intro) <;> first|rfl|assumption|omega|(simp;done)|(simp;omega)|(simp_all;done)
 refine sA_n ?_
 refine a_seq ?_
 refine a_seq ?_
 refine a_reg _ rfl (s := ?zs2) ?_ ?_
 rotate_left
 ·simp only [EVT, stepR, evOp, St.ev, St.app, St.put, wrs, datOf, datOf1, evBin, binInt, TIS, CS, reduceAdd, reduceMul, reduceEqDiff, ↓reduceIte, reduceCtorEq, reduceLT, reduceLeDiff]
  (repeat' apply And.intro) <;> first|rfl|assumption|omega|(simp;done)|(simp;omega)|(simp_all;done)
 refine sA_n ?_
 refine a_condb ((name1.toList == (⟨#[]⟩ : ByteArray).toList)) (by rfl) (fun zc1 => ?_) (fun zc1 => ?_)
 ·have H := cond_t zc1 H
  refine a_seq ?_
  refine a_reg _ rfl (s := ?zs3) ?_ ?_
  rotate_left
  ·simp only [EVT, stepR, evOp, St.ev, St.app, St.put, wrs, TIS, CS, reduceAdd, reduceMul, reduceEqDiff, ↓reduceIte, reduceCtorEq, reduceLT, reduceLeDiff, ↓zc1]
   (repeat' apply And.intro) <;> first|rfl|assumption|omega|(simp;done)|(simp;omega)|(simp_all;done)
  refine sA_n ?_
  refine a_ret ?_
  refine sA_r ?_
  obtain rfl := Option.some.inj H
  refine e_r2 (d := ?zd1) ?_ ?_
  rotate_left
  ·simp only [EVT, resR, single, evLoad, cut, TIS, CS, reduceAdd, reduceEqDiff, ↓reduceIte, reduceCtorEq, reduceLT, reduceLeDiff, reduceSub, Nat.reduceBEq, zc1]
   (repeat' apply And.intro) <;> first | rfl | assumption | omega | (simp; done)
  exact (.lst _ _ _ Kept.pu rfl)
 ·have H := cond_f zc1 H
  refine a_skip ?_
  refine sA_n ?_
  refine a_seq ?_
  obtain ⟨r1, zh1, H⟩ := bind_some H
  have zk1 := cache_put_rc zh1
  refine a_reg _ rfl (s := ?zs4) ?_ ?_
  rotate_left
  ·try simp only [EVT, stepR, evOp, St.ev, St.app, St.put, wrs, fillD, setR, frz, TIS, CS, reduceAdd, reduceMul, reduceEqDiff, ↓reduceIte, reduceCtorEq, reduceLT, reduceLeDiff, Nat.reduceGT, reduceSub, Nat.reduceBEq, ↓zc1]
   repeat' with_reducible apply And.intro
   all_goals try ((with_reducible show CallR _ _ _ _ _ _ _); refine callR_rcw (r' := .ref 30 0 r1.length 6) [(30, some ⟨62, 6, false, r1.map Kept.c⟩)] [] [] [(30, 0, ⟨62, 6, false, r1.map Kept.c⟩)] rfl zk1 (by simp) (by show ([] : List Nat).Nodup; decide) trivial (.cons (.lst _ _ _ Kept.pu rfl) (.cons (.agg' (.cons (.int' rfl) (.cons (.str' rfl) (.cons (.int' rfl) (.cons (.int' rfl) (.cons (.nil _) (.cons (.int' rfl) .nil))))))) .nil)) (by show ([30] : List Nat).Nodup; decide) (by show ([0] : List Nat).Nodup; decide) ⟨.inr ⟨rfl, by decide⟩, ⟨_, rfl, ⟨rfl, rfl, rfl, rfl⟩, .same _ _ Kept.pu rfl⟩, trivial⟩ (.refl' rfl rfl) ?_; simp only [EVT, stepR, evOp, St.ev, St.app, St.put, wrs, fillD, setR, frz, TIS, CS, reduceAdd, reduceMul, reduceEqDiff, ↓reduceIte, reduceCtorEq, reduceLT, reduceLeDiff, Nat.reduceGT, reduceSub, Nat.reduceBEq, ↓zc1])
   all_goals ((repeat' apply And.intro) <;> first|rfl|assumption|omega|(simp;done)|(simp;omega)|(simp_all;done))
  refine sA_n ?_
  refine a_ret ?_
  obtain rfl := Option.some.inj H
  refine e_r2 (d := ?zd2) ?_ ?_
  rotate_left
  ·simp only [EVT, resR, single, evLoad, cut, TIS, CS, reduceAdd, reduceEqDiff, ↓reduceIte, reduceCtorEq, reduceLT, reduceLeDiff, reduceSub, Nat.reduceBEq, zc1]
   (repeat' apply And.intro) <;> first | rfl | assumption | omega | (simp; done)
  exact (.ownL (by rfl) (fun e => by cases e) rfl (by first|rfl|omega|(simp;done)|(simp;omega)|(simp_all;done)) (.sm _ _ Kept.pu))
def lease_Ask_J2 (r1 : (List Lease)) (q1 : Lease) (many1 : Int) (now1 : Int) (who1 : List Int) : Option ((List Lease) × Bool × (List Int)) :=
 cond (decide (0 < (((who1.length : Nat)) : Int))) ((lease_once_f who1).bind fun r2 => some (r1, false, r2)) ((lease_kept_f r1 (fun y0_ => lease_Ask_2_f y0_ (⟨q1.client, q1.ino, q1.kind, q1.span, 0, q1.epoch⟩ : Lease))).bind fun r3 => cond (decide (64 ≤ (((r3.length : Nat)) : Int))) (some (r1, false, [])) ((clock_Wait_f many1).bind fun r4 => chk ((r3.length + 1) * 56 ≤ 140737488355328) (some ((r3 ++ [(⟨q1.client, q1.ino, q1.kind, q1.span, (IntKind.wrap .i64 (now1 + r4)), q1.epoch⟩ : Lease)]), true, []))))
def lease_Ask_L1 (r5 : (List Lease)) (r1 : (List Lease)) (q1 : Lease) (many1 : Int) (now1 : Int) : Nat → (List Int) → Int → Int → Option ((List Lease) × Bool × (List Int))
 | 0, _, _, _ => none
 | m_ + 1, who2, v2, v3 => cond (decide (v3 < v2)) ((idx r5 v3).bind fun x1 => chk ((who2.length + 1) * 8 ≤ 140737488355328) (lease_Ask_L1 r5 r1 q1 many1 now1 m_ (who2 ++ [x1.client]) v2 (IntKind.wrap .i64 (v3 + 1)))) (lease_Ask_J2 r1 q1 many1 now1 who2)
def lease_Ask_J1 (l1 : List Lease) (now1 : Int) (q1 : Lease) (many1 : Int) (v1 : Bool) : Option ((List Lease) × Bool × (List Int)) :=
 cond v1 (some (l1, false, [])) ((lease_Over_f l1 now1).bind fun r1 => (lease_kept_f r1 (fun y0_ => lease_Ask_1_f y0_ (⟨q1.client, q1.ino, q1.kind, q1.span, 0, q1.epoch⟩ : Lease))).bind fun r5 => lease_Ask_L1 r5 r1 q1 many1 now1 BIG [] (((r5.length : Nat)) : Int) 0)
def lease_Ask_f (l1 : List Lease) (now1 : Int) (q1 : Lease) (many1 : Int) : Option ((List Lease) × Bool × (List Int)) :=
 (lease_one_f (⟨q1.client, q1.ino, q1.kind, q1.span, 0, q1.epoch⟩ : Lease)).bind fun r6 => lease_Ask_J1 l1 now1 q1 many1 ((!r6) || ((decide (many1 < 1)) || (decide (64 < many1))))
set_option maxHeartbeats 4000000 in
set_option maxRecDepth 20000 in
theorem lease_Ask_pc {l1 : List Lease} {now1 : Int} {q1 : Lease} {many1 : Int} {r : (List Lease) × Bool × (List Int)} (H : lease_Ask_f l1 now1 q1 many1 = some r) : PC Try.prog 39 [.list 7 (l1.map Lease.c), .int .i64 now1, .agg (Lease.c q1), .int .i64 many1] (.tup [.list 7 (r.1.map Lease.c), .bool r.2.1, .list 1 (r.2.2.map (ci .i64))]) := by
 refine pcA_of Try.func39 (by rfl) (by decide) 67 (by rfl) [.tmp 8, .tmp 9, .tmp 10] (by rfl) ?_
 unfold lease_Ask_f at H
 simp only [ent]
 refine a_seq ?_
 refine a_reg _ rfl (s := ?zs1) ?_ ?_
 rotate_left
 ·simp only [EVT, stepR, evOp, St.ev, St.app, St.put, wrs, allOne, datOf, datOf1, TIS, CS, reduceAdd, reduceMul, reduceEqDiff, ↓reduceIte, reduceCtorEq, reduceLT, reduceLeDiff]
  (repeat' apply And.intro) <;> first|rfl|assumption|omega|(simp;done)|(simp;omega)|(simp_all;done)
 refine sA_n ?_
 refine a_seq ?_
 refine a_reg _ rfl (s := ?zs2) ?_ ?_
 rotate_left
 ·simp only [EVT, stepR, evOp, St.ev, St.app, St.put, wrs, evFieldAddr, datOf, datOf1, evStore, setR, allOne, TIS, CS, reduceAdd, reduceMul, reduceEqDiff, ↓reduceIte, reduceCtorEq, reduceLT, reduceLeDiff, reduceSub, Nat.reduceBEq]
  (repeat' apply And.intro) <;> first|rfl|assumption|omega|(simp;done)|(simp;omega)|(simp_all;done)
 refine sA_n ?_
 refine a_seq ?_
 refine a_cut (fun s => ∃ (v1 : Bool) (t0 : Nat → Dat), lease_Ask_J1 l1 now1 q1 many1 v1 = some r ∧ s = ⟨tl t0 [(0, .list 7 (l1.map Lease.c)), (1, .int .i64 now1), (3, .int .i64 many1), (6, .ptr 0 0 0 7), (26, .bool v1)], hl [⟨68, 7, false, [[.int .i64 q1.client, .int .i64 q1.ino, .int .i64 q1.kind, .int .i64 q1.span.from_, .int .i64 q1.span.to_, .int .i64 0, .int .i64 q1.epoch]]⟩], 1, 67⟩) ?_ ?_
 ·obtain ⟨r6, zh9, H⟩ := bind_some H
  have zk6 := lease_one_pc zh9
  refine bool_split (b := (!r6)) (fun zc5 => ?_) (fun zc5 => ?_)
  ·rw [zc5] at H
   refine a_reg _ rfl (s := ?zs18) ?_ ?_
   rotate_left
   ·try simp only [EVT, stepR, evOp, St.ev, St.app, St.put, wrs, evLoad, cut, frz, evUn, datOf, datOf1, evBin, binInt, TIS, CS, reduceAdd, reduceMul, reduceEqDiff, ↓reduceIte, reduceCtorEq, reduceLT, reduceLeDiff, Array.reduceGetElem?, reduceSub, Nat.reduceBEq, ↓zc5]
    repeat' with_reducible apply And.intro
    all_goals try ((with_reducible show CallR _ _ _ _ _ _ _); refine cR_s zk6 (.cons (.agg' (.cons (.int' rfl) (.cons (.int' rfl) (.cons (.int' rfl) (.cons (.int' rfl) (.cons (.int' rfl) (.cons (.int' rfl) (.cons (.int' rfl) .nil)))))))) .nil) (.bool _) ?_; simp only [EVT, stepR, evOp, St.ev, St.app, St.put, wrs, evLoad, cut, frz, evUn, datOf, datOf1, evBin, binInt, TIS, CS, reduceAdd, reduceMul, reduceEqDiff, ↓reduceIte, reduceCtorEq, reduceLT, reduceLeDiff, Array.reduceGetElem?, reduceSub, Nat.reduceBEq, ↓zc5])
    all_goals ((repeat' apply And.intro) <;> first|rfl|assumption|omega|(simp;done)|(simp;omega)|(simp_all;done))
   refine cA_n ?_
   refine wk_l [(some 0, ⟨68, 7, false, [[.int .i64 q1.client, .int .i64 q1.ino, .int .i64 q1.kind, .int .i64 q1.span.from_, .int .i64 q1.span.to_, .int .i64 0, .int .i64 q1.epoch]]⟩)] [] [(0, .list 7 (l1.map Lease.c)), (1, .int .i64 now1), (3, .int .i64 many1), (6, .ptr 0 0 0 7), (26, .bool true)] (by show ([0, 1, 3, 6, 26] : List Nat).Nodup; decide) (by show ([0] : List Nat).Nodup; decide) ?_ ?_ (fun t0 => ⟨true, t0, H, rfl⟩)
   ·exact (allB_some (by rfl) rfl (.cons (.cons (.int' rfl) (.cons (.int' rfl) (.cons (.int' rfl) (.cons (.int' rfl) (.cons (.int' rfl) (.cons (.int' rfl) (.cons (.int' rfl) .nil))))))) .nil) trivial)
   ·(simp only [AllT, ATT, reduceEqDiff, ↓reduceIte, and_true]); exact ⟨(.lst _ _ _ Lease.pu rfl), (.int' rfl), (.int' rfl), (.ptr _ _ _ _ _ rfl), (.bool' (by first | rfl | assumption | (simp_all; done)))⟩
  ·rw [zc5] at H
   refine bool_split (b := (decide (many1 < 1))) (fun zc6 => ?_) (fun zc6 => ?_)
   ·rw [zc6] at H
    refine a_reg _ rfl (s := ?zs19) ?_ ?_
    rotate_left
    ·try simp only [EVT, stepR, evOp, St.ev, St.app, St.put, wrs, evLoad, cut, frz, evUn, datOf, datOf1, evBin, binInt, TIS, CS, reduceAdd, reduceMul, reduceEqDiff, ↓reduceIte, reduceCtorEq, reduceLT, reduceLeDiff, Array.reduceGetElem?, reduceSub, Nat.reduceBEq, ↓zc5, ↓zc6]
     repeat' with_reducible apply And.intro
     all_goals try ((with_reducible show CallR _ _ _ _ _ _ _); refine cR_s zk6 (.cons (.agg' (.cons (.int' rfl) (.cons (.int' rfl) (.cons (.int' rfl) (.cons (.int' rfl) (.cons (.int' rfl) (.cons (.int' rfl) (.cons (.int' rfl) .nil)))))))) .nil) (.bool _) ?_; simp only [EVT, stepR, evOp, St.ev, St.app, St.put, wrs, evLoad, cut, frz, evUn, datOf, datOf1, evBin, binInt, TIS, CS, reduceAdd, reduceMul, reduceEqDiff, ↓reduceIte, reduceCtorEq, reduceLT, reduceLeDiff, Array.reduceGetElem?, reduceSub, Nat.reduceBEq, ↓zc5, ↓zc6])
     all_goals ((repeat' apply And.intro) <;> first|rfl|assumption|omega|(simp;done)|(simp;omega)|(simp_all;done))
    refine cA_n ?_
    refine wk_l [(some 0, ⟨68, 7, false, [[.int .i64 q1.client, .int .i64 q1.ino, .int .i64 q1.kind, .int .i64 q1.span.from_, .int .i64 q1.span.to_, .int .i64 0, .int .i64 q1.epoch]]⟩)] [] [(0, .list 7 (l1.map Lease.c)), (1, .int .i64 now1), (3, .int .i64 many1), (6, .ptr 0 0 0 7), (26, .bool true)] (by show ([0, 1, 3, 6, 26] : List Nat).Nodup; decide) (by show ([0] : List Nat).Nodup; decide) ?_ ?_ (fun t0 => ⟨true, t0, H, rfl⟩)
    ·exact (allB_some (by rfl) rfl (.cons (.cons (.int' rfl) (.cons (.int' rfl) (.cons (.int' rfl) (.cons (.int' rfl) (.cons (.int' rfl) (.cons (.int' rfl) (.cons (.int' rfl) .nil))))))) .nil) trivial)
    ·(simp only [AllT, ATT, reduceEqDiff, ↓reduceIte, and_true]); exact ⟨(.lst _ _ _ Lease.pu rfl), (.int' rfl), (.int' rfl), (.ptr _ _ _ _ _ rfl), (.bool' (by first | rfl | assumption | (simp_all; done)))⟩
   ·rw [zc6] at H
    refine a_reg _ rfl (s := ?zs20) ?_ ?_
    rotate_left
    ·try simp only [EVT, stepR, evOp, St.ev, St.app, St.put, wrs, evLoad, cut, frz, evUn, datOf, datOf1, evBin, binInt, TIS, CS, reduceAdd, reduceMul, reduceEqDiff, ↓reduceIte, reduceCtorEq, reduceLT, reduceLeDiff, Array.reduceGetElem?, reduceSub, Nat.reduceBEq, ↓zc5, ↓zc6]
     repeat' with_reducible apply And.intro
     all_goals try ((with_reducible show CallR _ _ _ _ _ _ _); refine cR_s zk6 (.cons (.agg' (.cons (.int' rfl) (.cons (.int' rfl) (.cons (.int' rfl) (.cons (.int' rfl) (.cons (.int' rfl) (.cons (.int' rfl) (.cons (.int' rfl) .nil)))))))) .nil) (.bool _) ?_; simp only [EVT, stepR, evOp, St.ev, St.app, St.put, wrs, evLoad, cut, frz, evUn, datOf, datOf1, evBin, binInt, TIS, CS, reduceAdd, reduceMul, reduceEqDiff, ↓reduceIte, reduceCtorEq, reduceLT, reduceLeDiff, Array.reduceGetElem?, reduceSub, Nat.reduceBEq, ↓zc5, ↓zc6])
     all_goals ((repeat' apply And.intro) <;> first|rfl|assumption|omega|(simp;done)|(simp;omega)|(simp_all;done))
    refine cA_n ?_
    refine wk_l [(some 0, ⟨68, 7, false, [[.int .i64 q1.client, .int .i64 q1.ino, .int .i64 q1.kind, .int .i64 q1.span.from_, .int .i64 q1.span.to_, .int .i64 0, .int .i64 q1.epoch]]⟩)] [] [(0, .list 7 (l1.map Lease.c)), (1, .int .i64 now1), (3, .int .i64 many1), (6, .ptr 0 0 0 7), (26, .bool (decide (64 < many1)))] (by show ([0, 1, 3, 6, 26] : List Nat).Nodup; decide) (by show ([0] : List Nat).Nodup; decide) ?_ ?_ (fun t0 => ⟨(decide (64 < many1)), t0, H, rfl⟩)
    ·exact (allB_some (by rfl) rfl (.cons (.cons (.int' rfl) (.cons (.int' rfl) (.cons (.int' rfl) (.cons (.int' rfl) (.cons (.int' rfl) (.cons (.int' rfl) (.cons (.int' rfl) .nil))))))) .nil) trivial)
    ·(simp only [AllT, ATT, reduceEqDiff, ↓reduceIte, and_true]); exact ⟨(.lst _ _ _ Lease.pu rfl), (.int' rfl), (.int' rfl), (.ptr _ _ _ _ _ rfl), (.bool' rfl)⟩
 ·rintro s ⟨v1, t0, H, rfl⟩
  unfold lease_Ask_J1 at H
  refine a_condb (v1) (by rfl) (fun zc1 => ?_) (fun zc1 => ?_)
  ·have H := cond_t zc1 H
   refine a_seq ?_
   refine a_reg _ rfl (s := ?zs3) ?_ ?_
   rotate_left
   ·simp only [EVT, stepR, evOp, St.ev, St.app, St.put, wrs, datOf, datOf1, TIS, CS, reduceAdd, reduceMul, reduceEqDiff, ↓reduceIte, reduceCtorEq, reduceLT, reduceLeDiff, ↓zc1]
    (repeat' apply And.intro) <;> first|rfl|assumption|omega|(simp;done)|(simp;omega)|(simp_all;done)
   refine sA_n ?_
   refine a_ret ?_
   refine sA_r ?_
   obtain rfl := Option.some.inj H
   refine e_r2 (d := ?zd1) ?_ ?_
   rotate_left
   ·simp only [EVT, resR, single, evLoad, cut, TIS, CS, reduceAdd, reduceEqDiff, ↓reduceIte, reduceCtorEq, reduceLT, reduceLeDiff, reduceSub, Nat.reduceBEq, zc1]
    (repeat' apply And.intro) <;> first | rfl | assumption | omega | (simp; done)
   exact (.tup' (.cons (.lst _ _ _ Lease.pu rfl) (.cons (.bool' (by first | rfl | assumption | (simp_all; done))) (.cons (.nil _) .nil))))
  ·have H := cond_f zc1 H
   refine a_skip ?_
   refine sA_n ?_
   refine a_seq ?_
   obtain ⟨r1, zh1, H⟩ := bind_some H
   have zk1 := lease_Over_pc zh1
   refine a_reg _ rfl (s := ?zs4) ?_ ?_
   rotate_left
   ·try simp only [EVT, stepR, evOp, St.ev, St.app, St.put, wrs, frz, TIS, CS, reduceAdd, reduceMul, reduceEqDiff, ↓reduceIte, reduceCtorEq, reduceLT, reduceLeDiff, reduceSub, Nat.reduceBEq, ↓zc1]
    repeat' with_reducible apply And.intro
    all_goals try ((with_reducible show CallR _ _ _ _ _ _ _); refine cR_p zk1 (.cons (.lst _ _ _ Lease.pu rfl) (.cons (.int' rfl) .nil)) ?_; simp only [EVT, stepR, evOp, St.ev, St.app, St.put, wrs, frz, TIS, CS, reduceAdd, reduceMul, reduceEqDiff, ↓reduceIte, reduceCtorEq, reduceLT, reduceLeDiff, reduceSub, Nat.reduceBEq, ↓zc1])
    all_goals ((repeat' apply And.intro) <;> first|rfl|assumption|omega|(simp;done)|(simp;omega)|(simp_all;done))
   refine sA_n ?_
   refine a_seq ?_
   refine a_reg _ rfl (s := ?zs5) ?_ ?_
   rotate_left
   ·simp only [EVT, stepR, evOp, St.ev, St.app, St.put, wrs, datOf, datOf1, TIS, CS, reduceAdd, reduceMul, reduceEqDiff, ↓reduceIte, reduceCtorEq, reduceLT, reduceLeDiff, ↓zc1]
    (repeat' apply And.intro) <;> first|rfl|assumption|omega|(simp;done)|(simp;omega)|(simp_all;done)
   refine sA_n ?_
   refine a_cut (fun s => ∃ (who1 : List Int) (t0 : Nat → Dat), lease_Ask_J2 r1 q1 many1 now1 who1 = some r ∧ s = ⟨tl t0 [(0, .list 7 (r1.map Lease.c)), (1, .int .i64 now1), (3, .int .i64 many1), (6, .ptr 0 0 0 7), (11, .ref 1 0 who1.length 1)], hl [⟨68, 7, false, [[.int .i64 q1.client, .int .i64 q1.ino, .int .i64 q1.kind, .int .i64 q1.span.from_, .int .i64 q1.span.to_, .int .i64 0, .int .i64 q1.epoch]]⟩, ⟨3, 1, false, who1.map (ci .i64)⟩], 2, 67⟩) ?_ ?_
   ·refine a_seq ?_
    obtain ⟨r5, zh6, H⟩ := bind_some H
    have zk5 := lease_kept_rc (so1 := (fun y0_ => lease_Ask_1_f y0_ (⟨q1.client, q1.ino, q1.kind, q1.span, 0, q1.epoch⟩ : Lease))) (so1_F := 61) (so1_caps := [.rop (Lease.c (⟨q1.client, q1.ino, q1.kind, q1.span, 0, q1.epoch⟩ : Lease)) 0 7]) (fun _ _ h => lease_Ask_1_pc h) (.cons (.rop _ _ _ (Lease.pu _)) .nil) zh6
    refine a_reg _ rfl (s := ?zs13) ?_ ?_
    rotate_left
    ·try simp only [EVT, stepR, evOp, St.ev, St.app, St.put, wrs, frz, evBuiltin, datOf, datOf1, TIS, CS, reduceAdd, reduceMul, reduceEqDiff, ↓reduceIte, reduceCtorEq, reduceLT, reduceLeDiff, reduceSub, Nat.reduceBEq, ↓zc1]
     repeat' with_reducible apply And.intro
     all_goals try ((with_reducible show CallR _ _ _ _ _ _ _); refine callR_ownm (l := r5) (c := Lease.c) [0] zk5 Lease.sc (.cons (.lst _ _ _ Lease.pu rfl) (.cons (.fn' .nil (.cons (.box' (by rfl) (by simp) rfl rfl (.cons (.int' rfl) (.cons (.int' rfl) (.cons (.int' rfl) (.cons (.int' rfl) (.cons (.int' rfl) (.cons (.int' rfl) (.cons (.int' rfl) .nil)))))))) .nil)) .nil)) ?_; simp only [EVT, stepR, evOp, St.ev, St.app, St.put, wrs, frz, evBuiltin, datOf, datOf1, TIS, CS, reduceAdd, reduceMul, reduceEqDiff, ↓reduceIte, reduceCtorEq, reduceLT, reduceLeDiff, reduceSub, Nat.reduceBEq, ↓zc1])
     all_goals ((repeat' apply And.intro) <;> first|rfl|assumption|omega|(simp;done)|(simp;omega)|(simp_all;done))
    refine sA_n ?_
    refine a_blk ?_
    refine a_loop (fun m s => ∃ (who2 : List Int) (v2 : Int) (v3 : Int) (t0 : Nat → Dat), lease_Ask_L1 r5 r1 q1 many1 now1 m who2 v2 v3 = some r ∧ s = ⟨tl t0 [(0, .list 7 (r1.map Lease.c)), (1, .int .i64 now1), (3, .int .i64 many1), (6, .ptr 0 0 0 7), (11, .ref 1 0 who2.length 1), (33, .ref 2 0 r5.length 7), (34, .int .i64 v2), (35, .int .i64 v3)], hl [⟨68, 7, false, [[.int .i64 q1.client, .int .i64 q1.ino, .int .i64 q1.kind, .int .i64 q1.span.from_, .int .i64 q1.span.to_, .int .i64 0, .int .i64 q1.epoch]]⟩, ⟨3, 1, false, who2.map (ci .i64)⟩, ⟨68, 7, false, r5.map Lease.c⟩], 3, 67⟩) BIG ?_ ?_
    ·refine wk_l [(some 0, ⟨68, 7, false, [[.int .i64 q1.client, .int .i64 q1.ino, .int .i64 q1.kind, .int .i64 q1.span.from_, .int .i64 q1.span.to_, .int .i64 0, .int .i64 q1.epoch]]⟩), (none, ⟨3, 1, false, [].map (ci .i64)⟩), (some 43, ⟨68, 7, false, r5.map Lease.c⟩)] [] [(0, .list 7 (r1.map Lease.c)), (1, .int .i64 now1), (3, .int .i64 many1), (6, .ptr 0 0 0 7), (11, .ref 1 0 [].length 1), (33, .ref 2 0 r5.length 7), (34, .int .i64 (((r5.length : Nat)) : Int)), (35, .int .i64 0)] (by show ([0, 1, 3, 6, 11, 33, 34, 35] : List Nat).Nodup; decide) (by show ([0, 43] : List Nat).Nodup; decide) ?_ ?_ (fun t0 => ⟨[], (((r5.length : Nat)) : Int), 0, t0, H, rfl⟩)
     ·exact (allB_some (by rfl) rfl (.cons (.cons (.int' rfl) (.cons (.int' rfl) (.cons (.int' rfl) (.cons (.int' rfl) (.cons (.int' rfl) (.cons (.int' rfl) (.cons (.int' rfl) .nil))))))) .nil) (allB_none rfl (allB_some (by rfl) rfl (.sm _ _ Lease.pu) trivial)))
     ·(simp only [AllT, ATT, reduceEqDiff, ↓reduceIte, and_true]); exact ⟨(.lst _ _ _ Lease.pu rfl), (.int' rfl), (.int' rfl), (.ptr _ _ _ _ _ rfl), (.nilv _ _ rfl rfl), (.refl' (by first|rfl|omega|(simp;done)|(simp;omega)|(simp_all;done)) rfl), (.int' rfl), (.int' rfl)⟩
    ·rintro m_lease_Ask_L1 s ⟨who2, v2, v3, t0, H, rfl⟩
     obtain _ | m_lease_Ask_L1 := m_lease_Ask_L1
     ·cases (show (none : Option _) = some _ from H)
     ·rw [lease_Ask_L1] at H
      refine a_seq ?_
      refine a_reg _ rfl (s := ?zs14) ?_ ?_
      rotate_left
      ·simp only [EVT, stepR, evOp, St.ev, St.app, St.put, wrs, evBin, binInt, TIS, CS, reduceAdd, reduceMul, reduceEqDiff, ↓reduceIte, reduceCtorEq, reduceLT, reduceLeDiff]
       (repeat' apply And.intro) <;> first|rfl|assumption|omega|(simp;done)|(simp;omega)|(simp_all;done)
      refine sA_n ?_
      refine a_seq ?_
      refine a_condb ((decide (v3 < v2))) (by rfl) (fun zc4 => ?_) (fun zc4 => ?_)
      ·have H := cond_t zc4 H
       refine a_skip ?_
       refine sA_n ?_
       refine a_seq ?_
       refine a_blk ?_
       refine a_seq ?_
       obtain ⟨x1, zh7, H⟩ := bind_some H
       have zg1 := idx_map zh7 Lease.c
       try simp only [Int.reduceToNat, Int.toNat_natCast] at zg1
       obtain ⟨zh7a, zh7b, _⟩ := idx_some zh7
       refine a_reg _ rfl (s := ?zs15) ?_ ?_
       rotate_left
       ·simp only [EVT, stepR, evOp, St.ev, St.app, St.put, wrs, evIndexAddr, evLoad, cut, allOne, evStore, setR, TIS, CS, reduceAdd, reduceMul, reduceEqDiff, ↓reduceIte, reduceCtorEq, reduceLT, reduceLeDiff, Int.reduceToNat, reduceSub, Nat.reduceBEq, ↓zc4, zg1]
        (repeat' apply And.intro) <;> first|rfl|assumption|omega|(simp;done)|(simp;omega)|(simp_all;done)
       refine sA_n ?_
       obtain ⟨zh8, H⟩ := chk_some H
       refine a_reg _ rfl (s := ?zs16) ?_ ?_
       rotate_left
       ·simp only [EVT, stepR, evOp, St.ev, St.app, St.put, wrs, evFieldAddr, evLoad, cut, allOne, evBuiltin, evAppend, isAl, elems, Option.elim, TIS, CS, reduceAdd, reduceMul, reduceEqDiff, ↓reduceIte, reduceCtorEq, reduceLT, reduceLeDiff, reduceSub, Nat.reduceBEq, ↓zc4, zg1]
        (repeat' apply And.intro) <;> first|rfl|assumption|omega|(simp;done)|(simp;omega)|(simp_all;done)
       refine bA_n ?_
       refine sA_n ?_
       refine a_reg _ rfl (s := ?zs17) ?_ ?_
       rotate_left
       ·simp only [EVT, stepR, evOp, St.ev, St.app, St.put, wrs, datOf, datOf1, evBin, binInt, TIS, CS, reduceAdd, reduceMul, reduceEqDiff, ↓reduceIte, reduceCtorEq, reduceLT, reduceLeDiff, ↓zc4, zg1]
        (repeat' apply And.intro) <;> first|rfl|assumption|omega|(simp;done)|(simp;omega)|(simp_all;done)
       refine lA_n ?_
       refine wk_l [(some 0, ⟨68, 7, false, [[.int .i64 q1.client, .int .i64 q1.ino, .int .i64 q1.kind, .int .i64 q1.span.from_, .int .i64 q1.span.to_, .int .i64 0, .int .i64 q1.epoch]]⟩), (some 47, ⟨3, 1, false, (who2 ++ [x1.client]).map (ci .i64)⟩), (some 2, ⟨68, 7, false, r5.map Lease.c⟩)] [] [(0, .list 7 (r1.map Lease.c)), (1, .int .i64 now1), (3, .int .i64 many1), (6, .ptr 0 0 0 7), (11, .ref 1 0 (who2 ++ [x1.client]).length 1), (33, .ref 2 0 r5.length 7), (34, .int .i64 v2), (35, .int .i64 (IntKind.wrap .i64 (v3 + 1)))] (by show ([0, 1, 3, 6, 11, 33, 34, 35] : List Nat).Nodup; decide) (by show ([0, 47, 2] : List Nat).Nodup; decide) ?_ ?_ (fun t0 => ⟨_, Nat.lt_succ_self _, (who2 ++ [x1.client]), v2, (IntKind.wrap .i64 (v3 + 1)), t0, H, rfl⟩)
       ·exact (allB_some (by rfl) rfl (.cons (.cons (.int' rfl) (.cons (.int' rfl) (.cons (.int' rfl) (.cons (.int' rfl) (.cons (.int' rfl) (.cons (.int' rfl) (.cons (.int' rfl) .nil))))))) .nil) (allB_some (by rfl) rfl (.sm _ _ (ci_pu .i64)) (allB_some (by rfl) rfl (.sm _ _ Lease.pu) trivial)))
       ·(simp only [AllT, ATT, reduceEqDiff, ↓reduceIte, and_true]); exact ⟨(.lst _ _ _ Lease.pu rfl), (.int' rfl), (.int' rfl), (.ptr _ _ _ _ _ rfl), (.refl' (by first|rfl|omega|(simp;done)|(simp;omega)|(simp_all;done)) rfl), (.refl' (by first|rfl|omega|(simp;done)|(simp;omega)|(simp_all;done)) rfl), (.int' rfl), (.int' rfl)⟩
      ·have H := cond_f zc4 H
       refine a_exit ?_
       refine sA_e ?_
       refine lA_e ?_
       refine bA_hit ?_
       refine cA_n ?_
       refine wk_l [(some 0, ⟨68, 7, false, [[.int .i64 q1.client, .int .i64 q1.ino, .int .i64 q1.kind, .int .i64 q1.span.from_, .int .i64 q1.span.to_, .int .i64 0, .int .i64 q1.epoch]]⟩), (some 1, ⟨3, 1, false, who2.map (ci .i64)⟩)] [] [(0, .list 7 (r1.map Lease.c)), (1, .int .i64 now1), (3, .int .i64 many1), (6, .ptr 0 0 0 7), (11, .ref 1 0 who2.length 1)] (by show ([0, 1, 3, 6, 11] : List Nat).Nodup; decide) (by show ([0, 1] : List Nat).Nodup; decide) ?_ ?_ (fun t0 => ⟨who2, t0, H, rfl⟩)
       ·exact (allB_some (by rfl) rfl (.cons (.cons (.int' rfl) (.cons (.int' rfl) (.cons (.int' rfl) (.cons (.int' rfl) (.cons (.int' rfl) (.cons (.int' rfl) (.cons (.int' rfl) .nil))))))) .nil) (allB_some (by rfl) rfl (.sm _ _ (ci_pu .i64)) trivial))
       ·(simp only [AllT, ATT, reduceEqDiff, ↓reduceIte, and_true]); exact ⟨(.lst _ _ _ Lease.pu rfl), (.int' rfl), (.int' rfl), (.ptr _ _ _ _ _ rfl), (.refl' (by first|rfl|omega|(simp;done)|(simp;omega)|(simp_all;done)) rfl)⟩
   ·rintro s ⟨who1, t0, H, rfl⟩
    unfold lease_Ask_J2 at H
    refine a_seq ?_
    refine a_seq ?_
    refine a_reg _ rfl (s := ?zs6) ?_ ?_
    rotate_left
    ·simp only [EVT, stepR, evOp, St.ev, St.app, St.put, wrs, evBuiltin, datOf, datOf1, evBin, binInt, TIS, CS, reduceAdd, reduceMul, reduceEqDiff, ↓reduceIte, reduceCtorEq, reduceLT, reduceLeDiff, reduceSub, Nat.reduceBEq]
     (repeat' apply And.intro) <;> first|rfl|assumption|omega|(simp;done)|(simp;omega)|(simp_all;done)
    refine sA_n ?_
    refine a_condb ((decide (0 < (((who1.length : Nat)) : Int)))) (by rfl) (fun zc2 => ?_) (fun zc2 => ?_)
    ·have H := cond_t zc2 H
     refine a_seq ?_
     obtain ⟨r2, zh2, H⟩ := bind_some H
     have zk2 := lease_once_pc zh2
     refine a_reg _ rfl (s := ?zs7) ?_ ?_
     rotate_left
     ·try simp only [EVT, stepR, evOp, St.ev, St.app, St.put, wrs, frz, datOf, datOf1, TIS, CS, reduceAdd, reduceMul, reduceEqDiff, ↓reduceIte, reduceCtorEq, reduceLT, reduceLeDiff, reduceSub, Nat.reduceBEq, ↓zc2]
      repeat' with_reducible apply And.intro
      all_goals try ((with_reducible show CallR _ _ _ _ _ _ _); refine cR_f [1] zk2 (.cons (.ownL ((wrs_frz _ _ _ 1).trans (by rfl)) (fun _ => rfl) rfl (by first|rfl|omega|(simp;done)|(simp;omega)|(simp_all;done)) (.sm _ _ (ci_pu .i64))) .nil) ?_; simp only [EVT, stepR, evOp, St.ev, St.app, St.put, wrs, frz, datOf, datOf1, TIS, CS, reduceAdd, reduceMul, reduceEqDiff, ↓reduceIte, reduceCtorEq, reduceLT, reduceLeDiff, reduceSub, Nat.reduceBEq, ↓zc2])
      all_goals ((repeat' apply And.intro) <;> first|rfl|assumption|omega|(simp;done)|(simp;omega)|(simp_all;done))
     refine sA_n ?_
     refine a_ret ?_
     refine sA_r ?_
     obtain rfl := Option.some.inj H
     refine e_r2 (d := ?zd2) ?_ ?_
     rotate_left
     ·simp only [EVT, resR, single, evLoad, cut, TIS, CS, reduceAdd, reduceEqDiff, ↓reduceIte, reduceCtorEq, reduceLT, reduceLeDiff, reduceSub, Nat.reduceBEq, zc2]
      (repeat' apply And.intro) <;> first | rfl | assumption | omega | (simp; done)
     exact (.tup' (.cons (.lst _ _ _ Lease.pu rfl) (.cons (.bool' (by first | rfl | assumption | (simp_all; done))) (.cons (.lst _ _ _ (ci_pu .i64) rfl) .nil))))
    ·have H := cond_f zc2 H
     refine a_skip ?_
     refine sA_n ?_
     refine a_seq ?_
     obtain ⟨r3, zh3, H⟩ := bind_some H
     have zk3 := lease_kept_rc (so1 := (fun y0_ => lease_Ask_2_f y0_ (⟨q1.client, q1.ino, q1.kind, q1.span, 0, q1.epoch⟩ : Lease))) (so1_F := 63) (so1_caps := [.rop (Lease.c (⟨q1.client, q1.ino, q1.kind, q1.span, 0, q1.epoch⟩ : Lease)) 0 7]) (fun _ _ h => lease_Ask_2_pc h) (.cons (.rop _ _ _ (Lease.pu _)) .nil) zh3
     refine a_reg _ rfl (s := ?zs8) ?_ ?_
     rotate_left
     ·try simp only [EVT, stepR, evOp, St.ev, St.app, St.put, wrs, frz, TIS, CS, reduceAdd, reduceMul, reduceEqDiff, ↓reduceIte, reduceCtorEq, reduceLT, reduceLeDiff, reduceSub, Nat.reduceBEq, ↓zc2]
      repeat' with_reducible apply And.intro
      all_goals try ((with_reducible show CallR _ _ _ _ _ _ _); refine callR_ownm (l := r3) (c := Lease.c) [0] zk3 Lease.sc (.cons (.lst _ _ _ Lease.pu rfl) (.cons (.fn' .nil (.cons (.box' (by rfl) (by simp) rfl rfl (.cons (.int' rfl) (.cons (.int' rfl) (.cons (.int' rfl) (.cons (.int' rfl) (.cons (.int' rfl) (.cons (.int' rfl) (.cons (.int' rfl) .nil)))))))) .nil)) .nil)) ?_; simp only [EVT, stepR, evOp, St.ev, St.app, St.put, wrs, frz, TIS, CS, reduceAdd, reduceMul, reduceEqDiff, ↓reduceIte, reduceCtorEq, reduceLT, reduceLeDiff, reduceSub, Nat.reduceBEq, ↓zc2])
      all_goals ((repeat' apply And.intro) <;> first|rfl|assumption|omega|(simp;done)|(simp;omega)|(simp_all;done))
     refine sA_n ?_
     refine a_seq ?_
     refine a_seq ?_
     refine a_reg _ rfl (s := ?zs9) ?_ ?_
     rotate_left
     ·simp only [EVT, stepR, evOp, St.ev, St.app, St.put, wrs, evBuiltin, datOf, datOf1, evBin, binInt, TIS, CS, reduceAdd, reduceMul, reduceEqDiff, ↓reduceIte, reduceCtorEq, reduceLT, reduceLeDiff, reduceSub, Nat.reduceBEq, ↓zc2]
      (repeat' apply And.intro) <;> first|rfl|assumption|omega|(simp;done)|(simp;omega)|(simp_all;done)
     refine sA_n ?_
     refine a_condb ((decide (64 ≤ (((r3.length : Nat)) : Int)))) (by rfl) (fun zc3 => ?_) (fun zc3 => ?_)
     ·have H := cond_t zc3 H
      refine a_seq ?_
      refine a_reg _ rfl (s := ?zs10) ?_ ?_
      rotate_left
      ·simp only [EVT, stepR, evOp, St.ev, St.app, St.put, wrs, datOf, datOf1, TIS, CS, reduceAdd, reduceMul, reduceEqDiff, ↓reduceIte, reduceCtorEq, reduceLT, reduceLeDiff, ↓zc2, ↓zc3]
       (repeat' apply And.intro) <;> first|rfl|assumption|omega|(simp;done)|(simp;omega)|(simp_all;done)
      refine sA_n ?_
      refine a_ret ?_
      refine sA_r ?_
      obtain rfl := Option.some.inj H
      refine e_r2 (d := ?zd3) ?_ ?_
      rotate_left
      ·simp only [EVT, resR, single, evLoad, cut, TIS, CS, reduceAdd, reduceEqDiff, ↓reduceIte, reduceCtorEq, reduceLT, reduceLeDiff, reduceSub, Nat.reduceBEq, zc2, zc3]
       (repeat' apply And.intro) <;> first | rfl | assumption | omega | (simp; done)
      exact (.tup' (.cons (.lst _ _ _ Lease.pu rfl) (.cons (.bool' (by first | rfl | assumption | (simp_all; done))) (.cons (.nil _) .nil))))
     ·have H := cond_f zc3 H
      refine a_skip ?_
      refine sA_n ?_
      refine a_seq ?_
      obtain ⟨r4, zh4, H⟩ := bind_some H
      have zk4 := clock_Wait_pc zh4
      refine a_reg _ rfl (s := ?zs11) ?_ ?_
      rotate_left
      ·try simp only [EVT, stepR, evOp, St.ev, St.app, St.put, wrs, frz, evBin, binInt, evFieldAddr, evStore, setR, allOne, TIS, CS, reduceAdd, reduceMul, reduceEqDiff, ↓reduceIte, reduceCtorEq, reduceLT, reduceLeDiff, reduceSub, Nat.reduceBEq, ↓zc2, ↓zc3]
       repeat' with_reducible apply And.intro
       all_goals try ((with_reducible show CallR _ _ _ _ _ _ _); refine cR_s zk4 (.cons (.int' rfl) .nil) (.int _ _) ?_; simp only [EVT, stepR, evOp, St.ev, St.app, St.put, wrs, frz, evBin, binInt, evFieldAddr, evStore, setR, allOne, TIS, CS, reduceAdd, reduceMul, reduceEqDiff, ↓reduceIte, reduceCtorEq, reduceLT, reduceLeDiff, reduceSub, Nat.reduceBEq, ↓zc2, ↓zc3])
       all_goals ((repeat' apply And.intro) <;> first|rfl|assumption|omega|(simp;done)|(simp;omega)|(simp_all;done))
      refine sA_n ?_
      refine a_seq ?_
      obtain ⟨zh5, H⟩ := chk_some H
      refine a_reg _ rfl (s := ?zs12) ?_ ?_
      rotate_left
      ·simp only [EVT, stepR, evOp, St.ev, St.app, St.put, wrs, evLoad, cut, allOne, evBuiltin, evAppend, isAl, elems, Option.elim, datOf, datOf1, TIS, CS, reduceAdd, reduceMul, reduceEqDiff, ↓reduceIte, reduceCtorEq, reduceLT, reduceLeDiff, reduceSub, Nat.reduceBEq, ↓zc2, ↓zc3]
       (repeat' apply And.intro) <;> first|rfl|assumption|omega|(simp;done)|(simp;omega)|(simp_all;done)
      refine sA_n ?_
      refine a_ret ?_
      obtain rfl := Option.some.inj H
      refine e_r2 (d := ?zd4) ?_ ?_
      rotate_left
      ·simp only [EVT, resR, single, evLoad, cut, TIS, CS, reduceAdd, reduceEqDiff, ↓reduceIte, reduceCtorEq, reduceLT, reduceLeDiff, reduceSub, Nat.reduceBEq, zc2, zc3]
       (repeat' apply And.intro) <;> first | rfl | assumption | omega | (simp; done)
      exact (.tup' (.cons (.ownL (by rfl) (fun e => by cases e) rfl (by first|rfl|omega|(simp;done)|(simp;omega)|(simp_all;done)) (.sm _ _ Lease.pu)) (.cons (.bool' (by first | rfl | assumption | (simp_all; done))) (.cons (.nil _) .nil))))
def top_askR14_f (l1 : List Lease) (now1 : Int) (client1 : Int) (ino1 : Int) (kind1 : Int) (many1 : Int) : Option ((List Lease) × Bool × (List Int)) :=
 (top_wholeR14_f).bind fun r1 => (lease_Ask_f l1 now1 (⟨client1, ino1, kind1, r1, 0, 0⟩ : Lease) many1).bind fun r2 => some (r2.1, r2.2.1, r2.2.2)
set_option maxHeartbeats 4000000 in
set_option maxRecDepth 20000 in
theorem top_askR14_pc {l1 : List Lease} {now1 : Int} {client1 : Int} {ino1 : Int} {kind1 : Int} {many1 : Int} {r : (List Lease) × Bool × (List Int)} (H : top_askR14_f l1 now1 client1 ino1 kind1 many1 = some r) : PC Try.prog 14 [.list 7 (l1.map Lease.c), .int .i64 now1, .int .i64 client1, .int .i64 ino1, .int .i64 kind1, .int .i64 many1] (.tup [.list 7 (r.1.map Lease.c), .bool r.2.1, .list 1 (r.2.2.map (ci .i64))]) := by
 refine pcA_of Try.func14 (by rfl) (by decide) 27 (by rfl) [.tmp 12, .tmp 13, .tmp 14] (by rfl) ?_
 unfold top_askR14_f at H
 simp only [ent]
 refine a_seq ?_
 refine a_reg _ rfl (s := ?zs1) ?_ ?_
 rotate_left
 ·simp only [EVT, stepR, evOp, St.ev, St.app, St.put, wrs, datOf, datOf1, TIS, CS, reduceAdd, reduceMul, reduceEqDiff, ↓reduceIte, reduceCtorEq, reduceLT, reduceLeDiff]
  (repeat' apply And.intro) <;> first|rfl|assumption|omega|(simp;done)|(simp;omega)|(simp_all;done)
 refine sA_n ?_
 refine a_seq ?_
 obtain ⟨r1, zh1, H⟩ := bind_some H
 have zk1 := top_wholeR14_pc zh1
 obtain ⟨r2, zh2, H⟩ := bind_some H
 have zk2 := lease_Ask_pc zh2
 refine a_reg _ rfl (s := ?zs2) ?_ ?_
 rotate_left
 ·try simp only [EVT, stepR, evOp, St.ev, St.app, St.put, wrs, frz, fillD, setR, TIS, CS, reduceAdd, reduceMul, reduceEqDiff, ↓reduceIte, reduceCtorEq, reduceLT, reduceLeDiff, Nat.reduceGT, reduceSub, Nat.reduceBEq]
  repeat' with_reducible apply And.intro
  all_goals try ((with_reducible show CallR _ _ _ _ _ _ _); refine cR_p zk1 .nil ?_; simp only [EVT, stepR, evOp, St.ev, St.app, St.put, wrs, frz, fillD, setR, TIS, CS, reduceAdd, reduceMul, reduceEqDiff, ↓reduceIte, reduceCtorEq, reduceLT, reduceLeDiff, Nat.reduceGT, reduceSub, Nat.reduceBEq])
  repeat' with_reducible apply And.intro
  all_goals try ((with_reducible show CallR _ _ _ _ _ _ _); refine cR_p zk2 (.cons (.lst _ _ _ Lease.pu rfl) (.cons (.int' rfl) (.cons (.agg' (.cons (.int' rfl) (.cons (.int' rfl) (.cons (.int' rfl) (.cons (.int' rfl) (.cons (.int' rfl) (.cons (.int' rfl) (.cons (.int' rfl) .nil)))))))) (.cons (.int' rfl) .nil)))) ?_; simp only [EVT, stepR, evOp, St.ev, St.app, St.put, wrs, frz, fillD, setR, TIS, CS, reduceAdd, reduceMul, reduceEqDiff, ↓reduceIte, reduceCtorEq, reduceLT, reduceLeDiff, Nat.reduceGT, reduceSub, Nat.reduceBEq])
  all_goals ((repeat' apply And.intro) <;> first|rfl|assumption|omega|(simp;done)|(simp;omega)|(simp_all;done))
 refine sA_n ?_
 refine a_ret ?_
 obtain rfl := Option.some.inj H
 refine e_r2 (d := ?zd1) ?_ ?_
 rotate_left
 ·simp only [EVT, resR, single, evLoad, cut, TIS, CS, reduceAdd, reduceEqDiff, ↓reduceIte, reduceCtorEq, reduceLT, reduceLeDiff, reduceSub, Nat.reduceBEq]
  (repeat' apply And.intro) <;> first | rfl | assumption | omega | (simp; done)
 exact (.tup' (.cons (.lst _ _ _ Lease.pu rfl) (.cons (.bool' rfl) (.cons (.lst _ _ _ (ci_pu .i64) rfl) .nil))))
def top_didR14_J1 (p2 : PlaceR14) : Option PlaceR14 :=
 some (p2)
def top_didR14_J3 (r2 : (List Lease) × Bool × (List Int)) (p1 : PlaceR14) (k2 : List Kept) : Option PlaceR14 :=
 top_didR14_J1 (⟨r2.1, p1.data, p1.is, k2⟩ : PlaceR14)
def top_didR14_J2 (r2 : (List Lease) × Bool × (List Int)) (p1 : PlaceR14) (c1 : Int) (k1 : List Kept) (n1 : Int) : Option PlaceR14 :=
 cond r2.2.1 ((cache_Name_f k1 9 (⟨#[120]⟩ : ByteArray) p1.is (IntKind.wrap .i64 (c1 + n1))).bind fun r3 => top_didR14_J3 r2 p1 r3) (top_didR14_J3 r2 p1 k1)
def top_didR14_J4 (p1 : PlaceR14) (data1 : Int) (l1 : List Lease) : Option PlaceR14 :=
 top_didR14_J1 (⟨l1, data1, p1.is, p1.k⟩ : PlaceR14)
def top_didR14_J5 (p1 : PlaceR14) (is1 : Int) (l2 : List Lease) : Option PlaceR14 :=
 top_didR14_J1 (⟨l2, p1.data, is1, p1.k⟩ : PlaceR14)
def top_didR14_f (p1 : PlaceR14) (a1 : ActR14) (s1 : Int) (c1 : Int) : Option PlaceR14 :=
 cond ((Int.tmod a1.do_ 5) == 0) ((top_askR14_f p1.l s1 1 5 1 (IntKind.wrap .i64 (1 + (Int.tmod (IntKind.wrap .i64 a1.long) 64)))).bind fun r1 => (top_askR14_f r1.1 s1 1 9 1 (IntKind.wrap .i64 (1 + (Int.tmod (IntKind.wrap .i64 a1.long) 64)))).bind fun r2 => cond r1.2.1 ((cache_Page_f p1.k 5 0 [(IntKind.wrap .u8 p1.data)] (IntKind.wrap .i64 (c1 + (IntKind.wrap .i64 (1 + (Int.tmod (IntKind.wrap .i64 a1.long) 64)))))).bind fun r4 => top_didR14_J2 r2 p1 c1 r4 (IntKind.wrap .i64 (1 + (Int.tmod (IntKind.wrap .i64 a1.long) 64)))) (top_didR14_J2 r2 p1 c1 p1.k (IntKind.wrap .i64 (1 + (Int.tmod (IntKind.wrap .i64 a1.long) 64))))) (cond ((Int.tmod a1.do_ 5) == 1) ((top_askR14_f p1.l s1 2 5 2 (IntKind.wrap .i64 (1 + (Int.tmod (IntKind.wrap .i64 a1.long) 64)))).bind fun r5 => cond r5.2.1 ((lease_Back_f r5.1 2 5).bind fun r6 => top_didR14_J4 p1 (Int.tmod (IntKind.wrap .i64 (p1.data + 1)) 200) r6) (top_didR14_J4 p1 p1.data r5.1)) (cond ((Int.tmod a1.do_ 5) == 2) ((top_askR14_f p1.l s1 2 9 2 (IntKind.wrap .i64 (1 + (Int.tmod (IntKind.wrap .i64 a1.long) 64)))).bind fun r7 => cond r7.2.1 ((lease_Back_f r7.1 2 9).bind fun r8 => top_didR14_J5 p1 (IntKind.wrap .i64 (7 - p1.is)) r8) (top_didR14_J5 p1 p1.is r7.1)) (cond ((Int.tmod a1.do_ 5) == 3) ((lease_Back_f p1.l 1 5).bind fun r9 => (lease_Back_f r9 1 9).bind fun r10 => (cache_Forget_f p1.k 5).bind fun r11 => (cache_Forget_f r11 9).bind fun r12 => top_didR14_J1 (⟨r10, p1.data, p1.is, r12⟩ : PlaceR14)) (top_didR14_J1 p1))))
set_option maxHeartbeats 4000000 in
set_option maxRecDepth 20000 in
theorem top_didR14_pc {p1 : PlaceR14} {a1 : ActR14} {s1 : Int} {c1 : Int} {r : PlaceR14} (H : top_didR14_f p1 a1 s1 c1 = some r) : PC Try.prog 8 [.agg (PlaceR14.c p1), .agg (ActR14.c a1), .int .i64 s1, .int .i64 c1] (.agg (PlaceR14.c r)) := by
 refine pcA_of Try.func8 (by rfl) (by decide) 127 (by rfl) [.cell 8 32] (by rfl) ?_
 unfold top_didR14_f at H
 simp only [ent]
 refine a_seq ?_
 refine a_reg _ rfl (s := ?zs1) ?_ ?_
 rotate_left
 ·simp only [EVT, stepR, evOp, St.ev, St.app, St.put, wrs, allOne, TIS, CS, reduceAdd, reduceMul, reduceEqDiff, ↓reduceIte, reduceCtorEq, reduceLT, reduceLeDiff]
  (repeat' apply And.intro) <;> first|rfl|assumption|omega|(simp;done)|(simp;omega)|(simp_all;done)
 refine sA_n ?_
 refine a_seq ?_
 refine a_reg _ rfl (s := ?zs2) ?_ ?_
 rotate_left
 ·simp only [EVT, stepR, evOp, St.ev, St.app, St.put, wrs, evFieldAddr, evLoad, cut, evToStr, elems, datOf, datOf1, evBin, binInt, TIS, CS, reduceAdd, reduceMul, reduceEqDiff, ↓reduceIte, reduceCtorEq, reduceLT, reduceLeDiff, reduceSub, Nat.reduceBEq]
  (repeat' apply And.intro) <;> first|rfl|assumption|omega|(simp;done)|(simp;omega)|(simp_all;done)
 refine sA_n ?_
 refine a_cut (fun s => ∃ (p2 : PlaceR14) (t0 : Nat → Dat), top_didR14_J1 p2 = some r ∧ s = ⟨tl t0 [(4, .ptr 0 0 0 4), (8, .ptr 1 0 0 4)], hl [⟨32, 4, false, [[.list 7 (p2.l.map Lease.c), .int .i64 p2.data, .int .i64 p2.is, .list 6 (p2.k.map Kept.c)]]⟩, ⟨32, 4, false, [[.nil, .int .i64 0, .int .i64 0, .nil]]⟩], 2, 127⟩) ?_ ?_
 ·refine a_seq ?_
  refine a_reg _ rfl (s := ?zs4) ?_ ?_
  rotate_left
  ·simp only [EVT, stepR, evOp, St.ev, St.app, St.put, wrs, evFieldAddr, evLoad, cut, datOf, datOf1, evBin, binInt, TIS, CS, reduceAdd, reduceMul, reduceEqDiff, ↓reduceIte, reduceCtorEq, reduceLT, reduceLeDiff, reduceSub, Nat.reduceBEq]
   (repeat' apply And.intro) <;> first|rfl|assumption|omega|(simp;done)|(simp;omega)|(simp_all;done)
  refine sA_n ?_
  refine a_blk ?_
  refine a_seq ?_
  refine a_reg _ rfl (s := ?zs5) ?_ ?_
  rotate_left
  ·simp only [EVT, stepR, evOp, St.ev, St.app, St.put, wrs, datOf, datOf1, evBin, binInt, TIS, CS, reduceAdd, reduceMul, reduceEqDiff, ↓reduceIte, reduceCtorEq, reduceLT, reduceLeDiff]
   (repeat' apply And.intro) <;> first|rfl|assumption|omega|(simp;done)|(simp;omega)|(simp_all;done)
  refine sA_n ?_
  refine a_condb (((Int.tmod a1.do_ 5) == 0)) (by rfl) (fun zc1 => ?_) (fun zc1 => ?_)
  ·have H := cond_t zc1 H
   refine a_seq ?_
   obtain ⟨r1, zh1, H⟩ := bind_some H
   have zk1 := top_askR14_pc zh1
   refine a_reg _ rfl (s := ?zs6) ?_ ?_
   rotate_left
   ·try simp only [EVT, stepR, evOp, St.ev, St.app, St.put, wrs, evFieldAddr, evLoad, cut, datOf, datOf1, frz, TIS, CS, reduceAdd, reduceMul, reduceEqDiff, ↓reduceIte, reduceCtorEq, reduceLT, reduceLeDiff, reduceSub, Nat.reduceBEq, ↓zc1]
    repeat' with_reducible apply And.intro
    all_goals try ((with_reducible show CallR _ _ _ _ _ _ _); refine cR_p zk1 (.cons (.lst _ _ _ Lease.pu rfl) (.cons (.int' rfl) (.cons (.int' rfl) (.cons (.int' rfl) (.cons (.int' rfl) (.cons (.int' rfl) .nil)))))) ?_; simp only [EVT, stepR, evOp, St.ev, St.app, St.put, wrs, evFieldAddr, evLoad, cut, datOf, datOf1, frz, TIS, CS, reduceAdd, reduceMul, reduceEqDiff, ↓reduceIte, reduceCtorEq, reduceLT, reduceLeDiff, reduceSub, Nat.reduceBEq, ↓zc1])
    all_goals ((repeat' apply And.intro) <;> first|rfl|assumption|omega|(simp;done)|(simp;omega)|(simp_all;done))
   refine sA_n ?_
   refine a_seq ?_
   obtain ⟨r2, zh2, H⟩ := bind_some H
   have zk2 := top_askR14_pc zh2
   refine a_reg _ rfl (s := ?zs7) ?_ ?_
   rotate_left
   ·try simp only [EVT, stepR, evOp, St.ev, St.app, St.put, wrs, datOf, datOf1, frz, TIS, CS, reduceAdd, reduceMul, reduceEqDiff, ↓reduceIte, reduceCtorEq, reduceLT, reduceLeDiff, reduceSub, Nat.reduceBEq, ↓zc1]
    repeat' with_reducible apply And.intro
    all_goals try ((with_reducible show CallR _ _ _ _ _ _ _); refine cR_p zk2 (.cons (.lst _ _ _ Lease.pu rfl) (.cons (.int' rfl) (.cons (.int' rfl) (.cons (.int' rfl) (.cons (.int' rfl) (.cons (.int' rfl) .nil)))))) ?_; simp only [EVT, stepR, evOp, St.ev, St.app, St.put, wrs, datOf, datOf1, frz, TIS, CS, reduceAdd, reduceMul, reduceEqDiff, ↓reduceIte, reduceCtorEq, reduceLT, reduceLeDiff, reduceSub, Nat.reduceBEq, ↓zc1])
    all_goals ((repeat' apply And.intro) <;> first|rfl|assumption|omega|(simp;done)|(simp;omega)|(simp_all;done))
   refine sA_n ?_
   refine a_cut (fun s => ∃ (k1 : List Kept) (n1 : Int) (t0 : Nat → Dat), top_didR14_J2 r2 p1 c1 k1 n1 = some r ∧ s = ⟨tl t0 [(3, .int .i64 c1), (4, .ptr 0 0 0 4), (8, .ptr 1 0 0 4), (9, .int .i64 n1), (13, .list 7 (r2.1.map Lease.c)), (14, .bool r2.2.1)], hl [⟨32, 4, false, [[.list 7 (p1.l.map Lease.c), .int .i64 p1.data, .int .i64 p1.is, .list 6 (k1.map Kept.c)]]⟩, ⟨32, 4, false, [[.nil, .int .i64 0, .int .i64 0, .nil]]⟩], 2, 127⟩) ?_ ?_
   ·refine a_seq ?_
    refine a_reg _ rfl (s := ?zs11) ?_ ?_
    rotate_left
    ·simp only [EVT, stepR, evOp, St.ev, St.app, St.put, wrs, TIS, CS, reduceAdd, reduceMul, reduceEqDiff, ↓reduceIte, reduceCtorEq, reduceLT, reduceLeDiff, ↓zc1]
     (repeat' apply And.intro) <;> first|rfl|assumption|omega|(simp;done)|(simp;omega)|(simp_all;done)
    refine sA_n ?_
    refine a_condb (r1.2.1) (by rfl) (fun zc3 => ?_) (fun zc3 => ?_)
    ·have H := cond_t zc3 H
     obtain ⟨r4, zh4, H⟩ := bind_some H
     have zk4 := cache_Page_pc zh4
     refine a_reg _ rfl (s := ?zs12) ?_ ?_
     rotate_left
     ·try simp only [EVT, stepR, evOp, St.ev, St.app, St.put, wrs, evFieldAddr, evLoad, cut, evToStr, elems, allOne, evBin, binInt, datOf, datOf1, frz, evStore, setR, TIS, CS, reduceAdd, reduceMul, reduceEqDiff, ↓reduceIte, reduceCtorEq, reduceLT, reduceLeDiff, reduceSub, Nat.reduceBEq, ↓zc1, ↓zc3]
      repeat' with_reducible apply And.intro
      all_goals try ((with_reducible show CallR _ _ _ _ _ _ _); refine cR_f [309] zk4 (.cons (.lst _ _ _ Kept.pu rfl) (.cons (.int' rfl) (.cons (.int' rfl) (.cons (.ownL ((wrs_frz _ _ _ 309).trans (by rfl)) (fun _ => rfl) rfl (by first|rfl|omega|(simp;done)|(simp;omega)|(simp_all;done)) (.sm _ _ (ci_pu .u8))) (.cons (.int' rfl) .nil))))) ?_; simp only [EVT, stepR, evOp, St.ev, St.app, St.put, wrs, evFieldAddr, evLoad, cut, evToStr, elems, allOne, evBin, binInt, datOf, datOf1, frz, evStore, setR, TIS, CS, reduceAdd, reduceMul, reduceEqDiff, ↓reduceIte, reduceCtorEq, reduceLT, reduceLeDiff, reduceSub, Nat.reduceBEq, ↓zc1, ↓zc3])
      all_goals ((repeat' apply And.intro) <;> first|rfl|assumption|omega|(simp;done)|(simp;omega)|(simp_all;done))
     refine cA_n ?_
     refine wk_l [(some 0, ⟨32, 4, false, [[.list 7 (p1.l.map Lease.c), .int .i64 p1.data, .int .i64 p1.is, .list 6 (r4.map Kept.c)]]⟩), (some 2, ⟨32, 4, false, [[.nil, .int .i64 0, .int .i64 0, .nil]]⟩)] [] [(3, .int .i64 c1), (4, .ptr 0 0 0 4), (8, .ptr 1 0 0 4), (9, .int .i64 (IntKind.wrap .i64 (1 + (Int.tmod (IntKind.wrap .i64 a1.long) 64)))), (13, .list 7 (r2.1.map Lease.c)), (14, .bool r2.2.1)] (by show ([3, 4, 8, 9, 13, 14] : List Nat).Nodup; decide) (by show ([0, 2] : List Nat).Nodup; decide) ?_ ?_ (fun t0 => ⟨r4, (IntKind.wrap .i64 (1 + (Int.tmod (IntKind.wrap .i64 a1.long) 64))), t0, H, rfl⟩)
     ·exact (allB_some (by rfl) rfl (.cons (.cons (.lst _ _ _ Lease.pu rfl) (.cons (.int' rfl) (.cons (.int' rfl) (.cons (.lst _ _ _ Kept.pu rfl) .nil)))) .nil) (allB_some (by rfl) rfl (.cons (.cons .nil' (.cons (.int' rfl) (.cons (.int' rfl) (.cons .nil' .nil)))) .nil) trivial))
     ·(simp only [AllT, ATT, reduceEqDiff, ↓reduceIte, and_true]); exact ⟨(.int' rfl), (.ptr _ _ _ _ _ rfl), (.ptr _ _ _ _ _ rfl), (.int' rfl), (.lst _ _ _ Lease.pu rfl), (.bool' rfl)⟩
    ·have H := cond_f zc3 H
     refine a_skip ?_
     refine cA_n ?_
     refine wk_l [(some 0, ⟨32, 4, false, [[.list 7 (p1.l.map Lease.c), .int .i64 p1.data, .int .i64 p1.is, .list 6 (p1.k.map Kept.c)]]⟩), (some 2, ⟨32, 4, false, [[.nil, .int .i64 0, .int .i64 0, .nil]]⟩)] [] [(3, .int .i64 c1), (4, .ptr 0 0 0 4), (8, .ptr 1 0 0 4), (9, .int .i64 (IntKind.wrap .i64 (1 + (Int.tmod (IntKind.wrap .i64 a1.long) 64)))), (13, .list 7 (r2.1.map Lease.c)), (14, .bool r2.2.1)] (by show ([3, 4, 8, 9, 13, 14] : List Nat).Nodup; decide) (by show ([0, 2] : List Nat).Nodup; decide) ?_ ?_ (fun t0 => ⟨p1.k, (IntKind.wrap .i64 (1 + (Int.tmod (IntKind.wrap .i64 a1.long) 64))), t0, H, rfl⟩)
     ·exact (allB_some (by rfl) rfl (.cons (.cons (.lst _ _ _ Lease.pu rfl) (.cons (.int' rfl) (.cons (.int' rfl) (.cons (.lst _ _ _ Kept.pu rfl) .nil)))) .nil) (allB_some (by rfl) rfl (.cons (.cons .nil' (.cons (.int' rfl) (.cons (.int' rfl) (.cons .nil' .nil)))) .nil) trivial))
     ·(simp only [AllT, ATT, reduceEqDiff, ↓reduceIte, and_true]); exact ⟨(.int' rfl), (.ptr _ _ _ _ _ rfl), (.ptr _ _ _ _ _ rfl), (.int' rfl), (.lst _ _ _ Lease.pu rfl), (.bool' rfl)⟩
   ·rintro s ⟨k1, n1, t0, H, rfl⟩
    unfold top_didR14_J2 at H
    refine a_cut (fun s => ∃ (k2 : List Kept) (t0 : Nat → Dat), top_didR14_J3 r2 p1 k2 = some r ∧ s = ⟨tl t0 [(4, .ptr 0 0 0 4), (8, .ptr 1 0 0 4), (13, .list 7 (r2.1.map Lease.c))], hl [⟨32, 4, false, [[.list 7 (p1.l.map Lease.c), .int .i64 p1.data, .int .i64 p1.is, .list 6 (k2.map Kept.c)]]⟩, ⟨32, 4, false, [[.nil, .int .i64 0, .int .i64 0, .nil]]⟩], 2, 127⟩) ?_ ?_
    ·refine a_seq ?_
     refine a_reg _ rfl (s := ?zs9) ?_ ?_
     rotate_left
     ·simp only [EVT, stepR, evOp, St.ev, St.app, St.put, wrs, TIS, CS, reduceAdd, reduceMul, reduceEqDiff, ↓reduceIte, reduceCtorEq, reduceLT, reduceLeDiff]
      (repeat' apply And.intro) <;> first|rfl|assumption|omega|(simp;done)|(simp;omega)|(simp_all;done)
     refine sA_n ?_
     refine a_condb (r2.2.1) (by rfl) (fun zc2 => ?_) (fun zc2 => ?_)
     ·have H := cond_t zc2 H
      obtain ⟨r3, zh3, H⟩ := bind_some H
      have zk3 := cache_Name_pc zh3
      refine a_reg _ rfl (s := ?zs10) ?_ ?_
      rotate_left
      ·try simp only [EVT, stepR, evOp, St.ev, St.app, St.put, wrs, evFieldAddr, evLoad, cut, evBin, binInt, datOf, datOf1, frz, evStore, setR, allOne, TIS, CS, reduceAdd, reduceMul, reduceEqDiff, ↓reduceIte, reduceCtorEq, reduceLT, reduceLeDiff, reduceSub, Nat.reduceBEq, ↓zc2]
       repeat' with_reducible apply And.intro
       all_goals try ((with_reducible show CallR _ _ _ _ _ _ _); refine cR_p zk3 (.cons (.lst _ _ _ Kept.pu rfl) (.cons (.int' rfl) (.cons (.str' rfl) (.cons (.int' rfl) (.cons (.int' rfl) .nil))))) ?_; simp only [EVT, stepR, evOp, St.ev, St.app, St.put, wrs, evFieldAddr, evLoad, cut, evBin, binInt, datOf, datOf1, frz, evStore, setR, allOne, TIS, CS, reduceAdd, reduceMul, reduceEqDiff, ↓reduceIte, reduceCtorEq, reduceLT, reduceLeDiff, reduceSub, Nat.reduceBEq, ↓zc2])
       all_goals ((repeat' apply And.intro) <;> first|rfl|assumption|omega|(simp;done)|(simp;omega)|(simp_all;done))
      refine cA_n ?_
      refine wk_l [(some 0, ⟨32, 4, false, [[.list 7 (p1.l.map Lease.c), .int .i64 p1.data, .int .i64 p1.is, .list 6 (r3.map Kept.c)]]⟩), (some 1, ⟨32, 4, false, [[.nil, .int .i64 0, .int .i64 0, .nil]]⟩)] [] [(4, .ptr 0 0 0 4), (8, .ptr 1 0 0 4), (13, .list 7 (r2.1.map Lease.c))] (by show ([4, 8, 13] : List Nat).Nodup; decide) (by show ([0, 1] : List Nat).Nodup; decide) ?_ ?_ (fun t0 => ⟨r3, t0, H, rfl⟩)
      ·exact (allB_some (by rfl) rfl (.cons (.cons (.lst _ _ _ Lease.pu rfl) (.cons (.int' rfl) (.cons (.int' rfl) (.cons (.lst _ _ _ Kept.pu rfl) .nil)))) .nil) (allB_some (by rfl) rfl (.cons (.cons .nil' (.cons (.int' rfl) (.cons (.int' rfl) (.cons .nil' .nil)))) .nil) trivial))
      ·(simp only [AllT, ATT, reduceEqDiff, ↓reduceIte, and_true]); exact ⟨(.ptr _ _ _ _ _ rfl), (.ptr _ _ _ _ _ rfl), (.lst _ _ _ Lease.pu rfl)⟩
     ·have H := cond_f zc2 H
      refine a_skip ?_
      refine cA_n ?_
      refine wk_l [(some 0, ⟨32, 4, false, [[.list 7 (p1.l.map Lease.c), .int .i64 p1.data, .int .i64 p1.is, .list 6 (k1.map Kept.c)]]⟩), (some 1, ⟨32, 4, false, [[.nil, .int .i64 0, .int .i64 0, .nil]]⟩)] [] [(4, .ptr 0 0 0 4), (8, .ptr 1 0 0 4), (13, .list 7 (r2.1.map Lease.c))] (by show ([4, 8, 13] : List Nat).Nodup; decide) (by show ([0, 1] : List Nat).Nodup; decide) ?_ ?_ (fun t0 => ⟨k1, t0, H, rfl⟩)
      ·exact (allB_some (by rfl) rfl (.cons (.cons (.lst _ _ _ Lease.pu rfl) (.cons (.int' rfl) (.cons (.int' rfl) (.cons (.lst _ _ _ Kept.pu rfl) .nil)))) .nil) (allB_some (by rfl) rfl (.cons (.cons .nil' (.cons (.int' rfl) (.cons (.int' rfl) (.cons .nil' .nil)))) .nil) trivial))
      ·(simp only [AllT, ATT, reduceEqDiff, ↓reduceIte, and_true]); exact ⟨(.ptr _ _ _ _ _ rfl), (.ptr _ _ _ _ _ rfl), (.lst _ _ _ Lease.pu rfl)⟩
    ·rintro s ⟨k2, t0, H, rfl⟩
     unfold top_didR14_J3 at H
     refine a_reg _ rfl (s := ?zs8) ?_ ?_
     rotate_left
     ·simp only [EVT, stepR, evOp, St.ev, St.app, St.put, wrs, evFieldAddr, evStore, setR, allOne, TIS, CS, reduceAdd, reduceMul, reduceEqDiff, ↓reduceIte, reduceCtorEq, reduceLT, reduceLeDiff, reduceSub, Nat.reduceBEq]
      (repeat' apply And.intro) <;> first|rfl|assumption|omega|(simp;done)|(simp;omega)|(simp_all;done)
     refine bA_n ?_
     refine cA_n ?_
     refine wk_l [(some 0, ⟨32, 4, false, [[.list 7 ((⟨r2.1, p1.data, p1.is, k2⟩ : PlaceR14).l.map Lease.c), .int .i64 (⟨r2.1, p1.data, p1.is, k2⟩ : PlaceR14).data, .int .i64 (⟨r2.1, p1.data, p1.is, k2⟩ : PlaceR14).is, .list 6 ((⟨r2.1, p1.data, p1.is, k2⟩ : PlaceR14).k.map Kept.c)]]⟩), (some 1, ⟨32, 4, false, [[.nil, .int .i64 0, .int .i64 0, .nil]]⟩)] [] [(4, .ptr 0 0 0 4), (8, .ptr 1 0 0 4)] (by show ([4, 8] : List Nat).Nodup; decide) (by show ([0, 1] : List Nat).Nodup; decide) ?_ ?_ (fun t0 => ⟨(⟨r2.1, p1.data, p1.is, k2⟩ : PlaceR14), t0, H, rfl⟩)
     ·exact (allB_some (by rfl) rfl (.cons (.cons (.lst _ _ _ Lease.pu rfl) (.cons (.int' rfl) (.cons (.int' rfl) (.cons (.lst _ _ _ Kept.pu rfl) .nil)))) .nil) (allB_some (by rfl) rfl (.cons (.cons .nil' (.cons (.int' rfl) (.cons (.int' rfl) (.cons .nil' .nil)))) .nil) trivial))
     ·(simp only [AllT, ATT, reduceEqDiff, ↓reduceIte, and_true]); exact ⟨(.ptr _ _ _ _ _ rfl), (.ptr _ _ _ _ _ rfl)⟩
  ·have H := cond_f zc1 H
   refine a_seq ?_
   refine a_reg _ rfl (s := ?zs13) ?_ ?_
   rotate_left
   ·simp only [EVT, stepR, evOp, St.ev, St.app, St.put, wrs, datOf, datOf1, evBin, binInt, TIS, CS, reduceAdd, reduceMul, reduceEqDiff, ↓reduceIte, reduceCtorEq, reduceLT, reduceLeDiff, ↓zc1]
    (repeat' apply And.intro) <;> first|rfl|assumption|omega|(simp;done)|(simp;omega)|(simp_all;done)
   refine sA_n ?_
   refine a_condb (((Int.tmod a1.do_ 5) == 1)) (by rfl) (fun zc4 => ?_) (fun zc4 => ?_)
   ·have H := cond_t zc4 H
    refine a_seq ?_
    obtain ⟨r5, zh5, H⟩ := bind_some H
    have zk5 := top_askR14_pc zh5
    refine a_reg _ rfl (s := ?zs14) ?_ ?_
    rotate_left
    ·try simp only [EVT, stepR, evOp, St.ev, St.app, St.put, wrs, evFieldAddr, evLoad, cut, datOf, datOf1, frz, TIS, CS, reduceAdd, reduceMul, reduceEqDiff, ↓reduceIte, reduceCtorEq, reduceLT, reduceLeDiff, reduceSub, Nat.reduceBEq, ↓zc1, ↓zc4]
     repeat' with_reducible apply And.intro
     all_goals try ((with_reducible show CallR _ _ _ _ _ _ _); refine cR_p zk5 (.cons (.lst _ _ _ Lease.pu rfl) (.cons (.int' rfl) (.cons (.int' rfl) (.cons (.int' rfl) (.cons (.int' rfl) (.cons (.int' rfl) .nil)))))) ?_; simp only [EVT, stepR, evOp, St.ev, St.app, St.put, wrs, evFieldAddr, evLoad, cut, datOf, datOf1, frz, TIS, CS, reduceAdd, reduceMul, reduceEqDiff, ↓reduceIte, reduceCtorEq, reduceLT, reduceLeDiff, reduceSub, Nat.reduceBEq, ↓zc1, ↓zc4])
     all_goals ((repeat' apply And.intro) <;> first|rfl|assumption|omega|(simp;done)|(simp;omega)|(simp_all;done))
    refine sA_n ?_
    refine a_cut (fun s => ∃ (data1 : Int) (l1 : List Lease) (t0 : Nat → Dat), top_didR14_J4 p1 data1 l1 = some r ∧ s = ⟨tl t0 [(4, .ptr 0 0 0 4), (8, .ptr 1 0 0 4), (16, .list 7 (l1.map Lease.c))], hl [⟨32, 4, false, [[.list 7 (p1.l.map Lease.c), .int .i64 data1, .int .i64 p1.is, .list 6 (p1.k.map Kept.c)]]⟩, ⟨32, 4, false, [[.nil, .int .i64 0, .int .i64 0, .nil]]⟩], 2, 127⟩) ?_ ?_
    ·refine a_seq ?_
     refine a_reg _ rfl (s := ?zs16) ?_ ?_
     rotate_left
     ·simp only [EVT, stepR, evOp, St.ev, St.app, St.put, wrs, TIS, CS, reduceAdd, reduceMul, reduceEqDiff, ↓reduceIte, reduceCtorEq, reduceLT, reduceLeDiff, ↓zc1, ↓zc4]
      (repeat' apply And.intro) <;> first|rfl|assumption|omega|(simp;done)|(simp;omega)|(simp_all;done)
     refine sA_n ?_
     refine a_condb (r5.2.1) (by rfl) (fun zc5 => ?_) (fun zc5 => ?_)
     ·have H := cond_t zc5 H
      refine a_seq ?_
      refine a_reg _ rfl (s := ?zs17) ?_ ?_
      rotate_left
      ·simp only [EVT, stepR, evOp, St.ev, St.app, St.put, wrs, evFieldAddr, evLoad, cut, datOf, datOf1, evBin, binInt, evStore, setR, allOne, TIS, CS, reduceAdd, reduceMul, reduceEqDiff, ↓reduceIte, reduceCtorEq, reduceLT, reduceLeDiff, reduceSub, Nat.reduceBEq, ↓zc1, ↓zc4, ↓zc5]
       (repeat' apply And.intro) <;> first|rfl|assumption|omega|(simp;done)|(simp;omega)|(simp_all;done)
      refine sA_n ?_
      obtain ⟨r6, zh6, H⟩ := bind_some H
      have zk6 := lease_Back_pc zh6
      refine a_reg _ rfl (s := ?zs18) ?_ ?_
      rotate_left
      ·try simp only [EVT, stepR, evOp, St.ev, St.app, St.put, wrs, datOf, datOf1, frz, TIS, CS, reduceAdd, reduceMul, reduceEqDiff, ↓reduceIte, reduceCtorEq, reduceLT, reduceLeDiff, reduceSub, Nat.reduceBEq, ↓zc1, ↓zc4, ↓zc5]
       repeat' with_reducible apply And.intro
       all_goals try ((with_reducible show CallR _ _ _ _ _ _ _); refine cR_p zk6 (.cons (.lst _ _ _ Lease.pu rfl) (.cons (.int' rfl) (.cons (.int' rfl) .nil))) ?_; simp only [EVT, stepR, evOp, St.ev, St.app, St.put, wrs, datOf, datOf1, frz, TIS, CS, reduceAdd, reduceMul, reduceEqDiff, ↓reduceIte, reduceCtorEq, reduceLT, reduceLeDiff, reduceSub, Nat.reduceBEq, ↓zc1, ↓zc4, ↓zc5])
       all_goals ((repeat' apply And.intro) <;> first|rfl|assumption|omega|(simp;done)|(simp;omega)|(simp_all;done))
      refine cA_n ?_
      refine wk_l [(some 0, ⟨32, 4, false, [[.list 7 (p1.l.map Lease.c), .int .i64 (Int.tmod (IntKind.wrap .i64 (p1.data + 1)) 200), .int .i64 p1.is, .list 6 (p1.k.map Kept.c)]]⟩), (some 2, ⟨32, 4, false, [[.nil, .int .i64 0, .int .i64 0, .nil]]⟩)] [] [(4, .ptr 0 0 0 4), (8, .ptr 1 0 0 4), (16, .list 7 (r6.map Lease.c))] (by show ([4, 8, 16] : List Nat).Nodup; decide) (by show ([0, 2] : List Nat).Nodup; decide) ?_ ?_ (fun t0 => ⟨(Int.tmod (IntKind.wrap .i64 (p1.data + 1)) 200), r6, t0, H, rfl⟩)
      ·exact (allB_some (by rfl) rfl (.cons (.cons (.lst _ _ _ Lease.pu rfl) (.cons (.int' rfl) (.cons (.int' rfl) (.cons (.lst _ _ _ Kept.pu rfl) .nil)))) .nil) (allB_some (by rfl) rfl (.cons (.cons .nil' (.cons (.int' rfl) (.cons (.int' rfl) (.cons .nil' .nil)))) .nil) trivial))
      ·(simp only [AllT, ATT, reduceEqDiff, ↓reduceIte, and_true]); exact ⟨(.ptr _ _ _ _ _ rfl), (.ptr _ _ _ _ _ rfl), (.lst _ _ _ Lease.pu rfl)⟩
     ·have H := cond_f zc5 H
      refine a_skip ?_
      refine cA_n ?_
      refine wk_l [(some 0, ⟨32, 4, false, [[.list 7 (p1.l.map Lease.c), .int .i64 p1.data, .int .i64 p1.is, .list 6 (p1.k.map Kept.c)]]⟩), (some 2, ⟨32, 4, false, [[.nil, .int .i64 0, .int .i64 0, .nil]]⟩)] [] [(4, .ptr 0 0 0 4), (8, .ptr 1 0 0 4), (16, .list 7 (r5.1.map Lease.c))] (by show ([4, 8, 16] : List Nat).Nodup; decide) (by show ([0, 2] : List Nat).Nodup; decide) ?_ ?_ (fun t0 => ⟨p1.data, r5.1, t0, H, rfl⟩)
      ·exact (allB_some (by rfl) rfl (.cons (.cons (.lst _ _ _ Lease.pu rfl) (.cons (.int' rfl) (.cons (.int' rfl) (.cons (.lst _ _ _ Kept.pu rfl) .nil)))) .nil) (allB_some (by rfl) rfl (.cons (.cons .nil' (.cons (.int' rfl) (.cons (.int' rfl) (.cons .nil' .nil)))) .nil) trivial))
      ·(simp only [AllT, ATT, reduceEqDiff, ↓reduceIte, and_true]); exact ⟨(.ptr _ _ _ _ _ rfl), (.ptr _ _ _ _ _ rfl), (.lst _ _ _ Lease.pu rfl)⟩
    ·rintro s ⟨data1, l1, t0, H, rfl⟩
     unfold top_didR14_J4 at H
     refine a_reg _ rfl (s := ?zs15) ?_ ?_
     rotate_left
     ·simp only [EVT, stepR, evOp, St.ev, St.app, St.put, wrs, evFieldAddr, evStore, setR, allOne, TIS, CS, reduceAdd, reduceMul, reduceEqDiff, ↓reduceIte, reduceCtorEq, reduceLT, reduceLeDiff, reduceSub, Nat.reduceBEq]
      (repeat' apply And.intro) <;> first|rfl|assumption|omega|(simp;done)|(simp;omega)|(simp_all;done)
     refine bA_n ?_
     refine cA_n ?_
     refine wk_l [(some 0, ⟨32, 4, false, [[.list 7 ((⟨l1, data1, p1.is, p1.k⟩ : PlaceR14).l.map Lease.c), .int .i64 (⟨l1, data1, p1.is, p1.k⟩ : PlaceR14).data, .int .i64 (⟨l1, data1, p1.is, p1.k⟩ : PlaceR14).is, .list 6 ((⟨l1, data1, p1.is, p1.k⟩ : PlaceR14).k.map Kept.c)]]⟩), (some 1, ⟨32, 4, false, [[.nil, .int .i64 0, .int .i64 0, .nil]]⟩)] [] [(4, .ptr 0 0 0 4), (8, .ptr 1 0 0 4)] (by show ([4, 8] : List Nat).Nodup; decide) (by show ([0, 1] : List Nat).Nodup; decide) ?_ ?_ (fun t0 => ⟨(⟨l1, data1, p1.is, p1.k⟩ : PlaceR14), t0, H, rfl⟩)
     ·exact (allB_some (by rfl) rfl (.cons (.cons (.lst _ _ _ Lease.pu rfl) (.cons (.int' rfl) (.cons (.int' rfl) (.cons (.lst _ _ _ Kept.pu rfl) .nil)))) .nil) (allB_some (by rfl) rfl (.cons (.cons .nil' (.cons (.int' rfl) (.cons (.int' rfl) (.cons .nil' .nil)))) .nil) trivial))
     ·(simp only [AllT, ATT, reduceEqDiff, ↓reduceIte, and_true]); exact ⟨(.ptr _ _ _ _ _ rfl), (.ptr _ _ _ _ _ rfl)⟩
   ·have H := cond_f zc4 H
    refine a_seq ?_
    refine a_reg _ rfl (s := ?zs19) ?_ ?_
    rotate_left
    ·simp only [EVT, stepR, evOp, St.ev, St.app, St.put, wrs, datOf, datOf1, evBin, binInt, TIS, CS, reduceAdd, reduceMul, reduceEqDiff, ↓reduceIte, reduceCtorEq, reduceLT, reduceLeDiff, ↓zc1, ↓zc4]
     (repeat' apply And.intro) <;> first|rfl|assumption|omega|(simp;done)|(simp;omega)|(simp_all;done)
    refine sA_n ?_
    refine a_condb (((Int.tmod a1.do_ 5) == 2)) (by rfl) (fun zc6 => ?_) (fun zc6 => ?_)
    ·have H := cond_t zc6 H
     refine a_seq ?_
     obtain ⟨r7, zh7, H⟩ := bind_some H
     have zk7 := top_askR14_pc zh7
     refine a_reg _ rfl (s := ?zs20) ?_ ?_
     rotate_left
     ·try simp only [EVT, stepR, evOp, St.ev, St.app, St.put, wrs, evFieldAddr, evLoad, cut, datOf, datOf1, frz, TIS, CS, reduceAdd, reduceMul, reduceEqDiff, ↓reduceIte, reduceCtorEq, reduceLT, reduceLeDiff, reduceSub, Nat.reduceBEq, ↓zc1, ↓zc4, ↓zc6]
      repeat' with_reducible apply And.intro
      all_goals try ((with_reducible show CallR _ _ _ _ _ _ _); refine cR_p zk7 (.cons (.lst _ _ _ Lease.pu rfl) (.cons (.int' rfl) (.cons (.int' rfl) (.cons (.int' rfl) (.cons (.int' rfl) (.cons (.int' rfl) .nil)))))) ?_; simp only [EVT, stepR, evOp, St.ev, St.app, St.put, wrs, evFieldAddr, evLoad, cut, datOf, datOf1, frz, TIS, CS, reduceAdd, reduceMul, reduceEqDiff, ↓reduceIte, reduceCtorEq, reduceLT, reduceLeDiff, reduceSub, Nat.reduceBEq, ↓zc1, ↓zc4, ↓zc6])
      all_goals ((repeat' apply And.intro) <;> first|rfl|assumption|omega|(simp;done)|(simp;omega)|(simp_all;done))
     refine sA_n ?_
     refine a_cut (fun s => ∃ (is1 : Int) (l2 : List Lease) (t0 : Nat → Dat), top_didR14_J5 p1 is1 l2 = some r ∧ s = ⟨tl t0 [(4, .ptr 0 0 0 4), (8, .ptr 1 0 0 4), (19, .list 7 (l2.map Lease.c))], hl [⟨32, 4, false, [[.list 7 (p1.l.map Lease.c), .int .i64 p1.data, .int .i64 is1, .list 6 (p1.k.map Kept.c)]]⟩, ⟨32, 4, false, [[.nil, .int .i64 0, .int .i64 0, .nil]]⟩], 2, 127⟩) ?_ ?_
     ·refine a_seq ?_
      refine a_reg _ rfl (s := ?zs22) ?_ ?_
      rotate_left
      ·simp only [EVT, stepR, evOp, St.ev, St.app, St.put, wrs, TIS, CS, reduceAdd, reduceMul, reduceEqDiff, ↓reduceIte, reduceCtorEq, reduceLT, reduceLeDiff, ↓zc1, ↓zc4, ↓zc6]
       (repeat' apply And.intro) <;> first|rfl|assumption|omega|(simp;done)|(simp;omega)|(simp_all;done)
      refine sA_n ?_
      refine a_condb (r7.2.1) (by rfl) (fun zc7 => ?_) (fun zc7 => ?_)
      ·have H := cond_t zc7 H
       refine a_seq ?_
       refine a_reg _ rfl (s := ?zs23) ?_ ?_
       rotate_left
       ·simp only [EVT, stepR, evOp, St.ev, St.app, St.put, wrs, evFieldAddr, evLoad, cut, datOf, datOf1, evBin, binInt, evStore, setR, allOne, TIS, CS, reduceAdd, reduceMul, reduceEqDiff, ↓reduceIte, reduceCtorEq, reduceLT, reduceLeDiff, reduceSub, Nat.reduceBEq, ↓zc1, ↓zc4, ↓zc6, ↓zc7]
        (repeat' apply And.intro) <;> first|rfl|assumption|omega|(simp;done)|(simp;omega)|(simp_all;done)
       refine sA_n ?_
       obtain ⟨r8, zh8, H⟩ := bind_some H
       have zk8 := lease_Back_pc zh8
       refine a_reg _ rfl (s := ?zs24) ?_ ?_
       rotate_left
       ·try simp only [EVT, stepR, evOp, St.ev, St.app, St.put, wrs, datOf, datOf1, frz, TIS, CS, reduceAdd, reduceMul, reduceEqDiff, ↓reduceIte, reduceCtorEq, reduceLT, reduceLeDiff, reduceSub, Nat.reduceBEq, ↓zc1, ↓zc4, ↓zc6, ↓zc7]
        repeat' with_reducible apply And.intro
        all_goals try ((with_reducible show CallR _ _ _ _ _ _ _); refine cR_p zk8 (.cons (.lst _ _ _ Lease.pu rfl) (.cons (.int' rfl) (.cons (.int' rfl) .nil))) ?_; simp only [EVT, stepR, evOp, St.ev, St.app, St.put, wrs, datOf, datOf1, frz, TIS, CS, reduceAdd, reduceMul, reduceEqDiff, ↓reduceIte, reduceCtorEq, reduceLT, reduceLeDiff, reduceSub, Nat.reduceBEq, ↓zc1, ↓zc4, ↓zc6, ↓zc7])
        all_goals ((repeat' apply And.intro) <;> first|rfl|assumption|omega|(simp;done)|(simp;omega)|(simp_all;done))
       refine cA_n ?_
       refine wk_l [(some 0, ⟨32, 4, false, [[.list 7 (p1.l.map Lease.c), .int .i64 p1.data, .int .i64 (IntKind.wrap .i64 (7 - p1.is)), .list 6 (p1.k.map Kept.c)]]⟩), (some 2, ⟨32, 4, false, [[.nil, .int .i64 0, .int .i64 0, .nil]]⟩)] [] [(4, .ptr 0 0 0 4), (8, .ptr 1 0 0 4), (19, .list 7 (r8.map Lease.c))] (by show ([4, 8, 19] : List Nat).Nodup; decide) (by show ([0, 2] : List Nat).Nodup; decide) ?_ ?_ (fun t0 => ⟨(IntKind.wrap .i64 (7 - p1.is)), r8, t0, H, rfl⟩)
       ·exact (allB_some (by rfl) rfl (.cons (.cons (.lst _ _ _ Lease.pu rfl) (.cons (.int' rfl) (.cons (.int' rfl) (.cons (.lst _ _ _ Kept.pu rfl) .nil)))) .nil) (allB_some (by rfl) rfl (.cons (.cons .nil' (.cons (.int' rfl) (.cons (.int' rfl) (.cons .nil' .nil)))) .nil) trivial))
       ·(simp only [AllT, ATT, reduceEqDiff, ↓reduceIte, and_true]); exact ⟨(.ptr _ _ _ _ _ rfl), (.ptr _ _ _ _ _ rfl), (.lst _ _ _ Lease.pu rfl)⟩
      ·have H := cond_f zc7 H
       refine a_skip ?_
       refine cA_n ?_
       refine wk_l [(some 0, ⟨32, 4, false, [[.list 7 (p1.l.map Lease.c), .int .i64 p1.data, .int .i64 p1.is, .list 6 (p1.k.map Kept.c)]]⟩), (some 2, ⟨32, 4, false, [[.nil, .int .i64 0, .int .i64 0, .nil]]⟩)] [] [(4, .ptr 0 0 0 4), (8, .ptr 1 0 0 4), (19, .list 7 (r7.1.map Lease.c))] (by show ([4, 8, 19] : List Nat).Nodup; decide) (by show ([0, 2] : List Nat).Nodup; decide) ?_ ?_ (fun t0 => ⟨p1.is, r7.1, t0, H, rfl⟩)
       ·exact (allB_some (by rfl) rfl (.cons (.cons (.lst _ _ _ Lease.pu rfl) (.cons (.int' rfl) (.cons (.int' rfl) (.cons (.lst _ _ _ Kept.pu rfl) .nil)))) .nil) (allB_some (by rfl) rfl (.cons (.cons .nil' (.cons (.int' rfl) (.cons (.int' rfl) (.cons .nil' .nil)))) .nil) trivial))
       ·(simp only [AllT, ATT, reduceEqDiff, ↓reduceIte, and_true]); exact ⟨(.ptr _ _ _ _ _ rfl), (.ptr _ _ _ _ _ rfl), (.lst _ _ _ Lease.pu rfl)⟩
     ·rintro s ⟨is1, l2, t0, H, rfl⟩
      unfold top_didR14_J5 at H
      refine a_reg _ rfl (s := ?zs21) ?_ ?_
      rotate_left
      ·simp only [EVT, stepR, evOp, St.ev, St.app, St.put, wrs, evFieldAddr, evStore, setR, allOne, TIS, CS, reduceAdd, reduceMul, reduceEqDiff, ↓reduceIte, reduceCtorEq, reduceLT, reduceLeDiff, reduceSub, Nat.reduceBEq]
       (repeat' apply And.intro) <;> first|rfl|assumption|omega|(simp;done)|(simp;omega)|(simp_all;done)
      refine bA_n ?_
      refine cA_n ?_
      refine wk_l [(some 0, ⟨32, 4, false, [[.list 7 ((⟨l2, p1.data, is1, p1.k⟩ : PlaceR14).l.map Lease.c), .int .i64 (⟨l2, p1.data, is1, p1.k⟩ : PlaceR14).data, .int .i64 (⟨l2, p1.data, is1, p1.k⟩ : PlaceR14).is, .list 6 ((⟨l2, p1.data, is1, p1.k⟩ : PlaceR14).k.map Kept.c)]]⟩), (some 1, ⟨32, 4, false, [[.nil, .int .i64 0, .int .i64 0, .nil]]⟩)] [] [(4, .ptr 0 0 0 4), (8, .ptr 1 0 0 4)] (by show ([4, 8] : List Nat).Nodup; decide) (by show ([0, 1] : List Nat).Nodup; decide) ?_ ?_ (fun t0 => ⟨(⟨l2, p1.data, is1, p1.k⟩ : PlaceR14), t0, H, rfl⟩)
      ·exact (allB_some (by rfl) rfl (.cons (.cons (.lst _ _ _ Lease.pu rfl) (.cons (.int' rfl) (.cons (.int' rfl) (.cons (.lst _ _ _ Kept.pu rfl) .nil)))) .nil) (allB_some (by rfl) rfl (.cons (.cons .nil' (.cons (.int' rfl) (.cons (.int' rfl) (.cons .nil' .nil)))) .nil) trivial))
      ·(simp only [AllT, ATT, reduceEqDiff, ↓reduceIte, and_true]); exact ⟨(.ptr _ _ _ _ _ rfl), (.ptr _ _ _ _ _ rfl)⟩
    ·have H := cond_f zc6 H
     refine a_seq ?_
     refine a_reg _ rfl (s := ?zs25) ?_ ?_
     rotate_left
     ·simp only [EVT, stepR, evOp, St.ev, St.app, St.put, wrs, datOf, datOf1, evBin, binInt, TIS, CS, reduceAdd, reduceMul, reduceEqDiff, ↓reduceIte, reduceCtorEq, reduceLT, reduceLeDiff, ↓zc1, ↓zc4, ↓zc6]
      (repeat' apply And.intro) <;> first|rfl|assumption|omega|(simp;done)|(simp;omega)|(simp_all;done)
     refine sA_n ?_
     refine a_condb (((Int.tmod a1.do_ 5) == 3)) (by rfl) (fun zc8 => ?_) (fun zc8 => ?_)
     ·have H := cond_t zc8 H
      refine a_seq ?_
      obtain ⟨r9, zh9, H⟩ := bind_some H
      have zk9 := lease_Back_pc zh9
      obtain ⟨r10, zh10, H⟩ := bind_some H
      have zk10 := lease_Back_pc zh10
      refine a_reg _ rfl (s := ?zs26) ?_ ?_
      rotate_left
      ·try simp only [EVT, stepR, evOp, St.ev, St.app, St.put, wrs, evFieldAddr, evLoad, cut, datOf, datOf1, frz, evStore, setR, allOne, TIS, CS, reduceAdd, reduceMul, reduceEqDiff, ↓reduceIte, reduceCtorEq, reduceLT, reduceLeDiff, reduceSub, Nat.reduceBEq, ↓zc1, ↓zc4, ↓zc6, ↓zc8]
       repeat' with_reducible apply And.intro
       all_goals try ((with_reducible show CallR _ _ _ _ _ _ _); refine cR_p zk9 (.cons (.lst _ _ _ Lease.pu rfl) (.cons (.int' rfl) (.cons (.int' rfl) .nil))) ?_; simp only [EVT, stepR, evOp, St.ev, St.app, St.put, wrs, evFieldAddr, evLoad, cut, datOf, datOf1, frz, evStore, setR, allOne, TIS, CS, reduceAdd, reduceMul, reduceEqDiff, ↓reduceIte, reduceCtorEq, reduceLT, reduceLeDiff, reduceSub, Nat.reduceBEq, ↓zc1, ↓zc4, ↓zc6, ↓zc8])
       repeat' with_reducible apply And.intro
       all_goals try ((with_reducible show CallR _ _ _ _ _ _ _); refine cR_p zk10 (.cons (.lst _ _ _ Lease.pu rfl) (.cons (.int' rfl) (.cons (.int' rfl) .nil))) ?_; simp only [EVT, stepR, evOp, St.ev, St.app, St.put, wrs, evFieldAddr, evLoad, cut, datOf, datOf1, frz, evStore, setR, allOne, TIS, CS, reduceAdd, reduceMul, reduceEqDiff, ↓reduceIte, reduceCtorEq, reduceLT, reduceLeDiff, reduceSub, Nat.reduceBEq, ↓zc1, ↓zc4, ↓zc6, ↓zc8])
       all_goals ((repeat' apply And.intro) <;> first|rfl|assumption|omega|(simp;done)|(simp;omega)|(simp_all;done))
      refine sA_n ?_
      obtain ⟨r11, zh11, H⟩ := bind_some H
      have zk11 := cache_Forget_pc zh11
      obtain ⟨r12, zh12, H⟩ := bind_some H
      have zk12 := cache_Forget_pc zh12
      refine a_reg _ rfl (s := ?zs27) ?_ ?_
      rotate_left
      ·try simp only [EVT, stepR, evOp, St.ev, St.app, St.put, wrs, evFieldAddr, evLoad, cut, datOf, datOf1, frz, evStore, setR, allOne, TIS, CS, reduceAdd, reduceMul, reduceEqDiff, ↓reduceIte, reduceCtorEq, reduceLT, reduceLeDiff, reduceSub, Nat.reduceBEq, ↓zc1, ↓zc4, ↓zc6, ↓zc8]
       repeat' with_reducible apply And.intro
       all_goals try ((with_reducible show CallR _ _ _ _ _ _ _); refine cR_p zk11 (.cons (.lst _ _ _ Kept.pu rfl) (.cons (.int' rfl) .nil)) ?_; simp only [EVT, stepR, evOp, St.ev, St.app, St.put, wrs, evFieldAddr, evLoad, cut, datOf, datOf1, frz, evStore, setR, allOne, TIS, CS, reduceAdd, reduceMul, reduceEqDiff, ↓reduceIte, reduceCtorEq, reduceLT, reduceLeDiff, reduceSub, Nat.reduceBEq, ↓zc1, ↓zc4, ↓zc6, ↓zc8])
       repeat' with_reducible apply And.intro
       all_goals try ((with_reducible show CallR _ _ _ _ _ _ _); refine cR_p zk12 (.cons (.lst _ _ _ Kept.pu rfl) (.cons (.int' rfl) .nil)) ?_; simp only [EVT, stepR, evOp, St.ev, St.app, St.put, wrs, evFieldAddr, evLoad, cut, datOf, datOf1, frz, evStore, setR, allOne, TIS, CS, reduceAdd, reduceMul, reduceEqDiff, ↓reduceIte, reduceCtorEq, reduceLT, reduceLeDiff, reduceSub, Nat.reduceBEq, ↓zc1, ↓zc4, ↓zc6, ↓zc8])
       all_goals ((repeat' apply And.intro) <;> first|rfl|assumption|omega|(simp;done)|(simp;omega)|(simp_all;done))
      refine bA_n ?_
      refine cA_n ?_
      refine wk_l [(some 0, ⟨32, 4, false, [[.list 7 ((⟨r10, p1.data, p1.is, r12⟩ : PlaceR14).l.map Lease.c), .int .i64 (⟨r10, p1.data, p1.is, r12⟩ : PlaceR14).data, .int .i64 (⟨r10, p1.data, p1.is, r12⟩ : PlaceR14).is, .list 6 ((⟨r10, p1.data, p1.is, r12⟩ : PlaceR14).k.map Kept.c)]]⟩), (some 2, ⟨32, 4, false, [[.nil, .int .i64 0, .int .i64 0, .nil]]⟩)] [] [(4, .ptr 0 0 0 4), (8, .ptr 1 0 0 4)] (by show ([4, 8] : List Nat).Nodup; decide) (by show ([0, 2] : List Nat).Nodup; decide) ?_ ?_ (fun t0 => ⟨(⟨r10, p1.data, p1.is, r12⟩ : PlaceR14), t0, H, rfl⟩)
      ·exact (allB_some (by rfl) rfl (.cons (.cons (.lst _ _ _ Lease.pu rfl) (.cons (.int' rfl) (.cons (.int' rfl) (.cons (.lst _ _ _ Kept.pu rfl) .nil)))) .nil) (allB_some (by rfl) rfl (.cons (.cons .nil' (.cons (.int' rfl) (.cons (.int' rfl) (.cons .nil' .nil)))) .nil) trivial))
      ·(simp only [AllT, ATT, reduceEqDiff, ↓reduceIte, and_true]); exact ⟨(.ptr _ _ _ _ _ rfl), (.ptr _ _ _ _ _ rfl)⟩
     ·have H := cond_f zc8 H
      refine a_skip ?_
      refine bA_n ?_
      refine cA_n ?_
      refine wk_l [(some 0, ⟨32, 4, false, [[.list 7 (p1.l.map Lease.c), .int .i64 p1.data, .int .i64 p1.is, .list 6 (p1.k.map Kept.c)]]⟩), (some 2, ⟨32, 4, false, [[.nil, .int .i64 0, .int .i64 0, .nil]]⟩)] [] [(4, .ptr 0 0 0 4), (8, .ptr 1 0 0 4)] (by show ([4, 8] : List Nat).Nodup; decide) (by show ([0, 2] : List Nat).Nodup; decide) ?_ ?_ (fun t0 => ⟨p1, t0, H, rfl⟩)
      ·exact (allB_some (by rfl) rfl (.cons (.cons (.lst _ _ _ Lease.pu rfl) (.cons (.int' rfl) (.cons (.int' rfl) (.cons (.lst _ _ _ Kept.pu rfl) .nil)))) .nil) (allB_some (by rfl) rfl (.cons (.cons .nil' (.cons (.int' rfl) (.cons (.int' rfl) (.cons .nil' .nil)))) .nil) trivial))
      ·(simp only [AllT, ATT, reduceEqDiff, ↓reduceIte, and_true]); exact ⟨(.ptr _ _ _ _ _ rfl), (.ptr _ _ _ _ _ rfl)⟩
 ·rintro s ⟨p2, t0, H, rfl⟩
  unfold top_didR14_J1 at H
  refine a_seq ?_
  refine a_reg _ rfl (s := ?zs3) ?_ ?_
  rotate_left
  ·simp only [EVT, stepR, evOp, St.ev, St.app, St.put, wrs, evLoad, cut, evStore, setR, allOne, TIS, CS, reduceAdd, reduceMul, reduceEqDiff, ↓reduceIte, reduceCtorEq, reduceLT, reduceLeDiff, reduceSub, Nat.reduceBEq]
   (repeat' apply And.intro) <;> first|rfl|assumption|omega|(simp;done)|(simp;omega)|(simp_all;done)
  refine sA_n ?_
  refine a_ret ?_
  obtain rfl := Option.some.inj H
  refine e_r2 (d := ?zd1) ?_ ?_
  rotate_left
  ·simp only [EVT, resR, single, evLoad, cut, TIS, CS, reduceAdd, reduceEqDiff, ↓reduceIte, reduceCtorEq, reduceLT, reduceLeDiff, reduceSub, Nat.reduceBEq]
   (repeat' apply And.intro) <;> first | rfl | assumption | omega | (simp; done)
  exact (.agg' (.cons (.lst _ _ _ Lease.pu rfl) (.cons (.int' rfl) (.cons (.int' rfl) (.cons (.lst _ _ _ Kept.pu rfl) .nil)))))
def top_head23_f : Option Bool :=
 (top_askR14_f [] 10 1 5 1 1).bind fun r1 => (top_askR14_f r1.1 12 2 5 2 1).bind fun r2 => (top_askR14_f r1.1 13 2 5 2 1).bind fun r3 => (cache_Page_f [] 5 0 [7] 1).bind fun r4 => (cache_GetPage_f r4 5 0 0).bind fun r5 => (cache_GetPage_f r4 5 0 1).bind fun r6 => cond r1.2.1 (cond (!r2.2.1) ((ref02_Ints_f r2.2.2 [1]).bind fun r7 => cond r7 (cond r3.2.1 (cond r5.2 ((ref02_Bytes_f r5.1 [7]).bind fun r8 => cond r8 (cond (!r6.2) ((clock_Wait_f 1).bind fun r9 => some ((r9 == 3))) (some (false))) (some (false))) (some (false))) (some (false))) (some (false))) (some (false))) (some (false))
set_option maxHeartbeats 4000000 in
set_option maxRecDepth 20000 in
theorem top_head23_pc {r : Bool} (H : top_head23_f = some r) : PC Try.prog 5 [] (.bool r) := by
 refine pcA_of Try.func5 (by rfl) (by decide) 73 (by rfl) [.tmp 0] (by rfl) ?_
 unfold top_head23_f at H
 simp only [ent]
 refine a_seq ?_
 refine a_reg _ rfl (s := ?zs1) ?_ ?_
 rotate_left
 ·simp only [EVT, stepR, evOp, St.ev, St.app, St.put, wrs, datOf, datOf1, TIS, CS, reduceAdd, reduceMul, reduceEqDiff, ↓reduceIte, reduceCtorEq, reduceLT, reduceLeDiff]
  (repeat' apply And.intro) <;> first|rfl|assumption|omega|(simp;done)|(simp;omega)|(simp_all;done)
 refine sA_n ?_
 refine a_seq ?_
 obtain ⟨r1, zh1, H⟩ := bind_some H
 have zk1 := top_askR14_pc zh1
 refine a_reg _ rfl (s := ?zs2) ?_ ?_
 rotate_left
 ·try simp only [EVT, stepR, evOp, St.ev, St.app, St.put, wrs, datOf, datOf1, frz, TIS, CS, reduceAdd, reduceMul, reduceEqDiff, ↓reduceIte, reduceCtorEq, reduceLT, reduceLeDiff, reduceSub, Nat.reduceBEq]
  repeat' with_reducible apply And.intro
  all_goals try ((with_reducible show CallR _ _ _ _ _ _ _); refine cR_p zk1 (.cons (.nil _) (.cons (.int' rfl) (.cons (.int' rfl) (.cons (.int' rfl) (.cons (.int' rfl) (.cons (.int' rfl) .nil)))))) ?_; simp only [EVT, stepR, evOp, St.ev, St.app, St.put, wrs, datOf, datOf1, frz, TIS, CS, reduceAdd, reduceMul, reduceEqDiff, ↓reduceIte, reduceCtorEq, reduceLT, reduceLeDiff, reduceSub, Nat.reduceBEq])
  all_goals ((repeat' apply And.intro) <;> first|rfl|assumption|omega|(simp;done)|(simp;omega)|(simp_all;done))
 refine sA_n ?_
 refine a_seq ?_
 obtain ⟨r2, zh2, H⟩ := bind_some H
 have zk2 := top_askR14_pc zh2
 refine a_reg _ rfl (s := ?zs3) ?_ ?_
 rotate_left
 ·try simp only [EVT, stepR, evOp, St.ev, St.app, St.put, wrs, datOf, datOf1, frz, TIS, CS, reduceAdd, reduceMul, reduceEqDiff, ↓reduceIte, reduceCtorEq, reduceLT, reduceLeDiff, reduceSub, Nat.reduceBEq]
  repeat' with_reducible apply And.intro
  all_goals try ((with_reducible show CallR _ _ _ _ _ _ _); refine cR_p zk2 (.cons (.lst _ _ _ Lease.pu rfl) (.cons (.int' rfl) (.cons (.int' rfl) (.cons (.int' rfl) (.cons (.int' rfl) (.cons (.int' rfl) .nil)))))) ?_; simp only [EVT, stepR, evOp, St.ev, St.app, St.put, wrs, datOf, datOf1, frz, TIS, CS, reduceAdd, reduceMul, reduceEqDiff, ↓reduceIte, reduceCtorEq, reduceLT, reduceLeDiff, reduceSub, Nat.reduceBEq])
  all_goals ((repeat' apply And.intro) <;> first|rfl|assumption|omega|(simp;done)|(simp;omega)|(simp_all;done))
 refine sA_n ?_
 refine a_seq ?_
 obtain ⟨r3, zh3, H⟩ := bind_some H
 have zk3 := top_askR14_pc zh3
 refine a_reg _ rfl (s := ?zs4) ?_ ?_
 rotate_left
 ·try simp only [EVT, stepR, evOp, St.ev, St.app, St.put, wrs, datOf, datOf1, frz, TIS, CS, reduceAdd, reduceMul, reduceEqDiff, ↓reduceIte, reduceCtorEq, reduceLT, reduceLeDiff, reduceSub, Nat.reduceBEq]
  repeat' with_reducible apply And.intro
  all_goals try ((with_reducible show CallR _ _ _ _ _ _ _); refine cR_p zk3 (.cons (.lst _ _ _ Lease.pu rfl) (.cons (.int' rfl) (.cons (.int' rfl) (.cons (.int' rfl) (.cons (.int' rfl) (.cons (.int' rfl) .nil)))))) ?_; simp only [EVT, stepR, evOp, St.ev, St.app, St.put, wrs, datOf, datOf1, frz, TIS, CS, reduceAdd, reduceMul, reduceEqDiff, ↓reduceIte, reduceCtorEq, reduceLT, reduceLeDiff, reduceSub, Nat.reduceBEq])
  all_goals ((repeat' apply And.intro) <;> first|rfl|assumption|omega|(simp;done)|(simp;omega)|(simp_all;done))
 refine sA_n ?_
 refine a_seq ?_
 obtain ⟨r4, zh4, H⟩ := bind_some H
 have zk4 := cache_Page_pc zh4
 refine a_reg _ rfl (s := ?zs5) ?_ ?_
 rotate_left
 ·try simp only [EVT, stepR, evOp, St.ev, St.app, St.put, wrs, datOf, datOf1, allOne, frz, TIS, CS, reduceAdd, reduceMul, reduceEqDiff, ↓reduceIte, reduceCtorEq, reduceLT, reduceLeDiff, reduceSub, Nat.reduceBEq]
  repeat' with_reducible apply And.intro
  all_goals try ((with_reducible show CallR _ _ _ _ _ _ _); refine cR_f [216] zk4 (.cons (.nil _) (.cons (.int' rfl) (.cons (.int' rfl) (.cons (.ownL ((wrs_frz _ _ _ 216).trans (by rfl)) (fun _ => rfl) rfl (by first|rfl|omega|(simp;done)|(simp;omega)|(simp_all;done)) (.sm _ _ (ci_pu .u8))) (.cons (.int' rfl) .nil))))) ?_; simp only [EVT, stepR, evOp, St.ev, St.app, St.put, wrs, datOf, datOf1, allOne, frz, TIS, CS, reduceAdd, reduceMul, reduceEqDiff, ↓reduceIte, reduceCtorEq, reduceLT, reduceLeDiff, reduceSub, Nat.reduceBEq])
  all_goals ((repeat' apply And.intro) <;> first|rfl|assumption|omega|(simp;done)|(simp;omega)|(simp_all;done))
 refine sA_n ?_
 refine a_seq ?_
 obtain ⟨r5, zh5, H⟩ := bind_some H
 have zk5 := cache_GetPage_pc zh5
 refine a_reg _ rfl (s := ?zs6) ?_ ?_
 rotate_left
 ·try simp only [EVT, stepR, evOp, St.ev, St.app, St.put, wrs, datOf, datOf1, frz, TIS, CS, reduceAdd, reduceMul, reduceEqDiff, ↓reduceIte, reduceCtorEq, reduceLT, reduceLeDiff, reduceSub, Nat.reduceBEq]
  repeat' with_reducible apply And.intro
  all_goals try ((with_reducible show CallR _ _ _ _ _ _ _); refine cR_p zk5 (.cons (.lst _ _ _ Kept.pu rfl) (.cons (.int' rfl) (.cons (.int' rfl) (.cons (.int' rfl) .nil)))) ?_; simp only [EVT, stepR, evOp, St.ev, St.app, St.put, wrs, datOf, datOf1, frz, TIS, CS, reduceAdd, reduceMul, reduceEqDiff, ↓reduceIte, reduceCtorEq, reduceLT, reduceLeDiff, reduceSub, Nat.reduceBEq])
  all_goals ((repeat' apply And.intro) <;> first|rfl|assumption|omega|(simp;done)|(simp;omega)|(simp_all;done))
 refine sA_n ?_
 refine a_seq ?_
 obtain ⟨r6, zh6, H⟩ := bind_some H
 have zk6 := cache_GetPage_pc zh6
 refine a_reg _ rfl (s := ?zs7) ?_ ?_
 rotate_left
 ·try simp only [EVT, stepR, evOp, St.ev, St.app, St.put, wrs, datOf, datOf1, frz, TIS, CS, reduceAdd, reduceMul, reduceEqDiff, ↓reduceIte, reduceCtorEq, reduceLT, reduceLeDiff, reduceSub, Nat.reduceBEq]
  repeat' with_reducible apply And.intro
  all_goals try ((with_reducible show CallR _ _ _ _ _ _ _); refine cR_p zk6 (.cons (.lst _ _ _ Kept.pu rfl) (.cons (.int' rfl) (.cons (.int' rfl) (.cons (.int' rfl) .nil)))) ?_; simp only [EVT, stepR, evOp, St.ev, St.app, St.put, wrs, datOf, datOf1, frz, TIS, CS, reduceAdd, reduceMul, reduceEqDiff, ↓reduceIte, reduceCtorEq, reduceLT, reduceLeDiff, reduceSub, Nat.reduceBEq])
  all_goals ((repeat' apply And.intro) <;> first|rfl|assumption|omega|(simp;done)|(simp;omega)|(simp_all;done))
 refine sA_n ?_
 refine a_seq ?_
 refine bool_split (b := r1.2.1) (fun zc1 => ?_) (fun zc1 => ?_)
 ·have H := cond_t zc1 H
  refine bool_split (b := (!r2.2.1)) (fun zc2 => ?_) (fun zc2 => ?_)
  ·have H := cond_t zc2 H
   obtain ⟨r7, zh7, H⟩ := bind_some H
   have zk7 := ref02_Ints_pc zh7
   refine bool_split (b := r7) (fun zc3 => ?_) (fun zc3 => ?_)
   ·have H := cond_t zc3 H
    refine bool_split (b := r3.2.1) (fun zc4 => ?_) (fun zc4 => ?_)
    ·have H := cond_t zc4 H
     refine bool_split (b := r5.2) (fun zc5 => ?_) (fun zc5 => ?_)
     ·have H := cond_t zc5 H
      obtain ⟨r8, zh8, H⟩ := bind_some H
      have zk8 := ref02_Bytes_pc zh8
      refine bool_split (b := r8) (fun zc6 => ?_) (fun zc6 => ?_)
      ·have H := cond_t zc6 H
       refine bool_split (b := (!r6.2)) (fun zc7 => ?_) (fun zc7 => ?_)
       ·have H := cond_t zc7 H
        obtain ⟨r9, zh9, H⟩ := bind_some H
        have zk9 := clock_Wait_pc zh9
        refine a_reg _ rfl (s := ?zs8) ?_ ?_
        rotate_left
        ·try simp only [EVT, stepR, evOp, St.ev, St.app, St.put, wrs, evUn, datOf, datOf1, allOne, frz, evBin, binInt, TIS, CS, reduceAdd, reduceMul, reduceEqDiff, ↓reduceIte, reduceCtorEq, reduceLT, reduceLeDiff, Array.reduceGetElem?, reduceSub, Nat.reduceBEq, ↓zc1, ↓zc2, ↓zc3, ↓zc4, ↓zc5, ↓zc6, ↓zc7]
         repeat' with_reducible apply And.intro
         all_goals try ((with_reducible show CallR _ _ _ _ _ _ _); refine cR_s zk7 (.cons (.lst _ _ _ (ci_pu .i64) rfl) (.cons (.ownL (by rfl) (fun e => by cases e) rfl (by first|rfl|omega|(simp;done)|(simp;omega)|(simp_all;done)) (.sm _ _ (ci_pu .i64))) .nil)) (.bool _) ?_; simp only [EVT, stepR, evOp, St.ev, St.app, St.put, wrs, evUn, datOf, datOf1, allOne, frz, evBin, binInt, TIS, CS, reduceAdd, reduceMul, reduceEqDiff, ↓reduceIte, reduceCtorEq, reduceLT, reduceLeDiff, Array.reduceGetElem?, reduceSub, Nat.reduceBEq, ↓zc1, ↓zc2, ↓zc3, ↓zc4, ↓zc5, ↓zc6, ↓zc7])
         repeat' with_reducible apply And.intro
         all_goals try ((with_reducible show CallR _ _ _ _ _ _ _); refine cR_s zk8 (.cons (.lst _ _ _ (ci_pu .u8) rfl) (.cons (.ownL (by rfl) (fun e => by cases e) rfl (by first|rfl|omega|(simp;done)|(simp;omega)|(simp_all;done)) (.sm _ _ (ci_pu .u8))) .nil)) (.bool _) ?_; simp only [EVT, stepR, evOp, St.ev, St.app, St.put, wrs, evUn, datOf, datOf1, allOne, frz, evBin, binInt, TIS, CS, reduceAdd, reduceMul, reduceEqDiff, ↓reduceIte, reduceCtorEq, reduceLT, reduceLeDiff, Array.reduceGetElem?, reduceSub, Nat.reduceBEq, ↓zc1, ↓zc2, ↓zc3, ↓zc4, ↓zc5, ↓zc6, ↓zc7])
         repeat' with_reducible apply And.intro
         all_goals try ((with_reducible show CallR _ _ _ _ _ _ _); refine cR_s zk9 (.cons (.int' rfl) .nil) (.int _ _) ?_; simp only [EVT, stepR, evOp, St.ev, St.app, St.put, wrs, evUn, datOf, datOf1, allOne, frz, evBin, binInt, TIS, CS, reduceAdd, reduceMul, reduceEqDiff, ↓reduceIte, reduceCtorEq, reduceLT, reduceLeDiff, Array.reduceGetElem?, reduceSub, Nat.reduceBEq, ↓zc1, ↓zc2, ↓zc3, ↓zc4, ↓zc5, ↓zc6, ↓zc7])
         all_goals ((repeat' apply And.intro) <;> first|rfl|assumption|omega|(simp;done)|(simp;omega)|(simp_all;done))
        refine sA_n ?_
        refine a_ret ?_
        obtain rfl := Option.some.inj H
        refine e_r2 (d := ?zd1) ?_ ?_
        rotate_left
        ·simp only [EVT, resR, single, evLoad, cut, TIS, CS, reduceAdd, reduceEqDiff, ↓reduceIte, reduceCtorEq, reduceLT, reduceLeDiff, reduceSub, Nat.reduceBEq, zc1, zc2, zc3, zc4, zc5, zc6, zc7]
         (repeat' apply And.intro) <;> first | rfl | assumption | omega | (simp; done)
        exact (.bool' rfl)
       ·have H := cond_f zc7 H
        refine a_reg _ rfl (s := ?zs9) ?_ ?_
        rotate_left
        ·try simp only [EVT, stepR, evOp, St.ev, St.app, St.put, wrs, evUn, datOf, datOf1, allOne, frz, evBin, binInt, TIS, CS, reduceAdd, reduceMul, reduceEqDiff, ↓reduceIte, reduceCtorEq, reduceLT, reduceLeDiff, Array.reduceGetElem?, reduceSub, Nat.reduceBEq, ↓zc1, ↓zc2, ↓zc3, ↓zc4, ↓zc5, ↓zc6, ↓zc7]
         repeat' with_reducible apply And.intro
         all_goals try ((with_reducible show CallR _ _ _ _ _ _ _); refine cR_s zk7 (.cons (.lst _ _ _ (ci_pu .i64) rfl) (.cons (.ownL (by rfl) (fun e => by cases e) rfl (by first|rfl|omega|(simp;done)|(simp;omega)|(simp_all;done)) (.sm _ _ (ci_pu .i64))) .nil)) (.bool _) ?_; simp only [EVT, stepR, evOp, St.ev, St.app, St.put, wrs, evUn, datOf, datOf1, allOne, frz, evBin, binInt, TIS, CS, reduceAdd, reduceMul, reduceEqDiff, ↓reduceIte, reduceCtorEq, reduceLT, reduceLeDiff, Array.reduceGetElem?, reduceSub, Nat.reduceBEq, ↓zc1, ↓zc2, ↓zc3, ↓zc4, ↓zc5, ↓zc6, ↓zc7])
         repeat' with_reducible apply And.intro
         all_goals try ((with_reducible show CallR _ _ _ _ _ _ _); refine cR_s zk8 (.cons (.lst _ _ _ (ci_pu .u8) rfl) (.cons (.ownL (by rfl) (fun e => by cases e) rfl (by first|rfl|omega|(simp;done)|(simp;omega)|(simp_all;done)) (.sm _ _ (ci_pu .u8))) .nil)) (.bool _) ?_; simp only [EVT, stepR, evOp, St.ev, St.app, St.put, wrs, evUn, datOf, datOf1, allOne, frz, evBin, binInt, TIS, CS, reduceAdd, reduceMul, reduceEqDiff, ↓reduceIte, reduceCtorEq, reduceLT, reduceLeDiff, Array.reduceGetElem?, reduceSub, Nat.reduceBEq, ↓zc1, ↓zc2, ↓zc3, ↓zc4, ↓zc5, ↓zc6, ↓zc7])
         all_goals ((repeat' apply And.intro) <;> first|rfl|assumption|omega|(simp;done)|(simp;omega)|(simp_all;done))
        refine sA_n ?_
        refine a_ret ?_
        obtain rfl := Option.some.inj H
        refine e_r2 (d := ?zd2) ?_ ?_
        rotate_left
        ·simp only [EVT, resR, single, evLoad, cut, TIS, CS, reduceAdd, reduceEqDiff, ↓reduceIte, reduceCtorEq, reduceLT, reduceLeDiff, reduceSub, Nat.reduceBEq, zc1, zc2, zc3, zc4, zc5, zc6, zc7]
         (repeat' apply And.intro) <;> first | rfl | assumption | omega | (simp; done)
        exact (.bool' (by first | rfl | assumption | (simp_all; done)))
      ·have H := cond_f zc6 H
       refine a_reg _ rfl (s := ?zs10) ?_ ?_
       rotate_left
       ·try simp only [EVT, stepR, evOp, St.ev, St.app, St.put, wrs, evUn, datOf, datOf1, allOne, frz, evBin, binInt, TIS, CS, reduceAdd, reduceMul, reduceEqDiff, ↓reduceIte, reduceCtorEq, reduceLT, reduceLeDiff, Array.reduceGetElem?, reduceSub, Nat.reduceBEq, ↓zc1, ↓zc2, ↓zc3, ↓zc4, ↓zc5, ↓zc6]
        repeat' with_reducible apply And.intro
        all_goals try ((with_reducible show CallR _ _ _ _ _ _ _); refine cR_s zk7 (.cons (.lst _ _ _ (ci_pu .i64) rfl) (.cons (.ownL (by rfl) (fun e => by cases e) rfl (by first|rfl|omega|(simp;done)|(simp;omega)|(simp_all;done)) (.sm _ _ (ci_pu .i64))) .nil)) (.bool _) ?_; simp only [EVT, stepR, evOp, St.ev, St.app, St.put, wrs, evUn, datOf, datOf1, allOne, frz, evBin, binInt, TIS, CS, reduceAdd, reduceMul, reduceEqDiff, ↓reduceIte, reduceCtorEq, reduceLT, reduceLeDiff, Array.reduceGetElem?, reduceSub, Nat.reduceBEq, ↓zc1, ↓zc2, ↓zc3, ↓zc4, ↓zc5, ↓zc6])
        repeat' with_reducible apply And.intro
        all_goals try ((with_reducible show CallR _ _ _ _ _ _ _); refine cR_s zk8 (.cons (.lst _ _ _ (ci_pu .u8) rfl) (.cons (.ownL (by rfl) (fun e => by cases e) rfl (by first|rfl|omega|(simp;done)|(simp;omega)|(simp_all;done)) (.sm _ _ (ci_pu .u8))) .nil)) (.bool _) ?_; simp only [EVT, stepR, evOp, St.ev, St.app, St.put, wrs, evUn, datOf, datOf1, allOne, frz, evBin, binInt, TIS, CS, reduceAdd, reduceMul, reduceEqDiff, ↓reduceIte, reduceCtorEq, reduceLT, reduceLeDiff, Array.reduceGetElem?, reduceSub, Nat.reduceBEq, ↓zc1, ↓zc2, ↓zc3, ↓zc4, ↓zc5, ↓zc6])
        all_goals ((repeat' apply And.intro) <;> first|rfl|assumption|omega|(simp;done)|(simp;omega)|(simp_all;done))
       refine sA_n ?_
       refine a_ret ?_
       obtain rfl := Option.some.inj H
       refine e_r2 (d := ?zd3) ?_ ?_
       rotate_left
       ·simp only [EVT, resR, single, evLoad, cut, TIS, CS, reduceAdd, reduceEqDiff, ↓reduceIte, reduceCtorEq, reduceLT, reduceLeDiff, reduceSub, Nat.reduceBEq, zc1, zc2, zc3, zc4, zc5, zc6]
        (repeat' apply And.intro) <;> first | rfl | assumption | omega | (simp; done)
       exact (.bool' (by first | rfl | assumption | (simp_all; done)))
     ·have H := cond_f zc5 H
      refine a_reg _ rfl (s := ?zs11) ?_ ?_
      rotate_left
      ·try simp only [EVT, stepR, evOp, St.ev, St.app, St.put, wrs, evUn, datOf, datOf1, allOne, frz, evBin, binInt, TIS, CS, reduceAdd, reduceMul, reduceEqDiff, ↓reduceIte, reduceCtorEq, reduceLT, reduceLeDiff, Array.reduceGetElem?, reduceSub, Nat.reduceBEq, ↓zc1, ↓zc2, ↓zc3, ↓zc4, ↓zc5]
       repeat' with_reducible apply And.intro
       all_goals try ((with_reducible show CallR _ _ _ _ _ _ _); refine cR_s zk7 (.cons (.lst _ _ _ (ci_pu .i64) rfl) (.cons (.ownL (by rfl) (fun e => by cases e) rfl (by first|rfl|omega|(simp;done)|(simp;omega)|(simp_all;done)) (.sm _ _ (ci_pu .i64))) .nil)) (.bool _) ?_; simp only [EVT, stepR, evOp, St.ev, St.app, St.put, wrs, evUn, datOf, datOf1, allOne, frz, evBin, binInt, TIS, CS, reduceAdd, reduceMul, reduceEqDiff, ↓reduceIte, reduceCtorEq, reduceLT, reduceLeDiff, Array.reduceGetElem?, reduceSub, Nat.reduceBEq, ↓zc1, ↓zc2, ↓zc3, ↓zc4, ↓zc5])
       all_goals ((repeat' apply And.intro) <;> first|rfl|assumption|omega|(simp;done)|(simp;omega)|(simp_all;done))
      refine sA_n ?_
      refine a_ret ?_
      obtain rfl := Option.some.inj H
      refine e_r2 (d := ?zd4) ?_ ?_
      rotate_left
      ·simp only [EVT, resR, single, evLoad, cut, TIS, CS, reduceAdd, reduceEqDiff, ↓reduceIte, reduceCtorEq, reduceLT, reduceLeDiff, reduceSub, Nat.reduceBEq, zc1, zc2, zc3, zc4, zc5]
       (repeat' apply And.intro) <;> first | rfl | assumption | omega | (simp; done)
      exact (.bool' (by first | rfl | assumption | (simp_all; done)))
    ·have H := cond_f zc4 H
     refine a_reg _ rfl (s := ?zs12) ?_ ?_
     rotate_left
     ·try simp only [EVT, stepR, evOp, St.ev, St.app, St.put, wrs, evUn, datOf, datOf1, allOne, frz, evBin, binInt, TIS, CS, reduceAdd, reduceMul, reduceEqDiff, ↓reduceIte, reduceCtorEq, reduceLT, reduceLeDiff, Array.reduceGetElem?, reduceSub, Nat.reduceBEq, ↓zc1, ↓zc2, ↓zc3, ↓zc4]
      repeat' with_reducible apply And.intro
      all_goals try ((with_reducible show CallR _ _ _ _ _ _ _); refine cR_s zk7 (.cons (.lst _ _ _ (ci_pu .i64) rfl) (.cons (.ownL (by rfl) (fun e => by cases e) rfl (by first|rfl|omega|(simp;done)|(simp;omega)|(simp_all;done)) (.sm _ _ (ci_pu .i64))) .nil)) (.bool _) ?_; simp only [EVT, stepR, evOp, St.ev, St.app, St.put, wrs, evUn, datOf, datOf1, allOne, frz, evBin, binInt, TIS, CS, reduceAdd, reduceMul, reduceEqDiff, ↓reduceIte, reduceCtorEq, reduceLT, reduceLeDiff, Array.reduceGetElem?, reduceSub, Nat.reduceBEq, ↓zc1, ↓zc2, ↓zc3, ↓zc4])
      all_goals ((repeat' apply And.intro) <;> first|rfl|assumption|omega|(simp;done)|(simp;omega)|(simp_all;done))
     refine sA_n ?_
     refine a_ret ?_
     obtain rfl := Option.some.inj H
     refine e_r2 (d := ?zd5) ?_ ?_
     rotate_left
     ·simp only [EVT, resR, single, evLoad, cut, TIS, CS, reduceAdd, reduceEqDiff, ↓reduceIte, reduceCtorEq, reduceLT, reduceLeDiff, reduceSub, Nat.reduceBEq, zc1, zc2, zc3, zc4]
      (repeat' apply And.intro) <;> first | rfl | assumption | omega | (simp; done)
     exact (.bool' (by first | rfl | assumption | (simp_all; done)))
   ·have H := cond_f zc3 H
    refine a_reg _ rfl (s := ?zs13) ?_ ?_
    rotate_left
    ·try simp only [EVT, stepR, evOp, St.ev, St.app, St.put, wrs, evUn, datOf, datOf1, allOne, frz, evBin, binInt, TIS, CS, reduceAdd, reduceMul, reduceEqDiff, ↓reduceIte, reduceCtorEq, reduceLT, reduceLeDiff, Array.reduceGetElem?, reduceSub, Nat.reduceBEq, ↓zc1, ↓zc2, ↓zc3]
     repeat' with_reducible apply And.intro
     all_goals try ((with_reducible show CallR _ _ _ _ _ _ _); refine cR_s zk7 (.cons (.lst _ _ _ (ci_pu .i64) rfl) (.cons (.ownL (by rfl) (fun e => by cases e) rfl (by first|rfl|omega|(simp;done)|(simp;omega)|(simp_all;done)) (.sm _ _ (ci_pu .i64))) .nil)) (.bool _) ?_; simp only [EVT, stepR, evOp, St.ev, St.app, St.put, wrs, evUn, datOf, datOf1, allOne, frz, evBin, binInt, TIS, CS, reduceAdd, reduceMul, reduceEqDiff, ↓reduceIte, reduceCtorEq, reduceLT, reduceLeDiff, Array.reduceGetElem?, reduceSub, Nat.reduceBEq, ↓zc1, ↓zc2, ↓zc3])
     all_goals ((repeat' apply And.intro) <;> first|rfl|assumption|omega|(simp;done)|(simp;omega)|(simp_all;done))
    refine sA_n ?_
    refine a_ret ?_
    obtain rfl := Option.some.inj H
    refine e_r2 (d := ?zd6) ?_ ?_
    rotate_left
    ·simp only [EVT, resR, single, evLoad, cut, TIS, CS, reduceAdd, reduceEqDiff, ↓reduceIte, reduceCtorEq, reduceLT, reduceLeDiff, reduceSub, Nat.reduceBEq, zc1, zc2, zc3]
     (repeat' apply And.intro) <;> first | rfl | assumption | omega | (simp; done)
    exact (.bool' (by first | rfl | assumption | (simp_all; done)))
  ·have H := cond_f zc2 H
   refine a_reg _ rfl (s := ?zs14) ?_ ?_
   rotate_left
   ·simp only [EVT, stepR, evOp, St.ev, St.app, St.put, wrs, evUn, datOf, datOf1, allOne, frz, evBin, binInt, TIS, CS, reduceAdd, reduceMul, reduceEqDiff, ↓reduceIte, reduceCtorEq, reduceLT, reduceLeDiff, Array.reduceGetElem?, reduceSub, Nat.reduceBEq, ↓zc1, ↓zc2]
    try simp only [EVT, stepR, evOp, St.ev, St.app, St.put, wrs, evUn, datOf, datOf1, allOne, frz, evBin, binInt, TIS, CS, reduceAdd, reduceMul, reduceEqDiff, ↓reduceIte, reduceCtorEq, reduceLT, reduceLeDiff, Array.reduceGetElem?, reduceSub, Nat.reduceBEq, ↓zc1, ↓zc2]
    (repeat' apply And.intro) <;> first|rfl|assumption|omega|(simp;done)|(simp;omega)|(simp_all;done)
   refine sA_n ?_
   refine a_ret ?_
   obtain rfl := Option.some.inj H
   refine e_r2 (d := ?zd7) ?_ ?_
   rotate_left
   ·simp only [EVT, resR, single, evLoad, cut, TIS, CS, reduceAdd, reduceEqDiff, ↓reduceIte, reduceCtorEq, reduceLT, reduceLeDiff, reduceSub, Nat.reduceBEq, zc1, zc2]
    (repeat' apply And.intro) <;> first | rfl | assumption | omega | (simp; done)
   exact (.bool' (by first | rfl | assumption | (simp_all; done)))
 ·have H := cond_f zc1 H
  refine a_reg _ rfl (s := ?zs15) ?_ ?_
  rotate_left
  ·simp only [EVT, stepR, evOp, St.ev, St.app, St.put, wrs, evUn, datOf, datOf1, allOne, frz, evBin, binInt, TIS, CS, reduceAdd, reduceMul, reduceEqDiff, ↓reduceIte, reduceCtorEq, reduceLT, reduceLeDiff, Array.reduceGetElem?, reduceSub, Nat.reduceBEq, ↓zc1]
   try simp only [EVT, stepR, evOp, St.ev, St.app, St.put, wrs, evUn, datOf, datOf1, allOne, frz, evBin, binInt, TIS, CS, reduceAdd, reduceMul, reduceEqDiff, ↓reduceIte, reduceCtorEq, reduceLT, reduceLeDiff, Array.reduceGetElem?, reduceSub, Nat.reduceBEq, ↓zc1]
   (repeat' apply And.intro) <;> first|rfl|assumption|omega|(simp;done)|(simp;omega)|(simp_all;done)
  refine sA_n ?_
  refine a_ret ?_
  obtain rfl := Option.some.inj H
  refine e_r2 (d := ?zd8) ?_ ?_
  rotate_left
  ·simp only [EVT, resR, single, evLoad, cut, TIS, CS, reduceAdd, reduceEqDiff, ↓reduceIte, reduceCtorEq, reduceLT, reduceLeDiff, reduceSub, Nat.reduceBEq, zc1]
   (repeat' apply And.intro) <;> first | rfl | assumption | omega | (simp; done)
  exact (.bool' (by first | rfl | assumption | (simp_all; done)))
end
end Go.Proofs.Ytogickapcbibbaa
