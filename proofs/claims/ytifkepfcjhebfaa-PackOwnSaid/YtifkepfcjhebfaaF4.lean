/- Functions of the program as Lean functions, and that they are so; printed by a program of mine. -/
import Derived.Test.YtifkepfcjhebfaaF1
set_option linter.unusedSimpArgs false
set_option linter.unusedVariables false
namespace Go.Proofs.Ytifkepfcjhebfaa
open Go.Ab
open Nat (reduceAdd reduceMul reduceEqDiff reduceLT reduceLeDiff reduceSub)
noncomputable section

def pack_reader_num_f (r1 : Reader) : Option (Int × Reader) :=
 cond (r1.e != 0) (some (0, r1)) ((pack_ReadInt_f r1.rest.b).bind fun r2 => some (r2.1, (⟨(⟨r2.2.1⟩ : Rest), r2.2.2⟩ : Reader)))
set_option maxHeartbeats 4000000 in
set_option maxRecDepth 20000 in
theorem pack_reader_num_rc {r1 : Reader} {r : Int × Reader} (H : pack_reader_num_f r1 = some r) : RC Try.prog 42 [.ptr 0 0 0 2] [⟨68, 2, false, [Reader.c r1]⟩] 1 (.int .i64 r.1) [some ⟨68, 2, false, [Reader.c r.2]⟩] := by
 refine rcA_of Try.func42 (by rfl) (by decide) 31 (by rfl) [.tmp 2] (by rfl) ?_
 unfold pack_reader_num_f at H
 simp only [hent, List.length_cons, List.length_nil, reduceAdd]
 refine a_seq ?_
 refine a_reg _ rfl (s := ?zs1) ?_ ?_
 rotate_left
 ·simp only [EVT, stepR, evOp, St.ev, St.app, St.put, wrs, datOf, datOf1, TIS, CS, reduceAdd, reduceMul, reduceEqDiff, ↓reduceIte, reduceCtorEq, reduceLT, reduceLeDiff]
  (repeat' apply And.intro) <;> first|rfl|assumption|omega|(simp;done)|(simp;omega)|(simp_all;done)
 refine sA_n ?_
 refine a_seq ?_
 refine a_seq ?_
 refine a_reg _ rfl (s := ?zs2) ?_ ?_
 rotate_left
 ·simp only [EVT, stepR, evOp, St.ev, St.app, St.put, wrs, evFieldAddr, evLoad, cut, datOf, datOf1, evBin, binInt, TIS, CS, reduceAdd, reduceMul, reduceEqDiff, ↓reduceIte, reduceCtorEq, reduceLT, reduceLeDiff, reduceSub, Nat.reduceBEq]
  (repeat' apply And.intro) <;> first|rfl|assumption|omega|(simp;done)|(simp;omega)|(simp_all;done)
 refine sA_n ?_
 refine a_condb ((r1.e != 0)) (by rfl) (fun zc1 => ?_) (fun zc1 => ?_)
 ·have H := cond_t zc1 H
  refine a_seq ?_
  refine a_reg _ rfl (s := ?zs3) ?_ ?_
  rotate_left
  ·simp only [EVT, stepR, evOp, St.ev, St.app, St.put, wrs, datOf, datOf1, TIS, CS, reduceAdd, reduceMul, reduceEqDiff, ↓reduceIte, reduceCtorEq, reduceLT, reduceLeDiff, ↓zc1]
   (repeat' apply And.intro) <;> first|rfl|assumption|omega|(simp;done)|(simp;omega)|(simp_all;done)
  refine sA_n ?_
  refine a_ret ?_
  refine sA_r ?_
  obtain rfl := Option.some.inj H
  refine eR_r ?_
  refine wk_ln 1 [(some 0, ⟨68, 2, false, [Reader.c r1]⟩)] [] [(2, .int .i64 0)] (by intro i h; rcases i with _ | i <;> first | rfl | omega) (by show ([2] : List Nat).Nodup; decide) (by show ([0] : List Nat).Nodup; decide) ?_ ?_ (fun t0 => ⟨by first | rfl | (simp only [EVT, resR, single, evLoad, cut, TIS, CS, reduceAdd, reduceEqDiff, ↓reduceIte, reduceCtorEq, reduceLT, reduceLeDiff, reduceSub, Nat.reduceBEq]; (repeat' apply And.intro) <;> first | rfl | (simp; done)), fun j B h => by rcases j with _ | _ <;> first | exact h | (exact absurd h (by simp [hh]))⟩)
  ·exact (allB_some (by rfl) rfl (.cons (.cons (.lst _ _ _ (ci_pu .u8) rfl) (.cons (.int' rfl) .nil)) .nil) trivial)
  ·(simp only [AllT, tl_cons, tl_nil, upd_apply, List.getD_cons_zero, List.getD_cons_succ, reduceEqDiff, ↓reduceIte, and_true]); exact (.int' rfl)
 ·have H := cond_f zc1 H
  refine a_skip ?_
  refine sA_n ?_
  refine a_seq ?_
  obtain ⟨r2, zh1, H⟩ := bind_some H
  have zk1 := pack_ReadInt_pc zh1
  refine a_reg _ rfl (s := ?zs4) ?_ ?_
  rotate_left
  ·try simp only [EVT, stepR, evOp, St.ev, St.app, St.put, wrs, evFieldAddr, evLoad, cut, frz, TIS, CS, reduceAdd, reduceMul, reduceEqDiff, ↓reduceIte, reduceCtorEq, reduceLT, reduceLeDiff, reduceSub, Nat.reduceBEq, ↓zc1]
   repeat' with_reducible apply And.intro
   all_goals try ((with_reducible show CallR _ _ _ _ _ _ _); refine cR_p zk1 (.cons (.lst _ _ _ (ci_pu .u8) rfl) .nil) ?_; simp only [EVT, stepR, evOp, St.ev, St.app, St.put, wrs, evFieldAddr, evLoad, cut, frz, TIS, CS, reduceAdd, reduceMul, reduceEqDiff, ↓reduceIte, reduceCtorEq, reduceLT, reduceLeDiff, reduceSub, Nat.reduceBEq, ↓zc1])
   all_goals ((repeat' apply And.intro) <;> first|rfl|assumption|omega|(simp;done)|(simp;omega)|(simp_all;done))
  refine sA_n ?_
  refine a_seq ?_
  refine a_reg _ rfl (s := ?zs5) ?_ ?_
  rotate_left
  ·simp only [EVT, stepR, evOp, St.ev, St.app, St.put, wrs, evFieldAddr, evStore, setR, allOne, TIS, CS, reduceAdd, reduceMul, reduceEqDiff, ↓reduceIte, reduceCtorEq, reduceLT, reduceLeDiff, reduceSub, Nat.reduceBEq, ↓zc1]
   (repeat' apply And.intro) <;> first|rfl|assumption|omega|(simp;done)|(simp;omega)|(simp_all;done)
  refine sA_n ?_
  refine a_seq ?_
  refine a_reg _ rfl (s := ?zs6) ?_ ?_
  rotate_left
  ·simp only [EVT, stepR, evOp, St.ev, St.app, St.put, wrs, TIS, CS, reduceAdd, reduceMul, reduceEqDiff, ↓reduceIte, reduceCtorEq, reduceLT, reduceLeDiff, ↓zc1]
   (repeat' apply And.intro) <;> first|rfl|assumption|omega|(simp;done)|(simp;omega)|(simp_all;done)
  refine sA_n ?_
  refine a_ret ?_
  obtain rfl := Option.some.inj H
  refine eR_r ?_
  refine wk_ln 1 [(some 0, ⟨68, 2, false, [Reader.c (⟨(⟨r2.2.1⟩ : Rest), r2.2.2⟩ : Reader)]⟩)] [] [(2, .int .i64 r2.1)] (by intro i h; rcases i with _ | i <;> first | rfl | omega) (by show ([2] : List Nat).Nodup; decide) (by show ([0] : List Nat).Nodup; decide) ?_ ?_ (fun t0 => ⟨by first | rfl | (simp only [EVT, resR, single, evLoad, cut, TIS, CS, reduceAdd, reduceEqDiff, ↓reduceIte, reduceCtorEq, reduceLT, reduceLeDiff, reduceSub, Nat.reduceBEq]; (repeat' apply And.intro) <;> first | rfl | (simp; done)), fun j B h => by rcases j with _ | _ <;> first | exact h | (exact absurd h (by simp [hh]))⟩)
  ·exact (allB_some (by rfl) rfl (.cons (.cons (.lst _ _ _ (ci_pu .u8) rfl) (.cons (.int' rfl) .nil)) .nil) trivial)
  ·(simp only [AllT, tl_cons, tl_nil, upd_apply, List.getD_cons_zero, List.getD_cons_succ, reduceEqDiff, ↓reduceIte, and_true]); exact (.int' rfl)
def pack_reader_count_J1 (r2 : Int × Reader) (e1 : Int) : Option (Int × Reader) :=
 some (0, (⟨r2.2.rest, e1⟩ : Reader))
def pack_reader_count_f (r1 : Reader) : Option (Int × Reader) :=
 (pack_reader_num_f r1).bind fun r2 => cond (r2.2.e != 0) (some (0, r2.2)) (cond (decide (r2.1 < 0)) (pack_reader_count_J1 r2 11) (cond (decide ((r2.2.rest.b.length : Int) < r2.1)) (pack_reader_count_J1 r2 10) (some (r2.1, r2.2))))
set_option maxHeartbeats 4000000 in
set_option maxRecDepth 20000 in
theorem pack_reader_count_rc {r1 : Reader} {r : Int × Reader} (H : pack_reader_count_f r1 = some r) : RC Try.prog 41 [.ptr 0 0 0 2] [⟨68, 2, false, [Reader.c r1]⟩] 1 (.int .i64 r.1) [some ⟨68, 2, false, [Reader.c r.2]⟩] := by
 refine rcA_of Try.func41 (by rfl) (by decide) 31 (by rfl) [.tmp 2] (by rfl) ?_
 unfold pack_reader_count_f at H
 simp only [hent, List.length_cons, List.length_nil, reduceAdd]
 refine a_seq ?_
 refine a_reg _ rfl (s := ?zs1) ?_ ?_
 rotate_left
 ·simp only [EVT, stepR, evOp, St.ev, St.app, St.put, wrs, datOf, datOf1, TIS, CS, reduceAdd, reduceMul, reduceEqDiff, ↓reduceIte, reduceCtorEq, reduceLT, reduceLeDiff]
  (repeat' apply And.intro) <;> first|rfl|assumption|omega|(simp;done)|(simp;omega)|(simp_all;done)
 refine sA_n ?_
 refine a_seq ?_
 obtain ⟨r2, zh1, H⟩ := bind_some H
 have zk1 := pack_reader_num_rc zh1
 refine a_reg _ rfl (s := ?zs2) ?_ ?_
 rotate_left
 ·try simp only [EVT, stepR, evOp, St.ev, St.app, St.put, wrs, frz, TIS, CS, reduceAdd, reduceMul, reduceEqDiff, ↓reduceIte, reduceCtorEq, reduceLT, reduceLeDiff, reduceSub, Nat.reduceBEq]
  repeat' with_reducible apply And.intro
  all_goals try ((with_reducible show CallR _ _ _ _ _ _ _); refine callR_rcw (r' := .int .i64 r2.1) [(0, none), (0, some ⟨68, 2, false, [[.list 1 (r2.2.rest.b.map (ci .u8)), .int .i64 r2.2.e]]⟩)] [(some 0, ⟨68, 2, false, [Reader.c r1]⟩)] [] [(0, 0, ⟨68, 2, false, [[.list 1 (r2.2.rest.b.map (ci .u8)), .int .i64 r2.2.e]]⟩)] rfl zk1 (by simp) (by show ([0] : List Nat).Nodup; decide) (allB_some (by rfl) rfl (.cons (.cons (.lst _ _ _ (ci_pu .u8) rfl) (.cons (.int' rfl) .nil)) .nil) trivial) (.cons (.ptr _ _ _ _ _ rfl) .nil) (by show ([0] : List Nat).Nodup; decide) (by show ([0] : List Nat).Nodup; decide) ⟨.inl ⟨by decide, rfl⟩, ⟨_, rfl, ⟨rfl, rfl, rfl, rfl⟩, .cons (RNs.pu (Reader.pu _)) .nil⟩, trivial⟩ (.int' rfl) ?_; simp only [EVT, stepR, evOp, St.ev, St.app, St.put, wrs, frz, TIS, CS, reduceAdd, reduceMul, reduceEqDiff, ↓reduceIte, reduceCtorEq, reduceLT, reduceLeDiff, reduceSub, Nat.reduceBEq])
  all_goals ((repeat' apply And.intro) <;> first|rfl|assumption|omega|(simp;done)|(simp;omega)|(simp_all;done))
 refine sA_n ?_
 refine a_cut (fun s => ∃ (e1 : Int) (t0 : Nat → Dat), pack_reader_count_J1 r2 e1 = some r ∧ s = ⟨tl t0 [], hl [⟨68, 2, false, [[.list 1 (r2.2.rest.b.map (ci .u8)), .int .i64 e1]]⟩], 1, 31⟩) ?_ ?_
 ·refine a_blk ?_
  refine a_seq ?_
  refine a_reg _ rfl (s := ?zs4) ?_ ?_
  rotate_left
  ·simp only [EVT, stepR, evOp, St.ev, St.app, St.put, wrs, evFieldAddr, evLoad, cut, datOf, datOf1, evBin, binInt, TIS, CS, reduceAdd, reduceMul, reduceEqDiff, ↓reduceIte, reduceCtorEq, reduceLT, reduceLeDiff, reduceSub, Nat.reduceBEq]
   (repeat' apply And.intro) <;> first|rfl|assumption|omega|(simp;done)|(simp;omega)|(simp_all;done)
  refine sA_n ?_
  refine a_condb ((r2.2.e != 0)) (by rfl) (fun zc1 => ?_) (fun zc1 => ?_)
  ·have H := cond_t zc1 H
   refine a_seq ?_
   refine a_reg _ rfl (s := ?zs5) ?_ ?_
   rotate_left
   ·simp only [EVT, stepR, evOp, St.ev, St.app, St.put, wrs, datOf, datOf1, TIS, CS, reduceAdd, reduceMul, reduceEqDiff, ↓reduceIte, reduceCtorEq, reduceLT, reduceLeDiff, ↓zc1]
    (repeat' apply And.intro) <;> first|rfl|assumption|omega|(simp;done)|(simp;omega)|(simp_all;done)
   refine sA_n ?_
   refine a_ret ?_
   refine bA_r ?_
   refine cA_r ?_
   obtain rfl := Option.some.inj H
   refine eR_r ?_
   refine wk_ln 1 [(some 0, ⟨68, 2, false, [Reader.c r2.2]⟩)] [] [(2, .int .i64 0)] (by intro i h; rcases i with _ | i <;> first | rfl | omega) (by show ([2] : List Nat).Nodup; decide) (by show ([0] : List Nat).Nodup; decide) ?_ ?_ (fun t0 => ⟨by first | rfl | (simp only [EVT, resR, single, evLoad, cut, TIS, CS, reduceAdd, reduceEqDiff, ↓reduceIte, reduceCtorEq, reduceLT, reduceLeDiff, reduceSub, Nat.reduceBEq]; (repeat' apply And.intro) <;> first | rfl | (simp; done)), fun j B h => by rcases j with _ | _ <;> first | exact h | (exact absurd h (by simp [hh]))⟩)
   ·exact (allB_some (by rfl) rfl (.cons (.cons (.lst _ _ _ (ci_pu .u8) rfl) (.cons (.int' rfl) .nil)) .nil) trivial)
   ·(simp only [AllT, tl_cons, tl_nil, upd_apply, List.getD_cons_zero, List.getD_cons_succ, reduceEqDiff, ↓reduceIte, and_true]); exact (.int' rfl)
  ·have H := cond_f zc1 H
   refine a_seq ?_
   refine a_reg _ rfl (s := ?zs6) ?_ ?_
   rotate_left
   ·simp only [EVT, stepR, evOp, St.ev, St.app, St.put, wrs, datOf, datOf1, evBin, binInt, TIS, CS, reduceAdd, reduceMul, reduceEqDiff, ↓reduceIte, reduceCtorEq, reduceLT, reduceLeDiff, ↓zc1]
    (repeat' apply And.intro) <;> first|rfl|assumption|omega|(simp;done)|(simp;omega)|(simp_all;done)
   refine sA_n ?_
   refine a_condb ((decide (r2.1 < 0))) (by rfl) (fun zc2 => ?_) (fun zc2 => ?_)
   ·have H := cond_t zc2 H
    refine a_reg _ rfl (s := ?zs7) ?_ ?_
    rotate_left
    ·simp only [EVT, stepR, evOp, St.ev, St.app, St.put, wrs, evFieldAddr, datOf, datOf1, evStore, setR, allOne, TIS, CS, reduceAdd, reduceMul, reduceEqDiff, ↓reduceIte, reduceCtorEq, reduceLT, reduceLeDiff, reduceSub, Nat.reduceBEq, ↓zc1, ↓zc2]
     (repeat' apply And.intro) <;> first|rfl|assumption|omega|(simp;done)|(simp;omega)|(simp_all;done)
    refine bA_n ?_
    refine cA_n ?_
    refine wk_ln 1 [(some 0, ⟨68, 2, false, [[.list 1 (r2.2.rest.b.map (ci .u8)), .int .i64 11]]⟩)] [] [] (by intro i h; rcases i with _ | i <;> first | rfl | omega) (by show ([] : List Nat).Nodup; decide) (by show ([0] : List Nat).Nodup; decide) ?_ ?_ (fun t0 => ⟨11, t0, H, rfl⟩)
    ·exact (allB_some (by rfl) rfl (.cons (.cons (.lst _ _ _ (ci_pu .u8) rfl) (.cons (.int' rfl) .nil)) .nil) trivial)
    ·exact trivial
   ·have H := cond_f zc2 H
    refine a_seq ?_
    refine a_reg _ rfl (s := ?zs8) ?_ ?_
    rotate_left
    ·simp only [EVT, stepR, evOp, St.ev, St.app, St.put, wrs, evFieldAddr, evLoad, cut, evBuiltin, evBin, binInt, TIS, CS, reduceAdd, reduceMul, reduceEqDiff, ↓reduceIte, reduceCtorEq, reduceLT, reduceLeDiff, reduceSub, Nat.reduceBEq, ↓zc1, ↓zc2]
     (repeat' apply And.intro) <;> first|rfl|assumption|omega|(simp;done)|(simp;omega)|(simp_all;done)
    refine sA_n ?_
    refine a_condb ((decide ((r2.2.rest.b.length : Int) < r2.1))) (by rfl) (fun zc3 => ?_) (fun zc3 => ?_)
    ·have H := cond_t zc3 H
     refine a_reg _ rfl (s := ?zs9) ?_ ?_
     rotate_left
     ·simp only [EVT, stepR, evOp, St.ev, St.app, St.put, wrs, evFieldAddr, datOf, datOf1, evStore, setR, allOne, TIS, CS, reduceAdd, reduceMul, reduceEqDiff, ↓reduceIte, reduceCtorEq, reduceLT, reduceLeDiff, reduceSub, Nat.reduceBEq, ↓zc1, ↓zc2, ↓zc3]
      (repeat' apply And.intro) <;> first|rfl|assumption|omega|(simp;done)|(simp;omega)|(simp_all;done)
     refine bA_n ?_
     refine cA_n ?_
     refine wk_ln 1 [(some 0, ⟨68, 2, false, [[.list 1 (r2.2.rest.b.map (ci .u8)), .int .i64 10]]⟩)] [] [] (by intro i h; rcases i with _ | i <;> first | rfl | omega) (by show ([] : List Nat).Nodup; decide) (by show ([0] : List Nat).Nodup; decide) ?_ ?_ (fun t0 => ⟨10, t0, H, rfl⟩)
     ·exact (allB_some (by rfl) rfl (.cons (.cons (.lst _ _ _ (ci_pu .u8) rfl) (.cons (.int' rfl) .nil)) .nil) trivial)
     ·exact trivial
    ·have H := cond_f zc3 H
     refine a_seq ?_
     refine a_reg _ rfl (s := ?zs10) ?_ ?_
     rotate_left
     ·simp only [EVT, stepR, evOp, St.ev, St.app, St.put, wrs, TIS, CS, reduceAdd, reduceMul, reduceEqDiff, ↓reduceIte, reduceCtorEq, reduceLT, reduceLeDiff, ↓zc1, ↓zc2, ↓zc3]
      (repeat' apply And.intro) <;> first|rfl|assumption|omega|(simp;done)|(simp;omega)|(simp_all;done)
     refine sA_n ?_
     refine a_ret ?_
     refine bA_r ?_
     refine cA_r ?_
     obtain rfl := Option.some.inj H
     refine eR_r ?_
     refine wk_ln 1 [(some 0, ⟨68, 2, false, [Reader.c r2.2]⟩)] [] [(2, .int .i64 r2.1)] (by intro i h; rcases i with _ | i <;> first | rfl | omega) (by show ([2] : List Nat).Nodup; decide) (by show ([0] : List Nat).Nodup; decide) ?_ ?_ (fun t0 => ⟨by first | rfl | (simp only [EVT, resR, single, evLoad, cut, TIS, CS, reduceAdd, reduceEqDiff, ↓reduceIte, reduceCtorEq, reduceLT, reduceLeDiff, reduceSub, Nat.reduceBEq]; (repeat' apply And.intro) <;> first | rfl | (simp; done)), fun j B h => by rcases j with _ | _ <;> first | exact h | (exact absurd h (by simp [hh]))⟩)
     ·exact (allB_some (by rfl) rfl (.cons (.cons (.lst _ _ _ (ci_pu .u8) rfl) (.cons (.int' rfl) .nil)) .nil) trivial)
     ·(simp only [AllT, tl_cons, tl_nil, upd_apply, List.getD_cons_zero, List.getD_cons_succ, reduceEqDiff, ↓reduceIte, and_true]); exact (.int' rfl)
 ·rintro s ⟨e1, t0, H, rfl⟩
  unfold pack_reader_count_J1 at H
  refine a_seq ?_
  refine a_reg _ rfl (s := ?zs3) ?_ ?_
  rotate_left
  ·simp only [EVT, stepR, evOp, St.ev, St.app, St.put, wrs, datOf, datOf1, TIS, CS, reduceAdd, reduceMul, reduceEqDiff, ↓reduceIte, reduceCtorEq, reduceLT, reduceLeDiff]
   (repeat' apply And.intro) <;> first|rfl|assumption|omega|(simp;done)|(simp;omega)|(simp_all;done)
  refine sA_n ?_
  refine a_ret ?_
  obtain rfl := Option.some.inj H
  refine eR_r ?_
  refine wk_ln 1 [(some 0, ⟨68, 2, false, [Reader.c (⟨r2.2.rest, e1⟩ : Reader)]⟩)] [] [(2, .int .i64 0)] (by intro i h; rcases i with _ | i <;> first | rfl | omega) (by show ([2] : List Nat).Nodup; decide) (by show ([0] : List Nat).Nodup; decide) ?_ ?_ (fun t0 => ⟨by first | rfl | (simp only [EVT, resR, single, evLoad, cut, TIS, CS, reduceAdd, reduceEqDiff, ↓reduceIte, reduceCtorEq, reduceLT, reduceLeDiff, reduceSub, Nat.reduceBEq]; (repeat' apply And.intro) <;> first | rfl | (simp; done)), fun j B h => by rcases j with _ | _ <;> first | exact h | (exact absurd h (by simp [hh]))⟩)
  ·exact (allB_some (by rfl) rfl (.cons (.cons (.lst _ _ _ (ci_pu .u8) rfl) (.cons (.int' rfl) .nil)) .nil) trivial)
  ·(simp only [AllT, tl_cons, tl_nil, upd_apply, List.getD_cons_zero, List.getD_cons_succ, reduceEqDiff, ↓reduceIte, and_true]); exact (.int' rfl)
def pack_rest_take_f (r1 : Reader) (n1 : Int) : Option ((List Int) × Reader) :=
 chk (0 ≤ 0 ∧ 0 ≤ n1 ∧ n1 ≤ (r1.rest.b.length : Int)) (chk (0 ≤ n1 ∧ n1 ≤ (r1.rest.b.length : Int) ∧ (r1.rest.b.length : Int) ≤ (r1.rest.b.length : Int)) (some (((r1.rest.b.take n1.toNat).drop 0), (⟨(⟨(r1.rest.b.drop n1.toNat)⟩ : Rest), r1.e⟩ : Reader))))
set_option maxHeartbeats 4000000 in
set_option maxRecDepth 20000 in
theorem pack_rest_take_rc {r1 : Reader} {n1 : Int} {r : (List Int) × Reader} (H : pack_rest_take_f r1 n1 = some r) : RC Try.prog 50 [.ptr 0 0 0 2, .int .i64 n1] [⟨68, 2, false, [Reader.c r1]⟩] 1 (.list 1 (r.1.map (ci .u8))) [some ⟨68, 2, false, [Reader.c r.2]⟩] := by
 refine rcA_of Try.func50 (by rfl) (by decide) 22 (by rfl) [.tmp 4] (by rfl) ?_
 unfold pack_rest_take_f at H
 simp only [hent, List.length_cons, List.length_nil, reduceAdd]
 refine a_seq ?_
 refine a_reg _ rfl (s := ?zs1) ?_ ?_
 rotate_left
 ·simp only [EVT, stepR, evOp, St.ev, St.app, St.put, wrs, datOf, datOf1, TIS, CS, reduceAdd, reduceMul, reduceEqDiff, ↓reduceIte, reduceCtorEq, reduceLT, reduceLeDiff]
  (repeat' apply And.intro) <;> first|rfl|assumption|omega|(simp;done)|(simp;omega)|(simp_all;done)
 refine sA_n ?_
 refine a_seq ?_
 obtain ⟨zh1, H⟩ := chk_some H
 refine a_reg _ rfl (s := ?zs2) ?_ ?_
 rotate_left
 ·simp only [EVT, stepR, evOp, St.ev, St.app, St.put, wrs, evFieldAddr, evLoad, cut, evSlice, sliceOk, sl_if0, sl_if1, sl_if2, sl_if3, tk_map, dp_map, TIS, CS, reduceAdd, reduceMul, reduceEqDiff, ↓reduceIte, reduceCtorEq, reduceLT, reduceLeDiff, Int.reduceToNat, reduceSub, Nat.reduceBEq]
  (repeat' apply And.intro) <;> first|rfl|assumption|omega|(simp;done)|(simp;omega)|(simp_all;done)
 refine sA_n ?_
 refine a_seq ?_
 obtain ⟨zh2, H⟩ := chk_some H
 refine a_reg _ rfl (s := ?zs3) ?_ ?_
 rotate_left
 ·simp only [EVT, stepR, evOp, St.ev, St.app, St.put, wrs, evFieldAddr, evLoad, cut, evSlice, sliceOk, sl_if0, sl_if1, sl_if2, sl_if3, tk_map, dp_map, evStore, setR, allOne, TIS, CS, reduceAdd, reduceMul, reduceEqDiff, ↓reduceIte, reduceCtorEq, reduceLT, reduceLeDiff, Int.reduceToNat, reduceSub, Nat.reduceBEq]
  (repeat' apply And.intro) <;> first|rfl|assumption|omega|(simp;done)|(simp;omega)|(simp_all;done)
 refine sA_n ?_
 refine a_seq ?_
 refine a_reg _ rfl (s := ?zs4) ?_ ?_
 rotate_left
 ·simp only [EVT, stepR, evOp, St.ev, St.app, St.put, wrs, TIS, CS, reduceAdd, reduceMul, reduceEqDiff, ↓reduceIte, reduceCtorEq, reduceLT, reduceLeDiff]
  (repeat' apply And.intro) <;> first|rfl|assumption|omega|(simp;done)|(simp;omega)|(simp_all;done)
 refine sA_n ?_
 refine a_ret ?_
 obtain rfl := Option.some.inj H
 refine eR_r ?_
 refine wk_ln 1 [(some 0, ⟨68, 2, false, [Reader.c (⟨(⟨(r1.rest.b.drop n1.toNat)⟩ : Rest), r1.e⟩ : Reader)]⟩)] [] [(4, .list 1 (((r1.rest.b.take n1.toNat).drop 0).map (ci .u8)))] (by intro i h; rcases i with _ | i <;> first | rfl | omega) (by show ([4] : List Nat).Nodup; decide) (by show ([0] : List Nat).Nodup; decide) ?_ ?_ (fun t0 => ⟨by first | rfl | (simp only [EVT, resR, single, evLoad, cut, TIS, CS, reduceAdd, reduceEqDiff, ↓reduceIte, reduceCtorEq, reduceLT, reduceLeDiff, reduceSub, Nat.reduceBEq]; (repeat' apply And.intro) <;> first | rfl | (simp; done)), fun j B h => by rcases j with _ | _ <;> first | exact h | (exact absurd h (by simp [hh]))⟩)
 ·exact (allB_some (by rfl) rfl (.cons (.cons (.lst _ _ _ (ci_pu .u8) rfl) (.cons (.int' rfl) .nil)) .nil) trivial)
 ·(simp only [AllT, tl_cons, tl_nil, upd_apply, List.getD_cons_zero, List.getD_cons_succ, reduceEqDiff, ↓reduceIte, and_true]); exact (.lst _ _ _ (ci_pu .u8) rfl)
def pack_reader_str_f (r1 : Reader) : Option (ByteArray × Reader) :=
 (pack_reader_count_f r1).bind fun r2 => cond (r2.2.e != 0) (some ((⟨#[]⟩ : ByteArray), r2.2)) ((pack_rest_take_f r2.2 r2.1).bind fun r3 => some ((strOfNums r3.1), r3.2))
set_option maxHeartbeats 4000000 in
set_option maxRecDepth 20000 in
theorem pack_reader_str_rc {r1 : Reader} {r : ByteArray × Reader} (H : pack_reader_str_f r1 = some r) : RC Try.prog 43 [.ptr 0 0 0 2] [⟨68, 2, false, [Reader.c r1]⟩] 1 (.str r.1) [some ⟨68, 2, false, [Reader.c r.2]⟩] := by
 refine rcA_of Try.func43 (by rfl) (by decide) 17 (by rfl) [.tmp 2] (by rfl) ?_
 unfold pack_reader_str_f at H
 simp only [hent, List.length_cons, List.length_nil, reduceAdd]
 refine a_seq ?_
 refine a_reg _ rfl (s := ?zs1) ?_ ?_
 rotate_left
 ·simp only [EVT, stepR, evOp, St.ev, St.app, St.put, wrs, datOf, datOf1, TIS, CS, reduceAdd, reduceMul, reduceEqDiff, ↓reduceIte, reduceCtorEq, reduceLT, reduceLeDiff]
  (repeat' apply And.intro) <;> first|rfl|assumption|omega|(simp;done)|(simp;omega)|(simp_all;done)
 refine sA_n ?_
 refine a_seq ?_
 obtain ⟨r2, zh1, H⟩ := bind_some H
 have zk1 := pack_reader_count_rc zh1
 refine a_reg _ rfl (s := ?zs2) ?_ ?_
 rotate_left
 ·try simp only [EVT, stepR, evOp, St.ev, St.app, St.put, wrs, frz, TIS, CS, reduceAdd, reduceMul, reduceEqDiff, ↓reduceIte, reduceCtorEq, reduceLT, reduceLeDiff, reduceSub, Nat.reduceBEq]
  repeat' with_reducible apply And.intro
  all_goals try ((with_reducible show CallR _ _ _ _ _ _ _); refine callR_rcw (r' := .int .i64 r2.1) [(0, none), (0, some ⟨68, 2, false, [[.list 1 (r2.2.rest.b.map (ci .u8)), .int .i64 r2.2.e]]⟩)] [(some 0, ⟨68, 2, false, [Reader.c r1]⟩)] [] [(0, 0, ⟨68, 2, false, [[.list 1 (r2.2.rest.b.map (ci .u8)), .int .i64 r2.2.e]]⟩)] rfl zk1 (by simp) (by show ([0] : List Nat).Nodup; decide) (allB_some (by rfl) rfl (.cons (.cons (.lst _ _ _ (ci_pu .u8) rfl) (.cons (.int' rfl) .nil)) .nil) trivial) (.cons (.ptr _ _ _ _ _ rfl) .nil) (by show ([0] : List Nat).Nodup; decide) (by show ([0] : List Nat).Nodup; decide) ⟨.inl ⟨by decide, rfl⟩, ⟨_, rfl, ⟨rfl, rfl, rfl, rfl⟩, .cons (RNs.pu (Reader.pu _)) .nil⟩, trivial⟩ (.int' rfl) ?_; simp only [EVT, stepR, evOp, St.ev, St.app, St.put, wrs, frz, TIS, CS, reduceAdd, reduceMul, reduceEqDiff, ↓reduceIte, reduceCtorEq, reduceLT, reduceLeDiff, reduceSub, Nat.reduceBEq])
  all_goals ((repeat' apply And.intro) <;> first|rfl|assumption|omega|(simp;done)|(simp;omega)|(simp_all;done))
 refine sA_n ?_
 refine a_seq ?_
 refine a_seq ?_
 refine a_reg _ rfl (s := ?zs3) ?_ ?_
 rotate_left
 ·simp only [EVT, stepR, evOp, St.ev, St.app, St.put, wrs, evFieldAddr, evLoad, cut, datOf, datOf1, evBin, binInt, TIS, CS, reduceAdd, reduceMul, reduceEqDiff, ↓reduceIte, reduceCtorEq, reduceLT, reduceLeDiff, reduceSub, Nat.reduceBEq]
  (repeat' apply And.intro) <;> first|rfl|assumption|omega|(simp;done)|(simp;omega)|(simp_all;done)
 refine sA_n ?_
 refine a_condb ((r2.2.e != 0)) (by rfl) (fun zc1 => ?_) (fun zc1 => ?_)
 ·have H := cond_t zc1 H
  refine a_seq ?_
  refine a_reg _ rfl (s := ?zs4) ?_ ?_
  rotate_left
  ·simp only [EVT, stepR, evOp, St.ev, St.app, St.put, wrs, datOf, datOf1, TIS, CS, reduceAdd, reduceMul, reduceEqDiff, ↓reduceIte, reduceCtorEq, reduceLT, reduceLeDiff, ↓zc1]
   (repeat' apply And.intro) <;> first|rfl|assumption|omega|(simp;done)|(simp;omega)|(simp_all;done)
  refine sA_n ?_
  refine a_ret ?_
  refine sA_r ?_
  obtain rfl := Option.some.inj H
  refine eR_r ?_
  refine wk_ln 1 [(some 0, ⟨68, 2, false, [Reader.c r2.2]⟩)] [] [(2, .str (⟨#[]⟩ : ByteArray))] (by intro i h; rcases i with _ | i <;> first | rfl | omega) (by show ([2] : List Nat).Nodup; decide) (by show ([0] : List Nat).Nodup; decide) ?_ ?_ (fun t0 => ⟨by first | rfl | (simp only [EVT, resR, single, evLoad, cut, TIS, CS, reduceAdd, reduceEqDiff, ↓reduceIte, reduceCtorEq, reduceLT, reduceLeDiff, reduceSub, Nat.reduceBEq]; (repeat' apply And.intro) <;> first | rfl | (simp; done)), fun j B h => by rcases j with _ | _ <;> first | exact h | (exact absurd h (by simp [hh]))⟩)
  ·exact (allB_some (by rfl) rfl (.cons (.cons (.lst _ _ _ (ci_pu .u8) rfl) (.cons (.int' rfl) .nil)) .nil) trivial)
  ·(simp only [AllT, tl_cons, tl_nil, upd_apply, List.getD_cons_zero, List.getD_cons_succ, reduceEqDiff, ↓reduceIte, and_true]); exact (.str' rfl)
 ·have H := cond_f zc1 H
  refine a_skip ?_
  refine sA_n ?_
  refine a_seq ?_
  obtain ⟨r3, zh2, H⟩ := bind_some H
  have zk2 := pack_rest_take_rc zh2
  refine a_reg _ rfl (s := ?zs5) ?_ ?_
  rotate_left
  ·try simp only [EVT, stepR, evOp, St.ev, St.app, St.put, wrs, evFieldAddr, frz, evToStr, elems, TIS, CS, reduceAdd, reduceMul, reduceEqDiff, ↓reduceIte, reduceCtorEq, reduceLT, reduceLeDiff, reduceSub, Nat.reduceBEq, ↓zc1]
   repeat' with_reducible apply And.intro
   all_goals try ((with_reducible show CallR _ _ _ _ _ _ _); refine callR_rcw (r' := .list 1 (r3.1.map (ci .u8))) [(0, none), (0, some ⟨68, 2, false, [[.list 1 (r3.2.rest.b.map (ci .u8)), .int .i64 r3.2.e]]⟩)] [(some 0, ⟨68, 2, false, [Reader.c r2.2]⟩)] [] [(0, 0, ⟨68, 2, false, [[.list 1 (r3.2.rest.b.map (ci .u8)), .int .i64 r3.2.e]]⟩)] rfl zk2 (by simp) (by show ([0] : List Nat).Nodup; decide) (allB_some (by rfl) rfl (.cons (.cons (.lst _ _ _ (ci_pu .u8) rfl) (.cons (.int' rfl) .nil)) .nil) trivial) (.cons (.ptr _ _ _ _ _ rfl) (.cons (.int' rfl) .nil)) (by show ([0] : List Nat).Nodup; decide) (by show ([0] : List Nat).Nodup; decide) ⟨.inl ⟨by decide, rfl⟩, ⟨_, rfl, ⟨rfl, rfl, rfl, rfl⟩, .cons (RNs.pu (Reader.pu _)) .nil⟩, trivial⟩ (.lst _ _ _ (ci_pu .u8) rfl) ?_; simp only [EVT, stepR, evOp, St.ev, St.app, St.put, wrs, evFieldAddr, frz, evToStr, elems, TIS, CS, reduceAdd, reduceMul, reduceEqDiff, ↓reduceIte, reduceCtorEq, reduceLT, reduceLeDiff, reduceSub, Nat.reduceBEq, ↓zc1])
   all_goals ((repeat' apply And.intro) <;> first|rfl|assumption|omega|(simp;done)|(simp;omega)|(simp_all;done))
  refine sA_n ?_
  refine a_ret ?_
  obtain rfl := Option.some.inj H
  refine eR_r ?_
  refine wk_ln 1 [(some 0, ⟨68, 2, false, [Reader.c r3.2]⟩)] [] [(2, .str (strOfNums r3.1))] (by intro i h; rcases i with _ | i <;> first | rfl | omega) (by show ([2] : List Nat).Nodup; decide) (by show ([0] : List Nat).Nodup; decide) ?_ ?_ (fun t0 => ⟨by first | rfl | (simp only [EVT, resR, single, evLoad, cut, TIS, CS, reduceAdd, reduceEqDiff, ↓reduceIte, reduceCtorEq, reduceLT, reduceLeDiff, reduceSub, Nat.reduceBEq]; (repeat' apply And.intro) <;> first | rfl | (simp; done)), fun j B h => by rcases j with _ | _ <;> first | exact h | (exact absurd h (by simp [hh]))⟩)
  ·exact (allB_some (by rfl) rfl (.cons (.cons (.lst _ _ _ (ci_pu .u8) rfl) (.cons (.int' rfl) .nil)) .nil) trivial)
  ·(simp only [AllT, tl_cons, tl_nil, upd_apply, List.getD_cons_zero, List.getD_cons_succ, reduceEqDiff, ↓reduceIte, and_true]); exact (.str' rfl)
def pack_reader_end_J1 (r1 : Reader) (e1 : Int) : Option (Int × Reader) :=
 some (e1, (⟨r1.rest, e1⟩ : Reader))
def pack_reader_end_J2 (r1 : Reader) (v1 : Bool) : Option (Int × Reader) :=
 cond v1 (pack_reader_end_J1 r1 11) (pack_reader_end_J1 r1 r1.e)
def pack_reader_end_f (r1 : Reader) : Option (Int × Reader) :=
 pack_reader_end_J2 r1 ((r1.e == 0) && (decide (0 < (r1.rest.b.length : Int))))
set_option maxHeartbeats 4000000 in
set_option maxRecDepth 20000 in
theorem pack_reader_end_rc {r1 : Reader} {r : Int × Reader} (H : pack_reader_end_f r1 = some r) : RC Try.prog 44 [.ptr 0 0 0 2] [⟨68, 2, false, [Reader.c r1]⟩] 1 (.int .i64 r.1) [some ⟨68, 2, false, [Reader.c r.2]⟩] := by
 refine rcA_of Try.func44 (by rfl) (by decide) 24 (by rfl) [.tmp 2] (by rfl) ?_
 unfold pack_reader_end_f at H
 simp only [hent, List.length_cons, List.length_nil, reduceAdd]
 refine a_seq ?_
 refine a_reg _ rfl (s := ?zs1) ?_ ?_
 rotate_left
 ·simp only [EVT, stepR, evOp, St.ev, St.app, St.put, wrs, datOf, datOf1, TIS, CS, reduceAdd, reduceMul, reduceEqDiff, ↓reduceIte, reduceCtorEq, reduceLT, reduceLeDiff]
  (repeat' apply And.intro) <;> first|rfl|assumption|omega|(simp;done)|(simp;omega)|(simp_all;done)
 refine sA_n ?_
 refine a_cut (fun s => ∃ (e1 : Int) (t0 : Nat → Dat), pack_reader_end_J1 r1 e1 = some r ∧ s = ⟨tl t0 [(0, .ptr 0 0 0 2)], hl [⟨68, 2, false, [[.list 1 (r1.rest.b.map (ci .u8)), .int .i64 e1]]⟩], 1, 24⟩) ?_ ?_
 ·refine a_cut (fun s => ∃ (v1 : Bool) (t0 : Nat → Dat), pack_reader_end_J2 r1 v1 = some r ∧ s = ⟨tl t0 [(0, .ptr 0 0 0 2), (16, .bool v1)], hl [⟨68, 2, false, [[.list 1 (r1.rest.b.map (ci .u8)), .int .i64 r1.e]]⟩], 1, 24⟩) ?_ ?_
  ·refine bool_split (b := (r1.e == 0)) (fun zc2 => ?_) (fun zc2 => ?_)
   ·rw [zc2] at H
    refine a_reg _ rfl (s := ?zs4) ?_ ?_
    rotate_left
    ·simp only [EVT, stepR, evOp, St.ev, St.app, St.put, wrs, evFieldAddr, evLoad, cut, datOf, datOf1, evBin, binInt, evBuiltin, TIS, CS, reduceAdd, reduceMul, reduceEqDiff, ↓reduceIte, reduceCtorEq, reduceLT, reduceLeDiff, Array.reduceGetElem?, reduceSub, Nat.reduceBEq, ↓zc2]
     try simp only [EVT, stepR, evOp, St.ev, St.app, St.put, wrs, evFieldAddr, evLoad, cut, datOf, datOf1, evBin, binInt, evBuiltin, TIS, CS, reduceAdd, reduceMul, reduceEqDiff, ↓reduceIte, reduceCtorEq, reduceLT, reduceLeDiff, Array.reduceGetElem?, reduceSub, Nat.reduceBEq, ↓zc2]
     (repeat' apply And.intro) <;> first|rfl|assumption|omega|(simp;done)|(simp;omega)|(simp_all;done)
    refine cA_n ?_
    refine wk_ln 1 [(some 0, ⟨68, 2, false, [[.list 1 (r1.rest.b.map (ci .u8)), .int .i64 r1.e]]⟩)] [] [(0, .ptr 0 0 0 2), (16, .bool (decide (0 < (r1.rest.b.length : Int))))] (by intro i h; rcases i with _ | i <;> first | rfl | omega) (by show ([0, 16] : List Nat).Nodup; decide) (by show ([0] : List Nat).Nodup; decide) ?_ ?_ (fun t0 => ⟨(decide (0 < (r1.rest.b.length : Int))), t0, H, rfl⟩)
    ·exact (allB_some (by rfl) rfl (.cons (.cons (.lst _ _ _ (ci_pu .u8) rfl) (.cons (.int' rfl) .nil)) .nil) trivial)
    ·(simp only [AllT, tl_cons, tl_nil, upd_apply, List.getD_cons_zero, List.getD_cons_succ, reduceEqDiff, ↓reduceIte, and_true]); exact ⟨(.ptr _ _ _ _ _ rfl), (.bool' rfl)⟩
   ·rw [zc2] at H
    refine a_reg _ rfl (s := ?zs5) ?_ ?_
    rotate_left
    ·simp only [EVT, stepR, evOp, St.ev, St.app, St.put, wrs, evFieldAddr, evLoad, cut, datOf, datOf1, evBin, binInt, evBuiltin, TIS, CS, reduceAdd, reduceMul, reduceEqDiff, ↓reduceIte, reduceCtorEq, reduceLT, reduceLeDiff, Array.reduceGetElem?, reduceSub, Nat.reduceBEq, ↓zc2]
     try simp only [EVT, stepR, evOp, St.ev, St.app, St.put, wrs, evFieldAddr, evLoad, cut, datOf, datOf1, evBin, binInt, evBuiltin, TIS, CS, reduceAdd, reduceMul, reduceEqDiff, ↓reduceIte, reduceCtorEq, reduceLT, reduceLeDiff, Array.reduceGetElem?, reduceSub, Nat.reduceBEq, ↓zc2]
     (repeat' apply And.intro) <;> first|rfl|assumption|omega|(simp;done)|(simp;omega)|(simp_all;done)
    refine cA_n ?_
    refine wk_ln 1 [(some 0, ⟨68, 2, false, [[.list 1 (r1.rest.b.map (ci .u8)), .int .i64 r1.e]]⟩)] [] [(0, .ptr 0 0 0 2), (16, .bool false)] (by intro i h; rcases i with _ | i <;> first | rfl | omega) (by show ([0, 16] : List Nat).Nodup; decide) (by show ([0] : List Nat).Nodup; decide) ?_ ?_ (fun t0 => ⟨false, t0, H, rfl⟩)
    ·exact (allB_some (by rfl) rfl (.cons (.cons (.lst _ _ _ (ci_pu .u8) rfl) (.cons (.int' rfl) .nil)) .nil) trivial)
    ·(simp only [AllT, tl_cons, tl_nil, upd_apply, List.getD_cons_zero, List.getD_cons_succ, reduceEqDiff, ↓reduceIte, and_true]); exact ⟨(.ptr _ _ _ _ _ rfl), (.bool' (by first | rfl | assumption | (simp_all; done)))⟩
  ·rintro s ⟨v1, t0, H, rfl⟩
   unfold pack_reader_end_J2 at H
   refine a_condb (v1) (by rfl) (fun zc1 => ?_) (fun zc1 => ?_)
   ·have H := cond_t zc1 H
    refine a_reg _ rfl (s := ?zs3) ?_ ?_
    rotate_left
    ·simp only [EVT, stepR, evOp, St.ev, St.app, St.put, wrs, evFieldAddr, datOf, datOf1, evStore, setR, allOne, TIS, CS, reduceAdd, reduceMul, reduceEqDiff, ↓reduceIte, reduceCtorEq, reduceLT, reduceLeDiff, reduceSub, Nat.reduceBEq, ↓zc1]
     (repeat' apply And.intro) <;> first|rfl|assumption|omega|(simp;done)|(simp;omega)|(simp_all;done)
    refine cA_n ?_
    refine wk_ln 1 [(some 0, ⟨68, 2, false, [[.list 1 (r1.rest.b.map (ci .u8)), .int .i64 11]]⟩)] [] [(0, .ptr 0 0 0 2)] (by intro i h; rcases i with _ | i <;> first | rfl | omega) (by show ([0] : List Nat).Nodup; decide) (by show ([0] : List Nat).Nodup; decide) ?_ ?_ (fun t0 => ⟨11, t0, H, rfl⟩)
    ·exact (allB_some (by rfl) rfl (.cons (.cons (.lst _ _ _ (ci_pu .u8) rfl) (.cons (.int' rfl) .nil)) .nil) trivial)
    ·(simp only [AllT, tl_cons, tl_nil, upd_apply, List.getD_cons_zero, List.getD_cons_succ, reduceEqDiff, ↓reduceIte, and_true]); exact (.ptr _ _ _ _ _ rfl)
   ·have H := cond_f zc1 H
    refine a_skip ?_
    refine cA_n ?_
    refine wk_ln 1 [(some 0, ⟨68, 2, false, [[.list 1 (r1.rest.b.map (ci .u8)), .int .i64 r1.e]]⟩)] [] [(0, .ptr 0 0 0 2)] (by intro i h; rcases i with _ | i <;> first | rfl | omega) (by show ([0] : List Nat).Nodup; decide) (by show ([0] : List Nat).Nodup; decide) ?_ ?_ (fun t0 => ⟨r1.e, t0, H, rfl⟩)
    ·exact (allB_some (by rfl) rfl (.cons (.cons (.lst _ _ _ (ci_pu .u8) rfl) (.cons (.int' rfl) .nil)) .nil) trivial)
    ·(simp only [AllT, tl_cons, tl_nil, upd_apply, List.getD_cons_zero, List.getD_cons_succ, reduceEqDiff, ↓reduceIte, and_true]); exact (.ptr _ _ _ _ _ rfl)
 ·rintro s ⟨e1, t0, H, rfl⟩
  unfold pack_reader_end_J1 at H
  refine a_seq ?_
  refine a_reg _ rfl (s := ?zs2) ?_ ?_
  rotate_left
  ·simp only [EVT, stepR, evOp, St.ev, St.app, St.put, wrs, evFieldAddr, evLoad, cut, TIS, CS, reduceAdd, reduceMul, reduceEqDiff, ↓reduceIte, reduceCtorEq, reduceLT, reduceLeDiff, reduceSub, Nat.reduceBEq]
   (repeat' apply And.intro) <;> first|rfl|assumption|omega|(simp;done)|(simp;omega)|(simp_all;done)
  refine sA_n ?_
  refine a_ret ?_
  obtain rfl := Option.some.inj H
  refine eR_r ?_
  refine wk_ln 1 [(some 0, ⟨68, 2, false, [Reader.c (⟨r1.rest, e1⟩ : Reader)]⟩)] [] [(2, .int .i64 e1)] (by intro i h; rcases i with _ | i <;> first | rfl | omega) (by show ([2] : List Nat).Nodup; decide) (by show ([0] : List Nat).Nodup; decide) ?_ ?_ (fun t0 => ⟨by first | rfl | (simp only [EVT, resR, single, evLoad, cut, TIS, CS, reduceAdd, reduceEqDiff, ↓reduceIte, reduceCtorEq, reduceLT, reduceLeDiff, reduceSub, Nat.reduceBEq]; (repeat' apply And.intro) <;> first | rfl | (simp; done)), fun j B h => by rcases j with _ | _ <;> first | exact h | (exact absurd h (by simp [hh]))⟩)
  ·exact (allB_some (by rfl) rfl (.cons (.cons (.lst _ _ _ (ci_pu .u8) rfl) (.cons (.int' rfl) .nil)) .nil) trivial)
  ·(simp only [AllT, tl_cons, tl_nil, upd_apply, List.getD_cons_zero, List.getD_cons_succ, reduceEqDiff, ↓reduceIte, and_true]); exact (.int' rfl)
def ref01_count_f (b1 : List Int) : Option (Int × (List Int) × Int) :=
 (ref01_ReadInt_f b1).bind fun r1 => cond (r1.2.2 != 0) (some (0, [], r1.2.2)) (cond (decide (r1.1 < 0)) (some (0, [], 11)) (cond (decide ((r1.2.1.length : Int) < r1.1)) (some (0, [], 10)) (some (r1.1, r1.2.1, 0))))
set_option maxHeartbeats 4000000 in
set_option maxRecDepth 20000 in
theorem ref01_count_pc {b1 : List Int} {r : Int × (List Int) × Int} (H : ref01_count_f b1 = some r) : PC Try.prog 46 [.list 1 (b1.map (ci .u8))] (.tup [.int .i64 r.1, .list 1 (r.2.1.map (ci .u8)), .int .i64 r.2.2]) := by
 refine pcA_of Try.func46 (by rfl) (by decide) 25 (by rfl) [.tmp 2, .tmp 3, .tmp 4] (by rfl) ?_
 unfold ref01_count_f at H
 simp only [ent]
 refine a_seq ?_
 refine a_reg _ rfl (s := ?zs1) ?_ ?_
 rotate_left
 ·simp only [EVT, stepR, evOp, St.ev, St.app, St.put, wrs, datOf, datOf1, TIS, CS, reduceAdd, reduceMul, reduceEqDiff, ↓reduceIte, reduceCtorEq, reduceLT, reduceLeDiff]
  (repeat' apply And.intro) <;> first|rfl|assumption|omega|(simp;done)|(simp;omega)|(simp_all;done)
 refine sA_n ?_
 refine a_seq ?_
 obtain ⟨r1, zh1, H⟩ := bind_some H
 have zk1 := ref01_ReadInt_pc zh1
 refine a_reg _ rfl (s := ?zs2) ?_ ?_
 rotate_left
 ·try simp only [EVT, stepR, evOp, St.ev, St.app, St.put, wrs, frz, TIS, CS, reduceAdd, reduceMul, reduceEqDiff, ↓reduceIte, reduceCtorEq, reduceLT, reduceLeDiff, reduceSub, Nat.reduceBEq]
  repeat' with_reducible apply And.intro
  all_goals try ((with_reducible show CallR _ _ _ _ _ _ _); refine cR_p zk1 (.cons (.lst _ _ _ (ci_pu .u8) rfl) .nil) ?_; simp only [EVT, stepR, evOp, St.ev, St.app, St.put, wrs, frz, TIS, CS, reduceAdd, reduceMul, reduceEqDiff, ↓reduceIte, reduceCtorEq, reduceLT, reduceLeDiff, reduceSub, Nat.reduceBEq])
  all_goals ((repeat' apply And.intro) <;> first|rfl|assumption|omega|(simp;done)|(simp;omega)|(simp_all;done))
 refine sA_n ?_
 refine a_seq ?_
 refine a_seq ?_
 refine a_reg _ rfl (s := ?zs3) ?_ ?_
 rotate_left
 ·simp only [EVT, stepR, evOp, St.ev, St.app, St.put, wrs, datOf, datOf1, evBin, binInt, TIS, CS, reduceAdd, reduceMul, reduceEqDiff, ↓reduceIte, reduceCtorEq, reduceLT, reduceLeDiff]
  (repeat' apply And.intro) <;> first|rfl|assumption|omega|(simp;done)|(simp;omega)|(simp_all;done)
 refine sA_n ?_
 refine a_condb ((r1.2.2 != 0)) (by rfl) (fun zc1 => ?_) (fun zc1 => ?_)
 ·have H := cond_t zc1 H
  refine a_seq ?_
  refine a_reg _ rfl (s := ?zs4) ?_ ?_
  rotate_left
  ·simp only [EVT, stepR, evOp, St.ev, St.app, St.put, wrs, datOf, datOf1, TIS, CS, reduceAdd, reduceMul, reduceEqDiff, ↓reduceIte, reduceCtorEq, reduceLT, reduceLeDiff, ↓zc1]
   (repeat' apply And.intro) <;> first|rfl|assumption|omega|(simp;done)|(simp;omega)|(simp_all;done)
  refine sA_n ?_
  refine a_ret ?_
  refine sA_r ?_
  obtain rfl := Option.some.inj H
  refine e_r2 (d := ?zd1) ?_ ?_
  rotate_left
  ·simp only [EVT, resR, single, evLoad, cut, TIS, CS, reduceAdd, reduceEqDiff, ↓reduceIte, reduceCtorEq, reduceLT, reduceLeDiff, reduceSub, Nat.reduceBEq, zc1]
   (repeat' apply And.intro) <;> first | rfl | assumption | omega | (simp; done)
  exact (.tup' (.cons (.int' rfl) (.cons (.nil _) (.cons (.int' rfl) .nil))))
 ·have H := cond_f zc1 H
  refine a_skip ?_
  refine sA_n ?_
  refine a_seq ?_
  refine a_seq ?_
  refine a_reg _ rfl (s := ?zs5) ?_ ?_
  rotate_left
  ·simp only [EVT, stepR, evOp, St.ev, St.app, St.put, wrs, datOf, datOf1, evBin, binInt, TIS, CS, reduceAdd, reduceMul, reduceEqDiff, ↓reduceIte, reduceCtorEq, reduceLT, reduceLeDiff, ↓zc1]
   (repeat' apply And.intro) <;> first|rfl|assumption|omega|(simp;done)|(simp;omega)|(simp_all;done)
  refine sA_n ?_
  refine a_condb ((decide (r1.1 < 0))) (by rfl) (fun zc2 => ?_) (fun zc2 => ?_)
  ·have H := cond_t zc2 H
   refine a_seq ?_
   refine a_reg _ rfl (s := ?zs6) ?_ ?_
   rotate_left
   ·simp only [EVT, stepR, evOp, St.ev, St.app, St.put, wrs, datOf, datOf1, TIS, CS, reduceAdd, reduceMul, reduceEqDiff, ↓reduceIte, reduceCtorEq, reduceLT, reduceLeDiff, ↓zc1, ↓zc2]
    (repeat' apply And.intro) <;> first|rfl|assumption|omega|(simp;done)|(simp;omega)|(simp_all;done)
   refine sA_n ?_
   refine a_ret ?_
   refine sA_r ?_
   obtain rfl := Option.some.inj H
   refine e_r2 (d := ?zd2) ?_ ?_
   rotate_left
   ·simp only [EVT, resR, single, evLoad, cut, TIS, CS, reduceAdd, reduceEqDiff, ↓reduceIte, reduceCtorEq, reduceLT, reduceLeDiff, reduceSub, Nat.reduceBEq, zc1, zc2]
    (repeat' apply And.intro) <;> first | rfl | assumption | omega | (simp; done)
   exact (.tup' (.cons (.int' rfl) (.cons (.nil _) (.cons (.int' rfl) .nil))))
  ·have H := cond_f zc2 H
   refine a_skip ?_
   refine sA_n ?_
   refine a_seq ?_
   refine a_seq ?_
   refine a_reg _ rfl (s := ?zs7) ?_ ?_
   rotate_left
   ·simp only [EVT, stepR, evOp, St.ev, St.app, St.put, wrs, evBuiltin, evBin, binInt, TIS, CS, reduceAdd, reduceMul, reduceEqDiff, ↓reduceIte, reduceCtorEq, reduceLT, reduceLeDiff, reduceSub, Nat.reduceBEq, ↓zc1, ↓zc2]
    (repeat' apply And.intro) <;> first|rfl|assumption|omega|(simp;done)|(simp;omega)|(simp_all;done)
   refine sA_n ?_
   refine a_condb ((decide ((r1.2.1.length : Int) < r1.1))) (by rfl) (fun zc3 => ?_) (fun zc3 => ?_)
   ·have H := cond_t zc3 H
    refine a_seq ?_
    refine a_reg _ rfl (s := ?zs8) ?_ ?_
    rotate_left
    ·simp only [EVT, stepR, evOp, St.ev, St.app, St.put, wrs, datOf, datOf1, TIS, CS, reduceAdd, reduceMul, reduceEqDiff, ↓reduceIte, reduceCtorEq, reduceLT, reduceLeDiff, ↓zc1, ↓zc2, ↓zc3]
     (repeat' apply And.intro) <;> first|rfl|assumption|omega|(simp;done)|(simp;omega)|(simp_all;done)
    refine sA_n ?_
    refine a_ret ?_
    refine sA_r ?_
    obtain rfl := Option.some.inj H
    refine e_r2 (d := ?zd3) ?_ ?_
    rotate_left
    ·simp only [EVT, resR, single, evLoad, cut, TIS, CS, reduceAdd, reduceEqDiff, ↓reduceIte, reduceCtorEq, reduceLT, reduceLeDiff, reduceSub, Nat.reduceBEq, zc1, zc2, zc3]
     (repeat' apply And.intro) <;> first | rfl | assumption | omega | (simp; done)
    exact (.tup' (.cons (.int' rfl) (.cons (.nil _) (.cons (.int' rfl) .nil))))
   ·have H := cond_f zc3 H
    refine a_skip ?_
    refine sA_n ?_
    refine a_seq ?_
    refine a_reg _ rfl (s := ?zs9) ?_ ?_
    rotate_left
    ·simp only [EVT, stepR, evOp, St.ev, St.app, St.put, wrs, datOf, datOf1, TIS, CS, reduceAdd, reduceMul, reduceEqDiff, ↓reduceIte, reduceCtorEq, reduceLT, reduceLeDiff, ↓zc1, ↓zc2, ↓zc3]
     (repeat' apply And.intro) <;> first|rfl|assumption|omega|(simp;done)|(simp;omega)|(simp_all;done)
    refine sA_n ?_
    refine a_ret ?_
    obtain rfl := Option.some.inj H
    refine e_r2 (d := ?zd4) ?_ ?_
    rotate_left
    ·simp only [EVT, resR, single, evLoad, cut, TIS, CS, reduceAdd, reduceEqDiff, ↓reduceIte, reduceCtorEq, reduceLT, reduceLeDiff, reduceSub, Nat.reduceBEq, zc1, zc2, zc3]
     (repeat' apply And.intro) <;> first | rfl | assumption | omega | (simp; done)
    exact (.tup' (.cons (.int' rfl) (.cons (.lst _ _ _ (ci_pu .u8) rfl) (.cons (.int' rfl) .nil))))
def ref01_reader_num_f (r1 : Reader74) : Option (Int × Reader74) :=
 cond (r1.e != 0) (some (0, r1)) ((ref01_ReadInt_f r1.b).bind fun r2 => some (r2.1, (⟨r2.2.1, r2.2.2⟩ : Reader74)))
set_option maxHeartbeats 4000000 in
set_option maxRecDepth 20000 in
theorem ref01_reader_num_rc {r1 : Reader74} {r : Int × Reader74} (H : ref01_reader_num_f r1 = some r) : RC Try.prog 47 [.ptr 0 0 0 2] [⟨75, 2, false, [Reader74.c r1]⟩] 1 (.int .i64 r.1) [some ⟨75, 2, false, [Reader74.c r.2]⟩] := by
 refine rcA_of Try.func47 (by rfl) (by decide) 29 (by rfl) [.tmp 2] (by rfl) ?_
 unfold ref01_reader_num_f at H
 simp only [hent, List.length_cons, List.length_nil, reduceAdd]
 refine a_seq ?_
 refine a_reg _ rfl (s := ?zs1) ?_ ?_
 rotate_left
 ·simp only [EVT, stepR, evOp, St.ev, St.app, St.put, wrs, datOf, datOf1, TIS, CS, reduceAdd, reduceMul, reduceEqDiff, ↓reduceIte, reduceCtorEq, reduceLT, reduceLeDiff]
  (repeat' apply And.intro) <;> first|rfl|assumption|omega|(simp;done)|(simp;omega)|(simp_all;done)
 refine sA_n ?_
 refine a_seq ?_
 refine a_seq ?_
 refine a_reg _ rfl (s := ?zs2) ?_ ?_
 rotate_left
 ·simp only [EVT, stepR, evOp, St.ev, St.app, St.put, wrs, evFieldAddr, evLoad, cut, datOf, datOf1, evBin, binInt, TIS, CS, reduceAdd, reduceMul, reduceEqDiff, ↓reduceIte, reduceCtorEq, reduceLT, reduceLeDiff, reduceSub, Nat.reduceBEq]
  (repeat' apply And.intro) <;> first|rfl|assumption|omega|(simp;done)|(simp;omega)|(simp_all;done)
 refine sA_n ?_
 refine a_condb ((r1.e != 0)) (by rfl) (fun zc1 => ?_) (fun zc1 => ?_)
 ·have H := cond_t zc1 H
  refine a_seq ?_
  refine a_reg _ rfl (s := ?zs3) ?_ ?_
  rotate_left
  ·simp only [EVT, stepR, evOp, St.ev, St.app, St.put, wrs, datOf, datOf1, TIS, CS, reduceAdd, reduceMul, reduceEqDiff, ↓reduceIte, reduceCtorEq, reduceLT, reduceLeDiff, ↓zc1]
   (repeat' apply And.intro) <;> first|rfl|assumption|omega|(simp;done)|(simp;omega)|(simp_all;done)
  refine sA_n ?_
  refine a_ret ?_
  refine sA_r ?_
  obtain rfl := Option.some.inj H
  refine eR_r ?_
  refine wk_ln 1 [(some 0, ⟨75, 2, false, [Reader74.c r1]⟩)] [] [(2, .int .i64 0)] (by intro i h; rcases i with _ | i <;> first | rfl | omega) (by show ([2] : List Nat).Nodup; decide) (by show ([0] : List Nat).Nodup; decide) ?_ ?_ (fun t0 => ⟨by first | rfl | (simp only [EVT, resR, single, evLoad, cut, TIS, CS, reduceAdd, reduceEqDiff, ↓reduceIte, reduceCtorEq, reduceLT, reduceLeDiff, reduceSub, Nat.reduceBEq]; (repeat' apply And.intro) <;> first | rfl | (simp; done)), fun j B h => by rcases j with _ | _ <;> first | exact h | (exact absurd h (by simp [hh]))⟩)
  ·exact (allB_some (by rfl) rfl (.cons (.cons (.lst _ _ _ (ci_pu .u8) rfl) (.cons (.int' rfl) .nil)) .nil) trivial)
  ·(simp only [AllT, tl_cons, tl_nil, upd_apply, List.getD_cons_zero, List.getD_cons_succ, reduceEqDiff, ↓reduceIte, and_true]); exact (.int' rfl)
 ·have H := cond_f zc1 H
  refine a_skip ?_
  refine sA_n ?_
  refine a_seq ?_
  obtain ⟨r2, zh1, H⟩ := bind_some H
  have zk1 := ref01_ReadInt_pc zh1
  refine a_reg _ rfl (s := ?zs4) ?_ ?_
  rotate_left
  ·try simp only [EVT, stepR, evOp, St.ev, St.app, St.put, wrs, evFieldAddr, evLoad, cut, frz, TIS, CS, reduceAdd, reduceMul, reduceEqDiff, ↓reduceIte, reduceCtorEq, reduceLT, reduceLeDiff, reduceSub, Nat.reduceBEq, ↓zc1]
   repeat' with_reducible apply And.intro
   all_goals try ((with_reducible show CallR _ _ _ _ _ _ _); refine cR_p zk1 (.cons (.lst _ _ _ (ci_pu .u8) rfl) .nil) ?_; simp only [EVT, stepR, evOp, St.ev, St.app, St.put, wrs, evFieldAddr, evLoad, cut, frz, TIS, CS, reduceAdd, reduceMul, reduceEqDiff, ↓reduceIte, reduceCtorEq, reduceLT, reduceLeDiff, reduceSub, Nat.reduceBEq, ↓zc1])
   all_goals ((repeat' apply And.intro) <;> first|rfl|assumption|omega|(simp;done)|(simp;omega)|(simp_all;done))
  refine sA_n ?_
  refine a_seq ?_
  refine a_reg _ rfl (s := ?zs5) ?_ ?_
  rotate_left
  ·simp only [EVT, stepR, evOp, St.ev, St.app, St.put, wrs, evFieldAddr, evStore, setR, allOne, TIS, CS, reduceAdd, reduceMul, reduceEqDiff, ↓reduceIte, reduceCtorEq, reduceLT, reduceLeDiff, reduceSub, Nat.reduceBEq, ↓zc1]
   (repeat' apply And.intro) <;> first|rfl|assumption|omega|(simp;done)|(simp;omega)|(simp_all;done)
  refine sA_n ?_
  refine a_seq ?_
  refine a_reg _ rfl (s := ?zs6) ?_ ?_
  rotate_left
  ·simp only [EVT, stepR, evOp, St.ev, St.app, St.put, wrs, evFieldAddr, evStore, setR, allOne, TIS, CS, reduceAdd, reduceMul, reduceEqDiff, ↓reduceIte, reduceCtorEq, reduceLT, reduceLeDiff, reduceSub, Nat.reduceBEq, ↓zc1]
   (repeat' apply And.intro) <;> first|rfl|assumption|omega|(simp;done)|(simp;omega)|(simp_all;done)
  refine sA_n ?_
  refine a_seq ?_
  refine a_reg _ rfl (s := ?zs7) ?_ ?_
  rotate_left
  ·simp only [EVT, stepR, evOp, St.ev, St.app, St.put, wrs, TIS, CS, reduceAdd, reduceMul, reduceEqDiff, ↓reduceIte, reduceCtorEq, reduceLT, reduceLeDiff, ↓zc1]
   (repeat' apply And.intro) <;> first|rfl|assumption|omega|(simp;done)|(simp;omega)|(simp_all;done)
  refine sA_n ?_
  refine a_ret ?_
  obtain rfl := Option.some.inj H
  refine eR_r ?_
  refine wk_ln 1 [(some 0, ⟨75, 2, false, [Reader74.c (⟨r2.2.1, r2.2.2⟩ : Reader74)]⟩)] [] [(2, .int .i64 r2.1)] (by intro i h; rcases i with _ | i <;> first | rfl | omega) (by show ([2] : List Nat).Nodup; decide) (by show ([0] : List Nat).Nodup; decide) ?_ ?_ (fun t0 => ⟨by first | rfl | (simp only [EVT, resR, single, evLoad, cut, TIS, CS, reduceAdd, reduceEqDiff, ↓reduceIte, reduceCtorEq, reduceLT, reduceLeDiff, reduceSub, Nat.reduceBEq]; (repeat' apply And.intro) <;> first | rfl | (simp; done)), fun j B h => by rcases j with _ | _ <;> first | exact h | (exact absurd h (by simp [hh]))⟩)
  ·exact (allB_some (by rfl) rfl (.cons (.cons (.lst _ _ _ (ci_pu .u8) rfl) (.cons (.int' rfl) .nil)) .nil) trivial)
  ·(simp only [AllT, tl_cons, tl_nil, upd_apply, List.getD_cons_zero, List.getD_cons_succ, reduceEqDiff, ↓reduceIte, and_true]); exact (.int' rfl)
def ref01_ReadStr_f (b1 : List Int) : Option (ByteArray × (List Int) × Int) :=
 (ref01_count_f b1).bind fun r1 => cond (r1.2.2 != 0) (some ((⟨#[]⟩ : ByteArray), [], r1.2.2)) (chk (0 ≤ 0 ∧ 0 ≤ r1.1 ∧ r1.1 ≤ (r1.2.1.length : Int)) (chk (0 ≤ r1.1 ∧ r1.1 ≤ (r1.2.1.length : Int) ∧ (r1.2.1.length : Int) ≤ (r1.2.1.length : Int)) (some ((strOfNums ((r1.2.1.take r1.1.toNat).drop 0)), (r1.2.1.drop r1.1.toNat), 0))))
set_option maxHeartbeats 4000000 in
set_option maxRecDepth 20000 in
theorem ref01_ReadStr_pc {b1 : List Int} {r : ByteArray × (List Int) × Int} (H : ref01_ReadStr_f b1 = some r) : PC Try.prog 34 [.list 1 (b1.map (ci .u8))] (.tup [.str r.1, .list 1 (r.2.1.map (ci .u8)), .int .i64 r.2.2]) := by
 refine pcA_of Try.func34 (by rfl) (by decide) 24 (by rfl) [.tmp 2, .tmp 3, .tmp 4] (by rfl) ?_
 unfold ref01_ReadStr_f at H
 simp only [ent]
 refine a_seq ?_
 refine a_reg _ rfl (s := ?zs1) ?_ ?_
 rotate_left
 ·simp only [EVT, stepR, evOp, St.ev, St.app, St.put, wrs, datOf, datOf1, TIS, CS, reduceAdd, reduceMul, reduceEqDiff, ↓reduceIte, reduceCtorEq, reduceLT, reduceLeDiff]
  (repeat' apply And.intro) <;> first|rfl|assumption|omega|(simp;done)|(simp;omega)|(simp_all;done)
 refine sA_n ?_
 refine a_seq ?_
 obtain ⟨r1, zh1, H⟩ := bind_some H
 have zk1 := ref01_count_pc zh1
 refine a_reg _ rfl (s := ?zs2) ?_ ?_
 rotate_left
 ·try simp only [EVT, stepR, evOp, St.ev, St.app, St.put, wrs, frz, TIS, CS, reduceAdd, reduceMul, reduceEqDiff, ↓reduceIte, reduceCtorEq, reduceLT, reduceLeDiff, reduceSub, Nat.reduceBEq]
  repeat' with_reducible apply And.intro
  all_goals try ((with_reducible show CallR _ _ _ _ _ _ _); refine cR_p zk1 (.cons (.lst _ _ _ (ci_pu .u8) rfl) .nil) ?_; simp only [EVT, stepR, evOp, St.ev, St.app, St.put, wrs, frz, TIS, CS, reduceAdd, reduceMul, reduceEqDiff, ↓reduceIte, reduceCtorEq, reduceLT, reduceLeDiff, reduceSub, Nat.reduceBEq])
  all_goals ((repeat' apply And.intro) <;> first|rfl|assumption|omega|(simp;done)|(simp;omega)|(simp_all;done))
 refine sA_n ?_
 refine a_seq ?_
 refine a_seq ?_
 refine a_reg _ rfl (s := ?zs3) ?_ ?_
 rotate_left
 ·simp only [EVT, stepR, evOp, St.ev, St.app, St.put, wrs, datOf, datOf1, evBin, binInt, TIS, CS, reduceAdd, reduceMul, reduceEqDiff, ↓reduceIte, reduceCtorEq, reduceLT, reduceLeDiff]
  (repeat' apply And.intro) <;> first|rfl|assumption|omega|(simp;done)|(simp;omega)|(simp_all;done)
 refine sA_n ?_
 refine a_condb ((r1.2.2 != 0)) (by rfl) (fun zc1 => ?_) (fun zc1 => ?_)
 ·have H := cond_t zc1 H
  refine a_seq ?_
  refine a_reg _ rfl (s := ?zs4) ?_ ?_
  rotate_left
  ·simp only [EVT, stepR, evOp, St.ev, St.app, St.put, wrs, datOf, datOf1, TIS, CS, reduceAdd, reduceMul, reduceEqDiff, ↓reduceIte, reduceCtorEq, reduceLT, reduceLeDiff, ↓zc1]
   (repeat' apply And.intro) <;> first|rfl|assumption|omega|(simp;done)|(simp;omega)|(simp_all;done)
  refine sA_n ?_
  refine a_ret ?_
  refine sA_r ?_
  obtain rfl := Option.some.inj H
  refine e_r2 (d := ?zd1) ?_ ?_
  rotate_left
  ·simp only [EVT, resR, single, evLoad, cut, TIS, CS, reduceAdd, reduceEqDiff, ↓reduceIte, reduceCtorEq, reduceLT, reduceLeDiff, reduceSub, Nat.reduceBEq, zc1]
   (repeat' apply And.intro) <;> first | rfl | assumption | omega | (simp; done)
  exact (.tup' (.cons (.str' rfl) (.cons (.nil _) (.cons (.int' rfl) .nil))))
 ·have H := cond_f zc1 H
  refine a_skip ?_
  refine sA_n ?_
  refine a_seq ?_
  obtain ⟨zh2, H⟩ := chk_some H
  obtain ⟨zh3, H⟩ := chk_some H
  refine a_drW (by kernel_rfl) _ rfl (s := ?zs5) (by kernel_rfl) (by kernel_rfl) ?zs5f ?_ ?_ ?_
  rotate_left 2
  ·simp only [EVT, stepW, evOp, St.ev, St.app, St.put, wrs, evSlice, sliceOk, sl_if0, sl_if1, sl_if2, sl_if3, tk_map, dp_map, evToStr, elems, datOf, datOf1, TIS, CS, reduceAdd, reduceMul, reduceEqDiff, ↓reduceIte, reduceCtorEq, reduceLT, reduceLeDiff, Int.reduceToNat, reduceSub, ↓zc1]
   (repeat' apply And.intro) <;> first|rfl|assumption|omega|(simp;done)|(simp;omega)|(simp_all;done)
  ·kernel_rfl
  refine sA_n ?_
  refine a_ret ?_
  obtain rfl := Option.some.inj H
  refine e_r2 (d := ?zd2) ?_ ?_
  rotate_left
  ·simp only [EVT, resR, single, evLoad, cut, TIS, CS, reduceAdd, reduceEqDiff, ↓reduceIte, reduceCtorEq, reduceLT, reduceLeDiff, reduceSub, Nat.reduceBEq, zc1]
   (repeat' apply And.intro) <;> first | rfl | assumption | omega | (simp; done)
  exact (.tup' (.cons (.str' rfl) (.cons (.lst _ _ _ (ci_pu .u8) rfl) (.cons (.int' rfl) .nil))))
def ref01_reader_str_f (r1 : Reader74) : Option (ByteArray × Reader74) :=
 cond (r1.e != 0) (some ((⟨#[]⟩ : ByteArray), r1)) ((ref01_ReadStr_f r1.b).bind fun r2 => some (r2.1, (⟨r2.2.1, r2.2.2⟩ : Reader74)))
set_option maxHeartbeats 4000000 in
set_option maxRecDepth 20000 in
theorem ref01_reader_str_rc {r1 : Reader74} {r : ByteArray × Reader74} (H : ref01_reader_str_f r1 = some r) : RC Try.prog 48 [.ptr 0 0 0 2] [⟨75, 2, false, [Reader74.c r1]⟩] 1 (.str r.1) [some ⟨75, 2, false, [Reader74.c r.2]⟩] := by
 refine rcA_of Try.func48 (by rfl) (by decide) 29 (by rfl) [.tmp 2] (by rfl) ?_
 unfold ref01_reader_str_f at H
 simp only [hent, List.length_cons, List.length_nil, reduceAdd]
 refine a_seq ?_
 refine a_reg _ rfl (s := ?zs1) ?_ ?_
 rotate_left
 ·simp only [EVT, stepR, evOp, St.ev, St.app, St.put, wrs, datOf, datOf1, TIS, CS, reduceAdd, reduceMul, reduceEqDiff, ↓reduceIte, reduceCtorEq, reduceLT, reduceLeDiff]
  (repeat' apply And.intro) <;> first|rfl|assumption|omega|(simp;done)|(simp;omega)|(simp_all;done)
 refine sA_n ?_
 refine a_seq ?_
 refine a_seq ?_
 refine a_reg _ rfl (s := ?zs2) ?_ ?_
 rotate_left
 ·simp only [EVT, stepR, evOp, St.ev, St.app, St.put, wrs, evFieldAddr, evLoad, cut, datOf, datOf1, evBin, binInt, TIS, CS, reduceAdd, reduceMul, reduceEqDiff, ↓reduceIte, reduceCtorEq, reduceLT, reduceLeDiff, reduceSub, Nat.reduceBEq]
  (repeat' apply And.intro) <;> first|rfl|assumption|omega|(simp;done)|(simp;omega)|(simp_all;done)
 refine sA_n ?_
 refine a_condb ((r1.e != 0)) (by rfl) (fun zc1 => ?_) (fun zc1 => ?_)
 ·have H := cond_t zc1 H
  refine a_seq ?_
  refine a_reg _ rfl (s := ?zs3) ?_ ?_
  rotate_left
  ·simp only [EVT, stepR, evOp, St.ev, St.app, St.put, wrs, datOf, datOf1, TIS, CS, reduceAdd, reduceMul, reduceEqDiff, ↓reduceIte, reduceCtorEq, reduceLT, reduceLeDiff, ↓zc1]
   (repeat' apply And.intro) <;> first|rfl|assumption|omega|(simp;done)|(simp;omega)|(simp_all;done)
  refine sA_n ?_
  refine a_ret ?_
  refine sA_r ?_
  obtain rfl := Option.some.inj H
  refine eR_r ?_
  refine wk_ln 1 [(some 0, ⟨75, 2, false, [Reader74.c r1]⟩)] [] [(2, .str (⟨#[]⟩ : ByteArray))] (by intro i h; rcases i with _ | i <;> first | rfl | omega) (by show ([2] : List Nat).Nodup; decide) (by show ([0] : List Nat).Nodup; decide) ?_ ?_ (fun t0 => ⟨by first | rfl | (simp only [EVT, resR, single, evLoad, cut, TIS, CS, reduceAdd, reduceEqDiff, ↓reduceIte, reduceCtorEq, reduceLT, reduceLeDiff, reduceSub, Nat.reduceBEq]; (repeat' apply And.intro) <;> first | rfl | (simp; done)), fun j B h => by rcases j with _ | _ <;> first | exact h | (exact absurd h (by simp [hh]))⟩)
  ·exact (allB_some (by rfl) rfl (.cons (.cons (.lst _ _ _ (ci_pu .u8) rfl) (.cons (.int' rfl) .nil)) .nil) trivial)
  ·(simp only [AllT, tl_cons, tl_nil, upd_apply, List.getD_cons_zero, List.getD_cons_succ, reduceEqDiff, ↓reduceIte, and_true]); exact (.str' rfl)
 ·have H := cond_f zc1 H
  refine a_skip ?_
  refine sA_n ?_
  refine a_seq ?_
  obtain ⟨r2, zh1, H⟩ := bind_some H
  have zk1 := ref01_ReadStr_pc zh1
  refine a_reg _ rfl (s := ?zs4) ?_ ?_
  rotate_left
  ·try simp only [EVT, stepR, evOp, St.ev, St.app, St.put, wrs, evFieldAddr, evLoad, cut, frz, TIS, CS, reduceAdd, reduceMul, reduceEqDiff, ↓reduceIte, reduceCtorEq, reduceLT, reduceLeDiff, reduceSub, Nat.reduceBEq, ↓zc1]
   repeat' with_reducible apply And.intro
   all_goals try ((with_reducible show CallR _ _ _ _ _ _ _); refine cR_p zk1 (.cons (.lst _ _ _ (ci_pu .u8) rfl) .nil) ?_; simp only [EVT, stepR, evOp, St.ev, St.app, St.put, wrs, evFieldAddr, evLoad, cut, frz, TIS, CS, reduceAdd, reduceMul, reduceEqDiff, ↓reduceIte, reduceCtorEq, reduceLT, reduceLeDiff, reduceSub, Nat.reduceBEq, ↓zc1])
   all_goals ((repeat' apply And.intro) <;> first|rfl|assumption|omega|(simp;done)|(simp;omega)|(simp_all;done))
  refine sA_n ?_
  refine a_seq ?_
  refine a_reg _ rfl (s := ?zs5) ?_ ?_
  rotate_left
  ·simp only [EVT, stepR, evOp, St.ev, St.app, St.put, wrs, evFieldAddr, evStore, setR, allOne, TIS, CS, reduceAdd, reduceMul, reduceEqDiff, ↓reduceIte, reduceCtorEq, reduceLT, reduceLeDiff, reduceSub, Nat.reduceBEq, ↓zc1]
   (repeat' apply And.intro) <;> first|rfl|assumption|omega|(simp;done)|(simp;omega)|(simp_all;done)
  refine sA_n ?_
  refine a_seq ?_
  refine a_reg _ rfl (s := ?zs6) ?_ ?_
  rotate_left
  ·simp only [EVT, stepR, evOp, St.ev, St.app, St.put, wrs, evFieldAddr, evStore, setR, allOne, TIS, CS, reduceAdd, reduceMul, reduceEqDiff, ↓reduceIte, reduceCtorEq, reduceLT, reduceLeDiff, reduceSub, Nat.reduceBEq, ↓zc1]
   (repeat' apply And.intro) <;> first|rfl|assumption|omega|(simp;done)|(simp;omega)|(simp_all;done)
  refine sA_n ?_
  refine a_seq ?_
  refine a_reg _ rfl (s := ?zs7) ?_ ?_
  rotate_left
  ·simp only [EVT, stepR, evOp, St.ev, St.app, St.put, wrs, TIS, CS, reduceAdd, reduceMul, reduceEqDiff, ↓reduceIte, reduceCtorEq, reduceLT, reduceLeDiff, ↓zc1]
   (repeat' apply And.intro) <;> first|rfl|assumption|omega|(simp;done)|(simp;omega)|(simp_all;done)
  refine sA_n ?_
  refine a_ret ?_
  obtain rfl := Option.some.inj H
  refine eR_r ?_
  refine wk_ln 1 [(some 0, ⟨75, 2, false, [Reader74.c (⟨r2.2.1, r2.2.2⟩ : Reader74)]⟩)] [] [(2, .str r2.1)] (by intro i h; rcases i with _ | i <;> first | rfl | omega) (by show ([2] : List Nat).Nodup; decide) (by show ([0] : List Nat).Nodup; decide) ?_ ?_ (fun t0 => ⟨by first | rfl | (simp only [EVT, resR, single, evLoad, cut, TIS, CS, reduceAdd, reduceEqDiff, ↓reduceIte, reduceCtorEq, reduceLT, reduceLeDiff, reduceSub, Nat.reduceBEq]; (repeat' apply And.intro) <;> first | rfl | (simp; done)), fun j B h => by rcases j with _ | _ <;> first | exact h | (exact absurd h (by simp [hh]))⟩)
  ·exact (allB_some (by rfl) rfl (.cons (.cons (.lst _ _ _ (ci_pu .u8) rfl) (.cons (.int' rfl) .nil)) .nil) trivial)
  ·(simp only [AllT, tl_cons, tl_nil, upd_apply, List.getD_cons_zero, List.getD_cons_succ, reduceEqDiff, ↓reduceIte, and_true]); exact (.str' rfl)
def ref01_reader_end_J1 (r1 : Reader74) (v1 : Bool) : Option (Int × Reader74) :=
 cond v1 (some (11, r1)) (some (r1.e, r1))
def ref01_reader_end_f (r1 : Reader74) : Option (Int × Reader74) :=
 ref01_reader_end_J1 r1 ((r1.e == 0) && (decide (0 < (r1.b.length : Int))))
set_option maxHeartbeats 4000000 in
set_option maxRecDepth 20000 in
theorem ref01_reader_end_rc {r1 : Reader74} {r : Int × Reader74} (H : ref01_reader_end_f r1 = some r) : RC Try.prog 49 [.ptr 0 0 0 2] [⟨75, 2, false, [Reader74.c r1]⟩] 1 (.int .i64 r.1) [some ⟨75, 2, false, [Reader74.c r.2]⟩] := by
 refine rcA_of Try.func49 (by rfl) (by decide) 20 (by rfl) [.tmp 2] (by rfl) ?_
 unfold ref01_reader_end_f at H
 simp only [hent, List.length_cons, List.length_nil, reduceAdd]
 refine a_seq ?_
 refine a_reg _ rfl (s := ?zs1) ?_ ?_
 rotate_left
 ·simp only [EVT, stepR, evOp, St.ev, St.app, St.put, wrs, datOf, datOf1, TIS, CS, reduceAdd, reduceMul, reduceEqDiff, ↓reduceIte, reduceCtorEq, reduceLT, reduceLeDiff]
  (repeat' apply And.intro) <;> first|rfl|assumption|omega|(simp;done)|(simp;omega)|(simp_all;done)
 refine sA_n ?_
 refine a_seq ?_
 refine a_cut (fun s => ∃ (v1 : Bool) (t0 : Nat → Dat), ref01_reader_end_J1 r1 v1 = some r ∧ s = ⟨tl t0 [(0, .ptr 0 0 0 2), (15, .bool v1)], hl [⟨75, 2, false, [[.list 1 (r1.b.map (ci .u8)), .int .i64 r1.e]]⟩], 1, 20⟩) ?_ ?_
 ·refine bool_split (b := (r1.e == 0)) (fun zc2 => ?_) (fun zc2 => ?_)
  ·rw [zc2] at H
   refine a_reg _ rfl (s := ?zs4) ?_ ?_
   rotate_left
   ·simp only [EVT, stepR, evOp, St.ev, St.app, St.put, wrs, evFieldAddr, evLoad, cut, datOf, datOf1, evBin, binInt, evBuiltin, TIS, CS, reduceAdd, reduceMul, reduceEqDiff, ↓reduceIte, reduceCtorEq, reduceLT, reduceLeDiff, Array.reduceGetElem?, reduceSub, Nat.reduceBEq, ↓zc2]
    try simp only [EVT, stepR, evOp, St.ev, St.app, St.put, wrs, evFieldAddr, evLoad, cut, datOf, datOf1, evBin, binInt, evBuiltin, TIS, CS, reduceAdd, reduceMul, reduceEqDiff, ↓reduceIte, reduceCtorEq, reduceLT, reduceLeDiff, Array.reduceGetElem?, reduceSub, Nat.reduceBEq, ↓zc2]
    (repeat' apply And.intro) <;> first|rfl|assumption|omega|(simp;done)|(simp;omega)|(simp_all;done)
   refine cA_n ?_
   refine wk_ln 1 [(some 0, ⟨75, 2, false, [[.list 1 (r1.b.map (ci .u8)), .int .i64 r1.e]]⟩)] [] [(0, .ptr 0 0 0 2), (15, .bool (decide (0 < (r1.b.length : Int))))] (by intro i h; rcases i with _ | i <;> first | rfl | omega) (by show ([0, 15] : List Nat).Nodup; decide) (by show ([0] : List Nat).Nodup; decide) ?_ ?_ (fun t0 => ⟨(decide (0 < (r1.b.length : Int))), t0, H, rfl⟩)
   ·exact (allB_some (by rfl) rfl (.cons (.cons (.lst _ _ _ (ci_pu .u8) rfl) (.cons (.int' rfl) .nil)) .nil) trivial)
   ·(simp only [AllT, tl_cons, tl_nil, upd_apply, List.getD_cons_zero, List.getD_cons_succ, reduceEqDiff, ↓reduceIte, and_true]); exact ⟨(.ptr _ _ _ _ _ rfl), (.bool' rfl)⟩
  ·rw [zc2] at H
   refine a_reg _ rfl (s := ?zs5) ?_ ?_
   rotate_left
   ·simp only [EVT, stepR, evOp, St.ev, St.app, St.put, wrs, evFieldAddr, evLoad, cut, datOf, datOf1, evBin, binInt, evBuiltin, TIS, CS, reduceAdd, reduceMul, reduceEqDiff, ↓reduceIte, reduceCtorEq, reduceLT, reduceLeDiff, Array.reduceGetElem?, reduceSub, Nat.reduceBEq, ↓zc2]
    try simp only [EVT, stepR, evOp, St.ev, St.app, St.put, wrs, evFieldAddr, evLoad, cut, datOf, datOf1, evBin, binInt, evBuiltin, TIS, CS, reduceAdd, reduceMul, reduceEqDiff, ↓reduceIte, reduceCtorEq, reduceLT, reduceLeDiff, Array.reduceGetElem?, reduceSub, Nat.reduceBEq, ↓zc2]
    (repeat' apply And.intro) <;> first|rfl|assumption|omega|(simp;done)|(simp;omega)|(simp_all;done)
   refine cA_n ?_
   refine wk_ln 1 [(some 0, ⟨75, 2, false, [[.list 1 (r1.b.map (ci .u8)), .int .i64 r1.e]]⟩)] [] [(0, .ptr 0 0 0 2), (15, .bool false)] (by intro i h; rcases i with _ | i <;> first | rfl | omega) (by show ([0, 15] : List Nat).Nodup; decide) (by show ([0] : List Nat).Nodup; decide) ?_ ?_ (fun t0 => ⟨false, t0, H, rfl⟩)
   ·exact (allB_some (by rfl) rfl (.cons (.cons (.lst _ _ _ (ci_pu .u8) rfl) (.cons (.int' rfl) .nil)) .nil) trivial)
   ·(simp only [AllT, tl_cons, tl_nil, upd_apply, List.getD_cons_zero, List.getD_cons_succ, reduceEqDiff, ↓reduceIte, and_true]); exact ⟨(.ptr _ _ _ _ _ rfl), (.bool' (by first | rfl | assumption | (simp_all; done)))⟩
 ·rintro s ⟨v1, t0, H, rfl⟩
  unfold ref01_reader_end_J1 at H
  refine a_condb (v1) (by rfl) (fun zc1 => ?_) (fun zc1 => ?_)
  ·have H := cond_t zc1 H
   refine a_seq ?_
   refine a_reg _ rfl (s := ?zs2) ?_ ?_
   rotate_left
   ·simp only [EVT, stepR, evOp, St.ev, St.app, St.put, wrs, datOf, datOf1, TIS, CS, reduceAdd, reduceMul, reduceEqDiff, ↓reduceIte, reduceCtorEq, reduceLT, reduceLeDiff, ↓zc1]
    (repeat' apply And.intro) <;> first|rfl|assumption|omega|(simp;done)|(simp;omega)|(simp_all;done)
   refine sA_n ?_
   refine a_ret ?_
   refine sA_r ?_
   obtain rfl := Option.some.inj H
   refine eR_r ?_
   refine wk_ln 1 [(some 0, ⟨75, 2, false, [Reader74.c r1]⟩)] [] [(2, .int .i64 11)] (by intro i h; rcases i with _ | i <;> first | rfl | omega) (by show ([2] : List Nat).Nodup; decide) (by show ([0] : List Nat).Nodup; decide) ?_ ?_ (fun t0 => ⟨by first | rfl | (simp only [EVT, resR, single, evLoad, cut, TIS, CS, reduceAdd, reduceEqDiff, ↓reduceIte, reduceCtorEq, reduceLT, reduceLeDiff, reduceSub, Nat.reduceBEq]; (repeat' apply And.intro) <;> first | rfl | (simp; done)), fun j B h => by rcases j with _ | _ <;> first | exact h | (exact absurd h (by simp [hh]))⟩)
   ·exact (allB_some (by rfl) rfl (.cons (.cons (.lst _ _ _ (ci_pu .u8) rfl) (.cons (.int' rfl) .nil)) .nil) trivial)
   ·(simp only [AllT, tl_cons, tl_nil, upd_apply, List.getD_cons_zero, List.getD_cons_succ, reduceEqDiff, ↓reduceIte, and_true]); exact (.int' rfl)
  ·have H := cond_f zc1 H
   refine a_skip ?_
   refine sA_n ?_
   refine a_seq ?_
   refine a_reg _ rfl (s := ?zs3) ?_ ?_
   rotate_left
   ·simp only [EVT, stepR, evOp, St.ev, St.app, St.put, wrs, evFieldAddr, evLoad, cut, TIS, CS, reduceAdd, reduceMul, reduceEqDiff, ↓reduceIte, reduceCtorEq, reduceLT, reduceLeDiff, reduceSub, Nat.reduceBEq, ↓zc1]
    (repeat' apply And.intro) <;> first|rfl|assumption|omega|(simp;done)|(simp;omega)|(simp_all;done)
   refine sA_n ?_
   refine a_ret ?_
   obtain rfl := Option.some.inj H
   refine eR_r ?_
   refine wk_ln 1 [(some 0, ⟨75, 2, false, [Reader74.c r1]⟩)] [] [(2, .int .i64 r1.e)] (by intro i h; rcases i with _ | i <;> first | rfl | omega) (by show ([2] : List Nat).Nodup; decide) (by show ([0] : List Nat).Nodup; decide) ?_ ?_ (fun t0 => ⟨by first | rfl | (simp only [EVT, resR, single, evLoad, cut, TIS, CS, reduceAdd, reduceEqDiff, ↓reduceIte, reduceCtorEq, reduceLT, reduceLeDiff, reduceSub, Nat.reduceBEq]; (repeat' apply And.intro) <;> first | rfl | (simp; done)), fun j B h => by rcases j with _ | _ <;> first | exact h | (exact absurd h (by simp [hh]))⟩)
   ·exact (allB_some (by rfl) rfl (.cons (.cons (.lst _ _ _ (ci_pu .u8) rfl) (.cons (.int' rfl) .nil)) .nil) trivial)
   ·(simp only [AllT, tl_cons, tl_nil, upd_apply, List.getD_cons_zero, List.getD_cons_succ, reduceEqDiff, ↓reduceIte, and_true]); exact (.int' rfl)
end
end Go.Proofs.Ytifkepfcjhebfaa
