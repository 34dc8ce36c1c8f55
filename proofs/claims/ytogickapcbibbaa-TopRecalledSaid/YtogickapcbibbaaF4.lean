/- Functions of the program as Lean functions, and that they are so; printed by a program of mine. -/
import Derived.Test.YtogickapcbibbaaF3
import Derived.Test.YtogickapcbibbaaE2
set_option linter.unusedSimpArgs false
set_option linter.unusedVariables false
namespace Go.Proofs.Ytogickapcbibbaa
open Go.Ab
open Nat (reduceAdd reduceMul reduceEqDiff reduceLT reduceLeDiff reduceSub)
noncomputable section

def slices_Values_f (s1 : List Int) : Option (List Int) :=
 some (s1)
set_option maxHeartbeats 4000000 in
set_option maxRecDepth 20000 in
theorem slices_Values_pc {s1 : List Int} {r : (List Int)} (H : slices_Values_f s1 = some r) : PC Try.prog 74 [.list 1 (s1.map (ci .i64))] (.fn (.func 84) [] [.rop ((cl 1 (ci .i64)) r) 0 1]) := by
 refine pcA_of Try.func74 (by rfl) (by decide) 4 (by rfl) [.tmp 2] (by rfl) ?_
 unfold slices_Values_f at H
 simp only [ent]
 refine a_seq ?_
 refine a_reg _ rfl (s := ?zs1) ?_ ?_
 rotate_left
 ·simp only [EVT, stepR, evOp, St.ev, St.app, St.put, wrs, allOne, datOf, datOf1, TIS, CS, reduceAdd, reduceMul, reduceEqDiff, ↓reduceIte, reduceCtorEq, reduceLT, reduceLeDiff]
  (repeat' apply And.intro) <;> first|rfl|assumption|omega|(simp;done)|(simp;omega)|(simp_all;done)
 refine sA_n ?_
 refine a_seq ?_
 refine a_reg _ rfl (s := ?zs2) ?_ ?_
 rotate_left
 ·simp only [EVT, stepR, evOp, St.ev, St.app, St.put, wrs, TIS, CS, reduceAdd, reduceMul, reduceEqDiff, ↓reduceIte, reduceCtorEq, reduceLT, reduceLeDiff]
  (repeat' apply And.intro) <;> first|rfl|assumption|omega|(simp;done)|(simp;omega)|(simp_all;done)
 refine sA_n ?_
 refine a_ret ?_
 obtain rfl := Option.some.inj H
 refine e_r2 (d := ?zd1) ?_ ?_
 rotate_left
 ·simp only [EVT, resR, single, evLoad, cut, TIS, CS, reduceAdd, reduceEqDiff, ↓reduceIte, reduceCtorEq, reduceLT, reduceLeDiff, reduceSub, Nat.reduceBEq]
  (repeat' apply And.intro) <;> first | rfl | assumption | omega | (simp; done)
 exact (.fn' .nil (.cons (.box (by rfl) (fun e => by cases e) rfl rfl (.cons (.lst _ _ _ (ci_pu .i64) rfl) .nil)) .nil))
def slices_Collect_f (seq1 : List Int) : Option (List Int) :=
 (slices_AppendSeq_f [] seq1).bind fun r1 => some (r1)
set_option maxHeartbeats 4000000 in
set_option maxRecDepth 20000 in
theorem slices_Collect_rc {seq1 : List Int} {r : (List Int)} (H : slices_Collect_f seq1 = some r) : RC Try.prog 82 [.fn (.func 84) [] [.rop ((cl 1 (ci .i64)) seq1) 0 1]] [] 0 (.ref 0 0 r.length 1) [some ⟨3, 1, false, r.map (ci .i64)⟩] := by
 refine rcA_of Try.func82 (by rfl) (by decide) 5 (by rfl) [.tmp 2] (by rfl) ?_
 unfold slices_Collect_f at H
 simp only [hent, List.length_cons, List.length_nil, reduceAdd]
 refine a_seq ?_
 refine a_reg _ rfl (s := ?zs1) ?_ ?_
 rotate_left
 ·simp only [EVT, stepR, evOp, St.ev, St.app, St.put, wrs, datOf, datOf1, TIS, CS, reduceAdd, reduceMul, reduceEqDiff, ↓reduceIte, reduceCtorEq, reduceLT, reduceLeDiff]
  (repeat' apply And.intro) <;> first|rfl|assumption|omega|(simp;done)|(simp;omega)|(simp_all;done)
 refine sA_n ?_
 refine a_seq ?_
 obtain ⟨r1, zh1, H⟩ := bind_some H
 have zk1 := slices_AppendSeq_rc zh1
 refine a_reg _ rfl (s := ?zs2) ?_ ?_
 rotate_left
 ·try simp only [EVT, stepR, evOp, St.ev, St.app, St.put, wrs, datOf, datOf1, frz, TIS, CS, reduceAdd, reduceMul, reduceEqDiff, ↓reduceIte, reduceCtorEq, reduceLT, reduceLeDiff, reduceSub, Nat.reduceBEq]
  repeat' with_reducible apply And.intro
  all_goals try ((with_reducible show CallR _ _ _ _ _ _ _); refine callR_ownm (l := r1) (c := (ci .i64)) [] zk1 (ci_sc .i64) (.cons .nil' (.cons (.fn' .nil (.cons (.rop' (.cons (.lst _ _ _ (ci_pu .i64) rfl) .nil)) .nil)) .nil)) ?_; simp only [EVT, stepR, evOp, St.ev, St.app, St.put, wrs, datOf, datOf1, frz, TIS, CS, reduceAdd, reduceMul, reduceEqDiff, ↓reduceIte, reduceCtorEq, reduceLT, reduceLeDiff, reduceSub, Nat.reduceBEq])
  all_goals ((repeat' apply And.intro) <;> first|rfl|assumption|omega|(simp;done)|(simp;omega)|(simp_all;done))
 refine sA_n ?_
 refine a_ret ?_
 obtain rfl := Option.some.inj H
 refine eR_r ?_
 refine wk_ln 0 [(some 9, ⟨3, 1, false, r1.map (ci .i64)⟩)] [] [(2, .ref 0 0 r1.length 1)] (fun i h => absurd h (Nat.not_lt_zero i)) (by show ([2] : List Nat).Nodup; decide) (by show ([9] : List Nat).Nodup; decide) ?_ ?_ (fun t0 => ⟨by first | rfl | (simp only [EVT, resR, single, evLoad, cut, TIS, CS, reduceAdd, reduceEqDiff, ↓reduceIte, reduceCtorEq, reduceLT, reduceLeDiff, reduceSub, Nat.reduceBEq]; (repeat' apply And.intro) <;> first | rfl | (simp; done)), fun j B h => by rcases j with _ | _ <;> first | exact h | (exact absurd h (by simp [hh]))⟩)
 ·exact (allB_some (by rfl) rfl (.sm _ _ (ci_pu .i64)) trivial)
 ·(simp only [AllT, ATT, reduceEqDiff, ↓reduceIte, and_true]); exact (.refl' (by first|rfl|omega|(simp;done)|(simp;omega)|(simp_all;done)) rfl)
def slices_Sorted_f (seq1 : List Int) : Option (List Int) :=
 (slices_Collect_f seq1).bind fun r1 => (slices_Sort_f r1).bind fun r2 => chk (r2.length = r1.length) (some (r2))
set_option maxHeartbeats 4000000 in
set_option maxRecDepth 20000 in
theorem slices_Sorted_rc {seq1 : List Int} {r : (List Int)} (H : slices_Sorted_f seq1 = some r) : RC Try.prog 73 [.fn (.func 84) [] [.rop ((cl 1 (ci .i64)) seq1) 0 1]] [] 0 (.ref 0 0 r.length 1) [some ⟨3, 1, false, r.map (ci .i64)⟩] := by
 refine rcA_of Try.func73 (by rfl) (by decide) 9 (by rfl) [.tmp 2] (by rfl) ?_
 unfold slices_Sorted_f at H
 simp only [hent, List.length_cons, List.length_nil, reduceAdd]
 refine a_seq ?_
 refine a_reg _ rfl (s := ?zs1) ?_ ?_
 rotate_left
 ·simp only [EVT, stepR, evOp, St.ev, St.app, St.put, wrs, datOf, datOf1, TIS, CS, reduceAdd, reduceMul, reduceEqDiff, ↓reduceIte, reduceCtorEq, reduceLT, reduceLeDiff]
  (repeat' apply And.intro) <;> first|rfl|assumption|omega|(simp;done)|(simp;omega)|(simp_all;done)
 refine sA_n ?_
 refine a_seq ?_
 obtain ⟨r1, zh1, H⟩ := bind_some H
 have zk1 := slices_Collect_rc zh1
 refine a_reg _ rfl (s := ?zs2) ?_ ?_
 rotate_left
 ·try simp only [EVT, stepR, evOp, St.ev, St.app, St.put, wrs, frz, TIS, CS, reduceAdd, reduceMul, reduceEqDiff, ↓reduceIte, reduceCtorEq, reduceLT, reduceLeDiff, reduceSub, Nat.reduceBEq]
  repeat' with_reducible apply And.intro
  all_goals try ((with_reducible show CallR _ _ _ _ _ _ _); refine callR_ownm (l := r1) (c := (ci .i64)) [] zk1 (ci_sc .i64) (.cons (.fn' .nil (.cons (.rop' (.cons (.lst _ _ _ (ci_pu .i64) rfl) .nil)) .nil)) .nil) ?_; simp only [EVT, stepR, evOp, St.ev, St.app, St.put, wrs, frz, TIS, CS, reduceAdd, reduceMul, reduceEqDiff, ↓reduceIte, reduceCtorEq, reduceLT, reduceLeDiff, reduceSub, Nat.reduceBEq])
  all_goals ((repeat' apply And.intro) <;> first|rfl|assumption|omega|(simp;done)|(simp;omega)|(simp_all;done))
 refine sA_n ?_
 refine a_seq ?_
 obtain ⟨r2, zh2, H⟩ := bind_some H
 have zk2 := slices_Sort_rc zh2
 obtain ⟨zh3, H⟩ := chk_some H
 refine a_reg _ rfl (s := ?zs3) ?_ ?_
 rotate_left
 ·try simp only [EVT, stepR, evOp, St.ev, St.app, St.put, wrs, frz, TIS, CS, reduceAdd, reduceMul, reduceEqDiff, ↓reduceIte, reduceCtorEq, reduceLT, reduceLeDiff, reduceSub, Nat.reduceBEq]
  repeat' with_reducible apply And.intro
  all_goals try ((with_reducible show CallR _ _ _ _ _ _ _); refine callR_rcw (r' := .tup []) [(9, none), (9, some ⟨3, 1, false, r2.map (ci .i64)⟩)] [(some 9, ⟨3, 1, false, r1.map (ci .i64)⟩)] [] [(9, 0, ⟨3, 1, false, r2.map (ci .i64)⟩)] rfl zk2 (by simp) (by show ([9] : List Nat).Nodup; decide) (allB_some (by rfl) rfl (.sm _ _ (ci_pu .i64)) trivial) (.cons (.refl' (by first|rfl|omega|(simp;done)|(simp;omega)|(simp_all;done)) rfl) .nil) (by show ([9] : List Nat).Nodup; decide) (by show ([0] : List Nat).Nodup; decide) ⟨.inl ⟨by decide, rfl⟩, ⟨_, rfl, ⟨rfl, rfl, rfl, rfl⟩, .same _ _ (ci_pu .i64) rfl⟩, trivial⟩ (.tup' .nil) ?_; simp only [EVT, stepR, evOp, St.ev, St.app, St.put, wrs, frz, TIS, CS, reduceAdd, reduceMul, reduceEqDiff, ↓reduceIte, reduceCtorEq, reduceLT, reduceLeDiff, reduceSub, Nat.reduceBEq])
  all_goals ((repeat' apply And.intro) <;> first|rfl|assumption|omega|(simp;done)|(simp;omega)|(simp_all;done))
 refine sA_n ?_
 refine a_seq ?_
 refine a_reg _ rfl (s := ?zs4) ?_ ?_
 rotate_left
 ·simp only [EVT, stepR, evOp, St.ev, St.app, St.put, wrs, TIS, CS, reduceAdd, reduceMul, reduceEqDiff, ↓reduceIte, reduceCtorEq, reduceLT, reduceLeDiff]
  (repeat' apply And.intro) <;> first|rfl|assumption|omega|(simp;done)|(simp;omega)|(simp_all;done)
 refine sA_n ?_
 refine a_ret ?_
 obtain rfl := Option.some.inj H
 refine eR_r ?_
 refine wk_ln 0 [(some 9, ⟨3, 1, false, r2.map (ci .i64)⟩)] [] [(2, .ref 0 0 r2.length 1)] (fun i h => absurd h (Nat.not_lt_zero i)) (by show ([2] : List Nat).Nodup; decide) (by show ([9] : List Nat).Nodup; decide) ?_ ?_ (fun t0 => ⟨by first | rfl | (simp only [EVT, resR, single, evLoad, cut, TIS, CS, reduceAdd, reduceEqDiff, ↓reduceIte, reduceCtorEq, reduceLT, reduceLeDiff, reduceSub, Nat.reduceBEq]; (repeat' apply And.intro) <;> first | rfl | (simp; done)), fun j B h => by rcases j with _ | _ <;> first | exact h | (exact absurd h (by simp [hh]))⟩)
 ·exact (allB_some (by rfl) rfl (.sm _ _ (ci_pu .i64)) trivial)
 ·(simp only [AllT, ATT, reduceEqDiff, ↓reduceIte, and_true]); exact (.refl' (by first|rfl|omega|(simp;done)|(simp;omega)|(simp_all;done)) rfl)
def lease_once_f (l1 : List Int) : Option (List Int) :=
 (slices_Values_f l1).bind fun r1 => (slices_Sorted_f r1).bind fun r2 => (slices_Compact_f r2).bind fun r3 => some (r3)
set_option maxHeartbeats 4000000 in
set_option maxRecDepth 20000 in
theorem lease_once_pc {l1 : List Int} {r : (List Int)} (H : lease_once_f l1 = some r) : PC Try.prog 62 [.list 1 (l1.map (ci .i64))] (.list 1 (r.map (ci .i64))) := by
 refine pcA_of Try.func62 (by rfl) (by decide) 9 (by rfl) [.tmp 2] (by rfl) ?_
 unfold lease_once_f at H
 simp only [ent]
 refine a_seq ?_
 refine a_reg _ rfl (s := ?zs1) ?_ ?_
 rotate_left
 ·simp only [EVT, stepR, evOp, St.ev, St.app, St.put, wrs, datOf, datOf1, TIS, CS, reduceAdd, reduceMul, reduceEqDiff, ↓reduceIte, reduceCtorEq, reduceLT, reduceLeDiff]
  (repeat' apply And.intro) <;> first|rfl|assumption|omega|(simp;done)|(simp;omega)|(simp_all;done)
 refine sA_n ?_
 refine a_seq ?_
 obtain ⟨r1, zh1, H⟩ := bind_some H
 have zk1 := slices_Values_pc zh1
 obtain ⟨r2, zh2, H⟩ := bind_some H
 have zk2 := slices_Sorted_rc zh2
 refine a_reg _ rfl (s := ?zs2) ?_ ?_
 rotate_left
 ·try simp only [EVT, stepR, evOp, St.ev, St.app, St.put, wrs, frz, TIS, CS, reduceAdd, reduceMul, reduceEqDiff, ↓reduceIte, reduceCtorEq, reduceLT, reduceLeDiff, reduceSub, Nat.reduceBEq]
  repeat' with_reducible apply And.intro
  all_goals try ((with_reducible show CallR _ _ _ _ _ _ _); refine cR_p zk1 (.cons (.lst _ _ _ (ci_pu .i64) rfl) .nil) ?_; simp only [EVT, stepR, evOp, St.ev, St.app, St.put, wrs, frz, TIS, CS, reduceAdd, reduceMul, reduceEqDiff, ↓reduceIte, reduceCtorEq, reduceLT, reduceLeDiff, reduceSub, Nat.reduceBEq])
  repeat' with_reducible apply And.intro
  all_goals try ((with_reducible show CallR _ _ _ _ _ _ _); refine callR_ownm (l := r2) (c := (ci .i64)) [] zk2 (ci_sc .i64) (.cons (.fn' .nil (.cons (.rop' (.cons (.lst _ _ _ (ci_pu .i64) rfl) .nil)) .nil)) .nil) ?_; simp only [EVT, stepR, evOp, St.ev, St.app, St.put, wrs, frz, TIS, CS, reduceAdd, reduceMul, reduceEqDiff, ↓reduceIte, reduceCtorEq, reduceLT, reduceLeDiff, reduceSub, Nat.reduceBEq])
  all_goals ((repeat' apply And.intro) <;> first|rfl|assumption|omega|(simp;done)|(simp;omega)|(simp_all;done))
 refine sA_n ?_
 refine a_seq ?_
 obtain ⟨r3, zh3, H⟩ := bind_some H
 have zk3 := slices_Compact_rc zh3
 refine a_reg _ rfl (s := ?zs3) ?_ ?_
 rotate_left
 ·try simp only [EVT, stepR, evOp, St.ev, St.app, St.put, wrs, frz, TIS, CS, reduceAdd, reduceMul, reduceEqDiff, ↓reduceIte, reduceCtorEq, reduceLT, reduceLeDiff, reduceSub, Nat.reduceBEq]
  repeat' with_reducible apply And.intro
  all_goals try ((with_reducible show CallR _ _ _ _ _ _ _); refine callR_rcw (r' := .list 1 (r3.map (ci .i64))) [(10, none)] [(some 10, ⟨3, 1, false, r2.map (ci .i64)⟩)] [] [] rfl zk3 (by simp) (by show ([10] : List Nat).Nodup; decide) (allB_some (by rfl) rfl (.sm _ _ (ci_pu .i64)) trivial) (.cons (.refl' (by first|rfl|omega|(simp;done)|(simp;omega)|(simp_all;done)) rfl) .nil) (by show ([] : List Nat).Nodup; decide) (by show ([] : List Nat).Nodup; decide) trivial (.lst _ _ _ (ci_pu .i64) rfl) ?_; simp only [EVT, stepR, evOp, St.ev, St.app, St.put, wrs, frz, TIS, CS, reduceAdd, reduceMul, reduceEqDiff, ↓reduceIte, reduceCtorEq, reduceLT, reduceLeDiff, reduceSub, Nat.reduceBEq])
  all_goals ((repeat' apply And.intro) <;> first|rfl|assumption|omega|(simp;done)|(simp;omega)|(simp_all;done))
 refine sA_n ?_
 refine a_ret ?_
 obtain rfl := Option.some.inj H
 refine e_r2 (d := ?zd1) ?_ ?_
 rotate_left
 ·simp only [EVT, resR, single, evLoad, cut, TIS, CS, reduceAdd, reduceEqDiff, ↓reduceIte, reduceCtorEq, reduceLT, reduceLeDiff, reduceSub, Nat.reduceBEq]
  (repeat' apply And.intro) <;> first | rfl | assumption | omega | (simp; done)
 exact (.lst _ _ _ (ci_pu .i64) rfl)
end
end Go.Proofs.Ytogickapcbibbaa
