/- Functions of the program as Lean functions, and that they are so; printed by a program of mine. -/
import Derived.Test.YtogickapcbibbaaF6
set_option linter.unusedSimpArgs false
set_option linter.unusedVariables false
namespace Go.Proofs.Ytogickapcbibbaa
open Go.Ab
open Nat (reduceAdd reduceMul reduceEqDiff reduceLT reduceLeDiff reduceSub)
noncomputable section

def top_TopRecalled_J6 (r1 : Bool) : Option Bool :=
 some (r1)
def top_TopRecalled_J7 (k_top_TopRecalled_L1 : Int → Option Bool) (i1 : Int) (v3 : Bool) : Option Bool :=
 cond v3 (some (false)) (k_top_TopRecalled_L1 (IntKind.wrap .i64 (i1 + 1)))
def top_TopRecalled_L1 (who1 : List Int) (kept2 : List (List Kept)) (n1 : Int) (other1 : Int) (r1 : Bool) : Nat → Int → Option Bool
 | 0, _ => none
 | m_ + 1, i1 => cond (decide (i1 < (((who1.length : Nat)) : Int))) ((idx who1 i1).bind fun x1 => (idx kept2 x1).bind fun x2 => (cache_GetPage_f x2 5 3 0).bind fun r4 => chk (n1 ≠ 0) ((cache_GetPage_f x2 6 3 (Int.tmod (IntKind.wrap .i64 other1) n1)).bind fun r5 => cond r4.2 (top_TopRecalled_J7 (top_TopRecalled_L1 who1 kept2 n1 other1 r1 m_) i1 true) (cond (!r5.2) (top_TopRecalled_J7 (top_TopRecalled_L1 who1 kept2 n1 other1 r1 m_) i1 true) ((ref02_Bytes_f r5.1 [(IntKind.wrap .u8 x1)]).bind fun r6 => top_TopRecalled_J7 (top_TopRecalled_L1 who1 kept2 n1 other1 r1 m_) i1 (!r6))))) (top_TopRecalled_J6 r1)
def top_TopRecalled_J5 (who1 : List Int) (kept2 : List (List Kept)) (n1 : Int) (other1 : Int) (r1 : Bool) (v2 : Bool) : Option Bool :=
 cond v2 (some (false)) (top_TopRecalled_L1 who1 kept2 n1 other1 r1 BIG 0)
def top_TopRecalled_J4 (at1 : Int) (n1 : Int) (who1 : List Int) (other1 : Int) (r1 : Bool) (kept2 : List (List Kept)) (m1 : List Lease) : Option Bool :=
 (top_askR14_f m1 at1 0 5 2 n1).bind fun r3 => cond (!r3.2.1) (top_TopRecalled_J5 who1 kept2 n1 other1 r1 true) (cond (decide (0 < (r3.2.2.length : Int))) (top_TopRecalled_J5 who1 kept2 n1 other1 r1 true) ((top_wholeR14_f).bind fun r7 => (lease_Has_f r3.1 0 5 2 r7).bind fun r8 => top_TopRecalled_J5 who1 kept2 n1 other1 r1 (!r8)))
def top_TopRecalled_L2 (who1 : List Int) (at1 : Int) (n1 : Int) (other1 : Int) (r1 : Bool) : Nat → (List (List Kept)) → (List Lease) → Int → Option Bool
 | 0, _, _, _ => none
 | m_ + 1, kept3, m2, i2 => cond (decide (i2 < (((who1.length : Nat)) : Int))) ((idx who1 i2).bind fun x3 => (idx kept3 x3).bind fun x4 => (cache_Forget_f x4 5).bind fun r9 => (lease_Back_f m2 x3 5).bind fun r10 => top_TopRecalled_L2 who1 at1 n1 other1 r1 m_ (kept3.set x3.toNat r9) r10 (IntKind.wrap .i64 (i2 + 1))) (top_TopRecalled_J4 at1 n1 who1 other1 r1 kept3 m2)
def top_TopRecalled_J3 (who1 : List Int) (at1 : Int) (n1 : Int) (other1 : Int) (r1 : Bool) (kept1 : List (List Kept)) (r2 : (List Lease) × Bool × (List Int)) (v1 : Bool) : Option Bool :=
 cond v1 (some (false)) (top_TopRecalled_L2 who1 at1 n1 other1 r1 BIG kept1 r2.1 0)
def top_TopRecalled_J2 (l1 : List Lease) (at1 : Int) (n1 : Int) (other1 : Int) (r1 : Bool) (kept1 : List (List Kept)) (who1 : List Int) : Option Bool :=
 (top_askR14_f l1 at1 0 5 2 n1).bind fun r2 => cond (!(r2.2.1 == ((((who1.length : Nat)) : Int) == 0))) (top_TopRecalled_J3 who1 at1 n1 other1 r1 kept1 r2 true) ((ref02_Ints_f r2.2.2 who1).bind fun r11 => top_TopRecalled_J3 who1 at1 n1 other1 r1 kept1 r2 (!r11))
def top_TopRecalled_J8 (k_top_TopRecalled_L3 : (List Int) → Int → Option Bool) (k1 : Int) (who3 : List Int) : Option Bool :=
 k_top_TopRecalled_L3 who3 (IntKind.wrap .i64 (k1 + 1))
def top_TopRecalled_L3 (kept1 : List (List Kept)) (l1 : List Lease) (at1 : Int) (n1 : Int) (other1 : Int) (r1 : Bool) : Nat → (List Int) → Int → Option Bool
 | 0, _, _ => none
 | m_ + 1, who2, k1 => cond (decide (k1 < 16)) ((idx kept1 k1).bind fun x5 => cond (decide (0 < (x5.length : Int))) (chk ((who2.length + 1) * 8 ≤ 140737488355328) (top_TopRecalled_J8 (top_TopRecalled_L3 kept1 l1 at1 n1 other1 r1 m_) k1 (who2 ++ [k1]))) (top_TopRecalled_J8 (top_TopRecalled_L3 kept1 l1 at1 n1 other1 r1 m_) k1 who2)) (top_TopRecalled_J2 l1 at1 n1 other1 r1 kept1 who2)
def top_TopRecalled_J1 (other1 : Int) (r1 : Bool) (n1 : Int) (at1 : Int) (l1 : List Lease) (kept1 : List (List Kept)) : Option Bool :=
 top_TopRecalled_L3 kept1 l1 at1 n1 other1 r1 BIG [] 1
def top_TopRecalled_L4 (clients1 : List Int) (other1 : Int) (r1 : Bool) : Nat → Int → Int → (List Lease) → (List (List Kept)) → Int → Option Bool
 | 0, _, _, _, _, _ => none
 | m_ + 1, n2, at2, l2, kept4, i3 => cond (decide (i3 < (clients1.length : Int))) ((idx clients1 i3).bind fun x6 => (top_askR14_f l2 at2 (IntKind.wrap .i64 (1 + (Int.tmod (IntKind.wrap .i64 x6) 15))) 5 1 n2).bind fun r12 => cond (!r12.2.1) (some (false)) ((cache_Page_f [] 5 3 [1, 2] n2).bind fun r13 => (cache_Page_f r13 6 3 [(IntKind.wrap .u8 (IntKind.wrap .i64 (1 + (Int.tmod (IntKind.wrap .i64 x6) 15))))] n2).bind fun r14 => (idx kept4 (IntKind.wrap .i64 (1 + (Int.tmod (IntKind.wrap .i64 x6) 15)))).bind fun x7 => top_TopRecalled_L4 clients1 other1 r1 m_ n2 at2 r12.1 (kept4.set ((IntKind.wrap .i64 (1 + (Int.tmod (IntKind.wrap .i64 x6) 15))).toNat) r14) (IntKind.wrap .i64 (i3 + 1)))) (top_TopRecalled_J1 other1 r1 n2 at2 l2 kept4)
def top_TopRecalled_f (clients1 : List Int) (now1 : Int) (long1 : Int) (other1 : Int) : Option Bool :=
 (top_head23_f).bind fun r1 => cond (decide (6 < (clients1.length : Int))) (some (r1)) (chk (0 ≤ 16 ∧ 16 = 16 ∧ 24 * 16 ≤ 281474976710656) (top_TopRecalled_L4 clients1 other1 r1 BIG (IntKind.wrap .i64 (1 + (Int.tmod (IntKind.wrap .i64 long1) 64))) (IntKind.wrap .i64 now1) [] (List.replicate 16 []) 0))
set_option maxHeartbeats 4000000 in
set_option maxRecDepth 20000 in
theorem top_TopRecalled_pc {clients1 : List Int} {now1 : Int} {long1 : Int} {other1 : Int} {r : Bool} (H : top_TopRecalled_f clients1 now1 long1 other1 = some r) : PC Try.prog 4 [.list 1 (clients1.map (ci .u8)), .int .u16 now1, .int .u8 long1, .int .u8 other1] (.bool r) := by
 refine pcA_of Try.func4 (by rfl) (by decide) 207 (by rfl) [.tmp 8] (by rfl) ?_
 unfold top_TopRecalled_f at H
 simp only [ent]
 refine a_seq ?_
 refine a_reg _ rfl (s := ?zs1) ?_ ?_
 rotate_left
 ·simp only [EVT, stepR, evOp, St.ev, St.app, St.put, wrs, datOf, datOf1, TIS, CS, reduceAdd, reduceMul, reduceEqDiff, ↓reduceIte, reduceCtorEq, reduceLT, reduceLeDiff]
  (repeat' apply And.intro) <;> first|rfl|assumption|omega|(simp;done)|(simp;omega)|(simp_all;done)
 refine sA_n ?_
 refine a_seq ?_
 obtain ⟨r1, zh1, H⟩ := bind_some H
 have zk1 := top_head23_pc zh1
 refine a_reg _ rfl (s := ?zs2) ?_ ?_
 rotate_left
 ·try simp only [EVT, stepR, evOp, St.ev, St.app, St.put, wrs, frz, TIS, CS, reduceAdd, reduceMul, reduceEqDiff, ↓reduceIte, reduceCtorEq, reduceLT, reduceLeDiff, reduceSub, Nat.reduceBEq]
  repeat' with_reducible apply And.intro
  all_goals try ((with_reducible show CallR _ _ _ _ _ _ _); refine cR_s zk1 .nil (.bool _) ?_; simp only [EVT, stepR, evOp, St.ev, St.app, St.put, wrs, frz, TIS, CS, reduceAdd, reduceMul, reduceEqDiff, ↓reduceIte, reduceCtorEq, reduceLT, reduceLeDiff, reduceSub, Nat.reduceBEq])
  all_goals ((repeat' apply And.intro) <;> first|rfl|assumption|omega|(simp;done)|(simp;omega)|(simp_all;done))
 refine sA_n ?_
 refine a_seq ?_
 refine a_seq ?_
 refine a_reg _ rfl (s := ?zs3) ?_ ?_
 rotate_left
 ·simp only [EVT, stepR, evOp, St.ev, St.app, St.put, wrs, evBuiltin, datOf, datOf1, evBin, binInt, TIS, CS, reduceAdd, reduceMul, reduceEqDiff, ↓reduceIte, reduceCtorEq, reduceLT, reduceLeDiff, reduceSub, Nat.reduceBEq]
  (repeat' apply And.intro) <;> first|rfl|assumption|omega|(simp;done)|(simp;omega)|(simp_all;done)
 refine sA_n ?_
 refine a_condb ((decide (6 < (clients1.length : Int)))) (by rfl) (fun zc1 => ?_) (fun zc1 => ?_)
 ·have H := cond_t zc1 H
  refine a_seq ?_
  refine a_reg _ rfl (s := ?zs4) ?_ ?_
  rotate_left
  ·simp only [EVT, stepR, evOp, St.ev, St.app, St.put, wrs, TIS, CS, reduceAdd, reduceMul, reduceEqDiff, ↓reduceIte, reduceCtorEq, reduceLT, reduceLeDiff, ↓zc1]
   (repeat' apply And.intro) <;> first|rfl|assumption|omega|(simp;done)|(simp;omega)|(simp_all;done)
  refine sA_n ?_
  refine a_ret ?_
  refine sA_r ?_
  obtain rfl := Option.some.inj H
  refine e_r2 (d := ?zd1) ?_ ?_
  rotate_left
  ·simp only [EVT, resR, single, evLoad, cut, TIS, CS, reduceAdd, reduceEqDiff, ↓reduceIte, reduceCtorEq, reduceLT, reduceLeDiff, reduceSub, Nat.reduceBEq, zc1]
   (repeat' apply And.intro) <;> first | rfl | assumption | omega | (simp; done)
  exact (.bool' rfl)
 ·have H := cond_f zc1 H
  refine a_skip ?_
  refine sA_n ?_
  refine a_seq ?_
  refine a_reg _ rfl (s := ?zs5) ?_ ?_
  rotate_left
  ·simp only [EVT, stepR, evOp, St.ev, St.app, St.put, wrs, evToStr, elems, datOf, datOf1, evBin, binInt, TIS, CS, reduceAdd, reduceMul, reduceEqDiff, ↓reduceIte, reduceCtorEq, reduceLT, reduceLeDiff, ↓zc1]
   (repeat' apply And.intro) <;> first|rfl|assumption|omega|(simp;done)|(simp;omega)|(simp_all;done)
  refine sA_n ?_
  refine a_seq ?_
  refine a_reg _ rfl (s := ?zs6) ?_ ?_
  rotate_left
  ·simp only [EVT, stepR, evOp, St.ev, St.app, St.put, wrs, evToStr, elems, TIS, CS, reduceAdd, reduceMul, reduceEqDiff, ↓reduceIte, reduceCtorEq, reduceLT, reduceLeDiff, ↓zc1]
   (repeat' apply And.intro) <;> first|rfl|assumption|omega|(simp;done)|(simp;omega)|(simp_all;done)
  refine sA_n ?_
  refine a_seq ?_
  refine a_reg _ rfl (s := ?zs7) ?_ ?_
  rotate_left
  ·simp only [EVT, stepR, evOp, St.ev, St.app, St.put, wrs, datOf, datOf1, TIS, CS, reduceAdd, reduceMul, reduceEqDiff, ↓reduceIte, reduceCtorEq, reduceLT, reduceLeDiff, ↓zc1]
   (repeat' apply And.intro) <;> first|rfl|assumption|omega|(simp;done)|(simp;omega)|(simp_all;done)
  refine sA_n ?_
  refine a_seq ?_
  refine a_reg _ rfl (s := ?zs8) ?_ ?_
  rotate_left
  ·simp only [EVT, stepR, evOp, St.ev, St.app, St.put, wrs, datOf, datOf1, TIS, CS, reduceAdd, reduceMul, reduceEqDiff, ↓reduceIte, reduceCtorEq, reduceLT, reduceLeDiff, ↓zc1]
   (repeat' apply And.intro) <;> first|rfl|assumption|omega|(simp;done)|(simp;omega)|(simp_all;done)
  refine sA_n ?_
  refine a_seq ?_
  obtain ⟨zh2, H⟩ := chk_some H
  refine a_reg _ rfl (s := ?zs9) ?_ ?_
  rotate_left
  ·simp only [EVT, stepR, evOp, St.ev, St.app, St.put, wrs, datOf, datOf1, allOne, TIS, CS, reduceAdd, reduceMul, reduceEqDiff, ↓reduceIte, reduceCtorEq, reduceLT, reduceLeDiff, Int.reduceToNat, reduceSub, ↓zc1]
   (repeat' apply And.intro) <;> first|rfl|assumption|omega|(simp;done)|(simp;omega)|(simp_all;done)
  refine sA_n ?_
  refine a_cut (fun s => ∃ (n1 : Int) (at1 : Int) (l1 : List Lease) (kept1 : List (List Kept)) (t0 : Nat → Dat), top_TopRecalled_J1 other1 r1 n1 at1 l1 kept1 = some r ∧ s = ⟨tl t0 [(3, .int .u8 other1), (9, .bool r1), (10, .int .i64 n1), (11, .int .i64 at1), (12, .list 7 (l1.map Lease.c)), (13, .nil), (14, .ref 0 0 kept1.length 1)], hl [⟨30, 1, false, kept1.map (cl 6 Kept.c)⟩], 1, 207⟩) ?_ ?_
  ·refine a_seq ?_
   refine a_reg _ rfl (s := ?zs39) ?_ ?_
   rotate_left
   ·simp only [EVT, stepR, evOp, St.ev, St.app, St.put, wrs, datOf, datOf1, TIS, CS, reduceAdd, reduceMul, reduceEqDiff, ↓reduceIte, reduceCtorEq, reduceLT, reduceLeDiff, ↓zc1]
    (repeat' apply And.intro) <;> first|rfl|assumption|omega|(simp;done)|(simp;omega)|(simp_all;done)
   refine sA_n ?_
   refine a_blk ?_
   refine a_loop (fun m s => ∃ (n2 : Int) (at2 : Int) (l2 : List Lease) (kept4 : List (List Kept)) (i3 : Int) (t0 : Nat → Dat), top_TopRecalled_L4 clients1 other1 r1 m n2 at2 l2 kept4 i3 = some r ∧ s = ⟨tl t0 [(0, .list 1 (clients1.map (ci .u8))), (3, .int .u8 other1), (9, .bool r1), (10, .int .i64 n2), (11, .int .i64 at2), (12, .list 7 (l2.map Lease.c)), (13, .nil), (14, .ref 0 0 kept4.length 1), (15, .int .i64 i3)], hl [⟨30, 1, false, kept4.map (cl 6 Kept.c)⟩], 1, 207⟩) BIG ?_ ?_
   ·refine wk_l [(some 128, ⟨30, 1, false, (List.replicate 16 []).map (cl 6 Kept.c)⟩)] [] [(0, .list 1 (clients1.map (ci .u8))), (3, .int .u8 other1), (9, .bool r1), (10, .int .i64 (IntKind.wrap .i64 (1 + (Int.tmod (IntKind.wrap .i64 long1) 64)))), (11, .int .i64 (IntKind.wrap .i64 now1)), (12, .list 7 ([].map Lease.c)), (13, .nil), (14, .ref 0 0 (List.replicate 16 []).length 1), (15, .int .i64 0)] (by show ([0, 3, 9, 10, 11, 12, 13, 14, 15] : List Nat).Nodup; decide) (by show ([128] : List Nat).Nodup; decide) ?_ ?_ (fun t0 => ⟨(IntKind.wrap .i64 (1 + (Int.tmod (IntKind.wrap .i64 long1) 64))), (IntKind.wrap .i64 now1), [], (List.replicate 16 []), 0, t0, H, rfl⟩)
    ·exact (allB_some (by rfl) rfl (by (simp only [MPT, List.map_replicate, CS, List.nil_append]); repeat' (first | exact RNL.nil | exact RNs.nil | exact RNL.repl _ _ | exact .int' rfl | exact .bool' rfl | exact .str' rfl | exact .nil _ | exact .lst _ _ _ (by first | exact ci_pu _ | exact cb_pu | exact cs_pu | exact Span.pu | exact Lease.pu | exact Kept.pu | exact PlaceR14.pu | exact ActR14.pu | exact Edge.pu | exact cl_pu (by first | exact ci_pu _ | exact cb_pu | exact cs_pu | exact Span.pu | exact Lease.pu | exact Kept.pu | exact PlaceR14.pu | exact ActR14.pu | exact Edge.pu | exact cl_pu (ci_pu _))) rfl | exact RNL.same _ _ (by first | exact ci_pu _ | exact cb_pu | exact cs_pu | exact Span.pu | exact Lease.pu | exact Kept.pu | exact PlaceR14.pu | exact ActR14.pu | exact Edge.pu | exact cl_pu (by first | exact ci_pu _ | exact cb_pu | exact cs_pu | exact Span.pu | exact Lease.pu | exact Kept.pu | exact PlaceR14.pu | exact ActR14.pu | exact Edge.pu | exact cl_pu (ci_pu _))) (by first | rfl | (simp only [List.map_append, List.map_cons, List.map_nil, List.map_set, List.map_take, List.map_drop, List.map_replicate, List.append_assoc, List.nil_append, List.append_nil]; rfl)) | (refine RNs.cons ?_ ?_) | (refine RNL.cons ?_ ?_) | (refine RNL.set ?_ ?_) | (refine .frz' (by first | rfl | exact (e _ (by simp)).trans (by rfl)) (by simp) rfl (by first|rfl|omega|(simp;done)|(simp;omega)|(simp_all;done)) ?_) | exact .refl' (by first|rfl|omega|(simp;done)|(simp;omega)|(simp_all;done)) rfl | (refine RNL.app ?_ ?_))) trivial)
    ·(simp only [AllT, ATT, reduceEqDiff, ↓reduceIte, and_true]); exact ⟨(.lst _ _ _ (ci_pu .u8) rfl), (.int' rfl), (.bool' rfl), (.int' rfl), (.int' rfl), (.nil _), .nil', (.refl' (by first|rfl|omega|(simp;done)|(simp;omega)|(simp_all;done)) rfl), (.int' rfl)⟩
   ·rintro m_top_TopRecalled_L4 s ⟨n2, at2, l2, kept4, i3, t0, H, rfl⟩
    obtain _ | m_top_TopRecalled_L4 := m_top_TopRecalled_L4
    ·cases (show (none : Option _) = some _ from H)
    ·rw [top_TopRecalled_L4] at H
     refine a_seq ?_
     refine a_seq ?_
     refine a_reg _ rfl (s := ?zs40) ?_ ?_
     rotate_left
     ·simp only [EVT, stepR, evOp, St.ev, St.app, St.put, wrs, evBuiltin, evBin, binInt, TIS, CS, reduceAdd, reduceMul, reduceEqDiff, ↓reduceIte, reduceCtorEq, reduceLT, reduceLeDiff, reduceSub, Nat.reduceBEq]
      (repeat' apply And.intro) <;> first|rfl|assumption|omega|(simp;done)|(simp;omega)|(simp_all;done)
     refine sA_n ?_
     refine a_condb ((decide (i3 < (clients1.length : Int)))) (by rfl) (fun zc14 => ?_) (fun zc14 => ?_)
     ·have H := cond_t zc14 H
      refine a_skip ?_
      refine sA_n ?_
      refine a_seq ?_
      refine a_blk ?_
      refine a_seq ?_
      obtain ⟨x6, zh20, H⟩ := bind_some H
      have zg6 := idx_map zh20 (ci .u8)
      try simp only [Int.reduceToNat, Int.toNat_natCast] at zg6
      obtain ⟨zh20a, zh20b, _⟩ := idx_some zh20
      refine a_reg _ rfl (s := ?zs41) ?_ ?_
      rotate_left
      ·simp only [EVT, stepR, evOp, St.ev, St.app, St.put, wrs, evIndexAddr, evLoad, cut, evToStr, elems, datOf, datOf1, evBin, binInt, TIS, CS, reduceAdd, reduceMul, reduceEqDiff, ↓reduceIte, reduceCtorEq, reduceLT, reduceLeDiff, Int.reduceToNat, reduceSub, Nat.reduceBEq, ↓zc14, zg6]
       (repeat' apply And.intro) <;> first|rfl|assumption|omega|(simp;done)|(simp;omega)|(simp_all;done)
      refine sA_n ?_
      refine a_seq ?_
      obtain ⟨r12, zh21, H⟩ := bind_some H
      have zk12 := top_askR14_pc zh21
      refine a_reg _ rfl (s := ?zs42) ?_ ?_
      rotate_left
      ·try simp only [EVT, stepR, evOp, St.ev, St.app, St.put, wrs, datOf, datOf1, frz, TIS, CS, reduceAdd, reduceMul, reduceEqDiff, ↓reduceIte, reduceCtorEq, reduceLT, reduceLeDiff, reduceSub, Nat.reduceBEq, ↓zc14, zg6]
       repeat' with_reducible apply And.intro
       all_goals try ((with_reducible show CallR _ _ _ _ _ _ _); refine cR_p zk12 (.cons (.lst _ _ _ Lease.pu rfl) (.cons (.int' rfl) (.cons (.int' rfl) (.cons (.int' rfl) (.cons (.int' rfl) (.cons (.int' rfl) .nil)))))) ?_; simp only [EVT, stepR, evOp, St.ev, St.app, St.put, wrs, datOf, datOf1, frz, TIS, CS, reduceAdd, reduceMul, reduceEqDiff, ↓reduceIte, reduceCtorEq, reduceLT, reduceLeDiff, reduceSub, Nat.reduceBEq, ↓zc14, zg6])
       all_goals ((repeat' apply And.intro) <;> first|rfl|assumption|omega|(simp;done)|(simp;omega)|(simp_all;done))
      refine sA_n ?_
      refine a_seq ?_
      refine a_seq ?_
      refine a_reg _ rfl (s := ?zs43) ?_ ?_
      rotate_left
      ·simp only [EVT, stepR, evOp, St.ev, St.app, St.put, wrs, evUn, TIS, CS, reduceAdd, reduceMul, reduceEqDiff, ↓reduceIte, reduceCtorEq, reduceLT, reduceLeDiff, ↓zc14, zg6]
       (repeat' apply And.intro) <;> first|rfl|assumption|omega|(simp;done)|(simp;omega)|(simp_all;done)
      refine sA_n ?_
      refine a_condb ((!r12.2.1)) (by rfl) (fun zc15 => ?_) (fun zc15 => ?_)
      ·have H := cond_t zc15 H
       refine a_seq ?_
       refine a_reg _ rfl (s := ?zs44) ?_ ?_
       rotate_left
       ·simp only [EVT, stepR, evOp, St.ev, St.app, St.put, wrs, datOf, datOf1, TIS, CS, reduceAdd, reduceMul, reduceEqDiff, ↓reduceIte, reduceCtorEq, reduceLT, reduceLeDiff, ↓zc14, zg6, ↓zc15]
        (repeat' apply And.intro) <;> first|rfl|assumption|omega|(simp;done)|(simp;omega)|(simp_all;done)
       refine sA_n ?_
       refine a_ret ?_
       refine sA_r ?_
       refine bA_r ?_
       refine sA_r ?_
       refine lA_r ?_
       refine bA_r ?_
       refine cA_r ?_
       obtain rfl := Option.some.inj H
       refine e_r2 (d := ?zd6) ?_ ?_
       rotate_left
       ·simp only [EVT, resR, single, evLoad, cut, TIS, CS, reduceAdd, reduceEqDiff, ↓reduceIte, reduceCtorEq, reduceLT, reduceLeDiff, reduceSub, Nat.reduceBEq, zc14, zg6, zc15]
        (repeat' apply And.intro) <;> first | rfl | assumption | omega | (simp; done)
       exact (.bool' (by first | rfl | assumption | (simp_all; done)))
      ·have H := cond_f zc15 H
       refine a_skip ?_
       refine sA_n ?_
       refine a_seq ?_
       refine a_reg _ rfl (s := ?zs45) ?_ ?_
       rotate_left
       ·simp only [EVT, stepR, evOp, St.ev, St.app, St.put, wrs, TIS, CS, reduceAdd, reduceMul, reduceEqDiff, ↓reduceIte, reduceCtorEq, reduceLT, reduceLeDiff, ↓zc14, zg6, ↓zc15]
        (repeat' apply And.intro) <;> first|rfl|assumption|omega|(simp;done)|(simp;omega)|(simp_all;done)
       refine sA_n ?_
       obtain ⟨r13, zh22, H⟩ := bind_some H
       have zk13 := cache_Page_pc zh22
       obtain ⟨r14, zh23, H⟩ := bind_some H
       have zk14 := cache_Page_pc zh23
       obtain ⟨x7, zh24, H⟩ := bind_some H
       have zg7 := idx_map zh24 (cl 6 Kept.c)
       try simp only [Int.reduceToNat, Int.toNat_natCast] at zg7
       obtain ⟨zh24a, zh24b, _⟩ := idx_some zh24
       refine a_reg _ rfl (s := ?zs46) ?_ ?_
       rotate_left
       ·try simp only [EVT, stepR, evOp, St.ev, St.app, St.put, wrs, datOf, datOf1, allOne, frz, evToStr, elems, evIndexAddr, evStore, setR, TIS, CS, reduceAdd, reduceMul, reduceEqDiff, ↓reduceIte, reduceCtorEq, reduceLT, reduceLeDiff, Int.reduceToNat, reduceSub, Nat.reduceBEq, ↓zc14, zg6, ↓zc15, zg7]
        repeat' with_reducible apply And.intro
        all_goals try ((with_reducible show CallR _ _ _ _ _ _ _); refine cR_f [227] zk13 (.cons (.nil _) (.cons (.int' rfl) (.cons (.int' rfl) (.cons (.ownL ((wrs_frz _ _ _ 227).trans (by rfl)) (fun _ => rfl) rfl (by first|rfl|omega|(simp;done)|(simp;omega)|(simp_all;done)) (.sm _ _ (ci_pu .u8))) (.cons (.int' rfl) .nil))))) ?_; simp only [EVT, stepR, evOp, St.ev, St.app, St.put, wrs, datOf, datOf1, allOne, frz, evToStr, elems, evIndexAddr, evStore, setR, TIS, CS, reduceAdd, reduceMul, reduceEqDiff, ↓reduceIte, reduceCtorEq, reduceLT, reduceLeDiff, Int.reduceToNat, reduceSub, Nat.reduceBEq, ↓zc14, zg6, ↓zc15, zg7])
        repeat' with_reducible apply And.intro
        all_goals try ((with_reducible show CallR _ _ _ _ _ _ _); refine cR_f [232] zk14 (.cons (.lst _ _ _ Kept.pu rfl) (.cons (.int' rfl) (.cons (.int' rfl) (.cons (.ownL ((wrs_frz _ _ _ 232).trans (by rfl)) (fun _ => rfl) rfl (by first|rfl|omega|(simp;done)|(simp;omega)|(simp_all;done)) (.sm _ _ (ci_pu .u8))) (.cons (.int' rfl) .nil))))) ?_; simp only [EVT, stepR, evOp, St.ev, St.app, St.put, wrs, datOf, datOf1, allOne, frz, evToStr, elems, evIndexAddr, evStore, setR, TIS, CS, reduceAdd, reduceMul, reduceEqDiff, ↓reduceIte, reduceCtorEq, reduceLT, reduceLeDiff, Int.reduceToNat, reduceSub, Nat.reduceBEq, ↓zc14, zg6, ↓zc15, zg7])
        all_goals ((repeat' apply And.intro) <;> first|rfl|assumption|omega|(simp;done)|(simp;omega)|(simp_all;done))
       refine bA_n ?_
       refine sA_n ?_
       refine a_reg _ rfl (s := ?zs47) ?_ ?_
       rotate_left
       ·simp only [EVT, stepR, evOp, St.ev, St.app, St.put, wrs, datOf, datOf1, evBin, binInt, TIS, CS, reduceAdd, reduceMul, reduceEqDiff, ↓reduceIte, reduceCtorEq, reduceLT, reduceLeDiff, ↓zc14, zg6, ↓zc15, zg7]
        (repeat' apply And.intro) <;> first|rfl|assumption|omega|(simp;done)|(simp;omega)|(simp_all;done)
       refine lA_n ?_
       refine wk_l [(some 0, ⟨30, 1, false, (kept4.set ((IntKind.wrap .i64 (1 + (Int.tmod (IntKind.wrap .i64 x6) 15))).toNat) r14).map (cl 6 Kept.c)⟩)] [] [(0, .list 1 (clients1.map (ci .u8))), (3, .int .u8 other1), (9, .bool r1), (10, .int .i64 n2), (11, .int .i64 at2), (12, .list 7 (r12.1.map Lease.c)), (13, .nil), (14, .ref 0 0 (kept4.set ((IntKind.wrap .i64 (1 + (Int.tmod (IntKind.wrap .i64 x6) 15))).toNat) r14).length 1), (15, .int .i64 (IntKind.wrap .i64 (i3 + 1)))] (by show ([0, 3, 9, 10, 11, 12, 13, 14, 15] : List Nat).Nodup; decide) (by show ([0] : List Nat).Nodup; decide) ?_ ?_ (fun t0 => ⟨_, Nat.lt_succ_self _, n2, at2, r12.1, (kept4.set ((IntKind.wrap .i64 (1 + (Int.tmod (IntKind.wrap .i64 x6) 15))).toNat) r14), (IntKind.wrap .i64 (i3 + 1)), t0, H, rfl⟩)
       ·exact (allB_some (by rfl) rfl (.sm _ _ (cl_pu Kept.pu)) trivial)
       ·(simp only [AllT, ATT, reduceEqDiff, ↓reduceIte, and_true]); exact ⟨(.lst _ _ _ (ci_pu .u8) rfl), (.int' rfl), (.bool' rfl), (.int' rfl), (.int' rfl), (.lst _ _ _ Lease.pu rfl), .nil', (.refl' (by first|rfl|omega|(simp;done)|(simp;omega)|(simp_all;done)) rfl), (.int' rfl)⟩
     ·have H := cond_f zc14 H
      refine a_exit ?_
      refine sA_e ?_
      refine lA_e ?_
      refine bA_hit ?_
      refine cA_n ?_
      refine wk_l [(some 0, ⟨30, 1, false, kept4.map (cl 6 Kept.c)⟩)] [] [(3, .int .u8 other1), (9, .bool r1), (10, .int .i64 n2), (11, .int .i64 at2), (12, .list 7 (l2.map Lease.c)), (13, .nil), (14, .ref 0 0 kept4.length 1)] (by show ([3, 9, 10, 11, 12, 13, 14] : List Nat).Nodup; decide) (by show ([0] : List Nat).Nodup; decide) ?_ ?_ (fun t0 => ⟨n2, at2, l2, kept4, t0, H, rfl⟩)
      ·exact (allB_some (by rfl) rfl (.sm _ _ (cl_pu Kept.pu)) trivial)
      ·(simp only [AllT, ATT, reduceEqDiff, ↓reduceIte, and_true]); exact ⟨(.int' rfl), (.bool' rfl), (.int' rfl), (.int' rfl), (.lst _ _ _ Lease.pu rfl), .nil', (.refl' (by first|rfl|omega|(simp;done)|(simp;omega)|(simp_all;done)) rfl)⟩
  ·rintro s ⟨n1, at1, l1, kept1, t0, H, rfl⟩
   unfold top_TopRecalled_J1 at H
   refine a_cut (fun s => ∃ (who1 : List Int) (t0 : Nat → Dat), top_TopRecalled_J2 l1 at1 n1 other1 r1 kept1 who1 = some r ∧ s = ⟨tl t0 [(3, .int .u8 other1), (9, .bool r1), (10, .int .i64 n1), (11, .int .i64 at1), (12, .list 7 (l1.map Lease.c)), (13, .ref 0 0 who1.length 1), (14, .ref 1 0 kept1.length 1)], hl [⟨3, 1, false, who1.map (ci .i64)⟩, ⟨30, 1, false, kept1.map (cl 6 Kept.c)⟩], 2, 207⟩) ?_ ?_
   ·refine a_seq ?_
    refine a_reg _ rfl (s := ?zs34) ?_ ?_
    rotate_left
    ·simp only [EVT, stepR, evOp, St.ev, St.app, St.put, wrs, datOf, datOf1, TIS, CS, reduceAdd, reduceMul, reduceEqDiff, ↓reduceIte, reduceCtorEq, reduceLT, reduceLeDiff]
     (repeat' apply And.intro) <;> first|rfl|assumption|omega|(simp;done)|(simp;omega)|(simp_all;done)
    refine sA_n ?_
    refine a_blk ?_
    refine a_loop (fun m s => ∃ (who2 : List Int) (k1 : Int) (t0 : Nat → Dat), top_TopRecalled_L3 kept1 l1 at1 n1 other1 r1 m who2 k1 = some r ∧ s = ⟨tl t0 [(3, .int .u8 other1), (9, .bool r1), (10, .int .i64 n1), (11, .int .i64 at1), (12, .list 7 (l1.map Lease.c)), (13, .ref 0 0 who2.length 1), (14, .ref 1 0 kept1.length 1), (20, .int .i64 k1)], hl [⟨3, 1, false, who2.map (ci .i64)⟩, ⟨30, 1, false, kept1.map (cl 6 Kept.c)⟩], 2, 207⟩) BIG ?_ ?_
    ·refine wk_l [(none, ⟨3, 1, false, [].map (ci .i64)⟩), (some 0, ⟨30, 1, false, kept1.map (cl 6 Kept.c)⟩)] [] [(3, .int .u8 other1), (9, .bool r1), (10, .int .i64 n1), (11, .int .i64 at1), (12, .list 7 (l1.map Lease.c)), (13, .ref 0 0 [].length 1), (14, .ref 1 0 kept1.length 1), (20, .int .i64 1)] (by show ([3, 9, 10, 11, 12, 13, 14, 20] : List Nat).Nodup; decide) (by show ([0] : List Nat).Nodup; decide) ?_ ?_ (fun t0 => ⟨[], 1, t0, H, rfl⟩)
     ·exact (allB_none rfl (allB_some (by rfl) rfl (.sm _ _ (cl_pu Kept.pu)) trivial))
     ·(simp only [AllT, ATT, reduceEqDiff, ↓reduceIte, and_true]); exact ⟨(.int' rfl), (.bool' rfl), (.int' rfl), (.int' rfl), (.lst _ _ _ Lease.pu rfl), (.nilv _ _ rfl rfl), (.refl' (by first|rfl|omega|(simp;done)|(simp;omega)|(simp_all;done)) rfl), (.int' rfl)⟩
    ·rintro m_top_TopRecalled_L3 s ⟨who2, k1, t0, H, rfl⟩
     obtain _ | m_top_TopRecalled_L3 := m_top_TopRecalled_L3
     ·cases (show (none : Option _) = some _ from H)
     ·rw [top_TopRecalled_L3] at H
      refine a_seq ?_
      refine a_seq ?_
      refine a_reg _ rfl (s := ?zs35) ?_ ?_
      rotate_left
      ·simp only [EVT, stepR, evOp, St.ev, St.app, St.put, wrs, datOf, datOf1, evBin, binInt, TIS, CS, reduceAdd, reduceMul, reduceEqDiff, ↓reduceIte, reduceCtorEq, reduceLT, reduceLeDiff]
       (repeat' apply And.intro) <;> first|rfl|assumption|omega|(simp;done)|(simp;omega)|(simp_all;done)
      refine sA_n ?_
      refine a_condb ((decide (k1 < 16))) (by rfl) (fun zc12 => ?_) (fun zc12 => ?_)
      ·have H := cond_t zc12 H
       refine a_skip ?_
       refine sA_n ?_
       refine a_cut (fun s => ∃ (who3 : List Int) (t0 : Nat → Dat), top_TopRecalled_J8 (top_TopRecalled_L3 kept1 l1 at1 n1 other1 r1 m_top_TopRecalled_L3) k1 who3 = some r ∧ s = ⟨tl t0 [(3, .int .u8 other1), (9, .bool r1), (10, .int .i64 n1), (11, .int .i64 at1), (12, .list 7 (l1.map Lease.c)), (13, .ref 0 0 who3.length 1), (14, .ref 1 0 kept1.length 1), (20, .int .i64 k1)], hl [⟨3, 1, false, who3.map (ci .i64)⟩, ⟨30, 1, false, kept1.map (cl 6 Kept.c)⟩], 2, 207⟩) ?_ ?_
       ·refine a_blk ?_
        refine a_seq ?_
        obtain ⟨x5, zh18, H⟩ := bind_some H
        have zg5 := idx_map zh18 (cl 6 Kept.c)
        try simp only [Int.reduceToNat, Int.toNat_natCast] at zg5
        obtain ⟨zh18a, zh18b, _⟩ := idx_some zh18
        refine a_reg _ rfl (s := ?zs37) ?_ ?_
        rotate_left
        ·simp only [EVT, stepR, evOp, St.ev, St.app, St.put, wrs, evIndexAddr, evLoad, cut, evBuiltin, datOf, datOf1, evBin, binInt, TIS, CS, reduceAdd, reduceMul, reduceEqDiff, ↓reduceIte, reduceCtorEq, reduceLT, reduceLeDiff, Int.reduceToNat, reduceSub, Nat.reduceBEq, ↓zc12, zg5]
         (repeat' apply And.intro) <;> first|rfl|assumption|omega|(simp;done)|(simp;omega)|(simp_all;done)
        refine sA_n ?_
        refine a_condb ((decide (0 < (x5.length : Int)))) (by rfl) (fun zc13 => ?_) (fun zc13 => ?_)
        ·have H := cond_t zc13 H
         obtain ⟨zh19, H⟩ := chk_some H
         refine a_reg _ rfl (s := ?zs38) ?_ ?_
         rotate_left
         ·simp only [EVT, stepR, evOp, St.ev, St.app, St.put, wrs, allOne, evBuiltin, evAppend, isAl, elems, Option.elim, TIS, CS, reduceAdd, reduceMul, reduceEqDiff, ↓reduceIte, reduceCtorEq, reduceLT, reduceLeDiff, reduceSub, Nat.reduceBEq, ↓zc12, zg5, ↓zc13]
          (repeat' apply And.intro) <;> first|rfl|assumption|omega|(simp;done)|(simp;omega)|(simp_all;done)
         refine bA_n ?_
         refine cA_n ?_
         refine wk_l [(some 69, ⟨3, 1, false, (who2 ++ [k1]).map (ci .i64)⟩), (some 1, ⟨30, 1, false, kept1.map (cl 6 Kept.c)⟩)] [] [(3, .int .u8 other1), (9, .bool r1), (10, .int .i64 n1), (11, .int .i64 at1), (12, .list 7 (l1.map Lease.c)), (13, .ref 0 0 (who2 ++ [k1]).length 1), (14, .ref 1 0 kept1.length 1), (20, .int .i64 k1)] (by show ([3, 9, 10, 11, 12, 13, 14, 20] : List Nat).Nodup; decide) (by show ([69, 1] : List Nat).Nodup; decide) ?_ ?_ (fun t0 => ⟨(who2 ++ [k1]), t0, H, rfl⟩)
         ·exact (allB_some (by rfl) rfl (.sm _ _ (ci_pu .i64)) (allB_some (by rfl) rfl (.sm _ _ (cl_pu Kept.pu)) trivial))
         ·(simp only [AllT, ATT, reduceEqDiff, ↓reduceIte, and_true]); exact ⟨(.int' rfl), (.bool' rfl), (.int' rfl), (.int' rfl), (.lst _ _ _ Lease.pu rfl), (.refl' (by first|rfl|omega|(simp;done)|(simp;omega)|(simp_all;done)) rfl), (.refl' (by first|rfl|omega|(simp;done)|(simp;omega)|(simp_all;done)) rfl), (.int' rfl)⟩
        ·have H := cond_f zc13 H
         refine a_skip ?_
         refine bA_n ?_
         refine cA_n ?_
         refine wk_l [(some 0, ⟨3, 1, false, who2.map (ci .i64)⟩), (some 1, ⟨30, 1, false, kept1.map (cl 6 Kept.c)⟩)] [] [(3, .int .u8 other1), (9, .bool r1), (10, .int .i64 n1), (11, .int .i64 at1), (12, .list 7 (l1.map Lease.c)), (13, .ref 0 0 who2.length 1), (14, .ref 1 0 kept1.length 1), (20, .int .i64 k1)] (by show ([3, 9, 10, 11, 12, 13, 14, 20] : List Nat).Nodup; decide) (by show ([0, 1] : List Nat).Nodup; decide) ?_ ?_ (fun t0 => ⟨who2, t0, H, rfl⟩)
         ·exact (allB_some (by rfl) rfl (.sm _ _ (ci_pu .i64)) (allB_some (by rfl) rfl (.sm _ _ (cl_pu Kept.pu)) trivial))
         ·(simp only [AllT, ATT, reduceEqDiff, ↓reduceIte, and_true]); exact ⟨(.int' rfl), (.bool' rfl), (.int' rfl), (.int' rfl), (.lst _ _ _ Lease.pu rfl), (.refl' (by first|rfl|omega|(simp;done)|(simp;omega)|(simp_all;done)) rfl), (.refl' (by first|rfl|omega|(simp;done)|(simp;omega)|(simp_all;done)) rfl), (.int' rfl)⟩
       ·rintro s ⟨who3, t0, H, rfl⟩
        unfold top_TopRecalled_J8 at H
        refine a_reg _ rfl (s := ?zs36) ?_ ?_
        rotate_left
        ·simp only [EVT, stepR, evOp, St.ev, St.app, St.put, wrs, datOf, datOf1, evBin, binInt, TIS, CS, reduceAdd, reduceMul, reduceEqDiff, ↓reduceIte, reduceCtorEq, reduceLT, reduceLeDiff]
         (repeat' apply And.intro) <;> first|rfl|assumption|omega|(simp;done)|(simp;omega)|(simp_all;done)
        refine lA_n ?_
        refine wk_l [(some 0, ⟨3, 1, false, who3.map (ci .i64)⟩), (some 1, ⟨30, 1, false, kept1.map (cl 6 Kept.c)⟩)] [] [(3, .int .u8 other1), (9, .bool r1), (10, .int .i64 n1), (11, .int .i64 at1), (12, .list 7 (l1.map Lease.c)), (13, .ref 0 0 who3.length 1), (14, .ref 1 0 kept1.length 1), (20, .int .i64 (IntKind.wrap .i64 (k1 + 1)))] (by show ([3, 9, 10, 11, 12, 13, 14, 20] : List Nat).Nodup; decide) (by show ([0, 1] : List Nat).Nodup; decide) ?_ ?_ (fun t0 => ⟨_, Nat.lt_succ_self _, who3, (IntKind.wrap .i64 (k1 + 1)), t0, H, rfl⟩)
        ·exact (allB_some (by rfl) rfl (.sm _ _ (ci_pu .i64)) (allB_some (by rfl) rfl (.sm _ _ (cl_pu Kept.pu)) trivial))
        ·(simp only [AllT, ATT, reduceEqDiff, ↓reduceIte, and_true]); exact ⟨(.int' rfl), (.bool' rfl), (.int' rfl), (.int' rfl), (.lst _ _ _ Lease.pu rfl), (.refl' (by first|rfl|omega|(simp;done)|(simp;omega)|(simp_all;done)) rfl), (.refl' (by first|rfl|omega|(simp;done)|(simp;omega)|(simp_all;done)) rfl), (.int' rfl)⟩
      ·have H := cond_f zc12 H
       refine a_exit ?_
       refine sA_e ?_
       refine lA_e ?_
       refine bA_hit ?_
       refine cA_n ?_
       refine wk_l [(some 0, ⟨3, 1, false, who2.map (ci .i64)⟩), (some 1, ⟨30, 1, false, kept1.map (cl 6 Kept.c)⟩)] [] [(3, .int .u8 other1), (9, .bool r1), (10, .int .i64 n1), (11, .int .i64 at1), (12, .list 7 (l1.map Lease.c)), (13, .ref 0 0 who2.length 1), (14, .ref 1 0 kept1.length 1)] (by show ([3, 9, 10, 11, 12, 13, 14] : List Nat).Nodup; decide) (by show ([0, 1] : List Nat).Nodup; decide) ?_ ?_ (fun t0 => ⟨who2, t0, H, rfl⟩)
       ·exact (allB_some (by rfl) rfl (.sm _ _ (ci_pu .i64)) (allB_some (by rfl) rfl (.sm _ _ (cl_pu Kept.pu)) trivial))
       ·(simp only [AllT, ATT, reduceEqDiff, ↓reduceIte, and_true]); exact ⟨(.int' rfl), (.bool' rfl), (.int' rfl), (.int' rfl), (.lst _ _ _ Lease.pu rfl), (.refl' (by first|rfl|omega|(simp;done)|(simp;omega)|(simp_all;done)) rfl), (.refl' (by first|rfl|omega|(simp;done)|(simp;omega)|(simp_all;done)) rfl)⟩
   ·rintro s ⟨who1, t0, H, rfl⟩
    unfold top_TopRecalled_J2 at H
    refine a_seq ?_
    obtain ⟨r2, zh3, H⟩ := bind_some H
    have zk2 := top_askR14_pc zh3
    refine a_reg _ rfl (s := ?zs10) ?_ ?_
    rotate_left
    ·try simp only [EVT, stepR, evOp, St.ev, St.app, St.put, wrs, datOf, datOf1, frz, TIS, CS, reduceAdd, reduceMul, reduceEqDiff, ↓reduceIte, reduceCtorEq, reduceLT, reduceLeDiff, reduceSub, Nat.reduceBEq]
     repeat' with_reducible apply And.intro
     all_goals try ((with_reducible show CallR _ _ _ _ _ _ _); refine cR_p zk2 (.cons (.lst _ _ _ Lease.pu rfl) (.cons (.int' rfl) (.cons (.int' rfl) (.cons (.int' rfl) (.cons (.int' rfl) (.cons (.int' rfl) .nil)))))) ?_; simp only [EVT, stepR, evOp, St.ev, St.app, St.put, wrs, datOf, datOf1, frz, TIS, CS, reduceAdd, reduceMul, reduceEqDiff, ↓reduceIte, reduceCtorEq, reduceLT, reduceLeDiff, reduceSub, Nat.reduceBEq])
     all_goals ((repeat' apply And.intro) <;> first|rfl|assumption|omega|(simp;done)|(simp;omega)|(simp_all;done))
    refine sA_n ?_
    refine a_seq ?_
    refine a_cut (fun s => ∃ (v1 : Bool) (t0 : Nat → Dat), top_TopRecalled_J3 who1 at1 n1 other1 r1 kept1 r2 v1 = some r ∧ s = ⟨tl t0 [(3, .int .u8 other1), (9, .bool r1), (10, .int .i64 n1), (11, .int .i64 at1), (13, .ref 0 0 who1.length 1), (14, .ref 1 0 kept1.length 1), (21, .list 7 (r2.1.map Lease.c)), (110, .bool v1)], hl [⟨3, 1, false, who1.map (ci .i64)⟩, ⟨30, 1, false, kept1.map (cl 6 Kept.c)⟩], 2, 207⟩) ?_ ?_
    ·refine bool_split (b := (!(r2.2.1 == ((((who1.length : Nat)) : Int) == 0)))) (fun zc11 => ?_) (fun zc11 => ?_)
     ·have H := cond_t zc11 H
      refine a_reg _ rfl (s := ?zs32) ?_ ?_
      rotate_left
      ·simp only [EVT, stepR, evOp, St.ev, St.app, St.put, wrs, evBuiltin, datOf, datOf1, evBin, binInt, frz, evUn, TIS, CS, reduceAdd, reduceMul, reduceEqDiff, ↓reduceIte, reduceCtorEq, reduceLT, reduceLeDiff, Array.reduceGetElem?, reduceSub, Nat.reduceBEq, ↓zc11]
       try simp only [EVT, stepR, evOp, St.ev, St.app, St.put, wrs, evBuiltin, datOf, datOf1, evBin, binInt, frz, evUn, TIS, CS, reduceAdd, reduceMul, reduceEqDiff, ↓reduceIte, reduceCtorEq, reduceLT, reduceLeDiff, Array.reduceGetElem?, reduceSub, Nat.reduceBEq, ↓zc11]
       (repeat' apply And.intro) <;> first|rfl|assumption|omega|(simp;done)|(simp;omega)|(simp_all;done)
      refine cA_n ?_
      refine wk_l [(some 0, ⟨3, 1, false, who1.map (ci .i64)⟩), (some 1, ⟨30, 1, false, kept1.map (cl 6 Kept.c)⟩)] [] [(3, .int .u8 other1), (9, .bool r1), (10, .int .i64 n1), (11, .int .i64 at1), (13, .ref 0 0 who1.length 1), (14, .ref 1 0 kept1.length 1), (21, .list 7 (r2.1.map Lease.c)), (110, .bool true)] (by show ([3, 9, 10, 11, 13, 14, 21, 110] : List Nat).Nodup; decide) (by show ([0, 1] : List Nat).Nodup; decide) ?_ ?_ (fun t0 => ⟨true, t0, H, rfl⟩)
      ·exact (allB_some (by rfl) rfl (.sm _ _ (ci_pu .i64)) (allB_some (by rfl) rfl (.sm _ _ (cl_pu Kept.pu)) trivial))
      ·(simp only [AllT, ATT, reduceEqDiff, ↓reduceIte, and_true]); exact ⟨(.int' rfl), (.bool' rfl), (.int' rfl), (.int' rfl), (.refl' (by first|rfl|omega|(simp;done)|(simp;omega)|(simp_all;done)) rfl), (.refl' (by first|rfl|omega|(simp;done)|(simp;omega)|(simp_all;done)) rfl), (.lst _ _ _ Lease.pu rfl), (.bool' (by first | rfl | assumption | (simp_all; done)))⟩
     ·have H := cond_f zc11 H
      obtain ⟨r11, zh17, H⟩ := bind_some H
      have zk11 := ref02_Ints_pc zh17
      refine a_reg _ rfl (s := ?zs33) ?_ ?_
      rotate_left
      ·try simp only [EVT, stepR, evOp, St.ev, St.app, St.put, wrs, evBuiltin, datOf, datOf1, evBin, binInt, frz, evUn, TIS, CS, reduceAdd, reduceMul, reduceEqDiff, ↓reduceIte, reduceCtorEq, reduceLT, reduceLeDiff, Array.reduceGetElem?, reduceSub, Nat.reduceBEq, ↓zc11]
       repeat' with_reducible apply And.intro
       all_goals try ((with_reducible show CallR _ _ _ _ _ _ _); refine cR_s zk11 (.cons (.lst _ _ _ (ci_pu .i64) rfl) (.cons (.ownL (by rfl) (fun e => by cases e) rfl (by first|rfl|omega|(simp;done)|(simp;omega)|(simp_all;done)) (.sm _ _ (ci_pu .i64))) .nil)) (.bool _) ?_; simp only [EVT, stepR, evOp, St.ev, St.app, St.put, wrs, evBuiltin, datOf, datOf1, evBin, binInt, frz, evUn, TIS, CS, reduceAdd, reduceMul, reduceEqDiff, ↓reduceIte, reduceCtorEq, reduceLT, reduceLeDiff, Array.reduceGetElem?, reduceSub, Nat.reduceBEq, ↓zc11])
       all_goals ((repeat' apply And.intro) <;> first|rfl|assumption|omega|(simp;done)|(simp;omega)|(simp_all;done))
      refine cA_n ?_
      refine wk_l [(some 0, ⟨3, 1, false, who1.map (ci .i64)⟩), (some 1, ⟨30, 1, false, kept1.map (cl 6 Kept.c)⟩)] [] [(3, .int .u8 other1), (9, .bool r1), (10, .int .i64 n1), (11, .int .i64 at1), (13, .ref 0 0 who1.length 1), (14, .ref 1 0 kept1.length 1), (21, .list 7 (r2.1.map Lease.c)), (110, .bool (!r11))] (by show ([3, 9, 10, 11, 13, 14, 21, 110] : List Nat).Nodup; decide) (by show ([0, 1] : List Nat).Nodup; decide) ?_ ?_ (fun t0 => ⟨(!r11), t0, H, rfl⟩)
      ·exact (allB_some (by rfl) rfl (.sm _ _ (ci_pu .i64)) (allB_some (by rfl) rfl (.sm _ _ (cl_pu Kept.pu)) trivial))
      ·(simp only [AllT, ATT, reduceEqDiff, ↓reduceIte, and_true]); exact ⟨(.int' rfl), (.bool' rfl), (.int' rfl), (.int' rfl), (.refl' (by first|rfl|omega|(simp;done)|(simp;omega)|(simp_all;done)) rfl), (.refl' (by first|rfl|omega|(simp;done)|(simp;omega)|(simp_all;done)) rfl), (.lst _ _ _ Lease.pu rfl), (.bool' rfl)⟩
    ·rintro s ⟨v1, t0, H, rfl⟩
     unfold top_TopRecalled_J3 at H
     refine a_condb (v1) (by rfl) (fun zc2 => ?_) (fun zc2 => ?_)
     ·have H := cond_t zc2 H
      refine a_seq ?_
      refine a_reg _ rfl (s := ?zs11) ?_ ?_
      rotate_left
      ·simp only [EVT, stepR, evOp, St.ev, St.app, St.put, wrs, datOf, datOf1, TIS, CS, reduceAdd, reduceMul, reduceEqDiff, ↓reduceIte, reduceCtorEq, reduceLT, reduceLeDiff, ↓zc2]
       (repeat' apply And.intro) <;> first|rfl|assumption|omega|(simp;done)|(simp;omega)|(simp_all;done)
      refine sA_n ?_
      refine a_ret ?_
      refine sA_r ?_
      obtain rfl := Option.some.inj H
      refine e_r2 (d := ?zd2) ?_ ?_
      rotate_left
      ·simp only [EVT, resR, single, evLoad, cut, TIS, CS, reduceAdd, reduceEqDiff, ↓reduceIte, reduceCtorEq, reduceLT, reduceLeDiff, reduceSub, Nat.reduceBEq, zc2]
       (repeat' apply And.intro) <;> first | rfl | assumption | omega | (simp; done)
      exact (.bool' (by first | rfl | assumption | (simp_all; done)))
     ·have H := cond_f zc2 H
      refine a_skip ?_
      refine sA_n ?_
      refine a_cut (fun s => ∃ (kept2 : List (List Kept)) (m1 : List Lease) (t0 : Nat → Dat), top_TopRecalled_J4 at1 n1 who1 other1 r1 kept2 m1 = some r ∧ s = ⟨tl t0 [(3, .int .u8 other1), (9, .bool r1), (10, .int .i64 n1), (11, .int .i64 at1), (13, .ref 0 0 who1.length 1), (14, .ref 1 0 kept2.length 1), (21, .list 7 (m1.map Lease.c))], hl [⟨3, 1, false, who1.map (ci .i64)⟩, ⟨30, 1, false, kept2.map (cl 6 Kept.c)⟩], 2, 207⟩) ?_ ?_
      ·refine a_seq ?_
       refine a_reg _ rfl (s := ?zs27) ?_ ?_
       rotate_left
       ·simp only [EVT, stepR, evOp, St.ev, St.app, St.put, wrs, datOf, datOf1, TIS, CS, reduceAdd, reduceMul, reduceEqDiff, ↓reduceIte, reduceCtorEq, reduceLT, reduceLeDiff, ↓zc2]
        (repeat' apply And.intro) <;> first|rfl|assumption|omega|(simp;done)|(simp;omega)|(simp_all;done)
       refine sA_n ?_
       refine a_blk ?_
       refine a_loop (fun m s => ∃ (kept3 : List (List Kept)) (m2 : List Lease) (i2 : Int) (t0 : Nat → Dat), top_TopRecalled_L2 who1 at1 n1 other1 r1 m kept3 m2 i2 = some r ∧ s = ⟨tl t0 [(3, .int .u8 other1), (9, .bool r1), (10, .int .i64 n1), (11, .int .i64 at1), (13, .ref 0 0 who1.length 1), (14, .ref 1 0 kept3.length 1), (21, .list 7 (m2.map Lease.c)), (24, .int .i64 i2)], hl [⟨3, 1, false, who1.map (ci .i64)⟩, ⟨30, 1, false, kept3.map (cl 6 Kept.c)⟩], 2, 207⟩) BIG ?_ ?_
       ·refine wk_l [(some 0, ⟨3, 1, false, who1.map (ci .i64)⟩), (some 1, ⟨30, 1, false, kept1.map (cl 6 Kept.c)⟩)] [] [(3, .int .u8 other1), (9, .bool r1), (10, .int .i64 n1), (11, .int .i64 at1), (13, .ref 0 0 who1.length 1), (14, .ref 1 0 kept1.length 1), (21, .list 7 (r2.1.map Lease.c)), (24, .int .i64 0)] (by show ([3, 9, 10, 11, 13, 14, 21, 24] : List Nat).Nodup; decide) (by show ([0, 1] : List Nat).Nodup; decide) ?_ ?_ (fun t0 => ⟨kept1, r2.1, 0, t0, H, rfl⟩)
        ·exact (allB_some (by rfl) rfl (.sm _ _ (ci_pu .i64)) (allB_some (by rfl) rfl (.sm _ _ (cl_pu Kept.pu)) trivial))
        ·(simp only [AllT, ATT, reduceEqDiff, ↓reduceIte, and_true]); exact ⟨(.int' rfl), (.bool' rfl), (.int' rfl), (.int' rfl), (.refl' (by first|rfl|omega|(simp;done)|(simp;omega)|(simp_all;done)) rfl), (.refl' (by first|rfl|omega|(simp;done)|(simp;omega)|(simp_all;done)) rfl), (.lst _ _ _ Lease.pu rfl), (.int' rfl)⟩
       ·rintro m_top_TopRecalled_L2 s ⟨kept3, m2, i2, t0, H, rfl⟩
        obtain _ | m_top_TopRecalled_L2 := m_top_TopRecalled_L2
        ·cases (show (none : Option _) = some _ from H)
        ·rw [top_TopRecalled_L2] at H
         refine a_seq ?_
         refine a_seq ?_
         refine a_reg _ rfl (s := ?zs28) ?_ ?_
         rotate_left
         ·simp only [EVT, stepR, evOp, St.ev, St.app, St.put, wrs, evBuiltin, evBin, binInt, TIS, CS, reduceAdd, reduceMul, reduceEqDiff, ↓reduceIte, reduceCtorEq, reduceLT, reduceLeDiff, reduceSub, Nat.reduceBEq]
          (repeat' apply And.intro) <;> first|rfl|assumption|omega|(simp;done)|(simp;omega)|(simp_all;done)
         refine sA_n ?_
         refine a_condb ((decide (i2 < (((who1.length : Nat)) : Int)))) (by rfl) (fun zc10 => ?_) (fun zc10 => ?_)
         ·have H := cond_t zc10 H
          refine a_skip ?_
          refine sA_n ?_
          refine a_seq ?_
          refine a_blk ?_
          refine a_seq ?_
          obtain ⟨x3, zh13, H⟩ := bind_some H
          have zg3 := idx_map zh13 (ci .i64)
          try simp only [Int.reduceToNat, Int.toNat_natCast] at zg3
          obtain ⟨zh13a, zh13b, _⟩ := idx_some zh13
          obtain ⟨x4, zh14, H⟩ := bind_some H
          have zg4 := idx_map zh14 (cl 6 Kept.c)
          try simp only [Int.reduceToNat, Int.toNat_natCast] at zg4
          obtain ⟨zh14a, zh14b, _⟩ := idx_some zh14
          obtain ⟨r9, zh15, H⟩ := bind_some H
          have zk9 := cache_Forget_pc zh15
          refine a_drW (by kernel_rfl) _ rfl (s := ?zs29) (by kernel_rfl) (by kernel_rfl) ?zs29f ?_ ?_ ?_
          rotate_left 2
          ·try simp only [EVT, stepW, evOp, St.ev, St.app, St.put, wrs, evIndexAddr, evLoad, cut, datOf, datOf1, frz, evStore, setR, allOne, TIS, CS, reduceAdd, reduceMul, reduceEqDiff, ↓reduceIte, reduceCtorEq, reduceLT, reduceLeDiff, Int.reduceToNat, reduceSub, Nat.reduceBEq, ↓zc10, zg3, zg4]
           repeat' with_reducible apply And.intro
           all_goals try ((with_reducible show CallW _ _ _ _ _ _ _); refine cW_p [] zk9 (fun h2 e => (.cons (.lst _ _ _ Kept.pu rfl) (.cons (.int' rfl) .nil))) ?_; simp only [EVT, stepW, evOp, St.ev, St.app, St.put, wrs, evIndexAddr, evLoad, cut, datOf, datOf1, frz, evStore, setR, allOne, TIS, CS, reduceAdd, reduceMul, reduceEqDiff, ↓reduceIte, reduceCtorEq, reduceLT, reduceLeDiff, Int.reduceToNat, reduceSub, Nat.reduceBEq, ↓zc10, zg3, zg4])
           all_goals ((repeat' apply And.intro) <;> first|rfl|assumption|omega|(simp;done)|(simp;omega)|(simp_all;done))
          ·kernel_rfl
          refine sA_n ?_
          obtain ⟨r10, zh16, H⟩ := bind_some H
          have zk10 := lease_Back_pc zh16
          refine a_reg _ rfl (s := ?zs30) ?_ ?_
          rotate_left
          ·try simp only [EVT, stepR, evOp, St.ev, St.app, St.put, wrs, evIndexAddr, evLoad, cut, datOf, datOf1, frz, TIS, CS, reduceAdd, reduceMul, reduceEqDiff, ↓reduceIte, reduceCtorEq, reduceLT, reduceLeDiff, Int.reduceToNat, reduceSub, Nat.reduceBEq, ↓zc10, zg3, zg4]
           repeat' with_reducible apply And.intro
           all_goals try ((with_reducible show CallR _ _ _ _ _ _ _); refine cR_p zk10 (.cons (.lst _ _ _ Lease.pu rfl) (.cons (.int' rfl) (.cons (.int' rfl) .nil))) ?_; simp only [EVT, stepR, evOp, St.ev, St.app, St.put, wrs, evIndexAddr, evLoad, cut, datOf, datOf1, frz, TIS, CS, reduceAdd, reduceMul, reduceEqDiff, ↓reduceIte, reduceCtorEq, reduceLT, reduceLeDiff, Int.reduceToNat, reduceSub, Nat.reduceBEq, ↓zc10, zg3, zg4])
           all_goals ((repeat' apply And.intro) <;> first|rfl|assumption|omega|(simp;done)|(simp;omega)|(simp_all;done))
          refine bA_n ?_
          refine sA_n ?_
          refine a_reg _ rfl (s := ?zs31) ?_ ?_
          rotate_left
          ·simp only [EVT, stepR, evOp, St.ev, St.app, St.put, wrs, datOf, datOf1, evBin, binInt, TIS, CS, reduceAdd, reduceMul, reduceEqDiff, ↓reduceIte, reduceCtorEq, reduceLT, reduceLeDiff, ↓zc10, zg3, zg4]
           (repeat' apply And.intro) <;> first|rfl|assumption|omega|(simp;done)|(simp;omega)|(simp_all;done)
          refine lA_n ?_
          refine wk_l [(some 0, ⟨3, 1, false, who1.map (ci .i64)⟩), (some 1, ⟨30, 1, false, (kept3.set x3.toNat r9).map (cl 6 Kept.c)⟩)] [] [(3, .int .u8 other1), (9, .bool r1), (10, .int .i64 n1), (11, .int .i64 at1), (13, .ref 0 0 who1.length 1), (14, .ref 1 0 (kept3.set x3.toNat r9).length 1), (21, .list 7 (r10.map Lease.c)), (24, .int .i64 (IntKind.wrap .i64 (i2 + 1)))] (by show ([3, 9, 10, 11, 13, 14, 21, 24] : List Nat).Nodup; decide) (by show ([0, 1] : List Nat).Nodup; decide) ?_ ?_ (fun t0 => ⟨_, Nat.lt_succ_self _, (kept3.set x3.toNat r9), r10, (IntKind.wrap .i64 (i2 + 1)), t0, H, rfl⟩)
          ·exact (allB_some (by rfl) rfl (.sm _ _ (ci_pu .i64)) (allB_some (by rfl) rfl (.sm _ _ (cl_pu Kept.pu)) trivial))
          ·(simp only [AllT, ATT, reduceEqDiff, ↓reduceIte, and_true]); exact ⟨(.int' rfl), (.bool' rfl), (.int' rfl), (.int' rfl), (.refl' (by first|rfl|omega|(simp;done)|(simp;omega)|(simp_all;done)) rfl), (.refl' (by first|rfl|omega|(simp;done)|(simp;omega)|(simp_all;done)) rfl), (.lst _ _ _ Lease.pu rfl), (.int' rfl)⟩
         ·have H := cond_f zc10 H
          refine a_exit ?_
          refine sA_e ?_
          refine lA_e ?_
          refine bA_hit ?_
          refine cA_n ?_
          refine wk_l [(some 0, ⟨3, 1, false, who1.map (ci .i64)⟩), (some 1, ⟨30, 1, false, kept3.map (cl 6 Kept.c)⟩)] [] [(3, .int .u8 other1), (9, .bool r1), (10, .int .i64 n1), (11, .int .i64 at1), (13, .ref 0 0 who1.length 1), (14, .ref 1 0 kept3.length 1), (21, .list 7 (m2.map Lease.c))] (by show ([3, 9, 10, 11, 13, 14, 21] : List Nat).Nodup; decide) (by show ([0, 1] : List Nat).Nodup; decide) ?_ ?_ (fun t0 => ⟨kept3, m2, t0, H, rfl⟩)
          ·exact (allB_some (by rfl) rfl (.sm _ _ (ci_pu .i64)) (allB_some (by rfl) rfl (.sm _ _ (cl_pu Kept.pu)) trivial))
          ·(simp only [AllT, ATT, reduceEqDiff, ↓reduceIte, and_true]); exact ⟨(.int' rfl), (.bool' rfl), (.int' rfl), (.int' rfl), (.refl' (by first|rfl|omega|(simp;done)|(simp;omega)|(simp_all;done)) rfl), (.refl' (by first|rfl|omega|(simp;done)|(simp;omega)|(simp_all;done)) rfl), (.lst _ _ _ Lease.pu rfl)⟩
      ·rintro s ⟨kept2, m1, t0, H, rfl⟩
       unfold top_TopRecalled_J4 at H
       refine a_seq ?_
       obtain ⟨r3, zh4, H⟩ := bind_some H
       have zk3 := top_askR14_pc zh4
       refine a_reg _ rfl (s := ?zs12) ?_ ?_
       rotate_left
       ·try simp only [EVT, stepR, evOp, St.ev, St.app, St.put, wrs, datOf, datOf1, frz, TIS, CS, reduceAdd, reduceMul, reduceEqDiff, ↓reduceIte, reduceCtorEq, reduceLT, reduceLeDiff, reduceSub, Nat.reduceBEq]
        repeat' with_reducible apply And.intro
        all_goals try ((with_reducible show CallR _ _ _ _ _ _ _); refine cR_p zk3 (.cons (.lst _ _ _ Lease.pu rfl) (.cons (.int' rfl) (.cons (.int' rfl) (.cons (.int' rfl) (.cons (.int' rfl) (.cons (.int' rfl) .nil)))))) ?_; simp only [EVT, stepR, evOp, St.ev, St.app, St.put, wrs, datOf, datOf1, frz, TIS, CS, reduceAdd, reduceMul, reduceEqDiff, ↓reduceIte, reduceCtorEq, reduceLT, reduceLeDiff, reduceSub, Nat.reduceBEq])
        all_goals ((repeat' apply And.intro) <;> first|rfl|assumption|omega|(simp;done)|(simp;omega)|(simp_all;done))
       refine sA_n ?_
       refine a_seq ?_
       refine a_cut (fun s => ∃ (v2 : Bool) (t0 : Nat → Dat), top_TopRecalled_J5 who1 kept2 n1 other1 r1 v2 = some r ∧ s = ⟨tl t0 [(3, .int .u8 other1), (9, .bool r1), (10, .int .i64 n1), (13, .ref 0 0 who1.length 1), (14, .ref 1 0 kept2.length 1), (157, .bool v2)], hl [⟨3, 1, false, who1.map (ci .i64)⟩, ⟨30, 1, false, kept2.map (cl 6 Kept.c)⟩], 2, 207⟩) ?_ ?_
       ·refine bool_split (b := (!r3.2.1)) (fun zc8 => ?_) (fun zc8 => ?_)
        ·have H := cond_t zc8 H
         refine a_reg _ rfl (s := ?zs24) ?_ ?_
         rotate_left
         ·simp only [EVT, stepR, evOp, St.ev, St.app, St.put, wrs, evUn, evBuiltin, datOf, datOf1, evBin, binInt, frz, TIS, CS, reduceAdd, reduceMul, reduceEqDiff, ↓reduceIte, reduceCtorEq, reduceLT, reduceLeDiff, Array.reduceGetElem?, reduceSub, Nat.reduceBEq, ↓zc8]
          try simp only [EVT, stepR, evOp, St.ev, St.app, St.put, wrs, evUn, evBuiltin, datOf, datOf1, evBin, binInt, frz, TIS, CS, reduceAdd, reduceMul, reduceEqDiff, ↓reduceIte, reduceCtorEq, reduceLT, reduceLeDiff, Array.reduceGetElem?, reduceSub, Nat.reduceBEq, ↓zc8]
          (repeat' apply And.intro) <;> first|rfl|assumption|omega|(simp;done)|(simp;omega)|(simp_all;done)
         refine cA_n ?_
         refine wk_l [(some 0, ⟨3, 1, false, who1.map (ci .i64)⟩), (some 1, ⟨30, 1, false, kept2.map (cl 6 Kept.c)⟩)] [] [(3, .int .u8 other1), (9, .bool r1), (10, .int .i64 n1), (13, .ref 0 0 who1.length 1), (14, .ref 1 0 kept2.length 1), (157, .bool true)] (by show ([3, 9, 10, 13, 14, 157] : List Nat).Nodup; decide) (by show ([0, 1] : List Nat).Nodup; decide) ?_ ?_ (fun t0 => ⟨true, t0, H, rfl⟩)
         ·exact (allB_some (by rfl) rfl (.sm _ _ (ci_pu .i64)) (allB_some (by rfl) rfl (.sm _ _ (cl_pu Kept.pu)) trivial))
         ·(simp only [AllT, ATT, reduceEqDiff, ↓reduceIte, and_true]); exact ⟨(.int' rfl), (.bool' rfl), (.int' rfl), (.refl' (by first|rfl|omega|(simp;done)|(simp;omega)|(simp_all;done)) rfl), (.refl' (by first|rfl|omega|(simp;done)|(simp;omega)|(simp_all;done)) rfl), (.bool' (by first | rfl | assumption | (simp_all; done)))⟩
        ·have H := cond_f zc8 H
         refine bool_split (b := (decide (0 < (r3.2.2.length : Int)))) (fun zc9 => ?_) (fun zc9 => ?_)
         ·have H := cond_t zc9 H
          refine a_reg _ rfl (s := ?zs25) ?_ ?_
          rotate_left
          ·simp only [EVT, stepR, evOp, St.ev, St.app, St.put, wrs, evUn, evBuiltin, datOf, datOf1, evBin, binInt, frz, TIS, CS, reduceAdd, reduceMul, reduceEqDiff, ↓reduceIte, reduceCtorEq, reduceLT, reduceLeDiff, Array.reduceGetElem?, reduceSub, Nat.reduceBEq, ↓zc8, ↓zc9]
           try simp only [EVT, stepR, evOp, St.ev, St.app, St.put, wrs, evUn, evBuiltin, datOf, datOf1, evBin, binInt, frz, TIS, CS, reduceAdd, reduceMul, reduceEqDiff, ↓reduceIte, reduceCtorEq, reduceLT, reduceLeDiff, Array.reduceGetElem?, reduceSub, Nat.reduceBEq, ↓zc8, ↓zc9]
           (repeat' apply And.intro) <;> first|rfl|assumption|omega|(simp;done)|(simp;omega)|(simp_all;done)
          refine cA_n ?_
          refine wk_l [(some 0, ⟨3, 1, false, who1.map (ci .i64)⟩), (some 1, ⟨30, 1, false, kept2.map (cl 6 Kept.c)⟩)] [] [(3, .int .u8 other1), (9, .bool r1), (10, .int .i64 n1), (13, .ref 0 0 who1.length 1), (14, .ref 1 0 kept2.length 1), (157, .bool true)] (by show ([3, 9, 10, 13, 14, 157] : List Nat).Nodup; decide) (by show ([0, 1] : List Nat).Nodup; decide) ?_ ?_ (fun t0 => ⟨true, t0, H, rfl⟩)
          ·exact (allB_some (by rfl) rfl (.sm _ _ (ci_pu .i64)) (allB_some (by rfl) rfl (.sm _ _ (cl_pu Kept.pu)) trivial))
          ·(simp only [AllT, ATT, reduceEqDiff, ↓reduceIte, and_true]); exact ⟨(.int' rfl), (.bool' rfl), (.int' rfl), (.refl' (by first|rfl|omega|(simp;done)|(simp;omega)|(simp_all;done)) rfl), (.refl' (by first|rfl|omega|(simp;done)|(simp;omega)|(simp_all;done)) rfl), (.bool' (by first | rfl | assumption | (simp_all; done)))⟩
         ·have H := cond_f zc9 H
          obtain ⟨r7, zh11, H⟩ := bind_some H
          have zk7 := top_wholeR14_pc zh11
          obtain ⟨r8, zh12, H⟩ := bind_some H
          have zk8 := lease_Has_pc zh12
          refine a_reg _ rfl (s := ?zs26) ?_ ?_
          rotate_left
          ·try simp only [EVT, stepR, evOp, St.ev, St.app, St.put, wrs, evUn, evBuiltin, datOf, datOf1, evBin, binInt, frz, TIS, CS, reduceAdd, reduceMul, reduceEqDiff, ↓reduceIte, reduceCtorEq, reduceLT, reduceLeDiff, Array.reduceGetElem?, reduceSub, Nat.reduceBEq, ↓zc8, ↓zc9]
           repeat' with_reducible apply And.intro
           all_goals try ((with_reducible show CallR _ _ _ _ _ _ _); refine cR_p zk7 .nil ?_; simp only [EVT, stepR, evOp, St.ev, St.app, St.put, wrs, evUn, evBuiltin, datOf, datOf1, evBin, binInt, frz, TIS, CS, reduceAdd, reduceMul, reduceEqDiff, ↓reduceIte, reduceCtorEq, reduceLT, reduceLeDiff, Array.reduceGetElem?, reduceSub, Nat.reduceBEq, ↓zc8, ↓zc9])
           repeat' with_reducible apply And.intro
           all_goals try ((with_reducible show CallR _ _ _ _ _ _ _); refine cR_s zk8 (.cons (.lst _ _ _ Lease.pu rfl) (.cons (.int' rfl) (.cons (.int' rfl) (.cons (.int' rfl) (.cons (.agg' (.cons (.int' rfl) (.cons (.int' rfl) .nil))) .nil))))) (.bool _) ?_; simp only [EVT, stepR, evOp, St.ev, St.app, St.put, wrs, evUn, evBuiltin, datOf, datOf1, evBin, binInt, frz, TIS, CS, reduceAdd, reduceMul, reduceEqDiff, ↓reduceIte, reduceCtorEq, reduceLT, reduceLeDiff, Array.reduceGetElem?, reduceSub, Nat.reduceBEq, ↓zc8, ↓zc9])
           all_goals ((repeat' apply And.intro) <;> first|rfl|assumption|omega|(simp;done)|(simp;omega)|(simp_all;done))
          refine cA_n ?_
          refine wk_l [(some 0, ⟨3, 1, false, who1.map (ci .i64)⟩), (some 1, ⟨30, 1, false, kept2.map (cl 6 Kept.c)⟩)] [] [(3, .int .u8 other1), (9, .bool r1), (10, .int .i64 n1), (13, .ref 0 0 who1.length 1), (14, .ref 1 0 kept2.length 1), (157, .bool (!r8))] (by show ([3, 9, 10, 13, 14, 157] : List Nat).Nodup; decide) (by show ([0, 1] : List Nat).Nodup; decide) ?_ ?_ (fun t0 => ⟨(!r8), t0, H, rfl⟩)
          ·exact (allB_some (by rfl) rfl (.sm _ _ (ci_pu .i64)) (allB_some (by rfl) rfl (.sm _ _ (cl_pu Kept.pu)) trivial))
          ·(simp only [AllT, ATT, reduceEqDiff, ↓reduceIte, and_true]); exact ⟨(.int' rfl), (.bool' rfl), (.int' rfl), (.refl' (by first|rfl|omega|(simp;done)|(simp;omega)|(simp_all;done)) rfl), (.refl' (by first|rfl|omega|(simp;done)|(simp;omega)|(simp_all;done)) rfl), (.bool' rfl)⟩
       ·rintro s ⟨v2, t0, H, rfl⟩
        unfold top_TopRecalled_J5 at H
        refine a_condb (v2) (by rfl) (fun zc3 => ?_) (fun zc3 => ?_)
        ·have H := cond_t zc3 H
         refine a_seq ?_
         refine a_reg _ rfl (s := ?zs13) ?_ ?_
         rotate_left
         ·simp only [EVT, stepR, evOp, St.ev, St.app, St.put, wrs, datOf, datOf1, TIS, CS, reduceAdd, reduceMul, reduceEqDiff, ↓reduceIte, reduceCtorEq, reduceLT, reduceLeDiff, ↓zc3]
          (repeat' apply And.intro) <;> first|rfl|assumption|omega|(simp;done)|(simp;omega)|(simp_all;done)
         refine sA_n ?_
         refine a_ret ?_
         refine sA_r ?_
         obtain rfl := Option.some.inj H
         refine e_r2 (d := ?zd3) ?_ ?_
         rotate_left
         ·simp only [EVT, resR, single, evLoad, cut, TIS, CS, reduceAdd, reduceEqDiff, ↓reduceIte, reduceCtorEq, reduceLT, reduceLeDiff, reduceSub, Nat.reduceBEq, zc3]
          (repeat' apply And.intro) <;> first | rfl | assumption | omega | (simp; done)
         exact (.bool' (by first | rfl | assumption | (simp_all; done)))
        ·have H := cond_f zc3 H
         refine a_skip ?_
         refine sA_n ?_
         refine a_cut (fun s => ∃ (t0 : Nat → Dat), top_TopRecalled_J6 r1 = some r ∧ s = ⟨tl t0 [(9, .bool r1)], hl [], 0, 207⟩) ?_ ?_
         ·refine a_seq ?_
          refine a_reg _ rfl (s := ?zs15) ?_ ?_
          rotate_left
          ·simp only [EVT, stepR, evOp, St.ev, St.app, St.put, wrs, datOf, datOf1, TIS, CS, reduceAdd, reduceMul, reduceEqDiff, ↓reduceIte, reduceCtorEq, reduceLT, reduceLeDiff, ↓zc3]
           (repeat' apply And.intro) <;> first|rfl|assumption|omega|(simp;done)|(simp;omega)|(simp_all;done)
          refine sA_n ?_
          refine a_blk ?_
          refine a_loop (fun m s => ∃ (i1 : Int) (t0 : Nat → Dat), top_TopRecalled_L1 who1 kept2 n1 other1 r1 m i1 = some r ∧ s = ⟨tl t0 [(3, .int .u8 other1), (9, .bool r1), (10, .int .i64 n1), (13, .ref 0 0 who1.length 1), (14, .ref 1 0 kept2.length 1), (25, .int .i64 i1)], hl [⟨3, 1, false, who1.map (ci .i64)⟩, ⟨30, 1, false, kept2.map (cl 6 Kept.c)⟩], 2, 207⟩) BIG ?_ ?_
          ·refine wk_l [(some 0, ⟨3, 1, false, who1.map (ci .i64)⟩), (some 1, ⟨30, 1, false, kept2.map (cl 6 Kept.c)⟩)] [] [(3, .int .u8 other1), (9, .bool r1), (10, .int .i64 n1), (13, .ref 0 0 who1.length 1), (14, .ref 1 0 kept2.length 1), (25, .int .i64 0)] (by show ([3, 9, 10, 13, 14, 25] : List Nat).Nodup; decide) (by show ([0, 1] : List Nat).Nodup; decide) ?_ ?_ (fun t0 => ⟨0, t0, H, rfl⟩)
           ·exact (allB_some (by rfl) rfl (.sm _ _ (ci_pu .i64)) (allB_some (by rfl) rfl (.sm _ _ (cl_pu Kept.pu)) trivial))
           ·(simp only [AllT, ATT, reduceEqDiff, ↓reduceIte, and_true]); exact ⟨(.int' rfl), (.bool' rfl), (.int' rfl), (.refl' (by first|rfl|omega|(simp;done)|(simp;omega)|(simp_all;done)) rfl), (.refl' (by first|rfl|omega|(simp;done)|(simp;omega)|(simp_all;done)) rfl), (.int' rfl)⟩
          ·rintro m_top_TopRecalled_L1 s ⟨i1, t0, H, rfl⟩
           obtain _ | m_top_TopRecalled_L1 := m_top_TopRecalled_L1
           ·cases (show (none : Option _) = some _ from H)
           ·rw [top_TopRecalled_L1] at H
            refine a_seq ?_
            refine a_seq ?_
            refine a_reg _ rfl (s := ?zs16) ?_ ?_
            rotate_left
            ·simp only [EVT, stepR, evOp, St.ev, St.app, St.put, wrs, evBuiltin, evBin, binInt, TIS, CS, reduceAdd, reduceMul, reduceEqDiff, ↓reduceIte, reduceCtorEq, reduceLT, reduceLeDiff, reduceSub, Nat.reduceBEq]
             (repeat' apply And.intro) <;> first|rfl|assumption|omega|(simp;done)|(simp;omega)|(simp_all;done)
            refine sA_n ?_
            refine a_condb ((decide (i1 < (((who1.length : Nat)) : Int)))) (by rfl) (fun zc4 => ?_) (fun zc4 => ?_)
            ·have H := cond_t zc4 H
             refine a_skip ?_
             refine sA_n ?_
             refine a_seq ?_
             refine a_blk ?_
             refine a_seq ?_
             obtain ⟨x1, zh5, H⟩ := bind_some H
             have zg1 := idx_map zh5 (ci .i64)
             try simp only [Int.reduceToNat, Int.toNat_natCast] at zg1
             obtain ⟨zh5a, zh5b, _⟩ := idx_some zh5
             obtain ⟨x2, zh6, H⟩ := bind_some H
             have zg2 := idx_map zh6 (cl 6 Kept.c)
             try simp only [Int.reduceToNat, Int.toNat_natCast] at zg2
             obtain ⟨zh6a, zh6b, _⟩ := idx_some zh6
             obtain ⟨r4, zh7, H⟩ := bind_some H
             have zk4 := cache_GetPage_pc zh7
             refine a_reg _ rfl (s := ?zs17) ?_ ?_
             rotate_left
             ·try simp only [EVT, stepR, evOp, St.ev, St.app, St.put, wrs, evIndexAddr, evLoad, cut, datOf, datOf1, frz, TIS, CS, reduceAdd, reduceMul, reduceEqDiff, ↓reduceIte, reduceCtorEq, reduceLT, reduceLeDiff, Int.reduceToNat, reduceSub, Nat.reduceBEq, ↓zc4, zg1, zg2]
              repeat' with_reducible apply And.intro
              all_goals try ((with_reducible show CallR _ _ _ _ _ _ _); refine cR_p zk4 (.cons (.lst _ _ _ Kept.pu rfl) (.cons (.int' rfl) (.cons (.int' rfl) (.cons (.int' rfl) .nil)))) ?_; simp only [EVT, stepR, evOp, St.ev, St.app, St.put, wrs, evIndexAddr, evLoad, cut, datOf, datOf1, frz, TIS, CS, reduceAdd, reduceMul, reduceEqDiff, ↓reduceIte, reduceCtorEq, reduceLT, reduceLeDiff, Int.reduceToNat, reduceSub, Nat.reduceBEq, ↓zc4, zg1, zg2])
              all_goals ((repeat' apply And.intro) <;> first|rfl|assumption|omega|(simp;done)|(simp;omega)|(simp_all;done))
             refine sA_n ?_
             refine a_seq ?_
             obtain ⟨zh8, H⟩ := chk_some H
             obtain ⟨r5, zh9, H⟩ := bind_some H
             have zk5 := cache_GetPage_pc zh9
             refine a_drW (by kernel_rfl) _ rfl (s := ?zs18) (by kernel_rfl) (by kernel_rfl) ?zs18f ?_ ?_ ?_
             rotate_left 2
             ·try simp only [EVT, stepW, evOp, St.ev, St.app, St.put, wrs, evIndexAddr, evLoad, cut, evToStr, elems, evBin, binInt, datOf, datOf1, frz, TIS, CS, reduceAdd, reduceMul, reduceEqDiff, ↓reduceIte, reduceCtorEq, reduceLT, reduceLeDiff, Int.reduceToNat, reduceSub, Nat.reduceBEq, ↓zc4, zg1, zg2]
              repeat' with_reducible apply And.intro
              all_goals try ((with_reducible show CallW _ _ _ _ _ _ _); refine cW_p [] zk5 (fun h2 e => (.cons (.lst _ _ _ Kept.pu rfl) (.cons (.int' rfl) (.cons (.int' rfl) (.cons (.int' rfl) .nil))))) ?_; simp only [EVT, stepW, evOp, St.ev, St.app, St.put, wrs, evIndexAddr, evLoad, cut, evToStr, elems, evBin, binInt, datOf, datOf1, frz, TIS, CS, reduceAdd, reduceMul, reduceEqDiff, ↓reduceIte, reduceCtorEq, reduceLT, reduceLeDiff, Int.reduceToNat, reduceSub, Nat.reduceBEq, ↓zc4, zg1, zg2])
              all_goals ((repeat' apply And.intro) <;> first|rfl|assumption|omega|(simp;done)|(simp;omega)|(simp_all;done))
             ·kernel_rfl
             refine sA_n ?_
             refine a_cut (fun s => ∃ (v3 : Bool) (t0 : Nat → Dat), top_TopRecalled_J7 (top_TopRecalled_L1 who1 kept2 n1 other1 r1 m_top_TopRecalled_L1) i1 v3 = some r ∧ s = ⟨tl t0 [(3, .int .u8 other1), (9, .bool r1), (10, .int .i64 n1), (13, .ref 0 0 who1.length 1), (14, .ref 1 0 kept2.length 1), (25, .int .i64 i1), (205, .bool v3)], hl [⟨3, 1, false, who1.map (ci .i64)⟩, ⟨30, 1, false, kept2.map (cl 6 Kept.c)⟩], 2, 207⟩) ?_ ?_
             ·refine bool_split (b := r4.2) (fun zc6 => ?_) (fun zc6 => ?_)
              ·have H := cond_t zc6 H
               refine a_reg _ rfl (s := ?zs21) ?_ ?_
               rotate_left
               ·simp only [EVT, stepR, evOp, St.ev, St.app, St.put, wrs, evUn, datOf, datOf1, evIndexAddr, evLoad, cut, evToStr, elems, allOne, frz, TIS, CS, reduceAdd, reduceMul, reduceEqDiff, ↓reduceIte, reduceCtorEq, reduceLT, reduceLeDiff, Array.reduceGetElem?, Int.reduceToNat, reduceSub, Nat.reduceBEq, ↓zc4, zg1, zg2, ↓zc6]
                try simp only [EVT, stepR, evOp, St.ev, St.app, St.put, wrs, evUn, datOf, datOf1, evIndexAddr, evLoad, cut, evToStr, elems, allOne, frz, TIS, CS, reduceAdd, reduceMul, reduceEqDiff, ↓reduceIte, reduceCtorEq, reduceLT, reduceLeDiff, Array.reduceGetElem?, Int.reduceToNat, reduceSub, Nat.reduceBEq, ↓zc4, zg1, zg2, ↓zc6]
                (repeat' apply And.intro) <;> first|rfl|assumption|omega|(simp;done)|(simp;omega)|(simp_all;done)
               refine cA_n ?_
               refine wk_l [(some 0, ⟨3, 1, false, who1.map (ci .i64)⟩), (some 1, ⟨30, 1, false, kept2.map (cl 6 Kept.c)⟩)] [] [(3, .int .u8 other1), (9, .bool r1), (10, .int .i64 n1), (13, .ref 0 0 who1.length 1), (14, .ref 1 0 kept2.length 1), (25, .int .i64 i1), (205, .bool true)] (by show ([3, 9, 10, 13, 14, 25, 205] : List Nat).Nodup; decide) (by show ([0, 1] : List Nat).Nodup; decide) ?_ ?_ (fun t0 => ⟨true, t0, H, rfl⟩)
               ·exact (allB_some (by rfl) rfl (.sm _ _ (ci_pu .i64)) (allB_some (by rfl) rfl (.sm _ _ (cl_pu Kept.pu)) trivial))
               ·(simp only [AllT, ATT, reduceEqDiff, ↓reduceIte, and_true]); exact ⟨(.int' rfl), (.bool' rfl), (.int' rfl), (.refl' (by first|rfl|omega|(simp;done)|(simp;omega)|(simp_all;done)) rfl), (.refl' (by first|rfl|omega|(simp;done)|(simp;omega)|(simp_all;done)) rfl), (.int' rfl), (.bool' (by first | rfl | assumption | (simp_all; done)))⟩
              ·have H := cond_f zc6 H
               refine bool_split (b := (!r5.2)) (fun zc7 => ?_) (fun zc7 => ?_)
               ·have H := cond_t zc7 H
                refine a_reg _ rfl (s := ?zs22) ?_ ?_
                rotate_left
                ·simp only [EVT, stepR, evOp, St.ev, St.app, St.put, wrs, evUn, datOf, datOf1, evIndexAddr, evLoad, cut, evToStr, elems, allOne, frz, TIS, CS, reduceAdd, reduceMul, reduceEqDiff, ↓reduceIte, reduceCtorEq, reduceLT, reduceLeDiff, Array.reduceGetElem?, Int.reduceToNat, reduceSub, Nat.reduceBEq, ↓zc4, zg1, zg2, ↓zc6, ↓zc7]
                 try simp only [EVT, stepR, evOp, St.ev, St.app, St.put, wrs, evUn, datOf, datOf1, evIndexAddr, evLoad, cut, evToStr, elems, allOne, frz, TIS, CS, reduceAdd, reduceMul, reduceEqDiff, ↓reduceIte, reduceCtorEq, reduceLT, reduceLeDiff, Array.reduceGetElem?, Int.reduceToNat, reduceSub, Nat.reduceBEq, ↓zc4, zg1, zg2, ↓zc6, ↓zc7]
                 (repeat' apply And.intro) <;> first|rfl|assumption|omega|(simp;done)|(simp;omega)|(simp_all;done)
                refine cA_n ?_
                refine wk_l [(some 0, ⟨3, 1, false, who1.map (ci .i64)⟩), (some 1, ⟨30, 1, false, kept2.map (cl 6 Kept.c)⟩)] [] [(3, .int .u8 other1), (9, .bool r1), (10, .int .i64 n1), (13, .ref 0 0 who1.length 1), (14, .ref 1 0 kept2.length 1), (25, .int .i64 i1), (205, .bool true)] (by show ([3, 9, 10, 13, 14, 25, 205] : List Nat).Nodup; decide) (by show ([0, 1] : List Nat).Nodup; decide) ?_ ?_ (fun t0 => ⟨true, t0, H, rfl⟩)
                ·exact (allB_some (by rfl) rfl (.sm _ _ (ci_pu .i64)) (allB_some (by rfl) rfl (.sm _ _ (cl_pu Kept.pu)) trivial))
                ·(simp only [AllT, ATT, reduceEqDiff, ↓reduceIte, and_true]); exact ⟨(.int' rfl), (.bool' rfl), (.int' rfl), (.refl' (by first|rfl|omega|(simp;done)|(simp;omega)|(simp_all;done)) rfl), (.refl' (by first|rfl|omega|(simp;done)|(simp;omega)|(simp_all;done)) rfl), (.int' rfl), (.bool' (by first | rfl | assumption | (simp_all; done)))⟩
               ·have H := cond_f zc7 H
                obtain ⟨r6, zh10, H⟩ := bind_some H
                have zk6 := ref02_Bytes_pc zh10
                refine a_reg _ rfl (s := ?zs23) ?_ ?_
                rotate_left
                ·try simp only [EVT, stepR, evOp, St.ev, St.app, St.put, wrs, evUn, datOf, datOf1, evIndexAddr, evLoad, cut, evToStr, elems, allOne, frz, TIS, CS, reduceAdd, reduceMul, reduceEqDiff, ↓reduceIte, reduceCtorEq, reduceLT, reduceLeDiff, Array.reduceGetElem?, Int.reduceToNat, reduceSub, Nat.reduceBEq, ↓zc4, zg1, zg2, ↓zc6, ↓zc7]
                 repeat' with_reducible apply And.intro
                 all_goals try ((with_reducible show CallR _ _ _ _ _ _ _); refine cR_s zk6 (.cons (.lst _ _ _ (ci_pu .u8) rfl) (.cons (.ownL (by rfl) (fun e => by cases e) rfl (by first|rfl|omega|(simp;done)|(simp;omega)|(simp_all;done)) (.sm _ _ (ci_pu .u8))) .nil)) (.bool _) ?_; simp only [EVT, stepR, evOp, St.ev, St.app, St.put, wrs, evUn, datOf, datOf1, evIndexAddr, evLoad, cut, evToStr, elems, allOne, frz, TIS, CS, reduceAdd, reduceMul, reduceEqDiff, ↓reduceIte, reduceCtorEq, reduceLT, reduceLeDiff, Array.reduceGetElem?, Int.reduceToNat, reduceSub, Nat.reduceBEq, ↓zc4, zg1, zg2, ↓zc6, ↓zc7])
                 all_goals ((repeat' apply And.intro) <;> first|rfl|assumption|omega|(simp;done)|(simp;omega)|(simp_all;done))
                refine cA_n ?_
                refine wk_l [(some 0, ⟨3, 1, false, who1.map (ci .i64)⟩), (some 1, ⟨30, 1, false, kept2.map (cl 6 Kept.c)⟩)] [] [(3, .int .u8 other1), (9, .bool r1), (10, .int .i64 n1), (13, .ref 0 0 who1.length 1), (14, .ref 1 0 kept2.length 1), (25, .int .i64 i1), (205, .bool (!r6))] (by show ([3, 9, 10, 13, 14, 25, 205] : List Nat).Nodup; decide) (by show ([0, 1] : List Nat).Nodup; decide) ?_ ?_ (fun t0 => ⟨(!r6), t0, H, rfl⟩)
                ·exact (allB_some (by rfl) rfl (.sm _ _ (ci_pu .i64)) (allB_some (by rfl) rfl (.sm _ _ (cl_pu Kept.pu)) trivial))
                ·(simp only [AllT, ATT, reduceEqDiff, ↓reduceIte, and_true]); exact ⟨(.int' rfl), (.bool' rfl), (.int' rfl), (.refl' (by first|rfl|omega|(simp;done)|(simp;omega)|(simp_all;done)) rfl), (.refl' (by first|rfl|omega|(simp;done)|(simp;omega)|(simp_all;done)) rfl), (.int' rfl), (.bool' rfl)⟩
             ·rintro s ⟨v3, t0, H, rfl⟩
              unfold top_TopRecalled_J7 at H
              refine a_condb (v3) (by rfl) (fun zc5 => ?_) (fun zc5 => ?_)
              ·have H := cond_t zc5 H
               refine a_seq ?_
               refine a_reg _ rfl (s := ?zs19) ?_ ?_
               rotate_left
               ·simp only [EVT, stepR, evOp, St.ev, St.app, St.put, wrs, datOf, datOf1, TIS, CS, reduceAdd, reduceMul, reduceEqDiff, ↓reduceIte, reduceCtorEq, reduceLT, reduceLeDiff, ↓zc5]
                (repeat' apply And.intro) <;> first|rfl|assumption|omega|(simp;done)|(simp;omega)|(simp_all;done)
               refine sA_n ?_
               refine a_ret ?_
               refine bA_r ?_
               refine sA_r ?_
               refine lA_r ?_
               refine bA_r ?_
               refine cA_r ?_
               obtain rfl := Option.some.inj H
               refine e_r2 (d := ?zd5) ?_ ?_
               rotate_left
               ·simp only [EVT, resR, single, evLoad, cut, TIS, CS, reduceAdd, reduceEqDiff, ↓reduceIte, reduceCtorEq, reduceLT, reduceLeDiff, reduceSub, Nat.reduceBEq, zc5]
                (repeat' apply And.intro) <;> first | rfl | assumption | omega | (simp; done)
               exact (.bool' (by first | rfl | assumption | (simp_all; done)))
              ·have H := cond_f zc5 H
               refine a_skip ?_
               refine bA_n ?_
               refine sA_n ?_
               refine a_reg _ rfl (s := ?zs20) ?_ ?_
               rotate_left
               ·simp only [EVT, stepR, evOp, St.ev, St.app, St.put, wrs, datOf, datOf1, evBin, binInt, TIS, CS, reduceAdd, reduceMul, reduceEqDiff, ↓reduceIte, reduceCtorEq, reduceLT, reduceLeDiff, ↓zc5]
                (repeat' apply And.intro) <;> first|rfl|assumption|omega|(simp;done)|(simp;omega)|(simp_all;done)
               refine lA_n ?_
               refine wk_l [(some 0, ⟨3, 1, false, who1.map (ci .i64)⟩), (some 1, ⟨30, 1, false, kept2.map (cl 6 Kept.c)⟩)] [] [(3, .int .u8 other1), (9, .bool r1), (10, .int .i64 n1), (13, .ref 0 0 who1.length 1), (14, .ref 1 0 kept2.length 1), (25, .int .i64 (IntKind.wrap .i64 (i1 + 1)))] (by show ([3, 9, 10, 13, 14, 25] : List Nat).Nodup; decide) (by show ([0, 1] : List Nat).Nodup; decide) ?_ ?_ (fun t0 => ⟨_, Nat.lt_succ_self _, (IntKind.wrap .i64 (i1 + 1)), t0, H, rfl⟩)
               ·exact (allB_some (by rfl) rfl (.sm _ _ (ci_pu .i64)) (allB_some (by rfl) rfl (.sm _ _ (cl_pu Kept.pu)) trivial))
               ·(simp only [AllT, ATT, reduceEqDiff, ↓reduceIte, and_true]); exact ⟨(.int' rfl), (.bool' rfl), (.int' rfl), (.refl' (by first|rfl|omega|(simp;done)|(simp;omega)|(simp_all;done)) rfl), (.refl' (by first|rfl|omega|(simp;done)|(simp;omega)|(simp_all;done)) rfl), (.int' rfl)⟩
            ·have H := cond_f zc4 H
             refine a_exit ?_
             refine sA_e ?_
             refine lA_e ?_
             refine bA_hit ?_
             refine cA_n ?_
             refine wk_l [] [] [(9, .bool r1)] (by show ([9] : List Nat).Nodup; decide) (by show ([] : List Nat).Nodup; decide) ?_ ?_ (fun t0 => ⟨t0, H, rfl⟩)
             ·exact trivial
             ·(simp only [AllT, ATT, reduceEqDiff, ↓reduceIte, and_true]); exact (.bool' rfl)
         ·rintro s ⟨t0, H, rfl⟩
          unfold top_TopRecalled_J6 at H
          refine a_seq ?_
          refine a_reg _ rfl (s := ?zs14) ?_ ?_
          rotate_left
          ·simp only [EVT, stepR, evOp, St.ev, St.app, St.put, wrs, TIS, CS, reduceAdd, reduceMul, reduceEqDiff, ↓reduceIte, reduceCtorEq, reduceLT, reduceLeDiff]
           (repeat' apply And.intro) <;> first|rfl|assumption|omega|(simp;done)|(simp;omega)|(simp_all;done)
          refine sA_n ?_
          refine a_ret ?_
          obtain rfl := Option.some.inj H
          refine e_r2 (d := ?zd4) ?_ ?_
          rotate_left
          ·simp only [EVT, resR, single, evLoad, cut, TIS, CS, reduceAdd, reduceEqDiff, ↓reduceIte, reduceCtorEq, reduceLT, reduceLeDiff, reduceSub, Nat.reduceBEq]
           (repeat' apply And.intro) <;> first | rfl | assumption | omega | (simp; done)
          exact (.bool' rfl)
end
end Go.Proofs.Ytogickapcbibbaa
