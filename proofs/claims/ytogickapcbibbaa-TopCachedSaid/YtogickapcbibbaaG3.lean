/- Functions of the program as Lean functions, and that they are so; printed by a program of mine. -/
import Derived.Test.YtogickapcbibbaaF5
set_option linter.unusedSimpArgs false
set_option linter.unusedVariables false
namespace Go.Proofs.Ytogickapcbibbaa
open Go.Ab
noncomputable section

def top_TopCached_J4 (r1 : Bool) : Option Bool :=
  some (r1)
def top_TopCached_J6 (k_top_TopCached_L1 : PlaceR14 → Int → Option Bool) (p2 : PlaceR14) (i1 : Int) (v3 : Bool) : Option Bool :=
  cond v3 (some (false)) (k_top_TopCached_L1 p2 (IntKind.wrap .i64 (i1 + 1)))
def top_TopCached_J5 (k_top_TopCached_L1 : PlaceR14 → Int → Option Bool) (r3 : (List Int)) (i1 : Int) (p2 : PlaceR14) : Option Bool :=
  (idx r3 i1).bind fun x1 => (cache_GetPage_f p2.k 5 0 x1).bind fun r4 => (cache_GetName_f p2.k 9 (⟨#[120]⟩ : ByteArray) x1).bind fun r5 => cond r4.2 ((ref02_Bytes_f r4.1 [(IntKind.wrap .u8 p2.data)]).bind fun r6 => cond (!r6) (top_TopCached_J6 k_top_TopCached_L1 p2 i1 true) (cond r5.2 (cond (r5.1 != p2.is) (top_TopCached_J6 k_top_TopCached_L1 p2 i1 true) ((lease_Right_f p2.l).bind fun r7 => cond (!r7) (top_TopCached_J6 k_top_TopCached_L1 p2 i1 true) ((cache_Right_f p2.k).bind fun r8 => top_TopCached_J6 k_top_TopCached_L1 p2 i1 (!r8)))) ((lease_Right_f p2.l).bind fun r9 => cond (!r9) (top_TopCached_J6 k_top_TopCached_L1 p2 i1 true) ((cache_Right_f p2.k).bind fun r10 => top_TopCached_J6 k_top_TopCached_L1 p2 i1 (!r10))))) (cond r5.2 (cond (r5.1 != p2.is) (top_TopCached_J6 k_top_TopCached_L1 p2 i1 true) ((lease_Right_f p2.l).bind fun r11 => cond (!r11) (top_TopCached_J6 k_top_TopCached_L1 p2 i1 true) ((cache_Right_f p2.k).bind fun r12 => top_TopCached_J6 k_top_TopCached_L1 p2 i1 (!r12)))) ((lease_Right_f p2.l).bind fun r13 => cond (!r13) (top_TopCached_J6 k_top_TopCached_L1 p2 i1 true) ((cache_Right_f p2.k).bind fun r14 => top_TopCached_J6 k_top_TopCached_L1 p2 i1 (!r14))))
def top_TopCached_L1 (reals1 : List Int) (acts1 : List ActR14) (r2 : (List Int)) (r3 : (List Int)) (r1 : Bool) : Nat → PlaceR14 → Int → Option Bool
  | 0, _, _ => none
  | m_ + 1, p1, i1 => cond (decide (i1 < (reals1.length : Int))) (cond (decide (i1 < (acts1.length : Int))) ((idx acts1 i1).bind fun x2 => (idx r2 i1).bind fun x3 => (idx r3 i1).bind fun x4 => (top_didR14_f p1 x2 x3 x4).bind fun r15 => top_TopCached_J5 (top_TopCached_L1 reals1 acts1 r2 r3 r1 m_) r3 i1 r15) (top_TopCached_J5 (top_TopCached_L1 reals1 acts1 r2 r3 r1 m_) r3 i1 p1)) (top_TopCached_J4 r1)
def top_TopCached_J3 (r1 : Bool) (reals1 : List Int) (acts1 : List ActR14) (r2 : (List Int)) (r3 : (List Int)) (v2 : Bool) : Option Bool :=
  cond v2 (some (r1)) (top_TopCached_L1 reals1 acts1 r2 r3 r1 BIG (⟨[], 0, 0, []⟩ : PlaceR14) 0)
def top_TopCached_J2 (server1 : List Int) (client1 : List Int) (r1 : Bool) (acts1 : List ActR14) (reals1 : List Int) : Option Bool :=
  (law03_Shows_f reals1 server1).bind fun r2 => (law03_Shows_f reals1 client1).bind fun r3 => (clock_Right_f reals1 r2).bind fun r16 => cond (!r16) (top_TopCached_J3 r1 reals1 acts1 r2 r3 true) ((clock_Right_f reals1 r3).bind fun r17 => top_TopCached_J3 r1 reals1 acts1 r2 r3 ((!r17) || (((r2.length : Int) != (((reals1.length : Nat)) : Int)) || ((r3.length : Int) != (((reals1.length : Nat)) : Int)))))
def top_TopCached_L2 (gaps1 : List Int) (server1 : List Int) (client1 : List Int) (r1 : Bool) (acts1 : List ActR14) : Nat → (List Int) → Int → Option Bool
  | 0, _, _ => none
  | m_ + 1, reals2, i2 => cond (decide (i2 < (gaps1.length : Int))) ((idx reals2 i2).bind fun x5 => (idx gaps1 i2).bind fun x6 => chk ((reals2.length + 1) * 8 ≤ 140737488355328) (top_TopCached_L2 gaps1 server1 client1 r1 acts1 m_ (reals2 ++ [(IntKind.wrap .i64 (x5 + (Int.tmod (IntKind.wrap .i64 x6) 100)))]) (IntKind.wrap .i64 (i2 + 1)))) (top_TopCached_J2 server1 client1 r1 acts1 reals2)
def top_TopCached_J1 (r1 : Bool) (gaps1 : List Int) (server1 : List Int) (client1 : List Int) (acts1 : List ActR14) (v1 : Bool) : Option Bool :=
  cond v1 (some (r1)) (top_TopCached_L2 gaps1 server1 client1 r1 acts1 BIG [0] 0)
def top_TopCached_f (gaps1 : List Int) (server1 : List Int) (client1 : List Int) (acts1 : List ActR14) : Option Bool :=
  (top_head23_f).bind fun r1 => top_TopCached_J1 r1 gaps1 server1 client1 acts1 (((gaps1.length : Int) == 0) || (decide (14 < (gaps1.length : Int))))
set_option maxHeartbeats 4000000 in
set_option maxRecDepth 20000 in
theorem top_TopCached_pc {gaps1 : List Int} {server1 : List Int} {client1 : List Int} {acts1 : List ActR14} {r : Bool} (H : top_TopCached_f gaps1 server1 client1 acts1 = some r) : PC Try.prog 3 [.list 1 (gaps1.map (ci .u16)), .list 1 (server1.map (ci .u16)), .list 1 (client1.map (ci .u16)), .list 2 (acts1.map ActR14.c)] (.bool r) := by
  refine pcA_of Try.func3 (by rfl) (by decide) 159 (by rfl) [.tmp 8] (by rfl) ?_
  unfold top_TopCached_f at H
  simp only [ent]
  refine a_seq ?_
  refine a_reg _ rfl (s := ?zs1) ?_ ?_
  rotate_left
  · simp (maxSteps := 2000000) only [EVT, stepR, evOp, St.ev, St.app, St.put, wrs, datOf, datOf1, TIS, CS, Nat.reduceAdd, Nat.reduceMul, Nat.reduceEqDiff, ↓reduceIte, reduceCtorEq, Nat.reduceLT, Nat.reduceLeDiff]
    (repeat' apply And.intro) <;> first | rfl | assumption | omega | (left; omega) | (simp; done) | (simp; omega) | (right; exact ⟨_, rfl, rfl, rfl, by decide, by first | omega | (simp; omega)⟩) | (simp_all; done)
  refine sA_n ?_
  refine a_seq ?_
  obtain ⟨r1, zh1, H⟩ := bind_some H
  have zk1 := top_head23_pc zh1
  refine a_reg _ rfl (s := ?zs2) ?_ ?_
  rotate_left
  · try simp (maxSteps := 2000000) only [EVT, stepR, evOp, St.ev, St.app, St.put, wrs, frz, TIS, CS, Nat.reduceAdd, Nat.reduceMul, Nat.reduceEqDiff, ↓reduceIte, reduceCtorEq, Nat.reduceLT, Nat.reduceLeDiff, Nat.reduceSub, Nat.reduceBEq]
    repeat' with_reducible apply And.intro
    all_goals try ((with_reducible show CallR _ _ _ _ _ _ _); refine cR_s zk1 .nil (.bool _) ?_; simp (maxSteps := 2000000) only [EVT, stepR, evOp, St.ev, St.app, St.put, wrs, frz, TIS, CS, Nat.reduceAdd, Nat.reduceMul, Nat.reduceEqDiff, ↓reduceIte, reduceCtorEq, Nat.reduceLT, Nat.reduceLeDiff, Nat.reduceSub, Nat.reduceBEq])
    all_goals ((repeat' apply And.intro) <;> first | rfl | assumption | omega | (left; omega) | (simp; done) | (simp; omega) | (right; exact ⟨_, rfl, rfl, rfl, by decide, by first | omega | (simp; omega)⟩) | (simp_all; done))
  refine sA_n ?_
  refine a_seq ?_
  refine a_cut (fun s => ∃ (v1 : Bool) (t0 : Nat → Dat), top_TopCached_J1 r1 gaps1 server1 client1 acts1 v1 = some r ∧ s = ⟨tl t0 [(0, .list 1 (gaps1.map (ci .u16))), (1, .list 1 (server1.map (ci .u16))), (2, .list 1 (client1.map (ci .u16))), (3, .list 2 (acts1.map ActR14.c)), (9, .bool r1), (28, .bool v1)], hl [], 0, 159⟩) ?_ ?_
  · refine bool_split (b := ((gaps1.length : Int) == 0)) (fun zc20 => ?_) (fun zc20 => ?_)
    · rw [zc20] at H
      refine a_reg _ rfl (s := ?zs37) ?_ ?_
      rotate_left
      · simp (maxSteps := 2000000) only [EVT, stepR, evOp, St.ev, St.app, St.put, wrs, evBuiltin, datOf, datOf1, evBin, binInt, TIS, CS, Nat.reduceAdd, Nat.reduceMul, Nat.reduceEqDiff, ↓reduceIte, reduceCtorEq, Nat.reduceLT, Nat.reduceLeDiff, Array.reduceGetElem?, Nat.reduceSub, Nat.reduceBEq, ↓zc20]
        try simp (maxSteps := 2000000) only [EVT, stepR, evOp, St.ev, St.app, St.put, wrs, evBuiltin, datOf, datOf1, evBin, binInt, TIS, CS, Nat.reduceAdd, Nat.reduceMul, Nat.reduceEqDiff, ↓reduceIte, reduceCtorEq, Nat.reduceLT, Nat.reduceLeDiff, Array.reduceGetElem?, Nat.reduceSub, Nat.reduceBEq, ↓zc20]
        (repeat' apply And.intro) <;> first | rfl | assumption | omega | (left; omega) | (simp; done) | (simp; omega) | (right; exact ⟨_, rfl, rfl, rfl, by decide, by first | omega | (simp; omega)⟩) | (simp_all; done)
      refine cA_n ?_
      refine wk_l [] [] [(0, .list 1 (gaps1.map (ci .u16))), (1, .list 1 (server1.map (ci .u16))), (2, .list 1 (client1.map (ci .u16))), (3, .list 2 (acts1.map ActR14.c)), (9, .bool r1), (28, .bool true)] (by show ([0, 1, 2, 3, 9, 28] : List Nat).Nodup; decide) (by show ([] : List Nat).Nodup; decide) ?_ ?_ (fun t0 => ⟨true, t0, H, rfl⟩)
      · exact trivial
      · (simp only [AllT, tl_cons, tl_nil, upd_apply, List.getD_cons_zero, List.getD_cons_succ, Nat.reduceEqDiff, ↓reduceIte, and_true]); exact ⟨(.lst _ _ _ (ci_pu .u16) rfl), (.lst _ _ _ (ci_pu .u16) rfl), (.lst _ _ _ (ci_pu .u16) rfl), (.lst _ _ _ ActR14.pu rfl), (.bool' rfl), (.bool' (by first | rfl | assumption | (simp_all; done)))⟩
    · rw [zc20] at H
      refine a_reg _ rfl (s := ?zs38) ?_ ?_
      rotate_left
      · simp (maxSteps := 2000000) only [EVT, stepR, evOp, St.ev, St.app, St.put, wrs, evBuiltin, datOf, datOf1, evBin, binInt, TIS, CS, Nat.reduceAdd, Nat.reduceMul, Nat.reduceEqDiff, ↓reduceIte, reduceCtorEq, Nat.reduceLT, Nat.reduceLeDiff, Array.reduceGetElem?, Nat.reduceSub, Nat.reduceBEq, ↓zc20]
        try simp (maxSteps := 2000000) only [EVT, stepR, evOp, St.ev, St.app, St.put, wrs, evBuiltin, datOf, datOf1, evBin, binInt, TIS, CS, Nat.reduceAdd, Nat.reduceMul, Nat.reduceEqDiff, ↓reduceIte, reduceCtorEq, Nat.reduceLT, Nat.reduceLeDiff, Array.reduceGetElem?, Nat.reduceSub, Nat.reduceBEq, ↓zc20]
        (repeat' apply And.intro) <;> first | rfl | assumption | omega | (left; omega) | (simp; done) | (simp; omega) | (right; exact ⟨_, rfl, rfl, rfl, by decide, by first | omega | (simp; omega)⟩) | (simp_all; done)
      refine cA_n ?_
      refine wk_l [] [] [(0, .list 1 (gaps1.map (ci .u16))), (1, .list 1 (server1.map (ci .u16))), (2, .list 1 (client1.map (ci .u16))), (3, .list 2 (acts1.map ActR14.c)), (9, .bool r1), (28, .bool (decide (14 < (gaps1.length : Int))))] (by show ([0, 1, 2, 3, 9, 28] : List Nat).Nodup; decide) (by show ([] : List Nat).Nodup; decide) ?_ ?_ (fun t0 => ⟨(decide (14 < (gaps1.length : Int))), t0, H, rfl⟩)
      · exact trivial
      · (simp only [AllT, tl_cons, tl_nil, upd_apply, List.getD_cons_zero, List.getD_cons_succ, Nat.reduceEqDiff, ↓reduceIte, and_true]); exact ⟨(.lst _ _ _ (ci_pu .u16) rfl), (.lst _ _ _ (ci_pu .u16) rfl), (.lst _ _ _ (ci_pu .u16) rfl), (.lst _ _ _ ActR14.pu rfl), (.bool' rfl), (.bool' rfl)⟩
  · rintro s ⟨v1, t0, H, rfl⟩
    unfold top_TopCached_J1 at H
    refine a_condb (v1) (by rfl) (fun zc1 => ?_) (fun zc1 => ?_)
    · have H := cond_t zc1 H
      refine a_seq ?_
      refine a_reg _ rfl (s := ?zs3) ?_ ?_
      rotate_left
      · simp (maxSteps := 2000000) only [EVT, stepR, evOp, St.ev, St.app, St.put, wrs, TIS, CS, Nat.reduceAdd, Nat.reduceMul, Nat.reduceEqDiff, ↓reduceIte, reduceCtorEq, Nat.reduceLT, Nat.reduceLeDiff, ↓zc1]
        (repeat' apply And.intro) <;> first | rfl | assumption | omega | (left; omega) | (simp; done) | (simp; omega) | (right; exact ⟨_, rfl, rfl, rfl, by decide, by first | omega | (simp; omega)⟩) | (simp_all; done)
      refine sA_n ?_
      refine a_ret ?_
      refine sA_r ?_
      obtain rfl := Option.some.inj H
      refine e_r2 (d := ?zd1) ?_ ?_
      rotate_left
      · simp only [EVT, resR, single, evLoad, cut, TIS, CS, Nat.reduceAdd, Nat.reduceEqDiff, ↓reduceIte, reduceCtorEq, Nat.reduceLT, Nat.reduceLeDiff, Nat.reduceSub, Nat.reduceBEq, zc1]
        (repeat' apply And.intro) <;> first | rfl | assumption | omega | (simp; done)
      exact (.bool' rfl)
    · have H := cond_f zc1 H
      refine a_skip ?_
      refine sA_n ?_
      refine a_seq ?_
      refine a_reg _ rfl (s := ?zs4) ?_ ?_
      rotate_left
      · simp (maxSteps := 2000000) only [EVT, stepR, evOp, St.ev, St.app, St.put, wrs, datOf, datOf1, allOne, TIS, CS, Nat.reduceAdd, Nat.reduceMul, Nat.reduceEqDiff, ↓reduceIte, reduceCtorEq, Nat.reduceLT, Nat.reduceLeDiff, Nat.reduceSub, Nat.reduceBEq, ↓zc1]
        (repeat' apply And.intro) <;> first | rfl | assumption | omega | (left; omega) | (simp; done) | (simp; omega) | (right; exact ⟨_, rfl, rfl, rfl, by decide, by first | omega | (simp; omega)⟩) | (simp_all; done)
      refine sA_n ?_
      refine a_cut (fun s => ∃ (reals1 : List Int) (t0 : Nat → Dat), top_TopCached_J2 server1 client1 r1 acts1 reals1 = some r ∧ s = ⟨tl t0 [(1, .list 1 (server1.map (ci .u16))), (2, .list 1 (client1.map (ci .u16))), (3, .list 2 (acts1.map ActR14.c)), (9, .bool r1), (10, .ref 0 0 reals1.length 1)], hl [⟨3, 1, false, reals1.map (ci .i64)⟩], 1, 159⟩) ?_ ?_
      · refine a_seq ?_
        refine a_reg _ rfl (s := ?zs33) ?_ ?_
        rotate_left
        · simp (maxSteps := 2000000) only [EVT, stepR, evOp, St.ev, St.app, St.put, wrs, datOf, datOf1, TIS, CS, Nat.reduceAdd, Nat.reduceMul, Nat.reduceEqDiff, ↓reduceIte, reduceCtorEq, Nat.reduceLT, Nat.reduceLeDiff, ↓zc1]
          (repeat' apply And.intro) <;> first | rfl | assumption | omega | (left; omega) | (simp; done) | (simp; omega) | (right; exact ⟨_, rfl, rfl, rfl, by decide, by first | omega | (simp; omega)⟩) | (simp_all; done)
        refine sA_n ?_
        refine a_blk ?_
        refine a_loop (fun m s => ∃ (reals2 : List Int) (i2 : Int) (t0 : Nat → Dat), top_TopCached_L2 gaps1 server1 client1 r1 acts1 m reals2 i2 = some r ∧ s = ⟨tl t0 [(0, .list 1 (gaps1.map (ci .u16))), (1, .list 1 (server1.map (ci .u16))), (2, .list 1 (client1.map (ci .u16))), (3, .list 2 (acts1.map ActR14.c)), (9, .bool r1), (10, .ref 0 0 reals2.length 1), (11, .int .i64 i2)], hl [⟨3, 1, false, reals2.map (ci .i64)⟩], 1, 159⟩) BIG ?_ ?_
        · refine wk_l [(some 0, ⟨3, 1, false, [0].map (ci .i64)⟩)] [] [(0, .list 1 (gaps1.map (ci .u16))), (1, .list 1 (server1.map (ci .u16))), (2, .list 1 (client1.map (ci .u16))), (3, .list 2 (acts1.map ActR14.c)), (9, .bool r1), (10, .ref 0 0 [0].length 1), (11, .int .i64 0)] (by show ([0, 1, 2, 3, 9, 10, 11] : List Nat).Nodup; decide) (by show ([0] : List Nat).Nodup; decide) ?_ ?_ (fun t0 => ⟨[0], 0, t0, H, rfl⟩)
          · exact (allB_some (by rfl) rfl (.same _ _ (ci_pu .i64) (by first | rfl | (simp only [List.map_append, List.map_cons, List.map_nil, List.map_set, List.map_take, List.map_drop, List.map_replicate, List.append_assoc, List.nil_append, List.append_nil, ci_eq, cb_eq, cs_eq, cl_eq, CS,  List.nil_append]; done) | (simp [CS,  ci_eq, cb_eq, cs_eq, cl_eq]; done) | (simp [CS,  ci_eq, cb_eq, cs_eq, cl_eq]; intro hz; rw [List.take_of_length_le (by simp; omega)]))) trivial)
          · (simp only [AllT, tl_cons, tl_nil, upd_apply, List.getD_cons_zero, List.getD_cons_succ, Nat.reduceEqDiff, ↓reduceIte, and_true]); exact ⟨(.lst _ _ _ (ci_pu .u16) rfl), (.lst _ _ _ (ci_pu .u16) rfl), (.lst _ _ _ (ci_pu .u16) rfl), (.lst _ _ _ ActR14.pu rfl), (.bool' rfl), (.refl' (by first | rfl | omega | (simp; done) | (simp [strBytes_len]; done) | (simp; omega) | (simp_all; done)) rfl), (.int' rfl)⟩
        · rintro m_top_TopCached_L2 s ⟨reals2, i2, t0, H, rfl⟩
          obtain _ | m_top_TopCached_L2 := m_top_TopCached_L2
          · cases (show (none : Option _) = some _ from H)
          · rw [top_TopCached_L2] at H
            refine a_seq ?_
            refine a_seq ?_
            refine a_reg _ rfl (s := ?zs34) ?_ ?_
            rotate_left
            · simp (maxSteps := 2000000) only [EVT, stepR, evOp, St.ev, St.app, St.put, wrs, evBuiltin, evBin, binInt, TIS, CS, Nat.reduceAdd, Nat.reduceMul, Nat.reduceEqDiff, ↓reduceIte, reduceCtorEq, Nat.reduceLT, Nat.reduceLeDiff, Nat.reduceSub, Nat.reduceBEq]
              (repeat' apply And.intro) <;> first | rfl | assumption | omega | (left; omega) | (simp; done) | (simp; omega) | (right; exact ⟨_, rfl, rfl, rfl, by decide, by first | omega | (simp; omega)⟩) | (simp_all; done)
            refine sA_n ?_
            refine a_condb ((decide (i2 < (gaps1.length : Int)))) (by rfl) (fun zc19 => ?_) (fun zc19 => ?_)
            · have H := cond_t zc19 H
              refine a_skip ?_
              refine sA_n ?_
              refine a_seq ?_
              refine a_blk ?_
              obtain ⟨x5, zh22, H⟩ := bind_some H
              have zg5 := idx_map zh22 (ci .i64)
              try simp only [Int.reduceToNat, Int.toNat_natCast] at zg5
              obtain ⟨zh22a, zh22b, _⟩ := idx_some zh22
              obtain ⟨x6, zh23, H⟩ := bind_some H
              have zg6 := idx_map zh23 (ci .u16)
              try simp only [Int.reduceToNat, Int.toNat_natCast] at zg6
              obtain ⟨zh23a, zh23b, _⟩ := idx_some zh23
              obtain ⟨zh24, H⟩ := chk_some H
              refine a_drW (by kernel_rfl) _ rfl (s := ?zs35) (by kernel_rfl) (by kernel_rfl) ?zs35f ?_ ?_ ?_
              rotate_left 2
              · simp (maxSteps := 2000000) only [EVT, stepW, evOp, St.ev, St.app, St.put, wrs, evIndexAddr, evLoad, cut, evToStr, elems, datOf, datOf1, evBin, binInt, allOne, evBuiltin, evAppend, isAl, Option.elim, TIS, CS, Nat.reduceAdd, Nat.reduceMul, Nat.reduceEqDiff, ↓reduceIte, reduceCtorEq, Nat.reduceLT, Nat.reduceLeDiff, Int.reduceToNat, Nat.reduceSub, Nat.reduceBEq, ↓zc19, zg5, zg6]
                (repeat' apply And.intro) <;> first | rfl | assumption | omega | (left; omega) | (simp; done) | (simp; omega) | (right; exact ⟨_, rfl, rfl, rfl, by decide, by first | omega | (simp; omega)⟩) | (simp_all; done)
              · kernel_rfl
              refine bA_n ?_
              refine sA_n ?_
              refine a_reg _ rfl (s := ?zs36) ?_ ?_
              rotate_left
              · simp (maxSteps := 2000000) only [EVT, stepR, evOp, St.ev, St.app, St.put, wrs, datOf, datOf1, evBin, binInt, TIS, CS, Nat.reduceAdd, Nat.reduceMul, Nat.reduceEqDiff, ↓reduceIte, reduceCtorEq, Nat.reduceLT, Nat.reduceLeDiff, ↓zc19, zg5, zg6]
                (repeat' apply And.intro) <;> first | rfl | assumption | omega | (left; omega) | (simp; done) | (simp; omega) | (right; exact ⟨_, rfl, rfl, rfl, by decide, by first | omega | (simp; omega)⟩) | (simp_all; done)
              refine lA_n ?_
              refine wk_l [(some 46, ⟨3, 1, false, (reals2 ++ [(IntKind.wrap .i64 (x5 + (Int.tmod (IntKind.wrap .i64 x6) 100)))]).map (ci .i64)⟩)] [] [(0, .list 1 (gaps1.map (ci .u16))), (1, .list 1 (server1.map (ci .u16))), (2, .list 1 (client1.map (ci .u16))), (3, .list 2 (acts1.map ActR14.c)), (9, .bool r1), (10, .ref 0 0 (reals2 ++ [(IntKind.wrap .i64 (x5 + (Int.tmod (IntKind.wrap .i64 x6) 100)))]).length 1), (11, .int .i64 (IntKind.wrap .i64 (i2 + 1)))] (by show ([0, 1, 2, 3, 9, 10, 11] : List Nat).Nodup; decide) (by show ([46] : List Nat).Nodup; decide) ?_ ?_ (fun t0 => ⟨_, Nat.lt_succ_self _, (reals2 ++ [(IntKind.wrap .i64 (x5 + (Int.tmod (IntKind.wrap .i64 x6) 100)))]), (IntKind.wrap .i64 (i2 + 1)), t0, H, rfl⟩)
              · exact (allB_some (by rfl) rfl (.same _ _ (ci_pu .i64) (by first | rfl | (simp only [List.map_append, List.map_cons, List.map_nil, List.map_set, List.map_take, List.map_drop, List.map_replicate, List.append_assoc, List.nil_append, List.append_nil, ci_eq, cb_eq, cs_eq, cl_eq, CS,  List.nil_append]; done) | (simp [CS,  ci_eq, cb_eq, cs_eq, cl_eq]; done) | (simp [CS,  ci_eq, cb_eq, cs_eq, cl_eq]; intro hz; rw [List.take_of_length_le (by simp; omega)]))) trivial)
              · (simp only [AllT, tl_cons, tl_nil, upd_apply, List.getD_cons_zero, List.getD_cons_succ, Nat.reduceEqDiff, ↓reduceIte, and_true]); exact ⟨(.lst _ _ _ (ci_pu .u16) rfl), (.lst _ _ _ (ci_pu .u16) rfl), (.lst _ _ _ (ci_pu .u16) rfl), (.lst _ _ _ ActR14.pu rfl), (.bool' rfl), (.refl' (by first | rfl | omega | (simp; done) | (simp [strBytes_len]; done) | (simp; omega) | (simp_all; done)) rfl), (.int' rfl)⟩
            · have H := cond_f zc19 H
              refine a_exit ?_
              refine sA_e ?_
              refine lA_e ?_
              refine bA_hit ?_
              refine cA_n ?_
              refine wk_l [(some 0, ⟨3, 1, false, reals2.map (ci .i64)⟩)] [] [(1, .list 1 (server1.map (ci .u16))), (2, .list 1 (client1.map (ci .u16))), (3, .list 2 (acts1.map ActR14.c)), (9, .bool r1), (10, .ref 0 0 reals2.length 1)] (by show ([1, 2, 3, 9, 10] : List Nat).Nodup; decide) (by show ([0] : List Nat).Nodup; decide) ?_ ?_ (fun t0 => ⟨reals2, t0, H, rfl⟩)
              · exact (allB_some (by rfl) rfl (.same _ _ (ci_pu .i64) (by first | rfl | (simp only [List.map_append, List.map_cons, List.map_nil, List.map_set, List.map_take, List.map_drop, List.map_replicate, List.append_assoc, List.nil_append, List.append_nil, ci_eq, cb_eq, cs_eq, cl_eq, CS,  List.nil_append]; done) | (simp [CS,  ci_eq, cb_eq, cs_eq, cl_eq]; done) | (simp [CS,  ci_eq, cb_eq, cs_eq, cl_eq]; intro hz; rw [List.take_of_length_le (by simp; omega)]))) trivial)
              · (simp only [AllT, tl_cons, tl_nil, upd_apply, List.getD_cons_zero, List.getD_cons_succ, Nat.reduceEqDiff, ↓reduceIte, and_true]); exact ⟨(.lst _ _ _ (ci_pu .u16) rfl), (.lst _ _ _ (ci_pu .u16) rfl), (.lst _ _ _ ActR14.pu rfl), (.bool' rfl), (.refl' (by first | rfl | omega | (simp; done) | (simp [strBytes_len]; done) | (simp; omega) | (simp_all; done)) rfl)⟩
      · rintro s ⟨reals1, t0, H, rfl⟩
        unfold top_TopCached_J2 at H
        refine a_seq ?_
        obtain ⟨r2, zh2, H⟩ := bind_some H
        have zk2 := law03_Shows_pc zh2
        refine a_reg _ rfl (s := ?zs5) ?_ ?_
        rotate_left
        · try simp (maxSteps := 2000000) only [EVT, stepR, evOp, St.ev, St.app, St.put, wrs, frz, TIS, CS, Nat.reduceAdd, Nat.reduceMul, Nat.reduceEqDiff, ↓reduceIte, reduceCtorEq, Nat.reduceLT, Nat.reduceLeDiff, Nat.reduceSub, Nat.reduceBEq]
          repeat' with_reducible apply And.intro
          all_goals try ((with_reducible show CallR _ _ _ _ _ _ _); refine cR_f [0] zk2 (.cons (.ownL ((wrs_frz _ _ _ 0).trans (by rfl)) (fun _ => rfl) rfl (by first | rfl | omega | (simp; done) | (simp [strBytes_len]; done) | (simp; omega) | (simp_all; done)) (.same _ _ (ci_pu .i64) (by first | rfl | (simp only [List.map_append, List.map_cons, List.map_nil, List.map_set, List.map_take, List.map_drop, List.map_replicate, List.append_assoc, List.nil_append, List.append_nil, ci_eq, cb_eq, cs_eq, cl_eq, CS,  List.nil_append]; done) | (simp [CS,  ci_eq, cb_eq, cs_eq, cl_eq]; done) | (simp [CS,  ci_eq, cb_eq, cs_eq, cl_eq]; intro hz; rw [List.take_of_length_le (by simp; omega)])))) (.cons (.lst _ _ _ (ci_pu .u16) rfl) .nil)) ?_; simp (maxSteps := 2000000) only [EVT, stepR, evOp, St.ev, St.app, St.put, wrs, frz, TIS, CS, Nat.reduceAdd, Nat.reduceMul, Nat.reduceEqDiff, ↓reduceIte, reduceCtorEq, Nat.reduceLT, Nat.reduceLeDiff, Nat.reduceSub, Nat.reduceBEq])
          all_goals ((repeat' apply And.intro) <;> first | rfl | assumption | omega | (left; omega) | (simp; done) | (simp; omega) | (right; exact ⟨_, rfl, rfl, rfl, by decide, by first | omega | (simp; omega)⟩) | (simp_all; done))
        refine sA_n ?_
        refine a_seq ?_
        obtain ⟨r3, zh3, H⟩ := bind_some H
        have zk3 := law03_Shows_pc zh3
        refine a_reg _ rfl (s := ?zs6) ?_ ?_
        rotate_left
        · try simp (maxSteps := 2000000) only [EVT, stepR, evOp, St.ev, St.app, St.put, wrs, frz, TIS, CS, Nat.reduceAdd, Nat.reduceMul, Nat.reduceEqDiff, ↓reduceIte, reduceCtorEq, Nat.reduceLT, Nat.reduceLeDiff, Nat.reduceSub, Nat.reduceBEq]
          repeat' with_reducible apply And.intro
          all_goals try ((with_reducible show CallR _ _ _ _ _ _ _); refine cR_p zk3 (.cons (.ownL (by rfl) (fun _ => rfl) rfl (by first | rfl | omega | (simp; done) | (simp [strBytes_len]; done) | (simp; omega) | (simp_all; done)) (.same _ _ (ci_pu .i64) (by first | rfl | (simp only [List.map_append, List.map_cons, List.map_nil, List.map_set, List.map_take, List.map_drop, List.map_replicate, List.append_assoc, List.nil_append, List.append_nil, ci_eq, cb_eq, cs_eq, cl_eq, CS,  List.nil_append]; done) | (simp [CS,  ci_eq, cb_eq, cs_eq, cl_eq]; done) | (simp [CS,  ci_eq, cb_eq, cs_eq, cl_eq]; intro hz; rw [List.take_of_length_le (by simp; omega)])))) (.cons (.lst _ _ _ (ci_pu .u16) rfl) .nil)) ?_; simp (maxSteps := 2000000) only [EVT, stepR, evOp, St.ev, St.app, St.put, wrs, frz, TIS, CS, Nat.reduceAdd, Nat.reduceMul, Nat.reduceEqDiff, ↓reduceIte, reduceCtorEq, Nat.reduceLT, Nat.reduceLeDiff, Nat.reduceSub, Nat.reduceBEq])
          all_goals ((repeat' apply And.intro) <;> first | rfl | assumption | omega | (left; omega) | (simp; done) | (simp; omega) | (right; exact ⟨_, rfl, rfl, rfl, by decide, by first | omega | (simp; omega)⟩) | (simp_all; done))
        refine sA_n ?_
        refine a_seq ?_
        refine a_cut (fun s => ∃ (v2 : Bool) (t0 : Nat → Dat), top_TopCached_J3 r1 reals1 acts1 r2 r3 v2 = some r ∧ s = ⟨tl t0 [(3, .list 2 (acts1.map ActR14.c)), (9, .bool r1), (10, .list 1 (reals1.map (ci .i64))), (12, .list 1 (r2.map (ci .i64))), (13, .list 1 (r3.map (ci .i64))), (80, .bool v2)], hl [], 0, 159⟩) ?_ ?_
        · obtain ⟨r16, zh20, H⟩ := bind_some H
          have zk16 := clock_Right_pc zh20
          refine bool_split (b := (!r16)) (fun zc16 => ?_) (fun zc16 => ?_)
          · have H := cond_t zc16 H
            refine a_reg _ rfl (s := ?zs29) ?_ ?_
            rotate_left
            · try simp (maxSteps := 2000000) only [EVT, stepR, evOp, St.ev, St.app, St.put, wrs, frz, evUn, datOf, datOf1, evBuiltin, evBin, binInt, TIS, CS, Nat.reduceAdd, Nat.reduceMul, Nat.reduceEqDiff, ↓reduceIte, reduceCtorEq, Nat.reduceLT, Nat.reduceLeDiff, Array.reduceGetElem?, Nat.reduceSub, Nat.reduceBEq, ↓zc16]
              repeat' with_reducible apply And.intro
              all_goals try ((with_reducible show CallR _ _ _ _ _ _ _); refine cR_s zk16 (.cons (.ownL (by rfl) (fun _ => rfl) rfl (by first | rfl | omega | (simp; done) | (simp [strBytes_len]; done) | (simp; omega) | (simp_all; done)) (.same _ _ (ci_pu .i64) (by first | rfl | (simp only [List.map_append, List.map_cons, List.map_nil, List.map_set, List.map_take, List.map_drop, List.map_replicate, List.append_assoc, List.nil_append, List.append_nil, ci_eq, cb_eq, cs_eq, cl_eq, CS,  List.nil_append]; done) | (simp [CS,  ci_eq, cb_eq, cs_eq, cl_eq]; done) | (simp [CS,  ci_eq, cb_eq, cs_eq, cl_eq]; intro hz; rw [List.take_of_length_le (by simp; omega)])))) (.cons (.lst _ _ _ (ci_pu .i64) rfl) .nil)) (.bool _) ?_; simp (maxSteps := 2000000) only [EVT, stepR, evOp, St.ev, St.app, St.put, wrs, frz, evUn, datOf, datOf1, evBuiltin, evBin, binInt, TIS, CS, Nat.reduceAdd, Nat.reduceMul, Nat.reduceEqDiff, ↓reduceIte, reduceCtorEq, Nat.reduceLT, Nat.reduceLeDiff, Array.reduceGetElem?, Nat.reduceSub, Nat.reduceBEq, ↓zc16])
              all_goals ((repeat' apply And.intro) <;> first | rfl | assumption | omega | (left; omega) | (simp; done) | (simp; omega) | (right; exact ⟨_, rfl, rfl, rfl, by decide, by first | omega | (simp; omega)⟩) | (simp_all; done))
            refine cA_n ?_
            refine wk_l [] [0] [(3, .list 2 (acts1.map ActR14.c)), (9, .bool r1), (10, .list 1 (reals1.map (ci .i64))), (12, .list 1 (r2.map (ci .i64))), (13, .list 1 (r3.map (ci .i64))), (80, .bool true)] (by show ([3, 9, 10, 12, 13, 80] : List Nat).Nodup; decide) (by show ([] : List Nat).Nodup; decide) ?_ ?_ (fun t0 => ⟨true, t0, H, rfl⟩)
            · exact trivial
            · (simp only [AllT, tl_cons, tl_nil, upd_apply, List.getD_cons_zero, List.getD_cons_succ, Nat.reduceEqDiff, ↓reduceIte, and_true]); exact ⟨(.lst _ _ _ ActR14.pu rfl), (.bool' rfl), (.frz' (by rfl) (by simp) rfl (by first | rfl | omega | (simp; done) | (simp [strBytes_len]; done) | (simp; omega) | (simp_all; done)) (.same _ _ (ci_pu .i64) (by first | rfl | (simp only [List.map_append, List.map_cons, List.map_nil, List.map_set, List.map_take, List.map_drop, List.map_replicate, List.append_assoc, List.nil_append, List.append_nil, ci_eq, cb_eq, cs_eq, cl_eq, CS,  List.nil_append]; done) | (simp [CS,  ci_eq, cb_eq, cs_eq, cl_eq]; done) | (simp [CS,  ci_eq, cb_eq, cs_eq, cl_eq]; intro hz; rw [List.take_of_length_le (by simp; omega)])))), (.lst _ _ _ (ci_pu .i64) rfl), (.lst _ _ _ (ci_pu .i64) rfl), (.bool' (by first | rfl | assumption | (simp_all; done)))⟩
          · have H := cond_f zc16 H
            obtain ⟨r17, zh21, H⟩ := bind_some H
            have zk17 := clock_Right_pc zh21
            refine bool_split (b := (!r17)) (fun zc17 => ?_) (fun zc17 => ?_)
            · rw [zc17] at H
              refine a_reg _ rfl (s := ?zs30) ?_ ?_
              rotate_left
              · try simp (maxSteps := 2000000) only [EVT, stepR, evOp, St.ev, St.app, St.put, wrs, frz, evUn, datOf, datOf1, evBuiltin, evBin, binInt, TIS, CS, Nat.reduceAdd, Nat.reduceMul, Nat.reduceEqDiff, ↓reduceIte, reduceCtorEq, Nat.reduceLT, Nat.reduceLeDiff, Array.reduceGetElem?, Nat.reduceSub, Nat.reduceBEq, ↓zc16, ↓zc17]
                repeat' with_reducible apply And.intro
                all_goals try ((with_reducible show CallR _ _ _ _ _ _ _); refine cR_s zk16 (.cons (.ownL (by rfl) (fun _ => rfl) rfl (by first | rfl | omega | (simp; done) | (simp [strBytes_len]; done) | (simp; omega) | (simp_all; done)) (.same _ _ (ci_pu .i64) (by first | rfl | (simp only [List.map_append, List.map_cons, List.map_nil, List.map_set, List.map_take, List.map_drop, List.map_replicate, List.append_assoc, List.nil_append, List.append_nil, ci_eq, cb_eq, cs_eq, cl_eq, CS,  List.nil_append]; done) | (simp [CS,  ci_eq, cb_eq, cs_eq, cl_eq]; done) | (simp [CS,  ci_eq, cb_eq, cs_eq, cl_eq]; intro hz; rw [List.take_of_length_le (by simp; omega)])))) (.cons (.lst _ _ _ (ci_pu .i64) rfl) .nil)) (.bool _) ?_; simp (maxSteps := 2000000) only [EVT, stepR, evOp, St.ev, St.app, St.put, wrs, frz, evUn, datOf, datOf1, evBuiltin, evBin, binInt, TIS, CS, Nat.reduceAdd, Nat.reduceMul, Nat.reduceEqDiff, ↓reduceIte, reduceCtorEq, Nat.reduceLT, Nat.reduceLeDiff, Array.reduceGetElem?, Nat.reduceSub, Nat.reduceBEq, ↓zc16, ↓zc17])
                repeat' with_reducible apply And.intro
                all_goals try ((with_reducible show CallR _ _ _ _ _ _ _); refine cR_s zk17 (.cons (.ownL (by rfl) (fun _ => rfl) rfl (by first | rfl | omega | (simp; done) | (simp [strBytes_len]; done) | (simp; omega) | (simp_all; done)) (.same _ _ (ci_pu .i64) (by first | rfl | (simp only [List.map_append, List.map_cons, List.map_nil, List.map_set, List.map_take, List.map_drop, List.map_replicate, List.append_assoc, List.nil_append, List.append_nil, ci_eq, cb_eq, cs_eq, cl_eq, CS,  List.nil_append]; done) | (simp [CS,  ci_eq, cb_eq, cs_eq, cl_eq]; done) | (simp [CS,  ci_eq, cb_eq, cs_eq, cl_eq]; intro hz; rw [List.take_of_length_le (by simp; omega)])))) (.cons (.lst _ _ _ (ci_pu .i64) rfl) .nil)) (.bool _) ?_; simp (maxSteps := 2000000) only [EVT, stepR, evOp, St.ev, St.app, St.put, wrs, frz, evUn, datOf, datOf1, evBuiltin, evBin, binInt, TIS, CS, Nat.reduceAdd, Nat.reduceMul, Nat.reduceEqDiff, ↓reduceIte, reduceCtorEq, Nat.reduceLT, Nat.reduceLeDiff, Array.reduceGetElem?, Nat.reduceSub, Nat.reduceBEq, ↓zc16, ↓zc17])
                all_goals ((repeat' apply And.intro) <;> first | rfl | assumption | omega | (left; omega) | (simp; done) | (simp; omega) | (right; exact ⟨_, rfl, rfl, rfl, by decide, by first | omega | (simp; omega)⟩) | (simp_all; done))
              refine cA_n ?_
              refine wk_l [] [0] [(3, .list 2 (acts1.map ActR14.c)), (9, .bool r1), (10, .list 1 (reals1.map (ci .i64))), (12, .list 1 (r2.map (ci .i64))), (13, .list 1 (r3.map (ci .i64))), (80, .bool true)] (by show ([3, 9, 10, 12, 13, 80] : List Nat).Nodup; decide) (by show ([] : List Nat).Nodup; decide) ?_ ?_ (fun t0 => ⟨true, t0, H, rfl⟩)
              · exact trivial
              · (simp only [AllT, tl_cons, tl_nil, upd_apply, List.getD_cons_zero, List.getD_cons_succ, Nat.reduceEqDiff, ↓reduceIte, and_true]); exact ⟨(.lst _ _ _ ActR14.pu rfl), (.bool' rfl), (.frz' (by rfl) (by simp) rfl (by first | rfl | omega | (simp; done) | (simp [strBytes_len]; done) | (simp; omega) | (simp_all; done)) (.same _ _ (ci_pu .i64) (by first | rfl | (simp only [List.map_append, List.map_cons, List.map_nil, List.map_set, List.map_take, List.map_drop, List.map_replicate, List.append_assoc, List.nil_append, List.append_nil, ci_eq, cb_eq, cs_eq, cl_eq, CS,  List.nil_append]; done) | (simp [CS,  ci_eq, cb_eq, cs_eq, cl_eq]; done) | (simp [CS,  ci_eq, cb_eq, cs_eq, cl_eq]; intro hz; rw [List.take_of_length_le (by simp; omega)])))), (.lst _ _ _ (ci_pu .i64) rfl), (.lst _ _ _ (ci_pu .i64) rfl), (.bool' (by first | rfl | assumption | (simp_all; done)))⟩
            · rw [zc17] at H
              refine bool_split (b := ((r2.length : Int) != (((reals1.length : Nat)) : Int))) (fun zc18 => ?_) (fun zc18 => ?_)
              · rw [zc18] at H
                refine a_reg _ rfl (s := ?zs31) ?_ ?_
                rotate_left
                · try simp (maxSteps := 2000000) only [EVT, stepR, evOp, St.ev, St.app, St.put, wrs, frz, evUn, datOf, datOf1, evBuiltin, evBin, binInt, TIS, CS, Nat.reduceAdd, Nat.reduceMul, Nat.reduceEqDiff, ↓reduceIte, reduceCtorEq, Nat.reduceLT, Nat.reduceLeDiff, Array.reduceGetElem?, Nat.reduceSub, Nat.reduceBEq, ↓zc16, ↓zc17, ↓zc18]
                  repeat' with_reducible apply And.intro
                  all_goals try ((with_reducible show CallR _ _ _ _ _ _ _); refine cR_s zk16 (.cons (.ownL (by rfl) (fun _ => rfl) rfl (by first | rfl | omega | (simp; done) | (simp [strBytes_len]; done) | (simp; omega) | (simp_all; done)) (.same _ _ (ci_pu .i64) (by first | rfl | (simp only [List.map_append, List.map_cons, List.map_nil, List.map_set, List.map_take, List.map_drop, List.map_replicate, List.append_assoc, List.nil_append, List.append_nil, ci_eq, cb_eq, cs_eq, cl_eq, CS,  List.nil_append]; done) | (simp [CS,  ci_eq, cb_eq, cs_eq, cl_eq]; done) | (simp [CS,  ci_eq, cb_eq, cs_eq, cl_eq]; intro hz; rw [List.take_of_length_le (by simp; omega)])))) (.cons (.lst _ _ _ (ci_pu .i64) rfl) .nil)) (.bool _) ?_; simp (maxSteps := 2000000) only [EVT, stepR, evOp, St.ev, St.app, St.put, wrs, frz, evUn, datOf, datOf1, evBuiltin, evBin, binInt, TIS, CS, Nat.reduceAdd, Nat.reduceMul, Nat.reduceEqDiff, ↓reduceIte, reduceCtorEq, Nat.reduceLT, Nat.reduceLeDiff, Array.reduceGetElem?, Nat.reduceSub, Nat.reduceBEq, ↓zc16, ↓zc17, ↓zc18])
                  repeat' with_reducible apply And.intro
                  all_goals try ((with_reducible show CallR _ _ _ _ _ _ _); refine cR_s zk17 (.cons (.ownL (by rfl) (fun _ => rfl) rfl (by first | rfl | omega | (simp; done) | (simp [strBytes_len]; done) | (simp; omega) | (simp_all; done)) (.same _ _ (ci_pu .i64) (by first | rfl | (simp only [List.map_append, List.map_cons, List.map_nil, List.map_set, List.map_take, List.map_drop, List.map_replicate, List.append_assoc, List.nil_append, List.append_nil, ci_eq, cb_eq, cs_eq, cl_eq, CS,  List.nil_append]; done) | (simp [CS,  ci_eq, cb_eq, cs_eq, cl_eq]; done) | (simp [CS,  ci_eq, cb_eq, cs_eq, cl_eq]; intro hz; rw [List.take_of_length_le (by simp; omega)])))) (.cons (.lst _ _ _ (ci_pu .i64) rfl) .nil)) (.bool _) ?_; simp (maxSteps := 2000000) only [EVT, stepR, evOp, St.ev, St.app, St.put, wrs, frz, evUn, datOf, datOf1, evBuiltin, evBin, binInt, TIS, CS, Nat.reduceAdd, Nat.reduceMul, Nat.reduceEqDiff, ↓reduceIte, reduceCtorEq, Nat.reduceLT, Nat.reduceLeDiff, Array.reduceGetElem?, Nat.reduceSub, Nat.reduceBEq, ↓zc16, ↓zc17, ↓zc18])
                  all_goals ((repeat' apply And.intro) <;> first | rfl | assumption | omega | (left; omega) | (simp; done) | (simp; omega) | (right; exact ⟨_, rfl, rfl, rfl, by decide, by first | omega | (simp; omega)⟩) | (simp_all; done))
                refine cA_n ?_
                refine wk_l [] [0] [(3, .list 2 (acts1.map ActR14.c)), (9, .bool r1), (10, .list 1 (reals1.map (ci .i64))), (12, .list 1 (r2.map (ci .i64))), (13, .list 1 (r3.map (ci .i64))), (80, .bool true)] (by show ([3, 9, 10, 12, 13, 80] : List Nat).Nodup; decide) (by show ([] : List Nat).Nodup; decide) ?_ ?_ (fun t0 => ⟨true, t0, H, rfl⟩)
                · exact trivial
                · (simp only [AllT, tl_cons, tl_nil, upd_apply, List.getD_cons_zero, List.getD_cons_succ, Nat.reduceEqDiff, ↓reduceIte, and_true]); exact ⟨(.lst _ _ _ ActR14.pu rfl), (.bool' rfl), (.frz' (by rfl) (by simp) rfl (by first | rfl | omega | (simp; done) | (simp [strBytes_len]; done) | (simp; omega) | (simp_all; done)) (.same _ _ (ci_pu .i64) (by first | rfl | (simp only [List.map_append, List.map_cons, List.map_nil, List.map_set, List.map_take, List.map_drop, List.map_replicate, List.append_assoc, List.nil_append, List.append_nil, ci_eq, cb_eq, cs_eq, cl_eq, CS,  List.nil_append]; done) | (simp [CS,  ci_eq, cb_eq, cs_eq, cl_eq]; done) | (simp [CS,  ci_eq, cb_eq, cs_eq, cl_eq]; intro hz; rw [List.take_of_length_le (by simp; omega)])))), (.lst _ _ _ (ci_pu .i64) rfl), (.lst _ _ _ (ci_pu .i64) rfl), (.bool' (by first | rfl | assumption | (simp_all; done)))⟩
              · rw [zc18] at H
                refine a_reg _ rfl (s := ?zs32) ?_ ?_
                rotate_left
                · try simp (maxSteps := 2000000) only [EVT, stepR, evOp, St.ev, St.app, St.put, wrs, frz, evUn, datOf, datOf1, evBuiltin, evBin, binInt, TIS, CS, Nat.reduceAdd, Nat.reduceMul, Nat.reduceEqDiff, ↓reduceIte, reduceCtorEq, Nat.reduceLT, Nat.reduceLeDiff, Array.reduceGetElem?, Nat.reduceSub, Nat.reduceBEq, ↓zc16, ↓zc17, ↓zc18]
                  repeat' with_reducible apply And.intro
                  all_goals try ((with_reducible show CallR _ _ _ _ _ _ _); refine cR_s zk16 (.cons (.ownL (by rfl) (fun _ => rfl) rfl (by first | rfl | omega | (simp; done) | (simp [strBytes_len]; done) | (simp; omega) | (simp_all; done)) (.same _ _ (ci_pu .i64) (by first | rfl | (simp only [List.map_append, List.map_cons, List.map_nil, List.map_set, List.map_take, List.map_drop, List.map_replicate, List.append_assoc, List.nil_append, List.append_nil, ci_eq, cb_eq, cs_eq, cl_eq, CS,  List.nil_append]; done) | (simp [CS,  ci_eq, cb_eq, cs_eq, cl_eq]; done) | (simp [CS,  ci_eq, cb_eq, cs_eq, cl_eq]; intro hz; rw [List.take_of_length_le (by simp; omega)])))) (.cons (.lst _ _ _ (ci_pu .i64) rfl) .nil)) (.bool _) ?_; simp (maxSteps := 2000000) only [EVT, stepR, evOp, St.ev, St.app, St.put, wrs, frz, evUn, datOf, datOf1, evBuiltin, evBin, binInt, TIS, CS, Nat.reduceAdd, Nat.reduceMul, Nat.reduceEqDiff, ↓reduceIte, reduceCtorEq, Nat.reduceLT, Nat.reduceLeDiff, Array.reduceGetElem?, Nat.reduceSub, Nat.reduceBEq, ↓zc16, ↓zc17, ↓zc18])
                  repeat' with_reducible apply And.intro
                  all_goals try ((with_reducible show CallR _ _ _ _ _ _ _); refine cR_s zk17 (.cons (.ownL (by rfl) (fun _ => rfl) rfl (by first | rfl | omega | (simp; done) | (simp [strBytes_len]; done) | (simp; omega) | (simp_all; done)) (.same _ _ (ci_pu .i64) (by first | rfl | (simp only [List.map_append, List.map_cons, List.map_nil, List.map_set, List.map_take, List.map_drop, List.map_replicate, List.append_assoc, List.nil_append, List.append_nil, ci_eq, cb_eq, cs_eq, cl_eq, CS,  List.nil_append]; done) | (simp [CS,  ci_eq, cb_eq, cs_eq, cl_eq]; done) | (simp [CS,  ci_eq, cb_eq, cs_eq, cl_eq]; intro hz; rw [List.take_of_length_le (by simp; omega)])))) (.cons (.lst _ _ _ (ci_pu .i64) rfl) .nil)) (.bool _) ?_; simp (maxSteps := 2000000) only [EVT, stepR, evOp, St.ev, St.app, St.put, wrs, frz, evUn, datOf, datOf1, evBuiltin, evBin, binInt, TIS, CS, Nat.reduceAdd, Nat.reduceMul, Nat.reduceEqDiff, ↓reduceIte, reduceCtorEq, Nat.reduceLT, Nat.reduceLeDiff, Array.reduceGetElem?, Nat.reduceSub, Nat.reduceBEq, ↓zc16, ↓zc17, ↓zc18])
                  all_goals ((repeat' apply And.intro) <;> first | rfl | assumption | omega | (left; omega) | (simp; done) | (simp; omega) | (right; exact ⟨_, rfl, rfl, rfl, by decide, by first | omega | (simp; omega)⟩) | (simp_all; done))
                refine cA_n ?_
                refine wk_l [] [0] [(3, .list 2 (acts1.map ActR14.c)), (9, .bool r1), (10, .list 1 (reals1.map (ci .i64))), (12, .list 1 (r2.map (ci .i64))), (13, .list 1 (r3.map (ci .i64))), (80, .bool ((r3.length : Int) != (((reals1.length : Nat)) : Int)))] (by show ([3, 9, 10, 12, 13, 80] : List Nat).Nodup; decide) (by show ([] : List Nat).Nodup; decide) ?_ ?_ (fun t0 => ⟨((r3.length : Int) != (((reals1.length : Nat)) : Int)), t0, H, rfl⟩)
                · exact trivial
                · (simp only [AllT, tl_cons, tl_nil, upd_apply, List.getD_cons_zero, List.getD_cons_succ, Nat.reduceEqDiff, ↓reduceIte, and_true]); exact ⟨(.lst _ _ _ ActR14.pu rfl), (.bool' rfl), (.frz' (by rfl) (by simp) rfl (by first | rfl | omega | (simp; done) | (simp [strBytes_len]; done) | (simp; omega) | (simp_all; done)) (.same _ _ (ci_pu .i64) (by first | rfl | (simp only [List.map_append, List.map_cons, List.map_nil, List.map_set, List.map_take, List.map_drop, List.map_replicate, List.append_assoc, List.nil_append, List.append_nil, ci_eq, cb_eq, cs_eq, cl_eq, CS,  List.nil_append]; done) | (simp [CS,  ci_eq, cb_eq, cs_eq, cl_eq]; done) | (simp [CS,  ci_eq, cb_eq, cs_eq, cl_eq]; intro hz; rw [List.take_of_length_le (by simp; omega)])))), (.lst _ _ _ (ci_pu .i64) rfl), (.lst _ _ _ (ci_pu .i64) rfl), (.bool' rfl)⟩
        · rintro s ⟨v2, t0, H, rfl⟩
          unfold top_TopCached_J3 at H
          refine a_condb (v2) (by rfl) (fun zc2 => ?_) (fun zc2 => ?_)
          · have H := cond_t zc2 H
            refine a_seq ?_
            refine a_reg _ rfl (s := ?zs7) ?_ ?_
            rotate_left
            · simp (maxSteps := 2000000) only [EVT, stepR, evOp, St.ev, St.app, St.put, wrs, TIS, CS, Nat.reduceAdd, Nat.reduceMul, Nat.reduceEqDiff, ↓reduceIte, reduceCtorEq, Nat.reduceLT, Nat.reduceLeDiff, ↓zc2]
              (repeat' apply And.intro) <;> first | rfl | assumption | omega | (left; omega) | (simp; done) | (simp; omega) | (right; exact ⟨_, rfl, rfl, rfl, by decide, by first | omega | (simp; omega)⟩) | (simp_all; done)
            refine sA_n ?_
            refine a_ret ?_
            refine sA_r ?_
            obtain rfl := Option.some.inj H
            refine e_r2 (d := ?zd2) ?_ ?_
            rotate_left
            · simp only [EVT, resR, single, evLoad, cut, TIS, CS, Nat.reduceAdd, Nat.reduceEqDiff, ↓reduceIte, reduceCtorEq, Nat.reduceLT, Nat.reduceLeDiff, Nat.reduceSub, Nat.reduceBEq, zc2]
              (repeat' apply And.intro) <;> first | rfl | assumption | omega | (simp; done)
            exact (.bool' rfl)
          · have H := cond_f zc2 H
            refine a_skip ?_
            refine sA_n ?_
            refine a_seq ?_
            refine a_reg _ rfl (s := ?zs8) ?_ ?_
            rotate_left
            · simp (maxSteps := 2000000) only [EVT, stepR, evOp, St.ev, St.app, St.put, wrs, fillD, setR, allOne, evStore, TIS, CS, Nat.reduceAdd, Nat.reduceMul, Nat.reduceEqDiff, ↓reduceIte, reduceCtorEq, Nat.reduceLT, Nat.reduceLeDiff, Nat.reduceGT, Nat.reduceSub, Nat.reduceBEq, ↓zc2]
              (repeat' apply And.intro) <;> first | rfl | assumption | omega | (left; omega) | (simp; done) | (simp; omega) | (right; exact ⟨_, rfl, rfl, rfl, by decide, by first | omega | (simp; omega)⟩) | (simp_all; done)
            refine sA_n ?_
            refine a_cut (fun s => ∃ (t0 : Nat → Dat), top_TopCached_J4 r1 = some r ∧ s = ⟨tl t0 [(9, .bool r1)], hl [], 0, 159⟩) ?_ ?_
            · refine a_seq ?_
              refine a_reg _ rfl (s := ?zs10) ?_ ?_
              rotate_left
              · simp (maxSteps := 2000000) only [EVT, stepR, evOp, St.ev, St.app, St.put, wrs, datOf, datOf1, TIS, CS, Nat.reduceAdd, Nat.reduceMul, Nat.reduceEqDiff, ↓reduceIte, reduceCtorEq, Nat.reduceLT, Nat.reduceLeDiff, ↓zc2]
                (repeat' apply And.intro) <;> first | rfl | assumption | omega | (left; omega) | (simp; done) | (simp; omega) | (right; exact ⟨_, rfl, rfl, rfl, by decide, by first | omega | (simp; omega)⟩) | (simp_all; done)
              refine sA_n ?_
              refine a_blk ?_
              refine a_loop (fun m s => ∃ (p1 : PlaceR14) (i1 : Int) (t0 : Nat → Dat), top_TopCached_L1 reals1 acts1 r2 r3 r1 m p1 i1 = some r ∧ s = ⟨tl t0 [(3, .list 2 (acts1.map ActR14.c)), (9, .bool r1), (10, .list 1 (reals1.map (ci .i64))), (12, .list 1 (r2.map (ci .i64))), (13, .list 1 (r3.map (ci .i64))), (14, .ptr 0 0 0 4), (15, .int .i64 i1)], hl [⟨32, 4, false, [[.list 7 (p1.l.map Lease.c), .int .i64 p1.data, .int .i64 p1.is, .list 6 (p1.k.map Kept.c)]]⟩], 1, 159⟩) BIG ?_ ?_
              · refine wk_l [(some 1, ⟨32, 4, false, [[.list 7 ((⟨[], 0, 0, []⟩ : PlaceR14).l.map Lease.c), .int .i64 (⟨[], 0, 0, []⟩ : PlaceR14).data, .int .i64 (⟨[], 0, 0, []⟩ : PlaceR14).is, .list 6 ((⟨[], 0, 0, []⟩ : PlaceR14).k.map Kept.c)]]⟩)] [] [(3, .list 2 (acts1.map ActR14.c)), (9, .bool r1), (10, .list 1 (reals1.map (ci .i64))), (12, .list 1 (r2.map (ci .i64))), (13, .list 1 (r3.map (ci .i64))), (14, .ptr 0 0 0 4), (15, .int .i64 0)] (by show ([3, 9, 10, 12, 13, 14, 15] : List Nat).Nodup; decide) (by show ([1] : List Nat).Nodup; decide) ?_ ?_ (fun t0 => ⟨(⟨[], 0, 0, []⟩ : PlaceR14), 0, t0, H, rfl⟩)
                · exact (allB_some (by rfl) rfl (.cons (.cons (.nil _) (.cons (.int' rfl) (.cons (.int' rfl) (.cons (.nil _) .nil)))) .nil) trivial)
                · (simp only [AllT, tl_cons, tl_nil, upd_apply, List.getD_cons_zero, List.getD_cons_succ, Nat.reduceEqDiff, ↓reduceIte, and_true]); exact ⟨(.lst _ _ _ ActR14.pu rfl), (.bool' rfl), (.lst _ _ _ (ci_pu .i64) rfl), (.lst _ _ _ (ci_pu .i64) rfl), (.lst _ _ _ (ci_pu .i64) rfl), (.ptr _ _ _ _ _ rfl), (.int' rfl)⟩
              · rintro m_top_TopCached_L1 s ⟨p1, i1, t0, H, rfl⟩
                obtain _ | m_top_TopCached_L1 := m_top_TopCached_L1
                · cases (show (none : Option _) = some _ from H)
                · rw [top_TopCached_L1] at H
                  refine a_seq ?_
                  refine a_seq ?_
                  refine a_reg _ rfl (s := ?zs11) ?_ ?_
                  rotate_left
                  · simp (maxSteps := 2000000) only [EVT, stepR, evOp, St.ev, St.app, St.put, wrs, evBuiltin, evBin, binInt, TIS, CS, Nat.reduceAdd, Nat.reduceMul, Nat.reduceEqDiff, ↓reduceIte, reduceCtorEq, Nat.reduceLT, Nat.reduceLeDiff, Nat.reduceSub, Nat.reduceBEq]
                    (repeat' apply And.intro) <;> first | rfl | assumption | omega | (left; omega) | (simp; done) | (simp; omega) | (right; exact ⟨_, rfl, rfl, rfl, by decide, by first | omega | (simp; omega)⟩) | (simp_all; done)
                  refine sA_n ?_
                  refine a_condb ((decide (i1 < (reals1.length : Int)))) (by rfl) (fun zc3 => ?_) (fun zc3 => ?_)
                  · have H := cond_t zc3 H
                    refine a_skip ?_
                    refine sA_n ?_
                    refine a_seq ?_
                    refine a_blk ?_
                    refine a_cut (fun s => ∃ (p2 : PlaceR14) (t0 : Nat → Dat), top_TopCached_J5 (top_TopCached_L1 reals1 acts1 r2 r3 r1 m_top_TopCached_L1) r3 i1 p2 = some r ∧ s = ⟨tl t0 [(3, .list 2 (acts1.map ActR14.c)), (9, .bool r1), (10, .list 1 (reals1.map (ci .i64))), (12, .list 1 (r2.map (ci .i64))), (13, .list 1 (r3.map (ci .i64))), (14, .ptr 0 0 0 4), (15, .int .i64 i1)], hl [⟨32, 4, false, [[.list 7 (p2.l.map Lease.c), .int .i64 p2.data, .int .i64 p2.is, .list 6 (p2.k.map Kept.c)]]⟩], 1, 159⟩) ?_ ?_
                    · refine a_seq ?_
                      refine a_reg _ rfl (s := ?zs27) ?_ ?_
                      rotate_left
                      · simp (maxSteps := 2000000) only [EVT, stepR, evOp, St.ev, St.app, St.put, wrs, evBuiltin, evBin, binInt, TIS, CS, Nat.reduceAdd, Nat.reduceMul, Nat.reduceEqDiff, ↓reduceIte, reduceCtorEq, Nat.reduceLT, Nat.reduceLeDiff, Nat.reduceSub, Nat.reduceBEq, ↓zc3]
                        (repeat' apply And.intro) <;> first | rfl | assumption | omega | (left; omega) | (simp; done) | (simp; omega) | (right; exact ⟨_, rfl, rfl, rfl, by decide, by first | omega | (simp; omega)⟩) | (simp_all; done)
                      refine sA_n ?_
                      refine a_condb ((decide (i1 < (acts1.length : Int)))) (by rfl) (fun zc15 => ?_) (fun zc15 => ?_)
                      · have H := cond_t zc15 H
                        obtain ⟨x2, zh16, H⟩ := bind_some H
                        have zg2 := idx_map zh16 ActR14.c
                        try simp only [Int.reduceToNat, Int.toNat_natCast] at zg2
                        obtain ⟨zh16a, zh16b, _⟩ := idx_some zh16
                        obtain ⟨x3, zh17, H⟩ := bind_some H
                        have zg3 := idx_map zh17 (ci .i64)
                        try simp only [Int.reduceToNat, Int.toNat_natCast] at zg3
                        obtain ⟨zh17a, zh17b, _⟩ := idx_some zh17
                        obtain ⟨x4, zh18, H⟩ := bind_some H
                        have zg4 := idx_map zh18 (ci .i64)
                        try simp only [Int.reduceToNat, Int.toNat_natCast] at zg4
                        obtain ⟨zh18a, zh18b, _⟩ := idx_some zh18
                        obtain ⟨r15, zh19, H⟩ := bind_some H
                        have zk15 := top_didR14_pc zh19
                        refine a_drW (by kernel_rfl) _ rfl (s := ?zs28) (by kernel_rfl) (by kernel_rfl) ?zs28f ?_ ?_ ?_
                        rotate_left 2
                        · try simp (maxSteps := 2000000) only [EVT, stepW, evOp, St.ev, St.app, St.put, wrs, evLoad, cut, evIndexAddr, frz, evStore, setR, allOne, TIS, CS, Nat.reduceAdd, Nat.reduceMul, Nat.reduceEqDiff, ↓reduceIte, reduceCtorEq, Nat.reduceLT, Nat.reduceLeDiff, Int.reduceToNat, Nat.reduceSub, Nat.reduceBEq, ↓zc3, ↓zc15, zg2, zg3, zg4]
                          repeat' with_reducible apply And.intro
                          all_goals try ((with_reducible show CallW _ _ _ _ _ _ _); refine cW_p [] zk15 (fun h2 e => (.cons (.agg' (.cons (.lst _ _ _ Lease.pu rfl) (.cons (.int' rfl) (.cons (.int' rfl) (.cons (.lst _ _ _ Kept.pu rfl) .nil))))) (.cons (.agg' (.cons (.int' rfl) (.cons (.int' rfl) .nil))) (.cons (.int' rfl) (.cons (.int' rfl) .nil))))) ?_; simp (maxSteps := 2000000) only [EVT, stepW, evOp, St.ev, St.app, St.put, wrs, evLoad, cut, evIndexAddr, frz, evStore, setR, allOne, TIS, CS, Nat.reduceAdd, Nat.reduceMul, Nat.reduceEqDiff, ↓reduceIte, reduceCtorEq, Nat.reduceLT, Nat.reduceLeDiff, Int.reduceToNat, Nat.reduceSub, Nat.reduceBEq, ↓zc3, ↓zc15, zg2, zg3, zg4])
                          all_goals ((repeat' apply And.intro) <;> first | rfl | assumption | omega | (left; omega) | (simp; done) | (simp; omega) | (right; exact ⟨_, rfl, rfl, rfl, by decide, by first | omega | (simp; omega)⟩) | (simp_all; done))
                        · kernel_rfl
                        refine cA_n ?_
                        refine wk_l [(some 0, ⟨32, 4, false, [[.list 7 (r15.l.map Lease.c), .int .i64 r15.data, .int .i64 r15.is, .list 6 (r15.k.map Kept.c)]]⟩)] [] [(3, .list 2 (acts1.map ActR14.c)), (9, .bool r1), (10, .list 1 (reals1.map (ci .i64))), (12, .list 1 (r2.map (ci .i64))), (13, .list 1 (r3.map (ci .i64))), (14, .ptr 0 0 0 4), (15, .int .i64 i1)] (by show ([3, 9, 10, 12, 13, 14, 15] : List Nat).Nodup; decide) (by show ([0] : List Nat).Nodup; decide) ?_ ?_ (fun t0 => ⟨r15, t0, H, rfl⟩)
                        · exact (allB_some (by rfl) rfl (.cons (.cons (.lst _ _ _ Lease.pu rfl) (.cons (.int' rfl) (.cons (.int' rfl) (.cons (.lst _ _ _ Kept.pu rfl) .nil)))) .nil) trivial)
                        · (simp only [AllT, tl_cons, tl_nil, upd_apply, List.getD_cons_zero, List.getD_cons_succ, Nat.reduceEqDiff, ↓reduceIte, and_true]); exact ⟨(.lst _ _ _ ActR14.pu rfl), (.bool' rfl), (.lst _ _ _ (ci_pu .i64) rfl), (.lst _ _ _ (ci_pu .i64) rfl), (.lst _ _ _ (ci_pu .i64) rfl), (.ptr _ _ _ _ _ rfl), (.int' rfl)⟩
                      · have H := cond_f zc15 H
                        refine a_skip ?_
                        refine cA_n ?_
                        refine wk_l [(some 0, ⟨32, 4, false, [[.list 7 (p1.l.map Lease.c), .int .i64 p1.data, .int .i64 p1.is, .list 6 (p1.k.map Kept.c)]]⟩)] [] [(3, .list 2 (acts1.map ActR14.c)), (9, .bool r1), (10, .list 1 (reals1.map (ci .i64))), (12, .list 1 (r2.map (ci .i64))), (13, .list 1 (r3.map (ci .i64))), (14, .ptr 0 0 0 4), (15, .int .i64 i1)] (by show ([3, 9, 10, 12, 13, 14, 15] : List Nat).Nodup; decide) (by show ([0] : List Nat).Nodup; decide) ?_ ?_ (fun t0 => ⟨p1, t0, H, rfl⟩)
                        · exact (allB_some (by rfl) rfl (.cons (.cons (.lst _ _ _ Lease.pu rfl) (.cons (.int' rfl) (.cons (.int' rfl) (.cons (.lst _ _ _ Kept.pu rfl) .nil)))) .nil) trivial)
                        · (simp only [AllT, tl_cons, tl_nil, upd_apply, List.getD_cons_zero, List.getD_cons_succ, Nat.reduceEqDiff, ↓reduceIte, and_true]); exact ⟨(.lst _ _ _ ActR14.pu rfl), (.bool' rfl), (.lst _ _ _ (ci_pu .i64) rfl), (.lst _ _ _ (ci_pu .i64) rfl), (.lst _ _ _ (ci_pu .i64) rfl), (.ptr _ _ _ _ _ rfl), (.int' rfl)⟩
                    · rintro s ⟨p2, t0, H, rfl⟩
                      unfold top_TopCached_J5 at H
                      refine a_seq ?_
                      obtain ⟨x1, zh4, H⟩ := bind_some H
                      have zg1 := idx_map zh4 (ci .i64)
                      try simp only [Int.reduceToNat, Int.toNat_natCast] at zg1
                      obtain ⟨zh4a, zh4b, _⟩ := idx_some zh4
                      obtain ⟨r4, zh5, H⟩ := bind_some H
                      have zk4 := cache_GetPage_pc zh5
                      refine a_drW (by kernel_rfl) _ rfl (s := ?zs12) (by kernel_rfl) (by kernel_rfl) ?zs12f ?_ ?_ ?_
                      rotate_left 2
                      · try simp (maxSteps := 2000000) only [EVT, stepW, evOp, St.ev, St.app, St.put, wrs, evFieldAddr, evLoad, cut, evIndexAddr, datOf, datOf1, frz, TIS, CS, Nat.reduceAdd, Nat.reduceMul, Nat.reduceEqDiff, ↓reduceIte, reduceCtorEq, Nat.reduceLT, Nat.reduceLeDiff, Int.reduceToNat, Nat.reduceSub, Nat.reduceBEq, zg1]
                        repeat' with_reducible apply And.intro
                        all_goals try ((with_reducible show CallW _ _ _ _ _ _ _); refine cW_p [] zk4 (fun h2 e => (.cons (.lst _ _ _ Kept.pu rfl) (.cons (.int' rfl) (.cons (.int' rfl) (.cons (.int' rfl) .nil))))) ?_; simp (maxSteps := 2000000) only [EVT, stepW, evOp, St.ev, St.app, St.put, wrs, evFieldAddr, evLoad, cut, evIndexAddr, datOf, datOf1, frz, TIS, CS, Nat.reduceAdd, Nat.reduceMul, Nat.reduceEqDiff, ↓reduceIte, reduceCtorEq, Nat.reduceLT, Nat.reduceLeDiff, Int.reduceToNat, Nat.reduceSub, Nat.reduceBEq, zg1])
                        all_goals ((repeat' apply And.intro) <;> first | rfl | assumption | omega | (left; omega) | (simp; done) | (simp; omega) | (right; exact ⟨_, rfl, rfl, rfl, by decide, by first | omega | (simp; omega)⟩) | (simp_all; done))
                      · kernel_rfl
                      refine sA_n ?_
                      refine a_seq ?_
                      obtain ⟨r5, zh6, H⟩ := bind_some H
                      have zk5 := cache_GetName_pc zh6
                      refine a_drW (by kernel_rfl) _ rfl (s := ?zs13) (by kernel_rfl) (by kernel_rfl) ?zs13f ?_ ?_ ?_
                      rotate_left 2
                      · try simp (maxSteps := 2000000) only [EVT, stepW, evOp, St.ev, St.app, St.put, wrs, evFieldAddr, evLoad, cut, evIndexAddr, datOf, datOf1, frz, TIS, CS, Nat.reduceAdd, Nat.reduceMul, Nat.reduceEqDiff, ↓reduceIte, reduceCtorEq, Nat.reduceLT, Nat.reduceLeDiff, Int.reduceToNat, Nat.reduceSub, Nat.reduceBEq, zg1]
                        repeat' with_reducible apply And.intro
                        all_goals try ((with_reducible show CallW _ _ _ _ _ _ _); refine cW_s [] zk5 (fun h2 e => (.cons (.lst _ _ _ Kept.pu rfl) (.cons (.int' rfl) (.cons (.str' rfl) (.cons (.int' rfl) .nil))))) (Scal.tup _ (by intro i c h; rcases i with _ | _ | _ | i <;> simp at h <;> subst h <;> constructor)) ?_; simp (maxSteps := 2000000) only [EVT, stepW, evOp, St.ev, St.app, St.put, wrs, evFieldAddr, evLoad, cut, evIndexAddr, datOf, datOf1, frz, TIS, CS, Nat.reduceAdd, Nat.reduceMul, Nat.reduceEqDiff, ↓reduceIte, reduceCtorEq, Nat.reduceLT, Nat.reduceLeDiff, Int.reduceToNat, Nat.reduceSub, Nat.reduceBEq, zg1])
                        all_goals ((repeat' apply And.intro) <;> first | rfl | assumption | omega | (left; omega) | (simp; done) | (simp; omega) | (right; exact ⟨_, rfl, rfl, rfl, by decide, by first | omega | (simp; omega)⟩) | (simp_all; done))
                      · kernel_rfl
                      refine sA_n ?_
                      refine a_cut (fun s => ∃ (v3 : Bool) (t0 : Nat → Dat), top_TopCached_J6 (top_TopCached_L1 reals1 acts1 r2 r3 r1 m_top_TopCached_L1) p2 i1 v3 = some r ∧ s = ⟨tl t0 [(3, .list 2 (acts1.map ActR14.c)), (9, .bool r1), (10, .list 1 (reals1.map (ci .i64))), (12, .list 1 (r2.map (ci .i64))), (13, .list 1 (r3.map (ci .i64))), (14, .ptr 0 0 0 4), (15, .int .i64 i1), (157, .bool v3)], hl [⟨32, 4, false, [[.list 7 (p2.l.map Lease.c), .int .i64 p2.data, .int .i64 p2.is, .list 6 (p2.k.map Kept.c)]]⟩], 1, 159⟩) ?_ ?_
                      · refine bool_split (b := r4.2) (fun zc5 => ?_) (fun zc5 => ?_)
                        · have H := cond_t zc5 H
                          obtain ⟨r6, zh7, H⟩ := bind_some H
                          have zk6 := ref02_Bytes_pc zh7
                          refine bool_split (b := (!r6)) (fun zc6 => ?_) (fun zc6 => ?_)
                          · have H := cond_t zc6 H
                            refine a_reg _ rfl (s := ?zs16) ?_ ?_
                            rotate_left
                            · try simp (maxSteps := 2000000) only [EVT, stepR, evOp, St.ev, St.app, St.put, wrs, evFieldAddr, evLoad, cut, evToStr, elems, allOne, frz, evUn, datOf, datOf1, evBin, binInt, TIS, CS, Nat.reduceAdd, Nat.reduceMul, Nat.reduceEqDiff, ↓reduceIte, reduceCtorEq, Nat.reduceLT, Nat.reduceLeDiff, Array.reduceGetElem?, Nat.reduceSub, Nat.reduceBEq, zg1, ↓zc5, ↓zc6]
                              repeat' with_reducible apply And.intro
                              all_goals try ((with_reducible show CallR _ _ _ _ _ _ _); refine cR_s zk6 (.cons (.lst _ _ _ (ci_pu .u8) rfl) (.cons (.ownL (by rfl) (fun e => by cases e) rfl (by first | rfl | omega | (simp; done) | (simp [strBytes_len]; done) | (simp; omega) | (simp_all; done)) (.same _ _ (ci_pu .u8) (by first | rfl | (simp only [List.map_append, List.map_cons, List.map_nil, List.map_set, List.map_take, List.map_drop, List.map_replicate, List.append_assoc, List.nil_append, List.append_nil, ci_eq, cb_eq, cs_eq, cl_eq, CS,  List.nil_append]; done) | (simp [CS,  ci_eq, cb_eq, cs_eq, cl_eq]; done) | (simp [CS,  ci_eq, cb_eq, cs_eq, cl_eq]; intro hz; rw [List.take_of_length_le (by simp; omega)])))) .nil)) (.bool _) ?_; simp (maxSteps := 2000000) only [EVT, stepR, evOp, St.ev, St.app, St.put, wrs, evFieldAddr, evLoad, cut, evToStr, elems, allOne, frz, evUn, datOf, datOf1, evBin, binInt, TIS, CS, Nat.reduceAdd, Nat.reduceMul, Nat.reduceEqDiff, ↓reduceIte, reduceCtorEq, Nat.reduceLT, Nat.reduceLeDiff, Array.reduceGetElem?, Nat.reduceSub, Nat.reduceBEq, zg1, ↓zc5, ↓zc6])
                              all_goals ((repeat' apply And.intro) <;> first | rfl | assumption | omega | (left; omega) | (simp; done) | (simp; omega) | (right; exact ⟨_, rfl, rfl, rfl, by decide, by first | omega | (simp; omega)⟩) | (simp_all; done))
                            refine cA_n ?_
                            refine wk_l [(some 0, ⟨32, 4, false, [[.list 7 (p2.l.map Lease.c), .int .i64 p2.data, .int .i64 p2.is, .list 6 (p2.k.map Kept.c)]]⟩)] [] [(3, .list 2 (acts1.map ActR14.c)), (9, .bool r1), (10, .list 1 (reals1.map (ci .i64))), (12, .list 1 (r2.map (ci .i64))), (13, .list 1 (r3.map (ci .i64))), (14, .ptr 0 0 0 4), (15, .int .i64 i1), (157, .bool true)] (by show ([3, 9, 10, 12, 13, 14, 15, 157] : List Nat).Nodup; decide) (by show ([0] : List Nat).Nodup; decide) ?_ ?_ (fun t0 => ⟨true, t0, H, rfl⟩)
                            · exact (allB_some (by rfl) rfl (.cons (.cons (.lst _ _ _ Lease.pu rfl) (.cons (.int' rfl) (.cons (.int' rfl) (.cons (.lst _ _ _ Kept.pu rfl) .nil)))) .nil) trivial)
                            · (simp only [AllT, tl_cons, tl_nil, upd_apply, List.getD_cons_zero, List.getD_cons_succ, Nat.reduceEqDiff, ↓reduceIte, and_true]); exact ⟨(.lst _ _ _ ActR14.pu rfl), (.bool' rfl), (.lst _ _ _ (ci_pu .i64) rfl), (.lst _ _ _ (ci_pu .i64) rfl), (.lst _ _ _ (ci_pu .i64) rfl), (.ptr _ _ _ _ _ rfl), (.int' rfl), (.bool' (by first | rfl | assumption | (simp_all; done)))⟩
                          · have H := cond_f zc6 H
                            refine bool_split (b := r5.2) (fun zc7 => ?_) (fun zc7 => ?_)
                            · have H := cond_t zc7 H
                              refine bool_split (b := (r5.1 != p2.is)) (fun zc8 => ?_) (fun zc8 => ?_)
                              · have H := cond_t zc8 H
                                refine a_reg _ rfl (s := ?zs17) ?_ ?_
                                rotate_left
                                · try simp (maxSteps := 2000000) only [EVT, stepR, evOp, St.ev, St.app, St.put, wrs, evFieldAddr, evLoad, cut, evToStr, elems, allOne, frz, evUn, datOf, datOf1, evBin, binInt, TIS, CS, Nat.reduceAdd, Nat.reduceMul, Nat.reduceEqDiff, ↓reduceIte, reduceCtorEq, Nat.reduceLT, Nat.reduceLeDiff, Array.reduceGetElem?, Nat.reduceSub, Nat.reduceBEq, zg1, ↓zc5, ↓zc6, ↓zc7, ↓zc8]
                                  repeat' with_reducible apply And.intro
                                  all_goals try ((with_reducible show CallR _ _ _ _ _ _ _); refine cR_s zk6 (.cons (.lst _ _ _ (ci_pu .u8) rfl) (.cons (.ownL (by rfl) (fun e => by cases e) rfl (by first | rfl | omega | (simp; done) | (simp [strBytes_len]; done) | (simp; omega) | (simp_all; done)) (.same _ _ (ci_pu .u8) (by first | rfl | (simp only [List.map_append, List.map_cons, List.map_nil, List.map_set, List.map_take, List.map_drop, List.map_replicate, List.append_assoc, List.nil_append, List.append_nil, ci_eq, cb_eq, cs_eq, cl_eq, CS,  List.nil_append]; done) | (simp [CS,  ci_eq, cb_eq, cs_eq, cl_eq]; done) | (simp [CS,  ci_eq, cb_eq, cs_eq, cl_eq]; intro hz; rw [List.take_of_length_le (by simp; omega)])))) .nil)) (.bool _) ?_; simp (maxSteps := 2000000) only [EVT, stepR, evOp, St.ev, St.app, St.put, wrs, evFieldAddr, evLoad, cut, evToStr, elems, allOne, frz, evUn, datOf, datOf1, evBin, binInt, TIS, CS, Nat.reduceAdd, Nat.reduceMul, Nat.reduceEqDiff, ↓reduceIte, reduceCtorEq, Nat.reduceLT, Nat.reduceLeDiff, Array.reduceGetElem?, Nat.reduceSub, Nat.reduceBEq, zg1, ↓zc5, ↓zc6, ↓zc7, ↓zc8])
                                  all_goals ((repeat' apply And.intro) <;> first | rfl | assumption | omega | (left; omega) | (simp; done) | (simp; omega) | (right; exact ⟨_, rfl, rfl, rfl, by decide, by first | omega | (simp; omega)⟩) | (simp_all; done))
                                refine cA_n ?_
                                refine wk_l [(some 0, ⟨32, 4, false, [[.list 7 (p2.l.map Lease.c), .int .i64 p2.data, .int .i64 p2.is, .list 6 (p2.k.map Kept.c)]]⟩)] [] [(3, .list 2 (acts1.map ActR14.c)), (9, .bool r1), (10, .list 1 (reals1.map (ci .i64))), (12, .list 1 (r2.map (ci .i64))), (13, .list 1 (r3.map (ci .i64))), (14, .ptr 0 0 0 4), (15, .int .i64 i1), (157, .bool true)] (by show ([3, 9, 10, 12, 13, 14, 15, 157] : List Nat).Nodup; decide) (by show ([0] : List Nat).Nodup; decide) ?_ ?_ (fun t0 => ⟨true, t0, H, rfl⟩)
                                · exact (allB_some (by rfl) rfl (.cons (.cons (.lst _ _ _ Lease.pu rfl) (.cons (.int' rfl) (.cons (.int' rfl) (.cons (.lst _ _ _ Kept.pu rfl) .nil)))) .nil) trivial)
                                · (simp only [AllT, tl_cons, tl_nil, upd_apply, List.getD_cons_zero, List.getD_cons_succ, Nat.reduceEqDiff, ↓reduceIte, and_true]); exact ⟨(.lst _ _ _ ActR14.pu rfl), (.bool' rfl), (.lst _ _ _ (ci_pu .i64) rfl), (.lst _ _ _ (ci_pu .i64) rfl), (.lst _ _ _ (ci_pu .i64) rfl), (.ptr _ _ _ _ _ rfl), (.int' rfl), (.bool' (by first | rfl | assumption | (simp_all; done)))⟩
                              · have H := cond_f zc8 H
                                obtain ⟨r7, zh8, H⟩ := bind_some H
                                have zk7 := lease_Right_pc zh8
                                refine bool_split (b := (!r7)) (fun zc9 => ?_) (fun zc9 => ?_)
                                · have H := cond_t zc9 H
                                  refine a_reg _ rfl (s := ?zs18) ?_ ?_
                                  rotate_left
                                  · try simp (maxSteps := 2000000) only [EVT, stepR, evOp, St.ev, St.app, St.put, wrs, evFieldAddr, evLoad, cut, evToStr, elems, allOne, frz, evUn, datOf, datOf1, evBin, binInt, TIS, CS, Nat.reduceAdd, Nat.reduceMul, Nat.reduceEqDiff, ↓reduceIte, reduceCtorEq, Nat.reduceLT, Nat.reduceLeDiff, Array.reduceGetElem?, Nat.reduceSub, Nat.reduceBEq, zg1, ↓zc5, ↓zc6, ↓zc7, ↓zc8, ↓zc9]
                                    repeat' with_reducible apply And.intro
                                    all_goals try ((with_reducible show CallR _ _ _ _ _ _ _); refine cR_s zk6 (.cons (.lst _ _ _ (ci_pu .u8) rfl) (.cons (.ownL (by rfl) (fun e => by cases e) rfl (by first | rfl | omega | (simp; done) | (simp [strBytes_len]; done) | (simp; omega) | (simp_all; done)) (.same _ _ (ci_pu .u8) (by first | rfl | (simp only [List.map_append, List.map_cons, List.map_nil, List.map_set, List.map_take, List.map_drop, List.map_replicate, List.append_assoc, List.nil_append, List.append_nil, ci_eq, cb_eq, cs_eq, cl_eq, CS,  List.nil_append]; done) | (simp [CS,  ci_eq, cb_eq, cs_eq, cl_eq]; done) | (simp [CS,  ci_eq, cb_eq, cs_eq, cl_eq]; intro hz; rw [List.take_of_length_le (by simp; omega)])))) .nil)) (.bool _) ?_; simp (maxSteps := 2000000) only [EVT, stepR, evOp, St.ev, St.app, St.put, wrs, evFieldAddr, evLoad, cut, evToStr, elems, allOne, frz, evUn, datOf, datOf1, evBin, binInt, TIS, CS, Nat.reduceAdd, Nat.reduceMul, Nat.reduceEqDiff, ↓reduceIte, reduceCtorEq, Nat.reduceLT, Nat.reduceLeDiff, Array.reduceGetElem?, Nat.reduceSub, Nat.reduceBEq, zg1, ↓zc5, ↓zc6, ↓zc7, ↓zc8, ↓zc9])
                                    repeat' with_reducible apply And.intro
                                    all_goals try ((with_reducible show CallR _ _ _ _ _ _ _); refine cR_s zk7 (.cons (.lst _ _ _ Lease.pu rfl) .nil) (.bool _) ?_; simp (maxSteps := 2000000) only [EVT, stepR, evOp, St.ev, St.app, St.put, wrs, evFieldAddr, evLoad, cut, evToStr, elems, allOne, frz, evUn, datOf, datOf1, evBin, binInt, TIS, CS, Nat.reduceAdd, Nat.reduceMul, Nat.reduceEqDiff, ↓reduceIte, reduceCtorEq, Nat.reduceLT, Nat.reduceLeDiff, Array.reduceGetElem?, Nat.reduceSub, Nat.reduceBEq, zg1, ↓zc5, ↓zc6, ↓zc7, ↓zc8, ↓zc9])
                                    all_goals ((repeat' apply And.intro) <;> first | rfl | assumption | omega | (left; omega) | (simp; done) | (simp; omega) | (right; exact ⟨_, rfl, rfl, rfl, by decide, by first | omega | (simp; omega)⟩) | (simp_all; done))
                                  refine cA_n ?_
                                  refine wk_l [(some 0, ⟨32, 4, false, [[.list 7 (p2.l.map Lease.c), .int .i64 p2.data, .int .i64 p2.is, .list 6 (p2.k.map Kept.c)]]⟩)] [] [(3, .list 2 (acts1.map ActR14.c)), (9, .bool r1), (10, .list 1 (reals1.map (ci .i64))), (12, .list 1 (r2.map (ci .i64))), (13, .list 1 (r3.map (ci .i64))), (14, .ptr 0 0 0 4), (15, .int .i64 i1), (157, .bool true)] (by show ([3, 9, 10, 12, 13, 14, 15, 157] : List Nat).Nodup; decide) (by show ([0] : List Nat).Nodup; decide) ?_ ?_ (fun t0 => ⟨true, t0, H, rfl⟩)
                                  · exact (allB_some (by rfl) rfl (.cons (.cons (.lst _ _ _ Lease.pu rfl) (.cons (.int' rfl) (.cons (.int' rfl) (.cons (.lst _ _ _ Kept.pu rfl) .nil)))) .nil) trivial)
                                  · (simp only [AllT, tl_cons, tl_nil, upd_apply, List.getD_cons_zero, List.getD_cons_succ, Nat.reduceEqDiff, ↓reduceIte, and_true]); exact ⟨(.lst _ _ _ ActR14.pu rfl), (.bool' rfl), (.lst _ _ _ (ci_pu .i64) rfl), (.lst _ _ _ (ci_pu .i64) rfl), (.lst _ _ _ (ci_pu .i64) rfl), (.ptr _ _ _ _ _ rfl), (.int' rfl), (.bool' (by first | rfl | assumption | (simp_all; done)))⟩
                                · have H := cond_f zc9 H
                                  obtain ⟨r8, zh9, H⟩ := bind_some H
                                  have zk8 := cache_Right_pc zh9
                                  refine a_reg _ rfl (s := ?zs19) ?_ ?_
                                  rotate_left
                                  · try simp (maxSteps := 2000000) only [EVT, stepR, evOp, St.ev, St.app, St.put, wrs, evFieldAddr, evLoad, cut, evToStr, elems, allOne, frz, evUn, datOf, datOf1, evBin, binInt, TIS, CS, Nat.reduceAdd, Nat.reduceMul, Nat.reduceEqDiff, ↓reduceIte, reduceCtorEq, Nat.reduceLT, Nat.reduceLeDiff, Array.reduceGetElem?, Nat.reduceSub, Nat.reduceBEq, zg1, ↓zc5, ↓zc6, ↓zc7, ↓zc8, ↓zc9]
                                    repeat' with_reducible apply And.intro
                                    all_goals try ((with_reducible show CallR _ _ _ _ _ _ _); refine cR_s zk6 (.cons (.lst _ _ _ (ci_pu .u8) rfl) (.cons (.ownL (by rfl) (fun e => by cases e) rfl (by first | rfl | omega | (simp; done) | (simp [strBytes_len]; done) | (simp; omega) | (simp_all; done)) (.same _ _ (ci_pu .u8) (by first | rfl | (simp only [List.map_append, List.map_cons, List.map_nil, List.map_set, List.map_take, List.map_drop, List.map_replicate, List.append_assoc, List.nil_append, List.append_nil, ci_eq, cb_eq, cs_eq, cl_eq, CS,  List.nil_append]; done) | (simp [CS,  ci_eq, cb_eq, cs_eq, cl_eq]; done) | (simp [CS,  ci_eq, cb_eq, cs_eq, cl_eq]; intro hz; rw [List.take_of_length_le (by simp; omega)])))) .nil)) (.bool _) ?_; simp (maxSteps := 2000000) only [EVT, stepR, evOp, St.ev, St.app, St.put, wrs, evFieldAddr, evLoad, cut, evToStr, elems, allOne, frz, evUn, datOf, datOf1, evBin, binInt, TIS, CS, Nat.reduceAdd, Nat.reduceMul, Nat.reduceEqDiff, ↓reduceIte, reduceCtorEq, Nat.reduceLT, Nat.reduceLeDiff, Array.reduceGetElem?, Nat.reduceSub, Nat.reduceBEq, zg1, ↓zc5, ↓zc6, ↓zc7, ↓zc8, ↓zc9])
                                    repeat' with_reducible apply And.intro
                                    all_goals try ((with_reducible show CallR _ _ _ _ _ _ _); refine cR_s zk7 (.cons (.lst _ _ _ Lease.pu rfl) .nil) (.bool _) ?_; simp (maxSteps := 2000000) only [EVT, stepR, evOp, St.ev, St.app, St.put, wrs, evFieldAddr, evLoad, cut, evToStr, elems, allOne, frz, evUn, datOf, datOf1, evBin, binInt, TIS, CS, Nat.reduceAdd, Nat.reduceMul, Nat.reduceEqDiff, ↓reduceIte, reduceCtorEq, Nat.reduceLT, Nat.reduceLeDiff, Array.reduceGetElem?, Nat.reduceSub, Nat.reduceBEq, zg1, ↓zc5, ↓zc6, ↓zc7, ↓zc8, ↓zc9])
                                    repeat' with_reducible apply And.intro
                                    all_goals try ((with_reducible show CallR _ _ _ _ _ _ _); refine cR_s zk8 (.cons (.lst _ _ _ Kept.pu rfl) .nil) (.bool _) ?_; simp (maxSteps := 2000000) only [EVT, stepR, evOp, St.ev, St.app, St.put, wrs, evFieldAddr, evLoad, cut, evToStr, elems, allOne, frz, evUn, datOf, datOf1, evBin, binInt, TIS, CS, Nat.reduceAdd, Nat.reduceMul, Nat.reduceEqDiff, ↓reduceIte, reduceCtorEq, Nat.reduceLT, Nat.reduceLeDiff, Array.reduceGetElem?, Nat.reduceSub, Nat.reduceBEq, zg1, ↓zc5, ↓zc6, ↓zc7, ↓zc8, ↓zc9])
                                    all_goals ((repeat' apply And.intro) <;> first | rfl | assumption | omega | (left; omega) | (simp; done) | (simp; omega) | (right; exact ⟨_, rfl, rfl, rfl, by decide, by first | omega | (simp; omega)⟩) | (simp_all; done))
                                  refine cA_n ?_
                                  refine wk_l [(some 0, ⟨32, 4, false, [[.list 7 (p2.l.map Lease.c), .int .i64 p2.data, .int .i64 p2.is, .list 6 (p2.k.map Kept.c)]]⟩)] [] [(3, .list 2 (acts1.map ActR14.c)), (9, .bool r1), (10, .list 1 (reals1.map (ci .i64))), (12, .list 1 (r2.map (ci .i64))), (13, .list 1 (r3.map (ci .i64))), (14, .ptr 0 0 0 4), (15, .int .i64 i1), (157, .bool (!r8))] (by show ([3, 9, 10, 12, 13, 14, 15, 157] : List Nat).Nodup; decide) (by show ([0] : List Nat).Nodup; decide) ?_ ?_ (fun t0 => ⟨(!r8), t0, H, rfl⟩)
                                  · exact (allB_some (by rfl) rfl (.cons (.cons (.lst _ _ _ Lease.pu rfl) (.cons (.int' rfl) (.cons (.int' rfl) (.cons (.lst _ _ _ Kept.pu rfl) .nil)))) .nil) trivial)
                                  · (simp only [AllT, tl_cons, tl_nil, upd_apply, List.getD_cons_zero, List.getD_cons_succ, Nat.reduceEqDiff, ↓reduceIte, and_true]); exact ⟨(.lst _ _ _ ActR14.pu rfl), (.bool' rfl), (.lst _ _ _ (ci_pu .i64) rfl), (.lst _ _ _ (ci_pu .i64) rfl), (.lst _ _ _ (ci_pu .i64) rfl), (.ptr _ _ _ _ _ rfl), (.int' rfl), (.bool' rfl)⟩
                            · have H := cond_f zc7 H
                              obtain ⟨r9, zh10, H⟩ := bind_some H
                              have zk9 := lease_Right_pc zh10
                              refine bool_split (b := (!r9)) (fun zc10 => ?_) (fun zc10 => ?_)
                              · have H := cond_t zc10 H
                                refine a_reg _ rfl (s := ?zs20) ?_ ?_
                                rotate_left
                                · try simp (maxSteps := 2000000) only [EVT, stepR, evOp, St.ev, St.app, St.put, wrs, evFieldAddr, evLoad, cut, evToStr, elems, allOne, frz, evUn, datOf, datOf1, evBin, binInt, TIS, CS, Nat.reduceAdd, Nat.reduceMul, Nat.reduceEqDiff, ↓reduceIte, reduceCtorEq, Nat.reduceLT, Nat.reduceLeDiff, Array.reduceGetElem?, Nat.reduceSub, Nat.reduceBEq, zg1, ↓zc5, ↓zc6, ↓zc7, ↓zc10]
                                  repeat' with_reducible apply And.intro
                                  all_goals try ((with_reducible show CallR _ _ _ _ _ _ _); refine cR_s zk6 (.cons (.lst _ _ _ (ci_pu .u8) rfl) (.cons (.ownL (by rfl) (fun e => by cases e) rfl (by first | rfl | omega | (simp; done) | (simp [strBytes_len]; done) | (simp; omega) | (simp_all; done)) (.same _ _ (ci_pu .u8) (by first | rfl | (simp only [List.map_append, List.map_cons, List.map_nil, List.map_set, List.map_take, List.map_drop, List.map_replicate, List.append_assoc, List.nil_append, List.append_nil, ci_eq, cb_eq, cs_eq, cl_eq, CS,  List.nil_append]; done) | (simp [CS,  ci_eq, cb_eq, cs_eq, cl_eq]; done) | (simp [CS,  ci_eq, cb_eq, cs_eq, cl_eq]; intro hz; rw [List.take_of_length_le (by simp; omega)])))) .nil)) (.bool _) ?_; simp (maxSteps := 2000000) only [EVT, stepR, evOp, St.ev, St.app, St.put, wrs, evFieldAddr, evLoad, cut, evToStr, elems, allOne, frz, evUn, datOf, datOf1, evBin, binInt, TIS, CS, Nat.reduceAdd, Nat.reduceMul, Nat.reduceEqDiff, ↓reduceIte, reduceCtorEq, Nat.reduceLT, Nat.reduceLeDiff, Array.reduceGetElem?, Nat.reduceSub, Nat.reduceBEq, zg1, ↓zc5, ↓zc6, ↓zc7, ↓zc10])
                                  repeat' with_reducible apply And.intro
                                  all_goals try ((with_reducible show CallR _ _ _ _ _ _ _); refine cR_s zk9 (.cons (.lst _ _ _ Lease.pu rfl) .nil) (.bool _) ?_; simp (maxSteps := 2000000) only [EVT, stepR, evOp, St.ev, St.app, St.put, wrs, evFieldAddr, evLoad, cut, evToStr, elems, allOne, frz, evUn, datOf, datOf1, evBin, binInt, TIS, CS, Nat.reduceAdd, Nat.reduceMul, Nat.reduceEqDiff, ↓reduceIte, reduceCtorEq, Nat.reduceLT, Nat.reduceLeDiff, Array.reduceGetElem?, Nat.reduceSub, Nat.reduceBEq, zg1, ↓zc5, ↓zc6, ↓zc7, ↓zc10])
                                  all_goals ((repeat' apply And.intro) <;> first | rfl | assumption | omega | (left; omega) | (simp; done) | (simp; omega) | (right; exact ⟨_, rfl, rfl, rfl, by decide, by first | omega | (simp; omega)⟩) | (simp_all; done))
                                refine cA_n ?_
                                refine wk_l [(some 0, ⟨32, 4, false, [[.list 7 (p2.l.map Lease.c), .int .i64 p2.data, .int .i64 p2.is, .list 6 (p2.k.map Kept.c)]]⟩)] [] [(3, .list 2 (acts1.map ActR14.c)), (9, .bool r1), (10, .list 1 (reals1.map (ci .i64))), (12, .list 1 (r2.map (ci .i64))), (13, .list 1 (r3.map (ci .i64))), (14, .ptr 0 0 0 4), (15, .int .i64 i1), (157, .bool true)] (by show ([3, 9, 10, 12, 13, 14, 15, 157] : List Nat).Nodup; decide) (by show ([0] : List Nat).Nodup; decide) ?_ ?_ (fun t0 => ⟨true, t0, H, rfl⟩)
                                · exact (allB_some (by rfl) rfl (.cons (.cons (.lst _ _ _ Lease.pu rfl) (.cons (.int' rfl) (.cons (.int' rfl) (.cons (.lst _ _ _ Kept.pu rfl) .nil)))) .nil) trivial)
                                · (simp only [AllT, tl_cons, tl_nil, upd_apply, List.getD_cons_zero, List.getD_cons_succ, Nat.reduceEqDiff, ↓reduceIte, and_true]); exact ⟨(.lst _ _ _ ActR14.pu rfl), (.bool' rfl), (.lst _ _ _ (ci_pu .i64) rfl), (.lst _ _ _ (ci_pu .i64) rfl), (.lst _ _ _ (ci_pu .i64) rfl), (.ptr _ _ _ _ _ rfl), (.int' rfl), (.bool' (by first | rfl | assumption | (simp_all; done)))⟩
                              · have H := cond_f zc10 H
                                obtain ⟨r10, zh11, H⟩ := bind_some H
                                have zk10 := cache_Right_pc zh11
                                refine a_reg _ rfl (s := ?zs21) ?_ ?_
                                rotate_left
                                · try simp (maxSteps := 2000000) only [EVT, stepR, evOp, St.ev, St.app, St.put, wrs, evFieldAddr, evLoad, cut, evToStr, elems, allOne, frz, evUn, datOf, datOf1, evBin, binInt, TIS, CS, Nat.reduceAdd, Nat.reduceMul, Nat.reduceEqDiff, ↓reduceIte, reduceCtorEq, Nat.reduceLT, Nat.reduceLeDiff, Array.reduceGetElem?, Nat.reduceSub, Nat.reduceBEq, zg1, ↓zc5, ↓zc6, ↓zc7, ↓zc10]
                                  repeat' with_reducible apply And.intro
                                  all_goals try ((with_reducible show CallR _ _ _ _ _ _ _); refine cR_s zk6 (.cons (.lst _ _ _ (ci_pu .u8) rfl) (.cons (.ownL (by rfl) (fun e => by cases e) rfl (by first | rfl | omega | (simp; done) | (simp [strBytes_len]; done) | (simp; omega) | (simp_all; done)) (.same _ _ (ci_pu .u8) (by first | rfl | (simp only [List.map_append, List.map_cons, List.map_nil, List.map_set, List.map_take, List.map_drop, List.map_replicate, List.append_assoc, List.nil_append, List.append_nil, ci_eq, cb_eq, cs_eq, cl_eq, CS,  List.nil_append]; done) | (simp [CS,  ci_eq, cb_eq, cs_eq, cl_eq]; done) | (simp [CS,  ci_eq, cb_eq, cs_eq, cl_eq]; intro hz; rw [List.take_of_length_le (by simp; omega)])))) .nil)) (.bool _) ?_; simp (maxSteps := 2000000) only [EVT, stepR, evOp, St.ev, St.app, St.put, wrs, evFieldAddr, evLoad, cut, evToStr, elems, allOne, frz, evUn, datOf, datOf1, evBin, binInt, TIS, CS, Nat.reduceAdd, Nat.reduceMul, Nat.reduceEqDiff, ↓reduceIte, reduceCtorEq, Nat.reduceLT, Nat.reduceLeDiff, Array.reduceGetElem?, Nat.reduceSub, Nat.reduceBEq, zg1, ↓zc5, ↓zc6, ↓zc7, ↓zc10])
                                  repeat' with_reducible apply And.intro
                                  all_goals try ((with_reducible show CallR _ _ _ _ _ _ _); refine cR_s zk9 (.cons (.lst _ _ _ Lease.pu rfl) .nil) (.bool _) ?_; simp (maxSteps := 2000000) only [EVT, stepR, evOp, St.ev, St.app, St.put, wrs, evFieldAddr, evLoad, cut, evToStr, elems, allOne, frz, evUn, datOf, datOf1, evBin, binInt, TIS, CS, Nat.reduceAdd, Nat.reduceMul, Nat.reduceEqDiff, ↓reduceIte, reduceCtorEq, Nat.reduceLT, Nat.reduceLeDiff, Array.reduceGetElem?, Nat.reduceSub, Nat.reduceBEq, zg1, ↓zc5, ↓zc6, ↓zc7, ↓zc10])
                                  repeat' with_reducible apply And.intro
                                  all_goals try ((with_reducible show CallR _ _ _ _ _ _ _); refine cR_s zk10 (.cons (.lst _ _ _ Kept.pu rfl) .nil) (.bool _) ?_; simp (maxSteps := 2000000) only [EVT, stepR, evOp, St.ev, St.app, St.put, wrs, evFieldAddr, evLoad, cut, evToStr, elems, allOne, frz, evUn, datOf, datOf1, evBin, binInt, TIS, CS, Nat.reduceAdd, Nat.reduceMul, Nat.reduceEqDiff, ↓reduceIte, reduceCtorEq, Nat.reduceLT, Nat.reduceLeDiff, Array.reduceGetElem?, Nat.reduceSub, Nat.reduceBEq, zg1, ↓zc5, ↓zc6, ↓zc7, ↓zc10])
                                  all_goals ((repeat' apply And.intro) <;> first | rfl | assumption | omega | (left; omega) | (simp; done) | (simp; omega) | (right; exact ⟨_, rfl, rfl, rfl, by decide, by first | omega | (simp; omega)⟩) | (simp_all; done))
                                refine cA_n ?_
                                refine wk_l [(some 0, ⟨32, 4, false, [[.list 7 (p2.l.map Lease.c), .int .i64 p2.data, .int .i64 p2.is, .list 6 (p2.k.map Kept.c)]]⟩)] [] [(3, .list 2 (acts1.map ActR14.c)), (9, .bool r1), (10, .list 1 (reals1.map (ci .i64))), (12, .list 1 (r2.map (ci .i64))), (13, .list 1 (r3.map (ci .i64))), (14, .ptr 0 0 0 4), (15, .int .i64 i1), (157, .bool (!r10))] (by show ([3, 9, 10, 12, 13, 14, 15, 157] : List Nat).Nodup; decide) (by show ([0] : List Nat).Nodup; decide) ?_ ?_ (fun t0 => ⟨(!r10), t0, H, rfl⟩)
                                · exact (allB_some (by rfl) rfl (.cons (.cons (.lst _ _ _ Lease.pu rfl) (.cons (.int' rfl) (.cons (.int' rfl) (.cons (.lst _ _ _ Kept.pu rfl) .nil)))) .nil) trivial)
                                · (simp only [AllT, tl_cons, tl_nil, upd_apply, List.getD_cons_zero, List.getD_cons_succ, Nat.reduceEqDiff, ↓reduceIte, and_true]); exact ⟨(.lst _ _ _ ActR14.pu rfl), (.bool' rfl), (.lst _ _ _ (ci_pu .i64) rfl), (.lst _ _ _ (ci_pu .i64) rfl), (.lst _ _ _ (ci_pu .i64) rfl), (.ptr _ _ _ _ _ rfl), (.int' rfl), (.bool' rfl)⟩
                        · have H := cond_f zc5 H
                          refine bool_split (b := r5.2) (fun zc11 => ?_) (fun zc11 => ?_)
                          · have H := cond_t zc11 H
                            refine bool_split (b := (r5.1 != p2.is)) (fun zc12 => ?_) (fun zc12 => ?_)
                            · have H := cond_t zc12 H
                              refine a_reg _ rfl (s := ?zs22) ?_ ?_
                              rotate_left
                              · simp (maxSteps := 2000000) only [EVT, stepR, evOp, St.ev, St.app, St.put, wrs, evFieldAddr, evLoad, cut, evToStr, elems, allOne, frz, evUn, datOf, datOf1, evBin, binInt, TIS, CS, Nat.reduceAdd, Nat.reduceMul, Nat.reduceEqDiff, ↓reduceIte, reduceCtorEq, Nat.reduceLT, Nat.reduceLeDiff, Array.reduceGetElem?, Nat.reduceSub, Nat.reduceBEq, zg1, ↓zc5, ↓zc11, ↓zc12]
                                try simp (maxSteps := 2000000) only [EVT, stepR, evOp, St.ev, St.app, St.put, wrs, evFieldAddr, evLoad, cut, evToStr, elems, allOne, frz, evUn, datOf, datOf1, evBin, binInt, TIS, CS, Nat.reduceAdd, Nat.reduceMul, Nat.reduceEqDiff, ↓reduceIte, reduceCtorEq, Nat.reduceLT, Nat.reduceLeDiff, Array.reduceGetElem?, Nat.reduceSub, Nat.reduceBEq, zg1, ↓zc5, ↓zc11, ↓zc12]
                                (repeat' apply And.intro) <;> first | rfl | assumption | omega | (left; omega) | (simp; done) | (simp; omega) | (right; exact ⟨_, rfl, rfl, rfl, by decide, by first | omega | (simp; omega)⟩) | (simp_all; done)
                              refine cA_n ?_
                              refine wk_l [(some 0, ⟨32, 4, false, [[.list 7 (p2.l.map Lease.c), .int .i64 p2.data, .int .i64 p2.is, .list 6 (p2.k.map Kept.c)]]⟩)] [] [(3, .list 2 (acts1.map ActR14.c)), (9, .bool r1), (10, .list 1 (reals1.map (ci .i64))), (12, .list 1 (r2.map (ci .i64))), (13, .list 1 (r3.map (ci .i64))), (14, .ptr 0 0 0 4), (15, .int .i64 i1), (157, .bool true)] (by show ([3, 9, 10, 12, 13, 14, 15, 157] : List Nat).Nodup; decide) (by show ([0] : List Nat).Nodup; decide) ?_ ?_ (fun t0 => ⟨true, t0, H, rfl⟩)
                              · exact (allB_some (by rfl) rfl (.cons (.cons (.lst _ _ _ Lease.pu rfl) (.cons (.int' rfl) (.cons (.int' rfl) (.cons (.lst _ _ _ Kept.pu rfl) .nil)))) .nil) trivial)
                              · (simp only [AllT, tl_cons, tl_nil, upd_apply, List.getD_cons_zero, List.getD_cons_succ, Nat.reduceEqDiff, ↓reduceIte, and_true]); exact ⟨(.lst _ _ _ ActR14.pu rfl), (.bool' rfl), (.lst _ _ _ (ci_pu .i64) rfl), (.lst _ _ _ (ci_pu .i64) rfl), (.lst _ _ _ (ci_pu .i64) rfl), (.ptr _ _ _ _ _ rfl), (.int' rfl), (.bool' (by first | rfl | assumption | (simp_all; done)))⟩
                            · have H := cond_f zc12 H
                              obtain ⟨r11, zh12, H⟩ := bind_some H
                              have zk11 := lease_Right_pc zh12
                              refine bool_split (b := (!r11)) (fun zc13 => ?_) (fun zc13 => ?_)
                              · have H := cond_t zc13 H
                                refine a_reg _ rfl (s := ?zs23) ?_ ?_
                                rotate_left
                                · try simp (maxSteps := 2000000) only [EVT, stepR, evOp, St.ev, St.app, St.put, wrs, evFieldAddr, evLoad, cut, evToStr, elems, allOne, frz, evUn, datOf, datOf1, evBin, binInt, TIS, CS, Nat.reduceAdd, Nat.reduceMul, Nat.reduceEqDiff, ↓reduceIte, reduceCtorEq, Nat.reduceLT, Nat.reduceLeDiff, Array.reduceGetElem?, Nat.reduceSub, Nat.reduceBEq, zg1, ↓zc5, ↓zc11, ↓zc12, ↓zc13]
                                  repeat' with_reducible apply And.intro
                                  all_goals try ((with_reducible show CallR _ _ _ _ _ _ _); refine cR_s zk11 (.cons (.lst _ _ _ Lease.pu rfl) .nil) (.bool _) ?_; simp (maxSteps := 2000000) only [EVT, stepR, evOp, St.ev, St.app, St.put, wrs, evFieldAddr, evLoad, cut, evToStr, elems, allOne, frz, evUn, datOf, datOf1, evBin, binInt, TIS, CS, Nat.reduceAdd, Nat.reduceMul, Nat.reduceEqDiff, ↓reduceIte, reduceCtorEq, Nat.reduceLT, Nat.reduceLeDiff, Array.reduceGetElem?, Nat.reduceSub, Nat.reduceBEq, zg1, ↓zc5, ↓zc11, ↓zc12, ↓zc13])
                                  all_goals ((repeat' apply And.intro) <;> first | rfl | assumption | omega | (left; omega) | (simp; done) | (simp; omega) | (right; exact ⟨_, rfl, rfl, rfl, by decide, by first | omega | (simp; omega)⟩) | (simp_all; done))
                                refine cA_n ?_
                                refine wk_l [(some 0, ⟨32, 4, false, [[.list 7 (p2.l.map Lease.c), .int .i64 p2.data, .int .i64 p2.is, .list 6 (p2.k.map Kept.c)]]⟩)] [] [(3, .list 2 (acts1.map ActR14.c)), (9, .bool r1), (10, .list 1 (reals1.map (ci .i64))), (12, .list 1 (r2.map (ci .i64))), (13, .list 1 (r3.map (ci .i64))), (14, .ptr 0 0 0 4), (15, .int .i64 i1), (157, .bool true)] (by show ([3, 9, 10, 12, 13, 14, 15, 157] : List Nat).Nodup; decide) (by show ([0] : List Nat).Nodup; decide) ?_ ?_ (fun t0 => ⟨true, t0, H, rfl⟩)
                                · exact (allB_some (by rfl) rfl (.cons (.cons (.lst _ _ _ Lease.pu rfl) (.cons (.int' rfl) (.cons (.int' rfl) (.cons (.lst _ _ _ Kept.pu rfl) .nil)))) .nil) trivial)
                                · (simp only [AllT, tl_cons, tl_nil, upd_apply, List.getD_cons_zero, List.getD_cons_succ, Nat.reduceEqDiff, ↓reduceIte, and_true]); exact ⟨(.lst _ _ _ ActR14.pu rfl), (.bool' rfl), (.lst _ _ _ (ci_pu .i64) rfl), (.lst _ _ _ (ci_pu .i64) rfl), (.lst _ _ _ (ci_pu .i64) rfl), (.ptr _ _ _ _ _ rfl), (.int' rfl), (.bool' (by first | rfl | assumption | (simp_all; done)))⟩
                              · have H := cond_f zc13 H
                                obtain ⟨r12, zh13, H⟩ := bind_some H
                                have zk12 := cache_Right_pc zh13
                                refine a_reg _ rfl (s := ?zs24) ?_ ?_
                                rotate_left
                                · try simp (maxSteps := 2000000) only [EVT, stepR, evOp, St.ev, St.app, St.put, wrs, evFieldAddr, evLoad, cut, evToStr, elems, allOne, frz, evUn, datOf, datOf1, evBin, binInt, TIS, CS, Nat.reduceAdd, Nat.reduceMul, Nat.reduceEqDiff, ↓reduceIte, reduceCtorEq, Nat.reduceLT, Nat.reduceLeDiff, Array.reduceGetElem?, Nat.reduceSub, Nat.reduceBEq, zg1, ↓zc5, ↓zc11, ↓zc12, ↓zc13]
                                  repeat' with_reducible apply And.intro
                                  all_goals try ((with_reducible show CallR _ _ _ _ _ _ _); refine cR_s zk11 (.cons (.lst _ _ _ Lease.pu rfl) .nil) (.bool _) ?_; simp (maxSteps := 2000000) only [EVT, stepR, evOp, St.ev, St.app, St.put, wrs, evFieldAddr, evLoad, cut, evToStr, elems, allOne, frz, evUn, datOf, datOf1, evBin, binInt, TIS, CS, Nat.reduceAdd, Nat.reduceMul, Nat.reduceEqDiff, ↓reduceIte, reduceCtorEq, Nat.reduceLT, Nat.reduceLeDiff, Array.reduceGetElem?, Nat.reduceSub, Nat.reduceBEq, zg1, ↓zc5, ↓zc11, ↓zc12, ↓zc13])
                                  repeat' with_reducible apply And.intro
                                  all_goals try ((with_reducible show CallR _ _ _ _ _ _ _); refine cR_s zk12 (.cons (.lst _ _ _ Kept.pu rfl) .nil) (.bool _) ?_; simp (maxSteps := 2000000) only [EVT, stepR, evOp, St.ev, St.app, St.put, wrs, evFieldAddr, evLoad, cut, evToStr, elems, allOne, frz, evUn, datOf, datOf1, evBin, binInt, TIS, CS, Nat.reduceAdd, Nat.reduceMul, Nat.reduceEqDiff, ↓reduceIte, reduceCtorEq, Nat.reduceLT, Nat.reduceLeDiff, Array.reduceGetElem?, Nat.reduceSub, Nat.reduceBEq, zg1, ↓zc5, ↓zc11, ↓zc12, ↓zc13])
                                  all_goals ((repeat' apply And.intro) <;> first | rfl | assumption | omega | (left; omega) | (simp; done) | (simp; omega) | (right; exact ⟨_, rfl, rfl, rfl, by decide, by first | omega | (simp; omega)⟩) | (simp_all; done))
                                refine cA_n ?_
                                refine wk_l [(some 0, ⟨32, 4, false, [[.list 7 (p2.l.map Lease.c), .int .i64 p2.data, .int .i64 p2.is, .list 6 (p2.k.map Kept.c)]]⟩)] [] [(3, .list 2 (acts1.map ActR14.c)), (9, .bool r1), (10, .list 1 (reals1.map (ci .i64))), (12, .list 1 (r2.map (ci .i64))), (13, .list 1 (r3.map (ci .i64))), (14, .ptr 0 0 0 4), (15, .int .i64 i1), (157, .bool (!r12))] (by show ([3, 9, 10, 12, 13, 14, 15, 157] : List Nat).Nodup; decide) (by show ([0] : List Nat).Nodup; decide) ?_ ?_ (fun t0 => ⟨(!r12), t0, H, rfl⟩)
                                · exact (allB_some (by rfl) rfl (.cons (.cons (.lst _ _ _ Lease.pu rfl) (.cons (.int' rfl) (.cons (.int' rfl) (.cons (.lst _ _ _ Kept.pu rfl) .nil)))) .nil) trivial)
                                · (simp only [AllT, tl_cons, tl_nil, upd_apply, List.getD_cons_zero, List.getD_cons_succ, Nat.reduceEqDiff, ↓reduceIte, and_true]); exact ⟨(.lst _ _ _ ActR14.pu rfl), (.bool' rfl), (.lst _ _ _ (ci_pu .i64) rfl), (.lst _ _ _ (ci_pu .i64) rfl), (.lst _ _ _ (ci_pu .i64) rfl), (.ptr _ _ _ _ _ rfl), (.int' rfl), (.bool' rfl)⟩
                          · have H := cond_f zc11 H
                            obtain ⟨r13, zh14, H⟩ := bind_some H
                            have zk13 := lease_Right_pc zh14
                            refine bool_split (b := (!r13)) (fun zc14 => ?_) (fun zc14 => ?_)
                            · have H := cond_t zc14 H
                              refine a_reg _ rfl (s := ?zs25) ?_ ?_
                              rotate_left
                              · try simp (maxSteps := 2000000) only [EVT, stepR, evOp, St.ev, St.app, St.put, wrs, evFieldAddr, evLoad, cut, evToStr, elems, allOne, frz, evUn, datOf, datOf1, evBin, binInt, TIS, CS, Nat.reduceAdd, Nat.reduceMul, Nat.reduceEqDiff, ↓reduceIte, reduceCtorEq, Nat.reduceLT, Nat.reduceLeDiff, Array.reduceGetElem?, Nat.reduceSub, Nat.reduceBEq, zg1, ↓zc5, ↓zc11, ↓zc14]
                                repeat' with_reducible apply And.intro
                                all_goals try ((with_reducible show CallR _ _ _ _ _ _ _); refine cR_s zk13 (.cons (.lst _ _ _ Lease.pu rfl) .nil) (.bool _) ?_; simp (maxSteps := 2000000) only [EVT, stepR, evOp, St.ev, St.app, St.put, wrs, evFieldAddr, evLoad, cut, evToStr, elems, allOne, frz, evUn, datOf, datOf1, evBin, binInt, TIS, CS, Nat.reduceAdd, Nat.reduceMul, Nat.reduceEqDiff, ↓reduceIte, reduceCtorEq, Nat.reduceLT, Nat.reduceLeDiff, Array.reduceGetElem?, Nat.reduceSub, Nat.reduceBEq, zg1, ↓zc5, ↓zc11, ↓zc14])
                                all_goals ((repeat' apply And.intro) <;> first | rfl | assumption | omega | (left; omega) | (simp; done) | (simp; omega) | (right; exact ⟨_, rfl, rfl, rfl, by decide, by first | omega | (simp; omega)⟩) | (simp_all; done))
                              refine cA_n ?_
                              refine wk_l [(some 0, ⟨32, 4, false, [[.list 7 (p2.l.map Lease.c), .int .i64 p2.data, .int .i64 p2.is, .list 6 (p2.k.map Kept.c)]]⟩)] [] [(3, .list 2 (acts1.map ActR14.c)), (9, .bool r1), (10, .list 1 (reals1.map (ci .i64))), (12, .list 1 (r2.map (ci .i64))), (13, .list 1 (r3.map (ci .i64))), (14, .ptr 0 0 0 4), (15, .int .i64 i1), (157, .bool true)] (by show ([3, 9, 10, 12, 13, 14, 15, 157] : List Nat).Nodup; decide) (by show ([0] : List Nat).Nodup; decide) ?_ ?_ (fun t0 => ⟨true, t0, H, rfl⟩)
                              · exact (allB_some (by rfl) rfl (.cons (.cons (.lst _ _ _ Lease.pu rfl) (.cons (.int' rfl) (.cons (.int' rfl) (.cons (.lst _ _ _ Kept.pu rfl) .nil)))) .nil) trivial)
                              · (simp only [AllT, tl_cons, tl_nil, upd_apply, List.getD_cons_zero, List.getD_cons_succ, Nat.reduceEqDiff, ↓reduceIte, and_true]); exact ⟨(.lst _ _ _ ActR14.pu rfl), (.bool' rfl), (.lst _ _ _ (ci_pu .i64) rfl), (.lst _ _ _ (ci_pu .i64) rfl), (.lst _ _ _ (ci_pu .i64) rfl), (.ptr _ _ _ _ _ rfl), (.int' rfl), (.bool' (by first | rfl | assumption | (simp_all; done)))⟩
                            · have H := cond_f zc14 H
                              obtain ⟨r14, zh15, H⟩ := bind_some H
                              have zk14 := cache_Right_pc zh15
                              refine a_reg _ rfl (s := ?zs26) ?_ ?_
                              rotate_left
                              · try simp (maxSteps := 2000000) only [EVT, stepR, evOp, St.ev, St.app, St.put, wrs, evFieldAddr, evLoad, cut, evToStr, elems, allOne, frz, evUn, datOf, datOf1, evBin, binInt, TIS, CS, Nat.reduceAdd, Nat.reduceMul, Nat.reduceEqDiff, ↓reduceIte, reduceCtorEq, Nat.reduceLT, Nat.reduceLeDiff, Array.reduceGetElem?, Nat.reduceSub, Nat.reduceBEq, zg1, ↓zc5, ↓zc11, ↓zc14]
                                repeat' with_reducible apply And.intro
                                all_goals try ((with_reducible show CallR _ _ _ _ _ _ _); refine cR_s zk13 (.cons (.lst _ _ _ Lease.pu rfl) .nil) (.bool _) ?_; simp (maxSteps := 2000000) only [EVT, stepR, evOp, St.ev, St.app, St.put, wrs, evFieldAddr, evLoad, cut, evToStr, elems, allOne, frz, evUn, datOf, datOf1, evBin, binInt, TIS, CS, Nat.reduceAdd, Nat.reduceMul, Nat.reduceEqDiff, ↓reduceIte, reduceCtorEq, Nat.reduceLT, Nat.reduceLeDiff, Array.reduceGetElem?, Nat.reduceSub, Nat.reduceBEq, zg1, ↓zc5, ↓zc11, ↓zc14])
                                repeat' with_reducible apply And.intro
                                all_goals try ((with_reducible show CallR _ _ _ _ _ _ _); refine cR_s zk14 (.cons (.lst _ _ _ Kept.pu rfl) .nil) (.bool _) ?_; simp (maxSteps := 2000000) only [EVT, stepR, evOp, St.ev, St.app, St.put, wrs, evFieldAddr, evLoad, cut, evToStr, elems, allOne, frz, evUn, datOf, datOf1, evBin, binInt, TIS, CS, Nat.reduceAdd, Nat.reduceMul, Nat.reduceEqDiff, ↓reduceIte, reduceCtorEq, Nat.reduceLT, Nat.reduceLeDiff, Array.reduceGetElem?, Nat.reduceSub, Nat.reduceBEq, zg1, ↓zc5, ↓zc11, ↓zc14])
                                all_goals ((repeat' apply And.intro) <;> first | rfl | assumption | omega | (left; omega) | (simp; done) | (simp; omega) | (right; exact ⟨_, rfl, rfl, rfl, by decide, by first | omega | (simp; omega)⟩) | (simp_all; done))
                              refine cA_n ?_
                              refine wk_l [(some 0, ⟨32, 4, false, [[.list 7 (p2.l.map Lease.c), .int .i64 p2.data, .int .i64 p2.is, .list 6 (p2.k.map Kept.c)]]⟩)] [] [(3, .list 2 (acts1.map ActR14.c)), (9, .bool r1), (10, .list 1 (reals1.map (ci .i64))), (12, .list 1 (r2.map (ci .i64))), (13, .list 1 (r3.map (ci .i64))), (14, .ptr 0 0 0 4), (15, .int .i64 i1), (157, .bool (!r14))] (by show ([3, 9, 10, 12, 13, 14, 15, 157] : List Nat).Nodup; decide) (by show ([0] : List Nat).Nodup; decide) ?_ ?_ (fun t0 => ⟨(!r14), t0, H, rfl⟩)
                              · exact (allB_some (by rfl) rfl (.cons (.cons (.lst _ _ _ Lease.pu rfl) (.cons (.int' rfl) (.cons (.int' rfl) (.cons (.lst _ _ _ Kept.pu rfl) .nil)))) .nil) trivial)
                              · (simp only [AllT, tl_cons, tl_nil, upd_apply, List.getD_cons_zero, List.getD_cons_succ, Nat.reduceEqDiff, ↓reduceIte, and_true]); exact ⟨(.lst _ _ _ ActR14.pu rfl), (.bool' rfl), (.lst _ _ _ (ci_pu .i64) rfl), (.lst _ _ _ (ci_pu .i64) rfl), (.lst _ _ _ (ci_pu .i64) rfl), (.ptr _ _ _ _ _ rfl), (.int' rfl), (.bool' rfl)⟩
                      · rintro s ⟨v3, t0, H, rfl⟩
                        unfold top_TopCached_J6 at H
                        refine a_condb (v3) (by rfl) (fun zc4 => ?_) (fun zc4 => ?_)
                        · have H := cond_t zc4 H
                          refine a_seq ?_
                          refine a_reg _ rfl (s := ?zs14) ?_ ?_
                          rotate_left
                          · simp (maxSteps := 2000000) only [EVT, stepR, evOp, St.ev, St.app, St.put, wrs, datOf, datOf1, TIS, CS, Nat.reduceAdd, Nat.reduceMul, Nat.reduceEqDiff, ↓reduceIte, reduceCtorEq, Nat.reduceLT, Nat.reduceLeDiff, ↓zc4]
                            (repeat' apply And.intro) <;> first | rfl | assumption | omega | (left; omega) | (simp; done) | (simp; omega) | (right; exact ⟨_, rfl, rfl, rfl, by decide, by first | omega | (simp; omega)⟩) | (simp_all; done)
                          refine sA_n ?_
                          refine a_ret ?_
                          refine bA_r ?_
                          refine sA_r ?_
                          refine lA_r ?_
                          refine bA_r ?_
                          refine cA_r ?_
                          obtain rfl := Option.some.inj H
                          refine e_r2 (d := ?zd4) ?_ ?_
                          rotate_left
                          · simp only [EVT, resR, single, evLoad, cut, TIS, CS, Nat.reduceAdd, Nat.reduceEqDiff, ↓reduceIte, reduceCtorEq, Nat.reduceLT, Nat.reduceLeDiff, Nat.reduceSub, Nat.reduceBEq, zc4]
                            (repeat' apply And.intro) <;> first | rfl | assumption | omega | (simp; done)
                          exact (.bool' (by first | rfl | assumption | (simp_all; done)))
                        · have H := cond_f zc4 H
                          refine a_skip ?_
                          refine bA_n ?_
                          refine sA_n ?_
                          refine a_reg _ rfl (s := ?zs15) ?_ ?_
                          rotate_left
                          · simp (maxSteps := 2000000) only [EVT, stepR, evOp, St.ev, St.app, St.put, wrs, datOf, datOf1, evBin, binInt, TIS, CS, Nat.reduceAdd, Nat.reduceMul, Nat.reduceEqDiff, ↓reduceIte, reduceCtorEq, Nat.reduceLT, Nat.reduceLeDiff, ↓zc4]
                            (repeat' apply And.intro) <;> first | rfl | assumption | omega | (left; omega) | (simp; done) | (simp; omega) | (right; exact ⟨_, rfl, rfl, rfl, by decide, by first | omega | (simp; omega)⟩) | (simp_all; done)
                          refine lA_n ?_
                          refine wk_l [(some 0, ⟨32, 4, false, [[.list 7 (p2.l.map Lease.c), .int .i64 p2.data, .int .i64 p2.is, .list 6 (p2.k.map Kept.c)]]⟩)] [] [(3, .list 2 (acts1.map ActR14.c)), (9, .bool r1), (10, .list 1 (reals1.map (ci .i64))), (12, .list 1 (r2.map (ci .i64))), (13, .list 1 (r3.map (ci .i64))), (14, .ptr 0 0 0 4), (15, .int .i64 (IntKind.wrap .i64 (i1 + 1)))] (by show ([3, 9, 10, 12, 13, 14, 15] : List Nat).Nodup; decide) (by show ([0] : List Nat).Nodup; decide) ?_ ?_ (fun t0 => ⟨_, Nat.lt_succ_self _, p2, (IntKind.wrap .i64 (i1 + 1)), t0, H, rfl⟩)
                          · exact (allB_some (by rfl) rfl (.cons (.cons (.lst _ _ _ Lease.pu rfl) (.cons (.int' rfl) (.cons (.int' rfl) (.cons (.lst _ _ _ Kept.pu rfl) .nil)))) .nil) trivial)
                          · (simp only [AllT, tl_cons, tl_nil, upd_apply, List.getD_cons_zero, List.getD_cons_succ, Nat.reduceEqDiff, ↓reduceIte, and_true]); exact ⟨(.lst _ _ _ ActR14.pu rfl), (.bool' rfl), (.lst _ _ _ (ci_pu .i64) rfl), (.lst _ _ _ (ci_pu .i64) rfl), (.lst _ _ _ (ci_pu .i64) rfl), (.ptr _ _ _ _ _ rfl), (.int' rfl)⟩
                  · have H := cond_f zc3 H
                    refine a_exit ?_
                    refine sA_e ?_
                    refine lA_e ?_
                    refine bA_hit ?_
                    refine cA_n ?_
                    refine wk_l [] [] [(9, .bool r1)] (by show ([9] : List Nat).Nodup; decide) (by show ([] : List Nat).Nodup; decide) ?_ ?_ (fun t0 => ⟨t0, H, rfl⟩)
                    · exact trivial
                    · (simp only [AllT, tl_cons, tl_nil, upd_apply, List.getD_cons_zero, List.getD_cons_succ, Nat.reduceEqDiff, ↓reduceIte, and_true]); exact (.bool' rfl)
            · rintro s ⟨t0, H, rfl⟩
              unfold top_TopCached_J4 at H
              refine a_seq ?_
              refine a_reg _ rfl (s := ?zs9) ?_ ?_
              rotate_left
              · simp (maxSteps := 2000000) only [EVT, stepR, evOp, St.ev, St.app, St.put, wrs, TIS, CS, Nat.reduceAdd, Nat.reduceMul, Nat.reduceEqDiff, ↓reduceIte, reduceCtorEq, Nat.reduceLT, Nat.reduceLeDiff]
                (repeat' apply And.intro) <;> first | rfl | assumption | omega | (left; omega) | (simp; done) | (simp; omega) | (right; exact ⟨_, rfl, rfl, rfl, by decide, by first | omega | (simp; omega)⟩) | (simp_all; done)
              refine sA_n ?_
              refine a_ret ?_
              obtain rfl := Option.some.inj H
              refine e_r2 (d := ?zd3) ?_ ?_
              rotate_left
              · simp only [EVT, resR, single, evLoad, cut, TIS, CS, Nat.reduceAdd, Nat.reduceEqDiff, ↓reduceIte, reduceCtorEq, Nat.reduceLT, Nat.reduceLeDiff, Nat.reduceSub, Nat.reduceBEq]
                (repeat' apply And.intro) <;> first | rfl | assumption | omega | (simp; done)
              exact (.bool' rfl)
end
end Go.Proofs.Ytogickapcbibbaa
