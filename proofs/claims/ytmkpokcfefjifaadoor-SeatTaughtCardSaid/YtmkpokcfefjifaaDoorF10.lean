import Derived.Test.YtmkpokcfefjifaaDoorF9
set_option linter.unusedSectionVars false
/- Functions of the program as Lean functions, and that they are so; printed by a program of mine. -/
set_option linter.unusedSimpArgs false
set_option linter.unusedVariables false
namespace Go.Proofs.YtmkpokcfefjifaaDoor
open Go.Ab
open Nat (reduceAdd reduceMul reduceEqDiff reduceLT reduceLeDiff reduceSub)
noncomputable section

def slices_Compact_J1 (s1 : List Int) : Option (List Int) :=
 some (s1)
def slices_Compact_J2 (k_slices_Compact_L1 : Int → Option (List Int)) (k1 : Int) : Option (List Int) :=
 k_slices_Compact_L1 (IntKind.wrap .i64 (k1 + 1))
def slices_Compact_J3 (s2 : List Int) (k2 : Int) : Option (List Int) :=
 chk (0 ≤ k2 ∧ k2 ≤ (s2.length : Int) ∧ (s2.length : Int) ≤ (s2.length : Int)) (chk (0 ≤ k2 ∧ k2 ≤ (s2.length : Int)) (some ((s2.take k2.toNat))))
def slices_Compact_J4 (k_slices_Compact_L2 : (List Int) → Int → Nat → Nat → Int → Option (List Int)) (k4 : Int) (s4 : List Int) (k5 : Int) (o2 : Nat) (n2 : Nat) : Option (List Int) :=
 k_slices_Compact_L2 s4 k5 o2 n2 (IntKind.wrap .i64 (k4 + 1))
def slices_Compact_L2 : Nat → (List Int) → Int → Nat → Nat → Int → Option (List Int)
 | 0, _, _, _, _, _ => none
 | m_ + 1, s3, k3, o1, n1, k4 => cond (decide (k4 < (((n1 : Nat)) : Int))) (chk (k4 < (n1 : Int)) ((idx (s3.drop o1) k4).bind fun x3 => chk ((IntKind.wrap .i64 (k4 - 1)) < (n1 : Int)) ((idx (s3.drop o1) (IntKind.wrap .i64 (k4 - 1))).bind fun x4 => cond (x3 != x4) (chk (k4 < (n1 : Int)) ((idx s3 k3).bind fun x5 => slices_Compact_J4 (slices_Compact_L2 m_) k4 (s3.set k3.toNat x3) (IntKind.wrap .i64 (k3 + 1)) o1 n1)) (slices_Compact_J4 (slices_Compact_L2 m_) k4 s3 k3 o1 n1)))) (slices_Compact_J3 s3 k3)
def slices_Compact_L1 (s1 : List Int) : Nat → Int → Option (List Int)
 | 0, _ => none
 | m_ + 1, k1 => cond (decide (k1 < (((s1.length : Nat)) : Int))) ((idx s1 k1).bind fun x1 => (idx s1 (IntKind.wrap .i64 (k1 - 1))).bind fun x2 => cond (x1 == x2) (chk (0 ≤ k1 ∧ k1 ≤ (s1.length : Int) ∧ (s1.length : Int) ≤ (s1.length : Int)) (slices_Compact_L2 BIG s1 k1 k1.toNat (s1.length - k1.toNat) 1)) (slices_Compact_J2 (slices_Compact_L1 s1 m_) k1)) (slices_Compact_J1 s1)
def slices_Compact_f (s1 : List Int) : Option (List Int) :=
 cond (decide ((((s1.length : Nat)) : Int) < 2)) (some (s1)) (slices_Compact_L1 s1 BIG 1)
set_option maxHeartbeats 4000000 in
set_option maxRecDepth 20000 in
theorem slices_Compact_rc {s1 : List Int} {r : (List Int)} (H : slices_Compact_f s1 = some r) : RC Tryd.prog 51 [.ref 0 0 s1.length 1] [⟨3, 1, false, s1.map (ci .i64)⟩] 0 (.list 1 (r.map (ci .i64))) [] := by
 refine rcA_of Tryd.func51 (by rfl) (by decide) 61 (by rfl) [.tmp 2] (by rfl) ?_
 unfold slices_Compact_f at H
 simp only [hent, List.length_cons, List.length_nil, reduceAdd]
 refine a_seq ?_
 refine a_regC _ rfl ?_
 refine sA_n ?_
 refine a_seq ?_
 refine a_seq ?_
 refine a_regC _ rfl ?_
 refine sA_n ?_
 refine a_cnd H (fun zc1 H => ?_) (fun zc1 H => ?_)
 ·refine a_seq ?_
  refine a_regC _ rfl ?_
  refine sA_n ?_
  refine a_ret ?_
  refine sA_r ?_
  obtain rfl := Option.some.inj H
  refine eR_r ?_
  refine wk_ln 0 [] [0] [(2, .list 1 (s1.map (ci .i64)))] (fun i h => absurd h (Nat.not_lt_zero i)) (by show ([2] : List Nat).Nodup; decide) (by show ([] : List Nat).Nodup; decide) ?_ ?_ (fun t0 => ⟨by first | rfl | (simp only [EVT, resR, single, evLoad, cut, TIS, CS, reduceAdd, reduceEqDiff, ↓reduceIte, reduceCtorEq, reduceLT, reduceLeDiff, reduceSub, Nat.reduceBEq]; (repeat' apply And.intro) <;> first | rfl | (simp; done)), fun j B h => by rcases j with _ <;> first | exact h | (exact absurd h (by simp [hh]))⟩)
  ·exact trivial
  ·(simp only [AllT, ATT, reduceEqDiff, ↓reduceIte, and_true]); exact (.frz' (by rfl) (by simp) rfl (by first|rfl|omega|(simp;done)|(simp;omega)|(simp_all;done)) (.sm _ _ (ci_pu .i64)))
 ·refine a_skip ?_
  refine sA_n ?_
  refine a_cut (fun s => ∃ (t0 : Nat → Dat), slices_Compact_J1 s1 = some r ∧ s = ⟨tl t0 [(0, .ref 0 0 s1.length 1)], hl [⟨3, 1, false, s1.map (ci .i64)⟩], 1, 61⟩) ?_ ?_
  ·refine a_seq ?_
   refine a_regC _ rfl ?_
   refine sA_n ?_
   refine a_blk ?_
   refine a_loop (fun m s => ∃ (k1 : Int) (t0 : Nat → Dat), slices_Compact_L1 s1 m k1 = some r ∧ s = ⟨tl t0 [(0, .ref 0 0 s1.length 1), (3, .int .i64 k1)], hl [⟨3, 1, false, s1.map (ci .i64)⟩], 1, 61⟩) BIG ?_ ?_
   ·exact wk_lA [(some 0, _)] [] (fun t0 => ⟨1, t0, H, rfl⟩)
   ·rintro m_slices_Compact_L1 s ⟨k1, t0, H, rfl⟩
    obtain _ | m_slices_Compact_L1 := m_slices_Compact_L1
    ·cases (show (none : Option _) = some _ from H)
    ·rw [slices_Compact_L1] at H
     refine a_seq ?_
     refine a_seq ?_
     refine a_regC _ rfl ?_
     refine sA_n ?_
     refine a_cnd H (fun zc2 H => ?_) (fun zc2 H => ?_)
     ·refine a_skip ?_
      refine sA_n ?_
      refine a_cut (fun s => ∃ (t0 : Nat → Dat), slices_Compact_J2 (slices_Compact_L1 s1 m_slices_Compact_L1) k1 = some r ∧ s = ⟨tl t0 [(0, .ref 0 0 s1.length 1), (3, .int .i64 k1)], hl [⟨3, 1, false, s1.map (ci .i64)⟩], 1, 61⟩) ?_ ?_
      ·refine a_blk ?_
       refine a_seq ?_
       obtain ⟨x1, zh1, H⟩ := bind_some H
       obtain ⟨zg1, zh1a, zh1b⟩ := idx3 (f := (ci .i64)) zh1
       try simp only [Int.reduceToNat, Int.toNat_natCast] at zg1
       obtain ⟨x2, zh2, H⟩ := bind_some H
       obtain ⟨zg2, zh2a, zh2b⟩ := idx3 (f := (ci .i64)) zh2
       try simp only [Int.reduceToNat, Int.toNat_natCast] at zg2
       refine a_drW (by kernel_rfl) _ rfl (s := ?zs8) (by kernel_rfl) (by kernel_rfl) ?zs8f ?_ ?_ ?_
       rotate_left 2
       ·refine goS ?_
        (repeat' apply And.intro) <;> first|rfl|assumption|omega|(simp;done)|(simp;omega)|(simp_all;done)
       ·kernel_rfl
       refine sA_n ?_
       refine a_cnd H (fun zc3 H => ?_) (fun zc3 H => ?_)
       ·refine a_seq ?_
        obtain ⟨zh3, H⟩ := chk_some H
        refine a_regC _ rfl ?_
        refine sA_n ?_
        refine a_cut (fun s => ∃ (s2 : List Int) (k2 : Int) (t0 : Nat → Dat), slices_Compact_J3 s2 k2 = some r ∧ s = ⟨tl t0 [(0, .ref 0 0 s2.length 1), (3, .int .i64 k2)], hl [⟨3, 1, false, s2.map (ci .i64)⟩], 1, 61⟩) ?_ ?_
        ·refine a_seq ?_
         refine a_regC _ rfl ?_
         refine sA_n ?_
         refine a_blk ?_
         refine a_loop (fun m s => ∃ (s3 : List Int) (k3 : Int) (o1 : Nat) (n1 : Nat) (k4 : Int) (t0 : Nat → Dat), slices_Compact_L2 m s3 k3 o1 n1 k4 = some r ∧ s = ⟨tl t0 [(0, .ref 0 0 s3.length 1), (3, .int .i64 k3), (4, .ref 0 o1 n1 1), (5, .int .i64 k4)], hl [⟨3, 1, false, s3.map (ci .i64)⟩], 1, 61⟩) BIG ?_ ?_
         ·exact wk_lA [(some 0, _)] [] (fun t0 => ⟨s1, k1, k1.toNat, (s1.length - k1.toNat), 1, t0, H, rfl⟩)
         ·rintro m_slices_Compact_L2 s ⟨s3, k3, o1, n1, k4, t0, H, rfl⟩
          obtain _ | m_slices_Compact_L2 := m_slices_Compact_L2
          ·cases (show (none : Option _) = some _ from H)
          ·rw [slices_Compact_L2] at H
           refine a_seq ?_
           refine a_seq ?_
           refine a_regC _ rfl ?_
           refine sA_n ?_
           refine a_cnd H (fun zc4 H => ?_) (fun zc4 H => ?_)
           ·refine a_skip ?_
            refine sA_n ?_
            refine a_cut (fun s => ∃ (s4 : List Int) (k5 : Int) (o2 : Nat) (n2 : Nat) (t0 : Nat → Dat), slices_Compact_J4 (slices_Compact_L2 m_slices_Compact_L2) k4 s4 k5 o2 n2 = some r ∧ s = ⟨tl t0 [(0, .ref 0 0 s4.length 1), (3, .int .i64 k5), (4, .ref 0 o2 n2 1), (5, .int .i64 k4)], hl [⟨3, 1, false, s4.map (ci .i64)⟩], 1, 61⟩) ?_ ?_
            ·refine a_blk ?_
             refine a_seq ?_
             obtain ⟨zh6, H⟩ := chk_some H
             obtain ⟨x3, zh7, H⟩ := bind_some H
             have zg3 := idx_map zh7 (ci .i64)
             simp only [Int.reduceToNat, Int.toNat_natCast, getD_dropm] at zg3
             obtain ⟨zh7a, zh7b, _⟩ := idx_some zh7
             try simp only [List.length_drop] at zh7b
             obtain ⟨zh8, H⟩ := chk_some H
             obtain ⟨x4, zh9, H⟩ := bind_some H
             have zg4 := idx_map zh9 (ci .i64)
             simp only [Int.reduceToNat, Int.toNat_natCast, getD_dropm] at zg4
             obtain ⟨zh9a, zh9b, _⟩ := idx_some zh9
             try simp only [List.length_drop] at zh9b
             refine a_drW (by kernel_rfl) _ rfl (s := ?zs15) (by kernel_rfl) (by kernel_rfl) ?zs15f ?_ ?_ ?_
             rotate_left 2
             ·refine goS ?_
              (repeat' apply And.intro) <;> first|rfl|assumption|omega|(simp;done)|(simp;omega)|(simp_all;done)
             ·kernel_rfl
             refine sA_n ?_
             refine a_cnd H (fun zc5 H => ?_) (fun zc5 H => ?_)
             ·refine a_seq ?_
              obtain ⟨zh10, H⟩ := chk_some H
              obtain ⟨x5, zh11, H⟩ := bind_some H
              obtain ⟨zg5, zh11a, zh11b⟩ := idx3 (f := (ci .i64)) zh11
              try simp only [Int.reduceToNat, Int.toNat_natCast] at zg5
              refine a_regC _ rfl ?_
              refine sA_n ?_
              refine a_regC _ rfl ?_
              refine bA_n ?_
              refine cA_n ?_
              exact wk_lA [(some 0, _)] [] (fun t0 => ⟨(s3.set k3.toNat x3), (IntKind.wrap .i64 (k3 + 1)), o1, n1, t0, H, rfl⟩)
             ·refine a_skip ?_
              refine bA_n ?_
              refine cA_n ?_
              exact wk_lA [(some 0, _)] [] (fun t0 => ⟨s3, k3, o1, n1, t0, H, rfl⟩)
            ·rintro s ⟨s4, k5, o2, n2, t0, H, rfl⟩
             unfold slices_Compact_J4 at H
             refine a_regC _ rfl ?_
             refine lA_n ?_
             exact wk_lA [(some 0, _)] [] (fun t0 => ⟨_, Nat.lt_succ_self _, s4, k5, o2, n2, (IntKind.wrap .i64 (k4 + 1)), t0, H, rfl⟩)
           ·refine a_exit ?_
            refine sA_e ?_
            refine lA_e ?_
            refine bA_hit ?_
            refine cA_n ?_
            exact wk_lA [(some 0, _)] [] (fun t0 => ⟨s3, k3, t0, H, rfl⟩)
        ·rintro s ⟨s2, k2, t0, H, rfl⟩
         unfold slices_Compact_J3 at H
         refine a_seq ?_
         obtain ⟨zh4, H⟩ := chk_some H
         refine a_reg _ rfl (s := ?zs10) ?_ ?_
         rotate_left
         ·simp only [EVT, stepR, evOp, St.ev, St.app, St.put, wrs, evSlice, sliceOk, sl_if0, sl_if1, sl_if2, sl_if3, tk_map, dp_map, evBuiltin, evClear, allOne, TIS, CS, reduceAdd, reduceMul, reduceEqDiff, ↓reduceIte, reduceCtorEq, reduceLT, reduceLeDiff, Int.reduceToNat, reduceSub, Nat.reduceBEq]
          (repeat' apply And.intro) <;> first | rfl | assumption | omega | (left; omega) | (simp; done) | (simp; omega) | (right; exact ⟨_, rfl, rfl, rfl, by decide, by first | omega | (simp; omega)⟩) | (simp_all; done)
         refine sA_n ?_
         refine a_seq ?_
         obtain ⟨zh5, H⟩ := chk_some H
         refine a_regC _ rfl ?_
         refine sA_n ?_
         refine a_ret ?_
         refine bA_r ?_
         refine cA_r ?_
         refine lA_r ?_
         refine bA_r ?_
         refine cA_r ?_
         obtain rfl := Option.some.inj H
         refine eR_r ?_
         refine wk_ln 0 [] [0] [(2, .list 1 ((s2.take k2.toNat).map (ci .i64)))] (fun i h => absurd h (Nat.not_lt_zero i)) (by show ([2] : List Nat).Nodup; decide) (by show ([] : List Nat).Nodup; decide) ?_ ?_ (fun t0 => ⟨by first | rfl | (simp only [EVT, resR, single, evLoad, cut, TIS, CS, reduceAdd, reduceEqDiff, ↓reduceIte, reduceCtorEq, reduceLT, reduceLeDiff, reduceSub, Nat.reduceBEq]; (repeat' apply And.intro) <;> first | rfl | (simp; done)), fun j B h => by rcases j with _ <;> first | exact h | (exact absurd h (by simp [hh]))⟩)
         ·exact trivial
         ·(simp only [AllT, ATT, reduceEqDiff, ↓reduceIte, and_true]); exact (.frzs (by rfl) (by simp) rfl (by first|rfl|omega|(simp;done)|(simp;omega)|(simp_all;done)) (by first|rfl|omega|(simp;done)|(simp;omega)|(simp_all;done)) (.same _ _ (ci_pu .i64) (by (refine tk_garb _ _ (by first | (simp; done) | (simp; omega)) ?_); first | rfl | (rw [List.take_append_of_le_length (by simp; omega), List.take_of_length_le (by simp; omega)]; simp only [tk_dr, List.map_append]; done) | (simp; done) | (simp; omega))))
       ·refine a_skip ?_
        refine bA_n ?_
        refine cA_n ?_
        exact wk_lA [(some 0, _)] [] (fun t0 => ⟨t0, H, rfl⟩)
      ·rintro s ⟨t0, H, rfl⟩
       unfold slices_Compact_J2 at H
       refine a_regC _ rfl ?_
       refine lA_n ?_
       exact wk_lA [(some 0, _)] [] (fun t0 => ⟨_, Nat.lt_succ_self _, (IntKind.wrap .i64 (k1 + 1)), t0, H, rfl⟩)
     ·refine a_exit ?_
      refine sA_e ?_
      refine lA_e ?_
      refine bA_hit ?_
      refine cA_n ?_
      exact wk_lA [(some 0, _)] [] (fun t0 => ⟨t0, H, rfl⟩)
  ·rintro s ⟨t0, H, rfl⟩
   unfold slices_Compact_J1 at H
   refine a_seq ?_
   refine a_regC _ rfl ?_
   refine sA_n ?_
   refine a_ret ?_
   obtain rfl := Option.some.inj H
   refine eR_r ?_
   refine wk_ln 0 [] [0] [(2, .list 1 (s1.map (ci .i64)))] (fun i h => absurd h (Nat.not_lt_zero i)) (by show ([2] : List Nat).Nodup; decide) (by show ([] : List Nat).Nodup; decide) ?_ ?_ (fun t0 => ⟨by first | rfl | (simp only [EVT, resR, single, evLoad, cut, TIS, CS, reduceAdd, reduceEqDiff, ↓reduceIte, reduceCtorEq, reduceLT, reduceLeDiff, reduceSub, Nat.reduceBEq]; (repeat' apply And.intro) <;> first | rfl | (simp; done)), fun j B h => by rcases j with _ <;> first | exact h | (exact absurd h (by simp [hh]))⟩)
   ·exact trivial
   ·(simp only [AllT, ATT, reduceEqDiff, ↓reduceIte, and_true]); exact (.frz' (by rfl) (by simp) rfl (by first|rfl|omega|(simp;done)|(simp;omega)|(simp_all;done)) (.sm _ _ (ci_pu .i64)))
def seat_New_f (id1 : Int) (others1 : List Int) : Option Seat :=
 chk ((1 + others1.length) * 8 ≤ 140737488355328) ((slices_Sort_f ([id1] ++ others1)).bind fun r1 => chk (r1.length = 1 + others1.length) ((slices_Compact_f r1).bind fun r2 => (seat_Right_f (⟨id1, r2, 0, (-1), 1, [], 0, [], [], []⟩ : Seat)).bind fun r3 => cond (!r3) (some ((⟨0, [], 0, 0, 0, [], 0, [], [], []⟩ : Seat))) (some ((⟨id1, r2, 0, (-1), 1, [], 0, [], [], []⟩ : Seat)))))
set_option maxHeartbeats 4000000 in
set_option maxRecDepth 20000 in
theorem seat_New_pc {id1 : Int} {others1 : List Int} {r : Seat} (H : seat_New_f id1 others1 = some r) : PC Tryd.prog 15 [.int .i64 id1, .list 1 (others1.map (ci .i64))] (.agg (Seat.c r)) := by
 refine pcA_of Tryd.func15 (by rfl) (by decide) 22 (by rfl) [.cell 4 25] (by rfl) ?_
 unfold seat_New_f at H
 simp only [ent]
 refine a_seq ?_
 refine a_regC _ rfl ?_
 refine sA_n ?_
 refine a_seq ?_
 obtain ⟨zh1, H⟩ := chk_some H
 refine a_regC _ rfl ?_
 refine sA_n ?_
 refine a_seq ?_
 obtain ⟨r1, zh2, H⟩ := bind_some H
 have zk1 := slices_Sort_rc zh2
 obtain ⟨zh3, H⟩ := chk_some H
 refine a_reg _ rfl (s := ?zs3) ?_ ?_
 rotate_left
 ·try refine goS ?_
  repeat' with_reducible apply And.intro
  all_goals try ((with_reducible show CallR _ _ _ _ _ _ _); refine callR_rcw (r' := .tup []) [(11, none), (11, some ⟨3, 1, false, r1.map (ci .i64)⟩)] [(some 11, _)] [] [(11, 0, _)] EQA zk1 (by simp) ND ZZ ZZ ND ND ZZ ZZ ?_; refine goS ?_)
  all_goals ((repeat' apply And.intro) <;> first|rfl|assumption|omega|(simp;done)|(simp;omega)|(simp_all;done))
 refine sA_n ?_
 refine a_seq ?_
 obtain ⟨r2, zh4, H⟩ := bind_some H
 have zk2 := slices_Compact_rc zh4
 refine a_reg _ rfl (s := ?zs4) ?_ ?_
 rotate_left
 ·try refine goS ?_
  repeat' with_reducible apply And.intro
  all_goals try ((with_reducible show CallR _ _ _ _ _ _ _); refine callR_rcw (r' := .list 1 (r2.map (ci .i64))) [(11, none)] [(some 11, _)] [] [] EQA zk2 (by simp) ND ZZ ZZ ND ND ZZ ZZ ?_; refine goS ?_)
  all_goals ((repeat' apply And.intro) <;> first|rfl|assumption|omega|(simp;done)|(simp;omega)|(simp_all;done))
 refine sA_n ?_
 refine a_seq ?_
 refine a_seq ?_
 obtain ⟨r3, zh5, H⟩ := bind_some H
 have zk3 := seat_Right_pc zh5
 refine a_regK _ rfl ?_
 refine sA_n ?_
 refine a_cnd H (fun zc1 H => ?_) (fun zc1 H => ?_)
 ·refine a_seq ?_
  refine a_regC _ rfl ?_
  refine sA_n ?_
  exact a_ret (sA_r RT)
 ·refine a_skip ?_
  refine sA_n ?_
  refine a_seq ?_
  refine a_regC _ rfl ?_
  refine sA_n ?_
  refine a_ret ?_
  obtain rfl := Option.some.inj H
  refine e_r2 (d := ?zd2) ?_ ?_
  rotate_left
  ·simp only [EVT, resR, single, evLoad, cut, TIS, CS, reduceAdd, reduceEqDiff, ↓reduceIte, reduceCtorEq, reduceLT, reduceLeDiff, reduceSub, Nat.reduceBEq, zc1]
   (repeat' apply And.intro) <;> first | rfl | assumption | omega | (simp; done)
  exact ZZ
end
end Go.Proofs.YtmkpokcfefjifaaDoor
