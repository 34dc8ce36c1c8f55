import Derived.Test.YtmkpokcfefjifaaDoorF1
set_option linter.unusedSectionVars false
/- Functions of the program as Lean functions, and that they are so; printed by a program of mine. -/
set_option linter.unusedSimpArgs false
set_option linter.unusedVariables false
namespace Go.Proofs.YtmkpokcfefjifaaDoor
open Go.Ab
open Nat (reduceAdd reduceMul reduceEqDiff reduceLT reduceLeDiff reduceSub)
noncomputable section

def cmp_isNaN_f (x1 : Int) : Option Bool :=
 some ((x1 != x1))
set_option maxHeartbeats 4000000 in
set_option maxRecDepth 20000 in
theorem cmp_isNaN_pc {x1 : Int} {r : Bool} (H : cmp_isNaN_f x1 = some r) : PC Tryd.prog 97 [.int .i64 x1] (.bool r) := by
 refine pcA_of Tryd.func97 (by rfl) (by decide) 6 (by rfl) [.tmp 2] (by rfl) ?_
 unfold cmp_isNaN_f at H
 simp only [ent]
 refine a_seq ?_
 refine a_regC _ rfl ?_
 refine sA_n ?_
 refine a_seq ?_
 refine a_regC _ rfl ?_
 refine sA_n ?_
 exact a_ret RT
def cmp_Less_f (x1 : Int) (y1 : Int) : Option Bool :=
 (cmp_isNaN_f x1).bind fun r1 => cond r1 ((cmp_isNaN_f y1).bind fun r2 => some ((!r2) || (decide (x1 < y1)))) (some ((decide (x1 < y1))))
set_option maxHeartbeats 4000000 in
set_option maxRecDepth 20000 in
theorem cmp_Less_pc {x1 : Int} {y1 : Int} {r : Bool} (H : cmp_Less_f x1 y1 = some r) : PC Tryd.prog 85 [.int .i64 x1, .int .i64 y1] (.bool r) := by
 refine pcA_of Tryd.func85 (by rfl) (by decide) 17 (by rfl) [.tmp 4] (by rfl) ?_
 unfold cmp_Less_f at H
 simp only [ent]
 refine a_seq ?_
 refine a_regC _ rfl ?_
 refine sA_n ?_
 refine a_seq ?_
 obtain ⟨r1, zh1, H⟩ := bind_some H
 have zk1 := cmp_isNaN_pc zh1
 refine cnd H (fun zc1 H => ?_) (fun zc1 H => ?_)
 ·obtain ⟨r2, zh2, H⟩ := bind_some H
  have zk2 := cmp_isNaN_pc zh2
  refine bool_split (b := (!r2)) (fun zc2 => ?_) (fun zc2 => ?_)
  ·rw [zc2] at H
   refine a_reg _ rfl (s := ?zs2) ?_ ?_
   rotate_left
   ·try refine goS ?_
    repeat' with_reducible apply And.intro
    all_goals try ((with_reducible show CallR _ _ _ _ _ _ _); refine cR_s zk1 ZZ (.bool _) ?_; refine goS ?_)
    repeat' with_reducible apply And.intro
    all_goals try ((with_reducible show CallR _ _ _ _ _ _ _); refine cR_s zk2 ZZ (.bool _) ?_; refine goS ?_)
    all_goals ((repeat' apply And.intro) <;> first|rfl|assumption|omega|(simp;done)|(simp;omega)|(simp_all;done))
   refine sA_n ?_
   exact a_ret RT
  ·rw [zc2] at H
   refine a_reg _ rfl (s := ?zs3) ?_ ?_
   rotate_left
   ·try refine goS ?_
    repeat' with_reducible apply And.intro
    all_goals try ((with_reducible show CallR _ _ _ _ _ _ _); refine cR_s zk1 ZZ (.bool _) ?_; refine goS ?_)
    repeat' with_reducible apply And.intro
    all_goals try ((with_reducible show CallR _ _ _ _ _ _ _); refine cR_s zk2 ZZ (.bool _) ?_; refine goS ?_)
    all_goals ((repeat' apply And.intro) <;> first|rfl|assumption|omega|(simp;done)|(simp;omega)|(simp_all;done))
   refine sA_n ?_
   refine a_ret ?_
   obtain rfl := Option.some.inj H
   refine e_r2 (d := ?zd2) ?_ ?_
   rotate_left
   ·simp only [EVT, resR, single, evLoad, cut, TIS, CS, reduceAdd, reduceEqDiff, ↓reduceIte, reduceCtorEq, reduceLT, reduceLeDiff, reduceSub, Nat.reduceBEq, zc1, zc2]
    (repeat' apply And.intro) <;> first | rfl | assumption | omega | (simp; done)
   exact ZZ
 ·refine a_regK _ rfl ?_
  refine sA_n ?_
  refine a_ret ?_
  obtain rfl := Option.some.inj H
  refine e_r2 (d := ?zd3) ?_ ?_
  rotate_left
  ·simp only [EVT, resR, single, evLoad, cut, TIS, CS, reduceAdd, reduceEqDiff, ↓reduceIte, reduceCtorEq, reduceLT, reduceLeDiff, reduceSub, Nat.reduceBEq, zc1]
   (repeat' apply And.intro) <;> first | rfl | assumption | omega | (simp; done)
  exact ZZ
def slices_insertionSortOrdered_J1 (k_slices_insertionSortOrdered_L1 : (List Int) → Int → Option (List Int)) (i1 : Int) (data3 : List Int) : Option (List Int) :=
 k_slices_insertionSortOrdered_L1 data3 (IntKind.wrap .i64 (i1 + 1))
def slices_insertionSortOrdered_J2 (k_slices_insertionSortOrdered_L2 : (List Int) → Int → Option (List Int)) (k_slices_insertionSortOrdered_L1 : (List Int) → Int → Option (List Int)) (data4 : List Int) (j1 : Int) (i1 : Int) (v1 : Bool) : Option (List Int) :=
 cond v1 ((idx data4 (IntKind.wrap .i64 (j1 - 1))).bind fun x1 => (idx data4 j1).bind fun x2 => (idx (data4.set j1.toNat x1) (IntKind.wrap .i64 (j1 - 1))).bind fun x3 => k_slices_insertionSortOrdered_L2 ((data4.set j1.toNat x1).set ((IntKind.wrap .i64 (j1 - 1)).toNat) x2) (IntKind.wrap .i64 (j1 - 1))) (slices_insertionSortOrdered_J1 k_slices_insertionSortOrdered_L1 i1 data4)
def slices_insertionSortOrdered_L2 (k_slices_insertionSortOrdered_L1 : (List Int) → Int → Option (List Int)) (a1 : Int) (i1 : Int) : Nat → (List Int) → Int → Option (List Int)
 | 0, _, _ => none
 | m_ + 1, data4, j1 => cond (decide (a1 < j1)) ((idx data4 j1).bind fun x4 => (idx data4 (IntKind.wrap .i64 (j1 - 1))).bind fun x5 => (cmp_Less_f x4 x5).bind fun r1 => slices_insertionSortOrdered_J2 (slices_insertionSortOrdered_L2 k_slices_insertionSortOrdered_L1 a1 i1 m_) k_slices_insertionSortOrdered_L1 data4 j1 i1 r1) (slices_insertionSortOrdered_J2 (slices_insertionSortOrdered_L2 k_slices_insertionSortOrdered_L1 a1 i1 m_) k_slices_insertionSortOrdered_L1 data4 j1 i1 false)
def slices_insertionSortOrdered_L1 (b1 : Int) (a1 : Int) : Nat → (List Int) → Int → Option (List Int)
 | 0, _, _ => none
 | m_ + 1, data2, i1 => cond (decide (i1 < b1)) (slices_insertionSortOrdered_L2 (slices_insertionSortOrdered_L1 b1 a1 m_) a1 i1 BIG data2 i1) (some (data2))
def slices_insertionSortOrdered_f (data1 : List Int) (a1 : Int) (b1 : Int) : Option (List Int) :=
 slices_insertionSortOrdered_L1 b1 a1 BIG data1 (IntKind.wrap .i64 (a1 + 1))
set_option maxHeartbeats 4000000 in
set_option maxRecDepth 20000 in
theorem slices_insertionSortOrdered_rc {data1 : List Int} {a1 : Int} {b1 : Int} {r : (List Int)} (H : slices_insertionSortOrdered_f data1 a1 b1 = some r) : RC Tryd.prog 79 [.ref 0 0 data1.length 1, .int .i64 a1, .int .i64 b1] [⟨3, 1, false, data1.map (ci .i64)⟩] 1 (.tup []) [some ⟨3, 1, false, r.map (ci .i64)⟩] := by
 refine rcA_of Tryd.func79 (by rfl) (by decide) 49 (by rfl) [] (by rfl) ?_
 unfold slices_insertionSortOrdered_f at H
 simp only [hent, List.length_cons, List.length_nil, reduceAdd]
 refine a_seq ?_
 refine a_regC _ rfl ?_
 refine sA_n ?_
 refine a_blk ?_
 refine a_loop (fun m s => ∃ (data2 : List Int) (i1 : Int) (t0 : Nat → Dat), slices_insertionSortOrdered_L1 b1 a1 m data2 i1 = some r ∧ s = ⟨tl t0 [(0, .ref 0 0 data2.length 1), (1, .int .i64 a1), (2, .int .i64 b1), (6, .int .i64 i1)], hl [⟨3, 1, false, data2.map (ci .i64)⟩], 1, 49⟩) BIG ?_ ?_
 ·exact wk_lnA 1 [(some 0, _)] [] (fun t0 => ⟨data1, (IntKind.wrap .i64 (a1 + 1)), t0, H, rfl⟩)
 ·rintro m_slices_insertionSortOrdered_L1 s ⟨data2, i1, t0, H, rfl⟩
  obtain _ | m_slices_insertionSortOrdered_L1 := m_slices_insertionSortOrdered_L1
  ·cases (show (none : Option _) = some _ from H)
  ·rw [slices_insertionSortOrdered_L1] at H
   refine a_seq ?_
   refine a_seq ?_
   refine a_regC _ rfl ?_
   refine sA_n ?_
   refine a_cnd H (fun zc1 H => ?_) (fun zc1 H => ?_)
   ·refine a_skip ?_
    refine sA_n ?_
    refine a_cut (fun s => ∃ (data3 : List Int) (t0 : Nat → Dat), slices_insertionSortOrdered_J1 (slices_insertionSortOrdered_L1 b1 a1 m_slices_insertionSortOrdered_L1) i1 data3 = some r ∧ s = ⟨tl t0 [(0, .ref 0 0 data3.length 1), (1, .int .i64 a1), (2, .int .i64 b1), (6, .int .i64 i1)], hl [⟨3, 1, false, data3.map (ci .i64)⟩], 1, 49⟩) ?_ ?_
    ·refine a_blk ?_
     refine a_seq ?_
     refine a_regC _ rfl ?_
     refine sA_n ?_
     refine a_blk ?_
     refine a_loop (fun m s => ∃ (data4 : List Int) (j1 : Int) (t0 : Nat → Dat), slices_insertionSortOrdered_L2 (slices_insertionSortOrdered_L1 b1 a1 m_slices_insertionSortOrdered_L1) a1 i1 m data4 j1 = some r ∧ s = ⟨tl t0 [(0, .ref 0 0 data4.length 1), (1, .int .i64 a1), (2, .int .i64 b1), (6, .int .i64 i1), (7, .int .i64 j1)], hl [⟨3, 1, false, data4.map (ci .i64)⟩], 1, 49⟩) BIG ?_ ?_
     ·exact wk_lnA 1 [(some 0, _)] [] (fun t0 => ⟨data2, i1, t0, H, rfl⟩)
     ·rintro m_slices_insertionSortOrdered_L2 s ⟨data4, j1, t0, H, rfl⟩
      obtain _ | m_slices_insertionSortOrdered_L2 := m_slices_insertionSortOrdered_L2
      ·cases (show (none : Option _) = some _ from H)
      ·rw [slices_insertionSortOrdered_L2] at H
       refine a_seq ?_
       refine a_cut (fun s => ∃ (v1 : Bool) (t0 : Nat → Dat), slices_insertionSortOrdered_J2 (slices_insertionSortOrdered_L2 (slices_insertionSortOrdered_L1 b1 a1 m_slices_insertionSortOrdered_L1) a1 i1 m_slices_insertionSortOrdered_L2) (slices_insertionSortOrdered_L1 b1 a1 m_slices_insertionSortOrdered_L1) data4 j1 i1 v1 = some r ∧ s = ⟨tl t0 [(0, .ref 0 0 data4.length 1), (1, .int .i64 a1), (2, .int .i64 b1), (6, .int .i64 i1), (7, .int .i64 j1), (30, .bool v1)], hl [⟨3, 1, false, data4.map (ci .i64)⟩], 1, 49⟩) ?_ ?_
       ·refine cnd H (fun zc3 H => ?_) (fun zc3 H => ?_)
        ·obtain ⟨x4, zh4, H⟩ := bind_some H
         obtain ⟨zg4, zh4a, zh4b⟩ := idx3 (f := (ci .i64)) zh4
         try simp only [Int.reduceToNat, Int.toNat_natCast] at zg4
         obtain ⟨x5, zh5, H⟩ := bind_some H
         obtain ⟨zg5, zh5a, zh5b⟩ := idx3 (f := (ci .i64)) zh5
         try simp only [Int.reduceToNat, Int.toNat_natCast] at zg5
         obtain ⟨r1, zh6, H⟩ := bind_some H
         have zk1 := cmp_Less_pc zh6
         refine a_drW (by kernel_rfl) _ rfl (s := ?zs7) (by kernel_rfl) (by kernel_rfl) ?zs7f ?_ ?_ ?_
         rotate_left 2
         ·try refine goS ?_
          repeat' with_reducible apply And.intro
          all_goals try ((with_reducible show CallW _ _ _ _ _ _ _); refine cW_s [] zk1 (fun h2 e => (.cons (.int' rfl) (.cons (.int' rfl) .nil))) (.bool _) ?_; refine goS ?_)
          all_goals ((repeat' apply And.intro) <;> first|rfl|assumption|omega|(simp;done)|(simp;omega)|(simp_all;done))
         ·kernel_rfl
         refine cA_n ?_
         exact wk_lnA 1 [(some 0, _)] [] (fun t0 => ⟨r1, t0, H, rfl⟩)
        ·refine a_drW (by kernel_rfl) _ rfl (s := ?zs8) (by kernel_rfl) (by kernel_rfl) ?zs8f ?_ ?_ ?_
         rotate_left 2
         ·refine goS ?_
          try refine goS ?_
          (repeat' apply And.intro) <;> first|rfl|assumption|omega|(simp;done)|(simp;omega)|(simp_all;done)
         ·kernel_rfl
         refine cA_n ?_
         exact wk_lnA 1 [(some 0, _)] [] (fun t0 => ⟨false, t0, H, rfl⟩)
       ·rintro s ⟨v1, t0, H, rfl⟩
        unfold slices_insertionSortOrdered_J2 at H
        refine a_cnd H (fun zc2 H => ?_) (fun zc2 H => ?_)
        ·refine a_skip ?_
         refine sA_n ?_
         refine a_seq ?_
         refine a_blk ?_
         obtain ⟨x1, zh1, H⟩ := bind_some H
         obtain ⟨zg1, zh1a, zh1b⟩ := idx3 (f := (ci .i64)) zh1
         try simp only [Int.reduceToNat, Int.toNat_natCast] at zg1
         obtain ⟨x2, zh2, H⟩ := bind_some H
         obtain ⟨zg2, zh2a, zh2b⟩ := idx3 (f := (ci .i64)) zh2
         try simp only [Int.reduceToNat, Int.toNat_natCast] at zg2
         obtain ⟨x3, zh3, H⟩ := bind_some H
         obtain ⟨zg3, zh3a, zh3b⟩ := idx3 (f := (ci .i64)) zh3
         try simp only [Int.reduceToNat, Int.toNat_natCast] at zg3
         refine a_drW (by kernel_rfl) _ rfl (s := ?zs5) (by kernel_rfl) (by kernel_rfl) ?zs5f ?_ ?_ ?_
         rotate_left 2
         ·refine goS ?_
          (repeat' apply And.intro) <;> first|rfl|assumption|omega|(simp;done)|(simp;omega)|(simp_all;done)
         ·kernel_rfl
         refine bA_n ?_
         refine sA_n ?_
         refine a_regC _ rfl ?_
         refine lA_n ?_
         exact wk_lnA 1 [(some 0, _)] [] (fun t0 => ⟨_, Nat.lt_succ_self _, ((data4.set j1.toNat x1).set ((IntKind.wrap .i64 (j1 - 1)).toNat) x2), (IntKind.wrap .i64 (j1 - 1)), t0, H, rfl⟩)
        ·refine a_exit ?_
         refine sA_e ?_
         refine lA_e ?_
         refine bA_hit ?_
         refine bA_n ?_
         refine cA_n ?_
         exact wk_lnA 1 [(some 0, _)] [] (fun t0 => ⟨data4, t0, H, rfl⟩)
    ·rintro s ⟨data3, t0, H, rfl⟩
     unfold slices_insertionSortOrdered_J1 at H
     refine a_regC _ rfl ?_
     refine lA_n ?_
     exact wk_lnA 1 [(some 0, _)] [] (fun t0 => ⟨_, Nat.lt_succ_self _, data3, (IntKind.wrap .i64 (i1 + 1)), t0, H, rfl⟩)
   ·refine a_exit ?_
    refine sA_e ?_
    refine lA_e ?_
    refine bA_hit ?_
    obtain rfl := Option.some.inj H
    refine eR_n ?_
    exact wk_lnA 1 [(some 0, ⟨3, 1, false, data2.map (ci .i64)⟩)] [] (L := []) (fun t0 => ⟨RS, fun j B h => by rcases j with _ | _ <;> first | exact h | (exact absurd h (by simp [hh]))⟩) (by intro i h; rcases i with _ | i <;> first | rfl | omega)
def slices_pdqsortOrdered_L1 (b1 : Int) (a1 : Int) (data1 : List Int) : Nat → Option (List Int)
 | 0 => none
 | m_ + 1 => chk ((decide ((IntKind.wrap .i64 (b1 - a1)) ≤ 12)) = true) ((slices_insertionSortOrdered_f data1 a1 b1).bind fun r1 => chk (r1.length = data1.length) (some (r1)))
def slices_pdqsortOrdered_f (data1 : List Int) (a1 : Int) (b1 : Int) (limit1 : Int) : Option (List Int) :=
 slices_pdqsortOrdered_L1 b1 a1 data1 BIG
set_option maxHeartbeats 4000000 in
set_option maxRecDepth 20000 in
theorem slices_pdqsortOrdered_rc {data1 : List Int} {a1 : Int} {b1 : Int} {limit1 : Int} {r : (List Int)} (H : slices_pdqsortOrdered_f data1 a1 b1 limit1 = some r) : RC Tryd.prog 68 [.ref 0 0 data1.length 1, .int .i64 a1, .int .i64 b1, .int .i64 limit1] [⟨3, 1, false, data1.map (ci .i64)⟩] 1 (.tup []) [some ⟨3, 1, false, r.map (ci .i64)⟩] := by
 refine rcA_of Tryd.func68 (by rfl) (by decide) 134 (by rfl) [] (by rfl) ?_
 unfold slices_pdqsortOrdered_f at H
 simp only [hent, List.length_cons, List.length_nil, reduceAdd]
 refine a_seq ?_
 refine a_regC _ rfl ?_
 refine sA_n ?_
 refine a_seq ?_
 refine a_regC _ rfl ?_
 refine sA_n ?_
 refine a_blk ?_
 refine a_loop (fun m s => ∃ (t0 : Nat → Dat), slices_pdqsortOrdered_L1 b1 a1 data1 m = some r ∧ s = ⟨tl t0 [(0, .ref 0 0 data1.length 1), (1, .int .i64 a1), (2, .int .i64 b1), (3, .int .i64 limit1), (8, .bool true), (9, .bool true)], hl [⟨3, 1, false, data1.map (ci .i64)⟩], 1, 134⟩) BIG ?_ ?_
 ·exact wk_lnA 1 [(some 0, _)] [] (fun t0 => ⟨t0, H, rfl⟩)
 ·rintro m_slices_pdqsortOrdered_L1 s ⟨t0, H, rfl⟩
  obtain _ | m_slices_pdqsortOrdered_L1 := m_slices_pdqsortOrdered_L1
  ·cases (show (none : Option _) = some _ from H)
  ·rw [slices_pdqsortOrdered_L1] at H
   refine a_blk ?_
   refine a_seq ?_
   refine a_regC _ rfl ?_
   refine sA_n ?_
   refine a_seq ?_
   refine a_seq ?_
   refine a_regC _ rfl ?_
   refine sA_n ?_
   obtain ⟨zh1, H⟩ := chk_some H
   refine a_condb ((decide ((IntKind.wrap .i64 (b1 - a1)) ≤ 12))) (by rfl) (fun zc1 => ?_) (fun zc1x => absurd (zc1x.symm.trans zh1) (by decide))
   ·try skip
    refine a_seq ?_
    obtain ⟨r1, zh2, H⟩ := bind_some H
    have zk1 := slices_insertionSortOrdered_rc zh2
    obtain ⟨zh3, H⟩ := chk_some H
    refine a_reg _ rfl (s := ?zs5) ?_ ?_
    rotate_left
    ·try refine goS ?_
     repeat' with_reducible apply And.intro
     all_goals try ((with_reducible show CallR _ _ _ _ _ _ _); refine callR_rcw (r' := .tup []) [(0, none), (0, some ⟨3, 1, false, r1.map (ci .i64)⟩)] [(some 0, _)] [] [(0, 0, _)] EQA zk1 (by simp) ND ZZ ZZ ND ND ZZ ZZ ?_; refine goS ?_)
     all_goals ((repeat' apply And.intro) <;> first|rfl|assumption|omega|(simp;done)|(simp;omega)|(simp_all;done))
    refine sA_n ?_
    refine a_ret ?_
    refine sA_r ?_
    refine bA_r ?_
    refine lA_r ?_
    refine bA_r ?_
    obtain rfl := Option.some.inj H
    refine eR_r ?_
    exact wk_lnA 1 [(some 0, ⟨3, 1, false, r1.map (ci .i64)⟩)] [] (L := []) (fun t0 => ⟨RS, fun j B h => by rcases j with _ | _ <;> first | exact h | (exact absurd h (by simp [hh]))⟩) (by intro i h; rcases i with _ | i <;> first | rfl | omega)
def math_bits_Len64_J3 (x4 : Int) (n3 : Int) : Option Int :=
 chk (0 ≤ (IntKind.wrap .u8 x4) ∧ (IntKind.wrap .u8 x4) < ((⟨#[0, 1, 2, 2, 3, 3, 3, 3, 4, 4, 4, 4, 4, 4, 4, 4, 5, 5, 5, 5, 5, 5, 5, 5, 5, 5, 5, 5, 5, 5, 5, 5, 6, 6, 6, 6, 6, 6, 6, 6, 6, 6, 6, 6, 6, 6, 6, 6, 6, 6, 6, 6, 6, 6, 6, 6, 6, 6, 6, 6, 6, 6, 6, 6, 7, 7, 7, 7, 7, 7, 7, 7, 7, 7, 7, 7, 7, 7, 7, 7, 7, 7, 7, 7, 7, 7, 7, 7, 7, 7, 7, 7, 7, 7, 7, 7, 7, 7, 7, 7, 7, 7, 7, 7, 7, 7, 7, 7, 7, 7, 7, 7, 7, 7, 7, 7, 7, 7, 7, 7, 7, 7, 7, 7, 7, 7, 7, 7, 8, 8, 8, 8, 8, 8, 8, 8, 8, 8, 8, 8, 8, 8, 8, 8, 8, 8, 8, 8, 8, 8, 8, 8, 8, 8, 8, 8, 8, 8, 8, 8, 8, 8, 8, 8, 8, 8, 8, 8, 8, 8, 8, 8, 8, 8, 8, 8, 8, 8, 8, 8, 8, 8, 8, 8, 8, 8, 8, 8, 8, 8, 8, 8, 8, 8, 8, 8, 8, 8, 8, 8, 8, 8, 8, 8, 8, 8, 8, 8, 8, 8, 8, 8, 8, 8, 8, 8, 8, 8, 8, 8, 8, 8, 8, 8, 8, 8, 8, 8, 8, 8, 8, 8, 8, 8, 8, 8, 8, 8, 8, 8, 8, 8, 8, 8, 8, 8, 8, 8, 8, 8, 8, 8, 8, 8, 8, 8]⟩ : ByteArray).size : Int)) (some ((IntKind.wrap .i64 (n3 + (IntKind.wrap .i64 (((⟨#[0, 1, 2, 2, 3, 3, 3, 3, 4, 4, 4, 4, 4, 4, 4, 4, 5, 5, 5, 5, 5, 5, 5, 5, 5, 5, 5, 5, 5, 5, 5, 5, 6, 6, 6, 6, 6, 6, 6, 6, 6, 6, 6, 6, 6, 6, 6, 6, 6, 6, 6, 6, 6, 6, 6, 6, 6, 6, 6, 6, 6, 6, 6, 6, 7, 7, 7, 7, 7, 7, 7, 7, 7, 7, 7, 7, 7, 7, 7, 7, 7, 7, 7, 7, 7, 7, 7, 7, 7, 7, 7, 7, 7, 7, 7, 7, 7, 7, 7, 7, 7, 7, 7, 7, 7, 7, 7, 7, 7, 7, 7, 7, 7, 7, 7, 7, 7, 7, 7, 7, 7, 7, 7, 7, 7, 7, 7, 7, 8, 8, 8, 8, 8, 8, 8, 8, 8, 8, 8, 8, 8, 8, 8, 8, 8, 8, 8, 8, 8, 8, 8, 8, 8, 8, 8, 8, 8, 8, 8, 8, 8, 8, 8, 8, 8, 8, 8, 8, 8, 8, 8, 8, 8, 8, 8, 8, 8, 8, 8, 8, 8, 8, 8, 8, 8, 8, 8, 8, 8, 8, 8, 8, 8, 8, 8, 8, 8, 8, 8, 8, 8, 8, 8, 8, 8, 8, 8, 8, 8, 8, 8, 8, 8, 8, 8, 8, 8, 8, 8, 8, 8, 8, 8, 8, 8, 8, 8, 8, 8, 8, 8, 8, 8, 8, 8, 8, 8, 8, 8, 8, 8, 8, 8, 8, 8, 8, 8, 8, 8, 8, 8, 8, 8, 8, 8, 8]⟩ : ByteArray).data.toList.getD (IntKind.wrap .u8 x4).toNat 0).toNat : Int))))))
def math_bits_Len64_J2 (x3 : Int) (n2 : Int) : Option Int :=
 cond (decide (256 ≤ x3)) (math_bits_Len64_J3 (Int.fdiv x3 (2 ^ (min 8 (IntKind.bits .u64)))) (IntKind.wrap .i64 (n2 + 8))) (math_bits_Len64_J3 x3 n2)
def math_bits_Len64_J1 (x2 : Int) (n1 : Int) : Option Int :=
 cond (decide (65536 ≤ x2)) (math_bits_Len64_J2 (Int.fdiv x2 (2 ^ (min 16 (IntKind.bits .u64)))) (IntKind.wrap .i64 (n1 + 16))) (math_bits_Len64_J2 x2 n1)
def math_bits_Len64_f (x1 : Int) : Option Int :=
 cond (decide (4294967296 ≤ x1)) (math_bits_Len64_J1 (Int.fdiv x1 (2 ^ (min 32 (IntKind.bits .u64)))) 32) (math_bits_Len64_J1 x1 0)
set_option maxHeartbeats 4000000 in
set_option maxRecDepth 20000 in
theorem math_bits_Len64_pc {x1 : Int} {r : Int} (H : math_bits_Len64_f x1 = some r) : PC Tryd.prog 89 [.int .u64 x1] (.int .i64 r) := by
 refine pcA_of Tryd.func89 (by rfl) (by decide) 25 (by rfl) [.tmp 2] (by rfl) ?_
 unfold math_bits_Len64_f at H
 simp only [ent]
 refine a_seq ?_
 refine a_regC _ rfl ?_
 refine sA_n ?_
 refine a_cut (fun s => ∃ (x2 : Int) (n1 : Int) (t0 : Nat → Dat), math_bits_Len64_J1 x2 n1 = some r ∧ s = ⟨tl t0 [(0, .int .u64 x2), (2, .int .i64 n1)], hl [], 0, 25⟩) ?_ ?_
 ·refine a_seq ?_
  refine a_regC _ rfl ?_
  refine sA_n ?_
  refine a_cnd H (fun zc3 H => ?_) (fun zc3 H => ?_)
  ·refine a_seq ?_
   refine a_regC _ rfl ?_
   refine sA_n ?_
   refine a_regC _ rfl ?_
   refine cA_n ?_
   exact wk_lA [] [] (fun t0 => ⟨(Int.fdiv x1 (2 ^ (min 32 (IntKind.bits .u64)))), 32, t0, H, rfl⟩)
  ·refine a_skip ?_
   refine cA_n ?_
   exact wk_lA [] [] (fun t0 => ⟨x1, 0, t0, H, rfl⟩)
 ·rintro s ⟨x2, n1, t0, H, rfl⟩
  unfold math_bits_Len64_J1 at H
  refine a_cut (fun s => ∃ (x3 : Int) (n2 : Int) (t0 : Nat → Dat), math_bits_Len64_J2 x3 n2 = some r ∧ s = ⟨tl t0 [(0, .int .u64 x3), (2, .int .i64 n2)], hl [], 0, 25⟩) ?_ ?_
  ·refine a_seq ?_
   refine a_regC _ rfl ?_
   refine sA_n ?_
   refine a_cnd H (fun zc2 H => ?_) (fun zc2 H => ?_)
   ·refine a_seq ?_
    refine a_regC _ rfl ?_
    refine sA_n ?_
    refine a_regC _ rfl ?_
    refine cA_n ?_
    exact wk_lA [] [] (fun t0 => ⟨(Int.fdiv x2 (2 ^ (min 16 (IntKind.bits .u64)))), (IntKind.wrap .i64 (n1 + 16)), t0, H, rfl⟩)
   ·refine a_skip ?_
    refine cA_n ?_
    exact wk_lA [] [] (fun t0 => ⟨x2, n1, t0, H, rfl⟩)
  ·rintro s ⟨x3, n2, t0, H, rfl⟩
   unfold math_bits_Len64_J2 at H
   refine a_cut (fun s => ∃ (x4 : Int) (n3 : Int) (t0 : Nat → Dat), math_bits_Len64_J3 x4 n3 = some r ∧ s = ⟨tl t0 [(0, .int .u64 x4), (2, .int .i64 n3)], hl [], 0, 25⟩) ?_ ?_
   ·refine a_seq ?_
    refine a_regC _ rfl ?_
    refine sA_n ?_
    refine a_cnd H (fun zc1 H => ?_) (fun zc1 H => ?_)
    ·refine a_seq ?_
     refine a_regC _ rfl ?_
     refine sA_n ?_
     refine a_regC _ rfl ?_
     refine cA_n ?_
     exact wk_lA [] [] (fun t0 => ⟨(Int.fdiv x3 (2 ^ (min 8 (IntKind.bits .u64)))), (IntKind.wrap .i64 (n2 + 8)), t0, H, rfl⟩)
    ·refine a_skip ?_
     refine cA_n ?_
     exact wk_lA [] [] (fun t0 => ⟨x3, n2, t0, H, rfl⟩)
   ·rintro s ⟨x4, n3, t0, H, rfl⟩
    unfold math_bits_Len64_J3 at H
    refine a_seq ?_
    obtain ⟨zh1, H⟩ := chk_some H
    refine a_regC _ rfl ?_
    refine sA_n ?_
    exact a_ret RT
def math_bits_Len_f (x1 : Int) : Option Int :=
 (math_bits_Len64_f x1).bind fun r1 => some (r1)
set_option maxHeartbeats 4000000 in
set_option maxRecDepth 20000 in
theorem math_bits_Len_pc {x1 : Int} {r : Int} (H : math_bits_Len_f x1 = some r) : PC Tryd.prog 69 [.int .u64 x1] (.int .i64 r) := by
 refine pcA_of Tryd.func69 (by rfl) (by decide) 8 (by rfl) [.tmp 2] (by rfl) ?_
 unfold math_bits_Len_f at H
 simp only [ent]
 refine a_seq ?_
 refine a_regC _ rfl ?_
 refine sA_n ?_
 refine a_seq ?_
 refine a_condb false (by first | rfl | (simp only [EVT, St.ev, datOf, datOf1, reduceEqDiff, ↓reduceIte]; done) | (simp only [EVT, St.ev, datOf, datOf1, reduceEqDiff, ↓reduceIte]; rfl) | (simp only [EVT, St.ev, datOf, datOf1, reduceEqDiff, ↓reduceIte]; simp_all; done)) (fun zc1 => absurd zc1 (by decide)) (fun zc1 => ?_)
 refine a_skip ?_
 refine sA_n ?_
 refine a_seq ?_
 obtain ⟨r1, zh1, H⟩ := bind_some H
 have zk1 := math_bits_Len64_pc zh1
 refine a_regK _ rfl ?_
 refine sA_n ?_
 refine a_ret ?_
 obtain rfl := Option.some.inj H
 refine e_r2 (d := ?zd1) ?_ ?_
 rotate_left
 ·simp only [EVT, resR, single, evLoad, cut, TIS, CS, reduceAdd, reduceEqDiff, ↓reduceIte, reduceCtorEq, reduceLT, reduceLeDiff, reduceSub, Nat.reduceBEq]
  (repeat' apply And.intro) <;> first | rfl | assumption | omega | (simp; done)
 exact ZZ
def slices_Sort_f (x1 : List Int) : Option (List Int) :=
 (math_bits_Len_f (IntKind.wrap .u64 (((x1.length : Nat)) : Int))).bind fun r1 => (slices_pdqsortOrdered_f x1 0 (((x1.length : Nat)) : Int) r1).bind fun r2 => chk (r2.length = x1.length) (some (r2))
set_option maxHeartbeats 4000000 in
set_option maxRecDepth 20000 in
theorem slices_Sort_rc {x1 : List Int} {r : (List Int)} (H : slices_Sort_f x1 = some r) : RC Tryd.prog 50 [.ref 0 0 x1.length 1] [⟨3, 1, false, x1.map (ci .i64)⟩] 1 (.tup []) [some ⟨3, 1, false, r.map (ci .i64)⟩] := by
 refine rcA_of Tryd.func50 (by rfl) (by decide) 11 (by rfl) [] (by rfl) ?_
 unfold slices_Sort_f at H
 simp only [hent, List.length_cons, List.length_nil, reduceAdd]
 refine a_seq ?_
 refine a_regC _ rfl ?_
 refine sA_n ?_
 obtain ⟨r1, zh1, H⟩ := bind_some H
 have zk1 := math_bits_Len_pc zh1
 obtain ⟨r2, zh2, H⟩ := bind_some H
 have zk2 := slices_pdqsortOrdered_rc zh2
 obtain ⟨zh3, H⟩ := chk_some H
 refine a_reg _ rfl (s := ?zs2) ?_ ?_
 rotate_left
 ·try refine goS ?_
  repeat' with_reducible apply And.intro
  all_goals try ((with_reducible show CallR _ _ _ _ _ _ _); refine cR_s zk1 ZZ (.int _ _) ?_; refine goS ?_)
  repeat' with_reducible apply And.intro
  all_goals try ((with_reducible show CallR _ _ _ _ _ _ _); refine callR_rcw (r' := .tup []) [(0, none), (0, some ⟨3, 1, false, r2.map (ci .i64)⟩)] [(some 0, _)] [] [(0, 0, _)] EQA zk2 (by simp) ND ZZ ZZ ND ND ZZ ZZ ?_; refine goS ?_)
  all_goals ((repeat' apply And.intro) <;> first|rfl|assumption|omega|(simp;done)|(simp;omega)|(simp_all;done))
 obtain rfl := Option.some.inj H
 refine eR_n ?_
 exact wk_lnA 1 [(some 0, ⟨3, 1, false, r2.map (ci .i64)⟩)] [] (L := []) (fun t0 => ⟨RS, fun j B h => by rcases j with _ | _ <;> first | exact h | (exact absurd h (by simp [hh]))⟩) (by intro i h; rcases i with _ | i <;> first | rfl | omega)
def vote_Ask_1_f (v1 : Seat) (v2 : Int) : Option Bool :=
 some ((v1.voted == (-1)) || (v1.voted == v2))
set_option maxHeartbeats 4000000 in
set_option maxRecDepth 20000 in
theorem vote_Ask_1_pc {v1 : Seat} {v2 : Int} {r : Bool} (H : vote_Ask_1_f v1 v2 = some r) : PC Tryd.prog 71 [.rop (Seat.c v1) 0 10, .rop ((ci .i64) v2) 0 1] (.bool r) := by
 refine pcA_of Tryd.func71 (by rfl) (by decide) 12 (by rfl) [.tmp 2] (by rfl) ?_
 unfold vote_Ask_1_f at H
 simp only [ent]
 refine a_seq ?_
 refine a_regC _ rfl ?_
 refine sA_n ?_
 refine a_seq ?_
 refine bool_split (b := (v1.voted == (-1))) (fun zc1 => ?_) (fun zc1 => ?_)
 ·rw [zc1] at H
  refine a_regC _ rfl ?_
  refine sA_n ?_
  exact a_ret RT
 ·rw [zc1] at H
  refine a_regC _ rfl ?_
  refine sA_n ?_
  refine a_ret ?_
  obtain rfl := Option.some.inj H
  refine e_r2 (d := ?zd2) ?_ ?_
  rotate_left
  ·simp only [EVT, resR, single, evLoad, cut, TIS, CS, reduceAdd, reduceEqDiff, ↓reduceIte, reduceCtorEq, reduceLT, reduceLeDiff, reduceSub, Nat.reduceBEq, zc1]
   (repeat' apply And.intro) <;> first | rfl | assumption | omega | (simp; done)
  exact ZZ
def vote_Ask_2_f (v1 : Seat) (v2 : Int) (v3 : Int) : Option Bool :=
 (log_Newer_f v1.log v2 v3).bind fun r1 => some (r1)
set_option maxHeartbeats 4000000 in
set_option maxRecDepth 20000 in
theorem vote_Ask_2_pc {v1 : Seat} {v2 : Int} {v3 : Int} {r : Bool} (H : vote_Ask_2_f v1 v2 v3 = some r) : PC Tryd.prog 72 [.rop (Seat.c v1) 0 10, .rop ((ci .i64) v2) 0 1, .rop ((ci .i64) v3) 0 1] (.bool r) := by
 refine pcA_of Tryd.func72 (by rfl) (by decide) 9 (by rfl) [.tmp 3] (by rfl) ?_
 unfold vote_Ask_2_f at H
 simp only [ent]
 refine a_seq ?_
 refine a_regC _ rfl ?_
 refine sA_n ?_
 refine a_seq ?_
 obtain ⟨r1, zh1, H⟩ := bind_some H
 have zk1 := log_Newer_pc zh1
 refine a_regK _ rfl ?_
 refine sA_n ?_
 exact a_ret RT
def vote_Ask_J2 (s2 : Seat) (who1 : Int) : Option (Seat × Bool) :=
 some ((⟨s2.id, s2.peers, s2.term, who1, s2.role, s2.log, s2.commit, s2.votes, s2.next, s2.match_⟩ : Seat), true)
def vote_Ask_J1 (who1 : Int) (last1 : Int) (many1 : Int) (s2 : Seat) : Option (Seat × Bool) :=
 (vote_Ask_1_f s2 who1).bind fun r1 => cond (!r1) (some (s2, false)) ((vote_Ask_2_f s2 last1 many1).bind fun r2 => cond (!r2) (some (s2, false)) (vote_Ask_J2 s2 who1))
def vote_Ask_f (s1 : Seat) (term1 : Int) (who1 : Int) (last1 : Int) (many1 : Int) : Option (Seat × Bool) :=
 cond (decide (term1 < s1.term)) (some (s1, false)) (cond (decide (s1.term < term1)) ((vote_Down_f s1 term1).bind fun r3 => vote_Ask_J1 who1 last1 many1 r3) (vote_Ask_J1 who1 last1 many1 s1))
set_option maxHeartbeats 4000000 in
set_option maxRecDepth 20000 in
theorem vote_Ask_pc {s1 : Seat} {term1 : Int} {who1 : Int} {last1 : Int} {many1 : Int} {r : Seat × Bool} (H : vote_Ask_f s1 term1 who1 last1 many1 = some r) : PC Tryd.prog 64 [.agg (Seat.c s1), .int .i64 term1, .int .i64 who1, .int .i64 last1, .int .i64 many1] (.tup [.agg (Seat.c r.1), .bool r.2]) := by
 refine pcA_of Tryd.func64 (by rfl) (by decide) 46 (by rfl) [.cell 10 25, .tmp 11] (by rfl) ?_
 unfold vote_Ask_f at H
 simp only [ent]
 refine a_seq ?_
 refine a_regC _ rfl ?_
 refine sA_n ?_
 refine a_seq ?_
 refine a_seq ?_
 refine a_regC _ rfl ?_
 refine sA_n ?_
 refine a_cnd H (fun zc1 H => ?_) (fun zc1 H => ?_)
 ·refine a_seq ?_
  refine a_regC _ rfl ?_
  refine sA_n ?_
  exact a_ret (sA_r RT)
 ·refine a_skip ?_
  refine sA_n ?_
  refine a_cut (fun s => ∃ (s2 : Seat) (t0 : Nat → Dat), vote_Ask_J1 who1 last1 many1 s2 = some r ∧ s = ⟨tl t0 [(5, .ptr 0 0 0 10), (7, .ptr 1 0 0 1), (8, .ptr 2 0 0 1), (9, .ptr 3 0 0 1), (10, .ptr 4 0 0 10)], hl [⟨25, 10, false, [Seat.c s2]⟩, ⟨3, 1, false, [[.int .i64 who1]]⟩, ⟨3, 1, false, [[.int .i64 last1]]⟩, ⟨3, 1, false, [[.int .i64 many1]]⟩, ⟨25, 10, false, [[.int .i64 0, .nil, .int .i64 0, .int .i64 0, .int .i64 0, .nil, .int .i64 0, .nil, .nil, .nil]]⟩], 5, 46⟩) ?_ ?_
  ·refine a_seq ?_
   refine a_regC _ rfl ?_
   refine sA_n ?_
   refine a_cnd H (fun zc7 H => ?_) (fun zc7 H => ?_)
   ·obtain ⟨r3, zh3, H⟩ := bind_some H
    have zk3 := vote_Down_pc zh3
    refine a_regK _ rfl ?_
    refine cA_n ?_
    exact wk_lA [(some 0, _), (some 1, _), (some 2, _), (some 3, _), (some 4, _)] [] (fun t0 => ⟨r3, t0, H, rfl⟩)
   ·refine a_skip ?_
    refine cA_n ?_
    exact wk_lA [(some 0, _), (some 1, _), (some 2, _), (some 3, _), (some 4, _)] [] (fun t0 => ⟨s1, t0, H, rfl⟩)
  ·rintro s ⟨s2, t0, H, rfl⟩
   unfold vote_Ask_J1 at H
   refine a_seq ?_
   refine a_regC _ rfl ?_
   refine sA_n ?_
   refine a_seq ?_
   refine a_regC _ rfl ?_
   refine sA_n ?_
   refine a_cut (fun s => ∃ (t0 : Nat → Dat), vote_Ask_J2 s2 who1 = some r ∧ s = ⟨tl t0 [(5, .ptr 0 0 0 10), (7, .ptr 1 0 0 1), (10, .ptr 2 0 0 10)], hl [⟨25, 10, false, [Seat.c s2]⟩, ⟨3, 1, false, [[.int .i64 who1]]⟩, ⟨25, 10, false, [[.int .i64 0, .nil, .int .i64 0, .int .i64 0, .int .i64 0, .nil, .int .i64 0, .nil, .nil, .nil]]⟩], 3, 46⟩) ?_ ?_
   ·refine a_seq ?_
    refine a_regC _ rfl ?_
    refine sA_n ?_
    refine a_blk ?_
    refine a_loopN 3 ?_
    refine rA_s ?_
    refine a_seq ?_
    refine a_regC _ rfl ?_
    refine sA_n ?_
    refine a_seq ?_
    refine a_condb true (by first | rfl | (simp only [EVT, St.ev, datOf, datOf1, reduceEqDiff, ↓reduceIte]; done) | (simp only [EVT, St.ev, datOf, datOf1, reduceEqDiff, ↓reduceIte]; rfl) | (simp only [EVT, St.ev, datOf, datOf1, reduceEqDiff, ↓reduceIte]; simp_all; done)) (fun zc2 => ?_) (fun zc2 => absurd zc2 (by decide))
    refine a_skip ?_
    refine sA_n ?_
    refine a_seq ?_
    refine a_blk ?_
    refine a_seq ?_
    refine a_regC _ rfl ?_
    refine sA_n ?_
    refine a_seq ?_
    obtain ⟨r1, zh1, H⟩ := bind_some H
    have zk1 := vote_Ask_1_pc zh1
    refine a_regK _ rfl ?_
    refine sA_n ?_
    refine a_cnd H (fun zc3 H => ?_) (fun zc3 H => ?_)
    ·refine a_seq ?_
     refine a_regC _ rfl ?_
     refine sA_n ?_
     refine a_ret ?_
     refine bA_r ?_
     refine sA_r ?_
     refine rA_r ?_
     refine bA_r ?_
     refine cA_r ?_
     obtain rfl := Option.some.inj H
     refine e_r2 (d := ?zd3) ?_ ?_
     rotate_left
     ·simp only [EVT, resR, single, evLoad, cut, TIS, CS, reduceAdd, reduceEqDiff, ↓reduceIte, reduceCtorEq, reduceLT, reduceLeDiff, reduceSub, Nat.reduceBEq, zc3]
      (repeat' apply And.intro) <;> first | rfl | assumption | omega | (simp; done)
     exact ZZ
    ·refine a_skip ?_
     refine bA_n ?_
     refine sA_n ?_
     have zw1 : IntKind.wrap .i64 (0 + 1) = 1 := by decide
     refine a_regC _ rfl ?_
     refine rA_n ?_
     refine rA_s ?_
     refine a_seq ?_
     refine a_regC _ rfl ?_
     refine sA_n ?_
     refine a_seq ?_
     refine a_condb true (by first | rfl | (simp only [EVT, St.ev, datOf, datOf1, reduceEqDiff, ↓reduceIte]; done) | (simp only [EVT, St.ev, datOf, datOf1, reduceEqDiff, ↓reduceIte]; rfl) | (simp only [EVT, St.ev, datOf, datOf1, reduceEqDiff, ↓reduceIte]; simp_all; done)) (fun zc4 => ?_) (fun zc4 => absurd zc4 (by decide))
     refine a_skip ?_
     refine sA_n ?_
     refine a_seq ?_
     refine a_blk ?_
     refine a_seq ?_
     refine a_regC _ rfl ?_
     refine sA_n ?_
     refine a_seq ?_
     obtain ⟨r2, zh2, H⟩ := bind_some H
     have zk2 := vote_Ask_2_pc zh2
     refine a_regK _ rfl ?_
     refine sA_n ?_
     refine a_cnd H (fun zc5 H => ?_) (fun zc5 H => ?_)
     ·refine a_seq ?_
      refine a_regC _ rfl ?_
      refine sA_n ?_
      refine a_ret ?_
      refine bA_r ?_
      refine sA_r ?_
      refine rA_r ?_
      refine bA_r ?_
      refine cA_r ?_
      obtain rfl := Option.some.inj H
      refine e_r2 (d := ?zd4) ?_ ?_
      rotate_left
      ·simp only [EVT, resR, single, evLoad, cut, TIS, CS, reduceAdd, reduceEqDiff, ↓reduceIte, reduceCtorEq, reduceLT, reduceLeDiff, reduceSub, Nat.reduceBEq, zc3, zw1, zc5]
       (repeat' apply And.intro) <;> first | rfl | assumption | omega | (simp; done)
      exact ZZ
     ·refine a_skip ?_
      refine bA_n ?_
      refine sA_n ?_
      have zw2 : IntKind.wrap .i64 (1 + 1) = 2 := by decide
      refine a_regC _ rfl ?_
      refine rA_n ?_
      refine rA_s ?_
      refine a_seq ?_
      refine a_regC _ rfl ?_
      refine sA_n ?_
      refine a_seq ?_
      refine a_condb false (by first | rfl | (simp only [EVT, St.ev, datOf, datOf1, reduceEqDiff, ↓reduceIte]; done) | (simp only [EVT, St.ev, datOf, datOf1, reduceEqDiff, ↓reduceIte]; rfl) | (simp only [EVT, St.ev, datOf, datOf1, reduceEqDiff, ↓reduceIte]; simp_all; done)) (fun zc6 => absurd zc6 (by decide)) (fun zc6 => ?_)
      refine a_exit ?_
      refine sA_e ?_
      refine rA_e ?_
      refine bA_hit ?_
      refine cA_n ?_
      exact wk_lA [(some 0, _), (some 1, _), (some 4, _)] [] (fun t0 => ⟨t0, H, rfl⟩)
   ·rintro s ⟨t0, H, rfl⟩
    unfold vote_Ask_J2 at H
    refine a_seq ?_
    refine a_regC _ rfl ?_
    refine sA_n ?_
    refine a_seq ?_
    refine a_regC _ rfl ?_
    refine sA_n ?_
    refine a_ret ?_
    obtain rfl := Option.some.inj H
    refine e_r2 (d := ?zd2) ?_ ?_
    rotate_left
    ·simp only [EVT, resR, single, evLoad, cut, TIS, CS, reduceAdd, reduceEqDiff, ↓reduceIte, reduceCtorEq, reduceLT, reduceLeDiff, reduceSub, Nat.reduceBEq]
     (repeat' apply And.intro) <;> first | rfl | assumption | omega | (simp; done)
    exact ZZ
def vote_count_J1 (n1 : Int) : Option Int :=
 some (n1)
def vote_count_J2 (k_vote_count_L1 : Int → Int → Option Int) (v1 : Int) (n3 : Int) : Option Int :=
 k_vote_count_L1 n3 (IntKind.wrap .i64 (v1 + 1))
def vote_count_L1 (l1 : List Int) (is1 : Int → Option Bool) : Nat → Int → Int → Option Int
 | 0, _, _ => none
 | m_ + 1, n2, v1 => cond (decide (v1 < (l1.length : Int))) ((idx l1 v1).bind fun x1 => (is1 x1).bind fun r1 => cond r1 (vote_count_J2 (vote_count_L1 l1 is1 m_) v1 (IntKind.wrap .i64 (n2 + 1))) (vote_count_J2 (vote_count_L1 l1 is1 m_) v1 n2)) (vote_count_J1 n2)
def vote_count_f (l1 : List Int) (is1 : Int → Option Bool) : Option Int :=
 vote_count_L1 l1 is1 BIG 0 0
set_option maxHeartbeats 4000000 in
set_option maxRecDepth 20000 in
theorem vote_count_pc {l1 : List Int} {is1 : Int → Option Bool} {is1_F : FuncId} {is1_caps : List Dat} (is1_hp : ∀ (x0_ : Int) (r : Bool), is1 x0_ = some r → PC Tryd.prog is1_F (.int .i64 x0_ :: is1_caps) (.bool r)) (is1_pu : Pus is1_caps) {r : Int} (H : vote_count_f l1 is1 = some r) : PC Tryd.prog 77 [.list 1 (l1.map (ci .i64)), .fn (.func is1_F) [] is1_caps] (.int .i64 r) := by
 refine pcA_of Tryd.func77 (by rfl) (by decide) 21 (by rfl) [.tmp 4] (by rfl) ?_
 unfold vote_count_f at H
 simp only [ent]
 refine a_seq ?_
 refine a_regC _ rfl ?_
 refine sA_n ?_
 refine a_seq ?_
 refine a_regC _ rfl ?_
 refine sA_n ?_
 refine a_cut (fun s => ∃ (n1 : Int) (t0 : Nat → Dat), vote_count_J1 n1 = some r ∧ s = ⟨tl t0 [(5, .int .i64 n1)], hl [], 0, 21⟩) ?_ ?_
 ·refine a_seq ?_
  refine a_regC _ rfl ?_
  refine sA_n ?_
  refine a_blk ?_
  refine a_loop (fun m s => ∃ (n2 : Int) (v1 : Int) (t0 : Nat → Dat), vote_count_L1 l1 is1 m n2 v1 = some r ∧ s = ⟨tl t0 [(1, .fn (.func is1_F) [] is1_caps), (5, .int .i64 n2), (8, .list 1 (l1.map (ci .i64))), (9, .int .i64 (l1.length : Int)), (10, .int .i64 v1)], hl [], 0, 21⟩) BIG ?_ ?_
  ·refine wk_l [] [] [(1, .fn (.func is1_F) [] is1_caps), (5, .int .i64 0), (8, .list 1 (l1.map (ci .i64))), (9, .int .i64 (l1.length : Int)), (10, .int .i64 0)] (by show ([1, 5, 8, 9, 10] : List Nat).Nodup; decide) (by show ([] : List Nat).Nodup; decide) ?_ ?_ (fun t0 => ⟨0, 0, t0, H, rfl⟩)
   ·exact trivial
   ·(simp only [AllT, ATT, reduceEqDiff, ↓reduceIte, and_true]); exact ⟨(.fn' .nil (RNs.pu is1_pu)), (.int' rfl), (.lst _ _ _ (ci_pu .i64) rfl), (.int' rfl), (.int' rfl)⟩
  ·rintro m_vote_count_L1 s ⟨n2, v1, t0, H, rfl⟩
   obtain _ | m_vote_count_L1 := m_vote_count_L1
   ·cases (show (none : Option _) = some _ from H)
   ·rw [vote_count_L1] at H
    refine a_seq ?_
    refine a_regC _ rfl ?_
    refine sA_n ?_
    refine a_seq ?_
    refine a_cnd H (fun zc1 H => ?_) (fun zc1 H => ?_)
    ·refine a_skip ?_
     refine sA_n ?_
     refine a_cut (fun s => ∃ (n3 : Int) (t0 : Nat → Dat), vote_count_J2 (vote_count_L1 l1 is1 m_vote_count_L1) v1 n3 = some r ∧ s = ⟨tl t0 [(1, .fn (.func is1_F) [] is1_caps), (5, .int .i64 n3), (8, .list 1 (l1.map (ci .i64))), (9, .int .i64 (l1.length : Int)), (10, .int .i64 v1)], hl [], 0, 21⟩) ?_ ?_
     ·refine a_blk ?_
      refine a_seq ?_
      obtain ⟨x1, zh1, H⟩ := bind_some H
      obtain ⟨zg1, zh1a, zh1b⟩ := idx3 (f := (ci .i64)) zh1
      try simp only [Int.reduceToNat, Int.toNat_natCast] at zg1
      refine a_regC _ rfl ?_
      refine sA_n ?_
      refine a_seq ?_
      obtain ⟨r1, zh2, H⟩ := bind_some H
      have zk1 := is1_hp _ _ zh2
      refine a_reg _ rfl (s := ?zs8) ?_ ?_
      rotate_left
      ·try refine goS ?_
       repeat' with_reducible apply And.intro
       all_goals try ((with_reducible show CallR _ _ _ _ _ _ _); refine cR_s zk1 (.cons (.int' rfl) (Pus.purRs is1_pu)) (.bool _) ?_; refine goS ?_)
       all_goals ((repeat' apply And.intro) <;> first|rfl|assumption|omega|(simp;done)|(simp;omega)|(simp_all;done))
      refine sA_n ?_
      refine a_cnd H (fun zc2 H => ?_) (fun zc2 H => ?_)
      ·refine a_regC _ rfl ?_
       refine bA_n ?_
       refine cA_n ?_
       refine wk_l [] [] [(1, .fn (.func is1_F) [] is1_caps), (5, .int .i64 (IntKind.wrap .i64 (n2 + 1))), (8, .list 1 (l1.map (ci .i64))), (9, .int .i64 (l1.length : Int)), (10, .int .i64 v1)] (by show ([1, 5, 8, 9, 10] : List Nat).Nodup; decide) (by show ([] : List Nat).Nodup; decide) ?_ ?_ (fun t0 => ⟨(IntKind.wrap .i64 (n2 + 1)), t0, H, rfl⟩)
       ·exact trivial
       ·(simp only [AllT, ATT, reduceEqDiff, ↓reduceIte, and_true]); exact ⟨(.fn' .nil (RNs.pu is1_pu)), (.int' rfl), (.lst _ _ _ (ci_pu .i64) rfl), (.int' rfl), (.int' rfl)⟩
      ·refine a_skip ?_
       refine bA_n ?_
       refine cA_n ?_
       refine wk_l [] [] [(1, .fn (.func is1_F) [] is1_caps), (5, .int .i64 n2), (8, .list 1 (l1.map (ci .i64))), (9, .int .i64 (l1.length : Int)), (10, .int .i64 v1)] (by show ([1, 5, 8, 9, 10] : List Nat).Nodup; decide) (by show ([] : List Nat).Nodup; decide) ?_ ?_ (fun t0 => ⟨n2, t0, H, rfl⟩)
       ·exact trivial
       ·(simp only [AllT, ATT, reduceEqDiff, ↓reduceIte, and_true]); exact ⟨(.fn' .nil (RNs.pu is1_pu)), (.int' rfl), (.lst _ _ _ (ci_pu .i64) rfl), (.int' rfl), (.int' rfl)⟩
     ·rintro s ⟨n3, t0, H, rfl⟩
      unfold vote_count_J2 at H
      refine a_regC _ rfl ?_
      refine lA_n ?_
      refine wk_l [] [] [(1, .fn (.func is1_F) [] is1_caps), (5, .int .i64 n3), (8, .list 1 (l1.map (ci .i64))), (9, .int .i64 (l1.length : Int)), (10, .int .i64 (IntKind.wrap .i64 (v1 + 1)))] (by show ([1, 5, 8, 9, 10] : List Nat).Nodup; decide) (by show ([] : List Nat).Nodup; decide) ?_ ?_ (fun t0 => ⟨_, Nat.lt_succ_self _, n3, (IntKind.wrap .i64 (v1 + 1)), t0, H, rfl⟩)
      ·exact trivial
      ·(simp only [AllT, ATT, reduceEqDiff, ↓reduceIte, and_true]); exact ⟨(.fn' .nil (RNs.pu is1_pu)), (.int' rfl), (.lst _ _ _ (ci_pu .i64) rfl), (.int' rfl), (.int' rfl)⟩
    ·refine a_exit ?_
     refine sA_e ?_
     refine lA_e ?_
     refine bA_hit ?_
     refine cA_n ?_
     exact wk_lA [] [] (fun t0 => ⟨n2, t0, H, rfl⟩)
 ·rintro s ⟨n1, t0, H, rfl⟩
  unfold vote_count_J1 at H
  refine a_seq ?_
  refine a_regC _ rfl ?_
  refine sA_n ?_
  exact a_ret RT
def vote_Won_1_f (p1 : Int) (v1 : List Int) : Option Bool :=
 (slices_Contains_f v1 p1).bind fun r1 => some (r1)
set_option maxHeartbeats 4000000 in
set_option maxRecDepth 20000 in
theorem vote_Won_1_pc {p1 : Int} {v1 : List Int} {r : Bool} (H : vote_Won_1_f p1 v1 = some r) : PC Tryd.prog 78 [.int .i64 p1, .rop ((cl 1 (ci .i64)) v1) 0 1] (.bool r) := by
 refine pcA_of Tryd.func78 (by rfl) (by decide) 7 (by rfl) [.tmp 3] (by rfl) ?_
 unfold vote_Won_1_f at H
 simp only [ent]
 refine a_seq ?_
 refine a_regC _ rfl ?_
 refine sA_n ?_
 refine a_seq ?_
 obtain ⟨r1, zh1, H⟩ := bind_some H
 have zk1 := slices_Contains_pc zh1
 refine a_regK _ rfl ?_
 refine sA_n ?_
 exact a_ret RT
def vote_Won_f (votes1 : List Int) (peers1 : List Int) : Option Bool :=
 (vote_count_f peers1 (fun y0_ => vote_Won_1_f y0_ votes1)).bind fun r1 => some ((decide ((peers1.length : Int) < (IntKind.wrap .i64 (2 * r1)))))
set_option maxHeartbeats 4000000 in
set_option maxRecDepth 20000 in
theorem vote_Won_pc {votes1 : List Int} {peers1 : List Int} {r : Bool} (H : vote_Won_f votes1 peers1 = some r) : PC Tryd.prog 67 [.list 1 (votes1.map (ci .i64)), .list 1 (peers1.map (ci .i64))] (.bool r) := by
 refine pcA_of Tryd.func67 (by rfl) (by decide) 12 (by rfl) [.tmp 4] (by rfl) ?_
 unfold vote_Won_f at H
 simp only [ent]
 refine a_seq ?_
 refine a_regC _ rfl ?_
 refine sA_n ?_
 refine a_seq ?_
 obtain ⟨r1, zh1, H⟩ := bind_some H
 have zk1 := vote_count_pc (is1 := (fun y0_ => vote_Won_1_f y0_ votes1)) (is1_F := 78) (is1_caps := [.rop ((cl 1 (ci .i64)) votes1) 0 1]) (fun _ _ h => vote_Won_1_pc h) (.cons (.rop _ _ _ ((cl_pu (ci_pu .i64)) _)) .nil) zh1
 refine a_regK _ rfl ?_
 refine sA_n ?_
 exact a_ret RT
def seat_carried_J1 (x1 : Msg) (l1 : List Entry) (data1 : List Int) : Option ((List Entry) × Bool) :=
 cond ((data1.length : Int) == 0) (cond ((Int.tmod (x1.nums.length : Int) 2) == 0) (some (l1, (decide ((((l1.length : Nat)) : Int) ≤ 8)))) (some (l1, false))) (some (l1, false))
def seat_carried_J2 (k_seat_carried_L1 : (List Entry) → (List Int) → Int → Int → Option ((List Entry) × Bool)) (x4 : Int) (data2 : List Int) (l2 : List Entry) (x3 : Int) (i1 : Int) (v1 : Bool) : Option ((List Entry) × Bool) :=
 cond v1 (some ([], false)) (chk (0 ≤ 0 ∧ 0 ≤ x4 ∧ x4 ≤ (data2.length : Int)) ((slices_Clone_56_f ((data2.take x4.toNat).drop 0)).bind fun r1 => chk ((l2.length + 1) * 32 ≤ 140737488355328) (chk (0 ≤ x4 ∧ x4 ≤ (data2.length : Int) ∧ (data2.length : Int) ≤ (data2.length : Int)) (k_seat_carried_L1 (l2 ++ [(⟨x3, r1⟩ : Entry)]) (data2.drop x4.toNat) x3 (IntKind.wrap .i64 (i1 + 2))))))
def seat_carried_L1 (x1 : Msg) : Nat → (List Entry) → (List Int) → Int → Int → Option ((List Entry) × Bool)
 | 0, _, _, _, _ => none
 | m_ + 1, l2, data2, last1, i1 => cond (decide ((IntKind.wrap .i64 (i1 + 1)) < (x1.nums.length : Int))) ((idx x1.nums i1).bind fun x3 => (idx x1.nums (IntKind.wrap .i64 (i1 + 1))).bind fun x4 => cond (decide (x3 < last1)) (seat_carried_J2 (seat_carried_L1 x1 m_) x4 data2 l2 x3 i1 true) ((idx x1.nums 0).bind fun x5 => seat_carried_J2 (seat_carried_L1 x1 m_) x4 data2 l2 x3 i1 ((decide (x5 < x3)) || ((decide (x4 < 0)) || ((decide ((data2.length : Int) < x4)) || (decide (200 < x4))))))) (seat_carried_J1 x1 l2 data2)
def seat_carried_f (x1 : Msg) : Option ((List Entry) × Bool) :=
 (idx x1.nums 2).bind fun x2 => seat_carried_L1 x1 BIG [] x1.data (if 1 > x2 then 1 else x2) 4
set_option maxHeartbeats 4000000 in
set_option maxRecDepth 20000 in
theorem seat_carried_pc {x1 : Msg} {r : (List Entry) × Bool} (H : seat_carried_f x1 = some r) : PC Tryd.prog 63 [.agg (Msg.c x1)] (.tup [.list 2 (r.1.map Entry.c), .bool r.2]) := by
 refine pcA_of Tryd.func63 (by rfl) (by decide) 90 (by rfl) [.tmp 2, .tmp 3] (by rfl) ?_
 unfold seat_carried_f at H
 simp only [ent]
 refine a_seq ?_
 refine a_regC _ rfl ?_
 refine sA_n ?_
 refine a_seq ?_
 refine a_regC _ rfl ?_
 refine sA_n ?_
 refine a_seq ?_
 obtain ⟨x2, zh1, H⟩ := bind_some H
 obtain ⟨zg1, zh1a, zh1b⟩ := idx3 (f := (ci .i64)) zh1
 try simp only [Int.reduceToNat, Int.toNat_natCast] at zg1
 refine a_drW (by kernel_rfl) _ rfl (s := ?zs3) (by kernel_rfl) (by kernel_rfl) ?zs3f ?_ ?_ ?_
 rotate_left 2
 ·refine goS ?_
  (repeat' apply And.intro) <;> first|rfl|assumption|omega|(simp;done)|(simp;omega)|(simp_all;done)
 ·kernel_rfl
 refine sA_n ?_
 refine a_cut (fun s => ∃ (l1 : List Entry) (data1 : List Int) (t0 : Nat → Dat), seat_carried_J1 x1 l1 data1 = some r ∧ s = ⟨tl t0 [(1, .ptr 0 0 0 5), (4, .ref 1 0 l1.length 2), (5, .list 1 (data1.map (ci .u8)))], hl [⟨28, 5, false, [Msg.c x1]⟩, ⟨76, 2, false, l1.map Entry.c⟩], 2, 90⟩) ?_ ?_
 ·refine a_seq ?_
  refine a_regC _ rfl ?_
  refine sA_n ?_
  refine a_blk ?_
  refine a_loop (fun m s => ∃ (l2 : List Entry) (data2 : List Int) (last1 : Int) (i1 : Int) (t0 : Nat → Dat), seat_carried_L1 x1 m l2 data2 last1 i1 = some r ∧ s = ⟨tl t0 [(1, .ptr 0 0 0 5), (4, .ref 1 0 l2.length 2), (5, .list 1 (data2.map (ci .u8))), (6, .int .i64 last1), (7, .int .i64 i1)], hl [⟨28, 5, false, [Msg.c x1]⟩, ⟨76, 2, false, l2.map Entry.c⟩], 2, 90⟩) BIG ?_ ?_
  ·exact wk_lA [(some 0, _), (none, _)] [] (fun t0 => ⟨[], x1.data, (if 1 > x2 then 1 else x2), 4, t0, H, rfl⟩)
  ·rintro m_seat_carried_L1 s ⟨l2, data2, last1, i1, t0, H, rfl⟩
   obtain _ | m_seat_carried_L1 := m_seat_carried_L1
   ·cases (show (none : Option _) = some _ from H)
   ·rw [seat_carried_L1] at H
    refine a_seq ?_
    refine a_seq ?_
    refine a_regC _ rfl ?_
    refine sA_n ?_
    refine a_cnd H (fun zc3 H => ?_) (fun zc3 H => ?_)
    ·refine a_skip ?_
     refine sA_n ?_
     refine a_seq ?_
     refine a_blk ?_
     refine a_seq ?_
     obtain ⟨x3, zh2, H⟩ := bind_some H
     obtain ⟨zg2, zh2a, zh2b⟩ := idx3 (f := (ci .i64)) zh2
     try simp only [Int.reduceToNat, Int.toNat_natCast] at zg2
     obtain ⟨x4, zh3, H⟩ := bind_some H
     obtain ⟨zg3, zh3a, zh3b⟩ := idx3 (f := (ci .i64)) zh3
     try simp only [Int.reduceToNat, Int.toNat_natCast] at zg3
     refine a_drW (by kernel_rfl) _ rfl (s := ?zs9) (by kernel_rfl) (by kernel_rfl) ?zs9f ?_ ?_ ?_
     rotate_left 2
     ·refine goS ?_
      (repeat' apply And.intro) <;> first|rfl|assumption|omega|(simp;done)|(simp;omega)|(simp_all;done)
     ·kernel_rfl
     refine sA_n ?_
     refine a_seq ?_
     refine a_cut (fun s => ∃ (v1 : Bool) (t0 : Nat → Dat), seat_carried_J2 (seat_carried_L1 x1 m_seat_carried_L1) x4 data2 l2 x3 i1 v1 = some r ∧ s = ⟨tl t0 [(1, .ptr 0 0 0 5), (4, .ref 1 0 l2.length 2), (5, .list 1 (data2.map (ci .u8))), (7, .int .i64 i1), (8, .int .i64 x3), (9, .int .i64 x4), (60, .bool v1)], hl [⟨28, 5, false, [Msg.c x1]⟩, ⟨76, 2, false, l2.map Entry.c⟩], 2, 90⟩) ?_ ?_
     ·refine cnd H (fun zc5 H => ?_) (fun zc5 H => ?_)
      ·refine a_regC _ rfl ?_
       refine cA_n ?_
       exact wk_lA [(some 0, _), (some 1, _)] [] (fun t0 => ⟨true, t0, H, rfl⟩)
      ·obtain ⟨x5, zh8, H⟩ := bind_some H
       obtain ⟨zg4, zh8a, zh8b⟩ := idx3 (f := (ci .i64)) zh8
       try simp only [Int.reduceToNat, Int.toNat_natCast] at zg4
       refine bool_split (b := (decide (x5 < x3))) (fun zc6 => ?_) (fun zc6 => ?_)
       ·rw [zc6] at H
        refine a_regC _ rfl ?_
        refine cA_n ?_
        exact wk_lA [(some 0, _), (some 1, _)] [] (fun t0 => ⟨true, t0, H, rfl⟩)
       ·rw [zc6] at H
        refine bool_split (b := (decide (x4 < 0))) (fun zc7 => ?_) (fun zc7 => ?_)
        ·rw [zc7] at H
         refine a_regC _ rfl ?_
         refine cA_n ?_
         exact wk_lA [(some 0, _), (some 1, _)] [] (fun t0 => ⟨true, t0, H, rfl⟩)
        ·rw [zc7] at H
         refine bool_split (b := (decide ((data2.length : Int) < x4))) (fun zc8 => ?_) (fun zc8 => ?_)
         ·rw [zc8] at H
          refine a_regC _ rfl ?_
          refine cA_n ?_
          exact wk_lA [(some 0, _), (some 1, _)] [] (fun t0 => ⟨true, t0, H, rfl⟩)
         ·rw [zc8] at H
          refine a_regC _ rfl ?_
          refine cA_n ?_
          exact wk_lA [(some 0, _), (some 1, _)] [] (fun t0 => ⟨(decide (200 < x4)), t0, H, rfl⟩)
     ·rintro s ⟨v1, t0, H, rfl⟩
      unfold seat_carried_J2 at H
      refine a_cnd H (fun zc4 H => ?_) (fun zc4 H => ?_)
      ·refine a_seq ?_
       refine a_regC _ rfl ?_
       refine sA_n ?_
       exact a_ret (sA_r (bA_r (sA_r (lA_r (bA_r (cA_r RT))))))
      ·refine a_skip ?_
       refine sA_n ?_
       obtain ⟨zh4, H⟩ := chk_some H
       obtain ⟨r1, zh5, H⟩ := bind_some H
       have zk1 := slices_Clone_56_pc zh5
       obtain ⟨zh6, H⟩ := chk_some H
       obtain ⟨zh7, H⟩ := chk_some H
       refine a_drW (by kernel_rfl) _ rfl (s := ?zs11) (by kernel_rfl) (by kernel_rfl) ?zs11f ?_ ?_ ?_
       rotate_left 2
       ·try simp only [EVT, stepW, evOp, St.ev, St.app, St.put, wrs, evSlice, sliceOk, sl_if0, sl_if1, sl_if2, sl_if3, tk_map, dp_map, frz, fillD, setR, allOne, evBuiltin, evAppend, isAl, elems, Option.elim, TIS, CS, reduceAdd, reduceMul, reduceEqDiff, ↓reduceIte, reduceCtorEq, reduceLT, reduceLeDiff, Int.reduceToNat, reduceSub, Nat.reduceGT, Nat.reduceBEq, ↓zc4]
        repeat' with_reducible apply And.intro
        all_goals try ((with_reducible show CallW _ _ _ _ _ _ _); refine cW_p [] zk1 (fun h2 e => (.cons (.lst _ _ _ (ci_pu .u8) rfl) .nil)) ?_; simp only [EVT, stepW, evOp, St.ev, St.app, St.put, wrs, evSlice, sliceOk, sl_if0, sl_if1, sl_if2, sl_if3, tk_map, dp_map, frz, fillD, setR, allOne, evBuiltin, evAppend, isAl, elems, Option.elim, TIS, CS, reduceAdd, reduceMul, reduceEqDiff, ↓reduceIte, reduceCtorEq, reduceLT, reduceLeDiff, Int.reduceToNat, reduceSub, Nat.reduceGT, Nat.reduceBEq, ↓zc4])
        all_goals ((repeat' apply And.intro) <;> first | rfl | assumption | omega | (left; omega) | (simp; done) | (simp; omega) | (right; exact ⟨_, rfl, rfl, rfl, by decide, by first | omega | (simp; omega)⟩) | (simp_all; done))
       ·kernel_rfl
       refine bA_n ?_
       refine sA_n ?_
       refine a_reg _ rfl (s := ?zs12) ?_ ?_
       rotate_left
       ·simp only [EVT, stepR, evOp, St.ev, St.app, St.put, wrs, datOf, datOf1, evBin, binInt, TIS, CS, reduceAdd, reduceMul, reduceEqDiff, ↓reduceIte, reduceCtorEq, reduceLT, reduceLeDiff, ↓zc4]
        (repeat' apply And.intro) <;> first|rfl|assumption|omega|(simp;done)|(simp;omega)|(simp_all;done)
       refine lA_n ?_
       exact wk_lA [(some 0, ⟨28, 5, false, [Msg.c x1]⟩), (some 10, ⟨76, 2, false, (l2 ++ [(⟨x3, r1⟩ : Entry)]).map Entry.c⟩)] [] (L := [(1, .ptr 0 0 0 5), (4, .ref 1 0 (l2 ++ [(⟨x3, r1⟩ : Entry)]).length 2), (5, .list 1 ((data2.drop x4.toNat).map (ci .u8))), (6, .int .i64 x3), (7, .int .i64 (IntKind.wrap .i64 (i1 + 2)))]) (fun t0 => ⟨_, Nat.lt_succ_self _, (l2 ++ [(⟨x3, r1⟩ : Entry)]), (data2.drop x4.toNat), x3, (IntKind.wrap .i64 (i1 + 2)), t0, H, rfl⟩)
    ·refine a_exit ?_
     refine sA_e ?_
     refine lA_e ?_
     refine bA_hit ?_
     refine cA_n ?_
     exact wk_lA [(some 0, _), (some 1, _)] [] (fun t0 => ⟨l2, data2, t0, H, rfl⟩)
 ·rintro s ⟨l1, data1, t0, H, rfl⟩
  unfold seat_carried_J1 at H
  refine a_seq ?_
  refine cnd H (fun zc1 H => ?_) (fun zc1 H => ?_)
  ·refine cnd H (fun zc2 H => ?_) (fun zc2 H => ?_)
   ·refine a_regC _ rfl ?_
    refine sA_n ?_
    refine a_ret ?_
    obtain rfl := Option.some.inj H
    refine e_r2 (d := ?zd1) ?_ ?_
    rotate_left
    ·simp only [EVT, resR, single, evLoad, cut, TIS, CS, reduceAdd, reduceEqDiff, ↓reduceIte, reduceCtorEq, reduceLT, reduceLeDiff, reduceSub, Nat.reduceBEq, zc1, zc2]
     (repeat' apply And.intro) <;> first | rfl | assumption | omega | (simp; done)
    exact ZZ
   ·refine a_regC _ rfl ?_
    refine sA_n ?_
    refine a_ret ?_
    obtain rfl := Option.some.inj H
    refine e_r2 (d := ?zd2) ?_ ?_
    rotate_left
    ·simp only [EVT, resR, single, evLoad, cut, TIS, CS, reduceAdd, reduceEqDiff, ↓reduceIte, reduceCtorEq, reduceLT, reduceLeDiff, reduceSub, Nat.reduceBEq, zc1, zc2]
     (repeat' apply And.intro) <;> first | rfl | assumption | omega | (simp; done)
    exact ZZ
  ·refine a_regC _ rfl ?_
   refine sA_n ?_
   refine a_ret ?_
   obtain rfl := Option.some.inj H
   refine e_r2 (d := ?zd3) ?_ ?_
   rotate_left
   ·simp only [EVT, resR, single, evLoad, cut, TIS, CS, reduceAdd, reduceEqDiff, ↓reduceIte, reduceCtorEq, reduceLT, reduceLeDiff, reduceSub, Nat.reduceBEq, zc1]
    (repeat' apply And.intro) <;> first | rfl | assumption | omega | (simp; done)
   exact ZZ
def seat_isFor_1_f (k1 : Int) : Option Bool :=
 some ((decide (k1 < 0)))
set_option maxHeartbeats 4000000 in
set_option maxRecDepth 20000 in
theorem seat_isFor_1_pc {k1 : Int} {r : Bool} (H : seat_isFor_1_f k1 = some r) : PC Tryd.prog 62 [.int .i64 k1] (.bool r) := by
 refine pcA_of Tryd.func62 (by rfl) (by decide) 5 (by rfl) [.tmp 2] (by rfl) ?_
 unfold seat_isFor_1_f at H
 simp only [ent]
 refine a_seq ?_
 refine a_regC _ rfl ?_
 refine sA_n ?_
 refine a_seq ?_
 refine a_regC _ rfl ?_
 refine sA_n ?_
 exact a_ret RT
end
end Go.Proofs.YtmkpokcfefjifaaDoor
