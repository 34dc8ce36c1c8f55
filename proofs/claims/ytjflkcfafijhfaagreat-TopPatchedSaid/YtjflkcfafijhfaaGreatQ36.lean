import Derived.Test.YtjflkcfafijhfaaGreatQ35
import Derived.Test.YtjflkcfafijhfaaGreatQ29
set_option linter.unusedSectionVars false
/- Functions of the program as Lean functions, and that they are so; printed by a program of mine. -/
set_option linter.unusedSimpArgs false
set_option linter.unusedVariables false
set_option maxHeartbeats 4000000
set_option maxRecDepth 20000
namespace Go.Proofs.YtjflkcfafijhfaaGreat
open Go.Ab
open Nat (reduceAdd reduceMul reduceEqDiff reduceLT reduceLeDiff reduceSub)
noncomputable section
def mend_may_f (j1 : Job) : Option Bool :=
 (mend_within_f j1.id 0 199).bind fun r1 => cond r1 ((mend_within_f j1.ver 0 1099511627776).bind fun r2 => cond r2 ((mend_within_f j1.from_ 0 1099511627776).bind fun r3 => cond r3 ((mend_within_f j1.to_ 0 1099511627776).bind fun r4 => cond r4 (cond (j1.from_ != j1.to_) ((mend_within_f j1.have_ 1 5).bind fun r5 => cond r5 ((mend_within_f j1.left 1 65).bind fun r6 => some (r6)) (some (false))) (some (false))) (some (false))) (some (false))) (some (false))) (some (false))
theorem mend_may_pc {j1 : Job} {r : Bool} (H : mend_may_f j1 = some r) : PC Tryz.prog 124 [.agg (Job.c j1)] (.bool r) := by
 refine pcA_of Tryz.func124 (by rfl) (by decide) 38 (by rfl) [.tmp 2] (by rfl) ?_
 unfold mend_may_f at H
 simp only [ent]
 refine a_srC _ rfl ?_
 refine a_seq ?_
 obtain ⟨r1, zh1, H⟩ := bind_some H
 have zk1 := mend_within_pc zh1
 refine cnd H (fun zc1 H => ?_) (fun zc1 H => ?_)
 ·obtain ⟨r2, zh2, H⟩ := bind_some H
  have zk2 := mend_within_pc zh2
  refine cnd H (fun zc2 H => ?_) (fun zc2 H => ?_)
  ·obtain ⟨r3, zh3, H⟩ := bind_some H
   have zk3 := mend_within_pc zh3
   refine cnd H (fun zc3 H => ?_) (fun zc3 H => ?_)
   ·obtain ⟨r4, zh4, H⟩ := bind_some H
    have zk4 := mend_within_pc zh4
    refine cnd H (fun zc4 H => ?_) (fun zc4 H => ?_)
    ·refine cnd H (fun zc5 H => ?_) (fun zc5 H => ?_)
     ·obtain ⟨r5, zh5, H⟩ := bind_some H
      have zk5 := mend_within_pc zh5
      refine cnd H (fun zc6 H => ?_) (fun zc6 H => ?_)
      ·obtain ⟨r6, zh6, H⟩ := bind_some H
       have zk6 := mend_within_pc zh6
       refine a_reg _ rfl (s := ?zs2) ?_ ?_
       rotate_left
       ·try refine goS ?_
        repeat' with_reducible apply And.intro
        all_goals try ((with_reducible show CallR _ _ _ _ _ _ _); refine cR_s zk1 ZZ (.bool _) ?_; refine goS ?_)
        repeat' with_reducible apply And.intro
        all_goals try ((with_reducible show CallR _ _ _ _ _ _ _); refine cR_s zk2 ZZ (.bool _) ?_; refine goS ?_)
        repeat' with_reducible apply And.intro
        all_goals try ((with_reducible show CallR _ _ _ _ _ _ _); refine cR_s zk3 ZZ (.bool _) ?_; refine goS ?_)
        repeat' with_reducible apply And.intro
        all_goals try ((with_reducible show CallR _ _ _ _ _ _ _); refine cR_s zk4 ZZ (.bool _) ?_; refine goS ?_)
        repeat' with_reducible apply And.intro
        all_goals try ((with_reducible show CallR _ _ _ _ _ _ _); refine cR_s zk5 ZZ (.bool _) ?_; refine goS ?_)
        repeat' with_reducible apply And.intro
        all_goals try ((with_reducible show CallR _ _ _ _ _ _ _); refine cR_s zk6 ZZ (.bool _) ?_; refine goS ?_)
        all_goals ((repeat' apply And.intro) <;> first|rfl|assumption|omega|(simp;done)|(simp;omega)|(simp_all;done))
       refine sA_n ?_
       exact a_ret RT
      ·refine a_reg _ rfl (s := ?zs3) ?_ ?_
       rotate_left
       ·try refine goS ?_
        repeat' with_reducible apply And.intro
        all_goals try ((with_reducible show CallR _ _ _ _ _ _ _); refine cR_s zk1 (.cons (.int' rfl) (.cons (.int' rfl) (.cons (.int' rfl) .nil))) (.bool _) ?_; refine goZ6 ?_)
        repeat' with_reducible apply And.intro
        all_goals try ((with_reducible show CallR _ _ _ _ _ _ _); refine cR_s zk2 (.cons (.int' rfl) (.cons (.int' rfl) (.cons (.int' rfl) .nil))) (.bool _) ?_; refine goZ6 ?_)
        repeat' with_reducible apply And.intro
        all_goals try ((with_reducible show CallR _ _ _ _ _ _ _); refine cR_s zk3 (.cons (.int' rfl) (.cons (.int' rfl) (.cons (.int' rfl) .nil))) (.bool _) ?_; refine goZ6 ?_)
        repeat' with_reducible apply And.intro
        all_goals try ((with_reducible show CallR _ _ _ _ _ _ _); refine cR_s zk4 (.cons (.int' rfl) (.cons (.int' rfl) (.cons (.int' rfl) .nil))) (.bool _) ?_; refine goZ6 ?_)
        repeat' with_reducible apply And.intro
        all_goals try ((with_reducible show CallR _ _ _ _ _ _ _); refine cR_s zk5 (.cons (.int' rfl) (.cons (.int' rfl) (.cons (.int' rfl) .nil))) (.bool _) ?_; refine goZ6 ?_)
        all_goals ((repeat' apply And.intro) <;> first|rfl|assumption|omega|(simp;done)|(simp;omega)|(simp_all;done))
       refine sA_n ?_
       refine a_ret ?_
       obtain rfl := Option.some.inj H
       refine e_r2 (d := ?zd2) ?_ ?_
       rotate_left
       ·simp only [EVT, resR, single, evLoad, cut, TIS, CS, reduceAdd, reduceEqDiff, ↓reduceIte, reduceCtorEq, reduceLT, reduceLeDiff, reduceSub, Nat.reduceBEq, zc1, zc2, zc3, zc4, zc5, zc6]
        (repeat' apply And.intro) <;> first | rfl | assumption | omega | (simp; done)
       exact (.bool' (by first | rfl | assumption | (simp_all; done)))
     ·refine a_reg _ rfl (s := ?zs4) ?_ ?_
      rotate_left
      ·try refine goS ?_
       repeat' with_reducible apply And.intro
       all_goals try ((with_reducible show CallR _ _ _ _ _ _ _); refine cR_s zk1 (.cons (.int' rfl) (.cons (.int' rfl) (.cons (.int' rfl) .nil))) (.bool _) ?_; refine goZ5 ?_)
       repeat' with_reducible apply And.intro
       all_goals try ((with_reducible show CallR _ _ _ _ _ _ _); refine cR_s zk2 (.cons (.int' rfl) (.cons (.int' rfl) (.cons (.int' rfl) .nil))) (.bool _) ?_; refine goZ5 ?_)
       repeat' with_reducible apply And.intro
       all_goals try ((with_reducible show CallR _ _ _ _ _ _ _); refine cR_s zk3 (.cons (.int' rfl) (.cons (.int' rfl) (.cons (.int' rfl) .nil))) (.bool _) ?_; refine goZ5 ?_)
       repeat' with_reducible apply And.intro
       all_goals try ((with_reducible show CallR _ _ _ _ _ _ _); refine cR_s zk4 (.cons (.int' rfl) (.cons (.int' rfl) (.cons (.int' rfl) .nil))) (.bool _) ?_; refine goZ5 ?_)
       all_goals ((repeat' apply And.intro) <;> first|rfl|assumption|omega|(simp;done)|(simp;omega)|(simp_all;done))
      refine sA_n ?_
      refine a_ret ?_
      obtain rfl := Option.some.inj H
      refine e_r2 (d := ?zd3) ?_ ?_
      rotate_left
      ·simp only [EVT, resR, single, evLoad, cut, TIS, CS, reduceAdd, reduceEqDiff, ↓reduceIte, reduceCtorEq, reduceLT, reduceLeDiff, reduceSub, Nat.reduceBEq, zc1, zc2, zc3, zc4, zc5]
       (repeat' apply And.intro) <;> first | rfl | assumption | omega | (simp; done)
      exact (.bool' (by first | rfl | assumption | (simp_all; done)))
    ·refine a_reg _ rfl (s := ?zs5) ?_ ?_
     rotate_left
     ·try refine goS ?_
      repeat' with_reducible apply And.intro
      all_goals try ((with_reducible show CallR _ _ _ _ _ _ _); refine cR_s zk1 (.cons (.int' rfl) (.cons (.int' rfl) (.cons (.int' rfl) .nil))) (.bool _) ?_; refine goZ4 ?_)
      repeat' with_reducible apply And.intro
      all_goals try ((with_reducible show CallR _ _ _ _ _ _ _); refine cR_s zk2 (.cons (.int' rfl) (.cons (.int' rfl) (.cons (.int' rfl) .nil))) (.bool _) ?_; refine goZ4 ?_)
      repeat' with_reducible apply And.intro
      all_goals try ((with_reducible show CallR _ _ _ _ _ _ _); refine cR_s zk3 (.cons (.int' rfl) (.cons (.int' rfl) (.cons (.int' rfl) .nil))) (.bool _) ?_; refine goZ4 ?_)
      repeat' with_reducible apply And.intro
      all_goals try ((with_reducible show CallR _ _ _ _ _ _ _); refine cR_s zk4 (.cons (.int' rfl) (.cons (.int' rfl) (.cons (.int' rfl) .nil))) (.bool _) ?_; refine goZ4 ?_)
      all_goals ((repeat' apply And.intro) <;> first|rfl|assumption|omega|(simp;done)|(simp;omega)|(simp_all;done))
     refine sA_n ?_
     refine a_ret ?_
     obtain rfl := Option.some.inj H
     refine e_r2 (d := ?zd4) ?_ ?_
     rotate_left
     ·simp only [EVT, resR, single, evLoad, cut, TIS, CS, reduceAdd, reduceEqDiff, ↓reduceIte, reduceCtorEq, reduceLT, reduceLeDiff, reduceSub, Nat.reduceBEq, zc1, zc2, zc3, zc4]
      (repeat' apply And.intro) <;> first | rfl | assumption | omega | (simp; done)
     exact (.bool' (by first | rfl | assumption | (simp_all; done)))
   ·refine a_reg _ rfl (s := ?zs6) ?_ ?_
    rotate_left
    ·try refine goS ?_
     repeat' with_reducible apply And.intro
     all_goals try ((with_reducible show CallR _ _ _ _ _ _ _); refine cR_s zk1 (.cons (.int' rfl) (.cons (.int' rfl) (.cons (.int' rfl) .nil))) (.bool _) ?_; refine goZ3 ?_)
     repeat' with_reducible apply And.intro
     all_goals try ((with_reducible show CallR _ _ _ _ _ _ _); refine cR_s zk2 (.cons (.int' rfl) (.cons (.int' rfl) (.cons (.int' rfl) .nil))) (.bool _) ?_; refine goZ3 ?_)
     repeat' with_reducible apply And.intro
     all_goals try ((with_reducible show CallR _ _ _ _ _ _ _); refine cR_s zk3 (.cons (.int' rfl) (.cons (.int' rfl) (.cons (.int' rfl) .nil))) (.bool _) ?_; refine goZ3 ?_)
     all_goals ((repeat' apply And.intro) <;> first|rfl|assumption|omega|(simp;done)|(simp;omega)|(simp_all;done))
    refine sA_n ?_
    refine a_ret ?_
    obtain rfl := Option.some.inj H
    refine e_r2 (d := ?zd5) ?_ ?_
    rotate_left
    ·simp only [EVT, resR, single, evLoad, cut, TIS, CS, reduceAdd, reduceEqDiff, ↓reduceIte, reduceCtorEq, reduceLT, reduceLeDiff, reduceSub, Nat.reduceBEq, zc1, zc2, zc3]
     (repeat' apply And.intro) <;> first | rfl | assumption | omega | (simp; done)
    exact (.bool' (by first | rfl | assumption | (simp_all; done)))
  ·refine a_reg _ rfl (s := ?zs7) ?_ ?_
   rotate_left
   ·try refine goS ?_
    repeat' with_reducible apply And.intro
    all_goals try ((with_reducible show CallR _ _ _ _ _ _ _); refine cR_s zk1 (.cons (.int' rfl) (.cons (.int' rfl) (.cons (.int' rfl) .nil))) (.bool _) ?_; refine goZ2 ?_)
    repeat' with_reducible apply And.intro
    all_goals try ((with_reducible show CallR _ _ _ _ _ _ _); refine cR_s zk2 (.cons (.int' rfl) (.cons (.int' rfl) (.cons (.int' rfl) .nil))) (.bool _) ?_; refine goZ2 ?_)
    all_goals ((repeat' apply And.intro) <;> first|rfl|assumption|omega|(simp;done)|(simp;omega)|(simp_all;done))
   refine sA_n ?_
   refine a_ret ?_
   obtain rfl := Option.some.inj H
   refine e_r2 (d := ?zd6) ?_ ?_
   rotate_left
   ·simp only [EVT, resR, single, evLoad, cut, TIS, CS, reduceAdd, reduceEqDiff, ↓reduceIte, reduceCtorEq, reduceLT, reduceLeDiff, reduceSub, Nat.reduceBEq, zc1, zc2]
    (repeat' apply And.intro) <;> first | rfl | assumption | omega | (simp; done)
   exact (.bool' (by first | rfl | assumption | (simp_all; done)))
 ·refine a_reg _ rfl (s := ?zs8) ?_ ?_
  rotate_left
  ·try refine goS ?_
   repeat' with_reducible apply And.intro
   all_goals try ((with_reducible show CallR _ _ _ _ _ _ _); refine cR_s zk1 (.cons (.int' rfl) (.cons (.int' rfl) (.cons (.int' rfl) .nil))) (.bool _) ?_; refine goZ1 ?_)
   all_goals ((repeat' apply And.intro) <;> first|rfl|assumption|omega|(simp;done)|(simp;omega)|(simp_all;done))
  refine sA_n ?_
  refine a_ret ?_
  obtain rfl := Option.some.inj H
  refine e_r2 (d := ?zd7) ?_ ?_
  rotate_left
  ·simp only [EVT, resR, single, evLoad, cut, TIS, CS, reduceAdd, reduceEqDiff, ↓reduceIte, reduceCtorEq, reduceLT, reduceLeDiff, reduceSub, Nat.reduceBEq, zc1]
   (repeat' apply And.intro) <;> first | rfl | assumption | omega | (simp; done)
  exact (.bool' (by first | rfl | assumption | (simp_all; done)))
def slices_ContainsFunc_125_f (s1 : List Job) (f1 : Job → Option Bool) : Option Bool :=
 (slices_IndexFunc_121_f s1 f1).bind fun r1 => some ((decide (0 ≤ r1)))
theorem slices_ContainsFunc_125_pc {s1 : List Job} {f1 : Job → Option Bool} {f1_F : FuncId} {f1_caps f1_fst : List Dat} (f1_hp : ∀ (x0_ : Job) (r : Bool), f1 x0_ = some r → PC Tryz.prog f1_F (f1_fst ++ .agg (Job.c x0_) :: f1_caps) (.bool r)) (f1_pu : Pus f1_caps) (f1_fpu : Pus f1_fst) {r : Bool} (H : slices_ContainsFunc_125_f s1 f1 = some r) : PC Tryz.prog 125 [.list 6 (s1.map Job.c), .fn (.func f1_F) f1_fst f1_caps] (.bool r) := by
 refine pcA_of Tryz.func125 (by rfl) (by decide) 9 (by rfl) [.tmp 4] (by rfl) ?_
 unfold slices_ContainsFunc_125_f at H
 simp only [ent]
 refine a_srC _ rfl ?_
 refine a_seq ?_
 obtain ⟨r1, zh1, H⟩ := bind_some H
 have zk1 := slices_IndexFunc_121_pc (f1 := f1) (f1_F := f1_F) (f1_caps := f1_caps) (f1_fst := f1_fst) f1_hp f1_pu f1_fpu zh1
 refine a_reg _ rfl (s := ?zs2) ?_ ?_
 rotate_left
 ·try refine goS ?_
  repeat' with_reducible apply And.intro
  all_goals try ((with_reducible show CallR _ _ _ _ _ _ _); refine cR_s zk1 (.cons (.lst _ _ _ Job.pu rfl) (.cons (.fn' (Pus.purRs f1_fpu) (Pus.purRs f1_pu)) .nil)) (.int _ _) ?_; refine goS ?_)
  all_goals ((repeat' apply And.intro) <;> first|rfl|assumption|omega|(simp;done)|(simp;omega)|(simp_all;done))
 refine sA_n ?_
 exact a_ret RT
def slices_insertionSortCmpFunc_176_J1 (k_slices_insertionSortCmpFunc_176_L1 : (List Job) → Int → Option (List Job)) (i1 : Int) (data3 : List Job) : Option (List Job) :=
 k_slices_insertionSortCmpFunc_176_L1 data3 (IntKind.wrap .i64 (i1 + 1))
def slices_insertionSortCmpFunc_176_J2 (k_slices_insertionSortCmpFunc_176_L2 : (List Job) → Int → Option (List Job)) (k_slices_insertionSortCmpFunc_176_L1 : (List Job) → Int → Option (List Job)) (data4 : List Job) (j1 : Int) (i1 : Int) (v1 : Bool) : Option (List Job) :=
 cond v1 ((idx data4 (IntKind.wrap .i64 (j1 - 1))).bind fun x1 => (idx data4 j1).bind fun x2 => (idx (data4.set j1.toNat x1) (IntKind.wrap .i64 (j1 - 1))).bind fun x3 => k_slices_insertionSortCmpFunc_176_L2 ((data4.set j1.toNat x1).set ((IntKind.wrap .i64 (j1 - 1)).toNat) x2) (IntKind.wrap .i64 (j1 - 1))) (slices_insertionSortCmpFunc_176_J1 k_slices_insertionSortCmpFunc_176_L1 i1 data4)
def slices_insertionSortCmpFunc_176_L2 (k_slices_insertionSortCmpFunc_176_L1 : (List Job) → Int → Option (List Job)) (a1 : Int) (cmp1 : Job → Job → Option Int) (i1 : Int) : Nat → (List Job) → Int → Option (List Job)
 | 0, _, _ => none
 | m_ + 1, data4, j1 => cond (decide (a1 < j1)) ((idx data4 j1).bind fun x4 => (idx data4 (IntKind.wrap .i64 (j1 - 1))).bind fun x5 => (cmp1 x4 x5).bind fun r1 => slices_insertionSortCmpFunc_176_J2 (slices_insertionSortCmpFunc_176_L2 k_slices_insertionSortCmpFunc_176_L1 a1 cmp1 i1 m_) k_slices_insertionSortCmpFunc_176_L1 data4 j1 i1 (decide (r1 < 0))) (slices_insertionSortCmpFunc_176_J2 (slices_insertionSortCmpFunc_176_L2 k_slices_insertionSortCmpFunc_176_L1 a1 cmp1 i1 m_) k_slices_insertionSortCmpFunc_176_L1 data4 j1 i1 false)
def slices_insertionSortCmpFunc_176_L1 (b1 : Int) (a1 : Int) (cmp1 : Job → Job → Option Int) : Nat → (List Job) → Int → Option (List Job)
 | 0, _, _ => none
 | m_ + 1, data2, i1 => cond (decide (i1 < b1)) (slices_insertionSortCmpFunc_176_L2 (slices_insertionSortCmpFunc_176_L1 b1 a1 cmp1 m_) a1 cmp1 i1 BIG data2 i1) (some (data2))
def slices_insertionSortCmpFunc_176_f (data1 : List Job) (a1 : Int) (b1 : Int) (cmp1 : Job → Job → Option Int) : Option (List Job) :=
 slices_insertionSortCmpFunc_176_L1 b1 a1 cmp1 BIG data1 (IntKind.wrap .i64 (a1 + 1))
theorem slices_insertionSortCmpFunc_176_rc {data1 : List Job} {a1 : Int} {b1 : Int} {cmp1 : Job → Job → Option Int} {cmp1_F : FuncId} {cmp1_caps : List Dat} (cmp1_hp : ∀ (x0_ : Job) (x1_ : Job) (r : Int), cmp1 x0_ x1_ = some r → PC Tryz.prog cmp1_F (.agg (Job.c x0_) :: .agg (Job.c x1_) :: cmp1_caps) (.int .i64 r)) (cmp1_pu : Pus cmp1_caps) {r : (List Job)} (H : slices_insertionSortCmpFunc_176_f data1 a1 b1 cmp1 = some r) : RC Tryz.prog 176 [.ref 0 0 data1.length 6, .int .i64 a1, .int .i64 b1, .fn (.func cmp1_F) [] cmp1_caps] [⟨71, 6, false, data1.map Job.c⟩] 1 (.tup []) [some ⟨71, 6, false, r.map Job.c⟩] := by
 refine rcA_of Tryz.func176 (by rfl) (by decide) 53 (by rfl) [] (by rfl) ?_
 unfold slices_insertionSortCmpFunc_176_f at H
 simp only [hent, List.length_cons, List.length_nil, reduceAdd]
 refine a_srC _ rfl ?_
 refine a_blk ?_
 refine a_loop (fun m s => ∃ (data2 : List Job) (i1 : Int) (t0 : Nat → Dat), slices_insertionSortCmpFunc_176_L1 b1 a1 cmp1 m data2 i1 = some r ∧ s = ⟨tl t0 [(0, .ref 0 0 data2.length 6), (1, .int .i64 a1), (2, .int .i64 b1), (3, .fn (.func cmp1_F) [] cmp1_caps), (8, .int .i64 i1)], hl [⟨71, 6, false, data2.map Job.c⟩], 1, 53⟩) BIG ?_ ?_
 ·refine wk_ln 1 [(some 0, ⟨71, 6, false, data1.map Job.c⟩)] [] [(0, .ref 0 0 data1.length 6), (1, .int .i64 a1), (2, .int .i64 b1), (3, .fn (.func cmp1_F) [] cmp1_caps), (8, .int .i64 (IntKind.wrap .i64 (a1 + 1)))] LW ND ND ?_ ?_ (fun t0 => ⟨data1, (IntKind.wrap .i64 (a1 + 1)), t0, H, rfl⟩)
  ·exact (allB_some (by rfl) rfl (.sm _ _ Job.pu) trivial)
  ·(simp only [AllT, ATT, reduceEqDiff, ↓reduceIte, and_true]); exact ⟨(.refl' (by first|rfl|omega|(simp;done)|(simp;omega)|(simp_all;done)) rfl), (.int' rfl), (.int' rfl), (.fn' .nil (RNs.pu cmp1_pu)), (.int' rfl)⟩
 ·rintro m_slices_insertionSortCmpFunc_176_L1 s ⟨data2, i1, t0, H, rfl⟩
  obtain _ | m_slices_insertionSortCmpFunc_176_L1 := m_slices_insertionSortCmpFunc_176_L1
  ·cases (show (none : Option _) = some _ from H)
  ·rw [slices_insertionSortCmpFunc_176_L1] at H
   refine a_seq ?_
   refine a_srC _ rfl ?_
   refine a_cnd H (fun zc1 H => ?_) (fun zc1 H => ?_)
   ·refine a_skip ?_
    refine sA_n ?_
    refine a_cut (fun s => ∃ (data3 : List Job) (t0 : Nat → Dat), slices_insertionSortCmpFunc_176_J1 (slices_insertionSortCmpFunc_176_L1 b1 a1 cmp1 m_slices_insertionSortCmpFunc_176_L1) i1 data3 = some r ∧ s = ⟨tl t0 [(0, .ref 0 0 data3.length 6), (1, .int .i64 a1), (2, .int .i64 b1), (3, .fn (.func cmp1_F) [] cmp1_caps), (8, .int .i64 i1)], hl [⟨71, 6, false, data3.map Job.c⟩], 1, 53⟩) ?_ ?_
    ·refine a_blk ?_
     refine a_srC _ rfl ?_
     refine a_blk ?_
     refine a_loop (fun m s => ∃ (data4 : List Job) (j1 : Int) (t0 : Nat → Dat), slices_insertionSortCmpFunc_176_L2 (slices_insertionSortCmpFunc_176_L1 b1 a1 cmp1 m_slices_insertionSortCmpFunc_176_L1) a1 cmp1 i1 m data4 j1 = some r ∧ s = ⟨tl t0 [(0, .ref 0 0 data4.length 6), (1, .int .i64 a1), (2, .int .i64 b1), (3, .fn (.func cmp1_F) [] cmp1_caps), (8, .int .i64 i1), (9, .int .i64 j1)], hl [⟨71, 6, false, data4.map Job.c⟩], 1, 53⟩) BIG ?_ ?_
     ·refine wk_ln 1 [(some 0, ⟨71, 6, false, data2.map Job.c⟩)] [] [(0, .ref 0 0 data2.length 6), (1, .int .i64 a1), (2, .int .i64 b1), (3, .fn (.func cmp1_F) [] cmp1_caps), (8, .int .i64 i1), (9, .int .i64 i1)] LW ND ND ?_ ?_ (fun t0 => ⟨data2, i1, t0, H, rfl⟩)
      ·exact (allB_some (by rfl) rfl (.sm _ _ Job.pu) trivial)
      ·(simp only [AllT, ATT, reduceEqDiff, ↓reduceIte, and_true]); exact ⟨(.refl' (by first|rfl|omega|(simp;done)|(simp;omega)|(simp_all;done)) rfl), (.int' rfl), (.int' rfl), (.fn' .nil (RNs.pu cmp1_pu)), (.int' rfl), (.int' rfl)⟩
     ·rintro m_slices_insertionSortCmpFunc_176_L2 s ⟨data4, j1, t0, H, rfl⟩
      obtain _ | m_slices_insertionSortCmpFunc_176_L2 := m_slices_insertionSortCmpFunc_176_L2
      ·cases (show (none : Option _) = some _ from H)
      ·rw [slices_insertionSortCmpFunc_176_L2] at H
       refine a_seq ?_
       refine a_cut (fun s => ∃ (v1 : Bool) (t0 : Nat → Dat), slices_insertionSortCmpFunc_176_J2 (slices_insertionSortCmpFunc_176_L2 (slices_insertionSortCmpFunc_176_L1 b1 a1 cmp1 m_slices_insertionSortCmpFunc_176_L1) a1 cmp1 i1 m_slices_insertionSortCmpFunc_176_L2) (slices_insertionSortCmpFunc_176_L1 b1 a1 cmp1 m_slices_insertionSortCmpFunc_176_L1) data4 j1 i1 v1 = some r ∧ s = ⟨tl t0 [(0, .ref 0 0 data4.length 6), (1, .int .i64 a1), (2, .int .i64 b1), (3, .fn (.func cmp1_F) [] cmp1_caps), (8, .int .i64 i1), (9, .int .i64 j1), (34, .bool v1)], hl [⟨71, 6, false, data4.map Job.c⟩], 1, 53⟩) ?_ ?_
       ·refine cnd H (fun zc3 H => ?_) (fun zc3 H => ?_)
        ·obtain ⟨x4, zh4, H⟩ := bind_some H
         obtain ⟨zg4, zh4a, zh4b⟩ := idx3 (f := Job.c) zh4
         try simp only [Int.reduceToNat, Int.toNat_natCast] at zg4
         obtain ⟨x5, zh5, H⟩ := bind_some H
         obtain ⟨zg5, zh5a, zh5b⟩ := idx3 (f := Job.c) zh5
         try simp only [Int.reduceToNat, Int.toNat_natCast] at zg5
         obtain ⟨r1, zh6, H⟩ := bind_some H
         have zk1 := cmp1_hp _ _ _ zh6
         refine a_drW (by kernel_rfl) _ rfl (s := ?zs7) (by kernel_rfl) (by kernel_rfl) ?zs7f ?_ ?_ ?_
         rotate_left 2
         ·try refine goS ?_
          repeat' with_reducible apply And.intro
          all_goals try ((with_reducible show CallW _ _ _ _ _ _ _); refine cW_s [] zk1 (fun h2 e => (.cons (.agg' (.cons (.int' rfl) (.cons (.int' rfl) (.cons (.int' rfl) (.cons (.int' rfl) (.cons (.int' rfl) (.cons (.int' rfl) .nil))))))) (.cons (.agg' (.cons (.int' rfl) (.cons (.int' rfl) (.cons (.int' rfl) (.cons (.int' rfl) (.cons (.int' rfl) (.cons (.int' rfl) .nil))))))) (Pus.purRs cmp1_pu)))) (.int _ _) ?_; refine goS ?_)
          all_goals exact CLS
         ·kernel_rfl
         refine cA_n ?_
         refine wk_ln 1 [(some 0, ⟨71, 6, false, data4.map Job.c⟩)] [] [(0, .ref 0 0 data4.length 6), (1, .int .i64 a1), (2, .int .i64 b1), (3, .fn (.func cmp1_F) [] cmp1_caps), (8, .int .i64 i1), (9, .int .i64 j1), (34, .bool (decide (r1 < 0)))] LW ND ND ?_ ?_ (fun t0 => ⟨(decide (r1 < 0)), t0, H, rfl⟩)
         ·exact (allB_some (by rfl) rfl (.sm _ _ Job.pu) trivial)
         ·(simp only [AllT, ATT, reduceEqDiff, ↓reduceIte, and_true]); exact ⟨(.refl' (by first|rfl|omega|(simp;done)|(simp;omega)|(simp_all;done)) rfl), (.int' rfl), (.int' rfl), (.fn' .nil (RNs.pu cmp1_pu)), (.int' rfl), (.int' rfl), (.bool' rfl)⟩
        ·refine a_drW (by kernel_rfl) _ rfl (s := ?zs8) (by kernel_rfl) (by kernel_rfl) ?zs8f ?_ ?_ ?_
         rotate_left 2
         ·refine goS ?_
          try refine goS ?_
          exact CLS
         ·kernel_rfl
         refine cA_n ?_
         refine wk_ln 1 [(some 0, ⟨71, 6, false, data4.map Job.c⟩)] [] [(0, .ref 0 0 data4.length 6), (1, .int .i64 a1), (2, .int .i64 b1), (3, .fn (.func cmp1_F) [] cmp1_caps), (8, .int .i64 i1), (9, .int .i64 j1), (34, .bool false)] LW ND ND ?_ ?_ (fun t0 => ⟨false, t0, H, rfl⟩)
         ·exact (allB_some (by rfl) rfl (.sm _ _ Job.pu) trivial)
         ·(simp only [AllT, ATT, reduceEqDiff, ↓reduceIte, and_true]); exact ⟨(.refl' (by first|rfl|omega|(simp;done)|(simp;omega)|(simp_all;done)) rfl), (.int' rfl), (.int' rfl), (.fn' .nil (RNs.pu cmp1_pu)), (.int' rfl), (.int' rfl), (.bool' (by first | rfl | assumption | (simp_all; done)))⟩
       ·rintro s ⟨v1, t0, H, rfl⟩
        unfold slices_insertionSortCmpFunc_176_J2 at H
        refine a_cnd H (fun zc2 H => ?_) (fun zc2 H => ?_)
        ·refine a_skip ?_
         refine sA_n ?_
         refine a_seq ?_
         refine a_blk ?_
         obtain ⟨x1, zh1, H⟩ := bind_some H
         obtain ⟨zg1, zh1a, zh1b⟩ := idx3 (f := Job.c) zh1
         try simp only [Int.reduceToNat, Int.toNat_natCast] at zg1
         obtain ⟨x2, zh2, H⟩ := bind_some H
         obtain ⟨zg2, zh2a, zh2b⟩ := idx3 (f := Job.c) zh2
         try simp only [Int.reduceToNat, Int.toNat_natCast] at zg2
         obtain ⟨x3, zh3, H⟩ := bind_some H
         have zg3 := idx_map zh3 Job.c
         try simp only [Int.reduceToNat, Int.toNat_natCast, List.map_set, ci_eq, cb_eq, cs_eq] at zg3
         obtain ⟨zh3a, zh3b, _⟩ := idx_some zh3
         refine a_drW (by kernel_rfl) _ rfl (s := ?zs5) (by kernel_rfl) (by kernel_rfl) ?zs5f ?_ ?_ ?_
         rotate_left 2
         ·refine goS ?_
          exact CLS
         ·kernel_rfl
         refine bA_n ?_
         refine sA_n ?_
         refine a_regC _ rfl ?_
         refine lA_n ?_
         refine wk_ln 1 [(some 0, ⟨71, 6, false, ((data4.set j1.toNat x1).set ((IntKind.wrap .i64 (j1 - 1)).toNat) x2).map Job.c⟩)] [] [(0, .ref 0 0 ((data4.set j1.toNat x1).set ((IntKind.wrap .i64 (j1 - 1)).toNat) x2).length 6), (1, .int .i64 a1), (2, .int .i64 b1), (3, .fn (.func cmp1_F) [] cmp1_caps), (8, .int .i64 i1), (9, .int .i64 (IntKind.wrap .i64 (j1 - 1)))] LW ND ND ?_ ?_ (fun t0 => ⟨_, Nat.lt_succ_self _, ((data4.set j1.toNat x1).set ((IntKind.wrap .i64 (j1 - 1)).toNat) x2), (IntKind.wrap .i64 (j1 - 1)), t0, H, rfl⟩)
         ·exact (allB_some (by rfl) rfl (.sm _ _ Job.pu) trivial)
         ·(simp only [AllT, ATT, reduceEqDiff, ↓reduceIte, and_true]); exact ⟨(.refl' (by first|rfl|omega|(simp;done)|(simp;omega)|(simp_all;done)) rfl), (.int' rfl), (.int' rfl), (.fn' .nil (RNs.pu cmp1_pu)), (.int' rfl), (.int' rfl)⟩
        ·refine a_exit ?_
         refine sA_e ?_
         refine lA_e ?_
         refine bA_hit ?_
         refine bA_n ?_
         refine cA_n ?_
         refine wk_ln 1 [(some 0, ⟨71, 6, false, data4.map Job.c⟩)] [] [(0, .ref 0 0 data4.length 6), (1, .int .i64 a1), (2, .int .i64 b1), (3, .fn (.func cmp1_F) [] cmp1_caps), (8, .int .i64 i1)] LW ND ND ?_ ?_ (fun t0 => ⟨data4, t0, H, rfl⟩)
         ·exact (allB_some (by rfl) rfl (.sm _ _ Job.pu) trivial)
         ·(simp only [AllT, ATT, reduceEqDiff, ↓reduceIte, and_true]); exact ⟨(.refl' (by first|rfl|omega|(simp;done)|(simp;omega)|(simp_all;done)) rfl), (.int' rfl), (.int' rfl), (.fn' .nil (RNs.pu cmp1_pu)), (.int' rfl)⟩
    ·rintro s ⟨data3, t0, H, rfl⟩
     unfold slices_insertionSortCmpFunc_176_J1 at H
     refine a_regC _ rfl ?_
     refine lA_n ?_
     refine wk_ln 1 [(some 0, ⟨71, 6, false, data3.map Job.c⟩)] [] [(0, .ref 0 0 data3.length 6), (1, .int .i64 a1), (2, .int .i64 b1), (3, .fn (.func cmp1_F) [] cmp1_caps), (8, .int .i64 (IntKind.wrap .i64 (i1 + 1)))] LW ND ND ?_ ?_ (fun t0 => ⟨_, Nat.lt_succ_self _, data3, (IntKind.wrap .i64 (i1 + 1)), t0, H, rfl⟩)
     ·exact (allB_some (by rfl) rfl (.sm _ _ Job.pu) trivial)
     ·(simp only [AllT, ATT, reduceEqDiff, ↓reduceIte, and_true]); exact ⟨(.refl' (by first|rfl|omega|(simp;done)|(simp;omega)|(simp_all;done)) rfl), (.int' rfl), (.int' rfl), (.fn' .nil (RNs.pu cmp1_pu)), (.int' rfl)⟩
   ·refine a_exit ?_
    refine sA_e ?_
    refine lA_e ?_
    refine bA_hit ?_
    obtain rfl := Option.some.inj H
    refine eR_n ?_
    exact wk_lnA 1 [(some 0, ⟨71, 6, false, data2.map Job.c⟩)] [] (L := []) (fun t0 => ⟨RS2, RJ⟩)
def slices_pdqsortCmpFunc_156_L1 (b1 : Int) (a1 : Int) (data1 : List Job) (cmp1 : Job → Job → Option Int) : Nat → Option (List Job)
 | 0 => none
 | m_ + 1 => chk ((decide ((IntKind.wrap .i64 (b1 - a1)) ≤ 12)) = true) ((slices_insertionSortCmpFunc_176_f data1 a1 b1 cmp1).bind fun r1 => chk (r1.length = data1.length) (some (r1)))
def slices_pdqsortCmpFunc_156_f (data1 : List Job) (a1 : Int) (b1 : Int) (limit1 : Int) (cmp1 : Job → Job → Option Int) : Option (List Job) :=
 slices_pdqsortCmpFunc_156_L1 b1 a1 data1 cmp1 BIG
theorem slices_pdqsortCmpFunc_156_rc {data1 : List Job} {a1 : Int} {b1 : Int} {limit1 : Int} {cmp1 : Job → Job → Option Int} {cmp1_F : FuncId} {cmp1_caps : List Dat} (cmp1_hp : ∀ (x0_ : Job) (x1_ : Job) (r : Int), cmp1 x0_ x1_ = some r → PC Tryz.prog cmp1_F (.agg (Job.c x0_) :: .agg (Job.c x1_) :: cmp1_caps) (.int .i64 r)) (cmp1_pu : Pus cmp1_caps) {r : (List Job)} (H : slices_pdqsortCmpFunc_156_f data1 a1 b1 limit1 cmp1 = some r) : RC Tryz.prog 156 [.ref 0 0 data1.length 6, .int .i64 a1, .int .i64 b1, .int .i64 limit1, .fn (.func cmp1_F) [] cmp1_caps] [⟨71, 6, false, data1.map Job.c⟩] 1 (.tup []) [some ⟨71, 6, false, r.map Job.c⟩] := by
 refine rcA_of Tryz.func156 (by rfl) (by decide) 148 (by rfl) [] (by rfl) ?_
 unfold slices_pdqsortCmpFunc_156_f at H
 simp only [hent, List.length_cons, List.length_nil, reduceAdd]
 refine a_srC _ rfl ?_
 refine a_srC _ rfl ?_
 refine a_blk ?_
 refine a_loop (fun m s => ∃ (t0 : Nat → Dat), slices_pdqsortCmpFunc_156_L1 b1 a1 data1 cmp1 m = some r ∧ s = ⟨tl t0 [(0, .ref 0 0 data1.length 6), (1, .int .i64 a1), (2, .int .i64 b1), (3, .int .i64 limit1), (4, .fn (.func cmp1_F) [] cmp1_caps), (10, .bool true), (11, .bool true)], hl [⟨71, 6, false, data1.map Job.c⟩], 1, 148⟩) BIG ?_ ?_
 ·refine wk_ln 1 [(some 0, ⟨71, 6, false, data1.map Job.c⟩)] [] [(0, .ref 0 0 data1.length 6), (1, .int .i64 a1), (2, .int .i64 b1), (3, .int .i64 limit1), (4, .fn (.func cmp1_F) [] cmp1_caps), (10, .bool true), (11, .bool true)] LW ND ND ?_ ?_ (fun t0 => ⟨t0, H, rfl⟩)
  ·exact (allB_some (by rfl) rfl (.sm _ _ Job.pu) trivial)
  ·(simp only [AllT, ATT, reduceEqDiff, ↓reduceIte, and_true]); exact ⟨(.refl' (by first|rfl|omega|(simp;done)|(simp;omega)|(simp_all;done)) rfl), (.int' rfl), (.int' rfl), (.int' rfl), (.fn' .nil (RNs.pu cmp1_pu)), (.bool' (by first | rfl | assumption | (simp_all; done))), (.bool' (by first | rfl | assumption | (simp_all; done)))⟩
 ·rintro m_slices_pdqsortCmpFunc_156_L1 s ⟨t0, H, rfl⟩
  obtain _ | m_slices_pdqsortCmpFunc_156_L1 := m_slices_pdqsortCmpFunc_156_L1
  ·cases (show (none : Option _) = some _ from H)
  ·rw [slices_pdqsortCmpFunc_156_L1] at H
   refine a_blk ?_
   refine a_srC _ rfl ?_
   refine a_seq ?_
   refine a_srC _ rfl ?_
   obtain ⟨zh1, H⟩ := chk_some H
   refine a_condb ((decide ((IntKind.wrap .i64 (b1 - a1)) ≤ 12))) (by rfl) (fun zc1 => ?_) (fun zc1x => absurd (zc1x.symm.trans zh1) (by decide))
   ·try skip
    refine a_seq ?_
    obtain ⟨r1, zh2, H⟩ := bind_some H
    have zk1 := slices_insertionSortCmpFunc_176_rc (cmp1 := cmp1) (cmp1_F := cmp1_F) (cmp1_caps := cmp1_caps) cmp1_hp cmp1_pu zh2
    obtain ⟨zh3, H⟩ := chk_some H
    refine a_reg _ rfl (s := ?zs5) ?_ ?_
    rotate_left
    ·try refine goS ?_
     repeat' with_reducible apply And.intro
     all_goals try ((with_reducible show CallR _ _ _ _ _ _ _); refine callR_rcw (r' := .tup []) [(0, none), (0, some ⟨71, 6, false, r1.map Job.c⟩)] [(some 0, ⟨71, 6, false, data1.map Job.c⟩)] [] [(0, 0, ⟨71, 6, false, r1.map Job.c⟩)] (by first | rfl | (simp only [List.map_set, List.map_append, List.map_cons, List.map_nil]; rfl)) zk1 (by simp) ND (allB_some (by rfl) rfl (.sm _ _ Job.pu) trivial) (.cons (.refl' (by first|rfl|omega|(simp;done)|(simp;omega)|(simp_all;done)) rfl) (.cons (.int' rfl) (.cons (.int' rfl) (.cons (.fn' .nil (RNs.pu cmp1_pu)) .nil)))) ND ND ⟨.inl ⟨by decide, rfl⟩, ⟨_, rfl, ⟨rfl, rfl, rfl, rfl⟩, .same _ _ Job.pu rfl⟩, trivial⟩ (.tup' .nil) ?_; refine goS ?_)
     all_goals ((repeat' apply And.intro) <;> first|rfl|assumption|omega|(simp;done)|(simp;omega)|(simp_all;done))
    refine sA_n ?_
    refine a_ret ?_
    refine sA_r ?_
    refine bA_r ?_
    refine lA_r ?_
    refine bA_r ?_
    obtain rfl := Option.some.inj H
    refine eR_r ?_
    exact wk_lnA 1 [(some 0, ⟨71, 6, false, r1.map Job.c⟩)] [] (L := []) (fun t0 => ⟨RS2, RJ⟩)
def slices_SortFunc_126_f (x1 : List Job) (cmp1 : Job → Job → Option Int) : Option (List Job) :=
 (math_bits_Len_f (IntKind.wrap .u64 (((x1.length : Nat)) : Int))).bind fun r1 => (slices_pdqsortCmpFunc_156_f x1 0 (((x1.length : Nat)) : Int) r1 cmp1).bind fun r2 => chk (r2.length = x1.length) (some (r2))
theorem slices_SortFunc_126_rc {x1 : List Job} {cmp1 : Job → Job → Option Int} {cmp1_F : FuncId} {cmp1_caps : List Dat} (cmp1_hp : ∀ (x0_ : Job) (x1_ : Job) (r : Int), cmp1 x0_ x1_ = some r → PC Tryz.prog cmp1_F (.agg (Job.c x0_) :: .agg (Job.c x1_) :: cmp1_caps) (.int .i64 r)) (cmp1_pu : Pus cmp1_caps) {r : (List Job)} (H : slices_SortFunc_126_f x1 cmp1 = some r) : RC Tryz.prog 126 [.ref 0 0 x1.length 6, .fn (.func cmp1_F) [] cmp1_caps] [⟨71, 6, false, x1.map Job.c⟩] 1 (.tup []) [some ⟨71, 6, false, r.map Job.c⟩] := by
 refine rcA_of Tryz.func126 (by rfl) (by decide) 14 (by rfl) [] (by rfl) ?_
 unfold slices_SortFunc_126_f at H
 simp only [hent, List.length_cons, List.length_nil, reduceAdd]
 refine a_srC _ rfl ?_
 obtain ⟨r1, zh1, H⟩ := bind_some H
 have zk1 := math_bits_Len_pc zh1
 obtain ⟨r2, zh2, H⟩ := bind_some H
 have zk2 := slices_pdqsortCmpFunc_156_rc (cmp1 := cmp1) (cmp1_F := cmp1_F) (cmp1_caps := cmp1_caps) cmp1_hp cmp1_pu zh2
 obtain ⟨zh3, H⟩ := chk_some H
 refine a_reg _ rfl (s := ?zs2) ?_ ?_
 rotate_left
 ·try refine goS ?_
  repeat' with_reducible apply And.intro
  all_goals try ((with_reducible show CallR _ _ _ _ _ _ _); refine cR_s zk1 (.cons (.int' rfl) .nil) (.int _ _) ?_; simp only [EVT, stepR, evOp, St.ev, St.app, St.put, wrs, evToStr, elems, frz, datOf, datOf1, TIS, CS, reduceAdd, reduceMul, reduceEqDiff, ↓reduceIte, reduceCtorEq, reduceLT, reduceLeDiff, reduceSub, Nat.reduceBEq])
  repeat' with_reducible apply And.intro
  all_goals try ((with_reducible show CallR _ _ _ _ _ _ _); refine callR_rcw (r' := .tup []) [(0, none), (0, some ⟨71, 6, false, r2.map Job.c⟩)] [(some 0, ⟨71, 6, false, x1.map Job.c⟩)] [] [(0, 0, ⟨71, 6, false, r2.map Job.c⟩)] (by first | rfl | (simp only [List.map_set, List.map_append, List.map_cons, List.map_nil]; rfl)) zk2 (by simp) ND (allB_some (by rfl) rfl (.sm _ _ Job.pu) trivial) (.cons (.refl' (by first|rfl|omega|(simp;done)|(simp;omega)|(simp_all;done)) rfl) (.cons (.int' rfl) (.cons (.int' rfl) (.cons (.int' rfl) (.cons (.fn' .nil (RNs.pu cmp1_pu)) .nil))))) ND ND ⟨.inl ⟨by decide, rfl⟩, ⟨_, rfl, ⟨rfl, rfl, rfl, rfl⟩, .same _ _ Job.pu rfl⟩, trivial⟩ (.tup' .nil) ?_; refine goS ?_)
  all_goals ((repeat' apply And.intro) <;> first|rfl|assumption|omega|(simp;done)|(simp;omega)|(simp_all;done))
 obtain rfl := Option.some.inj H
 refine eR_n ?_
 exact wk_lnA 1 [(some 0, ⟨71, 6, false, r2.map Job.c⟩)] [] (L := []) (fun t0 => ⟨RS2, RJ⟩)
def cmp_Or_J1 : Option Int :=
 some (0)
def cmp_Or_L1 (vals1 : List Int) : Nat → Int → Option Int
 | 0, _ => none
 | m_ + 1, v1 => cond (decide (v1 < (vals1.length : Int))) ((idx vals1 v1).bind fun x1 => cond (x1 != 0) (some (x1)) (cmp_Or_L1 vals1 m_ (IntKind.wrap .i64 (v1 + 1)))) (cmp_Or_J1)
def cmp_Or_f (vals1 : List Int) : Option Int :=
 cmp_Or_L1 vals1 BIG 0
theorem cmp_Or_pc {vals1 : List Int} {r : Int} (H : cmp_Or_f vals1 = some r) : PC Tryz.prog 157 [.list 1 (vals1.map (ci .i64))] (.int .i64 r) := by
 refine pcA_of Tryz.func157 (by rfl) (by decide) 18 (by rfl) [.tmp 2] (by rfl) ?_
 unfold cmp_Or_f at H
 simp only [ent]
 refine a_srC _ rfl ?_
 refine a_srC _ rfl ?_
 refine a_cut (fun s => ∃ (t0 : Nat → Dat), cmp_Or_J1 = some r ∧ s = ⟨tl t0 [(3, .int .i64 0)], hl [], 0, 18⟩) ?_ ?_
 ·refine a_srC _ rfl ?_
  refine a_blk ?_
  refine a_loop (fun m s => ∃ (v1 : Int) (t0 : Nat → Dat), cmp_Or_L1 vals1 m v1 = some r ∧ s = ⟨tl t0 [(3, .int .i64 0), (6, .list 1 (vals1.map (ci .i64))), (7, .int .i64 (vals1.length : Int)), (8, .int .i64 v1)], hl [], 0, 18⟩) BIG ?_ ?_
  ·exact wk_lA [] [] (fun t0 => ⟨0, t0, H, rfl⟩)
  ·rintro m_cmp_Or_L1 s ⟨v1, t0, H, rfl⟩
   obtain _ | m_cmp_Or_L1 := m_cmp_Or_L1
   ·cases (show (none : Option _) = some _ from H)
   ·rw [cmp_Or_L1] at H
    refine a_srC _ rfl ?_
    refine a_seq ?_
    refine a_cnd H (fun zc1 H => ?_) (fun zc1 H => ?_)
    ·refine a_skip ?_
     refine sA_n ?_
     refine a_seq ?_
     refine a_blk ?_
     refine a_seq ?_
     obtain ⟨x1, zh1, H⟩ := bind_some H
     obtain ⟨zg1, zh1a, zh1b⟩ := idx3 (f := (ci .i64)) zh1
     try simp only [Int.reduceToNat, Int.toNat_natCast] at zg1
     refine a_regC _ rfl ?_
     refine sA_n ?_
     refine a_srC _ rfl ?_
     refine a_cnd H (fun zc2 H => ?_) (fun zc2 H => ?_)
     ·refine a_srC _ rfl ?_
      exact a_ret (bA_r (sA_r (lA_r (bA_r (cA_r RT)))))
     ·refine a_skip ?_
      refine bA_n ?_
      refine sA_n ?_
      refine a_regC _ rfl ?_
      refine lA_n ?_
      exact wk_lA [] [] (fun t0 => ⟨_, Nat.lt_succ_self _, (IntKind.wrap .i64 (v1 + 1)), t0, H, rfl⟩)
    ·refine a_exit ?_
     refine sA_e ?_
     refine lA_e ?_
     refine bA_hit ?_
     refine cA_n ?_
     exact wk_lA [] [] (fun t0 => ⟨t0, H, rfl⟩)
 ·rintro s ⟨t0, H, rfl⟩
  unfold cmp_Or_J1 at H
  refine a_srC _ rfl ?_
  refine a_ret ?_
  obtain rfl := Option.some.inj H
  refine e_r2 (d := ?zd1) ?_ ?_
  rotate_left
  ·simp only [EVT, resR, single, evLoad, cut, TIS, CS, reduceAdd, reduceEqDiff, ↓reduceIte, reduceCtorEq, reduceLT, reduceLeDiff, reduceSub, Nat.reduceBEq]
   (repeat' apply And.intro) <;> first | rfl | assumption | omega | (simp; done)
  exact ZZ
def mend_against_f (a1 : Job) (b1 : Job) : Option Int :=
 (cmp_Compare_f a1.have_ b1.have_).bind fun r1 => (cmp_Compare_f a1.id b1.id).bind fun r2 => (cmp_Compare_f a1.to_ b1.to_).bind fun r3 => (cmp_Or_f [r1, r2, r3]).bind fun r4 => some (r4)
theorem mend_against_pc {a1 : Job} {b1 : Job} {r : Int} (H : mend_against_f a1 b1 = some r) : PC Tryz.prog 127 [.agg (Job.c a1), .agg (Job.c b1)] (.int .i64 r) := by
 refine pcA_of Tryz.func127 (by rfl) (by decide) 22 (by rfl) [.tmp 4] (by rfl) ?_
 unfold mend_against_f at H
 simp only [ent]
 refine a_srC _ rfl ?_
 refine a_seq ?_
 obtain ⟨r1, zh1, H⟩ := bind_some H
 have zk1 := cmp_Compare_pc zh1
 obtain ⟨r2, zh2, H⟩ := bind_some H
 have zk2 := cmp_Compare_pc zh2
 obtain ⟨r3, zh3, H⟩ := bind_some H
 have zk3 := cmp_Compare_pc zh3
 obtain ⟨r4, zh4, H⟩ := bind_some H
 have zk4 := cmp_Or_pc zh4
 refine a_drW (by kernel_rfl) _ rfl (s := ?zs2) (by kernel_rfl) (by kernel_rfl) ?zs2f ?_ ?_ ?_
 rotate_left 2
 ·try refine goS ?_
  repeat' with_reducible apply And.intro
  all_goals try ((with_reducible show CallW _ _ _ _ _ _ _); refine cW_s [] zk1 (fun h2 e => ZZ) (.int _ _) ?_; refine goS ?_)
  repeat' with_reducible apply And.intro
  all_goals try ((with_reducible show CallW _ _ _ _ _ _ _); refine cW_s [] zk2 (fun h2 e => ZZ) (.int _ _) ?_; refine goS ?_)
  repeat' with_reducible apply And.intro
  all_goals try ((with_reducible show CallW _ _ _ _ _ _ _); refine cW_s [] zk3 (fun h2 e => ZZ) (.int _ _) ?_; refine goS ?_)
  repeat' with_reducible apply And.intro
  all_goals try ((with_reducible show CallW _ _ _ _ _ _ _); refine cW_s [39] zk4 (fun h2 e => ZZ) (.int _ _) ?_; refine goS ?_)
  all_goals exact CLS
 ·kernel_rfl
 refine sA_n ?_
 exact a_ret RT
def mend_Order_J1 (out1 : List Job) : Option (List Job) :=
 (slices_SortFunc_126_f out1 mend_against_f).bind fun r1 => chk (r1.length = out1.length) (some (r1))
def mend_Order_J2 (k_mend_Order_L1 : (List Job) → Int → Option (List Job)) (v1 : Int) (out3 : List Job) : Option (List Job) :=
 k_mend_Order_L1 out3 (IntKind.wrap .i64 (v1 + 1))
def mend_Order_J3 (k_mend_Order_L1 : (List Job) → Int → Option (List Job)) (out2 : List Job) (v1 : Int) (x1 : Job) (v2 : Bool) : Option (List Job) :=
 cond v2 (chk ((out2.length + 1) * 48 ≤ 140737488355328) (mend_Order_J2 k_mend_Order_L1 v1 (out2 ++ [x1]))) (mend_Order_J2 k_mend_Order_L1 v1 out2)
def mend_Order_L1 (l1 : List Job) : Nat → (List Job) → Int → Option (List Job)
 | 0, _, _ => none
 | m_ + 1, out2, v1 => cond (decide (v1 < (l1.length : Int))) ((idx l1 v1).bind fun x1 => (mend_may_f x1).bind fun r2 => cond r2 ((mend_of_f x1).bind fun r3 => (slices_ContainsFunc_125_f out2 (fun y0_ => mend_spot_is_f (⟨r3.id, r3.to_⟩ : Spot) y0_)).bind fun r4 => mend_Order_J3 (mend_Order_L1 l1 m_) out2 v1 x1 (!r4)) (mend_Order_J3 (mend_Order_L1 l1 m_) out2 v1 x1 false)) (mend_Order_J1 out2)
def mend_Order_f (l1 : List Job) : Option (List Job) :=
 mend_Order_L1 l1 BIG [] 0
theorem mend_Order_pc {l1 : List Job} {r : (List Job)} (H : mend_Order_f l1 = some r) : PC Tryz.prog 77 [.list 6 (l1.map Job.c)] (.list 6 (r.map Job.c)) := by
 refine pcA_of Tryz.func77 (by rfl) (by decide) 30 (by rfl) [.tmp 2] (by rfl) ?_
 unfold mend_Order_f at H
 simp only [ent]
 refine a_srC _ rfl ?_
 refine a_srC _ rfl ?_
 refine a_cut (fun s => ∃ (out1 : List Job) (t0 : Nat → Dat), mend_Order_J1 out1 = some r ∧ s = ⟨tl t0 [(3, .ref 0 0 out1.length 6)], hl [⟨71, 6, false, out1.map Job.c⟩], 1, 30⟩) ?_ ?_
 ·refine a_srC _ rfl ?_
  refine a_blk ?_
  refine a_loop (fun m s => ∃ (out2 : List Job) (v1 : Int) (t0 : Nat → Dat), mend_Order_L1 l1 m out2 v1 = some r ∧ s = ⟨tl t0 [(3, .ref 0 0 out2.length 6), (6, .list 6 (l1.map Job.c)), (7, .int .i64 (l1.length : Int)), (8, .int .i64 v1)], hl [⟨71, 6, false, out2.map Job.c⟩], 1, 30⟩) BIG ?_ ?_
  ·exact wk_lA [(none, _)] [] (fun t0 => ⟨[], 0, t0, H, rfl⟩)
  ·rintro m_mend_Order_L1 s ⟨out2, v1, t0, H, rfl⟩
   obtain _ | m_mend_Order_L1 := m_mend_Order_L1
   ·cases (show (none : Option _) = some _ from H)
   ·rw [mend_Order_L1] at H
    refine a_srC _ rfl ?_
    refine a_seq ?_
    refine a_cnd H (fun zc1 H => ?_) (fun zc1 H => ?_)
    ·refine a_skip ?_
     refine sA_n ?_
     refine a_cut (fun s => ∃ (out3 : List Job) (t0 : Nat → Dat), mend_Order_J2 (mend_Order_L1 l1 m_mend_Order_L1) v1 out3 = some r ∧ s = ⟨tl t0 [(3, .ref 0 0 out3.length 6), (6, .list 6 (l1.map Job.c)), (7, .int .i64 (l1.length : Int)), (8, .int .i64 v1)], hl [⟨71, 6, false, out3.map Job.c⟩], 1, 30⟩) ?_ ?_
     ·refine a_blk ?_
      refine a_seq ?_
      obtain ⟨x1, zh3, H⟩ := bind_some H
      obtain ⟨zg1, zh3a, zh3b⟩ := idx3 (f := Job.c) zh3
      try simp only [Int.reduceToNat, Int.toNat_natCast] at zg1
      refine a_regC _ rfl ?_
      refine sA_n ?_
      refine a_cut (fun s => ∃ (v2 : Bool) (t0 : Nat → Dat), mend_Order_J3 (mend_Order_L1 l1 m_mend_Order_L1) out2 v1 x1 v2 = some r ∧ s = ⟨tl t0 [(3, .ref 0 0 out2.length 6), (5, .ptr 1 0 0 6), (6, .list 6 (l1.map Job.c)), (7, .int .i64 (l1.length : Int)), (8, .int .i64 v1), (21, .bool v2)], hl [⟨71, 6, false, out2.map Job.c⟩, ⟨71, 6, false, [Job.c x1]⟩], 2, 30⟩) ?_ ?_
      ·obtain ⟨r2, zh5, H⟩ := bind_some H
       have zk2 := mend_may_pc zh5
       refine cnd H (fun zc3 H => ?_) (fun zc3 H => ?_)
       ·obtain ⟨r3, zh6, H⟩ := bind_some H
        have zk3 := mend_of_pc zh6
        obtain ⟨r4, zh7, H⟩ := bind_some H
        have zk4 := slices_ContainsFunc_125_pc (f1 := (fun y0_ => mend_spot_is_f (⟨r3.id, r3.to_⟩ : Spot) y0_)) (f1_F := 123) (f1_caps := []) (f1_fst := [.agg (Spot.c (⟨r3.id, r3.to_⟩ : Spot))]) (fun _ _ h => mend_spot_is_pc h) .nil (Pus.cons (.agg _ (Spot.pu _)) Pus.nil) zh7
        refine a_regK _ rfl ?_
        refine cA_n ?_
        exact wk_lA [(some 0, _), (some 11, _)] [] (fun t0 => ⟨(!r4), t0, H, rfl⟩)
       ·refine a_regK _ rfl ?_
        refine cA_n ?_
        exact wk_lA [(some 0, _), (some 11, _)] [] (fun t0 => ⟨false, t0, H, rfl⟩)
      ·rintro s ⟨v2, t0, H, rfl⟩
       unfold mend_Order_J3 at H
       refine a_cnd H (fun zc2 H => ?_) (fun zc2 H => ?_)
       ·obtain ⟨zh4, H⟩ := chk_some H
        refine a_regC _ rfl ?_
        refine bA_n ?_
        refine cA_n ?_
        exact wk_lA [(some 5, _)] [] (fun t0 => ⟨(out2 ++ [x1]), t0, H, rfl⟩)
       ·refine a_skip ?_
        refine bA_n ?_
        refine cA_n ?_
        exact wk_lA [(some 0, _)] [] (fun t0 => ⟨out2, t0, H, rfl⟩)
     ·rintro s ⟨out3, t0, H, rfl⟩
      unfold mend_Order_J2 at H
      refine a_regC _ rfl ?_
      refine lA_n ?_
      exact wk_lA [(some 0, _)] [] (fun t0 => ⟨_, Nat.lt_succ_self _, out3, (IntKind.wrap .i64 (v1 + 1)), t0, H, rfl⟩)
    ·refine a_exit ?_
     refine sA_e ?_
     refine lA_e ?_
     refine bA_hit ?_
     refine cA_n ?_
     exact wk_lA [(some 0, _)] [] (fun t0 => ⟨out2, t0, H, rfl⟩)
 ·rintro s ⟨out1, t0, H, rfl⟩
  unfold mend_Order_J1 at H
  refine a_seq ?_
  obtain ⟨r1, zh1, H⟩ := bind_some H
  have zk1 := slices_SortFunc_126_rc (cmp1 := mend_against_f) (cmp1_F := 127) (cmp1_caps := []) (fun _ _ _ h => mend_against_pc h) .nil zh1
  obtain ⟨zh2, H⟩ := chk_some H
  refine a_reg _ rfl (s := ?zs3) ?_ ?_
  rotate_left
  ·try refine goS ?_
   repeat' with_reducible apply And.intro
   all_goals try ((with_reducible show CallR _ _ _ _ _ _ _); refine callR_rcw (r' := .tup []) [(0, none), (0, some ⟨71, 6, false, r1.map Job.c⟩)] [(some 0, _)] [] [(0, 0, _)] EQA zk1 (by simp) ND ZZ ZZ ND ND ZZ ZZ ?_; refine goS ?_)
   all_goals ((repeat' apply And.intro) <;> first|rfl|assumption|omega|(simp;done)|(simp;omega)|(simp_all;done))
  refine sA_n ?_
  refine a_srC _ rfl ?_
  exact a_ret RT
def scrub_there_f (disks1 : List Disk) (s1 : Int) : Option Bool :=
 some ((decide (0 ≤ s1)) && (decide (s1 < (disks1.length : Int))))
theorem scrub_there_pc {disks1 : List Disk} {s1 : Int} {r : Bool} (H : scrub_there_f disks1 s1 = some r) : PC Tryz.prog 47 [.list 3 (disks1.map Disk.c), .int .i64 s1] (.bool r) := by
 refine pcA_of Tryz.func47 (by rfl) (by decide) 13 (by rfl) [.tmp 4] (by rfl) ?_
 unfold scrub_there_f at H
 simp only [ent]
 refine a_srC _ rfl ?_
 refine a_seq ?_
 refine bool_split (b := (decide (0 ≤ s1))) (fun zc1 => ?_) (fun zc1 => ?_)
 ·rw [zc1] at H
  refine a_regC _ rfl ?_
  refine sA_n ?_
  exact a_ret RT
 ·rw [zc1] at H
  refine a_regC _ rfl ?_
  refine sA_n ?_
  refine a_ret ?_
  obtain rfl := Option.some.inj H
  refine e_r2 (d := ?zd2) ?_ ?_
  rotate_left
  ·simp only [EVT, resR, single, evLoad, cut, TIS, CS, reduceAdd, reduceEqDiff, ↓reduceIte, reduceCtorEq, reduceLT, reduceLeDiff, reduceSub, Nat.reduceBEq, zc1]
   (repeat' apply And.intro) <;> first | rfl | assumption | omega | (simp; done)
  exact ZZ
def scrub_turn_J1 (disks1 : List Disk) (s1 : Int) (d1 : Disk) (e1 : Int) : Option ((List Disk) × Int) :=
 cond (e1 != 0) (some (disks1, e1)) ((slices_Clone_83_f disks1).bind fun r2 => (idx r2 s1).bind fun x2 => some ((r2.set s1.toNat d1), 0))
def scrub_turn_f (disks1 : List Disk) (s1 : Int) (how1 : Disk → Option (Disk × Int)) : Option ((List Disk) × Int) :=
 (idx disks1 s1).bind fun x1 => (how1 x1).bind fun r1 => cond (r1.2 == 0) ((disk_Sync_f r1.1).bind fun r3 => scrub_turn_J1 disks1 s1 r3.1 r3.2) (scrub_turn_J1 disks1 s1 r1.1 r1.2)
theorem scrub_turn_pc {disks1 : List Disk} {s1 : Int} {how1 : Disk → Option (Disk × Int)} {how1_F : FuncId} {how1_caps : List Dat} (how1_hp : ∀ (x0_ : Disk) (r : Disk × Int), how1 x0_ = some r → PC Tryz.prog how1_F (.agg (Disk.c x0_) :: how1_caps) (.tup [.agg (Disk.c r.1), .int .i64 r.2])) (how1_pu : Pus how1_caps) {r : (List Disk) × Int} (H : scrub_turn_f disks1 s1 how1 = some r) : PC Tryz.prog 48 [.list 3 (disks1.map Disk.c), .int .i64 s1, .fn (.func how1_F) [] how1_caps] (.tup [.list 3 (r.1.map Disk.c), .int .i64 r.2]) := by
 refine pcA_of Tryz.func48 (by rfl) (by decide) 38 (by rfl) [.tmp 6, .tmp 7] (by rfl) ?_
 unfold scrub_turn_f at H
 simp only [ent]
 refine a_srC _ rfl ?_
 refine a_seq ?_
 obtain ⟨x1, zh1, H⟩ := bind_some H
 obtain ⟨zg1, zh1a, zh1b⟩ := idx3 (f := Disk.c) zh1
 try simp only [Int.reduceToNat, Int.toNat_natCast] at zg1
 obtain ⟨r1, zh2, H⟩ := bind_some H
 have zk1 := how1_hp _ _ zh2
 refine a_reg _ rfl (s := ?zs2) ?_ ?_
 rotate_left
 ·try refine goS ?_
  repeat' with_reducible apply And.intro
  all_goals try ((with_reducible show CallR _ _ _ _ _ _ _); refine cR_p zk1 (.cons (.agg' (.cons (.lst _ _ _ Page.pu rfl) (.cons (.lst _ _ _ Page.pu rfl) (.cons (.bool' (by first | rfl | assumption | (simp_all; done))) .nil)))) (Pus.purRs how1_pu)) ?_; refine goS ?_)
  all_goals ((repeat' apply And.intro) <;> first|rfl|assumption|omega|(simp;done)|(simp;omega)|(simp_all;done))
 refine sA_n ?_
 refine a_cut (fun s => ∃ (d1 : Disk) (e1 : Int) (t0 : Nat → Dat), scrub_turn_J1 disks1 s1 d1 e1 = some r ∧ s = ⟨tl t0 [(0, .list 3 (disks1.map Disk.c)), (1, .int .i64 s1), (8, .ptr 0 0 0 3), (9, .int .i64 e1)], hl [⟨44, 3, false, [Disk.c d1]⟩], 1, 38⟩) ?_ ?_
 ·refine a_srC _ rfl ?_
  refine a_cnd H (fun zc2 H => ?_) (fun zc2 H => ?_)
  ·obtain ⟨r3, zh5, H⟩ := bind_some H
   have zk3 := disk_Sync_pc zh5
   refine a_regK _ rfl ?_
   refine cA_n ?_
   exact wk_lA [(some 25, _)] [] (fun t0 => ⟨r3.1, r3.2, t0, H, rfl⟩)
  ·refine a_skip ?_
   refine cA_n ?_
   exact wk_lA [(some 25, _)] [] (fun t0 => ⟨r1.1, r1.2, t0, H, rfl⟩)
 ·rintro s ⟨d1, e1, t0, H, rfl⟩
  unfold scrub_turn_J1 at H
  refine a_seq ?_
  refine a_srC _ rfl ?_
  refine a_cnd H (fun zc1 H => ?_) (fun zc1 H => ?_)
  ·refine a_srC _ rfl ?_
   exact a_ret (sA_r RT)
  ·refine a_skip ?_
   refine sA_n ?_
   refine a_seq ?_
   obtain ⟨r2, zh3, H⟩ := bind_some H
   have zk2 := slices_Clone_83_rc zh3
   refine a_reg _ rfl (s := ?zs5) ?_ ?_
   rotate_left
   ·try refine goS ?_
    repeat' with_reducible apply And.intro
    all_goals try ((with_reducible show CallR _ _ _ _ _ _ _); refine callR_rcw (r' := .ref 18 0 r2.length 3) [(18, some ⟨44, 3, false, r2.map Disk.c⟩)] [] [] [(18, 0, _)] EQA zk2 (by simp) ND ZZ ZZ ND ND ZZ ZZ ?_; refine goS ?_)
    all_goals ((repeat' apply And.intro) <;> first|rfl|assumption|omega|(simp;done)|(simp;omega)|(simp_all;done))
   refine sA_n ?_
   refine a_seq ?_
   obtain ⟨x2, zh4, H⟩ := bind_some H
   obtain ⟨zg2, zh4a, zh4b⟩ := idx3 (f := Disk.c) zh4
   try simp only [Int.reduceToNat, Int.toNat_natCast] at zg2
   refine a_regC _ rfl ?_
   refine sA_n ?_
   refine a_srC _ rfl ?_
   refine a_ret ?_
   obtain rfl := Option.some.inj H
   refine e_r2 (d := ?zd2) ?_ ?_
   rotate_left
   ·simp only [EVT, resR, single, evLoad, cut, TIS, CS, reduceAdd, reduceEqDiff, ↓reduceIte, reduceCtorEq, reduceLT, reduceLeDiff, reduceSub, Nat.reduceBEq, zc1, zg2]
    (repeat' apply And.intro) <;> first | rfl | assumption | omega | (simp; done)
   exact ZZ
def scrub_Copy_1_f (d1 : Disk) (v1 : Copy) : Option (Disk × Int) :=
 (chunk_Put_f d1 v1).bind fun r1 => some (r1.1, r1.2)
theorem scrub_Copy_1_pc {d1 : Disk} {v1 : Copy} {r : Disk × Int} (H : scrub_Copy_1_f d1 v1 = some r) : PC Tryz.prog 66 [.agg (Disk.c d1), .rop (Copy.c v1) 0 4] (.tup [.agg (Disk.c r.1), .int .i64 r.2]) := by
 refine pcA_of Tryz.func66 (by rfl) (by decide) 10 (by rfl) [.cell 3 44, .tmp 4] (by rfl) ?_
 unfold scrub_Copy_1_f at H
 simp only [ent]
 refine a_srC _ rfl ?_
 refine a_seq ?_
 obtain ⟨r1, zh1, H⟩ := bind_some H
 have zk1 := chunk_Put_pc zh1
 refine a_regK _ rfl ?_
 refine sA_n ?_
 exact a_ret RT
def scrub_Copy_J1 (disks1 : List Disk) (j1 : Job) (v1 : Bool) : Option ((List Disk) × Int) :=
 cond v1 (some (disks1, 1)) ((idx disks1 j1.from_).bind fun x1 => (chunk_Get_f x1 j1.id).bind fun r1 => cond (r1.2 != 0) (some (disks1, r1.2)) (cond (r1.1.ver != j1.ver) (some (disks1, 250)) ((scrub_turn_f disks1 j1.to_ (fun y0_ => scrub_Copy_1_f y0_ r1.1)).bind fun r2 => some (r2.1, r2.2))))
def scrub_Copy_f (disks1 : List Disk) (j1 : Job) : Option ((List Disk) × Int) :=
 (scrub_there_f disks1 j1.from_).bind fun r3 => cond (!r3) (scrub_Copy_J1 disks1 j1 true) ((scrub_there_f disks1 j1.to_).bind fun r4 => scrub_Copy_J1 disks1 j1 (!r4))
theorem scrub_Copy_pc {disks1 : List Disk} {j1 : Job} {r : (List Disk) × Int} (H : scrub_Copy_f disks1 j1 = some r) : PC Tryz.prog 25 [.list 3 (disks1.map Disk.c), .agg (Job.c j1)] (.tup [.list 3 (r.1.map Disk.c), .int .i64 r.2]) := by
 refine pcA_of Tryz.func25 (by rfl) (by decide) 51 (by rfl) [.tmp 4, .tmp 5] (by rfl) ?_
 unfold scrub_Copy_f at H
 simp only [ent]
 refine a_srC _ rfl ?_
 refine a_seq ?_
 refine a_cut (fun s => ∃ (v1 : Bool) (t0 : Nat → Dat), scrub_Copy_J1 disks1 j1 v1 = some r ∧ s = ⟨tl t0 [(0, .list 3 (disks1.map Disk.c)), (3, .ptr 0 0 0 6), (19, .bool v1)], hl [⟨71, 6, false, [Job.c j1]⟩], 1, 51⟩) ?_ ?_
 ·obtain ⟨r3, zh4, H⟩ := bind_some H
  have zk3 := scrub_there_pc zh4
  refine cnd H (fun zc4 H => ?_) (fun zc4 H => ?_)
  ·refine a_regK _ rfl ?_
   refine cA_n ?_
   exact wk_lA [(some 0, _)] [] (fun t0 => ⟨true, t0, H, rfl⟩)
  ·obtain ⟨r4, zh5, H⟩ := bind_some H
   have zk4 := scrub_there_pc zh5
   refine a_reg _ rfl (s := ?zs10) ?_ ?_
   rotate_left
   ·try refine goS ?_
    repeat' with_reducible apply And.intro
    all_goals try ((with_reducible show CallR _ _ _ _ _ _ _); refine cR_s zk3 ZZ (.bool _) ?_; refine goS ?_)
    repeat' with_reducible apply And.intro
    all_goals try ((with_reducible show CallR _ _ _ _ _ _ _); refine cR_s zk4 ZZ (.bool _) ?_; refine goS ?_)
    all_goals ((repeat' apply And.intro) <;> first|rfl|assumption|omega|(simp;done)|(simp;omega)|(simp_all;done))
   refine cA_n ?_
   exact wk_lA [(some 0, _)] [] (fun t0 => ⟨(!r4), t0, H, rfl⟩)
 ·rintro s ⟨v1, t0, H, rfl⟩
  unfold scrub_Copy_J1 at H
  refine a_cnd H (fun zc1 H => ?_) (fun zc1 H => ?_)
  ·refine a_srC _ rfl ?_
   exact a_ret (sA_r RT)
  ·refine a_skip ?_
   refine sA_n ?_
   refine a_seq ?_
   obtain ⟨x1, zh1, H⟩ := bind_some H
   obtain ⟨zg1, zh1a, zh1b⟩ := idx3 (f := Disk.c) zh1
   try simp only [Int.reduceToNat, Int.toNat_natCast] at zg1
   obtain ⟨r1, zh2, H⟩ := bind_some H
   have zk1 := chunk_Get_pc zh2
   refine a_drW (by kernel_rfl) _ rfl (s := ?zs3) (by kernel_rfl) (by kernel_rfl) ?zs3f ?_ ?_ ?_
   rotate_left 2
   ·try refine goS ?_
    repeat' with_reducible apply And.intro
    all_goals try ((with_reducible show CallW _ _ _ _ _ _ _); refine cW_p [] zk1 (fun h2 e => ZZ) ?_; refine goS ?_)
    all_goals exact CLS
   ·kernel_rfl
   refine sA_n ?_
   refine a_seq ?_
   refine a_blk ?_
   refine a_srC _ rfl ?_
   refine a_cnd H (fun zc2 H => ?_) (fun zc2 H => ?_)
   ·refine a_srC _ rfl ?_
    refine a_ret ?_
    refine bA_r ?_
    refine sA_r ?_
    obtain rfl := Option.some.inj H
    refine e_r2 (d := ?zd2) ?_ ?_
    rotate_left
    ·simp only [EVT, resR, single, evLoad, cut, TIS, CS, reduceAdd, reduceEqDiff, ↓reduceIte, reduceCtorEq, reduceLT, reduceLeDiff, reduceSub, Nat.reduceBEq, zc1, zg1, zc2]
     (repeat' apply And.intro) <;> first | rfl | assumption | omega | (simp; done)
    exact ZZ
   ·refine a_srC _ rfl ?_
    refine a_cnd H (fun zc3 H => ?_) (fun zc3 H => ?_)
    ·refine a_srC _ rfl ?_
     refine a_ret ?_
     refine bA_r ?_
     refine sA_r ?_
     obtain rfl := Option.some.inj H
     refine e_r2 (d := ?zd3) ?_ ?_
     rotate_left
     ·simp only [EVT, resR, single, evLoad, cut, TIS, CS, reduceAdd, reduceEqDiff, ↓reduceIte, reduceCtorEq, reduceLT, reduceLeDiff, reduceSub, Nat.reduceBEq, zc1, zg1, zc2, zc3]
      (repeat' apply And.intro) <;> first | rfl | assumption | omega | (simp; done)
     exact ZZ
    ·refine a_skip ?_
     refine bA_n ?_
     refine sA_n ?_
     refine a_seq ?_
     obtain ⟨r2, zh3, H⟩ := bind_some H
     have zk2 := scrub_turn_pc (how1 := (fun y0_ => scrub_Copy_1_f y0_ r1.1)) (how1_F := 66) (how1_caps := [.rop (Copy.c r1.1) 0 4]) (fun _ _ h => scrub_Copy_1_pc h) (.cons (.rop _ _ _ (Copy.pu _)) .nil) zh3
     refine a_reg _ rfl (s := ?zs8) ?_ ?_
     rotate_left
     ·try refine goS ?_
      repeat' with_reducible apply And.intro
      all_goals try ((with_reducible show CallR _ _ _ _ _ _ _); refine cR_f [12] zk2 (.cons (.lst _ _ _ Disk.pu rfl) (.cons (.int' rfl) (.cons (.fn' .nil (.cons (.box ((wrs_frz _ _ _ 12).trans (by rfl)) (fun _ => rfl) rfl rfl (.cons (.int' rfl) (.cons (.int' rfl) (.cons (.lst _ _ _ (ci_pu .u8) rfl) (.cons (.lst _ _ _ (ci_pu .i64) rfl) .nil))))) .nil)) .nil))) ?_; refine goS ?_)
      all_goals ((repeat' apply And.intro) <;> first|rfl|assumption|omega|(simp;done)|(simp;omega)|(simp_all;done))
     refine sA_n ?_
     refine a_ret ?_
     obtain rfl := Option.some.inj H
     refine e_r2 (d := ?zd4) ?_ ?_
     rotate_left
     ·simp only [EVT, resR, single, evLoad, cut, TIS, CS, reduceAdd, reduceEqDiff, ↓reduceIte, reduceCtorEq, reduceLT, reduceLeDiff, reduceSub, Nat.reduceBEq, zc1, zg1, zc2, zc3]
      (repeat' apply And.intro) <;> first | rfl | assumption | omega | (simp; done)
     exact ZZ
def mend_Do_J1 (disks2 : List Disk) (done1 : List Job) : Option ((List Disk) × (List Job)) :=
 some (disks2, done1)
def mend_Do_J2 (k_mend_Do_L1 : (List Disk) → (List Job) → Int → Option ((List Disk) × (List Job))) (v1 : Int) (disks4 : List Disk) (done3 : List Job) : Option ((List Disk) × (List Job)) :=
 k_mend_Do_L1 disks4 done3 (IntKind.wrap .i64 (v1 + 1))
def mend_Do_L1 (l1 : List Job) : Nat → (List Disk) → (List Job) → Int → Option ((List Disk) × (List Job))
 | 0, _, _, _ => none
 | m_ + 1, disks3, done2, v1 => cond (decide (v1 < (l1.length : Int))) ((idx l1 v1).bind fun x1 => (scrub_Copy_f disks3 x1).bind fun r1 => cond (r1.2 == 0) (chk ((done2.length + 1) * 48 ≤ 140737488355328) (mend_Do_J2 (mend_Do_L1 l1 m_) v1 r1.1 (done2 ++ [x1]))) (mend_Do_J2 (mend_Do_L1 l1 m_) v1 disks3 done2)) (mend_Do_J1 disks3 done2)
def mend_Do_f (disks1 : List Disk) (l1 : List Job) : Option ((List Disk) × (List Job)) :=
 mend_Do_L1 l1 BIG disks1 [] 0
theorem mend_Do_pc {disks1 : List Disk} {l1 : List Job} {r : (List Disk) × (List Job)} (H : mend_Do_f disks1 l1 = some r) : PC Tryz.prog 78 [.list 3 (disks1.map Disk.c), .list 6 (l1.map Job.c)] (.tup [.list 3 (r.1.map Disk.c), .list 6 (r.2.map Job.c)]) := by
 refine pcA_of Tryz.func78 (by rfl) (by decide) 33 (by rfl) [.tmp 4, .tmp 5] (by rfl) ?_
 unfold mend_Do_f at H
 simp only [ent]
 refine a_srC _ rfl ?_
 refine a_srC _ rfl ?_
 refine a_cut (fun s => ∃ (disks2 : List Disk) (done1 : List Job) (t0 : Nat → Dat), mend_Do_J1 disks2 done1 = some r ∧ s = ⟨tl t0 [(0, .list 3 (disks2.map Disk.c)), (6, .ref 0 0 done1.length 6)], hl [⟨71, 6, false, done1.map Job.c⟩], 1, 33⟩) ?_ ?_
 ·refine a_srC _ rfl ?_
  refine a_blk ?_
  refine a_loop (fun m s => ∃ (disks3 : List Disk) (done2 : List Job) (v1 : Int) (t0 : Nat → Dat), mend_Do_L1 l1 m disks3 done2 v1 = some r ∧ s = ⟨tl t0 [(0, .list 3 (disks3.map Disk.c)), (6, .ref 0 0 done2.length 6), (11, .list 6 (l1.map Job.c)), (12, .int .i64 (l1.length : Int)), (13, .int .i64 v1)], hl [⟨71, 6, false, done2.map Job.c⟩], 1, 33⟩) BIG ?_ ?_
  ·exact wk_lA [(none, _)] [] (fun t0 => ⟨disks1, [], 0, t0, H, rfl⟩)
  ·rintro m_mend_Do_L1 s ⟨disks3, done2, v1, t0, H, rfl⟩
   obtain _ | m_mend_Do_L1 := m_mend_Do_L1
   ·cases (show (none : Option _) = some _ from H)
   ·rw [mend_Do_L1] at H
    refine a_srC _ rfl ?_
    refine a_seq ?_
    refine a_cnd H (fun zc1 H => ?_) (fun zc1 H => ?_)
    ·refine a_skip ?_
     refine sA_n ?_
     refine a_cut (fun s => ∃ (disks4 : List Disk) (done3 : List Job) (t0 : Nat → Dat), mend_Do_J2 (mend_Do_L1 l1 m_mend_Do_L1) v1 disks4 done3 = some r ∧ s = ⟨tl t0 [(0, .list 3 (disks4.map Disk.c)), (6, .ref 0 0 done3.length 6), (11, .list 6 (l1.map Job.c)), (12, .int .i64 (l1.length : Int)), (13, .int .i64 v1)], hl [⟨71, 6, false, done3.map Job.c⟩], 1, 33⟩) ?_ ?_
     ·refine a_blk ?_
      refine a_seq ?_
      obtain ⟨x1, zh1, H⟩ := bind_some H
      obtain ⟨zg1, zh1a, zh1b⟩ := idx3 (f := Job.c) zh1
      try simp only [Int.reduceToNat, Int.toNat_natCast] at zg1
      refine a_regC _ rfl ?_
      refine sA_n ?_
      refine a_seq ?_
      obtain ⟨r1, zh2, H⟩ := bind_some H
      have zk1 := scrub_Copy_pc zh2
      refine a_regK _ rfl ?_
      refine sA_n ?_
      refine a_srC _ rfl ?_
      refine a_cnd H (fun zc2 H => ?_) (fun zc2 H => ?_)
      ·obtain ⟨zh3, H⟩ := chk_some H
       refine a_regC _ rfl ?_
       refine bA_n ?_
       refine cA_n ?_
       exact wk_lA [(some 125, _)] [] (fun t0 => ⟨r1.1, (done2 ++ [x1]), t0, H, rfl⟩)
      ·refine a_skip ?_
       refine bA_n ?_
       refine cA_n ?_
       exact wk_lA [(some 0, _)] [] (fun t0 => ⟨disks3, done2, t0, H, rfl⟩)
     ·rintro s ⟨disks4, done3, t0, H, rfl⟩
      unfold mend_Do_J2 at H
      refine a_regC _ rfl ?_
      refine lA_n ?_
      exact wk_lA [(some 0, _)] [] (fun t0 => ⟨_, Nat.lt_succ_self _, disks4, done3, (IntKind.wrap .i64 (v1 + 1)), t0, H, rfl⟩)
    ·refine a_exit ?_
     refine sA_e ?_
     refine lA_e ?_
     refine bA_hit ?_
     refine cA_n ?_
     exact wk_lA [(some 0, _)] [] (fun t0 => ⟨disks3, done2, t0, H, rfl⟩)
 ·rintro s ⟨disks2, done1, t0, H, rfl⟩
  unfold mend_Do_J1 at H
  refine a_srC _ rfl ?_
  exact a_ret RT
def mend_Round_f (disks1 : List Disk) (chains1 : List Chain) (l1 : List Job) (budget1 : Int) : Option ((List Disk) × (List Job) × (List Job)) :=
 (scrub_Plan_f disks1 chains1).bind fun r1 => (mend_Order_f r1.1).bind fun r2 => (mend_Renew_f l1 r2).bind fun r3 => (mend_Step_f r3 budget1).bind fun r4 => (mend_Do_f disks1 r4.2).bind fun r5 => some (r5.1, r4.1, r5.2)
theorem mend_Round_pc {disks1 : List Disk} {chains1 : List Chain} {l1 : List Job} {budget1 : Int} {r : (List Disk) × (List Job) × (List Job)} (H : mend_Round_f disks1 chains1 l1 budget1 = some r) : PC Tryz.prog 29 [.list 3 (disks1.map Disk.c), .list 3 (chains1.map Chain.c), .list 6 (l1.map Job.c), .int .i64 budget1] (.tup [.list 3 (r.1.map Disk.c), .list 6 (r.2.1.map Job.c), .list 6 (r.2.2.map Job.c)]) := by
 refine pcA_of Tryz.func29 (by rfl) (by decide) 40 (by rfl) [.tmp 8, .tmp 9, .tmp 10] (by rfl) ?_
 unfold mend_Round_f at H
 simp only [ent]
 refine a_srC _ rfl ?_
 refine a_seq ?_
 obtain ⟨r1, zh1, H⟩ := bind_some H
 have zk1 := scrub_Plan_pc zh1
 refine a_regK _ rfl ?_
 refine sA_n ?_
 refine a_seq ?_
 obtain ⟨r2, zh2, H⟩ := bind_some H
 have zk2 := mend_Order_pc zh2
 obtain ⟨r3, zh3, H⟩ := bind_some H
 have zk3 := mend_Renew_pc zh3
 obtain ⟨r4, zh4, H⟩ := bind_some H
 have zk4 := mend_Step_pc zh4
 refine a_regK _ rfl ?_
 refine sA_n ?_
 refine a_seq ?_
 obtain ⟨r5, zh5, H⟩ := bind_some H
 have zk5 := mend_Do_pc zh5
 refine a_regK _ rfl ?_
 refine sA_n ?_
 refine a_srC _ rfl ?_
 exact a_ret RT
end
end Go.Proofs.YtjflkcfafijhfaaGreat
/- Functions of the program as Lean functions, and that they are so; printed by a program of mine. -/
set_option linter.unusedSimpArgs false
set_option linter.unusedVariables false
set_option maxHeartbeats 4000000
set_option maxRecDepth 20000
namespace Go.Proofs.YtjflkcfafijhfaaGreat
open Go.Ab
open Nat (reduceAdd reduceMul reduceEqDiff reduceLT reduceLeDiff reduceSub)
noncomputable section
def chain_Write_J1 (own1 : List Disk) : Option ((List Disk) × Bool) :=
 some (own1, true)
def chain_Write_J2 (k_chain_Write_L1 : (List Disk) → Int → Option ((List Disk) × Bool)) (own2 : List Disk) (x1 : Int) (c1 : Chain) (data1 : List Int) (v1 : Int) (v2 : Bool) : Option ((List Disk) × Bool) :=
 cond v2 (some (own2, false)) ((chain_laying_1_f x1 own2 c1 data1).bind fun r2 => chk (r2.length = own2.length) (k_chain_Write_L1 r2 (IntKind.wrap .i64 (v1 + 1))))
def chain_Write_L1 (c1 : Chain) (upto1 : Int) (data1 : List Int) : Nat → (List Disk) → Int → Option ((List Disk) × Bool)
 | 0, _, _ => none
 | m_ + 1, own2, v1 => cond (decide (v1 < (c1.servers.length : Int))) ((idx c1.servers v1).bind fun x1 => cond (decide (upto1 ≤ v1)) (chain_Write_J2 (chain_Write_L1 c1 upto1 data1 m_) own2 x1 c1 data1 v1 true) ((idx own2 x1).bind fun x2 => chain_Write_J2 (chain_Write_L1 c1 upto1 data1 m_) own2 x1 c1 data1 v1 x2.down)) (chain_Write_J1 own2)
def chain_Write_f (c1 : Chain) (disks1 : List Disk) (data1 : List Int) (upto1 : Int) : Option ((List Disk) × Bool) :=
 cond (decide (64 < (data1.length : Int))) (some (disks1, false)) ((chain_laying_f c1 disks1 data1).bind fun r1 => chain_Write_L1 c1 upto1 data1 BIG r1 0)
theorem chain_Write_pc {c1 : Chain} {disks1 : List Disk} {data1 : List Int} {upto1 : Int} {r : (List Disk) × Bool} (H : chain_Write_f c1 disks1 data1 upto1 = some r) : PC Tryz.prog 7 [.agg (Chain.c c1), .list 3 (disks1.map Disk.c), .list 1 (data1.map (ci .u8)), .int .i64 upto1] (.tup [.list 3 (r.1.map Disk.c), .bool r.2]) := by
 refine pcA_of Tryz.func7 (by rfl) (by decide) 49 (by rfl) [.tmp 8, .tmp 9] (by rfl) ?_
 unfold chain_Write_f at H
 simp only [ent]
 refine a_srC _ rfl ?_
 refine a_seq ?_
 refine a_srC _ rfl ?_
 refine a_cnd H (fun zc1 H => ?_) (fun zc1 H => ?_)
 ·refine a_srC _ rfl ?_
  exact a_ret (sA_r RT)
 ·refine a_skip ?_
  refine sA_n ?_
  refine a_seq ?_
  obtain ⟨r1, zh1, H⟩ := bind_some H
  have zk1 := chain_laying_rc zh1
  refine a_reg _ rfl (s := ?zs4) ?_ ?_
  rotate_left
  ·try refine goS ?_
   repeat' with_reducible apply And.intro
   all_goals try ((with_reducible show CallR _ _ _ _ _ _ _); refine callR_rcw (r' := .tup [.ref 51 0 r1.length 3, .fn (.func 84) [] [.rop [.ref 51 0 r1.length 3] 0 1, .rop [.int .i64 c1.id, .int .i64 c1.ver, .list 1 (c1.servers.map (ci .i64))] 0 3, .rop [.list 1 (data1.map (ci .u8))] 0 1]]) [(51, some ⟨44, 3, false, r1.map Disk.c⟩)] [] [] [(51, 0, _)] EQA zk1 (by simp) ND ZZ ZZ ND ND ZZ ZZ ?_; refine goS ?_)
   all_goals ((repeat' apply And.intro) <;> first|rfl|assumption|omega|(simp;done)|(simp;omega)|(simp_all;done))
  refine sA_n ?_
  refine a_cut (fun s => ∃ (own1 : List Disk) (t0 : Nat → Dat), chain_Write_J1 own1 = some r ∧ s = ⟨tl t0 [(10, .ref 0 0 own1.length 3)], hl [⟨44, 3, false, own1.map Disk.c⟩], 1, 49⟩) ?_ ?_
  ·refine a_srC _ rfl ?_
   refine a_blk ?_
   refine a_loop (fun m s => ∃ (own2 : List Disk) (v1 : Int) (t0 : Nat → Dat), chain_Write_L1 c1 upto1 data1 m own2 v1 = some r ∧ s = ⟨tl t0 [(3, .int .i64 upto1), (10, .ref 0 0 own2.length 3), (11, .fn (.func 84) [] [.rop [.ref 0 0 own2.length 3] 0 1, .rop [.int .i64 c1.id, .int .i64 c1.ver, .list 1 (c1.servers.map (ci .i64))] 0 3, .rop [.list 1 (data1.map (ci .u8))] 0 1]), (26, .list 1 (c1.servers.map (ci .i64))), (27, .int .i64 (c1.servers.length : Int)), (28, .int .i64 v1)], hl [⟨44, 3, false, own2.map Disk.c⟩], 1, 49⟩) BIG ?_ ?_
   ·refine wk_l [(some 51, ⟨44, 3, false, r1.map Disk.c⟩)] [] [(3, .int .i64 upto1), (10, .ref 0 0 r1.length 3), (11, .fn (.func 84) [] [.rop [.ref 0 0 r1.length 3] 0 1, .rop [.int .i64 c1.id, .int .i64 c1.ver, .list 1 (c1.servers.map (ci .i64))] 0 3, .rop [.list 1 (data1.map (ci .u8))] 0 1]), (26, .list 1 (c1.servers.map (ci .i64))), (27, .int .i64 (c1.servers.length : Int)), (28, .int .i64 0)] ND ND ?_ ?_ (fun t0 => ⟨r1, 0, t0, H, rfl⟩)
    ·exact (allB_some (by rfl) rfl (.sm _ _ Disk.pu) trivial)
    ·(simp only [AllT, ATT, reduceEqDiff, ↓reduceIte, and_true]); exact ⟨(.int' rfl), (.refl' (by first|rfl|omega|(simp;done)|(simp;omega)|(simp_all;done)) rfl), (.fn' .nil (.cons (.rop' (.cons (.refl' (by first|rfl|omega|(simp;done)|(simp;omega)|(simp_all;done)) rfl) .nil)) (.cons (.rop' (.cons (.int' rfl) (.cons (.int' rfl) (.cons (.lst _ _ _ (ci_pu .i64) rfl) .nil)))) (.cons (.rop' (.cons (.lst _ _ _ (ci_pu .u8) rfl) .nil)) .nil)))), (.lst _ _ _ (ci_pu .i64) rfl), (.int' rfl), (.int' rfl)⟩
   ·rintro m_chain_Write_L1 s ⟨own2, v1, t0, H, rfl⟩
    obtain _ | m_chain_Write_L1 := m_chain_Write_L1
    ·cases (show (none : Option _) = some _ from H)
    ·rw [chain_Write_L1] at H
     refine a_srC _ rfl ?_
     refine a_seq ?_
     refine a_cnd H (fun zc2 H => ?_) (fun zc2 H => ?_)
     ·refine a_skip ?_
      refine sA_n ?_
      refine a_seq ?_
      refine a_blk ?_
      refine a_seq ?_
      obtain ⟨x1, zh2, H⟩ := bind_some H
      obtain ⟨zg1, zh2a, zh2b⟩ := idx3 (f := (ci .i64)) zh2
      try simp only [Int.reduceToNat, Int.toNat_natCast] at zg1
      refine a_regC _ rfl ?_
      refine sA_n ?_
      refine a_seq ?_
      refine a_cut (fun s => ∃ (v2 : Bool) (t0 : Nat → Dat), chain_Write_J2 (chain_Write_L1 c1 upto1 data1 m_chain_Write_L1) own2 x1 c1 data1 v1 v2 = some r ∧ s = ⟨tl t0 [(3, .int .i64 upto1), (10, .ref 0 0 own2.length 3), (11, .fn (.func 84) [] [.rop [.ref 0 0 own2.length 3] 0 1, .rop [.int .i64 c1.id, .int .i64 c1.ver, .list 1 (c1.servers.map (ci .i64))] 0 3, .rop [.list 1 (data1.map (ci .u8))] 0 1]), (13, .int .i64 x1), (26, .list 1 (c1.servers.map (ci .i64))), (27, .int .i64 (c1.servers.length : Int)), (28, .int .i64 v1), (42, .bool v2)], hl [⟨44, 3, false, own2.map Disk.c⟩], 1, 49⟩) ?_ ?_
      ·refine cnd H (fun zc4 H => ?_) (fun zc4 H => ?_)
       ·refine a_regC _ rfl ?_
        refine cA_n ?_
        refine wk_l [(some 0, ⟨44, 3, false, own2.map Disk.c⟩)] [] [(3, .int .i64 upto1), (10, .ref 0 0 own2.length 3), (11, .fn (.func 84) [] [.rop [.ref 0 0 own2.length 3] 0 1, .rop [.int .i64 c1.id, .int .i64 c1.ver, .list 1 (c1.servers.map (ci .i64))] 0 3, .rop [.list 1 (data1.map (ci .u8))] 0 1]), (13, .int .i64 x1), (26, .list 1 (c1.servers.map (ci .i64))), (27, .int .i64 (c1.servers.length : Int)), (28, .int .i64 v1), (42, .bool true)] ND ND ?_ ?_ (fun t0 => ⟨true, t0, H, rfl⟩)
        ·exact (allB_some (by rfl) rfl (.sm _ _ Disk.pu) trivial)
        ·(simp only [AllT, ATT, reduceEqDiff, ↓reduceIte, and_true]); exact ⟨(.int' rfl), (.refl' (by first|rfl|omega|(simp;done)|(simp;omega)|(simp_all;done)) rfl), (.fn' .nil (.cons (.rop' (.cons (.refl' (by first|rfl|omega|(simp;done)|(simp;omega)|(simp_all;done)) rfl) .nil)) (.cons (.rop' (.cons (.int' rfl) (.cons (.int' rfl) (.cons (.lst _ _ _ (ci_pu .i64) rfl) .nil)))) (.cons (.rop' (.cons (.lst _ _ _ (ci_pu .u8) rfl) .nil)) .nil)))), (.int' rfl), (.lst _ _ _ (ci_pu .i64) rfl), (.int' rfl), (.int' rfl), (.bool' (by first | rfl | assumption | (simp_all; done)))⟩
       ·obtain ⟨x2, zh5, H⟩ := bind_some H
        obtain ⟨zg2, zh5a, zh5b⟩ := idx3 (f := Disk.c) zh5
        try simp only [Int.reduceToNat, Int.toNat_natCast] at zg2
        refine a_regC _ rfl ?_
        refine cA_n ?_
        refine wk_l [(some 0, ⟨44, 3, false, own2.map Disk.c⟩)] [] [(3, .int .i64 upto1), (10, .ref 0 0 own2.length 3), (11, .fn (.func 84) [] [.rop [.ref 0 0 own2.length 3] 0 1, .rop [.int .i64 c1.id, .int .i64 c1.ver, .list 1 (c1.servers.map (ci .i64))] 0 3, .rop [.list 1 (data1.map (ci .u8))] 0 1]), (13, .int .i64 x1), (26, .list 1 (c1.servers.map (ci .i64))), (27, .int .i64 (c1.servers.length : Int)), (28, .int .i64 v1), (42, .bool x2.down)] ND ND ?_ ?_ (fun t0 => ⟨x2.down, t0, H, rfl⟩)
        ·exact (allB_some (by rfl) rfl (.sm _ _ Disk.pu) trivial)
        ·(simp only [AllT, ATT, reduceEqDiff, ↓reduceIte, and_true]); exact ⟨(.int' rfl), (.refl' (by first|rfl|omega|(simp;done)|(simp;omega)|(simp_all;done)) rfl), (.fn' .nil (.cons (.rop' (.cons (.refl' (by first|rfl|omega|(simp;done)|(simp;omega)|(simp_all;done)) rfl) .nil)) (.cons (.rop' (.cons (.int' rfl) (.cons (.int' rfl) (.cons (.lst _ _ _ (ci_pu .i64) rfl) .nil)))) (.cons (.rop' (.cons (.lst _ _ _ (ci_pu .u8) rfl) .nil)) .nil)))), (.int' rfl), (.lst _ _ _ (ci_pu .i64) rfl), (.int' rfl), (.int' rfl), (.bool' (by first | rfl | assumption | (simp_all; done)))⟩
      ·rintro s ⟨v2, t0, H, rfl⟩
       unfold chain_Write_J2 at H
       refine a_cnd H (fun zc3 H => ?_) (fun zc3 H => ?_)
       ·refine a_srC _ rfl ?_
        refine a_ret ?_
        refine sA_r ?_
        refine bA_r ?_
        refine sA_r ?_
        refine lA_r ?_
        refine bA_r ?_
        refine cA_r ?_
        obtain rfl := Option.some.inj H
        refine e_r2 (d := ?zd3) ?_ ?_
        rotate_left
        ·simp only [EVT, resR, single, evLoad, cut, TIS, CS, reduceAdd, reduceEqDiff, ↓reduceIte, reduceCtorEq, reduceLT, reduceLeDiff, reduceSub, Nat.reduceBEq, zc3]
         (repeat' apply And.intro) <;> first | rfl | assumption | omega | (simp; done)
        exact ZZ
       ·refine a_skip ?_
        refine sA_n ?_
        obtain ⟨r2, zh3, H⟩ := bind_some H
        have zk2 := chain_laying_1_rc zh3
        obtain ⟨zh4, H⟩ := chk_some H
        refine a_reg _ rfl (s := ?zs10) ?_ ?_
        rotate_left
        ·try refine goS ?_
         repeat' with_reducible apply And.intro
         all_goals try ((with_reducible show CallR _ _ _ _ _ _ _); refine callR_rcw (r' := .tup []) [(0, none), (0, some ⟨44, 3, false, r2.map Disk.c⟩)] [(some 0, _)] [] [(0, 0, ⟨44, 3, false, r2.map Disk.c⟩)] EQA zk2 (by simp) ND ZZ ZZ ND ND ZZ ZZ ?_; refine goS ?_)
         all_goals ((repeat' apply And.intro) <;> first|rfl|assumption|omega|(simp;done)|(simp;omega)|(simp_all;done))
        refine bA_n ?_
        refine sA_n ?_
        refine a_regC _ rfl ?_
        refine lA_n ?_
        refine wk_l [(some 0, ⟨44, 3, false, r2.map Disk.c⟩)] [] [(3, .int .i64 upto1), (10, .ref 0 0 r2.length 3), (11, .fn (.func 84) [] [.rop [.ref 0 0 r2.length 3] 0 1, .rop [.int .i64 c1.id, .int .i64 c1.ver, .list 1 (c1.servers.map (ci .i64))] 0 3, .rop [.list 1 (data1.map (ci .u8))] 0 1]), (26, .list 1 (c1.servers.map (ci .i64))), (27, .int .i64 (c1.servers.length : Int)), (28, .int .i64 (IntKind.wrap .i64 (v1 + 1)))] ND ND ?_ ?_ (fun t0 => ⟨_, Nat.lt_succ_self _, r2, (IntKind.wrap .i64 (v1 + 1)), t0, H, rfl⟩)
        ·exact (allB_some (by rfl) rfl (.sm _ _ Disk.pu) trivial)
        ·(simp only [AllT, ATT, reduceEqDiff, ↓reduceIte, and_true]); exact ⟨(.int' rfl), (.refl' (by first|rfl|omega|(simp;done)|(simp;omega)|(simp_all;done)) rfl), (.fn' .nil (.cons (.rop' (.cons (.refl' (by first|rfl|omega|(simp;done)|(simp;omega)|(simp_all;done)) rfl) .nil)) (.cons (.rop' (.cons (.int' rfl) (.cons (.int' rfl) (.cons (.lst _ _ _ (ci_pu .i64) rfl) .nil)))) (.cons (.rop' (.cons (.lst _ _ _ (ci_pu .u8) rfl) .nil)) .nil)))), (.lst _ _ _ (ci_pu .i64) rfl), (.int' rfl), (.int' rfl)⟩
     ·refine a_exit ?_
      refine sA_e ?_
      refine lA_e ?_
      refine bA_hit ?_
      refine cA_n ?_
      exact wk_lA [(some 0, _)] [] (fun t0 => ⟨own2, t0, H, rfl⟩)
  ·rintro s ⟨own1, t0, H, rfl⟩
   unfold chain_Write_J1 at H
   refine a_srC _ rfl ?_
   refine a_ret ?_
   obtain rfl := Option.some.inj H
   refine e_r2 (d := ?zd2) ?_ ?_
   rotate_left
   ·simp only [EVT, resR, single, evLoad, cut, TIS, CS, reduceAdd, reduceEqDiff, ↓reduceIte, reduceCtorEq, reduceLT, reduceLeDiff, reduceSub, Nat.reduceBEq]
    (repeat' apply And.intro) <;> first | rfl | assumption | omega | (simp; done)
   exact ZZ
def chain_whole_f (c1 : Chain) (disks1 : List Disk) : Option Unit :=
 some ()
theorem chain_whole_pc {c1 : Chain} {disks1 : List Disk} {r : Unit} (H : chain_whole_f c1 disks1 = some r) : PC Tryz.prog 61 [.agg (Chain.c c1), .list 3 (disks1.map Disk.c)] (.fn (.func 113) [] [.rop (Chain.c c1) 0 3, .rop ((cl 3 Disk.c) disks1) 0 1]) := by
 refine pcA_of Tryz.func61 (by rfl) (by decide) 6 (by rfl) [.tmp 4] (by rfl) ?_
 unfold chain_whole_f at H
 simp only [ent]
 refine a_srC _ rfl ?_
 refine a_srC _ rfl ?_
 exact a_ret RT
def chunk_Has_J1 (out1 : List Int) : Option (List Int) :=
 some (out1)
def chunk_Has_J2 (k_chunk_Has_L1 : (List Int) → Int → Option (List Int)) (v1 : Int) (out3 : List Int) : Option (List Int) :=
 k_chunk_Has_L1 out3 (IntKind.wrap .i64 (v1 + 1))
def chunk_Has_L1 (d1 : Disk) : Nat → (List Int) → Int → Option (List Int)
 | 0, _, _ => none
 | m_ + 1, out2, v1 => cond (decide (v1 < 200)) ((chunk_there_f d1 v1).bind fun r1 => cond (r1.2 == 0) (chk ((out2.length + 1) * 8 ≤ 140737488355328) (chunk_Has_J2 (chunk_Has_L1 d1 m_) v1 (out2 ++ [v1]))) (chunk_Has_J2 (chunk_Has_L1 d1 m_) v1 out2)) (chunk_Has_J1 out2)
def chunk_Has_f (d1 : Disk) : Option (List Int) :=
 chunk_Has_L1 d1 BIG [] 0
theorem chunk_Has_pc {d1 : Disk} {r : (List Int)} (H : chunk_Has_f d1 = some r) : PC Tryz.prog 13 [.agg (Disk.c d1)] (.list 1 (r.map (ci .i64))) := by
 refine pcA_of Tryz.func13 (by rfl) (by decide) 24 (by rfl) [.tmp 2] (by rfl) ?_
 unfold chunk_Has_f at H
 simp only [ent]
 refine a_srC _ rfl ?_
 refine a_srC _ rfl ?_
 refine a_cut (fun s => ∃ (out1 : List Int) (t0 : Nat → Dat), chunk_Has_J1 out1 = some r ∧ s = ⟨tl t0 [(3, .ref 0 0 out1.length 1)], hl [⟨3, 1, false, out1.map (ci .i64)⟩], 1, 24⟩) ?_ ?_
 ·refine a_srC _ rfl ?_
  refine a_blk ?_
  refine a_loop (fun m s => ∃ (out2 : List Int) (v1 : Int) (t0 : Nat → Dat), chunk_Has_L1 d1 m out2 v1 = some r ∧ s = ⟨tl t0 [(1, .ptr 0 0 0 3), (3, .ref 1 0 out2.length 1), (7, .int .i64 v1)], hl [⟨44, 3, false, [Disk.c d1]⟩, ⟨3, 1, false, out2.map (ci .i64)⟩], 2, 24⟩) BIG ?_ ?_
  ·exact wk_lA [(some 0, _), (none, _)] [] (fun t0 => ⟨[], 0, t0, H, rfl⟩)
  ·rintro m_chunk_Has_L1 s ⟨out2, v1, t0, H, rfl⟩
   obtain _ | m_chunk_Has_L1 := m_chunk_Has_L1
   ·cases (show (none : Option _) = some _ from H)
   ·rw [chunk_Has_L1.eq_def] at H; dsimp only at H
    refine a_srC _ rfl ?_
    refine a_seq ?_
    refine a_cnd H (fun zc1 H => ?_) (fun zc1 H => ?_)
    ·refine a_skip ?_
     refine sA_n ?_
     refine a_cut (fun s => ∃ (out3 : List Int) (t0 : Nat → Dat), chunk_Has_J2 (chunk_Has_L1 d1 m_chunk_Has_L1) v1 out3 = some r ∧ s = ⟨tl t0 [(1, .ptr 0 0 0 3), (3, .ref 1 0 out3.length 1), (7, .int .i64 v1)], hl [⟨44, 3, false, [Disk.c d1]⟩, ⟨3, 1, false, out3.map (ci .i64)⟩], 2, 24⟩) ?_ ?_
     ·refine a_blk ?_
      refine a_srC _ rfl ?_
      refine a_seq ?_
      obtain ⟨r1, zh1, H⟩ := bind_some H
      have zk1 := chunk_there_pc zh1
      refine a_regK _ rfl ?_
      refine sA_n ?_
      refine a_srC _ rfl ?_
      refine a_cnd H (fun zc2 H => ?_) (fun zc2 H => ?_)
      ·obtain ⟨zh2, H⟩ := chk_some H
       refine a_regC _ rfl ?_
       refine bA_n ?_
       refine cA_n ?_
       exact wk_lA [(some 0, _), (some 109, _)] [] (fun t0 => ⟨(out2 ++ [v1]), t0, H, rfl⟩)
      ·refine a_skip ?_
       refine bA_n ?_
       refine cA_n ?_
       exact wk_lA [(some 0, _), (some 1, _)] [] (fun t0 => ⟨out2, t0, H, rfl⟩)
     ·rintro s ⟨out3, t0, H, rfl⟩
      unfold chunk_Has_J2 at H
      refine a_regC _ rfl ?_
      refine lA_n ?_
      exact wk_lA [(some 0, _), (some 1, _)] [] (fun t0 => ⟨_, Nat.lt_succ_self _, out3, (IntKind.wrap .i64 (v1 + 1)), t0, H, rfl⟩)
    ·refine a_exit ?_
     refine sA_e ?_
     refine lA_e ?_
     refine bA_hit ?_
     refine cA_n ?_
     exact wk_lA [(some 1, _)] [] (fun t0 => ⟨out2, t0, H, rfl⟩)
 ·rintro s ⟨out1, t0, H, rfl⟩
  unfold chunk_Has_J1 at H
  refine a_srC _ rfl ?_
  exact a_ret RT
end
end Go.Proofs.YtjflkcfafijhfaaGreat
/- sweep.Gone, by hand. -/
set_option linter.unusedSimpArgs false
set_option linter.unusedVariables false
namespace Go.Proofs.YtjflkcfafijhfaaGreat
open Go.Ab Go.RowKit Go.Maps
def MapB (Dm : DataW Value) (l : List Int) : Prop := IsMap Dm ∧ ∀ x, (Maps.has Dm (.int .i64 x) = l.contains x) ∧ Dm.atKey (.int .i64 x) (.held (.bool false)) = .held (.bool (l.contains x))
theorem MapB.nil : MapB (.map []) [] := ⟨⟨_, rfl⟩, fun x => ⟨rfl, rfl⟩⟩
theorem MapB.step {Dm : DataW Value} {l : List Int} (h : MapB Dm l) (y : Int) : MapB (Dm.put (.int .i64 y) (.held (.bool true))) (l ++ [y]) := by
 refine ⟨?_, fun x => ?_⟩
 ·obtain ⟨es, rfl⟩ := h.1
  exact ⟨_, rfl⟩
 ·by_cases e : x = y
  ·subst e
   have hc : (l ++ [x]).contains x = true := by simp
   rw [hc]
   exact ⟨has_put_same h.1 (by trivial) _, atKey_put_same h.1 (by trivial) _ _⟩
  ·have hne : (Lit.int .i64 x) ≠ Lit.int .i64 y := fun h => by injection h with _ h; exact e h
   have hc : (l ++ [y]).contains x = l.contains x := by
    simp [e]
   rw [hc, has_put_other hne, atKey_put_other hne]
   exact h.2 x
theorem zero4 (w : World) : (zeroValue 4).run Tryz.prog w = .ok (.bool false) w := by kernel_rfl
set_option maxRecDepth 100000 in
set_option maxHeartbeats 2000000 in
theorem kept_in {named : List Named} (hwf : ∀ p ∈ named, (Lit.int .i64 p.id).wf = true) (w : World) (D : Nat → Prop) (hD : ∀ b, D b → b < w.heap.size) (va : Value)
  (ha : RV NP D w va (.list 4 (named.map Named.c))) (A : Option Addr) (c : Nat) (fv : Value) :
  Calls Tryz.prog 79 #[va, .slice A 0 c, fv] w fun e w' => ∃ Dm, e = .returned (.map (some w.heap.size)) ∧ w'.ownsMap Tryz.prog 3 RH w.heap.size named.length Dm ∧ MapB Dm (named.map (·.id)) ∧ Below w.heap.size w w' := by
 obtain ⟨An, cn, rfl, hle, hmx, hel⟩ := id ha.list_inv
 rw [List.length_map] at hle ⊢
 have hcap : named.length ≤ 9223372036854775807 := by have : maxLen = 9223372036854775807 := rfl; omega
 obtain ⟨s, hs⟩ : ∃ s, w.heap.size = s := ⟨_, rfl⟩
 rw [hs]
 have hmm := @run_makeMap Tryz.prog
 go_enter Tryz.func79, Tryz.ntmps79
 go_wp2
 go_loopw [15] (fun i wr => ∃ (k : Nat) (Dm : DataW Value), k ≤ named.length ∧ i = .int .i64 k ∧ wr.ownsMap Tryz.prog 3 RH s k Dm ∧ MapB Dm ((named.map (·.id)).take k) ∧ Below s w wr)
  (fun i _ => named.length - (zOf i).toNat)
 case atStart =>
  have := World.ownsMap_made w Tryz.prog 3 RH
  rw [hs] at this
  exact ⟨0, _, Nat.zero_le _, rfl, this, MapB.nil, (Below.refl _ w).alloc (by omega) _⟩
 case round =>
  obtain ⟨k, Dm, hk, rfl, hown, hmp, hB⟩ := hrel
  by_cases hlt : k < named.length
  ·obtain ⟨p, hp⟩ : ∃ p, named[k]? = some p := ⟨_, List.getElem?_eq_getElem hlt⟩
   obtain ⟨b, o, cs, rfl, hDb, hbl, hr, hl2, h1, hcs⟩ := hel k (Named.c p) (by rw [List.getElem?_map, hp]; rfl)
   match cs, hl2 with
   | [u1, u2, u3, u4], _ =>
    obtain rfl := (hcs.2 0 u1 _ rfl rfl).int_inv
    obtain rfl := (hcs.2 1 u2 _ rfl rfl).int_inv
    obtain rfl := (hcs.2 2 u3 _ rfl rfl).int_inv
    obtain rfl := (hcs.2 3 u4 _ rfl rfl).int_inv
    have hbs : b < s := by omega
    have d0 : wr.cell? ⟨b, o + k * 4, none⟩ = some (.int .i64 p.ino) := (hB.cell (p := ⟨b, _, none⟩) hbs).trans (by simpa using hr 0 _ rfl)
    have d1 : wr.cell? ⟨b, o + k * 4 + 1, none⟩ = some (.int .i64 p.shot) := (hB.cell (p := ⟨b, _, none⟩) hbs).trans (hr 1 _ rfl)
    have d2 : wr.cell? ⟨b, o + k * 4 + 2, none⟩ = some (.int .i64 p.page) := (hB.cell (p := ⟨b, _, none⟩) hbs).trans (hr 2 _ rfl)
    have d3 : wr.cell? ⟨b, o + k * 4 + 3, none⟩ = some (.int .i64 p.id) := (hB.cell (p := ⟨b, _, none⟩) hbs).trans (hr 3 _ rfl)
    have hkey : keyOf Tryz.prog 3 (.int .i64 p.id) = some (.int .i64 p.id) := keyOf_int_mk Tryz.underlying3 (hwf p (List.mem_of_getElem? hp))
    have hmk : k < maxLen := by have : maxLen = 9223372036854775807 := rfl; omega
    go_wp2_with (first
     | (at_mapUpdate; refine wpList_mapUpdate_own _ rfl _ _ _ 142 rfl 3 4 law3 Tryz.underlying142 _ s k _ rfl (hown.alloc _) hmk _ _ _ rfl rfl hkey (.held (.bool true)) [] rfl ?_; intro w2 hown2 hgrow2)
     | go_in)
    go_roundw
    case rel =>
     refine ⟨k + 1, _, by omega, by simp, hown2, ?_, ((hB.alloc (by have := hB.size; omega) _).grown hgrow2 (by have := hB.size; simp; omega) (fun j hj => by cases hj; exact Nat.le_refl _))⟩
     rw [List.take_add_one, List.getElem?_map, hp]
     exact hmp.step p.id
    case measure => simp [zOf]; omega
  ·obtain rfl : k = named.length := by omega
   rw [show (named.map (·.id)).take named.length = named.map (·.id) from List.take_of_length_le (by simp)] at hmp
   go_wp2
   refine wp_loop_rounds 1 ?_
   rw [rounds_succ]
   go_wp2
   go_ret
   exact ⟨Dm, rfl, hown, hmp, hB⟩
theorem alloc_sz (w : World) (o : Obj) : (w.alloc o).heap.size = w.heap.size + 1 := by simp
theorem open_in (va : Value) (n : Int) (w : World) (A : Option Addr) (l c : Nat) (e : va = .slice A l c) : Calls Tryz.prog 80 #[va, .int .i64 n] w fun e w' => (∃ p q, e = .returned (.func (.func 128) #[] #[.pointer (some p), .pointer (some q)])) ∧ Below w.heap.size w w' ∧ w'.heap.size = w.heap.size + 2 := by
 subst e
 go_enter Tryz.func80, Tryz.ntmps80
 go_wp2
 go_ret
 exact ⟨⟨_, _, rfl⟩, ((Below.refl _ w).alloc (Nat.le_refl _) _).alloc (by simp) _, by simp⟩
theorem lastP_some : ∀ (l : List Page) (o : Option Page) (x : Int), (l.foldl (fun o p => if p.at_ = x then some p else o) o).isSome = (o.isSome || (l.map Page.at_).contains x)
 | [], o, x => by simp
 | p :: l, o, x => by
  rw [List.foldl_cons, lastP_some l]
  by_cases e : p.at_ = x
  ·subst e; simp
  ·have : ¬ x = p.at_ := fun h => e h.symm
   simp [e, this]
def sortI (l : List Int) : List Int := (laidP (l.map fun x => ⟨x, []⟩)).map Page.at_
theorem sortI_rise (l : List Int) : (sortI l).Pairwise (· < ·) := (laid_inv _).rise
theorem sortI_mem (l : List Int) (x : Int) : x ∈ sortI l ↔ l.contains x = true := by
 unfold sortI
 rw [(laid_inv _).keys]
 unfold lastP
 rw [lastP_some]
 simp
theorem sortI_len (l : List Int) : (sortI l).length ≤ l.length := by
 unfold sortI; rw [List.length_map]; have := laidP_len (l.map fun x => (⟨x, []⟩ : Page)); simpa using this
theorem keysB_perm {W : World} {s n : Nat} {Dm : DataW Value} {l : List Int} (h : W.ownsMap Tryz.prog 3 RH s n Dm) (hm : MapB Dm l) : (intKeys Dm).Perm (sortI l) :=
 (CollectedI.perm (left := fun _ => false) ⟨(sortI_rise l).imp (fun h => by omega), fun x => by rw [sortI_mem, (hm.2 x).1]; simp⟩ h law3 Tryz.underlying3 (fun _ => rfl)).symm
theorem row_ints {W : World} {DD : Nat → Prop} {n0 : Nat} {v : Value} {rs : List Int} (hrow : W.ownsRow n0 3 1 v rs.length (rs.map (Value.int .i64))) (hn : ∀ b, n0 ≤ b → DD b) : RV NP DD W v (.list 1 (rs.map (ci .i64))) := by
 have hcap : ∃ A c, v = .slice A rs.length c ∧ rs.length ≤ c ∧ c ≤ maxLen ∧ (rs = [] ∨ ∃ g, A = some ⟨g, 0, none⟩) := by
  obtain ⟨_, ⟨rfl, hz⟩ | ⟨g, cap, cur, rfl, hg, hgb, hk, hm, hcs, ht⟩⟩ := hrow
  ·have : rs = [] := List.eq_nil_of_length_eq_zero hz
   subst this
   exact ⟨none, 0, rfl, Nat.le_refl _, Nat.zero_le _, .inl rfl⟩
  ·exact ⟨_, cap, rfl, hk, hm, .inr ⟨g, rfl⟩⟩
 obtain ⟨A0, c0, e0, hk, hm, ho⟩ := hcap
 obtain ⟨A, c, rfl, hel⟩ := ownsRow_ints hrow
 injection e0 with e1 e2 e3
 subst e1; subst e3
 rcases ho with rfl | ⟨g, rfl⟩
 ·simpa using (RV.list0 (φ := NP) (D := DD) (w := W) A c 1 hm)
 ·cases hr : rs with
  | nil => simpa using (RV.list0 (φ := NP) (D := DD) (w := W) (some ⟨g, 0, none⟩) c 1 hm)
  | cons z zs =>
   obtain ⟨g', eg, hg1, hg2, -⟩ := hel 0 z (by rw [hr]; rfl)
   injection eg with eg; injection eg with eg; subst eg
   rw [← hr]
   have key := RV.list (φ := NP) (D := DD) (w := W) g 0 c 1 (rs.map (ci .i64)) (rs.map fun x => [Value.int .i64 x]) (by simp) (by simpa using hk) hm (hn g hg1) hg2 (fun i x hx j u hu => ?_) (fun x hx => ?_) (fun e he => ?_) (fun i x hx u hu => ?_) (fun i x e hx he j c d hcj hd => ?_)
   ·rw [List.length_map] at key; exact key
   ·rw [List.getElem?_map] at hx
    obtain ⟨y, hy, rfl⟩ := Option.map_eq_some_iff.1 hx
    match j, hu with
    | 0, hu =>
     simp at hu; subst hu
     obtain ⟨g', eg, _, _, hc⟩ := hel i y hy
     injection eg with eg; injection eg with eg; subst eg
     simpa using hc
    | _ + 1, hu => simp at hu
   ·obtain ⟨y, _, rfl⟩ := List.mem_map.1 hx; rfl
   ·obtain ⟨y, _, rfl⟩ := List.mem_map.1 he; simp [ci_eq]
   ·obtain ⟨y, _, rfl⟩ := List.mem_map.1 (List.mem_of_getElem? hx)
    simp at hu; subst hu; rfl
   ·rw [List.getElem?_map] at hx he
    obtain ⟨y, hy, rfl⟩ := Option.map_eq_some_iff.1 hx
    rw [hy] at he
    simp at he; subst he
    match j, hcj with
    | 0, hcj => simp [ci_eq] at hcj hd; subst hcj; subst hd; exact .int _ _
    | _ + 1, hcj => simp at hcj
def gone1 (stay hs : List Int) : List Int := hs.filter fun x => !stay.contains x
theorem gone1_in {stay l : List Int} {x : Int} (hc : stay.contains x = true) : gone1 stay (l ++ [x]) = gone1 stay l := by
 unfold gone1
 rw [List.filter_append, List.filter_cons, hc]
 simp
theorem gone1_out {stay l : List Int} {x : Int} (hc : stay.contains x = false) : gone1 stay (l ++ [x]) = gone1 stay l ++ [x] := by
 unfold gone1
 rw [List.filter_append, List.filter_cons, hc]
 simp
noncomputable def hasAll : List Disk → Option (List (List Int))
 | [] => some []
 | d :: l => (chunk_Has_f d).bind fun h => (hasAll l).bind fun t => some (h :: t)
theorem gone_pre {stay : List Int} {hss : List (List Int)} {k j : Nat} {hs : List Int} (hk : hss[k]? = some hs) : ((hss.take k).flatMap (gone1 stay) ++ gone1 stay (hs.take j)).length ≤ (hss.flatMap (gone1 stay)).length := by
 have e : hss = hss.take k ++ hs :: hss.drop (k + 1) := by
  obtain ⟨hlt, e⟩ := List.getElem?_eq_some_iff.1 hk
  rw [← e, ← List.drop_eq_getElem_cons hlt, List.take_append_drop]
 conv => rhs; rw [e]
 rw [List.flatMap_append, List.flatMap_cons, List.length_append, List.length_append, List.length_append]
 have : (gone1 stay (hs.take j)).length ≤ (gone1 stay hs).length := ((List.take_sublist j hs).filter _).length_le
 omega
theorem hasAll_at : ∀ {l : List Disk} {hss : List (List Int)}, hasAll l = some hss → hss.length = l.length ∧ ∀ (k : Nat) d, l[k]? = some d → ∃ h, hss[k]? = some h ∧ chunk_Has_f d = some h
 | [], hss, h => by
  injection h with h; subst h
  exact ⟨rfl, fun k d h => by simp at h⟩
 | a :: l, hss, h => by
  unfold hasAll at h
  obtain ⟨r, h1, h⟩ := bind_some h
  obtain ⟨t, h2, h⟩ := bind_some h
  injection h with h; subst h
  obtain ⟨q1, q2⟩ := hasAll_at h2
  refine ⟨by simp [q1], fun k d hk => ?_⟩
  cases k with
  | zero => simp at hk; subst hk; exact ⟨r, rfl, h1⟩
  | succ k => exact q2 k d hk
theorem ownsMap_blk {P : Program} {kt : TypeId} {R : Value → Option (DataW Value × List MemPlace)} {W W' : World} {b n : Nat} {Dm : DataW Value} (h : W.ownsMap P kt R b n Dm) (e : W'.heap[b]? = W.heap[b]?) : W'.ownsMap P kt R b n Dm := by
 obtain ⟨es, clock, hbk, Ft, hss, hDd⟩ := h
 exact ⟨es, clock, e.trans hbk, Ft, hss, hDd⟩
set_option maxRecDepth 100000 in
set_option maxHeartbeats 4000000 in
theorem gone_in {named : List Named} {disks : List Disk} {hss : List (List Int)} (hh : hasAll disks = some hss) (hwf : ∀ p ∈ named, (Lit.int .i64 p.id).wf = true) (hwf2 : ∀ hs ∈ hss, ∀ x ∈ hs, (Lit.int .i64 x).wf = true)
  (hlen : (hss.flatMap (gone1 (named.map (·.id)))).length ≤ 12) (w : World) (D : Nat → Prop) (hD : ∀ b, D b → b < w.heap.size) (va : Value) (ha : RV NP D w va (.list 4 (named.map Named.c))) (A A' : Option Addr) (c l' c' : Nat) (nw : Int) (vd : Value) (hd : RV NP D w vd (.list 3 (disks.map Disk.c))) :
  Calls Tryz.prog 30 #[va, .slice A 0 c, .slice A' l' c', .int .i64 nw, vd] w fun e w' => ∃ v, e = .returned v ∧ RV NP (fun b => D b ∨ w.heap.size ≤ b) w' v (.list 1 ((sortI (hss.flatMap (gone1 (named.map (·.id))))).map (ci .i64))) ∧ Below w.heap.size w w' := by
 obtain ⟨hhl, hha⟩ := hasAll_at hh
 obtain ⟨Ad, cd, rfl, hle, hmx, hel⟩ := id hd.list_inv
 obtain ⟨An, cn, rfl, -⟩ := id ha.list_inv
 rw [List.length_map] at hle hd ha ⊢
 rw [List.length_map]
 have hcap : disks.length ≤ 9223372036854775807 := by have : maxLen = 9223372036854775807 := rfl; omega
 obtain ⟨stay, hst⟩ : ∃ stay, named.map (·.id) = stay := ⟨_, rfl⟩
 rw [hst] at hlen ⊢
 obtain ⟨s, hs⟩ : ∃ s, w.heap.size = s := ⟨_, rfl⟩
 rw [hs]
 have ho := open_in (.slice A' l' c') nw w A' l' c' rfl
 have hmm := @run_makeMap Tryz.prog
 have hkp := fun (w1 : World) (hb : Below w.heap.size w w1) => kept_in hwf w1 D (fun b hb' => Nat.lt_of_lt_of_le (hD b hb') hb.size) (.slice An named.length cn) (ha.keep (PlLe.refl _) (fun _ h _ => h) (Ext.of_below hb)) A c
 go_enter Tryz.func30, Tryz.ntmps30
 go_wp2_with (first
  | (go_at_call 80; refine ho.mono ?_; rintro e w1 ⟨⟨p, q, rfl⟩, hb1, hs1⟩)
  | (go_at_call 79; refine (hkp w1 hb1 _).mono ?_; rintro e w2 ⟨Ds, rfl, hown, hmp, hb2⟩)
  | go_in)
 rw [hs1, hs] at hown
 have hlt1 := hown.lt
 have hBw2 : Below s w w2 := by rw [← hs]; exact hb1.trans (hb2.mono hb1.size)
 go_loopw [26] (fun i wr => ∃ (k : Nat) (Dm : DataW Value), k ≤ disks.length ∧ i = .int .i64 k ∧ wr.ownsMap Tryz.prog 3 RH w2.heap.size ((hss.take k).flatMap (gone1 stay)).length Dm ∧ MapB Dm ((hss.take k).flatMap (gone1 stay)) ∧ Below w2.heap.size w2 wr)
  (fun i _ => disks.length - (zOf i).toNat)
 case atStart =>
  exact ⟨0, _, Nat.zero_le _, rfl, World.ownsMap_made w2 Tryz.prog 3 RH, MapB.nil, (Below.refl _ _).alloc (Nat.le_refl _) _⟩
 case round =>
  obtain ⟨k, Dm, hk, rfl, hown2, hmp2, hB⟩ := hrel
  by_cases hlt : k < disks.length
  ·obtain ⟨d, hdk⟩ : ∃ d, disks[k]? = some d := ⟨_, List.getElem?_eq_getElem hlt⟩
   obtain ⟨hs', hhk, hhas⟩ := hha k d hdk
   obtain ⟨b, o, cs, rfl, hDb, hbl, hr, hl2, h1, hcs⟩ := hel k (Disk.c d) (by rw [List.getElem?_map, hdk]; rfl)
   match cs, hl2 with
   | [u1, u2, u3], _ =>
    have q1 := hcs.2 0 u1 _ rfl rfl
    have q2 := hcs.2 1 u2 _ rfl rfl
    obtain rfl := (hcs.2 2 u3 _ rfl rfl).bool_inv
    obtain ⟨A1, c1, rfl, -⟩ := id q1.list_inv
    obtain ⟨A2, c2, rfl, -⟩ := id q2.list_inv
    rw [List.length_map] at hr hcs
    rw [List.length_map] at hr hcs
    have hbs0 : b < s := by omega
    have hbs : b < w2.heap.size := by have := hBw2.size; omega
    have hbw : ∀ {i : Nat} {v : Value}, w.cell? ⟨b, i, none⟩ = some v → wr.cell? ⟨b, i, none⟩ = some v := fun h => (hB.cell (p := ⟨b, _, none⟩) hbs).trans ((hBw2.cell (p := ⟨b, _, none⟩) hbs0).trans h)
    have d0 : wr.cell? ⟨b, o + k * 3, none⟩ = some (.slice A1 d.synced.length c1) := hbw (by simpa using hr 0 _ rfl)
    have d1 : wr.cell? ⟨b, o + k * 3 + 1, none⟩ = some (.slice A2 d.loose.length c2) := hbw (hr 1 _ rfl)
    have d2 : wr.cell? ⟨b, o + k * 3 + 2, none⟩ = some (.bool d.down) := hbw (hr 2 _ rfl)
    have hEx : Ext D w (wr.alloc (.cells #[.slice A1 d.synced.length c1, .slice A2 d.loose.length c2, .bool d.down] 44)) := by
     refine Ext.trans (b := wr) ?_ (Ext.alloc _ _ _)
     have : Below s w wr := hBw2.trans (hB.mono (by have := hBw2.size; omega))
     rw [← hs] at this; exact Ext.of_below this
    have hcall := (chunk_Has_pc hhas).run (wr.alloc (.cells #[.slice A1 d.synced.length c1, .slice A2 d.loose.length c2, .bool d.down] 44)) D [.agg #[.slice A1 d.synced.length c1, .slice A2 d.loose.length c2, .bool d.down]]
     (fun b hb => Nat.lt_of_lt_of_le (hD b hb) hEx.size) trivial (.cons ((RV.agg [_, _, _] _ hcs.1 hcs.2).keep (PlLe.refl _) (fun _ h _ => h) hEx) .nil)
    go_wp2_with (first
     | (go_at_call 13; refine hcall.mono ?_; rintro e w4 ⟨v4, rfl, hv4, hb4⟩; obtain ⟨Ah, ch, rfl, hlh, hmh, helh⟩ := id hv4.list_inv; rw [List.length_map] at hv4 hlh ⊢)
     | go_in)
    have hst4 : w4.ownsMap Tryz.prog 3 RH (s + 2) named.length Ds := ownsMap_blk hown ((hb4.block (s + 2) (by have := hB.size; simp; omega)).trans ((Below.heap_alloc wr _ (s + 2) (by have := hB.size; omega)).trans (hB.block (s + 2) hlt1)))
    have hown4 : w4.ownsMap Tryz.prog 3 RH w2.heap.size ((hss.take k).flatMap (gone1 stay)).length Dm := ownsMap_blk (hown2.alloc _) (hb4.block w2.heap.size (hown2.alloc _).lt)
    have hB4 : Below w2.heap.size w2 w4 := (hB.alloc (by have := hB.size; omega) _).trans (hb4.mono (by have := hB.size; simp; omega))
    have hcap2 : hs'.length ≤ 9223372036854775807 := by have : maxLen = 9223372036854775807 := rfl; omega
    have hwrl := hown2.lt
    have hw4l := hb4.size
    simp only [alloc_sz] at hw4l
    go_loopw [33] (fun i wr => ∃ (j : Nat) (Dm' : DataW Value), j ≤ hs'.length ∧ i = .int .i64 j ∧ wr.ownsMap Tryz.prog 3 RH w2.heap.size ((hss.take k).flatMap (gone1 stay) ++ gone1 stay (hs'.take j)).length Dm' ∧ MapB Dm' ((hss.take k).flatMap (gone1 stay) ++ gone1 stay (hs'.take j)) ∧ Below w2.heap.size w2 wr ∧ Ext (fun b => b < w4.heap.size ∧ b ≠ w2.heap.size) w4 wr)
     (fun i _ => hs'.length - (zOf i).toNat)
    case atStart =>
     refine ⟨0, Dm, Nat.zero_le _, rfl, ?_, ?_, hB4, Ext.refl _ _⟩
     ·simpa [gone1] using hown4
     ·simpa [gone1] using hmp2
    case round =>
     obtain ⟨j, Dm', hj, rfl, hown5, hmp5, hB5, hE5⟩ := hrel
     by_cases hjl : j < hs'.length
     ·obtain ⟨x, hx⟩ : ∃ x, hs'[j]? = some x := ⟨_, List.getElem?_eq_getElem hjl⟩
      obtain ⟨b3, o3, cs3, hA3, hD3, hb3, hr3, hl3, _, hv3⟩ := helh j (ci .i64 x) (by rw [List.getElem?_map, hx]; rfl)
      match cs3, hl3 with
      | [u], _ =>
       have hu := hv3.2 0 u _ rfl (by rw [ci_eq]; rfl)
       obtain rfl := hu.int_inv
       subst hA3
       have hbne : b3 ≠ w2.heap.size := by
        rcases hD3 with h | h
        ·have := hD b3 h; omega
        ·simp only [alloc_sz] at h; omega
       have hcx : wr.cell? ⟨b3, o3 + j, none⟩ = some (.int .i64 x) := by
        have := hE5.cell (b := b3) ⟨hb3, hbne⟩ (hr3 0 _ rfl)
        simpa using this
       have hst5 : wr.ownsMap Tryz.prog 3 RH (s + 2) named.length Ds := ownsMap_blk hst4 (hE5.same (s + 2) ⟨by omega, by omega⟩ (by omega))
       have hat := (hmp.2 x).2
       have hxwf : (Lit.int .i64 x).wf = true := hwf2 hs' (List.mem_of_getElem? hhk) x (List.mem_of_getElem? hx)
       have hkey : keyOf Tryz.prog 3 (.int .i64 x) = some (.int .i64 x) := keyOf_int_mk Tryz.underlying3 hxwf
       have htk : hs'.take (j + 1) = hs'.take j ++ [x] := by rw [List.take_add_one, hx]; rfl
       have hpre := gone_pre (stay := stay) (j := j) hhk
       rw [hst] at hat
       cases hc : stay.contains x with
       | true =>
        rw [hc] at hat
        have hg : gone1 stay (hs'.take (j + 1)) = gone1 stay (hs'.take j) := by rw [htk]; exact gone1_in hc
        go_wp2_with (first
         | (at_lookup; refine wpList_lookup_held _ rfl _ _ 142 rfl 3 4 law3 Tryz.underlying142 (zero4 _) (s + 2) named.length Ds rfl hst5 _ _ rfl hkey _ hat ?_)
         | go_in)
        go_roundw
        case rel => exact ⟨j + 1, Dm', by omega, by simp, by rw [hg]; exact hown5, by rw [hg]; exact hmp5, hB5, hE5⟩
        case measure => simp [zOf]; omega
       | false =>
        rw [hc] at hat
        have hg : gone1 stay (hs'.take (j + 1)) = gone1 stay (hs'.take j) ++ [x] := by rw [htk]; exact gone1_out hc
        go_wp2_with (first
         | (at_lookup; refine wpList_lookup_held _ rfl _ _ 142 rfl 3 4 law3 Tryz.underlying142 (zero4 _) (s + 2) named.length Ds rfl hst5 _ _ rfl hkey _ hat ?_)
         | (at_mapUpdate; refine wpList_mapUpdate_own _ rfl _ _ _ 142 rfl 3 4 law3 Tryz.underlying142 _ w2.heap.size _ _ rfl hown5 (by unfold maxLen; omega) _ _ _ rfl rfl hkey (.held (.bool true)) [] rfl ?_; intro w6 hown6 hgrow6)
         | go_in)
        go_roundw
        case rel =>
         refine ⟨j + 1, Dm'.put (.int .i64 x) (.held (.bool true)), by omega, by simp, ?_, ?_, hB5.grown hgrow6 (by have := hB5.size; omega) (fun j hj => by cases hj; exact Nat.le_refl _), hE5.trans (ext_mapgrow hown5 hown6 hgrow6 (fun h => h.2 rfl))⟩
         ·rw [hg, ← List.append_assoc, List.length_append]; exact hown6
         ·rw [hg, ← List.append_assoc]; exact hmp5.step x
        case measure => simp [zOf]; omega
     ·obtain rfl : j = hs'.length := by omega
      rw [List.take_length] at hown5 hmp5
      have hnext : (hss.take (k + 1)).flatMap (gone1 stay) = (hss.take k).flatMap (gone1 stay) ++ gone1 stay hs' := by
       rw [List.take_add_one, hhk, List.flatMap_append]; simp
      go_wp2
      go_roundw
      case rel => exact ⟨k + 1, Dm', by omega, by simp, by rw [hnext]; exact hown5, by rw [hnext]; exact hmp5, hB5⟩
      case measure => simp [zOf]; omega
  ·obtain rfl : k = disks.length := by omega
   rw [List.take_of_length_le (by omega)] at hown2 hmp2
   have hperm := keysB_perm hown2 hmp2
   have hkr := Keys81_run (some w2.heap.size) wr
   have hm2 : (wr.alloc (.cells #[.map (some w2.heap.size)] 142)).cell? ⟨wr.heap.size, 0, none⟩ = some (.map (some w2.heap.size)) := cell_one_new wr (.map (some w2.heap.size)) 142 0 _ rfl
   have hsz := size_intKeys hown2
   have hsl := sortI_len (hss.flatMap (gone1 stay))
   have hsr := sortedKeys131_run Dm w2.heap.size _ wr.heap.size (wr.alloc (.cells #[.map (some w2.heap.size)] 142)) hm2 (hown2.alloc _) (by omega) (sortI (hss.flatMap (gone1 stay))) (fun zs hz => sort_perm (hz.trans hperm) (sortI_rise _) (by omega))
   go_wp2_with (first
    | (go_at_call 81; refine hkr.mono ?_; rintro e w3 ⟨rfl, rfl⟩)
    | (go_at_call 58; refine hsr.mono ?_; rintro e w3 ⟨v2, rfl, hrow, hb3⟩)
    | go_in)
   go_ret
   have hs3 := hBw2.size
   have hs4 := hB.size
   refine ⟨_, rfl, row_ints hrow (fun b hb => .inr (by simp at hb; omega)), hBw2.trans ((hB.mono (by omega)).trans (((Below.refl _ wr).alloc (by omega) _).trans (hb3.mono (by simp; omega))))⟩
noncomputable section
def sweep_Gone_f (named1 : List Named) (rooms1 : List Room) (leases1 : List Lease) (now1 : Int) (disks1 : List Disk) : Option (List Int) :=
 (hasAll disks1).bind fun hss => chk (rooms1.isEmpty = true ∧ (named1.all fun p => (Lit.int .i64 p.id).wf) = true ∧ (hss.all fun hs => hs.all fun x => (Lit.int .i64 x).wf) = true ∧ (hss.flatMap (gone1 (named1.map (·.id)))).length ≤ 12) (some (sortI (hss.flatMap (gone1 (named1.map (·.id))))))
theorem sweep_Gone_pc {named1 : List Named} {rooms1 : List Room} {leases1 : List Lease} {now1 : Int} {disks1 : List Disk} {r : List Int} (H : sweep_Gone_f named1 rooms1 leases1 now1 disks1 = some r) :
 PC Tryz.prog 30 [.list 4 (named1.map Named.c), .list 3 (rooms1.map Room.c), .list 6 (leases1.map Lease.c), .int .i64 now1, .list 3 (disks1.map Disk.c)] (.list 1 (r.map (ci .i64))) := by
 unfold sweep_Gone_f at H
 obtain ⟨hss, h1, H⟩ := bind_some H
 obtain ⟨⟨h2, h3, h4, h5⟩, H⟩ := chk_some H
 injection H with H
 subst H
 obtain rfl : rooms1 = [] := by simpa using h2
 refine ⟨⟨_, _, Tryz.func30, rfl, by decide⟩, fun w D vs hD hG hv => ?_⟩
 match vs, hv with
 | [va, vb, vc, vn, vd], hv =>
  obtain ⟨A, c, rfl, -⟩ := (hv.2 1 vb _ rfl rfl).list_inv
  obtain ⟨A', c', rfl, -⟩ := (hv.2 2 vc _ rfl rfl).list_inv
  obtain rfl := (hv.2 3 vn _ rfl rfl).int_inv
  exact gone_in h1 (fun p hp => by simpa using List.all_eq_true.1 h3 p hp) (fun hs hh x hx => by simpa using List.all_eq_true.1 (List.all_eq_true.1 h4 hs hh) x hx) h5 w D hD va (hv.2 0 va _ rfl rfl) A A' c _ c' now1 vd (hv.2 4 vd _ rfl rfl)
 | [], hv => exact absurd hv.1 (by simp)
 | [_], hv => exact absurd hv.1 (by simp)
 | [_, _], hv => exact absurd hv.1 (by simp)
 | [_, _, _], hv => exact absurd hv.1 (by simp)
 | [_, _, _, _], hv => exact absurd hv.1 (by simp)
 | _ :: _ :: _ :: _ :: _ :: _ :: _, hv => exact absurd hv.1 (by simp)
end
end Go.Proofs.YtjflkcfafijhfaaGreat
/- Functions of the program as Lean functions, and that they are so; printed by a program of mine. -/
set_option linter.unusedSimpArgs false
set_option linter.unusedVariables false
set_option maxHeartbeats 4000000
set_option maxRecDepth 20000
namespace Go.Proofs.YtjflkcfafijhfaaGreat
open Go.Ab
open Nat (reduceAdd reduceMul reduceEqDiff reduceLT reduceLeDiff reduceSub)
noncomputable section
def top_head29_J1 (r1 : (List Disk) × (List Chain) × Bool) (v1 : Bool) : Option Bool :=
 cond v1 (some (false)) (chk ((r1.1.length) * 56 ≤ 140737488355328) ((idx r1.1 0).bind fun x1 => (disk_Rot_f x1 0 3).bind fun r2 => (scrub_Plan_f (r1.1.set 0 r2) r1.2.1).bind fun r3 => (mend_Round_f (r1.1.set 0 r2) r1.2.1 [] 5).bind fun r4 => (mend_Round_f r4.1 r1.2.1 r4.2.1 5).bind fun r5 => (idx r1.2.1 0).bind fun x2 => (chain_Read_f x2 r5.1).bind fun r6 => (sweep_Gone_f [(⟨0, 0, 0, 0⟩ : Named)] [] [] 0 r5.1).bind fun r7 => cond ((r3.1.length : Int) == 1) (cond ((r3.2.length : Int) == 0) ((idx r3.1 0).bind fun x3 => cond (x3.from_ == 1) (cond (x3.left == 6) (cond ((r4.2.2.length : Int) == 0) (cond ((r4.2.1.length : Int) == 1) (cond ((r5.2.1.length : Int) == 0) (cond ((r5.2.2.length : Int) == 1) (cond (r6.2 == 0) ((top_bytesR14_f 0).bind fun r8 => (ref02_Bytes_f r6.1 r8).bind fun r9 => cond r9 ((ref02_Ints_f r7 [1]).bind fun r10 => some (r10)) (some (false))) (some (false))) (some (false))) (some (false))) (some (false))) (some (false))) (some (false))) (some (false))) (some (false))) (some (false))))
def top_head29_f : Option Bool :=
 (top_farmR14_f 4 2).bind fun r1 => top_head29_J1 r1 ((!r1.2.2) || (((r1.1.length : Int) != 4) || ((r1.2.1.length : Int) != 2)))
theorem top_head29_pc {r : Bool} (H : top_head29_f = some r) : PC Tryz.prog 5 [] (.bool r) := by
 refine pcA_of Tryz.func5 (by rfl) (by decide) 130 (by rfl) [.tmp 0] (by rfl) ?_
 unfold top_head29_f at H
 simp only [ent]
 refine a_srC _ rfl ?_
 refine a_seq ?_
 obtain ⟨r1, zh1, H⟩ := bind_some H
 have zk1 := top_farmR14_pc zh1
 refine a_regK _ rfl ?_
 refine sA_n ?_
 refine a_seq ?_
 refine a_cut (fun s => ∃ (v1 : Bool) (t0 : Nat → Dat), top_head29_J1 r1 v1 = some r ∧ s = ⟨tl t0 [(1, .list 3 (r1.1.map Disk.c)), (2, .list 3 (r1.2.1.map Chain.c)), (31, .bool v1)], hl [], 0, 130⟩) ?_ ?_
 ·refine bool_split (b := (!r1.2.2)) (fun zc12 => ?_) (fun zc12 => ?_)
  ·rw [zc12] at H
   refine a_regC _ rfl ?_
   refine cA_n ?_
   exact wk_lA [] [] (fun t0 => ⟨true, t0, H, rfl⟩)
  ·rw [zc12] at H
   refine bool_split (b := ((r1.1.length : Int) != 4)) (fun zc13 => ?_) (fun zc13 => ?_)
   ·rw [zc13] at H
    refine a_regC _ rfl ?_
    refine cA_n ?_
    exact wk_lA [] [] (fun t0 => ⟨true, t0, H, rfl⟩)
   ·rw [zc13] at H
    refine a_regC _ rfl ?_
    refine cA_n ?_
    exact wk_lA [] [] (fun t0 => ⟨((r1.2.1.length : Int) != 2), t0, H, rfl⟩)
 ·rintro s ⟨v1, t0, H, rfl⟩
  unfold top_head29_J1 at H
  refine a_cnd H (fun zc1 H => ?_) (fun zc1 H => ?_)
  ·refine a_srC _ rfl ?_
   exact a_ret (sA_r RT)
  ·refine a_skip ?_
   refine sA_n ?_
   refine a_seq ?_
   obtain ⟨zh2, H⟩ := chk_some H
   refine a_regC _ rfl ?_
   refine sA_n ?_
   refine a_seq ?_
   obtain ⟨x1, zh3, H⟩ := bind_some H
   obtain ⟨zg1, zh3a, zh3b⟩ := idx3 (f := Disk.c) zh3
   try simp only [Int.reduceToNat, Int.toNat_natCast] at zg1
   obtain ⟨r2, zh4, H⟩ := bind_some H
   have zk2 := disk_Rot_pc zh4
   refine a_regK _ rfl ?_
   refine sA_n ?_
   refine a_seq ?_
   obtain ⟨r3, zh5, H⟩ := bind_some H
   have zk3 := scrub_Plan_pc zh5
   refine a_reg _ rfl (s := ?zs6) ?_ ?_
   rotate_left
   ·try refine goS ?_
    repeat' with_reducible apply And.intro
    all_goals try ((with_reducible show CallR _ _ _ _ _ _ _); refine cR_f [2] zk3 (.cons (.ownL ((wrs_frz _ _ _ 2).trans (by rfl)) (fun _ => rfl) rfl (by first|rfl|omega|(simp;done)|(simp;omega)|(simp_all;done)) (.sm _ _ Disk.pu)) (.cons (.lst _ _ _ Chain.pu rfl) .nil)) ?_; refine goS ?_)
    all_goals ((repeat' apply And.intro) <;> first|rfl|assumption|omega|(simp;done)|(simp;omega)|(simp_all;done))
   refine sA_n ?_
   refine a_seq ?_
   obtain ⟨r4, zh6, H⟩ := bind_some H
   have zk4 := mend_Round_pc zh6
   refine a_reg _ rfl (s := ?zs7) ?_ ?_
   rotate_left
   ·try refine goS ?_
    repeat' with_reducible apply And.intro
    all_goals try ((with_reducible show CallR _ _ _ _ _ _ _); refine cR_p zk4 (.cons (.ownL (by rfl) (fun _ => rfl) rfl (by first|rfl|omega|(simp;done)|(simp;omega)|(simp_all;done)) (.sm _ _ Disk.pu)) (.cons (.lst _ _ _ Chain.pu rfl) (.cons (.nil _) (.cons (.int' rfl) .nil)))) ?_; refine goS ?_)
    all_goals ((repeat' apply And.intro) <;> first|rfl|assumption|omega|(simp;done)|(simp;omega)|(simp_all;done))
   refine sA_n ?_
   refine a_seq ?_
   obtain ⟨r5, zh7, H⟩ := bind_some H
   have zk5 := mend_Round_pc zh7
   refine a_regK _ rfl ?_
   refine sA_n ?_
   refine a_seq ?_
   obtain ⟨x2, zh8, H⟩ := bind_some H
   obtain ⟨zg2, zh8a, zh8b⟩ := idx3 (f := Chain.c) zh8
   try simp only [Int.reduceToNat, Int.toNat_natCast] at zg2
   obtain ⟨r6, zh9, H⟩ := bind_some H
   have zk6 := chain_Read_pc zh9
   refine a_regK _ rfl ?_
   refine sA_n ?_
   refine a_seq ?_
   obtain ⟨r7, zh10, H⟩ := bind_some H
   have zk7 := sweep_Gone_pc zh10
   refine a_reg _ rfl (s := ?zs10) ?_ ?_
   rotate_left
   ·try refine goS ?_
    repeat' with_reducible apply And.intro
    all_goals try ((with_reducible show CallR _ _ _ _ _ _ _); refine cR_f [401] zk7 (.cons (.ownL ((wrs_frz _ _ _ 401).trans (by rfl)) (fun _ => rfl) rfl (by first|rfl|omega|(simp;done)|(simp;omega)|(simp_all;done)) (.sm _ _ Named.pu)) (.cons (.nil _) (.cons (.nil _) (.cons (.int' rfl) (.cons (.lst _ _ _ Disk.pu rfl) .nil))))) ?_; refine goS ?_)
    all_goals ((repeat' apply And.intro) <;> first|rfl|assumption|omega|(simp;done)|(simp;omega)|(simp_all;done))
   refine sA_n ?_
   refine a_seq ?_
   refine cnd H (fun zc2 H => ?_) (fun zc2 H => ?_)
   ·refine cnd H (fun zc3 H => ?_) (fun zc3 H => ?_)
    ·obtain ⟨x3, zh11, H⟩ := bind_some H
     obtain ⟨zg3, zh11a, zh11b⟩ := idx3 (f := Job.c) zh11
     try simp only [Int.reduceToNat, Int.toNat_natCast] at zg3
     refine cnd H (fun zc4 H => ?_) (fun zc4 H => ?_)
     ·refine cnd H (fun zc5 H => ?_) (fun zc5 H => ?_)
      ·refine cnd H (fun zc6 H => ?_) (fun zc6 H => ?_)
       ·refine cnd H (fun zc7 H => ?_) (fun zc7 H => ?_)
        ·refine cnd H (fun zc8 H => ?_) (fun zc8 H => ?_)
         ·refine cnd H (fun zc9 H => ?_) (fun zc9 H => ?_)
          ·refine cnd H (fun zc10 H => ?_) (fun zc10 H => ?_)
           ·obtain ⟨r8, zh12, H⟩ := bind_some H
            have zk8 := top_bytesR14_pc zh12
            obtain ⟨r9, zh13, H⟩ := bind_some H
            have zk9 := ref02_Bytes_pc zh13
            refine cnd H (fun zc11 H => ?_) (fun zc11 H => ?_)
            ·obtain ⟨r10, zh14, H⟩ := bind_some H
             have zk10 := ref02_Ints_pc zh14
             refine a_regK _ rfl ?_
             refine sA_n ?_
             refine a_ret ?_
             obtain rfl := Option.some.inj H
             refine e_r2 (d := ?zd2) ?_ ?_
             rotate_left
             ·simp only [EVT, resR, single, evLoad, cut, TIS, CS, reduceAdd, reduceEqDiff, ↓reduceIte, reduceCtorEq, reduceLT, reduceLeDiff, reduceSub, Nat.reduceBEq, zc1, zg1, zg2, zc2, zc3, zg3, zc4, zc5, zc6, zc7, zc8, zc9, zc10, zc11]
              (repeat' apply And.intro) <;> first | rfl | assumption | omega | (simp; done)
             exact ZZ
            ·refine a_reg _ rfl (s := ?zs12) ?_ ?_
             rotate_left
             ·try refine goS ?_
              repeat' with_reducible apply And.intro
              all_goals try ((with_reducible show CallR _ _ _ _ _ _ _); refine cR_p zk8 (.cons (.int' rfl) .nil) ?_; simp only [EVT, stepR, evOp, St.ev, St.app, St.put, wrs, evBuiltin, datOf, datOf1, evBin, binInt, evIndexAddr, evFieldAddr, evLoad, cut, frz, allOne, TIS, CS, reduceAdd, reduceMul, reduceEqDiff, ↓reduceIte, reduceCtorEq, reduceLT, reduceLeDiff, Array.reduceGetElem?, Int.reduceToNat, reduceSub, Nat.reduceBEq, ↓zc1, zg1, zg2, ↓zc2, ↓zc3, zg3, ↓zc4, ↓zc5, ↓zc6, ↓zc7, ↓zc8, ↓zc9, ↓zc10, ↓zc11])
              repeat' with_reducible apply And.intro
              all_goals try ((with_reducible show CallR _ _ _ _ _ _ _); refine cR_s zk9 (.cons (.lst _ _ _ (ci_pu .u8) rfl) (.cons (.lst _ _ _ (ci_pu .u8) rfl) .nil)) (.bool _) ?_; simp only [EVT, stepR, evOp, St.ev, St.app, St.put, wrs, evBuiltin, datOf, datOf1, evBin, binInt, evIndexAddr, evFieldAddr, evLoad, cut, frz, allOne, TIS, CS, reduceAdd, reduceMul, reduceEqDiff, ↓reduceIte, reduceCtorEq, reduceLT, reduceLeDiff, Array.reduceGetElem?, Int.reduceToNat, reduceSub, Nat.reduceBEq, ↓zc1, zg1, zg2, ↓zc2, ↓zc3, zg3, ↓zc4, ↓zc5, ↓zc6, ↓zc7, ↓zc8, ↓zc9, ↓zc10, ↓zc11])
              all_goals ((repeat' apply And.intro) <;> first|rfl|assumption|omega|(simp;done)|(simp;omega)|(simp_all;done))
             refine sA_n ?_
             refine a_ret ?_
             obtain rfl := Option.some.inj H
             refine e_r2 (d := ?zd3) ?_ ?_
             rotate_left
             ·simp only [EVT, resR, single, evLoad, cut, TIS, CS, reduceAdd, reduceEqDiff, ↓reduceIte, reduceCtorEq, reduceLT, reduceLeDiff, reduceSub, Nat.reduceBEq, zc1, zg1, zg2, zc2, zc3, zg3, zc4, zc5, zc6, zc7, zc8, zc9, zc10, zc11]
              (repeat' apply And.intro) <;> first | rfl | assumption | omega | (simp; done)
             exact (.bool' (by first | rfl | assumption | (simp_all; done)))
           ·refine a_reg _ rfl (s := ?zs13) ?_ ?_
            rotate_left
            ·simp only [EVT, stepR, evOp, St.ev, St.app, St.put, wrs, evBuiltin, datOf, datOf1, evBin, binInt, evIndexAddr, evFieldAddr, evLoad, cut, frz, allOne, TIS, CS, reduceAdd, reduceMul, reduceEqDiff, ↓reduceIte, reduceCtorEq, reduceLT, reduceLeDiff, Array.reduceGetElem?, Int.reduceToNat, reduceSub, Nat.reduceBEq, ↓zc1, zg1, zg2, ↓zc2, ↓zc3, zg3, ↓zc4, ↓zc5, ↓zc6, ↓zc7, ↓zc8, ↓zc9, ↓zc10]
             try simp only [EVT, stepR, evOp, St.ev, St.app, St.put, wrs, evBuiltin, datOf, datOf1, evBin, binInt, evIndexAddr, evFieldAddr, evLoad, cut, frz, allOne, TIS, CS, reduceAdd, reduceMul, reduceEqDiff, ↓reduceIte, reduceCtorEq, reduceLT, reduceLeDiff, Array.reduceGetElem?, Int.reduceToNat, reduceSub, Nat.reduceBEq, ↓zc1, zg1, zg2, ↓zc2, ↓zc3, zg3, ↓zc4, ↓zc5, ↓zc6, ↓zc7, ↓zc8, ↓zc9, ↓zc10]
             (repeat' apply And.intro) <;> first|rfl|assumption|omega|(simp;done)|(simp;omega)|(simp_all;done)
            refine sA_n ?_
            refine a_ret ?_
            obtain rfl := Option.some.inj H
            refine e_r2 (d := ?zd4) ?_ ?_
            rotate_left
            ·simp only [EVT, resR, single, evLoad, cut, TIS, CS, reduceAdd, reduceEqDiff, ↓reduceIte, reduceCtorEq, reduceLT, reduceLeDiff, reduceSub, Nat.reduceBEq, zc1, zg1, zg2, zc2, zc3, zg3, zc4, zc5, zc6, zc7, zc8, zc9, zc10]
             (repeat' apply And.intro) <;> first | rfl | assumption | omega | (simp; done)
            exact ZZ
          ·refine a_reg _ rfl (s := ?zs14) ?_ ?_
           rotate_left
           ·simp only [EVT, stepR, evOp, St.ev, St.app, St.put, wrs, evBuiltin, datOf, datOf1, evBin, binInt, evIndexAddr, evFieldAddr, evLoad, cut, frz, allOne, TIS, CS, reduceAdd, reduceMul, reduceEqDiff, ↓reduceIte, reduceCtorEq, reduceLT, reduceLeDiff, Array.reduceGetElem?, Int.reduceToNat, reduceSub, Nat.reduceBEq, ↓zc1, zg1, zg2, ↓zc2, ↓zc3, zg3, ↓zc4, ↓zc5, ↓zc6, ↓zc7, ↓zc8, ↓zc9]
            try simp only [EVT, stepR, evOp, St.ev, St.app, St.put, wrs, evBuiltin, datOf, datOf1, evBin, binInt, evIndexAddr, evFieldAddr, evLoad, cut, frz, allOne, TIS, CS, reduceAdd, reduceMul, reduceEqDiff, ↓reduceIte, reduceCtorEq, reduceLT, reduceLeDiff, Array.reduceGetElem?, Int.reduceToNat, reduceSub, Nat.reduceBEq, ↓zc1, zg1, zg2, ↓zc2, ↓zc3, zg3, ↓zc4, ↓zc5, ↓zc6, ↓zc7, ↓zc8, ↓zc9]
            (repeat' apply And.intro) <;> first|rfl|assumption|omega|(simp;done)|(simp;omega)|(simp_all;done)
           refine sA_n ?_
           refine a_ret ?_
           obtain rfl := Option.some.inj H
           refine e_r2 (d := ?zd5) ?_ ?_
           rotate_left
           ·simp only [EVT, resR, single, evLoad, cut, TIS, CS, reduceAdd, reduceEqDiff, ↓reduceIte, reduceCtorEq, reduceLT, reduceLeDiff, reduceSub, Nat.reduceBEq, zc1, zg1, zg2, zc2, zc3, zg3, zc4, zc5, zc6, zc7, zc8, zc9]
            (repeat' apply And.intro) <;> first | rfl | assumption | omega | (simp; done)
           exact ZZ
         ·refine a_reg _ rfl (s := ?zs15) ?_ ?_
          rotate_left
          ·simp only [EVT, stepR, evOp, St.ev, St.app, St.put, wrs, evBuiltin, datOf, datOf1, evBin, binInt, evIndexAddr, evFieldAddr, evLoad, cut, frz, allOne, TIS, CS, reduceAdd, reduceMul, reduceEqDiff, ↓reduceIte, reduceCtorEq, reduceLT, reduceLeDiff, Array.reduceGetElem?, Int.reduceToNat, reduceSub, Nat.reduceBEq, ↓zc1, zg1, zg2, ↓zc2, ↓zc3, zg3, ↓zc4, ↓zc5, ↓zc6, ↓zc7, ↓zc8]
           try simp only [EVT, stepR, evOp, St.ev, St.app, St.put, wrs, evBuiltin, datOf, datOf1, evBin, binInt, evIndexAddr, evFieldAddr, evLoad, cut, frz, allOne, TIS, CS, reduceAdd, reduceMul, reduceEqDiff, ↓reduceIte, reduceCtorEq, reduceLT, reduceLeDiff, Array.reduceGetElem?, Int.reduceToNat, reduceSub, Nat.reduceBEq, ↓zc1, zg1, zg2, ↓zc2, ↓zc3, zg3, ↓zc4, ↓zc5, ↓zc6, ↓zc7, ↓zc8]
           (repeat' apply And.intro) <;> first|rfl|assumption|omega|(simp;done)|(simp;omega)|(simp_all;done)
          refine sA_n ?_
          refine a_ret ?_
          obtain rfl := Option.some.inj H
          refine e_r2 (d := ?zd6) ?_ ?_
          rotate_left
          ·simp only [EVT, resR, single, evLoad, cut, TIS, CS, reduceAdd, reduceEqDiff, ↓reduceIte, reduceCtorEq, reduceLT, reduceLeDiff, reduceSub, Nat.reduceBEq, zc1, zg1, zg2, zc2, zc3, zg3, zc4, zc5, zc6, zc7, zc8]
           (repeat' apply And.intro) <;> first | rfl | assumption | omega | (simp; done)
          exact ZZ
        ·refine a_reg _ rfl (s := ?zs16) ?_ ?_
         rotate_left
         ·simp only [EVT, stepR, evOp, St.ev, St.app, St.put, wrs, evBuiltin, datOf, datOf1, evBin, binInt, evIndexAddr, evFieldAddr, evLoad, cut, frz, allOne, TIS, CS, reduceAdd, reduceMul, reduceEqDiff, ↓reduceIte, reduceCtorEq, reduceLT, reduceLeDiff, Array.reduceGetElem?, Int.reduceToNat, reduceSub, Nat.reduceBEq, ↓zc1, zg1, zg2, ↓zc2, ↓zc3, zg3, ↓zc4, ↓zc5, ↓zc6, ↓zc7]
          try simp only [EVT, stepR, evOp, St.ev, St.app, St.put, wrs, evBuiltin, datOf, datOf1, evBin, binInt, evIndexAddr, evFieldAddr, evLoad, cut, frz, allOne, TIS, CS, reduceAdd, reduceMul, reduceEqDiff, ↓reduceIte, reduceCtorEq, reduceLT, reduceLeDiff, Array.reduceGetElem?, Int.reduceToNat, reduceSub, Nat.reduceBEq, ↓zc1, zg1, zg2, ↓zc2, ↓zc3, zg3, ↓zc4, ↓zc5, ↓zc6, ↓zc7]
          (repeat' apply And.intro) <;> first|rfl|assumption|omega|(simp;done)|(simp;omega)|(simp_all;done)
         refine sA_n ?_
         refine a_ret ?_
         obtain rfl := Option.some.inj H
         refine e_r2 (d := ?zd7) ?_ ?_
         rotate_left
         ·simp only [EVT, resR, single, evLoad, cut, TIS, CS, reduceAdd, reduceEqDiff, ↓reduceIte, reduceCtorEq, reduceLT, reduceLeDiff, reduceSub, Nat.reduceBEq, zc1, zg1, zg2, zc2, zc3, zg3, zc4, zc5, zc6, zc7]
          (repeat' apply And.intro) <;> first | rfl | assumption | omega | (simp; done)
         exact ZZ
       ·refine a_reg _ rfl (s := ?zs17) ?_ ?_
        rotate_left
        ·simp only [EVT, stepR, evOp, St.ev, St.app, St.put, wrs, evBuiltin, datOf, datOf1, evBin, binInt, evIndexAddr, evFieldAddr, evLoad, cut, frz, allOne, TIS, CS, reduceAdd, reduceMul, reduceEqDiff, ↓reduceIte, reduceCtorEq, reduceLT, reduceLeDiff, Array.reduceGetElem?, Int.reduceToNat, reduceSub, Nat.reduceBEq, ↓zc1, zg1, zg2, ↓zc2, ↓zc3, zg3, ↓zc4, ↓zc5, ↓zc6]
         try simp only [EVT, stepR, evOp, St.ev, St.app, St.put, wrs, evBuiltin, datOf, datOf1, evBin, binInt, evIndexAddr, evFieldAddr, evLoad, cut, frz, allOne, TIS, CS, reduceAdd, reduceMul, reduceEqDiff, ↓reduceIte, reduceCtorEq, reduceLT, reduceLeDiff, Array.reduceGetElem?, Int.reduceToNat, reduceSub, Nat.reduceBEq, ↓zc1, zg1, zg2, ↓zc2, ↓zc3, zg3, ↓zc4, ↓zc5, ↓zc6]
         (repeat' apply And.intro) <;> first|rfl|assumption|omega|(simp;done)|(simp;omega)|(simp_all;done)
        refine sA_n ?_
        refine a_ret ?_
        obtain rfl := Option.some.inj H
        refine e_r2 (d := ?zd8) ?_ ?_
        rotate_left
        ·simp only [EVT, resR, single, evLoad, cut, TIS, CS, reduceAdd, reduceEqDiff, ↓reduceIte, reduceCtorEq, reduceLT, reduceLeDiff, reduceSub, Nat.reduceBEq, zc1, zg1, zg2, zc2, zc3, zg3, zc4, zc5, zc6]
         (repeat' apply And.intro) <;> first | rfl | assumption | omega | (simp; done)
        exact ZZ
      ·refine a_reg _ rfl (s := ?zs18) ?_ ?_
       rotate_left
       ·simp only [EVT, stepR, evOp, St.ev, St.app, St.put, wrs, evBuiltin, datOf, datOf1, evBin, binInt, evIndexAddr, evFieldAddr, evLoad, cut, frz, allOne, TIS, CS, reduceAdd, reduceMul, reduceEqDiff, ↓reduceIte, reduceCtorEq, reduceLT, reduceLeDiff, Array.reduceGetElem?, Int.reduceToNat, reduceSub, Nat.reduceBEq, ↓zc1, zg1, zg2, ↓zc2, ↓zc3, zg3, ↓zc4, ↓zc5]
        try simp only [EVT, stepR, evOp, St.ev, St.app, St.put, wrs, evBuiltin, datOf, datOf1, evBin, binInt, evIndexAddr, evFieldAddr, evLoad, cut, frz, allOne, TIS, CS, reduceAdd, reduceMul, reduceEqDiff, ↓reduceIte, reduceCtorEq, reduceLT, reduceLeDiff, Array.reduceGetElem?, Int.reduceToNat, reduceSub, Nat.reduceBEq, ↓zc1, zg1, zg2, ↓zc2, ↓zc3, zg3, ↓zc4, ↓zc5]
        (repeat' apply And.intro) <;> first|rfl|assumption|omega|(simp;done)|(simp;omega)|(simp_all;done)
       refine sA_n ?_
       refine a_ret ?_
       obtain rfl := Option.some.inj H
       refine e_r2 (d := ?zd9) ?_ ?_
       rotate_left
       ·simp only [EVT, resR, single, evLoad, cut, TIS, CS, reduceAdd, reduceEqDiff, ↓reduceIte, reduceCtorEq, reduceLT, reduceLeDiff, reduceSub, Nat.reduceBEq, zc1, zg1, zg2, zc2, zc3, zg3, zc4, zc5]
        (repeat' apply And.intro) <;> first | rfl | assumption | omega | (simp; done)
       exact ZZ
     ·refine a_reg _ rfl (s := ?zs19) ?_ ?_
      rotate_left
      ·simp only [EVT, stepR, evOp, St.ev, St.app, St.put, wrs, evBuiltin, datOf, datOf1, evBin, binInt, evIndexAddr, evFieldAddr, evLoad, cut, frz, allOne, TIS, CS, reduceAdd, reduceMul, reduceEqDiff, ↓reduceIte, reduceCtorEq, reduceLT, reduceLeDiff, Array.reduceGetElem?, Int.reduceToNat, reduceSub, Nat.reduceBEq, ↓zc1, zg1, zg2, ↓zc2, ↓zc3, zg3, ↓zc4]
       try simp only [EVT, stepR, evOp, St.ev, St.app, St.put, wrs, evBuiltin, datOf, datOf1, evBin, binInt, evIndexAddr, evFieldAddr, evLoad, cut, frz, allOne, TIS, CS, reduceAdd, reduceMul, reduceEqDiff, ↓reduceIte, reduceCtorEq, reduceLT, reduceLeDiff, Array.reduceGetElem?, Int.reduceToNat, reduceSub, Nat.reduceBEq, ↓zc1, zg1, zg2, ↓zc2, ↓zc3, zg3, ↓zc4]
       (repeat' apply And.intro) <;> first|rfl|assumption|omega|(simp;done)|(simp;omega)|(simp_all;done)
      refine sA_n ?_
      refine a_ret ?_
      obtain rfl := Option.some.inj H
      refine e_r2 (d := ?zd10) ?_ ?_
      rotate_left
      ·simp only [EVT, resR, single, evLoad, cut, TIS, CS, reduceAdd, reduceEqDiff, ↓reduceIte, reduceCtorEq, reduceLT, reduceLeDiff, reduceSub, Nat.reduceBEq, zc1, zg1, zg2, zc2, zc3, zg3, zc4]
       (repeat' apply And.intro) <;> first | rfl | assumption | omega | (simp; done)
      exact ZZ
    ·refine a_reg _ rfl (s := ?zs20) ?_ ?_
     rotate_left
     ·simp only [EVT, stepR, evOp, St.ev, St.app, St.put, wrs, evBuiltin, datOf, datOf1, evBin, binInt, evIndexAddr, evFieldAddr, evLoad, cut, frz, allOne, TIS, CS, reduceAdd, reduceMul, reduceEqDiff, ↓reduceIte, reduceCtorEq, reduceLT, reduceLeDiff, Array.reduceGetElem?, Int.reduceToNat, reduceSub, Nat.reduceBEq, ↓zc1, zg1, zg2, ↓zc2, ↓zc3]
      try simp only [EVT, stepR, evOp, St.ev, St.app, St.put, wrs, evBuiltin, datOf, datOf1, evBin, binInt, evIndexAddr, evFieldAddr, evLoad, cut, frz, allOne, TIS, CS, reduceAdd, reduceMul, reduceEqDiff, ↓reduceIte, reduceCtorEq, reduceLT, reduceLeDiff, Array.reduceGetElem?, Int.reduceToNat, reduceSub, Nat.reduceBEq, ↓zc1, zg1, zg2, ↓zc2, ↓zc3]
      (repeat' apply And.intro) <;> first|rfl|assumption|omega|(simp;done)|(simp;omega)|(simp_all;done)
     refine sA_n ?_
     refine a_ret ?_
     obtain rfl := Option.some.inj H
     refine e_r2 (d := ?zd11) ?_ ?_
     rotate_left
     ·simp only [EVT, resR, single, evLoad, cut, TIS, CS, reduceAdd, reduceEqDiff, ↓reduceIte, reduceCtorEq, reduceLT, reduceLeDiff, reduceSub, Nat.reduceBEq, zc1, zg1, zg2, zc2, zc3]
      (repeat' apply And.intro) <;> first | rfl | assumption | omega | (simp; done)
     exact ZZ
   ·refine a_reg _ rfl (s := ?zs21) ?_ ?_
    rotate_left
    ·simp only [EVT, stepR, evOp, St.ev, St.app, St.put, wrs, evBuiltin, datOf, datOf1, evBin, binInt, evIndexAddr, evFieldAddr, evLoad, cut, frz, allOne, TIS, CS, reduceAdd, reduceMul, reduceEqDiff, ↓reduceIte, reduceCtorEq, reduceLT, reduceLeDiff, Array.reduceGetElem?, Int.reduceToNat, reduceSub, Nat.reduceBEq, ↓zc1, zg1, zg2, ↓zc2]
     try simp only [EVT, stepR, evOp, St.ev, St.app, St.put, wrs, evBuiltin, datOf, datOf1, evBin, binInt, evIndexAddr, evFieldAddr, evLoad, cut, frz, allOne, TIS, CS, reduceAdd, reduceMul, reduceEqDiff, ↓reduceIte, reduceCtorEq, reduceLT, reduceLeDiff, Array.reduceGetElem?, Int.reduceToNat, reduceSub, Nat.reduceBEq, ↓zc1, zg1, zg2, ↓zc2]
     (repeat' apply And.intro) <;> first|rfl|assumption|omega|(simp;done)|(simp;omega)|(simp_all;done)
    refine sA_n ?_
    refine a_ret ?_
    obtain rfl := Option.some.inj H
    refine e_r2 (d := ?zd12) ?_ ?_
    rotate_left
    ·simp only [EVT, resR, single, evLoad, cut, TIS, CS, reduceAdd, reduceEqDiff, ↓reduceIte, reduceCtorEq, reduceLT, reduceLeDiff, reduceSub, Nat.reduceBEq, zc1, zg1, zg2, zc2]
     (repeat' apply And.intro) <;> first | rfl | assumption | omega | (simp; done)
    exact ZZ
end
end Go.Proofs.YtjflkcfafijhfaaGreat
/- Functions of the program as Lean functions, and that they are so; printed by a program of mine. -/
set_option linter.unusedSimpArgs false
set_option linter.unusedVariables false
set_option maxHeartbeats 4000000
set_option maxRecDepth 20000
namespace Go.Proofs.YtjflkcfafijhfaaGreat
open Go.Ab
open Nat (reduceAdd reduceMul reduceEqDiff reduceLT reduceLeDiff reduceSub)
noncomputable section
def chunk_Lose_f (d1 : Disk) (id1 : Int) : Option (Disk × Int) :=
 (chunk_there_f d1 id1).bind fun r1 => cond (r1.2 != 0) (some (d1, r1.2)) ((disk_Write_f d1 id1 []).bind fun r2 => some (r2.1, r2.2))
theorem chunk_Lose_pc {d1 : Disk} {id1 : Int} {r : Disk × Int} (H : chunk_Lose_f d1 id1 = some r) : PC Tryz.prog 50 [.agg (Disk.c d1), .int .i64 id1] (.tup [.agg (Disk.c r.1), .int .i64 r.2]) := by
 refine pcA_of Tryz.func50 (by rfl) (by decide) 23 (by rfl) [.cell 4 44, .tmp 5] (by rfl) ?_
 unfold chunk_Lose_f at H
 simp only [ent]
 refine a_srC _ rfl ?_
 refine a_seq ?_
 refine a_seq ?_
 obtain ⟨r1, zh1, H⟩ := bind_some H
 have zk1 := chunk_there_pc zh1
 refine a_regK _ rfl ?_
 refine sA_n ?_
 refine a_srC _ rfl ?_
 refine a_cnd H (fun zc1 H => ?_) (fun zc1 H => ?_)
 ·refine a_srC _ rfl ?_
  exact a_ret (sA_r RT)
 ·refine a_skip ?_
  refine sA_n ?_
  refine a_seq ?_
  obtain ⟨r2, zh2, H⟩ := bind_some H
  have zk2 := disk_Write_pc zh2
  refine a_regK _ rfl ?_
  refine sA_n ?_
  refine a_ret ?_
  obtain rfl := Option.some.inj H
  refine e_r2 (d := ?zd2) ?_ ?_
  rotate_left
  ·simp only [EVT, resR, single, evLoad, cut, TIS, CS, reduceAdd, reduceEqDiff, ↓reduceIte, reduceCtorEq, reduceLT, reduceLeDiff, reduceSub, Nat.reduceBEq, zc1]
   (repeat' apply And.intro) <;> first | rfl | assumption | omega | (simp; done)
  exact ZZ
end
end Go.Proofs.YtjflkcfafijhfaaGreat
