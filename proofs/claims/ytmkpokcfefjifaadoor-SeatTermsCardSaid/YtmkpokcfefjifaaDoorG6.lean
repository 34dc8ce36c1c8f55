import Derived.Test.YtmkpokcfefjifaaDoorF11
set_option linter.unusedSectionVars false
/- Functions of the program as Lean functions, and that they are so; printed by a program of mine. -/
set_option linter.unusedSimpArgs false
set_option linter.unusedVariables false
namespace Go.Proofs.YtmkpokcfefjifaaDoor
open Go.Ab
open Nat (reduceAdd reduceMul reduceEqDiff reduceLT reduceLeDiff reduceSub)
noncomputable section

def law15_SeatTerms_J2 (r1 : Bool) : Option Bool :=
 some (r1)
def law15_SeatTerms_J6 (k_law15_SeatTerms_L1 : Seat → Int → Option Bool) (r2 : Seat × (List Msg)) (i1 : Int) (v5 : Bool) : Option Bool :=
 cond v5 (some (false)) (k_law15_SeatTerms_L1 r2.1 (IntKind.wrap .i64 (i1 + 1)))
def law15_SeatTerms_J5 (k_law15_SeatTerms_L1 : Seat → Int → Option Bool) (s2 : Seat) (r2 : Seat × (List Msg)) (i1 : Int) (v4 : Bool) : Option Bool :=
 cond v4 (some (false)) (cond (s2.role == 3) (cond (decide ((r2.1.log.length : Int) < (s2.log.length : Int))) (law15_SeatTerms_J6 k_law15_SeatTerms_L1 r2 i1 (r2.1.role == 3)) (chk (0 ≤ 0 ∧ 0 ≤ (s2.log.length : Int) ∧ (s2.log.length : Int) ≤ (r2.1.log.length : Int)) ((ref13_Same_f ((r2.1.log.take (s2.log.length : Int).toNat).drop 0) s2.log).bind fun r3 => law15_SeatTerms_J6 k_law15_SeatTerms_L1 r2 i1 ((!r3) && (r2.1.role == 3))))) (law15_SeatTerms_J6 k_law15_SeatTerms_L1 r2 i1 false))
def law15_SeatTerms_J4 (k_law15_SeatTerms_L1 : Seat → Int → Option Bool) (r2 : Seat × (List Msg)) (s2 : Seat) (i1 : Int) (v3 : Bool) : Option Bool :=
 cond v3 (some (false)) (cond (decide ((r2.1.log.length : Int) < s2.commit)) (law15_SeatTerms_J5 k_law15_SeatTerms_L1 s2 r2 i1 true) (chk (0 ≤ 0 ∧ 0 ≤ s2.commit ∧ s2.commit ≤ (r2.1.log.length : Int)) (chk (0 ≤ 0 ∧ 0 ≤ s2.commit ∧ s2.commit ≤ (s2.log.length : Int)) ((ref13_Same_f ((r2.1.log.take s2.commit.toNat).drop 0) ((s2.log.take s2.commit.toNat).drop 0)).bind fun r4 => law15_SeatTerms_J5 k_law15_SeatTerms_L1 s2 r2 i1 (!r4)))))
def law15_SeatTerms_J3 (k_law15_SeatTerms_L1 : Seat → Int → Option Bool) (r2 : Seat × (List Msg)) (s2 : Seat) (l1 : List Step) (i1 : Int) (v2 : Bool) : Option Bool :=
 cond v2 (some (false)) (cond (r2.1.role == 3) (cond (s2.role != 3) (cond (s2.role != 2) ((idx l1 i1).bind fun x2 => law15_SeatTerms_J4 k_law15_SeatTerms_L1 r2 s2 i1 (x2.do_ != 0)) (law15_SeatTerms_J4 k_law15_SeatTerms_L1 r2 s2 i1 false)) (law15_SeatTerms_J4 k_law15_SeatTerms_L1 r2 s2 i1 false)) (law15_SeatTerms_J4 k_law15_SeatTerms_L1 r2 s2 i1 false))
def law15_SeatTerms_L1 (l1 : List Step) (r1 : Bool) : Nat → Seat → Int → Option Bool
 | 0, _, _ => none
 | m_ + 1, s2, i1 => cond (decide (i1 < (l1.length : Int))) ((idx l1 i1).bind fun x1 => (law15_step_f s2 x1).bind fun r2 => law15_SeatTerms_J3 (law15_SeatTerms_L1 l1 r1 m_) r2 s2 l1 i1 ((decide (r2.1.term < s2.term)) || (cond (r2.1.term == s2.term) (cond (s2.voted != (-1)) ((r2.1.voted != s2.voted) || ((x1.do_ != 3) && (decide (r2.1.commit < s2.commit)))) ((x1.do_ != 3) && (decide (r2.1.commit < s2.commit)))) ((x1.do_ != 3) && (decide (r2.1.commit < s2.commit)))))) (law15_SeatTerms_J2 r1)
def law15_SeatTerms_J1 (r1 : Bool) (l1 : List Step) (s1 : Seat) (v1 : Bool) : Option Bool :=
 cond v1 (some (r1)) (law15_SeatTerms_L1 l1 r1 BIG s1 0)
def law15_SeatTerms_f (s1 : Seat) (l1 : List Step) : Option Bool :=
 (law15_head_f).bind fun r1 => (law15_Great_f s1).bind fun r5 => cond r5 (law15_SeatTerms_J1 r1 l1 s1 true) ((law15_small_f l1).bind fun r6 => cond (!r6) (law15_SeatTerms_J1 r1 l1 s1 true) ((seat_Right_f s1).bind fun r7 => law15_SeatTerms_J1 r1 l1 s1 (!r7)))
set_option maxHeartbeats 4000000 in
set_option maxRecDepth 20000 in
theorem law15_SeatTerms_pc {s1 : Seat} {l1 : List Step} {r : Bool} (H : law15_SeatTerms_f s1 l1 = some r) : PC Tryd.prog 6 [.agg (Seat.c s1), .list 6 (l1.map Step.c)] (.bool r) := by
 refine pcA_of Tryd.func6 (by rfl) (by decide) 149 (by rfl) [.tmp 4] (by rfl) ?_
 unfold law15_SeatTerms_f at H
 simp only [ent]
 refine a_seq ?_
 refine a_regC _ rfl ?_
 refine sA_n ?_
 refine a_seq ?_
 obtain ⟨r1, zh1, H⟩ := bind_some H
 have zk1 := law15_head_pc zh1
 refine a_regK _ rfl ?_
 refine sA_n ?_
 refine a_seq ?_
 refine a_cut (fun s => ∃ (v1 : Bool) (t0 : Nat → Dat), law15_SeatTerms_J1 r1 l1 s1 v1 = some r ∧ s = ⟨tl t0 [(1, .list 6 (l1.map Step.c)), (2, .ptr 0 0 0 10), (5, .bool r1), (21, .bool v1)], hl [⟨25, 10, false, [Seat.c s1]⟩], 1, 149⟩) ?_ ?_
 ·obtain ⟨r5, zh10, H⟩ := bind_some H
  have zk5 := law15_Great_pc zh10
  refine cnd H (fun zc21 H => ?_) (fun zc21 H => ?_)
  ·refine a_regK _ rfl ?_
   refine cA_n ?_
   exact wk_lA [(some 0, _)] [] (fun t0 => ⟨true, t0, H, rfl⟩)
  ·obtain ⟨r6, zh11, H⟩ := bind_some H
   have zk6 := law15_small_pc zh11
   refine cnd H (fun zc22 H => ?_) (fun zc22 H => ?_)
   ·refine a_regK _ rfl ?_
    refine cA_n ?_
    exact wk_lA [(some 0, _)] [] (fun t0 => ⟨true, t0, H, rfl⟩)
   ·obtain ⟨r7, zh12, H⟩ := bind_some H
    have zk7 := seat_Right_pc zh12
    refine a_regK _ rfl ?_
    refine cA_n ?_
    exact wk_lA [(some 0, _)] [] (fun t0 => ⟨(!r7), t0, H, rfl⟩)
 ·rintro s ⟨v1, t0, H, rfl⟩
  unfold law15_SeatTerms_J1 at H
  refine a_cnd H (fun zc1 H => ?_) (fun zc1 H => ?_)
  ·refine a_seq ?_
   refine a_regC _ rfl ?_
   refine sA_n ?_
   exact a_ret (sA_r RT)
  ·refine a_skip ?_
   refine sA_n ?_
   refine a_cut (fun s => ∃ (t0 : Nat → Dat), law15_SeatTerms_J2 r1 = some r ∧ s = ⟨tl t0 [(5, .bool r1)], hl [], 0, 149⟩) ?_ ?_
   ·refine a_seq ?_
    refine a_regC _ rfl ?_
    refine sA_n ?_
    refine a_blk ?_
    refine a_loop (fun m s => ∃ (s2 : Seat) (i1 : Int) (t0 : Nat → Dat), law15_SeatTerms_L1 l1 r1 m s2 i1 = some r ∧ s = ⟨tl t0 [(1, .list 6 (l1.map Step.c)), (2, .ptr 0 0 0 10), (5, .bool r1), (6, .int .i64 i1)], hl [⟨25, 10, false, [Seat.c s2]⟩], 1, 149⟩) BIG ?_ ?_
    ·exact wk_lA [(some 0, _)] [] (fun t0 => ⟨s1, 0, t0, H, rfl⟩)
    ·rintro m_law15_SeatTerms_L1 s ⟨s2, i1, t0, H, rfl⟩
     obtain _ | m_law15_SeatTerms_L1 := m_law15_SeatTerms_L1
     ·cases (show (none : Option _) = some _ from H)
     ·rw [law15_SeatTerms_L1] at H
      refine a_seq ?_
      refine a_seq ?_
      refine a_regC _ rfl ?_
      refine sA_n ?_
      refine a_cnd H (fun zc2 H => ?_) (fun zc2 H => ?_)
      ·refine a_skip ?_
       refine sA_n ?_
       refine a_seq ?_
       refine a_blk ?_
       refine a_seq ?_
       obtain ⟨x1, zh2, H⟩ := bind_some H
       obtain ⟨zg1, zh2a, zh2b⟩ := idx3 (f := Step.c) zh2
       try simp only [Int.reduceToNat, Int.toNat_natCast] at zg1
       obtain ⟨r2, zh3, H⟩ := bind_some H
       have zk2 := law15_step_pc zh3
       refine a_drW (by kernel_rfl) _ rfl (s := ?zs7) (by kernel_rfl) (by kernel_rfl) ?zs7f ?_ ?_ ?_
       rotate_left 2
       ·try refine goS ?_
        repeat' with_reducible apply And.intro
        all_goals try ((with_reducible show CallW _ _ _ _ _ _ _); refine cW_p [] zk2 (fun h2 e => (.cons (.agg' (.cons (.int' rfl) (.cons (.lst _ _ _ (ci_pu .i64) rfl) (.cons (.int' rfl) (.cons (.int' rfl) (.cons (.int' rfl) (.cons (.lst _ _ _ Entry.pu rfl) (.cons (.int' rfl) (.cons (.lst _ _ _ (ci_pu .i64) rfl) (.cons (.lst _ _ _ (ci_pu .i64) rfl) (.cons (.lst _ _ _ (ci_pu .i64) rfl) .nil))))))))))) (.cons (.agg' (.cons (.int' rfl) (.cons (.int' rfl) (.cons (.int' rfl) (.cons (.int' rfl) (.cons (.lst _ _ _ (ci_pu .i64) rfl) (.cons (.lst _ _ _ (ci_pu .u8) rfl) .nil))))))) .nil))) ?_; refine goS ?_)
        all_goals ((repeat' apply And.intro) <;> first|rfl|assumption|omega|(simp;done)|(simp;omega)|(simp_all;done))
       ·kernel_rfl
       refine sA_n ?_
       refine a_seq ?_
       refine a_cut (fun s => ∃ (v2 : Bool) (t0 : Nat → Dat), law15_SeatTerms_J3 (law15_SeatTerms_L1 l1 r1 m_law15_SeatTerms_L1) r2 s2 l1 i1 v2 = some r ∧ s = ⟨tl t0 [(1, .list 6 (l1.map Step.c)), (2, .ptr 0 0 0 10), (5, .bool r1), (6, .int .i64 i1), (7, .ptr 1 0 0 10), (76, .bool v2)], hl [⟨25, 10, false, [Seat.c s2]⟩, ⟨25, 10, false, [Seat.c r2.1]⟩], 2, 149⟩) ?_ ?_
       ·refine bool_split (b := (decide (r2.1.term < s2.term))) (fun zc14 => ?_) (fun zc14 => ?_)
        ·rw [zc14] at H
         refine a_regC _ rfl ?_
         refine cA_n ?_
         exact wk_lA [(some 0, _), (some 42, _)] [] (fun t0 => ⟨true, t0, H, rfl⟩)
        ·rw [zc14] at H
         refine bool_split (b := (r2.1.term == s2.term)) (fun zc15 => ?_) (fun zc15 => ?_)
         ·rw [zc15] at H
          refine bool_split (b := (s2.voted != (-1))) (fun zc16 => ?_) (fun zc16 => ?_)
          ·rw [zc16] at H
           refine bool_split (b := (r2.1.voted != s2.voted)) (fun zc17 => ?_) (fun zc17 => ?_)
           ·rw [zc17] at H
            refine a_regC _ rfl ?_
            refine cA_n ?_
            exact wk_lA [(some 0, _), (some 42, _)] [] (fun t0 => ⟨true, t0, H, rfl⟩)
           ·rw [zc17] at H
            refine bool_split (b := (x1.do_ != 3)) (fun zc18 => ?_) (fun zc18 => ?_)
            ·rw [zc18] at H
             refine a_regC _ rfl ?_
             refine cA_n ?_
             exact wk_lA [(some 0, _), (some 42, _)] [] (fun t0 => ⟨(decide (r2.1.commit < s2.commit)), t0, H, rfl⟩)
            ·rw [zc18] at H
             refine a_regC _ rfl ?_
             refine cA_n ?_
             exact wk_lA [(some 0, _), (some 42, _)] [] (fun t0 => ⟨false, t0, H, rfl⟩)
          ·rw [zc16] at H
           refine bool_split (b := (x1.do_ != 3)) (fun zc19 => ?_) (fun zc19 => ?_)
           ·rw [zc19] at H
            refine a_regC _ rfl ?_
            refine cA_n ?_
            exact wk_lA [(some 0, _), (some 42, _)] [] (fun t0 => ⟨(decide (r2.1.commit < s2.commit)), t0, H, rfl⟩)
           ·rw [zc19] at H
            refine a_regC _ rfl ?_
            refine cA_n ?_
            exact wk_lA [(some 0, _), (some 42, _)] [] (fun t0 => ⟨false, t0, H, rfl⟩)
         ·rw [zc15] at H
          refine bool_split (b := (x1.do_ != 3)) (fun zc20 => ?_) (fun zc20 => ?_)
          ·rw [zc20] at H
           refine a_regC _ rfl ?_
           refine cA_n ?_
           exact wk_lA [(some 0, _), (some 42, _)] [] (fun t0 => ⟨(decide (r2.1.commit < s2.commit)), t0, H, rfl⟩)
          ·rw [zc20] at H
           refine a_regC _ rfl ?_
           refine cA_n ?_
           exact wk_lA [(some 0, _), (some 42, _)] [] (fun t0 => ⟨false, t0, H, rfl⟩)
       ·rintro s ⟨v2, t0, H, rfl⟩
        unfold law15_SeatTerms_J3 at H
        refine a_cnd H (fun zc3 H => ?_) (fun zc3 H => ?_)
        ·refine a_seq ?_
         refine a_regC _ rfl ?_
         refine sA_n ?_
         refine a_ret ?_
         refine sA_r ?_
         refine bA_r ?_
         refine sA_r ?_
         refine lA_r ?_
         refine bA_r ?_
         refine cA_r ?_
         obtain rfl := Option.some.inj H
         refine e_r2 (d := ?zd3) ?_ ?_
         rotate_left
         ·simp only [EVT, resR, single, evLoad, cut, TIS, CS, reduceAdd, reduceEqDiff, ↓reduceIte, reduceCtorEq, reduceLT, reduceLeDiff, reduceSub, Nat.reduceBEq, zc3]
          (repeat' apply And.intro) <;> first | rfl | assumption | omega | (simp; done)
         exact ZZ
        ·refine a_skip ?_
         refine sA_n ?_
         refine a_seq ?_
         refine a_cut (fun s => ∃ (v3 : Bool) (t0 : Nat → Dat), law15_SeatTerms_J4 (law15_SeatTerms_L1 l1 r1 m_law15_SeatTerms_L1) r2 s2 i1 v3 = some r ∧ s = ⟨tl t0 [(1, .list 6 (l1.map Step.c)), (2, .ptr 0 0 0 10), (5, .bool r1), (6, .int .i64 i1), (7, .ptr 1 0 0 10), (97, .bool v3)], hl [⟨25, 10, false, [Seat.c s2]⟩, ⟨25, 10, false, [Seat.c r2.1]⟩], 2, 149⟩) ?_ ?_
         ·refine cnd H (fun zc11 H => ?_) (fun zc11 H => ?_)
          ·refine cnd H (fun zc12 H => ?_) (fun zc12 H => ?_)
           ·refine cnd H (fun zc13 H => ?_) (fun zc13 H => ?_)
            ·obtain ⟨x2, zh9, H⟩ := bind_some H
             obtain ⟨zg2, zh9a, zh9b⟩ := idx3 (f := Step.c) zh9
             try simp only [Int.reduceToNat, Int.toNat_natCast] at zg2
             refine a_regC _ rfl ?_
             refine cA_n ?_
             exact wk_lA [(some 0, _), (some 1, _)] [] (fun t0 => ⟨(x2.do_ != 0), t0, H, rfl⟩)
            ·refine a_regC _ rfl ?_
             refine cA_n ?_
             exact wk_lA [(some 0, _), (some 1, _)] [] (fun t0 => ⟨false, t0, H, rfl⟩)
           ·refine a_regC _ rfl ?_
            refine cA_n ?_
            exact wk_lA [(some 0, _), (some 1, _)] [] (fun t0 => ⟨false, t0, H, rfl⟩)
          ·refine a_regC _ rfl ?_
           refine cA_n ?_
           exact wk_lA [(some 0, _), (some 1, _)] [] (fun t0 => ⟨false, t0, H, rfl⟩)
         ·rintro s ⟨v3, t0, H, rfl⟩
          unfold law15_SeatTerms_J4 at H
          refine a_cnd H (fun zc4 H => ?_) (fun zc4 H => ?_)
          ·refine a_seq ?_
           refine a_regC _ rfl ?_
           refine sA_n ?_
           refine a_ret ?_
           refine sA_r ?_
           refine bA_r ?_
           refine sA_r ?_
           refine lA_r ?_
           refine bA_r ?_
           refine cA_r ?_
           obtain rfl := Option.some.inj H
           refine e_r2 (d := ?zd4) ?_ ?_
           rotate_left
           ·simp only [EVT, resR, single, evLoad, cut, TIS, CS, reduceAdd, reduceEqDiff, ↓reduceIte, reduceCtorEq, reduceLT, reduceLeDiff, reduceSub, Nat.reduceBEq, zc4]
            (repeat' apply And.intro) <;> first | rfl | assumption | omega | (simp; done)
           exact ZZ
          ·refine a_skip ?_
           refine sA_n ?_
           refine a_seq ?_
           refine a_cut (fun s => ∃ (v4 : Bool) (t0 : Nat → Dat), law15_SeatTerms_J5 (law15_SeatTerms_L1 l1 r1 m_law15_SeatTerms_L1) s2 r2 i1 v4 = some r ∧ s = ⟨tl t0 [(1, .list 6 (l1.map Step.c)), (2, .ptr 0 0 0 10), (5, .bool r1), (6, .int .i64 i1), (7, .ptr 1 0 0 10), (117, .bool v4)], hl [⟨25, 10, false, [Seat.c s2]⟩, ⟨25, 10, false, [Seat.c r2.1]⟩], 2, 149⟩) ?_ ?_
           ·refine cnd H (fun zc10 H => ?_) (fun zc10 H => ?_)
            ·refine a_drW (by kernel_rfl) _ rfl (s := ?zs18) (by kernel_rfl) (by kernel_rfl) ?zs18f ?_ ?_ ?_
             rotate_left 2
             ·refine goS ?_
              try refine goS ?_
              (repeat' apply And.intro) <;> first | rfl | assumption | omega | (left; omega) | (simp; done) | (simp; omega) | (right; exact ⟨_, rfl, rfl, rfl, by decide, by first | omega | (simp; omega)⟩) | (simp_all; done)
             ·kernel_rfl
             refine cA_n ?_
             exact wk_lA [(some 0, _), (some 1, _)] [] (fun t0 => ⟨true, t0, H, rfl⟩)
            ·obtain ⟨zh6, H⟩ := chk_some H
             obtain ⟨zh7, H⟩ := chk_some H
             obtain ⟨r4, zh8, H⟩ := bind_some H
             have zk4 := ref13_Same_pc zh8
             refine a_drW (by kernel_rfl) _ rfl (s := ?zs19) (by kernel_rfl) (by kernel_rfl) ?zs19f ?_ ?_ ?_
             rotate_left 2
             ·try simp only [EVT, stepW, evOp, St.ev, St.app, St.put, wrs, evFieldAddr, evLoad, cut, evBuiltin, evBin, binInt, evSlice, sliceOk, sl_if0, sl_if1, sl_if2, sl_if3, tk_map, dp_map, frz, evUn, datOf, datOf1, TIS, CS, reduceAdd, reduceMul, reduceEqDiff, ↓reduceIte, reduceCtorEq, reduceLT, reduceLeDiff, Array.reduceGetElem?, Int.reduceToNat, reduceSub, Nat.reduceBEq, ↓zc4, ↓zc10]
              repeat' with_reducible apply And.intro
              all_goals try ((with_reducible show CallW _ _ _ _ _ _ _); refine cW_s [] zk4 (fun h2 e => (.cons (.lst _ _ _ Entry.pu rfl) (.cons (.lst _ _ _ Entry.pu rfl) .nil))) (.bool _) ?_; simp only [EVT, stepW, evOp, St.ev, St.app, St.put, wrs, evFieldAddr, evLoad, cut, evBuiltin, evBin, binInt, evSlice, sliceOk, sl_if0, sl_if1, sl_if2, sl_if3, tk_map, dp_map, frz, evUn, datOf, datOf1, TIS, CS, reduceAdd, reduceMul, reduceEqDiff, ↓reduceIte, reduceCtorEq, reduceLT, reduceLeDiff, Array.reduceGetElem?, Int.reduceToNat, reduceSub, Nat.reduceBEq, ↓zc4, ↓zc10])
              all_goals ((repeat' apply And.intro) <;> first | rfl | assumption | omega | (left; omega) | (simp; done) | (simp; omega) | (right; exact ⟨_, rfl, rfl, rfl, by decide, by first | omega | (simp; omega)⟩) | (simp_all; done))
             ·kernel_rfl
             refine cA_n ?_
             refine wk_l [(some 0, ⟨25, 10, false, [Seat.c s2]⟩), (some 1, ⟨25, 10, false, [Seat.c r2.1]⟩)] [] [(1, .list 6 (l1.map Step.c)), (2, .ptr 0 0 0 10), (5, .bool r1), (6, .int .i64 i1), (7, .ptr 1 0 0 10), (117, .bool (!r4))] (by show ([1, 2, 5, 6, 7, 117] : List Nat).Nodup; decide) (by show ([0, 1] : List Nat).Nodup; decide) ?_ ?_ (fun t0 => ⟨(!r4), t0, H, rfl⟩)
             ·exact ZZ
             ·exact ZT
           ·rintro s ⟨v4, t0, H, rfl⟩
            unfold law15_SeatTerms_J5 at H
            refine a_cnd H (fun zc5 H => ?_) (fun zc5 H => ?_)
            ·refine a_seq ?_
             refine a_regC _ rfl ?_
             refine sA_n ?_
             refine a_ret ?_
             refine sA_r ?_
             refine bA_r ?_
             refine sA_r ?_
             refine lA_r ?_
             refine bA_r ?_
             refine cA_r ?_
             obtain rfl := Option.some.inj H
             refine e_r2 (d := ?zd5) ?_ ?_
             rotate_left
             ·simp only [EVT, resR, single, evLoad, cut, TIS, CS, reduceAdd, reduceEqDiff, ↓reduceIte, reduceCtorEq, reduceLT, reduceLeDiff, reduceSub, Nat.reduceBEq, zc5]
              (repeat' apply And.intro) <;> first | rfl | assumption | omega | (simp; done)
             exact ZZ
            ·refine a_skip ?_
             refine sA_n ?_
             refine a_seq ?_
             refine a_cut (fun s => ∃ (v5 : Bool) (t0 : Nat → Dat), law15_SeatTerms_J6 (law15_SeatTerms_L1 l1 r1 m_law15_SeatTerms_L1) r2 i1 v5 = some r ∧ s = ⟨tl t0 [(1, .list 6 (l1.map Step.c)), (2, .ptr 0 0 0 10), (5, .bool r1), (6, .int .i64 i1), (7, .ptr 1 0 0 10), (146, .bool v5)], hl [⟨25, 10, false, [Seat.c s2]⟩, ⟨25, 10, false, [Seat.c r2.1]⟩], 2, 149⟩) ?_ ?_
             ·refine cnd H (fun zc7 H => ?_) (fun zc7 H => ?_)
              ·refine cnd H (fun zc8 H => ?_) (fun zc8 H => ?_)
               ·refine a_drW (by kernel_rfl) _ rfl (s := ?zs14) (by kernel_rfl) (by kernel_rfl) ?zs14f ?_ ?_ ?_
                rotate_left 2
                ·refine goS ?_
                 try refine goS ?_
                 (repeat' apply And.intro) <;> first | rfl | assumption | omega | (left; omega) | (simp; done) | (simp; omega) | (right; exact ⟨_, rfl, rfl, rfl, by decide, by first | omega | (simp; omega)⟩) | (simp_all; done)
                ·kernel_rfl
                refine cA_n ?_
                exact wk_lA [(some 0, _), (some 1, _)] [] (fun t0 => ⟨(r2.1.role == 3), t0, H, rfl⟩)
               ·obtain ⟨zh4, H⟩ := chk_some H
                obtain ⟨r3, zh5, H⟩ := bind_some H
                have zk3 := ref13_Same_pc zh5
                refine bool_split (b := (!r3)) (fun zc9 => ?_) (fun zc9 => ?_)
                ·rw [zc9] at H
                 refine a_drW (by kernel_rfl) _ rfl (s := ?zs15) (by kernel_rfl) (by kernel_rfl) ?zs15f ?_ ?_ ?_
                 rotate_left 2
                 ·try simp only [EVT, stepW, evOp, St.ev, St.app, St.put, wrs, evFieldAddr, evLoad, cut, datOf, datOf1, evBin, binInt, evBuiltin, evSlice, sliceOk, sl_if0, sl_if1, sl_if2, sl_if3, tk_map, dp_map, frz, evUn, TIS, CS, reduceAdd, reduceMul, reduceEqDiff, ↓reduceIte, reduceCtorEq, reduceLT, reduceLeDiff, Array.reduceGetElem?, Int.reduceToNat, reduceSub, Nat.reduceBEq, ↓zc5, ↓zc7, ↓zc8, ↓zc9]
                  repeat' with_reducible apply And.intro
                  all_goals try ((with_reducible show CallW _ _ _ _ _ _ _); refine cW_s [] zk3 (fun h2 e => (.cons (.lst _ _ _ Entry.pu rfl) (.cons (.lst _ _ _ Entry.pu rfl) .nil))) (.bool _) ?_; simp only [EVT, stepW, evOp, St.ev, St.app, St.put, wrs, evFieldAddr, evLoad, cut, datOf, datOf1, evBin, binInt, evBuiltin, evSlice, sliceOk, sl_if0, sl_if1, sl_if2, sl_if3, tk_map, dp_map, frz, evUn, TIS, CS, reduceAdd, reduceMul, reduceEqDiff, ↓reduceIte, reduceCtorEq, reduceLT, reduceLeDiff, Array.reduceGetElem?, Int.reduceToNat, reduceSub, Nat.reduceBEq, ↓zc5, ↓zc7, ↓zc8, ↓zc9])
                  all_goals ((repeat' apply And.intro) <;> first | rfl | assumption | omega | (left; omega) | (simp; done) | (simp; omega) | (right; exact ⟨_, rfl, rfl, rfl, by decide, by first | omega | (simp; omega)⟩) | (simp_all; done))
                 ·kernel_rfl
                 refine cA_n ?_
                 refine wk_l [(some 0, ⟨25, 10, false, [Seat.c s2]⟩), (some 1, ⟨25, 10, false, [Seat.c r2.1]⟩)] [] [(1, .list 6 (l1.map Step.c)), (2, .ptr 0 0 0 10), (5, .bool r1), (6, .int .i64 i1), (7, .ptr 1 0 0 10), (146, .bool (r2.1.role == 3))] (by show ([1, 2, 5, 6, 7, 146] : List Nat).Nodup; decide) (by show ([0, 1] : List Nat).Nodup; decide) ?_ ?_ (fun t0 => ⟨(r2.1.role == 3), t0, H, rfl⟩)
                 ·exact ZZ
                 ·exact ZT
                ·rw [zc9] at H
                 refine a_drW (by kernel_rfl) _ rfl (s := ?zs16) (by kernel_rfl) (by kernel_rfl) ?zs16f ?_ ?_ ?_
                 rotate_left 2
                 ·try simp only [EVT, stepW, evOp, St.ev, St.app, St.put, wrs, evFieldAddr, evLoad, cut, datOf, datOf1, evBin, binInt, evBuiltin, evSlice, sliceOk, sl_if0, sl_if1, sl_if2, sl_if3, tk_map, dp_map, frz, evUn, TIS, CS, reduceAdd, reduceMul, reduceEqDiff, ↓reduceIte, reduceCtorEq, reduceLT, reduceLeDiff, Array.reduceGetElem?, Int.reduceToNat, reduceSub, Nat.reduceBEq, ↓zc5, ↓zc7, ↓zc8, ↓zc9]
                  repeat' with_reducible apply And.intro
                  all_goals try ((with_reducible show CallW _ _ _ _ _ _ _); refine cW_s [] zk3 (fun h2 e => (.cons (.lst _ _ _ Entry.pu rfl) (.cons (.lst _ _ _ Entry.pu rfl) .nil))) (.bool _) ?_; simp only [EVT, stepW, evOp, St.ev, St.app, St.put, wrs, evFieldAddr, evLoad, cut, datOf, datOf1, evBin, binInt, evBuiltin, evSlice, sliceOk, sl_if0, sl_if1, sl_if2, sl_if3, tk_map, dp_map, frz, evUn, TIS, CS, reduceAdd, reduceMul, reduceEqDiff, ↓reduceIte, reduceCtorEq, reduceLT, reduceLeDiff, Array.reduceGetElem?, Int.reduceToNat, reduceSub, Nat.reduceBEq, ↓zc5, ↓zc7, ↓zc8, ↓zc9])
                  all_goals ((repeat' apply And.intro) <;> first | rfl | assumption | omega | (left; omega) | (simp; done) | (simp; omega) | (right; exact ⟨_, rfl, rfl, rfl, by decide, by first | omega | (simp; omega)⟩) | (simp_all; done))
                 ·kernel_rfl
                 refine cA_n ?_
                 refine wk_l [(some 0, ⟨25, 10, false, [Seat.c s2]⟩), (some 1, ⟨25, 10, false, [Seat.c r2.1]⟩)] [] [(1, .list 6 (l1.map Step.c)), (2, .ptr 0 0 0 10), (5, .bool r1), (6, .int .i64 i1), (7, .ptr 1 0 0 10), (146, .bool false)] (by show ([1, 2, 5, 6, 7, 146] : List Nat).Nodup; decide) (by show ([0, 1] : List Nat).Nodup; decide) ?_ ?_ (fun t0 => ⟨false, t0, H, rfl⟩)
                 ·exact ZZ
                 ·exact ZT
              ·refine a_drW (by kernel_rfl) _ rfl (s := ?zs17) (by kernel_rfl) (by kernel_rfl) ?zs17f ?_ ?_ ?_
               rotate_left 2
               ·refine goS ?_
                try refine goS ?_
                (repeat' apply And.intro) <;> first | rfl | assumption | omega | (left; omega) | (simp; done) | (simp; omega) | (right; exact ⟨_, rfl, rfl, rfl, by decide, by first | omega | (simp; omega)⟩) | (simp_all; done)
               ·kernel_rfl
               refine cA_n ?_
               exact wk_lA [(some 0, _), (some 1, _)] [] (fun t0 => ⟨false, t0, H, rfl⟩)
             ·rintro s ⟨v5, t0, H, rfl⟩
              unfold law15_SeatTerms_J6 at H
              refine a_cnd H (fun zc6 H => ?_) (fun zc6 H => ?_)
              ·refine a_seq ?_
               refine a_regC _ rfl ?_
               refine sA_n ?_
               refine a_ret ?_
               refine sA_r ?_
               refine bA_r ?_
               refine sA_r ?_
               refine lA_r ?_
               refine bA_r ?_
               refine cA_r ?_
               obtain rfl := Option.some.inj H
               refine e_r2 (d := ?zd6) ?_ ?_
               rotate_left
               ·simp only [EVT, resR, single, evLoad, cut, TIS, CS, reduceAdd, reduceEqDiff, ↓reduceIte, reduceCtorEq, reduceLT, reduceLeDiff, reduceSub, Nat.reduceBEq, zc6]
                (repeat' apply And.intro) <;> first | rfl | assumption | omega | (simp; done)
               exact ZZ
              ·refine a_skip ?_
               refine sA_n ?_
               refine a_regC _ rfl ?_
               refine bA_n ?_
               refine sA_n ?_
               refine a_regC _ rfl ?_
               refine lA_n ?_
               exact wk_lA [(some 0, _)] [] (fun t0 => ⟨_, Nat.lt_succ_self _, r2.1, (IntKind.wrap .i64 (i1 + 1)), t0, H, rfl⟩)
      ·refine a_exit ?_
       refine sA_e ?_
       refine lA_e ?_
       refine bA_hit ?_
       refine cA_n ?_
       exact wk_lA [] [] (fun t0 => ⟨t0, H, rfl⟩)
   ·rintro s ⟨t0, H, rfl⟩
    unfold law15_SeatTerms_J2 at H
    refine a_seq ?_
    refine a_regC _ rfl ?_
    refine sA_n ?_
    refine a_ret ?_
    obtain rfl := Option.some.inj H
    refine e_r2 (d := ?zd2) ?_ ?_
    rotate_left
    ·simp only [EVT, resR, single, evLoad, cut, TIS, CS, reduceAdd, reduceEqDiff, ↓reduceIte, reduceCtorEq, reduceLT, reduceLeDiff, reduceSub, Nat.reduceBEq]
     (repeat' apply And.intro) <;> first | rfl | assumption | omega | (simp; done)
    exact ZZ
end
end Go.Proofs.YtmkpokcfefjifaaDoor
