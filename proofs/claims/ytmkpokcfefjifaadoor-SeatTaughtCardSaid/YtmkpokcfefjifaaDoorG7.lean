import Derived.Test.YtmkpokcfefjifaaDoorF11
set_option linter.unusedSectionVars false
/- Functions of the program as Lean functions, and that they are so; printed by a program of mine. -/
set_option linter.unusedSimpArgs false
set_option linter.unusedVariables false
namespace Go.Proofs.YtmkpokcfefjifaaDoor
open Go.Ab
open Nat (reduceAdd reduceMul reduceEqDiff reduceLT reduceLeDiff reduceSub)
noncomputable section

def law15_SeatTaught_J4 (r1 : Bool) (r3 : Int) (leader2 : Seat) (s2 : Seat) : Option Bool :=
 cond r1 (cond (leader2.role == 3) ((idx leader2.match_ r3).bind fun x1 => cond (x1 == (leader2.log.length : Int)) (cond (decide ((leader2.log.length : Int) ≤ (s2.log.length : Int))) (chk (0 ≤ 0 ∧ 0 ≤ (leader2.log.length : Int) ∧ (leader2.log.length : Int) ≤ (s2.log.length : Int)) ((ref13_Same_f ((s2.log.take (leader2.log.length : Int).toNat).drop 0) leader2.log).bind fun r4 => some (r4 && (s2.term == leader2.term)))) (some (false))) (some (false))) (some (false))) (some (false))
def law15_SeatTaught_J5 (k_law15_SeatTaught_L1 : Seat → Seat → Int → Option Bool) (k1 : Int) (leader4 : Seat) (s4 : Seat) : Option Bool :=
 k_law15_SeatTaught_L1 leader4 s4 (IntKind.wrap .i64 (k1 + 1))
def law15_SeatTaught_J6 (k_law15_SeatTaught_L1 : Seat → Seat → Int → Option Bool) (r3 : Int) (r1 : Bool) (k1 : Int) (leader5 : Seat) (s5 : Seat) : Option Bool :=
 (idx leader5.match_ r3).bind fun x2 => cond (x2 == (leader5.log.length : Int)) (law15_SeatTaught_J4 r1 r3 leader5 s5) (law15_SeatTaught_J5 k_law15_SeatTaught_L1 k1 leader5 s5)
def law15_SeatTaught_J7 (k_law15_SeatTaught_L2 : Seat → Seat → Int → Option Bool) (n1 : Int) (leader7 : Seat) (s7 : Seat) : Option Bool :=
 k_law15_SeatTaught_L2 leader7 s7 (IntKind.wrap .i64 (n1 + 1))
def law15_SeatTaught_L2 (k_law15_SeatTaught_L1 : Seat → Seat → Int → Option Bool) (r5 : Seat × (List Msg)) (r3 : Int) (r1 : Bool) (k1 : Int) : Nat → Seat → Seat → Int → Option Bool
 | 0, _, _, _ => none
 | m_ + 1, leader6, s6, n1 => cond (decide (n1 < (r5.2.length : Int))) ((idx r5.2 n1).bind fun x3 => cond (x3.to_ != s6.id) (law15_SeatTaught_J7 (law15_SeatTaught_L2 k_law15_SeatTaught_L1 r5 r3 r1 k1 m_) n1 leader6 s6) ((seat_Hear_f s6 x3).bind fun r6 => cond ((r6.2.length : Int) != 1) (some (false)) ((idx r6.2 0).bind fun x4 => (seat_Hear_f leader6 x4).bind fun r7 => law15_SeatTaught_J7 (law15_SeatTaught_L2 k_law15_SeatTaught_L1 r5 r3 r1 k1 m_) n1 r7.1 r6.1))) (law15_SeatTaught_J6 k_law15_SeatTaught_L1 r3 r1 k1 leader6 s6)
def law15_SeatTaught_L1 (r3 : Int) (r1 : Bool) : Nat → Seat → Seat → Int → Option Bool
 | 0, _, _, _ => none
 | m_ + 1, leader3, s3, k1 => cond (decide (k1 < (IntKind.wrap .i64 ((IntKind.wrap .i64 (3 * (leader3.log.length : Int))) + 5)))) ((seat_Beat_f leader3).bind fun r5 => cond ((r5.2.length : Int) != (IntKind.wrap .i64 ((leader3.peers.length : Int) - 1))) (some (false)) (law15_SeatTaught_L2 (law15_SeatTaught_L1 r3 r1 m_) r5 r3 r1 k1 BIG leader3 s3 0)) (law15_SeatTaught_J4 r1 r3 leader3 s3)
def law15_SeatTaught_J3 (r1 : Bool) (r3 : Int) (leader1 : Seat) (s1 : Seat) (v3 : Bool) : Option Bool :=
 cond v3 (some (r1)) (law15_SeatTaught_L1 r3 r1 BIG leader1 s1 0)
def law15_SeatTaught_J2 (r1 : Bool) (s1 : Seat) (leader1 : Seat) (v2 : Bool) : Option Bool :=
 cond v2 (some (r1)) ((ref13_Meet_f s1.log leader1.log).bind fun r2 => cond (!r2) (some (r1)) ((ref15_Place_f leader1.peers s1.id).bind fun r3 => (idx leader1.match_ r3).bind fun x5 => cond (decide ((s1.log.length : Int) < x5)) (law15_SeatTaught_J3 r1 r3 leader1 s1 true) (chk (0 ≤ 0 ∧ 0 ≤ x5 ∧ x5 ≤ (s1.log.length : Int)) (chk (0 ≤ 0 ∧ 0 ≤ x5 ∧ x5 ≤ (leader1.log.length : Int)) ((ref13_Same_f ((s1.log.take x5.toNat).drop 0) ((leader1.log.take x5.toNat).drop 0)).bind fun r8 => law15_SeatTaught_J3 r1 r3 leader1 s1 (!r8))))))
def law15_SeatTaught_J1 (r1 : Bool) (leader1 : Seat) (s1 : Seat) (v1 : Bool) : Option Bool :=
 cond v1 (some (r1)) (cond (decide ((leader1.log.length : Int) < s1.commit)) (law15_SeatTaught_J2 r1 s1 leader1 true) (chk (0 ≤ 0 ∧ 0 ≤ s1.commit ∧ s1.commit ≤ (s1.log.length : Int)) (chk (0 ≤ 0 ∧ 0 ≤ s1.commit ∧ s1.commit ≤ (leader1.log.length : Int)) ((ref13_Same_f ((s1.log.take s1.commit.toNat).drop 0) ((leader1.log.take s1.commit.toNat).drop 0)).bind fun r9 => law15_SeatTaught_J2 r1 s1 leader1 (!r9)))))
def law15_SeatTaught_f (leader1 : Seat) (s1 : Seat) : Option Bool :=
 (law15_head_f).bind fun r1 => (law15_Great_f leader1).bind fun r10 => cond r10 (law15_SeatTaught_J1 r1 leader1 s1 true) ((law15_Great_f s1).bind fun r11 => cond r11 (law15_SeatTaught_J1 r1 leader1 s1 true) ((seat_Right_f leader1).bind fun r12 => cond (!r12) (law15_SeatTaught_J1 r1 leader1 s1 true) ((seat_Right_f s1).bind fun r13 => cond (!r13) (law15_SeatTaught_J1 r1 leader1 s1 true) (cond (leader1.role != 3) (law15_SeatTaught_J1 r1 leader1 s1 true) (cond (s1.id == leader1.id) (law15_SeatTaught_J1 r1 leader1 s1 true) ((ref14_Ints_f s1.peers leader1.peers).bind fun r14 => law15_SeatTaught_J1 r1 leader1 s1 ((!r14) || ((decide (leader1.term < s1.term)) || ((s1.term == leader1.term) && (s1.role == 3))))))))))
set_option maxHeartbeats 4000000 in
set_option maxRecDepth 20000 in
theorem law15_SeatTaught_pc {leader1 : Seat} {s1 : Seat} {r : Bool} (H : law15_SeatTaught_f leader1 s1 = some r) : PC Tryd.prog 7 [.agg (Seat.c leader1), .agg (Seat.c s1)] (.bool r) := by
 refine pcA_of Tryd.func7 (by rfl) (by decide) 243 (by rfl) [.tmp 4] (by rfl) ?_
 unfold law15_SeatTaught_f at H
 simp only [ent]
 refine a_seq ?_
 refine a_regC _ rfl ?_
 refine sA_n ?_
 refine a_seq ?_
 obtain ⟨r1, zh1, H⟩ := bind_some H
 have zk1 := law15_head_pc zh1
 refine a_regK _ rfl ?_
 refine sA_n ?_
 refine a_seq ?_
 refine a_cut (fun s => ∃ (v1 : Bool) (t0 : Nat → Dat), law15_SeatTaught_J1 r1 leader1 s1 v1 = some r ∧ s = ⟨tl t0 [(2, .ptr 0 0 0 10), (3, .ptr 1 0 0 10), (5, .bool r1), (71, .bool v1)], hl [⟨25, 10, false, [Seat.c leader1]⟩, ⟨25, 10, false, [Seat.c s1]⟩], 2, 243⟩) ?_ ?_
 ·obtain ⟨r10, zh20, H⟩ := bind_some H
  have zk10 := law15_Great_pc zh20
  refine cnd H (fun zc18 H => ?_) (fun zc18 H => ?_)
  ·refine a_regK _ rfl ?_
   refine cA_n ?_
   exact wk_lA [(some 0, _), (some 1, _)] [] (fun t0 => ⟨true, t0, H, rfl⟩)
  ·obtain ⟨r11, zh21, H⟩ := bind_some H
   have zk11 := law15_Great_pc zh21
   refine cnd H (fun zc19 H => ?_) (fun zc19 H => ?_)
   ·refine a_reg _ rfl (s := ?zs37) ?_ ?_
    rotate_left
    ·try refine goS ?_
     repeat' with_reducible apply And.intro
     all_goals try ((with_reducible show CallR _ _ _ _ _ _ _); refine cR_s zk10 ZZ (.bool _) ?_; refine goS ?_)
     repeat' with_reducible apply And.intro
     all_goals try ((with_reducible show CallR _ _ _ _ _ _ _); refine cR_s zk11 ZZ (.bool _) ?_; refine goS ?_)
     all_goals ((repeat' apply And.intro) <;> first|rfl|assumption|omega|(simp;done)|(simp;omega)|(simp_all;done))
    refine cA_n ?_
    exact wk_lA [(some 0, _), (some 1, _)] [] (fun t0 => ⟨true, t0, H, rfl⟩)
   ·obtain ⟨r12, zh22, H⟩ := bind_some H
    have zk12 := seat_Right_pc zh22
    refine cnd H (fun zc20 H => ?_) (fun zc20 H => ?_)
    ·refine a_reg _ rfl (s := ?zs38) ?_ ?_
     rotate_left
     ·try refine goS ?_
      repeat' with_reducible apply And.intro
      all_goals try ((with_reducible show CallR _ _ _ _ _ _ _); refine cR_s zk10 ZZ (.bool _) ?_; refine goS ?_)
      repeat' with_reducible apply And.intro
      all_goals try ((with_reducible show CallR _ _ _ _ _ _ _); refine cR_s zk11 ZZ (.bool _) ?_; refine goS ?_)
      repeat' with_reducible apply And.intro
      all_goals try ((with_reducible show CallR _ _ _ _ _ _ _); refine cR_s zk12 ZZ (.bool _) ?_; refine goS ?_)
      all_goals ((repeat' apply And.intro) <;> first|rfl|assumption|omega|(simp;done)|(simp;omega)|(simp_all;done))
     refine cA_n ?_
     exact wk_lA [(some 0, _), (some 1, _)] [] (fun t0 => ⟨true, t0, H, rfl⟩)
    ·obtain ⟨r13, zh23, H⟩ := bind_some H
     have zk13 := seat_Right_pc zh23
     refine cnd H (fun zc21 H => ?_) (fun zc21 H => ?_)
     ·refine a_reg _ rfl (s := ?zs39) ?_ ?_
      rotate_left
      ·try refine goS ?_
       repeat' with_reducible apply And.intro
       all_goals try ((with_reducible show CallR _ _ _ _ _ _ _); refine cR_s zk10 ZZ (.bool _) ?_; refine goS ?_)
       repeat' with_reducible apply And.intro
       all_goals try ((with_reducible show CallR _ _ _ _ _ _ _); refine cR_s zk11 ZZ (.bool _) ?_; refine goS ?_)
       repeat' with_reducible apply And.intro
       all_goals try ((with_reducible show CallR _ _ _ _ _ _ _); refine cR_s zk12 ZZ (.bool _) ?_; refine goS ?_)
       repeat' with_reducible apply And.intro
       all_goals try ((with_reducible show CallR _ _ _ _ _ _ _); refine cR_s zk13 ZZ (.bool _) ?_; refine goS ?_)
       all_goals ((repeat' apply And.intro) <;> first|rfl|assumption|omega|(simp;done)|(simp;omega)|(simp_all;done))
      refine cA_n ?_
      exact wk_lA [(some 0, _), (some 1, _)] [] (fun t0 => ⟨true, t0, H, rfl⟩)
     ·refine cnd H (fun zc22 H => ?_) (fun zc22 H => ?_)
      ·refine a_reg _ rfl (s := ?zs40) ?_ ?_
       rotate_left
       ·try refine goS ?_
        repeat' with_reducible apply And.intro
        all_goals try ((with_reducible show CallR _ _ _ _ _ _ _); refine cR_s zk10 ZZ (.bool _) ?_; refine goS ?_)
        repeat' with_reducible apply And.intro
        all_goals try ((with_reducible show CallR _ _ _ _ _ _ _); refine cR_s zk11 ZZ (.bool _) ?_; refine goS ?_)
        repeat' with_reducible apply And.intro
        all_goals try ((with_reducible show CallR _ _ _ _ _ _ _); refine cR_s zk12 ZZ (.bool _) ?_; refine goS ?_)
        repeat' with_reducible apply And.intro
        all_goals try ((with_reducible show CallR _ _ _ _ _ _ _); refine cR_s zk13 ZZ (.bool _) ?_; refine goS ?_)
        all_goals ((repeat' apply And.intro) <;> first|rfl|assumption|omega|(simp;done)|(simp;omega)|(simp_all;done))
       refine cA_n ?_
       exact wk_lA [(some 0, _), (some 1, _)] [] (fun t0 => ⟨true, t0, H, rfl⟩)
      ·refine cnd H (fun zc23 H => ?_) (fun zc23 H => ?_)
       ·refine a_reg _ rfl (s := ?zs41) ?_ ?_
        rotate_left
        ·try refine goS ?_
         repeat' with_reducible apply And.intro
         all_goals try ((with_reducible show CallR _ _ _ _ _ _ _); refine cR_s zk10 ZZ (.bool _) ?_; refine goS ?_)
         repeat' with_reducible apply And.intro
         all_goals try ((with_reducible show CallR _ _ _ _ _ _ _); refine cR_s zk11 ZZ (.bool _) ?_; refine goS ?_)
         repeat' with_reducible apply And.intro
         all_goals try ((with_reducible show CallR _ _ _ _ _ _ _); refine cR_s zk12 ZZ (.bool _) ?_; refine goS ?_)
         repeat' with_reducible apply And.intro
         all_goals try ((with_reducible show CallR _ _ _ _ _ _ _); refine cR_s zk13 ZZ (.bool _) ?_; refine goS ?_)
         all_goals ((repeat' apply And.intro) <;> first|rfl|assumption|omega|(simp;done)|(simp;omega)|(simp_all;done))
        refine cA_n ?_
        exact wk_lA [(some 0, _), (some 1, _)] [] (fun t0 => ⟨true, t0, H, rfl⟩)
       ·obtain ⟨r14, zh24, H⟩ := bind_some H
        have zk14 := ref14_Ints_pc zh24
        refine bool_split (b := (!r14)) (fun zc24 => ?_) (fun zc24 => ?_)
        ·rw [zc24] at H
         refine a_reg _ rfl (s := ?zs42) ?_ ?_
         rotate_left
         ·try refine goS ?_
          repeat' with_reducible apply And.intro
          all_goals try ((with_reducible show CallR _ _ _ _ _ _ _); refine cR_s zk10 ZZ (.bool _) ?_; refine goS ?_)
          repeat' with_reducible apply And.intro
          all_goals try ((with_reducible show CallR _ _ _ _ _ _ _); refine cR_s zk11 ZZ (.bool _) ?_; refine goS ?_)
          repeat' with_reducible apply And.intro
          all_goals try ((with_reducible show CallR _ _ _ _ _ _ _); refine cR_s zk12 ZZ (.bool _) ?_; refine goS ?_)
          repeat' with_reducible apply And.intro
          all_goals try ((with_reducible show CallR _ _ _ _ _ _ _); refine cR_s zk13 ZZ (.bool _) ?_; refine goS ?_)
          repeat' with_reducible apply And.intro
          all_goals try ((with_reducible show CallR _ _ _ _ _ _ _); refine cR_s zk14 ZZ (.bool _) ?_; refine goS ?_)
          all_goals ((repeat' apply And.intro) <;> first|rfl|assumption|omega|(simp;done)|(simp;omega)|(simp_all;done))
         refine cA_n ?_
         exact wk_lA [(some 0, _), (some 1, _)] [] (fun t0 => ⟨true, t0, H, rfl⟩)
        ·rw [zc24] at H
         refine bool_split (b := (decide (leader1.term < s1.term))) (fun zc25 => ?_) (fun zc25 => ?_)
         ·rw [zc25] at H
          refine a_reg _ rfl (s := ?zs43) ?_ ?_
          rotate_left
          ·try refine goS ?_
           repeat' with_reducible apply And.intro
           all_goals try ((with_reducible show CallR _ _ _ _ _ _ _); refine cR_s zk10 ZZ (.bool _) ?_; refine goS ?_)
           repeat' with_reducible apply And.intro
           all_goals try ((with_reducible show CallR _ _ _ _ _ _ _); refine cR_s zk11 ZZ (.bool _) ?_; refine goS ?_)
           repeat' with_reducible apply And.intro
           all_goals try ((with_reducible show CallR _ _ _ _ _ _ _); refine cR_s zk12 ZZ (.bool _) ?_; refine goS ?_)
           repeat' with_reducible apply And.intro
           all_goals try ((with_reducible show CallR _ _ _ _ _ _ _); refine cR_s zk13 ZZ (.bool _) ?_; refine goS ?_)
           repeat' with_reducible apply And.intro
           all_goals try ((with_reducible show CallR _ _ _ _ _ _ _); refine cR_s zk14 ZZ (.bool _) ?_; refine goS ?_)
           all_goals ((repeat' apply And.intro) <;> first|rfl|assumption|omega|(simp;done)|(simp;omega)|(simp_all;done))
          refine cA_n ?_
          exact wk_lA [(some 0, _), (some 1, _)] [] (fun t0 => ⟨true, t0, H, rfl⟩)
         ·rw [zc25] at H
          refine bool_split (b := (s1.term == leader1.term)) (fun zc26 => ?_) (fun zc26 => ?_)
          ·rw [zc26] at H
           refine a_reg _ rfl (s := ?zs44) ?_ ?_
           rotate_left
           ·try refine goS ?_
            repeat' with_reducible apply And.intro
            all_goals try ((with_reducible show CallR _ _ _ _ _ _ _); refine cR_s zk10 ZZ (.bool _) ?_; refine goS ?_)
            repeat' with_reducible apply And.intro
            all_goals try ((with_reducible show CallR _ _ _ _ _ _ _); refine cR_s zk11 ZZ (.bool _) ?_; refine goS ?_)
            repeat' with_reducible apply And.intro
            all_goals try ((with_reducible show CallR _ _ _ _ _ _ _); refine cR_s zk12 ZZ (.bool _) ?_; refine goS ?_)
            repeat' with_reducible apply And.intro
            all_goals try ((with_reducible show CallR _ _ _ _ _ _ _); refine cR_s zk13 ZZ (.bool _) ?_; refine goS ?_)
            repeat' with_reducible apply And.intro
            all_goals try ((with_reducible show CallR _ _ _ _ _ _ _); refine cR_s zk14 ZZ (.bool _) ?_; refine goS ?_)
            all_goals ((repeat' apply And.intro) <;> first|rfl|assumption|omega|(simp;done)|(simp;omega)|(simp_all;done))
           refine cA_n ?_
           exact wk_lA [(some 0, _), (some 1, _)] [] (fun t0 => ⟨(s1.role == 3), t0, H, rfl⟩)
          ·rw [zc26] at H
           refine a_reg _ rfl (s := ?zs45) ?_ ?_
           rotate_left
           ·try refine goS ?_
            repeat' with_reducible apply And.intro
            all_goals try ((with_reducible show CallR _ _ _ _ _ _ _); refine cR_s zk10 ZZ (.bool _) ?_; refine goS ?_)
            repeat' with_reducible apply And.intro
            all_goals try ((with_reducible show CallR _ _ _ _ _ _ _); refine cR_s zk11 ZZ (.bool _) ?_; refine goS ?_)
            repeat' with_reducible apply And.intro
            all_goals try ((with_reducible show CallR _ _ _ _ _ _ _); refine cR_s zk12 ZZ (.bool _) ?_; refine goS ?_)
            repeat' with_reducible apply And.intro
            all_goals try ((with_reducible show CallR _ _ _ _ _ _ _); refine cR_s zk13 ZZ (.bool _) ?_; refine goS ?_)
            repeat' with_reducible apply And.intro
            all_goals try ((with_reducible show CallR _ _ _ _ _ _ _); refine cR_s zk14 ZZ (.bool _) ?_; refine goS ?_)
            all_goals ((repeat' apply And.intro) <;> first|rfl|assumption|omega|(simp;done)|(simp;omega)|(simp_all;done))
           refine cA_n ?_
           exact wk_lA [(some 0, _), (some 1, _)] [] (fun t0 => ⟨false, t0, H, rfl⟩)
 ·rintro s ⟨v1, t0, H, rfl⟩
  unfold law15_SeatTaught_J1 at H
  refine a_cnd H (fun zc1 H => ?_) (fun zc1 H => ?_)
  ·refine a_seq ?_
   refine a_regC _ rfl ?_
   refine sA_n ?_
   exact a_ret (sA_r RT)
  ·refine a_skip ?_
   refine sA_n ?_
   refine a_seq ?_
   refine a_cut (fun s => ∃ (v2 : Bool) (t0 : Nat → Dat), law15_SeatTaught_J2 r1 s1 leader1 v2 = some r ∧ s = ⟨tl t0 [(2, .ptr 0 0 0 10), (3, .ptr 1 0 0 10), (5, .bool r1), (92, .bool v2)], hl [⟨25, 10, false, [Seat.c leader1]⟩, ⟨25, 10, false, [Seat.c s1]⟩], 2, 243⟩) ?_ ?_
   ·refine cnd H (fun zc17 H => ?_) (fun zc17 H => ?_)
    ·refine a_drW (by kernel_rfl) _ rfl (s := ?zs34) (by kernel_rfl) (by kernel_rfl) ?zs34f ?_ ?_ ?_
     rotate_left 2
     ·refine goS ?_
      try refine goS ?_
      (repeat' apply And.intro) <;> first | rfl | assumption | omega | (left; omega) | (simp; done) | (simp; omega) | (right; exact ⟨_, rfl, rfl, rfl, by decide, by first | omega | (simp; omega)⟩) | (simp_all; done)
     ·kernel_rfl
     refine cA_n ?_
     exact wk_lA [(some 0, _), (some 1, _)] [] (fun t0 => ⟨true, t0, H, rfl⟩)
    ·obtain ⟨zh17, H⟩ := chk_some H
     obtain ⟨zh18, H⟩ := chk_some H
     obtain ⟨r9, zh19, H⟩ := bind_some H
     have zk9 := ref13_Same_pc zh19
     refine a_drW (by kernel_rfl) _ rfl (s := ?zs35) (by kernel_rfl) (by kernel_rfl) ?zs35f ?_ ?_ ?_
     rotate_left 2
     ·try simp only [EVT, stepW, evOp, St.ev, St.app, St.put, wrs, evFieldAddr, evLoad, cut, evBuiltin, evBin, binInt, evSlice, sliceOk, sl_if0, sl_if1, sl_if2, sl_if3, tk_map, dp_map, frz, evUn, datOf, datOf1, TIS, CS, reduceAdd, reduceMul, reduceEqDiff, ↓reduceIte, reduceCtorEq, reduceLT, reduceLeDiff, Array.reduceGetElem?, Int.reduceToNat, reduceSub, Nat.reduceBEq, ↓zc1, ↓zc17]
      repeat' with_reducible apply And.intro
      all_goals try ((with_reducible show CallW _ _ _ _ _ _ _); refine cW_s [] zk9 (fun h2 e => (.cons (.lst _ _ _ Entry.pu rfl) (.cons (.lst _ _ _ Entry.pu rfl) .nil))) (.bool _) ?_; simp only [EVT, stepW, evOp, St.ev, St.app, St.put, wrs, evFieldAddr, evLoad, cut, evBuiltin, evBin, binInt, evSlice, sliceOk, sl_if0, sl_if1, sl_if2, sl_if3, tk_map, dp_map, frz, evUn, datOf, datOf1, TIS, CS, reduceAdd, reduceMul, reduceEqDiff, ↓reduceIte, reduceCtorEq, reduceLT, reduceLeDiff, Array.reduceGetElem?, Int.reduceToNat, reduceSub, Nat.reduceBEq, ↓zc1, ↓zc17])
      all_goals ((repeat' apply And.intro) <;> first | rfl | assumption | omega | (left; omega) | (simp; done) | (simp; omega) | (right; exact ⟨_, rfl, rfl, rfl, by decide, by first | omega | (simp; omega)⟩) | (simp_all; done))
     ·kernel_rfl
     refine cA_n ?_
     refine wk_l [(some 0, ⟨25, 10, false, [Seat.c leader1]⟩), (some 1, ⟨25, 10, false, [Seat.c s1]⟩)] [] [(2, .ptr 0 0 0 10), (3, .ptr 1 0 0 10), (5, .bool r1), (92, .bool (!r9))] (by show ([2, 3, 5, 92] : List Nat).Nodup; decide) (by show ([0, 1] : List Nat).Nodup; decide) ?_ ?_ (fun t0 => ⟨(!r9), t0, H, rfl⟩)
     ·exact ZZ
     ·exact ZT
   ·rintro s ⟨v2, t0, H, rfl⟩
    unfold law15_SeatTaught_J2 at H
    refine a_cnd H (fun zc2 H => ?_) (fun zc2 H => ?_)
    ·refine a_seq ?_
     refine a_regC _ rfl ?_
     refine sA_n ?_
     refine a_ret ?_
     refine sA_r ?_
     obtain rfl := Option.some.inj H
     refine e_r2 (d := ?zd2) ?_ ?_
     rotate_left
     ·simp only [EVT, resR, single, evLoad, cut, TIS, CS, reduceAdd, reduceEqDiff, ↓reduceIte, reduceCtorEq, reduceLT, reduceLeDiff, reduceSub, Nat.reduceBEq, zc2]
      (repeat' apply And.intro) <;> first | rfl | assumption | omega | (simp; done)
     exact ZZ
    ·refine a_skip ?_
     refine sA_n ?_
     refine a_seq ?_
     refine a_seq ?_
     obtain ⟨r2, zh2, H⟩ := bind_some H
     have zk2 := ref13_Meet_pc zh2
     refine a_regK _ rfl ?_
     refine sA_n ?_
     refine a_cnd H (fun zc3 H => ?_) (fun zc3 H => ?_)
     ·refine a_seq ?_
      refine a_regC _ rfl ?_
      refine sA_n ?_
      refine a_ret ?_
      refine sA_r ?_
      obtain rfl := Option.some.inj H
      refine e_r2 (d := ?zd3) ?_ ?_
      rotate_left
      ·simp only [EVT, resR, single, evLoad, cut, TIS, CS, reduceAdd, reduceEqDiff, ↓reduceIte, reduceCtorEq, reduceLT, reduceLeDiff, reduceSub, Nat.reduceBEq, zc2, zc3]
       (repeat' apply And.intro) <;> first | rfl | assumption | omega | (simp; done)
      exact ZZ
     ·refine a_skip ?_
      refine sA_n ?_
      refine a_seq ?_
      obtain ⟨r3, zh3, H⟩ := bind_some H
      have zk3 := ref15_Place_pc zh3
      refine a_regK _ rfl ?_
      refine sA_n ?_
      refine a_seq ?_
      refine a_cut (fun s => ∃ (v3 : Bool) (t0 : Nat → Dat), law15_SeatTaught_J3 r1 r3 leader1 s1 v3 = some r ∧ s = ⟨tl t0 [(2, .ptr 0 0 0 10), (3, .ptr 1 0 0 10), (5, .bool r1), (6, .int .i64 r3), (134, .bool v3)], hl [⟨25, 10, false, [Seat.c leader1]⟩, ⟨25, 10, false, [Seat.c s1]⟩], 2, 243⟩) ?_ ?_
      ·obtain ⟨x5, zh13, H⟩ := bind_some H
       obtain ⟨zg5, zh13a, zh13b⟩ := idx3 (f := (ci .i64)) zh13
       try simp only [Int.reduceToNat, Int.toNat_natCast] at zg5
       refine cnd H (fun zc16 H => ?_) (fun zc16 H => ?_)
       ·refine a_drW (by kernel_rfl) _ rfl (s := ?zs32) (by kernel_rfl) (by kernel_rfl) ?zs32f ?_ ?_ ?_
        rotate_left 2
        ·refine goS ?_
         try refine goS ?_
         (repeat' apply And.intro) <;> first | rfl | assumption | omega | (left; omega) | (simp; done) | (simp; omega) | (right; exact ⟨_, rfl, rfl, rfl, by decide, by first | omega | (simp; omega)⟩) | (simp_all; done)
        ·kernel_rfl
        refine cA_n ?_
        exact wk_lA [(some 0, _), (some 1, _)] [] (fun t0 => ⟨true, t0, H, rfl⟩)
       ·obtain ⟨zh14, H⟩ := chk_some H
        obtain ⟨zh15, H⟩ := chk_some H
        obtain ⟨r8, zh16, H⟩ := bind_some H
        have zk8 := ref13_Same_pc zh16
        refine a_drW (by kernel_rfl) _ rfl (s := ?zs33) (by kernel_rfl) (by kernel_rfl) ?zs33f ?_ ?_ ?_
        rotate_left 2
        ·try simp only [EVT, stepW, evOp, St.ev, St.app, St.put, wrs, evFieldAddr, evLoad, cut, evIndexAddr, evBuiltin, evBin, binInt, evSlice, sliceOk, sl_if0, sl_if1, sl_if2, sl_if3, tk_map, dp_map, frz, evUn, datOf, datOf1, TIS, CS, reduceAdd, reduceMul, reduceEqDiff, ↓reduceIte, reduceCtorEq, reduceLT, reduceLeDiff, Array.reduceGetElem?, Int.reduceToNat, reduceSub, Nat.reduceBEq, ↓zc2, ↓zc3, zg5, ↓zc16]
         repeat' with_reducible apply And.intro
         all_goals try ((with_reducible show CallW _ _ _ _ _ _ _); refine cW_s [] zk8 (fun h2 e => (.cons (.lst _ _ _ Entry.pu rfl) (.cons (.lst _ _ _ Entry.pu rfl) .nil))) (.bool _) ?_; simp only [EVT, stepW, evOp, St.ev, St.app, St.put, wrs, evFieldAddr, evLoad, cut, evIndexAddr, evBuiltin, evBin, binInt, evSlice, sliceOk, sl_if0, sl_if1, sl_if2, sl_if3, tk_map, dp_map, frz, evUn, datOf, datOf1, TIS, CS, reduceAdd, reduceMul, reduceEqDiff, ↓reduceIte, reduceCtorEq, reduceLT, reduceLeDiff, Array.reduceGetElem?, Int.reduceToNat, reduceSub, Nat.reduceBEq, ↓zc2, ↓zc3, zg5, ↓zc16])
         all_goals ((repeat' apply And.intro) <;> first | rfl | assumption | omega | (left; omega) | (simp; done) | (simp; omega) | (right; exact ⟨_, rfl, rfl, rfl, by decide, by first | omega | (simp; omega)⟩) | (simp_all; done))
        ·kernel_rfl
        refine cA_n ?_
        refine wk_l [(some 0, ⟨25, 10, false, [Seat.c leader1]⟩), (some 1, ⟨25, 10, false, [Seat.c s1]⟩)] [] [(2, .ptr 0 0 0 10), (3, .ptr 1 0 0 10), (5, .bool r1), (6, .int .i64 r3), (134, .bool (!r8))] (by show ([2, 3, 5, 6, 134] : List Nat).Nodup; decide) (by show ([0, 1] : List Nat).Nodup; decide) ?_ ?_ (fun t0 => ⟨(!r8), t0, H, rfl⟩)
        ·exact ZZ
        ·exact ZT
      ·rintro s ⟨v3, t0, H, rfl⟩
       unfold law15_SeatTaught_J3 at H
       refine a_cnd H (fun zc4 H => ?_) (fun zc4 H => ?_)
       ·refine a_seq ?_
        refine a_regC _ rfl ?_
        refine sA_n ?_
        refine a_ret ?_
        refine sA_r ?_
        obtain rfl := Option.some.inj H
        refine e_r2 (d := ?zd4) ?_ ?_
        rotate_left
        ·simp only [EVT, resR, single, evLoad, cut, TIS, CS, reduceAdd, reduceEqDiff, ↓reduceIte, reduceCtorEq, reduceLT, reduceLeDiff, reduceSub, Nat.reduceBEq, zc4]
         (repeat' apply And.intro) <;> first | rfl | assumption | omega | (simp; done)
        exact ZZ
       ·refine a_skip ?_
        refine sA_n ?_
        refine a_cut (fun s => ∃ (leader2 : Seat) (s2 : Seat) (t0 : Nat → Dat), law15_SeatTaught_J4 r1 r3 leader2 s2 = some r ∧ s = ⟨tl t0 [(2, .ptr 0 0 0 10), (3, .ptr 1 0 0 10), (5, .bool r1), (6, .int .i64 r3)], hl [⟨25, 10, false, [Seat.c leader2]⟩, ⟨25, 10, false, [Seat.c s2]⟩], 2, 243⟩) ?_ ?_
        ·refine a_seq ?_
         refine a_regC _ rfl ?_
         refine sA_n ?_
         refine a_blk ?_
         refine a_loop (fun m s => ∃ (leader3 : Seat) (s3 : Seat) (k1 : Int) (t0 : Nat → Dat), law15_SeatTaught_L1 r3 r1 m leader3 s3 k1 = some r ∧ s = ⟨tl t0 [(2, .ptr 0 0 0 10), (3, .ptr 1 0 0 10), (5, .bool r1), (6, .int .i64 r3), (7, .int .i64 k1)], hl [⟨25, 10, false, [Seat.c leader3]⟩, ⟨25, 10, false, [Seat.c s3]⟩], 2, 243⟩) BIG ?_ ?_
         ·exact wk_lA [(some 0, _), (some 1, _)] [] (fun t0 => ⟨leader1, s1, 0, t0, H, rfl⟩)
         ·rintro m_law15_SeatTaught_L1 s ⟨leader3, s3, k1, t0, H, rfl⟩
          obtain _ | m_law15_SeatTaught_L1 := m_law15_SeatTaught_L1
          ·cases (show (none : Option _) = some _ from H)
          ·rw [law15_SeatTaught_L1] at H
           refine a_seq ?_
           refine a_seq ?_
           refine a_regC _ rfl ?_
           refine sA_n ?_
           refine a_cnd H (fun zc10 H => ?_) (fun zc10 H => ?_)
           ·refine a_skip ?_
            refine sA_n ?_
            refine a_cut (fun s => ∃ (leader4 : Seat) (s4 : Seat) (t0 : Nat → Dat), law15_SeatTaught_J5 (law15_SeatTaught_L1 r3 r1 m_law15_SeatTaught_L1) k1 leader4 s4 = some r ∧ s = ⟨tl t0 [(2, .ptr 0 0 0 10), (3, .ptr 1 0 0 10), (5, .bool r1), (6, .int .i64 r3), (7, .int .i64 k1)], hl [⟨25, 10, false, [Seat.c leader4]⟩, ⟨25, 10, false, [Seat.c s4]⟩], 2, 243⟩) ?_ ?_
            ·refine a_blk ?_
             refine a_seq ?_
             obtain ⟨r5, zh7, H⟩ := bind_some H
             have zk5 := seat_Beat_pc zh7
             refine a_regK _ rfl ?_
             refine sA_n ?_
             refine a_seq ?_
             refine a_seq ?_
             refine a_regC _ rfl ?_
             refine sA_n ?_
             refine a_cnd H (fun zc11 H => ?_) (fun zc11 H => ?_)
             ·refine a_seq ?_
              refine a_regC _ rfl ?_
              refine sA_n ?_
              refine a_ret ?_
              refine sA_r ?_
              refine bA_r ?_
              refine cA_r ?_
              refine lA_r ?_
              refine bA_r ?_
              refine cA_r ?_
              obtain rfl := Option.some.inj H
              refine e_r2 (d := ?zd11) ?_ ?_
              rotate_left
              ·simp only [EVT, resR, single, evLoad, cut, TIS, CS, reduceAdd, reduceEqDiff, ↓reduceIte, reduceCtorEq, reduceLT, reduceLeDiff, reduceSub, Nat.reduceBEq, zc10, zc11]
               (repeat' apply And.intro) <;> first | rfl | assumption | omega | (simp; done)
              exact ZZ
             ·refine a_skip ?_
              refine sA_n ?_
              refine a_cut (fun s => ∃ (leader5 : Seat) (s5 : Seat) (t0 : Nat → Dat), law15_SeatTaught_J6 (law15_SeatTaught_L1 r3 r1 m_law15_SeatTaught_L1) r3 r1 k1 leader5 s5 = some r ∧ s = ⟨tl t0 [(2, .ptr 0 0 0 10), (3, .ptr 1 0 0 10), (5, .bool r1), (6, .int .i64 r3), (7, .int .i64 k1)], hl [⟨25, 10, false, [Seat.c leader5]⟩, ⟨25, 10, false, [Seat.c s5]⟩], 2, 243⟩) ?_ ?_
              ·refine a_seq ?_
               refine a_regC _ rfl ?_
               refine sA_n ?_
               refine a_blk ?_
               refine a_loop (fun m s => ∃ (leader6 : Seat) (s6 : Seat) (n1 : Int) (t0 : Nat → Dat), law15_SeatTaught_L2 (law15_SeatTaught_L1 r3 r1 m_law15_SeatTaught_L1) r5 r3 r1 k1 m leader6 s6 n1 = some r ∧ s = ⟨tl t0 [(2, .ptr 0 0 0 10), (3, .ptr 1 0 0 10), (5, .bool r1), (6, .int .i64 r3), (7, .int .i64 k1), (9, .list 5 (r5.2.map Msg.c)), (10, .int .i64 n1)], hl [⟨25, 10, false, [Seat.c leader6]⟩, ⟨25, 10, false, [Seat.c s6]⟩], 2, 243⟩) BIG ?_ ?_
               ·exact wk_lA [(some 0, _), (some 1, _)] [] (fun t0 => ⟨leader3, s3, 0, t0, H, rfl⟩)
               ·rintro m_law15_SeatTaught_L2 s ⟨leader6, s6, n1, t0, H, rfl⟩
                obtain _ | m_law15_SeatTaught_L2 := m_law15_SeatTaught_L2
                ·cases (show (none : Option _) = some _ from H)
                ·rw [law15_SeatTaught_L2] at H
                 refine a_seq ?_
                 refine a_seq ?_
                 refine a_regC _ rfl ?_
                 refine sA_n ?_
                 refine a_cnd H (fun zc13 H => ?_) (fun zc13 H => ?_)
                 ·refine a_skip ?_
                  refine sA_n ?_
                  refine a_cut (fun s => ∃ (leader7 : Seat) (s7 : Seat) (t0 : Nat → Dat), law15_SeatTaught_J7 (law15_SeatTaught_L2 (law15_SeatTaught_L1 r3 r1 m_law15_SeatTaught_L1) r5 r3 r1 k1 m_law15_SeatTaught_L2) n1 leader7 s7 = some r ∧ s = ⟨tl t0 [(2, .ptr 0 0 0 10), (3, .ptr 1 0 0 10), (5, .bool r1), (6, .int .i64 r3), (7, .int .i64 k1), (9, .list 5 (r5.2.map Msg.c)), (10, .int .i64 n1)], hl [⟨25, 10, false, [Seat.c leader7]⟩, ⟨25, 10, false, [Seat.c s7]⟩], 2, 243⟩) ?_ ?_
                  ·refine a_blk ?_
                   refine a_seq ?_
                   refine a_seq ?_
                   obtain ⟨x3, zh9, H⟩ := bind_some H
                   obtain ⟨zg3, zh9a, zh9b⟩ := idx3 (f := Msg.c) zh9
                   try simp only [Int.reduceToNat, Int.toNat_natCast] at zg3
                   refine a_drW (by kernel_rfl) _ rfl (s := ?zs26) (by kernel_rfl) (by kernel_rfl) ?zs26f ?_ ?_ ?_
                   rotate_left 2
                   ·refine goS ?_
                    (repeat' apply And.intro) <;> first|rfl|assumption|omega|(simp;done)|(simp;omega)|(simp_all;done)
                   ·kernel_rfl
                   refine sA_n ?_
                   refine a_cnd H (fun zc14 H => ?_) (fun zc14 H => ?_)
                   ·refine a_exit ?_
                    refine sA_e ?_
                    refine bA_hit ?_
                    refine cA_n ?_
                    exact wk_lA [(some 0, _), (some 1, _)] [] (fun t0 => ⟨leader6, s6, t0, H, rfl⟩)
                   ·refine a_skip ?_
                    refine sA_n ?_
                    refine a_seq ?_
                    obtain ⟨r6, zh10, H⟩ := bind_some H
                    have zk6 := seat_Hear_pc zh10
                    refine a_drW (by kernel_rfl) _ rfl (s := ?zs27) (by kernel_rfl) (by kernel_rfl) ?zs27f ?_ ?_ ?_
                    rotate_left 2
                    ·try refine goS ?_
                     repeat' with_reducible apply And.intro
                     all_goals try ((with_reducible show CallW _ _ _ _ _ _ _); refine cW_p [] zk6 (fun h2 e => (.cons (.agg' (.cons (.int' rfl) (.cons (.lst _ _ _ (ci_pu .i64) rfl) (.cons (.int' rfl) (.cons (.int' rfl) (.cons (.int' rfl) (.cons (.lst _ _ _ Entry.pu rfl) (.cons (.int' rfl) (.cons (.lst _ _ _ (ci_pu .i64) rfl) (.cons (.lst _ _ _ (ci_pu .i64) rfl) (.cons (.lst _ _ _ (ci_pu .i64) rfl) .nil))))))))))) (.cons (.agg' (.cons (.int' rfl) (.cons (.int' rfl) (.cons (.int' rfl) (.cons (.lst _ _ _ (ci_pu .i64) rfl) (.cons (.lst _ _ _ (ci_pu .u8) rfl) .nil)))))) .nil))) ?_; refine goS ?_)
                     all_goals ((repeat' apply And.intro) <;> first|rfl|assumption|omega|(simp;done)|(simp;omega)|(simp_all;done))
                    ·kernel_rfl
                    refine sA_n ?_
                    refine a_seq ?_
                    refine a_seq ?_
                    refine a_regC _ rfl ?_
                    refine sA_n ?_
                    refine a_cnd H (fun zc15 H => ?_) (fun zc15 H => ?_)
                    ·refine a_seq ?_
                     refine a_regC _ rfl ?_
                     refine sA_n ?_
                     refine a_ret ?_
                     refine sA_r ?_
                     refine bA_r ?_
                     refine cA_r ?_
                     refine lA_r ?_
                     refine bA_r ?_
                     refine cA_r ?_
                     refine bA_r ?_
                     refine cA_r ?_
                     refine lA_r ?_
                     refine bA_r ?_
                     refine cA_r ?_
                     obtain rfl := Option.some.inj H
                     refine e_r2 (d := ?zd12) ?_ ?_
                     rotate_left
                     ·simp only [EVT, resR, single, evLoad, cut, TIS, CS, reduceAdd, reduceEqDiff, ↓reduceIte, reduceCtorEq, reduceLT, reduceLeDiff, reduceSub, Nat.reduceBEq, zc13, zg3, zc14, zc15]
                      (repeat' apply And.intro) <;> first | rfl | assumption | omega | (simp; done)
                     exact ZZ
                    ·refine a_skip ?_
                     refine sA_n ?_
                     refine a_seq ?_
                     obtain ⟨x4, zh11, H⟩ := bind_some H
                     obtain ⟨zg4, zh11a, zh11b⟩ := idx3 (f := Msg.c) zh11
                     try simp only [Int.reduceToNat, Int.toNat_natCast] at zg4
                     obtain ⟨r7, zh12, H⟩ := bind_some H
                     have zk7 := seat_Hear_pc zh12
                     refine a_drW (by kernel_rfl) _ rfl (s := ?zs30) (by kernel_rfl) (by kernel_rfl) ?zs30f ?_ ?_ ?_
                     rotate_left 2
                     ·try refine goS ?_
                      repeat' with_reducible apply And.intro
                      all_goals try ((with_reducible show CallW _ _ _ _ _ _ _); refine cW_p [] zk7 (fun h2 e => (.cons (.agg' (.cons (.int' rfl) (.cons (.lst _ _ _ (ci_pu .i64) rfl) (.cons (.int' rfl) (.cons (.int' rfl) (.cons (.int' rfl) (.cons (.lst _ _ _ Entry.pu rfl) (.cons (.int' rfl) (.cons (.lst _ _ _ (ci_pu .i64) rfl) (.cons (.lst _ _ _ (ci_pu .i64) rfl) (.cons (.lst _ _ _ (ci_pu .i64) rfl) .nil))))))))))) (.cons (.agg' (.cons (.int' rfl) (.cons (.int' rfl) (.cons (.int' rfl) (.cons (.lst _ _ _ (ci_pu .i64) rfl) (.cons (.lst _ _ _ (ci_pu .u8) rfl) .nil)))))) .nil))) ?_; refine goS ?_)
                      all_goals ((repeat' apply And.intro) <;> first|rfl|assumption|omega|(simp;done)|(simp;omega)|(simp_all;done))
                     ·kernel_rfl
                     refine sA_n ?_
                     refine a_drW (by kernel_rfl) _ rfl (s := ?zs31) (by kernel_rfl) (by kernel_rfl) ?zs31f ?_ ?_ ?_
                     rotate_left 2
                     ·refine goS ?_
                      (repeat' apply And.intro) <;> first|rfl|assumption|omega|(simp;done)|(simp;omega)|(simp_all;done)
                     ·kernel_rfl
                     refine bA_n ?_
                     refine cA_n ?_
                     exact wk_lA [(some 0, _), (some 1, _)] [] (fun t0 => ⟨r7.1, r6.1, t0, H, rfl⟩)
                  ·rintro s ⟨leader7, s7, t0, H, rfl⟩
                   unfold law15_SeatTaught_J7 at H
                   refine a_regC _ rfl ?_
                   refine lA_n ?_
                   exact wk_lA [(some 0, _), (some 1, _)] [] (fun t0 => ⟨_, Nat.lt_succ_self _, leader7, s7, (IntKind.wrap .i64 (n1 + 1)), t0, H, rfl⟩)
                 ·refine a_exit ?_
                  refine sA_e ?_
                  refine lA_e ?_
                  refine bA_hit ?_
                  refine cA_n ?_
                  exact wk_lA [(some 0, _), (some 1, _)] [] (fun t0 => ⟨leader6, s6, t0, H, rfl⟩)
              ·rintro s ⟨leader5, s5, t0, H, rfl⟩
               unfold law15_SeatTaught_J6 at H
               refine a_seq ?_
               obtain ⟨x2, zh8, H⟩ := bind_some H
               obtain ⟨zg2, zh8a, zh8b⟩ := idx3 (f := (ci .i64)) zh8
               try simp only [Int.reduceToNat, Int.toNat_natCast] at zg2
               refine a_drW (by kernel_rfl) _ rfl (s := ?zs22) (by kernel_rfl) (by kernel_rfl) ?zs22f ?_ ?_ ?_
               rotate_left 2
               ·refine goS ?_
                (repeat' apply And.intro) <;> first|rfl|assumption|omega|(simp;done)|(simp;omega)|(simp_all;done)
               ·kernel_rfl
               refine sA_n ?_
               refine a_cnd H (fun zc12 H => ?_) (fun zc12 H => ?_)
               ·refine a_exit ?_
                refine bA_e (by decide) ?_
                refine cA_e ?_
                refine lA_e ?_
                refine bA_hit ?_
                refine cA_n ?_
                exact wk_lA [(some 0, _), (some 1, _)] [] (fun t0 => ⟨leader5, s5, t0, H, rfl⟩)
               ·refine a_skip ?_
                refine bA_n ?_
                refine cA_n ?_
                exact wk_lA [(some 0, _), (some 1, _)] [] (fun t0 => ⟨leader5, s5, t0, H, rfl⟩)
            ·rintro s ⟨leader4, s4, t0, H, rfl⟩
             unfold law15_SeatTaught_J5 at H
             refine a_regC _ rfl ?_
             refine lA_n ?_
             exact wk_lA [(some 0, _), (some 1, _)] [] (fun t0 => ⟨_, Nat.lt_succ_self _, leader4, s4, (IntKind.wrap .i64 (k1 + 1)), t0, H, rfl⟩)
           ·refine a_exit ?_
            refine sA_e ?_
            refine lA_e ?_
            refine bA_hit ?_
            refine cA_n ?_
            exact wk_lA [(some 0, _), (some 1, _)] [] (fun t0 => ⟨leader3, s3, t0, H, rfl⟩)
        ·rintro s ⟨leader2, s2, t0, H, rfl⟩
         unfold law15_SeatTaught_J4 at H
         refine a_seq ?_
         refine a_regC _ rfl ?_
         refine sA_n ?_
         refine a_seq ?_
         refine cnd H (fun zc5 H => ?_) (fun zc5 H => ?_)
         ·refine cnd H (fun zc6 H => ?_) (fun zc6 H => ?_)
          ·obtain ⟨x1, zh4, H⟩ := bind_some H
           obtain ⟨zg1, zh4a, zh4b⟩ := idx3 (f := (ci .i64)) zh4
           try simp only [Int.reduceToNat, Int.toNat_natCast] at zg1
           refine bool_split (b := (x1 == (leader2.log.length : Int))) (fun zc7 => ?_) (fun zc7 => ?_)
           ·have H := cond_t zc7 H
            refine bool_split (b := (decide ((leader2.log.length : Int) ≤ (s2.log.length : Int)))) (fun zc8 => ?_) (fun zc8 => ?_)
            ·have H := cond_t zc8 H
             obtain ⟨zh5, H⟩ := chk_some H
             obtain ⟨r4, zh6, H⟩ := bind_some H
             have zk4 := ref13_Same_pc zh6
             refine bool_split (b := r4) (fun zc9 => ?_) (fun zc9 => ?_)
             ·rw [zc9] at H
              refine a_drW (by kernel_rfl) _ rfl (s := ?zs10) (by kernel_rfl) (by kernel_rfl) ?zs10f ?_ ?_ ?_
              rotate_left 2
              ·try simp only [EVT, stepW, evOp, St.ev, St.app, St.put, wrs, evFieldAddr, evLoad, cut, datOf, datOf1, evBin, binInt, evIndexAddr, evBuiltin, evSlice, sliceOk, sl_if0, sl_if1, sl_if2, sl_if3, tk_map, dp_map, frz, TIS, CS, reduceAdd, reduceMul, reduceEqDiff, ↓reduceIte, reduceCtorEq, reduceLT, reduceLeDiff, Array.reduceGetElem?, Int.reduceToNat, reduceSub, Nat.reduceBEq, ↓zc5, ↓zc6, zg1, ↓zc7, ↓zc8, ↓zc9]
               repeat' with_reducible apply And.intro
               all_goals try ((with_reducible show CallW _ _ _ _ _ _ _); refine cW_s [] zk4 (fun h2 e => (.cons (.lst _ _ _ Entry.pu rfl) (.cons (.lst _ _ _ Entry.pu rfl) .nil))) (.bool _) ?_; simp only [EVT, stepW, evOp, St.ev, St.app, St.put, wrs, evFieldAddr, evLoad, cut, datOf, datOf1, evBin, binInt, evIndexAddr, evBuiltin, evSlice, sliceOk, sl_if0, sl_if1, sl_if2, sl_if3, tk_map, dp_map, frz, TIS, CS, reduceAdd, reduceMul, reduceEqDiff, ↓reduceIte, reduceCtorEq, reduceLT, reduceLeDiff, Array.reduceGetElem?, Int.reduceToNat, reduceSub, Nat.reduceBEq, ↓zc5, ↓zc6, zg1, ↓zc7, ↓zc8, ↓zc9])
               all_goals ((repeat' apply And.intro) <;> first | rfl | assumption | omega | (left; omega) | (simp; done) | (simp; omega) | (right; exact ⟨_, rfl, rfl, rfl, by decide, by first | omega | (simp; omega)⟩) | (simp_all; done))
              ·kernel_rfl
              refine sA_n ?_
              refine a_ret ?_
              obtain rfl := Option.some.inj H
              refine e_r2 (d := ?zd5) ?_ ?_
              rotate_left
              ·simp only [EVT, resR, single, evLoad, cut, TIS, CS, reduceAdd, reduceEqDiff, ↓reduceIte, reduceCtorEq, reduceLT, reduceLeDiff, reduceSub, Nat.reduceBEq, zc5, zc6, zg1, zc7, zc8, zc9]
               (repeat' apply And.intro) <;> first | rfl | assumption | omega | (simp; done)
              exact (.bool' rfl)
             ·rw [zc9] at H
              refine a_drW (by kernel_rfl) _ rfl (s := ?zs11) (by kernel_rfl) (by kernel_rfl) ?zs11f ?_ ?_ ?_
              rotate_left 2
              ·try simp only [EVT, stepW, evOp, St.ev, St.app, St.put, wrs, evFieldAddr, evLoad, cut, datOf, datOf1, evBin, binInt, evIndexAddr, evBuiltin, evSlice, sliceOk, sl_if0, sl_if1, sl_if2, sl_if3, tk_map, dp_map, frz, TIS, CS, reduceAdd, reduceMul, reduceEqDiff, ↓reduceIte, reduceCtorEq, reduceLT, reduceLeDiff, Array.reduceGetElem?, Int.reduceToNat, reduceSub, Nat.reduceBEq, ↓zc5, ↓zc6, zg1, ↓zc7, ↓zc8, ↓zc9]
               repeat' with_reducible apply And.intro
               all_goals try ((with_reducible show CallW _ _ _ _ _ _ _); refine cW_s [] zk4 (fun h2 e => (.cons (.lst _ _ _ Entry.pu rfl) (.cons (.lst _ _ _ Entry.pu rfl) .nil))) (.bool _) ?_; simp only [EVT, stepW, evOp, St.ev, St.app, St.put, wrs, evFieldAddr, evLoad, cut, datOf, datOf1, evBin, binInt, evIndexAddr, evBuiltin, evSlice, sliceOk, sl_if0, sl_if1, sl_if2, sl_if3, tk_map, dp_map, frz, TIS, CS, reduceAdd, reduceMul, reduceEqDiff, ↓reduceIte, reduceCtorEq, reduceLT, reduceLeDiff, Array.reduceGetElem?, Int.reduceToNat, reduceSub, Nat.reduceBEq, ↓zc5, ↓zc6, zg1, ↓zc7, ↓zc8, ↓zc9])
               all_goals ((repeat' apply And.intro) <;> first | rfl | assumption | omega | (left; omega) | (simp; done) | (simp; omega) | (right; exact ⟨_, rfl, rfl, rfl, by decide, by first | omega | (simp; omega)⟩) | (simp_all; done))
              ·kernel_rfl
              refine sA_n ?_
              refine a_ret ?_
              obtain rfl := Option.some.inj H
              refine e_r2 (d := ?zd6) ?_ ?_
              rotate_left
              ·simp only [EVT, resR, single, evLoad, cut, TIS, CS, reduceAdd, reduceEqDiff, ↓reduceIte, reduceCtorEq, reduceLT, reduceLeDiff, reduceSub, Nat.reduceBEq, zc5, zc6, zg1, zc7, zc8, zc9]
               (repeat' apply And.intro) <;> first | rfl | assumption | omega | (simp; done)
              exact (.bool' (by first | rfl | assumption | (simp_all; done)))
            ·have H := cond_f zc8 H
             refine a_drW (by kernel_rfl) _ rfl (s := ?zs12) (by kernel_rfl) (by kernel_rfl) ?zs12f ?_ ?_ ?_
             rotate_left 2
             ·simp only [EVT, stepW, evOp, St.ev, St.app, St.put, wrs, evFieldAddr, evLoad, cut, datOf, datOf1, evBin, binInt, evIndexAddr, evBuiltin, evSlice, sliceOk, sl_if0, sl_if1, sl_if2, sl_if3, tk_map, dp_map, frz, TIS, CS, reduceAdd, reduceMul, reduceEqDiff, ↓reduceIte, reduceCtorEq, reduceLT, reduceLeDiff, Array.reduceGetElem?, Int.reduceToNat, reduceSub, Nat.reduceBEq, ↓zc5, ↓zc6, zg1, ↓zc7, ↓zc8]
              try simp only [EVT, stepW, evOp, St.ev, St.app, St.put, wrs, evFieldAddr, evLoad, cut, datOf, datOf1, evBin, binInt, evIndexAddr, evBuiltin, evSlice, sliceOk, sl_if0, sl_if1, sl_if2, sl_if3, tk_map, dp_map, frz, TIS, CS, reduceAdd, reduceMul, reduceEqDiff, ↓reduceIte, reduceCtorEq, reduceLT, reduceLeDiff, Array.reduceGetElem?, Int.reduceToNat, reduceSub, Nat.reduceBEq, ↓zc5, ↓zc6, zg1, ↓zc7, ↓zc8]
              (repeat' apply And.intro) <;> first | rfl | assumption | omega | (left; omega) | (simp; done) | (simp; omega) | (right; exact ⟨_, rfl, rfl, rfl, by decide, by first | omega | (simp; omega)⟩) | (simp_all; done)
             ·kernel_rfl
             refine sA_n ?_
             refine a_ret ?_
             obtain rfl := Option.some.inj H
             refine e_r2 (d := ?zd7) ?_ ?_
             rotate_left
             ·simp only [EVT, resR, single, evLoad, cut, TIS, CS, reduceAdd, reduceEqDiff, ↓reduceIte, reduceCtorEq, reduceLT, reduceLeDiff, reduceSub, Nat.reduceBEq, zc5, zc6, zg1, zc7, zc8]
              (repeat' apply And.intro) <;> first | rfl | assumption | omega | (simp; done)
             exact (.bool' (by first | rfl | assumption | (simp_all; done)))
           ·have H := cond_f zc7 H
            refine a_drW (by kernel_rfl) _ rfl (s := ?zs13) (by kernel_rfl) (by kernel_rfl) ?zs13f ?_ ?_ ?_
            rotate_left 2
            ·simp only [EVT, stepW, evOp, St.ev, St.app, St.put, wrs, evFieldAddr, evLoad, cut, datOf, datOf1, evBin, binInt, evIndexAddr, evBuiltin, evSlice, sliceOk, sl_if0, sl_if1, sl_if2, sl_if3, tk_map, dp_map, frz, TIS, CS, reduceAdd, reduceMul, reduceEqDiff, ↓reduceIte, reduceCtorEq, reduceLT, reduceLeDiff, Array.reduceGetElem?, Int.reduceToNat, reduceSub, Nat.reduceBEq, ↓zc5, ↓zc6, zg1, ↓zc7]
             try simp only [EVT, stepW, evOp, St.ev, St.app, St.put, wrs, evFieldAddr, evLoad, cut, datOf, datOf1, evBin, binInt, evIndexAddr, evBuiltin, evSlice, sliceOk, sl_if0, sl_if1, sl_if2, sl_if3, tk_map, dp_map, frz, TIS, CS, reduceAdd, reduceMul, reduceEqDiff, ↓reduceIte, reduceCtorEq, reduceLT, reduceLeDiff, Array.reduceGetElem?, Int.reduceToNat, reduceSub, Nat.reduceBEq, ↓zc5, ↓zc6, zg1, ↓zc7]
             (repeat' apply And.intro) <;> first | rfl | assumption | omega | (left; omega) | (simp; done) | (simp; omega) | (right; exact ⟨_, rfl, rfl, rfl, by decide, by first | omega | (simp; omega)⟩) | (simp_all; done)
            ·kernel_rfl
            refine sA_n ?_
            refine a_ret ?_
            obtain rfl := Option.some.inj H
            refine e_r2 (d := ?zd8) ?_ ?_
            rotate_left
            ·simp only [EVT, resR, single, evLoad, cut, TIS, CS, reduceAdd, reduceEqDiff, ↓reduceIte, reduceCtorEq, reduceLT, reduceLeDiff, reduceSub, Nat.reduceBEq, zc5, zc6, zg1, zc7]
             (repeat' apply And.intro) <;> first | rfl | assumption | omega | (simp; done)
            exact (.bool' (by first | rfl | assumption | (simp_all; done)))
          ·refine a_drW (by kernel_rfl) _ rfl (s := ?zs14) (by kernel_rfl) (by kernel_rfl) ?zs14f ?_ ?_ ?_
           rotate_left 2
           ·simp only [EVT, stepW, evOp, St.ev, St.app, St.put, wrs, evFieldAddr, evLoad, cut, datOf, datOf1, evBin, binInt, evIndexAddr, evBuiltin, evSlice, sliceOk, sl_if0, sl_if1, sl_if2, sl_if3, tk_map, dp_map, frz, TIS, CS, reduceAdd, reduceMul, reduceEqDiff, ↓reduceIte, reduceCtorEq, reduceLT, reduceLeDiff, Array.reduceGetElem?, Int.reduceToNat, reduceSub, Nat.reduceBEq, ↓zc5, ↓zc6]
            try simp only [EVT, stepW, evOp, St.ev, St.app, St.put, wrs, evFieldAddr, evLoad, cut, datOf, datOf1, evBin, binInt, evIndexAddr, evBuiltin, evSlice, sliceOk, sl_if0, sl_if1, sl_if2, sl_if3, tk_map, dp_map, frz, TIS, CS, reduceAdd, reduceMul, reduceEqDiff, ↓reduceIte, reduceCtorEq, reduceLT, reduceLeDiff, Array.reduceGetElem?, Int.reduceToNat, reduceSub, Nat.reduceBEq, ↓zc5, ↓zc6]
            (repeat' apply And.intro) <;> first | rfl | assumption | omega | (left; omega) | (simp; done) | (simp; omega) | (right; exact ⟨_, rfl, rfl, rfl, by decide, by first | omega | (simp; omega)⟩) | (simp_all; done)
           ·kernel_rfl
           refine sA_n ?_
           refine a_ret ?_
           obtain rfl := Option.some.inj H
           refine e_r2 (d := ?zd9) ?_ ?_
           rotate_left
           ·simp only [EVT, resR, single, evLoad, cut, TIS, CS, reduceAdd, reduceEqDiff, ↓reduceIte, reduceCtorEq, reduceLT, reduceLeDiff, reduceSub, Nat.reduceBEq, zc5, zc6]
            (repeat' apply And.intro) <;> first | rfl | assumption | omega | (simp; done)
           exact (.bool' (by first | rfl | assumption | (simp_all; done)))
         ·refine a_drW (by kernel_rfl) _ rfl (s := ?zs15) (by kernel_rfl) (by kernel_rfl) ?zs15f ?_ ?_ ?_
          rotate_left 2
          ·simp only [EVT, stepW, evOp, St.ev, St.app, St.put, wrs, evFieldAddr, evLoad, cut, datOf, datOf1, evBin, binInt, evIndexAddr, evBuiltin, evSlice, sliceOk, sl_if0, sl_if1, sl_if2, sl_if3, tk_map, dp_map, frz, TIS, CS, reduceAdd, reduceMul, reduceEqDiff, ↓reduceIte, reduceCtorEq, reduceLT, reduceLeDiff, Array.reduceGetElem?, Int.reduceToNat, reduceSub, Nat.reduceBEq, ↓zc5]
           try simp only [EVT, stepW, evOp, St.ev, St.app, St.put, wrs, evFieldAddr, evLoad, cut, datOf, datOf1, evBin, binInt, evIndexAddr, evBuiltin, evSlice, sliceOk, sl_if0, sl_if1, sl_if2, sl_if3, tk_map, dp_map, frz, TIS, CS, reduceAdd, reduceMul, reduceEqDiff, ↓reduceIte, reduceCtorEq, reduceLT, reduceLeDiff, Array.reduceGetElem?, Int.reduceToNat, reduceSub, Nat.reduceBEq, ↓zc5]
           (repeat' apply And.intro) <;> first | rfl | assumption | omega | (left; omega) | (simp; done) | (simp; omega) | (right; exact ⟨_, rfl, rfl, rfl, by decide, by first | omega | (simp; omega)⟩) | (simp_all; done)
          ·kernel_rfl
          refine sA_n ?_
          refine a_ret ?_
          obtain rfl := Option.some.inj H
          refine e_r2 (d := ?zd10) ?_ ?_
          rotate_left
          ·simp only [EVT, resR, single, evLoad, cut, TIS, CS, reduceAdd, reduceEqDiff, ↓reduceIte, reduceCtorEq, reduceLT, reduceLeDiff, reduceSub, Nat.reduceBEq, zc5]
           (repeat' apply And.intro) <;> first | rfl | assumption | omega | (simp; done)
          exact ZZ
end
end Go.Proofs.YtmkpokcfefjifaaDoor
