import Derived.Test.YtmkpokcfefjifaaDoorF11
set_option linter.unusedSectionVars false
/- Functions of the program as Lean functions, and that they are so; printed by a program of mine. -/
set_option linter.unusedSimpArgs false
set_option linter.unusedVariables false
namespace Go.Proofs.YtmkpokcfefjifaaDoor
open Go.Ab
open Nat (reduceAdd reduceMul reduceEqDiff reduceLT reduceLeDiff reduceSub)
noncomputable section

def law15_SeatWins_J2 (r1 : Bool) (n1 : Int) (s1 : Seat) (got1 : List Int) : Option Bool :=
 some (r1 && (((s1.role == 3) == (decide (n1 < (IntKind.wrap .i64 (2 * (((got1.length : Nat)) : Int)))))) && (s1.term == 1)))
def law15_SeatWins_J4 (k_law15_SeatWins_L1 : Seat → (List Int) → Int → Option Bool) (r4 : Seat × (List Msg)) (i1 : Int) (got3 : List Int) : Option Bool :=
 k_law15_SeatWins_L1 r4.1 got3 (IntKind.wrap .i64 (i1 + 1))
def law15_SeatWins_J5 (k_law15_SeatWins_L1 : Seat → (List Int) → Int → Option Bool) (got2 : List Int) (r4 : Seat × (List Msg)) (i1 : Int) (x3 : Int) (v1 : Bool) : Option Bool :=
 cond v1 (chk ((got2.length + 1) * 8 ≤ 140737488355328) (law15_SeatWins_J4 k_law15_SeatWins_L1 r4 i1 (got2 ++ [x3]))) (law15_SeatWins_J4 k_law15_SeatWins_L1 r4 i1 got2)
def law15_SeatWins_J3 (k_law15_SeatWins_L1 : Seat → (List Int) → Int → Option Bool) (votes1 : List Int) (i1 : Int) (n1 : Int) (l1 : List Int) (s2 : Seat) (got2 : List Int) (x1 : Int) (term1 : Int) : Option Bool :=
 (idx votes1 i1).bind fun x2 => chk (n1 ≠ 0) ((idx l1 (Int.tmod (IntKind.wrap .i64 (IntKind.wrap .u8 (Int.tdiv x2 2))) n1)).bind fun x3 => cond (!((s2.role == 3) == (decide (n1 < (IntKind.wrap .i64 (2 * (((got2.length : Nat)) : Int))))))) (some (false)) ((seat_Hear_f s2 (⟨x3, x1, 2, [term1, (IntKind.wrap .i64 (Int.tmod x2 2))], []⟩ : Msg)).bind fun r4 => cond (x3 != x1) (cond (term1 == 1) (cond ((Int.tmod x2 2) == 1) ((ref14_Has_f got2 x3).bind fun r5 => law15_SeatWins_J5 k_law15_SeatWins_L1 got2 r4 i1 x3 (!r5)) (law15_SeatWins_J5 k_law15_SeatWins_L1 got2 r4 i1 x3 false)) (law15_SeatWins_J5 k_law15_SeatWins_L1 got2 r4 i1 x3 false)) (law15_SeatWins_J5 k_law15_SeatWins_L1 got2 r4 i1 x3 false)))
def law15_SeatWins_L1 (votes1 : List Int) (terms1 : List Int) (n1 : Int) (l1 : List Int) (x1 : Int) (r1 : Bool) : Nat → Seat → (List Int) → Int → Option Bool
 | 0, _, _, _ => none
 | m_ + 1, s2, got2, i1 => cond (decide (i1 < (votes1.length : Int))) (cond (decide (i1 < (terms1.length : Int))) ((idx terms1 i1).bind fun x4 => law15_SeatWins_J3 (law15_SeatWins_L1 votes1 terms1 n1 l1 x1 r1 m_) votes1 i1 n1 l1 s2 got2 x1 (Int.tmod (IntKind.wrap .i64 x4) 2)) (law15_SeatWins_J3 (law15_SeatWins_L1 votes1 terms1 n1 l1 x1 r1 m_) votes1 i1 n1 l1 s2 got2 x1 1)) (law15_SeatWins_J2 r1 n1 s2 got2)
def law15_SeatWins_J1 (me1 : Int) (votes1 : List Int) (r1 : Bool) (terms1 : List Int) (n1 : Int) (l1 : List Int) : Option Bool :=
 chk (n1 ≠ 0) ((idx l1 (Int.tmod (IntKind.wrap .i64 me1) n1)).bind fun x1 => (seat_New_f x1 l1).bind fun r2 => (seat_Late_f r2).bind fun r3 => cond (decide (40 < (votes1.length : Int))) (some (r1)) (law15_SeatWins_L1 votes1 terms1 n1 l1 x1 r1 BIG r3.1 [x1] 0))
def law15_SeatWins_L2 (me1 : Int) (votes1 : List Int) (r1 : Bool) (terms1 : List Int) : Nat → Int → (List Int) → Int → Option Bool
 | 0, _, _, _ => none
 | m_ + 1, n2, l2, i2 => cond (decide (i2 < n2)) (chk ((l2.length + 1) * 8 ≤ 140737488355328) (law15_SeatWins_L2 me1 votes1 r1 terms1 m_ n2 (l2 ++ [(IntKind.wrap .i64 (3 * i2))]) (IntKind.wrap .i64 (i2 + 1)))) (law15_SeatWins_J1 me1 votes1 r1 terms1 n2 l2)
def law15_SeatWins_f (peers1 : Int) (me1 : Int) (votes1 : List Int) (terms1 : List Int) : Option Bool :=
 (law15_head_f).bind fun r1 => law15_SeatWins_L2 me1 votes1 r1 terms1 BIG (IntKind.wrap .i64 (1 + (Int.tmod (IntKind.wrap .i64 peers1) 7))) ([] : List Int) 0
set_option maxHeartbeats 4000000 in
set_option maxRecDepth 20000 in
theorem law15_SeatWins_pc {peers1 : Int} {me1 : Int} {votes1 : List Int} {terms1 : List Int} {r : Bool} (H : law15_SeatWins_f peers1 me1 votes1 terms1 = some r) : PC Tryd.prog 4 [.int .u8 peers1, .int .u8 me1, .list 1 (votes1.map (ci .u8)), .list 1 (terms1.map (ci .u8))] (.bool r) := by
 refine pcA_of Tryd.func4 (by rfl) (by decide) 153 (by rfl) [.tmp 8] (by rfl) ?_
 unfold law15_SeatWins_f at H
 simp only [ent]
 refine a_seq ?_
 refine a_regC _ rfl ?_
 refine sA_n ?_
 refine a_seq ?_
 obtain ⟨r1, zh1, H⟩ := bind_some H
 have zk1 := law15_head_pc zh1
 refine a_regK _ rfl ?_
 refine sA_n ?_
 refine a_seq ?_
 refine a_regC _ rfl ?_
 refine sA_n ?_
 refine a_seq ?_
 refine a_regC _ rfl ?_
 refine sA_n ?_
 refine a_cut (fun s => ∃ (n1 : Int) (l1 : List Int) (t0 : Nat → Dat), law15_SeatWins_J1 me1 votes1 r1 terms1 n1 l1 = some r ∧ s = ⟨tl t0 [(1, .int .u8 me1), (2, .list 1 (votes1.map (ci .u8))), (3, .list 1 (terms1.map (ci .u8))), (9, .bool r1), (10, .int .i64 n1), (11, .ref 0 0 l1.length 1)], hl [⟨3, 1, false, l1.map (ci .i64)⟩], 1, 153⟩) ?_ ?_
 ·refine a_seq ?_
  refine a_regC _ rfl ?_
  refine sA_n ?_
  refine a_blk ?_
  refine a_loop (fun m s => ∃ (n2 : Int) (l2 : List Int) (i2 : Int) (t0 : Nat → Dat), law15_SeatWins_L2 me1 votes1 r1 terms1 m n2 l2 i2 = some r ∧ s = ⟨tl t0 [(1, .int .u8 me1), (2, .list 1 (votes1.map (ci .u8))), (3, .list 1 (terms1.map (ci .u8))), (9, .bool r1), (10, .int .i64 n2), (11, .ref 0 0 l2.length 1), (12, .int .i64 i2)], hl [⟨3, 1, false, l2.map (ci .i64)⟩], 1, 153⟩) BIG ?_ ?_
  ·exact wk_lA [(some 64, _)] [] (fun t0 => ⟨(IntKind.wrap .i64 (1 + (Int.tmod (IntKind.wrap .i64 peers1) 7))), ([] : List Int), 0, t0, H, rfl⟩)
  ·rintro m_law15_SeatWins_L2 s ⟨n2, l2, i2, t0, H, rfl⟩
   obtain _ | m_law15_SeatWins_L2 := m_law15_SeatWins_L2
   ·cases (show (none : Option _) = some _ from H)
   ·rw [law15_SeatWins_L2] at H
    refine a_seq ?_
    refine a_seq ?_
    refine a_regC _ rfl ?_
    refine sA_n ?_
    refine a_cnd H (fun zc11 H => ?_) (fun zc11 H => ?_)
    ·refine a_skip ?_
     refine sA_n ?_
     refine a_seq ?_
     refine a_blk ?_
     obtain ⟨zh13, H⟩ := chk_some H
     refine a_regC _ rfl ?_
     refine bA_n ?_
     refine sA_n ?_
     refine a_regC _ rfl ?_
     refine lA_n ?_
     exact wk_lA [(some 29, _)] [] (fun t0 => ⟨_, Nat.lt_succ_self _, n2, (l2 ++ [(IntKind.wrap .i64 (3 * i2))]), (IntKind.wrap .i64 (i2 + 1)), t0, H, rfl⟩)
    ·refine a_exit ?_
     refine sA_e ?_
     refine lA_e ?_
     refine bA_hit ?_
     refine cA_n ?_
     exact wk_lA [(some 0, _)] [] (fun t0 => ⟨n2, l2, t0, H, rfl⟩)
 ·rintro s ⟨n1, l1, t0, H, rfl⟩
  unfold law15_SeatWins_J1 at H
  refine a_seq ?_
  obtain ⟨zh2, H⟩ := chk_some H
  obtain ⟨x1, zh3, H⟩ := bind_some H
  obtain ⟨zg1, zh3a, zh3b⟩ := idx3 (f := (ci .i64)) zh3
  try simp only [Int.reduceToNat, Int.toNat_natCast] at zg1
  refine a_regC _ rfl ?_
  refine sA_n ?_
  refine a_seq ?_
  obtain ⟨r2, zh4, H⟩ := bind_some H
  have zk2 := seat_New_pc zh4
  obtain ⟨r3, zh5, H⟩ := bind_some H
  have zk3 := seat_Late_pc zh5
  refine a_reg _ rfl (s := ?zs6) ?_ ?_
  rotate_left
  ·try refine goS ?_
   repeat' with_reducible apply And.intro
   all_goals try ((with_reducible show CallR _ _ _ _ _ _ _); refine cR_f [0] zk2 (.cons (.int' rfl) (.cons (.ownL ((wrs_frz _ _ _ 0).trans (by rfl)) (fun _ => rfl) rfl (by first|rfl|omega|(simp;done)|(simp;omega)|(simp_all;done)) (.sm _ _ (ci_pu .i64))) .nil)) ?_; refine goS ?_)
   repeat' with_reducible apply And.intro
   all_goals try ((with_reducible show CallR _ _ _ _ _ _ _); refine cR_p zk3 (.cons (.agg' (.cons (.int' rfl) (.cons (.lst _ _ _ (ci_pu .i64) rfl) (.cons (.int' rfl) (.cons (.int' rfl) (.cons (.int' rfl) (.cons (.lst _ _ _ Entry.pu rfl) (.cons (.int' rfl) (.cons (.lst _ _ _ (ci_pu .i64) rfl) (.cons (.lst _ _ _ (ci_pu .i64) rfl) (.cons (.lst _ _ _ (ci_pu .i64) rfl) .nil))))))))))) .nil) ?_; refine goS ?_)
   all_goals ((repeat' apply And.intro) <;> first|rfl|assumption|omega|(simp;done)|(simp;omega)|(simp_all;done))
  refine sA_n ?_
  refine a_seq ?_
  refine a_seq ?_
  refine a_regC _ rfl ?_
  refine sA_n ?_
  refine a_cnd H (fun zc1 H => ?_) (fun zc1 H => ?_)
  ·refine a_seq ?_
   refine a_regC _ rfl ?_
   refine sA_n ?_
   exact a_ret (sA_r RT)
  ·refine a_skip ?_
   refine sA_n ?_
   refine a_seq ?_
   refine a_regC _ rfl ?_
   refine sA_n ?_
   refine a_cut (fun s => ∃ (s1 : Seat) (got1 : List Int) (t0 : Nat → Dat), law15_SeatWins_J2 r1 n1 s1 got1 = some r ∧ s = ⟨tl t0 [(9, .bool r1), (10, .int .i64 n1), (14, .ptr 0 0 0 10), (16, .ref 1 0 got1.length 1)], hl [⟨25, 10, false, [Seat.c s1]⟩, ⟨3, 1, false, got1.map (ci .i64)⟩], 2, 153⟩) ?_ ?_
   ·refine a_seq ?_
    refine a_regC _ rfl ?_
    refine sA_n ?_
    refine a_blk ?_
    refine a_loop (fun m s => ∃ (s2 : Seat) (got2 : List Int) (i1 : Int) (t0 : Nat → Dat), law15_SeatWins_L1 votes1 terms1 n1 l1 x1 r1 m s2 got2 i1 = some r ∧ s = ⟨tl t0 [(2, .list 1 (votes1.map (ci .u8))), (3, .list 1 (terms1.map (ci .u8))), (9, .bool r1), (10, .int .i64 n1), (11, .list 1 (l1.map (ci .i64))), (13, .int .i64 x1), (14, .ptr 0 0 0 10), (16, .ref 1 0 got2.length 1), (17, .int .i64 i1)], hl [⟨25, 10, false, [Seat.c s2]⟩, ⟨3, 1, false, got2.map (ci .i64)⟩], 2, 153⟩) BIG ?_ ?_
    ·refine wk_l [(some 72, ⟨25, 10, false, [[.int .i64 r3.1.id, .list 1 (r3.1.peers.map (ci .i64)), .int .i64 r3.1.term, .int .i64 r3.1.voted, .int .i64 r3.1.role, .list 2 (r3.1.log.map Entry.c), .int .i64 r3.1.commit, .list 1 (r3.1.votes.map (ci .i64)), .list 1 (r3.1.next.map (ci .i64)), .list 1 (r3.1.match_.map (ci .i64))]]⟩), (some 170, ⟨3, 1, false, [x1].map (ci .i64)⟩)] [0] [(2, .list 1 (votes1.map (ci .u8))), (3, .list 1 (terms1.map (ci .u8))), (9, .bool r1), (10, .int .i64 n1), (11, .list 1 (l1.map (ci .i64))), (13, .int .i64 x1), (14, .ptr 0 0 0 10), (16, .ref 1 0 [x1].length 1), (17, .int .i64 0)] (by show ([2, 3, 9, 10, 11, 13, 14, 16, 17] : List Nat).Nodup; decide) (by show ([72, 170] : List Nat).Nodup; decide) ?_ ?_ (fun t0 => ⟨r3.1, [x1], 0, t0, H, rfl⟩)
     ·exact (allB_some (by rfl) rfl (.cons (.cons (.int' rfl) (.cons (.lst _ _ _ (ci_pu .i64) rfl) (.cons (.int' rfl) (.cons (.int' rfl) (.cons (.int' rfl) (.cons (.lst _ _ _ Entry.pu rfl) (.cons (.int' rfl) (.cons (.lst _ _ _ (ci_pu .i64) rfl) (.cons (.lst _ _ _ (ci_pu .i64) rfl) (.cons (.lst _ _ _ (ci_pu .i64) rfl) .nil)))))))))) .nil) (allB_some (by rfl) rfl (.sm _ _ (ci_pu .i64)) trivial))
     ·(simp only [AllT, ATT, reduceEqDiff, ↓reduceIte, and_true]); exact ⟨(.lst _ _ _ (ci_pu .u8) rfl), (.lst _ _ _ (ci_pu .u8) rfl), (.bool' rfl), (.int' rfl), (.frz' (by rfl) (by simp) rfl (by first|rfl|omega|(simp;done)|(simp;omega)|(simp_all;done)) (.sm _ _ (ci_pu .i64))), (.int' rfl), (.ptr _ _ _ _ _ rfl), (.refl' (by first|rfl|omega|(simp;done)|(simp;omega)|(simp_all;done)) rfl), (.int' rfl)⟩
    ·rintro m_law15_SeatWins_L1 s ⟨s2, got2, i1, t0, H, rfl⟩
     obtain _ | m_law15_SeatWins_L1 := m_law15_SeatWins_L1
     ·cases (show (none : Option _) = some _ from H)
     ·rw [law15_SeatWins_L1] at H
      refine a_seq ?_
      refine a_seq ?_
      refine a_regC _ rfl ?_
      refine sA_n ?_
      refine a_cnd H (fun zc4 H => ?_) (fun zc4 H => ?_)
      ·refine a_skip ?_
       refine sA_n ?_
       refine a_seq ?_
       refine a_blk ?_
       refine a_seq ?_
       refine a_regC _ rfl ?_
       refine sA_n ?_
       refine a_cut (fun s => ∃ (term1 : Int) (t0 : Nat → Dat), law15_SeatWins_J3 (law15_SeatWins_L1 votes1 terms1 n1 l1 x1 r1 m_law15_SeatWins_L1) votes1 i1 n1 l1 s2 got2 x1 term1 = some r ∧ s = ⟨tl t0 [(2, .list 1 (votes1.map (ci .u8))), (3, .list 1 (terms1.map (ci .u8))), (9, .bool r1), (10, .int .i64 n1), (11, .list 1 (l1.map (ci .i64))), (13, .int .i64 x1), (14, .ptr 0 0 0 10), (16, .ref 1 0 got2.length 1), (17, .int .i64 i1), (18, .int .i64 term1)], hl [⟨25, 10, false, [Seat.c s2]⟩, ⟨3, 1, false, got2.map (ci .i64)⟩], 2, 153⟩) ?_ ?_
       ·refine a_seq ?_
        refine a_regC _ rfl ?_
        refine sA_n ?_
        refine a_cnd H (fun zc10 H => ?_) (fun zc10 H => ?_)
        ·obtain ⟨x4, zh12, H⟩ := bind_some H
         obtain ⟨zg4, zh12a, zh12b⟩ := idx3 (f := (ci .u8)) zh12
         try simp only [Int.reduceToNat, Int.toNat_natCast] at zg4
         refine a_regC _ rfl ?_
         refine cA_n ?_
         exact wk_lA [(some 0, _), (some 1, _)] [] (fun t0 => ⟨(Int.tmod (IntKind.wrap .i64 x4) 2), t0, H, rfl⟩)
        ·refine a_skip ?_
         refine cA_n ?_
         exact wk_lA [(some 0, _), (some 1, _)] [] (fun t0 => ⟨1, t0, H, rfl⟩)
       ·rintro s ⟨term1, t0, H, rfl⟩
        unfold law15_SeatWins_J3 at H
        refine a_seq ?_
        obtain ⟨x2, zh6, H⟩ := bind_some H
        obtain ⟨zg2, zh6a, zh6b⟩ := idx3 (f := (ci .u8)) zh6
        try simp only [Int.reduceToNat, Int.toNat_natCast] at zg2
        obtain ⟨zh7, H⟩ := chk_some H
        obtain ⟨x3, zh8, H⟩ := bind_some H
        obtain ⟨zg3, zh8a, zh8b⟩ := idx3 (f := (ci .i64)) zh8
        try simp only [Int.reduceToNat, Int.toNat_natCast] at zg3
        refine a_regC _ rfl ?_
        refine sA_n ?_
        refine a_seq ?_
        refine a_seq ?_
        refine a_regC _ rfl ?_
        refine sA_n ?_
        refine a_cnd H (fun zc5 H => ?_) (fun zc5 H => ?_)
        ·refine a_seq ?_
         refine a_regC _ rfl ?_
         refine sA_n ?_
         refine a_ret ?_
         refine sA_r ?_
         refine bA_r ?_
         refine sA_r ?_
         refine lA_r ?_
         refine bA_r ?_
         refine cA_r ?_
         obtain rfl := Option.some.inj H
         refine e_r2 (d := ?zd5) ?_ ?_
         rotate_left
         ·simp only [EVT, resR, single, evLoad, cut, TIS, CS, reduceAdd, reduceEqDiff, ↓reduceIte, reduceCtorEq, reduceLT, reduceLeDiff, reduceSub, Nat.reduceBEq, zg2, zg3, zc5]
          (repeat' apply And.intro) <;> first | rfl | assumption | omega | (simp; done)
         exact ZZ
        ·refine a_skip ?_
         refine sA_n ?_
         refine a_seq ?_
         obtain ⟨r4, zh9, H⟩ := bind_some H
         have zk4 := seat_Hear_pc zh9
         refine a_drW (by kernel_rfl) _ rfl (s := ?zs19) (by kernel_rfl) (by kernel_rfl) ?zs19f ?_ ?_ ?_
         rotate_left 2
         ·try refine goS ?_
          repeat' with_reducible apply And.intro
          all_goals try ((with_reducible show CallW _ _ _ _ _ _ _); refine cW_f [180] [180] (by decide) zk4 (fun h2 e => (.cons (.agg' (.cons (.int' rfl) (.cons (.lst _ _ _ (ci_pu .i64) rfl) (.cons (.int' rfl) (.cons (.int' rfl) (.cons (.int' rfl) (.cons (.lst _ _ _ Entry.pu rfl) (.cons (.int' rfl) (.cons (.lst _ _ _ (ci_pu .i64) rfl) (.cons (.lst _ _ _ (ci_pu .i64) rfl) (.cons (.lst _ _ _ (ci_pu .i64) rfl) .nil))))))))))) (.cons (.agg' (.cons (.int' rfl) (.cons (.int' rfl) (.cons (.int' rfl) (.cons (.ownL ((wrs_frz h2 _ h2 180).trans (by rw [e 180 (by simp)]; rfl)) (fun _ => rfl) rfl (by first|rfl|omega|(simp;done)|(simp;omega)|(simp_all;done)) (.sm _ _ (ci_pu .i64))) (.cons (.nil _) .nil)))))) .nil))) ?_; refine goS ?_)
          all_goals ((repeat' apply And.intro) <;> first|rfl|assumption|omega|(simp;done)|(simp;omega)|(simp_all;done))
         ·kernel_rfl
         refine sA_n ?_
         refine a_cut (fun s => ∃ (got3 : List Int) (t0 : Nat → Dat), law15_SeatWins_J4 (law15_SeatWins_L1 votes1 terms1 n1 l1 x1 r1 m_law15_SeatWins_L1) r4 i1 got3 = some r ∧ s = ⟨tl t0 [(2, .list 1 (votes1.map (ci .u8))), (3, .list 1 (terms1.map (ci .u8))), (9, .bool r1), (10, .int .i64 n1), (11, .list 1 (l1.map (ci .i64))), (13, .int .i64 x1), (14, .ptr 0 0 0 10), (16, .ref 1 0 got3.length 1), (17, .int .i64 i1), (20, .ptr 2 0 0 10)], hl [⟨25, 10, false, [Seat.c s2]⟩, ⟨3, 1, false, got3.map (ci .i64)⟩, ⟨25, 10, false, [Seat.c r4.1]⟩], 3, 153⟩) ?_ ?_
         ·refine a_cut (fun s => ∃ (v1 : Bool) (t0 : Nat → Dat), law15_SeatWins_J5 (law15_SeatWins_L1 votes1 terms1 n1 l1 x1 r1 m_law15_SeatWins_L1) got2 r4 i1 x3 v1 = some r ∧ s = ⟨tl t0 [(2, .list 1 (votes1.map (ci .u8))), (3, .list 1 (terms1.map (ci .u8))), (9, .bool r1), (10, .int .i64 n1), (11, .list 1 (l1.map (ci .i64))), (13, .int .i64 x1), (14, .ptr 0 0 0 10), (16, .ref 1 0 got2.length 1), (17, .int .i64 i1), (19, .int .i64 x3), (20, .ptr 2 0 0 10), (130, .bool v1)], hl [⟨25, 10, false, [Seat.c s2]⟩, ⟨3, 1, false, got2.map (ci .i64)⟩, ⟨25, 10, false, [Seat.c r4.1]⟩], 3, 153⟩) ?_ ?_
          ·refine cnd H (fun zc7 H => ?_) (fun zc7 H => ?_)
           ·refine cnd H (fun zc8 H => ?_) (fun zc8 H => ?_)
            ·refine cnd H (fun zc9 H => ?_) (fun zc9 H => ?_)
             ·obtain ⟨r5, zh11, H⟩ := bind_some H
              have zk5 := ref14_Has_pc zh11
              refine a_regK _ rfl ?_
              refine cA_n ?_
              exact wk_lA [(some 0, _), (some 1, _), (some 186, _)] [] (fun t0 => ⟨(!r5), t0, H, rfl⟩)
             ·refine a_regC _ rfl ?_
              refine cA_n ?_
              exact wk_lA [(some 0, _), (some 1, _), (some 186, _)] [] (fun t0 => ⟨false, t0, H, rfl⟩)
            ·refine a_regC _ rfl ?_
             refine cA_n ?_
             exact wk_lA [(some 0, _), (some 1, _), (some 186, _)] [] (fun t0 => ⟨false, t0, H, rfl⟩)
           ·refine a_regC _ rfl ?_
            refine cA_n ?_
            exact wk_lA [(some 0, _), (some 1, _), (some 186, _)] [] (fun t0 => ⟨false, t0, H, rfl⟩)
          ·rintro s ⟨v1, t0, H, rfl⟩
           unfold law15_SeatWins_J5 at H
           refine a_cnd H (fun zc6 H => ?_) (fun zc6 H => ?_)
           ·obtain ⟨zh10, H⟩ := chk_some H
            refine a_regC _ rfl ?_
            refine cA_n ?_
            exact wk_lA [(some 0, _), (some 6, _), (some 2, _)] [] (fun t0 => ⟨(got2 ++ [x3]), t0, H, rfl⟩)
           ·refine a_skip ?_
            refine cA_n ?_
            exact wk_lA [(some 0, _), (some 1, _), (some 2, _)] [] (fun t0 => ⟨got2, t0, H, rfl⟩)
         ·rintro s ⟨got3, t0, H, rfl⟩
          unfold law15_SeatWins_J4 at H
          refine a_regC _ rfl ?_
          refine bA_n ?_
          refine sA_n ?_
          refine a_regC _ rfl ?_
          refine lA_n ?_
          exact wk_lA [(some 0, _), (some 1, _)] [] (fun t0 => ⟨_, Nat.lt_succ_self _, r4.1, got3, (IntKind.wrap .i64 (i1 + 1)), t0, H, rfl⟩)
      ·refine a_exit ?_
       refine sA_e ?_
       refine lA_e ?_
       refine bA_hit ?_
       refine cA_n ?_
       exact wk_lA [(some 0, _), (some 1, _)] [] (fun t0 => ⟨s2, got2, t0, H, rfl⟩)
   ·rintro s ⟨s1, got1, t0, H, rfl⟩
    unfold law15_SeatWins_J2 at H
    refine a_seq ?_
    refine bool_split (b := r1) (fun zc2 => ?_) (fun zc2 => ?_)
    ·rw [zc2] at H
     refine bool_split (b := ((s1.role == 3) == (decide (n1 < (IntKind.wrap .i64 (2 * (((got1.length : Nat)) : Int))))))) (fun zc3 => ?_) (fun zc3 => ?_)
     ·rw [zc3] at H
      refine a_regC _ rfl ?_
      refine sA_n ?_
      refine a_ret ?_
      obtain rfl := Option.some.inj H
      refine e_r2 (d := ?zd2) ?_ ?_
      rotate_left
      ·simp only [EVT, resR, single, evLoad, cut, TIS, CS, reduceAdd, reduceEqDiff, ↓reduceIte, reduceCtorEq, reduceLT, reduceLeDiff, reduceSub, Nat.reduceBEq, zc2, zc3]
       (repeat' apply And.intro) <;> first | rfl | assumption | omega | (simp; done)
      exact ZZ
     ·rw [zc3] at H
      refine a_regC _ rfl ?_
      refine sA_n ?_
      refine a_ret ?_
      obtain rfl := Option.some.inj H
      refine e_r2 (d := ?zd3) ?_ ?_
      rotate_left
      ·simp only [EVT, resR, single, evLoad, cut, TIS, CS, reduceAdd, reduceEqDiff, ↓reduceIte, reduceCtorEq, reduceLT, reduceLeDiff, reduceSub, Nat.reduceBEq, zc2, zc3]
       (repeat' apply And.intro) <;> first | rfl | assumption | omega | (simp; done)
      exact ZZ
    ·rw [zc2] at H
     refine a_regC _ rfl ?_
     refine sA_n ?_
     refine a_ret ?_
     obtain rfl := Option.some.inj H
     refine e_r2 (d := ?zd4) ?_ ?_
     rotate_left
     ·simp only [EVT, resR, single, evLoad, cut, TIS, CS, reduceAdd, reduceEqDiff, ↓reduceIte, reduceCtorEq, reduceLT, reduceLeDiff, reduceSub, Nat.reduceBEq, zc2]
      (repeat' apply And.intro) <;> first | rfl | assumption | omega | (simp; done)
     exact ZZ
end
end Go.Proofs.YtmkpokcfefjifaaDoor
