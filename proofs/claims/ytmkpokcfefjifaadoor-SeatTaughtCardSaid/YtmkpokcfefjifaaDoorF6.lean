import Derived.Test.YtmkpokcfefjifaaDoorF5
import Derived.Test.YtmkpokcfefjifaaDoorL2
set_option linter.unusedSectionVars false
/- Functions of the program as Lean functions, and that they are so; printed by a program of mine. -/
set_option linter.unusedSimpArgs false
set_option linter.unusedVariables false
namespace Go.Proofs.YtmkpokcfefjifaaDoor
open Go.Ab
open Nat (reduceAdd reduceMul reduceEqDiff reduceLT reduceLeDiff reduceSub)
noncomputable section

def seat_isFor_J1 (x1 : Msg) (v1 : Bool) : Option Bool :=
 cond v1 (some (false)) (cond (x1.kind == 3) ((seat_carried_f x1).bind fun r1 => some (r1.2)) (cond (x1.kind == 1) (some (true)) ((idx x1.nums 1).bind fun x2 => some ((decide (x2 ≤ 1))))))
def seat_isFor_f (s1 : Seat) (x1 : Msg) : Option Bool :=
 chk (-9223372036854775808 ≤ x1.kind ∧ x1.kind ≤ 9223372036854775807) (cond (!(isKind x1.kind)) (seat_isFor_J1 x1 true) (cond (x1.to_ != s1.id) (seat_isFor_J1 x1 true) (cond (x1.from_ == s1.id) (seat_isFor_J1 x1 true) ((slices_Contains_f s1.peers x1.from_).bind fun r2 => cond (!r2) (seat_isFor_J1 x1 true) (cond (decide ((x1.nums.length : Int) < (numOf x1.kind))) (seat_isFor_J1 x1 true) (cond (x1.kind != 3) (cond (decide ((numOf x1.kind) < (IntKind.wrap .i64 ((x1.nums.length : Int) + (x1.data.length : Int))))) (seat_isFor_J1 x1 true) ((idx x1.nums 0).bind fun x3 => cond (decide (1099511627776 < x3)) (seat_isFor_J1 x1 true) ((slices_ContainsFunc_f x1.nums seat_isFor_1_f).bind fun r3 => seat_isFor_J1 x1 r3))) ((idx x1.nums 0).bind fun x4 => cond (decide (1099511627776 < x4)) (seat_isFor_J1 x1 true) ((slices_ContainsFunc_f x1.nums seat_isFor_1_f).bind fun r4 => seat_isFor_J1 x1 r4))))))))
set_option maxHeartbeats 4000000 in
set_option maxRecDepth 20000 in
theorem seat_isFor_pc {s1 : Seat} {x1 : Msg} {r : Bool} (H : seat_isFor_f s1 x1 = some r) : PC Tryd.prog 37 [.agg (Seat.c s1), .agg (Msg.c x1)] (.bool r) := by
 refine pcA_of Tryd.func37 (by rfl) (by decide) 92 (by rfl) [.tmp 4] (by rfl) ?_
 unfold seat_isFor_f at H
 simp only [ent]
 refine a_seq ?_
 refine a_regC _ rfl ?_
 refine sA_n ?_
 refine a_seq ?_
 obtain ⟨zh1, H⟩ := chk_some H
 refine a_reg _ rfl (s := ?zs2) ?_ ?_
 rotate_left
 ·try refine goS ?_
  repeat' with_reducible apply And.intro
  all_goals try ((with_reducible show OthR _ _ _ _ _); refine oth_gload rfl ?_; refine goS ?_)
  repeat' with_reducible apply And.intro
  all_goals try ((with_reducible show OthR _ _ _ _ _); refine oth_lookup rfl rfl rfl (by assumption) ?_; refine goS ?_)
  all_goals ((repeat' apply And.intro) <;> first|rfl|assumption|omega|(simp;done)|(simp;omega)|(simp_all;done))
 refine sA_n ?_
 refine a_seq ?_
 refine a_cut (fun s => ∃ (v1 : Bool) (t0 : Nat → Dat), seat_isFor_J1 x1 v1 = some r ∧ s = ⟨tl t0 [(3, .ptr 0 0 0 5), (72, .bool v1)], hl [⟨28, 5, false, [Msg.c x1]⟩], 1, 92⟩) ?_ ?_
 ·refine cnd H (fun zc4 H => ?_) (fun zc4 H => ?_)
  ·refine a_regC _ rfl ?_
   refine cA_n ?_
   exact wk_lA [(some 1, _)] [] (fun t0 => ⟨true, t0, H, rfl⟩)
  ·refine cnd H (fun zc5 H => ?_) (fun zc5 H => ?_)
   ·refine a_regC _ rfl ?_
    refine cA_n ?_
    exact wk_lA [(some 1, _)] [] (fun t0 => ⟨true, t0, H, rfl⟩)
   ·refine cnd H (fun zc6 H => ?_) (fun zc6 H => ?_)
    ·refine a_regC _ rfl ?_
     refine cA_n ?_
     exact wk_lA [(some 1, _)] [] (fun t0 => ⟨true, t0, H, rfl⟩)
    ·obtain ⟨r2, zh4, H⟩ := bind_some H
     have zk2 := slices_Contains_pc zh4
     refine cnd H (fun zc7 H => ?_) (fun zc7 H => ?_)
     ·refine a_regK _ rfl ?_
      refine cA_n ?_
      exact wk_lA [(some 1, _)] [] (fun t0 => ⟨true, t0, H, rfl⟩)
     ·refine cnd H (fun zc8 H => ?_) (fun zc8 H => ?_)
      ·refine a_regK _ rfl ?_
       refine cA_n ?_
       exact wk_lA [(some 1, _)] [] (fun t0 => ⟨true, t0, H, rfl⟩)
      ·refine cnd H (fun zc9 H => ?_) (fun zc9 H => ?_)
       ·refine cnd H (fun zc10 H => ?_) (fun zc10 H => ?_)
        ·refine a_regK _ rfl ?_
         refine cA_n ?_
         exact wk_lA [(some 1, _)] [] (fun t0 => ⟨true, t0, H, rfl⟩)
        ·obtain ⟨x3, zh5, H⟩ := bind_some H
         obtain ⟨zg2, zh5a, zh5b⟩ := idx3 (f := (ci .i64)) zh5
         try simp only [Int.reduceToNat, Int.toNat_natCast] at zg2
         refine cnd H (fun zc11 H => ?_) (fun zc11 H => ?_)
         ·refine a_regK _ rfl ?_
          refine cA_n ?_
          exact wk_lA [(some 1, _)] [] (fun t0 => ⟨true, t0, H, rfl⟩)
         ·obtain ⟨r3, zh6, H⟩ := bind_some H
          have zk3 := slices_ContainsFunc_pc (f1 := seat_isFor_1_f) (f1_F := 62) (f1_caps := []) (fun _ _ h => seat_isFor_1_pc h) .nil zh6
          refine a_regK _ rfl ?_
          refine cA_n ?_
          exact wk_lA [(some 1, _)] [] (fun t0 => ⟨r3, t0, H, rfl⟩)
       ·obtain ⟨x4, zh7, H⟩ := bind_some H
        obtain ⟨zg3, zh7a, zh7b⟩ := idx3 (f := (ci .i64)) zh7
        try simp only [Int.reduceToNat, Int.toNat_natCast] at zg3
        refine cnd H (fun zc12 H => ?_) (fun zc12 H => ?_)
        ·refine a_regK _ rfl ?_
         refine cA_n ?_
         exact wk_lA [(some 1, _)] [] (fun t0 => ⟨true, t0, H, rfl⟩)
        ·obtain ⟨r4, zh8, H⟩ := bind_some H
         have zk4 := slices_ContainsFunc_pc (f1 := seat_isFor_1_f) (f1_F := 62) (f1_caps := []) (fun _ _ h => seat_isFor_1_pc h) .nil zh8
         refine a_regK _ rfl ?_
         refine cA_n ?_
         exact wk_lA [(some 1, _)] [] (fun t0 => ⟨r4, t0, H, rfl⟩)
 ·rintro s ⟨v1, t0, H, rfl⟩
  unfold seat_isFor_J1 at H
  refine a_cnd H (fun zc1 H => ?_) (fun zc1 H => ?_)
  ·refine a_seq ?_
   refine a_regC _ rfl ?_
   refine sA_n ?_
   exact a_ret (sA_r RT)
  ·refine a_skip ?_
   refine sA_n ?_
   refine a_seq ?_
   refine a_seq ?_
   refine a_regC _ rfl ?_
   refine sA_n ?_
   refine a_cnd H (fun zc2 H => ?_) (fun zc2 H => ?_)
   ·refine a_seq ?_
    obtain ⟨r1, zh2, H⟩ := bind_some H
    have zk1 := seat_carried_pc zh2
    refine a_regK _ rfl ?_
    refine sA_n ?_
    refine a_seq ?_
    refine a_regC _ rfl ?_
    refine sA_n ?_
    refine a_ret ?_
    refine sA_r ?_
    obtain rfl := Option.some.inj H
    refine e_r2 (d := ?zd2) ?_ ?_
    rotate_left
    ·simp only [EVT, resR, single, evLoad, cut, TIS, CS, reduceAdd, reduceEqDiff, ↓reduceIte, reduceCtorEq, reduceLT, reduceLeDiff, reduceSub, Nat.reduceBEq, zc1, zc2]
     (repeat' apply And.intro) <;> first | rfl | assumption | omega | (simp; done)
    exact ZZ
   ·refine a_skip ?_
    refine sA_n ?_
    refine a_seq ?_
    refine cnd H (fun zc3 H => ?_) (fun zc3 H => ?_)
    ·refine a_reg _ rfl (s := ?zs7) ?_ ?_
     rotate_left
     ·simp only [EVT, stepR, evOp, St.ev, St.app, St.put, wrs, evFieldAddr, evLoad, cut, datOf, datOf1, evBin, binInt, evIndexAddr, TIS, CS, reduceAdd, reduceMul, reduceEqDiff, ↓reduceIte, reduceCtorEq, reduceLT, reduceLeDiff, Array.reduceGetElem?, Int.reduceToNat, reduceSub, Nat.reduceBEq, ↓zc1, ↓zc2, ↓zc3]
      try simp only [EVT, stepR, evOp, St.ev, St.app, St.put, wrs, evFieldAddr, evLoad, cut, datOf, datOf1, evBin, binInt, evIndexAddr, TIS, CS, reduceAdd, reduceMul, reduceEqDiff, ↓reduceIte, reduceCtorEq, reduceLT, reduceLeDiff, Array.reduceGetElem?, Int.reduceToNat, reduceSub, Nat.reduceBEq, ↓zc1, ↓zc2, ↓zc3]
      (repeat' apply And.intro) <;> first|rfl|assumption|omega|(simp;done)|(simp;omega)|(simp_all;done)
     refine sA_n ?_
     refine a_ret ?_
     obtain rfl := Option.some.inj H
     refine e_r2 (d := ?zd3) ?_ ?_
     rotate_left
     ·simp only [EVT, resR, single, evLoad, cut, TIS, CS, reduceAdd, reduceEqDiff, ↓reduceIte, reduceCtorEq, reduceLT, reduceLeDiff, reduceSub, Nat.reduceBEq, zc1, zc2, zc3]
      (repeat' apply And.intro) <;> first | rfl | assumption | omega | (simp; done)
     exact ZZ
    ·obtain ⟨x2, zh3, H⟩ := bind_some H
     obtain ⟨zg1, zh3a, zh3b⟩ := idx3 (f := (ci .i64)) zh3
     try simp only [Int.reduceToNat, Int.toNat_natCast] at zg1
     refine a_regC _ rfl ?_
     refine sA_n ?_
     refine a_ret ?_
     obtain rfl := Option.some.inj H
     refine e_r2 (d := ?zd4) ?_ ?_
     rotate_left
     ·simp only [EVT, resR, single, evLoad, cut, TIS, CS, reduceAdd, reduceEqDiff, ↓reduceIte, reduceCtorEq, reduceLT, reduceLeDiff, reduceSub, Nat.reduceBEq, zc1, zc2, zc3, zg1]
      (repeat' apply And.intro) <;> first | rfl | assumption | omega | (simp; done)
     exact ZZ
def seat_Hear_J1 (x1 : Msg) (id1 : Int) (peers1 : List Int) (term1 : Int) (voted1 : Int) (role1 : Int) (log1 : List Entry) (commit1 : Int) (votes1 : List Int) (next1 : List Int) (match1 : List Int) : Option (Seat × (List Msg)) :=
 four x1.kind ((seat_machine_ask_f (⟨(⟨id1, peers1, term1, voted1, role1, log1, commit1, votes1, next1, match1⟩ : Seat), []⟩ : Machine) x1).bind fun r2 => some (r2.seat, r2.out)) ((seat_machine_voted_f (⟨(⟨id1, peers1, term1, voted1, role1, log1, commit1, votes1, next1, match1⟩ : Seat), []⟩ : Machine) x1).bind fun r3 => some (r3.seat, r3.out)) ((seat_machine_puts_f (⟨(⟨id1, peers1, term1, voted1, role1, log1, commit1, votes1, next1, match1⟩ : Seat), []⟩ : Machine) x1).bind fun r4 => some (r4.seat, r4.out)) ((seat_machine_told_f (⟨(⟨id1, peers1, term1, voted1, role1, log1, commit1, votes1, next1, match1⟩ : Seat), []⟩ : Machine) x1).bind fun r5 => some (r5.seat, r5.out))
def seat_Hear_J2 (x1 : Msg) (s1 : Seat) (v1 : Bool) : Option (Seat × (List Msg)) :=
 cond v1 ((idx x1.nums 0).bind fun x2 => (vote_Down_f s1 x2).bind fun r6 => seat_Hear_J1 x1 r6.id r6.peers r6.term r6.voted r6.role r6.log r6.commit r6.votes r6.next r6.match_) (seat_Hear_J1 x1 s1.id s1.peers s1.term s1.voted s1.role s1.log s1.commit s1.votes s1.next s1.match_)
def seat_Hear_f (s1 : Seat) (x1 : Msg) : Option (Seat × (List Msg)) :=
 (seat_isFor_f s1 x1).bind fun r1 => cond (!r1) (some (s1, [])) (cond (x1.kind != 1) ((idx x1.nums 0).bind fun x3 => seat_Hear_J2 x1 s1 (decide (s1.term < x3))) (seat_Hear_J2 x1 s1 false))
set_option maxHeartbeats 4000000 in
set_option maxRecDepth 20000 in
theorem seat_Hear_pc {s1 : Seat} {x1 : Msg} {r : Seat × (List Msg)} (H : seat_Hear_f s1 x1 = some r) : PC Tryd.prog 12 [.agg (Seat.c s1), .agg (Msg.c x1)] (.tup [.agg (Seat.c r.1), .list 5 (r.2.map Msg.c)]) := by
 refine pcA_of Tryd.func12 (by rfl) (by decide) 60 (by rfl) [.cell 4 25, .tmp 5] (by rfl) ?_
 unfold seat_Hear_f at H
 simp only [ent]
 refine a_seq ?_
 refine a_regC _ rfl ?_
 refine sA_n ?_
 refine a_seq ?_
 refine a_seq ?_
 obtain ⟨r1, zh1, H⟩ := bind_some H
 have zk1 := seat_isFor_pc zh1
 refine a_regK _ rfl ?_
 refine sA_n ?_
 refine a_cnd H (fun zc1 H => ?_) (fun zc1 H => ?_)
 ·refine a_seq ?_
  refine a_regC _ rfl ?_
  refine sA_n ?_
  exact a_ret (sA_r RT)
 ·refine a_skip ?_
  refine sA_n ?_
  refine a_seq ?_
  refine a_regC _ rfl ?_
  refine sA_n ?_
  refine a_cut (fun s => ∃ (id1 : Int) (peers1 : List Int) (term1 : Int) (voted1 : Int) (role1 : Int) (log1 : List Entry) (commit1 : Int) (votes1 : List Int) (next1 : List Int) (match1 : List Int) (t0 : Nat → Dat), seat_Hear_J1 x1 id1 peers1 term1 voted1 role1 log1 commit1 votes1 next1 match1 = some r ∧ s = ⟨tl t0 [(3, .ptr 0 0 0 5), (4, .ptr 1 0 0 10), (6, .ptr 2 0 0 11)], hl [⟨28, 5, false, [Msg.c x1]⟩, ⟨25, 10, false, [[.int .i64 0, .nil, .int .i64 0, .int .i64 0, .int .i64 0, .nil, .int .i64 0, .nil, .nil, .nil]]⟩, ⟨61, 11, false, [[.int .i64 id1, .list 1 (peers1.map (ci .i64)), .int .i64 term1, .int .i64 voted1, .int .i64 role1, .list 2 (log1.map Entry.c), .int .i64 commit1, .list 1 (votes1.map (ci .i64)), .list 1 (next1.map (ci .i64)), .list 1 (match1.map (ci .i64)), .nil]]⟩], 3, 60⟩) ?_ ?_
  ·refine a_cut (fun s => ∃ (v1 : Bool) (t0 : Nat → Dat), seat_Hear_J2 x1 s1 v1 = some r ∧ s = ⟨tl t0 [(3, .ptr 0 0 0 5), (4, .ptr 1 0 0 10), (6, .ptr 2 0 0 11), (30, .bool v1)], hl [⟨28, 5, false, [Msg.c x1]⟩, ⟨25, 10, false, [[.int .i64 0, .nil, .int .i64 0, .int .i64 0, .int .i64 0, .nil, .int .i64 0, .nil, .nil, .nil]]⟩, ⟨61, 11, false, [[.int .i64 s1.id, .list 1 (s1.peers.map (ci .i64)), .int .i64 s1.term, .int .i64 s1.voted, .int .i64 s1.role, .list 2 (s1.log.map Entry.c), .int .i64 s1.commit, .list 1 (s1.votes.map (ci .i64)), .list 1 (s1.next.map (ci .i64)), .list 1 (s1.match_.map (ci .i64)), .nil]]⟩], 3, 60⟩) ?_ ?_
   ·refine cnd H (fun zc3 H => ?_) (fun zc3 H => ?_)
    ·obtain ⟨x3, zh8, H⟩ := bind_some H
     obtain ⟨zg2, zh8a, zh8b⟩ := idx3 (f := (ci .i64)) zh8
     try simp only [Int.reduceToNat, Int.toNat_natCast] at zg2
     refine a_drW (by kernel_rfl) _ rfl (s := ?zs15) (by kernel_rfl) (by kernel_rfl) ?zs15f ?_ ?_ ?_
     rotate_left 2
     ·refine goS ?_
      try refine goS ?_
      (repeat' apply And.intro) <;> first|rfl|assumption|omega|(simp;done)|(simp;omega)|(simp_all;done)
     ·kernel_rfl
     refine cA_n ?_
     exact wk_lA [(some 1, _), (some 2, _), (some 66, _)] [] (fun t0 => ⟨(decide (s1.term < x3)), t0, H, rfl⟩)
    ·refine a_drW (by kernel_rfl) _ rfl (s := ?zs16) (by kernel_rfl) (by kernel_rfl) ?zs16f ?_ ?_ ?_
     rotate_left 2
     ·refine goS ?_
      try refine goS ?_
      (repeat' apply And.intro) <;> first|rfl|assumption|omega|(simp;done)|(simp;omega)|(simp_all;done)
     ·kernel_rfl
     refine cA_n ?_
     exact wk_lA [(some 1, _), (some 2, _), (some 66, _)] [] (fun t0 => ⟨false, t0, H, rfl⟩)
   ·rintro s ⟨v1, t0, H, rfl⟩
    unfold seat_Hear_J2 at H
    refine a_cnd H (fun zc2 H => ?_) (fun zc2 H => ?_)
    ·obtain ⟨x2, zh6, H⟩ := bind_some H
     obtain ⟨zg1, zh6a, zh6b⟩ := idx3 (f := (ci .i64)) zh6
     try simp only [Int.reduceToNat, Int.toNat_natCast] at zg1
     obtain ⟨r6, zh7, H⟩ := bind_some H
     have zk6 := vote_Down_pc zh7
     refine a_drW (by kernel_rfl) _ rfl (s := ?zs14) (by kernel_rfl) (by kernel_rfl) ?zs14f ?_ ?_ ?_
     rotate_left 2
     ·try refine goS ?_
      repeat' with_reducible apply And.intro
      all_goals try ((with_reducible show CallW _ _ _ _ _ _ _); refine cW_p [] zk6 (fun h2 e => (.cons (.agg' (.cons (.int' rfl) (.cons (.lst _ _ _ (ci_pu .i64) rfl) (.cons (.int' rfl) (.cons (.int' rfl) (.cons (.int' rfl) (.cons (.lst _ _ _ Entry.pu rfl) (.cons (.int' rfl) (.cons (.lst _ _ _ (ci_pu .i64) rfl) (.cons (.lst _ _ _ (ci_pu .i64) rfl) (.cons (.lst _ _ _ (ci_pu .i64) rfl) .nil))))))))))) (.cons (.int' rfl) .nil))) ?_; refine goS ?_)
      all_goals ((repeat' apply And.intro) <;> first|rfl|assumption|omega|(simp;done)|(simp;omega)|(simp_all;done))
     ·kernel_rfl
     refine cA_n ?_
     exact wk_lA [(some 0, _), (some 1, _), (some 2, _)] [] (fun t0 => ⟨r6.id, r6.peers, r6.term, r6.voted, r6.role, r6.log, r6.commit, r6.votes, r6.next, r6.match_, t0, H, rfl⟩)
    ·refine a_skip ?_
     refine cA_n ?_
     refine wk_l [(some 0, ⟨28, 5, false, [Msg.c x1]⟩), (some 1, ⟨25, 10, false, [[.int .i64 0, .nil, .int .i64 0, .int .i64 0, .int .i64 0, .nil, .int .i64 0, .nil, .nil, .nil]]⟩), (some 2, ⟨61, 11, false, [[.int .i64 s1.id, .list 1 (s1.peers.map (ci .i64)), .int .i64 s1.term, .int .i64 s1.voted, .int .i64 s1.role, .list 2 (s1.log.map Entry.c), .int .i64 s1.commit, .list 1 (s1.votes.map (ci .i64)), .list 1 (s1.next.map (ci .i64)), .list 1 (s1.match_.map (ci .i64)), .nil]]⟩)] [] [(3, .ptr 0 0 0 5), (4, .ptr 1 0 0 10), (6, .ptr 2 0 0 11)] (by show ([3, 4, 6] : List Nat).Nodup; decide) (by show ([0, 1, 2] : List Nat).Nodup; decide) ?_ ?_ (fun t0 => ⟨s1.id, s1.peers, s1.term, s1.voted, s1.role, s1.log, s1.commit, s1.votes, s1.next, s1.match_, t0, H, rfl⟩)
     ·exact ZZ
     ·exact ZT
  ·rintro s ⟨id1, peers1, term1, voted1, role1, log1, commit1, votes1, next1, match1, t0, H, rfl⟩
   unfold seat_Hear_J1 at H
   refine a_seq ?_
   refine a_regR [_, _, _, _, _, _, _] rfl (s := ?zs5) ?_ ?_
   rotate_left
   ·refine hears_reg ?_ ?_ <;> rfl
   refine sA_n ?_
   refine a_seq ?_
   rcases four_some H with ⟨zq1, H⟩ | ⟨zq1, H⟩ | ⟨zq1, H⟩ | ⟨zq1, H⟩
   ·try skip
    obtain ⟨r2, zh2, H⟩ := bind_some H
    have zk2 := seat_machine_ask_rc zh2
    refine a_reg _ rfl (s := ?zs6) ?_ ?_
    rotate_left
    ·try simp only [EVT, stepR, evOp, St.ev, St.app, St.put, wrs, evFieldAddr, evLoad, cut, frz, TIS, othE, evAppStr, strCells_eq, strBytes_len, CS, reduceAdd, reduceMul, reduceEqDiff, ↓reduceIte, reduceCtorEq, reduceLT, reduceLeDiff, reduceSub, Nat.reduceBEq]
     repeat' with_reducible apply And.intro
     all_goals try ((with_reducible show OthR _ _ _ _ _); refine oth_hear (j := 1) (F := 39) rfl (by decide) rfl rfl rfl zq1 ?_; simp only [EVT, stepR, evOp, St.ev, St.app, St.put, wrs, evFieldAddr, evLoad, cut, frz, TIS, othE, evAppStr, strCells_eq, strBytes_len, CS, reduceAdd, reduceMul, reduceEqDiff, ↓reduceIte, reduceCtorEq, reduceLT, reduceLeDiff, reduceSub, Nat.reduceBEq])
     repeat' with_reducible apply And.intro
     all_goals try ((with_reducible show CallR _ _ _ _ _ _ _); refine callR_rcw (r' := .tup []) [(2, none), (2, some ⟨61, 11, false, [[.int .i64 r2.seat.id, .list 1 (r2.seat.peers.map (ci .i64)), .int .i64 r2.seat.term, .int .i64 r2.seat.voted, .int .i64 r2.seat.role, .list 2 (r2.seat.log.map Entry.c), .int .i64 r2.seat.commit, .list 1 (r2.seat.votes.map (ci .i64)), .list 1 (r2.seat.next.map (ci .i64)), .list 1 (r2.seat.match_.map (ci .i64)), .ref 65 0 r2.out.length 5]]⟩), (65, some ⟨28, 5, false, r2.out.map Msg.c⟩)] [(some 2, ⟨61, 11, false, [[.int .i64 (((⟨(⟨id1, peers1, term1, voted1, role1, log1, commit1, votes1, next1, match1⟩ : Seat), []⟩ : Machine).seat).id), .list 1 ((((⟨(⟨id1, peers1, term1, voted1, role1, log1, commit1, votes1, next1, match1⟩ : Seat), []⟩ : Machine).seat).peers).map (ci .i64)), .int .i64 (((⟨(⟨id1, peers1, term1, voted1, role1, log1, commit1, votes1, next1, match1⟩ : Seat), []⟩ : Machine).seat).term), .int .i64 (((⟨(⟨id1, peers1, term1, voted1, role1, log1, commit1, votes1, next1, match1⟩ : Seat), []⟩ : Machine).seat).voted), .int .i64 (((⟨(⟨id1, peers1, term1, voted1, role1, log1, commit1, votes1, next1, match1⟩ : Seat), []⟩ : Machine).seat).role), .list 2 ((((⟨(⟨id1, peers1, term1, voted1, role1, log1, commit1, votes1, next1, match1⟩ : Seat), []⟩ : Machine).seat).log).map Entry.c), .int .i64 (((⟨(⟨id1, peers1, term1, voted1, role1, log1, commit1, votes1, next1, match1⟩ : Seat), []⟩ : Machine).seat).commit), .list 1 ((((⟨(⟨id1, peers1, term1, voted1, role1, log1, commit1, votes1, next1, match1⟩ : Seat), []⟩ : Machine).seat).votes).map (ci .i64)), .list 1 ((((⟨(⟨id1, peers1, term1, voted1, role1, log1, commit1, votes1, next1, match1⟩ : Seat), []⟩ : Machine).seat).next).map (ci .i64)), .list 1 ((((⟨(⟨id1, peers1, term1, voted1, role1, log1, commit1, votes1, next1, match1⟩ : Seat), []⟩ : Machine).seat).match_).map (ci .i64)), .ref 1 0 (([] : List Msg).length) 5]]⟩), (none, ⟨28, 5, false, ([] : List Msg).map Msg.c⟩)] [] [(2, 0, ⟨61, 11, false, [[.int .i64 r2.seat.id, .list 1 (r2.seat.peers.map (ci .i64)), .int .i64 r2.seat.term, .int .i64 r2.seat.voted, .int .i64 r2.seat.role, .list 2 (r2.seat.log.map Entry.c), .int .i64 r2.seat.commit, .list 1 (r2.seat.votes.map (ci .i64)), .list 1 (r2.seat.next.map (ci .i64)), .list 1 (r2.seat.match_.map (ci .i64)), .ref 65 0 r2.out.length 5]]⟩), (65, 1, ⟨28, 5, false, r2.out.map Msg.c⟩)] (by first | rfl | (simp only [List.map_set, List.map_append, List.map_cons, List.map_nil]; rfl)) zk2 (by simp) (by show ([2] : List Nat).Nodup; decide) (allB_some (by rfl) rfl (.cons (.cons (.int' rfl) (.cons (.lst _ _ _ (ci_pu .i64) rfl) (.cons (.int' rfl) (.cons (.int' rfl) (.cons (.int' rfl) (.cons (.lst _ _ _ Entry.pu rfl) (.cons (.int' rfl) (.cons (.lst _ _ _ (ci_pu .i64) rfl) (.cons (.lst _ _ _ (ci_pu .i64) rfl) (.cons (.lst _ _ _ (ci_pu .i64) rfl) (.cons (.nilv _ _ rfl rfl) .nil))))))))))) .nil) (allB_none rfl trivial)) (.cons (.ptr _ _ _ _ _ rfl) (.cons (.agg' (.cons (.int' rfl) (.cons (.int' rfl) (.cons (.int' rfl) (.cons (.lst _ _ _ (ci_pu .i64) rfl) (.cons (.lst _ _ _ (ci_pu .u8) rfl) .nil)))))) .nil)) (by show ([2, 65] : List Nat).Nodup; decide) (by show ([0, 1] : List Nat).Nodup; decide) ⟨.inl ⟨by decide, rfl⟩, ⟨_, rfl, ⟨rfl, rfl, rfl, rfl⟩, .cons (.cons (.int' rfl) (.cons (.lst _ _ _ (ci_pu .i64) rfl) (.cons (.int' rfl) (.cons (.int' rfl) (.cons (.int' rfl) (.cons (.lst _ _ _ Entry.pu rfl) (.cons (.int' rfl) (.cons (.lst _ _ _ (ci_pu .i64) rfl) (.cons (.lst _ _ _ (ci_pu .i64) rfl) (.cons (.lst _ _ _ (ci_pu .i64) rfl) (.cons (.refl' rfl rfl) .nil))))))))))) .nil⟩, ⟨.inr ⟨rfl, by decide⟩, ⟨_, rfl, ⟨rfl, rfl, rfl, rfl⟩, .same _ _ Msg.pu rfl⟩, trivial⟩⟩ (.tup' .nil) ?_; simp only [EVT, stepR, evOp, St.ev, St.app, St.put, wrs, evFieldAddr, evLoad, cut, frz, TIS, othE, evAppStr, strCells_eq, strBytes_len, CS, reduceAdd, reduceMul, reduceEqDiff, ↓reduceIte, reduceCtorEq, reduceLT, reduceLeDiff, reduceSub, Nat.reduceBEq])
     all_goals ((repeat' apply And.intro) <;> first|rfl|assumption|omega|(simp;done)|(simp;omega)|(simp_all;done))
    refine sA_n ?_
    refine a_seq ?_
    refine a_drW (by kernel_rfl) _ rfl (s := ?zs7) (by kernel_rfl) (by kernel_rfl) ?zs7f ?_ ?_ ?_
    rotate_left 2
    ·simp only [EVT, stepW, evOp, St.ev, St.app, St.put, wrs, evFieldAddr, evLoad, cut, evStore, setR, allOne, TIS, CS, reduceAdd, reduceMul, reduceEqDiff, ↓reduceIte, reduceCtorEq, reduceLT, reduceLeDiff, reduceSub, Nat.reduceBEq]
     (repeat' apply And.intro) <;> first|rfl|assumption|omega|(simp;done)|(simp;omega)|(simp_all;done)
    ·kernel_rfl
    refine sA_n ?_
    refine a_ret ?_
    obtain rfl := Option.some.inj H
    refine e_r2 (d := ?zd2) ?_ ?_
    rotate_left
    ·simp only [EVT, resR, single, evLoad, cut, TIS, CS, reduceAdd, reduceEqDiff, ↓reduceIte, reduceCtorEq, reduceLT, reduceLeDiff, reduceSub, Nat.reduceBEq]
     (repeat' apply And.intro) <;> first | rfl | assumption | omega | (simp; done)
    exact (.tup' (.cons (.agg' (.cons (.int' rfl) (.cons (.lst _ _ _ (ci_pu .i64) rfl) (.cons (.int' rfl) (.cons (.int' rfl) (.cons (.int' rfl) (.cons (.lst _ _ _ Entry.pu rfl) (.cons (.int' rfl) (.cons (.lst _ _ _ (ci_pu .i64) rfl) (.cons (.lst _ _ _ (ci_pu .i64) rfl) (.cons (.lst _ _ _ (ci_pu .i64) rfl) .nil))))))))))) (.cons (.ownL (by rfl) (fun e => by cases e) rfl (by first | rfl | omega | (simp; done) | (simp [strBytes_len]; done) | (simp; omega) | (simp_all; done)) (.sm _ _ Msg.pu)) .nil)))
   ·try skip
    obtain ⟨r3, zh3, H⟩ := bind_some H
    have zk3 := seat_machine_voted_rc zh3
    refine a_reg _ rfl (s := ?zs8) ?_ ?_
    rotate_left
    ·try simp only [EVT, stepR, evOp, St.ev, St.app, St.put, wrs, evFieldAddr, evLoad, cut, frz, TIS, othE, evAppStr, strCells_eq, strBytes_len, CS, reduceAdd, reduceMul, reduceEqDiff, ↓reduceIte, reduceCtorEq, reduceLT, reduceLeDiff, reduceSub, Nat.reduceBEq]
     repeat' with_reducible apply And.intro
     all_goals try ((with_reducible show OthR _ _ _ _ _); refine oth_hear (j := 2) (F := 40) rfl (by decide) rfl rfl rfl zq1 ?_; simp only [EVT, stepR, evOp, St.ev, St.app, St.put, wrs, evFieldAddr, evLoad, cut, frz, TIS, othE, evAppStr, strCells_eq, strBytes_len, CS, reduceAdd, reduceMul, reduceEqDiff, ↓reduceIte, reduceCtorEq, reduceLT, reduceLeDiff, reduceSub, Nat.reduceBEq])
     repeat' with_reducible apply And.intro
     all_goals try ((with_reducible show CallR _ _ _ _ _ _ _); refine callR_rcw (r' := .tup []) [(2, none), (2, some ⟨61, 11, false, [[.int .i64 r3.seat.id, .list 1 (r3.seat.peers.map (ci .i64)), .int .i64 r3.seat.term, .int .i64 r3.seat.voted, .int .i64 r3.seat.role, .list 2 (r3.seat.log.map Entry.c), .int .i64 r3.seat.commit, .list 1 (r3.seat.votes.map (ci .i64)), .list 1 (r3.seat.next.map (ci .i64)), .list 1 (r3.seat.match_.map (ci .i64)), .ref 65 0 r3.out.length 5]]⟩), (65, some ⟨28, 5, false, r3.out.map Msg.c⟩)] [(some 2, ⟨61, 11, false, [[.int .i64 (((⟨(⟨id1, peers1, term1, voted1, role1, log1, commit1, votes1, next1, match1⟩ : Seat), []⟩ : Machine).seat).id), .list 1 ((((⟨(⟨id1, peers1, term1, voted1, role1, log1, commit1, votes1, next1, match1⟩ : Seat), []⟩ : Machine).seat).peers).map (ci .i64)), .int .i64 (((⟨(⟨id1, peers1, term1, voted1, role1, log1, commit1, votes1, next1, match1⟩ : Seat), []⟩ : Machine).seat).term), .int .i64 (((⟨(⟨id1, peers1, term1, voted1, role1, log1, commit1, votes1, next1, match1⟩ : Seat), []⟩ : Machine).seat).voted), .int .i64 (((⟨(⟨id1, peers1, term1, voted1, role1, log1, commit1, votes1, next1, match1⟩ : Seat), []⟩ : Machine).seat).role), .list 2 ((((⟨(⟨id1, peers1, term1, voted1, role1, log1, commit1, votes1, next1, match1⟩ : Seat), []⟩ : Machine).seat).log).map Entry.c), .int .i64 (((⟨(⟨id1, peers1, term1, voted1, role1, log1, commit1, votes1, next1, match1⟩ : Seat), []⟩ : Machine).seat).commit), .list 1 ((((⟨(⟨id1, peers1, term1, voted1, role1, log1, commit1, votes1, next1, match1⟩ : Seat), []⟩ : Machine).seat).votes).map (ci .i64)), .list 1 ((((⟨(⟨id1, peers1, term1, voted1, role1, log1, commit1, votes1, next1, match1⟩ : Seat), []⟩ : Machine).seat).next).map (ci .i64)), .list 1 ((((⟨(⟨id1, peers1, term1, voted1, role1, log1, commit1, votes1, next1, match1⟩ : Seat), []⟩ : Machine).seat).match_).map (ci .i64)), .ref 1 0 (([] : List Msg).length) 5]]⟩), (none, ⟨28, 5, false, ([] : List Msg).map Msg.c⟩)] [] [(2, 0, ⟨61, 11, false, [[.int .i64 r3.seat.id, .list 1 (r3.seat.peers.map (ci .i64)), .int .i64 r3.seat.term, .int .i64 r3.seat.voted, .int .i64 r3.seat.role, .list 2 (r3.seat.log.map Entry.c), .int .i64 r3.seat.commit, .list 1 (r3.seat.votes.map (ci .i64)), .list 1 (r3.seat.next.map (ci .i64)), .list 1 (r3.seat.match_.map (ci .i64)), .ref 65 0 r3.out.length 5]]⟩), (65, 1, ⟨28, 5, false, r3.out.map Msg.c⟩)] (by first | rfl | (simp only [List.map_set, List.map_append, List.map_cons, List.map_nil]; rfl)) zk3 (by simp) (by show ([2] : List Nat).Nodup; decide) (allB_some (by rfl) rfl (.cons (.cons (.int' rfl) (.cons (.lst _ _ _ (ci_pu .i64) rfl) (.cons (.int' rfl) (.cons (.int' rfl) (.cons (.int' rfl) (.cons (.lst _ _ _ Entry.pu rfl) (.cons (.int' rfl) (.cons (.lst _ _ _ (ci_pu .i64) rfl) (.cons (.lst _ _ _ (ci_pu .i64) rfl) (.cons (.lst _ _ _ (ci_pu .i64) rfl) (.cons (.nilv _ _ rfl rfl) .nil))))))))))) .nil) (allB_none rfl trivial)) (.cons (.ptr _ _ _ _ _ rfl) (.cons (.agg' (.cons (.int' rfl) (.cons (.int' rfl) (.cons (.int' rfl) (.cons (.lst _ _ _ (ci_pu .i64) rfl) (.cons (.lst _ _ _ (ci_pu .u8) rfl) .nil)))))) .nil)) (by show ([2, 65] : List Nat).Nodup; decide) (by show ([0, 1] : List Nat).Nodup; decide) ⟨.inl ⟨by decide, rfl⟩, ⟨_, rfl, ⟨rfl, rfl, rfl, rfl⟩, .cons (.cons (.int' rfl) (.cons (.lst _ _ _ (ci_pu .i64) rfl) (.cons (.int' rfl) (.cons (.int' rfl) (.cons (.int' rfl) (.cons (.lst _ _ _ Entry.pu rfl) (.cons (.int' rfl) (.cons (.lst _ _ _ (ci_pu .i64) rfl) (.cons (.lst _ _ _ (ci_pu .i64) rfl) (.cons (.lst _ _ _ (ci_pu .i64) rfl) (.cons (.refl' rfl rfl) .nil))))))))))) .nil⟩, ⟨.inr ⟨rfl, by decide⟩, ⟨_, rfl, ⟨rfl, rfl, rfl, rfl⟩, .same _ _ Msg.pu rfl⟩, trivial⟩⟩ (.tup' .nil) ?_; simp only [EVT, stepR, evOp, St.ev, St.app, St.put, wrs, evFieldAddr, evLoad, cut, frz, TIS, othE, evAppStr, strCells_eq, strBytes_len, CS, reduceAdd, reduceMul, reduceEqDiff, ↓reduceIte, reduceCtorEq, reduceLT, reduceLeDiff, reduceSub, Nat.reduceBEq])
     all_goals ((repeat' apply And.intro) <;> first|rfl|assumption|omega|(simp;done)|(simp;omega)|(simp_all;done))
    refine sA_n ?_
    refine a_seq ?_
    refine a_drW (by kernel_rfl) _ rfl (s := ?zs9) (by kernel_rfl) (by kernel_rfl) ?zs9f ?_ ?_ ?_
    rotate_left 2
    ·simp only [EVT, stepW, evOp, St.ev, St.app, St.put, wrs, evFieldAddr, evLoad, cut, evStore, setR, allOne, TIS, CS, reduceAdd, reduceMul, reduceEqDiff, ↓reduceIte, reduceCtorEq, reduceLT, reduceLeDiff, reduceSub, Nat.reduceBEq]
     (repeat' apply And.intro) <;> first|rfl|assumption|omega|(simp;done)|(simp;omega)|(simp_all;done)
    ·kernel_rfl
    refine sA_n ?_
    refine a_ret ?_
    obtain rfl := Option.some.inj H
    refine e_r2 (d := ?zd3) ?_ ?_
    rotate_left
    ·simp only [EVT, resR, single, evLoad, cut, TIS, CS, reduceAdd, reduceEqDiff, ↓reduceIte, reduceCtorEq, reduceLT, reduceLeDiff, reduceSub, Nat.reduceBEq]
     (repeat' apply And.intro) <;> first | rfl | assumption | omega | (simp; done)
    exact (.tup' (.cons (.agg' (.cons (.int' rfl) (.cons (.lst _ _ _ (ci_pu .i64) rfl) (.cons (.int' rfl) (.cons (.int' rfl) (.cons (.int' rfl) (.cons (.lst _ _ _ Entry.pu rfl) (.cons (.int' rfl) (.cons (.lst _ _ _ (ci_pu .i64) rfl) (.cons (.lst _ _ _ (ci_pu .i64) rfl) (.cons (.lst _ _ _ (ci_pu .i64) rfl) .nil))))))))))) (.cons (.ownL (by rfl) (fun e => by cases e) rfl (by first | rfl | omega | (simp; done) | (simp [strBytes_len]; done) | (simp; omega) | (simp_all; done)) (.sm _ _ Msg.pu)) .nil)))
   ·try skip
    obtain ⟨r4, zh4, H⟩ := bind_some H
    have zk4 := seat_machine_puts_rc zh4
    refine a_reg _ rfl (s := ?zs10) ?_ ?_
    rotate_left
    ·try simp only [EVT, stepR, evOp, St.ev, St.app, St.put, wrs, evFieldAddr, evLoad, cut, frz, TIS, othE, evAppStr, strCells_eq, strBytes_len, CS, reduceAdd, reduceMul, reduceEqDiff, ↓reduceIte, reduceCtorEq, reduceLT, reduceLeDiff, reduceSub, Nat.reduceBEq]
     repeat' with_reducible apply And.intro
     all_goals try ((with_reducible show OthR _ _ _ _ _); refine oth_hear (j := 3) (F := 41) rfl (by decide) rfl rfl rfl zq1 ?_; simp only [EVT, stepR, evOp, St.ev, St.app, St.put, wrs, evFieldAddr, evLoad, cut, frz, TIS, othE, evAppStr, strCells_eq, strBytes_len, CS, reduceAdd, reduceMul, reduceEqDiff, ↓reduceIte, reduceCtorEq, reduceLT, reduceLeDiff, reduceSub, Nat.reduceBEq])
     repeat' with_reducible apply And.intro
     all_goals try ((with_reducible show CallR _ _ _ _ _ _ _); refine callR_rcw (r' := .tup []) [(2, none), (2, some ⟨61, 11, false, [[.int .i64 r4.seat.id, .list 1 (r4.seat.peers.map (ci .i64)), .int .i64 r4.seat.term, .int .i64 r4.seat.voted, .int .i64 r4.seat.role, .list 2 (r4.seat.log.map Entry.c), .int .i64 r4.seat.commit, .list 1 (r4.seat.votes.map (ci .i64)), .list 1 (r4.seat.next.map (ci .i64)), .list 1 (r4.seat.match_.map (ci .i64)), .ref 65 0 r4.out.length 5]]⟩), (65, some ⟨28, 5, false, r4.out.map Msg.c⟩)] [(some 2, ⟨61, 11, false, [[.int .i64 (((⟨(⟨id1, peers1, term1, voted1, role1, log1, commit1, votes1, next1, match1⟩ : Seat), []⟩ : Machine).seat).id), .list 1 ((((⟨(⟨id1, peers1, term1, voted1, role1, log1, commit1, votes1, next1, match1⟩ : Seat), []⟩ : Machine).seat).peers).map (ci .i64)), .int .i64 (((⟨(⟨id1, peers1, term1, voted1, role1, log1, commit1, votes1, next1, match1⟩ : Seat), []⟩ : Machine).seat).term), .int .i64 (((⟨(⟨id1, peers1, term1, voted1, role1, log1, commit1, votes1, next1, match1⟩ : Seat), []⟩ : Machine).seat).voted), .int .i64 (((⟨(⟨id1, peers1, term1, voted1, role1, log1, commit1, votes1, next1, match1⟩ : Seat), []⟩ : Machine).seat).role), .list 2 ((((⟨(⟨id1, peers1, term1, voted1, role1, log1, commit1, votes1, next1, match1⟩ : Seat), []⟩ : Machine).seat).log).map Entry.c), .int .i64 (((⟨(⟨id1, peers1, term1, voted1, role1, log1, commit1, votes1, next1, match1⟩ : Seat), []⟩ : Machine).seat).commit), .list 1 ((((⟨(⟨id1, peers1, term1, voted1, role1, log1, commit1, votes1, next1, match1⟩ : Seat), []⟩ : Machine).seat).votes).map (ci .i64)), .list 1 ((((⟨(⟨id1, peers1, term1, voted1, role1, log1, commit1, votes1, next1, match1⟩ : Seat), []⟩ : Machine).seat).next).map (ci .i64)), .list 1 ((((⟨(⟨id1, peers1, term1, voted1, role1, log1, commit1, votes1, next1, match1⟩ : Seat), []⟩ : Machine).seat).match_).map (ci .i64)), .ref 1 0 (([] : List Msg).length) 5]]⟩), (none, ⟨28, 5, false, ([] : List Msg).map Msg.c⟩)] [] [(2, 0, ⟨61, 11, false, [[.int .i64 r4.seat.id, .list 1 (r4.seat.peers.map (ci .i64)), .int .i64 r4.seat.term, .int .i64 r4.seat.voted, .int .i64 r4.seat.role, .list 2 (r4.seat.log.map Entry.c), .int .i64 r4.seat.commit, .list 1 (r4.seat.votes.map (ci .i64)), .list 1 (r4.seat.next.map (ci .i64)), .list 1 (r4.seat.match_.map (ci .i64)), .ref 65 0 r4.out.length 5]]⟩), (65, 1, ⟨28, 5, false, r4.out.map Msg.c⟩)] (by first | rfl | (simp only [List.map_set, List.map_append, List.map_cons, List.map_nil]; rfl)) zk4 (by simp) (by show ([2] : List Nat).Nodup; decide) (allB_some (by rfl) rfl (.cons (.cons (.int' rfl) (.cons (.lst _ _ _ (ci_pu .i64) rfl) (.cons (.int' rfl) (.cons (.int' rfl) (.cons (.int' rfl) (.cons (.lst _ _ _ Entry.pu rfl) (.cons (.int' rfl) (.cons (.lst _ _ _ (ci_pu .i64) rfl) (.cons (.lst _ _ _ (ci_pu .i64) rfl) (.cons (.lst _ _ _ (ci_pu .i64) rfl) (.cons (.nilv _ _ rfl rfl) .nil))))))))))) .nil) (allB_none rfl trivial)) (.cons (.ptr _ _ _ _ _ rfl) (.cons (.agg' (.cons (.int' rfl) (.cons (.int' rfl) (.cons (.int' rfl) (.cons (.lst _ _ _ (ci_pu .i64) rfl) (.cons (.lst _ _ _ (ci_pu .u8) rfl) .nil)))))) .nil)) (by show ([2, 65] : List Nat).Nodup; decide) (by show ([0, 1] : List Nat).Nodup; decide) ⟨.inl ⟨by decide, rfl⟩, ⟨_, rfl, ⟨rfl, rfl, rfl, rfl⟩, .cons (.cons (.int' rfl) (.cons (.lst _ _ _ (ci_pu .i64) rfl) (.cons (.int' rfl) (.cons (.int' rfl) (.cons (.int' rfl) (.cons (.lst _ _ _ Entry.pu rfl) (.cons (.int' rfl) (.cons (.lst _ _ _ (ci_pu .i64) rfl) (.cons (.lst _ _ _ (ci_pu .i64) rfl) (.cons (.lst _ _ _ (ci_pu .i64) rfl) (.cons (.refl' rfl rfl) .nil))))))))))) .nil⟩, ⟨.inr ⟨rfl, by decide⟩, ⟨_, rfl, ⟨rfl, rfl, rfl, rfl⟩, .same _ _ Msg.pu rfl⟩, trivial⟩⟩ (.tup' .nil) ?_; simp only [EVT, stepR, evOp, St.ev, St.app, St.put, wrs, evFieldAddr, evLoad, cut, frz, TIS, othE, evAppStr, strCells_eq, strBytes_len, CS, reduceAdd, reduceMul, reduceEqDiff, ↓reduceIte, reduceCtorEq, reduceLT, reduceLeDiff, reduceSub, Nat.reduceBEq])
     all_goals ((repeat' apply And.intro) <;> first|rfl|assumption|omega|(simp;done)|(simp;omega)|(simp_all;done))
    refine sA_n ?_
    refine a_seq ?_
    refine a_drW (by kernel_rfl) _ rfl (s := ?zs11) (by kernel_rfl) (by kernel_rfl) ?zs11f ?_ ?_ ?_
    rotate_left 2
    ·simp only [EVT, stepW, evOp, St.ev, St.app, St.put, wrs, evFieldAddr, evLoad, cut, evStore, setR, allOne, TIS, CS, reduceAdd, reduceMul, reduceEqDiff, ↓reduceIte, reduceCtorEq, reduceLT, reduceLeDiff, reduceSub, Nat.reduceBEq]
     (repeat' apply And.intro) <;> first|rfl|assumption|omega|(simp;done)|(simp;omega)|(simp_all;done)
    ·kernel_rfl
    refine sA_n ?_
    refine a_ret ?_
    obtain rfl := Option.some.inj H
    refine e_r2 (d := ?zd4) ?_ ?_
    rotate_left
    ·simp only [EVT, resR, single, evLoad, cut, TIS, CS, reduceAdd, reduceEqDiff, ↓reduceIte, reduceCtorEq, reduceLT, reduceLeDiff, reduceSub, Nat.reduceBEq]
     (repeat' apply And.intro) <;> first | rfl | assumption | omega | (simp; done)
    exact (.tup' (.cons (.agg' (.cons (.int' rfl) (.cons (.lst _ _ _ (ci_pu .i64) rfl) (.cons (.int' rfl) (.cons (.int' rfl) (.cons (.int' rfl) (.cons (.lst _ _ _ Entry.pu rfl) (.cons (.int' rfl) (.cons (.lst _ _ _ (ci_pu .i64) rfl) (.cons (.lst _ _ _ (ci_pu .i64) rfl) (.cons (.lst _ _ _ (ci_pu .i64) rfl) .nil))))))))))) (.cons (.ownL (by rfl) (fun e => by cases e) rfl (by first | rfl | omega | (simp; done) | (simp [strBytes_len]; done) | (simp; omega) | (simp_all; done)) (.sm _ _ Msg.pu)) .nil)))
   ·try skip
    obtain ⟨r5, zh5, H⟩ := bind_some H
    have zk5 := seat_machine_told_rc zh5
    refine a_reg _ rfl (s := ?zs12) ?_ ?_
    rotate_left
    ·try simp only [EVT, stepR, evOp, St.ev, St.app, St.put, wrs, evFieldAddr, evLoad, cut, frz, TIS, othE, evAppStr, strCells_eq, strBytes_len, CS, reduceAdd, reduceMul, reduceEqDiff, ↓reduceIte, reduceCtorEq, reduceLT, reduceLeDiff, reduceSub, Nat.reduceBEq]
     repeat' with_reducible apply And.intro
     all_goals try ((with_reducible show OthR _ _ _ _ _); refine oth_hear (j := 4) (F := 42) rfl (by decide) rfl rfl rfl zq1 ?_; simp only [EVT, stepR, evOp, St.ev, St.app, St.put, wrs, evFieldAddr, evLoad, cut, frz, TIS, othE, evAppStr, strCells_eq, strBytes_len, CS, reduceAdd, reduceMul, reduceEqDiff, ↓reduceIte, reduceCtorEq, reduceLT, reduceLeDiff, reduceSub, Nat.reduceBEq])
     repeat' with_reducible apply And.intro
     all_goals try ((with_reducible show CallR _ _ _ _ _ _ _); refine callR_rcw (r' := .tup []) [(2, none), (2, some ⟨61, 11, false, [[.int .i64 r5.seat.id, .list 1 (r5.seat.peers.map (ci .i64)), .int .i64 r5.seat.term, .int .i64 r5.seat.voted, .int .i64 r5.seat.role, .list 2 (r5.seat.log.map Entry.c), .int .i64 r5.seat.commit, .list 1 (r5.seat.votes.map (ci .i64)), .list 1 (r5.seat.next.map (ci .i64)), .list 1 (r5.seat.match_.map (ci .i64)), .ref 65 0 r5.out.length 5]]⟩), (65, some ⟨28, 5, false, r5.out.map Msg.c⟩)] [(some 2, ⟨61, 11, false, [[.int .i64 (((⟨(⟨id1, peers1, term1, voted1, role1, log1, commit1, votes1, next1, match1⟩ : Seat), []⟩ : Machine).seat).id), .list 1 ((((⟨(⟨id1, peers1, term1, voted1, role1, log1, commit1, votes1, next1, match1⟩ : Seat), []⟩ : Machine).seat).peers).map (ci .i64)), .int .i64 (((⟨(⟨id1, peers1, term1, voted1, role1, log1, commit1, votes1, next1, match1⟩ : Seat), []⟩ : Machine).seat).term), .int .i64 (((⟨(⟨id1, peers1, term1, voted1, role1, log1, commit1, votes1, next1, match1⟩ : Seat), []⟩ : Machine).seat).voted), .int .i64 (((⟨(⟨id1, peers1, term1, voted1, role1, log1, commit1, votes1, next1, match1⟩ : Seat), []⟩ : Machine).seat).role), .list 2 ((((⟨(⟨id1, peers1, term1, voted1, role1, log1, commit1, votes1, next1, match1⟩ : Seat), []⟩ : Machine).seat).log).map Entry.c), .int .i64 (((⟨(⟨id1, peers1, term1, voted1, role1, log1, commit1, votes1, next1, match1⟩ : Seat), []⟩ : Machine).seat).commit), .list 1 ((((⟨(⟨id1, peers1, term1, voted1, role1, log1, commit1, votes1, next1, match1⟩ : Seat), []⟩ : Machine).seat).votes).map (ci .i64)), .list 1 ((((⟨(⟨id1, peers1, term1, voted1, role1, log1, commit1, votes1, next1, match1⟩ : Seat), []⟩ : Machine).seat).next).map (ci .i64)), .list 1 ((((⟨(⟨id1, peers1, term1, voted1, role1, log1, commit1, votes1, next1, match1⟩ : Seat), []⟩ : Machine).seat).match_).map (ci .i64)), .ref 1 0 (([] : List Msg).length) 5]]⟩), (none, ⟨28, 5, false, ([] : List Msg).map Msg.c⟩)] [] [(2, 0, ⟨61, 11, false, [[.int .i64 r5.seat.id, .list 1 (r5.seat.peers.map (ci .i64)), .int .i64 r5.seat.term, .int .i64 r5.seat.voted, .int .i64 r5.seat.role, .list 2 (r5.seat.log.map Entry.c), .int .i64 r5.seat.commit, .list 1 (r5.seat.votes.map (ci .i64)), .list 1 (r5.seat.next.map (ci .i64)), .list 1 (r5.seat.match_.map (ci .i64)), .ref 65 0 r5.out.length 5]]⟩), (65, 1, ⟨28, 5, false, r5.out.map Msg.c⟩)] (by first | rfl | (simp only [List.map_set, List.map_append, List.map_cons, List.map_nil]; rfl)) zk5 (by simp) (by show ([2] : List Nat).Nodup; decide) (allB_some (by rfl) rfl (.cons (.cons (.int' rfl) (.cons (.lst _ _ _ (ci_pu .i64) rfl) (.cons (.int' rfl) (.cons (.int' rfl) (.cons (.int' rfl) (.cons (.lst _ _ _ Entry.pu rfl) (.cons (.int' rfl) (.cons (.lst _ _ _ (ci_pu .i64) rfl) (.cons (.lst _ _ _ (ci_pu .i64) rfl) (.cons (.lst _ _ _ (ci_pu .i64) rfl) (.cons (.nilv _ _ rfl rfl) .nil))))))))))) .nil) (allB_none rfl trivial)) (.cons (.ptr _ _ _ _ _ rfl) (.cons (.agg' (.cons (.int' rfl) (.cons (.int' rfl) (.cons (.int' rfl) (.cons (.lst _ _ _ (ci_pu .i64) rfl) (.cons (.lst _ _ _ (ci_pu .u8) rfl) .nil)))))) .nil)) (by show ([2, 65] : List Nat).Nodup; decide) (by show ([0, 1] : List Nat).Nodup; decide) ⟨.inl ⟨by decide, rfl⟩, ⟨_, rfl, ⟨rfl, rfl, rfl, rfl⟩, .cons (.cons (.int' rfl) (.cons (.lst _ _ _ (ci_pu .i64) rfl) (.cons (.int' rfl) (.cons (.int' rfl) (.cons (.int' rfl) (.cons (.lst _ _ _ Entry.pu rfl) (.cons (.int' rfl) (.cons (.lst _ _ _ (ci_pu .i64) rfl) (.cons (.lst _ _ _ (ci_pu .i64) rfl) (.cons (.lst _ _ _ (ci_pu .i64) rfl) (.cons (.refl' rfl rfl) .nil))))))))))) .nil⟩, ⟨.inr ⟨rfl, by decide⟩, ⟨_, rfl, ⟨rfl, rfl, rfl, rfl⟩, .same _ _ Msg.pu rfl⟩, trivial⟩⟩ (.tup' .nil) ?_; simp only [EVT, stepR, evOp, St.ev, St.app, St.put, wrs, evFieldAddr, evLoad, cut, frz, TIS, othE, evAppStr, strCells_eq, strBytes_len, CS, reduceAdd, reduceMul, reduceEqDiff, ↓reduceIte, reduceCtorEq, reduceLT, reduceLeDiff, reduceSub, Nat.reduceBEq])
     all_goals ((repeat' apply And.intro) <;> first|rfl|assumption|omega|(simp;done)|(simp;omega)|(simp_all;done))
    refine sA_n ?_
    refine a_seq ?_
    refine a_drW (by kernel_rfl) _ rfl (s := ?zs13) (by kernel_rfl) (by kernel_rfl) ?zs13f ?_ ?_ ?_
    rotate_left 2
    ·simp only [EVT, stepW, evOp, St.ev, St.app, St.put, wrs, evFieldAddr, evLoad, cut, evStore, setR, allOne, TIS, CS, reduceAdd, reduceMul, reduceEqDiff, ↓reduceIte, reduceCtorEq, reduceLT, reduceLeDiff, reduceSub, Nat.reduceBEq]
     (repeat' apply And.intro) <;> first|rfl|assumption|omega|(simp;done)|(simp;omega)|(simp_all;done)
    ·kernel_rfl
    refine sA_n ?_
    refine a_ret ?_
    obtain rfl := Option.some.inj H
    refine e_r2 (d := ?zd5) ?_ ?_
    rotate_left
    ·simp only [EVT, resR, single, evLoad, cut, TIS, CS, reduceAdd, reduceEqDiff, ↓reduceIte, reduceCtorEq, reduceLT, reduceLeDiff, reduceSub, Nat.reduceBEq]
     (repeat' apply And.intro) <;> first | rfl | assumption | omega | (simp; done)
    exact (.tup' (.cons (.agg' (.cons (.int' rfl) (.cons (.lst _ _ _ (ci_pu .i64) rfl) (.cons (.int' rfl) (.cons (.int' rfl) (.cons (.int' rfl) (.cons (.lst _ _ _ Entry.pu rfl) (.cons (.int' rfl) (.cons (.lst _ _ _ (ci_pu .i64) rfl) (.cons (.lst _ _ _ (ci_pu .i64) rfl) (.cons (.lst _ _ _ (ci_pu .i64) rfl) .nil))))))))))) (.cons (.ownL (by rfl) (fun e => by cases e) rfl (by first | rfl | omega | (simp; done) | (simp [strBytes_len]; done) | (simp; omega) | (simp_all; done)) (.sm _ _ Msg.pu)) .nil)))
end
end Go.Proofs.YtmkpokcfefjifaaDoor
