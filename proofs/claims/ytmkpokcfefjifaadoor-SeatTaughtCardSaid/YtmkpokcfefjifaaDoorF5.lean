import Derived.Test.YtmkpokcfefjifaaDoorF4
set_option linter.unusedSectionVars false
/- Functions of the program as Lean functions, and that they are so; printed by a program of mine. -/
set_option linter.unusedSimpArgs false
set_option linter.unusedVariables false
namespace Go.Proofs.YtmkpokcfefjifaaDoor
open Go.Ab
open Nat (reduceAdd reduceMul reduceEqDiff reduceLT reduceLeDiff reduceSub)
noncomputable section

def seat_machine_told_J1 (m1 : Machine) (x1 : Msg) (x2 : Int) (v1 : Bool) : Option Machine :=
 cond v1 (some (m1)) ((slices_Index_f m1.seat.peers x1.from_).bind fun r1 => (slices_Clone_57_f m1.seat.next).bind fun r2 => (slices_Clone_57_f m1.seat.match_).bind fun r3 => (idx x1.nums 1).bind fun x3 => cond (x3 == 0) ((idx r3 r1).bind fun x4 => (idx r2 r1).bind fun x5 => (seat_machine_put_f (⟨(⟨m1.seat.id, m1.seat.peers, m1.seat.term, m1.seat.voted, m1.seat.role, m1.seat.log, m1.seat.commit, m1.seat.votes, (r2.set r1.toNat (if (if (IntKind.wrap .i64 (x2 + 1)) < x5 then (IntKind.wrap .i64 (x2 + 1)) else x5) > (IntKind.wrap .i64 (x4 + 1)) then (if (IntKind.wrap .i64 (x2 + 1)) < x5 then (IntKind.wrap .i64 (x2 + 1)) else x5) else (IntKind.wrap .i64 (x4 + 1)))), r3⟩ : Seat), m1.out⟩ : Machine) r1).bind fun r4 => some (r4)) ((idx r3 r1).bind fun x6 => (idx (r3.set r1.toNat (if x2 > x6 then x2 else x6)) r1).bind fun x7 => (idx r2 r1).bind fun x8 => (seat_machine_commit_f (⟨(⟨m1.seat.id, m1.seat.peers, m1.seat.term, m1.seat.voted, m1.seat.role, m1.seat.log, m1.seat.commit, m1.seat.votes, (r2.set r1.toNat (IntKind.wrap .i64 (x7 + 1))), (r3.set r1.toNat (if x2 > x6 then x2 else x6))⟩ : Seat), m1.out⟩ : Machine)).bind fun r5 => (idx r5.seat.match_ r1).bind fun x9 => cond (decide (x9 < (r5.seat.log.length : Int))) ((seat_machine_put_f r5 r1).bind fun r6 => some (r6)) (some (r5))))
def seat_machine_told_f (m1 : Machine) (x1 : Msg) : Option Machine :=
 (idx x1.nums 2).bind fun x2 => (idx x1.nums 0).bind fun x10 => seat_machine_told_J1 m1 x1 x2 ((x10 != m1.seat.term) || ((m1.seat.role != 3) || (decide ((m1.seat.log.length : Int) < x2))))
set_option maxHeartbeats 4000000 in
set_option maxRecDepth 20000 in
theorem seat_machine_told_rc {m1 : Machine} {x1 : Msg} {r : Machine} (H : seat_machine_told_f m1 x1 = some r) : RC Tryd.prog 42 [.ptr 0 0 0 11, .agg (Msg.c x1)] [⟨61, 11, false, [Machine.o m1 1]⟩, ⟨28, 5, false, m1.out.map Msg.c⟩] 1 (.tup []) [some ⟨61, 11, false, [Machine.o r 1]⟩, some ⟨28, 5, false, r.out.map Msg.c⟩] := by
 refine rcA_of Tryd.func42 (by rfl) (by decide) 155 (by rfl) [] (by rfl) ?_
 unfold seat_machine_told_f at H
 simp only [hent, List.length_cons, List.length_nil, reduceAdd]
 refine a_seq ?_
 refine a_regC _ rfl ?_
 refine sA_n ?_
 refine a_seq ?_
 obtain ⟨x2, zh1, H⟩ := bind_some H
 obtain ⟨zg1, zh1a, zh1b⟩ := idx3 (f := (ci .i64)) zh1
 try simp only [Int.reduceToNat, Int.toNat_natCast] at zg1
 refine a_regC _ rfl ?_
 refine sA_n ?_
 refine a_seq ?_
 refine a_cut (fun s => ∃ (v1 : Bool) (t0 : Nat → Dat), seat_machine_told_J1 m1 x1 x2 v1 = some r ∧ s = ⟨tl t0 [(0, .ptr 0 0 0 11), (3, .ptr 2 0 0 5), (4, .int .i64 x2), (37, .bool v1)], hl [⟨61, 11, false, [Machine.o m1 1]⟩, ⟨28, 5, false, m1.out.map Msg.c⟩, ⟨28, 5, false, [Msg.c x1]⟩], 3, 155⟩) ?_ ?_
 ·obtain ⟨x10, zh15, H⟩ := bind_some H
  obtain ⟨zg9, zh15a, zh15b⟩ := idx3 (f := (ci .i64)) zh15
  try simp only [Int.reduceToNat, Int.toNat_natCast] at zg9
  refine bool_split (b := (x10 != m1.seat.term)) (fun zc4 => ?_) (fun zc4 => ?_)
  ·rw [zc4] at H
   refine a_drW (by kernel_rfl) _ rfl (s := ?zs13) (by kernel_rfl) (by kernel_rfl) ?zs13f ?_ ?_ ?_
   rotate_left 2
   ·refine goS ?_
    try refine goS ?_
    (repeat' apply And.intro) <;> first|rfl|assumption|omega|(simp;done)|(simp;omega)|(simp_all;done)
   ·kernel_rfl
   refine cA_n ?_
   exact wk_lnA 1 [(some 0, _), (some 1, _), (some 2, _)] [] (fun t0 => ⟨true, t0, H, rfl⟩)
  ·rw [zc4] at H
   refine bool_split (b := (m1.seat.role != 3)) (fun zc5 => ?_) (fun zc5 => ?_)
   ·rw [zc5] at H
    refine a_drW (by kernel_rfl) _ rfl (s := ?zs14) (by kernel_rfl) (by kernel_rfl) ?zs14f ?_ ?_ ?_
    rotate_left 2
    ·refine goS ?_
     try refine goS ?_
     (repeat' apply And.intro) <;> first|rfl|assumption|omega|(simp;done)|(simp;omega)|(simp_all;done)
    ·kernel_rfl
    refine cA_n ?_
    exact wk_lnA 1 [(some 0, _), (some 1, _), (some 2, _)] [] (fun t0 => ⟨true, t0, H, rfl⟩)
   ·rw [zc5] at H
    refine a_drW (by kernel_rfl) _ rfl (s := ?zs15) (by kernel_rfl) (by kernel_rfl) ?zs15f ?_ ?_ ?_
    rotate_left 2
    ·refine goS ?_
     try refine goS ?_
     (repeat' apply And.intro) <;> first|rfl|assumption|omega|(simp;done)|(simp;omega)|(simp_all;done)
    ·kernel_rfl
    refine cA_n ?_
    exact wk_lnA 1 [(some 0, _), (some 1, _), (some 2, _)] [] (fun t0 => ⟨(decide ((m1.seat.log.length : Int) < x2)), t0, H, rfl⟩)
 ·rintro s ⟨v1, t0, H, rfl⟩
  unfold seat_machine_told_J1 at H
  refine a_cnd H (fun zc1 H => ?_) (fun zc1 H => ?_)
  ·refine a_ret ?_
   refine sA_r ?_
   obtain rfl := Option.some.inj H
   refine eR_r ?_
   exact wk_lnA 1 [(some 0, ⟨61, 11, false, [Machine.o m1 1]⟩), (some 1, ⟨28, 5, false, m1.out.map Msg.c⟩)] [] (L := []) (fun t0 => ⟨RS, fun j B h => by rcases j with _ | _ | _ <;> first | exact h | (exact absurd h (by simp [hh]))⟩) (by intro i h; rcases i with _ | i <;> first | rfl | omega)
  ·refine a_skip ?_
   refine sA_n ?_
   refine a_seq ?_
   obtain ⟨r1, zh2, H⟩ := bind_some H
   have zk1 := slices_Index_pc zh2
   refine a_drW (by kernel_rfl) _ rfl (s := ?zs3) (by kernel_rfl) (by kernel_rfl) ?zs3f ?_ ?_ ?_
   rotate_left 2
   ·try refine goS ?_
    repeat' with_reducible apply And.intro
    all_goals try ((with_reducible show CallW _ _ _ _ _ _ _); refine cW_s [] zk1 (fun h2 e => (.cons (.lst _ _ _ (ci_pu .i64) rfl) (.cons (.int' rfl) .nil))) (.int _ _) ?_; refine goS ?_)
    all_goals ((repeat' apply And.intro) <;> first|rfl|assumption|omega|(simp;done)|(simp;omega)|(simp_all;done))
   ·kernel_rfl
   refine sA_n ?_
   refine a_seq ?_
   obtain ⟨r2, zh3, H⟩ := bind_some H
   have zk2 := slices_Clone_57_rc zh3
   obtain ⟨r3, zh4, H⟩ := bind_some H
   have zk3 := slices_Clone_57_rc zh4
   refine a_drW (by kernel_rfl) _ rfl (s := ?zs4) (by kernel_rfl) (by kernel_rfl) ?zs4f ?_ ?_ ?_
   rotate_left 2
   ·try refine goS ?_
    repeat' with_reducible apply And.intro
    all_goals try ((with_reducible show CallW _ _ _ _ _ _ _); refine callW_rcw (r' := .ref 82 0 r2.length 1) [] [(82, some ⟨3, 1, false, r2.map (ci .i64)⟩)] [] [] [(82, 0, ⟨3, 1, false, r2.map (ci .i64)⟩)] rfl (by decide) zk2 (by simp) (by show ([] : List Nat).Nodup; decide) (fun h2 e => trivial) (fun h2 e => (.cons (.lst _ _ _ (ci_pu .i64) rfl) .nil)) (by show ([82] : List Nat).Nodup; decide) (by show ([0] : List Nat).Nodup; decide) ⟨.inr ⟨rfl, by decide⟩, ⟨_, rfl, ⟨rfl, rfl, rfl, rfl⟩, .same _ _ (ci_pu .i64) rfl⟩, trivial⟩ (.refl' rfl rfl) ?_; refine goS ?_)
    repeat' with_reducible apply And.intro
    all_goals try ((with_reducible show CallW _ _ _ _ _ _ _); refine callW_rcw (r' := .ref 88 0 r3.length 1) [] [(88, some ⟨3, 1, false, r3.map (ci .i64)⟩)] [] [] [(88, 0, ⟨3, 1, false, r3.map (ci .i64)⟩)] rfl (by decide) zk3 (by simp) (by show ([] : List Nat).Nodup; decide) (fun h2 e => trivial) (fun h2 e => (.cons (.lst _ _ _ (ci_pu .i64) rfl) .nil)) (by show ([88] : List Nat).Nodup; decide) (by show ([0] : List Nat).Nodup; decide) ⟨.inr ⟨rfl, by decide⟩, ⟨_, rfl, ⟨rfl, rfl, rfl, rfl⟩, .same _ _ (ci_pu .i64) rfl⟩, trivial⟩ (.refl' rfl rfl) ?_; refine goS ?_)
    all_goals ((repeat' apply And.intro) <;> first|rfl|assumption|omega|(simp;done)|(simp;omega)|(simp_all;done))
   ·kernel_rfl
   refine sA_n ?_
   refine a_seq ?_
   refine a_seq ?_
   obtain ⟨x3, zh5, H⟩ := bind_some H
   obtain ⟨zg2, zh5a, zh5b⟩ := idx3 (f := (ci .i64)) zh5
   try simp only [Int.reduceToNat, Int.toNat_natCast] at zg2
   refine a_regC _ rfl ?_
   refine sA_n ?_
   refine a_cnd H (fun zc2 H => ?_) (fun zc2 H => ?_)
   ·refine a_seq ?_
    obtain ⟨x4, zh6, H⟩ := bind_some H
    obtain ⟨zg3, zh6a, zh6b⟩ := idx3 (f := (ci .i64)) zh6
    try simp only [Int.reduceToNat, Int.toNat_natCast] at zg3
    obtain ⟨x5, zh7, H⟩ := bind_some H
    obtain ⟨zg4, zh7a, zh7b⟩ := idx3 (f := (ci .i64)) zh7
    try simp only [Int.reduceToNat, Int.toNat_natCast] at zg4
    refine a_drW (by kernel_rfl) _ rfl (s := ?zs6) (by kernel_rfl) (by kernel_rfl) ?zs6f ?_ ?_ ?_
    rotate_left 2
    ·refine goS ?_
     (repeat' apply And.intro) <;> first|rfl|assumption|omega|(simp;done)|(simp;omega)|(simp_all;done)
    ·kernel_rfl
    refine sA_n ?_
    refine a_seq ?_
    obtain ⟨r4, zh8, H⟩ := bind_some H
    have zk4 := seat_machine_put_rc zh8
    refine a_reg _ rfl (s := ?zs7) ?_ ?_
    rotate_left
    ·try refine goS ?_
     repeat' with_reducible apply And.intro
     all_goals try ((with_reducible show CallR _ _ _ _ _ _ _); refine callR_rcw (r' := .tup []) [(82, some ⟨3, 1, true, (r2.set r1.toNat (if (if (IntKind.wrap .i64 (x2 + 1)) < x5 then (IntKind.wrap .i64 (x2 + 1)) else x5) > (IntKind.wrap .i64 (x4 + 1)) then (if (IntKind.wrap .i64 (x2 + 1)) < x5 then (IntKind.wrap .i64 (x2 + 1)) else x5) else (IntKind.wrap .i64 (x4 + 1)))).map (ci .i64)⟩), (88, some ⟨3, 1, true, r3.map (ci .i64)⟩), (0, none), (1, none), (0, some ⟨61, 11, false, [Machine.o r4 525]⟩), (525, some ⟨28, 5, false, r4.out.map Msg.c⟩)] [(some 0, ⟨61, 11, false, [[.int .i64 (((⟨(⟨m1.seat.id, m1.seat.peers, m1.seat.term, m1.seat.voted, m1.seat.role, m1.seat.log, m1.seat.commit, m1.seat.votes, (r2.set r1.toNat (if (if (IntKind.wrap .i64 (x2 + 1)) < x5 then (IntKind.wrap .i64 (x2 + 1)) else x5) > (IntKind.wrap .i64 (x4 + 1)) then (if (IntKind.wrap .i64 (x2 + 1)) < x5 then (IntKind.wrap .i64 (x2 + 1)) else x5) else (IntKind.wrap .i64 (x4 + 1)))), r3⟩ : Seat), m1.out⟩ : Machine).seat).id), .list 1 ((((⟨(⟨m1.seat.id, m1.seat.peers, m1.seat.term, m1.seat.voted, m1.seat.role, m1.seat.log, m1.seat.commit, m1.seat.votes, (r2.set r1.toNat (if (if (IntKind.wrap .i64 (x2 + 1)) < x5 then (IntKind.wrap .i64 (x2 + 1)) else x5) > (IntKind.wrap .i64 (x4 + 1)) then (if (IntKind.wrap .i64 (x2 + 1)) < x5 then (IntKind.wrap .i64 (x2 + 1)) else x5) else (IntKind.wrap .i64 (x4 + 1)))), r3⟩ : Seat), m1.out⟩ : Machine).seat).peers).map (ci .i64)), .int .i64 (((⟨(⟨m1.seat.id, m1.seat.peers, m1.seat.term, m1.seat.voted, m1.seat.role, m1.seat.log, m1.seat.commit, m1.seat.votes, (r2.set r1.toNat (if (if (IntKind.wrap .i64 (x2 + 1)) < x5 then (IntKind.wrap .i64 (x2 + 1)) else x5) > (IntKind.wrap .i64 (x4 + 1)) then (if (IntKind.wrap .i64 (x2 + 1)) < x5 then (IntKind.wrap .i64 (x2 + 1)) else x5) else (IntKind.wrap .i64 (x4 + 1)))), r3⟩ : Seat), m1.out⟩ : Machine).seat).term), .int .i64 (((⟨(⟨m1.seat.id, m1.seat.peers, m1.seat.term, m1.seat.voted, m1.seat.role, m1.seat.log, m1.seat.commit, m1.seat.votes, (r2.set r1.toNat (if (if (IntKind.wrap .i64 (x2 + 1)) < x5 then (IntKind.wrap .i64 (x2 + 1)) else x5) > (IntKind.wrap .i64 (x4 + 1)) then (if (IntKind.wrap .i64 (x2 + 1)) < x5 then (IntKind.wrap .i64 (x2 + 1)) else x5) else (IntKind.wrap .i64 (x4 + 1)))), r3⟩ : Seat), m1.out⟩ : Machine).seat).voted), .int .i64 (((⟨(⟨m1.seat.id, m1.seat.peers, m1.seat.term, m1.seat.voted, m1.seat.role, m1.seat.log, m1.seat.commit, m1.seat.votes, (r2.set r1.toNat (if (if (IntKind.wrap .i64 (x2 + 1)) < x5 then (IntKind.wrap .i64 (x2 + 1)) else x5) > (IntKind.wrap .i64 (x4 + 1)) then (if (IntKind.wrap .i64 (x2 + 1)) < x5 then (IntKind.wrap .i64 (x2 + 1)) else x5) else (IntKind.wrap .i64 (x4 + 1)))), r3⟩ : Seat), m1.out⟩ : Machine).seat).role), .list 2 ((((⟨(⟨m1.seat.id, m1.seat.peers, m1.seat.term, m1.seat.voted, m1.seat.role, m1.seat.log, m1.seat.commit, m1.seat.votes, (r2.set r1.toNat (if (if (IntKind.wrap .i64 (x2 + 1)) < x5 then (IntKind.wrap .i64 (x2 + 1)) else x5) > (IntKind.wrap .i64 (x4 + 1)) then (if (IntKind.wrap .i64 (x2 + 1)) < x5 then (IntKind.wrap .i64 (x2 + 1)) else x5) else (IntKind.wrap .i64 (x4 + 1)))), r3⟩ : Seat), m1.out⟩ : Machine).seat).log).map Entry.c), .int .i64 (((⟨(⟨m1.seat.id, m1.seat.peers, m1.seat.term, m1.seat.voted, m1.seat.role, m1.seat.log, m1.seat.commit, m1.seat.votes, (r2.set r1.toNat (if (if (IntKind.wrap .i64 (x2 + 1)) < x5 then (IntKind.wrap .i64 (x2 + 1)) else x5) > (IntKind.wrap .i64 (x4 + 1)) then (if (IntKind.wrap .i64 (x2 + 1)) < x5 then (IntKind.wrap .i64 (x2 + 1)) else x5) else (IntKind.wrap .i64 (x4 + 1)))), r3⟩ : Seat), m1.out⟩ : Machine).seat).commit), .list 1 ((((⟨(⟨m1.seat.id, m1.seat.peers, m1.seat.term, m1.seat.voted, m1.seat.role, m1.seat.log, m1.seat.commit, m1.seat.votes, (r2.set r1.toNat (if (if (IntKind.wrap .i64 (x2 + 1)) < x5 then (IntKind.wrap .i64 (x2 + 1)) else x5) > (IntKind.wrap .i64 (x4 + 1)) then (if (IntKind.wrap .i64 (x2 + 1)) < x5 then (IntKind.wrap .i64 (x2 + 1)) else x5) else (IntKind.wrap .i64 (x4 + 1)))), r3⟩ : Seat), m1.out⟩ : Machine).seat).votes).map (ci .i64)), .list 1 ((((⟨(⟨m1.seat.id, m1.seat.peers, m1.seat.term, m1.seat.voted, m1.seat.role, m1.seat.log, m1.seat.commit, m1.seat.votes, (r2.set r1.toNat (if (if (IntKind.wrap .i64 (x2 + 1)) < x5 then (IntKind.wrap .i64 (x2 + 1)) else x5) > (IntKind.wrap .i64 (x4 + 1)) then (if (IntKind.wrap .i64 (x2 + 1)) < x5 then (IntKind.wrap .i64 (x2 + 1)) else x5) else (IntKind.wrap .i64 (x4 + 1)))), r3⟩ : Seat), m1.out⟩ : Machine).seat).next).map (ci .i64)), .list 1 ((((⟨(⟨m1.seat.id, m1.seat.peers, m1.seat.term, m1.seat.voted, m1.seat.role, m1.seat.log, m1.seat.commit, m1.seat.votes, (r2.set r1.toNat (if (if (IntKind.wrap .i64 (x2 + 1)) < x5 then (IntKind.wrap .i64 (x2 + 1)) else x5) > (IntKind.wrap .i64 (x4 + 1)) then (if (IntKind.wrap .i64 (x2 + 1)) < x5 then (IntKind.wrap .i64 (x2 + 1)) else x5) else (IntKind.wrap .i64 (x4 + 1)))), r3⟩ : Seat), m1.out⟩ : Machine).seat).match_).map (ci .i64)), .ref 1 0 m1.out.length 5]]⟩), (some 1, ⟨28, 5, false, m1.out.map Msg.c⟩)] [82, 88] [(0, 0, ⟨61, 11, false, [Machine.o r4 525]⟩), (525, 1, ⟨28, 5, false, r4.out.map Msg.c⟩)] (by first | rfl | (simp only [List.map_set, List.map_append, List.map_cons, List.map_nil]; rfl)) zk4 (by simp) ND (allB_some (by rfl) rfl (.cons (.cons (.int' rfl) (.cons (.lst _ _ _ (ci_pu .i64) rfl) (.cons (.int' rfl) (.cons (.int' rfl) (.cons (.int' rfl) (.cons (.lst _ _ _ Entry.pu rfl) (.cons (.int' rfl) (.cons (.lst _ _ _ (ci_pu .i64) rfl) (.cons (.frz' (by rfl) (by simp) rfl (by first|rfl|omega|(simp;done)|(simp;omega)|(simp_all;done)) (.sm _ _ (ci_pu .i64))) (.cons (.frz' (by rfl) (by simp) rfl (by first|rfl|omega|(simp;done)|(simp;omega)|(simp_all;done)) (.sm _ _ (ci_pu .i64))) (.cons (.refl' (by first|rfl|omega|(simp;done)|(simp;omega)|(simp_all;done)) rfl) .nil))))))))))) .nil) (allB_some (by rfl) rfl (.sm _ _ Msg.pu) trivial)) (.cons (.ptr _ _ _ _ _ rfl) (.cons (.int' rfl) .nil)) ND ND ⟨.inl ⟨by decide, rfl⟩, ⟨_, rfl, ⟨rfl, rfl, rfl, rfl⟩, .cons (.cons (.int' rfl) (.cons (.lst _ _ _ (ci_pu .i64) rfl) (.cons (.int' rfl) (.cons (.int' rfl) (.cons (.int' rfl) (.cons (.lst _ _ _ Entry.pu rfl) (.cons (.int' rfl) (.cons (.lst _ _ _ (ci_pu .i64) rfl) (.cons (.lst _ _ _ (ci_pu .i64) rfl) (.cons (.lst _ _ _ (ci_pu .i64) rfl) (.cons (.refl' rfl rfl) .nil))))))))))) .nil⟩, ⟨.inr ⟨rfl, by decide⟩, ⟨_, rfl, ⟨rfl, rfl, rfl, rfl⟩, .same _ _ Msg.pu rfl⟩, trivial⟩⟩ (.tup' .nil) ?_; refine goS ?_)
     all_goals ((repeat' apply And.intro) <;> first|rfl|assumption|omega|(simp;done)|(simp;omega)|(simp_all;done))
    refine sA_n ?_
    refine a_ret ?_
    refine sA_r ?_
    obtain rfl := Option.some.inj H
    refine eR_r ?_
    exact wk_lnA 1 [(some 0, ⟨61, 11, false, [Machine.o r4 1]⟩), (some 525, ⟨28, 5, false, r4.out.map Msg.c⟩)] [] (L := []) (fun t0 => ⟨RS, fun j B h => by rcases j with _ | _ | _ <;> first | exact h | (exact absurd h (by simp [hh]))⟩) (by intro i h; rcases i with _ | i <;> first | rfl | omega)
   ·refine a_skip ?_
    refine sA_n ?_
    refine a_seq ?_
    obtain ⟨x6, zh9, H⟩ := bind_some H
    obtain ⟨zg5, zh9a, zh9b⟩ := idx3 (f := (ci .i64)) zh9
    try simp only [Int.reduceToNat, Int.toNat_natCast] at zg5
    refine a_drW (by kernel_rfl) _ rfl (s := ?zs8) (by kernel_rfl) (by kernel_rfl) ?zs8f ?_ ?_ ?_
    rotate_left 2
    ·refine goS ?_
     (repeat' apply And.intro) <;> first|rfl|assumption|omega|(simp;done)|(simp;omega)|(simp_all;done)
    ·kernel_rfl
    refine sA_n ?_
    refine a_seq ?_
    obtain ⟨x7, zh10, H⟩ := bind_some H
    have zg6 := idx_map zh10 (ci .i64)
    try simp only [Int.reduceToNat, Int.toNat_natCast, List.map_set, ci_eq, cb_eq, cs_eq] at zg6
    obtain ⟨zh10a, zh10b, _⟩ := idx_some zh10
    obtain ⟨x8, zh11, H⟩ := bind_some H
    obtain ⟨zg7, zh11a, zh11b⟩ := idx3 (f := (ci .i64)) zh11
    try simp only [Int.reduceToNat, Int.toNat_natCast] at zg7
    refine a_drW (by kernel_rfl) _ rfl (s := ?zs9) (by kernel_rfl) (by kernel_rfl) ?zs9f ?_ ?_ ?_
    rotate_left 2
    ·refine goS ?_
     (repeat' apply And.intro) <;> first|rfl|assumption|omega|(simp;done)|(simp;omega)|(simp_all;done)
    ·kernel_rfl
    refine sA_n ?_
    refine a_seq ?_
    obtain ⟨r5, zh12, H⟩ := bind_some H
    have zk5 := seat_machine_commit_rc zh12
    refine a_reg _ rfl (s := ?zs10) ?_ ?_
    rotate_left
    ·try refine goS ?_
     repeat' with_reducible apply And.intro
     all_goals try ((with_reducible show CallR _ _ _ _ _ _ _); refine callR_rcw (r' := .tup []) [(82, some ⟨3, 1, true, (r2.set r1.toNat (IntKind.wrap .i64 (x7 + 1))).map (ci .i64)⟩), (88, some ⟨3, 1, true, (r3.set r1.toNat (if x2 > x6 then x2 else x6)).map (ci .i64)⟩), (0, none), (1, none), (0, some ⟨61, 11, false, [Machine.o r5 572]⟩), (572, some ⟨28, 5, false, r5.out.map Msg.c⟩)] [(some 0, ⟨61, 11, false, [[.int .i64 (((⟨(⟨m1.seat.id, m1.seat.peers, m1.seat.term, m1.seat.voted, m1.seat.role, m1.seat.log, m1.seat.commit, m1.seat.votes, (r2.set r1.toNat (IntKind.wrap .i64 (x7 + 1))), (r3.set r1.toNat (if x2 > x6 then x2 else x6))⟩ : Seat), m1.out⟩ : Machine).seat).id), .list 1 ((((⟨(⟨m1.seat.id, m1.seat.peers, m1.seat.term, m1.seat.voted, m1.seat.role, m1.seat.log, m1.seat.commit, m1.seat.votes, (r2.set r1.toNat (IntKind.wrap .i64 (x7 + 1))), (r3.set r1.toNat (if x2 > x6 then x2 else x6))⟩ : Seat), m1.out⟩ : Machine).seat).peers).map (ci .i64)), .int .i64 (((⟨(⟨m1.seat.id, m1.seat.peers, m1.seat.term, m1.seat.voted, m1.seat.role, m1.seat.log, m1.seat.commit, m1.seat.votes, (r2.set r1.toNat (IntKind.wrap .i64 (x7 + 1))), (r3.set r1.toNat (if x2 > x6 then x2 else x6))⟩ : Seat), m1.out⟩ : Machine).seat).term), .int .i64 (((⟨(⟨m1.seat.id, m1.seat.peers, m1.seat.term, m1.seat.voted, m1.seat.role, m1.seat.log, m1.seat.commit, m1.seat.votes, (r2.set r1.toNat (IntKind.wrap .i64 (x7 + 1))), (r3.set r1.toNat (if x2 > x6 then x2 else x6))⟩ : Seat), m1.out⟩ : Machine).seat).voted), .int .i64 (((⟨(⟨m1.seat.id, m1.seat.peers, m1.seat.term, m1.seat.voted, m1.seat.role, m1.seat.log, m1.seat.commit, m1.seat.votes, (r2.set r1.toNat (IntKind.wrap .i64 (x7 + 1))), (r3.set r1.toNat (if x2 > x6 then x2 else x6))⟩ : Seat), m1.out⟩ : Machine).seat).role), .list 2 ((((⟨(⟨m1.seat.id, m1.seat.peers, m1.seat.term, m1.seat.voted, m1.seat.role, m1.seat.log, m1.seat.commit, m1.seat.votes, (r2.set r1.toNat (IntKind.wrap .i64 (x7 + 1))), (r3.set r1.toNat (if x2 > x6 then x2 else x6))⟩ : Seat), m1.out⟩ : Machine).seat).log).map Entry.c), .int .i64 (((⟨(⟨m1.seat.id, m1.seat.peers, m1.seat.term, m1.seat.voted, m1.seat.role, m1.seat.log, m1.seat.commit, m1.seat.votes, (r2.set r1.toNat (IntKind.wrap .i64 (x7 + 1))), (r3.set r1.toNat (if x2 > x6 then x2 else x6))⟩ : Seat), m1.out⟩ : Machine).seat).commit), .list 1 ((((⟨(⟨m1.seat.id, m1.seat.peers, m1.seat.term, m1.seat.voted, m1.seat.role, m1.seat.log, m1.seat.commit, m1.seat.votes, (r2.set r1.toNat (IntKind.wrap .i64 (x7 + 1))), (r3.set r1.toNat (if x2 > x6 then x2 else x6))⟩ : Seat), m1.out⟩ : Machine).seat).votes).map (ci .i64)), .list 1 ((((⟨(⟨m1.seat.id, m1.seat.peers, m1.seat.term, m1.seat.voted, m1.seat.role, m1.seat.log, m1.seat.commit, m1.seat.votes, (r2.set r1.toNat (IntKind.wrap .i64 (x7 + 1))), (r3.set r1.toNat (if x2 > x6 then x2 else x6))⟩ : Seat), m1.out⟩ : Machine).seat).next).map (ci .i64)), .list 1 ((((⟨(⟨m1.seat.id, m1.seat.peers, m1.seat.term, m1.seat.voted, m1.seat.role, m1.seat.log, m1.seat.commit, m1.seat.votes, (r2.set r1.toNat (IntKind.wrap .i64 (x7 + 1))), (r3.set r1.toNat (if x2 > x6 then x2 else x6))⟩ : Seat), m1.out⟩ : Machine).seat).match_).map (ci .i64)), .ref 1 0 m1.out.length 5]]⟩), (some 1, ⟨28, 5, false, m1.out.map Msg.c⟩)] [82, 88] [(0, 0, ⟨61, 11, false, [Machine.o r5 572]⟩), (572, 1, ⟨28, 5, false, r5.out.map Msg.c⟩)] (by first | rfl | (simp only [List.map_set, List.map_append, List.map_cons, List.map_nil]; rfl)) zk5 (by simp) ND (allB_some (by rfl) rfl (.cons (.cons (.int' rfl) (.cons (.lst _ _ _ (ci_pu .i64) rfl) (.cons (.int' rfl) (.cons (.int' rfl) (.cons (.int' rfl) (.cons (.lst _ _ _ Entry.pu rfl) (.cons (.int' rfl) (.cons (.lst _ _ _ (ci_pu .i64) rfl) (.cons (.frz' (by rfl) (by simp) rfl (by first|rfl|omega|(simp;done)|(simp;omega)|(simp_all;done)) (.sm _ _ (ci_pu .i64))) (.cons (.frz' (by rfl) (by simp) rfl (by first|rfl|omega|(simp;done)|(simp;omega)|(simp_all;done)) (.sm _ _ (ci_pu .i64))) (.cons (.refl' (by first|rfl|omega|(simp;done)|(simp;omega)|(simp_all;done)) rfl) .nil))))))))))) .nil) (allB_some (by rfl) rfl (.sm _ _ Msg.pu) trivial)) (.cons (.ptr _ _ _ _ _ rfl) .nil) ND ND ⟨.inl ⟨by decide, rfl⟩, ⟨_, rfl, ⟨rfl, rfl, rfl, rfl⟩, .cons (.cons (.int' rfl) (.cons (.lst _ _ _ (ci_pu .i64) rfl) (.cons (.int' rfl) (.cons (.int' rfl) (.cons (.int' rfl) (.cons (.lst _ _ _ Entry.pu rfl) (.cons (.int' rfl) (.cons (.lst _ _ _ (ci_pu .i64) rfl) (.cons (.lst _ _ _ (ci_pu .i64) rfl) (.cons (.lst _ _ _ (ci_pu .i64) rfl) (.cons (.refl' rfl rfl) .nil))))))))))) .nil⟩, ⟨.inr ⟨rfl, by decide⟩, ⟨_, rfl, ⟨rfl, rfl, rfl, rfl⟩, .same _ _ Msg.pu rfl⟩, trivial⟩⟩ (.tup' .nil) ?_; refine goS ?_)
     all_goals ((repeat' apply And.intro) <;> first|rfl|assumption|omega|(simp;done)|(simp;omega)|(simp_all;done))
    refine sA_n ?_
    refine a_seq ?_
    obtain ⟨x9, zh13, H⟩ := bind_some H
    obtain ⟨zg8, zh13a, zh13b⟩ := idx3 (f := (ci .i64)) zh13
    try simp only [Int.reduceToNat, Int.toNat_natCast] at zg8
    refine a_drW (by kernel_rfl) _ rfl (s := ?zs11) (by kernel_rfl) (by kernel_rfl) ?zs11f ?_ ?_ ?_
    rotate_left 2
    ·refine goS ?_
     (repeat' apply And.intro) <;> first|rfl|assumption|omega|(simp;done)|(simp;omega)|(simp_all;done)
    ·kernel_rfl
    refine sA_n ?_
    refine a_cnd H (fun zc3 H => ?_) (fun zc3 H => ?_)
    ·obtain ⟨r6, zh14, H⟩ := bind_some H
     have zk6 := seat_machine_put_rc zh14
     refine a_reg _ rfl (s := ?zs12) ?_ ?_
     rotate_left
     ·try refine goS ?_
      repeat' with_reducible apply And.intro
      all_goals try ((with_reducible show CallR _ _ _ _ _ _ _); refine callR_rcw (r' := .tup []) [(0, none), (572, none), (0, some ⟨61, 11, false, [Machine.o r6 709]⟩), (709, some ⟨28, 5, false, r6.out.map Msg.c⟩)] [(some 0, _), (some 572, _)] [] [(0, 0, _), (709, 1, _)] EQA zk6 (by simp) ND ZZ ZZ ND ND ZZ ZZ ?_; refine goS ?_)
      all_goals ((repeat' apply And.intro) <;> first|rfl|assumption|omega|(simp;done)|(simp;omega)|(simp_all;done))
     obtain rfl := Option.some.inj H
     refine eR_n ?_
     exact wk_lnA 1 [(some 0, ⟨61, 11, false, [Machine.o r6 1]⟩), (some 709, ⟨28, 5, false, r6.out.map Msg.c⟩)] [] (L := []) (fun t0 => ⟨RS, fun j B h => by rcases j with _ | _ | _ <;> first | exact h | (exact absurd h (by simp [hh]))⟩) (by intro i h; rcases i with _ | i <;> first | rfl | omega)
    ·refine a_skip ?_
     obtain rfl := Option.some.inj H
     refine eR_n ?_
     exact wk_lnA 1 [(some 0, ⟨61, 11, false, [Machine.o r5 1]⟩), (some 572, ⟨28, 5, false, r5.out.map Msg.c⟩)] [] (L := []) (fun t0 => ⟨RS, fun j B h => by rcases j with _ | _ | _ <;> first | exact h | (exact absurd h (by simp [hh]))⟩) (by intro i h; rcases i with _ | i <;> first | rfl | omega)
def seat_Offer_J1 (s1 : Seat) (data1 : List Int) (v1 : Bool) : Option (Seat × Int × Bool) :=
 cond v1 (some (s1, 0, false)) ((slices_Clone_f s1.log).bind fun r1 => (slices_Clone_56_f data1).bind fun r2 => chk ((r1.length + 1) * 32 ≤ 140737488355328) ((slices_Clone_57_f s1.next).bind fun r3 => (slices_Clone_57_f s1.match_).bind fun r4 => (seat_machine_own_f (⟨(⟨s1.id, s1.peers, s1.term, s1.voted, s1.role, (r1 ++ [(⟨s1.term, r2⟩ : Entry)]), s1.commit, s1.votes, r3, r4⟩ : Seat), []⟩ : Machine)).bind fun r5 => (idx r3 r5).bind fun x1 => (seat_machine_own_f (⟨(⟨s1.id, s1.peers, s1.term, s1.voted, s1.role, (r1 ++ [(⟨s1.term, r2⟩ : Entry)]), s1.commit, s1.votes, (r3.set r5.toNat (IntKind.wrap .i64 (x1 + 1))), r4⟩ : Seat), []⟩ : Machine)).bind fun r6 => (idx r4 r6).bind fun x2 => (seat_machine_commit_f (⟨(⟨s1.id, s1.peers, s1.term, s1.voted, s1.role, (r1 ++ [(⟨s1.term, r2⟩ : Entry)]), s1.commit, s1.votes, (r3.set r5.toNat (IntKind.wrap .i64 (x1 + 1))), (r4.set r6.toNat (IntKind.wrap .i64 (x2 + 1)))⟩ : Seat), []⟩ : Machine)).bind fun r7 => some (r7.seat, (r7.seat.log.length : Int), true)))
def seat_Offer_f (s1 : Seat) (data1 : List Int) : Option (Seat × Int × Bool) :=
 seat_Offer_J1 s1 data1 ((s1.role != 3) || ((decide (500 ≤ (s1.log.length : Int))) || (decide (200 < (data1.length : Int)))))
set_option maxHeartbeats 4000000 in
set_option maxRecDepth 20000 in
theorem seat_Offer_pc {s1 : Seat} {data1 : List Int} {r : Seat × Int × Bool} (H : seat_Offer_f s1 data1 = some r) : PC Tryd.prog 25 [.agg (Seat.c s1), .list 1 (data1.map (ci .u8))] (.tup [.agg (Seat.c r.1), .int .i64 r.2.1, .bool r.2.2]) := by
 refine pcA_of Tryd.func25 (by rfl) (by decide) 88 (by rfl) [.cell 4 25, .tmp 5, .tmp 6] (by rfl) ?_
 unfold seat_Offer_f at H
 simp only [ent]
 refine a_seq ?_
 refine a_regC _ rfl ?_
 refine sA_n ?_
 refine a_seq ?_
 refine a_cut (fun s => ∃ (v1 : Bool) (t0 : Nat → Dat), seat_Offer_J1 s1 data1 v1 = some r ∧ s = ⟨tl t0 [(1, .list 1 (data1.map (ci .u8))), (2, .ptr 0 0 0 10), (4, .ptr 1 0 0 10), (21, .bool v1)], hl [⟨25, 10, false, [Seat.c s1]⟩, ⟨25, 10, false, [[.int .i64 0, .nil, .int .i64 0, .int .i64 0, .int .i64 0, .nil, .int .i64 0, .nil, .nil, .nil]]⟩], 2, 88⟩) ?_ ?_
 ·refine bool_split (b := (s1.role != 3)) (fun zc2 => ?_) (fun zc2 => ?_)
  ·rw [zc2] at H
   refine a_regC _ rfl ?_
   refine cA_n ?_
   exact wk_lA [(some 0, _), (some 1, _)] [] (fun t0 => ⟨true, t0, H, rfl⟩)
  ·rw [zc2] at H
   refine bool_split (b := (decide (500 ≤ (s1.log.length : Int)))) (fun zc3 => ?_) (fun zc3 => ?_)
   ·rw [zc3] at H
    refine a_regC _ rfl ?_
    refine cA_n ?_
    exact wk_lA [(some 0, _), (some 1, _)] [] (fun t0 => ⟨true, t0, H, rfl⟩)
   ·rw [zc3] at H
    refine a_regC _ rfl ?_
    refine cA_n ?_
    exact wk_lA [(some 0, _), (some 1, _)] [] (fun t0 => ⟨(decide (200 < (data1.length : Int))), t0, H, rfl⟩)
 ·rintro s ⟨v1, t0, H, rfl⟩
  unfold seat_Offer_J1 at H
  refine a_cnd H (fun zc1 H => ?_) (fun zc1 H => ?_)
  ·refine a_seq ?_
   refine a_regC _ rfl ?_
   refine sA_n ?_
   exact a_ret (sA_r RT)
  ·refine a_skip ?_
   refine sA_n ?_
   refine a_seq ?_
   refine a_regC _ rfl ?_
   refine sA_n ?_
   refine a_seq ?_
   obtain ⟨r1, zh1, H⟩ := bind_some H
   have zk1 := slices_Clone_rc zh1
   obtain ⟨r2, zh2, H⟩ := bind_some H
   have zk2 := slices_Clone_56_pc zh2
   obtain ⟨zh3, H⟩ := chk_some H
   refine a_drW (by kernel_rfl) _ rfl (s := ?zs4) (by kernel_rfl) (by kernel_rfl) ?zs4f ?_ ?_ ?_
   rotate_left 2
   ·try refine goS ?_
    repeat' with_reducible apply And.intro
    all_goals try ((with_reducible show CallW _ _ _ _ _ _ _); refine callW_rcw (r' := .ref 37 0 r1.length 2) [] [(37, some ⟨76, 2, false, r1.map Entry.c⟩)] [] [] [(37, 0, ⟨76, 2, false, r1.map Entry.c⟩)] rfl (by decide) zk1 (by simp) (by show ([] : List Nat).Nodup; decide) (fun h2 e => trivial) (fun h2 e => (.cons (.lst _ _ _ Entry.pu rfl) .nil)) (by show ([37] : List Nat).Nodup; decide) (by show ([0] : List Nat).Nodup; decide) ⟨.inr ⟨rfl, by decide⟩, ⟨_, rfl, ⟨rfl, rfl, rfl, rfl⟩, .same _ _ Entry.pu rfl⟩, trivial⟩ (.refl' rfl rfl) ?_; refine goS ?_)
    repeat' with_reducible apply And.intro
    all_goals try ((with_reducible show CallW _ _ _ _ _ _ _); refine cW_p [] zk2 (fun h2 e => (.cons (.lst _ _ _ (ci_pu .u8) rfl) .nil)) ?_; refine goS ?_)
    all_goals ((repeat' apply And.intro) <;> first|rfl|assumption|omega|(simp;done)|(simp;omega)|(simp_all;done))
   ·kernel_rfl
   refine sA_n ?_
   refine a_seq ?_
   obtain ⟨r3, zh4, H⟩ := bind_some H
   have zk3 := slices_Clone_57_rc zh4
   obtain ⟨r4, zh5, H⟩ := bind_some H
   have zk4 := slices_Clone_57_rc zh5
   refine a_drW (by kernel_rfl) _ rfl (s := ?zs5) (by kernel_rfl) (by kernel_rfl) ?zs5f ?_ ?_ ?_
   rotate_left 2
   ·try refine goS ?_
    repeat' with_reducible apply And.intro
    all_goals try ((with_reducible show CallW _ _ _ _ _ _ _); refine callW_rcw (r' := .ref 158 0 r3.length 1) [] [(158, some ⟨3, 1, false, r3.map (ci .i64)⟩)] [] [] [(158, 0, ⟨3, 1, false, r3.map (ci .i64)⟩)] rfl (by decide) zk3 (by simp) (by show ([] : List Nat).Nodup; decide) (fun h2 e => trivial) (fun h2 e => (.cons (.lst _ _ _ (ci_pu .i64) rfl) .nil)) (by show ([158] : List Nat).Nodup; decide) (by show ([0] : List Nat).Nodup; decide) ⟨.inr ⟨rfl, by decide⟩, ⟨_, rfl, ⟨rfl, rfl, rfl, rfl⟩, .same _ _ (ci_pu .i64) rfl⟩, trivial⟩ (.refl' rfl rfl) ?_; refine goS ?_)
    repeat' with_reducible apply And.intro
    all_goals try ((with_reducible show CallW _ _ _ _ _ _ _); refine callW_rcw (r' := .ref 161 0 r4.length 1) [] [(161, some ⟨3, 1, false, r4.map (ci .i64)⟩)] [] [] [(161, 0, ⟨3, 1, false, r4.map (ci .i64)⟩)] rfl (by decide) zk4 (by simp) (by show ([] : List Nat).Nodup; decide) (fun h2 e => trivial) (fun h2 e => (.cons (.lst _ _ _ (ci_pu .i64) rfl) .nil)) (by show ([161] : List Nat).Nodup; decide) (by show ([0] : List Nat).Nodup; decide) ⟨.inr ⟨rfl, by decide⟩, ⟨_, rfl, ⟨rfl, rfl, rfl, rfl⟩, .same _ _ (ci_pu .i64) rfl⟩, trivial⟩ (.refl' rfl rfl) ?_; refine goS ?_)
    all_goals ((repeat' apply And.intro) <;> first|rfl|assumption|omega|(simp;done)|(simp;omega)|(simp_all;done))
   ·kernel_rfl
   refine sA_n ?_
   refine a_seq ?_
   obtain ⟨r5, zh6, H⟩ := bind_some H
   have zk5 := seat_machine_own_pc zh6
   obtain ⟨x1, zh7, H⟩ := bind_some H
   obtain ⟨zg1, zh7a, zh7b⟩ := idx3 (f := (ci .i64)) zh7
   try simp only [Int.reduceToNat, Int.toNat_natCast] at zg1
   refine a_drW (by kernel_rfl) _ rfl (s := ?zs6) (by kernel_rfl) (by kernel_rfl) ?zs6f ?_ ?_ ?_
   rotate_left 2
   ·try refine goS ?_
    repeat' with_reducible apply And.intro
    all_goals try ((with_reducible show CallW _ _ _ _ _ _ _); refine cW_s [4, 44, 158, 161] zk5 (fun h2 e => (.cons (.box ((e 4 (by simp)).trans (by rfl)) (fun e => by cases e) rfl rfl (.cons (.int' rfl) (.cons (.lst _ _ _ (ci_pu .i64) rfl) (.cons (.int' rfl) (.cons (.int' rfl) (.cons (.int' rfl) (.cons (.ownL ((e 44 (by simp)).trans (by rfl)) (fun e => by cases e) rfl (by first|rfl|omega|(simp;done)|(simp;omega)|(simp_all;done)) (.sm _ _ Entry.pu)) (.cons (.int' rfl) (.cons (.lst _ _ _ (ci_pu .i64) rfl) (.cons (.ownL ((e 158 (by simp)).trans (by rfl)) (fun e => by cases e) rfl (by first|rfl|omega|(simp;done)|(simp;omega)|(simp_all;done)) (.sm _ _ (ci_pu .i64))) (.cons (.ownL ((e 161 (by simp)).trans (by rfl)) (fun e => by cases e) rfl (by first|rfl|omega|(simp;done)|(simp;omega)|(simp_all;done)) (.sm _ _ (ci_pu .i64))) (.cons (.nil _) .nil)))))))))))) .nil)) (.int _ _) ?_; refine goS ?_)
    all_goals ((repeat' apply And.intro) <;> first|rfl|assumption|omega|(simp;done)|(simp;omega)|(simp_all;done))
   ·kernel_rfl
   refine sA_n ?_
   refine a_seq ?_
   obtain ⟨r6, zh8, H⟩ := bind_some H
   have zk6 := seat_machine_own_pc zh8
   obtain ⟨x2, zh9, H⟩ := bind_some H
   obtain ⟨zg2, zh9a, zh9b⟩ := idx3 (f := (ci .i64)) zh9
   try simp only [Int.reduceToNat, Int.toNat_natCast] at zg2
   refine a_drW (by kernel_rfl) _ rfl (s := ?zs7) (by kernel_rfl) (by kernel_rfl) ?zs7f ?_ ?_ ?_
   rotate_left 2
   ·try refine goS ?_
    repeat' with_reducible apply And.intro
    all_goals try ((with_reducible show CallW _ _ _ _ _ _ _); refine cW_s [4, 44, 158, 161] zk6 (fun h2 e => (.cons (.box ((e 4 (by simp)).trans (by rfl)) (fun e => by cases e) rfl rfl (.cons (.int' rfl) (.cons (.lst _ _ _ (ci_pu .i64) rfl) (.cons (.int' rfl) (.cons (.int' rfl) (.cons (.int' rfl) (.cons (.ownL ((e 44 (by simp)).trans (by rfl)) (fun e => by cases e) rfl (by first|rfl|omega|(simp;done)|(simp;omega)|(simp_all;done)) (.sm _ _ Entry.pu)) (.cons (.int' rfl) (.cons (.lst _ _ _ (ci_pu .i64) rfl) (.cons (.ownL ((e 158 (by simp)).trans (by rfl)) (fun e => by cases e) rfl (by first|rfl|omega|(simp;done)|(simp;omega)|(simp_all;done)) (.sm _ _ (ci_pu .i64))) (.cons (.ownL ((e 161 (by simp)).trans (by rfl)) (fun e => by cases e) rfl (by first|rfl|omega|(simp;done)|(simp;omega)|(simp_all;done)) (.sm _ _ (ci_pu .i64))) (.cons (.nil _) .nil)))))))))))) .nil)) (.int _ _) ?_; refine goS ?_)
    all_goals ((repeat' apply And.intro) <;> first|rfl|assumption|omega|(simp;done)|(simp;omega)|(simp_all;done))
   ·kernel_rfl
   refine sA_n ?_
   refine a_seq ?_
   obtain ⟨r7, zh10, H⟩ := bind_some H
   have zk7 := seat_machine_commit_rc zh10
   refine a_reg _ rfl (s := ?zs8) ?_ ?_
   rotate_left
   ·try refine goS ?_
    repeat' with_reducible apply And.intro
    all_goals try ((with_reducible show CallR _ _ _ _ _ _ _); refine callR_rcw (r' := .tup []) [(44, some ⟨76, 2, true, (r1 ++ [(⟨s1.term, r2⟩ : Entry)]).map Entry.c⟩), (158, some ⟨3, 1, true, (r3.set r5.toNat (IntKind.wrap .i64 (x1 + 1))).map (ci .i64)⟩), (161, some ⟨3, 1, true, (r4.set r6.toNat (IntKind.wrap .i64 (x2 + 1))).map (ci .i64)⟩), (4, none), (4, some ⟨61, 11, false, [Machine.o r7 475]⟩), (475, some ⟨28, 5, false, r7.out.map Msg.c⟩)] [(some 4, ⟨61, 11, false, [[.int .i64 (((⟨(⟨s1.id, s1.peers, s1.term, s1.voted, s1.role, (r1 ++ [(⟨s1.term, r2⟩ : Entry)]), s1.commit, s1.votes, (r3.set r5.toNat (IntKind.wrap .i64 (x1 + 1))), (r4.set r6.toNat (IntKind.wrap .i64 (x2 + 1)))⟩ : Seat), []⟩ : Machine).seat).id), .list 1 ((((⟨(⟨s1.id, s1.peers, s1.term, s1.voted, s1.role, (r1 ++ [(⟨s1.term, r2⟩ : Entry)]), s1.commit, s1.votes, (r3.set r5.toNat (IntKind.wrap .i64 (x1 + 1))), (r4.set r6.toNat (IntKind.wrap .i64 (x2 + 1)))⟩ : Seat), []⟩ : Machine).seat).peers).map (ci .i64)), .int .i64 (((⟨(⟨s1.id, s1.peers, s1.term, s1.voted, s1.role, (r1 ++ [(⟨s1.term, r2⟩ : Entry)]), s1.commit, s1.votes, (r3.set r5.toNat (IntKind.wrap .i64 (x1 + 1))), (r4.set r6.toNat (IntKind.wrap .i64 (x2 + 1)))⟩ : Seat), []⟩ : Machine).seat).term), .int .i64 (((⟨(⟨s1.id, s1.peers, s1.term, s1.voted, s1.role, (r1 ++ [(⟨s1.term, r2⟩ : Entry)]), s1.commit, s1.votes, (r3.set r5.toNat (IntKind.wrap .i64 (x1 + 1))), (r4.set r6.toNat (IntKind.wrap .i64 (x2 + 1)))⟩ : Seat), []⟩ : Machine).seat).voted), .int .i64 (((⟨(⟨s1.id, s1.peers, s1.term, s1.voted, s1.role, (r1 ++ [(⟨s1.term, r2⟩ : Entry)]), s1.commit, s1.votes, (r3.set r5.toNat (IntKind.wrap .i64 (x1 + 1))), (r4.set r6.toNat (IntKind.wrap .i64 (x2 + 1)))⟩ : Seat), []⟩ : Machine).seat).role), .list 2 ((((⟨(⟨s1.id, s1.peers, s1.term, s1.voted, s1.role, (r1 ++ [(⟨s1.term, r2⟩ : Entry)]), s1.commit, s1.votes, (r3.set r5.toNat (IntKind.wrap .i64 (x1 + 1))), (r4.set r6.toNat (IntKind.wrap .i64 (x2 + 1)))⟩ : Seat), []⟩ : Machine).seat).log).map Entry.c), .int .i64 (((⟨(⟨s1.id, s1.peers, s1.term, s1.voted, s1.role, (r1 ++ [(⟨s1.term, r2⟩ : Entry)]), s1.commit, s1.votes, (r3.set r5.toNat (IntKind.wrap .i64 (x1 + 1))), (r4.set r6.toNat (IntKind.wrap .i64 (x2 + 1)))⟩ : Seat), []⟩ : Machine).seat).commit), .list 1 ((((⟨(⟨s1.id, s1.peers, s1.term, s1.voted, s1.role, (r1 ++ [(⟨s1.term, r2⟩ : Entry)]), s1.commit, s1.votes, (r3.set r5.toNat (IntKind.wrap .i64 (x1 + 1))), (r4.set r6.toNat (IntKind.wrap .i64 (x2 + 1)))⟩ : Seat), []⟩ : Machine).seat).votes).map (ci .i64)), .list 1 ((((⟨(⟨s1.id, s1.peers, s1.term, s1.voted, s1.role, (r1 ++ [(⟨s1.term, r2⟩ : Entry)]), s1.commit, s1.votes, (r3.set r5.toNat (IntKind.wrap .i64 (x1 + 1))), (r4.set r6.toNat (IntKind.wrap .i64 (x2 + 1)))⟩ : Seat), []⟩ : Machine).seat).next).map (ci .i64)), .list 1 ((((⟨(⟨s1.id, s1.peers, s1.term, s1.voted, s1.role, (r1 ++ [(⟨s1.term, r2⟩ : Entry)]), s1.commit, s1.votes, (r3.set r5.toNat (IntKind.wrap .i64 (x1 + 1))), (r4.set r6.toNat (IntKind.wrap .i64 (x2 + 1)))⟩ : Seat), []⟩ : Machine).seat).match_).map (ci .i64)), .ref 1 0 (([] : List Msg).length) 5]]⟩), (none, ⟨28, 5, false, ([] : List Msg).map Msg.c⟩)] [44, 158, 161] [(4, 0, ⟨61, 11, false, [Machine.o r7 475]⟩), (475, 1, ⟨28, 5, false, r7.out.map Msg.c⟩)] (by first | rfl | (simp only [List.map_set, List.map_append, List.map_cons, List.map_nil]; rfl)) zk7 (by simp) ND (allB_some (by rfl) rfl (.cons (.cons (.int' rfl) (.cons (.lst _ _ _ (ci_pu .i64) rfl) (.cons (.int' rfl) (.cons (.int' rfl) (.cons (.int' rfl) (.cons (.frz' (by rfl) (by simp) rfl (by first|rfl|omega|(simp;done)|(simp;omega)|(simp_all;done)) (.sm _ _ Entry.pu)) (.cons (.int' rfl) (.cons (.lst _ _ _ (ci_pu .i64) rfl) (.cons (.frz' (by rfl) (by simp) rfl (by first|rfl|omega|(simp;done)|(simp;omega)|(simp_all;done)) (.sm _ _ (ci_pu .i64))) (.cons (.frz' (by rfl) (by simp) rfl (by first|rfl|omega|(simp;done)|(simp;omega)|(simp_all;done)) (.sm _ _ (ci_pu .i64))) (.cons (.nilv _ _ rfl rfl) .nil))))))))))) .nil) (allB_none rfl trivial)) (.cons (.ptr _ _ _ _ _ rfl) .nil) ND ND ⟨.inl ⟨by decide, rfl⟩, ⟨_, rfl, ⟨rfl, rfl, rfl, rfl⟩, .cons (.cons (.int' rfl) (.cons (.lst _ _ _ (ci_pu .i64) rfl) (.cons (.int' rfl) (.cons (.int' rfl) (.cons (.int' rfl) (.cons (.lst _ _ _ Entry.pu rfl) (.cons (.int' rfl) (.cons (.lst _ _ _ (ci_pu .i64) rfl) (.cons (.lst _ _ _ (ci_pu .i64) rfl) (.cons (.lst _ _ _ (ci_pu .i64) rfl) (.cons (.refl' rfl rfl) .nil))))))))))) .nil⟩, ⟨.inr ⟨rfl, by decide⟩, ⟨_, rfl, ⟨rfl, rfl, rfl, rfl⟩, .same _ _ Msg.pu rfl⟩, trivial⟩⟩ (.tup' .nil) ?_; refine goS ?_)
    all_goals ((repeat' apply And.intro) <;> first|rfl|assumption|omega|(simp;done)|(simp;omega)|(simp_all;done))
   refine sA_n ?_
   refine a_seq ?_
   refine a_drW (by kernel_rfl) _ rfl (s := ?zs9) (by kernel_rfl) (by kernel_rfl) ?zs9f ?_ ?_ ?_
   rotate_left 2
   ·refine goS ?_
    (repeat' apply And.intro) <;> first|rfl|assumption|omega|(simp;done)|(simp;omega)|(simp_all;done)
   ·kernel_rfl
   refine sA_n ?_
   refine a_ret ?_
   obtain rfl := Option.some.inj H
   refine e_r2 (d := ?zd2) ?_ ?_
   rotate_left
   ·simp only [EVT, resR, single, evLoad, cut, TIS, CS, reduceAdd, reduceEqDiff, ↓reduceIte, reduceCtorEq, reduceLT, reduceLeDiff, reduceSub, Nat.reduceBEq, zc1, zg1, zg2]
    (repeat' apply And.intro) <;> first | rfl | assumption | omega | (simp; done)
   exact ZZ
end
end Go.Proofs.YtmkpokcfefjifaaDoor
