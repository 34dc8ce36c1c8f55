import Derived.Test.YtmkpokcfefjifaaDoorF3
set_option linter.unusedSectionVars false
/- Functions of the program as Lean functions, and that they are so; printed by a program of mine. -/
set_option linter.unusedSimpArgs false
set_option linter.unusedVariables false
namespace Go.Proofs.YtmkpokcfefjifaaDoor
open Go.Ab
open Nat (reduceAdd reduceMul reduceEqDiff reduceLT reduceLeDiff reduceSub)
noncomputable section

def seat_machine_lead_J1 (m1 : Machine) (next1 : List Int) (match1 : List Int) : Option (Bool × Machine) :=
 (seat_machine_own_f (⟨(⟨m1.seat.id, m1.seat.peers, m1.seat.term, m1.seat.voted, 3, m1.seat.log, m1.seat.commit, [], next1, match1⟩ : Seat), m1.out⟩ : Machine)).bind fun r2 => (idx match1 r2).bind fun x1 => (seat_machine_commit_f (⟨(⟨m1.seat.id, m1.seat.peers, m1.seat.term, m1.seat.voted, 3, m1.seat.log, m1.seat.commit, [], next1, (match1.set r2.toNat (m1.seat.log.length : Int))⟩ : Seat), m1.out⟩ : Machine)).bind fun r3 => (seat_machine_all_put_f r3 (fun _ => none)).bind fun r4 => some (true, r4)
def seat_machine_lead_L1 (m1 : Machine) : Nat → (List Int) → (List Int) → Int → Option (Bool × Machine)
 | 0, _, _, _ => none
 | m_ + 1, next2, match2, v1 => cond (decide (v1 < (m1.seat.peers.length : Int))) (chk ((next2.length + 1) * 8 ≤ 140737488355328) (chk ((match2.length + 1) * 8 ≤ 140737488355328) (seat_machine_lead_L1 m1 m_ (next2 ++ [(IntKind.wrap .i64 ((m1.seat.log.length : Int) + 1))]) (match2 ++ [0]) (IntKind.wrap .i64 (v1 + 1))))) (seat_machine_lead_J1 m1 next2 match2)
def seat_machine_lead_f (m1 : Machine) : Option (Bool × Machine) :=
 (vote_Won_f m1.seat.votes m1.seat.peers).bind fun r1 => cond (!r1) (some (false, m1)) (seat_machine_lead_L1 m1 BIG [] [] 0)
set_option maxHeartbeats 4000000 in
set_option maxRecDepth 20000 in
theorem seat_machine_lead_rc {m1 : Machine} {r : Bool × Machine} (H : seat_machine_lead_f m1 = some r) : RC Tryd.prog 45 [.ptr 0 0 0 11] [⟨61, 11, false, [Machine.o m1 1]⟩, ⟨28, 5, false, m1.out.map Msg.c⟩] 1 (.bool r.1) [some ⟨61, 11, false, [Machine.o r.2 1]⟩, some ⟨28, 5, false, r.2.out.map Msg.c⟩] := by
 refine rcA_of Tryd.func45 (by rfl) (by decide) 89 (by rfl) [.tmp 2] (by rfl) ?_
 unfold seat_machine_lead_f at H
 simp only [hent, List.length_cons, List.length_nil, reduceAdd]
 refine a_seq ?_
 refine a_regC _ rfl ?_
 refine sA_n ?_
 refine a_seq ?_
 refine a_seq ?_
 obtain ⟨r1, zh1, H⟩ := bind_some H
 have zk1 := vote_Won_pc zh1
 refine a_drW (by kernel_rfl) _ rfl (s := ?zs2) (by kernel_rfl) (by kernel_rfl) ?zs2f ?_ ?_ ?_
 rotate_left 2
 ·try refine goS ?_
  repeat' with_reducible apply And.intro
  all_goals try ((with_reducible show CallW _ _ _ _ _ _ _); refine cW_s [] zk1 (fun h2 e => (.cons (.lst _ _ _ (ci_pu .i64) rfl) (.cons (.lst _ _ _ (ci_pu .i64) rfl) .nil))) (.bool _) ?_; refine goS ?_)
  all_goals ((repeat' apply And.intro) <;> first|rfl|assumption|omega|(simp;done)|(simp;omega)|(simp_all;done))
 ·kernel_rfl
 refine sA_n ?_
 refine a_cnd H (fun zc1 H => ?_) (fun zc1 H => ?_)
 ·refine a_seq ?_
  refine a_regC _ rfl ?_
  refine sA_n ?_
  refine a_ret ?_
  refine sA_r ?_
  obtain rfl := Option.some.inj H
  refine eR_r ?_
  exact wk_lnA 1 [(some 0, ⟨61, 11, false, [Machine.o m1 1]⟩), (some 1, ⟨28, 5, false, m1.out.map Msg.c⟩)] [] (L := [(2, .bool false)]) (fun t0 => ⟨RS, fun j B h => by rcases j with _ | _ | _ <;> first | exact h | (exact absurd h (by simp [hh]))⟩) (by intro i h; rcases i with _ | i <;> first | rfl | omega)
 ·refine a_skip ?_
  refine sA_n ?_
  refine a_seq ?_
  refine a_regC _ rfl ?_
  refine sA_n ?_
  refine a_cut (fun s => ∃ (next1 : List Int) (match1 : List Int) (t0 : Nat → Dat), seat_machine_lead_J1 m1 next1 match1 = some r ∧ s = ⟨tl t0 [(0, .ptr 0 0 0 11)], hl [⟨61, 11, false, [[.int .i64 m1.seat.id, .list 1 (m1.seat.peers.map (ci .i64)), .int .i64 m1.seat.term, .int .i64 m1.seat.voted, .int .i64 3, .list 2 (m1.seat.log.map Entry.c), .int .i64 m1.seat.commit, .nil, .ref 1 0 next1.length 1, .ref 2 0 match1.length 1, .ref 3 0 m1.out.length 5]]⟩, ⟨3, 1, false, next1.map (ci .i64)⟩, ⟨3, 1, false, match1.map (ci .i64)⟩, ⟨28, 5, false, m1.out.map Msg.c⟩], 4, 89⟩) ?_ ?_
  ·refine a_seq ?_
   refine a_regC _ rfl ?_
   refine sA_n ?_
   refine a_blk ?_
   refine a_loop (fun m s => ∃ (next2 : List Int) (match2 : List Int) (v1 : Int) (t0 : Nat → Dat), seat_machine_lead_L1 m1 m next2 match2 v1 = some r ∧ s = ⟨tl t0 [(0, .ptr 0 0 0 11), (36, .int .i64 (m1.seat.peers.length : Int)), (37, .int .i64 v1)], hl [⟨61, 11, false, [[.int .i64 m1.seat.id, .list 1 (m1.seat.peers.map (ci .i64)), .int .i64 m1.seat.term, .int .i64 m1.seat.voted, .int .i64 3, .list 2 (m1.seat.log.map Entry.c), .int .i64 m1.seat.commit, .nil, .ref 1 0 next2.length 1, .ref 2 0 match2.length 1, .ref 3 0 m1.out.length 5]]⟩, ⟨3, 1, false, next2.map (ci .i64)⟩, ⟨3, 1, false, match2.map (ci .i64)⟩, ⟨28, 5, false, m1.out.map Msg.c⟩], 4, 89⟩) BIG ?_ ?_
   ·exact wk_lnA 1 [(some 0, _), (none, _), (none, _), (some 1, _)] [] (fun t0 => ⟨[], [], 0, t0, H, rfl⟩)
   ·rintro m_seat_machine_lead_L1 s ⟨next2, match2, v1, t0, H, rfl⟩
    obtain _ | m_seat_machine_lead_L1 := m_seat_machine_lead_L1
    ·cases (show (none : Option _) = some _ from H)
    ·rw [seat_machine_lead_L1] at H
     refine a_seq ?_
     refine a_regC _ rfl ?_
     refine sA_n ?_
     refine a_seq ?_
     refine a_cnd H (fun zc2 H => ?_) (fun zc2 H => ?_)
     ·refine a_skip ?_
      refine sA_n ?_
      refine a_seq ?_
      refine a_blk ?_
      obtain ⟨zh6, H⟩ := chk_some H
      obtain ⟨zh7, H⟩ := chk_some H
      refine a_drW (by kernel_rfl) _ rfl (s := ?zs11) (by kernel_rfl) (by kernel_rfl) ?zs11f ?_ ?_ ?_
      rotate_left 2
      ·refine goS ?_
       (repeat' apply And.intro) <;> first|rfl|assumption|omega|(simp;done)|(simp;omega)|(simp_all;done)
      ·kernel_rfl
      refine bA_n ?_
      refine sA_n ?_
      refine a_regC _ rfl ?_
      refine lA_n ?_
      exact wk_lnA 1 [(some 0, _), (some 27, _), (some 34, _), (some 3, _)] [] (fun t0 => ⟨_, Nat.lt_succ_self _, (next2 ++ [(IntKind.wrap .i64 ((m1.seat.log.length : Int) + 1))]), (match2 ++ [0]), (IntKind.wrap .i64 (v1 + 1)), t0, H, rfl⟩)
     ·refine a_exit ?_
      refine sA_e ?_
      refine lA_e ?_
      refine bA_hit ?_
      refine cA_n ?_
      exact wk_lnA 1 [(some 0, _), (some 1, _), (some 2, _), (some 3, _)] [] (fun t0 => ⟨next2, match2, t0, H, rfl⟩)
  ·rintro s ⟨next1, match1, t0, H, rfl⟩
   unfold seat_machine_lead_J1 at H
   refine a_seq ?_
   obtain ⟨r2, zh2, H⟩ := bind_some H
   have zk2 := seat_machine_own_pc zh2
   obtain ⟨x1, zh3, H⟩ := bind_some H
   obtain ⟨zg1, zh3a, zh3b⟩ := idx3 (f := (ci .i64)) zh3
   try simp only [Int.reduceToNat, Int.toNat_natCast] at zg1
   refine a_drW (by kernel_rfl) _ rfl (s := ?zs5) (by kernel_rfl) (by kernel_rfl) ?zs5f ?_ ?_ ?_
   rotate_left 2
   ·try refine goS ?_
    repeat' with_reducible apply And.intro
    all_goals try ((with_reducible show CallW _ _ _ _ _ _ _); refine cW_s [0, 1, 2, 3] zk2 (fun h2 e => (.cons (.box ((e 0 (by simp)).trans (by rfl)) (fun e => by cases e) rfl rfl (.cons (.int' rfl) (.cons (.lst _ _ _ (ci_pu .i64) rfl) (.cons (.int' rfl) (.cons (.int' rfl) (.cons (.int' rfl) (.cons (.lst _ _ _ Entry.pu rfl) (.cons (.int' rfl) (.cons (.nil _) (.cons (.ownL ((e 1 (by simp)).trans (by rfl)) (fun e => by cases e) rfl (by first|rfl|omega|(simp;done)|(simp;omega)|(simp_all;done)) (.sm _ _ (ci_pu .i64))) (.cons (.ownL ((e 2 (by simp)).trans (by rfl)) (fun e => by cases e) rfl (by first|rfl|omega|(simp;done)|(simp;omega)|(simp_all;done)) (.sm _ _ (ci_pu .i64))) (.cons (.ownL ((e 3 (by simp)).trans (by rfl)) (fun e => by cases e) rfl (by first|rfl|omega|(simp;done)|(simp;omega)|(simp_all;done)) (.sm _ _ Msg.pu)) .nil)))))))))))) .nil)) (.int _ _) ?_; refine goS ?_)
    all_goals ((repeat' apply And.intro) <;> first|rfl|assumption|omega|(simp;done)|(simp;omega)|(simp_all;done))
   ·kernel_rfl
   refine sA_n ?_
   refine a_seq ?_
   obtain ⟨r3, zh4, H⟩ := bind_some H
   have zk3 := seat_machine_commit_rc zh4
   refine a_reg _ rfl (s := ?zs6) ?_ ?_
   rotate_left
   ·try refine goS ?_
    repeat' with_reducible apply And.intro
    all_goals try ((with_reducible show CallR _ _ _ _ _ _ _); refine callR_rcw (r' := .tup []) [(1, some ⟨3, 1, true, next1.map (ci .i64)⟩), (2, some ⟨3, 1, true, (match1.set r2.toNat (m1.seat.log.length : Int)).map (ci .i64)⟩), (0, none), (3, none), (0, some ⟨61, 11, false, [Machine.o r3 125]⟩), (125, some ⟨28, 5, false, r3.out.map Msg.c⟩)] [(some 0, ⟨61, 11, false, [[.int .i64 (((⟨(⟨m1.seat.id, m1.seat.peers, m1.seat.term, m1.seat.voted, 3, m1.seat.log, m1.seat.commit, [], next1, (match1.set r2.toNat (m1.seat.log.length : Int))⟩ : Seat), m1.out⟩ : Machine).seat).id), .list 1 ((((⟨(⟨m1.seat.id, m1.seat.peers, m1.seat.term, m1.seat.voted, 3, m1.seat.log, m1.seat.commit, [], next1, (match1.set r2.toNat (m1.seat.log.length : Int))⟩ : Seat), m1.out⟩ : Machine).seat).peers).map (ci .i64)), .int .i64 (((⟨(⟨m1.seat.id, m1.seat.peers, m1.seat.term, m1.seat.voted, 3, m1.seat.log, m1.seat.commit, [], next1, (match1.set r2.toNat (m1.seat.log.length : Int))⟩ : Seat), m1.out⟩ : Machine).seat).term), .int .i64 (((⟨(⟨m1.seat.id, m1.seat.peers, m1.seat.term, m1.seat.voted, 3, m1.seat.log, m1.seat.commit, [], next1, (match1.set r2.toNat (m1.seat.log.length : Int))⟩ : Seat), m1.out⟩ : Machine).seat).voted), .int .i64 (((⟨(⟨m1.seat.id, m1.seat.peers, m1.seat.term, m1.seat.voted, 3, m1.seat.log, m1.seat.commit, [], next1, (match1.set r2.toNat (m1.seat.log.length : Int))⟩ : Seat), m1.out⟩ : Machine).seat).role), .list 2 ((((⟨(⟨m1.seat.id, m1.seat.peers, m1.seat.term, m1.seat.voted, 3, m1.seat.log, m1.seat.commit, [], next1, (match1.set r2.toNat (m1.seat.log.length : Int))⟩ : Seat), m1.out⟩ : Machine).seat).log).map Entry.c), .int .i64 (((⟨(⟨m1.seat.id, m1.seat.peers, m1.seat.term, m1.seat.voted, 3, m1.seat.log, m1.seat.commit, [], next1, (match1.set r2.toNat (m1.seat.log.length : Int))⟩ : Seat), m1.out⟩ : Machine).seat).commit), .list 1 ((((⟨(⟨m1.seat.id, m1.seat.peers, m1.seat.term, m1.seat.voted, 3, m1.seat.log, m1.seat.commit, [], next1, (match1.set r2.toNat (m1.seat.log.length : Int))⟩ : Seat), m1.out⟩ : Machine).seat).votes).map (ci .i64)), .list 1 ((((⟨(⟨m1.seat.id, m1.seat.peers, m1.seat.term, m1.seat.voted, 3, m1.seat.log, m1.seat.commit, [], next1, (match1.set r2.toNat (m1.seat.log.length : Int))⟩ : Seat), m1.out⟩ : Machine).seat).next).map (ci .i64)), .list 1 ((((⟨(⟨m1.seat.id, m1.seat.peers, m1.seat.term, m1.seat.voted, 3, m1.seat.log, m1.seat.commit, [], next1, (match1.set r2.toNat (m1.seat.log.length : Int))⟩ : Seat), m1.out⟩ : Machine).seat).match_).map (ci .i64)), .ref 1 0 m1.out.length 5]]⟩), (some 3, ⟨28, 5, false, m1.out.map Msg.c⟩)] [1, 2] [(0, 0, ⟨61, 11, false, [Machine.o r3 125]⟩), (125, 1, ⟨28, 5, false, r3.out.map Msg.c⟩)] (by first | rfl | (simp only [List.map_set]; rfl)) zk3 (by simp) ND (allB_some (by rfl) rfl (.cons (.cons (.int' rfl) (.cons (.lst _ _ _ (ci_pu .i64) rfl) (.cons (.int' rfl) (.cons (.int' rfl) (.cons (.int' rfl) (.cons (.lst _ _ _ Entry.pu rfl) (.cons (.int' rfl) (.cons (.nil _) (.cons (.frz' (by rfl) (by simp) rfl (by first|rfl|omega|(simp;done)|(simp;omega)|(simp_all;done)) (.sm _ _ (ci_pu .i64))) (.cons (.frz' (by rfl) (by simp) rfl (by first|rfl|omega|(simp;done)|(simp;omega)|(simp_all;done)) (.sm _ _ (ci_pu .i64))) (.cons (.refl' (by first|rfl|omega|(simp;done)|(simp;omega)|(simp_all;done)) rfl) .nil))))))))))) .nil) (allB_some (by rfl) rfl (.sm _ _ Msg.pu) trivial)) (.cons (.ptr _ _ _ _ _ rfl) .nil) ND ND ⟨.inl ⟨by decide, rfl⟩, ⟨_, rfl, ⟨rfl, rfl, rfl, rfl⟩, .cons (.cons (.int' rfl) (.cons (.lst _ _ _ (ci_pu .i64) rfl) (.cons (.int' rfl) (.cons (.int' rfl) (.cons (.int' rfl) (.cons (.lst _ _ _ Entry.pu rfl) (.cons (.int' rfl) (.cons (.lst _ _ _ (ci_pu .i64) rfl) (.cons (.lst _ _ _ (ci_pu .i64) rfl) (.cons (.lst _ _ _ (ci_pu .i64) rfl) (.cons (.refl' rfl rfl) .nil))))))))))) .nil⟩, ⟨.inr ⟨rfl, by decide⟩, ⟨_, rfl, ⟨rfl, rfl, rfl, rfl⟩, .same _ _ Msg.pu rfl⟩, trivial⟩⟩ (.tup' .nil) ?_; refine goS ?_)
    all_goals ((repeat' apply And.intro) <;> first|rfl|assumption|omega|(simp;done)|(simp;omega)|(simp_all;done))
   refine sA_n ?_
   refine a_seq ?_
   obtain ⟨r4, zh5, H⟩ := bind_some H
   have zk4 := seat_machine_all_put_rc zh5
   refine a_reg _ rfl (s := ?zs7) ?_ ?_
   rotate_left
   ·try refine goS ?_
    repeat' with_reducible apply And.intro
    all_goals try ((with_reducible show CallR _ _ _ _ _ _ _); refine callR_rcw (r' := .tup []) [(0, none), (125, none), (0, some ⟨61, 11, false, [Machine.o r4 143]⟩), (143, some ⟨28, 5, false, r4.out.map Msg.c⟩)] [(some 0, _), (some 125, _)] [] [(0, 0, _), (143, 1, _)] EQA zk4 (by simp) ND ZZ ZZ ND ND ZZ ZZ ?_; refine goS ?_)
    all_goals ((repeat' apply And.intro) <;> first|rfl|assumption|omega|(simp;done)|(simp;omega)|(simp_all;done))
   refine sA_n ?_
   refine a_seq ?_
   refine a_regC _ rfl ?_
   refine sA_n ?_
   refine a_ret ?_
   obtain rfl := Option.some.inj H
   refine eR_r ?_
   exact wk_lnA 1 [(some 0, ⟨61, 11, false, [Machine.o r4 1]⟩), (some 143, ⟨28, 5, false, r4.out.map Msg.c⟩)] [] (L := [(2, .bool true)]) (fun t0 => ⟨RS, fun j B h => by rcases j with _ | _ | _ <;> first | exact h | (exact absurd h (by simp [hh]))⟩) (by intro i h; rcases i with _ | i <;> first | rfl | omega)
def seat_machine_voted_J1 (m1 : Machine) (x1 : Msg) (v1 : Bool) : Option Machine :=
 cond v1 (some (m1)) ((slices_Clone_57_f m1.seat.votes).bind fun r1 => chk ((r1.length + 1) * 8 ≤ 140737488355328) ((slices_Sort_f (r1 ++ [x1.from_])).bind fun r2 => chk (r2.length = r1.length + 1) ((seat_machine_lead_f (⟨(⟨m1.seat.id, m1.seat.peers, m1.seat.term, m1.seat.voted, m1.seat.role, m1.seat.log, m1.seat.commit, r2, m1.seat.next, m1.seat.match_⟩ : Seat), m1.out⟩ : Machine)).bind fun r3 => some (r3.2))))
def seat_machine_voted_f (m1 : Machine) (x1 : Msg) : Option Machine :=
 (idx x1.nums 0).bind fun x2 => cond (x2 != m1.seat.term) (seat_machine_voted_J1 m1 x1 true) (cond (m1.seat.role != 2) (seat_machine_voted_J1 m1 x1 true) ((idx x1.nums 1).bind fun x3 => cond (x3 == 0) (seat_machine_voted_J1 m1 x1 true) ((slices_Contains_f m1.seat.votes x1.from_).bind fun r4 => seat_machine_voted_J1 m1 x1 r4)))
set_option maxHeartbeats 4000000 in
set_option maxRecDepth 20000 in
theorem seat_machine_voted_rc {m1 : Machine} {x1 : Msg} {r : Machine} (H : seat_machine_voted_f m1 x1 = some r) : RC Tryd.prog 40 [.ptr 0 0 0 11, .agg (Msg.c x1)] [⟨61, 11, false, [Machine.o m1 1]⟩, ⟨28, 5, false, m1.out.map Msg.c⟩] 1 (.tup []) [some ⟨61, 11, false, [Machine.o r 1]⟩, some ⟨28, 5, false, r.out.map Msg.c⟩] := by
 refine rcA_of Tryd.func40 (by rfl) (by decide) 61 (by rfl) [] (by rfl) ?_
 unfold seat_machine_voted_f at H
 simp only [hent, List.length_cons, List.length_nil, reduceAdd]
 refine a_seq ?_
 refine a_regC _ rfl ?_
 refine sA_n ?_
 refine a_seq ?_
 refine a_cut (fun s => ∃ (v1 : Bool) (t0 : Nat → Dat), seat_machine_voted_J1 m1 x1 v1 = some r ∧ s = ⟨tl t0 [(0, .ptr 0 0 0 11), (3, .ptr 2 0 0 5), (38, .bool v1)], hl [⟨61, 11, false, [Machine.o m1 1]⟩, ⟨28, 5, false, m1.out.map Msg.c⟩, ⟨28, 5, false, [Msg.c x1]⟩], 3, 61⟩) ?_ ?_
 ·obtain ⟨x2, zh6, H⟩ := bind_some H
  obtain ⟨zg1, zh6a, zh6b⟩ := idx3 (f := (ci .i64)) zh6
  try simp only [Int.reduceToNat, Int.toNat_natCast] at zg1
  refine cnd H (fun zc2 H => ?_) (fun zc2 H => ?_)
  ·refine a_drW (by kernel_rfl) _ rfl (s := ?zs5) (by kernel_rfl) (by kernel_rfl) ?zs5f ?_ ?_ ?_
   rotate_left 2
   ·refine goS ?_
    try refine goS ?_
    (repeat' apply And.intro) <;> first|rfl|assumption|omega|(simp;done)|(simp;omega)|(simp_all;done)
   ·kernel_rfl
   refine cA_n ?_
   exact wk_lnA 1 [(some 0, _), (some 1, _), (some 2, _)] [] (fun t0 => ⟨true, t0, H, rfl⟩)
  ·refine cnd H (fun zc3 H => ?_) (fun zc3 H => ?_)
   ·refine a_drW (by kernel_rfl) _ rfl (s := ?zs6) (by kernel_rfl) (by kernel_rfl) ?zs6f ?_ ?_ ?_
    rotate_left 2
    ·refine goS ?_
     try refine goS ?_
     (repeat' apply And.intro) <;> first|rfl|assumption|omega|(simp;done)|(simp;omega)|(simp_all;done)
    ·kernel_rfl
    refine cA_n ?_
    exact wk_lnA 1 [(some 0, _), (some 1, _), (some 2, _)] [] (fun t0 => ⟨true, t0, H, rfl⟩)
   ·obtain ⟨x3, zh7, H⟩ := bind_some H
    obtain ⟨zg2, zh7a, zh7b⟩ := idx3 (f := (ci .i64)) zh7
    try simp only [Int.reduceToNat, Int.toNat_natCast] at zg2
    refine cnd H (fun zc4 H => ?_) (fun zc4 H => ?_)
    ·refine a_drW (by kernel_rfl) _ rfl (s := ?zs7) (by kernel_rfl) (by kernel_rfl) ?zs7f ?_ ?_ ?_
     rotate_left 2
     ·refine goS ?_
      try refine goS ?_
      (repeat' apply And.intro) <;> first|rfl|assumption|omega|(simp;done)|(simp;omega)|(simp_all;done)
     ·kernel_rfl
     refine cA_n ?_
     exact wk_lnA 1 [(some 0, _), (some 1, _), (some 2, _)] [] (fun t0 => ⟨true, t0, H, rfl⟩)
    ·obtain ⟨r4, zh8, H⟩ := bind_some H
     have zk4 := slices_Contains_pc zh8
     refine a_drW (by kernel_rfl) _ rfl (s := ?zs8) (by kernel_rfl) (by kernel_rfl) ?zs8f ?_ ?_ ?_
     rotate_left 2
     ·try refine goS ?_
      repeat' with_reducible apply And.intro
      all_goals try ((with_reducible show CallW _ _ _ _ _ _ _); refine cW_s [] zk4 (fun h2 e => (.cons (.lst _ _ _ (ci_pu .i64) rfl) (.cons (.int' rfl) .nil))) (.bool _) ?_; refine goS ?_)
      all_goals ((repeat' apply And.intro) <;> first|rfl|assumption|omega|(simp;done)|(simp;omega)|(simp_all;done))
     ·kernel_rfl
     refine cA_n ?_
     exact wk_lnA 1 [(some 0, _), (some 1, _), (some 2, _)] [] (fun t0 => ⟨r4, t0, H, rfl⟩)
 ·rintro s ⟨v1, t0, H, rfl⟩
  unfold seat_machine_voted_J1 at H
  refine a_cnd H (fun zc1 H => ?_) (fun zc1 H => ?_)
  ·refine a_ret ?_
   refine sA_r ?_
   obtain rfl := Option.some.inj H
   refine eR_r ?_
   exact wk_lnA 1 [(some 0, ⟨61, 11, false, [Machine.o m1 1]⟩), (some 1, ⟨28, 5, false, m1.out.map Msg.c⟩)] [] (L := []) (fun t0 => ⟨RS, fun j B h => by rcases j with _ | _ | _ <;> first | exact h | (exact absurd h (by simp [hh]))⟩) (by intro i h; rcases i with _ | i <;> first | rfl | omega)
  ·refine a_skip ?_
   refine sA_n ?_
   refine a_seq ?_
   obtain ⟨r1, zh1, H⟩ := bind_some H
   have zk1 := slices_Clone_57_rc zh1
   obtain ⟨zh2, H⟩ := chk_some H
   refine a_drW (by kernel_rfl) _ rfl (s := ?zs2) (by kernel_rfl) (by kernel_rfl) ?zs2f ?_ ?_ ?_
   rotate_left 2
   ·try refine goS ?_
    repeat' with_reducible apply And.intro
    all_goals try ((with_reducible show CallW _ _ _ _ _ _ _); refine callW_rcw (r' := .ref 9 0 r1.length 1) [] [(9, some ⟨3, 1, false, r1.map (ci .i64)⟩)] [] [] [(9, 0, ⟨3, 1, false, r1.map (ci .i64)⟩)] rfl (by decide) zk1 (by simp) (by show ([] : List Nat).Nodup; decide) (fun h2 e => trivial) (fun h2 e => (.cons (.lst _ _ _ (ci_pu .i64) rfl) .nil)) (by show ([9] : List Nat).Nodup; decide) (by show ([0] : List Nat).Nodup; decide) ⟨.inr ⟨rfl, by decide⟩, ⟨_, rfl, ⟨rfl, rfl, rfl, rfl⟩, .same _ _ (ci_pu .i64) rfl⟩, trivial⟩ (.refl' rfl rfl) ?_; refine goS ?_)
    all_goals ((repeat' apply And.intro) <;> first|rfl|assumption|omega|(simp;done)|(simp;omega)|(simp_all;done))
   ·kernel_rfl
   refine sA_n ?_
   refine a_seq ?_
   obtain ⟨r2, zh3, H⟩ := bind_some H
   have zk2 := slices_Sort_rc zh3
   obtain ⟨zh4, H⟩ := chk_some H
   refine a_reg _ rfl (s := ?zs3) ?_ ?_
   rotate_left
   ·try refine goS ?_
    repeat' with_reducible apply And.intro
    all_goals try ((with_reducible show CallR _ _ _ _ _ _ _); refine callR_rcw (r' := .tup []) [(13, none), (13, some ⟨3, 1, false, r2.map (ci .i64)⟩)] [(some 13, _)] [] [(13, 0, _)] EQA zk2 (by simp) ND ZZ ZZ ND ND ZZ ZZ ?_; refine goS ?_)
    all_goals ((repeat' apply And.intro) <;> first|rfl|assumption|omega|(simp;done)|(simp;omega)|(simp_all;done))
   refine sA_n ?_
   obtain ⟨r3, zh5, H⟩ := bind_some H
   have zk3 := seat_machine_lead_rc zh5
   refine a_reg _ rfl (s := ?zs4) ?_ ?_
   rotate_left
   ·try refine goS ?_
    repeat' with_reducible apply And.intro
    all_goals try ((with_reducible show CallR _ _ _ _ _ _ _); refine callR_rcw (r' := .bool r3.1) [(13, some ⟨3, 1, true, r2.map (ci .i64)⟩), (0, none), (1, none), (0, some ⟨61, 11, false, [Machine.o r3.2 172]⟩), (172, some ⟨28, 5, false, r3.2.out.map Msg.c⟩)] [(some 0, ⟨61, 11, false, [[.int .i64 (((⟨(⟨m1.seat.id, m1.seat.peers, m1.seat.term, m1.seat.voted, m1.seat.role, m1.seat.log, m1.seat.commit, r2, m1.seat.next, m1.seat.match_⟩ : Seat), m1.out⟩ : Machine).seat).id), .list 1 ((((⟨(⟨m1.seat.id, m1.seat.peers, m1.seat.term, m1.seat.voted, m1.seat.role, m1.seat.log, m1.seat.commit, r2, m1.seat.next, m1.seat.match_⟩ : Seat), m1.out⟩ : Machine).seat).peers).map (ci .i64)), .int .i64 (((⟨(⟨m1.seat.id, m1.seat.peers, m1.seat.term, m1.seat.voted, m1.seat.role, m1.seat.log, m1.seat.commit, r2, m1.seat.next, m1.seat.match_⟩ : Seat), m1.out⟩ : Machine).seat).term), .int .i64 (((⟨(⟨m1.seat.id, m1.seat.peers, m1.seat.term, m1.seat.voted, m1.seat.role, m1.seat.log, m1.seat.commit, r2, m1.seat.next, m1.seat.match_⟩ : Seat), m1.out⟩ : Machine).seat).voted), .int .i64 (((⟨(⟨m1.seat.id, m1.seat.peers, m1.seat.term, m1.seat.voted, m1.seat.role, m1.seat.log, m1.seat.commit, r2, m1.seat.next, m1.seat.match_⟩ : Seat), m1.out⟩ : Machine).seat).role), .list 2 ((((⟨(⟨m1.seat.id, m1.seat.peers, m1.seat.term, m1.seat.voted, m1.seat.role, m1.seat.log, m1.seat.commit, r2, m1.seat.next, m1.seat.match_⟩ : Seat), m1.out⟩ : Machine).seat).log).map Entry.c), .int .i64 (((⟨(⟨m1.seat.id, m1.seat.peers, m1.seat.term, m1.seat.voted, m1.seat.role, m1.seat.log, m1.seat.commit, r2, m1.seat.next, m1.seat.match_⟩ : Seat), m1.out⟩ : Machine).seat).commit), .list 1 ((((⟨(⟨m1.seat.id, m1.seat.peers, m1.seat.term, m1.seat.voted, m1.seat.role, m1.seat.log, m1.seat.commit, r2, m1.seat.next, m1.seat.match_⟩ : Seat), m1.out⟩ : Machine).seat).votes).map (ci .i64)), .list 1 ((((⟨(⟨m1.seat.id, m1.seat.peers, m1.seat.term, m1.seat.voted, m1.seat.role, m1.seat.log, m1.seat.commit, r2, m1.seat.next, m1.seat.match_⟩ : Seat), m1.out⟩ : Machine).seat).next).map (ci .i64)), .list 1 ((((⟨(⟨m1.seat.id, m1.seat.peers, m1.seat.term, m1.seat.voted, m1.seat.role, m1.seat.log, m1.seat.commit, r2, m1.seat.next, m1.seat.match_⟩ : Seat), m1.out⟩ : Machine).seat).match_).map (ci .i64)), .ref 1 0 m1.out.length 5]]⟩), (some 1, ⟨28, 5, false, m1.out.map Msg.c⟩)] [13] [(0, 0, ⟨61, 11, false, [Machine.o r3.2 172]⟩), (172, 1, ⟨28, 5, false, r3.2.out.map Msg.c⟩)] (by first | rfl | (simp only [List.map_set]; rfl)) zk3 (by simp) ND (allB_some (by rfl) rfl (.cons (.cons (.int' rfl) (.cons (.lst _ _ _ (ci_pu .i64) rfl) (.cons (.int' rfl) (.cons (.int' rfl) (.cons (.int' rfl) (.cons (.lst _ _ _ Entry.pu rfl) (.cons (.int' rfl) (.cons (.frz' (by rfl) (by simp) rfl (by first|rfl|omega|(simp;done)|(simp;omega)|(simp_all;done)) (.sm _ _ (ci_pu .i64))) (.cons (.lst _ _ _ (ci_pu .i64) rfl) (.cons (.lst _ _ _ (ci_pu .i64) rfl) (.cons (.refl' (by first|rfl|omega|(simp;done)|(simp;omega)|(simp_all;done)) rfl) .nil))))))))))) .nil) (allB_some (by rfl) rfl (.sm _ _ Msg.pu) trivial)) (.cons (.ptr _ _ _ _ _ rfl) .nil) ND ND ⟨.inl ⟨by decide, rfl⟩, ⟨_, rfl, ⟨rfl, rfl, rfl, rfl⟩, .cons (.cons (.int' rfl) (.cons (.lst _ _ _ (ci_pu .i64) rfl) (.cons (.int' rfl) (.cons (.int' rfl) (.cons (.int' rfl) (.cons (.lst _ _ _ Entry.pu rfl) (.cons (.int' rfl) (.cons (.lst _ _ _ (ci_pu .i64) rfl) (.cons (.lst _ _ _ (ci_pu .i64) rfl) (.cons (.lst _ _ _ (ci_pu .i64) rfl) (.cons (.refl' rfl rfl) .nil))))))))))) .nil⟩, ⟨.inr ⟨rfl, by decide⟩, ⟨_, rfl, ⟨rfl, rfl, rfl, rfl⟩, .same _ _ Msg.pu rfl⟩, trivial⟩⟩ (.bool' rfl) ?_; refine goS ?_)
    all_goals ((repeat' apply And.intro) <;> first|rfl|assumption|omega|(simp;done)|(simp;omega)|(simp_all;done))
   obtain rfl := Option.some.inj H
   refine eR_n ?_
   exact wk_lnA 1 [(some 0, ⟨61, 11, false, [Machine.o r3.2 1]⟩), (some 172, ⟨28, 5, false, r3.2.out.map Msg.c⟩)] [] (L := []) (fun t0 => ⟨RS, fun j B h => by rcases j with _ | _ | _ <;> first | exact h | (exact absurd h (by simp [hh]))⟩) (by intro i h; rcases i with _ | i <;> first | rfl | omega)
end
end Go.Proofs.YtmkpokcfefjifaaDoor
