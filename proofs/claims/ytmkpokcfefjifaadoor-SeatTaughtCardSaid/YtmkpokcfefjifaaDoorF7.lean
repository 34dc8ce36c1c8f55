import Derived.Test.YtmkpokcfefjifaaDoorF6
set_option linter.unusedSectionVars false
/- Functions of the program as Lean functions, and that they are so; printed by a program of mine. -/
set_option linter.unusedSimpArgs false
set_option linter.unusedVariables false
namespace Go.Proofs.YtmkpokcfefjifaaDoor
open Go.Ab
open Nat (reduceAdd reduceMul reduceEqDiff reduceLT reduceLeDiff reduceSub)
noncomputable section

def seat_Late_1_f (i1 : Int) (v1 : Machine) : Option Machine :=
 (idx v1.seat.peers i1).bind fun x1 => (seat_machine_last_f v1).bind fun r1 => (seat_machine_send_f v1 x1 1 [] [v1.seat.term, r1, (v1.seat.log.length : Int)]).bind fun r2 => some (r2)
set_option maxHeartbeats 4000000 in
set_option maxRecDepth 20000 in
theorem seat_Late_1_rc {i1 : Int} {v1 : Machine} {r : Machine} (H : seat_Late_1_f i1 v1 = some r) : RC Tryd.prog 47 [.int .i64 i1, .rop [.ptr 0 0 0 11] 0 1] [⟨61, 11, false, [[.int .i64 v1.seat.id, .list 1 (v1.seat.peers.map (ci .i64)), .int .i64 v1.seat.term, .int .i64 v1.seat.voted, .int .i64 v1.seat.role, .list 2 (v1.seat.log.map Entry.c), .int .i64 v1.seat.commit, .list 1 (v1.seat.votes.map (ci .i64)), .list 1 (v1.seat.next.map (ci .i64)), .list 1 (v1.seat.match_.map (ci .i64)), .ref 1 0 v1.out.length 5]]⟩, ⟨28, 5, false, v1.out.map Msg.c⟩] 1 (.tup []) [some ⟨61, 11, false, [[.int .i64 r.seat.id, .list 1 (r.seat.peers.map (ci .i64)), .int .i64 r.seat.term, .int .i64 r.seat.voted, .int .i64 r.seat.role, .list 2 (r.seat.log.map Entry.c), .int .i64 r.seat.commit, .list 1 (r.seat.votes.map (ci .i64)), .list 1 (r.seat.next.map (ci .i64)), .list 1 (r.seat.match_.map (ci .i64)), .ref 1 0 r.out.length 5]]⟩, some ⟨28, 5, false, r.out.map Msg.c⟩] := by
 refine rcA_of Tryd.func47 (by rfl) (by decide) 27 (by rfl) [] (by rfl) ?_
 unfold seat_Late_1_f at H
 simp only [hent, List.length_cons, List.length_nil, reduceAdd]
 obtain ⟨x1, zh1, H⟩ := bind_some H
 obtain ⟨zg1, zh1a, zh1b⟩ := idx3 (f := (ci .i64)) zh1
 try simp only [Int.reduceToNat, Int.toNat_natCast] at zg1
 obtain ⟨r1, zh2, H⟩ := bind_some H
 have zk1 := seat_machine_last_pc zh2
 obtain ⟨r2, zh3, H⟩ := bind_some H
 have zk2 := seat_machine_send_rc zh3
 refine a_drW (by kernel_rfl) _ rfl (s := ?zs1) (by kernel_rfl) (by kernel_rfl) ?zs1f ?_ ?_ ?_
 rotate_left 2
 ·try refine goS ?_
  repeat' with_reducible apply And.intro
  all_goals try ((with_reducible show CallW _ _ _ _ _ _ _); refine cW_s [0, 1] zk1 (fun h2 e => (.cons (.box ((e 0 (by simp)).trans (by rfl)) (fun e => by cases e) rfl rfl (.cons (.int' rfl) (.cons (.lst _ _ _ (ci_pu .i64) rfl) (.cons (.int' rfl) (.cons (.int' rfl) (.cons (.int' rfl) (.cons (.lst _ _ _ Entry.pu rfl) (.cons (.int' rfl) (.cons (.lst _ _ _ (ci_pu .i64) rfl) (.cons (.lst _ _ _ (ci_pu .i64) rfl) (.cons (.lst _ _ _ (ci_pu .i64) rfl) (.cons (.ownL ((e 1 (by simp)).trans (by rfl)) (fun e => by cases e) rfl (by first|rfl|omega|(simp;done)|(simp;omega)|(simp_all;done)) (.sm _ _ Msg.pu)) .nil)))))))))))) .nil)) (.int _ _) ?_; refine goS ?_)
  repeat' with_reducible apply And.intro
  all_goals try ((with_reducible show CallW _ _ _ _ _ _ _); refine callW_rcw (r' := .tup []) [0, 1, 24] [(24, some ⟨3, 1, true, [v1.seat.term, r1, (v1.seat.log.length : Int)].map (ci .i64)⟩), (0, none), (1, none), (0, some ⟨61, 11, false, [[.int .i64 r2.seat.id, .list 1 (r2.seat.peers.map (ci .i64)), .int .i64 r2.seat.term, .int .i64 r2.seat.voted, .int .i64 r2.seat.role, .list 2 (r2.seat.log.map Entry.c), .int .i64 r2.seat.commit, .list 1 (r2.seat.votes.map (ci .i64)), .list 1 (r2.seat.next.map (ci .i64)), .list 1 (r2.seat.match_.map (ci .i64)), .ref 25 0 r2.out.length 5]]⟩), (25, some ⟨28, 5, false, r2.out.map Msg.c⟩)] [(some 0, ⟨61, 11, false, [[.int .i64 v1.seat.id, .list 1 (v1.seat.peers.map (ci .i64)), .int .i64 v1.seat.term, .int .i64 v1.seat.voted, .int .i64 v1.seat.role, .list 2 (v1.seat.log.map Entry.c), .int .i64 v1.seat.commit, .list 1 (v1.seat.votes.map (ci .i64)), .list 1 (v1.seat.next.map (ci .i64)), .list 1 (v1.seat.match_.map (ci .i64)), .ref 1 0 v1.out.length 5]]⟩), (some 1, ⟨28, 5, false, v1.out.map Msg.c⟩)] [24] [(0, 0, ⟨61, 11, false, [[.int .i64 r2.seat.id, .list 1 (r2.seat.peers.map (ci .i64)), .int .i64 r2.seat.term, .int .i64 r2.seat.voted, .int .i64 r2.seat.role, .list 2 (r2.seat.log.map Entry.c), .int .i64 r2.seat.commit, .list 1 (r2.seat.votes.map (ci .i64)), .list 1 (r2.seat.next.map (ci .i64)), .list 1 (r2.seat.match_.map (ci .i64)), .ref 25 0 r2.out.length 5]]⟩), (25, 1, ⟨28, 5, false, r2.out.map Msg.c⟩)] rfl (by decide) zk2 (by simp) (by show ([0, 1] : List Nat).Nodup; decide) (fun h2 e => (allB_some ((e 0 (by simp)).trans (by rfl)) rfl (.cons (.cons (.int' rfl) (.cons (.lst _ _ _ (ci_pu .i64) rfl) (.cons (.int' rfl) (.cons (.int' rfl) (.cons (.int' rfl) (.cons (.lst _ _ _ Entry.pu rfl) (.cons (.int' rfl) (.cons (.lst _ _ _ (ci_pu .i64) rfl) (.cons (.lst _ _ _ (ci_pu .i64) rfl) (.cons (.lst _ _ _ (ci_pu .i64) rfl) (.cons (.refl' (by first|rfl|omega|(simp;done)|(simp;omega)|(simp_all;done)) rfl) .nil))))))))))) .nil) (allB_some ((e 1 (by simp)).trans (by rfl)) rfl (.sm _ _ Msg.pu) trivial))) (fun h2 e => (.cons (.ptr _ _ _ _ _ rfl) (.cons (.int' rfl) (.cons (.int' rfl) (.cons (.nil _) (.cons (.frz' ((e 24 (by simp)).trans (by rfl)) (by simp) rfl (by first|rfl|omega|(simp;done)|(simp;omega)|(simp_all;done)) (.sm _ _ (ci_pu .i64))) .nil)))))) (by show ([0, 25] : List Nat).Nodup; decide) (by show ([0, 1] : List Nat).Nodup; decide) ⟨.inl ⟨by decide, rfl⟩, ⟨_, rfl, ⟨rfl, rfl, rfl, rfl⟩, .cons (.cons (.int' rfl) (.cons (.lst _ _ _ (ci_pu .i64) rfl) (.cons (.int' rfl) (.cons (.int' rfl) (.cons (.int' rfl) (.cons (.lst _ _ _ Entry.pu rfl) (.cons (.int' rfl) (.cons (.lst _ _ _ (ci_pu .i64) rfl) (.cons (.lst _ _ _ (ci_pu .i64) rfl) (.cons (.lst _ _ _ (ci_pu .i64) rfl) (.cons (.refl' rfl rfl) .nil))))))))))) .nil⟩, ⟨.inr ⟨rfl, by decide⟩, ⟨_, rfl, ⟨rfl, rfl, rfl, rfl⟩, .same _ _ Msg.pu rfl⟩, trivial⟩⟩ (.tup' .nil) ?_; refine goS ?_)
  all_goals ((repeat' apply And.intro) <;> first|rfl|assumption|omega|(simp;done)|(simp;omega)|(simp_all;done))
 ·kernel_rfl
 obtain rfl := Option.some.inj H
 refine eR_n ?_
 exact wk_lnA 1 [(some 0, ⟨61, 11, false, [Machine.o r2 1]⟩), (some 25, ⟨28, 5, false, r2.out.map Msg.c⟩)] [] (L := []) (fun t0 => ⟨RS, fun j B h => by rcases j with _ | _ | _ <;> first | exact h | (exact absurd h (by simp [hh]))⟩) (by intro i h; rcases i with _ | i <;> first | rfl | omega)
def seat_machine_all_late_J1 (k_seat_machine_all_late_L1 : Int → (List Int) → Int → Int → Int → (List Entry) → Int → (List Int) → (List Int) → (List Int) → (List Msg) → Int → Option Machine) (v1 : Int) (id2 : Int) (peers2 : List Int) (term2 : Int) (voted2 : Int) (role2 : Int) (log2 : List Entry) (commit2 : Int) (votes2 : List Int) (next2 : List Int) (match2 : List Int) (out2 : List Msg) : Option Machine :=
 k_seat_machine_all_late_L1 id2 peers2 term2 voted2 role2 log2 commit2 votes2 next2 match2 out2 (IntKind.wrap .i64 (v1 + 1))
def seat_machine_all_late_L1 (m1 : Machine) : Nat → Int → (List Int) → Int → Int → Int → (List Entry) → Int → (List Int) → (List Int) → (List Int) → (List Msg) → Int → Option Machine
 | 0, _, _, _, _, _, _, _, _, _, _, _, _ => none
 | m_ + 1, id1, peers1, term1, voted1, role1, log1, commit1, votes1, next1, match1, out1, v1 => cond (decide (v1 < (m1.seat.peers.length : Int))) ((idx m1.seat.peers v1).bind fun x1 => cond (x1 != id1) ((seat_Late_1_f v1 (⟨(⟨id1, peers1, term1, voted1, role1, log1, commit1, votes1, next1, match1⟩ : Seat), out1⟩ : Machine)).bind fun r1 => seat_machine_all_late_J1 (seat_machine_all_late_L1 m1 m_) v1 r1.seat.id r1.seat.peers r1.seat.term r1.seat.voted r1.seat.role r1.seat.log r1.seat.commit r1.seat.votes r1.seat.next r1.seat.match_ r1.out) (seat_machine_all_late_J1 (seat_machine_all_late_L1 m1 m_) v1 id1 peers1 term1 voted1 role1 log1 commit1 votes1 next1 match1 out1)) (some ((⟨(⟨id1, peers1, term1, voted1, role1, log1, commit1, votes1, next1, match1⟩ : Seat), out1⟩ : Machine)))
def seat_machine_all_late_f (m1 : Machine) (do1 : Int → Option Unit) : Option Machine :=
 seat_machine_all_late_L1 m1 BIG m1.seat.id m1.seat.peers m1.seat.term m1.seat.voted m1.seat.role m1.seat.log m1.seat.commit m1.seat.votes m1.seat.next m1.seat.match_ m1.out 0
set_option maxHeartbeats 4000000 in
set_option maxRecDepth 20000 in
theorem seat_machine_all_late_rc {m1 : Machine} {do1 : Int → Option Unit} {r : Machine} (H : seat_machine_all_late_f m1 do1 = some r) : RC Tryd.prog 46 [.ptr 0 0 0 11, .fn (.func 47) [] [.rop [.ptr 0 0 0 11] 0 1]] [⟨61, 11, false, [Machine.o m1 1]⟩, ⟨28, 5, false, m1.out.map Msg.c⟩] 1 (.tup []) [some ⟨61, 11, false, [Machine.o r 1]⟩, some ⟨28, 5, false, r.out.map Msg.c⟩] := by
 refine rcA_of Tryd.func46 (by rfl) (by decide) 28 (by rfl) [] (by rfl) ?_
 unfold seat_machine_all_late_f at H
 simp only [hent, List.length_cons, List.length_nil, reduceAdd]
 refine a_seq ?_
 refine a_regC _ rfl ?_
 refine sA_n ?_
 refine a_blk ?_
 refine a_loop (fun m s => ∃ (id1 : Int) (peers1 : List Int) (term1 : Int) (voted1 : Int) (role1 : Int) (log1 : List Entry) (commit1 : Int) (votes1 : List Int) (next1 : List Int) (match1 : List Int) (out1 : List Msg) (v1 : Int) (t0 : Nat → Dat), seat_machine_all_late_L1 m1 m id1 peers1 term1 voted1 role1 log1 commit1 votes1 next1 match1 out1 v1 = some r ∧ s = ⟨tl t0 [(0, .ptr 0 0 0 11), (1, .fn (.func 47) [] [.rop [.ptr 0 0 0 11] 0 1]), (10, .list 1 (m1.seat.peers.map (ci .i64))), (11, .int .i64 (m1.seat.peers.length : Int)), (12, .int .i64 v1)], hl [⟨61, 11, false, [[.int .i64 id1, .list 1 (peers1.map (ci .i64)), .int .i64 term1, .int .i64 voted1, .int .i64 role1, .list 2 (log1.map Entry.c), .int .i64 commit1, .list 1 (votes1.map (ci .i64)), .list 1 (next1.map (ci .i64)), .list 1 (match1.map (ci .i64)), .ref 1 0 out1.length 5]]⟩, ⟨28, 5, false, out1.map Msg.c⟩], 2, 28⟩) BIG ?_ ?_
 ·exact wk_lnA 1 [(some 0, _), (some 1, _)] [] (fun t0 => ⟨m1.seat.id, m1.seat.peers, m1.seat.term, m1.seat.voted, m1.seat.role, m1.seat.log, m1.seat.commit, m1.seat.votes, m1.seat.next, m1.seat.match_, m1.out, 0, t0, H, rfl⟩)
 ·rintro m_seat_machine_all_late_L1 s ⟨id1, peers1, term1, voted1, role1, log1, commit1, votes1, next1, match1, out1, v1, t0, H, rfl⟩
  obtain _ | m_seat_machine_all_late_L1 := m_seat_machine_all_late_L1
  ·cases (show (none : Option _) = some _ from H)
  ·rw [seat_machine_all_late_L1] at H
   refine a_seq ?_
   refine a_regC _ rfl ?_
   refine sA_n ?_
   refine a_seq ?_
   refine a_cnd H (fun zc1 H => ?_) (fun zc1 H => ?_)
   ·refine a_skip ?_
    refine sA_n ?_
    refine a_cut (fun s => ∃ (id2 : Int) (peers2 : List Int) (term2 : Int) (voted2 : Int) (role2 : Int) (log2 : List Entry) (commit2 : Int) (votes2 : List Int) (next2 : List Int) (match2 : List Int) (out2 : List Msg) (t0 : Nat → Dat), seat_machine_all_late_J1 (seat_machine_all_late_L1 m1 m_seat_machine_all_late_L1) v1 id2 peers2 term2 voted2 role2 log2 commit2 votes2 next2 match2 out2 = some r ∧ s = ⟨tl t0 [(0, .ptr 0 0 0 11), (1, .fn (.func 47) [] [.rop [.ptr 0 0 0 11] 0 1]), (10, .list 1 (m1.seat.peers.map (ci .i64))), (11, .int .i64 (m1.seat.peers.length : Int)), (12, .int .i64 v1)], hl [⟨61, 11, false, [[.int .i64 id2, .list 1 (peers2.map (ci .i64)), .int .i64 term2, .int .i64 voted2, .int .i64 role2, .list 2 (log2.map Entry.c), .int .i64 commit2, .list 1 (votes2.map (ci .i64)), .list 1 (next2.map (ci .i64)), .list 1 (match2.map (ci .i64)), .ref 1 0 out2.length 5]]⟩, ⟨28, 5, false, out2.map Msg.c⟩], 2, 28⟩) ?_ ?_
    ·refine a_blk ?_
     refine a_seq ?_
     obtain ⟨x1, zh1, H⟩ := bind_some H
     obtain ⟨zg1, zh1a, zh1b⟩ := idx3 (f := (ci .i64)) zh1
     try simp only [Int.reduceToNat, Int.toNat_natCast] at zg1
     refine a_regC _ rfl ?_
     refine sA_n ?_
     refine a_seq ?_
     refine a_regC _ rfl ?_
     refine sA_n ?_
     refine a_cnd H (fun zc2 H => ?_) (fun zc2 H => ?_)
     ·obtain ⟨r1, zh2, H⟩ := bind_some H
      have zk1 := seat_Late_1_rc zh2
      refine a_reg _ rfl (s := ?zs6) ?_ ?_
      rotate_left
      ·try refine goS ?_
       repeat' with_reducible apply And.intro
       all_goals try ((with_reducible show CallR _ _ _ _ _ _ _); refine callR_rcw (r' := .tup []) [(0, none), (1, none), (0, some ⟨61, 11, false, [Machine.o r1 108]⟩), (108, some ⟨28, 5, false, r1.out.map Msg.c⟩)] [(some 0, _), (some 1, _)] [] [(0, 0, _), (108, 1, _)] EQA zk1 (by simp) ND ZZ ZZ ND ND ZZ ZZ ?_; refine goS ?_)
       all_goals ((repeat' apply And.intro) <;> first|rfl|assumption|omega|(simp;done)|(simp;omega)|(simp_all;done))
      refine bA_n ?_
      refine cA_n ?_
      exact wk_lnA 1 [(some 0, _), (some 108, _)] [] (fun t0 => ⟨r1.seat.id, r1.seat.peers, r1.seat.term, r1.seat.voted, r1.seat.role, r1.seat.log, r1.seat.commit, r1.seat.votes, r1.seat.next, r1.seat.match_, r1.out, t0, H, rfl⟩)
     ·refine a_skip ?_
      refine bA_n ?_
      refine cA_n ?_
      exact wk_lnA 1 [(some 0, _), (some 1, _)] [] (fun t0 => ⟨id1, peers1, term1, voted1, role1, log1, commit1, votes1, next1, match1, out1, t0, H, rfl⟩)
    ·rintro s ⟨id2, peers2, term2, voted2, role2, log2, commit2, votes2, next2, match2, out2, t0, H, rfl⟩
     unfold seat_machine_all_late_J1 at H
     refine a_regC _ rfl ?_
     refine lA_n ?_
     exact wk_lnA 1 [(some 0, _), (some 1, _)] [] (fun t0 => ⟨_, Nat.lt_succ_self _, id2, peers2, term2, voted2, role2, log2, commit2, votes2, next2, match2, out2, (IntKind.wrap .i64 (v1 + 1)), t0, H, rfl⟩)
   ·refine a_exit ?_
    refine sA_e ?_
    refine lA_e ?_
    refine bA_hit ?_
    obtain rfl := Option.some.inj H
    refine eR_n ?_
    exact wk_lnA 1 [(some 0, ⟨61, 11, false, [[.int .i64 (((⟨(⟨id1, peers1, term1, voted1, role1, log1, commit1, votes1, next1, match1⟩ : Seat), out1⟩ : Machine).seat).id), .list 1 ((((⟨(⟨id1, peers1, term1, voted1, role1, log1, commit1, votes1, next1, match1⟩ : Seat), out1⟩ : Machine).seat).peers).map (ci .i64)), .int .i64 (((⟨(⟨id1, peers1, term1, voted1, role1, log1, commit1, votes1, next1, match1⟩ : Seat), out1⟩ : Machine).seat).term), .int .i64 (((⟨(⟨id1, peers1, term1, voted1, role1, log1, commit1, votes1, next1, match1⟩ : Seat), out1⟩ : Machine).seat).voted), .int .i64 (((⟨(⟨id1, peers1, term1, voted1, role1, log1, commit1, votes1, next1, match1⟩ : Seat), out1⟩ : Machine).seat).role), .list 2 ((((⟨(⟨id1, peers1, term1, voted1, role1, log1, commit1, votes1, next1, match1⟩ : Seat), out1⟩ : Machine).seat).log).map Entry.c), .int .i64 (((⟨(⟨id1, peers1, term1, voted1, role1, log1, commit1, votes1, next1, match1⟩ : Seat), out1⟩ : Machine).seat).commit), .list 1 ((((⟨(⟨id1, peers1, term1, voted1, role1, log1, commit1, votes1, next1, match1⟩ : Seat), out1⟩ : Machine).seat).votes).map (ci .i64)), .list 1 ((((⟨(⟨id1, peers1, term1, voted1, role1, log1, commit1, votes1, next1, match1⟩ : Seat), out1⟩ : Machine).seat).next).map (ci .i64)), .list 1 ((((⟨(⟨id1, peers1, term1, voted1, role1, log1, commit1, votes1, next1, match1⟩ : Seat), out1⟩ : Machine).seat).match_).map (ci .i64)), .ref 1 0 ((⟨(⟨id1, peers1, term1, voted1, role1, log1, commit1, votes1, next1, match1⟩ : Seat), out1⟩ : Machine).out.length) 5]]⟩), (some 1, ⟨28, 5, false, (⟨(⟨id1, peers1, term1, voted1, role1, log1, commit1, votes1, next1, match1⟩ : Seat), out1⟩ : Machine).out.map Msg.c⟩)] [] (L := []) (fun t0 => ⟨RS, fun j B h => by rcases j with _ | _ | _ <;> first | exact h | (exact absurd h (by simp [hh]))⟩) (by intro i h; rcases i with _ | i <;> first | rfl | omega)
end
end Go.Proofs.YtmkpokcfefjifaaDoor
