import Derived.Test.YtmkpokcfefjifaaDoorF2
set_option linter.unusedSectionVars false
/- Functions of the program as Lean functions, and that they are so; printed by a program of mine. -/
set_option linter.unusedSimpArgs false
set_option linter.unusedVariables false
namespace Go.Proofs.YtmkpokcfefjifaaDoor
open Go.Ab
open Nat (reduceAdd reduceMul reduceEqDiff reduceLT reduceLeDiff reduceSub)
noncomputable section

def seat_machine_own_f (m1 : Machine) : Option Int :=
 (slices_Index_f m1.seat.peers m1.seat.id).bind fun r1 => some (r1)
set_option maxHeartbeats 4000000 in
set_option maxRecDepth 20000 in
theorem seat_machine_own_pc {m1 : Machine} {r : Int} (H : seat_machine_own_f m1 = some r) : PC Tryd.prog 58 [.rop (Machine.c m1) 0 11] (.int .i64 r) := by
 refine pcA_of Tryd.func58 (by rfl) (by decide) 14 (by rfl) [.tmp 2] (by rfl) ?_
 unfold seat_machine_own_f at H
 simp only [ent]
 refine a_seq ?_
 refine a_regC _ rfl ?_
 refine sA_n ?_
 refine a_seq ?_
 obtain ⟨r1, zh1, H⟩ := bind_some H
 have zk1 := slices_Index_pc zh1
 refine a_drW (by kernel_rfl) _ rfl (s := ?zs2) (by kernel_rfl) (by kernel_rfl) ?zs2f ?_ ?_ ?_
 rotate_left 2
 ·try refine goS ?_
  repeat' with_reducible apply And.intro
  all_goals try ((with_reducible show CallW _ _ _ _ _ _ _); refine cW_s [] zk1 (fun h2 e => (.cons (.lst _ _ _ (ci_pu .i64) rfl) (.cons (.int' rfl) .nil))) (.int _ _) ?_; refine goS ?_)
  all_goals ((repeat' apply And.intro) <;> first|rfl|assumption|omega|(simp;done)|(simp;omega)|(simp_all;done))
 ·kernel_rfl
 refine sA_n ?_
 exact a_ret RT
def seat_machine_last_f (m1 : Machine) : Option Int :=
 cond (decide (0 < (m1.seat.log.length : Int))) ((idx m1.seat.log (IntKind.wrap .i64 ((m1.seat.log.length : Int) - 1))).bind fun x1 => some (x1.term)) (some (0))
set_option maxHeartbeats 4000000 in
set_option maxRecDepth 20000 in
theorem seat_machine_last_pc {m1 : Machine} {r : Int} (H : seat_machine_last_f m1 = some r) : PC Tryd.prog 49 [.rop (Machine.c m1) 0 11] (.int .i64 r) := by
 refine pcA_of Tryd.func49 (by rfl) (by decide) 22 (by rfl) [.tmp 2] (by rfl) ?_
 unfold seat_machine_last_f at H
 simp only [ent]
 refine a_seq ?_
 refine a_regC _ rfl ?_
 refine sA_n ?_
 refine a_seq ?_
 refine a_seq ?_
 refine a_regC _ rfl ?_
 refine sA_n ?_
 refine a_seq ?_
 refine a_regC _ rfl ?_
 refine sA_n ?_
 refine a_cnd H (fun zc1 H => ?_) (fun zc1 H => ?_)
 ·refine a_seq ?_
  obtain ⟨x1, zh1, H⟩ := bind_some H
  obtain ⟨zg1, zh1a, zh1b⟩ := idx3 (f := Entry.c) zh1
  try simp only [Int.reduceToNat, Int.toNat_natCast] at zg1
  refine a_regC _ rfl ?_
  refine sA_n ?_
  exact a_ret (sA_r RT)
 ·refine a_skip ?_
  refine sA_n ?_
  refine a_seq ?_
  refine a_regC _ rfl ?_
  refine sA_n ?_
  refine a_ret ?_
  obtain rfl := Option.some.inj H
  refine e_r2 (d := ?zd2) ?_ ?_
  rotate_left
  ·simp only [EVT, resR, single, evLoad, cut, TIS, CS, reduceAdd, reduceEqDiff, ↓reduceIte, reduceCtorEq, reduceLT, reduceLeDiff, reduceSub, Nat.reduceBEq, zc1]
   (repeat' apply And.intro) <;> first | rfl | assumption | omega | (simp; done)
  exact ZZ
def seat_machine_send_f (m1 : Machine) (to1 : Int) (kind1 : Int) (data1 : List Int) (nums1 : List Int) : Option Machine :=
 chk ((m1.out.length + 1) * 72 ≤ 140737488355328) (some ((⟨m1.seat, (m1.out ++ [(⟨m1.seat.id, to1, kind1, nums1, data1⟩ : Msg)])⟩ : Machine)))
set_option maxHeartbeats 4000000 in
set_option maxRecDepth 20000 in
theorem seat_machine_send_rc {m1 : Machine} {to1 : Int} {kind1 : Int} {data1 : List Int} {nums1 : List Int} {r : Machine} (H : seat_machine_send_f m1 to1 kind1 data1 nums1 = some r) : RC Tryd.prog 48 [.ptr 0 0 0 11, .int .i64 to1, .int .i64 kind1, .list 1 (data1.map (ci .u8)), .list 1 (nums1.map (ci .i64))] [⟨61, 11, false, [[.int .i64 m1.seat.id, .list 1 (m1.seat.peers.map (ci .i64)), .int .i64 m1.seat.term, .int .i64 m1.seat.voted, .int .i64 m1.seat.role, .list 2 (m1.seat.log.map Entry.c), .int .i64 m1.seat.commit, .list 1 (m1.seat.votes.map (ci .i64)), .list 1 (m1.seat.next.map (ci .i64)), .list 1 (m1.seat.match_.map (ci .i64)), .ref 1 0 m1.out.length 5]]⟩, ⟨28, 5, false, m1.out.map Msg.c⟩] 1 (.tup []) [some ⟨61, 11, false, [[.int .i64 r.seat.id, .list 1 (r.seat.peers.map (ci .i64)), .int .i64 r.seat.term, .int .i64 r.seat.voted, .int .i64 r.seat.role, .list 2 (r.seat.log.map Entry.c), .int .i64 r.seat.commit, .list 1 (r.seat.votes.map (ci .i64)), .list 1 (r.seat.next.map (ci .i64)), .list 1 (r.seat.match_.map (ci .i64)), .ref 1 0 r.out.length 5]]⟩, some ⟨28, 5, false, r.out.map Msg.c⟩] := by
 refine rcA_of Tryd.func48 (by rfl) (by decide) 29 (by rfl) [] (by rfl) ?_
 unfold seat_machine_send_f at H
 simp only [hent, List.length_cons, List.length_nil, reduceAdd]
 obtain ⟨zh1, H⟩ := chk_some H
 refine a_drW (by kernel_rfl) _ rfl (s := ?zs1) (by kernel_rfl) (by kernel_rfl) ?zs1f ?_ ?_ ?_
 rotate_left 2
 ·refine goS ?_
  (repeat' apply And.intro) <;> first|rfl|assumption|omega|(simp;done)|(simp;omega)|(simp_all;done)
 ·kernel_rfl
 obtain rfl := Option.some.inj H
 refine eR_n ?_
 exact wk_lnA 1 [(some 0, ⟨61, 11, false, [[.int .i64 (((⟨m1.seat, (m1.out ++ [(⟨m1.seat.id, to1, kind1, nums1, data1⟩ : Msg)])⟩ : Machine).seat).id), .list 1 ((((⟨m1.seat, (m1.out ++ [(⟨m1.seat.id, to1, kind1, nums1, data1⟩ : Msg)])⟩ : Machine).seat).peers).map (ci .i64)), .int .i64 (((⟨m1.seat, (m1.out ++ [(⟨m1.seat.id, to1, kind1, nums1, data1⟩ : Msg)])⟩ : Machine).seat).term), .int .i64 (((⟨m1.seat, (m1.out ++ [(⟨m1.seat.id, to1, kind1, nums1, data1⟩ : Msg)])⟩ : Machine).seat).voted), .int .i64 (((⟨m1.seat, (m1.out ++ [(⟨m1.seat.id, to1, kind1, nums1, data1⟩ : Msg)])⟩ : Machine).seat).role), .list 2 ((((⟨m1.seat, (m1.out ++ [(⟨m1.seat.id, to1, kind1, nums1, data1⟩ : Msg)])⟩ : Machine).seat).log).map Entry.c), .int .i64 (((⟨m1.seat, (m1.out ++ [(⟨m1.seat.id, to1, kind1, nums1, data1⟩ : Msg)])⟩ : Machine).seat).commit), .list 1 ((((⟨m1.seat, (m1.out ++ [(⟨m1.seat.id, to1, kind1, nums1, data1⟩ : Msg)])⟩ : Machine).seat).votes).map (ci .i64)), .list 1 ((((⟨m1.seat, (m1.out ++ [(⟨m1.seat.id, to1, kind1, nums1, data1⟩ : Msg)])⟩ : Machine).seat).next).map (ci .i64)), .list 1 ((((⟨m1.seat, (m1.out ++ [(⟨m1.seat.id, to1, kind1, nums1, data1⟩ : Msg)])⟩ : Machine).seat).match_).map (ci .i64)), .ref 1 0 ((⟨m1.seat, (m1.out ++ [(⟨m1.seat.id, to1, kind1, nums1, data1⟩ : Msg)])⟩ : Machine).out.length) 5]]⟩), (some 18, ⟨28, 5, false, (⟨m1.seat, (m1.out ++ [(⟨m1.seat.id, to1, kind1, nums1, data1⟩ : Msg)])⟩ : Machine).out.map Msg.c⟩)] [] (L := []) (fun t0 => ⟨RS, fun j B h => by rcases j with _ | _ | _ <;> first | exact h | (exact absurd h (by simp [hh]))⟩) (by intro i h; rcases i with _ | i <;> first | rfl | omega)
def seat_machine_put_J2 (m1 : Machine) (i1 : Int) (nums2 : List Int) (data1 : List Int) : Option Machine :=
 (idx m1.seat.peers i1).bind fun x2 => (seat_machine_send_f m1 x2 3 data1 nums2).bind fun r1 => some (r1)
def seat_machine_put_L1 (m1 : Machine) (i1 : Int) : Nat → (List Int) → (List Int) → (List Entry) → Int → Int → Option Machine
 | 0, _, _, _, _, _ => none
 | m_ + 1, nums3, data2, v1, v2, v3 => cond (decide (v3 < v2)) ((idx v1 v3).bind fun x3 => chk ((nums3.length + 2) * 8 ≤ 140737488355328) (chk ((data2.length + x3.data.length) * 1 ≤ 140737488355328) (seat_machine_put_L1 m1 i1 m_ (nums3 ++ [x3.term, (x3.data.length : Int)]) (data2 ++ x3.data) v1 v2 (IntKind.wrap .i64 (v3 + 1))))) (seat_machine_put_J2 m1 i1 nums3 data2)
def seat_machine_put_J1 (m1 : Machine) (i1 : Int) (at1 : Int) (nums1 : List Int) : Option Machine :=
 chk (0 ≤ at1 ∧ at1 ≤ (if (m1.seat.log.length : Int) < (IntKind.wrap .i64 (at1 + 8)) then (m1.seat.log.length : Int) else (IntKind.wrap .i64 (at1 + 8))) ∧ (if (m1.seat.log.length : Int) < (IntKind.wrap .i64 (at1 + 8)) then (m1.seat.log.length : Int) else (IntKind.wrap .i64 (at1 + 8))) ≤ (m1.seat.log.length : Int)) (seat_machine_put_L1 m1 i1 BIG nums1 [] ((m1.seat.log.take (if (m1.seat.log.length : Int) < (IntKind.wrap .i64 (at1 + 8)) then (m1.seat.log.length : Int) else (IntKind.wrap .i64 (at1 + 8))).toNat).drop at1.toNat) (((m1.seat.log.take (if (m1.seat.log.length : Int) < (IntKind.wrap .i64 (at1 + 8)) then (m1.seat.log.length : Int) else (IntKind.wrap .i64 (at1 + 8))).toNat).drop at1.toNat).length : Int) 0)
def seat_machine_put_f (m1 : Machine) (i1 : Int) : Option Machine :=
 (idx m1.seat.next i1).bind fun x1 => cond (decide (0 < (IntKind.wrap .i64 (x1 - 1)))) ((idx m1.seat.log (IntKind.wrap .i64 ((IntKind.wrap .i64 (x1 - 1)) - 1))).bind fun x4 => (idx [m1.seat.term, (IntKind.wrap .i64 (x1 - 1)), 0, m1.seat.commit] 2).bind fun x5 => seat_machine_put_J1 m1 i1 (IntKind.wrap .i64 (x1 - 1)) ([m1.seat.term, (IntKind.wrap .i64 (x1 - 1)), 0, m1.seat.commit].set 2 x4.term)) (seat_machine_put_J1 m1 i1 (IntKind.wrap .i64 (x1 - 1)) [m1.seat.term, (IntKind.wrap .i64 (x1 - 1)), 0, m1.seat.commit])
set_option maxHeartbeats 4000000 in
set_option maxRecDepth 20000 in
theorem seat_machine_put_rc {m1 : Machine} {i1 : Int} {r : Machine} (H : seat_machine_put_f m1 i1 = some r) : RC Tryd.prog 54 [.ptr 0 0 0 11, .int .i64 i1] [⟨61, 11, false, [Machine.o m1 1]⟩, ⟨28, 5, false, m1.out.map Msg.c⟩] 1 (.tup []) [some ⟨61, 11, false, [Machine.o r 1]⟩, some ⟨28, 5, false, r.out.map Msg.c⟩] := by
 refine rcA_of Tryd.func54 (by rfl) (by decide) 90 (by rfl) [] (by rfl) ?_
 unfold seat_machine_put_f at H
 simp only [hent, List.length_cons, List.length_nil, reduceAdd]
 refine a_seq ?_
 obtain ⟨x1, zh1, H⟩ := bind_some H
 obtain ⟨zg1, zh1a, zh1b⟩ := idx3 (f := (ci .i64)) zh1
 try simp only [Int.reduceToNat, Int.toNat_natCast] at zg1
 refine a_regC _ rfl ?_
 refine sA_n ?_
 refine a_seq ?_
 refine a_drW (by kernel_rfl) _ rfl (s := ?zs2) (by kernel_rfl) (by kernel_rfl) ?zs2f ?_ ?_ ?_
 rotate_left 2
 ·refine goS ?_
  (repeat' apply And.intro) <;> first|rfl|assumption|omega|(simp;done)|(simp;omega)|(simp_all;done)
 ·kernel_rfl
 refine sA_n ?_
 refine a_cut (fun s => ∃ (at1 : Int) (nums1 : List Int) (t0 : Nat → Dat), seat_machine_put_J1 m1 i1 at1 nums1 = some r ∧ s = ⟨tl t0 [(0, .ptr 0 0 0 11), (1, .int .i64 i1), (4, .int .i64 at1), (5, .ref 2 0 nums1.length 1)], hl [⟨61, 11, false, [Machine.o m1 1]⟩, ⟨28, 5, false, m1.out.map Msg.c⟩, ⟨3, 1, false, nums1.map (ci .i64)⟩], 3, 90⟩) ?_ ?_
 ·refine a_seq ?_
  refine a_regC _ rfl ?_
  refine sA_n ?_
  refine a_cnd H (fun zc2 H => ?_) (fun zc2 H => ?_)
  ·obtain ⟨x4, zh8, H⟩ := bind_some H
   obtain ⟨zg4, zh8a, zh8b⟩ := idx3 (f := Entry.c) zh8
   try simp only [Int.reduceToNat, Int.toNat_natCast] at zg4
   obtain ⟨x5, zh9, H⟩ := bind_some H
   obtain ⟨zg5, zh9a, zh9b⟩ := idx3 (f := (ci .i64)) zh9
   try simp only [Int.reduceToNat, Int.toNat_natCast] at zg5
   refine a_regC _ rfl ?_
   refine cA_n ?_
   exact wk_lnA 1 [(some 0, _), (some 1, _), (some 93, _)] [] (fun t0 => ⟨(IntKind.wrap .i64 (x1 - 1)), ([m1.seat.term, (IntKind.wrap .i64 (x1 - 1)), 0, m1.seat.commit].set 2 x4.term), t0, H, rfl⟩)
  ·refine a_skip ?_
   refine cA_n ?_
   exact wk_lnA 1 [(some 0, _), (some 1, _), (some 93, _)] [] (fun t0 => ⟨(IntKind.wrap .i64 (x1 - 1)), [m1.seat.term, (IntKind.wrap .i64 (x1 - 1)), 0, m1.seat.commit], t0, H, rfl⟩)
 ·rintro s ⟨at1, nums1, t0, H, rfl⟩
  unfold seat_machine_put_J1 at H
  refine a_seq ?_
  refine a_regC _ rfl ?_
  refine sA_n ?_
  refine a_cut (fun s => ∃ (nums2 : List Int) (data1 : List Int) (t0 : Nat → Dat), seat_machine_put_J2 m1 i1 nums2 data1 = some r ∧ s = ⟨tl t0 [(0, .ptr 0 0 0 11), (1, .int .i64 i1), (5, .ref 2 0 nums2.length 1), (6, .ref 3 0 data1.length 1)], hl [⟨61, 11, false, [Machine.o m1 1]⟩, ⟨28, 5, false, m1.out.map Msg.c⟩, ⟨3, 1, false, nums2.map (ci .i64)⟩, ⟨5, 1, false, data1.map (ci .u8)⟩], 4, 90⟩) ?_ ?_
  ·refine a_seq ?_
   obtain ⟨zh4, H⟩ := chk_some H
   refine a_drW (by kernel_rfl) _ rfl (s := ?zs5) (by kernel_rfl) (by kernel_rfl) ?zs5f ?_ ?_ ?_
   rotate_left 2
   ·simp only [EVT, stepW, evOp, St.ev, St.app, St.put, wrs, evFieldAddr, evLoad, cut, datOf, datOf1, evBin, binInt, evBuiltin, minMax, mmStep, evSlice, sliceOk, sl_if0, sl_if1, sl_if2, sl_if3, tk_map, dp_map, TIS, CS, reduceAdd, reduceMul, reduceEqDiff, ↓reduceIte, reduceCtorEq, reduceLT, reduceLeDiff, Int.reduceToNat, reduceSub, Nat.reduceBEq]
    (repeat' apply And.intro) <;> first | rfl | assumption | omega | (left; omega) | (simp; done) | (simp; omega) | (right; exact ⟨_, rfl, rfl, rfl, by decide, by first | omega | (simp; omega)⟩) | (simp_all; done)
   ·kernel_rfl
   refine sA_n ?_
   refine a_blk ?_
   refine a_loop (fun m s => ∃ (nums3 : List Int) (data2 : List Int) (v1 : List Entry) (v2 : Int) (v3 : Int) (t0 : Nat → Dat), seat_machine_put_L1 m1 i1 m nums3 data2 v1 v2 v3 = some r ∧ s = ⟨tl t0 [(0, .ptr 0 0 0 11), (1, .int .i64 i1), (5, .ref 2 0 nums3.length 1), (6, .ref 3 0 data2.length 1), (59, .list 2 (v1.map Entry.c)), (60, .int .i64 v2), (61, .int .i64 v3)], hl [⟨61, 11, false, [[.int .i64 m1.seat.id, .list 1 (m1.seat.peers.map (ci .i64)), .int .i64 m1.seat.term, .int .i64 m1.seat.voted, .int .i64 m1.seat.role, .list 2 (m1.seat.log.map Entry.c), .int .i64 m1.seat.commit, .list 1 (m1.seat.votes.map (ci .i64)), .list 1 (m1.seat.next.map (ci .i64)), .list 1 (m1.seat.match_.map (ci .i64)), .ref 1 0 m1.out.length 5]]⟩, ⟨28, 5, false, m1.out.map Msg.c⟩, ⟨3, 1, false, nums3.map (ci .i64)⟩, ⟨5, 1, false, data2.map (ci .u8)⟩], 4, 90⟩) BIG ?_ ?_
   ·refine wk_ln 1 [(some 0, ⟨61, 11, false, [[.int .i64 m1.seat.id, .list 1 (m1.seat.peers.map (ci .i64)), .int .i64 m1.seat.term, .int .i64 m1.seat.voted, .int .i64 m1.seat.role, .list 2 (m1.seat.log.map Entry.c), .int .i64 m1.seat.commit, .list 1 (m1.seat.votes.map (ci .i64)), .list 1 (m1.seat.next.map (ci .i64)), .list 1 (m1.seat.match_.map (ci .i64)), .ref 1 0 m1.out.length 5]]⟩), (some 1, ⟨28, 5, false, m1.out.map Msg.c⟩), (some 2, ⟨3, 1, false, nums1.map (ci .i64)⟩), (none, ⟨5, 1, false, [].map (ci .u8)⟩)] [] [(0, .ptr 0 0 0 11), (1, .int .i64 i1), (5, .ref 2 0 nums1.length 1), (6, .ref 3 0 [].length 1), (59, .list 2 (((m1.seat.log.take (if (m1.seat.log.length : Int) < (IntKind.wrap .i64 (at1 + 8)) then (m1.seat.log.length : Int) else (IntKind.wrap .i64 (at1 + 8))).toNat).drop at1.toNat).map Entry.c)), (60, .int .i64 (((m1.seat.log.take (if (m1.seat.log.length : Int) < (IntKind.wrap .i64 (at1 + 8)) then (m1.seat.log.length : Int) else (IntKind.wrap .i64 (at1 + 8))).toNat).drop at1.toNat).length : Int)), (61, .int .i64 0)] (by intro i h; rcases i with _ | i <;> first | rfl | omega) (by show ([0, 1, 5, 6, 59, 60, 61] : List Nat).Nodup; decide) (by show ([0, 1, 2] : List Nat).Nodup; decide) ?_ ?_ (fun t0 => ⟨nums1, [], ((m1.seat.log.take (if (m1.seat.log.length : Int) < (IntKind.wrap .i64 (at1 + 8)) then (m1.seat.log.length : Int) else (IntKind.wrap .i64 (at1 + 8))).toNat).drop at1.toNat), (((m1.seat.log.take (if (m1.seat.log.length : Int) < (IntKind.wrap .i64 (at1 + 8)) then (m1.seat.log.length : Int) else (IntKind.wrap .i64 (at1 + 8))).toNat).drop at1.toNat).length : Int), 0, t0, H, rfl⟩)
    ·exact (allB_some (by rfl) rfl (.cons (.cons (.int' rfl) (.cons (.lst _ _ _ (ci_pu .i64) rfl) (.cons (.int' rfl) (.cons (.int' rfl) (.cons (.int' rfl) (.cons (.lst _ _ _ Entry.pu rfl) (.cons (.int' rfl) (.cons (.lst _ _ _ (ci_pu .i64) rfl) (.cons (.lst _ _ _ (ci_pu .i64) rfl) (.cons (.lst _ _ _ (ci_pu .i64) rfl) (.cons (.refl' (by first|rfl|omega|(simp;done)|(simp;omega)|(simp_all;done)) rfl) .nil))))))))))) .nil) (allB_some (by rfl) rfl (.sm _ _ Msg.pu) (allB_some (by rfl) rfl (.sm _ _ (ci_pu .i64)) (allB_none rfl trivial))))
    ·(simp only [AllT, ATT, reduceEqDiff, ↓reduceIte, and_true]); exact ⟨(.ptr _ _ _ _ _ rfl), (.int' rfl), (.refl' (by first|rfl|omega|(simp;done)|(simp;omega)|(simp_all;done)) rfl), (.nilv _ _ rfl rfl), (.lst _ _ _ Entry.pu rfl), (.int' rfl), (.int' rfl)⟩
   ·rintro m_seat_machine_put_L1 s ⟨nums3, data2, v1, v2, v3, t0, H, rfl⟩
    obtain _ | m_seat_machine_put_L1 := m_seat_machine_put_L1
    ·cases (show (none : Option _) = some _ from H)
    ·rw [seat_machine_put_L1] at H
     refine a_seq ?_
     refine a_regC _ rfl ?_
     refine sA_n ?_
     refine a_seq ?_
     refine a_cnd H (fun zc1 H => ?_) (fun zc1 H => ?_)
     ·refine a_skip ?_
      refine sA_n ?_
      refine a_seq ?_
      refine a_blk ?_
      refine a_seq ?_
      obtain ⟨x3, zh5, H⟩ := bind_some H
      obtain ⟨zg3, zh5a, zh5b⟩ := idx3 (f := Entry.c) zh5
      try simp only [Int.reduceToNat, Int.toNat_natCast] at zg3
      refine a_regC _ rfl ?_
      refine sA_n ?_
      refine a_seq ?_
      obtain ⟨zh6, H⟩ := chk_some H
      refine a_regC _ rfl ?_
      refine sA_n ?_
      obtain ⟨zh7, H⟩ := chk_some H
      refine a_regC _ rfl ?_
      refine bA_n ?_
      refine sA_n ?_
      refine a_regC _ rfl ?_
      refine lA_n ?_
      exact wk_lnA 1 [(some 0, _), (some 1, _), (some 51, _), (some 119, _)] [] (fun t0 => ⟨_, Nat.lt_succ_self _, (nums3 ++ [x3.term, (x3.data.length : Int)]), (data2 ++ x3.data), v1, v2, (IntKind.wrap .i64 (v3 + 1)), t0, H, rfl⟩)
     ·refine a_exit ?_
      refine sA_e ?_
      refine lA_e ?_
      refine bA_hit ?_
      refine cA_n ?_
      exact wk_lnA 1 [(some 0, _), (some 1, _), (some 2, _), (some 3, _)] [] (fun t0 => ⟨nums3, data2, t0, H, rfl⟩)
  ·rintro s ⟨nums2, data1, t0, H, rfl⟩
   unfold seat_machine_put_J2 at H
   obtain ⟨x2, zh2, H⟩ := bind_some H
   obtain ⟨zg2, zh2a, zh2b⟩ := idx3 (f := (ci .i64)) zh2
   try simp only [Int.reduceToNat, Int.toNat_natCast] at zg2
   obtain ⟨r1, zh3, H⟩ := bind_some H
   have zk1 := seat_machine_send_rc zh3
   refine a_reg _ rfl (s := ?zs4) ?_ ?_
   rotate_left
   ·try refine goS ?_
    repeat' with_reducible apply And.intro
    all_goals try ((with_reducible show CallR _ _ _ _ _ _ _); refine callR_rcw (r' := .tup []) [(2, some ⟨3, 1, true, nums2.map (ci .i64)⟩), (3, some ⟨5, 1, true, data1.map (ci .u8)⟩), (0, none), (1, none), (0, some ⟨61, 11, false, [Machine.o r1 15]⟩), (15, some ⟨28, 5, false, r1.out.map Msg.c⟩)] [(some 0, ⟨61, 11, false, [Machine.o m1 1]⟩), (some 1, ⟨28, 5, false, m1.out.map Msg.c⟩)] [2, 3] [(0, 0, ⟨61, 11, false, [Machine.o r1 15]⟩), (15, 1, ⟨28, 5, false, r1.out.map Msg.c⟩)] rfl zk1 (by simp) ND (allB_some (by rfl) rfl (.cons (.cons (.int' rfl) (.cons (.lst _ _ _ (ci_pu .i64) rfl) (.cons (.int' rfl) (.cons (.int' rfl) (.cons (.int' rfl) (.cons (.lst _ _ _ Entry.pu rfl) (.cons (.int' rfl) (.cons (.lst _ _ _ (ci_pu .i64) rfl) (.cons (.lst _ _ _ (ci_pu .i64) rfl) (.cons (.lst _ _ _ (ci_pu .i64) rfl) (.cons (.refl' (by first|rfl|omega|(simp;done)|(simp;omega)|(simp_all;done)) rfl) .nil))))))))))) .nil) (allB_some (by rfl) rfl (.sm _ _ Msg.pu) trivial)) (.cons (.ptr _ _ _ _ _ rfl) (.cons (.int' rfl) (.cons (.int' rfl) (.cons (.frz' (by rfl) (by simp) rfl (by first|rfl|omega|(simp;done)|(simp;omega)|(simp_all;done)) (.sm _ _ (ci_pu .u8))) (.cons (.frz' (by rfl) (by simp) rfl (by first|rfl|omega|(simp;done)|(simp;omega)|(simp_all;done)) (.sm _ _ (ci_pu .i64))) .nil))))) ND ND ⟨.inl ⟨by decide, rfl⟩, ⟨_, rfl, ⟨rfl, rfl, rfl, rfl⟩, .cons (.cons (.int' rfl) (.cons (.lst _ _ _ (ci_pu .i64) rfl) (.cons (.int' rfl) (.cons (.int' rfl) (.cons (.int' rfl) (.cons (.lst _ _ _ Entry.pu rfl) (.cons (.int' rfl) (.cons (.lst _ _ _ (ci_pu .i64) rfl) (.cons (.lst _ _ _ (ci_pu .i64) rfl) (.cons (.lst _ _ _ (ci_pu .i64) rfl) (.cons (.refl' rfl rfl) .nil))))))))))) .nil⟩, ⟨.inr ⟨rfl, by decide⟩, ⟨_, rfl, ⟨rfl, rfl, rfl, rfl⟩, .same _ _ Msg.pu rfl⟩, trivial⟩⟩ (.tup' .nil) ?_; refine goS ?_)
    all_goals ((repeat' apply And.intro) <;> first|rfl|assumption|omega|(simp;done)|(simp;omega)|(simp_all;done))
   obtain rfl := Option.some.inj H
   refine eR_n ?_
   exact wk_lnA 1 [(some 0, ⟨61, 11, false, [Machine.o r1 1]⟩), (some 15, ⟨28, 5, false, r1.out.map Msg.c⟩)] [] (L := []) (fun t0 => ⟨RS, fun j B h => by rcases j with _ | _ | _ <;> first | exact h | (exact absurd h (by simp [hh]))⟩) (by intro i h; rcases i with _ | i <;> first | rfl | omega)
def seat_machine_all_put_J1 (k_seat_machine_all_put_L1 : Int → (List Int) → Int → Int → Int → (List Entry) → Int → (List Int) → (List Int) → (List Int) → (List Msg) → Int → Option Machine) (v1 : Int) (id2 : Int) (peers2 : List Int) (term2 : Int) (voted2 : Int) (role2 : Int) (log2 : List Entry) (commit2 : Int) (votes2 : List Int) (next2 : List Int) (match2 : List Int) (out2 : List Msg) : Option Machine :=
 k_seat_machine_all_put_L1 id2 peers2 term2 voted2 role2 log2 commit2 votes2 next2 match2 out2 (IntKind.wrap .i64 (v1 + 1))
def seat_machine_all_put_L1 (m1 : Machine) : Nat → Int → (List Int) → Int → Int → Int → (List Entry) → Int → (List Int) → (List Int) → (List Int) → (List Msg) → Int → Option Machine
 | 0, _, _, _, _, _, _, _, _, _, _, _, _ => none
 | m_ + 1, id1, peers1, term1, voted1, role1, log1, commit1, votes1, next1, match1, out1, v1 => cond (decide (v1 < (m1.seat.peers.length : Int))) ((idx m1.seat.peers v1).bind fun x1 => cond (x1 != id1) ((seat_machine_put_f (⟨(⟨id1, peers1, term1, voted1, role1, log1, commit1, votes1, next1, match1⟩ : Seat), out1⟩ : Machine) v1).bind fun r1 => seat_machine_all_put_J1 (seat_machine_all_put_L1 m1 m_) v1 r1.seat.id r1.seat.peers r1.seat.term r1.seat.voted r1.seat.role r1.seat.log r1.seat.commit r1.seat.votes r1.seat.next r1.seat.match_ r1.out) (seat_machine_all_put_J1 (seat_machine_all_put_L1 m1 m_) v1 id1 peers1 term1 voted1 role1 log1 commit1 votes1 next1 match1 out1)) (some ((⟨(⟨id1, peers1, term1, voted1, role1, log1, commit1, votes1, next1, match1⟩ : Seat), out1⟩ : Machine)))
def seat_machine_all_put_f (m1 : Machine) (do1 : Int → Option Unit) : Option Machine :=
 seat_machine_all_put_L1 m1 BIG m1.seat.id m1.seat.peers m1.seat.term m1.seat.voted m1.seat.role m1.seat.log m1.seat.commit m1.seat.votes m1.seat.next m1.seat.match_ m1.out 0
set_option maxHeartbeats 4000000 in
set_option maxRecDepth 20000 in
theorem seat_machine_all_put_rc {m1 : Machine} {do1 : Int → Option Unit} {r : Machine} (H : seat_machine_all_put_f m1 do1 = some r) : RC Tryd.prog 46 [.ptr 0 0 0 11, .fn (.func 54) [.ptr 0 0 0 11] []] [⟨61, 11, false, [Machine.o m1 1]⟩, ⟨28, 5, false, m1.out.map Msg.c⟩] 1 (.tup []) [some ⟨61, 11, false, [Machine.o r 1]⟩, some ⟨28, 5, false, r.out.map Msg.c⟩] := by
 refine rcA_of Tryd.func46 (by rfl) (by decide) 28 (by rfl) [] (by rfl) ?_
 unfold seat_machine_all_put_f at H
 simp only [hent, List.length_cons, List.length_nil, reduceAdd]
 refine a_seq ?_
 refine a_regC _ rfl ?_
 refine sA_n ?_
 refine a_blk ?_
 refine a_loop (fun m s => ∃ (id1 : Int) (peers1 : List Int) (term1 : Int) (voted1 : Int) (role1 : Int) (log1 : List Entry) (commit1 : Int) (votes1 : List Int) (next1 : List Int) (match1 : List Int) (out1 : List Msg) (v1 : Int) (t0 : Nat → Dat), seat_machine_all_put_L1 m1 m id1 peers1 term1 voted1 role1 log1 commit1 votes1 next1 match1 out1 v1 = some r ∧ s = ⟨tl t0 [(0, .ptr 0 0 0 11), (1, .fn (.func 54) [.ptr 0 0 0 11] []), (10, .list 1 (m1.seat.peers.map (ci .i64))), (11, .int .i64 (m1.seat.peers.length : Int)), (12, .int .i64 v1)], hl [⟨61, 11, false, [[.int .i64 id1, .list 1 (peers1.map (ci .i64)), .int .i64 term1, .int .i64 voted1, .int .i64 role1, .list 2 (log1.map Entry.c), .int .i64 commit1, .list 1 (votes1.map (ci .i64)), .list 1 (next1.map (ci .i64)), .list 1 (match1.map (ci .i64)), .ref 1 0 out1.length 5]]⟩, ⟨28, 5, false, out1.map Msg.c⟩], 2, 28⟩) BIG ?_ ?_
 ·exact wk_lnA 1 [(some 0, _), (some 1, _)] [] (fun t0 => ⟨m1.seat.id, m1.seat.peers, m1.seat.term, m1.seat.voted, m1.seat.role, m1.seat.log, m1.seat.commit, m1.seat.votes, m1.seat.next, m1.seat.match_, m1.out, 0, t0, H, rfl⟩)
 ·rintro m_seat_machine_all_put_L1 s ⟨id1, peers1, term1, voted1, role1, log1, commit1, votes1, next1, match1, out1, v1, t0, H, rfl⟩
  obtain _ | m_seat_machine_all_put_L1 := m_seat_machine_all_put_L1
  ·cases (show (none : Option _) = some _ from H)
  ·rw [seat_machine_all_put_L1] at H
   refine a_seq ?_
   refine a_regC _ rfl ?_
   refine sA_n ?_
   refine a_seq ?_
   refine a_cnd H (fun zc1 H => ?_) (fun zc1 H => ?_)
   ·refine a_skip ?_
    refine sA_n ?_
    refine a_cut (fun s => ∃ (id2 : Int) (peers2 : List Int) (term2 : Int) (voted2 : Int) (role2 : Int) (log2 : List Entry) (commit2 : Int) (votes2 : List Int) (next2 : List Int) (match2 : List Int) (out2 : List Msg) (t0 : Nat → Dat), seat_machine_all_put_J1 (seat_machine_all_put_L1 m1 m_seat_machine_all_put_L1) v1 id2 peers2 term2 voted2 role2 log2 commit2 votes2 next2 match2 out2 = some r ∧ s = ⟨tl t0 [(0, .ptr 0 0 0 11), (1, .fn (.func 54) [.ptr 0 0 0 11] []), (10, .list 1 (m1.seat.peers.map (ci .i64))), (11, .int .i64 (m1.seat.peers.length : Int)), (12, .int .i64 v1)], hl [⟨61, 11, false, [[.int .i64 id2, .list 1 (peers2.map (ci .i64)), .int .i64 term2, .int .i64 voted2, .int .i64 role2, .list 2 (log2.map Entry.c), .int .i64 commit2, .list 1 (votes2.map (ci .i64)), .list 1 (next2.map (ci .i64)), .list 1 (match2.map (ci .i64)), .ref 1 0 out2.length 5]]⟩, ⟨28, 5, false, out2.map Msg.c⟩], 2, 28⟩) ?_ ?_
    ·refine a_blk ?_
     refine a_seq ?_
     obtain ⟨x1, zh1, H⟩ := bind_some H
     obtain ⟨zg1, zh1a, zh1b⟩ := idx3 (f := (ci .i64)) zh1
     try simp only [Int.reduceToNat, Int.toNat_natCast] at zg1
     refine a_regC _ rfl ?_
     refine sA_n ?_
     refine a_seq ?_
     refine a_regC _ rfl ?_
     refine sA_n ?_
     refine a_cnd H (fun zc2 H => ?_) (fun zc2 H => ?_)
     ·obtain ⟨r1, zh2, H⟩ := bind_some H
      have zk1 := seat_machine_put_rc zh2
      refine a_reg _ rfl (s := ?zs6) ?_ ?_
      rotate_left
      ·try refine goS ?_
       repeat' with_reducible apply And.intro
       all_goals try ((with_reducible show CallR _ _ _ _ _ _ _); refine callR_rcw (r' := .tup []) [(0, none), (1, none), (0, some ⟨61, 11, false, [Machine.o r1 108]⟩), (108, some ⟨28, 5, false, r1.out.map Msg.c⟩)] [(some 0, _), (some 1, _)] [] [(0, 0, _), (108, 1, _)] EQA zk1 (by simp) ND ZZ ZZ ND ND ZZ ZZ ?_; refine goS ?_)
       all_goals ((repeat' apply And.intro) <;> first|rfl|assumption|omega|(simp;done)|(simp;omega)|(simp_all;done))
      refine bA_n ?_
      refine cA_n ?_
      exact wk_lnA 1 [(some 0, _), (some 108, _)] [] (fun t0 => ⟨r1.seat.id, r1.seat.peers, r1.seat.term, r1.seat.voted, r1.seat.role, r1.seat.log, r1.seat.commit, r1.seat.votes, r1.seat.next, r1.seat.match_, r1.out, t0, H, rfl⟩)
     ·refine a_skip ?_
      refine bA_n ?_
      refine cA_n ?_
      exact wk_lnA 1 [(some 0, _), (some 1, _)] [] (fun t0 => ⟨id1, peers1, term1, voted1, role1, log1, commit1, votes1, next1, match1, out1, t0, H, rfl⟩)
    ·rintro s ⟨id2, peers2, term2, voted2, role2, log2, commit2, votes2, next2, match2, out2, t0, H, rfl⟩
     unfold seat_machine_all_put_J1 at H
     refine a_regC _ rfl ?_
     refine lA_n ?_
     exact wk_lnA 1 [(some 0, _), (some 1, _)] [] (fun t0 => ⟨_, Nat.lt_succ_self _, id2, peers2, term2, voted2, role2, log2, commit2, votes2, next2, match2, out2, (IntKind.wrap .i64 (v1 + 1)), t0, H, rfl⟩)
   ·refine a_exit ?_
    refine sA_e ?_
    refine lA_e ?_
    refine bA_hit ?_
    obtain rfl := Option.some.inj H
    refine eR_n ?_
    exact wk_lnA 1 [(some 0, ⟨61, 11, false, [[.int .i64 (((⟨(⟨id1, peers1, term1, voted1, role1, log1, commit1, votes1, next1, match1⟩ : Seat), out1⟩ : Machine).seat).id), .list 1 ((((⟨(⟨id1, peers1, term1, voted1, role1, log1, commit1, votes1, next1, match1⟩ : Seat), out1⟩ : Machine).seat).peers).map (ci .i64)), .int .i64 (((⟨(⟨id1, peers1, term1, voted1, role1, log1, commit1, votes1, next1, match1⟩ : Seat), out1⟩ : Machine).seat).term), .int .i64 (((⟨(⟨id1, peers1, term1, voted1, role1, log1, commit1, votes1, next1, match1⟩ : Seat), out1⟩ : Machine).seat).voted), .int .i64 (((⟨(⟨id1, peers1, term1, voted1, role1, log1, commit1, votes1, next1, match1⟩ : Seat), out1⟩ : Machine).seat).role), .list 2 ((((⟨(⟨id1, peers1, term1, voted1, role1, log1, commit1, votes1, next1, match1⟩ : Seat), out1⟩ : Machine).seat).log).map Entry.c), .int .i64 (((⟨(⟨id1, peers1, term1, voted1, role1, log1, commit1, votes1, next1, match1⟩ : Seat), out1⟩ : Machine).seat).commit), .list 1 ((((⟨(⟨id1, peers1, term1, voted1, role1, log1, commit1, votes1, next1, match1⟩ : Seat), out1⟩ : Machine).seat).votes).map (ci .i64)), .list 1 ((((⟨(⟨id1, peers1, term1, voted1, role1, log1, commit1, votes1, next1, match1⟩ : Seat), out1⟩ : Machine).seat).next).map (ci .i64)), .list 1 ((((⟨(⟨id1, peers1, term1, voted1, role1, log1, commit1, votes1, next1, match1⟩ : Seat), out1⟩ : Machine).seat).match_).map (ci .i64)), .ref 1 0 ((⟨(⟨id1, peers1, term1, voted1, role1, log1, commit1, votes1, next1, match1⟩ : Seat), out1⟩ : Machine).out.length) 5]]⟩), (some 1, ⟨28, 5, false, (⟨(⟨id1, peers1, term1, voted1, role1, log1, commit1, votes1, next1, match1⟩ : Seat), out1⟩ : Machine).out.map Msg.c⟩)] [] (L := []) (fun t0 => ⟨RS, fun j B h => by rcases j with _ | _ | _ <;> first | exact h | (exact absurd h (by simp [hh]))⟩) (by intro i h; rcases i with _ | i <;> first | rfl | omega)
def seat_machine_commit_f (m1 : Machine) : Option Machine :=
 (log_Commit_f m1.seat.log m1.seat.term m1.seat.match_ m1.seat.commit).bind fun r1 => some ((⟨(⟨m1.seat.id, m1.seat.peers, m1.seat.term, m1.seat.voted, m1.seat.role, m1.seat.log, r1, m1.seat.votes, m1.seat.next, m1.seat.match_⟩ : Seat), m1.out⟩ : Machine))
set_option maxHeartbeats 4000000 in
set_option maxRecDepth 20000 in
theorem seat_machine_commit_rc {m1 : Machine} {r : Machine} (H : seat_machine_commit_f m1 = some r) : RC Tryd.prog 59 [.ptr 0 0 0 11] [⟨61, 11, false, [[.int .i64 m1.seat.id, .list 1 (m1.seat.peers.map (ci .i64)), .int .i64 m1.seat.term, .int .i64 m1.seat.voted, .int .i64 m1.seat.role, .list 2 (m1.seat.log.map Entry.c), .int .i64 m1.seat.commit, .list 1 (m1.seat.votes.map (ci .i64)), .list 1 (m1.seat.next.map (ci .i64)), .list 1 (m1.seat.match_.map (ci .i64)), .ref 1 0 m1.out.length 5]]⟩, ⟨28, 5, false, m1.out.map Msg.c⟩] 1 (.tup []) [some ⟨61, 11, false, [[.int .i64 r.seat.id, .list 1 (r.seat.peers.map (ci .i64)), .int .i64 r.seat.term, .int .i64 r.seat.voted, .int .i64 r.seat.role, .list 2 (r.seat.log.map Entry.c), .int .i64 r.seat.commit, .list 1 (r.seat.votes.map (ci .i64)), .list 1 (r.seat.next.map (ci .i64)), .list 1 (r.seat.match_.map (ci .i64)), .ref 1 0 r.out.length 5]]⟩, some ⟨28, 5, false, r.out.map Msg.c⟩] := by
 refine rcA_of Tryd.func59 (by rfl) (by decide) 27 (by rfl) [] (by rfl) ?_
 unfold seat_machine_commit_f at H
 simp only [hent, List.length_cons, List.length_nil, reduceAdd]
 obtain ⟨r1, zh1, H⟩ := bind_some H
 have zk1 := log_Commit_pc zh1
 refine a_drW (by kernel_rfl) _ rfl (s := ?zs1) (by kernel_rfl) (by kernel_rfl) ?zs1f ?_ ?_ ?_
 rotate_left 2
 ·try refine goS ?_
  repeat' with_reducible apply And.intro
  all_goals try ((with_reducible show CallW _ _ _ _ _ _ _); refine cW_s [] zk1 (fun h2 e => (.cons (.lst _ _ _ Entry.pu rfl) (.cons (.int' rfl) (.cons (.lst _ _ _ (ci_pu .i64) rfl) (.cons (.int' rfl) .nil))))) (.int _ _) ?_; refine goS ?_)
  all_goals ((repeat' apply And.intro) <;> first|rfl|assumption|omega|(simp;done)|(simp;omega)|(simp_all;done))
 ·kernel_rfl
 obtain rfl := Option.some.inj H
 refine eR_n ?_
 exact wk_lnA 1 [(some 0, ⟨61, 11, false, [[.int .i64 (((⟨(⟨m1.seat.id, m1.seat.peers, m1.seat.term, m1.seat.voted, m1.seat.role, m1.seat.log, r1, m1.seat.votes, m1.seat.next, m1.seat.match_⟩ : Seat), m1.out⟩ : Machine).seat).id), .list 1 ((((⟨(⟨m1.seat.id, m1.seat.peers, m1.seat.term, m1.seat.voted, m1.seat.role, m1.seat.log, r1, m1.seat.votes, m1.seat.next, m1.seat.match_⟩ : Seat), m1.out⟩ : Machine).seat).peers).map (ci .i64)), .int .i64 (((⟨(⟨m1.seat.id, m1.seat.peers, m1.seat.term, m1.seat.voted, m1.seat.role, m1.seat.log, r1, m1.seat.votes, m1.seat.next, m1.seat.match_⟩ : Seat), m1.out⟩ : Machine).seat).term), .int .i64 (((⟨(⟨m1.seat.id, m1.seat.peers, m1.seat.term, m1.seat.voted, m1.seat.role, m1.seat.log, r1, m1.seat.votes, m1.seat.next, m1.seat.match_⟩ : Seat), m1.out⟩ : Machine).seat).voted), .int .i64 (((⟨(⟨m1.seat.id, m1.seat.peers, m1.seat.term, m1.seat.voted, m1.seat.role, m1.seat.log, r1, m1.seat.votes, m1.seat.next, m1.seat.match_⟩ : Seat), m1.out⟩ : Machine).seat).role), .list 2 ((((⟨(⟨m1.seat.id, m1.seat.peers, m1.seat.term, m1.seat.voted, m1.seat.role, m1.seat.log, r1, m1.seat.votes, m1.seat.next, m1.seat.match_⟩ : Seat), m1.out⟩ : Machine).seat).log).map Entry.c), .int .i64 (((⟨(⟨m1.seat.id, m1.seat.peers, m1.seat.term, m1.seat.voted, m1.seat.role, m1.seat.log, r1, m1.seat.votes, m1.seat.next, m1.seat.match_⟩ : Seat), m1.out⟩ : Machine).seat).commit), .list 1 ((((⟨(⟨m1.seat.id, m1.seat.peers, m1.seat.term, m1.seat.voted, m1.seat.role, m1.seat.log, r1, m1.seat.votes, m1.seat.next, m1.seat.match_⟩ : Seat), m1.out⟩ : Machine).seat).votes).map (ci .i64)), .list 1 ((((⟨(⟨m1.seat.id, m1.seat.peers, m1.seat.term, m1.seat.voted, m1.seat.role, m1.seat.log, r1, m1.seat.votes, m1.seat.next, m1.seat.match_⟩ : Seat), m1.out⟩ : Machine).seat).next).map (ci .i64)), .list 1 ((((⟨(⟨m1.seat.id, m1.seat.peers, m1.seat.term, m1.seat.voted, m1.seat.role, m1.seat.log, r1, m1.seat.votes, m1.seat.next, m1.seat.match_⟩ : Seat), m1.out⟩ : Machine).seat).match_).map (ci .i64)), .ref 1 0 ((⟨(⟨m1.seat.id, m1.seat.peers, m1.seat.term, m1.seat.voted, m1.seat.role, m1.seat.log, r1, m1.seat.votes, m1.seat.next, m1.seat.match_⟩ : Seat), m1.out⟩ : Machine).out.length) 5]]⟩), (some 1, ⟨28, 5, false, (⟨(⟨m1.seat.id, m1.seat.peers, m1.seat.term, m1.seat.voted, m1.seat.role, m1.seat.log, r1, m1.seat.votes, m1.seat.next, m1.seat.match_⟩ : Seat), m1.out⟩ : Machine).out.map Msg.c⟩)] [] (L := []) (fun t0 => ⟨RS, fun j B h => by rcases j with _ | _ | _ <;> first | exact h | (exact absurd h (by simp [hh]))⟩) (by intro i h; rcases i with _ | i <;> first | rfl | omega)
def seat_machine_ask_J1 (r1 : Seat × Bool) (m1 : Machine) (x1 : Msg) (yes1 : Int) : Option Machine :=
 (seat_machine_send_f (⟨r1.1, m1.out⟩ : Machine) x1.from_ 2 [] [r1.1.term, yes1]).bind fun r2 => some (r2)
def seat_machine_ask_f (m1 : Machine) (x1 : Msg) : Option Machine :=
 (idx x1.nums 0).bind fun x2 => (idx x1.nums 1).bind fun x3 => (idx x1.nums 2).bind fun x4 => (vote_Ask_f m1.seat x2 x1.from_ x3 x4).bind fun r1 => cond r1.2 (seat_machine_ask_J1 r1 m1 x1 1) (seat_machine_ask_J1 r1 m1 x1 0)
set_option maxHeartbeats 4000000 in
set_option maxRecDepth 20000 in
theorem seat_machine_ask_rc {m1 : Machine} {x1 : Msg} {r : Machine} (H : seat_machine_ask_f m1 x1 = some r) : RC Tryd.prog 39 [.ptr 0 0 0 11, .agg (Msg.c x1)] [⟨61, 11, false, [Machine.o m1 1]⟩, ⟨28, 5, false, m1.out.map Msg.c⟩] 1 (.tup []) [some ⟨61, 11, false, [Machine.o r 1]⟩, some ⟨28, 5, false, r.out.map Msg.c⟩] := by
 refine rcA_of Tryd.func39 (by rfl) (by decide) 45 (by rfl) [] (by rfl) ?_
 unfold seat_machine_ask_f at H
 simp only [hent, List.length_cons, List.length_nil, reduceAdd]
 refine a_seq ?_
 refine a_regC _ rfl ?_
 refine sA_n ?_
 refine a_seq ?_
 obtain ⟨x2, zh1, H⟩ := bind_some H
 obtain ⟨zg1, zh1a, zh1b⟩ := idx3 (f := (ci .i64)) zh1
 try simp only [Int.reduceToNat, Int.toNat_natCast] at zg1
 obtain ⟨x3, zh2, H⟩ := bind_some H
 obtain ⟨zg2, zh2a, zh2b⟩ := idx3 (f := (ci .i64)) zh2
 try simp only [Int.reduceToNat, Int.toNat_natCast] at zg2
 obtain ⟨x4, zh3, H⟩ := bind_some H
 obtain ⟨zg3, zh3a, zh3b⟩ := idx3 (f := (ci .i64)) zh3
 try simp only [Int.reduceToNat, Int.toNat_natCast] at zg3
 obtain ⟨r1, zh4, H⟩ := bind_some H
 have zk1 := vote_Ask_pc zh4
 refine a_drW (by kernel_rfl) _ rfl (s := ?zs2) (by kernel_rfl) (by kernel_rfl) ?zs2f ?_ ?_ ?_
 rotate_left 2
 ·try refine goS ?_
  repeat' with_reducible apply And.intro
  all_goals try ((with_reducible show CallW _ _ _ _ _ _ _); refine cW_p [] zk1 (fun h2 e => (.cons (.agg' (.cons (.int' rfl) (.cons (.lst _ _ _ (ci_pu .i64) rfl) (.cons (.int' rfl) (.cons (.int' rfl) (.cons (.int' rfl) (.cons (.lst _ _ _ Entry.pu rfl) (.cons (.int' rfl) (.cons (.lst _ _ _ (ci_pu .i64) rfl) (.cons (.lst _ _ _ (ci_pu .i64) rfl) (.cons (.lst _ _ _ (ci_pu .i64) rfl) .nil))))))))))) (.cons (.int' rfl) (.cons (.int' rfl) (.cons (.int' rfl) (.cons (.int' rfl) .nil)))))) ?_; refine goS ?_)
  all_goals ((repeat' apply And.intro) <;> first|rfl|assumption|omega|(simp;done)|(simp;omega)|(simp_all;done))
 ·kernel_rfl
 refine sA_n ?_
 refine a_seq ?_
 refine a_regC _ rfl ?_
 refine sA_n ?_
 refine a_seq ?_
 refine a_regC _ rfl ?_
 refine sA_n ?_
 refine a_cut (fun s => ∃ (yes1 : Int) (t0 : Nat → Dat), seat_machine_ask_J1 r1 m1 x1 yes1 = some r ∧ s = ⟨tl t0 [(0, .ptr 0 0 0 11), (3, .ptr 2 0 0 5), (6, .int .i64 yes1)], hl [⟨61, 11, false, [[.int .i64 r1.1.id, .list 1 (r1.1.peers.map (ci .i64)), .int .i64 r1.1.term, .int .i64 r1.1.voted, .int .i64 r1.1.role, .list 2 (r1.1.log.map Entry.c), .int .i64 r1.1.commit, .list 1 (r1.1.votes.map (ci .i64)), .list 1 (r1.1.next.map (ci .i64)), .list 1 (r1.1.match_.map (ci .i64)), .ref 1 0 m1.out.length 5]]⟩, ⟨28, 5, false, m1.out.map Msg.c⟩, ⟨28, 5, false, [Msg.c x1]⟩], 3, 45⟩) ?_ ?_
 ·refine a_seq ?_
  refine a_regC _ rfl ?_
  refine sA_n ?_
  refine a_cnd H (fun zc1 H => ?_) (fun zc1 H => ?_)
  ·refine a_regC _ rfl ?_
   refine cA_n ?_
   exact wk_lnA 1 [(some 0, _), (some 1, _), (some 2, _)] [] (fun t0 => ⟨1, t0, H, rfl⟩)
  ·refine a_skip ?_
   refine cA_n ?_
   exact wk_lnA 1 [(some 0, _), (some 1, _), (some 2, _)] [] (fun t0 => ⟨0, t0, H, rfl⟩)
 ·rintro s ⟨yes1, t0, H, rfl⟩
  unfold seat_machine_ask_J1 at H
  obtain ⟨r2, zh5, H⟩ := bind_some H
  have zk2 := seat_machine_send_rc zh5
  refine a_drW (by kernel_rfl) _ rfl (s := ?zs5) (by kernel_rfl) (by kernel_rfl) ?zs5f ?_ ?_ ?_
  rotate_left 2
  ·try refine goS ?_
   repeat' with_reducible apply And.intro
   all_goals try ((with_reducible show CallW _ _ _ _ _ _ _); refine callW_rcw (r' := .tup []) [0, 1, 12] [(12, some ⟨3, 1, true, [r1.1.term, yes1].map (ci .i64)⟩), (0, none), (1, none), (0, some ⟨61, 11, false, [[.int .i64 r2.seat.id, .list 1 (r2.seat.peers.map (ci .i64)), .int .i64 r2.seat.term, .int .i64 r2.seat.voted, .int .i64 r2.seat.role, .list 2 (r2.seat.log.map Entry.c), .int .i64 r2.seat.commit, .list 1 (r2.seat.votes.map (ci .i64)), .list 1 (r2.seat.next.map (ci .i64)), .list 1 (r2.seat.match_.map (ci .i64)), .ref 13 0 r2.out.length 5]]⟩), (13, some ⟨28, 5, false, r2.out.map Msg.c⟩)] [(some 0, ⟨61, 11, false, [[.int .i64 (((⟨r1.1, m1.out⟩ : Machine).seat).id), .list 1 ((((⟨r1.1, m1.out⟩ : Machine).seat).peers).map (ci .i64)), .int .i64 (((⟨r1.1, m1.out⟩ : Machine).seat).term), .int .i64 (((⟨r1.1, m1.out⟩ : Machine).seat).voted), .int .i64 (((⟨r1.1, m1.out⟩ : Machine).seat).role), .list 2 ((((⟨r1.1, m1.out⟩ : Machine).seat).log).map Entry.c), .int .i64 (((⟨r1.1, m1.out⟩ : Machine).seat).commit), .list 1 ((((⟨r1.1, m1.out⟩ : Machine).seat).votes).map (ci .i64)), .list 1 ((((⟨r1.1, m1.out⟩ : Machine).seat).next).map (ci .i64)), .list 1 ((((⟨r1.1, m1.out⟩ : Machine).seat).match_).map (ci .i64)), .ref 1 0 m1.out.length 5]]⟩), (some 1, ⟨28, 5, false, m1.out.map Msg.c⟩)] [12] [(0, 0, ⟨61, 11, false, [[.int .i64 r2.seat.id, .list 1 (r2.seat.peers.map (ci .i64)), .int .i64 r2.seat.term, .int .i64 r2.seat.voted, .int .i64 r2.seat.role, .list 2 (r2.seat.log.map Entry.c), .int .i64 r2.seat.commit, .list 1 (r2.seat.votes.map (ci .i64)), .list 1 (r2.seat.next.map (ci .i64)), .list 1 (r2.seat.match_.map (ci .i64)), .ref 13 0 r2.out.length 5]]⟩), (13, 1, ⟨28, 5, false, r2.out.map Msg.c⟩)] rfl (by decide) zk2 (by simp) (by show ([0, 1] : List Nat).Nodup; decide) (fun h2 e => (allB_some ((e 0 (by simp)).trans (by rfl)) rfl (.cons (.cons (.int' rfl) (.cons (.lst _ _ _ (ci_pu .i64) rfl) (.cons (.int' rfl) (.cons (.int' rfl) (.cons (.int' rfl) (.cons (.lst _ _ _ Entry.pu rfl) (.cons (.int' rfl) (.cons (.lst _ _ _ (ci_pu .i64) rfl) (.cons (.lst _ _ _ (ci_pu .i64) rfl) (.cons (.lst _ _ _ (ci_pu .i64) rfl) (.cons (.refl' (by first|rfl|omega|(simp;done)|(simp;omega)|(simp_all;done)) rfl) .nil))))))))))) .nil) (allB_some ((e 1 (by simp)).trans (by rfl)) rfl (.sm _ _ Msg.pu) trivial))) (fun h2 e => (.cons (.ptr _ _ _ _ _ rfl) (.cons (.int' rfl) (.cons (.int' rfl) (.cons (.nil _) (.cons (.frz' ((e 12 (by simp)).trans (by rfl)) (by simp) rfl (by first|rfl|omega|(simp;done)|(simp;omega)|(simp_all;done)) (.sm _ _ (ci_pu .i64))) .nil)))))) (by show ([0, 13] : List Nat).Nodup; decide) (by show ([0, 1] : List Nat).Nodup; decide) ⟨.inl ⟨by decide, rfl⟩, ⟨_, rfl, ⟨rfl, rfl, rfl, rfl⟩, .cons (.cons (.int' rfl) (.cons (.lst _ _ _ (ci_pu .i64) rfl) (.cons (.int' rfl) (.cons (.int' rfl) (.cons (.int' rfl) (.cons (.lst _ _ _ Entry.pu rfl) (.cons (.int' rfl) (.cons (.lst _ _ _ (ci_pu .i64) rfl) (.cons (.lst _ _ _ (ci_pu .i64) rfl) (.cons (.lst _ _ _ (ci_pu .i64) rfl) (.cons (.refl' rfl rfl) .nil))))))))))) .nil⟩, ⟨.inr ⟨rfl, by decide⟩, ⟨_, rfl, ⟨rfl, rfl, rfl, rfl⟩, .same _ _ Msg.pu rfl⟩, trivial⟩⟩ (.tup' .nil) ?_; refine goS ?_)
   all_goals ((repeat' apply And.intro) <;> first|rfl|assumption|omega|(simp;done)|(simp;omega)|(simp_all;done))
  ·kernel_rfl
  obtain rfl := Option.some.inj H
  refine eR_n ?_
  exact wk_lnA 1 [(some 0, ⟨61, 11, false, [Machine.o r2 1]⟩), (some 13, ⟨28, 5, false, r2.out.map Msg.c⟩)] [] (L := []) (fun t0 => ⟨RS, fun j B h => by rcases j with _ | _ | _ <;> first | exact h | (exact absurd h (by simp [hh]))⟩) (by intro i h; rcases i with _ | i <;> first | rfl | omega)
def seat_machine_puts_J1 (m1 : Machine) (x1 : Msg) (x3 : Int) (r3 : (List Entry) × Bool) (r2 : (List Entry) × Bool) (v1 : Bool) : Option Machine :=
 cond v1 ((seat_machine_send_f (⟨(⟨m1.seat.id, m1.seat.peers, m1.seat.term, m1.seat.voted, 1, m1.seat.log, m1.seat.commit, [], m1.seat.next, m1.seat.match_⟩ : Seat), m1.out⟩ : Machine) x1.from_ 4 [] [m1.seat.term, 0, (if (if (IntKind.wrap .i64 (x3 - 1)) < (m1.seat.log.length : Int) then (IntKind.wrap .i64 (x3 - 1)) else (m1.seat.log.length : Int)) > 0 then (if (IntKind.wrap .i64 (x3 - 1)) < (m1.seat.log.length : Int) then (IntKind.wrap .i64 (x3 - 1)) else (m1.seat.log.length : Int)) else 0)]).bind fun r4 => some (r4)) ((idx x1.nums 3).bind fun x5 => (seat_machine_send_f (⟨(⟨m1.seat.id, m1.seat.peers, m1.seat.term, m1.seat.voted, 1, r3.1, (if (if (IntKind.wrap .i64 (x3 + (r2.1.length : Int))) < x5 then (IntKind.wrap .i64 (x3 + (r2.1.length : Int))) else x5) > m1.seat.commit then (if (IntKind.wrap .i64 (x3 + (r2.1.length : Int))) < x5 then (IntKind.wrap .i64 (x3 + (r2.1.length : Int))) else x5) else m1.seat.commit), [], m1.seat.next, m1.seat.match_⟩ : Seat), m1.out⟩ : Machine) x1.from_ 4 [] [m1.seat.term, 1, (IntKind.wrap .i64 (x3 + (r2.1.length : Int)))]).bind fun r5 => some (r5))
def seat_machine_puts_f (m1 : Machine) (x1 : Msg) : Option Machine :=
 (idx x1.nums 0).bind fun x2 => cond (decide (x2 < m1.seat.term)) ((seat_machine_send_f m1 x1.from_ 4 [] [m1.seat.term, 0, 0]).bind fun r1 => some (r1)) (cond (m1.seat.role == 3) (some (m1)) ((seat_carried_f x1).bind fun r2 => (idx x1.nums 1).bind fun x3 => (idx x1.nums 2).bind fun x4 => (log_Put_f m1.seat.log x3 x4 r2.1).bind fun r3 => cond (!r3.2) (seat_machine_puts_J1 m1 x1 x3 r3 r2 true) (cond (decide ((r3.1.length : Int) < m1.seat.commit)) (seat_machine_puts_J1 m1 x1 x3 r3 r2 true) (chk (0 ≤ 0 ∧ 0 ≤ m1.seat.commit ∧ m1.seat.commit ≤ (r3.1.length : Int)) (chk (0 ≤ 0 ∧ 0 ≤ m1.seat.commit ∧ m1.seat.commit ≤ (m1.seat.log.length : Int)) ((log_Same_f ((r3.1.take m1.seat.commit.toNat).drop 0) ((m1.seat.log.take m1.seat.commit.toNat).drop 0)).bind fun r6 => seat_machine_puts_J1 m1 x1 x3 r3 r2 (!r6)))))))
set_option maxHeartbeats 4000000 in
set_option maxRecDepth 20000 in
theorem seat_machine_puts_rc {m1 : Machine} {x1 : Msg} {r : Machine} (H : seat_machine_puts_f m1 x1 = some r) : RC Tryd.prog 41 [.ptr 0 0 0 11, .agg (Msg.c x1)] [⟨61, 11, false, [Machine.o m1 1]⟩, ⟨28, 5, false, m1.out.map Msg.c⟩] 1 (.tup []) [some ⟨61, 11, false, [Machine.o r 1]⟩, some ⟨28, 5, false, r.out.map Msg.c⟩] := by
 refine rcA_of Tryd.func41 (by rfl) (by decide) 161 (by rfl) [] (by rfl) ?_
 unfold seat_machine_puts_f at H
 simp only [hent, List.length_cons, List.length_nil, reduceAdd]
 refine a_seq ?_
 refine a_regC _ rfl ?_
 refine sA_n ?_
 refine a_seq ?_
 refine a_blk ?_
 refine a_seq ?_
 obtain ⟨x2, zh1, H⟩ := bind_some H
 obtain ⟨zg1, zh1a, zh1b⟩ := idx3 (f := (ci .i64)) zh1
 try simp only [Int.reduceToNat, Int.toNat_natCast] at zg1
 refine a_drW (by kernel_rfl) _ rfl (s := ?zs2) (by kernel_rfl) (by kernel_rfl) ?zs2f ?_ ?_ ?_
 rotate_left 2
 ·refine goS ?_
  (repeat' apply And.intro) <;> first|rfl|assumption|omega|(simp;done)|(simp;omega)|(simp_all;done)
 ·kernel_rfl
 refine sA_n ?_
 refine a_cnd H (fun zc1 H => ?_) (fun zc1 H => ?_)
 ·refine a_seq ?_
  obtain ⟨r1, zh2, H⟩ := bind_some H
  have zk1 := seat_machine_send_rc zh2
  refine a_drW (by kernel_rfl) _ rfl (s := ?zs3) (by kernel_rfl) (by kernel_rfl) ?zs3f ?_ ?_ ?_
  rotate_left 2
  ·try refine goS ?_
   repeat' with_reducible apply And.intro
   all_goals try ((with_reducible show CallW _ _ _ _ _ _ _); refine callW_rcw (r' := .tup []) [0, 1, 106] [(106, some ⟨3, 1, true, [m1.seat.term, 0, 0].map (ci .i64)⟩), (0, none), (1, none), (0, some ⟨61, 11, false, [[.int .i64 r1.seat.id, .list 1 (r1.seat.peers.map (ci .i64)), .int .i64 r1.seat.term, .int .i64 r1.seat.voted, .int .i64 r1.seat.role, .list 2 (r1.seat.log.map Entry.c), .int .i64 r1.seat.commit, .list 1 (r1.seat.votes.map (ci .i64)), .list 1 (r1.seat.next.map (ci .i64)), .list 1 (r1.seat.match_.map (ci .i64)), .ref 107 0 r1.out.length 5]]⟩), (107, some ⟨28, 5, false, r1.out.map Msg.c⟩)] [(some 0, ⟨61, 11, false, [[.int .i64 m1.seat.id, .list 1 (m1.seat.peers.map (ci .i64)), .int .i64 m1.seat.term, .int .i64 m1.seat.voted, .int .i64 m1.seat.role, .list 2 (m1.seat.log.map Entry.c), .int .i64 m1.seat.commit, .list 1 (m1.seat.votes.map (ci .i64)), .list 1 (m1.seat.next.map (ci .i64)), .list 1 (m1.seat.match_.map (ci .i64)), .ref 1 0 m1.out.length 5]]⟩), (some 1, ⟨28, 5, false, m1.out.map Msg.c⟩)] [106] [(0, 0, ⟨61, 11, false, [[.int .i64 r1.seat.id, .list 1 (r1.seat.peers.map (ci .i64)), .int .i64 r1.seat.term, .int .i64 r1.seat.voted, .int .i64 r1.seat.role, .list 2 (r1.seat.log.map Entry.c), .int .i64 r1.seat.commit, .list 1 (r1.seat.votes.map (ci .i64)), .list 1 (r1.seat.next.map (ci .i64)), .list 1 (r1.seat.match_.map (ci .i64)), .ref 107 0 r1.out.length 5]]⟩), (107, 1, ⟨28, 5, false, r1.out.map Msg.c⟩)] rfl (by decide) zk1 (by simp) (by show ([0, 1] : List Nat).Nodup; decide) (fun h2 e => (allB_some ((e 0 (by simp)).trans (by rfl)) rfl (.cons (.cons (.int' rfl) (.cons (.lst _ _ _ (ci_pu .i64) rfl) (.cons (.int' rfl) (.cons (.int' rfl) (.cons (.int' rfl) (.cons (.lst _ _ _ Entry.pu rfl) (.cons (.int' rfl) (.cons (.lst _ _ _ (ci_pu .i64) rfl) (.cons (.lst _ _ _ (ci_pu .i64) rfl) (.cons (.lst _ _ _ (ci_pu .i64) rfl) (.cons (.refl' (by first|rfl|omega|(simp;done)|(simp;omega)|(simp_all;done)) rfl) .nil))))))))))) .nil) (allB_some ((e 1 (by simp)).trans (by rfl)) rfl (.sm _ _ Msg.pu) trivial))) (fun h2 e => (.cons (.ptr _ _ _ _ _ rfl) (.cons (.int' rfl) (.cons (.int' rfl) (.cons (.nil _) (.cons (.frz' ((e 106 (by simp)).trans (by rfl)) (by simp) rfl (by first|rfl|omega|(simp;done)|(simp;omega)|(simp_all;done)) (.sm _ _ (ci_pu .i64))) .nil)))))) (by show ([0, 107] : List Nat).Nodup; decide) (by show ([0, 1] : List Nat).Nodup; decide) ⟨.inl ⟨by decide, rfl⟩, ⟨_, rfl, ⟨rfl, rfl, rfl, rfl⟩, .cons (.cons (.int' rfl) (.cons (.lst _ _ _ (ci_pu .i64) rfl) (.cons (.int' rfl) (.cons (.int' rfl) (.cons (.int' rfl) (.cons (.lst _ _ _ Entry.pu rfl) (.cons (.int' rfl) (.cons (.lst _ _ _ (ci_pu .i64) rfl) (.cons (.lst _ _ _ (ci_pu .i64) rfl) (.cons (.lst _ _ _ (ci_pu .i64) rfl) (.cons (.refl' rfl rfl) .nil))))))))))) .nil⟩, ⟨.inr ⟨rfl, by decide⟩, ⟨_, rfl, ⟨rfl, rfl, rfl, rfl⟩, .same _ _ Msg.pu rfl⟩, trivial⟩⟩ (.tup' .nil) ?_; refine goS ?_)
   all_goals ((repeat' apply And.intro) <;> first|rfl|assumption|omega|(simp;done)|(simp;omega)|(simp_all;done))
  ·kernel_rfl
  refine sA_n ?_
  refine a_ret ?_
  refine bA_r ?_
  refine sA_r ?_
  obtain rfl := Option.some.inj H
  refine eR_r ?_
  exact wk_lnA 1 [(some 0, ⟨61, 11, false, [Machine.o r1 1]⟩), (some 107, ⟨28, 5, false, r1.out.map Msg.c⟩)] [] (L := []) (fun t0 => ⟨RS, fun j B h => by rcases j with _ | _ | _ <;> first | exact h | (exact absurd h (by simp [hh]))⟩) (by intro i h; rcases i with _ | i <;> first | rfl | omega)
 ·refine a_seq ?_
  refine a_regC _ rfl ?_
  refine sA_n ?_
  refine a_cnd H (fun zc2 H => ?_) (fun zc2 H => ?_)
  ·refine a_ret ?_
   refine bA_r ?_
   refine sA_r ?_
   obtain rfl := Option.some.inj H
   refine eR_r ?_
   exact wk_lnA 1 [(some 0, ⟨61, 11, false, [Machine.o m1 1]⟩), (some 1, ⟨28, 5, false, m1.out.map Msg.c⟩)] [] (L := []) (fun t0 => ⟨RS, fun j B h => by rcases j with _ | _ | _ <;> first | exact h | (exact absurd h (by simp [hh]))⟩) (by intro i h; rcases i with _ | i <;> first | rfl | omega)
  ·refine a_skip ?_
   refine bA_n ?_
   refine sA_n ?_
   refine a_seq ?_
   refine a_regC _ rfl ?_
   refine sA_n ?_
   refine a_seq ?_
   obtain ⟨r2, zh3, H⟩ := bind_some H
   have zk2 := seat_carried_pc zh3
   refine a_regK _ rfl ?_
   refine sA_n ?_
   refine a_seq ?_
   obtain ⟨x3, zh4, H⟩ := bind_some H
   obtain ⟨zg2, zh4a, zh4b⟩ := idx3 (f := (ci .i64)) zh4
   try simp only [Int.reduceToNat, Int.toNat_natCast] at zg2
   refine a_regC _ rfl ?_
   refine sA_n ?_
   refine a_seq ?_
   obtain ⟨x4, zh5, H⟩ := bind_some H
   obtain ⟨zg3, zh5a, zh5b⟩ := idx3 (f := (ci .i64)) zh5
   try simp only [Int.reduceToNat, Int.toNat_natCast] at zg3
   obtain ⟨r3, zh6, H⟩ := bind_some H
   have zk3 := log_Put_pc zh6
   refine a_drW (by kernel_rfl) _ rfl (s := ?zs8) (by kernel_rfl) (by kernel_rfl) ?zs8f ?_ ?_ ?_
   rotate_left 2
   ·try refine goS ?_
    repeat' with_reducible apply And.intro
    all_goals try ((with_reducible show CallW _ _ _ _ _ _ _); refine cW_p [] zk3 (fun h2 e => (.cons (.lst _ _ _ Entry.pu rfl) (.cons (.int' rfl) (.cons (.int' rfl) (.cons (.lst _ _ _ Entry.pu rfl) .nil))))) ?_; refine goS ?_)
    all_goals ((repeat' apply And.intro) <;> first|rfl|assumption|omega|(simp;done)|(simp;omega)|(simp_all;done))
   ·kernel_rfl
   refine sA_n ?_
   refine a_seq ?_
   refine a_cut (fun s => ∃ (v1 : Bool) (t0 : Nat → Dat), seat_machine_puts_J1 m1 x1 x3 r3 r2 v1 = some r ∧ s = ⟨tl t0 [(0, .ptr 0 0 0 11), (3, .ptr 2 0 0 5), (4, .list 2 (r2.1.map Entry.c)), (6, .int .i64 x3), (7, .list 2 (r3.1.map Entry.c)), (102, .bool v1)], hl [⟨61, 11, false, [[.int .i64 m1.seat.id, .list 1 (m1.seat.peers.map (ci .i64)), .int .i64 m1.seat.term, .int .i64 m1.seat.voted, .int .i64 1, .list 2 (m1.seat.log.map Entry.c), .int .i64 m1.seat.commit, .nil, .list 1 (m1.seat.next.map (ci .i64)), .list 1 (m1.seat.match_.map (ci .i64)), .ref 1 0 m1.out.length 5]]⟩, ⟨28, 5, false, m1.out.map Msg.c⟩, ⟨28, 5, false, [Msg.c x1]⟩], 3, 161⟩) ?_ ?_
   ·refine cnd H (fun zc4 H => ?_) (fun zc4 H => ?_)
    ·refine a_drW (by kernel_rfl) _ rfl (s := ?zs13) (by kernel_rfl) (by kernel_rfl) ?zs13f ?_ ?_ ?_
     rotate_left 2
     ·refine goS ?_
      try refine goS ?_
      (repeat' apply And.intro) <;> first | rfl | assumption | omega | (left; omega) | (simp; done) | (simp; omega) | (right; exact ⟨_, rfl, rfl, rfl, by decide, by first | omega | (simp; omega)⟩) | (simp_all; done)
     ·kernel_rfl
     refine cA_n ?_
     exact wk_lnA 1 [(some 0, _), (some 1, _), (some 2, _)] [] (fun t0 => ⟨true, t0, H, rfl⟩)
    ·refine cnd H (fun zc5 H => ?_) (fun zc5 H => ?_)
     ·refine a_drW (by kernel_rfl) _ rfl (s := ?zs14) (by kernel_rfl) (by kernel_rfl) ?zs14f ?_ ?_ ?_
      rotate_left 2
      ·refine goS ?_
       try refine goS ?_
       (repeat' apply And.intro) <;> first | rfl | assumption | omega | (left; omega) | (simp; done) | (simp; omega) | (right; exact ⟨_, rfl, rfl, rfl, by decide, by first | omega | (simp; omega)⟩) | (simp_all; done)
      ·kernel_rfl
      refine cA_n ?_
      exact wk_lnA 1 [(some 0, _), (some 1, _), (some 2, _)] [] (fun t0 => ⟨true, t0, H, rfl⟩)
     ·obtain ⟨zh10, H⟩ := chk_some H
      obtain ⟨zh11, H⟩ := chk_some H
      obtain ⟨r6, zh12, H⟩ := bind_some H
      have zk6 := log_Same_pc zh12
      refine a_drW (by kernel_rfl) _ rfl (s := ?zs15) (by kernel_rfl) (by kernel_rfl) ?zs15f ?_ ?_ ?_
      rotate_left 2
      ·try simp only [EVT, stepW, evOp, St.ev, St.app, St.put, wrs, evUn, evBuiltin, evFieldAddr, evLoad, cut, evBin, binInt, datOf, datOf1, evSlice, sliceOk, sl_if0, sl_if1, sl_if2, sl_if3, tk_map, dp_map, frz, TIS, CS, reduceAdd, reduceMul, reduceEqDiff, ↓reduceIte, reduceCtorEq, reduceLT, reduceLeDiff, Array.reduceGetElem?, Int.reduceToNat, reduceSub, Nat.reduceBEq, zg1, ↓zc1, ↓zc2, zg2, zg3, ↓zc4, ↓zc5]
       repeat' with_reducible apply And.intro
       all_goals try ((with_reducible show CallW _ _ _ _ _ _ _); refine cW_s [] zk6 (fun h2 e => (.cons (.lst _ _ _ Entry.pu rfl) (.cons (.lst _ _ _ Entry.pu rfl) .nil))) (.bool _) ?_; simp only [EVT, stepW, evOp, St.ev, St.app, St.put, wrs, evUn, evBuiltin, evFieldAddr, evLoad, cut, evBin, binInt, datOf, datOf1, evSlice, sliceOk, sl_if0, sl_if1, sl_if2, sl_if3, tk_map, dp_map, frz, TIS, CS, reduceAdd, reduceMul, reduceEqDiff, ↓reduceIte, reduceCtorEq, reduceLT, reduceLeDiff, Array.reduceGetElem?, Int.reduceToNat, reduceSub, Nat.reduceBEq, zg1, ↓zc1, ↓zc2, zg2, zg3, ↓zc4, ↓zc5])
       all_goals ((repeat' apply And.intro) <;> first | rfl | assumption | omega | (left; omega) | (simp; done) | (simp; omega) | (right; exact ⟨_, rfl, rfl, rfl, by decide, by first | omega | (simp; omega)⟩) | (simp_all; done))
      ·kernel_rfl
      refine cA_n ?_
      refine wk_ln 1 [(some 0, ⟨61, 11, false, [[.int .i64 m1.seat.id, .list 1 (m1.seat.peers.map (ci .i64)), .int .i64 m1.seat.term, .int .i64 m1.seat.voted, .int .i64 1, .list 2 (m1.seat.log.map Entry.c), .int .i64 m1.seat.commit, .nil, .list 1 (m1.seat.next.map (ci .i64)), .list 1 (m1.seat.match_.map (ci .i64)), .ref 1 0 m1.out.length 5]]⟩), (some 1, ⟨28, 5, false, m1.out.map Msg.c⟩), (some 2, ⟨28, 5, false, [Msg.c x1]⟩)] [] [(0, .ptr 0 0 0 11), (3, .ptr 2 0 0 5), (4, .list 2 (r2.1.map Entry.c)), (6, .int .i64 x3), (7, .list 2 (r3.1.map Entry.c)), (102, .bool (!r6))] (by intro i h; rcases i with _ | i <;> first | rfl | omega) (by show ([0, 3, 4, 6, 7, 102] : List Nat).Nodup; decide) (by show ([0, 1, 2] : List Nat).Nodup; decide) ?_ ?_ (fun t0 => ⟨(!r6), t0, H, rfl⟩)
      ·exact ZZ
      ·exact ZT
   ·rintro s ⟨v1, t0, H, rfl⟩
    unfold seat_machine_puts_J1 at H
    refine a_cnd H (fun zc3 H => ?_) (fun zc3 H => ?_)
    ·refine a_seq ?_
     obtain ⟨r4, zh7, H⟩ := bind_some H
     have zk4 := seat_machine_send_rc zh7
     refine a_drW (by kernel_rfl) _ rfl (s := ?zs9) (by kernel_rfl) (by kernel_rfl) ?zs9f ?_ ?_ ?_
     rotate_left 2
     ·try refine goS ?_
      repeat' with_reducible apply And.intro
      all_goals try ((with_reducible show CallW _ _ _ _ _ _ _); refine callW_rcw (r' := .tup []) [0, 1, 21] [(21, some ⟨3, 1, true, [m1.seat.term, 0, (if (if (IntKind.wrap .i64 (x3 - 1)) < (m1.seat.log.length : Int) then (IntKind.wrap .i64 (x3 - 1)) else (m1.seat.log.length : Int)) > 0 then (if (IntKind.wrap .i64 (x3 - 1)) < (m1.seat.log.length : Int) then (IntKind.wrap .i64 (x3 - 1)) else (m1.seat.log.length : Int)) else 0)].map (ci .i64)⟩), (0, none), (1, none), (0, some ⟨61, 11, false, [[.int .i64 r4.seat.id, .list 1 (r4.seat.peers.map (ci .i64)), .int .i64 r4.seat.term, .int .i64 r4.seat.voted, .int .i64 r4.seat.role, .list 2 (r4.seat.log.map Entry.c), .int .i64 r4.seat.commit, .list 1 (r4.seat.votes.map (ci .i64)), .list 1 (r4.seat.next.map (ci .i64)), .list 1 (r4.seat.match_.map (ci .i64)), .ref 22 0 r4.out.length 5]]⟩), (22, some ⟨28, 5, false, r4.out.map Msg.c⟩)] [(some 0, ⟨61, 11, false, [[.int .i64 (((⟨(⟨m1.seat.id, m1.seat.peers, m1.seat.term, m1.seat.voted, 1, m1.seat.log, m1.seat.commit, [], m1.seat.next, m1.seat.match_⟩ : Seat), m1.out⟩ : Machine).seat).id), .list 1 ((((⟨(⟨m1.seat.id, m1.seat.peers, m1.seat.term, m1.seat.voted, 1, m1.seat.log, m1.seat.commit, [], m1.seat.next, m1.seat.match_⟩ : Seat), m1.out⟩ : Machine).seat).peers).map (ci .i64)), .int .i64 (((⟨(⟨m1.seat.id, m1.seat.peers, m1.seat.term, m1.seat.voted, 1, m1.seat.log, m1.seat.commit, [], m1.seat.next, m1.seat.match_⟩ : Seat), m1.out⟩ : Machine).seat).term), .int .i64 (((⟨(⟨m1.seat.id, m1.seat.peers, m1.seat.term, m1.seat.voted, 1, m1.seat.log, m1.seat.commit, [], m1.seat.next, m1.seat.match_⟩ : Seat), m1.out⟩ : Machine).seat).voted), .int .i64 (((⟨(⟨m1.seat.id, m1.seat.peers, m1.seat.term, m1.seat.voted, 1, m1.seat.log, m1.seat.commit, [], m1.seat.next, m1.seat.match_⟩ : Seat), m1.out⟩ : Machine).seat).role), .list 2 ((((⟨(⟨m1.seat.id, m1.seat.peers, m1.seat.term, m1.seat.voted, 1, m1.seat.log, m1.seat.commit, [], m1.seat.next, m1.seat.match_⟩ : Seat), m1.out⟩ : Machine).seat).log).map Entry.c), .int .i64 (((⟨(⟨m1.seat.id, m1.seat.peers, m1.seat.term, m1.seat.voted, 1, m1.seat.log, m1.seat.commit, [], m1.seat.next, m1.seat.match_⟩ : Seat), m1.out⟩ : Machine).seat).commit), .list 1 ((((⟨(⟨m1.seat.id, m1.seat.peers, m1.seat.term, m1.seat.voted, 1, m1.seat.log, m1.seat.commit, [], m1.seat.next, m1.seat.match_⟩ : Seat), m1.out⟩ : Machine).seat).votes).map (ci .i64)), .list 1 ((((⟨(⟨m1.seat.id, m1.seat.peers, m1.seat.term, m1.seat.voted, 1, m1.seat.log, m1.seat.commit, [], m1.seat.next, m1.seat.match_⟩ : Seat), m1.out⟩ : Machine).seat).next).map (ci .i64)), .list 1 ((((⟨(⟨m1.seat.id, m1.seat.peers, m1.seat.term, m1.seat.voted, 1, m1.seat.log, m1.seat.commit, [], m1.seat.next, m1.seat.match_⟩ : Seat), m1.out⟩ : Machine).seat).match_).map (ci .i64)), .ref 1 0 m1.out.length 5]]⟩), (some 1, ⟨28, 5, false, m1.out.map Msg.c⟩)] [21] [(0, 0, ⟨61, 11, false, [[.int .i64 r4.seat.id, .list 1 (r4.seat.peers.map (ci .i64)), .int .i64 r4.seat.term, .int .i64 r4.seat.voted, .int .i64 r4.seat.role, .list 2 (r4.seat.log.map Entry.c), .int .i64 r4.seat.commit, .list 1 (r4.seat.votes.map (ci .i64)), .list 1 (r4.seat.next.map (ci .i64)), .list 1 (r4.seat.match_.map (ci .i64)), .ref 22 0 r4.out.length 5]]⟩), (22, 1, ⟨28, 5, false, r4.out.map Msg.c⟩)] rfl (by decide) zk4 (by simp) (by show ([0, 1] : List Nat).Nodup; decide) (fun h2 e => (allB_some ((e 0 (by simp)).trans (by rfl)) rfl (.cons (.cons (.int' rfl) (.cons (.lst _ _ _ (ci_pu .i64) rfl) (.cons (.int' rfl) (.cons (.int' rfl) (.cons (.int' rfl) (.cons (.lst _ _ _ Entry.pu rfl) (.cons (.int' rfl) (.cons (.nil _) (.cons (.lst _ _ _ (ci_pu .i64) rfl) (.cons (.lst _ _ _ (ci_pu .i64) rfl) (.cons (.refl' (by first|rfl|omega|(simp;done)|(simp;omega)|(simp_all;done)) rfl) .nil))))))))))) .nil) (allB_some ((e 1 (by simp)).trans (by rfl)) rfl (.sm _ _ Msg.pu) trivial))) (fun h2 e => (.cons (.ptr _ _ _ _ _ rfl) (.cons (.int' rfl) (.cons (.int' rfl) (.cons (.nil _) (.cons (.frz' ((e 21 (by simp)).trans (by rfl)) (by simp) rfl (by first|rfl|omega|(simp;done)|(simp;omega)|(simp_all;done)) (.sm _ _ (ci_pu .i64))) .nil)))))) (by show ([0, 22] : List Nat).Nodup; decide) (by show ([0, 1] : List Nat).Nodup; decide) ⟨.inl ⟨by decide, rfl⟩, ⟨_, rfl, ⟨rfl, rfl, rfl, rfl⟩, .cons (.cons (.int' rfl) (.cons (.lst _ _ _ (ci_pu .i64) rfl) (.cons (.int' rfl) (.cons (.int' rfl) (.cons (.int' rfl) (.cons (.lst _ _ _ Entry.pu rfl) (.cons (.int' rfl) (.cons (.lst _ _ _ (ci_pu .i64) rfl) (.cons (.lst _ _ _ (ci_pu .i64) rfl) (.cons (.lst _ _ _ (ci_pu .i64) rfl) (.cons (.refl' rfl rfl) .nil))))))))))) .nil⟩, ⟨.inr ⟨rfl, by decide⟩, ⟨_, rfl, ⟨rfl, rfl, rfl, rfl⟩, .same _ _ Msg.pu rfl⟩, trivial⟩⟩ (.tup' .nil) ?_; refine goS ?_)
      all_goals ((repeat' apply And.intro) <;> first|rfl|assumption|omega|(simp;done)|(simp;omega)|(simp_all;done))
     ·kernel_rfl
     refine sA_n ?_
     refine a_ret ?_
     refine sA_r ?_
     obtain rfl := Option.some.inj H
     refine eR_r ?_
     exact wk_lnA 1 [(some 0, ⟨61, 11, false, [Machine.o r4 1]⟩), (some 22, ⟨28, 5, false, r4.out.map Msg.c⟩)] [] (L := []) (fun t0 => ⟨RS, fun j B h => by rcases j with _ | _ | _ <;> first | exact h | (exact absurd h (by simp [hh]))⟩) (by intro i h; rcases i with _ | i <;> first | rfl | omega)
    ·refine a_skip ?_
     refine sA_n ?_
     refine a_seq ?_
     refine a_regC _ rfl ?_
     refine sA_n ?_
     refine a_seq ?_
     obtain ⟨x5, zh8, H⟩ := bind_some H
     obtain ⟨zg4, zh8a, zh8b⟩ := idx3 (f := (ci .i64)) zh8
     try simp only [Int.reduceToNat, Int.toNat_natCast] at zg4
     refine a_drW (by kernel_rfl) _ rfl (s := ?zs11) (by kernel_rfl) (by kernel_rfl) ?zs11f ?_ ?_ ?_
     rotate_left 2
     ·refine goS ?_
      (repeat' apply And.intro) <;> first|rfl|assumption|omega|(simp;done)|(simp;omega)|(simp_all;done)
     ·kernel_rfl
     refine sA_n ?_
     obtain ⟨r5, zh9, H⟩ := bind_some H
     have zk5 := seat_machine_send_rc zh9
     refine a_drW (by kernel_rfl) _ rfl (s := ?zs12) (by kernel_rfl) (by kernel_rfl) ?zs12f ?_ ?_ ?_
     rotate_left 2
     ·try refine goS ?_
      repeat' with_reducible apply And.intro
      all_goals try ((with_reducible show CallW _ _ _ _ _ _ _); refine callW_rcw (r' := .tup []) [0, 1, 223] [(223, some ⟨3, 1, true, [m1.seat.term, 1, (IntKind.wrap .i64 (x3 + (r2.1.length : Int)))].map (ci .i64)⟩), (0, none), (1, none), (0, some ⟨61, 11, false, [[.int .i64 r5.seat.id, .list 1 (r5.seat.peers.map (ci .i64)), .int .i64 r5.seat.term, .int .i64 r5.seat.voted, .int .i64 r5.seat.role, .list 2 (r5.seat.log.map Entry.c), .int .i64 r5.seat.commit, .list 1 (r5.seat.votes.map (ci .i64)), .list 1 (r5.seat.next.map (ci .i64)), .list 1 (r5.seat.match_.map (ci .i64)), .ref 224 0 r5.out.length 5]]⟩), (224, some ⟨28, 5, false, r5.out.map Msg.c⟩)] [(some 0, ⟨61, 11, false, [[.int .i64 (((⟨(⟨m1.seat.id, m1.seat.peers, m1.seat.term, m1.seat.voted, 1, r3.1, (if (if (IntKind.wrap .i64 (x3 + (r2.1.length : Int))) < x5 then (IntKind.wrap .i64 (x3 + (r2.1.length : Int))) else x5) > m1.seat.commit then (if (IntKind.wrap .i64 (x3 + (r2.1.length : Int))) < x5 then (IntKind.wrap .i64 (x3 + (r2.1.length : Int))) else x5) else m1.seat.commit), [], m1.seat.next, m1.seat.match_⟩ : Seat), m1.out⟩ : Machine).seat).id), .list 1 ((((⟨(⟨m1.seat.id, m1.seat.peers, m1.seat.term, m1.seat.voted, 1, r3.1, (if (if (IntKind.wrap .i64 (x3 + (r2.1.length : Int))) < x5 then (IntKind.wrap .i64 (x3 + (r2.1.length : Int))) else x5) > m1.seat.commit then (if (IntKind.wrap .i64 (x3 + (r2.1.length : Int))) < x5 then (IntKind.wrap .i64 (x3 + (r2.1.length : Int))) else x5) else m1.seat.commit), [], m1.seat.next, m1.seat.match_⟩ : Seat), m1.out⟩ : Machine).seat).peers).map (ci .i64)), .int .i64 (((⟨(⟨m1.seat.id, m1.seat.peers, m1.seat.term, m1.seat.voted, 1, r3.1, (if (if (IntKind.wrap .i64 (x3 + (r2.1.length : Int))) < x5 then (IntKind.wrap .i64 (x3 + (r2.1.length : Int))) else x5) > m1.seat.commit then (if (IntKind.wrap .i64 (x3 + (r2.1.length : Int))) < x5 then (IntKind.wrap .i64 (x3 + (r2.1.length : Int))) else x5) else m1.seat.commit), [], m1.seat.next, m1.seat.match_⟩ : Seat), m1.out⟩ : Machine).seat).term), .int .i64 (((⟨(⟨m1.seat.id, m1.seat.peers, m1.seat.term, m1.seat.voted, 1, r3.1, (if (if (IntKind.wrap .i64 (x3 + (r2.1.length : Int))) < x5 then (IntKind.wrap .i64 (x3 + (r2.1.length : Int))) else x5) > m1.seat.commit then (if (IntKind.wrap .i64 (x3 + (r2.1.length : Int))) < x5 then (IntKind.wrap .i64 (x3 + (r2.1.length : Int))) else x5) else m1.seat.commit), [], m1.seat.next, m1.seat.match_⟩ : Seat), m1.out⟩ : Machine).seat).voted), .int .i64 (((⟨(⟨m1.seat.id, m1.seat.peers, m1.seat.term, m1.seat.voted, 1, r3.1, (if (if (IntKind.wrap .i64 (x3 + (r2.1.length : Int))) < x5 then (IntKind.wrap .i64 (x3 + (r2.1.length : Int))) else x5) > m1.seat.commit then (if (IntKind.wrap .i64 (x3 + (r2.1.length : Int))) < x5 then (IntKind.wrap .i64 (x3 + (r2.1.length : Int))) else x5) else m1.seat.commit), [], m1.seat.next, m1.seat.match_⟩ : Seat), m1.out⟩ : Machine).seat).role), .list 2 ((((⟨(⟨m1.seat.id, m1.seat.peers, m1.seat.term, m1.seat.voted, 1, r3.1, (if (if (IntKind.wrap .i64 (x3 + (r2.1.length : Int))) < x5 then (IntKind.wrap .i64 (x3 + (r2.1.length : Int))) else x5) > m1.seat.commit then (if (IntKind.wrap .i64 (x3 + (r2.1.length : Int))) < x5 then (IntKind.wrap .i64 (x3 + (r2.1.length : Int))) else x5) else m1.seat.commit), [], m1.seat.next, m1.seat.match_⟩ : Seat), m1.out⟩ : Machine).seat).log).map Entry.c), .int .i64 (((⟨(⟨m1.seat.id, m1.seat.peers, m1.seat.term, m1.seat.voted, 1, r3.1, (if (if (IntKind.wrap .i64 (x3 + (r2.1.length : Int))) < x5 then (IntKind.wrap .i64 (x3 + (r2.1.length : Int))) else x5) > m1.seat.commit then (if (IntKind.wrap .i64 (x3 + (r2.1.length : Int))) < x5 then (IntKind.wrap .i64 (x3 + (r2.1.length : Int))) else x5) else m1.seat.commit), [], m1.seat.next, m1.seat.match_⟩ : Seat), m1.out⟩ : Machine).seat).commit), .list 1 ((((⟨(⟨m1.seat.id, m1.seat.peers, m1.seat.term, m1.seat.voted, 1, r3.1, (if (if (IntKind.wrap .i64 (x3 + (r2.1.length : Int))) < x5 then (IntKind.wrap .i64 (x3 + (r2.1.length : Int))) else x5) > m1.seat.commit then (if (IntKind.wrap .i64 (x3 + (r2.1.length : Int))) < x5 then (IntKind.wrap .i64 (x3 + (r2.1.length : Int))) else x5) else m1.seat.commit), [], m1.seat.next, m1.seat.match_⟩ : Seat), m1.out⟩ : Machine).seat).votes).map (ci .i64)), .list 1 ((((⟨(⟨m1.seat.id, m1.seat.peers, m1.seat.term, m1.seat.voted, 1, r3.1, (if (if (IntKind.wrap .i64 (x3 + (r2.1.length : Int))) < x5 then (IntKind.wrap .i64 (x3 + (r2.1.length : Int))) else x5) > m1.seat.commit then (if (IntKind.wrap .i64 (x3 + (r2.1.length : Int))) < x5 then (IntKind.wrap .i64 (x3 + (r2.1.length : Int))) else x5) else m1.seat.commit), [], m1.seat.next, m1.seat.match_⟩ : Seat), m1.out⟩ : Machine).seat).next).map (ci .i64)), .list 1 ((((⟨(⟨m1.seat.id, m1.seat.peers, m1.seat.term, m1.seat.voted, 1, r3.1, (if (if (IntKind.wrap .i64 (x3 + (r2.1.length : Int))) < x5 then (IntKind.wrap .i64 (x3 + (r2.1.length : Int))) else x5) > m1.seat.commit then (if (IntKind.wrap .i64 (x3 + (r2.1.length : Int))) < x5 then (IntKind.wrap .i64 (x3 + (r2.1.length : Int))) else x5) else m1.seat.commit), [], m1.seat.next, m1.seat.match_⟩ : Seat), m1.out⟩ : Machine).seat).match_).map (ci .i64)), .ref 1 0 m1.out.length 5]]⟩), (some 1, ⟨28, 5, false, m1.out.map Msg.c⟩)] [223] [(0, 0, ⟨61, 11, false, [[.int .i64 r5.seat.id, .list 1 (r5.seat.peers.map (ci .i64)), .int .i64 r5.seat.term, .int .i64 r5.seat.voted, .int .i64 r5.seat.role, .list 2 (r5.seat.log.map Entry.c), .int .i64 r5.seat.commit, .list 1 (r5.seat.votes.map (ci .i64)), .list 1 (r5.seat.next.map (ci .i64)), .list 1 (r5.seat.match_.map (ci .i64)), .ref 224 0 r5.out.length 5]]⟩), (224, 1, ⟨28, 5, false, r5.out.map Msg.c⟩)] rfl (by decide) zk5 (by simp) (by show ([0, 1] : List Nat).Nodup; decide) (fun h2 e => (allB_some ((e 0 (by simp)).trans (by rfl)) rfl (.cons (.cons (.int' rfl) (.cons (.lst _ _ _ (ci_pu .i64) rfl) (.cons (.int' rfl) (.cons (.int' rfl) (.cons (.int' rfl) (.cons (.lst _ _ _ Entry.pu rfl) (.cons (.int' rfl) (.cons (.nil _) (.cons (.lst _ _ _ (ci_pu .i64) rfl) (.cons (.lst _ _ _ (ci_pu .i64) rfl) (.cons (.refl' (by first|rfl|omega|(simp;done)|(simp;omega)|(simp_all;done)) rfl) .nil))))))))))) .nil) (allB_some ((e 1 (by simp)).trans (by rfl)) rfl (.sm _ _ Msg.pu) trivial))) (fun h2 e => (.cons (.ptr _ _ _ _ _ rfl) (.cons (.int' rfl) (.cons (.int' rfl) (.cons (.nil _) (.cons (.frz' ((e 223 (by simp)).trans (by rfl)) (by simp) rfl (by first|rfl|omega|(simp;done)|(simp;omega)|(simp_all;done)) (.sm _ _ (ci_pu .i64))) .nil)))))) (by show ([0, 224] : List Nat).Nodup; decide) (by show ([0, 1] : List Nat).Nodup; decide) ⟨.inl ⟨by decide, rfl⟩, ⟨_, rfl, ⟨rfl, rfl, rfl, rfl⟩, .cons (.cons (.int' rfl) (.cons (.lst _ _ _ (ci_pu .i64) rfl) (.cons (.int' rfl) (.cons (.int' rfl) (.cons (.int' rfl) (.cons (.lst _ _ _ Entry.pu rfl) (.cons (.int' rfl) (.cons (.lst _ _ _ (ci_pu .i64) rfl) (.cons (.lst _ _ _ (ci_pu .i64) rfl) (.cons (.lst _ _ _ (ci_pu .i64) rfl) (.cons (.refl' rfl rfl) .nil))))))))))) .nil⟩, ⟨.inr ⟨rfl, by decide⟩, ⟨_, rfl, ⟨rfl, rfl, rfl, rfl⟩, .same _ _ Msg.pu rfl⟩, trivial⟩⟩ (.tup' .nil) ?_; refine goS ?_)
      all_goals ((repeat' apply And.intro) <;> first|rfl|assumption|omega|(simp;done)|(simp;omega)|(simp_all;done))
     ·kernel_rfl
     obtain rfl := Option.some.inj H
     refine eR_n ?_
     exact wk_lnA 1 [(some 0, ⟨61, 11, false, [Machine.o r5 1]⟩), (some 224, ⟨28, 5, false, r5.out.map Msg.c⟩)] [] (L := []) (fun t0 => ⟨RS, fun j B h => by rcases j with _ | _ | _ <;> first | exact h | (exact absurd h (by simp [hh]))⟩) (by intro i h; rcases i with _ | i <;> first | rfl | omega)
def seat_Beat_J1 (s1 : Seat) (id1 : Int) (peers1 : List Int) (term1 : Int) (voted1 : Int) (role1 : Int) (log1 : List Entry) (commit1 : Int) (votes1 : List Int) (next1 : List Int) (match1 : List Int) (out1 : List Msg) : Option (Seat × (List Msg)) :=
 some (s1, out1)
def seat_Beat_f (s1 : Seat) : Option (Seat × (List Msg)) :=
 cond (s1.role == 3) ((seat_machine_all_put_f (⟨s1, []⟩ : Machine) (fun _ => none)).bind fun r1 => seat_Beat_J1 s1 r1.seat.id r1.seat.peers r1.seat.term r1.seat.voted r1.seat.role r1.seat.log r1.seat.commit r1.seat.votes r1.seat.next r1.seat.match_ r1.out) (seat_Beat_J1 s1 s1.id s1.peers s1.term s1.voted s1.role s1.log s1.commit s1.votes s1.next s1.match_ [])
set_option maxHeartbeats 4000000 in
set_option maxRecDepth 20000 in
theorem seat_Beat_pc {s1 : Seat} {r : Seat × (List Msg)} (H : seat_Beat_f s1 = some r) : PC Tryd.prog 24 [.agg (Seat.c s1)] (.tup [.agg (Seat.c r.1), .list 5 (r.2.map Msg.c)]) := by
 refine pcA_of Tryd.func24 (by rfl) (by decide) 20 (by rfl) [.cell 2 25, .tmp 3] (by rfl) ?_
 unfold seat_Beat_f at H
 simp only [ent]
 refine a_seq ?_
 refine a_regC _ rfl ?_
 refine sA_n ?_
 refine a_seq ?_
 refine a_regC _ rfl ?_
 refine sA_n ?_
 refine a_cut (fun s => ∃ (id1 : Int) (peers1 : List Int) (term1 : Int) (voted1 : Int) (role1 : Int) (log1 : List Entry) (commit1 : Int) (votes1 : List Int) (next1 : List Int) (match1 : List Int) (out1 : List Msg) (t0 : Nat → Dat), seat_Beat_J1 s1 id1 peers1 term1 voted1 role1 log1 commit1 votes1 next1 match1 out1 = some r ∧ s = ⟨tl t0 [(1, .ptr 0 0 0 10), (2, .ptr 1 0 0 10), (4, .ptr 2 0 0 11)], hl [⟨25, 10, false, [Seat.c s1]⟩, ⟨25, 10, false, [[.int .i64 0, .nil, .int .i64 0, .int .i64 0, .int .i64 0, .nil, .int .i64 0, .nil, .nil, .nil]]⟩, ⟨61, 11, false, [[.int .i64 id1, .list 1 (peers1.map (ci .i64)), .int .i64 term1, .int .i64 voted1, .int .i64 role1, .list 2 (log1.map Entry.c), .int .i64 commit1, .list 1 (votes1.map (ci .i64)), .list 1 (next1.map (ci .i64)), .list 1 (match1.map (ci .i64)), .ref 3 0 out1.length 5]]⟩, ⟨28, 5, false, out1.map Msg.c⟩], 4, 20⟩) ?_ ?_
 ·refine a_seq ?_
  refine a_regC _ rfl ?_
  refine sA_n ?_
  refine a_cnd H (fun zc1 H => ?_) (fun zc1 H => ?_)
  ·obtain ⟨r1, zh1, H⟩ := bind_some H
   have zk1 := seat_machine_all_put_rc zh1
   refine a_reg _ rfl (s := ?zs5) ?_ ?_
   rotate_left
   ·try refine goS ?_
    repeat' with_reducible apply And.intro
    all_goals try ((with_reducible show CallR _ _ _ _ _ _ _); refine callR_rcw (r' := .tup []) [(26, none), (26, some ⟨61, 11, false, [Machine.o r1 83]⟩), (83, some ⟨28, 5, false, r1.out.map Msg.c⟩)] [(some 26, _), (none, _)] [] [(26, 0, _), (83, 1, _)] EQA zk1 (by simp) ND ZZ ZZ ND ND ZZ ZZ ?_; refine goS ?_)
    all_goals ((repeat' apply And.intro) <;> first|rfl|assumption|omega|(simp;done)|(simp;omega)|(simp_all;done))
   refine cA_n ?_
   exact wk_lA [(some 0, _), (some 1, _), (some 26, _), (some 83, _)] [] (fun t0 => ⟨r1.seat.id, r1.seat.peers, r1.seat.term, r1.seat.voted, r1.seat.role, r1.seat.log, r1.seat.commit, r1.seat.votes, r1.seat.next, r1.seat.match_, r1.out, t0, H, rfl⟩)
  ·refine a_skip ?_
   refine cA_n ?_
   exact wk_lA [(some 0, _), (some 1, _), (some 26, _), (none, _)] [] (fun t0 => ⟨s1.id, s1.peers, s1.term, s1.voted, s1.role, s1.log, s1.commit, s1.votes, s1.next, s1.match_, [], t0, H, rfl⟩)
 ·rintro s ⟨id1, peers1, term1, voted1, role1, log1, commit1, votes1, next1, match1, out1, t0, H, rfl⟩
  unfold seat_Beat_J1 at H
  refine a_seq ?_
  refine a_drW (by kernel_rfl) _ rfl (s := ?zs3) (by kernel_rfl) (by kernel_rfl) ?zs3f ?_ ?_ ?_
  rotate_left 2
  ·refine goS ?_
   (repeat' apply And.intro) <;> first|rfl|assumption|omega|(simp;done)|(simp;omega)|(simp_all;done)
  ·kernel_rfl
  refine sA_n ?_
  exact a_ret RT
end
end Go.Proofs.YtmkpokcfefjifaaDoor
