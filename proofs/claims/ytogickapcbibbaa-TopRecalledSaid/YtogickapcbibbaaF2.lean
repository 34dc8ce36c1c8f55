/- Functions of the program as Lean functions, and that they are so; printed by a program of mine. -/
import Derived.Test.YtogickapcbibbaaF1
set_option linter.unusedSimpArgs false
set_option linter.unusedVariables false
namespace Go.Proofs.Ytogickapcbibbaa
open Go.Ab
open Nat (reduceAdd reduceMul reduceEqDiff reduceLT reduceLeDiff reduceSub)
noncomputable section

def lease_kept_J1 (out1 : List Lease) : Option (List Lease) :=
 some (out1)
def lease_kept_J2 (k_lease_kept_L1 : (List Lease) → Int → Option (List Lease)) (v1 : Int) (out3 : List Lease) : Option (List Lease) :=
 k_lease_kept_L1 out3 (IntKind.wrap .i64 (v1 + 1))
def lease_kept_L1 (l1 : List Lease) (so1 : Lease → Option Bool) : Nat → (List Lease) → Int → Option (List Lease)
 | 0, _, _ => none
 | m_ + 1, out2, v1 => cond (decide (v1 < (l1.length : Int))) ((idx l1 v1).bind fun x1 => (so1 x1).bind fun r1 => cond r1 (chk ((out2.length + 1) * 56 ≤ 140737488355328) (lease_kept_J2 (lease_kept_L1 l1 so1 m_) v1 (out2 ++ [x1]))) (lease_kept_J2 (lease_kept_L1 l1 so1 m_) v1 out2)) (lease_kept_J1 out2)
def lease_kept_f (l1 : List Lease) (so1 : Lease → Option Bool) : Option (List Lease) :=
 lease_kept_L1 l1 so1 BIG [] 0
set_option maxHeartbeats 4000000 in
set_option maxRecDepth 20000 in
theorem lease_kept_rc {l1 : List Lease} {so1 : Lease → Option Bool} {so1_F : FuncId} {so1_caps : List Dat} (so1_hp : ∀ (x0_ : Lease) (r : Bool), so1 x0_ = some r → PC Try.prog so1_F (.agg (Lease.c x0_) :: so1_caps) (.bool r)) (so1_pu : Pus so1_caps) {r : (List Lease)} (H : lease_kept_f l1 so1 = some r) : RC Try.prog 43 [.list 7 (l1.map Lease.c), .fn (.func so1_F) [] so1_caps] [] 0 (.ref 0 0 r.length 7) [some ⟨68, 7, false, r.map Lease.c⟩] := by
 refine rcA_of Try.func43 (by rfl) (by decide) 23 (by rfl) [.tmp 4] (by rfl) ?_
 unfold lease_kept_f at H
 simp only [hent, List.length_cons, List.length_nil, reduceAdd]
 refine a_seq ?_
 refine a_reg _ rfl (s := ?zs1) ?_ ?_
 rotate_left
 ·simp only [EVT, stepR, evOp, St.ev, St.app, St.put, wrs, datOf, datOf1, TIS, CS, reduceAdd, reduceMul, reduceEqDiff, ↓reduceIte, reduceCtorEq, reduceLT, reduceLeDiff]
  (repeat' apply And.intro) <;> first|rfl|assumption|omega|(simp;done)|(simp;omega)|(simp_all;done)
 refine sA_n ?_
 refine a_seq ?_
 refine a_reg _ rfl (s := ?zs2) ?_ ?_
 rotate_left
 ·simp only [EVT, stepR, evOp, St.ev, St.app, St.put, wrs, datOf, datOf1, TIS, CS, reduceAdd, reduceMul, reduceEqDiff, ↓reduceIte, reduceCtorEq, reduceLT, reduceLeDiff]
  (repeat' apply And.intro) <;> first|rfl|assumption|omega|(simp;done)|(simp;omega)|(simp_all;done)
 refine sA_n ?_
 refine a_cut (fun s => ∃ (out1 : List Lease) (t0 : Nat → Dat), lease_kept_J1 out1 = some r ∧ s = ⟨tl t0 [(5, .ref 0 0 out1.length 7)], hl [⟨68, 7, false, out1.map Lease.c⟩], 1, 23⟩) ?_ ?_
 ·refine a_seq ?_
  refine a_reg _ rfl (s := ?zs4) ?_ ?_
  rotate_left
  ·simp only [EVT, stepR, evOp, St.ev, St.app, St.put, wrs, evBuiltin, datOf, datOf1, TIS, CS, reduceAdd, reduceMul, reduceEqDiff, ↓reduceIte, reduceCtorEq, reduceLT, reduceLeDiff, reduceSub, Nat.reduceBEq]
   (repeat' apply And.intro) <;> first|rfl|assumption|omega|(simp;done)|(simp;omega)|(simp_all;done)
  refine sA_n ?_
  refine a_blk ?_
  refine a_loop (fun m s => ∃ (out2 : List Lease) (v1 : Int) (t0 : Nat → Dat), lease_kept_L1 l1 so1 m out2 v1 = some r ∧ s = ⟨tl t0 [(1, .fn (.func so1_F) [] so1_caps), (5, .ref 0 0 out2.length 7), (8, .list 7 (l1.map Lease.c)), (9, .int .i64 (l1.length : Int)), (10, .int .i64 v1)], hl [⟨68, 7, false, out2.map Lease.c⟩], 1, 23⟩) BIG ?_ ?_
  ·refine wk_l [(none, ⟨68, 7, false, [].map Lease.c⟩)] [] [(1, .fn (.func so1_F) [] so1_caps), (5, .ref 0 0 [].length 7), (8, .list 7 (l1.map Lease.c)), (9, .int .i64 (l1.length : Int)), (10, .int .i64 0)] (by show ([1, 5, 8, 9, 10] : List Nat).Nodup; decide) (by show ([] : List Nat).Nodup; decide) ?_ ?_ (fun t0 => ⟨[], 0, t0, H, rfl⟩)
   ·exact (allB_none rfl trivial)
   ·(simp only [AllT, ATT, reduceEqDiff, ↓reduceIte, and_true]); exact ⟨(.fn' .nil (RNs.pu so1_pu)), (.nilv _ _ rfl rfl), (.lst _ _ _ Lease.pu rfl), (.int' rfl), (.int' rfl)⟩
  ·rintro m_lease_kept_L1 s ⟨out2, v1, t0, H, rfl⟩
   obtain _ | m_lease_kept_L1 := m_lease_kept_L1
   ·cases (show (none : Option _) = some _ from H)
   ·rw [lease_kept_L1] at H
    refine a_seq ?_
    refine a_reg _ rfl (s := ?zs5) ?_ ?_
    rotate_left
    ·simp only [EVT, stepR, evOp, St.ev, St.app, St.put, wrs, evBin, binInt, TIS, CS, reduceAdd, reduceMul, reduceEqDiff, ↓reduceIte, reduceCtorEq, reduceLT, reduceLeDiff]
     (repeat' apply And.intro) <;> first|rfl|assumption|omega|(simp;done)|(simp;omega)|(simp_all;done)
    refine sA_n ?_
    refine a_seq ?_
    refine a_condb ((decide (v1 < (l1.length : Int)))) (by rfl) (fun zc1 => ?_) (fun zc1 => ?_)
    ·have H := cond_t zc1 H
     refine a_skip ?_
     refine sA_n ?_
     refine a_cut (fun s => ∃ (out3 : List Lease) (t0 : Nat → Dat), lease_kept_J2 (lease_kept_L1 l1 so1 m_lease_kept_L1) v1 out3 = some r ∧ s = ⟨tl t0 [(1, .fn (.func so1_F) [] so1_caps), (5, .ref 0 0 out3.length 7), (8, .list 7 (l1.map Lease.c)), (9, .int .i64 (l1.length : Int)), (10, .int .i64 v1)], hl [⟨68, 7, false, out3.map Lease.c⟩], 1, 23⟩) ?_ ?_
     ·refine a_blk ?_
      refine a_seq ?_
      obtain ⟨x1, zh1, H⟩ := bind_some H
      have zg1 := idx_map zh1 Lease.c
      try simp only [Int.reduceToNat, Int.toNat_natCast] at zg1
      obtain ⟨zh1a, zh1b, _⟩ := idx_some zh1
      refine a_reg _ rfl (s := ?zs7) ?_ ?_
      rotate_left
      ·simp only [EVT, stepR, evOp, St.ev, St.app, St.put, wrs, evIndexAddr, evLoad, cut, allOne, evStore, setR, TIS, CS, reduceAdd, reduceMul, reduceEqDiff, ↓reduceIte, reduceCtorEq, reduceLT, reduceLeDiff, Int.reduceToNat, reduceSub, Nat.reduceBEq, ↓zc1, zg1]
       (repeat' apply And.intro) <;> first|rfl|assumption|omega|(simp;done)|(simp;omega)|(simp_all;done)
      refine sA_n ?_
      refine a_seq ?_
      obtain ⟨r1, zh2, H⟩ := bind_some H
      have zk1 := so1_hp _ _ zh2
      refine a_reg _ rfl (s := ?zs8) ?_ ?_
      rotate_left
      ·try simp only [EVT, stepR, evOp, St.ev, St.app, St.put, wrs, evLoad, cut, frz, TIS, CS, reduceAdd, reduceMul, reduceEqDiff, ↓reduceIte, reduceCtorEq, reduceLT, reduceLeDiff, reduceSub, Nat.reduceBEq, ↓zc1, zg1]
       repeat' with_reducible apply And.intro
       all_goals try ((with_reducible show CallR _ _ _ _ _ _ _); refine cR_s zk1 (.cons (.agg' (.cons (.int' rfl) (.cons (.int' rfl) (.cons (.int' rfl) (.cons (.int' rfl) (.cons (.int' rfl) (.cons (.int' rfl) (.cons (.int' rfl) .nil)))))))) (Pus.purRs so1_pu)) (.bool _) ?_; simp only [EVT, stepR, evOp, St.ev, St.app, St.put, wrs, evLoad, cut, frz, TIS, CS, reduceAdd, reduceMul, reduceEqDiff, ↓reduceIte, reduceCtorEq, reduceLT, reduceLeDiff, reduceSub, Nat.reduceBEq, ↓zc1, zg1])
       all_goals ((repeat' apply And.intro) <;> first|rfl|assumption|omega|(simp;done)|(simp;omega)|(simp_all;done))
      refine sA_n ?_
      refine a_condb (r1) (by rfl) (fun zc2 => ?_) (fun zc2 => ?_)
      ·have H := cond_t zc2 H
       obtain ⟨zh3, H⟩ := chk_some H
       refine a_reg _ rfl (s := ?zs9) ?_ ?_
       rotate_left
       ·simp only [EVT, stepR, evOp, St.ev, St.app, St.put, wrs, evLoad, cut, allOne, evBuiltin, evAppend, isAl, elems, Option.elim, TIS, CS, reduceAdd, reduceMul, reduceEqDiff, ↓reduceIte, reduceCtorEq, reduceLT, reduceLeDiff, reduceSub, Nat.reduceBEq, ↓zc1, zg1, ↓zc2]
        (repeat' apply And.intro) <;> first|rfl|assumption|omega|(simp;done)|(simp;omega)|(simp_all;done)
       refine bA_n ?_
       refine cA_n ?_
       refine wk_l [(some 68, ⟨68, 7, false, (out2 ++ [x1]).map Lease.c⟩)] [] [(1, .fn (.func so1_F) [] so1_caps), (5, .ref 0 0 (out2 ++ [x1]).length 7), (8, .list 7 (l1.map Lease.c)), (9, .int .i64 (l1.length : Int)), (10, .int .i64 v1)] (by show ([1, 5, 8, 9, 10] : List Nat).Nodup; decide) (by show ([68] : List Nat).Nodup; decide) ?_ ?_ (fun t0 => ⟨(out2 ++ [x1]), t0, H, rfl⟩)
       ·exact (allB_some (by rfl) rfl (.sm _ _ Lease.pu) trivial)
       ·(simp only [AllT, ATT, reduceEqDiff, ↓reduceIte, and_true]); exact ⟨(.fn' .nil (RNs.pu so1_pu)), (.refl' (by first | rfl | omega | (simp; done) | (simp [strBytes_len]; done) | (simp; omega) | (simp_all; done)) rfl), (.lst _ _ _ Lease.pu rfl), (.int' rfl), (.int' rfl)⟩
      ·have H := cond_f zc2 H
       refine a_skip ?_
       refine bA_n ?_
       refine cA_n ?_
       refine wk_l [(some 0, ⟨68, 7, false, out2.map Lease.c⟩)] [] [(1, .fn (.func so1_F) [] so1_caps), (5, .ref 0 0 out2.length 7), (8, .list 7 (l1.map Lease.c)), (9, .int .i64 (l1.length : Int)), (10, .int .i64 v1)] (by show ([1, 5, 8, 9, 10] : List Nat).Nodup; decide) (by show ([0] : List Nat).Nodup; decide) ?_ ?_ (fun t0 => ⟨out2, t0, H, rfl⟩)
       ·exact (allB_some (by rfl) rfl (.sm _ _ Lease.pu) trivial)
       ·(simp only [AllT, ATT, reduceEqDiff, ↓reduceIte, and_true]); exact ⟨(.fn' .nil (RNs.pu so1_pu)), (.refl' (by first | rfl | omega | (simp; done) | (simp [strBytes_len]; done) | (simp; omega) | (simp_all; done)) rfl), (.lst _ _ _ Lease.pu rfl), (.int' rfl), (.int' rfl)⟩
     ·rintro s ⟨out3, t0, H, rfl⟩
      unfold lease_kept_J2 at H
      refine a_reg _ rfl (s := ?zs6) ?_ ?_
      rotate_left
      ·simp only [EVT, stepR, evOp, St.ev, St.app, St.put, wrs, datOf, datOf1, evBin, binInt, TIS, CS, reduceAdd, reduceMul, reduceEqDiff, ↓reduceIte, reduceCtorEq, reduceLT, reduceLeDiff]
       (repeat' apply And.intro) <;> first|rfl|assumption|omega|(simp;done)|(simp;omega)|(simp_all;done)
      refine lA_n ?_
      refine wk_l [(some 0, ⟨68, 7, false, out3.map Lease.c⟩)] [] [(1, .fn (.func so1_F) [] so1_caps), (5, .ref 0 0 out3.length 7), (8, .list 7 (l1.map Lease.c)), (9, .int .i64 (l1.length : Int)), (10, .int .i64 (IntKind.wrap .i64 (v1 + 1)))] (by show ([1, 5, 8, 9, 10] : List Nat).Nodup; decide) (by show ([0] : List Nat).Nodup; decide) ?_ ?_ (fun t0 => ⟨_, Nat.lt_succ_self _, out3, (IntKind.wrap .i64 (v1 + 1)), t0, H, rfl⟩)
      ·exact (allB_some (by rfl) rfl (.sm _ _ Lease.pu) trivial)
      ·(simp only [AllT, ATT, reduceEqDiff, ↓reduceIte, and_true]); exact ⟨(.fn' .nil (RNs.pu so1_pu)), (.refl' (by first | rfl | omega | (simp; done) | (simp [strBytes_len]; done) | (simp; omega) | (simp_all; done)) rfl), (.lst _ _ _ Lease.pu rfl), (.int' rfl), (.int' rfl)⟩
    ·have H := cond_f zc1 H
     refine a_exit ?_
     refine sA_e ?_
     refine lA_e ?_
     refine bA_hit ?_
     refine cA_n ?_
     refine wk_l [(some 0, ⟨68, 7, false, out2.map Lease.c⟩)] [] [(5, .ref 0 0 out2.length 7)] (by show ([5] : List Nat).Nodup; decide) (by show ([0] : List Nat).Nodup; decide) ?_ ?_ (fun t0 => ⟨out2, t0, H, rfl⟩)
     ·exact (allB_some (by rfl) rfl (.sm _ _ Lease.pu) trivial)
     ·(simp only [AllT, ATT, reduceEqDiff, ↓reduceIte, and_true]); exact (.refl' (by first | rfl | omega | (simp; done) | (simp [strBytes_len]; done) | (simp; omega) | (simp_all; done)) rfl)
 ·rintro s ⟨out1, t0, H, rfl⟩
  unfold lease_kept_J1 at H
  refine a_seq ?_
  refine a_reg _ rfl (s := ?zs3) ?_ ?_
  rotate_left
  ·simp only [EVT, stepR, evOp, St.ev, St.app, St.put, wrs, TIS, CS, reduceAdd, reduceMul, reduceEqDiff, ↓reduceIte, reduceCtorEq, reduceLT, reduceLeDiff]
   (repeat' apply And.intro) <;> first|rfl|assumption|omega|(simp;done)|(simp;omega)|(simp_all;done)
  refine sA_n ?_
  refine a_ret ?_
  obtain rfl := Option.some.inj H
  refine eR_r ?_
  refine wk_ln 0 [(some 0, ⟨68, 7, false, out1.map Lease.c⟩)] [] [(4, .ref 0 0 out1.length 7)] (fun i h => absurd h (Nat.not_lt_zero i)) (by show ([4] : List Nat).Nodup; decide) (by show ([0] : List Nat).Nodup; decide) ?_ ?_ (fun t0 => ⟨by first | rfl | (simp only [EVT, resR, single, evLoad, cut, TIS, CS, reduceAdd, reduceEqDiff, ↓reduceIte, reduceCtorEq, reduceLT, reduceLeDiff, reduceSub, Nat.reduceBEq]; (repeat' apply And.intro) <;> first | rfl | (simp; done)), fun j B h => by rcases j with _ | _ <;> first | exact h | (exact absurd h (by simp [hh]))⟩)
  ·exact (allB_some (by rfl) rfl (.sm _ _ Lease.pu) trivial)
  ·(simp only [AllT, ATT, reduceEqDiff, ↓reduceIte, and_true]); exact (.refl' (by first | rfl | omega | (simp; done) | (simp [strBytes_len]; done) | (simp; omega) | (simp_all; done)) rfl)
def lease_Back_1_f (x1 : Lease) (v1 : Int) (v2 : Int) : Option Bool :=
 some ((x1.client != v1) || (x1.ino != v2))
set_option maxHeartbeats 4000000 in
set_option maxRecDepth 20000 in
theorem lease_Back_1_pc {x1 : Lease} {v1 : Int} {v2 : Int} {r : Bool} (H : lease_Back_1_f x1 v1 v2 = some r) : PC Try.prog 44 [.agg (Lease.c x1), .rop ((ci .i64) v1) 0 1, .rop ((ci .i64) v2) 0 1] (.bool r) := by
 refine pcA_of Try.func44 (by rfl) (by decide) 15 (by rfl) [.tmp 4] (by rfl) ?_
 unfold lease_Back_1_f at H
 simp only [ent]
 refine a_seq ?_
 refine a_reg _ rfl (s := ?zs1) ?_ ?_
 rotate_left
 ·simp only [EVT, stepR, evOp, St.ev, St.app, St.put, wrs, allOne, datOf, datOf1, TIS, CS, reduceAdd, reduceMul, reduceEqDiff, ↓reduceIte, reduceCtorEq, reduceLT, reduceLeDiff]
  (repeat' apply And.intro) <;> first|rfl|assumption|omega|(simp;done)|(simp;omega)|(simp_all;done)
 refine sA_n ?_
 refine a_seq ?_
 refine bool_split (b := (x1.client != v1)) (fun zc1 => ?_) (fun zc1 => ?_)
 ·rw [zc1] at H
  refine a_reg _ rfl (s := ?zs2) ?_ ?_
  rotate_left
  ·simp only [EVT, stepR, evOp, St.ev, St.app, St.put, wrs, evFieldAddr, evLoad, cut, evBin, binInt, datOf, datOf1, TIS, CS, reduceAdd, reduceMul, reduceEqDiff, ↓reduceIte, reduceCtorEq, reduceLT, reduceLeDiff, Array.reduceGetElem?, reduceSub, Nat.reduceBEq, ↓zc1]
   try simp only [EVT, stepR, evOp, St.ev, St.app, St.put, wrs, evFieldAddr, evLoad, cut, evBin, binInt, datOf, datOf1, TIS, CS, reduceAdd, reduceMul, reduceEqDiff, ↓reduceIte, reduceCtorEq, reduceLT, reduceLeDiff, Array.reduceGetElem?, reduceSub, Nat.reduceBEq, ↓zc1]
   (repeat' apply And.intro) <;> first|rfl|assumption|omega|(simp;done)|(simp;omega)|(simp_all;done)
  refine sA_n ?_
  refine a_ret ?_
  obtain rfl := Option.some.inj H
  refine e_r2 (d := ?zd1) ?_ ?_
  rotate_left
  ·simp only [EVT, resR, single, evLoad, cut, TIS, CS, reduceAdd, reduceEqDiff, ↓reduceIte, reduceCtorEq, reduceLT, reduceLeDiff, reduceSub, Nat.reduceBEq, zc1]
   (repeat' apply And.intro) <;> first | rfl | assumption | omega | (simp; done)
  exact (.bool' (by first | rfl | assumption | (simp_all; done)))
 ·rw [zc1] at H
  refine a_reg _ rfl (s := ?zs3) ?_ ?_
  rotate_left
  ·simp only [EVT, stepR, evOp, St.ev, St.app, St.put, wrs, evFieldAddr, evLoad, cut, evBin, binInt, datOf, datOf1, TIS, CS, reduceAdd, reduceMul, reduceEqDiff, ↓reduceIte, reduceCtorEq, reduceLT, reduceLeDiff, Array.reduceGetElem?, reduceSub, Nat.reduceBEq, ↓zc1]
   try simp only [EVT, stepR, evOp, St.ev, St.app, St.put, wrs, evFieldAddr, evLoad, cut, evBin, binInt, datOf, datOf1, TIS, CS, reduceAdd, reduceMul, reduceEqDiff, ↓reduceIte, reduceCtorEq, reduceLT, reduceLeDiff, Array.reduceGetElem?, reduceSub, Nat.reduceBEq, ↓zc1]
   (repeat' apply And.intro) <;> first|rfl|assumption|omega|(simp;done)|(simp;omega)|(simp_all;done)
  refine sA_n ?_
  refine a_ret ?_
  obtain rfl := Option.some.inj H
  refine e_r2 (d := ?zd2) ?_ ?_
  rotate_left
  ·simp only [EVT, resR, single, evLoad, cut, TIS, CS, reduceAdd, reduceEqDiff, ↓reduceIte, reduceCtorEq, reduceLT, reduceLeDiff, reduceSub, Nat.reduceBEq, zc1]
   (repeat' apply And.intro) <;> first | rfl | assumption | omega | (simp; done)
  exact (.bool' rfl)
def lease_Back_f (l1 : List Lease) (client1 : Int) (ino1 : Int) : Option (List Lease) :=
 (lease_kept_f l1 (fun y0_ => lease_Back_1_f y0_ client1 ino1)).bind fun r1 => some (r1)
set_option maxHeartbeats 4000000 in
set_option maxRecDepth 20000 in
theorem lease_Back_pc {l1 : List Lease} {client1 : Int} {ino1 : Int} {r : (List Lease)} (H : lease_Back_f l1 client1 ino1 = some r) : PC Try.prog 18 [.list 7 (l1.map Lease.c), .int .i64 client1, .int .i64 ino1] (.list 7 (r.map Lease.c)) := by
 refine pcA_of Try.func18 (by rfl) (by decide) 10 (by rfl) [.tmp 6] (by rfl) ?_
 unfold lease_Back_f at H
 simp only [ent]
 refine a_seq ?_
 refine a_reg _ rfl (s := ?zs1) ?_ ?_
 rotate_left
 ·simp only [EVT, stepR, evOp, St.ev, St.app, St.put, wrs, allOne, datOf, datOf1, TIS, CS, reduceAdd, reduceMul, reduceEqDiff, ↓reduceIte, reduceCtorEq, reduceLT, reduceLeDiff]
  (repeat' apply And.intro) <;> first|rfl|assumption|omega|(simp;done)|(simp;omega)|(simp_all;done)
 refine sA_n ?_
 refine a_seq ?_
 obtain ⟨r1, zh1, H⟩ := bind_some H
 have zk1 := lease_kept_rc (so1 := (fun y0_ => lease_Back_1_f y0_ client1 ino1)) (so1_F := 44) (so1_caps := [.rop ((ci .i64) client1) 0 1, .rop ((ci .i64) ino1) 0 1]) (fun _ _ h => lease_Back_1_pc h) (.cons (.rop _ _ _ ((ci_pu .i64) _)) (.cons (.rop _ _ _ ((ci_pu .i64) _)) .nil)) zh1
 refine a_reg _ rfl (s := ?zs2) ?_ ?_
 rotate_left
 ·try simp only [EVT, stepR, evOp, St.ev, St.app, St.put, wrs, frz, TIS, CS, reduceAdd, reduceMul, reduceEqDiff, ↓reduceIte, reduceCtorEq, reduceLT, reduceLeDiff, reduceSub, Nat.reduceBEq]
  repeat' with_reducible apply And.intro
  all_goals try ((with_reducible show CallR _ _ _ _ _ _ _); refine callR_ownm (l := r1) (c := Lease.c) [0, 1] zk1 Lease.sc (.cons (.lst _ _ _ Lease.pu rfl) (.cons (.fn' .nil (.cons (.box' (by rfl) (by simp) rfl rfl (.cons (.int' rfl) .nil)) (.cons (.box' (by rfl) (by simp) rfl rfl (.cons (.int' rfl) .nil)) .nil))) .nil)) ?_; simp only [EVT, stepR, evOp, St.ev, St.app, St.put, wrs, frz, TIS, CS, reduceAdd, reduceMul, reduceEqDiff, ↓reduceIte, reduceCtorEq, reduceLT, reduceLeDiff, reduceSub, Nat.reduceBEq])
  all_goals ((repeat' apply And.intro) <;> first|rfl|assumption|omega|(simp;done)|(simp;omega)|(simp_all;done))
 refine sA_n ?_
 refine a_ret ?_
 obtain rfl := Option.some.inj H
 refine e_r2 (d := ?zd1) ?_ ?_
 rotate_left
 ·simp only [EVT, resR, single, evLoad, cut, TIS, CS, reduceAdd, reduceEqDiff, ↓reduceIte, reduceCtorEq, reduceLT, reduceLeDiff, reduceSub, Nat.reduceBEq]
  (repeat' apply And.intro) <;> first | rfl | assumption | omega | (simp; done)
 exact (.ownL (by rfl) (fun e => by cases e) rfl (by first | rfl | omega | (simp; done) | (simp [strBytes_len]; done) | (simp; omega) | (simp_all; done)) (.sm _ _ Lease.pu))
def lease_Over_1_f (x1 : Lease) (v1 : Int) : Option Bool :=
 some ((decide (v1 < x1.until_)))
set_option maxHeartbeats 4000000 in
set_option maxRecDepth 20000 in
theorem lease_Over_1_pc {x1 : Lease} {v1 : Int} {r : Bool} (H : lease_Over_1_f x1 v1 = some r) : PC Try.prog 72 [.agg (Lease.c x1), .rop ((ci .i64) v1) 0 1] (.bool r) := by
 refine pcA_of Try.func72 (by rfl) (by decide) 8 (by rfl) [.tmp 3] (by rfl) ?_
 unfold lease_Over_1_f at H
 simp only [ent]
 refine a_seq ?_
 refine a_reg _ rfl (s := ?zs1) ?_ ?_
 rotate_left
 ·simp only [EVT, stepR, evOp, St.ev, St.app, St.put, wrs, allOne, datOf, datOf1, TIS, CS, reduceAdd, reduceMul, reduceEqDiff, ↓reduceIte, reduceCtorEq, reduceLT, reduceLeDiff]
  (repeat' apply And.intro) <;> first|rfl|assumption|omega|(simp;done)|(simp;omega)|(simp_all;done)
 refine sA_n ?_
 refine a_seq ?_
 refine a_reg _ rfl (s := ?zs2) ?_ ?_
 rotate_left
 ·simp only [EVT, stepR, evOp, St.ev, St.app, St.put, wrs, evFieldAddr, evLoad, cut, evBin, binInt, TIS, CS, reduceAdd, reduceMul, reduceEqDiff, ↓reduceIte, reduceCtorEq, reduceLT, reduceLeDiff, reduceSub, Nat.reduceBEq]
  (repeat' apply And.intro) <;> first|rfl|assumption|omega|(simp;done)|(simp;omega)|(simp_all;done)
 refine sA_n ?_
 refine a_ret ?_
 obtain rfl := Option.some.inj H
 refine e_r2 (d := ?zd1) ?_ ?_
 rotate_left
 ·simp only [EVT, resR, single, evLoad, cut, TIS, CS, reduceAdd, reduceEqDiff, ↓reduceIte, reduceCtorEq, reduceLT, reduceLeDiff, reduceSub, Nat.reduceBEq]
  (repeat' apply And.intro) <;> first | rfl | assumption | omega | (simp; done)
 exact (.bool' rfl)
def lease_Over_f (l1 : List Lease) (now1 : Int) : Option (List Lease) :=
 (lease_kept_f l1 (fun y0_ => lease_Over_1_f y0_ now1)).bind fun r1 => some (r1)
set_option maxHeartbeats 4000000 in
set_option maxRecDepth 20000 in
theorem lease_Over_pc {l1 : List Lease} {now1 : Int} {r : (List Lease)} (H : lease_Over_f l1 now1 = some r) : PC Try.prog 60 [.list 7 (l1.map Lease.c), .int .i64 now1] (.list 7 (r.map Lease.c)) := by
 refine pcA_of Try.func60 (by rfl) (by decide) 8 (by rfl) [.tmp 4] (by rfl) ?_
 unfold lease_Over_f at H
 simp only [ent]
 refine a_seq ?_
 refine a_reg _ rfl (s := ?zs1) ?_ ?_
 rotate_left
 ·simp only [EVT, stepR, evOp, St.ev, St.app, St.put, wrs, allOne, datOf, datOf1, TIS, CS, reduceAdd, reduceMul, reduceEqDiff, ↓reduceIte, reduceCtorEq, reduceLT, reduceLeDiff]
  (repeat' apply And.intro) <;> first|rfl|assumption|omega|(simp;done)|(simp;omega)|(simp_all;done)
 refine sA_n ?_
 refine a_seq ?_
 obtain ⟨r1, zh1, H⟩ := bind_some H
 have zk1 := lease_kept_rc (so1 := (fun y0_ => lease_Over_1_f y0_ now1)) (so1_F := 72) (so1_caps := [.rop ((ci .i64) now1) 0 1]) (fun _ _ h => lease_Over_1_pc h) (.cons (.rop _ _ _ ((ci_pu .i64) _)) .nil) zh1
 refine a_reg _ rfl (s := ?zs2) ?_ ?_
 rotate_left
 ·try simp only [EVT, stepR, evOp, St.ev, St.app, St.put, wrs, frz, TIS, CS, reduceAdd, reduceMul, reduceEqDiff, ↓reduceIte, reduceCtorEq, reduceLT, reduceLeDiff, reduceSub, Nat.reduceBEq]
  repeat' with_reducible apply And.intro
  all_goals try ((with_reducible show CallR _ _ _ _ _ _ _); refine callR_ownm (l := r1) (c := Lease.c) [0] zk1 Lease.sc (.cons (.lst _ _ _ Lease.pu rfl) (.cons (.fn' .nil (.cons (.box' (by rfl) (by simp) rfl rfl (.cons (.int' rfl) .nil)) .nil)) .nil)) ?_; simp only [EVT, stepR, evOp, St.ev, St.app, St.put, wrs, frz, TIS, CS, reduceAdd, reduceMul, reduceEqDiff, ↓reduceIte, reduceCtorEq, reduceLT, reduceLeDiff, reduceSub, Nat.reduceBEq])
  all_goals ((repeat' apply And.intro) <;> first|rfl|assumption|omega|(simp;done)|(simp;omega)|(simp_all;done))
 refine sA_n ?_
 refine a_ret ?_
 obtain rfl := Option.some.inj H
 refine e_r2 (d := ?zd1) ?_ ?_
 rotate_left
 ·simp only [EVT, resR, single, evLoad, cut, TIS, CS, reduceAdd, reduceEqDiff, ↓reduceIte, reduceCtorEq, reduceLT, reduceLeDiff, reduceSub, Nat.reduceBEq]
  (repeat' apply And.intro) <;> first | rfl | assumption | omega | (simp; done)
 exact (.ownL (by rfl) (fun e => by cases e) rfl (by first | rfl | omega | (simp; done) | (simp [strBytes_len]; done) | (simp; omega) | (simp_all; done)) (.sm _ _ Lease.pu))
def lease_Ask_1_f (x1 : Lease) (v1 : Lease) : Option Bool :=
 (lease_clash_f x1 v1).bind fun r1 => some (r1)
set_option maxHeartbeats 4000000 in
set_option maxRecDepth 20000 in
theorem lease_Ask_1_pc {x1 : Lease} {v1 : Lease} {r : Bool} (H : lease_Ask_1_f x1 v1 = some r) : PC Try.prog 61 [.agg (Lease.c x1), .rop (Lease.c v1) 0 7] (.bool r) := by
 refine pcA_of Try.func61 (by rfl) (by decide) 7 (by rfl) [.tmp 3] (by rfl) ?_
 unfold lease_Ask_1_f at H
 simp only [ent]
 refine a_seq ?_
 refine a_reg _ rfl (s := ?zs1) ?_ ?_
 rotate_left
 ·simp only [EVT, stepR, evOp, St.ev, St.app, St.put, wrs, allOne, datOf, datOf1, TIS, CS, reduceAdd, reduceMul, reduceEqDiff, ↓reduceIte, reduceCtorEq, reduceLT, reduceLeDiff]
  (repeat' apply And.intro) <;> first|rfl|assumption|omega|(simp;done)|(simp;omega)|(simp_all;done)
 refine sA_n ?_
 refine a_seq ?_
 obtain ⟨r1, zh1, H⟩ := bind_some H
 have zk1 := lease_clash_pc zh1
 refine a_reg _ rfl (s := ?zs2) ?_ ?_
 rotate_left
 ·try simp only [EVT, stepR, evOp, St.ev, St.app, St.put, wrs, evLoad, cut, frz, TIS, CS, reduceAdd, reduceMul, reduceEqDiff, ↓reduceIte, reduceCtorEq, reduceLT, reduceLeDiff, reduceSub, Nat.reduceBEq]
  repeat' with_reducible apply And.intro
  all_goals try ((with_reducible show CallR _ _ _ _ _ _ _); refine cR_s zk1 (.cons (.agg' (.cons (.int' rfl) (.cons (.int' rfl) (.cons (.int' rfl) (.cons (.int' rfl) (.cons (.int' rfl) (.cons (.int' rfl) (.cons (.int' rfl) .nil)))))))) (.cons (.agg' (.cons (.int' rfl) (.cons (.int' rfl) (.cons (.int' rfl) (.cons (.int' rfl) (.cons (.int' rfl) (.cons (.int' rfl) (.cons (.int' rfl) .nil)))))))) .nil)) (.bool _) ?_; simp only [EVT, stepR, evOp, St.ev, St.app, St.put, wrs, evLoad, cut, frz, TIS, CS, reduceAdd, reduceMul, reduceEqDiff, ↓reduceIte, reduceCtorEq, reduceLT, reduceLeDiff, reduceSub, Nat.reduceBEq])
  all_goals ((repeat' apply And.intro) <;> first|rfl|assumption|omega|(simp;done)|(simp;omega)|(simp_all;done))
 refine sA_n ?_
 refine a_ret ?_
 obtain rfl := Option.some.inj H
 refine e_r2 (d := ?zd1) ?_ ?_
 rotate_left
 ·simp only [EVT, resR, single, evLoad, cut, TIS, CS, reduceAdd, reduceEqDiff, ↓reduceIte, reduceCtorEq, reduceLT, reduceLeDiff, reduceSub, Nat.reduceBEq]
  (repeat' apply And.intro) <;> first | rfl | assumption | omega | (simp; done)
 exact (.bool' rfl)
def lease_Ask_2_f (x1 : Lease) (v1 : Lease) : Option Bool :=
 some ((x1.client != v1.client) || ((x1.ino != v1.ino) || ((x1.kind != v1.kind) || (!((x1.span.from_ == v1.span.from_) && (x1.span.to_ == v1.span.to_))))))
set_option maxHeartbeats 4000000 in
set_option maxRecDepth 20000 in
theorem lease_Ask_2_pc {x1 : Lease} {v1 : Lease} {r : Bool} (H : lease_Ask_2_f x1 v1 = some r) : PC Try.prog 63 [.agg (Lease.c x1), .rop (Lease.c v1) 0 7] (.bool r) := by
 refine pcA_of Try.func63 (by rfl) (by decide) 30 (by rfl) [.tmp 3] (by rfl) ?_
 unfold lease_Ask_2_f at H
 simp only [ent]
 refine a_seq ?_
 refine a_reg _ rfl (s := ?zs1) ?_ ?_
 rotate_left
 ·simp only [EVT, stepR, evOp, St.ev, St.app, St.put, wrs, allOne, datOf, datOf1, TIS, CS, reduceAdd, reduceMul, reduceEqDiff, ↓reduceIte, reduceCtorEq, reduceLT, reduceLeDiff]
  (repeat' apply And.intro) <;> first|rfl|assumption|omega|(simp;done)|(simp;omega)|(simp_all;done)
 refine sA_n ?_
 refine a_seq ?_
 refine bool_split (b := (x1.client != v1.client)) (fun zc1 => ?_) (fun zc1 => ?_)
 ·rw [zc1] at H
  refine a_reg _ rfl (s := ?zs2) ?_ ?_
  rotate_left
  ·simp only [EVT, stepR, evOp, St.ev, St.app, St.put, wrs, evFieldAddr, evLoad, cut, evBin, binInt, datOf, datOf1, TIS, CS, reduceAdd, reduceMul, reduceEqDiff, ↓reduceIte, reduceCtorEq, reduceLT, reduceLeDiff, Array.reduceGetElem?, reduceSub, Nat.reduceBEq, ↓zc1]
   try simp only [EVT, stepR, evOp, St.ev, St.app, St.put, wrs, evFieldAddr, evLoad, cut, evBin, binInt, datOf, datOf1, TIS, CS, reduceAdd, reduceMul, reduceEqDiff, ↓reduceIte, reduceCtorEq, reduceLT, reduceLeDiff, Array.reduceGetElem?, reduceSub, Nat.reduceBEq, ↓zc1]
   (repeat' apply And.intro) <;> first|rfl|assumption|omega|(simp;done)|(simp;omega)|(simp_all;done)
  refine sA_n ?_
  refine a_ret ?_
  obtain rfl := Option.some.inj H
  refine e_r2 (d := ?zd1) ?_ ?_
  rotate_left
  ·simp only [EVT, resR, single, evLoad, cut, TIS, CS, reduceAdd, reduceEqDiff, ↓reduceIte, reduceCtorEq, reduceLT, reduceLeDiff, reduceSub, Nat.reduceBEq, zc1]
   (repeat' apply And.intro) <;> first | rfl | assumption | omega | (simp; done)
  exact (.bool' (by first | rfl | assumption | (simp_all; done)))
 ·rw [zc1] at H
  refine bool_split (b := (x1.ino != v1.ino)) (fun zc2 => ?_) (fun zc2 => ?_)
  ·rw [zc2] at H
   refine a_reg _ rfl (s := ?zs3) ?_ ?_
   rotate_left
   ·simp only [EVT, stepR, evOp, St.ev, St.app, St.put, wrs, evFieldAddr, evLoad, cut, evBin, binInt, datOf, datOf1, TIS, CS, reduceAdd, reduceMul, reduceEqDiff, ↓reduceIte, reduceCtorEq, reduceLT, reduceLeDiff, Array.reduceGetElem?, reduceSub, Nat.reduceBEq, ↓zc1, ↓zc2]
    try simp only [EVT, stepR, evOp, St.ev, St.app, St.put, wrs, evFieldAddr, evLoad, cut, evBin, binInt, datOf, datOf1, TIS, CS, reduceAdd, reduceMul, reduceEqDiff, ↓reduceIte, reduceCtorEq, reduceLT, reduceLeDiff, Array.reduceGetElem?, reduceSub, Nat.reduceBEq, ↓zc1, ↓zc2]
    (repeat' apply And.intro) <;> first|rfl|assumption|omega|(simp;done)|(simp;omega)|(simp_all;done)
   refine sA_n ?_
   refine a_ret ?_
   obtain rfl := Option.some.inj H
   refine e_r2 (d := ?zd2) ?_ ?_
   rotate_left
   ·simp only [EVT, resR, single, evLoad, cut, TIS, CS, reduceAdd, reduceEqDiff, ↓reduceIte, reduceCtorEq, reduceLT, reduceLeDiff, reduceSub, Nat.reduceBEq, zc1, zc2]
    (repeat' apply And.intro) <;> first | rfl | assumption | omega | (simp; done)
   exact (.bool' (by first | rfl | assumption | (simp_all; done)))
  ·rw [zc2] at H
   refine bool_split (b := (x1.kind != v1.kind)) (fun zc3 => ?_) (fun zc3 => ?_)
   ·rw [zc3] at H
    refine a_reg _ rfl (s := ?zs4) ?_ ?_
    rotate_left
    ·simp only [EVT, stepR, evOp, St.ev, St.app, St.put, wrs, evFieldAddr, evLoad, cut, evBin, binInt, datOf, datOf1, TIS, CS, reduceAdd, reduceMul, reduceEqDiff, ↓reduceIte, reduceCtorEq, reduceLT, reduceLeDiff, Array.reduceGetElem?, reduceSub, Nat.reduceBEq, ↓zc1, ↓zc2, ↓zc3]
     try simp only [EVT, stepR, evOp, St.ev, St.app, St.put, wrs, evFieldAddr, evLoad, cut, evBin, binInt, datOf, datOf1, TIS, CS, reduceAdd, reduceMul, reduceEqDiff, ↓reduceIte, reduceCtorEq, reduceLT, reduceLeDiff, Array.reduceGetElem?, reduceSub, Nat.reduceBEq, ↓zc1, ↓zc2, ↓zc3]
     (repeat' apply And.intro) <;> first|rfl|assumption|omega|(simp;done)|(simp;omega)|(simp_all;done)
    refine sA_n ?_
    refine a_ret ?_
    obtain rfl := Option.some.inj H
    refine e_r2 (d := ?zd3) ?_ ?_
    rotate_left
    ·simp only [EVT, resR, single, evLoad, cut, TIS, CS, reduceAdd, reduceEqDiff, ↓reduceIte, reduceCtorEq, reduceLT, reduceLeDiff, reduceSub, Nat.reduceBEq, zc1, zc2, zc3]
     (repeat' apply And.intro) <;> first | rfl | assumption | omega | (simp; done)
    exact (.bool' (by first | rfl | assumption | (simp_all; done)))
   ·rw [zc3] at H
    refine a_reg _ rfl (s := ?zs5) ?_ ?_
    rotate_left
    ·try simp only [EVT, stepR, evOp, St.ev, St.app, St.put, wrs, evFieldAddr, evLoad, cut, evBin, binInt, datOf, datOf1, TIS, othE, evAppStr, strCells_eq, strBytes_len, CS, reduceAdd, reduceMul, reduceEqDiff, ↓reduceIte, reduceCtorEq, reduceLT, reduceLeDiff, Array.reduceGetElem?, reduceSub, Nat.reduceBEq, ↓zc1, ↓zc2, ↓zc3]
     repeat' with_reducible apply And.intro
     all_goals try ((with_reducible show OthR _ _ _ _ _); refine oth_rows (us := [(.i64, x1.span.from_), (.i64, x1.span.to_)]) (vs := [(.i64, v1.span.from_), (.i64, v1.span.to_)]) rfl rfl rfl (by kernel_rfl) (fun w => neq53 _ _ _ _ w) ?_; simp only [EVT, stepR, evOp, St.ev, St.app, St.put, wrs, evFieldAddr, evLoad, cut, evBin, binInt, datOf, datOf1, TIS, othE, evAppStr, strCells_eq, strBytes_len, CS, reduceAdd, reduceMul, reduceEqDiff, ↓reduceIte, reduceCtorEq, reduceLT, reduceLeDiff, Array.reduceGetElem?, reduceSub, Nat.reduceBEq, ↓zc1, ↓zc2, ↓zc3])
     all_goals ((repeat' apply And.intro) <;> first|rfl|assumption|omega|(simp;done)|(simp;omega)|(simp_all;done))
    refine sA_n ?_
    refine a_ret ?_
    obtain rfl := Option.some.inj H
    refine e_r2 (d := ?zd4) ?_ ?_
    rotate_left
    ·simp only [EVT, resR, single, evLoad, cut, TIS, CS, reduceAdd, reduceEqDiff, ↓reduceIte, reduceCtorEq, reduceLT, reduceLeDiff, reduceSub, Nat.reduceBEq, zc1, zc2, zc3]
     (repeat' apply And.intro) <;> first | rfl | assumption | omega | (simp; done)
    exact (.bool' rfl)
def cmp_Or_J1 : Option Int :=
 some (0)
def cmp_Or_L1 (vals1 : List Int) : Nat → Int → Option Int
 | 0, _ => none
 | m_ + 1, v1 => cond (decide (v1 < (vals1.length : Int))) ((idx vals1 v1).bind fun x1 => cond (x1 != 0) (some (x1)) (cmp_Or_L1 vals1 m_ (IntKind.wrap .i64 (v1 + 1)))) (cmp_Or_J1)
def cmp_Or_f (vals1 : List Int) : Option Int :=
 cmp_Or_L1 vals1 BIG 0
set_option maxHeartbeats 4000000 in
set_option maxRecDepth 20000 in
theorem cmp_Or_pc {vals1 : List Int} {r : Int} (H : cmp_Or_f vals1 = some r) : PC Try.prog 56 [.list 1 (vals1.map (ci .i64))] (.int .i64 r) := by
 refine pcA_of Try.func56 (by rfl) (by decide) 18 (by rfl) [.tmp 2] (by rfl) ?_
 unfold cmp_Or_f at H
 simp only [ent]
 refine a_seq ?_
 refine a_reg _ rfl (s := ?zs1) ?_ ?_
 rotate_left
 ·simp only [EVT, stepR, evOp, St.ev, St.app, St.put, wrs, datOf, datOf1, TIS, CS, reduceAdd, reduceMul, reduceEqDiff, ↓reduceIte, reduceCtorEq, reduceLT, reduceLeDiff]
  (repeat' apply And.intro) <;> first|rfl|assumption|omega|(simp;done)|(simp;omega)|(simp_all;done)
 refine sA_n ?_
 refine a_seq ?_
 refine a_reg _ rfl (s := ?zs2) ?_ ?_
 rotate_left
 ·simp only [EVT, stepR, evOp, St.ev, St.app, St.put, wrs, datOf, datOf1, TIS, CS, reduceAdd, reduceMul, reduceEqDiff, ↓reduceIte, reduceCtorEq, reduceLT, reduceLeDiff]
  (repeat' apply And.intro) <;> first|rfl|assumption|omega|(simp;done)|(simp;omega)|(simp_all;done)
 refine sA_n ?_
 refine a_cut (fun s => ∃ (t0 : Nat → Dat), cmp_Or_J1 = some r ∧ s = ⟨tl t0 [(3, .int .i64 0)], hl [], 0, 18⟩) ?_ ?_
 ·refine a_seq ?_
  refine a_reg _ rfl (s := ?zs4) ?_ ?_
  rotate_left
  ·simp only [EVT, stepR, evOp, St.ev, St.app, St.put, wrs, evBuiltin, datOf, datOf1, TIS, CS, reduceAdd, reduceMul, reduceEqDiff, ↓reduceIte, reduceCtorEq, reduceLT, reduceLeDiff, reduceSub, Nat.reduceBEq]
   (repeat' apply And.intro) <;> first|rfl|assumption|omega|(simp;done)|(simp;omega)|(simp_all;done)
  refine sA_n ?_
  refine a_blk ?_
  refine a_loop (fun m s => ∃ (v1 : Int) (t0 : Nat → Dat), cmp_Or_L1 vals1 m v1 = some r ∧ s = ⟨tl t0 [(3, .int .i64 0), (6, .list 1 (vals1.map (ci .i64))), (7, .int .i64 (vals1.length : Int)), (8, .int .i64 v1)], hl [], 0, 18⟩) BIG ?_ ?_
  ·refine wk_l [] [] [(3, .int .i64 0), (6, .list 1 (vals1.map (ci .i64))), (7, .int .i64 (vals1.length : Int)), (8, .int .i64 0)] (by show ([3, 6, 7, 8] : List Nat).Nodup; decide) (by show ([] : List Nat).Nodup; decide) ?_ ?_ (fun t0 => ⟨0, t0, H, rfl⟩)
   ·exact trivial
   ·(simp only [AllT, ATT, reduceEqDiff, ↓reduceIte, and_true]); exact ⟨(.int' rfl), (.lst _ _ _ (ci_pu .i64) rfl), (.int' rfl), (.int' rfl)⟩
  ·rintro m_cmp_Or_L1 s ⟨v1, t0, H, rfl⟩
   obtain _ | m_cmp_Or_L1 := m_cmp_Or_L1
   ·cases (show (none : Option _) = some _ from H)
   ·rw [cmp_Or_L1] at H
    refine a_seq ?_
    refine a_reg _ rfl (s := ?zs5) ?_ ?_
    rotate_left
    ·simp only [EVT, stepR, evOp, St.ev, St.app, St.put, wrs, evBin, binInt, TIS, CS, reduceAdd, reduceMul, reduceEqDiff, ↓reduceIte, reduceCtorEq, reduceLT, reduceLeDiff]
     (repeat' apply And.intro) <;> first|rfl|assumption|omega|(simp;done)|(simp;omega)|(simp_all;done)
    refine sA_n ?_
    refine a_seq ?_
    refine a_condb ((decide (v1 < (vals1.length : Int)))) (by rfl) (fun zc1 => ?_) (fun zc1 => ?_)
    ·have H := cond_t zc1 H
     refine a_skip ?_
     refine sA_n ?_
     refine a_seq ?_
     refine a_blk ?_
     refine a_seq ?_
     obtain ⟨x1, zh1, H⟩ := bind_some H
     have zg1 := idx_map zh1 (ci .i64)
     try simp only [Int.reduceToNat, Int.toNat_natCast] at zg1
     obtain ⟨zh1a, zh1b, _⟩ := idx_some zh1
     refine a_reg _ rfl (s := ?zs6) ?_ ?_
     rotate_left
     ·simp only [EVT, stepR, evOp, St.ev, St.app, St.put, wrs, evIndexAddr, evLoad, cut, TIS, CS, reduceAdd, reduceMul, reduceEqDiff, ↓reduceIte, reduceCtorEq, reduceLT, reduceLeDiff, Int.reduceToNat, reduceSub, Nat.reduceBEq, ↓zc1, zg1]
      (repeat' apply And.intro) <;> first|rfl|assumption|omega|(simp;done)|(simp;omega)|(simp_all;done)
     refine sA_n ?_
     refine a_seq ?_
     refine a_reg _ rfl (s := ?zs7) ?_ ?_
     rotate_left
     ·simp only [EVT, stepR, evOp, St.ev, St.app, St.put, wrs, evBin, binInt, TIS, CS, reduceAdd, reduceMul, reduceEqDiff, ↓reduceIte, reduceCtorEq, reduceLT, reduceLeDiff, ↓zc1, zg1]
      (repeat' apply And.intro) <;> first|rfl|assumption|omega|(simp;done)|(simp;omega)|(simp_all;done)
     refine sA_n ?_
     refine a_condb ((x1 != 0)) (by rfl) (fun zc2 => ?_) (fun zc2 => ?_)
     ·have H := cond_t zc2 H
      refine a_seq ?_
      refine a_reg _ rfl (s := ?zs8) ?_ ?_
      rotate_left
      ·simp only [EVT, stepR, evOp, St.ev, St.app, St.put, wrs, TIS, CS, reduceAdd, reduceMul, reduceEqDiff, ↓reduceIte, reduceCtorEq, reduceLT, reduceLeDiff, ↓zc1, zg1, ↓zc2]
       (repeat' apply And.intro) <;> first|rfl|assumption|omega|(simp;done)|(simp;omega)|(simp_all;done)
      refine sA_n ?_
      refine a_ret ?_
      refine bA_r ?_
      refine sA_r ?_
      refine lA_r ?_
      refine bA_r ?_
      refine cA_r ?_
      obtain rfl := Option.some.inj H
      refine e_r2 (d := ?zd2) ?_ ?_
      rotate_left
      ·simp only [EVT, resR, single, evLoad, cut, TIS, CS, reduceAdd, reduceEqDiff, ↓reduceIte, reduceCtorEq, reduceLT, reduceLeDiff, reduceSub, Nat.reduceBEq, zc1, zg1, zc2]
       (repeat' apply And.intro) <;> first | rfl | assumption | omega | (simp; done)
      exact (.int' rfl)
     ·have H := cond_f zc2 H
      refine a_skip ?_
      refine bA_n ?_
      refine sA_n ?_
      refine a_reg _ rfl (s := ?zs9) ?_ ?_
      rotate_left
      ·simp only [EVT, stepR, evOp, St.ev, St.app, St.put, wrs, datOf, datOf1, evBin, binInt, TIS, CS, reduceAdd, reduceMul, reduceEqDiff, ↓reduceIte, reduceCtorEq, reduceLT, reduceLeDiff, ↓zc1, zg1, ↓zc2]
       (repeat' apply And.intro) <;> first|rfl|assumption|omega|(simp;done)|(simp;omega)|(simp_all;done)
      refine lA_n ?_
      refine wk_l [] [] [(3, .int .i64 0), (6, .list 1 (vals1.map (ci .i64))), (7, .int .i64 (vals1.length : Int)), (8, .int .i64 (IntKind.wrap .i64 (v1 + 1)))] (by show ([3, 6, 7, 8] : List Nat).Nodup; decide) (by show ([] : List Nat).Nodup; decide) ?_ ?_ (fun t0 => ⟨_, Nat.lt_succ_self _, (IntKind.wrap .i64 (v1 + 1)), t0, H, rfl⟩)
      ·exact trivial
      ·(simp only [AllT, ATT, reduceEqDiff, ↓reduceIte, and_true]); exact ⟨(.int' rfl), (.lst _ _ _ (ci_pu .i64) rfl), (.int' rfl), (.int' rfl)⟩
    ·have H := cond_f zc1 H
     refine a_exit ?_
     refine sA_e ?_
     refine lA_e ?_
     refine bA_hit ?_
     refine cA_n ?_
     refine wk_l [] [] [(3, .int .i64 0)] (by show ([3] : List Nat).Nodup; decide) (by show ([] : List Nat).Nodup; decide) ?_ ?_ (fun t0 => ⟨t0, H, rfl⟩)
     ·exact trivial
     ·(simp only [AllT, ATT, reduceEqDiff, ↓reduceIte, and_true]); exact (.int' rfl)
 ·rintro s ⟨t0, H, rfl⟩
  unfold cmp_Or_J1 at H
  refine a_seq ?_
  refine a_reg _ rfl (s := ?zs3) ?_ ?_
  rotate_left
  ·simp only [EVT, stepR, evOp, St.ev, St.app, St.put, wrs, TIS, CS, reduceAdd, reduceMul, reduceEqDiff, ↓reduceIte, reduceCtorEq, reduceLT, reduceLeDiff]
   (repeat' apply And.intro) <;> first|rfl|assumption|omega|(simp;done)|(simp;omega)|(simp_all;done)
  refine sA_n ?_
  refine a_ret ?_
  obtain rfl := Option.some.inj H
  refine e_r2 (d := ?zd1) ?_ ?_
  rotate_left
  ·simp only [EVT, resR, single, evLoad, cut, TIS, CS, reduceAdd, reduceEqDiff, ↓reduceIte, reduceCtorEq, reduceLT, reduceLeDiff, reduceSub, Nat.reduceBEq]
   (repeat' apply And.intro) <;> first | rfl | assumption | omega | (simp; done)
  exact (.int' rfl)
def cmp_isNaN_f (x1 : Int) : Option Bool :=
 some ((x1 != x1))
set_option maxHeartbeats 4000000 in
set_option maxRecDepth 20000 in
theorem cmp_isNaN_pc {x1 : Int} {r : Bool} (H : cmp_isNaN_f x1 = some r) : PC Try.prog 70 [.int .i64 x1] (.bool r) := by
 refine pcA_of Try.func70 (by rfl) (by decide) 6 (by rfl) [.tmp 2] (by rfl) ?_
 unfold cmp_isNaN_f at H
 simp only [ent]
 refine a_seq ?_
 refine a_reg _ rfl (s := ?zs1) ?_ ?_
 rotate_left
 ·simp only [EVT, stepR, evOp, St.ev, St.app, St.put, wrs, datOf, datOf1, TIS, CS, reduceAdd, reduceMul, reduceEqDiff, ↓reduceIte, reduceCtorEq, reduceLT, reduceLeDiff]
  (repeat' apply And.intro) <;> first|rfl|assumption|omega|(simp;done)|(simp;omega)|(simp_all;done)
 refine sA_n ?_
 refine a_seq ?_
 refine a_reg _ rfl (s := ?zs2) ?_ ?_
 rotate_left
 ·simp only [EVT, stepR, evOp, St.ev, St.app, St.put, wrs, evBin, binInt, TIS, CS, reduceAdd, reduceMul, reduceEqDiff, ↓reduceIte, reduceCtorEq, reduceLT, reduceLeDiff]
  (repeat' apply And.intro) <;> first|rfl|assumption|omega|(simp;done)|(simp;omega)|(simp_all;done)
 refine sA_n ?_
 refine a_ret ?_
 obtain rfl := Option.some.inj H
 refine e_r2 (d := ?zd1) ?_ ?_
 rotate_left
 ·simp only [EVT, resR, single, evLoad, cut, TIS, CS, reduceAdd, reduceEqDiff, ↓reduceIte, reduceCtorEq, reduceLT, reduceLeDiff, reduceSub, Nat.reduceBEq]
  (repeat' apply And.intro) <;> first | rfl | assumption | omega | (simp; done)
 exact (.bool' rfl)
def cmp_Compare_f (x1 : Int) (y1 : Int) : Option Int :=
 (cmp_isNaN_f x1).bind fun r1 => (cmp_isNaN_f y1).bind fun r2 => cond r1 (cond r2 (some (0)) (some ((-1)))) (cond r2 (some (1)) (cond (decide (x1 < y1)) (some ((-1))) (cond (decide (y1 < x1)) (some (1)) (some (0)))))
set_option maxHeartbeats 4000000 in
set_option maxRecDepth 20000 in
theorem cmp_Compare_pc {x1 : Int} {y1 : Int} {r : Int} (H : cmp_Compare_f x1 y1 = some r) : PC Try.prog 57 [.int .i64 x1, .int .i64 y1] (.int .i64 r) := by
 refine pcA_of Try.func57 (by rfl) (by decide) 20 (by rfl) [.tmp 4] (by rfl) ?_
 unfold cmp_Compare_f at H
 simp only [ent]
 refine a_seq ?_
 refine a_reg _ rfl (s := ?zs1) ?_ ?_
 rotate_left
 ·simp only [EVT, stepR, evOp, St.ev, St.app, St.put, wrs, datOf, datOf1, TIS, CS, reduceAdd, reduceMul, reduceEqDiff, ↓reduceIte, reduceCtorEq, reduceLT, reduceLeDiff]
  (repeat' apply And.intro) <;> first|rfl|assumption|omega|(simp;done)|(simp;omega)|(simp_all;done)
 refine sA_n ?_
 refine a_seq ?_
 obtain ⟨r1, zh1, H⟩ := bind_some H
 have zk1 := cmp_isNaN_pc zh1
 refine a_reg _ rfl (s := ?zs2) ?_ ?_
 rotate_left
 ·try simp only [EVT, stepR, evOp, St.ev, St.app, St.put, wrs, frz, TIS, CS, reduceAdd, reduceMul, reduceEqDiff, ↓reduceIte, reduceCtorEq, reduceLT, reduceLeDiff, reduceSub, Nat.reduceBEq]
  repeat' with_reducible apply And.intro
  all_goals try ((with_reducible show CallR _ _ _ _ _ _ _); refine cR_s zk1 (.cons (.int' rfl) .nil) (.bool _) ?_; simp only [EVT, stepR, evOp, St.ev, St.app, St.put, wrs, frz, TIS, CS, reduceAdd, reduceMul, reduceEqDiff, ↓reduceIte, reduceCtorEq, reduceLT, reduceLeDiff, reduceSub, Nat.reduceBEq])
  all_goals ((repeat' apply And.intro) <;> first|rfl|assumption|omega|(simp;done)|(simp;omega)|(simp_all;done))
 refine sA_n ?_
 refine a_seq ?_
 obtain ⟨r2, zh2, H⟩ := bind_some H
 have zk2 := cmp_isNaN_pc zh2
 refine a_reg _ rfl (s := ?zs3) ?_ ?_
 rotate_left
 ·try simp only [EVT, stepR, evOp, St.ev, St.app, St.put, wrs, frz, TIS, CS, reduceAdd, reduceMul, reduceEqDiff, ↓reduceIte, reduceCtorEq, reduceLT, reduceLeDiff, reduceSub, Nat.reduceBEq]
  repeat' with_reducible apply And.intro
  all_goals try ((with_reducible show CallR _ _ _ _ _ _ _); refine cR_s zk2 (.cons (.int' rfl) .nil) (.bool _) ?_; simp only [EVT, stepR, evOp, St.ev, St.app, St.put, wrs, frz, TIS, CS, reduceAdd, reduceMul, reduceEqDiff, ↓reduceIte, reduceCtorEq, reduceLT, reduceLeDiff, reduceSub, Nat.reduceBEq])
  all_goals ((repeat' apply And.intro) <;> first|rfl|assumption|omega|(simp;done)|(simp;omega)|(simp_all;done))
 refine sA_n ?_
 refine a_seq ?_
 refine a_seq ?_
 refine a_reg _ rfl (s := ?zs4) ?_ ?_
 rotate_left
 ·simp only [EVT, stepR, evOp, St.ev, St.app, St.put, wrs, TIS, CS, reduceAdd, reduceMul, reduceEqDiff, ↓reduceIte, reduceCtorEq, reduceLT, reduceLeDiff]
  (repeat' apply And.intro) <;> first|rfl|assumption|omega|(simp;done)|(simp;omega)|(simp_all;done)
 refine sA_n ?_
 refine a_condb (r1) (by rfl) (fun zc1 => ?_) (fun zc1 => ?_)
 ·have H := cond_t zc1 H
  refine a_seq ?_
  refine a_seq ?_
  refine a_reg _ rfl (s := ?zs5) ?_ ?_
  rotate_left
  ·simp only [EVT, stepR, evOp, St.ev, St.app, St.put, wrs, TIS, CS, reduceAdd, reduceMul, reduceEqDiff, ↓reduceIte, reduceCtorEq, reduceLT, reduceLeDiff, ↓zc1]
   (repeat' apply And.intro) <;> first|rfl|assumption|omega|(simp;done)|(simp;omega)|(simp_all;done)
  refine sA_n ?_
  refine a_condb (r2) (by rfl) (fun zc2 => ?_) (fun zc2 => ?_)
  ·have H := cond_t zc2 H
   refine a_seq ?_
   refine a_reg _ rfl (s := ?zs6) ?_ ?_
   rotate_left
   ·simp only [EVT, stepR, evOp, St.ev, St.app, St.put, wrs, datOf, datOf1, TIS, CS, reduceAdd, reduceMul, reduceEqDiff, ↓reduceIte, reduceCtorEq, reduceLT, reduceLeDiff, ↓zc1, ↓zc2]
    (repeat' apply And.intro) <;> first|rfl|assumption|omega|(simp;done)|(simp;omega)|(simp_all;done)
   refine sA_n ?_
   refine a_ret ?_
   refine sA_r ?_
   refine sA_r ?_
   obtain rfl := Option.some.inj H
   refine e_r2 (d := ?zd1) ?_ ?_
   rotate_left
   ·simp only [EVT, resR, single, evLoad, cut, TIS, CS, reduceAdd, reduceEqDiff, ↓reduceIte, reduceCtorEq, reduceLT, reduceLeDiff, reduceSub, Nat.reduceBEq, zc1, zc2]
    (repeat' apply And.intro) <;> first | rfl | assumption | omega | (simp; done)
   exact (.int' rfl)
  ·have H := cond_f zc2 H
   refine a_skip ?_
   refine sA_n ?_
   refine a_seq ?_
   refine a_reg _ rfl (s := ?zs7) ?_ ?_
   rotate_left
   ·simp only [EVT, stepR, evOp, St.ev, St.app, St.put, wrs, datOf, datOf1, TIS, CS, reduceAdd, reduceMul, reduceEqDiff, ↓reduceIte, reduceCtorEq, reduceLT, reduceLeDiff, ↓zc1, ↓zc2]
    (repeat' apply And.intro) <;> first|rfl|assumption|omega|(simp;done)|(simp;omega)|(simp_all;done)
   refine sA_n ?_
   refine a_ret ?_
   refine sA_r ?_
   obtain rfl := Option.some.inj H
   refine e_r2 (d := ?zd2) ?_ ?_
   rotate_left
   ·simp only [EVT, resR, single, evLoad, cut, TIS, CS, reduceAdd, reduceEqDiff, ↓reduceIte, reduceCtorEq, reduceLT, reduceLeDiff, reduceSub, Nat.reduceBEq, zc1, zc2]
    (repeat' apply And.intro) <;> first | rfl | assumption | omega | (simp; done)
   exact (.int' rfl)
 ·have H := cond_f zc1 H
  refine a_skip ?_
  refine sA_n ?_
  refine a_seq ?_
  refine a_seq ?_
  refine a_reg _ rfl (s := ?zs8) ?_ ?_
  rotate_left
  ·simp only [EVT, stepR, evOp, St.ev, St.app, St.put, wrs, TIS, CS, reduceAdd, reduceMul, reduceEqDiff, ↓reduceIte, reduceCtorEq, reduceLT, reduceLeDiff, ↓zc1]
   (repeat' apply And.intro) <;> first|rfl|assumption|omega|(simp;done)|(simp;omega)|(simp_all;done)
  refine sA_n ?_
  refine a_condb (r2) (by rfl) (fun zc3 => ?_) (fun zc3 => ?_)
  ·have H := cond_t zc3 H
   refine a_seq ?_
   refine a_reg _ rfl (s := ?zs9) ?_ ?_
   rotate_left
   ·simp only [EVT, stepR, evOp, St.ev, St.app, St.put, wrs, datOf, datOf1, TIS, CS, reduceAdd, reduceMul, reduceEqDiff, ↓reduceIte, reduceCtorEq, reduceLT, reduceLeDiff, ↓zc1, ↓zc3]
    (repeat' apply And.intro) <;> first|rfl|assumption|omega|(simp;done)|(simp;omega)|(simp_all;done)
   refine sA_n ?_
   refine a_ret ?_
   refine sA_r ?_
   obtain rfl := Option.some.inj H
   refine e_r2 (d := ?zd3) ?_ ?_
   rotate_left
   ·simp only [EVT, resR, single, evLoad, cut, TIS, CS, reduceAdd, reduceEqDiff, ↓reduceIte, reduceCtorEq, reduceLT, reduceLeDiff, reduceSub, Nat.reduceBEq, zc1, zc3]
    (repeat' apply And.intro) <;> first | rfl | assumption | omega | (simp; done)
   exact (.int' rfl)
  ·have H := cond_f zc3 H
   refine a_skip ?_
   refine sA_n ?_
   refine a_seq ?_
   refine a_seq ?_
   refine a_reg _ rfl (s := ?zs10) ?_ ?_
   rotate_left
   ·simp only [EVT, stepR, evOp, St.ev, St.app, St.put, wrs, evBin, binInt, TIS, CS, reduceAdd, reduceMul, reduceEqDiff, ↓reduceIte, reduceCtorEq, reduceLT, reduceLeDiff, ↓zc1, ↓zc3]
    (repeat' apply And.intro) <;> first|rfl|assumption|omega|(simp;done)|(simp;omega)|(simp_all;done)
   refine sA_n ?_
   refine a_condb ((decide (x1 < y1))) (by rfl) (fun zc4 => ?_) (fun zc4 => ?_)
   ·have H := cond_t zc4 H
    refine a_seq ?_
    refine a_reg _ rfl (s := ?zs11) ?_ ?_
    rotate_left
    ·simp only [EVT, stepR, evOp, St.ev, St.app, St.put, wrs, datOf, datOf1, TIS, CS, reduceAdd, reduceMul, reduceEqDiff, ↓reduceIte, reduceCtorEq, reduceLT, reduceLeDiff, ↓zc1, ↓zc3, ↓zc4]
     (repeat' apply And.intro) <;> first|rfl|assumption|omega|(simp;done)|(simp;omega)|(simp_all;done)
    refine sA_n ?_
    refine a_ret ?_
    refine sA_r ?_
    obtain rfl := Option.some.inj H
    refine e_r2 (d := ?zd4) ?_ ?_
    rotate_left
    ·simp only [EVT, resR, single, evLoad, cut, TIS, CS, reduceAdd, reduceEqDiff, ↓reduceIte, reduceCtorEq, reduceLT, reduceLeDiff, reduceSub, Nat.reduceBEq, zc1, zc3, zc4]
     (repeat' apply And.intro) <;> first | rfl | assumption | omega | (simp; done)
    exact (.int' rfl)
   ·have H := cond_f zc4 H
    refine a_skip ?_
    refine sA_n ?_
    refine a_seq ?_
    refine a_seq ?_
    refine a_reg _ rfl (s := ?zs12) ?_ ?_
    rotate_left
    ·simp only [EVT, stepR, evOp, St.ev, St.app, St.put, wrs, evBin, binInt, TIS, CS, reduceAdd, reduceMul, reduceEqDiff, ↓reduceIte, reduceCtorEq, reduceLT, reduceLeDiff, ↓zc1, ↓zc3, ↓zc4]
     (repeat' apply And.intro) <;> first|rfl|assumption|omega|(simp;done)|(simp;omega)|(simp_all;done)
    refine sA_n ?_
    refine a_condb ((decide (y1 < x1))) (by rfl) (fun zc5 => ?_) (fun zc5 => ?_)
    ·have H := cond_t zc5 H
     refine a_seq ?_
     refine a_reg _ rfl (s := ?zs13) ?_ ?_
     rotate_left
     ·simp only [EVT, stepR, evOp, St.ev, St.app, St.put, wrs, datOf, datOf1, TIS, CS, reduceAdd, reduceMul, reduceEqDiff, ↓reduceIte, reduceCtorEq, reduceLT, reduceLeDiff, ↓zc1, ↓zc3, ↓zc4, ↓zc5]
      (repeat' apply And.intro) <;> first|rfl|assumption|omega|(simp;done)|(simp;omega)|(simp_all;done)
     refine sA_n ?_
     refine a_ret ?_
     refine sA_r ?_
     obtain rfl := Option.some.inj H
     refine e_r2 (d := ?zd5) ?_ ?_
     rotate_left
     ·simp only [EVT, resR, single, evLoad, cut, TIS, CS, reduceAdd, reduceEqDiff, ↓reduceIte, reduceCtorEq, reduceLT, reduceLeDiff, reduceSub, Nat.reduceBEq, zc1, zc3, zc4, zc5]
      (repeat' apply And.intro) <;> first | rfl | assumption | omega | (simp; done)
     exact (.int' rfl)
    ·have H := cond_f zc5 H
     refine a_skip ?_
     refine sA_n ?_
     refine a_seq ?_
     refine a_reg _ rfl (s := ?zs14) ?_ ?_
     rotate_left
     ·simp only [EVT, stepR, evOp, St.ev, St.app, St.put, wrs, datOf, datOf1, TIS, CS, reduceAdd, reduceMul, reduceEqDiff, ↓reduceIte, reduceCtorEq, reduceLT, reduceLeDiff, ↓zc1, ↓zc3, ↓zc4, ↓zc5]
      (repeat' apply And.intro) <;> first|rfl|assumption|omega|(simp;done)|(simp;omega)|(simp_all;done)
     refine sA_n ?_
     refine a_ret ?_
     obtain rfl := Option.some.inj H
     refine e_r2 (d := ?zd6) ?_ ?_
     rotate_left
     ·simp only [EVT, resR, single, evLoad, cut, TIS, CS, reduceAdd, reduceEqDiff, ↓reduceIte, reduceCtorEq, reduceLT, reduceLeDiff, reduceSub, Nat.reduceBEq, zc1, zc3, zc4, zc5]
      (repeat' apply And.intro) <;> first | rfl | assumption | omega | (simp; done)
     exact (.int' rfl)
def cmp_isNaN_71_f (x1 : ByteArray) : Option Bool :=
 some (false)
set_option maxHeartbeats 4000000 in
set_option maxRecDepth 20000 in
theorem cmp_isNaN_71_pc {x1 : ByteArray} {r : Bool} (H : cmp_isNaN_71_f x1 = some r) : PC Try.prog 71 [.str x1] (.bool r) := by
 refine pcA_of Try.func71 (by rfl) (by decide) 6 (by rfl) [.tmp 2] (by rfl) ?_
 unfold cmp_isNaN_71_f at H
 simp only [ent]
 refine a_seq ?_
 refine a_reg _ rfl (s := ?zs1) ?_ ?_
 rotate_left
 ·simp only [EVT, stepR, evOp, St.ev, St.app, St.put, wrs, datOf, datOf1, TIS, CS, reduceAdd, reduceMul, reduceEqDiff, ↓reduceIte, reduceCtorEq, reduceLT, reduceLeDiff]
  (repeat' apply And.intro) <;> first|rfl|assumption|omega|(simp;done)|(simp;omega)|(simp_all;done)
 refine sA_n ?_
 refine a_seq ?_
 refine a_reg _ rfl (s := ?zs2) ?_ ?_
 rotate_left
 ·simp only [EVT, stepR, evOp, St.ev, St.app, St.put, wrs, evBin, binInt, TIS, CS, reduceAdd, reduceMul, reduceEqDiff, ↓reduceIte, reduceCtorEq, reduceLT, reduceLeDiff]
  (repeat' apply And.intro) <;> first|rfl|assumption|omega|(simp;done)|(simp;omega)|(simp_all;done)
 refine sA_n ?_
 refine a_ret ?_
 obtain rfl := Option.some.inj H
 refine e_r2 (d := ?zd1) ?_ ?_
 rotate_left
 ·simp only [EVT, resR, single, evLoad, cut, TIS, CS, reduceAdd, reduceEqDiff, ↓reduceIte, reduceCtorEq, reduceLT, reduceLeDiff, reduceSub, Nat.reduceBEq]
  (repeat' apply And.intro) <;> first | rfl | assumption | omega | (simp; done)
 exact (.bool' (by first | rfl | assumption | (simp_all; done)))
def cmp_Compare_58_f (x1 : ByteArray) (y1 : ByteArray) : Option Int :=
 (cmp_isNaN_71_f x1).bind fun r1 => (cmp_isNaN_71_f y1).bind fun r2 => cond r1 (cond r2 (some (0)) (some ((-1)))) (cond r2 (some (1)) (cond (Op.bytesLess x1.toList y1.toList) (some ((-1))) (cond (!(false || x1.toList == y1.toList)) (some (1)) (some (0)))))
set_option maxHeartbeats 4000000 in
set_option maxRecDepth 20000 in
theorem cmp_Compare_58_pc {x1 : ByteArray} {y1 : ByteArray} {r : Int} (H : cmp_Compare_58_f x1 y1 = some r) : PC Try.prog 58 [.str x1, .str y1] (.int .i64 r) := by
 refine pcA_of Try.func58 (by rfl) (by decide) 20 (by rfl) [.tmp 4] (by rfl) ?_
 unfold cmp_Compare_58_f at H
 simp only [ent]
 refine a_seq ?_
 refine a_reg _ rfl (s := ?zs1) ?_ ?_
 rotate_left
 ·simp only [EVT, stepR, evOp, St.ev, St.app, St.put, wrs, datOf, datOf1, TIS, CS, reduceAdd, reduceMul, reduceEqDiff, ↓reduceIte, reduceCtorEq, reduceLT, reduceLeDiff]
  (repeat' apply And.intro) <;> first|rfl|assumption|omega|(simp;done)|(simp;omega)|(simp_all;done)
 refine sA_n ?_
 refine a_seq ?_
 obtain ⟨r1, zh1, H⟩ := bind_some H
 have zk1 := cmp_isNaN_71_pc zh1
 refine a_reg _ rfl (s := ?zs2) ?_ ?_
 rotate_left
 ·try simp only [EVT, stepR, evOp, St.ev, St.app, St.put, wrs, frz, TIS, CS, reduceAdd, reduceMul, reduceEqDiff, ↓reduceIte, reduceCtorEq, reduceLT, reduceLeDiff, reduceSub, Nat.reduceBEq]
  repeat' with_reducible apply And.intro
  all_goals try ((with_reducible show CallR _ _ _ _ _ _ _); refine cR_s zk1 (.cons (.str' rfl) .nil) (.bool _) ?_; simp only [EVT, stepR, evOp, St.ev, St.app, St.put, wrs, frz, TIS, CS, reduceAdd, reduceMul, reduceEqDiff, ↓reduceIte, reduceCtorEq, reduceLT, reduceLeDiff, reduceSub, Nat.reduceBEq])
  all_goals ((repeat' apply And.intro) <;> first|rfl|assumption|omega|(simp;done)|(simp;omega)|(simp_all;done))
 refine sA_n ?_
 refine a_seq ?_
 obtain ⟨r2, zh2, H⟩ := bind_some H
 have zk2 := cmp_isNaN_71_pc zh2
 refine a_reg _ rfl (s := ?zs3) ?_ ?_
 rotate_left
 ·try simp only [EVT, stepR, evOp, St.ev, St.app, St.put, wrs, frz, TIS, CS, reduceAdd, reduceMul, reduceEqDiff, ↓reduceIte, reduceCtorEq, reduceLT, reduceLeDiff, reduceSub, Nat.reduceBEq]
  repeat' with_reducible apply And.intro
  all_goals try ((with_reducible show CallR _ _ _ _ _ _ _); refine cR_s zk2 (.cons (.str' rfl) .nil) (.bool _) ?_; simp only [EVT, stepR, evOp, St.ev, St.app, St.put, wrs, frz, TIS, CS, reduceAdd, reduceMul, reduceEqDiff, ↓reduceIte, reduceCtorEq, reduceLT, reduceLeDiff, reduceSub, Nat.reduceBEq])
  all_goals ((repeat' apply And.intro) <;> first|rfl|assumption|omega|(simp;done)|(simp;omega)|(simp_all;done))
 refine sA_n ?_
 refine a_seq ?_
 refine a_seq ?_
 refine a_reg _ rfl (s := ?zs4) ?_ ?_
 rotate_left
 ·simp only [EVT, stepR, evOp, St.ev, St.app, St.put, wrs, TIS, CS, reduceAdd, reduceMul, reduceEqDiff, ↓reduceIte, reduceCtorEq, reduceLT, reduceLeDiff]
  (repeat' apply And.intro) <;> first|rfl|assumption|omega|(simp;done)|(simp;omega)|(simp_all;done)
 refine sA_n ?_
 refine a_condb (r1) (by rfl) (fun zc1 => ?_) (fun zc1 => ?_)
 ·have H := cond_t zc1 H
  refine a_seq ?_
  refine a_seq ?_
  refine a_reg _ rfl (s := ?zs5) ?_ ?_
  rotate_left
  ·simp only [EVT, stepR, evOp, St.ev, St.app, St.put, wrs, TIS, CS, reduceAdd, reduceMul, reduceEqDiff, ↓reduceIte, reduceCtorEq, reduceLT, reduceLeDiff, ↓zc1]
   (repeat' apply And.intro) <;> first|rfl|assumption|omega|(simp;done)|(simp;omega)|(simp_all;done)
  refine sA_n ?_
  refine a_condb (r2) (by rfl) (fun zc2 => ?_) (fun zc2 => ?_)
  ·have H := cond_t zc2 H
   refine a_seq ?_
   refine a_reg _ rfl (s := ?zs6) ?_ ?_
   rotate_left
   ·simp only [EVT, stepR, evOp, St.ev, St.app, St.put, wrs, datOf, datOf1, TIS, CS, reduceAdd, reduceMul, reduceEqDiff, ↓reduceIte, reduceCtorEq, reduceLT, reduceLeDiff, ↓zc1, ↓zc2]
    (repeat' apply And.intro) <;> first|rfl|assumption|omega|(simp;done)|(simp;omega)|(simp_all;done)
   refine sA_n ?_
   refine a_ret ?_
   refine sA_r ?_
   refine sA_r ?_
   obtain rfl := Option.some.inj H
   refine e_r2 (d := ?zd1) ?_ ?_
   rotate_left
   ·simp only [EVT, resR, single, evLoad, cut, TIS, CS, reduceAdd, reduceEqDiff, ↓reduceIte, reduceCtorEq, reduceLT, reduceLeDiff, reduceSub, Nat.reduceBEq, zc1, zc2]
    (repeat' apply And.intro) <;> first | rfl | assumption | omega | (simp; done)
   exact (.int' rfl)
  ·have H := cond_f zc2 H
   refine a_skip ?_
   refine sA_n ?_
   refine a_seq ?_
   refine a_reg _ rfl (s := ?zs7) ?_ ?_
   rotate_left
   ·simp only [EVT, stepR, evOp, St.ev, St.app, St.put, wrs, datOf, datOf1, TIS, CS, reduceAdd, reduceMul, reduceEqDiff, ↓reduceIte, reduceCtorEq, reduceLT, reduceLeDiff, ↓zc1, ↓zc2]
    (repeat' apply And.intro) <;> first|rfl|assumption|omega|(simp;done)|(simp;omega)|(simp_all;done)
   refine sA_n ?_
   refine a_ret ?_
   refine sA_r ?_
   obtain rfl := Option.some.inj H
   refine e_r2 (d := ?zd2) ?_ ?_
   rotate_left
   ·simp only [EVT, resR, single, evLoad, cut, TIS, CS, reduceAdd, reduceEqDiff, ↓reduceIte, reduceCtorEq, reduceLT, reduceLeDiff, reduceSub, Nat.reduceBEq, zc1, zc2]
    (repeat' apply And.intro) <;> first | rfl | assumption | omega | (simp; done)
   exact (.int' rfl)
 ·have H := cond_f zc1 H
  refine a_skip ?_
  refine sA_n ?_
  refine a_seq ?_
  refine a_seq ?_
  refine a_reg _ rfl (s := ?zs8) ?_ ?_
  rotate_left
  ·simp only [EVT, stepR, evOp, St.ev, St.app, St.put, wrs, TIS, CS, reduceAdd, reduceMul, reduceEqDiff, ↓reduceIte, reduceCtorEq, reduceLT, reduceLeDiff, ↓zc1]
   (repeat' apply And.intro) <;> first|rfl|assumption|omega|(simp;done)|(simp;omega)|(simp_all;done)
  refine sA_n ?_
  refine a_condb (r2) (by rfl) (fun zc3 => ?_) (fun zc3 => ?_)
  ·have H := cond_t zc3 H
   refine a_seq ?_
   refine a_reg _ rfl (s := ?zs9) ?_ ?_
   rotate_left
   ·simp only [EVT, stepR, evOp, St.ev, St.app, St.put, wrs, datOf, datOf1, TIS, CS, reduceAdd, reduceMul, reduceEqDiff, ↓reduceIte, reduceCtorEq, reduceLT, reduceLeDiff, ↓zc1, ↓zc3]
    (repeat' apply And.intro) <;> first|rfl|assumption|omega|(simp;done)|(simp;omega)|(simp_all;done)
   refine sA_n ?_
   refine a_ret ?_
   refine sA_r ?_
   obtain rfl := Option.some.inj H
   refine e_r2 (d := ?zd3) ?_ ?_
   rotate_left
   ·simp only [EVT, resR, single, evLoad, cut, TIS, CS, reduceAdd, reduceEqDiff, ↓reduceIte, reduceCtorEq, reduceLT, reduceLeDiff, reduceSub, Nat.reduceBEq, zc1, zc3]
    (repeat' apply And.intro) <;> first | rfl | assumption | omega | (simp; done)
   exact (.int' rfl)
  ·have H := cond_f zc3 H
   refine a_skip ?_
   refine sA_n ?_
   refine a_seq ?_
   refine a_seq ?_
   refine a_reg _ rfl (s := ?zs10) ?_ ?_
   rotate_left
   ·simp only [EVT, stepR, evOp, St.ev, St.app, St.put, wrs, evBin, binInt, TIS, CS, reduceAdd, reduceMul, reduceEqDiff, ↓reduceIte, reduceCtorEq, reduceLT, reduceLeDiff, ↓zc1, ↓zc3]
    (repeat' apply And.intro) <;> first|rfl|assumption|omega|(simp;done)|(simp;omega)|(simp_all;done)
   refine sA_n ?_
   refine a_condb ((Op.bytesLess x1.toList y1.toList)) (by rfl) (fun zc4 => ?_) (fun zc4 => ?_)
   ·have H := cond_t zc4 H
    refine a_seq ?_
    refine a_reg _ rfl (s := ?zs11) ?_ ?_
    rotate_left
    ·simp only [EVT, stepR, evOp, St.ev, St.app, St.put, wrs, datOf, datOf1, TIS, CS, reduceAdd, reduceMul, reduceEqDiff, ↓reduceIte, reduceCtorEq, reduceLT, reduceLeDiff, ↓zc1, ↓zc3, ↓zc4]
     (repeat' apply And.intro) <;> first|rfl|assumption|omega|(simp;done)|(simp;omega)|(simp_all;done)
    refine sA_n ?_
    refine a_ret ?_
    refine sA_r ?_
    obtain rfl := Option.some.inj H
    refine e_r2 (d := ?zd4) ?_ ?_
    rotate_left
    ·simp only [EVT, resR, single, evLoad, cut, TIS, CS, reduceAdd, reduceEqDiff, ↓reduceIte, reduceCtorEq, reduceLT, reduceLeDiff, reduceSub, Nat.reduceBEq, zc1, zc3, zc4]
     (repeat' apply And.intro) <;> first | rfl | assumption | omega | (simp; done)
    exact (.int' rfl)
   ·have H := cond_f zc4 H
    refine a_skip ?_
    refine sA_n ?_
    refine a_seq ?_
    refine a_seq ?_
    refine a_reg _ rfl (s := ?zs12) ?_ ?_
    rotate_left
    ·simp only [EVT, stepR, evOp, St.ev, St.app, St.put, wrs, evBin, binInt, TIS, CS, reduceAdd, reduceMul, reduceEqDiff, ↓reduceIte, reduceCtorEq, reduceLT, reduceLeDiff, ↓zc1, ↓zc3, ↓zc4]
     (repeat' apply And.intro) <;> first|rfl|assumption|omega|(simp;done)|(simp;omega)|(simp_all;done)
    refine sA_n ?_
    refine a_condb ((!(false || x1.toList == y1.toList))) (by rfl) (fun zc5 => ?_) (fun zc5 => ?_)
    ·have H := cond_t zc5 H
     refine a_seq ?_
     refine a_reg _ rfl (s := ?zs13) ?_ ?_
     rotate_left
     ·simp only [EVT, stepR, evOp, St.ev, St.app, St.put, wrs, datOf, datOf1, TIS, CS, reduceAdd, reduceMul, reduceEqDiff, ↓reduceIte, reduceCtorEq, reduceLT, reduceLeDiff, ↓zc1, ↓zc3, ↓zc4, ↓zc5]
      (repeat' apply And.intro) <;> first|rfl|assumption|omega|(simp;done)|(simp;omega)|(simp_all;done)
     refine sA_n ?_
     refine a_ret ?_
     refine sA_r ?_
     obtain rfl := Option.some.inj H
     refine e_r2 (d := ?zd5) ?_ ?_
     rotate_left
     ·simp only [EVT, resR, single, evLoad, cut, TIS, CS, reduceAdd, reduceEqDiff, ↓reduceIte, reduceCtorEq, reduceLT, reduceLeDiff, reduceSub, Nat.reduceBEq, zc1, zc3, zc4, zc5]
      (repeat' apply And.intro) <;> first | rfl | assumption | omega | (simp; done)
     exact (.int' rfl)
    ·have H := cond_f zc5 H
     refine a_skip ?_
     refine sA_n ?_
     refine a_seq ?_
     refine a_reg _ rfl (s := ?zs14) ?_ ?_
     rotate_left
     ·simp only [EVT, stepR, evOp, St.ev, St.app, St.put, wrs, datOf, datOf1, TIS, CS, reduceAdd, reduceMul, reduceEqDiff, ↓reduceIte, reduceCtorEq, reduceLT, reduceLeDiff, ↓zc1, ↓zc3, ↓zc4, ↓zc5]
      (repeat' apply And.intro) <;> first|rfl|assumption|omega|(simp;done)|(simp;omega)|(simp_all;done)
     refine sA_n ?_
     refine a_ret ?_
     obtain rfl := Option.some.inj H
     refine e_r2 (d := ?zd6) ?_ ?_
     rotate_left
     ·simp only [EVT, resR, single, evLoad, cut, TIS, CS, reduceAdd, reduceEqDiff, ↓reduceIte, reduceCtorEq, reduceLT, reduceLeDiff, reduceSub, Nat.reduceBEq, zc1, zc3, zc4, zc5]
      (repeat' apply And.intro) <;> first | rfl | assumption | omega | (simp; done)
     exact (.int' rfl)
def cache_order_f (a1 : Kept) (b1 : Kept) : Option Int :=
 (cmp_Compare_f a1.ino b1.ino).bind fun r1 => (cmp_Compare_58_f a1.name b1.name).bind fun r2 => (cmp_Compare_f a1.page b1.page).bind fun r3 => (cmp_Or_f [r1, r2, r3]).bind fun r4 => some (r4)
set_option maxHeartbeats 4000000 in
set_option maxRecDepth 20000 in
theorem cache_order_pc {a1 : Kept} {b1 : Kept} {r : Int} (H : cache_order_f a1 b1 = some r) : PC Try.prog 35 [.agg (Kept.c a1), .agg (Kept.c b1)] (.int .i64 r) := by
 refine pcA_of Try.func35 (by rfl) (by decide) 22 (by rfl) [.tmp 4] (by rfl) ?_
 unfold cache_order_f at H
 simp only [ent]
 refine a_seq ?_
 refine a_reg _ rfl (s := ?zs1) ?_ ?_
 rotate_left
 ·simp only [EVT, stepR, evOp, St.ev, St.app, St.put, wrs, allOne, datOf, datOf1, TIS, CS, reduceAdd, reduceMul, reduceEqDiff, ↓reduceIte, reduceCtorEq, reduceLT, reduceLeDiff]
  (repeat' apply And.intro) <;> first|rfl|assumption|omega|(simp;done)|(simp;omega)|(simp_all;done)
 refine sA_n ?_
 refine a_seq ?_
 obtain ⟨r1, zh1, H⟩ := bind_some H
 have zk1 := cmp_Compare_pc zh1
 obtain ⟨r2, zh2, H⟩ := bind_some H
 have zk2 := cmp_Compare_58_pc zh2
 obtain ⟨r3, zh3, H⟩ := bind_some H
 have zk3 := cmp_Compare_pc zh3
 obtain ⟨r4, zh4, H⟩ := bind_some H
 have zk4 := cmp_Or_pc zh4
 refine a_drW (by kernel_rfl) _ rfl (s := ?zs2) (by kernel_rfl) (by kernel_rfl) ?zs2f ?_ ?_ ?_
 rotate_left 2
 ·try simp only [EVT, stepW, evOp, St.ev, St.app, St.put, wrs, evFieldAddr, evLoad, cut, frz, allOne, TIS, CS, reduceAdd, reduceMul, reduceEqDiff, ↓reduceIte, reduceCtorEq, reduceLT, reduceLeDiff, reduceSub, Nat.reduceBEq]
  repeat' with_reducible apply And.intro
  all_goals try ((with_reducible show CallW _ _ _ _ _ _ _); refine cW_s [] zk1 (fun h2 e => (.cons (.int' rfl) (.cons (.int' rfl) .nil))) (.int _ _) ?_; simp only [EVT, stepW, evOp, St.ev, St.app, St.put, wrs, evFieldAddr, evLoad, cut, frz, allOne, TIS, CS, reduceAdd, reduceMul, reduceEqDiff, ↓reduceIte, reduceCtorEq, reduceLT, reduceLeDiff, reduceSub, Nat.reduceBEq])
  repeat' with_reducible apply And.intro
  all_goals try ((with_reducible show CallW _ _ _ _ _ _ _); refine cW_s [] zk2 (fun h2 e => (.cons (.str' rfl) (.cons (.str' rfl) .nil))) (.int _ _) ?_; simp only [EVT, stepW, evOp, St.ev, St.app, St.put, wrs, evFieldAddr, evLoad, cut, frz, allOne, TIS, CS, reduceAdd, reduceMul, reduceEqDiff, ↓reduceIte, reduceCtorEq, reduceLT, reduceLeDiff, reduceSub, Nat.reduceBEq])
  repeat' with_reducible apply And.intro
  all_goals try ((with_reducible show CallW _ _ _ _ _ _ _); refine cW_s [] zk3 (fun h2 e => (.cons (.int' rfl) (.cons (.int' rfl) .nil))) (.int _ _) ?_; simp only [EVT, stepW, evOp, St.ev, St.app, St.put, wrs, evFieldAddr, evLoad, cut, frz, allOne, TIS, CS, reduceAdd, reduceMul, reduceEqDiff, ↓reduceIte, reduceCtorEq, reduceLT, reduceLeDiff, reduceSub, Nat.reduceBEq])
  repeat' with_reducible apply And.intro
  all_goals try ((with_reducible show CallW _ _ _ _ _ _ _); refine cW_s [39] zk4 (fun h2 e => (.cons (.ownL ((e 39 (by simp)).trans (by rfl)) (fun e => by cases e) rfl (by first | rfl | omega | (simp; done) | (simp [strBytes_len]; done) | (simp; omega) | (simp_all; done)) (.sm _ _ (ci_pu .i64))) .nil)) (.int _ _) ?_; simp only [EVT, stepW, evOp, St.ev, St.app, St.put, wrs, evFieldAddr, evLoad, cut, frz, allOne, TIS, CS, reduceAdd, reduceMul, reduceEqDiff, ↓reduceIte, reduceCtorEq, reduceLT, reduceLeDiff, reduceSub, Nat.reduceBEq])
  all_goals ((repeat' apply And.intro) <;> first|rfl|assumption|omega|(simp;done)|(simp;omega)|(simp_all;done))
 ·kernel_rfl
 refine sA_n ?_
 refine a_ret ?_
 obtain rfl := Option.some.inj H
 refine e_r2 (d := ?zd1) ?_ ?_
 rotate_left
 ·simp only [EVT, resR, single, evLoad, cut, TIS, CS, reduceAdd, reduceEqDiff, ↓reduceIte, reduceCtorEq, reduceLT, reduceLeDiff, reduceSub, Nat.reduceBEq]
  (repeat' apply And.intro) <;> first | rfl | assumption | omega | (simp; done)
 exact (.int' rfl)
def cache_right_f (k1 : Kept) : Option Bool :=
 cond (k1.name.toList == (⟨#[]⟩ : ByteArray).toList) (some ((k1.is == 0))) (some ((k1.page == 0) && ((k1.data.length : Int) == 0)))
set_option maxHeartbeats 4000000 in
set_option maxRecDepth 20000 in
theorem cache_right_pc {k1 : Kept} {r : Bool} (H : cache_right_f k1 = some r) : PC Try.prog 38 [.agg (Kept.c k1)] (.bool r) := by
 refine pcA_of Try.func38 (by rfl) (by decide) 18 (by rfl) [.tmp 2] (by rfl) ?_
 unfold cache_right_f at H
 simp only [ent]
 refine a_seq ?_
 refine a_reg _ rfl (s := ?zs1) ?_ ?_
 rotate_left
 ·simp only [EVT, stepR, evOp, St.ev, St.app, St.put, wrs, allOne, datOf, datOf1, TIS, CS, reduceAdd, reduceMul, reduceEqDiff, ↓reduceIte, reduceCtorEq, reduceLT, reduceLeDiff]
  (repeat' apply And.intro) <;> first|rfl|assumption|omega|(simp;done)|(simp;omega)|(simp_all;done)
 refine sA_n ?_
 refine a_seq ?_
 refine a_seq ?_
 refine a_reg _ rfl (s := ?zs2) ?_ ?_
 rotate_left
 ·simp only [EVT, stepR, evOp, St.ev, St.app, St.put, wrs, evFieldAddr, evLoad, cut, datOf, datOf1, evBin, binInt, TIS, CS, reduceAdd, reduceMul, reduceEqDiff, ↓reduceIte, reduceCtorEq, reduceLT, reduceLeDiff, reduceSub, Nat.reduceBEq]
  (repeat' apply And.intro) <;> first|rfl|assumption|omega|(simp;done)|(simp;omega)|(simp_all;done)
 refine sA_n ?_
 refine a_condb ((k1.name.toList == (⟨#[]⟩ : ByteArray).toList)) (by rfl) (fun zc1 => ?_) (fun zc1 => ?_)
 ·have H := cond_t zc1 H
  refine a_seq ?_
  refine a_reg _ rfl (s := ?zs3) ?_ ?_
  rotate_left
  ·simp only [EVT, stepR, evOp, St.ev, St.app, St.put, wrs, evFieldAddr, evLoad, cut, datOf, datOf1, evBin, binInt, TIS, CS, reduceAdd, reduceMul, reduceEqDiff, ↓reduceIte, reduceCtorEq, reduceLT, reduceLeDiff, reduceSub, Nat.reduceBEq, ↓zc1]
   (repeat' apply And.intro) <;> first|rfl|assumption|omega|(simp;done)|(simp;omega)|(simp_all;done)
  refine sA_n ?_
  refine a_ret ?_
  refine sA_r ?_
  obtain rfl := Option.some.inj H
  refine e_r2 (d := ?zd1) ?_ ?_
  rotate_left
  ·simp only [EVT, resR, single, evLoad, cut, TIS, CS, reduceAdd, reduceEqDiff, ↓reduceIte, reduceCtorEq, reduceLT, reduceLeDiff, reduceSub, Nat.reduceBEq, zc1]
   (repeat' apply And.intro) <;> first | rfl | assumption | omega | (simp; done)
  exact (.bool' rfl)
 ·have H := cond_f zc1 H
  refine a_skip ?_
  refine sA_n ?_
  refine a_seq ?_
  refine bool_split (b := (k1.page == 0)) (fun zc2 => ?_) (fun zc2 => ?_)
  ·rw [zc2] at H
   refine a_reg _ rfl (s := ?zs4) ?_ ?_
   rotate_left
   ·simp only [EVT, stepR, evOp, St.ev, St.app, St.put, wrs, evFieldAddr, evLoad, cut, datOf, datOf1, evBin, binInt, evBuiltin, TIS, CS, reduceAdd, reduceMul, reduceEqDiff, ↓reduceIte, reduceCtorEq, reduceLT, reduceLeDiff, Array.reduceGetElem?, reduceSub, Nat.reduceBEq, ↓zc1, ↓zc2]
    try simp only [EVT, stepR, evOp, St.ev, St.app, St.put, wrs, evFieldAddr, evLoad, cut, datOf, datOf1, evBin, binInt, evBuiltin, TIS, CS, reduceAdd, reduceMul, reduceEqDiff, ↓reduceIte, reduceCtorEq, reduceLT, reduceLeDiff, Array.reduceGetElem?, reduceSub, Nat.reduceBEq, ↓zc1, ↓zc2]
    (repeat' apply And.intro) <;> first|rfl|assumption|omega|(simp;done)|(simp;omega)|(simp_all;done)
   refine sA_n ?_
   refine a_ret ?_
   obtain rfl := Option.some.inj H
   refine e_r2 (d := ?zd2) ?_ ?_
   rotate_left
   ·simp only [EVT, resR, single, evLoad, cut, TIS, CS, reduceAdd, reduceEqDiff, ↓reduceIte, reduceCtorEq, reduceLT, reduceLeDiff, reduceSub, Nat.reduceBEq, zc1, zc2]
    (repeat' apply And.intro) <;> first | rfl | assumption | omega | (simp; done)
   exact (.bool' rfl)
  ·rw [zc2] at H
   refine a_reg _ rfl (s := ?zs5) ?_ ?_
   rotate_left
   ·simp only [EVT, stepR, evOp, St.ev, St.app, St.put, wrs, evFieldAddr, evLoad, cut, datOf, datOf1, evBin, binInt, evBuiltin, TIS, CS, reduceAdd, reduceMul, reduceEqDiff, ↓reduceIte, reduceCtorEq, reduceLT, reduceLeDiff, Array.reduceGetElem?, reduceSub, Nat.reduceBEq, ↓zc1, ↓zc2]
    try simp only [EVT, stepR, evOp, St.ev, St.app, St.put, wrs, evFieldAddr, evLoad, cut, datOf, datOf1, evBin, binInt, evBuiltin, TIS, CS, reduceAdd, reduceMul, reduceEqDiff, ↓reduceIte, reduceCtorEq, reduceLT, reduceLeDiff, Array.reduceGetElem?, reduceSub, Nat.reduceBEq, ↓zc1, ↓zc2]
    (repeat' apply And.intro) <;> first|rfl|assumption|omega|(simp;done)|(simp;omega)|(simp_all;done)
   refine sA_n ?_
   refine a_ret ?_
   obtain rfl := Option.some.inj H
   refine e_r2 (d := ?zd3) ?_ ?_
   rotate_left
   ·simp only [EVT, resR, single, evLoad, cut, TIS, CS, reduceAdd, reduceEqDiff, ↓reduceIte, reduceCtorEq, reduceLT, reduceLeDiff, reduceSub, Nat.reduceBEq, zc1, zc2]
    (repeat' apply And.intro) <;> first | rfl | assumption | omega | (simp; done)
   exact (.bool' (by first | rfl | assumption | (simp_all; done)))
def cache_Right_1_f (k1 : Kept) : Option Bool :=
 (cache_right_f k1).bind fun r1 => some ((!r1))
set_option maxHeartbeats 4000000 in
set_option maxRecDepth 20000 in
theorem cache_Right_1_pc {k1 : Kept} {r : Bool} (H : cache_Right_1_f k1 = some r) : PC Try.prog 37 [.agg (Kept.c k1)] (.bool r) := by
 refine pcA_of Try.func37 (by rfl) (by decide) 6 (by rfl) [.tmp 2] (by rfl) ?_
 unfold cache_Right_1_f at H
 simp only [ent]
 refine a_seq ?_
 refine a_reg _ rfl (s := ?zs1) ?_ ?_
 rotate_left
 ·simp only [EVT, stepR, evOp, St.ev, St.app, St.put, wrs, allOne, datOf, datOf1, TIS, CS, reduceAdd, reduceMul, reduceEqDiff, ↓reduceIte, reduceCtorEq, reduceLT, reduceLeDiff]
  (repeat' apply And.intro) <;> first|rfl|assumption|omega|(simp;done)|(simp;omega)|(simp_all;done)
 refine sA_n ?_
 refine a_seq ?_
 obtain ⟨r1, zh1, H⟩ := bind_some H
 have zk1 := cache_right_pc zh1
 refine a_reg _ rfl (s := ?zs2) ?_ ?_
 rotate_left
 ·try simp only [EVT, stepR, evOp, St.ev, St.app, St.put, wrs, evLoad, cut, frz, evUn, TIS, CS, reduceAdd, reduceMul, reduceEqDiff, ↓reduceIte, reduceCtorEq, reduceLT, reduceLeDiff, reduceSub, Nat.reduceBEq]
  repeat' with_reducible apply And.intro
  all_goals try ((with_reducible show CallR _ _ _ _ _ _ _); refine cR_s zk1 (.cons (.agg' (.cons (.int' rfl) (.cons (.str' rfl) (.cons (.int' rfl) (.cons (.int' rfl) (.cons (.lst _ _ _ (ci_pu .u8) rfl) (.cons (.int' rfl) .nil))))))) .nil) (.bool _) ?_; simp only [EVT, stepR, evOp, St.ev, St.app, St.put, wrs, evLoad, cut, frz, evUn, TIS, CS, reduceAdd, reduceMul, reduceEqDiff, ↓reduceIte, reduceCtorEq, reduceLT, reduceLeDiff, reduceSub, Nat.reduceBEq])
  all_goals ((repeat' apply And.intro) <;> first|rfl|assumption|omega|(simp;done)|(simp;omega)|(simp_all;done))
 refine sA_n ?_
 refine a_ret ?_
 obtain rfl := Option.some.inj H
 refine e_r2 (d := ?zd1) ?_ ?_
 rotate_left
 ·simp only [EVT, resR, single, evLoad, cut, TIS, CS, reduceAdd, reduceEqDiff, ↓reduceIte, reduceCtorEq, reduceLT, reduceLeDiff, reduceSub, Nat.reduceBEq]
  (repeat' apply And.intro) <;> first | rfl | assumption | omega | (simp; done)
 exact (.bool' rfl)
def slices_IndexFunc_59_J1 : Option Int :=
 some ((-1))
def slices_IndexFunc_59_L1 (s1 : List Kept) (f1 : Kept → Option Bool) : Nat → Int → Option Int
 | 0, _ => none
 | m_ + 1, v1 => cond (decide (v1 < (s1.length : Int))) ((idx s1 v1).bind fun x1 => (f1 x1).bind fun r1 => cond r1 (some (v1)) (slices_IndexFunc_59_L1 s1 f1 m_ (IntKind.wrap .i64 (v1 + 1)))) (slices_IndexFunc_59_J1)
def slices_IndexFunc_59_f (s1 : List Kept) (f1 : Kept → Option Bool) : Option Int :=
 slices_IndexFunc_59_L1 s1 f1 BIG 0
set_option maxHeartbeats 4000000 in
set_option maxRecDepth 20000 in
theorem slices_IndexFunc_59_pc {s1 : List Kept} {f1 : Kept → Option Bool} {f1_F : FuncId} {f1_caps : List Dat} (f1_hp : ∀ (x0_ : Kept) (r : Bool), f1 x0_ = some r → PC Try.prog f1_F (.agg (Kept.c x0_) :: f1_caps) (.bool r)) (f1_pu : Pus f1_caps) {r : Int} (H : slices_IndexFunc_59_f s1 f1 = some r) : PC Try.prog 59 [.list 6 (s1.map Kept.c), .fn (.func f1_F) [] f1_caps] (.int .i64 r) := by
 refine pcA_of Try.func59 (by rfl) (by decide) 19 (by rfl) [.tmp 4] (by rfl) ?_
 unfold slices_IndexFunc_59_f at H
 simp only [ent]
 refine a_seq ?_
 refine a_reg _ rfl (s := ?zs1) ?_ ?_
 rotate_left
 ·simp only [EVT, stepR, evOp, St.ev, St.app, St.put, wrs, datOf, datOf1, TIS, CS, reduceAdd, reduceMul, reduceEqDiff, ↓reduceIte, reduceCtorEq, reduceLT, reduceLeDiff]
  (repeat' apply And.intro) <;> first|rfl|assumption|omega|(simp;done)|(simp;omega)|(simp_all;done)
 refine sA_n ?_
 refine a_cut (fun s => ∃ (t0 : Nat → Dat), slices_IndexFunc_59_J1 = some r ∧ s = ⟨tl t0 [], hl [], 0, 19⟩) ?_ ?_
 ·refine a_seq ?_
  refine a_reg _ rfl (s := ?zs3) ?_ ?_
  rotate_left
  ·simp only [EVT, stepR, evOp, St.ev, St.app, St.put, wrs, evBuiltin, datOf, datOf1, TIS, CS, reduceAdd, reduceMul, reduceEqDiff, ↓reduceIte, reduceCtorEq, reduceLT, reduceLeDiff, reduceSub, Nat.reduceBEq]
   (repeat' apply And.intro) <;> first|rfl|assumption|omega|(simp;done)|(simp;omega)|(simp_all;done)
  refine sA_n ?_
  refine a_blk ?_
  refine a_loop (fun m s => ∃ (v1 : Int) (t0 : Nat → Dat), slices_IndexFunc_59_L1 s1 f1 m v1 = some r ∧ s = ⟨tl t0 [(0, .list 6 (s1.map Kept.c)), (1, .fn (.func f1_F) [] f1_caps), (7, .int .i64 (s1.length : Int)), (8, .int .i64 v1)], hl [], 0, 19⟩) BIG ?_ ?_
  ·refine wk_l [] [] [(0, .list 6 (s1.map Kept.c)), (1, .fn (.func f1_F) [] f1_caps), (7, .int .i64 (s1.length : Int)), (8, .int .i64 0)] (by show ([0, 1, 7, 8] : List Nat).Nodup; decide) (by show ([] : List Nat).Nodup; decide) ?_ ?_ (fun t0 => ⟨0, t0, H, rfl⟩)
   ·exact trivial
   ·(simp only [AllT, ATT, reduceEqDiff, ↓reduceIte, and_true]); exact ⟨(.lst _ _ _ Kept.pu rfl), (.fn' .nil (RNs.pu f1_pu)), (.int' rfl), (.int' rfl)⟩
  ·rintro m_slices_IndexFunc_59_L1 s ⟨v1, t0, H, rfl⟩
   obtain _ | m_slices_IndexFunc_59_L1 := m_slices_IndexFunc_59_L1
   ·cases (show (none : Option _) = some _ from H)
   ·rw [slices_IndexFunc_59_L1] at H
    refine a_seq ?_
    refine a_reg _ rfl (s := ?zs4) ?_ ?_
    rotate_left
    ·simp only [EVT, stepR, evOp, St.ev, St.app, St.put, wrs, evBin, binInt, TIS, CS, reduceAdd, reduceMul, reduceEqDiff, ↓reduceIte, reduceCtorEq, reduceLT, reduceLeDiff]
     (repeat' apply And.intro) <;> first|rfl|assumption|omega|(simp;done)|(simp;omega)|(simp_all;done)
    refine sA_n ?_
    refine a_seq ?_
    refine a_condb ((decide (v1 < (s1.length : Int)))) (by rfl) (fun zc1 => ?_) (fun zc1 => ?_)
    ·have H := cond_t zc1 H
     refine a_skip ?_
     refine sA_n ?_
     refine a_seq ?_
     refine a_blk ?_
     refine a_seq ?_
     refine a_reg _ rfl (s := ?zs5) ?_ ?_
     rotate_left
     ·simp only [EVT, stepR, evOp, St.ev, St.app, St.put, wrs, TIS, CS, reduceAdd, reduceMul, reduceEqDiff, ↓reduceIte, reduceCtorEq, reduceLT, reduceLeDiff, ↓zc1]
      (repeat' apply And.intro) <;> first|rfl|assumption|omega|(simp;done)|(simp;omega)|(simp_all;done)
     refine sA_n ?_
     refine a_seq ?_
     obtain ⟨x1, zh1, H⟩ := bind_some H
     have zg1 := idx_map zh1 Kept.c
     try simp only [Int.reduceToNat, Int.toNat_natCast] at zg1
     obtain ⟨zh1a, zh1b, _⟩ := idx_some zh1
     obtain ⟨r1, zh2, H⟩ := bind_some H
     have zk1 := f1_hp _ _ zh2
     refine a_reg _ rfl (s := ?zs6) ?_ ?_
     rotate_left
     ·try simp only [EVT, stepR, evOp, St.ev, St.app, St.put, wrs, evIndexAddr, evLoad, cut, frz, TIS, CS, reduceAdd, reduceMul, reduceEqDiff, ↓reduceIte, reduceCtorEq, reduceLT, reduceLeDiff, Int.reduceToNat, reduceSub, Nat.reduceBEq, ↓zc1, zg1]
      repeat' with_reducible apply And.intro
      all_goals try ((with_reducible show CallR _ _ _ _ _ _ _); refine cR_s zk1 (.cons (.agg' (.cons (.int' rfl) (.cons (.str' rfl) (.cons (.int' rfl) (.cons (.int' rfl) (.cons (.lst _ _ _ (ci_pu .u8) rfl) (.cons (.int' rfl) .nil))))))) (Pus.purRs f1_pu)) (.bool _) ?_; simp only [EVT, stepR, evOp, St.ev, St.app, St.put, wrs, evIndexAddr, evLoad, cut, frz, TIS, CS, reduceAdd, reduceMul, reduceEqDiff, ↓reduceIte, reduceCtorEq, reduceLT, reduceLeDiff, Int.reduceToNat, reduceSub, Nat.reduceBEq, ↓zc1, zg1])
      all_goals ((repeat' apply And.intro) <;> first|rfl|assumption|omega|(simp;done)|(simp;omega)|(simp_all;done))
     refine sA_n ?_
     refine a_condb (r1) (by rfl) (fun zc2 => ?_) (fun zc2 => ?_)
     ·have H := cond_t zc2 H
      refine a_seq ?_
      refine a_reg _ rfl (s := ?zs7) ?_ ?_
      rotate_left
      ·simp only [EVT, stepR, evOp, St.ev, St.app, St.put, wrs, TIS, CS, reduceAdd, reduceMul, reduceEqDiff, ↓reduceIte, reduceCtorEq, reduceLT, reduceLeDiff, ↓zc1, zg1, ↓zc2]
       (repeat' apply And.intro) <;> first|rfl|assumption|omega|(simp;done)|(simp;omega)|(simp_all;done)
      refine sA_n ?_
      refine a_ret ?_
      refine bA_r ?_
      refine sA_r ?_
      refine lA_r ?_
      refine bA_r ?_
      refine cA_r ?_
      obtain rfl := Option.some.inj H
      refine e_r2 (d := ?zd2) ?_ ?_
      rotate_left
      ·simp only [EVT, resR, single, evLoad, cut, TIS, CS, reduceAdd, reduceEqDiff, ↓reduceIte, reduceCtorEq, reduceLT, reduceLeDiff, reduceSub, Nat.reduceBEq, zc1, zg1, zc2]
       (repeat' apply And.intro) <;> first | rfl | assumption | omega | (simp; done)
      exact (.int' rfl)
     ·have H := cond_f zc2 H
      refine a_skip ?_
      refine bA_n ?_
      refine sA_n ?_
      refine a_reg _ rfl (s := ?zs8) ?_ ?_
      rotate_left
      ·simp only [EVT, stepR, evOp, St.ev, St.app, St.put, wrs, datOf, datOf1, evBin, binInt, TIS, CS, reduceAdd, reduceMul, reduceEqDiff, ↓reduceIte, reduceCtorEq, reduceLT, reduceLeDiff, ↓zc1, zg1, ↓zc2]
       (repeat' apply And.intro) <;> first|rfl|assumption|omega|(simp;done)|(simp;omega)|(simp_all;done)
      refine lA_n ?_
      refine wk_l [] [] [(0, .list 6 (s1.map Kept.c)), (1, .fn (.func f1_F) [] f1_caps), (7, .int .i64 (s1.length : Int)), (8, .int .i64 (IntKind.wrap .i64 (v1 + 1)))] (by show ([0, 1, 7, 8] : List Nat).Nodup; decide) (by show ([] : List Nat).Nodup; decide) ?_ ?_ (fun t0 => ⟨_, Nat.lt_succ_self _, (IntKind.wrap .i64 (v1 + 1)), t0, H, rfl⟩)
      ·exact trivial
      ·(simp only [AllT, ATT, reduceEqDiff, ↓reduceIte, and_true]); exact ⟨(.lst _ _ _ Kept.pu rfl), (.fn' .nil (RNs.pu f1_pu)), (.int' rfl), (.int' rfl)⟩
    ·have H := cond_f zc1 H
     refine a_exit ?_
     refine sA_e ?_
     refine lA_e ?_
     refine bA_hit ?_
     refine cA_n ?_
     refine wk_l [] [] [] (by show ([] : List Nat).Nodup; decide) (by show ([] : List Nat).Nodup; decide) ?_ ?_ (fun t0 => ⟨t0, H, rfl⟩)
     ·exact trivial
     ·exact trivial
 ·rintro s ⟨t0, H, rfl⟩
  unfold slices_IndexFunc_59_J1 at H
  refine a_seq ?_
  refine a_reg _ rfl (s := ?zs2) ?_ ?_
  rotate_left
  ·simp only [EVT, stepR, evOp, St.ev, St.app, St.put, wrs, datOf, datOf1, TIS, CS, reduceAdd, reduceMul, reduceEqDiff, ↓reduceIte, reduceCtorEq, reduceLT, reduceLeDiff]
   (repeat' apply And.intro) <;> first|rfl|assumption|omega|(simp;done)|(simp;omega)|(simp_all;done)
  refine sA_n ?_
  refine a_ret ?_
  obtain rfl := Option.some.inj H
  refine e_r2 (d := ?zd1) ?_ ?_
  rotate_left
  ·simp only [EVT, resR, single, evLoad, cut, TIS, CS, reduceAdd, reduceEqDiff, ↓reduceIte, reduceCtorEq, reduceLT, reduceLeDiff, reduceSub, Nat.reduceBEq]
   (repeat' apply And.intro) <;> first | rfl | assumption | omega | (simp; done)
  exact (.int' rfl)
def slices_ContainsFunc_36_f (s1 : List Kept) (f1 : Kept → Option Bool) : Option Bool :=
 (slices_IndexFunc_59_f s1 f1).bind fun r1 => some ((decide (0 ≤ r1)))
set_option maxHeartbeats 4000000 in
set_option maxRecDepth 20000 in
theorem slices_ContainsFunc_36_pc {s1 : List Kept} {f1 : Kept → Option Bool} {f1_F : FuncId} {f1_caps : List Dat} (f1_hp : ∀ (x0_ : Kept) (r : Bool), f1 x0_ = some r → PC Try.prog f1_F (.agg (Kept.c x0_) :: f1_caps) (.bool r)) (f1_pu : Pus f1_caps) {r : Bool} (H : slices_ContainsFunc_36_f s1 f1 = some r) : PC Try.prog 36 [.list 6 (s1.map Kept.c), .fn (.func f1_F) [] f1_caps] (.bool r) := by
 refine pcA_of Try.func36 (by rfl) (by decide) 9 (by rfl) [.tmp 4] (by rfl) ?_
 unfold slices_ContainsFunc_36_f at H
 simp only [ent]
 refine a_seq ?_
 refine a_reg _ rfl (s := ?zs1) ?_ ?_
 rotate_left
 ·simp only [EVT, stepR, evOp, St.ev, St.app, St.put, wrs, datOf, datOf1, TIS, CS, reduceAdd, reduceMul, reduceEqDiff, ↓reduceIte, reduceCtorEq, reduceLT, reduceLeDiff]
  (repeat' apply And.intro) <;> first|rfl|assumption|omega|(simp;done)|(simp;omega)|(simp_all;done)
 refine sA_n ?_
 refine a_seq ?_
 obtain ⟨r1, zh1, H⟩ := bind_some H
 have zk1 := slices_IndexFunc_59_pc (f1 := f1) (f1_F := f1_F) (f1_caps := f1_caps) f1_hp f1_pu zh1
 refine a_reg _ rfl (s := ?zs2) ?_ ?_
 rotate_left
 ·try simp only [EVT, stepR, evOp, St.ev, St.app, St.put, wrs, frz, datOf, datOf1, evBin, binInt, TIS, CS, reduceAdd, reduceMul, reduceEqDiff, ↓reduceIte, reduceCtorEq, reduceLT, reduceLeDiff, reduceSub, Nat.reduceBEq]
  repeat' with_reducible apply And.intro
  all_goals try ((with_reducible show CallR _ _ _ _ _ _ _); refine cR_s zk1 (.cons (.lst _ _ _ Kept.pu rfl) (.cons (.fn' .nil (Pus.purRs f1_pu)) .nil)) (.int _ _) ?_; simp only [EVT, stepR, evOp, St.ev, St.app, St.put, wrs, frz, datOf, datOf1, evBin, binInt, TIS, CS, reduceAdd, reduceMul, reduceEqDiff, ↓reduceIte, reduceCtorEq, reduceLT, reduceLeDiff, reduceSub, Nat.reduceBEq])
  all_goals ((repeat' apply And.intro) <;> first|rfl|assumption|omega|(simp;done)|(simp;omega)|(simp_all;done))
 refine sA_n ?_
 refine a_ret ?_
 obtain rfl := Option.some.inj H
 refine e_r2 (d := ?zd1) ?_ ?_
 rotate_left
 ·simp only [EVT, resR, single, evLoad, cut, TIS, CS, reduceAdd, reduceEqDiff, ↓reduceIte, reduceCtorEq, reduceLT, reduceLeDiff, reduceSub, Nat.reduceBEq]
  (repeat' apply And.intro) <;> first | rfl | assumption | omega | (simp; done)
 exact (.bool' rfl)
def cache_Right_J1 (l1 : List Kept) (rises1 : Bool) : Option Bool :=
 cond rises1 ((slices_ContainsFunc_36_f l1 cache_Right_1_f).bind fun r1 => some ((!r1))) (some (false))
def cache_Right_L1 (l1 : List Kept) : Nat → Bool → Int → Option Bool
 | 0, _, _ => none
 | m_ + 1, rises2, i1 => cond (decide (i1 < (l1.length : Int))) (cond rises2 ((idx l1 (IntKind.wrap .i64 (i1 - 1))).bind fun x1 => (idx l1 i1).bind fun x2 => (cache_order_f x1 x2).bind fun r2 => cache_Right_L1 l1 m_ (decide (r2 < 0)) (IntKind.wrap .i64 (i1 + 1))) (cache_Right_L1 l1 m_ false (IntKind.wrap .i64 (i1 + 1)))) (cache_Right_J1 l1 rises2)
def cache_Right_f (l1 : List Kept) : Option Bool :=
 cache_Right_L1 l1 BIG true 1
set_option maxHeartbeats 4000000 in
set_option maxRecDepth 20000 in
theorem cache_Right_pc {l1 : List Kept} {r : Bool} (H : cache_Right_f l1 = some r) : PC Try.prog 13 [.list 6 (l1.map Kept.c)] (.bool r) := by
 refine pcA_of Try.func13 (by rfl) (by decide) 31 (by rfl) [.tmp 2] (by rfl) ?_
 unfold cache_Right_f at H
 simp only [ent]
 refine a_seq ?_
 refine a_reg _ rfl (s := ?zs1) ?_ ?_
 rotate_left
 ·simp only [EVT, stepR, evOp, St.ev, St.app, St.put, wrs, datOf, datOf1, TIS, CS, reduceAdd, reduceMul, reduceEqDiff, ↓reduceIte, reduceCtorEq, reduceLT, reduceLeDiff]
  (repeat' apply And.intro) <;> first|rfl|assumption|omega|(simp;done)|(simp;omega)|(simp_all;done)
 refine sA_n ?_
 refine a_seq ?_
 refine a_reg _ rfl (s := ?zs2) ?_ ?_
 rotate_left
 ·simp only [EVT, stepR, evOp, St.ev, St.app, St.put, wrs, datOf, datOf1, TIS, CS, reduceAdd, reduceMul, reduceEqDiff, ↓reduceIte, reduceCtorEq, reduceLT, reduceLeDiff]
  (repeat' apply And.intro) <;> first|rfl|assumption|omega|(simp;done)|(simp;omega)|(simp_all;done)
 refine sA_n ?_
 refine a_cut (fun s => ∃ (rises1 : Bool) (t0 : Nat → Dat), cache_Right_J1 l1 rises1 = some r ∧ s = ⟨tl t0 [(0, .list 6 (l1.map Kept.c)), (3, .bool rises1)], hl [], 0, 31⟩) ?_ ?_
 ·refine a_seq ?_
  refine a_reg _ rfl (s := ?zs5) ?_ ?_
  rotate_left
  ·simp only [EVT, stepR, evOp, St.ev, St.app, St.put, wrs, datOf, datOf1, TIS, CS, reduceAdd, reduceMul, reduceEqDiff, ↓reduceIte, reduceCtorEq, reduceLT, reduceLeDiff]
   (repeat' apply And.intro) <;> first|rfl|assumption|omega|(simp;done)|(simp;omega)|(simp_all;done)
  refine sA_n ?_
  refine a_blk ?_
  refine a_loop (fun m s => ∃ (rises2 : Bool) (i1 : Int) (t0 : Nat → Dat), cache_Right_L1 l1 m rises2 i1 = some r ∧ s = ⟨tl t0 [(0, .list 6 (l1.map Kept.c)), (3, .bool rises2), (4, .int .i64 i1)], hl [], 0, 31⟩) BIG ?_ ?_
  ·refine wk_l [] [] [(0, .list 6 (l1.map Kept.c)), (3, .bool true), (4, .int .i64 1)] (by show ([0, 3, 4] : List Nat).Nodup; decide) (by show ([] : List Nat).Nodup; decide) ?_ ?_ (fun t0 => ⟨true, 1, t0, H, rfl⟩)
   ·exact trivial
   ·(simp only [AllT, ATT, reduceEqDiff, ↓reduceIte, and_true]); exact ⟨(.lst _ _ _ Kept.pu rfl), (.bool' (by first | rfl | assumption | (simp_all; done))), (.int' rfl)⟩
  ·rintro m_cache_Right_L1 s ⟨rises2, i1, t0, H, rfl⟩
   obtain _ | m_cache_Right_L1 := m_cache_Right_L1
   ·cases (show (none : Option _) = some _ from H)
   ·rw [cache_Right_L1] at H
    refine a_seq ?_
    refine a_seq ?_
    refine a_reg _ rfl (s := ?zs6) ?_ ?_
    rotate_left
    ·simp only [EVT, stepR, evOp, St.ev, St.app, St.put, wrs, evBuiltin, evBin, binInt, TIS, CS, reduceAdd, reduceMul, reduceEqDiff, ↓reduceIte, reduceCtorEq, reduceLT, reduceLeDiff, reduceSub, Nat.reduceBEq]
     (repeat' apply And.intro) <;> first|rfl|assumption|omega|(simp;done)|(simp;omega)|(simp_all;done)
    refine sA_n ?_
    refine a_condb ((decide (i1 < (l1.length : Int)))) (by rfl) (fun zc2 => ?_) (fun zc2 => ?_)
    ·have H := cond_t zc2 H
     refine a_skip ?_
     refine sA_n ?_
     refine a_seq ?_
     refine a_blk ?_
     refine bool_split (b := rises2) (fun zc3 => ?_) (fun zc3 => ?_)
     ·have H := cond_t zc3 H
      obtain ⟨x1, zh2, H⟩ := bind_some H
      have zg1 := idx_map zh2 Kept.c
      try simp only [Int.reduceToNat, Int.toNat_natCast] at zg1
      obtain ⟨zh2a, zh2b, _⟩ := idx_some zh2
      obtain ⟨x2, zh3, H⟩ := bind_some H
      have zg2 := idx_map zh3 Kept.c
      try simp only [Int.reduceToNat, Int.toNat_natCast] at zg2
      obtain ⟨zh3a, zh3b, _⟩ := idx_some zh3
      obtain ⟨r2, zh4, H⟩ := bind_some H
      have zk2 := cache_order_pc zh4
      refine a_drW (by kernel_rfl) _ rfl (s := ?zs7) (by kernel_rfl) (by kernel_rfl) ?zs7f ?_ ?_ ?_
      rotate_left 2
      ·try simp only [EVT, stepW, evOp, St.ev, St.app, St.put, wrs, datOf, datOf1, evBin, binInt, evIndexAddr, evLoad, cut, frz, TIS, CS, reduceAdd, reduceMul, reduceEqDiff, ↓reduceIte, reduceCtorEq, reduceLT, reduceLeDiff, Array.reduceGetElem?, Int.reduceToNat, reduceSub, Nat.reduceBEq, ↓zc2, ↓zc3, zg1, zg2]
       repeat' with_reducible apply And.intro
       all_goals try ((with_reducible show CallW _ _ _ _ _ _ _); refine cW_s [] zk2 (fun h2 e => (.cons (.agg' (.cons (.int' rfl) (.cons (.str' rfl) (.cons (.int' rfl) (.cons (.int' rfl) (.cons (.lst _ _ _ (ci_pu .u8) rfl) (.cons (.int' rfl) .nil))))))) (.cons (.agg' (.cons (.int' rfl) (.cons (.str' rfl) (.cons (.int' rfl) (.cons (.int' rfl) (.cons (.lst _ _ _ (ci_pu .u8) rfl) (.cons (.int' rfl) .nil))))))) .nil))) (.int _ _) ?_; simp only [EVT, stepW, evOp, St.ev, St.app, St.put, wrs, datOf, datOf1, evBin, binInt, evIndexAddr, evLoad, cut, frz, TIS, CS, reduceAdd, reduceMul, reduceEqDiff, ↓reduceIte, reduceCtorEq, reduceLT, reduceLeDiff, Array.reduceGetElem?, Int.reduceToNat, reduceSub, Nat.reduceBEq, ↓zc2, ↓zc3, zg1, zg2])
       all_goals ((repeat' apply And.intro) <;> first|rfl|assumption|omega|(simp;done)|(simp;omega)|(simp_all;done))
      ·kernel_rfl
      refine bA_n ?_
      refine sA_n ?_
      refine a_reg _ rfl (s := ?zs8) ?_ ?_
      rotate_left
      ·simp only [EVT, stepR, evOp, St.ev, St.app, St.put, wrs, datOf, datOf1, evBin, binInt, TIS, CS, reduceAdd, reduceMul, reduceEqDiff, ↓reduceIte, reduceCtorEq, reduceLT, reduceLeDiff, ↓zc2, ↓zc3, zg1, zg2]
       (repeat' apply And.intro) <;> first|rfl|assumption|omega|(simp;done)|(simp;omega)|(simp_all;done)
      refine lA_n ?_
      refine wk_l [] [] [(0, .list 6 (l1.map Kept.c)), (3, .bool (decide (r2 < 0))), (4, .int .i64 (IntKind.wrap .i64 (i1 + 1)))] (by show ([0, 3, 4] : List Nat).Nodup; decide) (by show ([] : List Nat).Nodup; decide) ?_ ?_ (fun t0 => ⟨_, Nat.lt_succ_self _, (decide (r2 < 0)), (IntKind.wrap .i64 (i1 + 1)), t0, H, rfl⟩)
      ·exact trivial
      ·(simp only [AllT, ATT, reduceEqDiff, ↓reduceIte, and_true]); exact ⟨(.lst _ _ _ Kept.pu rfl), (.bool' rfl), (.int' rfl)⟩
     ·have H := cond_f zc3 H
      refine a_drW (by kernel_rfl) _ rfl (s := ?zs9) (by kernel_rfl) (by kernel_rfl) ?zs9f ?_ ?_ ?_
      rotate_left 2
      ·simp only [EVT, stepW, evOp, St.ev, St.app, St.put, wrs, datOf, datOf1, evBin, binInt, evIndexAddr, evLoad, cut, frz, TIS, CS, reduceAdd, reduceMul, reduceEqDiff, ↓reduceIte, reduceCtorEq, reduceLT, reduceLeDiff, Array.reduceGetElem?, Int.reduceToNat, reduceSub, Nat.reduceBEq, ↓zc2, ↓zc3]
       try simp only [EVT, stepW, evOp, St.ev, St.app, St.put, wrs, datOf, datOf1, evBin, binInt, evIndexAddr, evLoad, cut, frz, TIS, CS, reduceAdd, reduceMul, reduceEqDiff, ↓reduceIte, reduceCtorEq, reduceLT, reduceLeDiff, Array.reduceGetElem?, Int.reduceToNat, reduceSub, Nat.reduceBEq, ↓zc2, ↓zc3]
       (repeat' apply And.intro) <;> first|rfl|assumption|omega|(simp;done)|(simp;omega)|(simp_all;done)
      ·kernel_rfl
      refine bA_n ?_
      refine sA_n ?_
      refine a_reg _ rfl (s := ?zs10) ?_ ?_
      rotate_left
      ·simp only [EVT, stepR, evOp, St.ev, St.app, St.put, wrs, datOf, datOf1, evBin, binInt, TIS, CS, reduceAdd, reduceMul, reduceEqDiff, ↓reduceIte, reduceCtorEq, reduceLT, reduceLeDiff, ↓zc2, ↓zc3]
       (repeat' apply And.intro) <;> first|rfl|assumption|omega|(simp;done)|(simp;omega)|(simp_all;done)
      refine lA_n ?_
      refine wk_l [] [] [(0, .list 6 (l1.map Kept.c)), (3, .bool false), (4, .int .i64 (IntKind.wrap .i64 (i1 + 1)))] (by show ([0, 3, 4] : List Nat).Nodup; decide) (by show ([] : List Nat).Nodup; decide) ?_ ?_ (fun t0 => ⟨_, Nat.lt_succ_self _, false, (IntKind.wrap .i64 (i1 + 1)), t0, H, rfl⟩)
      ·exact trivial
      ·(simp only [AllT, ATT, reduceEqDiff, ↓reduceIte, and_true]); exact ⟨(.lst _ _ _ Kept.pu rfl), (.bool' (by first | rfl | assumption | (simp_all; done))), (.int' rfl)⟩
    ·have H := cond_f zc2 H
     refine a_exit ?_
     refine sA_e ?_
     refine lA_e ?_
     refine bA_hit ?_
     refine cA_n ?_
     refine wk_l [] [] [(0, .list 6 (l1.map Kept.c)), (3, .bool rises2)] (by show ([0, 3] : List Nat).Nodup; decide) (by show ([] : List Nat).Nodup; decide) ?_ ?_ (fun t0 => ⟨rises2, t0, H, rfl⟩)
     ·exact trivial
     ·(simp only [AllT, ATT, reduceEqDiff, ↓reduceIte, and_true]); exact ⟨(.lst _ _ _ Kept.pu rfl), (.bool' rfl)⟩
 ·rintro s ⟨rises1, t0, H, rfl⟩
  unfold cache_Right_J1 at H
  refine a_seq ?_
  refine bool_split (b := rises1) (fun zc1 => ?_) (fun zc1 => ?_)
  ·have H := cond_t zc1 H
   obtain ⟨r1, zh1, H⟩ := bind_some H
   have zk1 := slices_ContainsFunc_36_pc (f1 := cache_Right_1_f) (f1_F := 37) (f1_caps := []) (fun _ _ h => cache_Right_1_pc h) .nil zh1
   refine a_reg _ rfl (s := ?zs3) ?_ ?_
   rotate_left
   ·try simp only [EVT, stepR, evOp, St.ev, St.app, St.put, wrs, frz, evUn, datOf, datOf1, TIS, CS, reduceAdd, reduceMul, reduceEqDiff, ↓reduceIte, reduceCtorEq, reduceLT, reduceLeDiff, Array.reduceGetElem?, reduceSub, Nat.reduceBEq, ↓zc1]
    repeat' with_reducible apply And.intro
    all_goals try ((with_reducible show CallR _ _ _ _ _ _ _); refine cR_s zk1 (.cons (.lst _ _ _ Kept.pu rfl) (.cons (.fn' .nil .nil) .nil)) (.bool _) ?_; simp only [EVT, stepR, evOp, St.ev, St.app, St.put, wrs, frz, evUn, datOf, datOf1, TIS, CS, reduceAdd, reduceMul, reduceEqDiff, ↓reduceIte, reduceCtorEq, reduceLT, reduceLeDiff, Array.reduceGetElem?, reduceSub, Nat.reduceBEq, ↓zc1])
    all_goals ((repeat' apply And.intro) <;> first|rfl|assumption|omega|(simp;done)|(simp;omega)|(simp_all;done))
   refine sA_n ?_
   refine a_ret ?_
   obtain rfl := Option.some.inj H
   refine e_r2 (d := ?zd1) ?_ ?_
   rotate_left
   ·simp only [EVT, resR, single, evLoad, cut, TIS, CS, reduceAdd, reduceEqDiff, ↓reduceIte, reduceCtorEq, reduceLT, reduceLeDiff, reduceSub, Nat.reduceBEq, zc1]
    (repeat' apply And.intro) <;> first | rfl | assumption | omega | (simp; done)
   exact (.bool' rfl)
  ·have H := cond_f zc1 H
   refine a_reg _ rfl (s := ?zs4) ?_ ?_
   rotate_left
   ·simp only [EVT, stepR, evOp, St.ev, St.app, St.put, wrs, frz, evUn, datOf, datOf1, TIS, CS, reduceAdd, reduceMul, reduceEqDiff, ↓reduceIte, reduceCtorEq, reduceLT, reduceLeDiff, Array.reduceGetElem?, reduceSub, Nat.reduceBEq, ↓zc1]
    try simp only [EVT, stepR, evOp, St.ev, St.app, St.put, wrs, frz, evUn, datOf, datOf1, TIS, CS, reduceAdd, reduceMul, reduceEqDiff, ↓reduceIte, reduceCtorEq, reduceLT, reduceLeDiff, Array.reduceGetElem?, reduceSub, Nat.reduceBEq, ↓zc1]
    (repeat' apply And.intro) <;> first|rfl|assumption|omega|(simp;done)|(simp;omega)|(simp_all;done)
   refine sA_n ?_
   refine a_ret ?_
   obtain rfl := Option.some.inj H
   refine e_r2 (d := ?zd2) ?_ ?_
   rotate_left
   ·simp only [EVT, resR, single, evLoad, cut, TIS, CS, reduceAdd, reduceEqDiff, ↓reduceIte, reduceCtorEq, reduceLT, reduceLeDiff, reduceSub, Nat.reduceBEq, zc1]
    (repeat' apply And.intro) <;> first | rfl | assumption | omega | (simp; done)
   exact (.bool' (by first | rfl | assumption | (simp_all; done)))
def slices_BinarySearchFunc_J1 (x1 : List Kept) (cmp1 : Kept → Kept → Option Int) (target1 : Kept) (i1 : Int) : Option (Int × Bool) :=
 cond (decide (i1 < (x1.length : Int))) ((idx x1 i1).bind fun x2 => (cmp1 x2 target1).bind fun r1 => some (i1, (r1 == 0))) (some (i1, false))
def slices_BinarySearchFunc_L1 (x1 : List Kept) (cmp1 : Kept → Kept → Option Int) (target1 : Kept) : Nat → Int → Int → Option (Int × Bool)
 | 0, _, _ => none
 | m_ + 1, i2, j1 => cond (decide (i2 < j1)) ((idx x1 (IntKind.wrap .i64 (Int.fdiv (IntKind.wrap .u64 (IntKind.wrap .i64 (i2 + j1))) (2 ^ (min 1 (IntKind.bits .u64)))))).bind fun x3 => (cmp1 x3 target1).bind fun r2 => cond (decide (r2 < 0)) (slices_BinarySearchFunc_L1 x1 cmp1 target1 m_ (IntKind.wrap .i64 ((IntKind.wrap .i64 (Int.fdiv (IntKind.wrap .u64 (IntKind.wrap .i64 (i2 + j1))) (2 ^ (min 1 (IntKind.bits .u64))))) + 1)) j1) (slices_BinarySearchFunc_L1 x1 cmp1 target1 m_ i2 (IntKind.wrap .i64 (Int.fdiv (IntKind.wrap .u64 (IntKind.wrap .i64 (i2 + j1))) (2 ^ (min 1 (IntKind.bits .u64))))))) (slices_BinarySearchFunc_J1 x1 cmp1 target1 i2)
def slices_BinarySearchFunc_f (x1 : List Kept) (target1 : Kept) (cmp1 : Kept → Kept → Option Int) : Option (Int × Bool) :=
 slices_BinarySearchFunc_L1 x1 cmp1 target1 BIG 0 (x1.length : Int)
set_option maxHeartbeats 4000000 in
set_option maxRecDepth 20000 in
theorem slices_BinarySearchFunc_pc {x1 : List Kept} {target1 : Kept} {cmp1 : Kept → Kept → Option Int} {cmp1_F : FuncId} {cmp1_caps : List Dat} (cmp1_hp : ∀ (x0_ : Kept) (x1_ : Kept) (r : Int), cmp1 x0_ x1_ = some r → PC Try.prog cmp1_F (.agg (Kept.c x0_) :: .agg (Kept.c x1_) :: cmp1_caps) (.int .i64 r)) (cmp1_pu : Pus cmp1_caps) {r : Int × Bool} (H : slices_BinarySearchFunc_f x1 target1 cmp1 = some r) : PC Try.prog 54 [.list 6 (x1.map Kept.c), .agg (Kept.c target1), .fn (.func cmp1_F) [] cmp1_caps] (.tup [.int .i64 r.1, .bool r.2]) := by
 refine pcA_of Try.func54 (by rfl) (by decide) 49 (by rfl) [.tmp 6, .tmp 7] (by rfl) ?_
 unfold slices_BinarySearchFunc_f at H
 simp only [ent]
 refine a_seq ?_
 refine a_reg _ rfl (s := ?zs1) ?_ ?_
 rotate_left
 ·simp only [EVT, stepR, evOp, St.ev, St.app, St.put, wrs, allOne, datOf, datOf1, TIS, CS, reduceAdd, reduceMul, reduceEqDiff, ↓reduceIte, reduceCtorEq, reduceLT, reduceLeDiff]
  (repeat' apply And.intro) <;> first|rfl|assumption|omega|(simp;done)|(simp;omega)|(simp_all;done)
 refine sA_n ?_
 refine a_seq ?_
 refine a_reg _ rfl (s := ?zs2) ?_ ?_
 rotate_left
 ·simp only [EVT, stepR, evOp, St.ev, St.app, St.put, wrs, evBuiltin, TIS, CS, reduceAdd, reduceMul, reduceEqDiff, ↓reduceIte, reduceCtorEq, reduceLT, reduceLeDiff, reduceSub, Nat.reduceBEq]
  (repeat' apply And.intro) <;> first|rfl|assumption|omega|(simp;done)|(simp;omega)|(simp_all;done)
 refine sA_n ?_
 refine a_seq ?_
 refine a_reg _ rfl (s := ?zs3) ?_ ?_
 rotate_left
 ·simp only [EVT, stepR, evOp, St.ev, St.app, St.put, wrs, datOf, datOf1, TIS, CS, reduceAdd, reduceMul, reduceEqDiff, ↓reduceIte, reduceCtorEq, reduceLT, reduceLeDiff]
  (repeat' apply And.intro) <;> first|rfl|assumption|omega|(simp;done)|(simp;omega)|(simp_all;done)
 refine sA_n ?_
 refine a_cut (fun s => ∃ (i1 : Int) (t0 : Nat → Dat), slices_BinarySearchFunc_J1 x1 cmp1 target1 i1 = some r ∧ s = ⟨tl t0 [(0, .list 6 (x1.map Kept.c)), (2, .fn (.func cmp1_F) [] cmp1_caps), (4, .ptr 0 0 0 6), (8, .int .i64 (x1.length : Int)), (9, .int .i64 i1)], hl [⟨62, 6, false, [[.int .i64 target1.ino, .str target1.name, .int .i64 target1.page, .int .i64 target1.is, .list 1 (target1.data.map (ci .u8)), .int .i64 target1.until_]]⟩], 1, 49⟩) ?_ ?_
 ·refine a_blk ?_
  refine a_loop (fun m s => ∃ (i2 : Int) (j1 : Int) (t0 : Nat → Dat), slices_BinarySearchFunc_L1 x1 cmp1 target1 m i2 j1 = some r ∧ s = ⟨tl t0 [(0, .list 6 (x1.map Kept.c)), (2, .fn (.func cmp1_F) [] cmp1_caps), (4, .ptr 0 0 0 6), (8, .int .i64 (x1.length : Int)), (9, .int .i64 i2), (10, .int .i64 j1)], hl [⟨62, 6, false, [[.int .i64 target1.ino, .str target1.name, .int .i64 target1.page, .int .i64 target1.is, .list 1 (target1.data.map (ci .u8)), .int .i64 target1.until_]]⟩], 1, 49⟩) BIG ?_ ?_
  ·refine wk_l [(some 0, ⟨62, 6, false, [[.int .i64 target1.ino, .str target1.name, .int .i64 target1.page, .int .i64 target1.is, .list 1 (target1.data.map (ci .u8)), .int .i64 target1.until_]]⟩)] [] [(0, .list 6 (x1.map Kept.c)), (2, .fn (.func cmp1_F) [] cmp1_caps), (4, .ptr 0 0 0 6), (8, .int .i64 (x1.length : Int)), (9, .int .i64 0), (10, .int .i64 (x1.length : Int))] (by show ([0, 2, 4, 8, 9, 10] : List Nat).Nodup; decide) (by show ([0] : List Nat).Nodup; decide) ?_ ?_ (fun t0 => ⟨0, (x1.length : Int), t0, H, rfl⟩)
   ·exact (allB_some (by rfl) rfl (.cons (.cons (.int' rfl) (.cons (.str' rfl) (.cons (.int' rfl) (.cons (.int' rfl) (.cons (.lst _ _ _ (ci_pu .u8) rfl) (.cons (.int' rfl) .nil)))))) .nil) trivial)
   ·(simp only [AllT, ATT, reduceEqDiff, ↓reduceIte, and_true]); exact ⟨(.lst _ _ _ Kept.pu rfl), (.fn' .nil (RNs.pu cmp1_pu)), (.ptr _ _ _ _ _ rfl), (.int' rfl), (.int' rfl), (.int' rfl)⟩
  ·rintro m_slices_BinarySearchFunc_L1 s ⟨i2, j1, t0, H, rfl⟩
   obtain _ | m_slices_BinarySearchFunc_L1 := m_slices_BinarySearchFunc_L1
   ·cases (show (none : Option _) = some _ from H)
   ·rw [slices_BinarySearchFunc_L1] at H
    refine a_seq ?_
    refine a_seq ?_
    refine a_reg _ rfl (s := ?zs6) ?_ ?_
    rotate_left
    ·simp only [EVT, stepR, evOp, St.ev, St.app, St.put, wrs, evBin, binInt, TIS, CS, reduceAdd, reduceMul, reduceEqDiff, ↓reduceIte, reduceCtorEq, reduceLT, reduceLeDiff]
     (repeat' apply And.intro) <;> first|rfl|assumption|omega|(simp;done)|(simp;omega)|(simp_all;done)
    refine sA_n ?_
    refine a_condb ((decide (i2 < j1))) (by rfl) (fun zc2 => ?_) (fun zc2 => ?_)
    ·have H := cond_t zc2 H
     refine a_skip ?_
     refine sA_n ?_
     refine a_blk ?_
     refine a_seq ?_
     refine a_reg _ rfl (s := ?zs7) ?_ ?_
     rotate_left
     ·simp only [EVT, stepR, evOp, St.ev, St.app, St.put, wrs, evBin, binInt, evToStr, elems, datOf, datOf1, TIS, CS, reduceAdd, reduceMul, reduceEqDiff, ↓reduceIte, reduceCtorEq, reduceLT, reduceLeDiff, ↓zc2]
      (repeat' apply And.intro) <;> first|rfl|assumption|omega|(simp;done)|(simp;omega)|(simp_all;done)
     refine sA_n ?_
     refine a_seq ?_
     obtain ⟨x3, zh3, H⟩ := bind_some H
     have zg2 := idx_map zh3 Kept.c
     try simp only [Int.reduceToNat, Int.toNat_natCast] at zg2
     obtain ⟨zh3a, zh3b, _⟩ := idx_some zh3
     obtain ⟨r2, zh4, H⟩ := bind_some H
     have zk2 := cmp1_hp _ _ _ zh4
     refine a_drW (by kernel_rfl) _ rfl (s := ?zs8) (by kernel_rfl) (by kernel_rfl) ?zs8f ?_ ?_ ?_
     rotate_left 2
     ·try simp only [EVT, stepW, evOp, St.ev, St.app, St.put, wrs, evIndexAddr, evLoad, cut, frz, datOf, datOf1, evBin, binInt, TIS, CS, reduceAdd, reduceMul, reduceEqDiff, ↓reduceIte, reduceCtorEq, reduceLT, reduceLeDiff, Int.reduceToNat, reduceSub, Nat.reduceBEq, ↓zc2, zg2]
      repeat' with_reducible apply And.intro
      all_goals try ((with_reducible show CallW _ _ _ _ _ _ _); refine cW_s [] zk2 (fun h2 e => (.cons (.agg' (.cons (.int' rfl) (.cons (.str' rfl) (.cons (.int' rfl) (.cons (.int' rfl) (.cons (.lst _ _ _ (ci_pu .u8) rfl) (.cons (.int' rfl) .nil))))))) (.cons (.agg' (.cons (.int' rfl) (.cons (.str' rfl) (.cons (.int' rfl) (.cons (.int' rfl) (.cons (.lst _ _ _ (ci_pu .u8) rfl) (.cons (.int' rfl) .nil))))))) (Pus.purRs cmp1_pu)))) (.int _ _) ?_; simp only [EVT, stepW, evOp, St.ev, St.app, St.put, wrs, evIndexAddr, evLoad, cut, frz, datOf, datOf1, evBin, binInt, TIS, CS, reduceAdd, reduceMul, reduceEqDiff, ↓reduceIte, reduceCtorEq, reduceLT, reduceLeDiff, Int.reduceToNat, reduceSub, Nat.reduceBEq, ↓zc2, zg2])
      all_goals ((repeat' apply And.intro) <;> first|rfl|assumption|omega|(simp;done)|(simp;omega)|(simp_all;done))
     ·kernel_rfl
     refine sA_n ?_
     refine a_condb ((decide (r2 < 0))) (by rfl) (fun zc3 => ?_) (fun zc3 => ?_)
     ·have H := cond_t zc3 H
      refine a_reg _ rfl (s := ?zs9) ?_ ?_
      rotate_left
      ·simp only [EVT, stepR, evOp, St.ev, St.app, St.put, wrs, datOf, datOf1, evBin, binInt, TIS, CS, reduceAdd, reduceMul, reduceEqDiff, ↓reduceIte, reduceCtorEq, reduceLT, reduceLeDiff, ↓zc2, zg2, ↓zc3]
       (repeat' apply And.intro) <;> first|rfl|assumption|omega|(simp;done)|(simp;omega)|(simp_all;done)
      refine bA_n ?_
      refine lA_n ?_
      refine wk_l [(some 0, ⟨62, 6, false, [[.int .i64 target1.ino, .str target1.name, .int .i64 target1.page, .int .i64 target1.is, .list 1 (target1.data.map (ci .u8)), .int .i64 target1.until_]]⟩)] [] [(0, .list 6 (x1.map Kept.c)), (2, .fn (.func cmp1_F) [] cmp1_caps), (4, .ptr 0 0 0 6), (8, .int .i64 (x1.length : Int)), (9, .int .i64 (IntKind.wrap .i64 ((IntKind.wrap .i64 (Int.fdiv (IntKind.wrap .u64 (IntKind.wrap .i64 (i2 + j1))) (2 ^ (min 1 (IntKind.bits .u64))))) + 1))), (10, .int .i64 j1)] (by show ([0, 2, 4, 8, 9, 10] : List Nat).Nodup; decide) (by show ([0] : List Nat).Nodup; decide) ?_ ?_ (fun t0 => ⟨_, Nat.lt_succ_self _, (IntKind.wrap .i64 ((IntKind.wrap .i64 (Int.fdiv (IntKind.wrap .u64 (IntKind.wrap .i64 (i2 + j1))) (2 ^ (min 1 (IntKind.bits .u64))))) + 1)), j1, t0, H, rfl⟩)
      ·exact (allB_some (by rfl) rfl (.cons (.cons (.int' rfl) (.cons (.str' rfl) (.cons (.int' rfl) (.cons (.int' rfl) (.cons (.lst _ _ _ (ci_pu .u8) rfl) (.cons (.int' rfl) .nil)))))) .nil) trivial)
      ·(simp only [AllT, ATT, reduceEqDiff, ↓reduceIte, and_true]); exact ⟨(.lst _ _ _ Kept.pu rfl), (.fn' .nil (RNs.pu cmp1_pu)), (.ptr _ _ _ _ _ rfl), (.int' rfl), (.int' rfl), (.int' rfl)⟩
     ·have H := cond_f zc3 H
      refine a_reg _ rfl (s := ?zs10) ?_ ?_
      rotate_left
      ·simp only [EVT, stepR, evOp, St.ev, St.app, St.put, wrs, TIS, CS, reduceAdd, reduceMul, reduceEqDiff, ↓reduceIte, reduceCtorEq, reduceLT, reduceLeDiff, ↓zc2, zg2, ↓zc3]
       (repeat' apply And.intro) <;> first|rfl|assumption|omega|(simp;done)|(simp;omega)|(simp_all;done)
      refine bA_n ?_
      refine lA_n ?_
      refine wk_l [(some 0, ⟨62, 6, false, [[.int .i64 target1.ino, .str target1.name, .int .i64 target1.page, .int .i64 target1.is, .list 1 (target1.data.map (ci .u8)), .int .i64 target1.until_]]⟩)] [] [(0, .list 6 (x1.map Kept.c)), (2, .fn (.func cmp1_F) [] cmp1_caps), (4, .ptr 0 0 0 6), (8, .int .i64 (x1.length : Int)), (9, .int .i64 i2), (10, .int .i64 (IntKind.wrap .i64 (Int.fdiv (IntKind.wrap .u64 (IntKind.wrap .i64 (i2 + j1))) (2 ^ (min 1 (IntKind.bits .u64))))))] (by show ([0, 2, 4, 8, 9, 10] : List Nat).Nodup; decide) (by show ([0] : List Nat).Nodup; decide) ?_ ?_ (fun t0 => ⟨_, Nat.lt_succ_self _, i2, (IntKind.wrap .i64 (Int.fdiv (IntKind.wrap .u64 (IntKind.wrap .i64 (i2 + j1))) (2 ^ (min 1 (IntKind.bits .u64))))), t0, H, rfl⟩)
      ·exact (allB_some (by rfl) rfl (.cons (.cons (.int' rfl) (.cons (.str' rfl) (.cons (.int' rfl) (.cons (.int' rfl) (.cons (.lst _ _ _ (ci_pu .u8) rfl) (.cons (.int' rfl) .nil)))))) .nil) trivial)
      ·(simp only [AllT, ATT, reduceEqDiff, ↓reduceIte, and_true]); exact ⟨(.lst _ _ _ Kept.pu rfl), (.fn' .nil (RNs.pu cmp1_pu)), (.ptr _ _ _ _ _ rfl), (.int' rfl), (.int' rfl), (.int' rfl)⟩
    ·have H := cond_f zc2 H
     refine a_exit ?_
     refine sA_e ?_
     refine lA_e ?_
     refine bA_hit ?_
     refine cA_n ?_
     refine wk_l [(some 0, ⟨62, 6, false, [[.int .i64 target1.ino, .str target1.name, .int .i64 target1.page, .int .i64 target1.is, .list 1 (target1.data.map (ci .u8)), .int .i64 target1.until_]]⟩)] [] [(0, .list 6 (x1.map Kept.c)), (2, .fn (.func cmp1_F) [] cmp1_caps), (4, .ptr 0 0 0 6), (8, .int .i64 (x1.length : Int)), (9, .int .i64 i2)] (by show ([0, 2, 4, 8, 9] : List Nat).Nodup; decide) (by show ([0] : List Nat).Nodup; decide) ?_ ?_ (fun t0 => ⟨i2, t0, H, rfl⟩)
     ·exact (allB_some (by rfl) rfl (.cons (.cons (.int' rfl) (.cons (.str' rfl) (.cons (.int' rfl) (.cons (.int' rfl) (.cons (.lst _ _ _ (ci_pu .u8) rfl) (.cons (.int' rfl) .nil)))))) .nil) trivial)
     ·(simp only [AllT, ATT, reduceEqDiff, ↓reduceIte, and_true]); exact ⟨(.lst _ _ _ Kept.pu rfl), (.fn' .nil (RNs.pu cmp1_pu)), (.ptr _ _ _ _ _ rfl), (.int' rfl), (.int' rfl)⟩
 ·rintro s ⟨i1, t0, H, rfl⟩
  unfold slices_BinarySearchFunc_J1 at H
  refine a_seq ?_
  refine bool_split (b := (decide (i1 < (x1.length : Int)))) (fun zc1 => ?_) (fun zc1 => ?_)
  ·have H := cond_t zc1 H
   obtain ⟨x2, zh1, H⟩ := bind_some H
   have zg1 := idx_map zh1 Kept.c
   try simp only [Int.reduceToNat, Int.toNat_natCast] at zg1
   obtain ⟨zh1a, zh1b, _⟩ := idx_some zh1
   obtain ⟨r1, zh2, H⟩ := bind_some H
   have zk1 := cmp1_hp _ _ _ zh2
   refine a_drW (by kernel_rfl) _ rfl (s := ?zs4) (by kernel_rfl) (by kernel_rfl) ?zs4f ?_ ?_ ?_
   rotate_left 2
   ·try simp only [EVT, stepW, evOp, St.ev, St.app, St.put, wrs, evBin, binInt, evIndexAddr, evLoad, cut, frz, datOf, datOf1, TIS, CS, reduceAdd, reduceMul, reduceEqDiff, ↓reduceIte, reduceCtorEq, reduceLT, reduceLeDiff, Array.reduceGetElem?, Int.reduceToNat, reduceSub, Nat.reduceBEq, ↓zc1, zg1]
    repeat' with_reducible apply And.intro
    all_goals try ((with_reducible show CallW _ _ _ _ _ _ _); refine cW_s [] zk1 (fun h2 e => (.cons (.agg' (.cons (.int' rfl) (.cons (.str' rfl) (.cons (.int' rfl) (.cons (.int' rfl) (.cons (.lst _ _ _ (ci_pu .u8) rfl) (.cons (.int' rfl) .nil))))))) (.cons (.agg' (.cons (.int' rfl) (.cons (.str' rfl) (.cons (.int' rfl) (.cons (.int' rfl) (.cons (.lst _ _ _ (ci_pu .u8) rfl) (.cons (.int' rfl) .nil))))))) (Pus.purRs cmp1_pu)))) (.int _ _) ?_; simp only [EVT, stepW, evOp, St.ev, St.app, St.put, wrs, evBin, binInt, evIndexAddr, evLoad, cut, frz, datOf, datOf1, TIS, CS, reduceAdd, reduceMul, reduceEqDiff, ↓reduceIte, reduceCtorEq, reduceLT, reduceLeDiff, Array.reduceGetElem?, Int.reduceToNat, reduceSub, Nat.reduceBEq, ↓zc1, zg1])
    all_goals ((repeat' apply And.intro) <;> first|rfl|assumption|omega|(simp;done)|(simp;omega)|(simp_all;done))
   ·kernel_rfl
   refine sA_n ?_
   refine a_ret ?_
   obtain rfl := Option.some.inj H
   refine e_r2 (d := ?zd1) ?_ ?_
   rotate_left
   ·simp only [EVT, resR, single, evLoad, cut, TIS, CS, reduceAdd, reduceEqDiff, ↓reduceIte, reduceCtorEq, reduceLT, reduceLeDiff, reduceSub, Nat.reduceBEq, zc1, zg1]
    (repeat' apply And.intro) <;> first | rfl | assumption | omega | (simp; done)
   exact (.tup' (.cons (.int' rfl) (.cons (.bool' rfl) .nil)))
  ·have H := cond_f zc1 H
   refine a_drW (by kernel_rfl) _ rfl (s := ?zs5) (by kernel_rfl) (by kernel_rfl) ?zs5f ?_ ?_ ?_
   rotate_left 2
   ·simp only [EVT, stepW, evOp, St.ev, St.app, St.put, wrs, evBin, binInt, evIndexAddr, evLoad, cut, frz, datOf, datOf1, TIS, CS, reduceAdd, reduceMul, reduceEqDiff, ↓reduceIte, reduceCtorEq, reduceLT, reduceLeDiff, Array.reduceGetElem?, Int.reduceToNat, reduceSub, Nat.reduceBEq, ↓zc1]
    try simp only [EVT, stepW, evOp, St.ev, St.app, St.put, wrs, evBin, binInt, evIndexAddr, evLoad, cut, frz, datOf, datOf1, TIS, CS, reduceAdd, reduceMul, reduceEqDiff, ↓reduceIte, reduceCtorEq, reduceLT, reduceLeDiff, Array.reduceGetElem?, Int.reduceToNat, reduceSub, Nat.reduceBEq, ↓zc1]
    (repeat' apply And.intro) <;> first|rfl|assumption|omega|(simp;done)|(simp;omega)|(simp_all;done)
   ·kernel_rfl
   refine sA_n ?_
   refine a_ret ?_
   obtain rfl := Option.some.inj H
   refine e_r2 (d := ?zd2) ?_ ?_
   rotate_left
   ·simp only [EVT, resR, single, evLoad, cut, TIS, CS, reduceAdd, reduceEqDiff, ↓reduceIte, reduceCtorEq, reduceLT, reduceLeDiff, reduceSub, Nat.reduceBEq, zc1]
    (repeat' apply And.intro) <;> first | rfl | assumption | omega | (simp; done)
   exact (.tup' (.cons (.int' rfl) (.cons (.bool' (by first | rfl | assumption | (simp_all; done))) .nil)))
def cache_get_J1 (l1 : List Kept) (r1 : Int × Bool) (of1 : Kept → Option (List Int)) (v1 : Bool) : Option ((List Int) × Bool) :=
 cond v1 (some ([], false)) ((idx l1 r1.1).bind fun x1 => (of1 x1).bind fun r2 => some (r2, true))
def cache_get_f (l1 : List Kept) (k1 : Kept) (now1 : Int) (of1 : Kept → Option (List Int)) : Option ((List Int) × Bool) :=
 (slices_BinarySearchFunc_f l1 k1 cache_order_f).bind fun r1 => cond (!r1.2) (cache_get_J1 l1 r1 of1 true) ((idx l1 r1.1).bind fun x2 => cache_get_J1 l1 r1 of1 (decide (x2.until_ ≤ now1)))
set_option maxHeartbeats 4000000 in
set_option maxRecDepth 20000 in
theorem cache_get_pc {l1 : List Kept} {k1 : Kept} {now1 : Int} {of1 : Kept → Option (List Int)} {of1_F : FuncId} {of1_caps : List Dat} (of1_hp : ∀ (x0_ : Kept) (r : (List Int)), of1 x0_ = some r → PC Try.prog of1_F (.agg (Kept.c x0_) :: of1_caps) (.list 1 (r.map (ci .u8)))) (of1_pu : Pus of1_caps) {r : (List Int) × Bool} (H : cache_get_f l1 k1 now1 of1 = some r) : PC Try.prog 26 [.list 6 (l1.map Kept.c), .agg (Kept.c k1), .int .i64 now1, .fn (.func of1_F) [] of1_caps] (.tup [.list 1 (r.1.map (ci .u8)), .bool r.2]) := by
 refine pcA_of Try.func26 (by rfl) (by decide) 37 (by rfl) [.tmp 8, .tmp 9] (by rfl) ?_
 unfold cache_get_f at H
 simp only [ent]
 refine a_seq ?_
 refine a_reg _ rfl (s := ?zs1) ?_ ?_
 rotate_left
 ·simp only [EVT, stepR, evOp, St.ev, St.app, St.put, wrs, allOne, datOf, datOf1, TIS, CS, reduceAdd, reduceMul, reduceEqDiff, ↓reduceIte, reduceCtorEq, reduceLT, reduceLeDiff]
  (repeat' apply And.intro) <;> first|rfl|assumption|omega|(simp;done)|(simp;omega)|(simp_all;done)
 refine sA_n ?_
 refine a_seq ?_
 obtain ⟨r1, zh1, H⟩ := bind_some H
 have zk1 := slices_BinarySearchFunc_pc (cmp1 := cache_order_f) (cmp1_F := 35) (cmp1_caps := []) (fun _ _ _ h => cache_order_pc h) .nil zh1
 refine a_reg _ rfl (s := ?zs2) ?_ ?_
 rotate_left
 ·try simp only [EVT, stepR, evOp, St.ev, St.app, St.put, wrs, evLoad, cut, frz, TIS, CS, reduceAdd, reduceMul, reduceEqDiff, ↓reduceIte, reduceCtorEq, reduceLT, reduceLeDiff, reduceSub, Nat.reduceBEq]
  repeat' with_reducible apply And.intro
  all_goals try ((with_reducible show CallR _ _ _ _ _ _ _); refine cR_s zk1 (.cons (.lst _ _ _ Kept.pu rfl) (.cons (.agg' (.cons (.int' rfl) (.cons (.str' rfl) (.cons (.int' rfl) (.cons (.int' rfl) (.cons (.lst _ _ _ (ci_pu .u8) rfl) (.cons (.int' rfl) .nil))))))) (.cons (.fn' .nil .nil) .nil))) (Scal.tup _ (by intro i c h; rcases i with _ | _ | _ | i <;> simp at h <;> subst h <;> constructor)) ?_; simp only [EVT, stepR, evOp, St.ev, St.app, St.put, wrs, evLoad, cut, frz, TIS, CS, reduceAdd, reduceMul, reduceEqDiff, ↓reduceIte, reduceCtorEq, reduceLT, reduceLeDiff, reduceSub, Nat.reduceBEq])
  all_goals ((repeat' apply And.intro) <;> first|rfl|assumption|omega|(simp;done)|(simp;omega)|(simp_all;done))
 refine sA_n ?_
 refine a_seq ?_
 refine a_cut (fun s => ∃ (v1 : Bool) (t0 : Nat → Dat), cache_get_J1 l1 r1 of1 v1 = some r ∧ s = ⟨tl t0 [(0, .list 6 (l1.map Kept.c)), (3, .fn (.func of1_F) [] of1_caps), (10, .int .i64 r1.1), (29, .bool v1)], hl [], 0, 37⟩) ?_ ?_
 ·refine bool_split (b := (!r1.2)) (fun zc2 => ?_) (fun zc2 => ?_)
  ·have H := cond_t zc2 H
   refine a_reg _ rfl (s := ?zs6) ?_ ?_
   rotate_left
   ·simp only [EVT, stepR, evOp, St.ev, St.app, St.put, wrs, evUn, evIndexAddr, evFieldAddr, evLoad, cut, evBin, binInt, datOf, datOf1, TIS, CS, reduceAdd, reduceMul, reduceEqDiff, ↓reduceIte, reduceCtorEq, reduceLT, reduceLeDiff, Array.reduceGetElem?, Int.reduceToNat, reduceSub, Nat.reduceBEq, ↓zc2]
    try simp only [EVT, stepR, evOp, St.ev, St.app, St.put, wrs, evUn, evIndexAddr, evFieldAddr, evLoad, cut, evBin, binInt, datOf, datOf1, TIS, CS, reduceAdd, reduceMul, reduceEqDiff, ↓reduceIte, reduceCtorEq, reduceLT, reduceLeDiff, Array.reduceGetElem?, Int.reduceToNat, reduceSub, Nat.reduceBEq, ↓zc2]
    (repeat' apply And.intro) <;> first|rfl|assumption|omega|(simp;done)|(simp;omega)|(simp_all;done)
   refine cA_n ?_
   refine wk_l [] [] [(0, .list 6 (l1.map Kept.c)), (3, .fn (.func of1_F) [] of1_caps), (10, .int .i64 r1.1), (29, .bool true)] (by show ([0, 3, 10, 29] : List Nat).Nodup; decide) (by show ([] : List Nat).Nodup; decide) ?_ ?_ (fun t0 => ⟨true, t0, H, rfl⟩)
   ·exact trivial
   ·(simp only [AllT, ATT, reduceEqDiff, ↓reduceIte, and_true]); exact ⟨(.lst _ _ _ Kept.pu rfl), (.fn' .nil (RNs.pu of1_pu)), (.int' rfl), (.bool' (by first | rfl | assumption | (simp_all; done)))⟩
  ·have H := cond_f zc2 H
   obtain ⟨x2, zh4, H⟩ := bind_some H
   have zg2 := idx_map zh4 Kept.c
   try simp only [Int.reduceToNat, Int.toNat_natCast] at zg2
   obtain ⟨zh4a, zh4b, _⟩ := idx_some zh4
   refine a_reg _ rfl (s := ?zs7) ?_ ?_
   rotate_left
   ·simp only [EVT, stepR, evOp, St.ev, St.app, St.put, wrs, evUn, evIndexAddr, evFieldAddr, evLoad, cut, evBin, binInt, datOf, datOf1, TIS, CS, reduceAdd, reduceMul, reduceEqDiff, ↓reduceIte, reduceCtorEq, reduceLT, reduceLeDiff, Array.reduceGetElem?, Int.reduceToNat, reduceSub, Nat.reduceBEq, ↓zc2, zg2]
    try simp only [EVT, stepR, evOp, St.ev, St.app, St.put, wrs, evUn, evIndexAddr, evFieldAddr, evLoad, cut, evBin, binInt, datOf, datOf1, TIS, CS, reduceAdd, reduceMul, reduceEqDiff, ↓reduceIte, reduceCtorEq, reduceLT, reduceLeDiff, Array.reduceGetElem?, Int.reduceToNat, reduceSub, Nat.reduceBEq, ↓zc2, zg2]
    (repeat' apply And.intro) <;> first|rfl|assumption|omega|(simp;done)|(simp;omega)|(simp_all;done)
   refine cA_n ?_
   refine wk_l [] [] [(0, .list 6 (l1.map Kept.c)), (3, .fn (.func of1_F) [] of1_caps), (10, .int .i64 r1.1), (29, .bool (decide (x2.until_ ≤ now1)))] (by show ([0, 3, 10, 29] : List Nat).Nodup; decide) (by show ([] : List Nat).Nodup; decide) ?_ ?_ (fun t0 => ⟨(decide (x2.until_ ≤ now1)), t0, H, rfl⟩)
   ·exact trivial
   ·(simp only [AllT, ATT, reduceEqDiff, ↓reduceIte, and_true]); exact ⟨(.lst _ _ _ Kept.pu rfl), (.fn' .nil (RNs.pu of1_pu)), (.int' rfl), (.bool' rfl)⟩
 ·rintro s ⟨v1, t0, H, rfl⟩
  unfold cache_get_J1 at H
  refine a_condb (v1) (by rfl) (fun zc1 => ?_) (fun zc1 => ?_)
  ·have H := cond_t zc1 H
   refine a_seq ?_
   refine a_reg _ rfl (s := ?zs3) ?_ ?_
   rotate_left
   ·simp only [EVT, stepR, evOp, St.ev, St.app, St.put, wrs, datOf, datOf1, TIS, CS, reduceAdd, reduceMul, reduceEqDiff, ↓reduceIte, reduceCtorEq, reduceLT, reduceLeDiff, ↓zc1]
    (repeat' apply And.intro) <;> first|rfl|assumption|omega|(simp;done)|(simp;omega)|(simp_all;done)
   refine sA_n ?_
   refine a_seq ?_
   refine a_reg _ rfl (s := ?zs4) ?_ ?_
   rotate_left
   ·simp only [EVT, stepR, evOp, St.ev, St.app, St.put, wrs, datOf, datOf1, TIS, CS, reduceAdd, reduceMul, reduceEqDiff, ↓reduceIte, reduceCtorEq, reduceLT, reduceLeDiff, ↓zc1]
    (repeat' apply And.intro) <;> first|rfl|assumption|omega|(simp;done)|(simp;omega)|(simp_all;done)
   refine sA_n ?_
   refine a_ret ?_
   refine sA_r ?_
   obtain rfl := Option.some.inj H
   refine e_r2 (d := ?zd1) ?_ ?_
   rotate_left
   ·simp only [EVT, resR, single, evLoad, cut, TIS, CS, reduceAdd, reduceEqDiff, ↓reduceIte, reduceCtorEq, reduceLT, reduceLeDiff, reduceSub, Nat.reduceBEq, zc1]
    (repeat' apply And.intro) <;> first | rfl | assumption | omega | (simp; done)
   exact (.tup' (.cons (.nil _) (.cons (.bool' (by first | rfl | assumption | (simp_all; done))) .nil)))
  ·have H := cond_f zc1 H
   refine a_skip ?_
   refine sA_n ?_
   refine a_seq ?_
   obtain ⟨x1, zh2, H⟩ := bind_some H
   have zg1 := idx_map zh2 Kept.c
   try simp only [Int.reduceToNat, Int.toNat_natCast] at zg1
   obtain ⟨zh2a, zh2b, _⟩ := idx_some zh2
   obtain ⟨r2, zh3, H⟩ := bind_some H
   have zk2 := of1_hp _ _ zh3
   refine a_reg _ rfl (s := ?zs5) ?_ ?_
   rotate_left
   ·try simp only [EVT, stepR, evOp, St.ev, St.app, St.put, wrs, evIndexAddr, evLoad, cut, frz, datOf, datOf1, TIS, CS, reduceAdd, reduceMul, reduceEqDiff, ↓reduceIte, reduceCtorEq, reduceLT, reduceLeDiff, Int.reduceToNat, reduceSub, Nat.reduceBEq, ↓zc1, zg1]
    repeat' with_reducible apply And.intro
    all_goals try ((with_reducible show CallR _ _ _ _ _ _ _); refine cR_p zk2 (.cons (.agg' (.cons (.int' rfl) (.cons (.str' rfl) (.cons (.int' rfl) (.cons (.int' rfl) (.cons (.lst _ _ _ (ci_pu .u8) rfl) (.cons (.int' rfl) .nil))))))) (Pus.purRs of1_pu)) ?_; simp only [EVT, stepR, evOp, St.ev, St.app, St.put, wrs, evIndexAddr, evLoad, cut, frz, datOf, datOf1, TIS, CS, reduceAdd, reduceMul, reduceEqDiff, ↓reduceIte, reduceCtorEq, reduceLT, reduceLeDiff, Int.reduceToNat, reduceSub, Nat.reduceBEq, ↓zc1, zg1])
    all_goals ((repeat' apply And.intro) <;> first|rfl|assumption|omega|(simp;done)|(simp;omega)|(simp_all;done))
   refine sA_n ?_
   refine a_ret ?_
   obtain rfl := Option.some.inj H
   refine e_r2 (d := ?zd2) ?_ ?_
   rotate_left
   ·simp only [EVT, resR, single, evLoad, cut, TIS, CS, reduceAdd, reduceEqDiff, ↓reduceIte, reduceCtorEq, reduceLT, reduceLeDiff, reduceSub, Nat.reduceBEq, zc1, zg1]
    (repeat' apply And.intro) <;> first | rfl | assumption | omega | (simp; done)
   exact (.tup' (.cons (.lst _ _ _ (ci_pu .u8) rfl) (.cons (.bool' (by first | rfl | assumption | (simp_all; done))) .nil)))
def cache_GetPage_1_f (k1 : Kept) : Option (List Int) :=
 (slices_Clone_f k1.data).bind fun r1 => some (r1)
set_option maxHeartbeats 4000000 in
set_option maxRecDepth 20000 in
theorem cache_GetPage_1_pc {k1 : Kept} {r : (List Int)} (H : cache_GetPage_1_f k1 = some r) : PC Try.prog 27 [.agg (Kept.c k1)] (.list 1 (r.map (ci .u8))) := by
 refine pcA_of Try.func27 (by rfl) (by decide) 6 (by rfl) [.tmp 2] (by rfl) ?_
 unfold cache_GetPage_1_f at H
 simp only [ent]
 refine a_seq ?_
 refine a_reg _ rfl (s := ?zs1) ?_ ?_
 rotate_left
 ·simp only [EVT, stepR, evOp, St.ev, St.app, St.put, wrs, allOne, datOf, datOf1, TIS, CS, reduceAdd, reduceMul, reduceEqDiff, ↓reduceIte, reduceCtorEq, reduceLT, reduceLeDiff]
  (repeat' apply And.intro) <;> first|rfl|assumption|omega|(simp;done)|(simp;omega)|(simp_all;done)
 refine sA_n ?_
 refine a_seq ?_
 obtain ⟨r1, zh1, H⟩ := bind_some H
 have zk1 := slices_Clone_pc zh1
 refine a_reg _ rfl (s := ?zs2) ?_ ?_
 rotate_left
 ·try simp only [EVT, stepR, evOp, St.ev, St.app, St.put, wrs, evFieldAddr, evLoad, cut, frz, TIS, CS, reduceAdd, reduceMul, reduceEqDiff, ↓reduceIte, reduceCtorEq, reduceLT, reduceLeDiff, reduceSub, Nat.reduceBEq]
  repeat' with_reducible apply And.intro
  all_goals try ((with_reducible show CallR _ _ _ _ _ _ _); refine cR_p zk1 (.cons (.lst _ _ _ (ci_pu .u8) rfl) .nil) ?_; simp only [EVT, stepR, evOp, St.ev, St.app, St.put, wrs, evFieldAddr, evLoad, cut, frz, TIS, CS, reduceAdd, reduceMul, reduceEqDiff, ↓reduceIte, reduceCtorEq, reduceLT, reduceLeDiff, reduceSub, Nat.reduceBEq])
  all_goals ((repeat' apply And.intro) <;> first|rfl|assumption|omega|(simp;done)|(simp;omega)|(simp_all;done))
 refine sA_n ?_
 refine a_ret ?_
 obtain rfl := Option.some.inj H
 refine e_r2 (d := ?zd1) ?_ ?_
 rotate_left
 ·simp only [EVT, resR, single, evLoad, cut, TIS, CS, reduceAdd, reduceEqDiff, ↓reduceIte, reduceCtorEq, reduceLT, reduceLeDiff, reduceSub, Nat.reduceBEq]
  (repeat' apply And.intro) <;> first | rfl | assumption | omega | (simp; done)
 exact (.lst _ _ _ (ci_pu .u8) rfl)
def cache_get_29_J1 (l1 : List Kept) (r1 : Int × Bool) (of1 : Kept → Option Int) (v1 : Bool) : Option (Int × Bool) :=
 cond v1 (some (0, false)) ((idx l1 r1.1).bind fun x1 => (of1 x1).bind fun r2 => some (r2, true))
def cache_get_29_f (l1 : List Kept) (k1 : Kept) (now1 : Int) (of1 : Kept → Option Int) : Option (Int × Bool) :=
 (slices_BinarySearchFunc_f l1 k1 cache_order_f).bind fun r1 => cond (!r1.2) (cache_get_29_J1 l1 r1 of1 true) ((idx l1 r1.1).bind fun x2 => cache_get_29_J1 l1 r1 of1 (decide (x2.until_ ≤ now1)))
set_option maxHeartbeats 4000000 in
set_option maxRecDepth 20000 in
theorem cache_get_29_pc {l1 : List Kept} {k1 : Kept} {now1 : Int} {of1 : Kept → Option Int} {of1_F : FuncId} {of1_caps : List Dat} (of1_hp : ∀ (x0_ : Kept) (r : Int), of1 x0_ = some r → PC Try.prog of1_F (.agg (Kept.c x0_) :: of1_caps) (.int .i64 r)) (of1_pu : Pus of1_caps) {r : Int × Bool} (H : cache_get_29_f l1 k1 now1 of1 = some r) : PC Try.prog 29 [.list 6 (l1.map Kept.c), .agg (Kept.c k1), .int .i64 now1, .fn (.func of1_F) [] of1_caps] (.tup [.int .i64 r.1, .bool r.2]) := by
 refine pcA_of Try.func29 (by rfl) (by decide) 37 (by rfl) [.tmp 8, .tmp 9] (by rfl) ?_
 unfold cache_get_29_f at H
 simp only [ent]
 refine a_seq ?_
 refine a_reg _ rfl (s := ?zs1) ?_ ?_
 rotate_left
 ·simp only [EVT, stepR, evOp, St.ev, St.app, St.put, wrs, allOne, datOf, datOf1, TIS, CS, reduceAdd, reduceMul, reduceEqDiff, ↓reduceIte, reduceCtorEq, reduceLT, reduceLeDiff]
  (repeat' apply And.intro) <;> first|rfl|assumption|omega|(simp;done)|(simp;omega)|(simp_all;done)
 refine sA_n ?_
 refine a_seq ?_
 obtain ⟨r1, zh1, H⟩ := bind_some H
 have zk1 := slices_BinarySearchFunc_pc (cmp1 := cache_order_f) (cmp1_F := 35) (cmp1_caps := []) (fun _ _ _ h => cache_order_pc h) .nil zh1
 refine a_reg _ rfl (s := ?zs2) ?_ ?_
 rotate_left
 ·try simp only [EVT, stepR, evOp, St.ev, St.app, St.put, wrs, evLoad, cut, frz, TIS, CS, reduceAdd, reduceMul, reduceEqDiff, ↓reduceIte, reduceCtorEq, reduceLT, reduceLeDiff, reduceSub, Nat.reduceBEq]
  repeat' with_reducible apply And.intro
  all_goals try ((with_reducible show CallR _ _ _ _ _ _ _); refine cR_s zk1 (.cons (.lst _ _ _ Kept.pu rfl) (.cons (.agg' (.cons (.int' rfl) (.cons (.str' rfl) (.cons (.int' rfl) (.cons (.int' rfl) (.cons (.lst _ _ _ (ci_pu .u8) rfl) (.cons (.int' rfl) .nil))))))) (.cons (.fn' .nil .nil) .nil))) (Scal.tup _ (by intro i c h; rcases i with _ | _ | _ | i <;> simp at h <;> subst h <;> constructor)) ?_; simp only [EVT, stepR, evOp, St.ev, St.app, St.put, wrs, evLoad, cut, frz, TIS, CS, reduceAdd, reduceMul, reduceEqDiff, ↓reduceIte, reduceCtorEq, reduceLT, reduceLeDiff, reduceSub, Nat.reduceBEq])
  all_goals ((repeat' apply And.intro) <;> first|rfl|assumption|omega|(simp;done)|(simp;omega)|(simp_all;done))
 refine sA_n ?_
 refine a_seq ?_
 refine a_cut (fun s => ∃ (v1 : Bool) (t0 : Nat → Dat), cache_get_29_J1 l1 r1 of1 v1 = some r ∧ s = ⟨tl t0 [(0, .list 6 (l1.map Kept.c)), (3, .fn (.func of1_F) [] of1_caps), (10, .int .i64 r1.1), (29, .bool v1)], hl [], 0, 37⟩) ?_ ?_
 ·refine bool_split (b := (!r1.2)) (fun zc2 => ?_) (fun zc2 => ?_)
  ·have H := cond_t zc2 H
   refine a_reg _ rfl (s := ?zs6) ?_ ?_
   rotate_left
   ·simp only [EVT, stepR, evOp, St.ev, St.app, St.put, wrs, evUn, evIndexAddr, evFieldAddr, evLoad, cut, evBin, binInt, datOf, datOf1, TIS, CS, reduceAdd, reduceMul, reduceEqDiff, ↓reduceIte, reduceCtorEq, reduceLT, reduceLeDiff, Array.reduceGetElem?, Int.reduceToNat, reduceSub, Nat.reduceBEq, ↓zc2]
    try simp only [EVT, stepR, evOp, St.ev, St.app, St.put, wrs, evUn, evIndexAddr, evFieldAddr, evLoad, cut, evBin, binInt, datOf, datOf1, TIS, CS, reduceAdd, reduceMul, reduceEqDiff, ↓reduceIte, reduceCtorEq, reduceLT, reduceLeDiff, Array.reduceGetElem?, Int.reduceToNat, reduceSub, Nat.reduceBEq, ↓zc2]
    (repeat' apply And.intro) <;> first|rfl|assumption|omega|(simp;done)|(simp;omega)|(simp_all;done)
   refine cA_n ?_
   refine wk_l [] [] [(0, .list 6 (l1.map Kept.c)), (3, .fn (.func of1_F) [] of1_caps), (10, .int .i64 r1.1), (29, .bool true)] (by show ([0, 3, 10, 29] : List Nat).Nodup; decide) (by show ([] : List Nat).Nodup; decide) ?_ ?_ (fun t0 => ⟨true, t0, H, rfl⟩)
   ·exact trivial
   ·(simp only [AllT, ATT, reduceEqDiff, ↓reduceIte, and_true]); exact ⟨(.lst _ _ _ Kept.pu rfl), (.fn' .nil (RNs.pu of1_pu)), (.int' rfl), (.bool' (by first | rfl | assumption | (simp_all; done)))⟩
  ·have H := cond_f zc2 H
   obtain ⟨x2, zh4, H⟩ := bind_some H
   have zg2 := idx_map zh4 Kept.c
   try simp only [Int.reduceToNat, Int.toNat_natCast] at zg2
   obtain ⟨zh4a, zh4b, _⟩ := idx_some zh4
   refine a_reg _ rfl (s := ?zs7) ?_ ?_
   rotate_left
   ·simp only [EVT, stepR, evOp, St.ev, St.app, St.put, wrs, evUn, evIndexAddr, evFieldAddr, evLoad, cut, evBin, binInt, datOf, datOf1, TIS, CS, reduceAdd, reduceMul, reduceEqDiff, ↓reduceIte, reduceCtorEq, reduceLT, reduceLeDiff, Array.reduceGetElem?, Int.reduceToNat, reduceSub, Nat.reduceBEq, ↓zc2, zg2]
    try simp only [EVT, stepR, evOp, St.ev, St.app, St.put, wrs, evUn, evIndexAddr, evFieldAddr, evLoad, cut, evBin, binInt, datOf, datOf1, TIS, CS, reduceAdd, reduceMul, reduceEqDiff, ↓reduceIte, reduceCtorEq, reduceLT, reduceLeDiff, Array.reduceGetElem?, Int.reduceToNat, reduceSub, Nat.reduceBEq, ↓zc2, zg2]
    (repeat' apply And.intro) <;> first|rfl|assumption|omega|(simp;done)|(simp;omega)|(simp_all;done)
   refine cA_n ?_
   refine wk_l [] [] [(0, .list 6 (l1.map Kept.c)), (3, .fn (.func of1_F) [] of1_caps), (10, .int .i64 r1.1), (29, .bool (decide (x2.until_ ≤ now1)))] (by show ([0, 3, 10, 29] : List Nat).Nodup; decide) (by show ([] : List Nat).Nodup; decide) ?_ ?_ (fun t0 => ⟨(decide (x2.until_ ≤ now1)), t0, H, rfl⟩)
   ·exact trivial
   ·(simp only [AllT, ATT, reduceEqDiff, ↓reduceIte, and_true]); exact ⟨(.lst _ _ _ Kept.pu rfl), (.fn' .nil (RNs.pu of1_pu)), (.int' rfl), (.bool' rfl)⟩
 ·rintro s ⟨v1, t0, H, rfl⟩
  unfold cache_get_29_J1 at H
  refine a_condb (v1) (by rfl) (fun zc1 => ?_) (fun zc1 => ?_)
  ·have H := cond_t zc1 H
   refine a_seq ?_
   refine a_reg _ rfl (s := ?zs3) ?_ ?_
   rotate_left
   ·simp only [EVT, stepR, evOp, St.ev, St.app, St.put, wrs, datOf, datOf1, TIS, CS, reduceAdd, reduceMul, reduceEqDiff, ↓reduceIte, reduceCtorEq, reduceLT, reduceLeDiff, ↓zc1]
    (repeat' apply And.intro) <;> first|rfl|assumption|omega|(simp;done)|(simp;omega)|(simp_all;done)
   refine sA_n ?_
   refine a_seq ?_
   refine a_reg _ rfl (s := ?zs4) ?_ ?_
   rotate_left
   ·simp only [EVT, stepR, evOp, St.ev, St.app, St.put, wrs, datOf, datOf1, TIS, CS, reduceAdd, reduceMul, reduceEqDiff, ↓reduceIte, reduceCtorEq, reduceLT, reduceLeDiff, ↓zc1]
    (repeat' apply And.intro) <;> first|rfl|assumption|omega|(simp;done)|(simp;omega)|(simp_all;done)
   refine sA_n ?_
   refine a_ret ?_
   refine sA_r ?_
   obtain rfl := Option.some.inj H
   refine e_r2 (d := ?zd1) ?_ ?_
   rotate_left
   ·simp only [EVT, resR, single, evLoad, cut, TIS, CS, reduceAdd, reduceEqDiff, ↓reduceIte, reduceCtorEq, reduceLT, reduceLeDiff, reduceSub, Nat.reduceBEq, zc1]
    (repeat' apply And.intro) <;> first | rfl | assumption | omega | (simp; done)
   exact (.tup' (.cons (.int' rfl) (.cons (.bool' (by first | rfl | assumption | (simp_all; done))) .nil)))
  ·have H := cond_f zc1 H
   refine a_skip ?_
   refine sA_n ?_
   refine a_seq ?_
   obtain ⟨x1, zh2, H⟩ := bind_some H
   have zg1 := idx_map zh2 Kept.c
   try simp only [Int.reduceToNat, Int.toNat_natCast] at zg1
   obtain ⟨zh2a, zh2b, _⟩ := idx_some zh2
   obtain ⟨r2, zh3, H⟩ := bind_some H
   have zk2 := of1_hp _ _ zh3
   refine a_reg _ rfl (s := ?zs5) ?_ ?_
   rotate_left
   ·try simp only [EVT, stepR, evOp, St.ev, St.app, St.put, wrs, evIndexAddr, evLoad, cut, frz, datOf, datOf1, TIS, CS, reduceAdd, reduceMul, reduceEqDiff, ↓reduceIte, reduceCtorEq, reduceLT, reduceLeDiff, Int.reduceToNat, reduceSub, Nat.reduceBEq, ↓zc1, zg1]
    repeat' with_reducible apply And.intro
    all_goals try ((with_reducible show CallR _ _ _ _ _ _ _); refine cR_s zk2 (.cons (.agg' (.cons (.int' rfl) (.cons (.str' rfl) (.cons (.int' rfl) (.cons (.int' rfl) (.cons (.lst _ _ _ (ci_pu .u8) rfl) (.cons (.int' rfl) .nil))))))) (Pus.purRs of1_pu)) (.int _ _) ?_; simp only [EVT, stepR, evOp, St.ev, St.app, St.put, wrs, evIndexAddr, evLoad, cut, frz, datOf, datOf1, TIS, CS, reduceAdd, reduceMul, reduceEqDiff, ↓reduceIte, reduceCtorEq, reduceLT, reduceLeDiff, Int.reduceToNat, reduceSub, Nat.reduceBEq, ↓zc1, zg1])
    all_goals ((repeat' apply And.intro) <;> first|rfl|assumption|omega|(simp;done)|(simp;omega)|(simp_all;done))
   refine sA_n ?_
   refine a_ret ?_
   obtain rfl := Option.some.inj H
   refine e_r2 (d := ?zd2) ?_ ?_
   rotate_left
   ·simp only [EVT, resR, single, evLoad, cut, TIS, CS, reduceAdd, reduceEqDiff, ↓reduceIte, reduceCtorEq, reduceLT, reduceLeDiff, reduceSub, Nat.reduceBEq, zc1, zg1]
    (repeat' apply And.intro) <;> first | rfl | assumption | omega | (simp; done)
   exact (.tup' (.cons (.int' rfl) (.cons (.bool' (by first | rfl | assumption | (simp_all; done))) .nil)))
def cache_GetName_1_f (k1 : Kept) : Option Int :=
 some (k1.is)
set_option maxHeartbeats 4000000 in
set_option maxRecDepth 20000 in
theorem cache_GetName_1_pc {k1 : Kept} {r : Int} (H : cache_GetName_1_f k1 = some r) : PC Try.prog 30 [.agg (Kept.c k1)] (.int .i64 r) := by
 refine pcA_of Try.func30 (by rfl) (by decide) 5 (by rfl) [.tmp 2] (by rfl) ?_
 unfold cache_GetName_1_f at H
 simp only [ent]
 refine a_seq ?_
 refine a_reg _ rfl (s := ?zs1) ?_ ?_
 rotate_left
 ·simp only [EVT, stepR, evOp, St.ev, St.app, St.put, wrs, allOne, datOf, datOf1, TIS, CS, reduceAdd, reduceMul, reduceEqDiff, ↓reduceIte, reduceCtorEq, reduceLT, reduceLeDiff]
  (repeat' apply And.intro) <;> first|rfl|assumption|omega|(simp;done)|(simp;omega)|(simp_all;done)
 refine sA_n ?_
 refine a_seq ?_
 refine a_reg _ rfl (s := ?zs2) ?_ ?_
 rotate_left
 ·simp only [EVT, stepR, evOp, St.ev, St.app, St.put, wrs, evFieldAddr, evLoad, cut, TIS, CS, reduceAdd, reduceMul, reduceEqDiff, ↓reduceIte, reduceCtorEq, reduceLT, reduceLeDiff, reduceSub, Nat.reduceBEq]
  (repeat' apply And.intro) <;> first|rfl|assumption|omega|(simp;done)|(simp;omega)|(simp_all;done)
 refine sA_n ?_
 refine a_ret ?_
 obtain rfl := Option.some.inj H
 refine e_r2 (d := ?zd1) ?_ ?_
 rotate_left
 ·simp only [EVT, resR, single, evLoad, cut, TIS, CS, reduceAdd, reduceEqDiff, ↓reduceIte, reduceCtorEq, reduceLT, reduceLeDiff, reduceSub, Nat.reduceBEq]
  (repeat' apply And.intro) <;> first | rfl | assumption | omega | (simp; done)
 exact (.int' rfl)
def cache_GetPage_f (l1 : List Kept) (ino1 : Int) (page1 : Int) (now1 : Int) : Option ((List Int) × Bool) :=
 (cache_get_f l1 (⟨ino1, ByteArray.empty, page1, 0, [], 0⟩ : Kept) now1 cache_GetPage_1_f).bind fun r1 => some (r1.1, r1.2)
set_option maxHeartbeats 4000000 in
set_option maxRecDepth 20000 in
theorem cache_GetPage_pc {l1 : List Kept} {ino1 : Int} {page1 : Int} {now1 : Int} {r : (List Int) × Bool} (H : cache_GetPage_f l1 ino1 page1 now1 = some r) : PC Try.prog 9 [.list 6 (l1.map Kept.c), .int .i64 ino1, .int .i64 page1, .int .i64 now1] (.tup [.list 1 (r.1.map (ci .u8)), .bool r.2]) := by
 refine pcA_of Try.func9 (by rfl) (by decide) 18 (by rfl) [.tmp 8, .tmp 9] (by rfl) ?_
 unfold cache_GetPage_f at H
 simp only [ent]
 refine a_seq ?_
 refine a_reg _ rfl (s := ?zs1) ?_ ?_
 rotate_left
 ·simp only [EVT, stepR, evOp, St.ev, St.app, St.put, wrs, datOf, datOf1, TIS, CS, reduceAdd, reduceMul, reduceEqDiff, ↓reduceIte, reduceCtorEq, reduceLT, reduceLeDiff]
  (repeat' apply And.intro) <;> first|rfl|assumption|omega|(simp;done)|(simp;omega)|(simp_all;done)
 refine sA_n ?_
 refine a_seq ?_
 obtain ⟨r1, zh1, H⟩ := bind_some H
 have zk1 := cache_get_pc (of1 := cache_GetPage_1_f) (of1_F := 27) (of1_caps := []) (fun _ _ h => cache_GetPage_1_pc h) .nil zh1
 refine a_reg _ rfl (s := ?zs2) ?_ ?_
 rotate_left
 ·try simp only [EVT, stepR, evOp, St.ev, St.app, St.put, wrs, fillD, setR, frz, TIS, CS, reduceAdd, reduceMul, reduceEqDiff, ↓reduceIte, reduceCtorEq, reduceLT, reduceLeDiff, Nat.reduceGT, reduceSub, Nat.reduceBEq]
  repeat' with_reducible apply And.intro
  all_goals try ((with_reducible show CallR _ _ _ _ _ _ _); refine cR_p zk1 (.cons (.lst _ _ _ Kept.pu rfl) (.cons (.agg' (.cons (.int' rfl) (.cons (.str' rfl) (.cons (.int' rfl) (.cons (.int' rfl) (.cons (.nil _) (.cons (.int' rfl) .nil))))))) (.cons (.int' rfl) (.cons (.fn' .nil .nil) .nil)))) ?_; simp only [EVT, stepR, evOp, St.ev, St.app, St.put, wrs, fillD, setR, frz, TIS, CS, reduceAdd, reduceMul, reduceEqDiff, ↓reduceIte, reduceCtorEq, reduceLT, reduceLeDiff, Nat.reduceGT, reduceSub, Nat.reduceBEq])
  all_goals ((repeat' apply And.intro) <;> first|rfl|assumption|omega|(simp;done)|(simp;omega)|(simp_all;done))
 refine sA_n ?_
 refine a_ret ?_
 obtain rfl := Option.some.inj H
 refine e_r2 (d := ?zd1) ?_ ?_
 rotate_left
 ·simp only [EVT, resR, single, evLoad, cut, TIS, CS, reduceAdd, reduceEqDiff, ↓reduceIte, reduceCtorEq, reduceLT, reduceLeDiff, reduceSub, Nat.reduceBEq]
  (repeat' apply And.intro) <;> first | rfl | assumption | omega | (simp; done)
 exact (.tup' (.cons (.lst _ _ _ (ci_pu .u8) rfl) (.cons (.bool' rfl) .nil)))
def cache_GetName_f (l1 : List Kept) (dir1 : Int) (name1 : ByteArray) (now1 : Int) : Option (Int × Bool) :=
 cond (name1.toList == (⟨#[]⟩ : ByteArray).toList) (some (0, false)) ((cache_get_29_f l1 (⟨dir1, name1, 0, 0, [], 0⟩ : Kept) now1 cache_GetName_1_f).bind fun r1 => some (r1.1, r1.2))
set_option maxHeartbeats 4000000 in
set_option maxRecDepth 20000 in
theorem cache_GetName_pc {l1 : List Kept} {dir1 : Int} {name1 : ByteArray} {now1 : Int} {r : Int × Bool} (H : cache_GetName_f l1 dir1 name1 now1 = some r) : PC Try.prog 10 [.list 6 (l1.map Kept.c), .int .i64 dir1, .str name1, .int .i64 now1] (.tup [.int .i64 r.1, .bool r.2]) := by
 refine pcA_of Try.func10 (by rfl) (by decide) 20 (by rfl) [.tmp 8, .tmp 9] (by rfl) ?_
 unfold cache_GetName_f at H
 simp only [ent]
 refine a_seq ?_
 refine a_reg _ rfl (s := ?zs1) ?_ ?_
 rotate_left
 ·simp only [EVT, stepR, evOp, St.ev, St.app, St.put, wrs, datOf, datOf1, TIS, CS, reduceAdd, reduceMul, reduceEqDiff, ↓reduceIte, reduceCtorEq, reduceLT, reduceLeDiff]
  (repeat' apply And.intro) <;> first|rfl|assumption|omega|(simp;done)|(simp;omega)|(simp_all;done)
 refine sA_n ?_
 refine a_seq ?_
 refine a_seq ?_
 refine a_reg _ rfl (s := ?zs2) ?_ ?_
 rotate_left
 ·simp only [EVT, stepR, evOp, St.ev, St.app, St.put, wrs, datOf, datOf1, evBin, binInt, TIS, CS, reduceAdd, reduceMul, reduceEqDiff, ↓reduceIte, reduceCtorEq, reduceLT, reduceLeDiff]
  (repeat' apply And.intro) <;> first|rfl|assumption|omega|(simp;done)|(simp;omega)|(simp_all;done)
 refine sA_n ?_
 refine a_condb ((name1.toList == (⟨#[]⟩ : ByteArray).toList)) (by rfl) (fun zc1 => ?_) (fun zc1 => ?_)
 ·have H := cond_t zc1 H
  refine a_seq ?_
  refine a_reg _ rfl (s := ?zs3) ?_ ?_
  rotate_left
  ·simp only [EVT, stepR, evOp, St.ev, St.app, St.put, wrs, datOf, datOf1, TIS, CS, reduceAdd, reduceMul, reduceEqDiff, ↓reduceIte, reduceCtorEq, reduceLT, reduceLeDiff, ↓zc1]
   (repeat' apply And.intro) <;> first|rfl|assumption|omega|(simp;done)|(simp;omega)|(simp_all;done)
  refine sA_n ?_
  refine a_ret ?_
  refine sA_r ?_
  obtain rfl := Option.some.inj H
  refine e_r2 (d := ?zd1) ?_ ?_
  rotate_left
  ·simp only [EVT, resR, single, evLoad, cut, TIS, CS, reduceAdd, reduceEqDiff, ↓reduceIte, reduceCtorEq, reduceLT, reduceLeDiff, reduceSub, Nat.reduceBEq, zc1]
   (repeat' apply And.intro) <;> first | rfl | assumption | omega | (simp; done)
  exact (.tup' (.cons (.int' rfl) (.cons (.bool' (by first | rfl | assumption | (simp_all; done))) .nil)))
 ·have H := cond_f zc1 H
  refine a_skip ?_
  refine sA_n ?_
  refine a_seq ?_
  obtain ⟨r1, zh1, H⟩ := bind_some H
  have zk1 := cache_get_29_pc (of1 := cache_GetName_1_f) (of1_F := 30) (of1_caps := []) (fun _ _ h => cache_GetName_1_pc h) .nil zh1
  refine a_reg _ rfl (s := ?zs4) ?_ ?_
  rotate_left
  ·try simp only [EVT, stepR, evOp, St.ev, St.app, St.put, wrs, fillD, setR, frz, TIS, CS, reduceAdd, reduceMul, reduceEqDiff, ↓reduceIte, reduceCtorEq, reduceLT, reduceLeDiff, Nat.reduceGT, reduceSub, Nat.reduceBEq, ↓zc1]
   repeat' with_reducible apply And.intro
   all_goals try ((with_reducible show CallR _ _ _ _ _ _ _); refine cR_s zk1 (.cons (.lst _ _ _ Kept.pu rfl) (.cons (.agg' (.cons (.int' rfl) (.cons (.str' rfl) (.cons (.int' rfl) (.cons (.int' rfl) (.cons (.nil _) (.cons (.int' rfl) .nil))))))) (.cons (.int' rfl) (.cons (.fn' .nil .nil) .nil)))) (Scal.tup _ (by intro i c h; rcases i with _ | _ | _ | i <;> simp at h <;> subst h <;> constructor)) ?_; simp only [EVT, stepR, evOp, St.ev, St.app, St.put, wrs, fillD, setR, frz, TIS, CS, reduceAdd, reduceMul, reduceEqDiff, ↓reduceIte, reduceCtorEq, reduceLT, reduceLeDiff, Nat.reduceGT, reduceSub, Nat.reduceBEq, ↓zc1])
   all_goals ((repeat' apply And.intro) <;> first|rfl|assumption|omega|(simp;done)|(simp;omega)|(simp_all;done))
  refine sA_n ?_
  refine a_ret ?_
  obtain rfl := Option.some.inj H
  refine e_r2 (d := ?zd2) ?_ ?_
  rotate_left
  ·simp only [EVT, resR, single, evLoad, cut, TIS, CS, reduceAdd, reduceEqDiff, ↓reduceIte, reduceCtorEq, reduceLT, reduceLeDiff, reduceSub, Nat.reduceBEq, zc1]
   (repeat' apply And.intro) <;> first | rfl | assumption | omega | (simp; done)
  exact (.tup' (.cons (.int' rfl) (.cons (.bool' rfl) .nil)))
def slices_Clone_64_f (s1 : List Kept) : Option (List Kept) :=
 nilq s1 (some (([] : List Kept))) (chk ((s1.length) * 72 ≤ 140737488355328) (some ((([] : List Kept) ++ s1))))
set_option maxHeartbeats 4000000 in
set_option maxRecDepth 20000 in
theorem slices_Clone_64_rc {s1 : List Kept} {r : (List Kept)} (H : slices_Clone_64_f s1 = some r) : RC Try.prog 64 [.list 6 (s1.map Kept.c)] [] 0 (.ref 0 0 r.length 6) [some ⟨62, 6, false, r.map Kept.c⟩] := by
 refine rcA_of Try.func64 (by rfl) (by decide) 8 (by rfl) [.tmp 2] (by rfl) ?_
 unfold slices_Clone_64_f at H
 simp only [hent, List.length_cons, List.length_nil, reduceAdd]
 refine a_seq ?_
 refine a_reg _ rfl (s := ?zs1) ?_ ?_
 rotate_left
 ·simp only [EVT, stepR, evOp, St.ev, St.app, St.put, wrs, datOf, datOf1, TIS, CS, reduceAdd, reduceMul, reduceEqDiff, ↓reduceIte, reduceCtorEq, reduceLT, reduceLeDiff]
  (repeat' apply And.intro) <;> first|rfl|assumption|omega|(simp;done)|(simp;omega)|(simp_all;done)
 refine sA_n ?_
 refine a_seq ?_
 refine a_seq ?_
 obtain ⟨zh1a, zh1b⟩ := nilq_some H
 refine a_reg2 _ rfl (s1 = []) (s1 := ?zs2a) (s2 := ?zs2b) ?_ ?_ ?_
 rotate_left 2
 ·simp only [EVT, stepR, evOp, St.ev, St.app, St.put, wrs, datOf, datOf1, evBin, binInt, TIS, CS, reduceAdd, reduceMul, reduceEqDiff, ↓reduceIte, reduceCtorEq, reduceLT, reduceLeDiff]
  refine nilq_list rfl Try.underlying30 rfl ?_ ?_
  ·intro zb
   simp only [St.put, reduceLT, reduceLeDiff, ↓reduceIte]
   try simp only [EVT, stepR, evOp, St.ev, St.app, St.put, wrs, datOf, datOf1, evBin, binInt, TIS, CS, reduceAdd, reduceMul, reduceEqDiff, ↓reduceIte, reduceCtorEq, reduceLT, reduceLeDiff]
   refine .inl ⟨by simpa using zb, ?_⟩
   rfl
  ·simp only [St.put, reduceLT, reduceLeDiff, ↓reduceIte]
   try simp only [EVT, stepR, evOp, St.ev, St.app, St.put, wrs, datOf, datOf1, evBin, binInt, TIS, CS, reduceAdd, reduceMul, reduceEqDiff, ↓reduceIte, reduceCtorEq, reduceLT, reduceLeDiff]
   refine .inr ?_
   rfl
 ·intro zn; have H := zh1a zn
  refine sA_n ?_
  refine a_condb true (by first | rfl | (simp only [EVT, St.ev, datOf, datOf1, reduceEqDiff, ↓reduceIte]; done) | (simp only [EVT, St.ev, datOf, datOf1, reduceEqDiff, ↓reduceIte]; rfl) | (simp only [EVT, St.ev, datOf, datOf1, reduceEqDiff, ↓reduceIte]; simp_all; done)) (fun zc1 => ?_) (fun zc1 => absurd zc1 (by decide))
  refine a_seq ?_
  refine a_reg _ rfl (s := ?zs3) ?_ ?_
  rotate_left
  ·simp only [EVT, stepR, evOp, St.ev, St.app, St.put, wrs, datOf, datOf1, TIS, CS, reduceAdd, reduceMul, reduceEqDiff, ↓reduceIte, reduceCtorEq, reduceLT, reduceLeDiff]
   (repeat' apply And.intro) <;> first|rfl|assumption|omega|(simp;done)|(simp;omega)|(simp_all;done)
  refine sA_n ?_
  refine a_ret ?_
  refine sA_r ?_
  obtain rfl := Option.some.inj H
  refine eR_r ?_
  refine wk_ln 0 [(none, ⟨62, 6, false, ([] : List Kept).map Kept.c⟩)] [] [(2, .ref 0 0 ([] : List Kept).length 6)] (fun i h => absurd h (Nat.not_lt_zero i)) (by show ([2] : List Nat).Nodup; decide) (by show ([] : List Nat).Nodup; decide) ?_ ?_ (fun t0 => ⟨by first | rfl | (simp only [EVT, resR, single, evLoad, cut, TIS, CS, reduceAdd, reduceEqDiff, ↓reduceIte, reduceCtorEq, reduceLT, reduceLeDiff, reduceSub, Nat.reduceBEq]; (repeat' apply And.intro) <;> first | rfl | (simp; done)), fun j B h => by rcases j with _ | _ <;> first | exact h | (exact absurd h (by simp [hh]))⟩)
  ·exact (allB_none rfl trivial)
  ·(simp only [AllT, ATT, reduceEqDiff, ↓reduceIte, and_true]); exact (.nilv _ _ rfl rfl)
 ·have H := zh1b
  refine sA_n ?_
  refine a_condb false (by first | rfl | (simp only [EVT, St.ev, datOf, datOf1, reduceEqDiff, ↓reduceIte]; done) | (simp only [EVT, St.ev, datOf, datOf1, reduceEqDiff, ↓reduceIte]; rfl) | (simp only [EVT, St.ev, datOf, datOf1, reduceEqDiff, ↓reduceIte]; simp_all; done)) (fun zc2 => absurd zc2 (by decide)) (fun zc2 => ?_)
  refine a_skip ?_
  refine sA_n ?_
  refine a_seq ?_
  obtain ⟨zh2, H⟩ := chk_some H
  refine a_reg _ rfl (s := ?zs4) ?_ ?_
  rotate_left
  ·simp only [EVT, stepR, evOp, St.ev, St.app, St.put, wrs, allOne, evBuiltin, evAppend, isAl, elems, Option.elim, TIS, CS, reduceAdd, reduceMul, reduceEqDiff, ↓reduceIte, reduceCtorEq, reduceLT, reduceLeDiff, reduceSub, Nat.reduceBEq]
   (repeat' apply And.intro) <;> first|rfl|assumption|omega|(simp;done)|(simp;omega)|(simp_all;done)
  refine sA_n ?_
  refine a_ret ?_
  obtain rfl := Option.some.inj H
  refine eR_r ?_
  refine wk_ln 0 [(some 26, ⟨62, 6, false, (([] : List Kept) ++ s1).map Kept.c⟩)] [] [(2, .ref 0 0 (([] : List Kept) ++ s1).length 6)] (fun i h => absurd h (Nat.not_lt_zero i)) (by show ([2] : List Nat).Nodup; decide) (by show ([26] : List Nat).Nodup; decide) ?_ ?_ (fun t0 => ⟨by first | rfl | (simp only [EVT, resR, single, evLoad, cut, TIS, CS, reduceAdd, reduceEqDiff, ↓reduceIte, reduceCtorEq, reduceLT, reduceLeDiff, reduceSub, Nat.reduceBEq]; (repeat' apply And.intro) <;> first | rfl | (simp; done)), fun j B h => by rcases j with _ | _ <;> first | exact h | (exact absurd h (by simp [hh]))⟩)
  ·exact (allB_some (by rfl) rfl (.sm _ _ Kept.pu) trivial)
  ·(simp only [AllT, ATT, reduceEqDiff, ↓reduceIte, and_true]); exact (.refl' (by first | rfl | omega | (simp; done) | (simp [strBytes_len]; done) | (simp; omega) | (simp_all; done)) rfl)
theorem slices_Clone_64_pc {s1 : List Kept} {r : (List Kept)} (H : slices_Clone_64_f s1 = some r) : PC Try.prog 64 [.list 6 (s1.map Kept.c)] (.list 6 (r.map Kept.c)) := rc_pc (slices_Clone_64_rc H) (.ownL rfl (fun e => by cases e) rfl (List.length_map _).symm (.same _ _ Kept.pu rfl))
def slices_DeleteFunc_J1 (s2 : List Kept) (i1 : Int) : Option (List Kept) :=
 chk (0 ≤ i1 ∧ i1 ≤ (s2.length : Int) ∧ (s2.length : Int) ≤ (s2.length : Int)) (chk (0 ≤ i1 ∧ i1 ≤ (s2.length : Int)) (some ((s2.take i1.toNat))))
def slices_DeleteFunc_J2 (k_slices_DeleteFunc_L1 : (List Kept) → Int → Int → Option (List Kept)) (j1 : Int) (s4 : List Kept) (i3 : Int) : Option (List Kept) :=
 k_slices_DeleteFunc_L1 s4 i3 (IntKind.wrap .i64 (j1 + 1))
def slices_DeleteFunc_L1 (del1 : Kept → Option Bool) : Nat → (List Kept) → Int → Int → Option (List Kept)
 | 0, _, _, _ => none
 | m_ + 1, s3, i2, j1 => cond (decide (j1 < (((s3.length : Nat)) : Int))) ((idx s3 j1).bind fun x1 => (del1 x1).bind fun r2 => cond (!r2) ((idx s3 i2).bind fun x2 => slices_DeleteFunc_J2 (slices_DeleteFunc_L1 del1 m_) j1 (s3.set i2.toNat x1) (IntKind.wrap .i64 (i2 + 1))) (slices_DeleteFunc_J2 (slices_DeleteFunc_L1 del1 m_) j1 s3 i2)) (slices_DeleteFunc_J1 s3 i2)
def slices_DeleteFunc_f (s1 : List Kept) (del1 : Kept → Option Bool) : Option (List Kept) :=
 (slices_IndexFunc_59_f s1 del1).bind fun r1 => cond (r1 == (-1)) (some (s1)) (slices_DeleteFunc_L1 del1 BIG s1 r1 (IntKind.wrap .i64 (r1 + 1)))
set_option maxHeartbeats 4000000 in
set_option maxRecDepth 20000 in
theorem slices_DeleteFunc_rc {s1 : List Kept} {del1 : Kept → Option Bool} {del1_F : FuncId} {del1_caps : List Dat} (del1_hp : ∀ (x0_ : Kept) (r : Bool), del1 x0_ = some r → PC Try.prog del1_F (.agg (Kept.c x0_) :: del1_caps) (.bool r)) (del1_pu : Pus del1_caps) {r : (List Kept)} (H : slices_DeleteFunc_f s1 del1 = some r) : RC Try.prog 66 [.ref 0 0 s1.length 6, .fn (.func del1_F) [] del1_caps] [⟨62, 6, false, s1.map Kept.c⟩] 0 (.list 6 (r.map Kept.c)) [] := by
 refine rcA_of Try.func66 (by rfl) (by decide) 42 (by rfl) [.tmp 4] (by rfl) ?_
 unfold slices_DeleteFunc_f at H
 simp only [hent, List.length_cons, List.length_nil, reduceAdd]
 refine a_seq ?_
 refine a_reg _ rfl (s := ?zs1) ?_ ?_
 rotate_left
 ·simp only [EVT, stepR, evOp, St.ev, St.app, St.put, wrs, datOf, datOf1, TIS, CS, reduceAdd, reduceMul, reduceEqDiff, ↓reduceIte, reduceCtorEq, reduceLT, reduceLeDiff]
  (repeat' apply And.intro) <;> first|rfl|assumption|omega|(simp;done)|(simp;omega)|(simp_all;done)
 refine sA_n ?_
 refine a_seq ?_
 obtain ⟨r1, zh1, H⟩ := bind_some H
 have zk1 := slices_IndexFunc_59_pc (f1 := del1) (f1_F := del1_F) (f1_caps := del1_caps) del1_hp del1_pu zh1
 refine a_reg _ rfl (s := ?zs2) ?_ ?_
 rotate_left
 ·try simp only [EVT, stepR, evOp, St.ev, St.app, St.put, wrs, frz, TIS, CS, reduceAdd, reduceMul, reduceEqDiff, ↓reduceIte, reduceCtorEq, reduceLT, reduceLeDiff, reduceSub, Nat.reduceBEq]
  repeat' with_reducible apply And.intro
  all_goals try ((with_reducible show CallR _ _ _ _ _ _ _); refine cR_s zk1 (.cons (.ownL (by rfl) (fun e => by cases e) rfl (by first | rfl | omega | (simp; done) | (simp [strBytes_len]; done) | (simp; omega) | (simp_all; done)) (.sm _ _ Kept.pu)) (.cons (.fn' .nil (Pus.purRs del1_pu)) .nil)) (.int _ _) ?_; simp only [EVT, stepR, evOp, St.ev, St.app, St.put, wrs, frz, TIS, CS, reduceAdd, reduceMul, reduceEqDiff, ↓reduceIte, reduceCtorEq, reduceLT, reduceLeDiff, reduceSub, Nat.reduceBEq])
  all_goals ((repeat' apply And.intro) <;> first|rfl|assumption|omega|(simp;done)|(simp;omega)|(simp_all;done))
 refine sA_n ?_
 refine a_seq ?_
 refine a_seq ?_
 refine a_reg _ rfl (s := ?zs3) ?_ ?_
 rotate_left
 ·simp only [EVT, stepR, evOp, St.ev, St.app, St.put, wrs, datOf, datOf1, evBin, binInt, TIS, CS, reduceAdd, reduceMul, reduceEqDiff, ↓reduceIte, reduceCtorEq, reduceLT, reduceLeDiff]
  (repeat' apply And.intro) <;> first|rfl|assumption|omega|(simp;done)|(simp;omega)|(simp_all;done)
 refine sA_n ?_
 refine a_condb ((r1 == (-1))) (by rfl) (fun zc1 => ?_) (fun zc1 => ?_)
 ·have H := cond_t zc1 H
  refine a_seq ?_
  refine a_reg _ rfl (s := ?zs4) ?_ ?_
  rotate_left
  ·simp only [EVT, stepR, evOp, St.ev, St.app, St.put, wrs, TIS, CS, reduceAdd, reduceMul, reduceEqDiff, ↓reduceIte, reduceCtorEq, reduceLT, reduceLeDiff, ↓zc1]
   (repeat' apply And.intro) <;> first|rfl|assumption|omega|(simp;done)|(simp;omega)|(simp_all;done)
  refine sA_n ?_
  refine a_ret ?_
  refine sA_r ?_
  obtain rfl := Option.some.inj H
  refine eR_r ?_
  refine wk_ln 0 [] [0] [(4, .list 6 (s1.map Kept.c))] (fun i h => absurd h (Nat.not_lt_zero i)) (by show ([4] : List Nat).Nodup; decide) (by show ([] : List Nat).Nodup; decide) ?_ ?_ (fun t0 => ⟨by first | rfl | (simp only [EVT, resR, single, evLoad, cut, TIS, CS, reduceAdd, reduceEqDiff, ↓reduceIte, reduceCtorEq, reduceLT, reduceLeDiff, reduceSub, Nat.reduceBEq]; (repeat' apply And.intro) <;> first | rfl | (simp; done)), fun j B h => by rcases j with _ <;> first | exact h | (exact absurd h (by simp [hh]))⟩)
  ·exact trivial
  ·(simp only [AllT, ATT, reduceEqDiff, ↓reduceIte, and_true]); exact (.frz' (by rfl) (by simp) rfl (by first | rfl | omega | (simp; done) | (simp [strBytes_len]; done) | (simp; omega) | (simp_all; done)) (.sm _ _ Kept.pu))
 ·have H := cond_f zc1 H
  refine a_skip ?_
  refine sA_n ?_
  refine a_cut (fun s => ∃ (s2 : List Kept) (i1 : Int) (t0 : Nat → Dat), slices_DeleteFunc_J1 s2 i1 = some r ∧ s = ⟨tl t0 [(0, .ref 0 0 s2.length 6), (5, .int .i64 i1)], hl [⟨62, 6, false, s2.map Kept.c⟩], 1, 42⟩) ?_ ?_
  ·refine a_seq ?_
   refine a_reg _ rfl (s := ?zs7) ?_ ?_
   rotate_left
   ·simp only [EVT, stepR, evOp, St.ev, St.app, St.put, wrs, datOf, datOf1, evBin, binInt, TIS, CS, reduceAdd, reduceMul, reduceEqDiff, ↓reduceIte, reduceCtorEq, reduceLT, reduceLeDiff, ↓zc1]
    (repeat' apply And.intro) <;> first|rfl|assumption|omega|(simp;done)|(simp;omega)|(simp_all;done)
   refine sA_n ?_
   refine a_blk ?_
   refine a_loop (fun m s => ∃ (s3 : List Kept) (i2 : Int) (j1 : Int) (t0 : Nat → Dat), slices_DeleteFunc_L1 del1 m s3 i2 j1 = some r ∧ s = ⟨tl t0 [(0, .ref 0 0 s3.length 6), (1, .fn (.func del1_F) [] del1_caps), (5, .int .i64 i2), (6, .int .i64 j1)], hl [⟨62, 6, false, s3.map Kept.c⟩], 1, 42⟩) BIG ?_ ?_
   ·refine wk_l [(some 0, ⟨62, 6, false, s1.map Kept.c⟩)] [] [(0, .ref 0 0 s1.length 6), (1, .fn (.func del1_F) [] del1_caps), (5, .int .i64 r1), (6, .int .i64 (IntKind.wrap .i64 (r1 + 1)))] (by show ([0, 1, 5, 6] : List Nat).Nodup; decide) (by show ([0] : List Nat).Nodup; decide) ?_ ?_ (fun t0 => ⟨s1, r1, (IntKind.wrap .i64 (r1 + 1)), t0, H, rfl⟩)
    ·exact (allB_some (by rfl) rfl (.sm _ _ Kept.pu) trivial)
    ·(simp only [AllT, ATT, reduceEqDiff, ↓reduceIte, and_true]); exact ⟨(.refl' (by first | rfl | omega | (simp; done) | (simp [strBytes_len]; done) | (simp; omega) | (simp_all; done)) rfl), (.fn' .nil (RNs.pu del1_pu)), (.int' rfl), (.int' rfl)⟩
   ·rintro m_slices_DeleteFunc_L1 s ⟨s3, i2, j1, t0, H, rfl⟩
    obtain _ | m_slices_DeleteFunc_L1 := m_slices_DeleteFunc_L1
    ·cases (show (none : Option _) = some _ from H)
    ·rw [slices_DeleteFunc_L1] at H
     refine a_seq ?_
     refine a_seq ?_
     refine a_reg _ rfl (s := ?zs8) ?_ ?_
     rotate_left
     ·simp only [EVT, stepR, evOp, St.ev, St.app, St.put, wrs, evBuiltin, evBin, binInt, TIS, CS, reduceAdd, reduceMul, reduceEqDiff, ↓reduceIte, reduceCtorEq, reduceLT, reduceLeDiff, reduceSub, Nat.reduceBEq]
      (repeat' apply And.intro) <;> first|rfl|assumption|omega|(simp;done)|(simp;omega)|(simp_all;done)
     refine sA_n ?_
     refine a_condb ((decide (j1 < (((s3.length : Nat)) : Int)))) (by rfl) (fun zc2 => ?_) (fun zc2 => ?_)
     ·have H := cond_t zc2 H
      refine a_skip ?_
      refine sA_n ?_
      refine a_cut (fun s => ∃ (s4 : List Kept) (i3 : Int) (t0 : Nat → Dat), slices_DeleteFunc_J2 (slices_DeleteFunc_L1 del1 m_slices_DeleteFunc_L1) j1 s4 i3 = some r ∧ s = ⟨tl t0 [(0, .ref 0 0 s4.length 6), (1, .fn (.func del1_F) [] del1_caps), (5, .int .i64 i3), (6, .int .i64 j1)], hl [⟨62, 6, false, s4.map Kept.c⟩], 1, 42⟩) ?_ ?_
      ·refine a_blk ?_
       refine a_seq ?_
       obtain ⟨x1, zh4, H⟩ := bind_some H
       have zg1 := idx_map zh4 Kept.c
       try simp only [Int.reduceToNat, Int.toNat_natCast] at zg1
       obtain ⟨zh4a, zh4b, _⟩ := idx_some zh4
       refine a_reg _ rfl (s := ?zs10) ?_ ?_
       rotate_left
       ·simp only [EVT, stepR, evOp, St.ev, St.app, St.put, wrs, evIndexAddr, evLoad, cut, allOne, evStore, setR, TIS, CS, reduceAdd, reduceMul, reduceEqDiff, ↓reduceIte, reduceCtorEq, reduceLT, reduceLeDiff, Int.reduceToNat, reduceSub, Nat.reduceBEq, ↓zc2, zg1]
        (repeat' apply And.intro) <;> first|rfl|assumption|omega|(simp;done)|(simp;omega)|(simp_all;done)
       refine sA_n ?_
       refine a_seq ?_
       obtain ⟨r2, zh5, H⟩ := bind_some H
       have zk2 := del1_hp _ _ zh5
       refine a_reg _ rfl (s := ?zs11) ?_ ?_
       rotate_left
       ·try simp only [EVT, stepR, evOp, St.ev, St.app, St.put, wrs, evLoad, cut, frz, evUn, TIS, CS, reduceAdd, reduceMul, reduceEqDiff, ↓reduceIte, reduceCtorEq, reduceLT, reduceLeDiff, reduceSub, Nat.reduceBEq, ↓zc2, zg1]
        repeat' with_reducible apply And.intro
        all_goals try ((with_reducible show CallR _ _ _ _ _ _ _); refine cR_s zk2 (.cons (.agg' (.cons (.int' rfl) (.cons (.str' rfl) (.cons (.int' rfl) (.cons (.int' rfl) (.cons (.lst _ _ _ (ci_pu .u8) rfl) (.cons (.int' rfl) .nil))))))) (Pus.purRs del1_pu)) (.bool _) ?_; simp only [EVT, stepR, evOp, St.ev, St.app, St.put, wrs, evLoad, cut, frz, evUn, TIS, CS, reduceAdd, reduceMul, reduceEqDiff, ↓reduceIte, reduceCtorEq, reduceLT, reduceLeDiff, reduceSub, Nat.reduceBEq, ↓zc2, zg1])
        all_goals ((repeat' apply And.intro) <;> first|rfl|assumption|omega|(simp;done)|(simp;omega)|(simp_all;done))
       refine sA_n ?_
       refine a_condb ((!r2)) (by rfl) (fun zc3 => ?_) (fun zc3 => ?_)
       ·have H := cond_t zc3 H
        refine a_seq ?_
        obtain ⟨x2, zh6, H⟩ := bind_some H
        have zg2 := idx_map zh6 Kept.c
        try simp only [Int.reduceToNat, Int.toNat_natCast] at zg2
        obtain ⟨zh6a, zh6b, _⟩ := idx_some zh6
        refine a_reg _ rfl (s := ?zs12) ?_ ?_
        rotate_left
        ·simp only [EVT, stepR, evOp, St.ev, St.app, St.put, wrs, evLoad, cut, evIndexAddr, evStore, setR, allOne, TIS, CS, reduceAdd, reduceMul, reduceEqDiff, ↓reduceIte, reduceCtorEq, reduceLT, reduceLeDiff, Int.reduceToNat, reduceSub, Nat.reduceBEq, ↓zc2, zg1, ↓zc3, zg2]
         (repeat' apply And.intro) <;> first|rfl|assumption|omega|(simp;done)|(simp;omega)|(simp_all;done)
        refine sA_n ?_
        refine a_reg _ rfl (s := ?zs13) ?_ ?_
        rotate_left
        ·simp only [EVT, stepR, evOp, St.ev, St.app, St.put, wrs, datOf, datOf1, evBin, binInt, TIS, CS, reduceAdd, reduceMul, reduceEqDiff, ↓reduceIte, reduceCtorEq, reduceLT, reduceLeDiff, ↓zc2, zg1, ↓zc3, zg2]
         (repeat' apply And.intro) <;> first|rfl|assumption|omega|(simp;done)|(simp;omega)|(simp_all;done)
        refine bA_n ?_
        refine cA_n ?_
        refine wk_l [(some 0, ⟨62, 6, false, (s3.set i2.toNat x1).map Kept.c⟩)] [] [(0, .ref 0 0 (s3.set i2.toNat x1).length 6), (1, .fn (.func del1_F) [] del1_caps), (5, .int .i64 (IntKind.wrap .i64 (i2 + 1))), (6, .int .i64 j1)] (by show ([0, 1, 5, 6] : List Nat).Nodup; decide) (by show ([0] : List Nat).Nodup; decide) ?_ ?_ (fun t0 => ⟨(s3.set i2.toNat x1), (IntKind.wrap .i64 (i2 + 1)), t0, H, rfl⟩)
        ·exact (allB_some (by rfl) rfl (.sm _ _ Kept.pu) trivial)
        ·(simp only [AllT, ATT, reduceEqDiff, ↓reduceIte, and_true]); exact ⟨(.refl' (by first | rfl | omega | (simp; done) | (simp [strBytes_len]; done) | (simp; omega) | (simp_all; done)) rfl), (.fn' .nil (RNs.pu del1_pu)), (.int' rfl), (.int' rfl)⟩
       ·have H := cond_f zc3 H
        refine a_skip ?_
        refine bA_n ?_
        refine cA_n ?_
        refine wk_l [(some 0, ⟨62, 6, false, s3.map Kept.c⟩)] [] [(0, .ref 0 0 s3.length 6), (1, .fn (.func del1_F) [] del1_caps), (5, .int .i64 i2), (6, .int .i64 j1)] (by show ([0, 1, 5, 6] : List Nat).Nodup; decide) (by show ([0] : List Nat).Nodup; decide) ?_ ?_ (fun t0 => ⟨s3, i2, t0, H, rfl⟩)
        ·exact (allB_some (by rfl) rfl (.sm _ _ Kept.pu) trivial)
        ·(simp only [AllT, ATT, reduceEqDiff, ↓reduceIte, and_true]); exact ⟨(.refl' (by first | rfl | omega | (simp; done) | (simp [strBytes_len]; done) | (simp; omega) | (simp_all; done)) rfl), (.fn' .nil (RNs.pu del1_pu)), (.int' rfl), (.int' rfl)⟩
      ·rintro s ⟨s4, i3, t0, H, rfl⟩
       unfold slices_DeleteFunc_J2 at H
       refine a_reg _ rfl (s := ?zs9) ?_ ?_
       rotate_left
       ·simp only [EVT, stepR, evOp, St.ev, St.app, St.put, wrs, datOf, datOf1, evBin, binInt, TIS, CS, reduceAdd, reduceMul, reduceEqDiff, ↓reduceIte, reduceCtorEq, reduceLT, reduceLeDiff]
        (repeat' apply And.intro) <;> first|rfl|assumption|omega|(simp;done)|(simp;omega)|(simp_all;done)
       refine lA_n ?_
       refine wk_l [(some 0, ⟨62, 6, false, s4.map Kept.c⟩)] [] [(0, .ref 0 0 s4.length 6), (1, .fn (.func del1_F) [] del1_caps), (5, .int .i64 i3), (6, .int .i64 (IntKind.wrap .i64 (j1 + 1)))] (by show ([0, 1, 5, 6] : List Nat).Nodup; decide) (by show ([0] : List Nat).Nodup; decide) ?_ ?_ (fun t0 => ⟨_, Nat.lt_succ_self _, s4, i3, (IntKind.wrap .i64 (j1 + 1)), t0, H, rfl⟩)
       ·exact (allB_some (by rfl) rfl (.sm _ _ Kept.pu) trivial)
       ·(simp only [AllT, ATT, reduceEqDiff, ↓reduceIte, and_true]); exact ⟨(.refl' (by first | rfl | omega | (simp; done) | (simp [strBytes_len]; done) | (simp; omega) | (simp_all; done)) rfl), (.fn' .nil (RNs.pu del1_pu)), (.int' rfl), (.int' rfl)⟩
     ·have H := cond_f zc2 H
      refine a_exit ?_
      refine sA_e ?_
      refine lA_e ?_
      refine bA_hit ?_
      refine cA_n ?_
      refine wk_l [(some 0, ⟨62, 6, false, s3.map Kept.c⟩)] [] [(0, .ref 0 0 s3.length 6), (5, .int .i64 i2)] (by show ([0, 5] : List Nat).Nodup; decide) (by show ([0] : List Nat).Nodup; decide) ?_ ?_ (fun t0 => ⟨s3, i2, t0, H, rfl⟩)
      ·exact (allB_some (by rfl) rfl (.sm _ _ Kept.pu) trivial)
      ·(simp only [AllT, ATT, reduceEqDiff, ↓reduceIte, and_true]); exact ⟨(.refl' (by first | rfl | omega | (simp; done) | (simp [strBytes_len]; done) | (simp; omega) | (simp_all; done)) rfl), (.int' rfl)⟩
  ·rintro s ⟨s2, i1, t0, H, rfl⟩
   unfold slices_DeleteFunc_J1 at H
   refine a_seq ?_
   obtain ⟨zh2, H⟩ := chk_some H
   refine a_reg _ rfl (s := ?zs5) ?_ ?_
   rotate_left
   ·simp only [EVT, stepR, evOp, St.ev, St.app, St.put, wrs, evSlice, sliceOk, sl_if0, sl_if1, sl_if2, sl_if3, tk_map, dp_map, evBuiltin, evClear, allOne, TIS, CS, reduceAdd, reduceMul, reduceEqDiff, ↓reduceIte, reduceCtorEq, reduceLT, reduceLeDiff, Int.reduceToNat, reduceSub, Nat.reduceBEq]
    (repeat' apply And.intro) <;> first | rfl | assumption | omega | (left; omega) | (simp; done) | (simp; omega) | (right; exact ⟨_, rfl, rfl, rfl, by decide, by first | omega | (simp; omega)⟩) | (simp_all; done)
   refine sA_n ?_
   refine a_seq ?_
   obtain ⟨zh3, H⟩ := chk_some H
   refine a_reg _ rfl (s := ?zs6) ?_ ?_
   rotate_left
   ·simp only [EVT, stepR, evOp, St.ev, St.app, St.put, wrs, evSlice, sliceOk, sl_if0, sl_if1, sl_if2, sl_if3, tk_map, dp_map, TIS, CS, reduceAdd, reduceMul, reduceEqDiff, ↓reduceIte, reduceCtorEq, reduceLT, reduceLeDiff, Int.reduceToNat, reduceSub]
    (repeat' apply And.intro) <;> first | rfl | assumption | omega | (left; omega) | (simp; done) | (simp; omega) | (right; exact ⟨_, rfl, rfl, rfl, by decide, by first | omega | (simp; omega)⟩) | (simp_all; done)
   refine sA_n ?_
   refine a_ret ?_
   obtain rfl := Option.some.inj H
   refine eR_r ?_
   refine wk_ln 0 [] [0] [(4, .list 6 ((s2.take i1.toNat).map Kept.c))] (fun i h => absurd h (Nat.not_lt_zero i)) (by show ([4] : List Nat).Nodup; decide) (by show ([] : List Nat).Nodup; decide) ?_ ?_ (fun t0 => ⟨by first | rfl | (simp only [EVT, resR, single, evLoad, cut, TIS, CS, reduceAdd, reduceEqDiff, ↓reduceIte, reduceCtorEq, reduceLT, reduceLeDiff, reduceSub, Nat.reduceBEq]; (repeat' apply And.intro) <;> first | rfl | (simp; done)), fun j B h => by rcases j with _ <;> first | exact h | (exact absurd h (by simp [hh]))⟩)
   ·exact trivial
   ·(simp only [AllT, ATT, reduceEqDiff, ↓reduceIte, and_true]); exact (.frzs (by rfl) (by simp) rfl (by first | rfl | omega | (simp; done) | (simp [strBytes_len]; done) | (simp; omega) | (simp_all; done)) (by first | rfl | omega | (simp; done) | (simp [strBytes_len]; done) | (simp; omega) | (simp_all; done)) (.same _ _ Kept.pu (by (refine tk_garb _ _ (by first | (simp; done) | (simp; omega)) ?_); first | rfl | (rw [List.take_append_of_le_length (by simp; omega), List.take_of_length_le (by simp; omega)]; simp only [tk_dr, List.map_append]; done) | (simp; done) | (simp; omega))))
def cache_Forget_1_f (k1 : Kept) (v1 : Int) : Option Bool :=
 some ((k1.ino == v1))
set_option maxHeartbeats 4000000 in
set_option maxRecDepth 20000 in
theorem cache_Forget_1_pc {k1 : Kept} {v1 : Int} {r : Bool} (H : cache_Forget_1_f k1 v1 = some r) : PC Try.prog 42 [.agg (Kept.c k1), .rop ((ci .i64) v1) 0 1] (.bool r) := by
 refine pcA_of Try.func42 (by rfl) (by decide) 8 (by rfl) [.tmp 3] (by rfl) ?_
 unfold cache_Forget_1_f at H
 simp only [ent]
 refine a_seq ?_
 refine a_reg _ rfl (s := ?zs1) ?_ ?_
 rotate_left
 ·simp only [EVT, stepR, evOp, St.ev, St.app, St.put, wrs, allOne, datOf, datOf1, TIS, CS, reduceAdd, reduceMul, reduceEqDiff, ↓reduceIte, reduceCtorEq, reduceLT, reduceLeDiff]
  (repeat' apply And.intro) <;> first|rfl|assumption|omega|(simp;done)|(simp;omega)|(simp_all;done)
 refine sA_n ?_
 refine a_seq ?_
 refine a_reg _ rfl (s := ?zs2) ?_ ?_
 rotate_left
 ·simp only [EVT, stepR, evOp, St.ev, St.app, St.put, wrs, evFieldAddr, evLoad, cut, evBin, binInt, TIS, CS, reduceAdd, reduceMul, reduceEqDiff, ↓reduceIte, reduceCtorEq, reduceLT, reduceLeDiff, reduceSub, Nat.reduceBEq]
  (repeat' apply And.intro) <;> first|rfl|assumption|omega|(simp;done)|(simp;omega)|(simp_all;done)
 refine sA_n ?_
 refine a_ret ?_
 obtain rfl := Option.some.inj H
 refine e_r2 (d := ?zd1) ?_ ?_
 rotate_left
 ·simp only [EVT, resR, single, evLoad, cut, TIS, CS, reduceAdd, reduceEqDiff, ↓reduceIte, reduceCtorEq, reduceLT, reduceLeDiff, reduceSub, Nat.reduceBEq]
  (repeat' apply And.intro) <;> first | rfl | assumption | omega | (simp; done)
 exact (.bool' rfl)
def cache_but_f (l1 : List Kept) (is1 : Kept → Option Bool) : Option (List Kept) :=
 (slices_Clone_64_f l1).bind fun r1 => (slices_DeleteFunc_f r1 is1).bind fun r2 => some (r2)
set_option maxHeartbeats 4000000 in
set_option maxRecDepth 20000 in
theorem cache_but_pc {l1 : List Kept} {is1 : Kept → Option Bool} {is1_F : FuncId} {is1_caps : List Dat} (is1_hp : ∀ (x0_ : Kept) (r : Bool), is1 x0_ = some r → PC Try.prog is1_F (.agg (Kept.c x0_) :: is1_caps) (.bool r)) (is1_pu : Pus is1_caps) {r : (List Kept)} (H : cache_but_f l1 is1 = some r) : PC Try.prog 41 [.list 6 (l1.map Kept.c), .fn (.func is1_F) [] is1_caps] (.list 6 (r.map Kept.c)) := by
 refine pcA_of Try.func41 (by rfl) (by decide) 9 (by rfl) [.tmp 4] (by rfl) ?_
 unfold cache_but_f at H
 simp only [ent]
 refine a_seq ?_
 refine a_reg _ rfl (s := ?zs1) ?_ ?_
 rotate_left
 ·simp only [EVT, stepR, evOp, St.ev, St.app, St.put, wrs, datOf, datOf1, TIS, CS, reduceAdd, reduceMul, reduceEqDiff, ↓reduceIte, reduceCtorEq, reduceLT, reduceLeDiff]
  (repeat' apply And.intro) <;> first|rfl|assumption|omega|(simp;done)|(simp;omega)|(simp_all;done)
 refine sA_n ?_
 refine a_seq ?_
 obtain ⟨r1, zh1, H⟩ := bind_some H
 have zk1 := slices_Clone_64_rc zh1
 obtain ⟨r2, zh2, H⟩ := bind_some H
 have zk2 := slices_DeleteFunc_rc (del1 := is1) (del1_F := is1_F) (del1_caps := is1_caps) is1_hp is1_pu zh2
 refine a_reg _ rfl (s := ?zs2) ?_ ?_
 rotate_left
 ·try simp only [EVT, stepR, evOp, St.ev, St.app, St.put, wrs, frz, TIS, CS, reduceAdd, reduceMul, reduceEqDiff, ↓reduceIte, reduceCtorEq, reduceLT, reduceLeDiff, reduceSub, Nat.reduceBEq]
  repeat' with_reducible apply And.intro
  all_goals try ((with_reducible show CallR _ _ _ _ _ _ _); refine callR_rcw (r' := .ref 9 0 r1.length 6) [(9, some ⟨62, 6, false, r1.map Kept.c⟩)] [] [] [(9, 0, ⟨62, 6, false, r1.map Kept.c⟩)] rfl zk1 (by simp) (by show ([] : List Nat).Nodup; decide) trivial (.cons (.lst _ _ _ Kept.pu rfl) .nil) (by show ([9] : List Nat).Nodup; decide) (by show ([0] : List Nat).Nodup; decide) ⟨.inr ⟨rfl, by decide⟩, ⟨_, rfl, ⟨rfl, rfl, rfl, rfl⟩, .same _ _ Kept.pu rfl⟩, trivial⟩ (.refl' rfl rfl) ?_; simp only [EVT, stepR, evOp, St.ev, St.app, St.put, wrs, frz, TIS, CS, reduceAdd, reduceMul, reduceEqDiff, ↓reduceIte, reduceCtorEq, reduceLT, reduceLeDiff, reduceSub, Nat.reduceBEq])
  repeat' with_reducible apply And.intro
  all_goals try ((with_reducible show CallR _ _ _ _ _ _ _); refine callR_rcw (r' := .list 6 (r2.map Kept.c)) [(9, none)] [(some 9, ⟨62, 6, false, r1.map Kept.c⟩)] [] [] rfl zk2 (by simp) (by show ([9] : List Nat).Nodup; decide) (allB_some (by rfl) rfl (.sm _ _ Kept.pu) trivial) (.cons (.refl' (by first | rfl | omega | (simp; done) | (simp [strBytes_len]; done) | (simp; omega) | (simp_all; done)) rfl) (.cons (.fn' .nil (RNs.pu is1_pu)) .nil)) (by show ([] : List Nat).Nodup; decide) (by show ([] : List Nat).Nodup; decide) trivial (.lst _ _ _ Kept.pu rfl) ?_; simp only [EVT, stepR, evOp, St.ev, St.app, St.put, wrs, frz, TIS, CS, reduceAdd, reduceMul, reduceEqDiff, ↓reduceIte, reduceCtorEq, reduceLT, reduceLeDiff, reduceSub, Nat.reduceBEq])
  all_goals ((repeat' apply And.intro) <;> first|rfl|assumption|omega|(simp;done)|(simp;omega)|(simp_all;done))
 refine sA_n ?_
 refine a_ret ?_
 obtain rfl := Option.some.inj H
 refine e_r2 (d := ?zd1) ?_ ?_
 rotate_left
 ·simp only [EVT, resR, single, evLoad, cut, TIS, CS, reduceAdd, reduceEqDiff, ↓reduceIte, reduceCtorEq, reduceLT, reduceLeDiff, reduceSub, Nat.reduceBEq]
  (repeat' apply And.intro) <;> first | rfl | assumption | omega | (simp; done)
 exact (.lst _ _ _ Kept.pu rfl)
def cache_Forget_f (l1 : List Kept) (ino1 : Int) : Option (List Kept) :=
 (cache_but_f l1 (fun y0_ => cache_Forget_1_f y0_ ino1)).bind fun r1 => some (r1)
set_option maxHeartbeats 4000000 in
set_option maxRecDepth 20000 in
theorem cache_Forget_pc {l1 : List Kept} {ino1 : Int} {r : (List Kept)} (H : cache_Forget_f l1 ino1 = some r) : PC Try.prog 17 [.list 6 (l1.map Kept.c), .int .i64 ino1] (.list 6 (r.map Kept.c)) := by
 refine pcA_of Try.func17 (by rfl) (by decide) 8 (by rfl) [.tmp 4] (by rfl) ?_
 unfold cache_Forget_f at H
 simp only [ent]
 refine a_seq ?_
 refine a_reg _ rfl (s := ?zs1) ?_ ?_
 rotate_left
 ·simp only [EVT, stepR, evOp, St.ev, St.app, St.put, wrs, allOne, datOf, datOf1, TIS, CS, reduceAdd, reduceMul, reduceEqDiff, ↓reduceIte, reduceCtorEq, reduceLT, reduceLeDiff]
  (repeat' apply And.intro) <;> first|rfl|assumption|omega|(simp;done)|(simp;omega)|(simp_all;done)
 refine sA_n ?_
 refine a_seq ?_
 obtain ⟨r1, zh1, H⟩ := bind_some H
 have zk1 := cache_but_pc (is1 := (fun y0_ => cache_Forget_1_f y0_ ino1)) (is1_F := 42) (is1_caps := [.rop ((ci .i64) ino1) 0 1]) (fun _ _ h => cache_Forget_1_pc h) (.cons (.rop _ _ _ ((ci_pu .i64) _)) .nil) zh1
 refine a_reg _ rfl (s := ?zs2) ?_ ?_
 rotate_left
 ·try simp only [EVT, stepR, evOp, St.ev, St.app, St.put, wrs, frz, TIS, CS, reduceAdd, reduceMul, reduceEqDiff, ↓reduceIte, reduceCtorEq, reduceLT, reduceLeDiff, reduceSub, Nat.reduceBEq]
  repeat' with_reducible apply And.intro
  all_goals try ((with_reducible show CallR _ _ _ _ _ _ _); refine cR_f [0] zk1 (.cons (.lst _ _ _ Kept.pu rfl) (.cons (.fn' .nil (.cons (.box ((wrs_frz _ _ _ 0).trans (by rfl)) (fun _ => rfl) rfl rfl (.cons (.int' rfl) .nil)) .nil)) .nil)) ?_; simp only [EVT, stepR, evOp, St.ev, St.app, St.put, wrs, frz, TIS, CS, reduceAdd, reduceMul, reduceEqDiff, ↓reduceIte, reduceCtorEq, reduceLT, reduceLeDiff, reduceSub, Nat.reduceBEq])
  all_goals ((repeat' apply And.intro) <;> first|rfl|assumption|omega|(simp;done)|(simp;omega)|(simp_all;done))
 refine sA_n ?_
 refine a_ret ?_
 obtain rfl := Option.some.inj H
 refine e_r2 (d := ?zd1) ?_ ?_
 rotate_left
 ·simp only [EVT, resR, single, evLoad, cut, TIS, CS, reduceAdd, reduceEqDiff, ↓reduceIte, reduceCtorEq, reduceLT, reduceLeDiff, reduceSub, Nat.reduceBEq]
  (repeat' apply And.intro) <;> first | rfl | assumption | omega | (simp; done)
 exact (.lst _ _ _ Kept.pu rfl)
end
end Go.Proofs.Ytogickapcbibbaa
