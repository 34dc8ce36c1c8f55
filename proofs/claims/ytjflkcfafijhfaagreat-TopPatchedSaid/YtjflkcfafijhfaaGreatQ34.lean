import Derived.Test.YtjflkcfafijhfaaGreatQ33
import Derived.Test.YtjflkcfafijhfaaGreatQ26
import Derived.Test.YtjflkcfafijhfaaGreatQ19
set_option linter.unusedSectionVars false
/- Functions of the program as Lean functions, and that they are so; printed by a program of mine. -/
set_option linter.unusedSimpArgs false
set_option linter.unusedVariables false
set_option maxHeartbeats 4000000
set_option maxRecDepth 20000
namespace Go.Proofs.YtjflkcfafijhfaaGreat
open Go.Ab
open Nat (reduceAdd reduceMul reduceEqDiff reduceLT reduceLeDiff reduceSub)
noncomputable section
def chunk_take_132_J1 (r1 : Reader) (r2 : Int × (List Int) × Int) (v1 : Bool) : Option (Int × Reader) :=
 cond v1 (some (0, (⟨r1.b, true⟩ : Reader))) (some (r2.1, (⟨r2.2.1, r1.bad⟩ : Reader)))
def chunk_take_132_f (r1 : Reader) (read1 : (List Int) → Option (Int × (List Int) × Int)) : Option (Int × Reader) :=
 (read1 r1.b).bind fun r2 => chunk_take_132_J1 r1 r2 (r1.bad || (r2.2.2 != 0))
theorem chunk_take_132_rc {r1 : Reader} {read1 : (List Int) → Option (Int × (List Int) × Int)} {read1_F : FuncId} {read1_caps : List Dat} (read1_hp : ∀ (x0_ : List Int) (r : Int × (List Int) × Int), read1 x0_ = some r → PC Tryz.prog read1_F (.list 1 (x0_.map (ci .u8)) :: read1_caps) (.tup [.int .i64 r.1, .list 1 (r.2.1.map (ci .u8)), .int .i64 r.2.2])) (read1_pu : Pus read1_caps) {r : Int × Reader} (H : chunk_take_132_f r1 read1 = some r) : RC Tryz.prog 132 [.ptr 0 0 0 2, .fn (.func read1_F) [] read1_caps] [⟨99, 2, false, [Reader.c r1]⟩] 1 (.int .i64 r.1) [some ⟨99, 2, false, [Reader.c r.2]⟩] := by
 refine rcA_of Tryz.func132 (by rfl) (by decide) 36 (by rfl) [.tmp 4] (by rfl) ?_
 unfold chunk_take_132_f at H
 simp only [hent, List.length_cons, List.length_nil, reduceAdd]
 refine a_srC _ rfl ?_
 refine a_seq ?_
 obtain ⟨r2, zh1, H⟩ := bind_some H
 have zk1 := read1_hp _ _ zh1
 refine a_reg _ rfl (s := ?zs2) ?_ ?_
 rotate_left
 ·try refine goS ?_
  repeat' with_reducible apply And.intro
  all_goals try ((with_reducible show CallR _ _ _ _ _ _ _); refine cR_p zk1 (.cons (.lst _ _ _ (ci_pu .u8) rfl) (Pus.purRs read1_pu)) ?_; refine goS ?_)
  all_goals ((repeat' apply And.intro) <;> first|rfl|assumption|omega|(simp;done)|(simp;omega)|(simp_all;done))
 refine sA_n ?_
 refine a_seq ?_
 refine a_cut (fun s => ∃ (v1 : Bool) (t0 : Nat → Dat), chunk_take_132_J1 r1 r2 v1 = some r ∧ s = ⟨tl t0 [(0, .ptr 0 0 0 2), (5, .int .i64 r2.1), (6, .list 1 (r2.2.1.map (ci .u8))), (26, .bool v1)], hl [⟨99, 2, false, [Reader.c r1]⟩], 1, 36⟩) ?_ ?_
 ·refine bool_split (b := r1.bad) (fun zc2 => ?_) (fun zc2 => ?_)
  ·rw [zc2] at H
   refine a_regC _ rfl ?_
   refine cA_n ?_
   exact wk_lnA 1 [(some 0, _)] [] (fun t0 => ⟨true, t0, H, rfl⟩)
  ·rw [zc2] at H
   refine a_regC _ rfl ?_
   refine cA_n ?_
   exact wk_lnA 1 [(some 0, _)] [] (fun t0 => ⟨(r2.2.2 != 0), t0, H, rfl⟩)
 ·rintro s ⟨v1, t0, H, rfl⟩
  unfold chunk_take_132_J1 at H
  refine a_cnd H (fun zc1 H => ?_) (fun zc1 H => ?_)
  ·refine a_srC _ rfl ?_
   refine a_srC _ rfl ?_
   refine a_srC _ rfl ?_
   refine a_ret ?_
   refine sA_r ?_
   obtain rfl := Option.some.inj H
   refine eR_r ?_
   exact wk_lnA 1 [(some 0, ⟨99, 2, false, [Reader.c (⟨r1.b, true⟩ : Reader)]⟩)] [] (L := [(4, .int .i64 0)]) (fun t0 => ⟨RS2, RJ⟩)
  ·refine a_skip ?_
   refine sA_n ?_
   refine a_srC _ rfl ?_
   refine a_srC _ rfl ?_
   refine a_ret ?_
   obtain rfl := Option.some.inj H
   refine eR_r ?_
   exact wk_lnA 1 [(some 0, ⟨99, 2, false, [Reader.c (⟨r2.2.1, r1.bad⟩ : Reader)]⟩)] [] (L := [(4, .int .i64 r2.1)]) (fun t0 => ⟨RS2, RJ⟩)
def pack_ReadInt_J1 : Option (Int × (List Int) × Int) :=
 some (0, [], 10)
def pack_ReadInt_J3 (v1 : Int) (b1 : List Int) (u2 : Int) (v3 : Bool) : Option (Int × (List Int) × Int) :=
 cond v3 (some (0, [], 11)) (chk (0 ≤ (IntKind.wrap .i64 (v1 + 1)) ∧ (IntKind.wrap .i64 (v1 + 1)) ≤ (b1.length : Int) ∧ (b1.length : Int) ≤ (b1.length : Int)) (some ((IntKind.wrap .i64 (BitVec.ofInt (IntKind.bits .i64) (IntKind.wrap .i64 (Int.fdiv u2 (2 ^ (min 1 (IntKind.bits .u64))))) ^^^ BitVec.ofInt (IntKind.bits .i64) (IntKind.wrap .i64 (0 - (IntKind.wrap .i64 (IntKind.wrap .u64 (BitVec.ofInt (IntKind.bits .u64) u2 &&& BitVec.ofInt (IntKind.bits .u64) 1).toNat))))).toNat), (b1.drop (IntKind.wrap .i64 (v1 + 1)).toNat), 0)))
def pack_ReadInt_J2 (k_pack_ReadInt_L1 : Int → Int → Option (Int × (List Int) × Int)) (v1 : Int) (x1 : Int) (u1 : Int) (b1 : List Int) (v2 : Bool) : Option (Int × (List Int) × Int) :=
 cond v2 (some (0, [], 11)) (chk (0 ≤ (IntKind.wrap .i64 (7 * v1))) (cond (decide (128 ≤ x1)) (k_pack_ReadInt_L1 (IntKind.wrap .u64 (BitVec.ofInt (IntKind.bits .u64) u1 ||| BitVec.ofInt (IntKind.bits .u64) (IntKind.wrap .u64 ((IntKind.wrap .u64 (IntKind.wrap .u8 (BitVec.ofInt (IntKind.bits .u8) x1 &&& BitVec.ofInt (IntKind.bits .u8) 127).toNat)) * 2 ^ (min (IntKind.wrap .i64 (7 * v1)).toNat (IntKind.bits .u64))))).toNat) (IntKind.wrap .i64 (v1 + 1))) (pack_ReadInt_J3 v1 b1 (IntKind.wrap .u64 (BitVec.ofInt (IntKind.bits .u64) u1 ||| BitVec.ofInt (IntKind.bits .u64) (IntKind.wrap .u64 ((IntKind.wrap .u64 (IntKind.wrap .u8 (BitVec.ofInt (IntKind.bits .u8) x1 &&& BitVec.ofInt (IntKind.bits .u8) 127).toNat)) * 2 ^ (min (IntKind.wrap .i64 (7 * v1)).toNat (IntKind.bits .u64))))).toNat) ((x1 == 0) && (decide (0 < v1))))))
def pack_ReadInt_L1 (b1 : List Int) : Nat → Int → Int → Option (Int × (List Int) × Int)
 | 0, _, _ => none
 | m_ + 1, u1, v1 => cond (decide (v1 < (b1.length : Int))) ((idx b1 v1).bind fun x1 => pack_ReadInt_J2 (pack_ReadInt_L1 b1 m_) v1 x1 u1 b1 ((v1 == 9) && (decide (1 < x1)))) (pack_ReadInt_J1)
def pack_ReadInt_f (b1 : List Int) : Option (Int × (List Int) × Int) :=
 pack_ReadInt_L1 b1 BIG 0 0
theorem pack_ReadInt_pc {b1 : List Int} {r : Int × (List Int) × Int} (H : pack_ReadInt_f b1 = some r) : PC Tryz.prog 133 [.list 1 (b1.map (ci .u8))] (.tup [.int .i64 r.1, .list 1 (r.2.1.map (ci .u8)), .int .i64 r.2.2]) := by
 refine pcA_of Tryz.func133 (by rfl) (by decide) 50 (by rfl) [.tmp 2, .tmp 3, .tmp 4] (by rfl) ?_
 unfold pack_ReadInt_f at H
 simp only [ent]
 refine a_srC _ rfl ?_
 refine a_srC _ rfl ?_
 refine a_cut (fun s => ∃ (t0 : Nat → Dat), pack_ReadInt_J1 = some r ∧ s = ⟨tl t0 [], hl [], 0, 50⟩) ?_ ?_
 ·refine a_srC _ rfl ?_
  refine a_blk ?_
  refine a_loop (fun m s => ∃ (u1 : Int) (v1 : Int) (t0 : Nat → Dat), pack_ReadInt_L1 b1 m u1 v1 = some r ∧ s = ⟨tl t0 [(0, .list 1 (b1.map (ci .u8))), (5, .int .u64 u1), (8, .list 1 (b1.map (ci .u8))), (9, .int .i64 (b1.length : Int)), (10, .int .i64 v1)], hl [], 0, 50⟩) BIG ?_ ?_
  ·exact wk_lA [] [] (fun t0 => ⟨0, 0, t0, H, rfl⟩)
  ·rintro m_pack_ReadInt_L1 s ⟨u1, v1, t0, H, rfl⟩
   obtain _ | m_pack_ReadInt_L1 := m_pack_ReadInt_L1
   ·cases (show (none : Option _) = some _ from H)
   ·rw [pack_ReadInt_L1] at H
    refine a_srC _ rfl ?_
    refine a_seq ?_
    refine a_cnd H (fun zc1 H => ?_) (fun zc1 H => ?_)
    ·refine a_skip ?_
     refine sA_n ?_
     refine a_seq ?_
     refine a_blk ?_
     refine a_seq ?_
     obtain ⟨x1, zh1, H⟩ := bind_some H
     obtain ⟨zg1, zh1a, zh1b⟩ := idx3 (f := (ci .u8)) zh1
     try simp only [Int.reduceToNat, Int.toNat_natCast] at zg1
     refine a_regC _ rfl ?_
     refine sA_n ?_
     refine a_seq ?_
     refine a_cut (fun s => ∃ (v2 : Bool) (t0 : Nat → Dat), pack_ReadInt_J2 (pack_ReadInt_L1 b1 m_pack_ReadInt_L1) v1 x1 u1 b1 v2 = some r ∧ s = ⟨tl t0 [(0, .list 1 (b1.map (ci .u8))), (5, .int .u64 u1), (6, .int .i64 v1), (7, .int .u8 x1), (8, .list 1 (b1.map (ci .u8))), (9, .int .i64 (b1.length : Int)), (10, .int .i64 v1), (20, .bool v2)], hl [], 0, 50⟩) ?_ ?_
     ·refine bool_split (b := (v1 == 9)) (fun zc6 => ?_) (fun zc6 => ?_)
      ·rw [zc6] at H
       refine a_regC _ rfl ?_
       refine cA_n ?_
       exact wk_lA [] [] (fun t0 => ⟨(decide (1 < x1)), t0, H, rfl⟩)
      ·rw [zc6] at H
       refine a_regC _ rfl ?_
       refine cA_n ?_
       exact wk_lA [] [] (fun t0 => ⟨false, t0, H, rfl⟩)
     ·rintro s ⟨v2, t0, H, rfl⟩
      unfold pack_ReadInt_J2 at H
      refine a_cnd H (fun zc2 H => ?_) (fun zc2 H => ?_)
      ·refine a_srC _ rfl ?_
       exact a_ret (sA_r (bA_r (sA_r (lA_r (bA_r (cA_r RT))))))
      ·refine a_skip ?_
       refine sA_n ?_
       refine a_seq ?_
       obtain ⟨zh2, H⟩ := chk_some H
       refine a_regC _ rfl ?_
       refine sA_n ?_
       refine a_seq ?_
       refine a_srC _ rfl ?_
       refine a_cnd H (fun zc3 H => ?_) (fun zc3 H => ?_)
       ·refine a_exit ?_
        refine sA_e ?_
        refine bA_hit ?_
        refine sA_n ?_
        refine a_regC _ rfl ?_
        refine lA_n ?_
        exact wk_lA [] [] (fun t0 => ⟨_, Nat.lt_succ_self _, (IntKind.wrap .u64 (BitVec.ofInt (IntKind.bits .u64) u1 ||| BitVec.ofInt (IntKind.bits .u64) (IntKind.wrap .u64 ((IntKind.wrap .u64 (IntKind.wrap .u8 (BitVec.ofInt (IntKind.bits .u8) x1 &&& BitVec.ofInt (IntKind.bits .u8) 127).toNat)) * 2 ^ (min (IntKind.wrap .i64 (7 * v1)).toNat (IntKind.bits .u64))))).toNat), (IntKind.wrap .i64 (v1 + 1)), t0, H, rfl⟩)
       ·refine a_skip ?_
        refine sA_n ?_
        refine a_seq ?_
        refine a_cut (fun s => ∃ (u2 : Int) (v3 : Bool) (t0 : Nat → Dat), pack_ReadInt_J3 v1 b1 u2 v3 = some r ∧ s = ⟨tl t0 [(0, .list 1 (b1.map (ci .u8))), (5, .int .u64 u2), (6, .int .i64 v1), (36, .bool v3)], hl [], 0, 50⟩) ?_ ?_
        ·refine bool_split (b := (x1 == 0)) (fun zc5 => ?_) (fun zc5 => ?_)
         ·rw [zc5] at H
          refine a_regC _ rfl ?_
          refine cA_n ?_
          exact wk_lA [] [] (fun t0 => ⟨(IntKind.wrap .u64 (BitVec.ofInt (IntKind.bits .u64) u1 ||| BitVec.ofInt (IntKind.bits .u64) (IntKind.wrap .u64 ((IntKind.wrap .u64 (IntKind.wrap .u8 (BitVec.ofInt (IntKind.bits .u8) x1 &&& BitVec.ofInt (IntKind.bits .u8) 127).toNat)) * 2 ^ (min (IntKind.wrap .i64 (7 * v1)).toNat (IntKind.bits .u64))))).toNat), (decide (0 < v1)), t0, H, rfl⟩)
         ·rw [zc5] at H
          refine a_regC _ rfl ?_
          refine cA_n ?_
          exact wk_lA [] [] (fun t0 => ⟨(IntKind.wrap .u64 (BitVec.ofInt (IntKind.bits .u64) u1 ||| BitVec.ofInt (IntKind.bits .u64) (IntKind.wrap .u64 ((IntKind.wrap .u64 (IntKind.wrap .u8 (BitVec.ofInt (IntKind.bits .u8) x1 &&& BitVec.ofInt (IntKind.bits .u8) 127).toNat)) * 2 ^ (min (IntKind.wrap .i64 (7 * v1)).toNat (IntKind.bits .u64))))).toNat), false, t0, H, rfl⟩)
        ·rintro s ⟨u2, v3, t0, H, rfl⟩
         unfold pack_ReadInt_J3 at H
         refine a_cnd H (fun zc4 H => ?_) (fun zc4 H => ?_)
         ·refine a_srC _ rfl ?_
          refine a_ret ?_
          refine sA_r ?_
          refine bA_r ?_
          refine sA_r ?_
          refine lA_r ?_
          refine bA_r ?_
          refine cA_r ?_
          obtain rfl := Option.some.inj H
          refine e_r2 (d := ?zd3) ?_ ?_
          rotate_left
          ·simp only [EVT, resR, single, evLoad, cut, TIS, CS, reduceAdd, reduceEqDiff, ↓reduceIte, reduceCtorEq, reduceLT, reduceLeDiff, reduceSub, Nat.reduceBEq, zc4]
           (repeat' apply And.intro) <;> first | rfl | assumption | omega | (simp; done)
          exact ZZ
         ·refine a_skip ?_
          refine sA_n ?_
          refine a_seq ?_
          obtain ⟨zh3, H⟩ := chk_some H
          refine a_drW (by kernel_rfl) _ rfl (s := ?zs12) (by kernel_rfl) (by kernel_rfl) ?zs12f ?_ ?_ ?_
          rotate_left 2
          ·simp only [EVT, stepW, evOp, St.ev, St.app, St.put, wrs, datOf, datOf1, evBin, binInt, evToStr, elems, evUn, evSlice, sliceOk, sl_if0, sl_if1, sl_if2, sl_if3, tk_map, dp_map, TIS, CS, reduceAdd, reduceMul, reduceEqDiff, ↓reduceIte, reduceCtorEq, reduceLT, reduceLeDiff, Int.reduceToNat, reduceSub, ↓zc4]
           (repeat' apply And.intro) <;> first | rfl | assumption | omega | (left; omega) | (simp; done) | (simp; omega) | (right; exact ⟨_, rfl, rfl, rfl, by decide, by first | omega | (simp; omega)⟩) | (simp_all; done)
          ·kernel_rfl
          refine sA_n ?_
          refine a_ret ?_
          refine bA_r ?_
          refine sA_r ?_
          refine lA_r ?_
          refine bA_r ?_
          refine cA_r ?_
          obtain rfl := Option.some.inj H
          refine e_r2 (d := ?zd4) ?_ ?_
          rotate_left
          ·simp only [EVT, resR, single, evLoad, cut, TIS, CS, reduceAdd, reduceEqDiff, ↓reduceIte, reduceCtorEq, reduceLT, reduceLeDiff, reduceSub, Nat.reduceBEq, zc4]
           (repeat' apply And.intro) <;> first | rfl | assumption | omega | (simp; done)
          exact (.tup' (.cons (.int' rfl) (.cons (.lst _ _ _ (ci_pu .u8) rfl) (.cons (.int' rfl) .nil))))
    ·refine a_exit ?_
     refine sA_e ?_
     refine lA_e ?_
     refine bA_hit ?_
     refine cA_n ?_
     exact wk_lA [] [] (fun t0 => ⟨t0, H, rfl⟩)
 ·rintro s ⟨t0, H, rfl⟩
  unfold pack_ReadInt_J1 at H
  refine a_srC _ rfl ?_
  refine a_ret ?_
  obtain rfl := Option.some.inj H
  refine e_r2 (d := ?zd1) ?_ ?_
  rotate_left
  ·simp only [EVT, resR, single, evLoad, cut, TIS, CS, reduceAdd, reduceEqDiff, ↓reduceIte, reduceCtorEq, reduceLT, reduceLeDiff, reduceSub, Nat.reduceBEq]
   (repeat' apply And.intro) <;> first | rfl | assumption | omega | (simp; done)
  exact ZZ
def chunk_reader_int_f (r1 : Reader) : Option (Int × Reader) :=
 (chunk_take_132_f r1 pack_ReadInt_f).bind fun r2 => some (r2.1, r2.2)
theorem chunk_reader_int_rc {r1 : Reader} {r : Int × Reader} (H : chunk_reader_int_f r1 = some r) : RC Tryz.prog 89 [.ptr 0 0 0 2] [⟨99, 2, false, [Reader.c r1]⟩] 1 (.int .i64 r.1) [some ⟨99, 2, false, [Reader.c r.2]⟩] := by
 refine rcA_of Tryz.func89 (by rfl) (by decide) 5 (by rfl) [.tmp 2] (by rfl) ?_
 unfold chunk_reader_int_f at H
 simp only [hent, List.length_cons, List.length_nil, reduceAdd]
 refine a_srC _ rfl ?_
 refine a_seq ?_
 obtain ⟨r2, zh1, H⟩ := bind_some H
 have zk1 := chunk_take_132_rc (read1 := pack_ReadInt_f) (read1_F := 133) (read1_caps := []) (fun _ _ h => pack_ReadInt_pc h) .nil zh1
 refine a_reg _ rfl (s := ?zs2) ?_ ?_
 rotate_left
 ·try refine goS ?_
  repeat' with_reducible apply And.intro
  all_goals try ((with_reducible show CallR _ _ _ _ _ _ _); refine callR_rcw (r' := .int .i64 r2.1) [(0, none), (0, some ⟨99, 2, false, [Reader.c r2.2]⟩)] [(some 0, _)] [] [(0, 0, _)] EQA zk1 (by simp) ND ZZ ZZ ND ND ZZ ZZ ?_; refine goS ?_)
  all_goals ((repeat' apply And.intro) <;> first|rfl|assumption|omega|(simp;done)|(simp;omega)|(simp_all;done))
 refine sA_n ?_
 refine a_ret ?_
 obtain rfl := Option.some.inj H
 refine eR_r ?_
 exact wk_lnA 1 [(some 0, ⟨99, 2, false, [Reader.c r2.2]⟩)] [] (L := [(2, .int .i64 r2.1)]) (fun t0 => ⟨RS2, RJ⟩)
def chunk_take_J1 (r1 : Reader) (r2 : ByteArray × (List Int) × Int) (v1 : Bool) : Option (ByteArray × Reader) :=
 cond v1 (some ((⟨#[]⟩ : ByteArray), (⟨r1.b, true⟩ : Reader))) (some (r2.1, (⟨r2.2.1, r1.bad⟩ : Reader)))
def chunk_take_f (r1 : Reader) (read1 : (List Int) → Option (ByteArray × (List Int) × Int)) : Option (ByteArray × Reader) :=
 (read1 r1.b).bind fun r2 => chunk_take_J1 r1 r2 (r1.bad || (r2.2.2 != 0))
theorem chunk_take_rc {r1 : Reader} {read1 : (List Int) → Option (ByteArray × (List Int) × Int)} {read1_F : FuncId} {read1_caps : List Dat} (read1_hp : ∀ (x0_ : List Int) (r : ByteArray × (List Int) × Int), read1 x0_ = some r → PC Tryz.prog read1_F (.list 1 (x0_.map (ci .u8)) :: read1_caps) (.tup [.str r.1, .list 1 (r.2.1.map (ci .u8)), .int .i64 r.2.2])) (read1_pu : Pus read1_caps) {r : ByteArray × Reader} (H : chunk_take_f r1 read1 = some r) : RC Tryz.prog 90 [.ptr 0 0 0 2, .fn (.func read1_F) [] read1_caps] [⟨99, 2, false, [Reader.c r1]⟩] 1 (.str r.1) [some ⟨99, 2, false, [Reader.c r.2]⟩] := by
 refine rcA_of Tryz.func90 (by rfl) (by decide) 36 (by rfl) [.tmp 4] (by rfl) ?_
 unfold chunk_take_f at H
 simp only [hent, List.length_cons, List.length_nil, reduceAdd]
 refine a_srC _ rfl ?_
 refine a_seq ?_
 obtain ⟨r2, zh1, H⟩ := bind_some H
 have zk1 := read1_hp _ _ zh1
 refine a_reg _ rfl (s := ?zs2) ?_ ?_
 rotate_left
 ·try refine goS ?_
  repeat' with_reducible apply And.intro
  all_goals try ((with_reducible show CallR _ _ _ _ _ _ _); refine cR_p zk1 (.cons (.lst _ _ _ (ci_pu .u8) rfl) (Pus.purRs read1_pu)) ?_; refine goS ?_)
  all_goals ((repeat' apply And.intro) <;> first|rfl|assumption|omega|(simp;done)|(simp;omega)|(simp_all;done))
 refine sA_n ?_
 refine a_seq ?_
 refine a_cut (fun s => ∃ (v1 : Bool) (t0 : Nat → Dat), chunk_take_J1 r1 r2 v1 = some r ∧ s = ⟨tl t0 [(0, .ptr 0 0 0 2), (5, .str r2.1), (6, .list 1 (r2.2.1.map (ci .u8))), (26, .bool v1)], hl [⟨99, 2, false, [Reader.c r1]⟩], 1, 36⟩) ?_ ?_
 ·refine bool_split (b := r1.bad) (fun zc2 => ?_) (fun zc2 => ?_)
  ·rw [zc2] at H
   refine a_regC _ rfl ?_
   refine cA_n ?_
   exact wk_lnA 1 [(some 0, _)] [] (fun t0 => ⟨true, t0, H, rfl⟩)
  ·rw [zc2] at H
   refine a_regC _ rfl ?_
   refine cA_n ?_
   exact wk_lnA 1 [(some 0, _)] [] (fun t0 => ⟨(r2.2.2 != 0), t0, H, rfl⟩)
 ·rintro s ⟨v1, t0, H, rfl⟩
  unfold chunk_take_J1 at H
  refine a_cnd H (fun zc1 H => ?_) (fun zc1 H => ?_)
  ·refine a_srC _ rfl ?_
   refine a_srC _ rfl ?_
   refine a_srC _ rfl ?_
   refine a_ret ?_
   refine sA_r ?_
   obtain rfl := Option.some.inj H
   refine eR_r ?_
   exact wk_lnA 1 [(some 0, ⟨99, 2, false, [Reader.c (⟨r1.b, true⟩ : Reader)]⟩)] [] (L := [(4, .str (⟨#[]⟩ : ByteArray))]) (fun t0 => ⟨RS2, RJ⟩)
  ·refine a_skip ?_
   refine sA_n ?_
   refine a_srC _ rfl ?_
   refine a_srC _ rfl ?_
   refine a_ret ?_
   obtain rfl := Option.some.inj H
   refine eR_r ?_
   exact wk_lnA 1 [(some 0, ⟨99, 2, false, [Reader.c (⟨r2.2.1, r1.bad⟩ : Reader)]⟩)] [] (L := [(4, .str r2.1)]) (fun t0 => ⟨RS2, RJ⟩)
def pack_reader_num_f (r1 : Reader195) : Option (Int × Reader195) :=
 cond (r1.e != 0) (some (0, (⟨(⟨r1.rest.b⟩ : Rest), r1.e⟩ : Reader195))) ((pack_ReadInt_f r1.rest.b).bind fun r2 => some (r2.1, (⟨(⟨r2.2.1⟩ : Rest), r2.2.2⟩ : Reader195)))
theorem pack_reader_num_rc {r1 : Reader195} {r : Int × Reader195} (H : pack_reader_num_f r1 = some r) : RC Tryz.prog 136 [.ptr 0 0 0 2] [⟨196, 2, false, [Reader195.c r1]⟩] 1 (.int .i64 r.1) [some ⟨196, 2, false, [Reader195.c r.2]⟩] := by
 refine rcA_of Tryz.func136 (by rfl) (by decide) 31 (by rfl) [.tmp 2] (by rfl) ?_
 unfold pack_reader_num_f at H
 simp only [hent, List.length_cons, List.length_nil, reduceAdd]
 refine a_srC _ rfl ?_
 refine a_seq ?_
 refine a_srC _ rfl ?_
 refine a_cnd H (fun zc1 H => ?_) (fun zc1 H => ?_)
 ·refine a_srC _ rfl ?_
  refine a_ret ?_
  refine sA_r ?_
  obtain rfl := Option.some.inj H
  refine eR_r ?_
  exact wk_lnA 1 [(some 0, ⟨196, 2, false, [Reader195.c (⟨(⟨r1.rest.b⟩ : Rest), r1.e⟩ : Reader195)]⟩)] [] (L := [(2, .int .i64 0)]) (fun t0 => ⟨RS2, RJ⟩)
 ·refine a_skip ?_
  refine sA_n ?_
  refine a_seq ?_
  obtain ⟨r2, zh1, H⟩ := bind_some H
  have zk1 := pack_ReadInt_pc zh1
  refine a_regK _ rfl ?_
  refine sA_n ?_
  refine a_srC _ rfl ?_
  refine a_srC _ rfl ?_
  refine a_ret ?_
  obtain rfl := Option.some.inj H
  refine eR_r ?_
  exact wk_lnA 1 [(some 0, ⟨196, 2, false, [Reader195.c (⟨(⟨r2.2.1⟩ : Rest), r2.2.2⟩ : Reader195)]⟩)] [] (L := [(2, .int .i64 r2.1)]) (fun t0 => ⟨RS2, RJ⟩)
def pack_reader_count_J1 (r2 : Int × Reader195) (e1 : Int) : Option (Int × Reader195) :=
 some (0, (⟨(⟨r2.2.rest.b⟩ : Rest), e1⟩ : Reader195))
def pack_reader_count_f (r1 : Reader195) : Option (Int × Reader195) :=
 (pack_reader_num_f (⟨(⟨r1.rest.b⟩ : Rest), r1.e⟩ : Reader195)).bind fun r2 => cond (r2.2.e != 0) (some (0, (⟨(⟨r2.2.rest.b⟩ : Rest), r2.2.e⟩ : Reader195))) (cond (decide (r2.1 < 0)) (pack_reader_count_J1 r2 11) (cond (decide ((r2.2.rest.b.length : Int) < r2.1)) (pack_reader_count_J1 r2 10) (some (r2.1, (⟨(⟨r2.2.rest.b⟩ : Rest), r2.2.e⟩ : Reader195)))))
theorem pack_reader_count_rc {r1 : Reader195} {r : Int × Reader195} (H : pack_reader_count_f r1 = some r) : RC Tryz.prog 135 [.ptr 0 0 0 2] [⟨196, 2, false, [Reader195.c r1]⟩] 1 (.int .i64 r.1) [some ⟨196, 2, false, [Reader195.c r.2]⟩] := by
 refine rcA_of Tryz.func135 (by rfl) (by decide) 31 (by rfl) [.tmp 2] (by rfl) ?_
 unfold pack_reader_count_f at H
 simp only [hent, List.length_cons, List.length_nil, reduceAdd]
 refine a_srC _ rfl ?_
 refine a_seq ?_
 obtain ⟨r2, zh1, H⟩ := bind_some H
 have zk1 := pack_reader_num_rc zh1
 refine a_reg _ rfl (s := ?zs2) ?_ ?_
 rotate_left
 ·try refine goS ?_
  repeat' with_reducible apply And.intro
  all_goals try ((with_reducible show CallR _ _ _ _ _ _ _); refine callR_rcw (r' := .int .i64 r2.1) [(0, none), (0, some ⟨196, 2, false, [Reader195.c r2.2]⟩)] [(some 0, _)] [] [(0, 0, _)] EQA zk1 (by simp) ND ZZ ZZ ND ND ZZ ZZ ?_; refine goS ?_)
  all_goals ((repeat' apply And.intro) <;> first|rfl|assumption|omega|(simp;done)|(simp;omega)|(simp_all;done))
 refine sA_n ?_
 refine a_cut (fun s => ∃ (e1 : Int) (t0 : Nat → Dat), pack_reader_count_J1 r2 e1 = some r ∧ s = ⟨tl t0 [], hl [⟨196, 2, false, [[.list 1 (r2.2.rest.b.map (ci .u8)), .int .i64 e1]]⟩], 1, 31⟩) ?_ ?_
 ·refine a_blk ?_
  refine a_srC _ rfl ?_
  refine a_cnd H (fun zc1 H => ?_) (fun zc1 H => ?_)
  ·refine a_srC _ rfl ?_
   refine a_ret ?_
   refine bA_r ?_
   refine cA_r ?_
   obtain rfl := Option.some.inj H
   refine eR_r ?_
   exact wk_lnA 1 [(some 0, ⟨196, 2, false, [Reader195.c (⟨(⟨r2.2.rest.b⟩ : Rest), r2.2.e⟩ : Reader195)]⟩)] [] (L := [(2, .int .i64 0)]) (fun t0 => ⟨RS2, RJ⟩)
  ·refine a_srC _ rfl ?_
   refine a_cnd H (fun zc2 H => ?_) (fun zc2 H => ?_)
   ·refine a_regC _ rfl ?_
    refine bA_n ?_
    refine cA_n ?_
    exact wk_lnA 1 [(some 0, _)] [] (fun t0 => ⟨11, t0, H, rfl⟩)
   ·refine a_srC _ rfl ?_
    refine a_cnd H (fun zc3 H => ?_) (fun zc3 H => ?_)
    ·refine a_regC _ rfl ?_
     refine bA_n ?_
     refine cA_n ?_
     exact wk_lnA 1 [(some 0, _)] [] (fun t0 => ⟨10, t0, H, rfl⟩)
    ·refine a_srC _ rfl ?_
     refine a_ret ?_
     refine bA_r ?_
     refine cA_r ?_
     obtain rfl := Option.some.inj H
     refine eR_r ?_
     exact wk_lnA 1 [(some 0, ⟨196, 2, false, [Reader195.c (⟨(⟨r2.2.rest.b⟩ : Rest), r2.2.e⟩ : Reader195)]⟩)] [] (L := [(2, .int .i64 r2.1)]) (fun t0 => ⟨RS2, RJ⟩)
 ·rintro s ⟨e1, t0, H, rfl⟩
  unfold pack_reader_count_J1 at H
  refine a_srC _ rfl ?_
  refine a_ret ?_
  obtain rfl := Option.some.inj H
  refine eR_r ?_
  exact wk_lnA 1 [(some 0, ⟨196, 2, false, [Reader195.c (⟨(⟨r2.2.rest.b⟩ : Rest), e1⟩ : Reader195)]⟩)] [] (L := [(2, .int .i64 0)]) (fun t0 => ⟨RS2, RJ⟩)
def pack_rest_take_f (r1 : Reader195) (n1 : Int) : Option ((List Int) × Reader195) :=
 chk (0 ≤ 0 ∧ 0 ≤ n1 ∧ n1 ≤ (r1.rest.b.length : Int)) (chk (0 ≤ n1 ∧ n1 ≤ (r1.rest.b.length : Int) ∧ (r1.rest.b.length : Int) ≤ (r1.rest.b.length : Int)) (some (((r1.rest.b.take n1.toNat).drop 0), (⟨(⟨(r1.rest.b.drop n1.toNat)⟩ : Rest), r1.e⟩ : Reader195))))
theorem pack_rest_take_rc {r1 : Reader195} {n1 : Int} {r : (List Int) × Reader195} (H : pack_rest_take_f r1 n1 = some r) : RC Tryz.prog 159 [.ptr 0 0 0 2, .int .i64 n1] [⟨196, 2, false, [Reader195.c r1]⟩] 1 (.list 1 (r.1.map (ci .u8))) [some ⟨196, 2, false, [Reader195.c r.2]⟩] := by
 refine rcA_of Tryz.func159 (by rfl) (by decide) 22 (by rfl) [.tmp 4] (by rfl) ?_
 unfold pack_rest_take_f at H
 simp only [hent, List.length_cons, List.length_nil, reduceAdd]
 refine a_srC _ rfl ?_
 refine a_seq ?_
 obtain ⟨zh1, H⟩ := chk_some H
 refine a_regC _ rfl ?_
 refine sA_n ?_
 refine a_seq ?_
 obtain ⟨zh2, H⟩ := chk_some H
 refine a_reg _ rfl (s := ?zs3) ?_ ?_
 rotate_left
 ·simp only [EVT, stepR, evOp, St.ev, St.app, St.put, wrs, evFieldAddr, evLoad, cut, evSlice, sliceOk, sl_if0, sl_if1, sl_if2, sl_if3, tk_map, dp_map, evStore, setR, allOne, TIS, CS, reduceAdd, reduceMul, reduceEqDiff, ↓reduceIte, reduceCtorEq, reduceLT, reduceLeDiff, Int.reduceToNat, reduceSub, Nat.reduceBEq]
  (repeat' apply And.intro) <;> first | rfl | assumption | omega | (left; omega) | (simp; done) | (simp; omega) | (right; exact ⟨_, rfl, rfl, rfl, by decide, by first | omega | (simp; omega)⟩) | (simp_all; done)
 refine sA_n ?_
 refine a_seq ?_
 refine a_reg _ rfl (s := ?zs4) ?_ ?_
 rotate_left
 ·simp only [EVT, stepR, evOp, St.ev, St.app, St.put, wrs, TIS, CS, reduceAdd, reduceMul, reduceEqDiff, ↓reduceIte, reduceCtorEq, reduceLT, reduceLeDiff]
  (repeat' apply And.intro) <;> first|rfl|assumption|omega|(simp;done)|(simp;omega)|(simp_all;done)
 refine sA_n ?_
 refine a_ret ?_
 obtain rfl := Option.some.inj H
 refine eR_r ?_
 refine wk_ln 1 [(some 0, ⟨196, 2, false, [Reader195.c (⟨(⟨(r1.rest.b.drop n1.toNat)⟩ : Rest), r1.e⟩ : Reader195)]⟩)] [] [(4, .list 1 (((r1.rest.b.take n1.toNat).drop 0).map (ci .u8)))] LW ND ND ?_ ?_ (fun t0 => ⟨RS2, RJ⟩)
 ·exact (allB_some (by rfl) rfl (.cons (.cons (.lst _ _ _ (ci_pu .u8) rfl) (.cons (.int' rfl) .nil)) .nil) trivial)
 ·(simp only [AllT, ATT, reduceEqDiff, ↓reduceIte, and_true]); exact (.lst _ _ _ (ci_pu .u8) rfl)
def pack_reader_str_f (r1 : Reader195) : Option (ByteArray × Reader195) :=
 (pack_reader_count_f (⟨(⟨r1.rest.b⟩ : Rest), r1.e⟩ : Reader195)).bind fun r2 => cond (r2.2.e != 0) (some ((⟨#[]⟩ : ByteArray), (⟨(⟨r2.2.rest.b⟩ : Rest), r2.2.e⟩ : Reader195))) ((pack_rest_take_f (⟨(⟨r2.2.rest.b⟩ : Rest), r2.2.e⟩ : Reader195) r2.1).bind fun r3 => some ((strOfNums r3.1), (⟨(⟨r3.2.rest.b⟩ : Rest), r3.2.e⟩ : Reader195)))
theorem pack_reader_str_rc {r1 : Reader195} {r : ByteArray × Reader195} (H : pack_reader_str_f r1 = some r) : RC Tryz.prog 134 [.ptr 0 0 0 2] [⟨196, 2, false, [Reader195.c r1]⟩] 1 (.str r.1) [some ⟨196, 2, false, [Reader195.c r.2]⟩] := by
 refine rcA_of Tryz.func134 (by rfl) (by decide) 17 (by rfl) [.tmp 2] (by rfl) ?_
 unfold pack_reader_str_f at H
 simp only [hent, List.length_cons, List.length_nil, reduceAdd]
 refine a_srC _ rfl ?_
 refine a_seq ?_
 obtain ⟨r2, zh1, H⟩ := bind_some H
 have zk1 := pack_reader_count_rc zh1
 refine a_reg _ rfl (s := ?zs2) ?_ ?_
 rotate_left
 ·try refine goS ?_
  repeat' with_reducible apply And.intro
  all_goals try ((with_reducible show CallR _ _ _ _ _ _ _); refine callR_rcw (r' := .int .i64 r2.1) [(0, none), (0, some ⟨196, 2, false, [Reader195.c r2.2]⟩)] [(some 0, _)] [] [(0, 0, _)] EQA zk1 (by simp) ND ZZ ZZ ND ND ZZ ZZ ?_; refine goS ?_)
  all_goals ((repeat' apply And.intro) <;> first|rfl|assumption|omega|(simp;done)|(simp;omega)|(simp_all;done))
 refine sA_n ?_
 refine a_seq ?_
 refine a_srC _ rfl ?_
 refine a_cnd H (fun zc1 H => ?_) (fun zc1 H => ?_)
 ·refine a_srC _ rfl ?_
  refine a_ret ?_
  refine sA_r ?_
  obtain rfl := Option.some.inj H
  refine eR_r ?_
  exact wk_lnA 1 [(some 0, ⟨196, 2, false, [Reader195.c (⟨(⟨r2.2.rest.b⟩ : Rest), r2.2.e⟩ : Reader195)]⟩)] [] (L := [(2, .str (⟨#[]⟩ : ByteArray))]) (fun t0 => ⟨RS2, RJ⟩)
 ·refine a_skip ?_
  refine sA_n ?_
  refine a_seq ?_
  obtain ⟨r3, zh2, H⟩ := bind_some H
  have zk2 := pack_rest_take_rc zh2
  refine a_reg _ rfl (s := ?zs5) ?_ ?_
  rotate_left
  ·try refine goS ?_
   repeat' with_reducible apply And.intro
   all_goals try ((with_reducible show CallR _ _ _ _ _ _ _); refine callR_rcw (r' := .list 1 (r3.1.map (ci .u8))) [(0, none), (0, some ⟨196, 2, false, [Reader195.c r3.2]⟩)] [(some 0, _)] [] [(0, 0, _)] EQA zk2 (by simp) ND ZZ ZZ ND ND ZZ ZZ ?_; refine goS ?_)
   all_goals ((repeat' apply And.intro) <;> first|rfl|assumption|omega|(simp;done)|(simp;omega)|(simp_all;done))
  refine sA_n ?_
  refine a_ret ?_
  obtain rfl := Option.some.inj H
  refine eR_r ?_
  exact wk_lnA 1 [(some 0, ⟨196, 2, false, [Reader195.c (⟨(⟨r3.2.rest.b⟩ : Rest), r3.2.e⟩ : Reader195)]⟩)] [] (L := [(2, .str (strOfNums r3.1))]) (fun t0 => ⟨RS2, RJ⟩)
def pack_ReadStr_f (b1 : List Int) : Option (ByteArray × (List Int) × Int) :=
 (pack_reader_str_f (⟨(⟨b1⟩ : Rest), 0⟩ : Reader195)).bind fun r1 => cond (r1.2.e != 0) (some ((⟨#[]⟩ : ByteArray), [], r1.2.e)) (some (r1.1, r1.2.rest.b, 0))
theorem pack_ReadStr_pc {b1 : List Int} {r : ByteArray × (List Int) × Int} (H : pack_ReadStr_f b1 = some r) : PC Tryz.prog 91 [.list 1 (b1.map (ci .u8))] (.tup [.str r.1, .list 1 (r.2.1.map (ci .u8)), .int .i64 r.2.2]) := by
 refine pcA_of Tryz.func91 (by rfl) (by decide) 28 (by rfl) [.tmp 2, .tmp 3, .tmp 4] (by rfl) ?_
 unfold pack_ReadStr_f at H
 simp only [ent]
 refine a_srC _ rfl ?_
 refine a_srC _ rfl ?_
 refine a_seq ?_
 obtain ⟨r1, zh1, H⟩ := bind_some H
 have zk1 := pack_reader_str_rc zh1
 refine a_reg _ rfl (s := ?zs3) ?_ ?_
 rotate_left
 ·try refine goS ?_
  repeat' with_reducible apply And.intro
  all_goals try ((with_reducible show CallR _ _ _ _ _ _ _); refine callR_rcw (r' := .str r1.1) [(27, none), (27, some ⟨196, 2, false, [Reader195.c r1.2]⟩)] [(some 27, _)] [] [(27, 0, _)] EQA zk1 (by simp) ND ZZ ZZ ND ND ZZ ZZ ?_; refine goS ?_)
  all_goals ((repeat' apply And.intro) <;> first|rfl|assumption|omega|(simp;done)|(simp;omega)|(simp_all;done))
 refine sA_n ?_
 refine a_seq ?_
 refine a_srC _ rfl ?_
 refine a_cnd H (fun zc1 H => ?_) (fun zc1 H => ?_)
 ·refine a_seq ?_
  refine a_drW (by kernel_rfl) _ rfl (s := ?zs5) (by kernel_rfl) (by kernel_rfl) ?zs5f ?_ ?_ ?_
  rotate_left 2
  ·refine goS ?_
   exact CLS
  ·kernel_rfl
  refine sA_n ?_
  exact a_ret (sA_r RT)
 ·refine a_skip ?_
  refine sA_n ?_
  refine a_seq ?_
  refine a_drW (by kernel_rfl) _ rfl (s := ?zs6) (by kernel_rfl) (by kernel_rfl) ?zs6f ?_ ?_ ?_
  rotate_left 2
  ·refine goS ?_
   exact CLS
  ·kernel_rfl
  refine sA_n ?_
  refine a_ret ?_
  obtain rfl := Option.some.inj H
  refine e_r2 (d := ?zd2) ?_ ?_
  rotate_left
  ·simp only [EVT, resR, single, evLoad, cut, TIS, CS, reduceAdd, reduceEqDiff, ↓reduceIte, reduceCtorEq, reduceLT, reduceLeDiff, reduceSub, Nat.reduceBEq, zc1]
   (repeat' apply And.intro) <;> first | rfl | assumption | omega | (simp; done)
  exact ZZ
def chunk_take_92_J1 (r1 : Reader) (r2 : (List Int) × (List Int) × Int) (v1 : Bool) : Option ((List Int) × Reader) :=
 cond v1 (some ([], (⟨r1.b, true⟩ : Reader))) (some (r2.1, (⟨r2.2.1, r1.bad⟩ : Reader)))
def chunk_take_92_f (r1 : Reader) (read1 : (List Int) → Option ((List Int) × (List Int) × Int)) : Option ((List Int) × Reader) :=
 (read1 r1.b).bind fun r2 => chunk_take_92_J1 r1 r2 (r1.bad || (r2.2.2 != 0))
theorem chunk_take_92_rc {r1 : Reader} {read1 : (List Int) → Option ((List Int) × (List Int) × Int)} {read1_F : FuncId} {read1_caps : List Dat} (read1_hp : ∀ (x0_ : List Int) (r : (List Int) × (List Int) × Int), read1 x0_ = some r → PC Tryz.prog read1_F (.list 1 (x0_.map (ci .u8)) :: read1_caps) (.tup [.list 1 (r.1.map (ci .i64)), .list 1 (r.2.1.map (ci .u8)), .int .i64 r.2.2])) (read1_pu : Pus read1_caps) {r : (List Int) × Reader} (H : chunk_take_92_f r1 read1 = some r) : RC Tryz.prog 92 [.ptr 0 0 0 2, .fn (.func read1_F) [] read1_caps] [⟨99, 2, false, [Reader.c r1]⟩] 1 (.list 1 (r.1.map (ci .i64))) [some ⟨99, 2, false, [Reader.c r.2]⟩] := by
 refine rcA_of Tryz.func92 (by rfl) (by decide) 36 (by rfl) [.tmp 4] (by rfl) ?_
 unfold chunk_take_92_f at H
 simp only [hent, List.length_cons, List.length_nil, reduceAdd]
 refine a_srC _ rfl ?_
 refine a_seq ?_
 obtain ⟨r2, zh1, H⟩ := bind_some H
 have zk1 := read1_hp _ _ zh1
 refine a_reg _ rfl (s := ?zs2) ?_ ?_
 rotate_left
 ·try refine goS ?_
  repeat' with_reducible apply And.intro
  all_goals try ((with_reducible show CallR _ _ _ _ _ _ _); refine cR_p zk1 (.cons (.lst _ _ _ (ci_pu .u8) rfl) (Pus.purRs read1_pu)) ?_; refine goS ?_)
  all_goals ((repeat' apply And.intro) <;> first|rfl|assumption|omega|(simp;done)|(simp;omega)|(simp_all;done))
 refine sA_n ?_
 refine a_seq ?_
 refine a_cut (fun s => ∃ (v1 : Bool) (t0 : Nat → Dat), chunk_take_92_J1 r1 r2 v1 = some r ∧ s = ⟨tl t0 [(0, .ptr 0 0 0 2), (5, .list 1 (r2.1.map (ci .i64))), (6, .list 1 (r2.2.1.map (ci .u8))), (26, .bool v1)], hl [⟨99, 2, false, [Reader.c r1]⟩], 1, 36⟩) ?_ ?_
 ·refine bool_split (b := r1.bad) (fun zc2 => ?_) (fun zc2 => ?_)
  ·rw [zc2] at H
   refine a_regC _ rfl ?_
   refine cA_n ?_
   exact wk_lnA 1 [(some 0, _)] [] (fun t0 => ⟨true, t0, H, rfl⟩)
  ·rw [zc2] at H
   refine a_regC _ rfl ?_
   refine cA_n ?_
   exact wk_lnA 1 [(some 0, _)] [] (fun t0 => ⟨(r2.2.2 != 0), t0, H, rfl⟩)
 ·rintro s ⟨v1, t0, H, rfl⟩
  unfold chunk_take_92_J1 at H
  refine a_cnd H (fun zc1 H => ?_) (fun zc1 H => ?_)
  ·refine a_srC _ rfl ?_
   refine a_srC _ rfl ?_
   refine a_srC _ rfl ?_
   refine a_ret ?_
   refine sA_r ?_
   obtain rfl := Option.some.inj H
   refine eR_r ?_
   exact wk_lnA 1 [(some 0, ⟨99, 2, false, [Reader.c (⟨r1.b, true⟩ : Reader)]⟩)] [] (L := [(4, .list 1 ([].map (ci .i64)))]) (fun t0 => ⟨RS2, RJ⟩)
  ·refine a_skip ?_
   refine sA_n ?_
   refine a_srC _ rfl ?_
   refine a_srC _ rfl ?_
   refine a_ret ?_
   obtain rfl := Option.some.inj H
   refine eR_r ?_
   exact wk_lnA 1 [(some 0, ⟨99, 2, false, [Reader.c (⟨r2.2.1, r1.bad⟩ : Reader)]⟩)] [] (L := [(4, .list 1 (r2.1.map (ci .i64)))]) (fun t0 => ⟨RS2, RJ⟩)
def pack_ReadInts_J1 (r1 : Reader195) (out1 : List Int) : Option ((List Int) × (List Int) × Int) :=
 cond (r1.e != 0) (some ([], [], r1.e)) (some (out1, r1.rest.b, 0))
def pack_ReadInts_L1 (r2 : Int × Reader195) : Nat → Reader195 → (List Int) → Int → Option ((List Int) × (List Int) × Int)
 | 0, _, _, _ => none
 | m_ + 1, r3, out2, v1 => cond (decide (v1 < r2.1)) ((pack_reader_num_f (⟨(⟨r3.rest.b⟩ : Rest), r3.e⟩ : Reader195)).bind fun r4 => chk ((out2.length + 1) * 8 ≤ 140737488355328) (cond (r4.2.e != 0) (pack_ReadInts_J1 (⟨(⟨r4.2.rest.b⟩ : Rest), r4.2.e⟩ : Reader195) (out2 ++ [r4.1])) (pack_ReadInts_L1 r2 m_ (⟨(⟨r4.2.rest.b⟩ : Rest), r4.2.e⟩ : Reader195) (out2 ++ [r4.1]) (IntKind.wrap .i64 (v1 + 1))))) (pack_ReadInts_J1 (⟨(⟨r3.rest.b⟩ : Rest), r3.e⟩ : Reader195) out2)
def pack_ReadInts_f (b1 : List Int) : Option ((List Int) × (List Int) × Int) :=
 (pack_reader_count_f (⟨(⟨b1⟩ : Rest), 0⟩ : Reader195)).bind fun r2 => pack_ReadInts_L1 r2 BIG (⟨(⟨r2.2.rest.b⟩ : Rest), r2.2.e⟩ : Reader195) [] 0
theorem pack_ReadInts_pc {b1 : List Int} {r : (List Int) × (List Int) × Int} (H : pack_ReadInts_f b1 = some r) : PC Tryz.prog 93 [.list 1 (b1.map (ci .u8))] (.tup [.list 1 (r.1.map (ci .i64)), .list 1 (r.2.1.map (ci .u8)), .int .i64 r.2.2]) := by
 refine pcA_of Tryz.func93 (by rfl) (by decide) 41 (by rfl) [.tmp 2, .tmp 3, .tmp 4] (by rfl) ?_
 unfold pack_ReadInts_f at H
 simp only [ent]
 refine a_srC _ rfl ?_
 refine a_srC _ rfl ?_
 refine a_srC _ rfl ?_
 refine a_cut (fun s => ∃ (r1 : Reader195) (out1 : List Int) (t0 : Nat → Dat), pack_ReadInts_J1 r1 out1 = some r ∧ s = ⟨tl t0 [(5, .ptr 0 0 0 2), (6, .ref 1 0 out1.length 1)], hl [⟨196, 2, false, [Reader195.c r1]⟩, ⟨3, 1, false, out1.map (ci .i64)⟩], 2, 41⟩) ?_ ?_
 ·refine a_seq ?_
  obtain ⟨r2, zh1, H⟩ := bind_some H
  have zk1 := pack_reader_count_rc zh1
  refine a_reg _ rfl (s := ?zs7) ?_ ?_
  rotate_left
  ·try refine goS ?_
   repeat' with_reducible apply And.intro
   all_goals try ((with_reducible show CallR _ _ _ _ _ _ _); refine callR_rcw (r' := .int .i64 r2.1) [(27, none), (27, some ⟨196, 2, false, [Reader195.c r2.2]⟩)] [(some 27, _)] [] [(27, 0, _)] EQA zk1 (by simp) ND ZZ ZZ ND ND ZZ ZZ ?_; refine goS ?_)
   all_goals ((repeat' apply And.intro) <;> first|rfl|assumption|omega|(simp;done)|(simp;omega)|(simp_all;done))
  refine sA_n ?_
  refine a_blk ?_
  refine a_loop (fun m s => ∃ (r3 : Reader195) (out2 : List Int) (v1 : Int) (t0 : Nat → Dat), pack_ReadInts_L1 r2 m r3 out2 v1 = some r ∧ s = ⟨tl t0 [(5, .ptr 0 0 0 2), (6, .ref 1 0 out2.length 1), (12, .int .i64 r2.1), (13, .int .i64 v1)], hl [⟨196, 2, false, [Reader195.c r3]⟩, ⟨3, 1, false, out2.map (ci .i64)⟩], 2, 41⟩) BIG ?_ ?_
  ·exact wk_lA [(some 27, _), (none, _)] [] (fun t0 => ⟨(⟨(⟨r2.2.rest.b⟩ : Rest), r2.2.e⟩ : Reader195), [], 0, t0, H, rfl⟩)
  ·rintro m_pack_ReadInts_L1 s ⟨r3, out2, v1, t0, H, rfl⟩
   obtain _ | m_pack_ReadInts_L1 := m_pack_ReadInts_L1
   ·cases (show (none : Option _) = some _ from H)
   ·rw [pack_ReadInts_L1] at H
    refine a_srC _ rfl ?_
    refine a_seq ?_
    refine a_cnd H (fun zc2 H => ?_) (fun zc2 H => ?_)
    ·refine a_skip ?_
     refine sA_n ?_
     refine a_seq ?_
     refine a_blk ?_
     refine a_seq ?_
     obtain ⟨r4, zh2, H⟩ := bind_some H
     have zk2 := pack_reader_num_rc zh2
     obtain ⟨zh3, H⟩ := chk_some H
     refine a_reg _ rfl (s := ?zs9) ?_ ?_
     rotate_left
     ·try refine goS ?_
      repeat' with_reducible apply And.intro
      all_goals try ((with_reducible show CallR _ _ _ _ _ _ _); refine callR_rcw (r' := .int .i64 r4.1) [(0, none), (0, some ⟨196, 2, false, [Reader195.c r4.2]⟩)] [(some 0, _)] [] [(0, 0, _)] EQA zk2 (by simp) ND ZZ ZZ ND ND ZZ ZZ ?_; refine goS ?_)
      all_goals ((repeat' apply And.intro) <;> first|rfl|assumption|omega|(simp;done)|(simp;omega)|(simp_all;done))
     refine sA_n ?_
     refine a_srC _ rfl ?_
     refine a_cnd H (fun zc3 H => ?_) (fun zc3 H => ?_)
     ·refine a_exit ?_
      refine bA_e (by decide) ?_
      refine sA_e ?_
      refine lA_e ?_
      refine bA_hit ?_
      refine cA_n ?_
      exact wk_lA [(some 0, _), (some 14, _)] [] (fun t0 => ⟨(⟨(⟨r4.2.rest.b⟩ : Rest), r4.2.e⟩ : Reader195), (out2 ++ [r4.1]), t0, H, rfl⟩)
     ·refine a_skip ?_
      refine bA_n ?_
      refine sA_n ?_
      refine a_regC _ rfl ?_
      refine lA_n ?_
      exact wk_lA [(some 0, _), (some 14, _)] [] (fun t0 => ⟨_, Nat.lt_succ_self _, (⟨(⟨r4.2.rest.b⟩ : Rest), r4.2.e⟩ : Reader195), (out2 ++ [r4.1]), (IntKind.wrap .i64 (v1 + 1)), t0, H, rfl⟩)
    ·refine a_exit ?_
     refine sA_e ?_
     refine lA_e ?_
     refine bA_hit ?_
     refine cA_n ?_
     exact wk_lA [(some 0, _), (some 1, _)] [] (fun t0 => ⟨(⟨(⟨r3.rest.b⟩ : Rest), r3.e⟩ : Reader195), out2, t0, H, rfl⟩)
 ·rintro s ⟨r1, out1, t0, H, rfl⟩
  unfold pack_ReadInts_J1 at H
  refine a_seq ?_
  refine a_srC _ rfl ?_
  refine a_cnd H (fun zc1 H => ?_) (fun zc1 H => ?_)
  ·refine a_seq ?_
   refine a_drW (by kernel_rfl) _ rfl (s := ?zs5) (by kernel_rfl) (by kernel_rfl) ?zs5f ?_ ?_ ?_
   rotate_left 2
   ·refine goS ?_
    exact CLS
   ·kernel_rfl
   refine sA_n ?_
   exact a_ret (sA_r RT)
  ·refine a_skip ?_
   refine sA_n ?_
   refine a_seq ?_
   refine a_drW (by kernel_rfl) _ rfl (s := ?zs6) (by kernel_rfl) (by kernel_rfl) ?zs6f ?_ ?_ ?_
   rotate_left 2
   ·refine goS ?_
    exact CLS
   ·kernel_rfl
   refine sA_n ?_
   refine a_ret ?_
   obtain rfl := Option.some.inj H
   refine e_r2 (d := ?zd2) ?_ ?_
   rotate_left
   ·simp only [EVT, resR, single, evLoad, cut, TIS, CS, reduceAdd, reduceEqDiff, ↓reduceIte, reduceCtorEq, reduceLT, reduceLeDiff, reduceSub, Nat.reduceBEq, zc1]
    (repeat' apply And.intro) <;> first | rfl | assumption | omega | (simp; done)
   exact ZZ
def chunk_reader_copy_f (r1 : Reader) : Option (Copy × Bool × Reader) :=
 (chunk_reader_int_f r1).bind fun r2 => (chunk_reader_int_f r2.2).bind fun r3 => (chunk_take_f r3.2 pack_ReadStr_f).bind fun r4 => chk (r4.1.size ≤ 140737488355328) ((chunk_take_92_f r4.2 pack_ReadInts_f).bind fun r5 => cond (!r5.2.bad) (some ((⟨r2.1, r3.1, (strBytes r4.1), r5.1⟩ : Copy), ((r5.2.b.length : Int) == 0), r5.2)) (some ((⟨r2.1, r3.1, (strBytes r4.1), r5.1⟩ : Copy), false, r5.2)))
theorem chunk_reader_copy_rc {r1 : Reader} {r : Copy × Bool × Reader} (H : chunk_reader_copy_f r1 = some r) : RC Tryz.prog 43 [.ptr 0 0 0 2] [⟨99, 2, false, [Reader.c r1]⟩] 1 (.tup [.agg (Copy.c r.1), .bool r.2.1]) [some ⟨99, 2, false, [Reader.c r.2.2]⟩] := by
 refine rcA_of Tryz.func43 (by rfl) (by decide) 34 (by rfl) [.cell 2 39, .tmp 3] (by rfl) ?_
 unfold chunk_reader_copy_f at H
 simp only [hent, List.length_cons, List.length_nil, reduceAdd]
 refine a_srC _ rfl ?_
 refine a_srC _ rfl ?_
 refine a_seq ?_
 obtain ⟨r2, zh1, H⟩ := bind_some H
 have zk1 := chunk_reader_int_rc zh1
 obtain ⟨r3, zh2, H⟩ := bind_some H
 have zk2 := chunk_reader_int_rc zh2
 refine a_reg _ rfl (s := ?zs3) ?_ ?_
 rotate_left
 ·try refine goS ?_
  repeat' with_reducible apply And.intro
  all_goals try ((with_reducible show CallR _ _ _ _ _ _ _); refine callR_rcw (r' := .int .i64 r2.1) [(0, none), (0, some ⟨99, 2, false, [Reader.c r2.2]⟩)] [(some 0, _)] [] [(0, 0, _)] EQA zk1 (by simp) ND ZZ ZZ ND ND ZZ ZZ ?_; refine goS ?_)
  repeat' with_reducible apply And.intro
  all_goals try ((with_reducible show CallR _ _ _ _ _ _ _); refine callR_rcw (r' := .int .i64 r3.1) [(0, none), (0, some ⟨99, 2, false, [Reader.c r3.2]⟩)] [(some 0, _)] [] [(0, 0, _)] EQA zk2 (by simp) ND ZZ ZZ ND ND ZZ ZZ ?_; refine goS ?_)
  all_goals ((repeat' apply And.intro) <;> first|rfl|assumption|omega|(simp;done)|(simp;omega)|(simp_all;done))
 refine sA_n ?_
 refine a_seq ?_
 obtain ⟨r4, zh3, H⟩ := bind_some H
 have zk3 := chunk_take_rc (read1 := pack_ReadStr_f) (read1_F := 91) (read1_caps := []) (fun _ _ h => pack_ReadStr_pc h) .nil zh3
 obtain ⟨zh4, H⟩ := chk_some H
 refine a_reg _ rfl (s := ?zs4) ?_ ?_
 rotate_left
 ·try refine goS ?_
  repeat' with_reducible apply And.intro
  all_goals try ((with_reducible show CallR _ _ _ _ _ _ _); refine callR_rcw (r' := .str r4.1) [(0, none), (0, some ⟨99, 2, false, [Reader.c r4.2]⟩)] [(some 0, _)] [] [(0, 0, _)] EQA zk3 (by simp) ND ZZ ZZ ND ND ZZ ZZ ?_; refine goS ?_)
  repeat' with_reducible apply And.intro
  all_goals try ((with_reducible show OthR _ _ _ _ _); refine oth_strbytes rfl rfl Tryz.underlying9 Tryz.underlying22 Tryz.underlying5 (by assumption) ?_; refine goS ?_)
  all_goals ((repeat' apply And.intro) <;> first|rfl|assumption|omega|(simp;done)|(simp;omega)|(simp_all;done))
 refine sA_n ?_
 refine a_seq ?_
 obtain ⟨r5, zh5, H⟩ := bind_some H
 have zk4 := chunk_take_92_rc (read1 := pack_ReadInts_f) (read1_F := 93) (read1_caps := []) (fun _ _ h => pack_ReadInts_pc h) .nil zh5
 refine a_reg _ rfl (s := ?zs5) ?_ ?_
 rotate_left
 ·try refine goS ?_
  repeat' with_reducible apply And.intro
  all_goals try ((with_reducible show CallR _ _ _ _ _ _ _); refine callR_rcw (r' := .list 1 (r5.1.map (ci .i64))) [(0, none), (0, some ⟨99, 2, false, [Reader.c r5.2]⟩)] [(some 0, _)] [] [(0, 0, _)] EQA zk4 (by simp) ND ZZ ZZ ND ND ZZ ZZ ?_; refine goS ?_)
  all_goals ((repeat' apply And.intro) <;> first|rfl|assumption|omega|(simp;done)|(simp;omega)|(simp_all;done))
 refine sA_n ?_
 refine a_seq ?_
 refine cnd H (fun zc1 H => ?_) (fun zc1 H => ?_)
 ·refine a_drW (by kernel_rfl) _ rfl (s := ?zs6) (by kernel_rfl) (by kernel_rfl) ?zs6f ?_ ?_ ?_
  rotate_left 2
  ·refine goS ?_
   try refine goS ?_
   exact CLS
  ·kernel_rfl
  refine sA_n ?_
  refine a_ret ?_
  obtain rfl := Option.some.inj H
  refine eR_r ?_
  exact wk_lnA 1 [(some 0, ⟨99, 2, false, [Reader.c r5.2]⟩), (some 1, ⟨39, 4, false, [Copy.c (⟨r2.1, r3.1, (strBytes r4.1), r5.1⟩ : Copy)]⟩)] [] (L := [(2, .ptr 1 0 0 4), (3, .bool ((r5.2.b.length : Int) == 0))]) (fun t0 => ⟨RS2, RJ⟩)
 ·refine a_drW (by kernel_rfl) _ rfl (s := ?zs7) (by kernel_rfl) (by kernel_rfl) ?zs7f ?_ ?_ ?_
  rotate_left 2
  ·refine goS ?_
   try refine goS ?_
   exact CLS
  ·kernel_rfl
  refine sA_n ?_
  refine a_ret ?_
  obtain rfl := Option.some.inj H
  refine eR_r ?_
  exact wk_lnA 1 [(some 0, ⟨99, 2, false, [Reader.c r5.2]⟩), (some 1, ⟨39, 4, false, [Copy.c (⟨r2.1, r3.1, (strBytes r4.1), r5.1⟩ : Copy)]⟩)] [] (L := [(2, .ptr 1 0 0 4), (3, .bool false)]) (fun t0 => ⟨RS2, RJ⟩)
def bytes_Equal_f (a1 : List Int) (b1 : List Int) : Option Bool :=
 some (((strOfNums a1).toList == (strOfNums b1).toList))
theorem bytes_Equal_pc {a1 : List Int} {b1 : List Int} {r : Bool} (H : bytes_Equal_f a1 b1 = some r) : PC Tryz.prog 45 [.list 1 (a1.map (ci .u8)), .list 1 (b1.map (ci .u8))] (.bool r) := by
 refine pcA_of Tryz.func45 (by rfl) (by decide) 10 (by rfl) [.tmp 4] (by rfl) ?_
 unfold bytes_Equal_f at H
 simp only [ent]
 refine a_srC _ rfl ?_
 refine a_srC _ rfl ?_
 exact a_ret RT
def chunk_Get_J1 (r2 : Copy × Bool × Reader) (v1 : Bool) : Option (Copy × Int) :=
 cond v1 (some ((⟨0, 0, [], []⟩ : Copy), 251)) (some (r2.1, 0))
def chunk_Get_f (d1 : Disk) (id1 : Int) : Option (Copy × Int) :=
 (chunk_there_f d1 id1).bind fun r1 => cond (r1.2 != 0) (some ((⟨0, 0, [], []⟩ : Copy), r1.2)) (cond (decide ((r1.1.length : Int) < 4)) (some ((⟨0, 0, [], []⟩ : Copy), 251)) (chk (0 ≤ 0 ∧ 0 ≤ (IntKind.wrap .i64 ((r1.1.length : Int) - 4)) ∧ (IntKind.wrap .i64 ((r1.1.length : Int) - 4)) ≤ (r1.1.length : Int)) ((chunk_reader_copy_f (⟨((r1.1.take (IntKind.wrap .i64 ((r1.1.length : Int) - 4)).toNat).drop 0), false⟩ : Reader)).bind fun r2 => cond (!r2.2.1) (chunk_Get_J1 r2 true) ((chunk_may_f r2.1).bind fun r3 => cond (!r3) (chunk_Get_J1 r2 true) (cond (r2.1.id != id1) (chunk_Get_J1 r2 true) ((chunk_page_f r2.1).bind fun r4 => (bytes_Equal_f r4 r1.1).bind fun r5 => chunk_Get_J1 r2 (!r5)))))))
theorem chunk_Get_pc {d1 : Disk} {id1 : Int} {r : Copy × Int} (H : chunk_Get_f d1 id1 = some r) : PC Tryz.prog 10 [.agg (Disk.c d1), .int .i64 id1] (.tup [.agg (Copy.c r.1), .int .i64 r.2]) := by
 refine pcA_of Tryz.func10 (by rfl) (by decide) 61 (by rfl) [.cell 4 39, .tmp 5] (by rfl) ?_
 unfold chunk_Get_f at H
 simp only [ent]
 refine a_srC _ rfl ?_
 refine a_seq ?_
 obtain ⟨r1, zh1, H⟩ := bind_some H
 have zk1 := chunk_there_pc zh1
 refine a_regK _ rfl ?_
 refine sA_n ?_
 refine a_seq ?_
 refine a_blk ?_
 refine a_srC _ rfl ?_
 refine a_cnd H (fun zc1 H => ?_) (fun zc1 H => ?_)
 ·refine a_srC _ rfl ?_
  exact a_ret (bA_r (sA_r RT))
 ·refine a_seq ?_
  refine a_reg _ rfl (s := ?zs5) ?_ ?_
  rotate_left
  ·refine goZ1 ?_
   (repeat' apply And.intro) <;> first|rfl|assumption|omega|(simp;done)|(simp;omega)|(simp_all;done)
  refine sA_n ?_
  refine a_condb ((decide ((r1.1.length : Int) < 4))) (by rfl) (fun zc2 => ?_) (fun zc2 => ?_)
  ·have H := cond_t zc2 H
   refine a_seq ?_
   refine a_reg _ rfl (s := ?zs6) ?_ ?_
   rotate_left
   ·refine goZ2 ?_
    (repeat' apply And.intro) <;> first|rfl|assumption|omega|(simp;done)|(simp;omega)|(simp_all;done)
   refine sA_n ?_
   refine a_ret ?_
   refine bA_r ?_
   refine sA_r ?_
   obtain rfl := Option.some.inj H
   refine e_r2 (d := ?zd2) ?_ ?_
   rotate_left
   ·simp only [EVT, resR, single, evLoad, cut, TIS, CS, reduceAdd, reduceEqDiff, ↓reduceIte, reduceCtorEq, reduceLT, reduceLeDiff, reduceSub, Nat.reduceBEq, zc1, zc2]
    (repeat' apply And.intro) <;> first | rfl | assumption | omega | (simp; done)
   exact (.tup' (.cons (.agg' (.cons (.int' rfl) (.cons (.int' rfl) (.cons (.nil _) (.cons (.nil _) .nil))))) (.cons (.int' rfl) .nil)))
  ·have H := cond_f zc2 H
   refine a_skip ?_
   refine bA_n ?_
   refine sA_n ?_
   refine a_seq ?_
   obtain ⟨zh2, H⟩ := chk_some H
   refine a_reg _ rfl (s := ?zs7) ?_ ?_
   rotate_left
   ·simp only [EVT, stepR, evOp, St.ev, St.app, St.put, wrs, evBuiltin, datOf, datOf1, evBin, binInt, evSlice, sliceOk, sl_if0, sl_if1, sl_if2, sl_if3, tk_map, dp_map, fillD, setR, allOne, TIS, CS, reduceAdd, reduceMul, reduceEqDiff, ↓reduceIte, reduceCtorEq, reduceLT, reduceLeDiff, Int.reduceToNat, reduceSub, Nat.reduceGT, Nat.reduceBEq, ↓zc1, ↓zc2]
    (repeat' apply And.intro) <;> first | rfl | assumption | omega | (left; omega) | (simp; done) | (simp; omega) | (right; exact ⟨_, rfl, rfl, rfl, by decide, by first | omega | (simp; omega)⟩) | (simp_all; done)
   refine sA_n ?_
   refine a_seq ?_
   obtain ⟨r2, zh3, H⟩ := bind_some H
   have zk2 := chunk_reader_copy_rc zh3
   refine a_reg _ rfl (s := ?zs8) ?_ ?_
   rotate_left
   ·try simp only [EVT, stepR, evOp, St.ev, St.app, St.put, wrs, frz, allOne, evStore, setR, TIS, CS, reduceAdd, reduceMul, reduceEqDiff, ↓reduceIte, reduceCtorEq, reduceLT, reduceLeDiff, reduceSub, Nat.reduceBEq, ↓zc1, ↓zc2]
    repeat' with_reducible apply And.intro
    all_goals try ((with_reducible show CallR _ _ _ _ _ _ _); refine callR_rcw (r' := .tup [.agg [.int .i64 r2.1.id, .int .i64 r2.1.ver, .list 1 (r2.1.data.map (ci .u8)), .list 1 (r2.1.sums.map (ci .i64))], .bool r2.2.1]) [(150, none), (150, some ⟨99, 2, false, [[.list 1 (r2.2.2.b.map (ci .u8)), .bool r2.2.2.bad]]⟩)] [(some 150, ⟨99, 2, false, [Reader.c (⟨((r1.1.take (IntKind.wrap .i64 ((r1.1.length : Int) - 4)).toNat).drop 0), false⟩ : Reader)]⟩)] [] [(150, 0, ⟨99, 2, false, [[.list 1 (r2.2.2.b.map (ci .u8)), .bool r2.2.2.bad]]⟩)] (by first | rfl | (simp only [List.map_set, List.map_append, List.map_cons, List.map_nil]; rfl)) zk2 (by simp) (by show ([150] : List Nat).Nodup; decide) (allB_some (by rfl) rfl (.cons (.cons (.lst _ _ _ (ci_pu .u8) rfl) (.cons (.bool' (by first | rfl | assumption | (simp_all; done))) .nil)) .nil) trivial) (.cons (.ptr _ _ _ _ _ rfl) .nil) (by show ([150] : List Nat).Nodup; decide) (by show ([0] : List Nat).Nodup; decide) ⟨.inl ⟨by decide, rfl⟩, ⟨_, rfl, ⟨rfl, rfl, rfl, rfl⟩, .cons (RNs.pu (Reader.pu _)) .nil⟩, trivial⟩ (.tup' (.cons (.agg' (RNs.pu (Copy.pu _))) (.cons (.bool' rfl) .nil))) ?_; simp only [EVT, stepR, evOp, St.ev, St.app, St.put, wrs, frz, allOne, evStore, setR, TIS, CS, reduceAdd, reduceMul, reduceEqDiff, ↓reduceIte, reduceCtorEq, reduceLT, reduceLeDiff, reduceSub, Nat.reduceBEq, ↓zc1, ↓zc2])
    all_goals ((repeat' apply And.intro) <;> first|rfl|assumption|omega|(simp;done)|(simp;omega)|(simp_all;done))
   refine sA_n ?_
   refine a_seq ?_
   refine a_cut (fun s => ∃ (v1 : Bool) (t0 : Nat → Dat), chunk_Get_J1 r2 v1 = some r ∧ s = ⟨tl t0 [(4, .ptr 0 0 0 4), (9, .ptr 1 0 0 4), (58, .bool v1)], hl [⟨39, 4, false, [[.int .i64 0, .int .i64 0, .nil, .nil]]⟩, ⟨39, 4, false, [[.int .i64 r2.1.id, .int .i64 r2.1.ver, .list 1 (r2.1.data.map (ci .u8)), .list 1 (r2.1.sums.map (ci .i64))]]⟩], 2, 61⟩) ?_ ?_
   ·refine bool_split (b := (!r2.2.1)) (fun zc4 => ?_) (fun zc4 => ?_)
    ·have H := cond_t zc4 H
     refine a_reg _ rfl (s := ?zs11) ?_ ?_
     rotate_left
     ·simp only [EVT, stepR, evOp, St.ev, St.app, St.put, wrs, evUn, evLoad, cut, frz, datOf, datOf1, evFieldAddr, evBin, binInt, TIS, CS, reduceAdd, reduceMul, reduceEqDiff, ↓reduceIte, reduceCtorEq, reduceLT, reduceLeDiff, Array.reduceGetElem?, reduceSub, Nat.reduceBEq, ↓zc1, ↓zc2, ↓zc4]
      try simp only [EVT, stepR, evOp, St.ev, St.app, St.put, wrs, evUn, evLoad, cut, frz, datOf, datOf1, evFieldAddr, evBin, binInt, TIS, CS, reduceAdd, reduceMul, reduceEqDiff, ↓reduceIte, reduceCtorEq, reduceLT, reduceLeDiff, Array.reduceGetElem?, reduceSub, Nat.reduceBEq, ↓zc1, ↓zc2, ↓zc4]
      (repeat' apply And.intro) <;> first|rfl|assumption|omega|(simp;done)|(simp;omega)|(simp_all;done)
     refine cA_n ?_
     refine wk_l [(some 1, ⟨39, 4, false, [[.int .i64 0, .int .i64 0, .nil, .nil]]⟩), (some 213, ⟨39, 4, false, [[.int .i64 r2.1.id, .int .i64 r2.1.ver, .list 1 (r2.1.data.map (ci .u8)), .list 1 (r2.1.sums.map (ci .i64))]]⟩)] [] [(4, .ptr 0 0 0 4), (9, .ptr 1 0 0 4), (58, .bool true)] (by show ([4, 9, 58] : List Nat).Nodup; decide) (by show ([1, 213] : List Nat).Nodup; decide) ?_ ?_ (fun t0 => ⟨true, t0, H, rfl⟩)
     ·exact (allB_some (by rfl) rfl (.cons (.cons (.int' rfl) (.cons (.int' rfl) (.cons .nil' (.cons .nil' .nil)))) .nil) (allB_some (by rfl) rfl (.cons (.cons (.int' rfl) (.cons (.int' rfl) (.cons (.lst _ _ _ (ci_pu .u8) rfl) (.cons (.lst _ _ _ (ci_pu .i64) rfl) .nil)))) .nil) trivial))
     ·(simp only [AllT, ATT, reduceEqDiff, ↓reduceIte, and_true]); exact ⟨(.ptr _ _ _ _ _ rfl), (.ptr _ _ _ _ _ rfl), (.bool' (by first | rfl | assumption | (simp_all; done)))⟩
    ·have H := cond_f zc4 H
     obtain ⟨r3, zh4, H⟩ := bind_some H
     have zk3 := chunk_may_pc zh4
     refine bool_split (b := (!r3)) (fun zc5 => ?_) (fun zc5 => ?_)
     ·have H := cond_t zc5 H
      refine a_reg _ rfl (s := ?zs12) ?_ ?_
      rotate_left
      ·try simp only [EVT, stepR, evOp, St.ev, St.app, St.put, wrs, evUn, evLoad, cut, frz, datOf, datOf1, evFieldAddr, evBin, binInt, TIS, CS, reduceAdd, reduceMul, reduceEqDiff, ↓reduceIte, reduceCtorEq, reduceLT, reduceLeDiff, Array.reduceGetElem?, reduceSub, Nat.reduceBEq, ↓zc1, ↓zc2, ↓zc4, ↓zc5]
       repeat' with_reducible apply And.intro
       all_goals try ((with_reducible show CallR _ _ _ _ _ _ _); refine cR_s zk3 (.cons (.agg' (.cons (.int' rfl) (.cons (.int' rfl) (.cons (.lst _ _ _ (ci_pu .u8) rfl) (.cons (.lst _ _ _ (ci_pu .i64) rfl) .nil))))) .nil) (.bool _) ?_; simp only [EVT, stepR, evOp, St.ev, St.app, St.put, wrs, evUn, evLoad, cut, frz, datOf, datOf1, evFieldAddr, evBin, binInt, TIS, CS, reduceAdd, reduceMul, reduceEqDiff, ↓reduceIte, reduceCtorEq, reduceLT, reduceLeDiff, Array.reduceGetElem?, reduceSub, Nat.reduceBEq, ↓zc1, ↓zc2, ↓zc4, ↓zc5])
       all_goals ((repeat' apply And.intro) <;> first|rfl|assumption|omega|(simp;done)|(simp;omega)|(simp_all;done))
      refine cA_n ?_
      refine wk_l [(some 1, ⟨39, 4, false, [[.int .i64 0, .int .i64 0, .nil, .nil]]⟩), (some 213, ⟨39, 4, false, [[.int .i64 r2.1.id, .int .i64 r2.1.ver, .list 1 (r2.1.data.map (ci .u8)), .list 1 (r2.1.sums.map (ci .i64))]]⟩)] [] [(4, .ptr 0 0 0 4), (9, .ptr 1 0 0 4), (58, .bool true)] (by show ([4, 9, 58] : List Nat).Nodup; decide) (by show ([1, 213] : List Nat).Nodup; decide) ?_ ?_ (fun t0 => ⟨true, t0, H, rfl⟩)
      ·exact (allB_some (by rfl) rfl (.cons (.cons (.int' rfl) (.cons (.int' rfl) (.cons .nil' (.cons .nil' .nil)))) .nil) (allB_some (by rfl) rfl (.cons (.cons (.int' rfl) (.cons (.int' rfl) (.cons (.lst _ _ _ (ci_pu .u8) rfl) (.cons (.lst _ _ _ (ci_pu .i64) rfl) .nil)))) .nil) trivial))
      ·(simp only [AllT, ATT, reduceEqDiff, ↓reduceIte, and_true]); exact ⟨(.ptr _ _ _ _ _ rfl), (.ptr _ _ _ _ _ rfl), (.bool' (by first | rfl | assumption | (simp_all; done)))⟩
     ·have H := cond_f zc5 H
      refine bool_split (b := (r2.1.id != id1)) (fun zc6 => ?_) (fun zc6 => ?_)
      ·have H := cond_t zc6 H
       refine a_reg _ rfl (s := ?zs13) ?_ ?_
       rotate_left
       ·try simp only [EVT, stepR, evOp, St.ev, St.app, St.put, wrs, evUn, evLoad, cut, frz, datOf, datOf1, evFieldAddr, evBin, binInt, TIS, CS, reduceAdd, reduceMul, reduceEqDiff, ↓reduceIte, reduceCtorEq, reduceLT, reduceLeDiff, Array.reduceGetElem?, reduceSub, Nat.reduceBEq, ↓zc1, ↓zc2, ↓zc4, ↓zc5, ↓zc6]
        repeat' with_reducible apply And.intro
        all_goals try ((with_reducible show CallR _ _ _ _ _ _ _); refine cR_s zk3 (.cons (.agg' (.cons (.int' rfl) (.cons (.int' rfl) (.cons (.lst _ _ _ (ci_pu .u8) rfl) (.cons (.lst _ _ _ (ci_pu .i64) rfl) .nil))))) .nil) (.bool _) ?_; simp only [EVT, stepR, evOp, St.ev, St.app, St.put, wrs, evUn, evLoad, cut, frz, datOf, datOf1, evFieldAddr, evBin, binInt, TIS, CS, reduceAdd, reduceMul, reduceEqDiff, ↓reduceIte, reduceCtorEq, reduceLT, reduceLeDiff, Array.reduceGetElem?, reduceSub, Nat.reduceBEq, ↓zc1, ↓zc2, ↓zc4, ↓zc5, ↓zc6])
        all_goals ((repeat' apply And.intro) <;> first|rfl|assumption|omega|(simp;done)|(simp;omega)|(simp_all;done))
       refine cA_n ?_
       refine wk_l [(some 1, ⟨39, 4, false, [[.int .i64 0, .int .i64 0, .nil, .nil]]⟩), (some 213, ⟨39, 4, false, [[.int .i64 r2.1.id, .int .i64 r2.1.ver, .list 1 (r2.1.data.map (ci .u8)), .list 1 (r2.1.sums.map (ci .i64))]]⟩)] [] [(4, .ptr 0 0 0 4), (9, .ptr 1 0 0 4), (58, .bool true)] (by show ([4, 9, 58] : List Nat).Nodup; decide) (by show ([1, 213] : List Nat).Nodup; decide) ?_ ?_ (fun t0 => ⟨true, t0, H, rfl⟩)
       ·exact (allB_some (by rfl) rfl (.cons (.cons (.int' rfl) (.cons (.int' rfl) (.cons .nil' (.cons .nil' .nil)))) .nil) (allB_some (by rfl) rfl (.cons (.cons (.int' rfl) (.cons (.int' rfl) (.cons (.lst _ _ _ (ci_pu .u8) rfl) (.cons (.lst _ _ _ (ci_pu .i64) rfl) .nil)))) .nil) trivial))
       ·(simp only [AllT, ATT, reduceEqDiff, ↓reduceIte, and_true]); exact ⟨(.ptr _ _ _ _ _ rfl), (.ptr _ _ _ _ _ rfl), (.bool' (by first | rfl | assumption | (simp_all; done)))⟩
      ·have H := cond_f zc6 H
       obtain ⟨r4, zh5, H⟩ := bind_some H
       have zk4 := chunk_page_pc zh5
       obtain ⟨r5, zh6, H⟩ := bind_some H
       have zk5 := bytes_Equal_pc zh6
       refine a_reg _ rfl (s := ?zs14) ?_ ?_
       rotate_left
       ·try simp only [EVT, stepR, evOp, St.ev, St.app, St.put, wrs, evUn, evLoad, cut, frz, datOf, datOf1, evFieldAddr, evBin, binInt, TIS, CS, reduceAdd, reduceMul, reduceEqDiff, ↓reduceIte, reduceCtorEq, reduceLT, reduceLeDiff, Array.reduceGetElem?, reduceSub, Nat.reduceBEq, ↓zc1, ↓zc2, ↓zc4, ↓zc5, ↓zc6]
        repeat' with_reducible apply And.intro
        all_goals try ((with_reducible show CallR _ _ _ _ _ _ _); refine cR_s zk3 (.cons (.agg' (.cons (.int' rfl) (.cons (.int' rfl) (.cons (.lst _ _ _ (ci_pu .u8) rfl) (.cons (.lst _ _ _ (ci_pu .i64) rfl) .nil))))) .nil) (.bool _) ?_; simp only [EVT, stepR, evOp, St.ev, St.app, St.put, wrs, evUn, evLoad, cut, frz, datOf, datOf1, evFieldAddr, evBin, binInt, TIS, CS, reduceAdd, reduceMul, reduceEqDiff, ↓reduceIte, reduceCtorEq, reduceLT, reduceLeDiff, Array.reduceGetElem?, reduceSub, Nat.reduceBEq, ↓zc1, ↓zc2, ↓zc4, ↓zc5, ↓zc6])
        repeat' with_reducible apply And.intro
        all_goals try ((with_reducible show CallR _ _ _ _ _ _ _); refine cR_p zk4 (.cons (.agg' (.cons (.int' rfl) (.cons (.int' rfl) (.cons (.lst _ _ _ (ci_pu .u8) rfl) (.cons (.lst _ _ _ (ci_pu .i64) rfl) .nil))))) .nil) ?_; simp only [EVT, stepR, evOp, St.ev, St.app, St.put, wrs, evUn, evLoad, cut, frz, datOf, datOf1, evFieldAddr, evBin, binInt, TIS, CS, reduceAdd, reduceMul, reduceEqDiff, ↓reduceIte, reduceCtorEq, reduceLT, reduceLeDiff, Array.reduceGetElem?, reduceSub, Nat.reduceBEq, ↓zc1, ↓zc2, ↓zc4, ↓zc5, ↓zc6])
        repeat' with_reducible apply And.intro
        all_goals try ((with_reducible show CallR _ _ _ _ _ _ _); refine cR_s zk5 (.cons (.lst _ _ _ (ci_pu .u8) rfl) (.cons (.lst _ _ _ (ci_pu .u8) rfl) .nil)) (.bool _) ?_; simp only [EVT, stepR, evOp, St.ev, St.app, St.put, wrs, evUn, evLoad, cut, frz, datOf, datOf1, evFieldAddr, evBin, binInt, TIS, CS, reduceAdd, reduceMul, reduceEqDiff, ↓reduceIte, reduceCtorEq, reduceLT, reduceLeDiff, Array.reduceGetElem?, reduceSub, Nat.reduceBEq, ↓zc1, ↓zc2, ↓zc4, ↓zc5, ↓zc6])
        all_goals ((repeat' apply And.intro) <;> first|rfl|assumption|omega|(simp;done)|(simp;omega)|(simp_all;done))
       refine cA_n ?_
       refine wk_l [(some 1, ⟨39, 4, false, [[.int .i64 0, .int .i64 0, .nil, .nil]]⟩), (some 213, ⟨39, 4, false, [[.int .i64 r2.1.id, .int .i64 r2.1.ver, .list 1 (r2.1.data.map (ci .u8)), .list 1 (r2.1.sums.map (ci .i64))]]⟩)] [] [(4, .ptr 0 0 0 4), (9, .ptr 1 0 0 4), (58, .bool (!r5))] (by show ([4, 9, 58] : List Nat).Nodup; decide) (by show ([1, 213] : List Nat).Nodup; decide) ?_ ?_ (fun t0 => ⟨(!r5), t0, H, rfl⟩)
       ·exact (allB_some (by rfl) rfl (.cons (.cons (.int' rfl) (.cons (.int' rfl) (.cons .nil' (.cons .nil' .nil)))) .nil) (allB_some (by rfl) rfl (.cons (.cons (.int' rfl) (.cons (.int' rfl) (.cons (.lst _ _ _ (ci_pu .u8) rfl) (.cons (.lst _ _ _ (ci_pu .i64) rfl) .nil)))) .nil) trivial))
       ·(simp only [AllT, ATT, reduceEqDiff, ↓reduceIte, and_true]); exact ⟨(.ptr _ _ _ _ _ rfl), (.ptr _ _ _ _ _ rfl), (.bool' rfl)⟩
   ·rintro s ⟨v1, t0, H, rfl⟩
    unfold chunk_Get_J1 at H
    refine a_cnd H (fun zc3 H => ?_) (fun zc3 H => ?_)
    ·refine a_srC _ rfl ?_
     refine a_ret ?_
     refine sA_r ?_
     obtain rfl := Option.some.inj H
     refine e_r2 (d := ?zd3) ?_ ?_
     rotate_left
     ·simp only [EVT, resR, single, evLoad, cut, TIS, CS, reduceAdd, reduceEqDiff, ↓reduceIte, reduceCtorEq, reduceLT, reduceLeDiff, reduceSub, Nat.reduceBEq, zc3]
      (repeat' apply And.intro) <;> first | rfl | assumption | omega | (simp; done)
     exact ZZ
    ·refine a_skip ?_
     refine sA_n ?_
     refine a_srC _ rfl ?_
     refine a_ret ?_
     obtain rfl := Option.some.inj H
     refine e_r2 (d := ?zd4) ?_ ?_
     rotate_left
     ·simp only [EVT, resR, single, evLoad, cut, TIS, CS, reduceAdd, reduceEqDiff, ↓reduceIte, reduceCtorEq, reduceLT, reduceLeDiff, reduceSub, Nat.reduceBEq, zc3]
      (repeat' apply And.intro) <;> first | rfl | assumption | omega | (simp; done)
     exact ZZ
end
end Go.Proofs.YtjflkcfafijhfaaGreat
/- Packing, as plain laws (lines of the proofs of layer 1, turned to this seat). -/
set_option linter.unusedSimpArgs false
set_option linter.unusedVariables false
set_option maxRecDepth 4000
namespace Go.Proofs.YtjflkcfafijhfaaGreat
open Go.Ab Go.RowKit
theorem wu8 (x : Int) : IntKind.wrap .u8 x = x % 256 := by simp [IntKind.wrap, IntKind.bits, IntKind.signed]
theorem wu64 (x : Int) : IntKind.wrap .u64 x = x % 18446744073709551616 := by simp [IntKind.wrap, IntKind.bits, IntKind.signed]
theorem wi64 (x : Int) : IntKind.wrap .i64 x = if x % 18446744073709551616 ≥ 9223372036854775808 then x % 18446744073709551616 - 18446744073709551616 else x % 18446744073709551616 := by simp [IntKind.wrap, IntKind.bits, IntKind.signed]
def zz (n : Int) : Nat := if n < 0 then (2 * (-(n + 1)) + 1).toNat else (2 * n).toNat
def zag (u : Nat) : Int := if u % 2 = 1 then -((u / 2 : Nat) : Int) - 1 else ((u / 2 : Nat) : Int)
theorem zz_lt {n : Int} (h : okI .i64 n) : zz n < 18446744073709551616 := by
 simp only [okI] at h; unfold zz; split <;> omega
theorem zz_zag (u : Nat) : zz (zag u) = u := by unfold zag zz; split <;> split <;> omega
theorem zag_ok {u : Nat} (h : u < 18446744073709551616) : okI .i64 (zag u) := by simp only [okI]; unfold zag; split <;> omega
def enc (u : Nat) : List Int := if h : u < 128 then [(u : Int)] else ((128 + u % 128 : Nat) : Int) :: enc (u / 128)
termination_by u
decreasing_by omega
def num (n : Int) : List Int := enc (zz n)
theorem enc_s {u : Nat} (h : u < 128) : enc u = [(u : Int)] := by rw [enc, dif_pos h]
theorem enc_l {u : Nat} (h : ¬ u < 128) : enc u = ((128 + u % 128 : Nat) : Int) :: enc (u / 128) := by rw [enc, dif_neg h]
theorem enc_len : ∀ k u, u < 128 ^ (k + 1) → 1 ≤ (enc u).length ∧ (enc u).length ≤ k + 1 := by
 intro k
 induction k with
 | zero => intro u h; rw [enc_s (by simpa using h)]; simp
 | succ k ih =>
  intro u h
  by_cases hu : u < 128
  ·rw [enc_s hu]; simp
  ·rw [enc_l hu]
   have := ih (u / 128) (by rw [Nat.pow_succ] at h; omega)
   simp; omega
theorem enc_ok : ∀ k u, u < 128 ^ (k + 1) → ∀ x ∈ enc u, okI .u8 x := by
 intro k
 induction k with
 | zero => intro u h x hx; rw [enc_s (by simpa using h)] at hx; have := List.mem_singleton.1 hx; subst this; simp only [okI]; simp at h; omega
 | succ k ih =>
  intro u h x hx
  by_cases hu : u < 128
  ·rw [enc_s hu] at hx; have := List.mem_singleton.1 hx; subst this; simp only [okI]; omega
  ·rw [enc_l hu] at hx
   rcases List.mem_cons.1 hx with e | e
   ·subst e; simp only [okI]; omega
   ·exact ih (u / 128) (by rw [Nat.pow_succ] at h; omega) x e
theorem lt_p {u : Nat} (h : u < 18446744073709551616) : u < 128 ^ (9 + 1) := Nat.lt_of_lt_of_le h (by decide)
theorem num_len {n : Int} (h : okI .i64 n) : 1 ≤ (num n).length ∧ (num n).length ≤ 10 := enc_len 9 _ (lt_p (zz_lt h))
theorem num_ok {n : Int} (h : okI .i64 n) : ∀ x ∈ num n, okI .u8 x := enc_ok 9 _ (lt_p (zz_lt h))
theorem or128 : ∀ a, a < 256 → a ||| 128 = 128 + a % 128 := by decide +kernel
theorem and127 : ∀ a, a < 256 → a &&& 127 = a % 128 := by decide +kernel
theorem or_nat (w a b : Nat) : ((BitVec.ofInt w (a : Int) ||| BitVec.ofInt w (b : Int)).toNat : Nat) = (a % 2 ^ w ||| b % 2 ^ w) := by
 rw [BitVec.ofInt_natCast, BitVec.ofInt_natCast, BitVec.toNat_or, BitVec.toNat_ofNat, BitVec.toNat_ofNat]
theorem and_nat (w a b : Nat) : ((BitVec.ofInt w (a : Int) &&& BitVec.ofInt w (b : Int)).toNat : Nat) = (a % 2 ^ w &&& b % 2 ^ w) := by
 rw [BitVec.ofInt_natCast, BitVec.ofInt_natCast, BitVec.toNat_and, BitVec.toNat_ofNat, BitVec.toNat_ofNat]
theorem byte_or (u : Nat) : IntKind.wrap .u8 (BitVec.ofInt (IntKind.bits .u8) (IntKind.wrap .u8 (u : Int)) ||| BitVec.ofInt (IntKind.bits .u8) 128).toNat = ((128 + u % 128 : Nat) : Int) := by
 have e : IntKind.wrap .u8 (u : Int) = ((u % 256 : Nat) : Int) := by rw [wu8]; omega
 have h := or_nat 8 (u % 256) 128
 have e2 : IntKind.bits .u8 = 8 := rfl
 rw [e, e2]
 have e3 : ((128 : Nat) : Int) = 128 := rfl
 rw [e3] at h
 rw [h, wu8]
 have h3 : u % 256 % 2 ^ 8 = u % 256 := by omega
 have h4 : 128 % 2 ^ 8 = 128 := by decide
 rw [h3, h4, or128 _ (by omega)]; omega
theorem fdiv128 (u : Nat) : Int.fdiv (u : Int) (2 ^ (min 7 (IntKind.bits .u64))) = ((u / 128 : Nat) : Int) := by
 have : (2 : Int) ^ (min 7 (IntKind.bits .u64)) = 128 := by decide
 rw [this, Int.fdiv_eq_ediv_of_nonneg _ (by decide)]; omega
theorem pInt_L : ∀ (k u : Nat), u < 128 ^ (k + 1) → ∀ (m : Nat) (out : List Int), k < m → out.length + k ≤ 1000 → pack_Int_L1 m out (u : Int) = some (out ++ enc u) := by
 intro k
 induction k with
 | zero =>
  intro u h m out hm ho
  obtain ⟨m, rfl⟩ : ∃ m', m = m' + 1 := ⟨m - 1, by omega⟩
  rw [pack_Int_L1, cond_d, if_neg (by simp at h; omega), pack_Int_J1, chk_pos (by omega), enc_s (by simpa using h), wu8]
  congr 3; simp at h; omega
 | succ k ih =>
  intro u h m out hm ho
  obtain ⟨m, rfl⟩ : ∃ m', m = m' + 1 := ⟨m - 1, by omega⟩
  rw [pack_Int_L1, cond_d]
  by_cases hu : u < 128
  ·rw [if_neg (by omega), pack_Int_J1, chk_pos (by omega), enc_s hu, wu8]
   congr 3; omega
  ·rw [if_pos (by omega), chk_pos (by omega), byte_or, fdiv128, ih (u / 128) (by rw [Nat.pow_succ] at h; omega) m _ (by omega) (by simp; omega), enc_l hu]
   simp
theorem xor_nat (w a b : Nat) : ((BitVec.ofInt w (a : Int) ^^^ BitVec.ofInt w (b : Int)).toNat : Nat) = (a % 2 ^ w ^^^ b % 2 ^ w) := by
 rw [BitVec.ofInt_natCast, BitVec.ofInt_natCast, BitVec.toNat_xor, BitVec.toNat_ofNat, BitVec.toNat_ofNat]
theorem xor_all (a : Nat) : ((BitVec.ofInt 64 (a : Int) ^^^ BitVec.ofInt 64 (-1)).toNat : Nat) = 2 ^ 64 - 1 - a % 2 ^ 64 := by
 have : BitVec.ofInt 64 (-1) = BitVec.allOnes 64 := by decide
 rw [this, BitVec.xor_allOnes, BitVec.toNat_not, BitVec.ofInt_natCast, BitVec.toNat_ofNat]
theorem ofInt_mod (w : Nat) (x : Int) : BitVec.ofInt w (x % 2 ^ w) = BitVec.ofInt w x := by
 apply BitVec.eq_of_toNat_eq
 rw [BitVec.toNat_ofInt, BitVec.toNat_ofInt]
 congr 1
 have : ((2 ^ w : Nat) : Int) = (2 : Int) ^ w := by simp
 rw [this, Int.emod_emod_of_dvd _ (Int.dvd_refl _)]
theorem zig_bits {n : Int} (h : okI .i64 n) : (IntKind.wrap .u64 (BitVec.ofInt (IntKind.bits .u64) (IntKind.wrap .u64 ((IntKind.wrap .u64 n) * 2 ^ (min 1 (IntKind.bits .u64)))) ^^^ BitVec.ofInt (IntKind.bits .u64) (IntKind.wrap .u64 (Int.fdiv n (2 ^ (min 63 (IntKind.bits .i64)))))).toNat) = (zz n : Int) := by
 simp only [okI] at h
 have e1 : IntKind.bits .u64 = 64 := rfl
 have e2 : (2 : Int) ^ (min 1 64) = 2 := by decide
 have e3 : (2 : Int) ^ (min 63 (IntKind.bits .i64)) = 9223372036854775808 := by decide
 rw [e1, e2, e3]
 have hA : IntKind.wrap .u64 (IntKind.wrap .u64 n * 2) = (((2 * n) % 18446744073709551616).toNat : Int) := by rw [wu64, wu64]; omega
 obtain ⟨a, ha⟩ : ∃ a : Nat, a = ((2 * n) % 18446744073709551616).toNat := ⟨_, rfl⟩
 rw [hA, ← ha]
 unfold zz
 by_cases hn : n < 0
 ·have hB : IntKind.wrap .u64 (Int.fdiv n 9223372036854775808) = (-1) % 2 ^ 64 := by
   have : Int.fdiv n 9223372036854775808 = -1 := by rw [Int.fdiv_eq_ediv_of_nonneg _ (by decide)]; omega
   rw [this, wu64]; decide
  rw [hB, ofInt_mod, xor_all, if_pos hn, wu64]
  omega
 ·have hB : IntKind.wrap .u64 (Int.fdiv n 9223372036854775808) = ((0 : Nat) : Int) := by
   have : Int.fdiv n 9223372036854775808 = 0 := by rw [Int.fdiv_eq_ediv_of_nonneg _ (by decide)]; omega
   rw [this, wu64]; decide
  rw [hB, xor_nat, if_neg hn, wu64]
  simp only [Nat.zero_mod, Nat.xor_zero]
  omega
theorem pInt_eq {n : Int} (h : okI .i64 n) : pack_Int_f n = some (num n) := by
 unfold pack_Int_f num
 rw [zig_bits h, pInt_L 9 _ (lt_p (zz_lt h)) BIG [] (by rw [BIG_eq]; omega) (by simp), List.nil_append]
inductive R (α : Type) where
 | ok (v : α) (rest : List Int)
 | no (e : Int)
def dU : List Int → Nat → Nat → R Int
 | [], _, _ => .no 10
 | x :: b, i, u => if i = 9 ∧ 1 < x then .no 11 else if 128 ≤ x then dU b (i + 1) (u + (x % 128).toNat * 128 ^ i) else if x = 0 ∧ 0 < i then .no 11 else .ok (zag (u + x.toNat * 128 ^ i)) b
def T3 {α : Type} (d : α) : R α → α × List Int × Int
 | .ok v b => (v, b, 0)
 | .no e => (d, [], e)
theorem pow7 (i : Nat) : 128 ^ i = 2 ^ (7 * i) := by rw [show 128 = 2 ^ 7 by decide, ← Nat.pow_mul]
theorem pow_le9 : ∀ i, i ≤ 9 → (2 : Nat) ^ (7 * i) ≤ 9223372036854775808 := by decide
theorem or_step {u x i : Nat} (hi : i ≤ 9) (hu : u < 128 ^ i) (hx : x < 256) (h9 : i = 9 → x ≤ 1) :
  IntKind.wrap .u64 (BitVec.ofInt (IntKind.bits .u64) (u : Int) ||| BitVec.ofInt (IntKind.bits .u64) (IntKind.wrap .u64 ((IntKind.wrap .u64 (IntKind.wrap .u8 (BitVec.ofInt (IntKind.bits .u8) (x : Int) &&& BitVec.ofInt (IntKind.bits .u8) 127).toNat)) * 2 ^ (min (IntKind.wrap .i64 (7 * (i : Int))).toNat (IntKind.bits .u64))))).toNat = ((u + x % 128 * 128 ^ i : Nat) : Int) := by
 have e1 : IntKind.bits .u64 = 64 := rfl
 have e8 : IntKind.bits .u8 = 8 := rfl
 have h := and_nat 8 x 127
 have e3 : ((127 : Nat) : Int) = 127 := rfl
 rw [e3] at h
 have h3 : x % 2 ^ 8 = x := Nat.mod_eq_of_lt hx
 have h4 : 127 % 2 ^ 8 = 127 := by decide
 rw [h3, h4, and127 _ hx] at h
 have w7 : (IntKind.wrap .i64 (7 * (i : Int))).toNat = 7 * i := by rw [w64 (by omega) (by omega)]; omega
 have wm : min (7 * i) 64 = 7 * i := by omega
 rw [e1, e8, h, w7, wm]
 have hp := pow_le9 i hi
 have hd : x % 128 * 2 ^ (7 * i) < 18446744073709551616 ∧ (i = 9 → x % 128 ≤ 1) := by
  refine ⟨?_, fun h => by have := h9 h; omega⟩
  by_cases hi9 : i = 9
  ·subst hi9; have := h9 rfl
   have : x % 128 ≤ 1 := by omega
   calc x % 128 * 2 ^ (7 * 9) ≤ 1 * 2 ^ (7 * 9) := Nat.mul_le_mul_right _ this
    _ < _ := by decide
  ·have : (2 : Nat) ^ (7 * i) ≤ 2 ^ (7 * 8) := Nat.pow_le_pow_right (by decide) (by omega)
   calc x % 128 * 2 ^ (7 * i) ≤ 127 * 2 ^ (7 * 8) := Nat.mul_le_mul (by omega) this
    _ < _ := by decide
 have ev : IntKind.wrap .u64 ((IntKind.wrap .u64 (IntKind.wrap .u8 ((x % 128 : Nat) : Int))) * 2 ^ (7 * i)) = ((x % 128 * 2 ^ (7 * i) : Nat) : Int) := by
  have a1 : IntKind.wrap .u8 ((x % 128 : Nat) : Int) = ((x % 128 : Nat) : Int) := by rw [wu8]; omega
  have a2 : IntKind.wrap .u64 ((x % 128 : Nat) : Int) = ((x % 128 : Nat) : Int) := by rw [wu64]; omega
  have a3 : ((x % 128 : Nat) : Int) * 2 ^ (7 * i) = ((x % 128 * 2 ^ (7 * i) : Nat) : Int) := by rw [Int.natCast_mul]; simp
  rw [a1, a2, a3, wu64]
  have := hd.1
  generalize x % 128 * 2 ^ (7 * i) = q at *
  omega
 rw [ev, or_nat]
 rw [pow7] at hu ⊢
 have q1 : u % 2 ^ 64 = u := Nat.mod_eq_of_lt (by omega)
 have q2 : (x % 128 * 2 ^ (7 * i)) % 2 ^ 64 = x % 128 * 2 ^ (7 * i) := Nat.mod_eq_of_lt (by have := hd.1; omega)
 have q3 := Nat.two_pow_add_eq_or_of_lt hu (x % 128)
 rw [q1, q2, Nat.or_comm, Nat.mul_comm, ← q3, wu64]
 have hs : 2 ^ (7 * i) * (x % 128) + u < 18446744073709551616 := by
  by_cases hi9 : i = 9
  ·subst hi9
   have := hd.2 rfl
   have h1 : 2 ^ (7 * 9) * (x % 128) ≤ 2 ^ (7 * 9) * 1 := Nat.mul_le_mul_left _ this
   have h2 : (2 : Nat) ^ (7 * 9) = 9223372036854775808 := by decide
   omega
  ·have h1 : (2 : Nat) ^ (7 * i) ≤ 2 ^ (7 * 8) := Nat.pow_le_pow_right (by decide) (by omega)
   have h2 : 2 ^ (7 * i) * (x % 128) ≤ 2 ^ (7 * 8) * 127 := Nat.mul_le_mul h1 (by omega)
   have h3 : (2 : Nat) ^ (7 * 8) = 72057594037927936 := by decide
   omega
 generalize 2 ^ (7 * i) * (x % 128) = q at *
 omega
def Bs (b : List Int) : Prop := ∀ x ∈ b, okI .u8 x
theorem Bs.drop {b : List Int} (h : Bs b) (k : Nat) : Bs (b.drop k) := fun x hx => h x (List.mem_of_mem_drop hx)
theorem Bs.take {b : List Int} (h : Bs b) (k : Nat) : Bs (b.take k) := fun x hx => h x (List.mem_of_mem_take hx)
theorem Bs.app {a b : List Int} (h : Bs a) (k : Bs b) : Bs (a ++ b) := fun x hx => by
 rcases List.mem_append.1 hx with e | e
 ·exact h x e
 ·exact k x e
theorem zag_bits {u : Nat} (h : u < 18446744073709551616) : (IntKind.wrap .i64 (BitVec.ofInt (IntKind.bits .i64) (IntKind.wrap .i64 (Int.fdiv (u : Int) (2 ^ (min 1 (IntKind.bits .u64))))) ^^^ BitVec.ofInt (IntKind.bits .i64) (IntKind.wrap .i64 (0 - (IntKind.wrap .i64 (IntKind.wrap .u64 (BitVec.ofInt (IntKind.bits .u64) (u : Int) &&& BitVec.ofInt (IntKind.bits .u64) 1).toNat))))).toNat) = zag u := by
 have e1 : IntKind.bits .u64 = 64 := rfl
 have e0 : IntKind.bits .i64 = 64 := rfl
 have e2 : (2 : Int) ^ (min 1 64) = 2 := by decide
 rw [e1, e0, e2]
 have ha : IntKind.wrap .i64 (Int.fdiv (u : Int) 2) = ((u / 2 : Nat) : Int) := by
  rw [Int.fdiv_eq_ediv_of_nonneg _ (by decide), w64 (by omega) (by omega)]; omega
 have h1 := and_nat 64 u 1
 have e3 : ((1 : Nat) : Int) = 1 := rfl
 rw [e3] at h1
 have h2 : u % 2 ^ 64 = u := Nat.mod_eq_of_lt (by omega)
 have h3 : 1 % 2 ^ 64 = 1 := by decide
 rw [h2, h3, Nat.and_one_is_mod] at h1
 rw [h1, ha]
 have hb : IntKind.wrap .i64 (IntKind.wrap .u64 ((u % 2 : Nat) : Int)) = ((u % 2 : Nat) : Int) := by rw [wu64, w64 (by omega) (by omega)]; omega
 rw [hb]
 unfold zag
 by_cases hu : u % 2 = 1
 ·rw [if_pos hu, hu]
  have : IntKind.wrap .i64 (0 - ((1 : Nat) : Int)) = -1 := by decide
  rw [this, xor_all, wi64]
  have : u / 2 % 2 ^ 64 = u / 2 := Nat.mod_eq_of_lt (by omega)
  rw [this]
  split <;> omega
 ·rw [if_neg hu, show u % 2 = 0 by omega]
  have : IntKind.wrap .i64 (0 - ((0 : Nat) : Int)) = ((0 : Nat) : Int) := by decide
  rw [this, xor_nat]
  have : u / 2 % 2 ^ 64 = u / 2 := Nat.mod_eq_of_lt (by omega)
  rw [this, Nat.zero_mod, Nat.xor_zero, w64 (by omega) (by omega)]
theorem sum_lt {u x i : Nat} (hi : i ≤ 9) (hu : u < 128 ^ i) (hx : x < 128) (h9 : i = 9 → x ≤ 1) : u + x * 128 ^ i < 18446744073709551616 ∧ (i ≤ 8 → u + x * 128 ^ i < 128 ^ (i + 1)) := by
 constructor
 ·by_cases hi9 : i = 9
  ·subst hi9
   have := Nat.mul_le_mul_right (128 ^ 9) (h9 rfl)
   have h2 : (128 : Nat) ^ 9 = 9223372036854775808 := by decide
   omega
  ·have h1 : (128 : Nat) ^ i ≤ 128 ^ 8 := Nat.pow_le_pow_right (by decide) (by omega)
   have h2 : x * 128 ^ i ≤ 127 * 128 ^ 8 := Nat.mul_le_mul (by omega) h1
   have h3 : (128 : Nat) ^ 8 = 72057594037927936 := by decide
   omega
 ·intro _
  have : x * 128 ^ i ≤ 127 * 128 ^ i := Nat.mul_le_mul_right _ (by omega)
  rw [Nat.pow_succ]; omega
theorem pRead_L {b : List Int} (hb : Bs b) (hl : b.length ≤ 1000000) : ∀ (m k u : Nat), 10 < m + k → k ≤ b.length → k ≤ 9 → u < 128 ^ k → pack_ReadInt_L1 b m (u : Int) (k : Int) = some (T3 0 (dU (b.drop k) k u)) := by
 intro m
 induction m with
 | zero => intro k u h1 h2 h3; omega
 | succ m ih =>
  intro k u h1 h2 h3 h4
  rw [pack_ReadInt_L1, cond_d]
  by_cases hk : k < b.length
  ·rw [if_pos (by omega), idx_nat hk, Option.bind_some, drop_cons hk]
   have hx := hb _ (List.getElem_mem hk)
   simp only [okI] at hx
   obtain ⟨x, hxx⟩ : ∃ x : Nat, b[k] = (x : Int) := ⟨b[k].toNat, by omega⟩
   rw [hxx] at hx ⊢
   unfold dU pack_ReadInt_J2
   by_cases h9 : k = 9 ∧ 1 < (x : Int)
   ·have : (((k : Int) == 9) && (decide (1 < (x : Int)))) = true := by rw [Bool.and_eq_true, beq_iff_eq, decide_eq_true_eq]; omega
    rw [this, if_pos h9]; rfl
   ·have : (((k : Int) == 9) && (decide (1 < (x : Int)))) = false := by
     rw [Bool.eq_false_iff]; intro hh; rw [Bool.and_eq_true, beq_iff_eq, decide_eq_true_eq] at hh; exact h9 ⟨by omega, hh.2⟩
    have hx9 : k = 9 → x ≤ 1 := fun e => by
     rcases Nat.lt_or_ge 1 x with h | h
     ·exact absurd ⟨e, by omega⟩ h9
     ·exact h
    rw [this, cond_false, if_neg h9, chk_pos (by rw [w64 (by omega) (by omega)]; omega), or_step h3 h4 (by omega) hx9, cond_d, w64_succ (by omega)]
    have hxm : ((x : Int) % 128).toNat = x % 128 := by omega
    by_cases h128 : 128 ≤ (x : Int)
    ·have hk8 : k ≤ 8 := by
      rcases Nat.lt_or_ge k 9 with h | h
      ·omega
      ·have := hx9 (by omega); omega
     rw [if_pos h128, if_pos h128, hxm]
     exact ih (k + 1) _ (by omega) (by omega) (by omega) ((sum_lt h3 h4 (by omega) (fun e => by omega)).2 hk8)
    ·have hxe : x % 128 = x := by omega
     rw [if_neg h128, if_neg h128, pack_ReadInt_J3, w64_succ (by omega)]
     by_cases h0 : (x : Int) = 0 ∧ 0 < k
     ·have : (((x : Int) == 0) && (decide (0 < (k : Int)))) = true := by rw [Bool.and_eq_true, beq_iff_eq, decide_eq_true_eq]; omega
      rw [this, if_pos h0]; rfl
     ·have : (((x : Int) == 0) && (decide (0 < (k : Int)))) = false := by
       rw [Bool.eq_false_iff]; intro hh; rw [Bool.and_eq_true, beq_iff_eq, decide_eq_true_eq] at hh; exact h0 ⟨hh.1, by omega⟩
      rw [this, cond_false, if_neg h0, chk_pos (by omega), hxe, zag_bits (sum_lt h3 h4 (by omega) hx9).1]
      simp [T3]
  ·rw [if_neg (by omega), List.drop_of_length_le (by omega)]; rfl
def rI (b : List Int) : R Int := dU b 0 0
theorem pRead_eq {b : List Int} (hb : Bs b) (hl : b.length ≤ 1000000) : pack_ReadInt_f b = some (T3 0 (rI b)) := by
 unfold pack_ReadInt_f
 exact pRead_L hb hl BIG 0 0 (by rw [BIG_eq]; omega) (by omega) (by omega) (by decide)
theorem dU_ok {α : Type} : ∀ (b : List Int) (i u : Nat) (v : Int) (r : List Int), Bs b → i ≤ 9 → u < 128 ^ i → dU b i u = .ok v r → ∃ w : Nat, v = zag (u + w * 128 ^ i) ∧ b = enc w ++ r ∧ u + w * 128 ^ i < 18446744073709551616 ∧ (0 < i → 0 < w)
 | [], i, u, v, r, _, _, _, h => by unfold dU at h; cases h
 | x :: b, i, u, v, r, hb, hi, hu, h => by
  have hx := hb x (by simp)
  simp only [okI] at hx
  unfold dU at h
  split at h
  ·cases h
  ·rename_i h9
   have hx9 : i = 9 → x ≤ 1 := fun e => by
    rcases (show 1 < x ∨ x ≤ 1 by omega) with h | h
    ·exact absurd ⟨e, h⟩ h9
    ·exact h
   split at h
   ·rename_i h128
    have hi8 : i ≤ 8 := by
     rcases Nat.lt_or_ge i 9 with h | h
     ·omega
     ·have := hx9 (by omega); omega
    have hs := sum_lt (u := u) (x := (x % 128).toNat) hi hu (by omega) (fun e => by omega)
    obtain ⟨w, e1, e2, e3, e4⟩ := dU_ok (α := α) b (i + 1) _ v r (fun y hy => hb y (by simp [hy])) (by omega) (hs.2 hi8) h
    refine ⟨(x % 128).toNat + w * 128, ?_, ?_, ?_, fun _ => by have := e4 (by omega); omega⟩
    ·rw [e1]; congr 1; rw [Nat.pow_succ, Nat.add_mul]; have : w * 128 * 128 ^ i = w * (128 ^ i * 128) := by rw [Nat.mul_assoc, Nat.mul_comm 128]
     omega
    ·have hw := e4 (by omega)
     rw [enc_l (by omega), e2]
     have a1 : ((128 + ((x % 128).toNat + w * 128) % 128 : Nat) : Int) = x := by omega
     have a2 : ((x % 128).toNat + w * 128) / 128 = w := by omega
     rw [a1, a2]; rfl
    ·rw [Nat.pow_succ] at e3; rw [Nat.add_mul]; have : w * 128 * 128 ^ i = w * (128 ^ i * 128) := by rw [Nat.mul_assoc, Nat.mul_comm 128]
     omega
   ·rename_i h128
    split at h
    ·cases h
    ·rename_i h0
     injection h with h1 h2
     have hs := sum_lt (u := u) (x := x.toNat) hi hu (by omega) (fun e => by have := hx9 e; omega)
     refine ⟨x.toNat, h1.symm, ?_, hs.1, fun hi0 => ?_⟩
     ·rw [enc_s (by omega), h2]; have : ((x.toNat : Nat) : Int) = x := by omega
      rw [this]; rfl
     ·rcases (show 0 < x ∨ x ≤ 0 by omega) with h | h
      ·omega
      ·exact absurd ⟨by omega, hi0⟩ h0
theorem read_num {b r : List Int} {n : Int} (hb : Bs b) (h : rI b = .ok n r) : b = num n ++ r ∧ okI .i64 n := by
 obtain ⟨w, e1, e2, e3, _⟩ := dU_ok (α := Unit) b 0 0 n r hb (by omega) (by decide) h
 simp only [Nat.pow_zero, Nat.mul_one, Nat.zero_add] at e1 e3
 subst e1
 refine ⟨?_, zag_ok e3⟩
 unfold num; rw [zz_zag]; exact e2
theorem dU_no {e : Int} : ∀ (b : List Int) (i u : Nat), dU b i u = .no e → e = 10 ∨ e = 11
 | [], i, u, h => by unfold dU at h; injection h with h; exact .inl h.symm
 | x :: b, i, u, h => by
  unfold dU at h
  split at h
  ·injection h with h; exact .inr h.symm
  ·split at h
   ·exact dU_no b _ _ h
   ·split at h
    ·injection h with h; exact .inr h.symm
    ·cases h
theorem dU_len : ∀ (b : List Int) (i u : Nat) (v : Int) (r : List Int), dU b i u = .ok v r → ∃ k, 1 ≤ k ∧ k ≤ b.length ∧ r = b.drop k
 | [], i, u, v, r, h => by unfold dU at h; cases h
 | x :: b, i, u, v, r, h => by
  unfold dU at h
  split at h
  ·cases h
  ·split at h
   ·obtain ⟨k, h1, h2, h3⟩ := dU_len b _ _ v r h
    exact ⟨k + 1, by omega, by simp; omega, by rw [h3]; rfl⟩
   ·split at h
    ·cases h
    ·injection h with h1 h2; exact ⟨1, by omega, by simp, by rw [h2]; rfl⟩
theorem strB_ok (s : ByteArray) : Bs (strBytes s) := fun x hx => by
 obtain ⟨b, _, rfl⟩ := List.mem_map.1 hx
 have := b.toNat_lt
 simp only [okI]; omega
theorem strB_nums {l : List Int} (h : Bs l) : strBytes (strOfNums l) = l := by
 unfold strBytes
 rw [strOfNums_data, List.map_map]
 have : ∀ x ∈ l, ((fun b : UInt8 => (b.toNat : Int)) ∘ fun n : Int => UInt8.ofNat n.toNat) x = x := fun x hx => by
  have := h x hx
  simp only [okI] at this
  show ((UInt8.ofNat x.toNat).toNat : Int) = x
  rw [UInt8.toNat_ofNat']; omega
 rw [List.map_congr_left (g := id) this, List.map_id]
theorem ba_ext {a b : ByteArray} (h : a.data.toList = b.data.toList) : a = b := by
 cases a; cases b; congr 1; exact Array.ext' h
theorem tl_eq {a b : ByteArray} : (a.toList == b.toList) = decide (a = b) := by
 rw [Bool.eq_iff_iff, beq_iff_eq, decide_eq_true_eq]
 constructor
 ·intro h
  rw [ByteArray.toList_eq, ByteArray.toList_eq] at h
  exact ba_ext h
 ·rintro rfl; rfl
def str (s : ByteArray) : List Int := num s.size ++ strBytes s
theorem okI_len {n : Nat} (h : n ≤ 1000000000000) : okI .i64 (n : Int) := by simp only [okI]; omega
theorem pStr_eq {s : ByteArray} (h : s.size ≤ 1000000) : pack_Str_f s = some (str s) := by
 unfold pack_Str_f
 have := num_len (okI_len (n := s.size) (by omega))
 rw [pInt_eq (okI_len (by omega)), Option.bind_some, chk_pos (by omega)]; rfl
theorem str_len {s : ByteArray} (h : s.size ≤ 1000000) : 1 ≤ (str s).length ∧ (str s).length ≤ s.size + 10 := by
 have := num_len (okI_len (n := s.size) (by omega))
 unfold str; rw [List.length_append, strBytes_len]; omega
theorem str_ok {s : ByteArray} (h : s.size ≤ 1000000) : Bs (str s) := Bs.app (num_ok (okI_len (by omega))) (strB_ok s)
theorem nums_len {l : List Int} (h : ∀ x ∈ l, okI .i64 x) : l.length ≤ (l.flatMap num).length ∧ (l.flatMap num).length ≤ 10 * l.length := by
 induction l with
 | nil => simp
 | cons a l ih =>
  have := ih (fun x hx => h x (by simp [hx]))
  have := num_len (h a (by simp))
  rw [List.flatMap_cons, List.length_append, List.length_cons]; omega
theorem nums_ok {l : List Int} (h : ∀ x ∈ l, okI .i64 x) : Bs (l.flatMap num) := fun x hx => by
 obtain ⟨n, hn, h2⟩ := List.mem_flatMap.1 hx
 exact num_ok (h n hn) x h2
theorem fm_snoc {α : Type} {f : α → List Int} {l : List α} {k : Nat} (hk : k < l.length) : (l.take (k + 1)).flatMap f = (l.take k).flatMap f ++ f l[k] := by
 rw [take_snoc hk, List.flatMap_append]; simp
theorem pNums_L {l : List Int} (h : ∀ x ∈ l, okI .i64 x) (hl : l.length ≤ 1000000) : ∀ (m k : Nat), l.length < m + k → k ≤ l.length → pack_numbers_L1 l m ((l.take k).flatMap num) (k : Int) = some (l.flatMap num) := by
 intro m
 induction m with
 | zero => intro k h1 h2; omega
 | succ m ih =>
  intro k h1 h2
  rw [pack_numbers_L1, cond_d]
  by_cases hk : k < l.length
  ·have h3 := nums_len (l := l.take k) (fun x hx => h x (List.mem_of_mem_take hx))
   have h4 := num_len (h _ (List.getElem_mem hk))
   simp only [List.length_take] at h3
   rw [if_pos (by omega), idx_nat hk, Option.bind_some, pInt_eq (h _ (List.getElem_mem hk)), Option.bind_some, chk_pos (by omega), w64_succ (by omega), ← fm_snoc hk]
   exact ih (k + 1) (by omega) (by omega)
  ·rw [if_neg (by omega), pack_numbers_J1, List.take_of_length_le (by omega)]
theorem pNums_eq {l : List Int} (h : ∀ x ∈ l, okI .i64 x) (hl : l.length ≤ 1000000) : pack_numbers_f l = some (l.flatMap num) := by
 unfold pack_numbers_f
 have := pNums_L h hl BIG 0 (by rw [BIG_eq]; omega) (by omega)
 rw [List.take_zero] at this
 exact this
def ints (l : List Int) : List Int := num l.length ++ l.flatMap num
theorem pInts_eq {l : List Int} (h : ∀ x ∈ l, okI .i64 x) (hl : l.length ≤ 1000000) : pack_Ints_f l = some (ints l) := by
 unfold pack_Ints_f
 have := num_len (okI_len (n := l.length) (by omega))
 have := nums_len h
 rw [pInt_eq (okI_len (by omega)), Option.bind_some, pNums_eq h hl, Option.bind_some, chk_pos (by omega)]; rfl
theorem nums_size (l : List Int) : (strOfNums l).size = l.length := strOfNums_size l
def R.andThen {α β : Type} : R α → (α → List Int → R β) → R β
 | .ok v r, f => f v r
 | .no e, _ => .no e
def pC (b : List Int) : R Nat := (rI b).andThen fun n r => if n < 0 then .no 11 else if (r.length : Int) < n then .no 10 else .ok n.toNat r
def pS (b : List Int) : R ByteArray := (pC b).andThen fun n r => .ok (strOfNums (r.take n)) (r.drop n)
def pN {α : Type} (p : List Int → R α) : Nat → List Int → R (List α)
 | 0, b => .ok [] b
 | k + 1, b => (p b).andThen fun x r => (pN p k r).andThen fun xs r => .ok (x :: xs) r
def E0 : ByteArray := ⟨#[]⟩
def G (b : List Int) : Prop := Bs b ∧ b.length ≤ 1000000
theorem G.drop {b : List Int} (h : G b) (k : Nat) : G (b.drop k) := ⟨h.1.drop k, by have := h.2; simp; omega⟩
theorem rI_G {b r : List Int} {v : Int} (hb : G b) (h : rI b = .ok v r) : G r ∧ r.length < b.length ∧ okI .i64 v := by
 obtain ⟨k, h1, h2, h3⟩ := dU_len b 0 0 v r h
 subst h3
 refine ⟨hb.drop k, ?_, (read_num hb.1 h).2⟩
 rw [List.length_drop]; omega
theorem rI_no {b : List Int} {e : Int} (h : rI b = .no e) : e = 10 ∨ e = 11 := dU_no b 0 0 h
section
variable {b : List Int} {e : Int}
theorem ne0 (he : e = 10 ∨ e = 11) : (e != 0) = true := by rcases he with rfl | rfl <;> rfl
theorem num_c (hb : G b) : (∃ v r, rI b = .ok v r ∧ G r ∧ r.length < b.length ∧ okI .i64 v ∧ pack_reader_num_f ⟨⟨b⟩, 0⟩ = some (v, ⟨⟨r⟩, 0⟩)) ∨ (∃ e x, rI b = .no e ∧ (e = 10 ∨ e = 11) ∧ pack_reader_num_f ⟨⟨b⟩, 0⟩ = some (0, ⟨x, e⟩)) := by
 unfold pack_reader_num_f
 simp only [bne_self_eq_false, cond_false]
 rw [pRead_eq hb.1 hb.2, Option.bind_some]
 cases h : rI b with
 | ok v r => exact .inl ⟨v, r, rfl, (rI_G hb h).1, (rI_G hb h).2.1, (rI_G hb h).2.2, rfl⟩
 | no e => exact .inr ⟨e, ⟨[]⟩, rfl, rI_no h, rfl⟩
theorem cnt_c (hb : G b) : (∃ n r, pC b = .ok n r ∧ n ≤ r.length ∧ G r ∧ r.length < b.length ∧ pack_reader_count_f ⟨⟨b⟩, 0⟩ = some ((n : Int), ⟨⟨r⟩, 0⟩)) ∨ (∃ e x, pC b = .no e ∧ (e = 10 ∨ e = 11) ∧ pack_reader_count_f ⟨⟨b⟩, 0⟩ = some (0, ⟨x, e⟩)) := by
 unfold pack_reader_count_f pC
 rcases num_c hb with ⟨v, r, h1, h2, h3, h4, h5⟩ | ⟨e, x, h1, h2, h3⟩
 ·rw [h5, h1, Option.bind_some]
  simp only [bne_self_eq_false, cond_false, R.andThen]
  rw [cond_d, cond_d]
  by_cases hv : v < 0
  ·rw [if_pos hv, if_pos hv]; exact .inr ⟨11, ⟨r⟩, rfl, .inr rfl, rfl⟩
  ·rw [if_neg hv, if_neg hv]
   by_cases hl : (r.length : Int) < v
   ·rw [if_pos hl, if_pos hl]; exact .inr ⟨10, ⟨r⟩, rfl, .inl rfl, rfl⟩
   ·rw [if_neg hl, if_neg hl]
    refine .inl ⟨v.toNat, r, rfl, by omega, h2, h3, ?_⟩
    have : ((v.toNat : Nat) : Int) = v := by omega
    rw [this]
 ·rw [h3, h1, Option.bind_some]
  simp only [ne0 h2, cond_true, R.andThen]
  exact .inr ⟨e, x, rfl, h2, rfl⟩
theorem str_c (hb : G b) : (∃ s r, pS b = .ok s r ∧ s.size ≤ b.length ∧ G r ∧ r.length < b.length ∧ pack_reader_str_f ⟨⟨b⟩, 0⟩ = some (s, ⟨⟨r⟩, 0⟩)) ∨ (∃ e x, pS b = .no e ∧ (e = 10 ∨ e = 11) ∧ pack_reader_str_f ⟨⟨b⟩, 0⟩ = some (E0, ⟨x, e⟩)) := by
 unfold pack_reader_str_f pS
 rcases cnt_c hb with ⟨n, r, h1, h2, h3, h4, h5⟩ | ⟨e, x, h1, h2, h3⟩
 ·rw [h5, h1, Option.bind_some]
  simp only [bne_self_eq_false, cond_false, R.andThen]
  unfold pack_rest_take_f
  simp only
  rw [chk_pos (by omega), chk_pos (by omega), Option.bind_some]
  simp only [Int.toNat_natCast, List.drop_zero]
  exact .inl ⟨_, _, rfl, by rw [nums_size]; simp; omega, h3.drop n, by simp; omega, rfl⟩
 ·rw [h3, h1, Option.bind_some]
  simp only [ne0 h2, cond_true, R.andThen]
  exact .inr ⟨e, x, rfl, h2, rfl⟩
end
theorem pReadStr_eq {b : List Int} (hb : G b) : pack_ReadStr_f b = some (T3 E0 (pS b)) := by
 unfold pack_ReadStr_f
 rcases str_c hb with ⟨s, r, h1, h2, h3, h4, h5⟩ | ⟨e, x, h1, h2, h3⟩
 ·rw [h5, h1, Option.bind_some]
  simp only [bne_self_eq_false, cond_false]; rfl
 ·rw [h3, h1, Option.bind_some]
  simp only [ne0 h2, cond_true]; rfl
def pInts (b : List Int) : R (List Int) := (pC b).andThen fun n r => pN rI n r
theorem pN_G {α : Type} {p : List Int → R α} (hp : ∀ b v r, G b → p b = .ok v r → G r) : ∀ (k : Nat) (b : List Int) (v : List α) (r : List Int), G b → pN p k b = .ok v r → G r ∧ v.length = k
 | 0, b, v, r, hb, h => by unfold pN at h; injection h with h1 h2; subst h1; subst h2; exact ⟨hb, rfl⟩
 | k + 1, b, v, r, hb, h => by
  unfold pN at h
  cases h1 : p b with
  | no e => rw [h1] at h; cases h
  | ok x r1 =>
   rw [h1] at h
   simp only [R.andThen] at h
   cases h2 : pN p k r1 with
   | no e => rw [h2] at h; cases h
   | ok xs r2 =>
    rw [h2] at h
    injection h with h3 h4
    have := pN_G hp k r1 xs r2 (hp b x r1 hb h1) h2
    subst h3; subst h4
    exact ⟨this.1, by simp [this.2]⟩
theorem pInts_L {x : Reader195} {n : Nat} (hn : n ≤ 1000000) : ∀ (k m : Nat) (b out : List Int) (v : Nat), G b → k < m → n = v + k → out.length = v → pack_ReadInts_L1 ((n : Int), x) m ⟨⟨b⟩, 0⟩ out (v : Int) =
  some (match pN rI k b with | .ok xs r => (out ++ xs, r, 0) | .no e => ([], [], e)) := by
 intro k
 induction k with
 | zero =>
  intro m b out v hb hm hv ho
  obtain ⟨m, rfl⟩ : ∃ m', m = m' + 1 := ⟨m - 1, by omega⟩
  rw [pack_ReadInts_L1, cond_d, if_neg (by simp; omega)]
  simp [pack_ReadInts_J1, pN]
 | succ k ih =>
  intro m b out v hb hm hv ho
  obtain ⟨m, rfl⟩ : ∃ m', m = m' + 1 := ⟨m - 1, by omega⟩
  rw [pack_ReadInts_L1, cond_d, if_pos (by simp; omega)]
  unfold pN
  rcases num_c hb with ⟨w, r, h1, h2, h3, h4, h5⟩ | ⟨e, y, h1, h2, h3⟩
  ·rw [h5, h1, Option.bind_some, chk_pos (by omega)]
   simp only [bne_self_eq_false, cond_false, R.andThen]
   rw [w64_succ (by omega), ih m r _ (v + 1) h2 (by omega) (by omega) (by simp; omega)]
   cases pN rI k r <;> simp
  ·rw [h3, h1, Option.bind_some, chk_pos (by omega)]
   simp only [ne0 h2, cond_true, R.andThen, pack_ReadInts_J1]
theorem pReadInts_eq {b : List Int} (hb : G b) : pack_ReadInts_f b = some (T3 [] (pInts b)) := by
 unfold pack_ReadInts_f pInts
 have hb2 := hb.2
 rcases cnt_c hb with ⟨n, r, h1, h2, h3, h4, h5⟩ | ⟨e, x, h1, h2, h3⟩
 ·rw [h5, h1, Option.bind_some]
  simp only [R.andThen]
  have := pInts_L (x := ⟨⟨r⟩, 0⟩) (n := n) (by omega) n BIG r [] 0 h3 (by rw [BIG_eq]; omega) (by omega) rfl
  show pack_ReadInts_L1 ((n : Int), ⟨⟨r⟩, 0⟩) BIG ⟨⟨r⟩, 0⟩ [] ((0 : Nat) : Int) = _
  rw [this]
  cases pN rI n r <;> simp [T3]
 ·rw [h3, h1, Option.bind_some]
  simp only [R.andThen]
  obtain ⟨m, hm⟩ : ∃ m', BIG = m' + 1 := ⟨BIG - 1, by rw [BIG_eq]⟩
  rw [hm, pack_ReadInts_L1, cond_d, if_neg (by simp), pack_ReadInts_J1]
  simp only [ne0 h2, cond_true]; rfl
structure Cod {α : Type} (p : List Int → R α) (B : List Int) (v : α) : Prop where
 rt : ∀ z, p (B ++ z) = .ok v z
 cut : ∀ k, k < B.length → p (B.take k) = .no 10
theorem Cod.whole {α : Type} {p : List Int → R α} {B : List Int} {v : α} (h : Cod p B v) : p B = .ok v [] := by
 have := h.rt []; rwa [List.append_nil] at this
theorem take_app {A B : List Int} {k : Nat} (h : A.length ≤ k) : (A ++ B).take k = A ++ B.take (k - A.length) := by
 rw [List.take_append, List.take_of_length_le h]
theorem Cod.seq {α β : Type} {p : List Int → R α} {q : α → List Int → R β} {B C : List Int} {v : α} {w : β} (h1 : Cod p B v) (h2 : Cod (q v) C w) : Cod (fun b => (p b).andThen q) (B ++ C) w where
 rt z := by rw [List.append_assoc, h1.rt]; exact h2.rt z
 cut k hk := by
  rcases Nat.lt_or_ge k B.length with h | h
  ·rw [List.take_append_of_le_length (by omega), h1.cut k h]; rfl
  ·rw [take_app h, h1.rt]
   exact h2.cut _ (by rw [List.length_append] at hk; omega)
end Go.Proofs.YtjflkcfafijhfaaGreat
/- Functions of the program as Lean functions, and that they are so; printed by a program of mine. -/
set_option linter.unusedSimpArgs false
set_option linter.unusedVariables false
set_option maxHeartbeats 4000000
set_option maxRecDepth 20000
namespace Go.Proofs.YtjflkcfafijhfaaGreat
open Go.Ab
open Nat (reduceAdd reduceMul reduceEqDiff reduceLT reduceLeDiff reduceSub)
noncomputable section
def scrub_stands_J1 (disks1 : List Disk) (s1 : Int) (c1 : Chain) (v1 : Bool) : Option Int :=
 cond v1 (some (1)) ((idx disks1 s1).bind fun x1 => (chunk_Get_f x1 c1.id).bind fun r1 => cond (r1.2 == 41) (some (2)) (cond (r1.2 != 0) (some (3)) (cond (decide (r1.1.ver < c1.ver)) (some (4)) (cond (decide (c1.ver < r1.1.ver)) (some (5)) (some (0))))))
def scrub_stands_f (disks1 : List Disk) (c1 : Chain) (s1 : Int) : Option Int :=
 cond (decide ((disks1.length : Int) ≤ s1)) (scrub_stands_J1 disks1 s1 c1 true) ((idx disks1 s1).bind fun x2 => scrub_stands_J1 disks1 s1 c1 x2.down)
theorem scrub_stands_pc {disks1 : List Disk} {c1 : Chain} {s1 : Int} {r : Int} (H : scrub_stands_f disks1 c1 s1 = some r) : PC Tryz.prog 102 [.list 3 (disks1.map Disk.c), .agg (Chain.c c1), .int .i64 s1] (.int .i64 r) := by
 refine pcA_of Tryz.func102 (by rfl) (by decide) 48 (by rfl) [.tmp 6] (by rfl) ?_
 unfold scrub_stands_f at H
 simp only [ent]
 refine a_srC _ rfl ?_
 refine a_seq ?_
 refine a_cut (fun s => ∃ (v1 : Bool) (t0 : Nat → Dat), scrub_stands_J1 disks1 s1 c1 v1 = some r ∧ s = ⟨tl t0 [(0, .list 3 (disks1.map Disk.c)), (2, .int .i64 s1), (4, .ptr 0 0 0 3), (19, .bool v1)], hl [⟨30, 3, false, [Chain.c c1]⟩], 1, 48⟩) ?_ ?_
 ·refine cnd H (fun zc6 H => ?_) (fun zc6 H => ?_)
  ·refine a_regC _ rfl ?_
   refine cA_n ?_
   exact wk_lA [(some 0, _)] [] (fun t0 => ⟨true, t0, H, rfl⟩)
  ·obtain ⟨x2, zh3, H⟩ := bind_some H
   obtain ⟨zg2, zh3a, zh3b⟩ := idx3 (f := Disk.c) zh3
   try simp only [Int.reduceToNat, Int.toNat_natCast] at zg2
   refine a_regC _ rfl ?_
   refine cA_n ?_
   exact wk_lA [(some 0, _)] [] (fun t0 => ⟨x2.down, t0, H, rfl⟩)
 ·rintro s ⟨v1, t0, H, rfl⟩
  unfold scrub_stands_J1 at H
  refine a_cnd H (fun zc1 H => ?_) (fun zc1 H => ?_)
  ·refine a_srC _ rfl ?_
   exact a_ret (sA_r RT)
  ·refine a_skip ?_
   refine sA_n ?_
   refine a_seq ?_
   obtain ⟨x1, zh1, H⟩ := bind_some H
   obtain ⟨zg1, zh1a, zh1b⟩ := idx3 (f := Disk.c) zh1
   try simp only [Int.reduceToNat, Int.toNat_natCast] at zg1
   obtain ⟨r1, zh2, H⟩ := bind_some H
   have zk1 := chunk_Get_pc zh2
   refine a_drW (by kernel_rfl) _ rfl (s := ?zs3) (by kernel_rfl) (by kernel_rfl) ?zs3f ?_ ?_ ?_
   rotate_left 2
   ·try refine goS ?_
    repeat' with_reducible apply And.intro
    all_goals try ((with_reducible show CallW _ _ _ _ _ _ _); refine cW_p [] zk1 (fun h2 e => ZZ) ?_; refine goS ?_)
    all_goals exact CLS
   ·kernel_rfl
   refine sA_n ?_
   refine a_seq ?_
   refine a_blk ?_
   refine a_srC _ rfl ?_
   refine a_cnd H (fun zc2 H => ?_) (fun zc2 H => ?_)
   ·refine a_srC _ rfl ?_
    refine a_ret ?_
    refine bA_r ?_
    refine sA_r ?_
    obtain rfl := Option.some.inj H
    refine e_r2 (d := ?zd2) ?_ ?_
    rotate_left
    ·simp only [EVT, resR, single, evLoad, cut, TIS, CS, reduceAdd, reduceEqDiff, ↓reduceIte, reduceCtorEq, reduceLT, reduceLeDiff, reduceSub, Nat.reduceBEq, zc1, zg1, zc2]
     (repeat' apply And.intro) <;> first | rfl | assumption | omega | (simp; done)
    exact ZZ
   ·refine a_srC _ rfl ?_
    refine a_cnd H (fun zc3 H => ?_) (fun zc3 H => ?_)
    ·refine a_srC _ rfl ?_
     refine a_ret ?_
     refine bA_r ?_
     refine sA_r ?_
     obtain rfl := Option.some.inj H
     refine e_r2 (d := ?zd3) ?_ ?_
     rotate_left
     ·simp only [EVT, resR, single, evLoad, cut, TIS, CS, reduceAdd, reduceEqDiff, ↓reduceIte, reduceCtorEq, reduceLT, reduceLeDiff, reduceSub, Nat.reduceBEq, zc1, zg1, zc2, zc3]
      (repeat' apply And.intro) <;> first | rfl | assumption | omega | (simp; done)
     exact ZZ
    ·refine a_srC _ rfl ?_
     refine a_cnd H (fun zc4 H => ?_) (fun zc4 H => ?_)
     ·refine a_srC _ rfl ?_
      refine a_ret ?_
      refine bA_r ?_
      refine sA_r ?_
      obtain rfl := Option.some.inj H
      refine e_r2 (d := ?zd4) ?_ ?_
      rotate_left
      ·simp only [EVT, resR, single, evLoad, cut, TIS, CS, reduceAdd, reduceEqDiff, ↓reduceIte, reduceCtorEq, reduceLT, reduceLeDiff, reduceSub, Nat.reduceBEq, zc1, zg1, zc2, zc3, zc4]
       (repeat' apply And.intro) <;> first | rfl | assumption | omega | (simp; done)
      exact ZZ
     ·refine a_srC _ rfl ?_
      refine a_cnd H (fun zc5 H => ?_) (fun zc5 H => ?_)
      ·refine a_srC _ rfl ?_
       refine a_ret ?_
       refine bA_r ?_
       refine sA_r ?_
       obtain rfl := Option.some.inj H
       refine e_r2 (d := ?zd5) ?_ ?_
       rotate_left
       ·simp only [EVT, resR, single, evLoad, cut, TIS, CS, reduceAdd, reduceEqDiff, ↓reduceIte, reduceCtorEq, reduceLT, reduceLeDiff, reduceSub, Nat.reduceBEq, zc1, zg1, zc2, zc3, zc4, zc5]
        (repeat' apply And.intro) <;> first | rfl | assumption | omega | (simp; done)
       exact ZZ
      ·refine a_skip ?_
       refine bA_n ?_
       refine sA_n ?_
       refine a_srC _ rfl ?_
       refine a_ret ?_
       obtain rfl := Option.some.inj H
       refine e_r2 (d := ?zd6) ?_ ?_
       rotate_left
       ·simp only [EVT, resR, single, evLoad, cut, TIS, CS, reduceAdd, reduceEqDiff, ↓reduceIte, reduceCtorEq, reduceLT, reduceLeDiff, reduceSub, Nat.reduceBEq, zc1, zg1, zc2, zc3, zc4, zc5]
        (repeat' apply And.intro) <;> first | rfl | assumption | omega | (simp; done)
       exact ZZ
end
end Go.Proofs.YtjflkcfafijhfaaGreat
/- The iterators scrub.all and chain.whole, by hand. -/
set_option linter.unusedSimpArgs false
set_option linter.unusedVariables false
namespace Go.Proofs.YtjflkcfafijhfaaGreat
open Go.Ab Go.RowKit Go.Shelf Go.Proofs
attribute [local go_sem] Oper.semAt_some
noncomputable section
def allL (c : Chain) (disks : List Disk) : List Int → Option (List (Int × Int))
 | [] => some []
 | s :: l => (scrub_stands_f disks c s).bind fun r => (allL c disks l).bind fun t => some ((s, r) :: t)
theorem allL_at {c : Chain} {disks : List Disk} : ∀ {l : List Int} {ys : List (Int × Int)}, allL c disks l = some ys → ys.length = l.length ∧ ∀ (k : Nat) s, l[k]? = some s → ∃ r, ys[k]? = some (s, r) ∧ scrub_stands_f disks c s = some r
 | [], ys, h => by
  injection h with h; subst h
  exact ⟨rfl, fun k s h => by simp at h⟩
 | a :: l, ys, h => by
  unfold allL at h
  obtain ⟨r, h1, h⟩ := bind_some h
  obtain ⟨t, h2, h⟩ := bind_some h
  injection h with h; subst h
  obtain ⟨q1, q2⟩ := allL_at h2
  refine ⟨by simp [q1], fun k s hk => ?_⟩
  cases k with
  | zero => simp at hk; subst hk; exact ⟨r, rfl, h1⟩
  | succ k => exact q2 k s hk
def scrub_all_1_f (c1 : Chain) (disks1 : List Disk) : Option (List (Int × Int)) := allL c1 disks1 c1.servers
set_option maxRecDepth 100000 in
set_option maxHeartbeats 4000000 in
theorem all1_in (m l b1 o1 b2 o2 : Nat) (hm : 9 ≤ m) (A : Option Addr) (cap : Nat) (c : Chain) (disks : List Disk) (ys : List (Int × Int)) (hys : allL c disks c.servers = some ys) (hreach : c.servers.length ≤ 9223372036854775807) (D : Nat → Prop) (w : World)
  (hDw : ∀ b, D b → b < w.heap.size) (hG : Lay.gp w D) (h1 : D b1) (h2 : D b2) (dv : Value) (hdv : RV NP D w dv (.list 3 (disks.map Disk.c))) (hcv : RV NP D w (.agg #[.int .i64 c.id, .int .i64 c.ver, .slice A c.servers.length cap]) (.agg (Chain.c c)))
  (hs : ∀ (j : Nat) x, c.servers[j]? = some x → ∃ b off, A = some ⟨b, off, none⟩ ∧ D b ∧ w.cell? ⟨b, off + j, none⟩ = some (.int .i64 x))
  (J : (Nat → Prop) → Nat → World → Prop) (Jx : (Nat → Prop) → World → Prop) (U0 : Nat → Prop) (hU0 : ∀ b, U0 b → b < w.heap.size)
  (hJg : ∀ U k A B, J U k A → Chg A B none → J U k B)
  (hY : ∀ m U k x W, ys[k]? = some x → J U k W → Ext D w W → (∀ b, U b → b < W.heap.size) → YieldAt Fence.wide m Tryz.prog l #[.int .i64 x.1, .int .i64 x.2] W fun v B => ∃ U', (∀ b, U' b → b < B.heap.size) ∧ Ext D W B ∧
   ((v = .returned (.bool true) ∧ J U' (k + 1) B) ∨ (v = .returned (.bool false) ∧ Jx U' B)))
  (hc0 : w.cell? ⟨b1, o1, none⟩ = some (.int .i64 c.id)) (hc1 : w.cell? ⟨b1, o1 + 1, none⟩ = some (.int .i64 c.ver)) (hc2 : w.cell? ⟨b1, o1 + 2, none⟩ = some (.slice A c.servers.length cap)) (hd : w.cell? ⟨b2, o2, none⟩ = some dv) (h0 : J U0 0 w) :
  CallsIn Fence.wide m Tryz.prog 101 #[.func (.yield l) #[] #[], .pointer (some ⟨b1, o1, none⟩), .pointer (some ⟨b2, o2, none⟩)] w fun v B => (∃ x, v = .returned x) ∧ ∃ U, J U ys.length B ∨ Jx U B := by
 obtain ⟨hyl, hya⟩ := allL_at hys
 refine callsIn_of_wp Tryz.func101 rfl trivial ?_ rfl
 simp only [Tryz.ntmps101, List.size_toArray, List.length_cons, List.length_nil, Nat.reduceAdd, Nat.reduceSub, Array.replicate_succ, Array.replicate_zero, List.push_toArray, List.append_toArray, List.nil_append, List.cons_append]
 gi_wp2
 gi_loopw [9] (fun i wr => ∃ (k : Nat) (U : Nat → Prop), k ≤ c.servers.length ∧ i = .int .i64 k ∧ J U k wr ∧ Ext D w wr ∧ ∀ b, U b → b < wr.heap.size)
  (fun i _ => c.servers.length - (zOf i).toNat)
 case atStart => exact ⟨0, U0, Nat.zero_le _, rfl, h0, Ext.refl _ _, hU0⟩
 case round =>
  obtain ⟨k, U, hk, rfl, hJs, hnx, hU⟩ := hrel
  by_cases hlt : k < c.servers.length
  ·obtain ⟨x, hx⟩ : ∃ x, c.servers[k]? = some x := ⟨_, List.getElem?_eq_getElem hlt⟩
   obtain ⟨r, hyk, hst⟩ := hya k x hx
   obtain ⟨b, off, rfl, hb, hcs⟩ := hs k x hx
   have hcx : wr.cell? ⟨b, off + k, none⟩ = some (.int .i64 x) := hnx.cell hb hcs
   have g0 := hnx.cell h1 hc0
   have g1 := hnx.cell h1 hc1
   have g2 := hnx.cell h1 hc2
   have g3 := hnx.cell h2 hd
   have hargs : RVs NP D wr [dv, .agg #[.int .i64 c.id, .int .i64 c.ver, .slice (some ⟨b, off, none⟩) c.servers.length cap], .int .i64 x] [.list 3 (disks.map Disk.c), .agg (Chain.c c), .int .i64 x] :=
    .cons (hdv.keep (PlLe.refl _) (fun _ h _ => h) hnx) (.cons (hcv.keep (PlLe.refl _) (fun _ h _ => h) hnx) (.cons (.int _ _) .nil))
   have hcall := callsIn_wide (n := m - 1) |>.2 ((scrub_stands_pc hst).run wr D _ (fun b hb => Nat.lt_of_lt_of_le (hDw b hb) hnx.size) (Lay.gpk hG hnx (fun _ h _ => h)) hargs)
   gi_wp2
   refine ⟨trivial, fun h => absurd h (by decide), hcall.mono ?_⟩
   rintro e w2 ⟨v2, rfl, hv2, hb2⟩
   obtain rfl := hv2.int_inv
   have hJ2 := hJg _ _ _ _ hJs (Chg.of_below hb2)
   obtain ⟨fn, tmps, assign, body, hy, hR⟩ := hY (m - 1) U k (x, r) w2 hyk hJ2 (hnx.trans (Ext.of_below hb2)) (fun b hb => Nat.lt_of_lt_of_le (hU b hb) hb2.size)
   gi_wp2
   refine ⟨fun h => absurd h (by decide), hR.mono ?_⟩
   rintro e W3 ⟨U', hU', hk3, ⟨rfl, hJ3⟩ | ⟨rfl, hJx3⟩⟩
   ·gi_wp2
    go_roundw
    case rel => exact ⟨k + 1, U', by omega, by simp, hJ3, (hnx.trans (Ext.of_below hb2)).trans hk3, hU'⟩
    case measure => simp [zOf]; omega
   ·gi_wp2
    refine bodyPost_ret (results_none rfl _ _ _) rfl ?_
    exact ⟨⟨_, rfl⟩, U', .inr hJx3⟩
  ·obtain rfl : k = c.servers.length := by omega
   gi_wp2
   go_end0
   exact ⟨⟨_, rfl⟩, U, .inl (by rw [hyl]; exact hJs)⟩
theorem chain_rop {D : Nat → Prop} {w : World} {v : Value} {c : Chain} (hv : RV NP D w v (.rop (Chain.c c) 0 3)) : ∃ b o A cap, v = .pointer (some ⟨b, o, none⟩) ∧ D b ∧ w.cell? ⟨b, o, none⟩ = some (.int .i64 c.id) ∧ w.cell? ⟨b, o + 1, none⟩ = some (.int .i64 c.ver) ∧
  w.cell? ⟨b, o + 2, none⟩ = some (.slice A c.servers.length cap) ∧ c.servers.length ≤ 9223372036854775807 ∧ RV NP D w (.agg #[.int .i64 c.id, .int .i64 c.ver, .slice A c.servers.length cap]) (.agg (Chain.c c)) ∧
  ∀ (j : Nat) x, c.servers[j]? = some x → ∃ b off, A = some ⟨b, off, none⟩ ∧ D b ∧ w.cell? ⟨b, off + j, none⟩ = some (.int .i64 x) := by
 obtain ⟨b, o, cs, rfl, hl, hDb, hb, hr, -, hcs⟩ := hv.rop_inv
 match cs, hl with
 | [u, v, s], _ =>
  have h0 := hcs.2 0 u _ rfl rfl
  have h1 := hcs.2 1 v _ rfl rfl
  have h2 := hcs.2 2 s _ rfl rfl
  obtain rfl := h0.int_inv
  obtain rfl := h1.int_inv
  have h2' := h2
  obtain ⟨A, cap, rfl, k1, k2, k3⟩ := h2.list_inv
  rw [List.length_map] at hr k1 h2' hcs
  refine ⟨b, o, A, cap, rfl, hDb, by simpa using hr 0 _ rfl, by simpa using hr 1 _ rfl, by simpa using hr 2 _ rfl, by have : maxLen = 9223372036854775807 := rfl; omega, .agg [_, _, _] _ hcs.1 hcs.2, fun j x hx => ?_⟩
  obtain ⟨b3, o3, cs3, hA3, hD3, _, hr3, hl3, _, hv3⟩ := k3 j (ci .i64 x) (by rw [List.getElem?_map, hx]; rfl)
  match cs3, hl3 with
  | [u], _ =>
   have hu := hv3.2 0 u _ rfl (by rw [ci_eq]; rfl)
   rw [hu.int_inv] at hr3
   have := hr3 0 _ rfl
   exact ⟨b3, o3, hA3, hD3, by simpa using this⟩
theorem disks_rop {D : Nat → Prop} {w : World} {v : Value} {l : List Disk} (hv : RV NP D w v (.rop (cl 3 Disk.c l) 0 1)) : ∃ b o dv, v = .pointer (some ⟨b, o, none⟩) ∧ D b ∧ w.cell? ⟨b, o, none⟩ = some dv ∧ RV NP D w dv (.list 3 (l.map Disk.c)) := by
 obtain ⟨b, o, cs, rfl, hl, hDb, hb, hr, -, hcs⟩ := hv.rop_inv
 match cs, hl with
 | [sv], _ => exact ⟨b, o, sv, rfl, hDb, by simpa using hr 0 _ rfl, hcs.2 0 sv _ rfl (by rw [cl_eq]; rfl)⟩
theorem scrub_all_1_it {c1 : Chain} {disks1 : List Disk} {ys : List (Int × Int)} (H : scrub_all_1_f c1 disks1 = some ys) : IterC Tryz.prog 101 [.rop (Chain.c c1) 0 3, .rop (cl 3 Disk.c disks1) 0 1] (ys.map fun y => [.int .i64 y.1, .int .i64 y.2]) where
 enter := ⟨_, _, Tryz.func101, rfl, by decide⟩
 run := fun w D vs hD hG hv l J Jx U0 hJ hJx hY hU0 h0 m => by
  match vs, hv with
  | [vp, vq], hv =>
   obtain ⟨b1, o1, A, cap, rfl, hD1, q0, q1, q2, hle, hcv, hs⟩ := chain_rop (hv.2 0 vp _ rfl rfl)
   obtain ⟨b2, o2, dv, rfl, hD2, q3, hdv⟩ := disks_rop (hv.2 1 vq _ rfl rfl)
   have key := all1_in 9 l b1 o1 b2 o2 (Nat.le_refl _) A cap c1 disks1 ys H hle D w hD hG hD1 hD2 dv hdv hcv hs J Jx U0 hU0 (fun U k A B h c => hJ U k A B none h c (fun _ e => by cases e)) (fun m U k x W hx hj he hU => ?_) q0 q1 q2 q3 h0
   ·refine callsIn_wide.2 ((callsIn_wide.1 key).mono fun v B hR => ?_)
    rw [List.length_map]
    exact hR
   ·refine YieldAt.mono' (hY m U k [.int .i64 x.1, .int .i64 x.2] W D [.int .i64 x.1, .int .i64 x.2] (by rw [List.getElem?_map, hx]; rfl) hj (.cons (.int _ _) (.cons (.int _ _) .nil)) (fun b hb => ⟨Nat.lt_of_lt_of_le (hD b hb) he.size, .inl hb⟩) (Lay.gpk hG he (fun _ h _ => h))) fun v B hR => ?_
    obtain ⟨U', hU', hk, hR⟩ := hR
    exact ⟨U', fun b hb => (hU' b hb).1, kept_ext hk, hR⟩
  | [], hv => exact absurd hv.1 (by simp)
  | [_], hv => exact absurd hv.1 (by simp)
  | _ :: _ :: _ :: _, hv => exact absurd hv.1 (by simp)
end
end Go.Proofs.YtjflkcfafijhfaaGreat
