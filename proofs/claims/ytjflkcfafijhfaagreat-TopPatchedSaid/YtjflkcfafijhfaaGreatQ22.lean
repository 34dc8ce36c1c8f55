import Derived.Test.YtjflkcfafijhfaaGreatQ18
set_option linter.unusedSectionVars false
/- Records of numbers held against one another. -/
namespace Go.Proofs.YtjflkcfafijhfaaGreat
open Go.Ab
theorem eql176 (a b a' b' : Int) (w : World) : (binOp .eql 176 (.agg #[.int .i64 a, .int .i64 b]) (.agg #[.int .i64 a', .int .i64 b'])).run Tryz.prog w = .ok (.bool ((a == a') && (b == b'))) w := by
 have u3 := Tryz.underlying3
 have a3 := Tryz.isAgg3
 have z3 := Tryz.sizeOf3
 have hS : Tryz.prog.underlying 176 = some (.struct (Tryz.prog.fieldsOf 176)) := by kernel_rfl
 have hp : Tryz.prog.stoodInHeld 176 = false := by kernel_rfl
 rw [run_eql_struct, show (10000 : Nat) = 9999 + 1 from rfl, run_equalIn_agg w 9999 176 _ _ hS hp]
 simp only [Program.fieldsOf, Tryz.underlying176]
 go_simp
 by_cases h1 : a = a' <;> by_cases h2 : b = b' <;> simp [h1, h2]
end Go.Proofs.YtjflkcfafijhfaaGreat
/- Functions of the program as Lean functions, and that they are so; printed by a program of mine. -/
set_option linter.unusedSimpArgs false
set_option linter.unusedVariables false
set_option maxHeartbeats 4000000
set_option maxRecDepth 20000
namespace Go.Proofs.YtjflkcfafijhfaaGreat
open Go.Ab
open Nat (reduceAdd reduceMul reduceEqDiff reduceLT reduceLeDiff reduceSub)
noncomputable section
variable [Lay]
def math_bits_Len64_J3 (x4 : Int) (n3 : Int) : Option Int :=
 chk (0 ≤ (IntKind.wrap .u8 x4) ∧ (IntKind.wrap .u8 x4) < ((⟨#[0, 1, 2, 2, 3, 3, 3, 3, 4, 4, 4, 4, 4, 4, 4, 4, 5, 5, 5, 5, 5, 5, 5, 5, 5, 5, 5, 5, 5, 5, 5, 5, 6, 6, 6, 6, 6, 6, 6, 6, 6, 6, 6, 6, 6, 6, 6, 6, 6, 6, 6, 6, 6, 6, 6, 6, 6, 6, 6, 6, 6, 6, 6, 6, 7, 7, 7, 7, 7, 7, 7, 7, 7, 7, 7, 7, 7, 7, 7, 7, 7, 7, 7, 7, 7, 7, 7, 7, 7, 7, 7, 7, 7, 7, 7, 7, 7, 7, 7, 7, 7, 7, 7, 7, 7, 7, 7, 7, 7, 7, 7, 7, 7, 7, 7, 7, 7, 7, 7, 7, 7, 7, 7, 7, 7, 7, 7, 7, 8, 8, 8, 8, 8, 8, 8, 8, 8, 8, 8, 8, 8, 8, 8, 8, 8, 8, 8, 8, 8, 8, 8, 8, 8, 8, 8, 8, 8, 8, 8, 8, 8, 8, 8, 8, 8, 8, 8, 8, 8, 8, 8, 8, 8, 8, 8, 8, 8, 8, 8, 8, 8, 8, 8, 8, 8, 8, 8, 8, 8, 8, 8, 8, 8, 8, 8, 8, 8, 8, 8, 8, 8, 8, 8, 8, 8, 8, 8, 8, 8, 8, 8, 8, 8, 8, 8, 8, 8, 8, 8, 8, 8, 8, 8, 8, 8, 8, 8, 8, 8, 8, 8, 8, 8, 8, 8, 8, 8, 8, 8, 8, 8, 8, 8, 8, 8, 8, 8, 8, 8, 8, 8, 8, 8, 8, 8, 8]⟩ : ByteArray).size : Int)) (some ((IntKind.wrap .i64 (n3 + (IntKind.wrap .i64 (((⟨#[0, 1, 2, 2, 3, 3, 3, 3, 4, 4, 4, 4, 4, 4, 4, 4, 5, 5, 5, 5, 5, 5, 5, 5, 5, 5, 5, 5, 5, 5, 5, 5, 6, 6, 6, 6, 6, 6, 6, 6, 6, 6, 6, 6, 6, 6, 6, 6, 6, 6, 6, 6, 6, 6, 6, 6, 6, 6, 6, 6, 6, 6, 6, 6, 7, 7, 7, 7, 7, 7, 7, 7, 7, 7, 7, 7, 7, 7, 7, 7, 7, 7, 7, 7, 7, 7, 7, 7, 7, 7, 7, 7, 7, 7, 7, 7, 7, 7, 7, 7, 7, 7, 7, 7, 7, 7, 7, 7, 7, 7, 7, 7, 7, 7, 7, 7, 7, 7, 7, 7, 7, 7, 7, 7, 7, 7, 7, 7, 8, 8, 8, 8, 8, 8, 8, 8, 8, 8, 8, 8, 8, 8, 8, 8, 8, 8, 8, 8, 8, 8, 8, 8, 8, 8, 8, 8, 8, 8, 8, 8, 8, 8, 8, 8, 8, 8, 8, 8, 8, 8, 8, 8, 8, 8, 8, 8, 8, 8, 8, 8, 8, 8, 8, 8, 8, 8, 8, 8, 8, 8, 8, 8, 8, 8, 8, 8, 8, 8, 8, 8, 8, 8, 8, 8, 8, 8, 8, 8, 8, 8, 8, 8, 8, 8, 8, 8, 8, 8, 8, 8, 8, 8, 8, 8, 8, 8, 8, 8, 8, 8, 8, 8, 8, 8, 8, 8, 8, 8, 8, 8, 8, 8, 8, 8, 8, 8, 8, 8, 8, 8, 8, 8, 8, 8, 8, 8]⟩ : ByteArray).data.toList.getD (IntKind.wrap .u8 x4).toNat 0).toNat : Int))))))
def math_bits_Len64_J2 (x3 : Int) (n2 : Int) : Option Int :=
 cond (decide (256 ≤ x3)) (math_bits_Len64_J3 (Int.fdiv x3 (2 ^ (min 8 (IntKind.bits .u64)))) (IntKind.wrap .i64 (n2 + 8))) (math_bits_Len64_J3 x3 n2)
def math_bits_Len64_J1 (x2 : Int) (n1 : Int) : Option Int :=
 cond (decide (65536 ≤ x2)) (math_bits_Len64_J2 (Int.fdiv x2 (2 ^ (min 16 (IntKind.bits .u64)))) (IntKind.wrap .i64 (n1 + 16))) (math_bits_Len64_J2 x2 n1)
def math_bits_Len64_f (x1 : Int) : Option Int :=
 cond (decide (4294967296 ≤ x1)) (math_bits_Len64_J1 (Int.fdiv x1 (2 ^ (min 32 (IntKind.bits .u64)))) 32) (math_bits_Len64_J1 x1 0)
theorem math_bits_Len64_pc {x1 : Int} {r : Int} (H : math_bits_Len64_f x1 = some r) : PC Tryz.prog 154 [.int .u64 x1] (.int .i64 r) := by
 refine pcA_of Tryz.func154 (by rfl) (by decide) 25 (by rfl) [.tmp 2] (by rfl) ?_
 unfold math_bits_Len64_f at H
 simp only [ent]
 refine a_seq ?_
 refine a_reg _ rfl (s := ?zs1) ?_ ?_
 rotate_left
 ·refine goS ?_
  (repeat' apply And.intro) <;> first|rfl|assumption|omega|(simp;done)|(simp;omega)|(simp_all;done)
 refine sA_n ?_
 refine a_cut (fun s => ∃ (x2 : Int) (n1 : Int) (t0 : Nat → Dat), math_bits_Len64_J1 x2 n1 = some r ∧ s = ⟨tl t0 [(0, .int .u64 x2), (2, .int .i64 n1)], hl [], 0, 25⟩) ?_ ?_
 ·refine a_seq ?_
  refine a_reg _ rfl (s := ?zs9) ?_ ?_
  rotate_left
  ·refine goS ?_
   (repeat' apply And.intro) <;> first|rfl|assumption|omega|(simp;done)|(simp;omega)|(simp_all;done)
  refine sA_n ?_
  refine a_condb ((decide (4294967296 ≤ x1))) (by rfl) (fun zc3 => ?_) (fun zc3 => ?_)
  ·have H := cond_t zc3 H
   refine a_seq ?_
   refine a_reg _ rfl (s := ?zs10) ?_ ?_
   rotate_left
   ·refine goS ?_
    (repeat' apply And.intro) <;> first|rfl|assumption|omega|(simp;done)|(simp;omega)|(simp_all;done)
   refine sA_n ?_
   refine a_reg _ rfl (s := ?zs11) ?_ ?_
   rotate_left
   ·refine goS ?_
    (repeat' apply And.intro) <;> first|rfl|assumption|omega|(simp;done)|(simp;omega)|(simp_all;done)
   refine cA_n ?_
   refine wk_l [] [] [(0, .int .u64 (Int.fdiv x1 (2 ^ (min 32 (IntKind.bits .u64))))), (2, .int .i64 32)] ND ND ?_ ?_ (fun t0 => ⟨(Int.fdiv x1 (2 ^ (min 32 (IntKind.bits .u64)))), 32, t0, H, rfl⟩)
   ·exact ZZ
   ·exact ZT
  ·have H := cond_f zc3 H
   refine a_skip ?_
   refine cA_n ?_
   refine wk_l [] [] [(0, .int .u64 x1), (2, .int .i64 0)] ND ND ?_ ?_ (fun t0 => ⟨x1, 0, t0, H, rfl⟩)
   ·exact ZZ
   ·exact ZT
 ·rintro s ⟨x2, n1, t0, H, rfl⟩
  unfold math_bits_Len64_J1 at H
  refine a_cut (fun s => ∃ (x3 : Int) (n2 : Int) (t0 : Nat → Dat), math_bits_Len64_J2 x3 n2 = some r ∧ s = ⟨tl t0 [(0, .int .u64 x3), (2, .int .i64 n2)], hl [], 0, 25⟩) ?_ ?_
  ·refine a_seq ?_
   refine a_reg _ rfl (s := ?zs6) ?_ ?_
   rotate_left
   ·refine goS ?_
    (repeat' apply And.intro) <;> first|rfl|assumption|omega|(simp;done)|(simp;omega)|(simp_all;done)
   refine sA_n ?_
   refine a_condb ((decide (65536 ≤ x2))) (by rfl) (fun zc2 => ?_) (fun zc2 => ?_)
   ·have H := cond_t zc2 H
    refine a_seq ?_
    refine a_reg _ rfl (s := ?zs7) ?_ ?_
    rotate_left
    ·refine goS ?_
     (repeat' apply And.intro) <;> first|rfl|assumption|omega|(simp;done)|(simp;omega)|(simp_all;done)
    refine sA_n ?_
    refine a_reg _ rfl (s := ?zs8) ?_ ?_
    rotate_left
    ·refine goS ?_
     (repeat' apply And.intro) <;> first|rfl|assumption|omega|(simp;done)|(simp;omega)|(simp_all;done)
    refine cA_n ?_
    refine wk_l [] [] [(0, .int .u64 (Int.fdiv x2 (2 ^ (min 16 (IntKind.bits .u64))))), (2, .int .i64 (IntKind.wrap .i64 (n1 + 16)))] ND ND ?_ ?_ (fun t0 => ⟨(Int.fdiv x2 (2 ^ (min 16 (IntKind.bits .u64)))), (IntKind.wrap .i64 (n1 + 16)), t0, H, rfl⟩)
    ·exact ZZ
    ·exact ZT
   ·have H := cond_f zc2 H
    refine a_skip ?_
    refine cA_n ?_
    refine wk_l [] [] [(0, .int .u64 x2), (2, .int .i64 n1)] ND ND ?_ ?_ (fun t0 => ⟨x2, n1, t0, H, rfl⟩)
    ·exact ZZ
    ·exact ZT
  ·rintro s ⟨x3, n2, t0, H, rfl⟩
   unfold math_bits_Len64_J2 at H
   refine a_cut (fun s => ∃ (x4 : Int) (n3 : Int) (t0 : Nat → Dat), math_bits_Len64_J3 x4 n3 = some r ∧ s = ⟨tl t0 [(0, .int .u64 x4), (2, .int .i64 n3)], hl [], 0, 25⟩) ?_ ?_
   ·refine a_seq ?_
    refine a_reg _ rfl (s := ?zs3) ?_ ?_
    rotate_left
    ·refine goS ?_
     (repeat' apply And.intro) <;> first|rfl|assumption|omega|(simp;done)|(simp;omega)|(simp_all;done)
    refine sA_n ?_
    refine a_condb ((decide (256 ≤ x3))) (by rfl) (fun zc1 => ?_) (fun zc1 => ?_)
    ·have H := cond_t zc1 H
     refine a_seq ?_
     refine a_reg _ rfl (s := ?zs4) ?_ ?_
     rotate_left
     ·refine goS ?_
      (repeat' apply And.intro) <;> first|rfl|assumption|omega|(simp;done)|(simp;omega)|(simp_all;done)
     refine sA_n ?_
     refine a_reg _ rfl (s := ?zs5) ?_ ?_
     rotate_left
     ·refine goS ?_
      (repeat' apply And.intro) <;> first|rfl|assumption|omega|(simp;done)|(simp;omega)|(simp_all;done)
     refine cA_n ?_
     refine wk_l [] [] [(0, .int .u64 (Int.fdiv x3 (2 ^ (min 8 (IntKind.bits .u64))))), (2, .int .i64 (IntKind.wrap .i64 (n2 + 8)))] ND ND ?_ ?_ (fun t0 => ⟨(Int.fdiv x3 (2 ^ (min 8 (IntKind.bits .u64)))), (IntKind.wrap .i64 (n2 + 8)), t0, H, rfl⟩)
     ·exact ZZ
     ·exact ZT
    ·have H := cond_f zc1 H
     refine a_skip ?_
     refine cA_n ?_
     refine wk_l [] [] [(0, .int .u64 x3), (2, .int .i64 n2)] ND ND ?_ ?_ (fun t0 => ⟨x3, n2, t0, H, rfl⟩)
     ·exact ZZ
     ·exact ZT
   ·rintro s ⟨x4, n3, t0, H, rfl⟩
    unfold math_bits_Len64_J3 at H
    refine a_seq ?_
    obtain ⟨zh1, H⟩ := chk_some H
    refine a_reg _ rfl (s := ?zs2) ?_ ?_
    rotate_left
    ·refine goS ?_
     (repeat' apply And.intro) <;> first|rfl|assumption|omega|(simp;done)|(simp;omega)|(simp_all;done)
    refine sA_n ?_
    exact a_ret RT
def math_bits_Len_f (x1 : Int) : Option Int :=
 (math_bits_Len64_f x1).bind fun r1 => some (r1)
theorem math_bits_Len_pc {x1 : Int} {r : Int} (H : math_bits_Len_f x1 = some r) : PC Tryz.prog 115 [.int .u64 x1] (.int .i64 r) := by
 refine pcA_of Tryz.func115 (by rfl) (by decide) 8 (by rfl) [.tmp 2] (by rfl) ?_
 unfold math_bits_Len_f at H
 simp only [ent]
 refine a_seq ?_
 refine a_reg _ rfl (s := ?zs1) ?_ ?_
 rotate_left
 ·refine goS ?_
  (repeat' apply And.intro) <;> first|rfl|assumption|omega|(simp;done)|(simp;omega)|(simp_all;done)
 refine sA_n ?_
 refine a_seq ?_
 refine a_condb false (by first | rfl | (simp only [EVT, St.ev, datOf, datOf1, reduceEqDiff, ↓reduceIte]; done) | (simp only [EVT, St.ev, datOf, datOf1, reduceEqDiff, ↓reduceIte]; rfl) | (simp only [EVT, St.ev, datOf, datOf1, reduceEqDiff, ↓reduceIte]; simp_all; done)) (fun zc1 => absurd zc1 (by decide)) (fun zc1 => ?_)
 refine a_skip ?_
 refine sA_n ?_
 refine a_seq ?_
 obtain ⟨r1, zh1, H⟩ := bind_some H
 have zk1 := math_bits_Len64_pc zh1
 refine a_reg _ rfl (s := ?zs2) ?_ ?_
 rotate_left
 ·try refine goS ?_
  repeat' with_reducible apply And.intro
  all_goals try ((with_reducible show CallR _ _ _ _ _ _ _); refine cR_s zk1 ZZ (.int _ _) ?_; refine goS ?_)
  all_goals ((repeat' apply And.intro) <;> first|rfl|assumption|omega|(simp;done)|(simp;omega)|(simp_all;done))
 refine sA_n ?_
 exact a_ret RT
def cmp_isNaN_f (x1 : Int) : Option Bool :=
 some ((x1 != x1))
theorem cmp_isNaN_pc {x1 : Int} {r : Bool} (H : cmp_isNaN_f x1 = some r) : PC Tryz.prog 116 [.int .i64 x1] (.bool r) := by
 refine pcA_of Tryz.func116 (by rfl) (by decide) 6 (by rfl) [.tmp 2] (by rfl) ?_
 unfold cmp_isNaN_f at H
 simp only [ent]
 refine a_seq ?_
 refine a_reg _ rfl (s := ?zs1) ?_ ?_
 rotate_left
 ·refine goS ?_
  (repeat' apply And.intro) <;> first|rfl|assumption|omega|(simp;done)|(simp;omega)|(simp_all;done)
 refine sA_n ?_
 refine a_seq ?_
 refine a_reg _ rfl (s := ?zs2) ?_ ?_
 rotate_left
 ·refine goS ?_
  (repeat' apply And.intro) <;> first|rfl|assumption|omega|(simp;done)|(simp;omega)|(simp_all;done)
 refine sA_n ?_
 exact a_ret RT
def slices_AppendSeq_J1 (s2 : List Int) : Option (List Int) :=
 some (s2)
def slices_AppendSeq_L1 : List (Int) → (List Int) → Option (List Int)
 | [], s3 => slices_AppendSeq_J1 s3
 | y1 :: rest_, s3 => chk ((s3.length + 1) * 8 ≤ 140737488355328) (slices_AppendSeq_L1 rest_ (s3 ++ [y1]))
def slices_AppendSeq_f (s1 : List Int) (seq1 : List (Int)) : Option (List Int) :=
 slices_AppendSeq_L1 seq1 ([] : List Int)
theorem slices_AppendSeq_rc {s1 : List Int} {seq1 : List (Int)} {seq1_F : FuncId} {seq1_caps : List Dat} (seq1_it : IterC Tryz.prog seq1_F seq1_caps (seq1.map fun y => [.int .i64 y])) (seq1_pu : Pus seq1_caps) {r : (List Int)} (H : slices_AppendSeq_f s1 seq1 = some r) : RC Tryz.prog 143 [.nil, .fn (.func seq1_F) [] seq1_caps] [] 0 (.ref 0 0 r.length 1) [some ⟨3, 1, false, r.map (ci .i64)⟩] := by
 refine rcA_of Tryz.func143 (by rfl) (by decide) 13 (by rfl) [.tmp 4] (by rfl) ?_
 unfold slices_AppendSeq_f at H
 simp only [hent, List.length_cons, List.length_nil, reduceAdd]
 refine a_seq ?_
 refine a_reg _ rfl (s := ?zs1) ?_ ?_
 rotate_left
 ·refine goS ?_
  (repeat' apply And.intro) <;> first|rfl|assumption|omega|(simp;done)|(simp;omega)|(simp_all;done)
 refine sA_n ?_
 refine a_cut (fun s => ∃ (s2 : List Int) (t0 : Nat → Dat), slices_AppendSeq_J1 s2 = some r ∧ s = ⟨tl t0 [(2, .ptr 0 0 0 1)], hl [⟨28, 1, false, [[.ref 1 0 s2.length 1]]⟩, ⟨3, 1, false, s2.map (ci .i64)⟩], 2, 13⟩) ?_ ?_
 ·refine a_seq ?_
  refine a_reg _ rfl (s := ?zs3) ?_ ?_
  rotate_left
  ·refine goS ?_
   (repeat' apply And.intro) <;> first|rfl|assumption|omega|(simp;done)|(simp;omega)|(simp_all;done)
  refine sA_n ?_
  refine a_blk ?_
  refine a_weak (fun s => ∃ t0 : Nat → Dat, s = ⟨tl t0 [(2, .ptr 0 0 0 1), (6, .fn (.func seq1_F) [] seq1_caps)], hl [⟨28, 1, false, [[.ref 1 0 ([] : List Int).length 1]]⟩, ⟨3, 1, false, ([] : List Int).map (ci .i64)⟩], 2, 13⟩) ?_ ?_
  ·refine wk_l [(some 0, ⟨28, 1, false, [[.ref 1 0 ([] : List Int).length 1]]⟩), (none, ⟨3, 1, false, ([] : List Int).map (ci .i64)⟩)] [] [(2, .ptr 0 0 0 1), (6, .fn (.func seq1_F) [] seq1_caps)] ND ND ?_ ?_ (fun t0 => ⟨t0, rfl⟩)
   ·exact (allB_some (by rfl) rfl (.cons (.cons (.nilv _ _ rfl rfl) .nil) .nil) (allB_none rfl trivial))
   ·(simp only [AllT, ATT, reduceEqDiff, ↓reduceIte, and_true]); exact ⟨(.ptr _ _ _ _ _ rfl), (.fn' .nil (RNs.pu seq1_pu))⟩
  ·rintro s ⟨t0, rfl⟩
   refine a_rfT 1 [(2, .ptr 0 0 0 1), (6, .fn (.func seq1_F) [] seq1_caps)] [7] (fun y => [.int .i64 y]) seq1_it (fun (l : List (Int)) b => ∃ (s3 : List Int) (t9 : Unit), slices_AppendSeq_L1 l s3 = some r ∧ b = [⟨28, 1, false, [[.ref 1 0 s3.length 1]]⟩, ⟨3, 1, false, s3.map (ci .i64)⟩]) (fun _ _ => False) (by decide) rfl (fun _ => rfl) (by decide) rfl (RNs.pu seq1_pu) ⟨(.ptr _ _ _ _ _ rfl), ⟨(.fn' .nil (RNs.pu seq1_pu)), trivial⟩⟩ ⟨([] : List Int), (), H, rfl⟩ ?_ ?_ ?_
   ·rintro fe y1 rest_slices_AppendSeq_L1 b t0 ⟨s3, _, H, rfl⟩
    rw [slices_AppendSeq_L1] at H
    show aw _ _ _ _ _ ⟨tl t0 [(7, .int .i64 y1), (2, .ptr 0 0 0 1), (6, .fn (.func seq1_F) [] seq1_caps)], hl [⟨28, 1, false, [[.ref 1 0 s3.length 1]]⟩, ⟨3, 1, false, s3.map (ci .i64)⟩], 2, 13⟩
    refine a_reg _ rfl (s := ?zs4) ?_ ?_
    rotate_left
    ·refine goS ?_
     (repeat' apply And.intro) <;> first|rfl|assumption|omega|(simp;done)|(simp;omega)|(simp_all;done)
    refine rfA_n ?_
    refine a_blk ?_
    obtain ⟨zh1, H⟩ := chk_some H
    refine a_reg _ rfl (s := ?zs5) ?_ ?_
    rotate_left
    ·refine goS ?_
     (repeat' apply And.intro) <;> first|rfl|assumption|omega|(simp;done)|(simp;omega)|(simp_all;done)
    refine bA_n ?_
    refine rf_n ?_
    refine wk_ln 1 [(some 0, ⟨28, 1, false, [[.ref 1 0 (s3 ++ [y1]).length 1]]⟩), (some 13, ⟨3, 1, false, (s3 ++ [y1]).map (ci .i64)⟩)] [] [] LW ND ND ?_ ?_ (fun t0 => ⟨_, ⟨(s3 ++ [y1]), (), H, rfl⟩, rfl, rfl⟩)
    ·exact ZZ
    ·exact ZT
   ·rintro b t0 ⟨s3, _, H, rfl⟩
    rw [slices_AppendSeq_L1] at H
    simp only [List.length_cons, List.length_nil, reduceAdd]
    refine bA_n ?_
    refine cA_n ?_
    refine wk_l [(some 0, ⟨28, 1, false, [[.ref 1 0 s3.length 1]]⟩), (some 1, ⟨3, 1, false, s3.map (ci .i64)⟩)] [] [(2, .ptr 0 0 0 1)] ND ND ?_ ?_ (fun t0 => ⟨s3, t0, H, rfl⟩)
    ·exact ZZ
    ·exact ZT
   ·rintro c b t0 h
    exact h.elim
 ·rintro s ⟨s2, t0, H, rfl⟩
  unfold slices_AppendSeq_J1 at H
  refine a_seq ?_
  refine a_reg _ rfl (s := ?zs2) ?_ ?_
  rotate_left
  ·refine goS ?_
   (repeat' apply And.intro) <;> first|rfl|assumption|omega|(simp;done)|(simp;omega)|(simp_all;done)
  refine sA_n ?_
  refine a_ret ?_
  obtain rfl := Option.some.inj H
  refine eR_r ?_
  refine wk_ln 0 [(some 1, ⟨3, 1, false, s2.map (ci .i64)⟩)] [] [(4, .ref 0 0 s2.length 1)] (fun i h => absurd h (Nat.not_lt_zero i)) ND ND ?_ ?_ (fun t0 => ⟨RS2, RJ⟩)
  ·exact ZZ
  ·exact ZT
def slices_Collect_f (seq1 : List (Int)) : Option (List Int) :=
 (slices_AppendSeq_f [] seq1).bind fun r1 => some (r1)
theorem slices_Collect_rc {seq1 : List (Int)} {seq1_F : FuncId} {seq1_caps : List Dat} (seq1_it : IterC Tryz.prog seq1_F seq1_caps (seq1.map fun y => [.int .i64 y])) (seq1_pu : Pus seq1_caps) {r : (List Int)} (H : slices_Collect_f seq1 = some r) : RC Tryz.prog 110 [.fn (.func seq1_F) [] seq1_caps] [] 0 (.ref 0 0 r.length 1) [some ⟨3, 1, false, r.map (ci .i64)⟩] := by
 refine rcA_of Tryz.func110 (by rfl) (by decide) 5 (by rfl) [.tmp 2] (by rfl) ?_
 unfold slices_Collect_f at H
 simp only [hent, List.length_cons, List.length_nil, reduceAdd]
 refine a_seq ?_
 refine a_reg _ rfl (s := ?zs1) ?_ ?_
 rotate_left
 ·refine goS ?_
  (repeat' apply And.intro) <;> first|rfl|assumption|omega|(simp;done)|(simp;omega)|(simp_all;done)
 refine sA_n ?_
 refine a_seq ?_
 obtain ⟨r1, zh1, H⟩ := bind_some H
 have zk1 := slices_AppendSeq_rc (seq1 := seq1) (seq1_F := seq1_F) (seq1_caps := seq1_caps) seq1_it seq1_pu zh1
 refine a_reg _ rfl (s := ?zs2) ?_ ?_
 rotate_left
 ·try refine goS ?_
  repeat' with_reducible apply And.intro
  all_goals try ((with_reducible show CallR _ _ _ _ _ _ _); refine callR_ownm (l := r1) (c := (ci .i64)) [] zk1 (ci_sc .i64) (.cons .nil' (.cons (.fn' .nil (RNs.pu seq1_pu)) .nil)) ?_; refine goS ?_)
  all_goals ((repeat' apply And.intro) <;> first|rfl|assumption|omega|(simp;done)|(simp;omega)|(simp_all;done))
 refine sA_n ?_
 refine a_ret ?_
 obtain rfl := Option.some.inj H
 refine eR_r ?_
 refine wk_ln 0 [(some 9, ⟨3, 1, false, r1.map (ci .i64)⟩)] [] [(2, .ref 0 0 r1.length 1)] (fun i h => absurd h (Nat.not_lt_zero i)) ND ND ?_ ?_ (fun t0 => ⟨RS2, RJ⟩)
 ·exact ZZ
 ·exact ZT
def cmp_Less_f (x1 : Int) (y1 : Int) : Option Bool :=
 (cmp_isNaN_f x1).bind fun r1 => cond r1 ((cmp_isNaN_f y1).bind fun r2 => some ((!r2) || (decide (x1 < y1)))) (some ((decide (x1 < y1))))
theorem cmp_Less_pc {x1 : Int} {y1 : Int} {r : Bool} (H : cmp_Less_f x1 y1 = some r) : PC Tryz.prog 168 [.int .i64 x1, .int .i64 y1] (.bool r) := by
 refine pcA_of Tryz.func168 (by rfl) (by decide) 17 (by rfl) [.tmp 4] (by rfl) ?_
 unfold cmp_Less_f at H
 simp only [ent]
 refine a_seq ?_
 refine a_reg _ rfl (s := ?zs1) ?_ ?_
 rotate_left
 ·refine goS ?_
  (repeat' apply And.intro) <;> first|rfl|assumption|omega|(simp;done)|(simp;omega)|(simp_all;done)
 refine sA_n ?_
 refine a_seq ?_
 obtain ⟨r1, zh1, H⟩ := bind_some H
 have zk1 := cmp_isNaN_pc zh1
 refine cnd H (fun zc1 H => ?_) (fun zc1 H => ?_)
 ·obtain ⟨r2, zh2, H⟩ := bind_some H
  have zk2 := cmp_isNaN_pc zh2
  refine bool_split (b := (!r2)) (fun zc2 => ?_) (fun zc2 => ?_)
  ·rw [zc2] at H
   refine a_reg _ rfl (s := ?zs2) ?_ ?_
   rotate_left
   ·try refine goS ?_
    repeat' with_reducible apply And.intro
    all_goals try ((with_reducible show CallR _ _ _ _ _ _ _); refine cR_s zk1 ZZ (.bool _) ?_; refine goS ?_)
    repeat' with_reducible apply And.intro
    all_goals try ((with_reducible show CallR _ _ _ _ _ _ _); refine cR_s zk2 ZZ (.bool _) ?_; refine goS ?_)
    all_goals ((repeat' apply And.intro) <;> first|rfl|assumption|omega|(simp;done)|(simp;omega)|(simp_all;done))
   refine sA_n ?_
   exact a_ret RT
  ·rw [zc2] at H
   refine a_reg _ rfl (s := ?zs3) ?_ ?_
   rotate_left
   ·try refine goS ?_
    repeat' with_reducible apply And.intro
    all_goals try ((with_reducible show CallR _ _ _ _ _ _ _); refine cR_s zk1 ZZ (.bool _) ?_; refine goS ?_)
    repeat' with_reducible apply And.intro
    all_goals try ((with_reducible show CallR _ _ _ _ _ _ _); refine cR_s zk2 ZZ (.bool _) ?_; refine goS ?_)
    all_goals ((repeat' apply And.intro) <;> first|rfl|assumption|omega|(simp;done)|(simp;omega)|(simp_all;done))
   refine sA_n ?_
   refine a_ret ?_
   obtain rfl := Option.some.inj H
   refine e_r2 (d := ?zd2) ?_ ?_
   rotate_left
   ·simp only [EVT, resR, single, evLoad, cut, TIS, CS, reduceAdd, reduceEqDiff, ↓reduceIte, reduceCtorEq, reduceLT, reduceLeDiff, reduceSub, Nat.reduceBEq, zc1, zc2]
    (repeat' apply And.intro) <;> first | rfl | assumption | omega | (simp; done)
   exact ZZ
 ·refine a_reg _ rfl (s := ?zs4) ?_ ?_
  rotate_left
  ·try refine goS ?_
   repeat' with_reducible apply And.intro
   all_goals try ((with_reducible show CallR _ _ _ _ _ _ _); refine cR_s zk1 ZZ (.bool _) ?_; refine goS ?_)
   all_goals ((repeat' apply And.intro) <;> first|rfl|assumption|omega|(simp;done)|(simp;omega)|(simp_all;done))
  refine sA_n ?_
  refine a_ret ?_
  obtain rfl := Option.some.inj H
  refine e_r2 (d := ?zd3) ?_ ?_
  rotate_left
  ·simp only [EVT, resR, single, evLoad, cut, TIS, CS, reduceAdd, reduceEqDiff, ↓reduceIte, reduceCtorEq, reduceLT, reduceLeDiff, reduceSub, Nat.reduceBEq, zc1]
   (repeat' apply And.intro) <;> first | rfl | assumption | omega | (simp; done)
  exact ZZ
def slices_insertionSortOrdered_J1 (k_slices_insertionSortOrdered_L1 : (List Int) → Int → Option (List Int)) (i1 : Int) (data3 : List Int) : Option (List Int) :=
 k_slices_insertionSortOrdered_L1 data3 (IntKind.wrap .i64 (i1 + 1))
def slices_insertionSortOrdered_J2 (k_slices_insertionSortOrdered_L2 : (List Int) → Int → Option (List Int)) (k_slices_insertionSortOrdered_L1 : (List Int) → Int → Option (List Int)) (data4 : List Int) (j1 : Int) (i1 : Int) (v1 : Bool) : Option (List Int) :=
 cond v1 ((idx data4 (IntKind.wrap .i64 (j1 - 1))).bind fun x1 => (idx data4 j1).bind fun x2 => (idx (data4.set j1.toNat x1) (IntKind.wrap .i64 (j1 - 1))).bind fun x3 => k_slices_insertionSortOrdered_L2 ((data4.set j1.toNat x1).set ((IntKind.wrap .i64 (j1 - 1)).toNat) x2) (IntKind.wrap .i64 (j1 - 1))) (slices_insertionSortOrdered_J1 k_slices_insertionSortOrdered_L1 i1 data4)
def slices_insertionSortOrdered_L2 (k_slices_insertionSortOrdered_L1 : (List Int) → Int → Option (List Int)) (a1 : Int) (i1 : Int) : Nat → (List Int) → Int → Option (List Int)
 | 0, _, _ => none
 | m_ + 1, data4, j1 => cond (decide (a1 < j1)) ((idx data4 j1).bind fun x4 => (idx data4 (IntKind.wrap .i64 (j1 - 1))).bind fun x5 => (cmp_Less_f x4 x5).bind fun r1 => slices_insertionSortOrdered_J2 (slices_insertionSortOrdered_L2 k_slices_insertionSortOrdered_L1 a1 i1 m_) k_slices_insertionSortOrdered_L1 data4 j1 i1 r1) (slices_insertionSortOrdered_J2 (slices_insertionSortOrdered_L2 k_slices_insertionSortOrdered_L1 a1 i1 m_) k_slices_insertionSortOrdered_L1 data4 j1 i1 false)
def slices_insertionSortOrdered_L1 (b1 : Int) (a1 : Int) : Nat → (List Int) → Int → Option (List Int)
 | 0, _, _ => none
 | m_ + 1, data2, i1 => cond (decide (i1 < b1)) (slices_insertionSortOrdered_L2 (slices_insertionSortOrdered_L1 b1 a1 m_) a1 i1 BIG data2 i1) (some (data2))
def slices_insertionSortOrdered_f (data1 : List Int) (a1 : Int) (b1 : Int) : Option (List Int) :=
 slices_insertionSortOrdered_L1 b1 a1 BIG data1 (IntKind.wrap .i64 (a1 + 1))
theorem slices_insertionSortOrdered_rc {data1 : List Int} {a1 : Int} {b1 : Int} {r : (List Int)} (H : slices_insertionSortOrdered_f data1 a1 b1 = some r) : RC Tryz.prog 162 [.ref 0 0 data1.length 1, .int .i64 a1, .int .i64 b1] [⟨3, 1, false, data1.map (ci .i64)⟩] 1 (.tup []) [some ⟨3, 1, false, r.map (ci .i64)⟩] := by
 refine rcA_of Tryz.func162 (by rfl) (by decide) 49 (by rfl) [] (by rfl) ?_
 unfold slices_insertionSortOrdered_f at H
 simp only [hent, List.length_cons, List.length_nil, reduceAdd]
 refine a_seq ?_
 refine a_reg _ rfl (s := ?zs1) ?_ ?_
 rotate_left
 ·refine goS ?_
  (repeat' apply And.intro) <;> first|rfl|assumption|omega|(simp;done)|(simp;omega)|(simp_all;done)
 refine sA_n ?_
 refine a_blk ?_
 refine a_loop (fun m s => ∃ (data2 : List Int) (i1 : Int) (t0 : Nat → Dat), slices_insertionSortOrdered_L1 b1 a1 m data2 i1 = some r ∧ s = ⟨tl t0 [(0, .ref 0 0 data2.length 1), (1, .int .i64 a1), (2, .int .i64 b1), (6, .int .i64 i1)], hl [⟨3, 1, false, data2.map (ci .i64)⟩], 1, 49⟩) BIG ?_ ?_
 ·refine wk_ln 1 [(some 0, ⟨3, 1, false, data1.map (ci .i64)⟩)] [] [(0, .ref 0 0 data1.length 1), (1, .int .i64 a1), (2, .int .i64 b1), (6, .int .i64 (IntKind.wrap .i64 (a1 + 1)))] LW ND ND ?_ ?_ (fun t0 => ⟨data1, (IntKind.wrap .i64 (a1 + 1)), t0, H, rfl⟩)
  ·exact ZZ
  ·exact ZT
 ·rintro m_slices_insertionSortOrdered_L1 s ⟨data2, i1, t0, H, rfl⟩
  obtain _ | m_slices_insertionSortOrdered_L1 := m_slices_insertionSortOrdered_L1
  ·cases (show (none : Option _) = some _ from H)
  ·rw [slices_insertionSortOrdered_L1] at H
   refine a_seq ?_
   refine a_seq ?_
   refine a_reg _ rfl (s := ?zs2) ?_ ?_
   rotate_left
   ·refine goS ?_
    (repeat' apply And.intro) <;> first|rfl|assumption|omega|(simp;done)|(simp;omega)|(simp_all;done)
   refine sA_n ?_
   refine a_condb ((decide (i1 < b1))) (by rfl) (fun zc1 => ?_) (fun zc1 => ?_)
   ·have H := cond_t zc1 H
    refine a_skip ?_
    refine sA_n ?_
    refine a_cut (fun s => ∃ (data3 : List Int) (t0 : Nat → Dat), slices_insertionSortOrdered_J1 (slices_insertionSortOrdered_L1 b1 a1 m_slices_insertionSortOrdered_L1) i1 data3 = some r ∧ s = ⟨tl t0 [(0, .ref 0 0 data3.length 1), (1, .int .i64 a1), (2, .int .i64 b1), (6, .int .i64 i1)], hl [⟨3, 1, false, data3.map (ci .i64)⟩], 1, 49⟩) ?_ ?_
    ·refine a_blk ?_
     refine a_seq ?_
     refine a_reg _ rfl (s := ?zs4) ?_ ?_
     rotate_left
     ·refine goS ?_
      (repeat' apply And.intro) <;> first|rfl|assumption|omega|(simp;done)|(simp;omega)|(simp_all;done)
     refine sA_n ?_
     refine a_blk ?_
     refine a_loop (fun m s => ∃ (data4 : List Int) (j1 : Int) (t0 : Nat → Dat), slices_insertionSortOrdered_L2 (slices_insertionSortOrdered_L1 b1 a1 m_slices_insertionSortOrdered_L1) a1 i1 m data4 j1 = some r ∧ s = ⟨tl t0 [(0, .ref 0 0 data4.length 1), (1, .int .i64 a1), (2, .int .i64 b1), (6, .int .i64 i1), (7, .int .i64 j1)], hl [⟨3, 1, false, data4.map (ci .i64)⟩], 1, 49⟩) BIG ?_ ?_
     ·refine wk_ln 1 [(some 0, ⟨3, 1, false, data2.map (ci .i64)⟩)] [] [(0, .ref 0 0 data2.length 1), (1, .int .i64 a1), (2, .int .i64 b1), (6, .int .i64 i1), (7, .int .i64 i1)] LW ND ND ?_ ?_ (fun t0 => ⟨data2, i1, t0, H, rfl⟩)
      ·exact ZZ
      ·exact ZT
     ·rintro m_slices_insertionSortOrdered_L2 s ⟨data4, j1, t0, H, rfl⟩
      obtain _ | m_slices_insertionSortOrdered_L2 := m_slices_insertionSortOrdered_L2
      ·cases (show (none : Option _) = some _ from H)
      ·rw [slices_insertionSortOrdered_L2] at H
       refine a_seq ?_
       refine a_cut (fun s => ∃ (v1 : Bool) (t0 : Nat → Dat), slices_insertionSortOrdered_J2 (slices_insertionSortOrdered_L2 (slices_insertionSortOrdered_L1 b1 a1 m_slices_insertionSortOrdered_L1) a1 i1 m_slices_insertionSortOrdered_L2) (slices_insertionSortOrdered_L1 b1 a1 m_slices_insertionSortOrdered_L1) data4 j1 i1 v1 = some r ∧ s = ⟨tl t0 [(0, .ref 0 0 data4.length 1), (1, .int .i64 a1), (2, .int .i64 b1), (6, .int .i64 i1), (7, .int .i64 j1), (30, .bool v1)], hl [⟨3, 1, false, data4.map (ci .i64)⟩], 1, 49⟩) ?_ ?_
       ·refine cnd H (fun zc3 H => ?_) (fun zc3 H => ?_)
        ·obtain ⟨x4, zh4, H⟩ := bind_some H
         obtain ⟨zg4, zh4a, zh4b⟩ := idx3 (f := (ci .i64)) zh4
         try simp only [Int.reduceToNat, Int.toNat_natCast] at zg4
         obtain ⟨x5, zh5, H⟩ := bind_some H
         obtain ⟨zg5, zh5a, zh5b⟩ := idx3 (f := (ci .i64)) zh5
         try simp only [Int.reduceToNat, Int.toNat_natCast] at zg5
         obtain ⟨r1, zh6, H⟩ := bind_some H
         have zk1 := cmp_Less_pc zh6
         refine a_drW (by kernel_rfl) _ rfl (s := ?zs7) (by kernel_rfl) (by kernel_rfl) ?zs7f ?_ ?_ ?_
         rotate_left 2
         ·try refine goS ?_
          repeat' with_reducible apply And.intro
          all_goals try ((with_reducible show CallW _ _ _ _ _ _ _); refine cW_s [] zk1 (fun h2 e => ZZ) (.bool _) ?_; refine goS ?_)
          all_goals exact CLS
         ·kernel_rfl
         refine cA_n ?_
         refine wk_ln 1 [(some 0, ⟨3, 1, false, data4.map (ci .i64)⟩)] [] [(0, .ref 0 0 data4.length 1), (1, .int .i64 a1), (2, .int .i64 b1), (6, .int .i64 i1), (7, .int .i64 j1), (30, .bool r1)] LW ND ND ?_ ?_ (fun t0 => ⟨r1, t0, H, rfl⟩)
         ·exact ZZ
         ·exact ZT
        ·refine a_drW (by kernel_rfl) _ rfl (s := ?zs8) (by kernel_rfl) (by kernel_rfl) ?zs8f ?_ ?_ ?_
         rotate_left 2
         ·refine goS ?_
          try refine goS ?_
          exact CLS
         ·kernel_rfl
         refine cA_n ?_
         refine wk_ln 1 [(some 0, ⟨3, 1, false, data4.map (ci .i64)⟩)] [] [(0, .ref 0 0 data4.length 1), (1, .int .i64 a1), (2, .int .i64 b1), (6, .int .i64 i1), (7, .int .i64 j1), (30, .bool false)] LW ND ND ?_ ?_ (fun t0 => ⟨false, t0, H, rfl⟩)
         ·exact ZZ
         ·exact ZT
       ·rintro s ⟨v1, t0, H, rfl⟩
        unfold slices_insertionSortOrdered_J2 at H
        refine a_condb (v1) (by rfl) (fun zc2 => ?_) (fun zc2 => ?_)
        ·have H := cond_t zc2 H
         refine a_skip ?_
         refine sA_n ?_
         refine a_seq ?_
         refine a_blk ?_
         obtain ⟨x1, zh1, H⟩ := bind_some H
         obtain ⟨zg1, zh1a, zh1b⟩ := idx3 (f := (ci .i64)) zh1
         try simp only [Int.reduceToNat, Int.toNat_natCast] at zg1
         obtain ⟨x2, zh2, H⟩ := bind_some H
         obtain ⟨zg2, zh2a, zh2b⟩ := idx3 (f := (ci .i64)) zh2
         try simp only [Int.reduceToNat, Int.toNat_natCast] at zg2
         obtain ⟨x3, zh3, H⟩ := bind_some H
         have zg3 := idx_map zh3 (ci .i64)
         try simp only [Int.reduceToNat, Int.toNat_natCast, List.map_set, ci_eq, cb_eq, cs_eq] at zg3
         obtain ⟨zh3a, zh3b, _⟩ := idx_some zh3
         refine a_drW (by kernel_rfl) _ rfl (s := ?zs5) (by kernel_rfl) (by kernel_rfl) ?zs5f ?_ ?_ ?_
         rotate_left 2
         ·refine goS ?_
          exact CLS
         ·kernel_rfl
         refine bA_n ?_
         refine sA_n ?_
         refine a_reg _ rfl (s := ?zs6) ?_ ?_
         rotate_left
         ·refine goS ?_
          (repeat' apply And.intro) <;> first|rfl|assumption|omega|(simp;done)|(simp;omega)|(simp_all;done)
         refine lA_n ?_
         refine wk_ln 1 [(some 0, ⟨3, 1, false, ((data4.set j1.toNat x1).set ((IntKind.wrap .i64 (j1 - 1)).toNat) x2).map (ci .i64)⟩)] [] [(0, .ref 0 0 ((data4.set j1.toNat x1).set ((IntKind.wrap .i64 (j1 - 1)).toNat) x2).length 1), (1, .int .i64 a1), (2, .int .i64 b1), (6, .int .i64 i1), (7, .int .i64 (IntKind.wrap .i64 (j1 - 1)))] LW ND ND ?_ ?_ (fun t0 => ⟨_, Nat.lt_succ_self _, ((data4.set j1.toNat x1).set ((IntKind.wrap .i64 (j1 - 1)).toNat) x2), (IntKind.wrap .i64 (j1 - 1)), t0, H, rfl⟩)
         ·exact ZZ
         ·exact ZT
        ·have H := cond_f zc2 H
         refine a_exit ?_
         refine sA_e ?_
         refine lA_e ?_
         refine bA_hit ?_
         refine bA_n ?_
         refine cA_n ?_
         refine wk_ln 1 [(some 0, ⟨3, 1, false, data4.map (ci .i64)⟩)] [] [(0, .ref 0 0 data4.length 1), (1, .int .i64 a1), (2, .int .i64 b1), (6, .int .i64 i1)] LW ND ND ?_ ?_ (fun t0 => ⟨data4, t0, H, rfl⟩)
         ·exact ZZ
         ·exact ZT
    ·rintro s ⟨data3, t0, H, rfl⟩
     unfold slices_insertionSortOrdered_J1 at H
     refine a_reg _ rfl (s := ?zs3) ?_ ?_
     rotate_left
     ·refine goS ?_
      (repeat' apply And.intro) <;> first|rfl|assumption|omega|(simp;done)|(simp;omega)|(simp_all;done)
     refine lA_n ?_
     refine wk_ln 1 [(some 0, ⟨3, 1, false, data3.map (ci .i64)⟩)] [] [(0, .ref 0 0 data3.length 1), (1, .int .i64 a1), (2, .int .i64 b1), (6, .int .i64 (IntKind.wrap .i64 (i1 + 1)))] LW ND ND ?_ ?_ (fun t0 => ⟨_, Nat.lt_succ_self _, data3, (IntKind.wrap .i64 (i1 + 1)), t0, H, rfl⟩)
     ·exact ZZ
     ·exact ZT
   ·have H := cond_f zc1 H
    refine a_exit ?_
    refine sA_e ?_
    refine lA_e ?_
    refine bA_hit ?_
    obtain rfl := Option.some.inj H
    refine eR_n ?_
    refine wk_ln 1 [(some 0, ⟨3, 1, false, data2.map (ci .i64)⟩)] [] [] LW ND ND ?_ ?_ (fun t0 => ⟨RS2, RJ⟩)
    ·exact ZZ
    ·exact ZT
def slices_pdqsortOrdered_L1 (b1 : Int) (a1 : Int) (data1 : List Int) : Nat → Option (List Int)
 | 0 => none
 | m_ + 1 => chk ((decide ((IntKind.wrap .i64 (b1 - a1)) ≤ 12)) = true) ((slices_insertionSortOrdered_f data1 a1 b1).bind fun r1 => chk (r1.length = data1.length) (some (r1)))
def slices_pdqsortOrdered_f (data1 : List Int) (a1 : Int) (b1 : Int) (limit1 : Int) : Option (List Int) :=
 slices_pdqsortOrdered_L1 b1 a1 data1 BIG
theorem slices_pdqsortOrdered_rc {data1 : List Int} {a1 : Int} {b1 : Int} {limit1 : Int} {r : (List Int)} (H : slices_pdqsortOrdered_f data1 a1 b1 limit1 = some r) : RC Tryz.prog 144 [.ref 0 0 data1.length 1, .int .i64 a1, .int .i64 b1, .int .i64 limit1] [⟨3, 1, false, data1.map (ci .i64)⟩] 1 (.tup []) [some ⟨3, 1, false, r.map (ci .i64)⟩] := by
 refine rcA_of Tryz.func144 (by rfl) (by decide) 134 (by rfl) [] (by rfl) ?_
 unfold slices_pdqsortOrdered_f at H
 simp only [hent, List.length_cons, List.length_nil, reduceAdd]
 refine a_seq ?_
 refine a_reg _ rfl (s := ?zs1) ?_ ?_
 rotate_left
 ·refine goS ?_
  (repeat' apply And.intro) <;> first|rfl|assumption|omega|(simp;done)|(simp;omega)|(simp_all;done)
 refine sA_n ?_
 refine a_seq ?_
 refine a_reg _ rfl (s := ?zs2) ?_ ?_
 rotate_left
 ·refine goS ?_
  (repeat' apply And.intro) <;> first|rfl|assumption|omega|(simp;done)|(simp;omega)|(simp_all;done)
 refine sA_n ?_
 refine a_blk ?_
 refine a_loop (fun m s => ∃ (t0 : Nat → Dat), slices_pdqsortOrdered_L1 b1 a1 data1 m = some r ∧ s = ⟨tl t0 [(0, .ref 0 0 data1.length 1), (1, .int .i64 a1), (2, .int .i64 b1), (3, .int .i64 limit1), (8, .bool true), (9, .bool true)], hl [⟨3, 1, false, data1.map (ci .i64)⟩], 1, 134⟩) BIG ?_ ?_
 ·refine wk_ln 1 [(some 0, ⟨3, 1, false, data1.map (ci .i64)⟩)] [] [(0, .ref 0 0 data1.length 1), (1, .int .i64 a1), (2, .int .i64 b1), (3, .int .i64 limit1), (8, .bool true), (9, .bool true)] LW ND ND ?_ ?_ (fun t0 => ⟨t0, H, rfl⟩)
  ·exact ZZ
  ·exact ZT
 ·rintro m_slices_pdqsortOrdered_L1 s ⟨t0, H, rfl⟩
  obtain _ | m_slices_pdqsortOrdered_L1 := m_slices_pdqsortOrdered_L1
  ·cases (show (none : Option _) = some _ from H)
  ·rw [slices_pdqsortOrdered_L1] at H
   refine a_blk ?_
   refine a_seq ?_
   refine a_reg _ rfl (s := ?zs3) ?_ ?_
   rotate_left
   ·refine goS ?_
    (repeat' apply And.intro) <;> first|rfl|assumption|omega|(simp;done)|(simp;omega)|(simp_all;done)
   refine sA_n ?_
   refine a_seq ?_
   refine a_seq ?_
   refine a_reg _ rfl (s := ?zs4) ?_ ?_
   rotate_left
   ·refine goS ?_
    (repeat' apply And.intro) <;> first|rfl|assumption|omega|(simp;done)|(simp;omega)|(simp_all;done)
   refine sA_n ?_
   obtain ⟨zh1, H⟩ := chk_some H
   refine a_condb ((decide ((IntKind.wrap .i64 (b1 - a1)) ≤ 12))) (by rfl) (fun zc1 => ?_) (fun zc1x => absurd (zc1x.symm.trans zh1) (by decide))
   ·try skip
    refine a_seq ?_
    obtain ⟨r1, zh2, H⟩ := bind_some H
    have zk1 := slices_insertionSortOrdered_rc zh2
    obtain ⟨zh3, H⟩ := chk_some H
    refine a_reg _ rfl (s := ?zs5) ?_ ?_
    rotate_left
    ·try refine goS ?_
     repeat' with_reducible apply And.intro
     all_goals try ((with_reducible show CallR _ _ _ _ _ _ _); refine callR_rcw (r' := .tup []) [(0, none), (0, some ⟨3, 1, false, r1.map (ci .i64)⟩)] [(some 0, _)] [] [(0, 0, _)] EQA zk1 (by simp) ND ZZ ZZ ND ND ZZ ZZ ?_; refine goS ?_)
     all_goals ((repeat' apply And.intro) <;> first|rfl|assumption|omega|(simp;done)|(simp;omega)|(simp_all;done))
    refine sA_n ?_
    refine a_ret ?_
    refine sA_r ?_
    refine bA_r ?_
    refine lA_r ?_
    refine bA_r ?_
    obtain rfl := Option.some.inj H
    refine eR_r ?_
    refine wk_ln 1 [(some 0, ⟨3, 1, false, r1.map (ci .i64)⟩)] [] [] LW ND ND ?_ ?_ (fun t0 => ⟨RS2, RJ⟩)
    ·exact ZZ
    ·exact ZT
def slices_Sort_f (x1 : List Int) : Option (List Int) :=
 (math_bits_Len_f (IntKind.wrap .u64 (((x1.length : Nat)) : Int))).bind fun r1 => (slices_pdqsortOrdered_f x1 0 (((x1.length : Nat)) : Int) r1).bind fun r2 => chk (r2.length = x1.length) (some (r2))
theorem slices_Sort_rc {x1 : List Int} {r : (List Int)} (H : slices_Sort_f x1 = some r) : RC Tryz.prog 111 [.ref 0 0 x1.length 1] [⟨3, 1, false, x1.map (ci .i64)⟩] 1 (.tup []) [some ⟨3, 1, false, r.map (ci .i64)⟩] := by
 refine rcA_of Tryz.func111 (by rfl) (by decide) 11 (by rfl) [] (by rfl) ?_
 unfold slices_Sort_f at H
 simp only [hent, List.length_cons, List.length_nil, reduceAdd]
 refine a_seq ?_
 refine a_reg _ rfl (s := ?zs1) ?_ ?_
 rotate_left
 ·refine goS ?_
  (repeat' apply And.intro) <;> first|rfl|assumption|omega|(simp;done)|(simp;omega)|(simp_all;done)
 refine sA_n ?_
 obtain ⟨r1, zh1, H⟩ := bind_some H
 have zk1 := math_bits_Len_pc zh1
 obtain ⟨r2, zh2, H⟩ := bind_some H
 have zk2 := slices_pdqsortOrdered_rc zh2
 obtain ⟨zh3, H⟩ := chk_some H
 refine a_reg _ rfl (s := ?zs2) ?_ ?_
 rotate_left
 ·try refine goS ?_
  repeat' with_reducible apply And.intro
  all_goals try ((with_reducible show CallR _ _ _ _ _ _ _); refine cR_s zk1 ZZ (.int _ _) ?_; refine goS ?_)
  repeat' with_reducible apply And.intro
  all_goals try ((with_reducible show CallR _ _ _ _ _ _ _); refine callR_rcw (r' := .tup []) [(0, none), (0, some ⟨3, 1, false, r2.map (ci .i64)⟩)] [(some 0, _)] [] [(0, 0, _)] EQA zk2 (by simp) ND ZZ ZZ ND ND ZZ ZZ ?_; refine goS ?_)
  all_goals ((repeat' apply And.intro) <;> first|rfl|assumption|omega|(simp;done)|(simp;omega)|(simp_all;done))
 obtain rfl := Option.some.inj H
 refine eR_n ?_
 refine wk_ln 1 [(some 0, ⟨3, 1, false, r2.map (ci .i64)⟩)] [] [] LW ND ND ?_ ?_ (fun t0 => ⟨RS2, RJ⟩)
 ·exact ZZ
 ·exact ZT
def slices_Sorted_f (seq1 : List (Int)) : Option (List Int) :=
 (slices_Collect_f seq1).bind fun r1 => (slices_Sort_f r1).bind fun r2 => chk (r2.length = r1.length) (some (r2))
theorem slices_Sorted_rc {seq1 : List (Int)} {seq1_F : FuncId} {seq1_caps : List Dat} (seq1_it : IterC Tryz.prog seq1_F seq1_caps (seq1.map fun y => [.int .i64 y])) (seq1_pu : Pus seq1_caps) {r : (List Int)} (H : slices_Sorted_f seq1 = some r) : RC Tryz.prog 58 [.fn (.func seq1_F) [] seq1_caps] [] 0 (.ref 0 0 r.length 1) [some ⟨3, 1, false, r.map (ci .i64)⟩] := by
 refine rcA_of Tryz.func58 (by rfl) (by decide) 9 (by rfl) [.tmp 2] (by rfl) ?_
 unfold slices_Sorted_f at H
 simp only [hent, List.length_cons, List.length_nil, reduceAdd]
 refine a_seq ?_
 refine a_reg _ rfl (s := ?zs1) ?_ ?_
 rotate_left
 ·refine goS ?_
  (repeat' apply And.intro) <;> first|rfl|assumption|omega|(simp;done)|(simp;omega)|(simp_all;done)
 refine sA_n ?_
 refine a_seq ?_
 obtain ⟨r1, zh1, H⟩ := bind_some H
 have zk1 := slices_Collect_rc (seq1 := seq1) (seq1_F := seq1_F) (seq1_caps := seq1_caps) seq1_it seq1_pu zh1
 refine a_reg _ rfl (s := ?zs2) ?_ ?_
 rotate_left
 ·try refine goS ?_
  repeat' with_reducible apply And.intro
  all_goals try ((with_reducible show CallR _ _ _ _ _ _ _); refine callR_ownm (l := r1) (c := (ci .i64)) [] zk1 (ci_sc .i64) (.cons (.fn' .nil (RNs.pu seq1_pu)) .nil) ?_; refine goS ?_)
  all_goals ((repeat' apply And.intro) <;> first|rfl|assumption|omega|(simp;done)|(simp;omega)|(simp_all;done))
 refine sA_n ?_
 refine a_seq ?_
 obtain ⟨r2, zh2, H⟩ := bind_some H
 have zk2 := slices_Sort_rc zh2
 obtain ⟨zh3, H⟩ := chk_some H
 refine a_reg _ rfl (s := ?zs3) ?_ ?_
 rotate_left
 ·try refine goS ?_
  repeat' with_reducible apply And.intro
  all_goals try ((with_reducible show CallR _ _ _ _ _ _ _); refine callR_rcw (r' := .tup []) [(9, none), (9, some ⟨3, 1, false, r2.map (ci .i64)⟩)] [(some 9, _)] [] [(9, 0, _)] EQA zk2 (by simp) ND ZZ ZZ ND ND ZZ ZZ ?_; refine goS ?_)
  all_goals ((repeat' apply And.intro) <;> first|rfl|assumption|omega|(simp;done)|(simp;omega)|(simp_all;done))
 refine sA_n ?_
 refine a_seq ?_
 refine a_reg _ rfl (s := ?zs4) ?_ ?_
 rotate_left
 ·refine goS ?_
  (repeat' apply And.intro) <;> first|rfl|assumption|omega|(simp;done)|(simp;omega)|(simp_all;done)
 refine sA_n ?_
 refine a_ret ?_
 obtain rfl := Option.some.inj H
 refine eR_r ?_
 refine wk_ln 0 [(some 9, ⟨3, 1, false, r2.map (ci .i64)⟩)] [] [(2, .ref 0 0 r2.length 1)] (fun i h => absurd h (Nat.not_lt_zero i)) ND ND ?_ ?_ (fun t0 => ⟨RS2, RJ⟩)
 ·exact ZZ
 ·exact ZT
end
end Go.Proofs.YtjflkcfafijhfaaGreat
