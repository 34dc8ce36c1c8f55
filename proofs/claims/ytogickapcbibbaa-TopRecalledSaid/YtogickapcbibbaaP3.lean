/- One who clashes; what a cache of a page and a name keeps: plain laws. -/
import Derived.Test.YtogickapcbibbaaP2
set_option linter.unusedSimpArgs false
set_option linter.unusedVariables false
namespace Go.Proofs.Ytogickapcbibbaa
open Go.Ab Go.RowKit
set_option maxRecDepth 20000 in
theorem len_small {n : Nat} (hn : n ≤ 200) : ∃ r, math_bits_Len_f (IntKind.wrap .u64 (n : Int)) = some r := by
  have w : IntKind.wrap .u64 (n : Int) = n := by show (n : Int) % 18446744073709551616 = n; omega
  have w8 : IntKind.wrap .u8 (n : Int) = n := by show (n : Int) % 256 = n; omega
  unfold math_bits_Len_f math_bits_Len64_f math_bits_Len64_J1 math_bits_Len64_J2 math_bits_Len64_J3
  rw [w, cond_d, if_neg (by omega), cond_d, if_neg (by omega), cond_d, if_neg (by omega), w8, chk_pos ⟨by omega, by
    refine Int.lt_of_lt_of_le (show (n : Int) < 256 by omega) ?_
    decide⟩]
  exact ⟨_, rfl⟩
theorem sort_one (x : Int) : slices_Sort_f [x] = some [x] := by
  unfold slices_Sort_f
  obtain ⟨r, hr⟩ := len_small (n := 1) (by omega)
  obtain ⟨m, hm⟩ := big_add 1 (by omega)
  have l1 : (([x].length : Nat) : Int) = ((1 : Nat) : Int) := rfl
  rw [l1, hr, Option.bind_some]
  unfold slices_pdqsortOrdered_f
  rw [hm, slices_pdqsortOrdered_L1, chk_pos (by decide)]
  unfold slices_insertionSortOrdered_f
  rw [hm, slices_insertionSortOrdered_L1]
  have e : decide (IntKind.wrap .i64 (0 + 1) < ((1 : Nat) : Int)) = false := by decide
  rw [e, cond_false, Option.bind_some, chk_pos rfl, Option.bind_some, chk_pos rfl]
theorem once_one (x : Int) : lease_once_f [x] = some [x] := by
  unfold lease_once_f slices_Values_f slices_Sorted_f slices_Collect_f slices_AppendSeq_f
  rw [Option.bind_some, chk_pos (by simp), Option.bind_some, Option.bind_some, sort_one, Option.bind_some, chk_pos rfl, Option.bind_some]
  unfold slices_Compact_f
  have e : decide ((([x].length : Nat) : Int) < 2) = true := by rw [decide_eq_true]; simp
  rw [e, cond_true, Option.bind_some]
/-! ## a page and a name -/
def nmX : ByteArray := ⟨#[120]⟩
def k5 (d u : Int) : Kept := ⟨5, ByteArray.empty, 0, 0, [d], u⟩
def k9 (is u : Int) : Kept := ⟨9, nmX, 0, is, [], u⟩
def t5 : Kept := ⟨5, ByteArray.empty, 0, 0, [], 0⟩
def t9 : Kept := ⟨9, nmX, 0, 0, [], 0⟩
theorem o55 (d u : Int) (t : Kept) (h1 : t.ino = 5) (h2 : t.name = ByteArray.empty) (h3 : t.page = 0) : cache_order_f (k5 d u) t = some 0 := order_same h1.symm h2.symm h3.symm
theorem o99 (d u : Int) (t : Kept) (h1 : t.ino = 9) (h2 : t.name = nmX) (h3 : t.page = 0) : cache_order_f (k9 d u) t = some 0 := order_same h1.symm h2.symm h3.symm
theorem o59 (d u : Int) (t : Kept) (h1 : t.ino = 9) : cache_order_f (k5 d u) t = some (-1) := order_lt (by rw [h1]; exact (by decide : (5 : Int) < 9))
theorem o95 (d u : Int) (t : Kept) (h1 : t.ino = 5) : cache_order_f (k9 d u) t = some 1 := order_gt (by rw [h1]; exact (by decide : (5 : Int) < 9))
theorem nm_ne : (nmX.toList == (⟨#[]⟩ : ByteArray).toList) = false := by
  rw [ByteArray.toList_eq, ByteArray.toList_eq]; rfl
theorem nm_e : (ByteArray.empty.toList == (⟨#[]⟩ : ByteArray).toList) = true := by
  rw [ByteArray.toList_eq, ByteArray.toList_eq]; rfl
theorem clone1 (b : Int) : slices_Clone_f [b] = some [b] := by
  unfold slices_Clone_f
  exact nilq_of (fun h => by cases h) (by rw [chk_pos (by simp)]; rfl)
theorem cloneK {l : List Kept} (hl : l.length ≤ 1000) : slices_Clone_64_f l = some l := by
  unfold slices_Clone_64_f
  exact nilq_of (fun h => by rw [h]) (by rw [chk_pos (by omega)]; rfl)
theorem insert_end {l : List Kept} (hl : l.length ≤ 1000) (k : Kept) : slices_Insert_f l (l.length : Int) [k] = some (l ++ [k]) := by
  unfold slices_Insert_f
  rw [chk_pos ⟨by omega, by omega, by omega⟩, chk_pos (by simp), chk_pos (by simp), chk_pos (by simp; omega)]
theorem page_nil (b u : Int) : cache_Page_f [] 5 0 [b] u = some [k5 b u] := by
  unfold cache_Page_f cache_put_f
  rw [clone1, Option.bind_some, bs_nil, Option.bind_some, cloneK (by simp), Option.bind_some]
  simp only [cond_false]
  have := insert_end (l := []) (by simp) (k5 b u)
  change (((slices_Insert_f [] (([] : List Kept).length : Int) [k5 b u]).bind fun r3 => some r3).bind fun r2 => some r2) = _
  rw [this]; rfl
theorem page_two (b u d u0 is u1 : Int) : cache_Page_f [k5 d u0, k9 is u1] 5 0 [b] u = some [k5 b u, k9 is u1] := by
  unfold cache_Page_f cache_put_f
  rw [clone1, Option.bind_some, bs_two (o55 d u0 _ rfl rfl rfl) (o95 is u1 _ rfl), Option.bind_some, cloneK (by simp), Option.bind_some]
  rfl
theorem name_one (d u0 is u : Int) : cache_Name_f [k5 d u0] 9 nmX is u = some [k5 d u0, k9 is u] := by
  unfold cache_Name_f cache_put_f
  rw [nm_ne, cond_false, bs_one (o59 d u0 _ rfl), Option.bind_some, cloneK (by simp), Option.bind_some]
  have := insert_end (l := [k5 d u0]) (by simp) (k9 is u)
  change (((slices_Insert_f [k5 d u0] (([k5 d u0] : List Kept).length : Int) [k9 is u]).bind fun r3 => some r3).bind fun r2 => some r2) = _
  rw [this]; rfl
theorem name_two (d u0 is1 u1 is u : Int) : cache_Name_f [k5 d u0, k9 is1 u1] 9 nmX is u = some [k5 d u0, k9 is u] := by
  unfold cache_Name_f cache_put_f
  rw [nm_ne, cond_false, bs_two (o59 d u0 _ rfl) (o99 is1 u1 _ rfl rfl rfl), Option.bind_some, cloneK (by simp), Option.bind_some]
  rfl
theorem getp_nil (c : Int) : cache_GetPage_f [] 5 0 c = some ([], false) := by
  unfold cache_GetPage_f cache_get_f
  rw [bs_nil]; rfl
theorem getp_two (d u is u1 c : Int) : cache_GetPage_f [k5 d u, k9 is u1] 5 0 c = some (if u ≤ c then ([], false) else ([d], true)) := by
  unfold cache_GetPage_f cache_get_f
  rw [bs_two (o55 d u _ rfl rfl rfl) (o95 is u1 _ rfl), Option.bind_some]
  have i0 : idx [k5 d u, k9 is u1] 0 = some (k5 d u) := rfl
  simp only [show ¬ ((1 : Int) < 0) by decide, if_false, show ¬ ((0 : Int) < 0) by decide, show ((0 : Int) == 0) = true by decide, Bool.not_true, cond_false, i0, Option.bind_some]
  unfold cache_get_J1
  rw [cond_d]
  split
  · rename_i h; rw [if_pos (show u ≤ c from h)]; rfl
  · rename_i h; rw [if_neg (show ¬ u ≤ c from h), i0, Option.bind_some]
    unfold cache_GetPage_1_f
    change (((slices_Clone_f [d]).bind fun r1 => some r1).bind fun r2 => some (r2, true)).bind (fun r1 => some (r1.1, r1.2)) = _
    rw [clone1]; rfl
theorem getp_one (d u c : Int) : cache_GetPage_f [k5 d u] 5 0 c = some (if u ≤ c then ([], false) else ([d], true)) := by
  unfold cache_GetPage_f cache_get_f
  rw [bs_one (o55 d u _ rfl rfl rfl), Option.bind_some]
  have i0 : idx [k5 d u] 0 = some (k5 d u) := rfl
  simp only [if_false, show ¬ ((0 : Int) < 0) by decide, show ((0 : Int) == 0) = true by decide, Bool.not_true, cond_false, i0, Option.bind_some]
  unfold cache_get_J1
  rw [cond_d]
  split
  · rename_i h; rw [if_pos (show u ≤ c from h)]; rfl
  · rename_i h; rw [if_neg (show ¬ u ≤ c from h), i0, Option.bind_some]
    unfold cache_GetPage_1_f
    change (((slices_Clone_f [d]).bind fun r1 => some r1).bind fun r2 => some (r2, true)).bind (fun r1 => some (r1.1, r1.2)) = _
    rw [clone1]; rfl
theorem getn_nil (c : Int) : cache_GetName_f [] 9 nmX c = some (0, false) := by
  unfold cache_GetName_f cache_get_29_f
  rw [nm_ne, cond_false, bs_nil]; rfl
theorem getn_two (d u is u1 c : Int) : cache_GetName_f [k5 d u, k9 is u1] 9 nmX c = some (if u1 ≤ c then (0, false) else (is, true)) := by
  unfold cache_GetName_f cache_get_29_f
  rw [nm_ne, cond_false, bs_two (o59 d u _ rfl) (o99 is u1 _ rfl rfl rfl), Option.bind_some]
  have i1 : idx [k5 d u, k9 is u1] 1 = some (k9 is u1) := rfl
  simp only [show ¬ ((0 : Int) < 0) by decide, if_false, show ((-1 : Int) < 0) by decide, if_true, show ((0 : Int) == 0) = true by decide, Bool.not_true, cond_false, i1, Option.bind_some]
  unfold cache_get_29_J1
  rw [cond_d]
  split
  · rename_i h; rw [if_pos (show u1 ≤ c from h)]; rfl
  · rename_i h; rw [if_neg (show ¬ u1 ≤ c from h), i1, Option.bind_some]; rfl
/-! forgetting -/
def inoB (i : Int) (k : Kept) : Bool := k.ino == i
theorem ixf_nil (f : Kept → Option Bool) : slices_IndexFunc_59_f [] f = some (-1) := by
  unfold slices_IndexFunc_59_f
  obtain ⟨m, hm⟩ := big_add 1 (by omega)
  rw [hm, slices_IndexFunc_59_L1]; rfl
theorem forget_nil (i : Int) : cache_Forget_f [] i = some [] := by
  unfold cache_Forget_f cache_but_f slices_DeleteFunc_f
  rw [cloneK (by simp), Option.bind_some, ixf_nil]; rfl
theorem forget_two (d u is u1 : Int) : cache_Forget_f [k5 d u, k9 is u1] 5 = some [k9 is u1] := by
  unfold cache_Forget_f cache_but_f slices_DeleteFunc_f
  rw [cloneK (by simp), Option.bind_some]
  obtain ⟨m, hm⟩ := big_add 4 (by omega)
  have i0 : idx [k5 d u, k9 is u1] 0 = some (k5 d u) := rfl
  have i1 : idx [k5 d u, k9 is u1] 1 = some (k9 is u1) := rfl
  have l2 : (([k5 d u, k9 is u1].length : Nat) : Int) = 2 := rfl
  have f5 : cache_Forget_1_f (k5 d u) 5 = some true := rfl
  have f9 : cache_Forget_1_f (k9 is u1) 5 = some false := rfl
  have w0 : IntKind.wrap .i64 (0 + 1) = 1 := by decide
  have w1 : IntKind.wrap .i64 (1 + 1) = 2 := by decide
  have e1 : slices_IndexFunc_59_f [k5 d u, k9 is u1] (fun y0_ => cache_Forget_1_f y0_ 5) = some 0 := by
    unfold slices_IndexFunc_59_f
    rw [hm]
    simp only [slices_IndexFunc_59_L1, l2, i0, f5, Option.bind_some, show decide ((0 : Int) < 2) = true by decide, cond_true]
  rw [e1, Option.bind_some, show ((0 : Int) == -1) = false by decide, cond_false, hm]
  have s0 : ([k5 d u, k9 is u1].set (Int.toNat 0) (k9 is u1)) = [k9 is u1, k9 is u1] := rfl
  have l2' : (([k9 is u1, k9 is u1].length : Nat) : Int) = 2 := rfl
  simp only [slices_DeleteFunc_L1, slices_DeleteFunc_J2, slices_DeleteFunc_J1, l2, l2', w0, w1, i0, i1, f9, s0, Option.bind_some, Bool.not_false, show decide ((1 : Int) < 2) = true by decide, show decide ((2 : Int) < 2) = false by decide, cond_true, cond_false]
  rfl
theorem forget_one (is u1 : Int) : cache_Forget_f [k9 is u1] 9 = some [] := by
  unfold cache_Forget_f cache_but_f slices_DeleteFunc_f
  rw [cloneK (by simp), Option.bind_some]
  obtain ⟨m, hm⟩ := big_add 4 (by omega)
  have i0 : idx [k9 is u1] 0 = some (k9 is u1) := rfl
  have l1 : (([k9 is u1].length : Nat) : Int) = 1 := rfl
  have f9 : cache_Forget_1_f (k9 is u1) 9 = some true := rfl
  have w0 : IntKind.wrap .i64 (0 + 1) = 1 := by decide
  have e1 : slices_IndexFunc_59_f [k9 is u1] (fun y0_ => cache_Forget_1_f y0_ 9) = some 0 := by
    unfold slices_IndexFunc_59_f
    rw [hm]
    simp only [slices_IndexFunc_59_L1, l1, i0, f9, Option.bind_some, show decide ((0 : Int) < 1) = true by decide, cond_true]
  rw [e1, Option.bind_some, show ((0 : Int) == -1) = false by decide, cond_false, hm]
  simp only [slices_DeleteFunc_L1, slices_DeleteFunc_J1, l1, w0, show decide ((1 : Int) < 1) = false by decide, cond_false]
  rfl
/-! right -/
theorem rightK (k : Kept) (h : (k.name = ByteArray.empty ∧ k.is = 0) ∨ (k.name = nmX ∧ k.page = 0 ∧ k.data = [])) : cache_Right_1_f k = some false := by
  unfold cache_Right_1_f cache_right_f
  rcases h with ⟨h1, h2⟩ | ⟨h1, h2, h3⟩
  · rw [h1, nm_e, h2]; rfl
  · rw [h1, nm_ne, h2, h3]; rfl
theorem cright_nil : cache_Right_f [] = some true := by
  unfold cache_Right_f
  obtain ⟨m, hm⟩ := big_add 1 (by omega)
  rw [hm, cache_Right_L1]
  have e : decide ((1 : Int) < ((([] : List Kept).length : Nat) : Int)) = false := by decide
  rw [e, cond_false]
  unfold cache_Right_J1 slices_ContainsFunc_36_f
  rw [cond_true, ixf_nil]; rfl
theorem cright_two (d u is u1 : Int) : cache_Right_f [k5 d u, k9 is u1] = some true := by
  unfold cache_Right_f
  obtain ⟨m, hm⟩ := big_add 4 (by omega)
  have i0 : idx [k5 d u, k9 is u1] 0 = some (k5 d u) := rfl
  have i1 : idx [k5 d u, k9 is u1] 1 = some (k9 is u1) := rfl
  have l2 : (([k5 d u, k9 is u1].length : Nat) : Int) = 2 := rfl
  have w0 : IntKind.wrap .i64 (0 + 1) = 1 := by decide
  have w1 : IntKind.wrap .i64 (1 + 1) = 2 := by decide
  have wm : IntKind.wrap .i64 (1 - 1) = 0 := by decide
  have o : cache_order_f (k5 d u) (k9 is u1) = some (-1) := o59 d u _ rfl
  have r5 := rightK (k5 d u) (.inl ⟨rfl, rfl⟩)
  have r9 := rightK (k9 is u1) (.inr ⟨rfl, rfl, rfl⟩)
  have e1 : slices_IndexFunc_59_f [k5 d u, k9 is u1] cache_Right_1_f = some (-1) := by
    unfold slices_IndexFunc_59_f
    rw [hm]
    simp only [slices_IndexFunc_59_L1, l2, i0, i1, r5, r9, w0, w1, Option.bind_some, show decide ((0 : Int) < 2) = true by decide, show decide ((1 : Int) < 2) = true by decide, show decide ((2 : Int) < 2) = false by decide, cond_true, cond_false]
    rfl
  rw [hm]
  simp only [cache_Right_L1, l2, w1, wm, i0, i1, o, Option.bind_some, show decide ((1 : Int) < 2) = true by decide, show decide ((2 : Int) < 2) = false by decide, show decide ((-1 : Int) < 0) = true by decide, cond_true, cond_false]
  unfold cache_Right_J1 slices_ContainsFunc_36_f
  rw [cond_true, e1]; rfl
theorem bytes_one (a b : Int) : ref02_Bytes_f [a] [b] = some (a == b) := by
  unfold ref02_Bytes_f
  obtain ⟨m, hm⟩ := big_add 2 (by omega)
  have i0 : idx [a] 0 = some a := rfl
  have j0 : idx [b] 0 = some b := rfl
  have w0 : IntKind.wrap .i64 (0 + 1) = 1 := by decide
  have l1 : (([a].length : Nat) : Int) = 1 := rfl
  have l2 : (([b].length : Nat) : Int) = 1 := rfl
  rw [hm]
  simp only [l1, l2, ref02_Bytes_L1, ref02_Bytes_J1, i0, j0, w0, Option.bind_some, show ((1 : Int) != 1) = false by decide, show decide ((0 : Int) < 1) = true by decide, show decide ((1 : Int) < 1) = false by decide, cond_true, cond_false]
  by_cases h : a = b
  · subst h; simp
  · have e : (a == b) = false := by simpa using h
    have e2 : (a != b) = true := by simpa using h
    rw [e, e2]; rfl
end Go.Proofs.Ytogickapcbibbaa
