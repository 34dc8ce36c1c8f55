import Derived.Test.YtjflkcfafijhfaaGreatQ22
import Derived.Test.YtjflkcfafijhfaaGreatQ12
import Derived.Test.YtjflkcfafijhfaaGreatQ25
set_option linter.unusedSectionVars false
/- Sorting, as plain laws (lines of the proof of layer 15, turned to this seat). -/
set_option linter.unusedSimpArgs false
set_option linter.unusedVariables false
set_option maxRecDepth 4000
namespace Go.Proofs.YtjflkcfafijhfaaGreat
open Go.Ab Go.RowKit
theorem big_add (k : Nat) (hk : k ≤ 1000) : ∃ m, BIG = m + k := ⟨BIG - k, by rw [BIG_eq]; omega⟩
theorem len_small {n : Nat} (hn : n ≤ 200) : ∃ r, math_bits_Len_f (IntKind.wrap .u64 (n : Int)) = some r := by
 have w : IntKind.wrap .u64 (n : Int) = n := by show (n : Int) % 18446744073709551616 = n; omega
 have w8 : IntKind.wrap .u8 (n : Int) = n := by show (n : Int) % 256 = n; omega
 unfold math_bits_Len_f math_bits_Len64_f math_bits_Len64_J1 math_bits_Len64_J2 math_bits_Len64_J3
 rw [w, cond_d, if_neg (by omega), cond_d, if_neg (by omega), cond_d, if_neg (by omega), w8, chk_pos ⟨by omega, by
  refine Int.lt_of_lt_of_le (show (n : Int) < 256 by omega) ?_
  decide⟩]
 exact ⟨_, rfl⟩
section
variable {α : Type}
def insBack (lt : α → α → Bool) : List α → α → List α → List α
 | [], x, R => x :: R
 | y :: A, x, R => if lt x y = true then insBack lt A x (y :: R) else (y :: A).reverse ++ x :: R
def isort (lt : α → α → Bool) : List α → List α → List α
 | P, [] => P
 | P, x :: C => isort lt (insBack lt P.reverse x []) C
theorem insBack_app (lt : α → α → Bool) : ∀ (A : List α) x (R C : List α), insBack lt A x (R ++ C) = insBack lt A x R ++ C
 | [], x, R, C => rfl
 | y :: A, x, R, C => by
  unfold insBack
  split
  ·exact insBack_app lt A x (y :: R) C
  ·simp
theorem insBack_len (lt : α → α → Bool) : ∀ (A : List α) x (R : List α), (insBack lt A x R).length = A.length + R.length + 1
 | [], x, R => by simp [insBack]
 | y :: A, x, R => by
  unfold insBack
  split
  ·rw [insBack_len]; simp; omega
  ·simp; omega
theorem insBack_perm (lt : α → α → Bool) : ∀ (A : List α) x (R : List α), (insBack lt A x R).Perm (x :: (A.reverse ++ R))
 | [], x, R => by simp [insBack]
 | y :: A, x, R => by
  unfold insBack
  split
  ·refine (insBack_perm lt A x (y :: R)).trans ?_
   simp
  ·exact List.perm_middle
theorem isort_perm (lt : α → α → Bool) : ∀ (P C : List α), (isort lt P C).Perm (P ++ C)
 | P, [] => by simp [isort]
 | P, x :: C => by
  unfold isort
  refine (isort_perm lt _ C).trans ?_
  refine ((insBack_perm lt P.reverse x []).append_right C).trans ?_
  simp only [List.reverse_reverse, List.append_nil, List.cons_append]
  exact List.perm_middle.symm
end
theorem at_mid {α : Type} [Inhabited α] (A : List α) (x : α) (R : List α) : idx (A ++ x :: R) (A.length : Int) = some x := by
 rw [idx_nat (by simp)]; simp
theorem less_eq (x y : Int) : cmp_Less_f x y = some (decide (x < y)) := by
 unfold cmp_Less_f cmp_isNaN_f
 simp
theorem L2_int {kk : List Int → Int → Option (List Int)}  {i : Int} : ∀ (m : Nat) (A : List Int) (x : Int) (R : List Int), A.length < m → A.length + R.length ≤ 1000 →
  slices_insertionSortOrdered_L2 kk 0 i m (A.reverse ++ x :: R) (A.length : Int) = slices_insertionSortOrdered_J1 kk i (insBack (fun a b : Int => decide (a < b)) A x R) := by
 intro m
 induction m with
 | zero => intro A x R h; omega
 | succ m ih =>
  intro A x R h1 h2
  rw [slices_insertionSortOrdered_L2, cond_d]
  cases A with
  | nil =>
   rw [if_neg (by simp)]
   rfl
  | cons y A =>
   have e1 : IntKind.wrap .i64 (((y :: A).length : Int) - 1) = (A.reverse.length : Int) := by simp only [List.length_cons, List.length_reverse]; simp only [List.length_cons] at h2; rw [w64 (by omega) (by omega)]; omega
   have e0 : ((y :: A).length : Int) = ((A.reverse ++ [y]).length : Int) := by simp
   have e2 : (y :: A).reverse ++ x :: R = (A.reverse ++ [y]) ++ x :: R := by simp
   have e3 : (y :: A).reverse ++ x :: R = A.reverse ++ y :: x :: R := by simp
   have g1 : idx ((y :: A).reverse ++ x :: R) ((y :: A).length : Int) = some x := by rw [e2, e0]; exact at_mid _ _ _
   have g2 : idx ((y :: A).reverse ++ x :: R) (IntKind.wrap .i64 (((y :: A).length : Int) - 1)) = some y := by rw [e1, e3]; exact at_mid _ _ _
   rw [if_pos (by simp only [List.length_cons]; omega), g1, Option.bind_some, g2, Option.bind_some, less_eq, Option.bind_some]
   unfold slices_insertionSortOrdered_J2
   cases hlt : decide (x < y) with
   | true =>
    rw [cond_true, g2, Option.bind_some, g1, Option.bind_some]
    have g3 : ∃ z, idx (((y :: A).reverse ++ x :: R).set ((y :: A).length : Int).toNat y) (IntKind.wrap .i64 (((y :: A).length : Int) - 1)) = some z := by
     rw [e1, idx_nat (by simp)]; exact ⟨_, rfl⟩
    obtain ⟨z, hz⟩ := g3
    rw [hz, Option.bind_some, e1]
    have e4 : (((y :: A).reverse ++ x :: R).set ((y :: A).length : Int).toNat y).set ((A.reverse.length : Int)).toNat x = A.reverse ++ x :: y :: R := by
     rw [e3, Int.toNat_natCast, Int.toNat_natCast]
     simp
    rw [e4, List.length_reverse]
    have := ih A x (y :: R) (by simp only [List.length_cons] at h1; omega) (by simp only [List.length_cons] at h2 ⊢; omega)
    rw [this]
    conv => rhs; rw [insBack, if_pos hlt]
   | false =>
    rw [cond_false]
    conv => rhs; rw [insBack, if_neg (by rw [hlt]; decide)]
theorem L1_int  {b : Int} : ∀ (m : Nat) (P C : List Int), C.length < m → P.length + C.length ≤ 1000 → b = ((P.length + C.length : Nat) : Int) →
  slices_insertionSortOrdered_L1 b 0 m (P ++ C) (P.length : Int) = some (isort (fun a b : Int => decide (a < b)) P C) := by
 intro m
 induction m with
 | zero => intro P C h; omega
 | succ m ih =>
  intro P C h1 h2 hb
  rw [slices_insertionSortOrdered_L1, cond_d]
  cases C with
  | nil => rw [if_neg (by simp at hb; omega)]; simp [isort]
  | cons x C =>
   rw [if_pos (by simp only [List.length_cons] at hb; omega)]
   have := L2_int (kk := slices_insertionSortOrdered_L1 b 0 m)  (i := (P.length : Int)) BIG P.reverse x C (by rw [BIG_eq]; simp only [List.length_cons] at h2; simp; omega) (by simp only [List.length_cons] at h2; simp; omega)
   rw [List.reverse_reverse, List.length_reverse] at this
   rw [this]
   unfold slices_insertionSortOrdered_J1
   rw [w64_succ (by omega)]
   have hi : insBack (fun a b : Int => decide (a < b)) P.reverse x C = insBack (fun a b : Int => decide (a < b)) P.reverse x [] ++ C := by simpa using insBack_app (fun a b : Int => decide (a < b)) P.reverse x [] C
   have hl : (insBack (fun a b : Int => decide (a < b)) P.reverse x []).length = P.length + 1 := by rw [insBack_len]; simp
   have h3 := ih (insBack (fun a b : Int => decide (a < b)) P.reverse x []) C (by simp only [List.length_cons] at h1; omega) (by simp only [List.length_cons] at h2; omega) (by rw [hb, hl]; simp only [List.length_cons]; omega)
   rw [hl] at h3
   rw [hi, h3]
   rfl
theorem sort_int  (l : List Int) (hl : l.length ≤ 12) : slices_Sort_f l  = some (isort (fun a b : Int => decide (a < b)) [] l) := by
 unfold slices_Sort_f
 obtain ⟨r, hr⟩ := len_small (n := l.length) (by omega)
 rw [hr, Option.bind_some]
 unfold slices_pdqsortOrdered_f
 obtain ⟨m, hm⟩ := big_add 1 (by omega)
 have hs : slices_insertionSortOrdered_f l 0 (l.length : Int)  = some (isort (fun a b : Int => decide (a < b)) [] l) := by
  unfold slices_insertionSortOrdered_f
  rw [show IntKind.wrap .i64 (0 + 1) = ((1 : Nat) : Int) by decide]
  cases l with
  | nil =>
   rw [hm, slices_insertionSortOrdered_L1, show decide (((1 : Nat) : Int) < (([] : List Int).length : Int)) = false by decide, cond_false]; rfl
  | cons x C =>
   have := L1_int  (b := ((x :: C).length : Int)) BIG [x] C (by rw [BIG_eq]; simp only [List.length_cons] at hl; omega) (by simp only [List.length_cons] at hl; simp; omega) (by simp; omega)
   simpa [isort, insBack] using this
 have hlen : (isort (fun a b : Int => decide (a < b)) [] l).length = l.length := by have := (isort_perm (fun a b : Int => decide (a < b)) [] l).length_eq; simpa using this
 rw [hm, slices_pdqsortOrdered_L1, chk_pos (by rw [w64 (by omega) (by omega), decide_eq_true]; omega), hs, Option.bind_some, chk_pos hlen, Option.bind_some, chk_pos hlen]
theorem insBack_sorted : ∀ (A : List Int) x (R : List Int), A.reverse.Pairwise (· ≤ ·) → R.Pairwise (· ≤ ·) → (∀ a ∈ A, ∀ b ∈ R, a ≤ b) → (∀ b ∈ R, x ≤ b) → (insBack (fun a b : Int => decide (a < b)) A x R).Pairwise (· ≤ ·)
 | [], x, R, _, h2, _, h4 => by simp [insBack]; exact ⟨h4, h2⟩
 | y :: A, x, R, h1, h2, h3, h4 => by
  unfold insBack
  rw [List.reverse_cons, List.pairwise_append] at h1
  split
  ·rename_i hxy
   simp at hxy
   refine insBack_sorted A x (y :: R) h1.1 ?_ ?_ ?_
   ·rw [List.pairwise_cons]; exact ⟨fun b hb => h3 y (by simp) b hb, h2⟩
   ·intro a ha b hb
    rcases List.mem_cons.1 hb with rfl | hb
    ·exact h1.2.2 a (by simpa using ha) _ (by simp)
    ·exact h3 a (by simp [ha]) b hb
   ·intro b hb
    rcases List.mem_cons.1 hb with rfl | hb
    ·omega
    ·exact h4 b hb
  ·rename_i hxy
   simp at hxy
   rw [List.reverse_cons, List.pairwise_append]
   refine ⟨List.pairwise_append.2 h1, ?_, ?_⟩
   ·rw [List.pairwise_cons]; exact ⟨h4, h2⟩
   ·intro a ha b hb
    have hay : a ≤ y := by
     rcases List.mem_append.1 ha with ha | ha
     ·exact h1.2.2 a ha y (by simp)
     ·simp at ha; omega
    rcases List.mem_cons.1 hb with rfl | hb
    ·omega
    ·have := h4 b hb; omega
theorem isort_sorted : ∀ (P C : List Int), P.Pairwise (· ≤ ·) → (isort (fun a b : Int => decide (a < b)) P C).Pairwise (· ≤ ·)
 | P, [], h => by simpa [isort] using h
 | P, x :: C, h => by
  unfold isort
  refine isort_sorted _ C (insBack_sorted _ x [] (by simpa using h) List.Pairwise.nil (by simp) (by simp))
end Go.Proofs.YtjflkcfafijhfaaGreat
