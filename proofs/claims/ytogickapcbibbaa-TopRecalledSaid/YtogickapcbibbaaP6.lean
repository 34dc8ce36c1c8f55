/- Sorting by insertion: what is sorted so. -/
import Derived.Test.YtogickapcbibbaaP3
import Derived.Test.YtogickapcbibbaaF6
set_option linter.unusedSimpArgs false
set_option linter.unusedVariables false
namespace Go.Proofs.Ytogickapcbibbaa
open Go.Ab Go.RowKit
section
variable {α : Type}
def insBack (lt : α → α → Bool) : List α → α → List α → List α
  | [], x, R => x :: R
  | y :: A, x, R => if lt x y = true then insBack lt A x (y :: R) else (y :: A).reverse ++ x :: R
def isort (lt : α → α → Bool) : List α → List α → List α
  | P, [] => P
  | P, x :: C => isort lt (insBack lt P.reverse x []) C
theorem insBack_app (lt : α → α → Bool) : ∀ (A : List α) x (R C : List α), insBack lt A x (R ++ C) = insBack lt A x R ++ C
  | [], x, R, C => rfl
  | y :: A, x, R, C => by
    unfold insBack
    split
    · exact insBack_app lt A x (y :: R) C
    · simp
theorem insBack_len (lt : α → α → Bool) : ∀ (A : List α) x (R : List α), (insBack lt A x R).length = A.length + R.length + 1
  | [], x, R => by simp [insBack]
  | y :: A, x, R => by
    unfold insBack
    split
    · rw [insBack_len]; simp; omega
    · simp; omega
theorem insBack_perm (lt : α → α → Bool) : ∀ (A : List α) x (R : List α), (insBack lt A x R).Perm (x :: (A.reverse ++ R))
  | [], x, R => by simp [insBack]
  | y :: A, x, R => by
    unfold insBack
    split
    · refine (insBack_perm lt A x (y :: R)).trans ?_
      simp
    · exact List.perm_middle
theorem isort_perm (lt : α → α → Bool) : ∀ (P C : List α), (isort lt P C).Perm (P ++ C)
  | P, [] => by simp [isort]
  | P, x :: C => by
    unfold isort
    refine (isort_perm lt _ C).trans ?_
    refine ((insBack_perm lt P.reverse x []).append_right C).trans ?_
    simp only [List.reverse_reverse, List.append_nil, List.cons_append]
    exact List.perm_middle.symm
theorem at_mid [Inhabited α] (A : List α) (x : α) (R : List α) : idx (A ++ x :: R) (A.length : Int) = some x := by
  rw [idx_nat (by simp)]; simp
theorem swap_mid (A : List α) (x y : α) (R : List α) : ((A ++ y :: x :: R).set (A.length + 1) y).set A.length x = A ++ x :: y :: R := by
  rw [List.set_append_right _ _ (by omega), List.set_append_right _ _ (by omega)]
  simp
end
theorem L2_cmp {kk : List Edge → Int → Option (List Edge)} {cmp : Edge → Edge → Option Int} {cf : Edge → Edge → Int} (hc : ∀ a b, cmp a b = some (cf a b)) {i : Int} : ∀ (m : Nat) (A : List Edge) (x : Edge) (R : List Edge), A.length < m → A.length + R.length ≤ 1000 →
    slices_insertionSortCmpFunc_L2 kk 0 cmp i m (A.reverse ++ x :: R) (A.length : Int) = slices_insertionSortCmpFunc_J1 kk i (insBack (fun a b => decide (cf a b < 0)) A x R) := by
  intro m
  induction m with
  | zero => intro A x R h; omega
  | succ m ih =>
    intro A x R h1 h2
    rw [slices_insertionSortCmpFunc_L2, cond_d]
    cases A with
    | nil =>
      rw [if_neg (by simp)]
      rfl
    | cons y A =>
      have e1 : IntKind.wrap .i64 (((y :: A).length : Int) - 1) = (A.reverse.length : Int) := by simp only [List.length_cons, List.length_reverse]; simp only [List.length_cons] at h2; rw [w64 (by omega) (by omega)]; omega
      have e0 : ((y :: A).length : Int) = ((A.reverse ++ [y]).length : Int) := by simp
      have e2 : (y :: A).reverse ++ x :: R = (A.reverse ++ [y]) ++ x :: R := by simp
      have e3 : (y :: A).reverse ++ x :: R = A.reverse ++ y :: x :: R := by simp
      have g1 : idx ((y :: A).reverse ++ x :: R) ((y :: A).length : Int) = some x := by rw [e2, e0]; exact at_mid _ _ _
      have g2 : idx ((y :: A).reverse ++ x :: R) (IntKind.wrap .i64 (((y :: A).length : Int) - 1)) = some y := by rw [e1, e3]; exact at_mid _ _ _
      rw [if_pos (by simp only [List.length_cons]; omega), g1, Option.bind_some, g2, Option.bind_some, hc, Option.bind_some]
      unfold slices_insertionSortCmpFunc_J2
      cases hlt : decide (cf x y < 0) with
      | true =>
        rw [cond_true, g2, Option.bind_some, g1, Option.bind_some]
        have g3 : ∃ z, idx (((y :: A).reverse ++ x :: R).set ((y :: A).length : Int).toNat y) (IntKind.wrap .i64 (((y :: A).length : Int) - 1)) = some z := by
          rw [e1, idx_nat (by simp)]; exact ⟨_, rfl⟩
        obtain ⟨z, hz⟩ := g3
        rw [hz, Option.bind_some, e1]
        have e4 : (((y :: A).reverse ++ x :: R).set ((y :: A).length : Int).toNat y).set ((A.reverse.length : Int)).toNat x = A.reverse ++ x :: y :: R := by
          rw [e3, Int.toNat_natCast, Int.toNat_natCast]
          simp
        rw [e4, List.length_reverse]
        have := ih A x (y :: R) (by simp only [List.length_cons] at h1; omega) (by simp only [List.length_cons] at h2 ⊢; omega)
        rw [this]
        conv => rhs; rw [insBack, if_pos hlt]
      | false =>
        rw [cond_false]
        conv => rhs; rw [insBack, if_neg (by rw [hlt]; decide)]
theorem L1_cmp {cmp : Edge → Edge → Option Int} {cf : Edge → Edge → Int} (hc : ∀ a b, cmp a b = some (cf a b)) {b : Int} : ∀ (m : Nat) (P C : List Edge), C.length < m → P.length + C.length ≤ 1000 → b = ((P.length + C.length : Nat) : Int) →
    slices_insertionSortCmpFunc_L1 b 0 cmp m (P ++ C) (P.length : Int) = some (isort (fun a b => decide (cf a b < 0)) P C) := by
  intro m
  induction m with
  | zero => intro P C h; omega
  | succ m ih =>
    intro P C h1 h2 hb
    rw [slices_insertionSortCmpFunc_L1, cond_d]
    cases C with
    | nil => rw [if_neg (by simp at hb; omega)]; simp [isort]
    | cons x C =>
      rw [if_pos (by simp only [List.length_cons] at hb; omega)]
      have := L2_cmp (kk := slices_insertionSortCmpFunc_L1 b 0 cmp m) hc (i := (P.length : Int)) BIG P.reverse x C (by rw [BIG_eq]; simp only [List.length_cons] at h2; simp; omega) (by simp only [List.length_cons] at h2; simp; omega)
      rw [List.reverse_reverse, List.length_reverse] at this
      rw [this]
      unfold slices_insertionSortCmpFunc_J1
      rw [w64_succ (by omega)]
      have hi : insBack (fun a b => decide (cf a b < 0)) P.reverse x C = insBack (fun a b => decide (cf a b < 0)) P.reverse x [] ++ C := by simpa using insBack_app (fun a b => decide (cf a b < 0)) P.reverse x [] C
      have hl : (insBack (fun a b => decide (cf a b < 0)) P.reverse x []).length = P.length + 1 := by rw [insBack_len]; simp
      have h3 := ih (insBack (fun a b => decide (cf a b < 0)) P.reverse x []) C (by simp only [List.length_cons] at h1; omega) (by simp only [List.length_cons] at h2; omega) (by rw [hb, hl]; simp only [List.length_cons]; omega)
      rw [hl] at h3
      rw [hi, h3]
      rfl
theorem sort_cmp {cmp : Edge → Edge → Option Int} {cf : Edge → Edge → Int} (hc : ∀ a b, cmp a b = some (cf a b)) (l : List Edge) (hl : l.length ≤ 12) : slices_SortFunc_f l cmp = some (isort (fun a b => decide (cf a b < 0)) [] l) := by
  unfold slices_SortFunc_f
  obtain ⟨r, hr⟩ := len_small (n := l.length) (by omega)
  rw [hr, Option.bind_some]
  unfold slices_pdqsortCmpFunc_f
  obtain ⟨m, hm⟩ := big_add 1 (by omega)
  have hs : slices_insertionSortCmpFunc_f l 0 (l.length : Int) cmp = some (isort (fun a b => decide (cf a b < 0)) [] l) := by
    unfold slices_insertionSortCmpFunc_f
    rw [show IntKind.wrap .i64 (0 + 1) = ((1 : Nat) : Int) by decide]
    cases l with
    | nil =>
      rw [hm, slices_insertionSortCmpFunc_L1, show decide (((1 : Nat) : Int) < (([] : List Edge).length : Int)) = false by decide, cond_false]; rfl
    | cons x C =>
      have := L1_cmp hc (b := ((x :: C).length : Int)) BIG [x] C (by rw [BIG_eq]; simp only [List.length_cons] at hl; omega) (by simp only [List.length_cons] at hl; simp; omega) (by simp; omega)
      simpa [isort, insBack] using this
  have hlen : (isort (fun a b => decide (cf a b < 0)) [] l).length = l.length := by have := (isort_perm (fun a b => decide (cf a b < 0)) [] l).length_eq; simpa using this
  rw [hm, slices_pdqsortCmpFunc_L1, chk_pos (by rw [w64 (by omega) (by omega), decide_eq_true]; omega), hs, Option.bind_some, chk_pos hlen, Option.bind_some, chk_pos hlen]
theorem less_eq (x y : Int) : cmp_Less_f x y = some (decide (x < y)) := by
  unfold cmp_Less_f cmp_isNaN_f
  simp
theorem L2_int {kk : List Int → Int → Option (List Int)}  {i : Int} : ∀ (m : Nat) (A : List Int) (x : Int) (R : List Int), A.length < m → A.length + R.length ≤ 1000 →
    slices_insertionSortOrdered_L2 kk 0 i m (A.reverse ++ x :: R) (A.length : Int) = slices_insertionSortOrdered_J1 kk i (insBack (fun a b : Int => decide (a < b)) A x R) := by
  intro m
  induction m with
  | zero => intro A x R h; omega
  | succ m ih =>
    intro A x R h1 h2
    rw [slices_insertionSortOrdered_L2, cond_d]
    cases A with
    | nil =>
      rw [if_neg (by simp)]
      rfl
    | cons y A =>
      have e1 : IntKind.wrap .i64 (((y :: A).length : Int) - 1) = (A.reverse.length : Int) := by simp only [List.length_cons, List.length_reverse]; simp only [List.length_cons] at h2; rw [w64 (by omega) (by omega)]; omega
      have e0 : ((y :: A).length : Int) = ((A.reverse ++ [y]).length : Int) := by simp
      have e2 : (y :: A).reverse ++ x :: R = (A.reverse ++ [y]) ++ x :: R := by simp
      have e3 : (y :: A).reverse ++ x :: R = A.reverse ++ y :: x :: R := by simp
      have g1 : idx ((y :: A).reverse ++ x :: R) ((y :: A).length : Int) = some x := by rw [e2, e0]; exact at_mid _ _ _
      have g2 : idx ((y :: A).reverse ++ x :: R) (IntKind.wrap .i64 (((y :: A).length : Int) - 1)) = some y := by rw [e1, e3]; exact at_mid _ _ _
      rw [if_pos (by simp only [List.length_cons]; omega), g1, Option.bind_some, g2, Option.bind_some, less_eq, Option.bind_some]
      unfold slices_insertionSortOrdered_J2
      cases hlt : decide (x < y) with
      | true =>
        rw [cond_true, g2, Option.bind_some, g1, Option.bind_some]
        have g3 : ∃ z, idx (((y :: A).reverse ++ x :: R).set ((y :: A).length : Int).toNat y) (IntKind.wrap .i64 (((y :: A).length : Int) - 1)) = some z := by
          rw [e1, idx_nat (by simp)]; exact ⟨_, rfl⟩
        obtain ⟨z, hz⟩ := g3
        rw [hz, Option.bind_some, e1]
        have e4 : (((y :: A).reverse ++ x :: R).set ((y :: A).length : Int).toNat y).set ((A.reverse.length : Int)).toNat x = A.reverse ++ x :: y :: R := by
          rw [e3, Int.toNat_natCast, Int.toNat_natCast]
          simp
        rw [e4, List.length_reverse]
        have := ih A x (y :: R) (by simp only [List.length_cons] at h1; omega) (by simp only [List.length_cons] at h2 ⊢; omega)
        rw [this]
        conv => rhs; rw [insBack, if_pos hlt]
      | false =>
        rw [cond_false]
        conv => rhs; rw [insBack, if_neg (by rw [hlt]; decide)]
theorem L1_int  {b : Int} : ∀ (m : Nat) (P C : List Int), C.length < m → P.length + C.length ≤ 1000 → b = ((P.length + C.length : Nat) : Int) →
    slices_insertionSortOrdered_L1 b 0 m (P ++ C) (P.length : Int) = some (isort (fun a b : Int => decide (a < b)) P C) := by
  intro m
  induction m with
  | zero => intro P C h; omega
  | succ m ih =>
    intro P C h1 h2 hb
    rw [slices_insertionSortOrdered_L1, cond_d]
    cases C with
    | nil => rw [if_neg (by simp at hb; omega)]; simp [isort]
    | cons x C =>
      rw [if_pos (by simp only [List.length_cons] at hb; omega)]
      have := L2_int (kk := slices_insertionSortOrdered_L1 b 0 m)  (i := (P.length : Int)) BIG P.reverse x C (by rw [BIG_eq]; simp only [List.length_cons] at h2; simp; omega) (by simp only [List.length_cons] at h2; simp; omega)
      rw [List.reverse_reverse, List.length_reverse] at this
      rw [this]
      unfold slices_insertionSortOrdered_J1
      rw [w64_succ (by omega)]
      have hi : insBack (fun a b : Int => decide (a < b)) P.reverse x C = insBack (fun a b : Int => decide (a < b)) P.reverse x [] ++ C := by simpa using insBack_app (fun a b : Int => decide (a < b)) P.reverse x [] C
      have hl : (insBack (fun a b : Int => decide (a < b)) P.reverse x []).length = P.length + 1 := by rw [insBack_len]; simp
      have h3 := ih (insBack (fun a b : Int => decide (a < b)) P.reverse x []) C (by simp only [List.length_cons] at h1; omega) (by simp only [List.length_cons] at h2; omega) (by rw [hb, hl]; simp only [List.length_cons]; omega)
      rw [hl] at h3
      rw [hi, h3]
      rfl
theorem sort_int  (l : List Int) (hl : l.length ≤ 12) : slices_Sort_f l  = some (isort (fun a b : Int => decide (a < b)) [] l) := by
  unfold slices_Sort_f
  obtain ⟨r, hr⟩ := len_small (n := l.length) (by omega)
  rw [hr, Option.bind_some]
  unfold slices_pdqsortOrdered_f
  obtain ⟨m, hm⟩ := big_add 1 (by omega)
  have hs : slices_insertionSortOrdered_f l 0 (l.length : Int)  = some (isort (fun a b : Int => decide (a < b)) [] l) := by
    unfold slices_insertionSortOrdered_f
    rw [show IntKind.wrap .i64 (0 + 1) = ((1 : Nat) : Int) by decide]
    cases l with
    | nil =>
      rw [hm, slices_insertionSortOrdered_L1, show decide (((1 : Nat) : Int) < (([] : List Int).length : Int)) = false by decide, cond_false]; rfl
    | cons x C =>
      have := L1_int  (b := ((x :: C).length : Int)) BIG [x] C (by rw [BIG_eq]; simp only [List.length_cons] at hl; omega) (by simp only [List.length_cons] at hl; simp; omega) (by simp; omega)
      simpa [isort, insBack] using this
  have hlen : (isort (fun a b : Int => decide (a < b)) [] l).length = l.length := by have := (isort_perm (fun a b : Int => decide (a < b)) [] l).length_eq; simpa using this
  rw [hm, slices_pdqsortOrdered_L1, chk_pos (by rw [w64 (by omega) (by omega), decide_eq_true]; omega), hs, Option.bind_some, chk_pos hlen, Option.bind_some, chk_pos hlen]
theorem insBack_sorted : ∀ (A : List Int) x (R : List Int), A.reverse.Pairwise (· ≤ ·) → R.Pairwise (· ≤ ·) → (∀ a ∈ A, ∀ b ∈ R, a ≤ b) → (∀ b ∈ R, x ≤ b) → (insBack (fun a b : Int => decide (a < b)) A x R).Pairwise (· ≤ ·)
  | [], x, R, _, h2, _, h4 => by simp [insBack]; exact ⟨h4, h2⟩
  | y :: A, x, R, h1, h2, h3, h4 => by
    unfold insBack
    rw [List.reverse_cons, List.pairwise_append] at h1
    split
    · rename_i hxy
      simp at hxy
      refine insBack_sorted A x (y :: R) h1.1 ?_ ?_ ?_
      · rw [List.pairwise_cons]; exact ⟨fun b hb => h3 y (by simp) b hb, h2⟩
      · intro a ha b hb
        rcases List.mem_cons.1 hb with rfl | hb
        · exact h1.2.2 a (by simpa using ha) _ (by simp)
        · exact h3 a (by simp [ha]) b hb
      · intro b hb
        rcases List.mem_cons.1 hb with rfl | hb
        · omega
        · exact h4 b hb
    · rename_i hxy
      simp at hxy
      rw [List.reverse_cons, List.pairwise_append]
      refine ⟨List.pairwise_append.2 h1, ?_, ?_⟩
      · rw [List.pairwise_cons]; exact ⟨h4, h2⟩
      · intro a ha b hb
        have hay : a ≤ y := by
          rcases List.mem_append.1 ha with ha | ha
          · exact h1.2.2 a ha y (by simp)
          · simp at ha; omega
        rcases List.mem_cons.1 hb with rfl | hb
        · omega
        · have := h4 b hb; omega
theorem isort_sorted : ∀ (P C : List Int), P.Pairwise (· ≤ ·) → (isort (fun a b : Int => decide (a < b)) P C).Pairwise (· ≤ ·)
  | P, [], h => by simpa [isort] using h
  | P, x :: C, h => by
    unfold isort
    refine isort_sorted _ C (insBack_sorted _ x [] (by simpa using h) List.Pairwise.nil (by simp) (by simp))
/-- rising rows of the same members are one -/
theorem rising_eq : ∀ {a b : List Int}, a.Pairwise (· < ·) → b.Pairwise (· < ·) → (∀ x, x ∈ a ↔ x ∈ b) → a = b
  | [], [], _, _, _ => rfl
  | [], y :: b, _, _, h => by have := (h y).2 (by simp); cases this
  | x :: a, [], _, _, h => by have := (h x).1 (by simp); cases this
  | x :: a, y :: b, ha, hb, h => by
    rw [List.pairwise_cons] at ha hb
    have hxy : x = y := by
      have h1 := (h x).1 (by simp)
      have h2 := (h y).2 (by simp)
      rcases List.mem_cons.1 h1 with e | h1
      · exact e
      · rcases List.mem_cons.1 h2 with e | h2
        · exact e.symm
        · have := hb.1 x h1; have := ha.1 y h2; omega
    subst hxy
    rw [rising_eq ha.2 hb.2 fun z => ⟨fun hz => ?_, fun hz => ?_⟩]
    · rcases List.mem_cons.1 ((h z).1 (by simp [hz])) with e | h1
      · have := ha.1 z hz; omega
      · exact h1
    · rcases List.mem_cons.1 ((h z).2 (by simp [hz])) with e | h1
      · have := hb.1 z hz; omega
      · exact h1
theorem compact_L {l : List Int} (h : l.Pairwise (· < ·)) (hl : l.length ≤ 1000) : ∀ m k, l.length + 1 < m + k → 1 ≤ k → k ≤ l.length + 1 → slices_Compact_L1 l m (k : Int) = some l := by
  intro m
  induction m with
  | zero =>
    intro k h1 h2 h3
    omega
  | succ m ih =>
    intro k h1 h2 h3
    rw [slices_Compact_L1, cond_d]
    by_cases hk : k < l.length
    · have e : IntKind.wrap .i64 ((k : Int) - 1) = ((k - 1 : Nat) : Int) := by rw [w64 (by omega) (by omega)]; omega
      have hlt := List.pairwise_iff_getElem.1 h (k - 1) k (by omega) hk (by omega)
      rw [if_pos (by omega), idx_nat hk, Option.bind_some, e, idx_nat (by omega), Option.bind_some, chk_pos (by rw [beq_eq_false_iff_ne]; omega)]
      unfold slices_Compact_J2
      rw [w64_succ (by omega)]
      exact ih (k + 1) (by omega) (by omega) (by omega)
    · rw [if_neg (by omega)]; rfl
/-- numbers, each once: told in order -/
theorem once_eq {l r : List Int} (hl : l.length ≤ 12) (hn : l.Nodup) (hr : r.Pairwise (· < ·)) (hm : ∀ x, x ∈ r ↔ x ∈ l) : lease_once_f l = some r := by
  have hp := isort_perm (fun a b : Int => decide (a < b)) [] l
  rw [List.nil_append] at hp
  have hs := isort_sorted [] l List.Pairwise.nil
  have hnd := hp.nodup_iff.2 hn
  generalize hq : isort (fun a b : Int => decide (a < b)) [] l = q at hp hs hnd
  have hstrict : q.Pairwise (· < ·) := by
    have := List.Pairwise.and hs hnd
    exact this.imp fun h => by omega
  have hqr : q = r := rising_eq hstrict hr fun x => by rw [hm, hp.mem_iff]
  have hlen := hp.length_eq
  unfold lease_once_f slices_Values_f slices_Sorted_f slices_Collect_f slices_AppendSeq_f
  rw [Option.bind_some, chk_pos (by omega), Option.bind_some, Option.bind_some, sort_int l hl, hq, Option.bind_some, chk_pos hlen, Option.bind_some]
  unfold slices_Compact_f
  have : ∀ (c : Bool), cond c (some q) (slices_Compact_L1 q BIG 1) = some q := fun c => by
    cases c
    · exact compact_L hstrict (by omega) BIG 1 (by rw [BIG_eq]; omega) (by omega) (by omega)
    · rfl
  rw [this, Option.bind_some, hqr]
end Go.Proofs.Ytogickapcbibbaa
