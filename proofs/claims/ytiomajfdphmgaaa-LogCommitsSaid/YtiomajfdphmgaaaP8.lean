/- LogCommits, the plain law. -/
import Derived.Test.YtiomajfdphmgaaaG8
import Derived.Test.YtiomajfdphmgaaaP2
set_option linter.unusedSimpArgs false
set_option linter.unusedVariables false
namespace Go.Proofs.Ytiomajfdphmgaaa
open Go.Ab Go.RowKit
inductive Le2 : List Int → List Int → Prop
  | nil : Le2 [] []
  | cons {x y : Int} {a b : List Int} (h : x ≤ y) (t : Le2 a b) : Le2 (x :: a) (y :: b)
theorem Le2.snoc {a b : List Int} (h : Le2 a b) {x y : Int} (hxy : x ≤ y) : Le2 (a ++ [x]) (b ++ [y]) := by
  induction h with
  | nil => exact .cons hxy .nil
  | cons h _ ih => exact .cons h ih
theorem Le2.len {a b : List Int} (h : Le2 a b) : a.length = b.length := by
  induction h with
  | nil => rfl
  | cons h _ ih => simp [ih]
theorem Le2.cnt {a b : List Int} (h : Le2 a b) (p : Int) : cnt a p ≤ cnt b p := by
  induction h with
  | nil => exact Nat.le_refl _
  | @cons x y a b h _ ih =>
    unfold Go.Proofs.Ytiomajfdphmgaaa.cnt at *
    rw [List.countP_cons, List.countP_cons]
    by_cases h1 : p ≤ x
    · rw [if_pos (by simpa using h1), if_pos (by simp; omega)]; omega
    · rw [if_neg (by simpa using h1)]; omega
section
variable {l : List Entry} {t : Int}
theorem cm_spec {mt : List Int} {was : Int} : ∀ n, cm l t mt was n = was ∨ ∃ p : Nat, p ≠ 0 ∧ p ≤ n ∧ cm l t mt was n = p ∧ was < p ∧ cmc l t mt p = true
  | 0 => .inl rfl
  | n + 1 => by
    unfold cm
    split
    · rename_i h; exact .inr ⟨n + 1, by omega, Nat.le_refl _, rfl, h.1, h.2⟩
    · rcases cm_spec (mt := mt) (was := was) n with h | ⟨p, h0, h1, h2, h3, h4⟩
      · exact .inl h
      · exact .inr ⟨p, h0, by omega, h2, h3, h4⟩
theorem cm_ge {mt : List Int} {was : Int} (n : Nat) : was ≤ cm l t mt was n := by
  rcases cm_spec (l := l) (t := t) (mt := mt) (was := was) n with h | ⟨p, _, _, h, h2, _⟩ <;> omega
theorem cmc_mono {a b : List Int} (h : Le2 a b) {p : Nat} (hc : cmc l t a p = true) : cmc l t b p = true := by
  unfold cmc at *
  rw [decide_eq_true_eq] at *
  have := h.cnt p; have := h.len
  exact ⟨hc.1, by omega⟩
theorem cm_mono {a b : List Int} (h : Le2 a b) {was : Int} : ∀ n, cm l t a was n ≤ cm l t b was n
  | 0 => Int.le_refl _
  | n + 1 => by
    unfold cm
    by_cases h1 : was < ((n + 1 : Nat) : Int) ∧ cmc l t a (n + 1) = true
    · rw [if_pos h1, if_pos ⟨h1.1, cmc_mono h h1.2⟩]; exact Int.le_refl _
    · rw [if_neg h1]
      split
      · rename_i h2
        rcases cm_spec (l := l) (t := t) (mt := a) (was := was) n with h3 | ⟨p, _, h3, h4, _⟩ <;> omega
      · exact cm_mono h n
theorem cm_again {mt : List Int} {was : Int} : ∀ n (p : Nat), cm l t mt was n = (p : Int) → was < p → cm l t mt (p : Int) n = p
  | 0, p, h, h2 => by unfold cm at h; omega
  | n + 1, p, h, h2 => by
    unfold cm at h
    by_cases h1 : was < ((n + 1 : Nat) : Int) ∧ cmc l t mt (n + 1) = true
    · rw [if_pos h1] at h
      exact cm_was _ (by omega)
    · rw [if_neg h1] at h
      unfold cm
      rw [if_neg (fun h3 => h1 ⟨by omega, h3.2⟩)]
      exact cm_again n p h h2
end
theorem count_L {l : List Entry} {t : Int} {a : List Int} {p : Nat} (ha : a.length ≤ 1000) : ∀ m k n, a.length < m + k → k ≤ a.length → n ≤ k →
    law13_LogCommits_L1 a (p : Int) true l t m (n : Nat) (k : Nat) = law13_LogCommits_J4 true (p : Int) l t a ((n + cnt (a.drop k) p : Nat) : Int) := by
  intro m
  induction m with
  | zero => intro k n h1 h2; omega
  | succ m ih =>
    intro k n h1 h2 h3
    rw [law13_LogCommits_L1, cond_d]
    by_cases hk : k < a.length
    · rw [if_pos (by omega), idx_nat hk, Option.bind_some, cond_d, law13_LogCommits_J5, law13_LogCommits_J5, w64_succ (by omega), w64_succ (by omega), drop_cons hk]
      unfold cnt
      rw [List.countP_cons]
      by_cases hp : (p : Int) ≤ a[k]
      · rw [if_pos hp, if_pos (by simpa using hp), ih (k + 1) (n + 1) (by omega) (by omega) (by omega)]
        unfold cnt; congr 2; omega
      · rw [if_neg hp, if_neg (by simpa using hp), ih (k + 1) n (by omega) (by omega) (by omega)]
        unfold cnt; congr 2
    · rw [if_neg (by omega), List.drop_of_length_le (by omega)]; simp [cnt]
theorem commits_J2 {l : List Entry} {t was : Int} {a b : List Int} (hl : l.length ≤ 1000) (ha : a.length ≤ 1000) (h : Le2 a b) (hw : 0 ≤ was ∧ was < 256) : law13_LogCommits_J2 l t was true a b = some true := by
  unfold law13_LogCommits_J2
  have w : IntKind.wrap .i64 was = was := w64 (by omega) (by omega)
  rw [w, commit_eq hl ha, Option.bind_some, commit_eq hl (by rw [← h.len]; exact ha), Option.bind_some]
  unfold law13_LogCommits_J3
  have h1 := cm_ge (l := l) (t := t) (mt := a) (was := was) l.length
  have h2 := cm_mono (l := l) (t := t) h (was := was) l.length
  have e : ((decide (cm l t a was l.length < was)) || (decide (cm l t b was l.length < cm l t a was l.length))) = false := by simp; omega
  rw [e, cond_false, w]
  rcases cm_spec (l := l) (t := t) (mt := a) (was := was) l.length with h3 | ⟨p, h0, h3, h4, h5, h6⟩
  · rw [h3]; simp
  · have : (cm l t a was l.length == was) = false := by rw [beq_eq_false_iff_ne]; omega
    rw [this, cond_false]
    have ag := cm_again l.length p h4 h5
    rw [h4]
    have := count_L (l := l) (t := t) (p := p) ha BIG 0 0 (by rw [BIG_eq]; omega) (by omega) (by omega)
    have e2 : law13_LogCommits_L1 a (p : Int) true l t BIG 0 0 = _ := this
    rw [e2, List.drop_zero, Nat.zero_add]
    unfold law13_LogCommits_J4
    unfold cmc at h6
    rw [decide_eq_true_eq] at h6
    have := cnt_le a (p : Int)
    have hx : (l.getD (p - 1) default).term = tm l p := by unfold tm; rw [if_neg h0]
    rw [cond_true, cond_d, if_pos (by omega), cond_d, if_pos (by omega), idx_pred h0 h3 hl, Option.bind_some, hx, h6.1, beq_self_eq_true, cond_true, w64 (by omega) (by omega), cond_d, if_pos (by omega), commit_eq hl ha, ag, Option.bind_some, beq_self_eq_true]
theorem commits_L2 {l : List Entry} {t was : Int} {mt more : List Int} (hl : l.length ≤ 1000) (hm : mt.length ≤ 9) (o1 : ∀ x ∈ mt, okI .u8 x) (o2 : ∀ x ∈ more, okI .u8 x) (hw : 0 ≤ was ∧ was < 256) :
    ∀ m k a b, mt.length < m + k → k ≤ mt.length → a.length = k → Le2 a b → law13_LogCommits_L2 mt more l t was true m a b (k : Nat) = some true := by
  intro m
  induction m with
  | zero => intro k a b h1 h2; omega
  | succ m ih =>
    intro k a b h1 h2 h3 h4
    have h5 := h4.len
    rw [law13_LogCommits_L2, cond_d]
    by_cases hk : k < mt.length
    · have q1 := o1 _ (List.getElem_mem hk)
      simp only [okI] at q1
      have w1 : IntKind.wrap .i64 mt[k] = mt[k] := w64 (by omega) (by omega)
      have hJ : ∀ y, mt[k] ≤ y → law13_LogCommits_J6 (law13_LogCommits_L2 mt more l t was true m) b a mt[k] (k : Nat) y = some true := by
        intro y hy
        unfold law13_LogCommits_J6
        rw [chk_pos (by omega), w1, w64_succ (by omega)]
        exact ih (k + 1) _ _ (by omega) (by omega) (by simp; omega) (h4.snoc hy)
      rw [if_pos (by omega), idx_nat hk, Option.bind_some, chk_pos (by omega), cond_d]
      by_cases hk2 : k < more.length
      · have q2 := o2 _ (List.getElem_mem hk2)
        simp only [okI] at q2
        rw [if_pos (by omega), idx_nat hk2, Option.bind_some]
        refine hJ _ ?_
        rw [w1, w64 (x := more[k]) (by omega) (by omega), w64 (by omega) (by omega)]; omega
      · rw [if_neg (by omega)]
        refine hJ _ ?_
        rw [w1]; omega
    · rw [if_neg (by omega)]
      exact commits_J2 hl (by omega) h4 hw
theorem LogCommits_true (y0 : List Entry) (o0 : ∀ y22 ∈ y0, Entry.ok y22) (y1 : Int) (o1 : okI .i64 y1) (y2 : List Int) (o2 : ∀ y32 ∈ y2, okI .u8 y32) (y3 : List Int) (o3 : ∀ y32 ∈ y3, okI .u8 y32) (y4 : Int) (o4 : okI .u8 y4) : law13_LogCommits_f y0 y1 y2 y3 y4 = some true := by
  unfold law13_LogCommits_f
  obtain ⟨a, e1, h1⟩ := fit_eq o0
  rw [head_eq, Option.bind_some, e1, Option.bind_some]
  cases h : ((!a) || (decide (9 < (y2.length : Int)))) with
  | true => rfl
  | false =>
  simp only [Bool.or_eq_false_iff, Bool.not_eq_false', decide_eq_false_iff_not] at h
  obtain ⟨rfl, h⟩ := h
  obtain ⟨g1, l1⟩ := h1 rfl
  unfold law13_LogCommits_J1
  rw [cond_false]
  simp only [okI] at o4
  exact commits_L2 g1.1 (by omega) o2 o3 (by omega) BIG 0 [] [] (by rw [BIG_eq]; omega) (by omega) rfl .nil
end Go.Proofs.Ytiomajfdphmgaaa
