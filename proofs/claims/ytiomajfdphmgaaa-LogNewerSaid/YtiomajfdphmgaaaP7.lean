/- LogNewer, the plain law. -/
import Derived.Test.YtiomajfdphmgaaaG7
import Derived.Test.YtiomajfdphmgaaaP2
set_option linter.unusedSimpArgs false
set_option linter.unusedVariables false
namespace Go.Proofs.Ytiomajfdphmgaaa
open Go.Ab Go.RowKit
theorem LogNewer_true (y0 : List Entry) (o0 : ∀ y22 ∈ y0, Entry.ok y22) (y1 : List Entry) (o1 : ∀ y22 ∈ y1, Entry.ok y22) (y2 : List Entry) (o2 : ∀ y22 ∈ y2, Entry.ok y22) : law13_LogNewer_f y0 y1 y2 = some true := by
  unfold law13_LogNewer_f
  obtain ⟨a, e1, h1⟩ := fit_eq o0
  obtain ⟨b, e2, h2⟩ := fit_eq o1
  obtain ⟨c, e3, h3⟩ := fit_eq o2
  rw [head_eq, Option.bind_some, e1, Option.bind_some, e2, Option.bind_some, e3, Option.bind_some]
  cases a with
  | false => rfl
  | true =>
  cases b with
  | false => rfl
  | true =>
  cases c with
  | false => rfl
  | true =>
  obtain ⟨g1, l1⟩ := h1 rfl
  obtain ⟨g2, l2⟩ := h2 rfl
  obtain ⟨g3, l3⟩ := h3 rfl
  simp only [Bool.not_true, cond_false]
  unfold law13_LogNewer_J1
  have w1 : IntKind.wrap .i64 ((y0.length : Int) + 1) = (y0.length : Int) + 1 := w64 (by omega) (by omega)
  have w2 : IntKind.wrap .i64 ((y0.length : Int) - 1) = (y0.length : Int) - 1 := w64 (by omega) (by omega)
  rw [cond_false, rTerm_eq (Nat.le_refl _) g1.1, Option.bind_some, rTerm_eq (Nat.le_refl _) g2.1, Option.bind_some, rTerm_eq (Nat.le_refl _) g3.1, Option.bind_some, newer_eq g1.1, Option.bind_some, newer_eq g2.1, Option.bind_some]
  unfold law13_LogNewer_J2 law13_LogNewer_J3
  simp only [newer_eq g1.1, newer_eq g2.1, w1, w2, Option.bind_some]
  unfold newer
  generalize tm y0 y0.length = x
  generalize tm y1 y1.length = y
  generalize tm y2 y2.length = z
  generalize (y0.length : Int) = a at *
  generalize (y1.length : Int) = b at *
  generalize (y2.length : Int) = c at *
  have q1 : decide (x < x ∨ x = x ∧ a ≤ a) = true := by simp
  have q2 : decide (x < x ∨ x = x ∧ a ≤ a + 1) = true := by rw [decide_eq_true_eq]; exact .inr ⟨rfl, by omega⟩
  have q3 : decide (x < x ∨ x = x ∧ a ≤ a - 1) = false := by rw [decide_eq_false_iff_not]; omega
  rw [q1, q2, q3]
  by_cases c1 : x < y ∨ y = x ∧ a ≤ b <;> by_cases c2 : y < x ∨ x = y ∧ b ≤ a <;> by_cases c3 : y < z ∨ z = y ∧ b ≤ c <;> by_cases c4 : x < z ∨ z = x ∧ a ≤ c <;> first | (exfalso; omega) | (simp only [c1, c2, c3, c4]; simp)
end Go.Proofs.Ytiomajfdphmgaaa
