/- The head as a plain law. -/
import Derived.Test.YtogickapcbibbaaP3
set_option linter.unusedSimpArgs false
set_option linter.unusedVariables false
namespace Go.Proofs.Ytogickapcbibbaa
open Go.Ab Go.RowKit
/-! ## the head -/
theorem ints_one (a b : Int) : ref02_Ints_f [a] [b] = some (a == b) := by
  unfold ref02_Ints_f
  obtain ⟨m, hm⟩ := big_add 2 (by omega)
  have i0 : idx [a] 0 = some a := rfl
  have j0 : idx [b] 0 = some b := rfl
  have w0 : IntKind.wrap .i64 (0 + 1) = 1 := by decide
  have l1 : (([a].length : Nat) : Int) = 1 := rfl
  have l2 : (([b].length : Nat) : Int) = 1 := rfl
  rw [hm]
  simp only [l1, l2, ref02_Ints_L1, ref02_Ints_J1, i0, j0, w0, Option.bind_some, show ((1 : Int) != 1) = false by decide, show decide ((0 : Int) < 1) = true by decide, show decide ((1 : Int) < 1) = false by decide, cond_true, cond_false]
  by_cases h : a = b
  · subst h; simp
  · have e : (a == b) = false := by simpa using h
    have e2 : (a != b) = true := by simpa using h
    rw [e, e2]; rfl
theorem head_true : top_head23_f = some true := by
  unfold top_head23_f
  have a1 : top_askR14_f [] 10 1 5 1 1 = some ([wants 1 5 1 13], true, []) := ask_had (by simp) (by simp) (by decide) (by decide) (by decide) (.inl rfl) (by decide) (by decide) (by decide) (by decide) rfl
  have w1 : ∀ x ∈ [wants 1 5 1 13], x.span = whole := fun x hx => by simp only [List.mem_singleton] at hx; subst hx; rfl
  have a2 : top_askR14_f [wants 1 5 1 13] 12 2 5 2 1 = some ([wants 1 5 1 13], false, [1]) :=
    ask_not (r := [1]) (L := [wants 1 5 1 13]) (now := 12) (c := 2) (ino := 5) (kind := 2) (n := 1) (by simp) w1 (by decide) (by decide) (by decide) (.inr rfl) (by decide) (by decide) (by decide) (once_one 1)
  have a3 : top_askR14_f [wants 1 5 1 13] 13 2 5 2 1 = some ([wants 2 5 2 16], true, []) :=
    ask_had (L := [wants 1 5 1 13]) (now := 13) (c := 2) (ino := 5) (kind := 2) (n := 1) (by simp) w1 (by decide) (by decide) (by decide) (.inr rfl) (by decide) (by decide) (by decide) (by decide) rfl
  rw [a1, Option.bind_some]
  simp only
  rw [a2, Option.bind_some, a3, Option.bind_some, page_nil, Option.bind_some, getp_one, Option.bind_some, getp_one, Option.bind_some]
  simp only [show ¬ ((1 : Int) ≤ 0) by decide, show ((1 : Int) ≤ 1) by decide, if_true, if_false, cond_true, Bool.not_false]
  rw [ints_one, Option.bind_some, bytes_one, Option.bind_some, Wait_eq (by decide) (by decide)]
  rfl
end Go.Proofs.Ytogickapcbibbaa
