import Derived.Test.YtmkpokcfefjifaaDoorB5
set_option linter.unusedSectionVars false
/- Plain lemmas for functional forms: indices, wrap-round, loops over lists. No program here. -/
namespace Go.Ab
variable [Lay]
theorem idx_nat {β : Type} [Inhabited β] {l : List β} {k : Nat} (h : k < l.length) : idx l (k : Int) = some (l[k]) := by
  unfold idx
  rw [if_pos ⟨by omega, by omega⟩]
  simp [List.getD_eq_getElem?_getD, h]
theorem w64_succ {k : Nat} (h : k < 9000000000000000000) : IntKind.wrap .i64 ((k : Int) + 1) = ((k + 1 : Nat) : Int) := by rw [wrap64 (by omega) (by omega)]; omega
theorem w64 {x : Int} (h1 : -9223372036854775808 ≤ x) (h2 : x ≤ 9223372036854775807) : IntKind.wrap .i64 x = x := wrap64 h1 h2
theorem cond_d {β : Type} {p : Prop} [Decidable p] {x y : β} : cond (decide p) x y = if p then x else y := by
  by_cases h : p <;> simp [h]
theorem drop_cons {β : Type} {l : List β} {k : Nat} (h : k < l.length) : l.drop k = l[k] :: l.drop (k + 1) := List.drop_eq_getElem_cons h
theorem take_snoc {β : Type} {l : List β} {k : Nat} (h : k < l.length) : l.take (k + 1) = l.take k ++ [l[k]] := List.take_succ_eq_append_getElem h
end Go.Ab
