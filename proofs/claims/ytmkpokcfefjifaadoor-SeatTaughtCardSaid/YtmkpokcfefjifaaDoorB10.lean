import Derived.Test.YtmkpokcfefjifaaDoorB9
import Derived.Test.YtmkpokcfefjifaaDoorA19
set_option linter.unusedSectionVars false
/- What the evaluator does not know of itself: a string's bytes. No program here. -/
namespace Go.Ab
open Go.RowKit
variable [Lay]
/-- a string's bytes -/
def strBytes (s : ByteArray) : List Int := s.data.toList.map fun b => (b.toNat : Int)
theorem strCells_eq (s : ByteArray) : strCells s = (strBytes s).map (ci .u8) := by
  unfold strCells strBytes; rw [List.map_map]; rfl
theorem strBytes_len (s : ByteArray) : (strBytes s).length = s.size := by rw [strBytes, List.length_map, Array.length_toList]; rfl
def othE (o : Option Ef) (dst : Option Tmp) (σ : St) (K : St → Prop) : Prop := match o with | some e => e.side ∧ K (σ.app dst e) | none => False
section
variable {P : Program} {σ : St} {i : Nat} {o : Oper} {K : St → Prop}
end
theorem tk_garb {α β : Type} (f : α → β) (A : List α) {E R T : List β} {k : Nat} (hk : A.length = k) (h : E = A.map f) : ((E ++ R ++ T).drop 0).take k = A.map f := by
  rw [List.drop_zero, List.append_assoc, List.take_append_of_le_length (by rw [h, List.length_map, hk]; exact Nat.le_refl _), List.take_of_length_le (by rw [h, List.length_map, hk]; exact Nat.le_refl _), h]
theorem tk_dr {α : Type} (l : List α) (j : Nat) : (l.drop j).take (l.length - j) = l.drop j := List.take_of_length_le (by simp)
end Go.Ab
