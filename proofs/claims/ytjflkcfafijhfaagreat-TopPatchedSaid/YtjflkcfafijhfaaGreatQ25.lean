import Derived.Test.YtjflkcfafijhfaaGreatQ24
import Derived.Test.YtjflkcfafijhfaaGreatQ12
set_option linter.unusedSectionVars false
/- What arguments that are read are known to be: integers within their kinds. No program here. -/
namespace Go.Ab
open Go.RowKit Go.Kx
variable [Lay]
def okI : IntKind → Int → Prop
 | .u8, n => 0 ≤ n ∧ n < 256
 | .u16, n => 0 ≤ n ∧ n < 65536
 | .u32, n => 0 ≤ n ∧ n < 4294967296
 | .u64, n => 0 ≤ n ∧ n < 18446744073709551616
 | .i64, n => -9223372036854775808 ≤ n ∧ n ≤ 9223372036854775807
 | _, _ => True
theorem okI_of {k : IntKind} {n : Int} (h : (Lit.int k n).wf = true) : okI k n := by
 cases k
 case u8 => exact wf_u8 n h
 case u16 => exact wf_u16 n h
 case u32 => exact wf_u32 n h
 case u64 => exact wf_u64 n h
 case i64 => exact wf_i64' n h
 all_goals trivial
section
variable {α β : Type} {w : World} {D : Nat → Prop} {cs : List Value}
theorem okr_int {k : IntKind} {y : Int} (h : (Rep.int k).rd w D cs y) : okI k y := okI_of h.2
theorem okr_slice {R : Rep α} {p : α → Prop} {l : List α} (h : (Rep.slice R).rd w D cs l) (h1 : ∀ {cs y}, R.rd w D cs y → p y) : ∀ y ∈ l, p y := fun y hy => by
 obtain ⟨A, c, rfl, _, _, hx⟩ := h
 obtain ⟨i, hi, rfl⟩ := List.mem_iff_getElem.1 hy
 obtain ⟨b, o, es, _, _, _, _, h5⟩ := hx i _ (List.getElem?_eq_getElem hi)
 exact h1 h5
end
end Go.Ab
