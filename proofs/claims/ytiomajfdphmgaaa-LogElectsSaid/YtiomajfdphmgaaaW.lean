/- How the laws' arguments are read. -/
import Derived.Test.YtiomajfdphmgaaaTy
import Derived.Test.YtiomajfdphmgaaaB8
set_option linter.unusedVariables false
namespace Go.Proofs.Ytiomajfdphmgaaa
open Go.Ab Go.Kx
def rep34 : Rep Entry := Rep.map (Rep.pair (Rep.int .i64) (Rep.slice (Rep.int .u8))) (fun s => (s.term, s.data))
theorem brg34 : Brg rep34 Entry.c := brg_map (brg_pair (brg_int .i64) (brg_slice (brg_int .u8))) _
theorem opens34 : Opens Try.prog 34 rep34 := by
  refine opens_map (g := fun a => ⟨a.1, a.2⟩) (fun _ => rfl) (opens_struct Try.underlying34 (by kernel_rfl) ?_)
  apply opens_field
  · rfl
  · kernel_rfl
  · exact (opens_int Try.underlying3)
  apply opens_last
  · rfl
  · kernel_rfl
  · exact (opens_slice Try.underlying32 (by kernel_rfl) (by decide) (opens_int Try.underlying5))
def Entry.ok (x : Entry) : Prop := (okI .i64 x.term) ∧ (∀ y32 ∈ x.data, okI .u8 y32)
theorem okr34 {w : World} {D : Nat → Prop} {cs : List Value} {x : Entry} (h : rep34.rd w D cs x) : Entry.ok x := by
  obtain ⟨_, _, _, h0, h⟩ := h
  exact ⟨okr_int h0, (fun h => okr_slice h (fun h => okr_int h)) h⟩
end Go.Proofs.Ytiomajfdphmgaaa
