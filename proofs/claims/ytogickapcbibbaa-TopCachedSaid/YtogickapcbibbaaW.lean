/- How the laws' arguments are read. -/
import Derived.Test.YtogickapcbibbaaTy
import Derived.Test.YtogickapcbibbaaB11
set_option linter.unusedVariables false
namespace Go.Proofs.Ytogickapcbibbaa
open Go.Ab Go.Kx
def rep35 : Rep ActR14 := Rep.map (Rep.pair (Rep.int .u8) (Rep.int .u8)) (fun s => (s.do_, s.long))
theorem brg35 : Brg rep35 ActR14.c := brg_map (brg_pair (brg_int .u8) (brg_int .u8)) _
theorem opens35 : Opens Try.prog 35 rep35 := by
  refine opens_map (g := fun a => ⟨a.1, a.2⟩) (fun _ => rfl) (opens_struct Try.underlying35 (by kernel_rfl) ?_)
  apply opens_field
  · rfl
  · kernel_rfl
  · exact (opens_int Try.underlying5)
  apply opens_last
  · rfl
  · kernel_rfl
  · exact (opens_int Try.underlying5)
def ActR14.ok (x : ActR14) : Prop := (okI .u8 x.do_) ∧ (okI .u8 x.long)
theorem okr35 {w : World} {D : Nat → Prop} {cs : List Value} {x : ActR14} (h : rep35.rd w D cs x) : ActR14.ok x := by
  obtain ⟨_, _, _, h0, h⟩ := h
  exact ⟨okr_int h0, okr_int h⟩
end Go.Proofs.Ytogickapcbibbaa
