import Derived.Test.YtjflkcfafijhfaaGreatQ18
import Derived.Test.YtjflkcfafijhfaaGreatQ39
set_option linter.unusedSectionVars false
/- How the laws' arguments are read. -/
set_option linter.unusedVariables false
namespace Go.Proofs.YtjflkcfafijhfaaGreat
open Go.Ab Go.Kx
def rep60 : Rep HurtR14 := Rep.map (Rep.pair (Rep.int .u8) (Rep.pair (Rep.int .u8) (Rep.pair (Rep.int .u8) (Rep.int .u16)))) (fun s => (s.do_, s.server, s.id, s.bit))
theorem brg60 : Brg rep60 HurtR14.c := brg_map (brg_pair (brg_int .u8) (brg_pair (brg_int .u8) (brg_pair (brg_int .u8) (brg_int .u16)))) _
theorem opens60 : Opens Tryz.prog 60 rep60 := by
 refine opens_map (g := fun a => ⟨a.1, a.2.1, a.2.2.1, a.2.2.2⟩) (fun _ => rfl) (opens_struct Tryz.underlying60 (by kernel_rfl) ?_)
 apply opens_field
 ·rfl
 ·kernel_rfl
 ·exact (opens_int Tryz.underlying5)
 apply opens_field
 ·rfl
 ·kernel_rfl
 ·exact (opens_int Tryz.underlying5)
 apply opens_field
 ·rfl
 ·kernel_rfl
 ·exact (opens_int Tryz.underlying5)
 apply opens_last
 ·rfl
 ·kernel_rfl
 ·exact (opens_int Tryz.underlying58)
def HurtR14.ok (x : HurtR14) : Prop := (okI .u8 x.do_) ∧ (okI .u8 x.server) ∧ (okI .u8 x.id) ∧ (okI .u16 x.bit)
theorem okr60 {w : World} {D : Nat → Prop} {cs : List Value} {x : HurtR14} (h : rep60.rd w D cs x) : HurtR14.ok x := by
 obtain ⟨_, _, _, h0, h⟩ := h
 obtain ⟨_, _, _, h1, h⟩ := h
 obtain ⟨_, _, _, h2, h⟩ := h
 exact ⟨okr_int h0, okr_int h1, okr_int h2, okr_int h⟩
end Go.Proofs.YtjflkcfafijhfaaGreat
