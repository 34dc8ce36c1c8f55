/- How the laws' arguments are read. -/
import Derived.Test.YteebeajhoemdpaaTy
import Derived.Test.YteebeajhoemdpaaB11
set_option linter.unusedVariables false
namespace Go.Proofs.Yteebeajhoemdpaa
open Go.Ab Go.Kx
def rep26 : Rep Msg := Rep.map (Rep.pair (Rep.int .i64) (Rep.pair (Rep.int .i64) (Rep.pair (Rep.int .i64) (Rep.pair (Rep.slice (Rep.int .i64)) (Rep.slice (Rep.int .u8)))))) (fun s => (s.from_, s.to_, s.kind, s.nums, s.data))
theorem brg26 : Brg rep26 Msg.c := brg_map (brg_pair (brg_int .i64) (brg_pair (brg_int .i64) (brg_pair (brg_int .i64) (brg_pair (brg_slice (brg_int .i64)) (brg_slice (brg_int .u8)))))) _
theorem opens26 : Opens Try.prog 26 rep26 := by
  refine opens_map (g := fun a => ⟨a.1, a.2.1, a.2.2.1, a.2.2.2.1, a.2.2.2.2⟩) (fun _ => rfl) (opens_struct Try.underlying26 (by kernel_rfl) ?_)
  apply opens_field
  · rfl
  · kernel_rfl
  · exact (opens_int Try.underlying3)
  apply opens_field
  · rfl
  · kernel_rfl
  · exact (opens_int Try.underlying3)
  apply opens_field
  · rfl
  · kernel_rfl
  · exact (opens_int Try.underlying3)
  apply opens_field
  · rfl
  · kernel_rfl
  · exact (opens_slice Try.underlying23 (by kernel_rfl) (by decide) (opens_int Try.underlying3))
  apply opens_last
  · rfl
  · kernel_rfl
  · exact (opens_slice Try.underlying24 (by kernel_rfl) (by decide) (opens_int Try.underlying5))
def Msg.ok (x : Msg) : Prop := (okI .i64 x.from_) ∧ (okI .i64 x.to_) ∧ (okI .i64 x.kind) ∧ (∀ y23 ∈ x.nums, okI .i64 y23) ∧ (∀ y24 ∈ x.data, okI .u8 y24)
theorem okr26 {w : World} {D : Nat → Prop} {cs : List Value} {x : Msg} (h : rep26.rd w D cs x) : Msg.ok x := by
  obtain ⟨_, _, _, h0, h⟩ := h
  obtain ⟨_, _, _, h1, h⟩ := h
  obtain ⟨_, _, _, h2, h⟩ := h
  obtain ⟨_, _, _, h3, h⟩ := h
  exact ⟨okr_int h0, okr_int h1, okr_int h2, (fun h => okr_slice h (fun h => okr_int h)) h3, (fun h => okr_slice h (fun h => okr_int h)) h⟩
def rep40 : Rep Act := Rep.map (Rep.pair rep26 (Rep.pair (Rep.int .u8) (Rep.int .u8))) (fun s => (s.m, s.fate, s.at_))
theorem brg40 : Brg rep40 Act.c := brg_map (brg_pair brg26 (brg_pair (brg_int .u8) (brg_int .u8))) _
theorem opens40 : Opens Try.prog 40 rep40 := by
  refine opens_map (g := fun a => ⟨a.1, a.2.1, a.2.2⟩) (fun _ => rfl) (opens_struct Try.underlying40 (by kernel_rfl) ?_)
  apply opens_field
  · rfl
  · kernel_rfl
  · exact opens26
  apply opens_field
  · rfl
  · kernel_rfl
  · exact (opens_int Try.underlying5)
  apply opens_last
  · rfl
  · kernel_rfl
  · exact (opens_int Try.underlying5)
def Act.ok (x : Act) : Prop := (Msg.ok x.m) ∧ (okI .u8 x.fate) ∧ (okI .u8 x.at_)
theorem okr40 {w : World} {D : Nat → Prop} {cs : List Value} {x : Act} (h : rep40.rd w D cs x) : Act.ok x := by
  obtain ⟨_, _, _, h0, h⟩ := h
  obtain ⟨_, _, _, h1, h⟩ := h
  exact ⟨okr26 h0, okr_int h1, okr_int h⟩
end Go.Proofs.Yteebeajhoemdpaa
