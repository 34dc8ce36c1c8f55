/- How the laws' arguments are read. -/
import Derived.Test.YtifkepfcjhebfaaTy
import Derived.Test.YtifkepfcjhebfaaB11
set_option linter.unusedVariables false
namespace Go.Proofs.Ytifkepfcjhebfaa
open Go.Ab Go.Kx
def rep24 : Rep Op := Rep.map (Rep.pair (Rep.int .i64) (Rep.pair (Rep.int .i64) (Rep.pair Rep.str (Rep.pair Rep.str (Rep.pair (Rep.int .i64) (Rep.pair (Rep.int .i64) (Rep.pair (Rep.int .i64) (Rep.slice (Rep.int .u8))))))))) (fun s => (s.kind, s.client, s.path, s.to_, s.n, s.m, s.handle, s.data))
theorem brg24 : Brg rep24 Op.c := brg_map (brg_pair (brg_int .i64) (brg_pair (brg_int .i64) (brg_pair brg_str (brg_pair brg_str (brg_pair (brg_int .i64) (brg_pair (brg_int .i64) (brg_pair (brg_int .i64) (brg_slice (brg_int .u8))))))))) _
theorem opens24 : Opens Try.prog 24 rep24 := by
  refine opens_map (g := fun a => ⟨a.1, a.2.1, a.2.2.1, a.2.2.2.1, a.2.2.2.2.1, a.2.2.2.2.2.1, a.2.2.2.2.2.2.1, a.2.2.2.2.2.2.2⟩) (fun _ => rfl) (opens_struct Try.underlying24 (by kernel_rfl) ?_)
  apply opens_field
  · rfl
  · kernel_rfl
  · exact (opens_int Try.underlying3)
  apply opens_field
  · rfl
  · kernel_rfl
  · exact (opens_int Try.underlying3)
  apply opens_field
  · rfl
  · kernel_rfl
  · exact (opens_str Try.underlying9)
  apply opens_field
  · rfl
  · kernel_rfl
  · exact (opens_str Try.underlying9)
  apply opens_field
  · rfl
  · kernel_rfl
  · exact (opens_int Try.underlying3)
  apply opens_field
  · rfl
  · kernel_rfl
  · exact (opens_int Try.underlying3)
  apply opens_field
  · rfl
  · kernel_rfl
  · exact (opens_int Try.underlying3)
  apply opens_last
  · rfl
  · kernel_rfl
  · exact (opens_slice Try.underlying22 (by kernel_rfl) (by decide) (opens_int Try.underlying5))
def Op.ok (x : Op) : Prop := (okI .i64 x.kind) ∧ (okI .i64 x.client) ∧ (okS x.path) ∧ (okS x.to_) ∧ (okI .i64 x.n) ∧ (okI .i64 x.m) ∧ (okI .i64 x.handle) ∧ (∀ y22 ∈ x.data, okI .u8 y22)
theorem okr24 {w : World} {D : Nat → Prop} {cs : List Value} {x : Op} (h : rep24.rd w D cs x) : Op.ok x := by
  obtain ⟨_, _, _, h0, h⟩ := h
  obtain ⟨_, _, _, h1, h⟩ := h
  obtain ⟨_, _, _, h2, h⟩ := h
  obtain ⟨_, _, _, h3, h⟩ := h
  obtain ⟨_, _, _, h4, h⟩ := h
  obtain ⟨_, _, _, h5, h⟩ := h
  obtain ⟨_, _, _, h6, h⟩ := h
  exact ⟨okr_int h0, okr_int h1, okr_str h2, okr_str h3, okr_int h4, okr_int h5, okr_int h6, (fun h => okr_slice h (fun h => okr_int h)) h⟩
def rep30 : Rep Ans := Rep.map (Rep.pair (Rep.int .i64) (Rep.pair (Rep.int .i64) (Rep.pair (Rep.int .i64) (Rep.pair (Rep.int .i64) (Rep.pair (Rep.int .i64) (Rep.pair (Rep.slice Rep.str) (Rep.slice (Rep.int .u8)))))))) (fun s => (s.err, s.ino, s.kind, s.n, s.m, s.names, s.data))
theorem brg30 : Brg rep30 Ans.c := brg_map (brg_pair (brg_int .i64) (brg_pair (brg_int .i64) (brg_pair (brg_int .i64) (brg_pair (brg_int .i64) (brg_pair (brg_int .i64) (brg_pair (brg_slice brg_str) (brg_slice (brg_int .u8)))))))) _
theorem opens30 : Opens Try.prog 30 rep30 := by
  refine opens_map (g := fun a => ⟨a.1, a.2.1, a.2.2.1, a.2.2.2.1, a.2.2.2.2.1, a.2.2.2.2.2.1, a.2.2.2.2.2.2⟩) (fun _ => rfl) (opens_struct Try.underlying30 (by kernel_rfl) ?_)
  apply opens_field
  · rfl
  · kernel_rfl
  · exact (opens_int Try.underlying28)
  apply opens_field
  · rfl
  · kernel_rfl
  · exact (opens_int Try.underlying3)
  apply opens_field
  · rfl
  · kernel_rfl
  · exact (opens_int Try.underlying3)
  apply opens_field
  · rfl
  · kernel_rfl
  · exact (opens_int Try.underlying3)
  apply opens_field
  · rfl
  · kernel_rfl
  · exact (opens_int Try.underlying3)
  apply opens_field
  · rfl
  · kernel_rfl
  · exact (opens_slice Try.underlying27 (by kernel_rfl) (by decide) (opens_str Try.underlying9))
  apply opens_last
  · rfl
  · kernel_rfl
  · exact (opens_slice Try.underlying22 (by kernel_rfl) (by decide) (opens_int Try.underlying5))
def Ans.ok (x : Ans) : Prop := (okI .i64 x.err) ∧ (okI .i64 x.ino) ∧ (okI .i64 x.kind) ∧ (okI .i64 x.n) ∧ (okI .i64 x.m) ∧ (∀ y27 ∈ x.names, okS y27) ∧ (∀ y22 ∈ x.data, okI .u8 y22)
theorem okr30 {w : World} {D : Nat → Prop} {cs : List Value} {x : Ans} (h : rep30.rd w D cs x) : Ans.ok x := by
  obtain ⟨_, _, _, h0, h⟩ := h
  obtain ⟨_, _, _, h1, h⟩ := h
  obtain ⟨_, _, _, h2, h⟩ := h
  obtain ⟨_, _, _, h3, h⟩ := h
  obtain ⟨_, _, _, h4, h⟩ := h
  obtain ⟨_, _, _, h5, h⟩ := h
  exact ⟨okr_int h0, okr_int h1, okr_int h2, okr_int h3, okr_int h4, (fun h => okr_slice h (fun h => okr_str h)) h5, (fun h => okr_slice h (fun h => okr_int h)) h⟩
end Go.Proofs.Ytifkepfcjhebfaa
