/- How the laws' arguments are read. -/
import Derived.Test.YtecdonbjabjaeaaTy
import Derived.Test.YtecdonbjabjaeaaB8
set_option linter.unusedVariables false
namespace Go.Proofs.Ytecdonbjabjaeaa
open Go.Ab Go.Kx
def rep55 : Rep Entry := Rep.map (Rep.pair (Rep.int .i64) (Rep.slice (Rep.int .u8))) (fun s => (s.term, s.data))
theorem brg55 : Brg rep55 Entry.c := brg_map (brg_pair (brg_int .i64) (brg_slice (brg_int .u8))) _
theorem opens55 : Opens Try.prog 55 rep55 := by
  refine opens_map (g := fun a => ⟨a.1, a.2⟩) (fun _ => rfl) (opens_struct Try.underlying55 (by kernel_rfl) ?_)
  apply opens_field
  · rfl
  · kernel_rfl
  · exact (opens_int Try.underlying3)
  apply opens_last
  · rfl
  · kernel_rfl
  · exact (opens_slice Try.underlying41 (by kernel_rfl) (by decide) (opens_int Try.underlying5))
def Entry.ok (x : Entry) : Prop := (okI .i64 x.term) ∧ (∀ y41 ∈ x.data, okI .u8 y41)
theorem okr55 {w : World} {D : Nat → Prop} {cs : List Value} {x : Entry} (h : rep55.rd w D cs x) : Entry.ok x := by
  obtain ⟨_, _, _, h0, h⟩ := h
  exact ⟨okr_int h0, (fun h => okr_slice h (fun h => okr_int h)) h⟩
def rep25 : Rep Seat := Rep.map (Rep.pair (Rep.int .i64) (Rep.pair (Rep.slice (Rep.int .i64)) (Rep.pair (Rep.int .i64) (Rep.pair (Rep.int .i64) (Rep.pair (Rep.int .i64) (Rep.pair (Rep.slice rep55) (Rep.pair (Rep.int .i64) (Rep.pair (Rep.slice (Rep.int .i64)) (Rep.pair (Rep.slice (Rep.int .i64)) (Rep.slice (Rep.int .i64))))))))))) (fun s => (s.id, s.peers, s.term, s.voted, s.role, s.log, s.commit, s.votes, s.next, s.match_))
theorem brg25 : Brg rep25 Seat.c := brg_map (brg_pair (brg_int .i64) (brg_pair (brg_slice (brg_int .i64)) (brg_pair (brg_int .i64) (brg_pair (brg_int .i64) (brg_pair (brg_int .i64) (brg_pair (brg_slice brg55) (brg_pair (brg_int .i64) (brg_pair (brg_slice (brg_int .i64)) (brg_pair (brg_slice (brg_int .i64)) (brg_slice (brg_int .i64))))))))))) _
theorem opens25 : Opens Try.prog 25 rep25 := by
  refine opens_map (g := fun a => ⟨a.1, a.2.1, a.2.2.1, a.2.2.2.1, a.2.2.2.2.1, a.2.2.2.2.2.1, a.2.2.2.2.2.2.1, a.2.2.2.2.2.2.2.1, a.2.2.2.2.2.2.2.2.1, a.2.2.2.2.2.2.2.2.2⟩) (fun _ => rfl) (opens_struct Try.underlying25 (by kernel_rfl) ?_)
  apply opens_field
  · rfl
  · kernel_rfl
  · exact (opens_int Try.underlying3)
  apply opens_field
  · rfl
  · kernel_rfl
  · exact (opens_slice Try.underlying22 (by kernel_rfl) (by decide) (opens_int Try.underlying3))
  apply opens_field
  · rfl
  · kernel_rfl
  · exact (opens_int Try.underlying3)
  apply opens_field
  · rfl
  · kernel_rfl
  · exact (opens_int Try.underlying3)
  apply opens_field
  · rfl
  · kernel_rfl
  · exact (opens_int Try.underlying3)
  apply opens_field
  · rfl
  · kernel_rfl
  · exact (opens_slice Try.underlying23 (by kernel_rfl) (by decide) opens55)
  apply opens_field
  · rfl
  · kernel_rfl
  · exact (opens_int Try.underlying3)
  apply opens_field
  · rfl
  · kernel_rfl
  · exact (opens_slice Try.underlying22 (by kernel_rfl) (by decide) (opens_int Try.underlying3))
  apply opens_field
  · rfl
  · kernel_rfl
  · exact (opens_slice Try.underlying22 (by kernel_rfl) (by decide) (opens_int Try.underlying3))
  apply opens_last
  · rfl
  · kernel_rfl
  · exact (opens_slice Try.underlying22 (by kernel_rfl) (by decide) (opens_int Try.underlying3))
def Seat.ok (x : Seat) : Prop := (okI .i64 x.id) ∧ (∀ y22 ∈ x.peers, okI .i64 y22) ∧ (okI .i64 x.term) ∧ (okI .i64 x.voted) ∧ (okI .i64 x.role) ∧ (∀ y23 ∈ x.log, Entry.ok y23) ∧ (okI .i64 x.commit) ∧ (∀ y22 ∈ x.votes, okI .i64 y22) ∧ (∀ y22 ∈ x.next, okI .i64 y22) ∧ (∀ y22 ∈ x.match_, okI .i64 y22)
theorem okr25 {w : World} {D : Nat → Prop} {cs : List Value} {x : Seat} (h : rep25.rd w D cs x) : Seat.ok x := by
  obtain ⟨_, _, _, h0, h⟩ := h
  obtain ⟨_, _, _, h1, h⟩ := h
  obtain ⟨_, _, _, h2, h⟩ := h
  obtain ⟨_, _, _, h3, h⟩ := h
  obtain ⟨_, _, _, h4, h⟩ := h
  obtain ⟨_, _, _, h5, h⟩ := h
  obtain ⟨_, _, _, h6, h⟩ := h
  obtain ⟨_, _, _, h7, h⟩ := h
  obtain ⟨_, _, _, h8, h⟩ := h
  exact ⟨okr_int h0, (fun h => okr_slice h (fun h => okr_int h)) h1, okr_int h2, okr_int h3, okr_int h4, (fun h => okr_slice h okr55) h5, okr_int h6, (fun h => okr_slice h (fun h => okr_int h)) h7, (fun h => okr_slice h (fun h => okr_int h)) h8, (fun h => okr_slice h (fun h => okr_int h)) h⟩
def rep31 : Rep Call30 := Rep.map (Rep.pair (Rep.int .u8) (Rep.pair (Rep.int .u16) (Rep.pair (Rep.int .u8) (Rep.pair (Rep.int .u16) (Rep.int .u8))))) (fun s => (s.do_, s.term, s.who, s.last, s.many))
theorem brg31 : Brg rep31 Call30.c := brg_map (brg_pair (brg_int .u8) (brg_pair (brg_int .u16) (brg_pair (brg_int .u8) (brg_pair (brg_int .u16) (brg_int .u8))))) _
theorem opens31 : Opens Try.prog 31 rep31 := by
  refine opens_map (g := fun a => ⟨a.1, a.2.1, a.2.2.1, a.2.2.2.1, a.2.2.2.2⟩) (fun _ => rfl) (opens_struct Try.underlying31 (by kernel_rfl) ?_)
  apply opens_field
  · rfl
  · kernel_rfl
  · exact (opens_int Try.underlying5)
  apply opens_field
  · rfl
  · kernel_rfl
  · exact (opens_int Try.underlying29)
  apply opens_field
  · rfl
  · kernel_rfl
  · exact (opens_int Try.underlying5)
  apply opens_field
  · rfl
  · kernel_rfl
  · exact (opens_int Try.underlying29)
  apply opens_last
  · rfl
  · kernel_rfl
  · exact (opens_int Try.underlying5)
def Call30.ok (x : Call30) : Prop := (okI .u8 x.do_) ∧ (okI .u16 x.term) ∧ (okI .u8 x.who) ∧ (okI .u16 x.last) ∧ (okI .u8 x.many)
theorem okr31 {w : World} {D : Nat → Prop} {cs : List Value} {x : Call30} (h : rep31.rd w D cs x) : Call30.ok x := by
  obtain ⟨_, _, _, h0, h⟩ := h
  obtain ⟨_, _, _, h1, h⟩ := h
  obtain ⟨_, _, _, h2, h⟩ := h
  obtain ⟨_, _, _, h3, h⟩ := h
  exact ⟨okr_int h0, okr_int h1, okr_int h2, okr_int h3, okr_int h⟩
end Go.Proofs.Ytecdonbjabjaeaa
