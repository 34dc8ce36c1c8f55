import Derived.Test.YtmkpokcfefjifaaDoorTy
import Derived.Test.YtmkpokcfefjifaaDoorB11
set_option linter.unusedSectionVars false
/- How the laws' arguments are read. -/
set_option linter.unusedVariables false
namespace Go.Proofs.YtmkpokcfefjifaaDoor
open Go.Ab Go.Kx
def rep76 : Rep Entry := Rep.map (Rep.pair (Rep.int .i64) (Rep.slice (Rep.int .u8))) (fun s => (s.term, s.data))
theorem brg76 : Brg rep76 Entry.c := brg_map (brg_pair (brg_int .i64) (brg_slice (brg_int .u8))) _
theorem opens76 : Opens Tryd.prog 76 rep76 := by
  refine opens_map (g := fun a => ⟨a.1, a.2⟩) (fun _ => rfl) (opens_struct Tryd.underlying76 (by kernel_rfl) ?_)
  apply opens_field
  · rfl
  · kernel_rfl
  · exact (opens_int Tryd.underlying3)
  apply opens_last
  · rfl
  · kernel_rfl
  · exact (opens_slice Tryd.underlying26 (by kernel_rfl) (by decide) (opens_int Tryd.underlying5))
def Entry.ok (x : Entry) : Prop := (okI .i64 x.term) ∧ (∀ y26 ∈ x.data, okI .u8 y26)
theorem okr76 {w : World} {D : Nat → Prop} {cs : List Value} {x : Entry} (h : rep76.rd w D cs x) : Entry.ok x := by
  obtain ⟨_, _, _, h0, h⟩ := h
  exact ⟨okr_int h0, (fun h => okr_slice h (fun h => okr_int h)) h⟩
def rep25 : Rep Seat := Rep.map (Rep.pair (Rep.int .i64) (Rep.pair (Rep.slice (Rep.int .i64)) (Rep.pair (Rep.int .i64) (Rep.pair (Rep.int .i64) (Rep.pair (Rep.int .i64) (Rep.pair (Rep.slice rep76) (Rep.pair (Rep.int .i64) (Rep.pair (Rep.slice (Rep.int .i64)) (Rep.pair (Rep.slice (Rep.int .i64)) (Rep.slice (Rep.int .i64))))))))))) (fun s => (s.id, s.peers, s.term, s.voted, s.role, s.log, s.commit, s.votes, s.next, s.match_))
theorem brg25 : Brg rep25 Seat.c := brg_map (brg_pair (brg_int .i64) (brg_pair (brg_slice (brg_int .i64)) (brg_pair (brg_int .i64) (brg_pair (brg_int .i64) (brg_pair (brg_int .i64) (brg_pair (brg_slice brg76) (brg_pair (brg_int .i64) (brg_pair (brg_slice (brg_int .i64)) (brg_pair (brg_slice (brg_int .i64)) (brg_slice (brg_int .i64))))))))))) _
theorem opens25 : Opens Tryd.prog 25 rep25 := by
  refine opens_map (g := fun a => ⟨a.1, a.2.1, a.2.2.1, a.2.2.2.1, a.2.2.2.2.1, a.2.2.2.2.2.1, a.2.2.2.2.2.2.1, a.2.2.2.2.2.2.2.1, a.2.2.2.2.2.2.2.2.1, a.2.2.2.2.2.2.2.2.2⟩) (fun _ => rfl) (opens_struct Tryd.underlying25 (by kernel_rfl) ?_)
  apply opens_field
  · rfl
  · kernel_rfl
  · exact (opens_int Tryd.underlying3)
  apply opens_field
  · rfl
  · kernel_rfl
  · exact (opens_slice Tryd.underlying22 (by kernel_rfl) (by decide) (opens_int Tryd.underlying3))
  apply opens_field
  · rfl
  · kernel_rfl
  · exact (opens_int Tryd.underlying3)
  apply opens_field
  · rfl
  · kernel_rfl
  · exact (opens_int Tryd.underlying3)
  apply opens_field
  · rfl
  · kernel_rfl
  · exact (opens_int Tryd.underlying3)
  apply opens_field
  · rfl
  · kernel_rfl
  · exact (opens_slice Tryd.underlying23 (by kernel_rfl) (by decide) opens76)
  apply opens_field
  · rfl
  · kernel_rfl
  · exact (opens_int Tryd.underlying3)
  apply opens_field
  · rfl
  · kernel_rfl
  · exact (opens_slice Tryd.underlying22 (by kernel_rfl) (by decide) (opens_int Tryd.underlying3))
  apply opens_field
  · rfl
  · kernel_rfl
  · exact (opens_slice Tryd.underlying22 (by kernel_rfl) (by decide) (opens_int Tryd.underlying3))
  apply opens_last
  · rfl
  · kernel_rfl
  · exact (opens_slice Tryd.underlying22 (by kernel_rfl) (by decide) (opens_int Tryd.underlying3))
def Seat.ok (x : Seat) : Prop := (okI .i64 x.id) ∧ (∀ y22 ∈ x.peers, okI .i64 y22) ∧ (okI .i64 x.term) ∧ (okI .i64 x.voted) ∧ (okI .i64 x.role) ∧ (∀ y23 ∈ x.log, Entry.ok y23) ∧ (okI .i64 x.commit) ∧ (∀ y22 ∈ x.votes, okI .i64 y22) ∧ (∀ y22 ∈ x.next, okI .i64 y22) ∧ (∀ y22 ∈ x.match_, okI .i64 y22)
theorem okr25 {w : World} {D : Nat → Prop} {cs : List Value} {x : Seat} (h : rep25.rd w D cs x) : Seat.ok x := by
  obtain ⟨_, _, _, h0, h⟩ := h
  obtain ⟨_, _, _, h1, h⟩ := h
  obtain ⟨_, _, _, h2, h⟩ := h
  obtain ⟨_, _, _, h3, h⟩ := h
  obtain ⟨_, _, _, h4, h⟩ := h
  obtain ⟨_, _, _, h5, h⟩ := h
  obtain ⟨_, _, _, h6, h⟩ := h
  obtain ⟨_, _, _, h7, h⟩ := h
  obtain ⟨_, _, _, h8, h⟩ := h
  exact ⟨okr_int h0, (fun h => okr_slice h (fun h => okr_int h)) h1, okr_int h2, okr_int h3, okr_int h4, (fun h => okr_slice h okr76) h5, okr_int h6, (fun h => okr_slice h (fun h => okr_int h)) h7, (fun h => okr_slice h (fun h => okr_int h)) h8, (fun h => okr_slice h (fun h => okr_int h)) h⟩
def rep28 : Rep Msg := Rep.map (Rep.pair (Rep.int .i64) (Rep.pair (Rep.int .i64) (Rep.pair (Rep.int .i64) (Rep.pair (Rep.slice (Rep.int .i64)) (Rep.slice (Rep.int .u8)))))) (fun s => (s.from_, s.to_, s.kind, s.nums, s.data))
theorem brg28 : Brg rep28 Msg.c := brg_map (brg_pair (brg_int .i64) (brg_pair (brg_int .i64) (brg_pair (brg_int .i64) (brg_pair (brg_slice (brg_int .i64)) (brg_slice (brg_int .u8)))))) _
theorem opens28 : Opens Tryd.prog 28 rep28 := by
  refine opens_map (g := fun a => ⟨a.1, a.2.1, a.2.2.1, a.2.2.2.1, a.2.2.2.2⟩) (fun _ => rfl) (opens_struct Tryd.underlying28 (by kernel_rfl) ?_)
  apply opens_field
  · rfl
  · kernel_rfl
  · exact (opens_int Tryd.underlying3)
  apply opens_field
  · rfl
  · kernel_rfl
  · exact (opens_int Tryd.underlying3)
  apply opens_field
  · rfl
  · kernel_rfl
  · exact (opens_int Tryd.underlying3)
  apply opens_field
  · rfl
  · kernel_rfl
  · exact (opens_slice Tryd.underlying22 (by kernel_rfl) (by decide) (opens_int Tryd.underlying3))
  apply opens_last
  · rfl
  · kernel_rfl
  · exact (opens_slice Tryd.underlying26 (by kernel_rfl) (by decide) (opens_int Tryd.underlying5))
def Msg.ok (x : Msg) : Prop := (okI .i64 x.from_) ∧ (okI .i64 x.to_) ∧ (okI .i64 x.kind) ∧ (∀ y22 ∈ x.nums, okI .i64 y22) ∧ (∀ y26 ∈ x.data, okI .u8 y26)
theorem okr28 {w : World} {D : Nat → Prop} {cs : List Value} {x : Msg} (h : rep28.rd w D cs x) : Msg.ok x := by
  obtain ⟨_, _, _, h0, h⟩ := h
  obtain ⟨_, _, _, h1, h⟩ := h
  obtain ⟨_, _, _, h2, h⟩ := h
  obtain ⟨_, _, _, h3, h⟩ := h
  exact ⟨okr_int h0, okr_int h1, okr_int h2, (fun h => okr_slice h (fun h => okr_int h)) h3, (fun h => okr_slice h (fun h => okr_int h)) h⟩
def rep45 : Rep Step := Rep.map (Rep.pair (Rep.int .i64) rep28) (fun s => (s.do_, s.m))
theorem brg45 : Brg rep45 Step.c := brg_map (brg_pair (brg_int .i64) brg28) _
theorem opens45 : Opens Tryd.prog 45 rep45 := by
  refine opens_map (g := fun a => ⟨a.1, a.2⟩) (fun _ => rfl) (opens_struct Tryd.underlying45 (by kernel_rfl) ?_)
  apply opens_field
  · rfl
  · kernel_rfl
  · exact (opens_int Tryd.underlying3)
  apply opens_last
  · rfl
  · kernel_rfl
  · exact opens28
def Step.ok (x : Step) : Prop := (okI .i64 x.do_) ∧ (Msg.ok x.m)
theorem okr45 {w : World} {D : Nat → Prop} {cs : List Value} {x : Step} (h : rep45.rd w D cs x) : Step.ok x := by
  obtain ⟨_, _, _, h0, h⟩ := h
  exact ⟨okr_int h0, okr28 h⟩
end Go.Proofs.YtmkpokcfefjifaaDoor
