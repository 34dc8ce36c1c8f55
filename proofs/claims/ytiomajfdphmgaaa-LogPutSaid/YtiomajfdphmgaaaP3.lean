/- LogTells, the plain law. -/
import Derived.Test.YtiomajfdphmgaaaG3
import Derived.Test.YtiomajfdphmgaaaP2
set_option linter.unusedSimpArgs false
set_option linter.unusedVariables false
namespace Go.Proofs.Ytiomajfdphmgaaa
open Go.Ab Go.RowKit
theorem put_ok {l more : List Entry} (hl : ∀ e ∈ l, Entry.ok e ∧ e.data.length ≤ 40) (hm : ∀ e ∈ more, Entry.ok e ∧ e.data.length ≤ 40) : ∀ e ∈ mrg l more, Entry.ok e ∧ e.data.length ≤ 40 := by
  induction l generalizing more with
  | nil => rw [mrg_e]; exact hm
  | cons x xs ih =>
    cases more with
    | nil => rw [mrg_nil]; exact hl
    | cons y ys =>
      rw [mrg_cons]
      split
      · intro e he
        rcases List.mem_cons.1 he with h | h
        · rw [h]; exact hl x (by simp)
        · exact ih (fun e he => hl e (by simp [he])) (fun e he => hm e (by simp [he])) e h
      · exact hm
theorem put_good {l more : List Entry} (hl : Good l) (hm : Good more) (hs : l.length + more.length ≤ 1000) (p : Nat) : Good (put l p more) := by
  refine ⟨?_, fun e he => ?_⟩
  · unfold put; have := mrg_len (l.drop p) more; simp at this ⊢; omega
  · unfold put at he
    rcases List.mem_append.1 he with h | h
    · exact (hl.take p).2 e h
    · exact put_ok (hl.drop p).2 hm.2 e h
theorem putR_good {l more : List Entry} {p t : Int} (hl : Good l) (hm : Good more) (hs : l.length + more.length ≤ 1000) : Good (putR l p t more).1 := by
  unfold putR
  split
  · split
    · exact Good.nil
    · exact put_good hl hm hs _
  · exact Good.nil
theorem LogTells_true (y0 : List Entry) (o0 : ∀ y22 ∈ y0, Entry.ok y22) (y1 : Int) (o1 : okI .i64 y1) (y2 : Int) (o2 : okI .i64 y2) (y3 : List Entry) (o3 : ∀ y22 ∈ y3, Entry.ok y22) (y4 : List Int) (o4 : ∀ y23 ∈ y4, okI .i64 y23) (y5 : Int) (o5 : okI .i64 y5) : law13_LogTells_f y0 y1 y2 y3 y4 y5 = some true := by
  unfold law13_LogTells_f
  obtain ⟨b, e1, h1⟩ := fit_eq o0
  obtain ⟨c, e2, h2⟩ := fit_eq o3
  rw [head_eq, Option.bind_some, e1, Option.bind_some]
  cases b with
  | false => rfl
  | true =>
    obtain ⟨g1, l1⟩ := h1 rfl
    rw [e2, Option.bind_some, Bool.not_true, cond_false]
    cases h : ((!c) || (decide (60 < (y4.length : Int)))) with
    | true => rfl
    | false =>
      simp only [Bool.or_eq_false_iff, Bool.not_eq_false', decide_eq_false_iff_not] at h
      obtain ⟨rfl, h⟩ := h
      obtain ⟨g2, l2⟩ := h2 rfl
      unfold law13_LogTells_J1
      rw [cond_false, put_eq g1 g2, Option.bind_some, rPut_eq g1 g2, Option.bind_some, cond_true, fits_eq g1.1, Option.bind_some, rFits_eq g1.1, Option.bind_some, rSame_eq (putR_good g1 g2 (by omega)), Option.bind_some, newer_eq g1.1, Option.bind_some, rNewer_eq g1.1, Option.bind_some,
        commit_eq g1.1 (by omega), Option.bind_some, rCommit_eq g1.1 (by omega), Option.bind_some, same_eq g1 g2, Option.bind_some, rSame_eq g1, Option.bind_some]
      simp
end Go.Proofs.Ytiomajfdphmgaaa
