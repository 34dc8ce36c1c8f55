import Derived.Test.YtmkpokcfefjifaaDoorP3
set_option linter.unusedSectionVars false
/- Which messages are for a seat. -/
set_option linter.unusedSimpArgs false
set_option linter.unusedVariables false
namespace Go.Proofs.YtmkpokcfefjifaaDoor
open Go.Ab
theorem indexF_L {l : List Int} {f : Int → Option Bool} {g : Int → Bool} (hl : l.length ≤ 1000000) (hf : ∀ x, f x = some (g x)) : ∀ m k, l.length < m + k → k ≤ l.length → ∃ r, slices_IndexFunc_L1 l f m (k : Int) = some r ∧ (0 ≤ r ↔ (l.drop k).any g = true) := by
  intro m
  induction m with
  | zero => intro k h1 h2; omega
  | succ m ih =>
    intro k h1 h2
    rw [slices_IndexFunc_L1, cond_d]
    by_cases hk : k < l.length
    · rw [if_pos (by omega), idx_nat hk, Option.bind_some, hf, Option.bind_some, w64_succ (by omega), drop_cons hk, List.any_cons]
      obtain ⟨r, e, h⟩ := ih (k + 1) (by omega) (by omega)
      cases hx : g l[k]
      · rw [Bool.false_or]; exact ⟨r, e, h⟩
      · exact ⟨k, rfl, by simp⟩
    · rw [if_neg (by omega), List.drop_of_length_le (by omega)]
      exact ⟨-1, rfl, by simp⟩
theorem cfunc_eq {l : List Int} {f : Int → Option Bool} {g : Int → Bool} (hl : l.length ≤ 1000000) (hf : ∀ x, f x = some (g x)) : slices_ContainsFunc_f l f = some (l.any g) := by
  unfold slices_ContainsFunc_f slices_IndexFunc_f
  obtain ⟨r, e, h⟩ := indexF_L hl hf BIG 0 (by rw [BIG_eq]; omega) (by omega)
  have e' : slices_IndexFunc_L1 l f BIG 0 = some r := e
  rw [e', Option.bind_some]
  rw [List.drop_zero] at h
  congr 1
  rw [Bool.eq_iff_iff, decide_eq_true_eq]; exact h
def neg (n : Int) : Bool := decide (n < 0)
def tailB (m : Msg) : Bool :=
  if m.kind = 3 then decide (4 ≤ m.nums.length) && (okW (m.nums.getD 0 0) (m.nums.drop 4) (if 1 > m.nums.getD 2 0 then 1 else m.nums.getD 2 0) m.data && decide (m.nums.length ≤ 20))
  else decide (m.nums.length = (if m.kind = 2 then 2 else 3)) && (decide (m.data.length = 0) && (decide (m.kind = 1) || decide (m.nums.getD 1 0 ≤ 1)))
def forB (s : Seat) (m : Msg) : Bool :=
  if m.to_ = s.id ∧ m.from_ ≠ s.id ∧ s.peers.contains m.from_ = true ∧ 1 ≤ m.kind ∧ m.kind ≤ 4 ∧ 2 ≤ m.nums.length ∧ m.nums.getD 0 0 ≤ 1099511627776 ∧ m.nums.any neg = false then tailB m else false
end Go.Proofs.YtmkpokcfefjifaaDoor
