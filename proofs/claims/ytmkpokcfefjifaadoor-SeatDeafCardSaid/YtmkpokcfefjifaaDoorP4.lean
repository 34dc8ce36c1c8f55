import Derived.Test.YtmkpokcfefjifaaDoorP3
set_option linter.unusedSectionVars false
/- Which messages are for a seat. -/
set_option linter.unusedSimpArgs false
set_option linter.unusedVariables false
namespace Go.Proofs.YtmkpokcfefjifaaDoor
open Go.Ab
theorem indexF_L {l : List Int} {f : Int → Option Bool} {g : Int → Bool} (hl : l.length ≤ 1000000) (hf : ∀ x, f x = some (g x)) : ∀ m k, l.length < m + k → k ≤ l.length → ∃ r, slices_IndexFunc_L1 l f m (k : Int) = some r ∧ (0 ≤ r ↔ (l.drop k).any g = true) := by
  intro m
  induction m with
  | zero => intro k h1 h2; omega
  | succ m ih =>
    intro k h1 h2
    rw [slices_IndexFunc_L1, cond_d]
    by_cases hk : k < l.length
    · rw [if_pos (by omega), idx_nat hk, Option.bind_some, hf, Option.bind_some, w64_succ (by omega), drop_cons hk, List.any_cons]
      obtain ⟨r, e, h⟩ := ih (k + 1) (by omega) (by omega)
      cases hx : g l[k]
      · rw [Bool.false_or]; exact ⟨r, e, h⟩
      · exact ⟨k, rfl, by simp⟩
    · rw [if_neg (by omega), List.drop_of_length_le (by omega)]
      exact ⟨-1, rfl, by simp⟩
theorem cfunc_eq {l : List Int} {f : Int → Option Bool} {g : Int → Bool} (hl : l.length ≤ 1000000) (hf : ∀ x, f x = some (g x)) : slices_ContainsFunc_f l f = some (l.any g) := by
  unfold slices_ContainsFunc_f slices_IndexFunc_f
  obtain ⟨r, e, h⟩ := indexF_L hl hf BIG 0 (by rw [BIG_eq]; omega) (by omega)
  have e' : slices_IndexFunc_L1 l f BIG 0 = some r := e
  rw [e', Option.bind_some]
  rw [List.drop_zero] at h
  congr 1
  rw [Bool.eq_iff_iff, decide_eq_true_eq]; exact h
def neg (n : Int) : Bool := decide (n < 0)
def tailB (m : Msg) : Bool :=
  if m.kind = 3 then decide (4 ≤ m.nums.length) && (okW (m.nums.getD 0 0) (m.nums.drop 4) (if 1 > m.nums.getD 2 0 then 1 else m.nums.getD 2 0) m.data && decide (m.nums.length ≤ 20))
  else decide (m.nums.length = (if m.kind = 2 then 2 else 3)) && (decide (m.data.length = 0) && (decide (m.kind = 1) || decide (m.nums.getD 1 0 ≤ 1)))
theorem tail_eq {m : Msg} (hn : m.nums.length ≤ 60) (hd : m.data.length ≤ 2400) (h2 : 2 ≤ m.nums.length) : ref15_For_J2 m = some (tailB m) := by
  unfold ref15_For_J2 tailB
  by_cases k3 : m.kind = 3
  · obtain ⟨l', e⟩ := Carried_eq hn hd h2
    rw [if_pos k3, show (m.kind == 3) = true by simpa using k3, cond_true, e, Option.bind_some]
  rw [if_neg k3, show (m.kind == 3) = false by simpa using k3, cond_false]
  have J : ∀ c : Nat, ref15_For_J3 m (c : Int) = some (decide (m.nums.length = c) && (decide (m.data.length = 0) && (decide (m.kind = 1) || decide (m.nums.getD 1 0 ≤ 1)))) := fun c => by
    unfold ref15_For_J3
    by_cases a : m.nums.length = c
    · rw [show ((m.nums.length : Int) == (c : Int)) = true by simp [a], cond_true, decide_eq_true a, Bool.true_and]
      by_cases b : m.data.length = 0
      · rw [show ((m.data.length : Int) == 0) = true by simp [b], cond_true, decide_eq_true b, Bool.true_and]
        by_cases k : m.kind = 1
        · rw [show (m.kind == 1) = true by simpa using k, decide_eq_true k]; rfl
        · rw [show (m.kind == 1) = false by simpa using k, decide_eq_false k, cond_false, show idx m.nums 1 = some (m.nums.getD 1 0) from idx_get (k := 1) (by omega)]; rfl
      · rw [show ((m.data.length : Int) == 0) = false by simp; intro h; exact b (by rw [h]; rfl), decide_eq_false b]; rfl
    · rw [show ((m.nums.length : Int) == (c : Int)) = false by simp; omega, decide_eq_false a]; rfl
  by_cases k2 : m.kind = 2
  · rw [show (m.kind == 2) = true by simpa using k2, cond_true, if_pos k2]; exact J 2
  · rw [show (m.kind == 2) = false by simpa using k2, cond_false, if_neg k2]; exact J 3
theorem For_L {m : Msg} (hn : m.nums.length ≤ 60) (hd : m.data.length ≤ 2400) (h2 : 2 ≤ m.nums.length) : ∀ u k, m.nums.length < u + k → k ≤ m.nums.length → ref15_For_L1 m u (k : Int) = some (!(m.nums.drop k).any neg && tailB m) := by
  intro u
  induction u with
  | zero => intro k h1 h2; omega
  | succ u ih =>
    intro k h1 h3
    rw [ref15_For_L1, cond_d]
    by_cases hk : k < m.nums.length
    · rw [if_pos (by omega), idx_nat hk, Option.bind_some, w64_succ (by omega), ih (k + 1) (by omega) (by omega), drop_cons hk, List.any_cons]
      cases h : neg m.nums[k]
      · have : decide (m.nums[k] < 0) = false := h
        rw [this]; simp
      · have : decide (m.nums[k] < 0) = true := h
        rw [this]; simp
    · rw [if_neg (by omega), tail_eq hn hd h2, List.drop_of_length_le (by omega)]
      simp
def forB (s : Seat) (m : Msg) : Bool :=
  if m.to_ = s.id ∧ m.from_ ≠ s.id ∧ s.peers.contains m.from_ = true ∧ 1 ≤ m.kind ∧ m.kind ≤ 4 ∧ 2 ≤ m.nums.length ∧ m.nums.getD 0 0 ≤ 1099511627776 ∧ m.nums.any neg = false then tailB m else false
theorem For_eq {s : Seat} {m : Msg} (hp : s.peers.length ≤ 20) (hn : m.nums.length ≤ 60) (hd : m.data.length ≤ 2400) : ref15_For_f s m = some (forB s m) := by
  unfold ref15_For_f forB
  have no : ref15_For_J1 m true = some false := rfl
  by_cases a : m.to_ = s.id
  case neg => rw [show (m.to_ != s.id) = true by simpa using a, cond_true, no, if_neg (fun h => a h.1)]
  rw [show (m.to_ != s.id) = false by simpa using a, cond_false]
  by_cases b : m.from_ = s.id
  case pos => rw [show (m.from_ == s.id) = true by simpa using b, cond_true, no, if_neg (fun h => h.2.1 b)]
  rw [show (m.from_ == s.id) = false by simpa using b, cond_false, has_eq (by omega), Option.bind_some]
  cases c : s.peers.contains m.from_
  case false => rw [if_neg (fun h => by cases h.2.2.1)]; exact no
  rw [Bool.not_true, cond_false, cond_d]
  by_cases d : m.kind < 1
  case pos => rw [if_pos d, no, if_neg (fun h => by have := h.2.2.2.1; omega)]
  rw [if_neg d, cond_d]
  by_cases e : 4 < m.kind
  case pos => rw [if_pos e, no, if_neg (fun h => by have := h.2.2.2.2.1; omega)]
  rw [if_neg e, cond_d]
  by_cases f : m.nums.length < 2
  case pos => rw [if_pos (by omega), no, if_neg (fun h => by have := h.2.2.2.2.2.1; omega)]
  rw [if_neg (by omega), show idx m.nums 0 = some (m.nums.getD 0 0) from idx_get (k := 0) (by omega), Option.bind_some]
  unfold ref15_For_J1
  rw [cond_d]
  by_cases g : 1099511627776 < m.nums.getD 0 0
  case pos => rw [if_pos g, if_neg (fun h => by have := h.2.2.2.2.2.2.1; omega)]
  have L := For_L hn hd (by omega) BIG 0 (by rw [BIG_eq]; omega) (by omega)
  have L' : ref15_For_L1 m BIG 0 = some (!(m.nums.drop 0).any neg && tailB m) := L
  rw [if_neg g, L', List.drop_zero]
  cases h : m.nums.any neg
  · rw [if_pos ⟨a, b, rfl, by omega, by omega, by omega, by omega, rfl⟩]; simp
  · rw [if_neg (fun h => by cases h.2.2.2.2.2.2.2)]; simp
end Go.Proofs.YtmkpokcfefjifaaDoor
