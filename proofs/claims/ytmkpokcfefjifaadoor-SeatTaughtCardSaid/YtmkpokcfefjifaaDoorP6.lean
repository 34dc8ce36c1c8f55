import Derived.Test.YtmkpokcfefjifaaDoorP4
set_option linter.unusedSectionVars false
/- The program's answer to whether a message is for a seat. -/
set_option linter.unusedSimpArgs false
set_option linter.unusedVariables false
namespace Go.Proofs.YtmkpokcfefjifaaDoor
open Go.Ab
theorem isKind_iff (k : Int) : isKind k = true ↔ 1 ≤ k ∧ k ≤ 4 := by
  unfold isKind
  simp only [Bool.or_eq_true, beq_iff_eq]; omega
theorem isFor_eq {s : Seat} {m : Msg} (hp : s.peers.length ≤ 20) (hn : m.nums.length ≤ 60) (hd : m.data.length ≤ 2400) (hk : -9223372036854775808 ≤ m.kind ∧ m.kind ≤ 9223372036854775807) : seat_isFor_f s m = some (forB s m) := by
  unfold seat_isFor_f forB
  have no : seat_isFor_J1 m true = some false := rfl
  have lo : ∀ n, (2 ≤ m.nums.length ∧ tailB m = true → n = true) → n = false → (if m.to_ = s.id ∧ m.from_ ≠ s.id ∧ s.peers.contains m.from_ = true ∧ 1 ≤ m.kind ∧ m.kind ≤ 4 ∧ 2 ≤ m.nums.length ∧ m.nums.getD 0 0 ≤ 1099511627776 ∧ m.nums.any neg = false then tailB m else false) = false := fun n h e => by
    split
    · rename_i q
      cases ht : tailB m
      · rfl
      · have := h ⟨q.2.2.2.2.2.1, ht⟩; rw [e] at this; cases this
    · rfl
  rw [chk_pos hk]
  by_cases k : 1 ≤ m.kind ∧ m.kind ≤ 4
  case neg => rw [show isKind m.kind = false by cases h : isKind m.kind; rfl; exact absurd ((isKind_iff _).1 h) k, Bool.not_false, cond_true, no, if_neg (fun h => k ⟨h.2.2.2.1, h.2.2.2.2.1⟩)]
  rw [(isKind_iff _).2 k, Bool.not_true, cond_false]
  by_cases a : m.to_ = s.id
  case neg => rw [show (m.to_ != s.id) = true by simpa using a, cond_true, no, if_neg (fun h => a h.1)]
  rw [show (m.to_ != s.id) = false by simpa using a, cond_false]
  by_cases b : m.from_ = s.id
  case pos => rw [show (m.from_ == s.id) = true by simpa using b, cond_true, no, if_neg (fun h => h.2.1 b)]
  rw [show (m.from_ == s.id) = false by simpa using b, cond_false, contains_eq (by omega), Option.bind_some]
  cases c : s.peers.contains m.from_
  case false => rw [if_neg (fun h => by cases h.2.2.1)]; exact no
  rw [Bool.not_true, cond_false, cond_d]
  have num : (m.kind = 1 ∧ numOf m.kind = 3) ∨ (m.kind = 2 ∧ numOf m.kind = 2) ∨ (m.kind = 3 ∧ numOf m.kind = 4) ∨ (m.kind = 4 ∧ numOf m.kind = 3) := by
    unfold numOf
    obtain ⟨k1, k4⟩ := k
    rcases (by omega : m.kind = 1 ∨ m.kind = 2 ∨ m.kind = 3 ∨ m.kind = 4) with e | e | e | e <;> rw [e] <;> simp
  have tl : tailB m = true → (m.kind = 3 → 4 ≤ m.nums.length) ∧ (m.kind ≠ 3 → (m.nums.length : Int) = numOf m.kind ∧ m.data.length = 0) := by
    intro t
    unfold tailB at t
    constructor
    · intro k3
      rw [if_pos k3, Bool.and_eq_true, decide_eq_true_eq] at t
      exact t.1
    · intro k3
      rw [if_neg k3, Bool.and_eq_true, decide_eq_true_eq, Bool.and_eq_true, decide_eq_true_eq] at t
      refine ⟨?_, t.2.1⟩
      have := t.1
      split at this <;> omega
  by_cases d : (m.nums.length : Int) < numOf m.kind
  case pos =>
    rw [if_pos d, no]
    congr 1
    split
    · cases ht : tailB m
      · rfl
      · have := tl ht
        exfalso
        by_cases k3 : m.kind = 3
        · have := this.1 k3; omega
        · have := (this.2 k3).1; omega
    · rfl
  rw [if_neg d]
  have i0 : idx m.nums 0 = some (m.nums.getD 0 0) := idx_get (k := 0) (by omega)
  have T : ∀ p : Prop, ∀ [Decidable p], (p ↔ m.nums.getD 0 0 ≤ 1099511627776 ∧ m.nums.any neg = false) → (if m.to_ = s.id ∧ m.from_ ≠ s.id ∧ s.peers.contains m.from_ = true ∧ 1 ≤ m.kind ∧ m.kind ≤ 4 ∧ 2 ≤ m.nums.length ∧ m.nums.getD 0 0 ≤ 1099511627776 ∧ m.nums.any neg = false then tailB m else false) = if p then tailB m else false := fun p _ hp' => by
    by_cases q : p
    · rw [if_pos q, if_pos ⟨a, b, c, k.1, k.2, by omega, (hp'.1 q).1, (hp'.1 q).2⟩]
    · rw [if_neg q, if_neg (fun h => q (hp'.2 ⟨h.2.2.2.2.2.2.1, h.2.2.2.2.2.2.2⟩))]
  -- what stands behind the first number
  have rest : ∀ v : Bool, ((m.kind = 3 ∨ ((m.nums.length : Int) = numOf m.kind ∧ m.data.length = 0))) → seat_isFor_J1 m v = some (if v = false then tailB m else false) := by
    intro v hv
    cases v
    case true => rfl
    unfold seat_isFor_J1 tailB
    rw [cond_false, if_pos rfl]
    by_cases k3 : m.kind = 3
    · obtain ⟨l', e⟩ := carried_eq (x := m) hn hd (by omega)
      rw [show (m.kind == 3) = true by simpa using k3, cond_true, e, Option.bind_some, if_pos k3, decide_eq_true (show 4 ≤ m.nums.length by omega), Bool.true_and]
    rw [show (m.kind == 3) = false by simpa using k3, cond_false, if_neg k3]
    obtain ⟨q1, q2⟩ := hv.resolve_left k3
    have e1 : decide (m.nums.length = (if m.kind = 2 then 2 else 3)) = true := by
      rw [decide_eq_true_eq]; split <;> omega
    rw [e1, decide_eq_true q2, Bool.true_and, Bool.true_and]
    by_cases k1 : m.kind = 1
    · rw [show (m.kind == 1) = true by simpa using k1, decide_eq_true k1]; rfl
    · rw [show (m.kind == 1) = false by simpa using k1, decide_eq_false k1, cond_false, show idx m.nums 1 = some (m.nums.getD 1 0) from idx_get (k := 1) (by omega)]; rfl
  have cf : slices_ContainsFunc_f m.nums seat_isFor_1_f = some (m.nums.any neg) := cfunc_eq (by omega) (fun x => rfl)
  have fin : (m.kind = 3 ∨ ((m.nums.length : Int) = numOf m.kind ∧ m.data.length = 0)) → ((idx m.nums 0).bind fun x3 => cond (decide (1099511627776 < x3)) (seat_isFor_J1 m true) ((slices_ContainsFunc_f m.nums seat_isFor_1_f).bind fun r3 => seat_isFor_J1 m r3)) = some (forB s m) := by
    intro hv
    rw [i0, Option.bind_some, cond_d, cf, Option.bind_some]
    unfold forB
    by_cases g : 1099511627776 < m.nums.getD 0 0
    · rw [if_pos g, no, if_neg (fun h => by have := h.2.2.2.2.2.2.1; omega)]
    · rw [if_neg g, rest _ hv, T (m.nums.any neg = false) ⟨fun h => ⟨by omega, h⟩, fun h => h.2⟩]
  by_cases k3 : m.kind = 3
  · rw [show (m.kind != 3) = false by simpa using k3, cond_false]
    have := fin (.inl k3)
    unfold forB at this; rw [c] at this
    exact this
  rw [show (m.kind != 3) = true by simpa using k3, cond_true, cond_d, w64 (by omega) (by omega)]
  by_cases e : numOf m.kind < (m.nums.length : Int) + (m.data.length : Int)
  · rw [if_pos e, no]
    congr 1
    split
    · cases ht : tailB m
      · rfl
      · have := (tl ht).2 k3
        exfalso; omega
    · rfl
  rw [if_neg e]
  have := fin (.inr ⟨by omega, by omega⟩)
  unfold forB at this; rw [c] at this
  exact this
end Go.Proofs.YtmkpokcfefjifaaDoor
