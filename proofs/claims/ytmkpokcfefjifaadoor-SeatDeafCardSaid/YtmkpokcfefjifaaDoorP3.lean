import Derived.Test.YtmkpokcfefjifaaDoorP2
set_option linter.unusedSectionVars false
/- The document's side of what a message carries. -/
set_option linter.unusedSimpArgs false
set_option linter.unusedVariables false
namespace Go.Proofs.YtmkpokcfefjifaaDoor
open Go.Ab
theorem okW_odd (top : Int) : ∀ (k : Nat) (r : List Int) (last : Int) (d : List Int), r.length = 2 * k + 1 → okW top r last d = false := by
  intro k
  induction k with
  | zero =>
    intro r last d h
    match r, h with
    | [_], _ => rw [okW]
  | succ k ih =>
    intro r last d h
    match r, h with
    | t :: n :: r, h =>
      rw [okW]
      split
      · rfl
      · exact ih r t _ (by simp at h; omega)
theorem Carried_L {x : Msg} (hn : x.nums.length ≤ 20) (h4 : 4 ≤ x.nums.length) (ev : x.nums.length % 2 = 0) (hd : x.data.length ≤ 2400) : ∀ m i (l : List Entry) (f : Nat) (last : Int), x.nums.length < m + i → i ≤ x.nums.length → i % 2 = 0 → f ≤ x.data.length → l.length ≤ i →
    ∃ l', ref15_Carried_L1 x m l (f : Int) last (i : Int) = some (l', okW (x.nums.getD 0 0) (x.nums.drop i) last (x.data.drop f)) := by
  intro m
  induction m with
  | zero => intro i l f last h1 h2 h3 hf hl; omega
  | succ m ih =>
    intro i l f last h1 h2 h3 hf hl
    rw [ref15_Carried_L1, cond_d]
    by_cases hk : i < x.nums.length
    · rw [if_pos (by omega), w64_succ (by omega), idx_get (show i + 1 < x.nums.length by omega), Option.bind_some, idx_get hk, Option.bind_some]
      have ii := idx_get hk
      rw [drop_get hk, drop_get (show i + 1 < x.nums.length by omega)]
      generalize x.nums.getD i 0 = t at ii ⊢
      generalize x.nums.getD (i + 1) 0 = n
      have i0 : idx x.nums 0 = some (x.nums.getD 0 0) := idx_get (k := 0) (by omega)
      have ld : ((x.data.drop f).length : Int) = (x.data.length : Int) - f := by rw [List.length_drop]; omega
      rw [okW, i0, ld, w64 (by omega) (by omega)]
      have no : ∃ l', ref15_Carried_J4 (ref15_Carried_L1 x m) l x (i : Int) (f : Int) n true = some (l', false) := ⟨_, rfl⟩
      by_cases c1 : t < last
      · rw [decide_eq_true c1, cond_true, if_pos (.inl c1)]
        exact no
      rw [decide_eq_false c1, cond_false, Option.bind_some]
      by_cases c2 : x.nums.getD 0 0 < t ∨ n < 0 ∨ 200 < n ∨ (x.data.length : Int) - f < n
      · rw [if_pos (.inr c2)]
        have : (decide (x.nums.getD 0 0 < t) || (decide (n < 0) || (decide (200 < n) || decide ((x.data.length : Int) - f < n)))) = true := by
          simp only [Bool.or_eq_true, decide_eq_true_eq]; exact c2
        rw [this]
        exact no
      rw [if_neg (by intro h; rcases h with h | h; exact c1 h; exact c2 h)]
      have : (decide (x.nums.getD 0 0 < t) || (decide (n < 0) || (decide (200 < n) || decide ((x.data.length : Int) - f < n)))) = false := by
        simp only [Bool.or_eq_false_iff, decide_eq_false_iff_not]; omega
      rw [this, ref15_Carried_J4, cond_false, ii, Option.bind_some, w64 (by omega) (by omega), chk_pos (by omega), chk_pos (by omega), w64 (by omega) (by omega), show (i : Int) + 2 = ((i + 2 : Nat) : Int) by omega, show (f : Int) + n = ((f + n.toNat : Nat) : Int) by omega, List.drop_drop]
      exact ih (i + 2) _ (f + n.toNat) t (by omega) (by omega) (by omega) (by omega) (by rw [List.length_append]; simp; omega)
    · rw [if_neg (by omega), List.drop_of_length_le (by omega), okW]
      refine ⟨l, ?_⟩
      unfold ref15_Carried_J3
      have : ((f : Int) == (x.data.length : Int)) = (x.data.drop f).isEmpty := by
        rw [Bool.eq_iff_iff, beq_iff_eq, List.isEmpty_iff, List.drop_eq_nil_iff]; omega
      rw [this]
theorem Carried_eq {x : Msg} (hn : x.nums.length ≤ 60) (hd : x.data.length ≤ 2400) (h2 : 2 ≤ x.nums.length) :
    ∃ l', ref15_Carried_f x = some (l', decide (4 ≤ x.nums.length) && (okW (x.nums.getD 0 0) (x.nums.drop 4) (if 1 > x.nums.getD 2 0 then 1 else x.nums.getD 2 0) x.data && decide (x.nums.length ≤ 20))) := by
  unfold ref15_Carried_f
  have tm : Int.tmod (x.nums.length : Int) 2 = ((x.nums.length % 2 : Nat) : Int) := rfl
  rw [tm]
  have no : ∃ l', ref15_Carried_J1 x [] true = some (l', false) := ⟨_, rfl⟩
  by_cases h4 : x.nums.length < 4
  · rw [decide_eq_true (show (x.nums.length : Int) < 4 by omega), Bool.true_or, decide_eq_false (show ¬ 4 ≤ x.nums.length by omega), Bool.false_and]
    exact no
  rw [decide_eq_false (show ¬ (x.nums.length : Int) < 4 by omega), Bool.false_or, decide_eq_true (show 4 ≤ x.nums.length by omega), Bool.true_and]
  by_cases h20 : 20 < x.nums.length
  · rw [decide_eq_true (show (20 : Int) < (x.nums.length : Int) by omega), Bool.true_or, decide_eq_false (show ¬ x.nums.length ≤ 20 by omega), Bool.and_false]
    exact no
  rw [decide_eq_false (show ¬ (20 : Int) < (x.nums.length : Int) by omega), Bool.false_or, decide_eq_true (show x.nums.length ≤ 20 by omega), Bool.and_true]
  by_cases ev : x.nums.length % 2 = 0
  · rw [ev, show decide ((0 : Int) < ((0 : Nat) : Int)) = false from rfl]
    unfold ref15_Carried_J1
    rw [cond_false, show idx x.nums 2 = some (x.nums.getD 2 0) from idx_get (k := 2) (by omega), Option.bind_some, cond_d]
    have L := Carried_L (x := x) (by omega) (by omega) ev hd BIG 4 [] 0
    by_cases c : x.nums.getD 2 0 < 1
    · rw [if_pos c, if_pos (by omega)]
      exact L 1 (by rw [BIG_eq]; omega) (by omega) rfl (by omega) (by simp)
    · rw [if_neg c, if_neg (by omega)]
      exact L _ (by rw [BIG_eq]; omega) (by omega) rfl (by omega) (by simp)
  · rw [show x.nums.length % 2 = 1 by omega, okW_odd _ ((x.nums.length - 4) / 2) _ _ _ (by rw [List.length_drop]; omega)]
    exact no
end Go.Proofs.YtmkpokcfefjifaaDoor
