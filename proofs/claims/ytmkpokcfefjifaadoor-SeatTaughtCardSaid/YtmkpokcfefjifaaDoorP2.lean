import Derived.Test.YtmkpokcfefjifaaDoorP1
set_option linter.unusedSectionVars false
/- Which messages are for a seat: the program's answer and the document's are one. -/
set_option linter.unusedSimpArgs false
set_option linter.unusedVariables false
namespace Go.Proofs.YtmkpokcfefjifaaDoor
open Go.Ab
theorem idx_get {l : List Int} {k : Nat} (h : k < l.length) : idx l (k : Int) = some (l.getD k 0) := by
  rw [idx_nat h]; congr 1; rw [List.getD_eq_getElem?_getD, List.getElem?_eq_getElem h]; rfl
theorem drop_get {l : List Int} {k : Nat} (h : k < l.length) : l.drop k = l.getD k 0 :: l.drop (k + 1) := by
  rw [drop_cons h]; congr 1; rw [List.getD_eq_getElem?_getD, List.getElem?_eq_getElem h]; rfl
/-- the pairs of a message of entries: terms that don't fall, lengths that use up the data -/
def okW (top : Int) : List Int → Int → List Int → Bool
  | t :: n :: r, last, d => if t < last ∨ top < t ∨ n < 0 ∨ 200 < n ∨ (d.length : Int) < n then false else okW top r t (d.drop n.toNat)
  | [_], _, _ => false
  | [], _, d => d.isEmpty
theorem clone_tot (l : List Int) (h : l.length ≤ 100000) : slices_Clone_56_f l = some l := by
  unfold slices_Clone_56_f
  rw [chk_pos (by omega)]
  exact nilq_of (fun e => by rw [e]) rfl
theorem carried_L {x : Msg} (hn : x.nums.length ≤ 60) (h4 : 4 ≤ x.nums.length) : ∀ m i (l : List Entry) (d : List Int) (last : Int), x.nums.length < m + i → i ≤ x.nums.length → 2 * l.length + 4 = i → d.length ≤ 2400 →
    ∃ l', seat_carried_L1 x m l d last (i : Int) = some (l', okW (x.nums.getD 0 0) (x.nums.drop i) last d && decide (x.nums.length ≤ 20)) := by
  intro m
  induction m with
  | zero => intro i l d last h1 h2 h3 hd; omega
  | succ m ih =>
    intro i l d last h1 h2 h3 hd
    rw [seat_carried_L1, cond_d, w64_succ (by omega)]
    by_cases hk : i + 1 < x.nums.length
    · rw [if_pos (by omega), idx_get (by omega), Option.bind_some, idx_get hk, Option.bind_some]
      rw [drop_get (show i < x.nums.length by omega), drop_get (show i + 1 < x.nums.length by omega)]
      generalize x.nums.getD i 0 = t
      generalize x.nums.getD (i + 1) 0 = n
      have i0 : idx x.nums 0 = some (x.nums.getD 0 0) := idx_get (k := 0) (by omega)
      rw [okW, i0]
      have no : ∀ k, ∃ l', seat_carried_J2 (seat_carried_L1 x m) n d l t k true = some (l', false) := fun k => ⟨_, rfl⟩
      by_cases c1 : t < last
      · rw [decide_eq_true c1, cond_true, if_pos (.inl c1)]
        obtain ⟨l', e⟩ := no (i : Int)
        exact ⟨l', e⟩
      rw [decide_eq_false c1, cond_false, Option.bind_some]
      by_cases c2 : x.nums.getD 0 0 < t ∨ n < 0 ∨ (d.length : Int) < n ∨ 200 < n
      · rw [if_pos (by omega)]
        have : (decide (x.nums.getD 0 0 < t) || (decide (n < 0) || (decide ((d.length : Int) < n) || decide (200 < n)))) = true := by
          simp only [Bool.or_eq_true, decide_eq_true_eq]; exact c2
        rw [this]
        obtain ⟨l', e⟩ := no (i : Int)
        exact ⟨l', e⟩
      rw [if_neg (by omega)]
      have : (decide (x.nums.getD 0 0 < t) || (decide (n < 0) || (decide ((d.length : Int) < n) || decide (200 < n)))) = false := by
        simp only [Bool.or_eq_false_iff, decide_eq_false_iff_not]; omega
      rw [this, seat_carried_J2, cond_false, chk_pos (by omega), List.drop_zero, clone_tot _ (by rw [List.length_take]; omega), Option.bind_some, chk_pos (by omega), chk_pos (by omega), w64 (by omega) (by omega), show (i : Int) + 2 = ((i + 2 : Nat) : Int) by omega]
      exact ih (i + 2) _ (d.drop n.toNat) t (by omega) (by omega) (by rw [List.length_append]; simp; omega) (by rw [List.length_drop]; omega)
    · rw [if_neg (by omega)]
      unfold seat_carried_J1
      by_cases hi : i < x.nums.length
      · rw [drop_get hi, List.drop_of_length_le (by omega), okW, Bool.false_and]
        have : (Int.tmod (x.nums.length : Int) 2 == 0) = false := by
          have : (x.nums.length : Int) = ((i + 1 : Nat) : Int) := by omega
          rw [this]
          have : Int.tmod ((i + 1 : Nat) : Int) 2 = ((i + 1) % 2 : Nat) := rfl
          rw [this, show (i + 1) % 2 = 1 by omega]; rfl
        rw [this]
        cases ((d.length : Int) == 0)
        · exact ⟨_, rfl⟩
        · exact ⟨_, rfl⟩
      · rw [List.drop_of_length_le (by omega), okW]
        have : (Int.tmod (x.nums.length : Int) 2 == 0) = true := by
          have : (x.nums.length : Int) = ((i : Nat) : Int) := by omega
          rw [this]
          have : Int.tmod ((i : Nat) : Int) 2 = (i % 2 : Nat) := rfl
          rw [this, show i % 2 = 0 by omega]; rfl
        rw [this]
        cases d with
        | nil =>
          refine ⟨l, ?_⟩
          show some (l, decide ((((l.length : Nat)) : Int) ≤ 8)) = _
          rw [List.isEmpty_nil, Bool.true_and]
          have : decide (((l.length : Nat) : Int) ≤ 8) = decide (x.nums.length ≤ 20) := by
            by_cases h : x.nums.length ≤ 20
            · rw [decide_eq_true h, decide_eq_true (by omega)]
            · rw [decide_eq_false h, decide_eq_false (by omega)]
          rw [this]
        | cons a d =>
          refine ⟨l, ?_⟩
          have : (((a :: d).length : Int) == 0) = false := by simp; omega
          rw [this]; rfl
theorem carried_eq {x : Msg} (hn : x.nums.length ≤ 60) (hd : x.data.length ≤ 2400) (h4 : 4 ≤ x.nums.length) :
    ∃ l', seat_carried_f x = some (l', okW (x.nums.getD 0 0) (x.nums.drop 4) (if 1 > x.nums.getD 2 0 then 1 else x.nums.getD 2 0) x.data && decide (x.nums.length ≤ 20)) := by
  unfold seat_carried_f
  rw [show (2 : Int) = ((2 : Nat) : Int) from rfl, idx_get (by omega), Option.bind_some]
  exact carried_L hn h4 BIG 4 [] x.data _ (by rw [BIG_eq]; omega) (by omega) rfl hd
end Go.Proofs.YtmkpokcfefjifaaDoor
