/- What the functions of layer 5 compute, as plain laws. -/
import Derived.Test.YteebeajhoemdpaaF2
import Derived.Test.YteebeajhoemdpaaF3
import Derived.Test.YteebeajhoemdpaaTo
import Derived.Test.YteebeajhoemdpaaB7
set_option linter.unusedSimpArgs false
set_option linter.unusedVariables false
namespace Go.Proofs.Yteebeajhoemdpaa
open Go.Ab Go.RowKit
theorem has_L {l : List Int} {x : Int} (hl : l.length ≤ 1000000) : ∀ m k, l.length < m + k → k ≤ l.length → ref05_In_L1 l x m (k : Int) = some ((l.drop k).contains x) := by
  intro m
  induction m with
  | zero => intro k h1 h2; omega
  | succ m ih =>
    intro k h1 h2
    rw [ref05_In_L1, cond_d]
    by_cases hk : k < l.length
    · rw [if_pos (by omega), idx_nat hk, Option.bind_some, w64_succ (by omega), ih (k + 1) (by omega) (by omega), drop_cons hk, List.contains_cons]
      by_cases hx : l[k] = x
      · simp [hx]
      · have : (l[k] == x) = false := by simpa using hx
        have h' : (x == l[k]) = false := by simpa using fun e : x = l[k] => hx e.symm
        rw [this, h']; simp
    · rw [if_neg (by omega), List.drop_of_length_le (by omega)]
      simp [ref05_In_J1]
theorem has_eq {l : List Int} {x : Int} (hl : l.length ≤ 1000000) : ref05_In_f l x = some (l.contains x) := by
  unfold ref05_In_f
  exact has_L hl BIG 0 (by rw [BIG_eq]; omega) (by omega)
theorem index_L {l : List Int} {x : Int} (hl : l.length ≤ 1000000) : ∀ m k, l.length < m + k → k ≤ l.length → ∃ r, slices_Index_L1 l x m (k : Int) = some r ∧ (0 ≤ r ↔ (l.drop k).contains x = true) := by
  intro m
  induction m with
  | zero => intro k h1 h2; omega
  | succ m ih =>
    intro k h1 h2
    rw [slices_Index_L1, cond_d]
    by_cases hk : k < l.length
    · rw [if_pos (by omega), idx_nat hk, Option.bind_some, w64_succ (by omega), drop_cons hk, List.contains_cons]
      obtain ⟨r, e, h⟩ := ih (k + 1) (by omega) (by omega)
      by_cases hx : x = l[k]
      · refine ⟨k, ?_, ?_⟩
        · have : (x == l[k]) = true := by simpa using hx
          rw [this]; rfl
        · have : (x == l[k]) = true := by simpa using hx
          rw [this]; simp
      · have h' : (x == l[k]) = false := by simpa using hx
        rw [h']
        exact ⟨r, e, by simpa using h⟩
    · rw [if_neg (by omega), List.drop_of_length_le (by omega)]
      exact ⟨-1, rfl, by simp⟩
theorem contains_eq {l : List Int} {x : Int} (hl : l.length ≤ 1000000) : slices_Contains_f l x = some (l.contains x) := by
  unfold slices_Contains_f slices_Index_f
  obtain ⟨r, e, h⟩ := index_L (x := x) hl BIG 0 (by rw [BIG_eq]; omega) (by omega)
  have e' : slices_Index_L1 l x BIG 0 = some r := e
  rw [e', Option.bind_some]
  rw [List.drop_zero] at h
  congr 1
  rw [Bool.eq_iff_iff, decide_eq_true_eq]; exact h
theorem ints_L {a b : List Int} (ha : a.length ≤ 1000000) (hab : a.length = b.length) : ∀ m k, a.length < m + k → k ≤ a.length → ref02_Ints_L1 a b m (k : Int) = some (decide (a.drop k = b.drop k)) := by
  intro m
  induction m with
  | zero => intro k h1 h2; omega
  | succ m ih =>
    intro k h1 h2
    rw [ref02_Ints_L1, cond_d]
    by_cases hk : k < a.length
    · have hk' : k < b.length := by omega
      rw [if_pos (by omega), idx_nat hk, Option.bind_some, idx_nat hk', Option.bind_some, w64_succ (by omega), ih (k + 1) (by omega) (by omega), drop_cons hk, drop_cons hk']
      by_cases hx : a[k] = b[k]
      · have : (a[k] != b[k]) = false := by simpa using hx
        rw [this, cond_false]; congr 1; rw [Bool.eq_iff_iff, decide_eq_true_eq, decide_eq_true_eq, List.cons.injEq]; exact ⟨fun h => ⟨hx, h⟩, fun h => h.2⟩
      · have : (a[k] != b[k]) = true := by simpa using hx
        rw [this, cond_true]; congr 1; symm; rw [decide_eq_false_iff_not, List.cons.injEq]; exact fun h => hx h.1
    · rw [if_neg (by omega), List.drop_of_length_le (by omega), List.drop_of_length_le (by omega)]
      simp [ref02_Ints_J1]
theorem ints_eq {a b : List Int} (ha : a.length ≤ 1000000) : ref02_Ints_f a b = some (decide (a = b)) := by
  unfold ref02_Ints_f
  by_cases h : a.length = b.length
  · have : ((a.length : Int) != b.length) = false := by rw [bne_eq_false_iff_eq]; omega
    rw [this]
    have := ints_L ha h BIG 0 (by rw [BIG_eq]; omega) (by omega)
    simpa using this
  · have : ((a.length : Int) != b.length) = true := by rw [bne_iff_ne]; omega
    have h2 : a ≠ b := fun e => h (by rw [e])
    rw [this]; simp [h2]
theorem byts_L {a b : List Int} (ha : a.length ≤ 1000000) (hab : a.length = b.length) : ∀ m k, a.length < m + k → k ≤ a.length → ref02_Bytes_L1 a b m (k : Int) = some (decide (a.drop k = b.drop k)) := by
  intro m
  induction m with
  | zero => intro k h1 h2; omega
  | succ m ih =>
    intro k h1 h2
    rw [ref02_Bytes_L1, cond_d]
    by_cases hk : k < a.length
    · have hk' : k < b.length := by omega
      rw [if_pos (by omega), idx_nat hk, Option.bind_some, idx_nat hk', Option.bind_some, w64_succ (by omega), ih (k + 1) (by omega) (by omega), drop_cons hk, drop_cons hk']
      by_cases hx : a[k] = b[k]
      · have : (a[k] != b[k]) = false := by simpa using hx
        rw [this, cond_false]; congr 1; rw [Bool.eq_iff_iff, decide_eq_true_eq, decide_eq_true_eq, List.cons.injEq]; exact ⟨fun h => ⟨hx, h⟩, fun h => h.2⟩
      · have : (a[k] != b[k]) = true := by simpa using hx
        rw [this, cond_true]; congr 1; symm; rw [decide_eq_false_iff_not, List.cons.injEq]; exact fun h => hx h.1
    · rw [if_neg (by omega), List.drop_of_length_le (by omega), List.drop_of_length_le (by omega)]
      simp [ref02_Bytes_J1]
theorem byts_eq {a b : List Int} (ha : a.length ≤ 1000000) : ref02_Bytes_f a b = some (decide (a = b)) := by
  unfold ref02_Bytes_f
  by_cases h : a.length = b.length
  · have : ((a.length : Int) != b.length) = false := by rw [bne_eq_false_iff_eq]; omega
    rw [this]
    have := byts_L ha h BIG 0 (by rw [BIG_eq]; omega) (by omega)
    simpa using this
  · have : ((a.length : Int) != b.length) = true := by rw [bne_iff_ne]; omega
    have h2 : a ≠ b := fun e => h (by rw [e])
    rw [this]; simp [h2]
theorem bcons {β : Type} [DecidableEq β] {x y : β} {xs ys : List β} : (cond (!decide (x = y)) (some false) (some (decide (xs = ys)))) = some (decide (x :: xs = y :: ys)) := by
  by_cases h : x = y
  · simp [h]
  · simp [h]
/-- no greater than the laws let it be -/
def Sm (m : Msg) : Prop := m.nums.length ≤ 1000000 ∧ m.data.length ≤ 1000000
theorem same_eq {a b : Msg} (ha : Sm a) : ref05_Same_f a b = some (decide (a = b)) := by
  unfold ref05_Same_f
  rw [ints_eq ha.1, byts_eq ha.2]
  obtain ⟨a1, a2, a3, a4, a5⟩ := a; obtain ⟨b1, b2, b3, b4, b5⟩ := b
  simp only [Option.bind_some]
  by_cases h1 : a1 = b1
  · by_cases h2 : a2 = b2
    · by_cases h3 : a3 = b3
      · by_cases h4 : a4 = b4
        · by_cases h5 : a5 = b5
          · subst h1; subst h2; subst h3; subst h4; subst h5; simp
          · simp [h5]
        · simp [h4]
      · have : (a3 == b3) = false := by simpa using h3
        rw [this]; simp [h3]
    · have : (a2 == b2) = false := by simpa using h2
      rw [this]; simp [h2]
  · have : (a1 == b1) = false := by simpa using h1
    rw [this]; simp [h1]
/-- so many, so small -/
def Gd (w : List Msg) : Prop := w.length ≤ 1000 ∧ ∀ m ∈ w, Sm m
theorem Gd.nil : Gd [] := ⟨by simp, fun m h => by cases h⟩
theorem all_L {a b : List Msg} (ha : Gd a) (hab : a.length = b.length) : ∀ m k, a.length < m + k → k ≤ a.length → ref05_SameAll_L1 a b m (k : Int) = some (decide (a.drop k = b.drop k)) := by
  have hla := ha.1
  intro m
  induction m with
  | zero => intro k h1 h2; omega
  | succ m ih =>
    intro k h1 h2
    rw [ref05_SameAll_L1, cond_d]
    by_cases hk : k < a.length
    · have hk' : k < b.length := by omega
      rw [if_pos (by omega), idx_nat hk, Option.bind_some, idx_nat hk', Option.bind_some, same_eq (ha.2 _ (List.getElem_mem hk)), Option.bind_some, w64_succ (by omega), ih (k + 1) (by omega) (by omega), drop_cons hk, drop_cons hk']
      exact bcons
    · rw [if_neg (by omega), List.drop_of_length_le (by omega), List.drop_of_length_le (by omega)]
      simp [ref05_SameAll_J1]
theorem all_eq {a b : List Msg} (ha : Gd a) : ref05_SameAll_f a b = some (decide (a = b)) := by
  have hla := ha.1
  unfold ref05_SameAll_f
  by_cases h : a.length = b.length
  · have : ((a.length : Int) != b.length) = false := by rw [bne_eq_false_iff_eq]; omega
    rw [this]
    have := all_L ha h BIG 0 (by rw [BIG_eq]; omega) (by omega)
    simpa using this
  · have : ((a.length : Int) != b.length) = true := by rw [bne_iff_ne]; omega
    have h2 : a ≠ b := fun e => h (by rw [e])
    rw [this]; simp [h2]
theorem clone_eq {w : List Msg} (h : w.length ≤ 1000000) : slices_Clone_f w = some w := nilq_of (fun h => by simp [h]) (by rw [chk_pos (by omega)]; simp)
def room (w l : List Msg) : List Msg := w ++ l.take (200 - w.length)
theorem room_eq {w l : List Msg} (h : w.length ≤ 1000) (h2 : l.length ≤ 1000) : wire_room_f w l = some (room w l) := by
  unfold wire_room_f room
  rw [clone_eq (by omega), Option.bind_some, w64 (by omega) (by omega)]
  have hn : (if (if 200 - (w.length : Int) < (l.length : Int) then 200 - (w.length : Int) else (l.length : Int)) > 0 then (if 200 - (w.length : Int) < (l.length : Int) then 200 - (w.length : Int) else (l.length : Int)) else 0) = ((min (200 - w.length) l.length : Nat) : Int) := by
    split <;> split <;> omega
  rw [hn, chk_pos (by omega), chk_pos (by simp; omega)]
  simp only [Int.toNat_natCast, List.drop_zero]
  congr 2
  rcases Nat.le_total (200 - w.length) l.length with h3 | h3
  · rw [Nat.min_eq_left h3]
  · rw [Nat.min_eq_right h3, List.take_of_length_le (Nat.le_refl _), List.take_of_length_le h3]
theorem send1_eq {w : List Msg} {m : Msg} (h : w.length ≤ 1000) : wire_Send_f w m 1 = some (room w [m]) := by
  unfold wire_Send_f
  rw [room_eq h (by simp)]; rfl
theorem send3_eq {w : List Msg} {m : Msg} (h : w.length ≤ 1000) : wire_Send_f w m 3 = some (room w [m, m]) := by
  unfold wire_Send_f
  rw [room_eq (l := [m, m]) h (by simp)]
  have h1 : ((3 : Int) == 1) = false := by decide
  have h2 : ((3 : Int) == 3) = true := by decide
  rw [h1, h2]; rfl
theorem take_in {w : List Msg} {k : Nat} (h : w.length ≤ 1000) (hk : k < w.length) : wire_Take_f w (k : Int) = some (w.take k ++ w.drop (k + 1), w[k], true) := by
  unfold wire_Take_f wire_Take_J1
  have e : ((decide ((k : Int) < 0)) || (decide ((w.length : Int) ≤ k))) = false := by simp; omega
  rw [e, cond_false, clone_eq (by omega), Option.bind_some, w64_succ (by omega)]
  unfold slices_Delete_f
  have e2 : ((k : Int) == ((k + 1 : Nat) : Int)) = false := by rw [beq_eq_false_iff_ne]; omega
  rw [chk_pos (by omega), e2, cond_false, chk_pos (by omega), chk_pos (by omega), chk_pos (by simp only [Int.toNat_natCast]; omega), chk_pos (by simp only [Int.toNat_natCast]; omega), Option.bind_some, idx_nat hk, Option.bind_some]
  rfl
theorem take_out {w : List Msg} {k : Int} (hk : (w.length : Int) ≤ k) : wire_Take_f w k = some (w, ⟨0, 0, 0, [], []⟩, false) := by
  unfold wire_Take_f wire_Take_J1
  have e : ((decide (k < 0)) || (decide ((w.length : Int) ≤ k))) = true := by simp; omega
  rw [e, cond_true]
theorem to_eq {w : List Msg} {who : Int} (h : w.length ≤ 1000) : wire_To_f w who = some (toI who 0 w) := by
  unfold wire_To_f; rw [chk_pos (by omega)]
/-! cut -/
theorem idxf_L {s : List Msg} {f : Msg → Option Bool} {p : Msg → Bool} (hf : ∀ x ∈ s, f x = some (p x)) (hl : s.length ≤ 1000000) : ∀ m k, s.length < m + k → k ≤ s.length →
    ∃ r, slices_IndexFunc_L1 s f m (k : Int) = some r ∧ ((r = -1 ∧ (s.drop k).filter (fun x => !p x) = s.drop k) ∨ ∃ j : Nat, r = j ∧ j < s.length ∧ k ≤ j ∧ (s.drop k).filter (fun x => !p x) = (s.drop k).take (j - k) ++ (s.drop (j + 1)).filter (fun x => !p x)) := by
  intro m
  induction m with
  | zero => intro k h1 h2; omega
  | succ m ih =>
    intro k h1 h2
    rw [slices_IndexFunc_L1, cond_d]
    by_cases hk : k < s.length
    · rw [if_pos (by omega), idx_nat hk, Option.bind_some, hf _ (List.getElem_mem hk), Option.bind_some, w64_succ (by omega)]
      cases hp : p s[k] with
      | true => exact ⟨k, rfl, .inr ⟨k, rfl, hk, Nat.le_refl _, by rw [drop_cons hk, List.filter_cons]; simp [hp]⟩⟩
      | false =>
        obtain ⟨r, e, h⟩ := ih (k + 1) (by omega) (by omega)
        refine ⟨r, e, ?_⟩
        rcases h with ⟨h1, h3⟩ | ⟨j, h1, h3, h4, h5⟩
        · exact .inl ⟨h1, by rw [drop_cons hk, List.filter_cons, h3]; simp [hp]⟩
        · refine .inr ⟨j, h1, h3, by omega, ?_⟩
          rw [drop_cons hk, List.filter_cons, h5]
          have : j - k = (j - (k + 1)) + 1 := by omega
          rw [this]
          simp only [hp, Bool.not_false, ↓reduceIte, List.take_succ_cons, List.cons_append]
    · rw [if_neg (by omega), List.drop_of_length_le (by omega)]
      exact ⟨-1, rfl, .inl ⟨rfl, rfl⟩⟩
theorem delf_L {f : Msg → Option Bool} {p : Msg → Bool} : ∀ m (s : List Msg) (i j : Nat), (∀ x ∈ s.drop j, f x = some (p x)) → s.length ≤ 1000000 → s.length < m + j → i ≤ j → j ≤ s.length →
    slices_DeleteFunc_L1 f m s (i : Int) (j : Int) = some (s.take i ++ (s.drop j).filter (fun x => !p x)) := by
  intro m
  induction m with
  | zero => intro s i j h0 hl h1 h2 h3; omega
  | succ m ih =>
    intro s i j h0 hl h1 h2 h3
    rw [slices_DeleteFunc_L1, cond_d]
    by_cases hj : j < s.length
    · rw [if_pos (by omega), idx_nat hj, Option.bind_some, h0 _ (by rw [drop_cons hj]; exact List.mem_cons_self), Option.bind_some]
      have hrest : ∀ x ∈ s.drop (j + 1), f x = some (p x) := fun x hx => h0 x (by rw [drop_cons hj]; exact List.mem_cons_of_mem _ hx)
      cases hp : p s[j] with
      | true =>
        simp only [Bool.not_true, cond_false, slices_DeleteFunc_J2, w64_succ (show j < 9000000000000000000 by omega)]
        rw [ih s i (j + 1) hrest hl (by omega) (by omega) (by omega), drop_cons hj, List.filter_cons]; simp [hp]
      | false =>
        rw [idx_nat (show i < s.length by omega)]
        simp only [Bool.not_false, cond_true, Option.bind_some, slices_DeleteFunc_J2, w64_succ (show j < 9000000000000000000 by omega), w64_succ (show i < 9000000000000000000 by omega), Int.toNat_natCast]
        have hd : (s.set i s[j]).drop (j + 1) = s.drop (j + 1) := by rw [List.drop_set_of_lt (by omega)]
        rw [ih (s.set i s[j]) (i + 1) (j + 1) (by rw [hd]; exact hrest) (by simpa using hl) (by simp; omega) (by omega) (by simp; omega), hd, drop_cons hj, List.filter_cons]
        have ht : (s.set i s[j]).take (i + 1) = s.take i ++ [s[j]] := by
          rw [take_snoc (by simp; omega)]; simp [List.take_set_of_le]
        rw [ht]; simp [hp]
    · rw [if_neg (by omega)]
      unfold slices_DeleteFunc_J1
      rw [chk_pos (by omega), chk_pos (by omega), List.drop_of_length_le (by omega)]
      simp
theorem delf_eq {s : List Msg} {f : Msg → Option Bool} {p : Msg → Bool} (hf : ∀ x ∈ s, f x = some (p x)) (hl : s.length ≤ 1000000) : slices_DeleteFunc_f s f = some (s.filter (fun x => !p x)) := by
  unfold slices_DeleteFunc_f slices_IndexFunc_f
  obtain ⟨r, e, h⟩ := idxf_L hf hl BIG 0 (by rw [BIG_eq]; omega) (by omega)
  have e' : slices_IndexFunc_L1 s f BIG 0 = some r := e
  rw [e', Option.bind_some]
  simp only [List.drop_zero] at h
  rcases h with ⟨rfl, h⟩ | ⟨j, rfl, hj, -, h⟩
  · rw [h]; rfl
  · have : ((j : Int) == -1) = false := by rw [beq_eq_false_iff_ne]; omega
    rw [this, cond_false, w64_succ (by omega), delf_L BIG s j (j + 1) (fun x hx => hf x (List.mem_of_mem_drop hx)) hl (by rw [BIG_eq]; omega) (by omega) (by omega), h]
    simp
def cutF (side : List Int) (w : List Msg) : List Msg := w.filter fun m => side.contains m.from_ == side.contains m.to_
theorem cut_eq {w : List Msg} {side : List Int} (h : w.length ≤ 1000) (hs : side.length ≤ 1000) : wire_Cut_f w side = some (cutF side w) := by
  unfold wire_Cut_f
  rw [clone_eq (by omega), Option.bind_some, delf_eq (p := fun m => !(side.contains m.from_ == side.contains m.to_)) (fun x _ => by unfold wire_Cut_1_f; rw [contains_eq (by omega), contains_eq (by omega)]; rfl) (by omega)]
  simp [cutF]
/-! great -/
theorem great_L {w : List Msg} (hl : w.length ≤ 220) : ∀ m k, w.length < m + k → k ≤ w.length → ∃ r, law05_Great_L1 w m (k : Int) = some r ∧ (r = false → ∀ x ∈ w.drop k, x.nums.length ≤ 20 ∧ x.data.length ≤ 100) := by
  intro m
  induction m with
  | zero => intro k h1 h2; omega
  | succ m ih =>
    intro k h1 h2
    rw [law05_Great_L1, cond_d]
    by_cases hk : k < w.length
    · rw [if_pos (by omega), idx_nat hk, Option.bind_some]
      unfold law05_Great_J2
      rw [w64_succ (by omega)]
      obtain ⟨r, e, h⟩ := ih (k + 1) (by omega) (by omega)
      cases hv : (decide (20 < (w[k].nums.length : Int))) || (decide (100 < (w[k].data.length : Int))) with
      | true => exact ⟨true, rfl, fun h => by cases h⟩
      | false =>
        refine ⟨r, e, fun hr x hx => ?_⟩
        rw [drop_cons hk] at hx
        rcases List.mem_cons.1 hx with rfl | hx
        · simp only [Bool.or_eq_false_iff, decide_eq_false_iff_not] at hv; omega
        · exact h hr x hx
    · rw [if_neg (by omega)]
      exact ⟨false, rfl, fun _ x hx => by rw [List.drop_of_length_le (by omega)] at hx; cases hx⟩
theorem great_eq (w : List Msg) : ∃ r, law05_Great_f w = some r ∧ (r = false → w.length ≤ 220 ∧ ∀ x ∈ w, Sm x) := by
  unfold law05_Great_f
  by_cases h : 220 < w.length
  · exact ⟨true, by rw [cond_d, if_pos (by omega)], fun h => by cases h⟩
  · obtain ⟨r, e, h2⟩ := great_L (w := w) (by omega) BIG 0 (by rw [BIG_eq]; omega) (by omega)
    refine ⟨r, by rw [cond_d, if_neg (by omega)]; exact e, fun hr => ⟨by omega, fun x hx => ?_⟩⟩
    have := h2 hr x (by simpa using hx)
    exact ⟨by omega, by omega⟩
end Go.Proofs.Yteebeajhoemdpaa
