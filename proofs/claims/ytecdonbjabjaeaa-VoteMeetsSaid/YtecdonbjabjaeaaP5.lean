/- VoteMeets, the plain law. -/
import Derived.Test.YtecdonbjabjaeaaG5
import Derived.Test.YtecdonbjabjaeaaP2
import Derived.Test.YtecdonbjabjaeaaW
set_option linter.unusedSimpArgs false
set_option linter.unusedVariables false
namespace Go.Proofs.Ytecdonbjabjaeaa
open Go.Ab
theorem count_two {p q : Int → Bool} : ∀ l : List Int, l.countP p + l.countP q ≤ l.length + l.countP (fun x => p x && q x)
  | [] => by simp
  | a :: l => by
    have := count_two (p := p) (q := q) l
    simp only [List.countP_cons, List.length_cons]
    cases p a <;> cases q a <;> simp <;> omega
theorem count_not {p : Int → Bool} : ∀ l : List Int, l.countP p + l.countP (fun x => !p x) = l.length
  | [] => by simp
  | a :: l => by
    have := count_not (p := p) l
    simp only [List.countP_cons, List.length_cons]
    cases p a <;> simp <;> omega
theorem meets_L1 {peers a b : List Int} {r2 r3 r1 : Bool} (hp : peers.length ≤ 1000) (ha : a.length ≤ 30) (hb : b.length ≤ 30) : ∀ m k, peers.length < m + k → k ≤ peers.length →
    law14_VoteMeets_L1 peers a b r2 r3 r1 m ((peers.take k).any fun p => a.contains p && b.contains p) ((peers.take k).filter fun p => !a.contains p) (k : Int) =
      law14_VoteMeets_J3 a b r2 r3 r1 peers (peers.any fun p => a.contains p && b.contains p) (peers.filter fun p => !a.contains p) := by
  intro m
  induction m with
  | zero => intro k h1 h2; omega
  | succ m ih =>
    intro k h1 h2
    rw [law14_VoteMeets_L1, cond_d]
    by_cases hk : k < peers.length
    · rw [if_pos (by omega), idx_nat hk, Option.bind_some, has_eq (by omega), Option.bind_some, has_eq (by omega), Option.bind_some]
      have hfl : ((peers.take k).filter fun p => !a.contains p).length ≤ 1000 := Nat.le_trans (List.length_filter_le _ _) (by simp; omega)
      have j6 : ∀ me, law14_VoteMeets_J6 (law14_VoteMeets_L1 peers a b r2 r3 r1 m) peers k ((peers.take k).filter fun p => !a.contains p) me (a.contains peers[k]) =
          law14_VoteMeets_L1 peers a b r2 r3 r1 m me ((peers.take (k + 1)).filter fun p => !a.contains p) ((k + 1 : Nat) : Int) := by
        intro me
        unfold law14_VoteMeets_J6 law14_VoteMeets_J5
        rw [idx_nat hk, Option.bind_some, w64_succ (by omega), chk_pos (by omega), take_snoc hk, List.filter_append, List.filter_cons, List.filter_nil]
        generalize a.contains peers[k] = c
        cases c <;> simp only [Bool.not_true, Bool.not_false, cond_true, cond_false, Bool.false_eq_true, if_true, if_false, List.append_nil]
      have e := ih (k + 1) (by omega) (by omega)
      rw [take_snoc hk, List.any_append] at e
      simp only [List.any_cons, List.any_nil, Bool.or_false] at e
      rw [← take_snoc hk] at e
      cases h1 : (peers.take k).any (fun p => a.contains p && b.contains p) with
      | true => rw [h1] at e; rw [cond_true, j6, ← e, Bool.true_or]
      | false =>
        rw [h1, Bool.false_or] at e
        rw [cond_false]
        cases h2 : a.contains peers[k] with
        | true => rw [cond_true]; have := j6 (b.contains peers[k]); rw [h2] at this; rw [this, ← e, h2, Bool.true_and]
        | false => rw [cond_false]; have := j6 false; rw [h2] at this; rw [this, ← e, h2, Bool.false_and]
    · have : peers.take k = peers := List.take_of_length_le (by omega)
      rw [if_neg (by omega), this]
theorem meets_J2 {peers a b : List Int} (hp : peers.length ≤ 1000) (ha : a.length ≤ 30) (hb : b.length ≤ 30) : law14_VoteMeets_J2 a b true peers = some true := by
  unfold law14_VoteMeets_J2
  rw [vWon_eq (by omega) (by omega), Option.bind_some, vWon_eq (by omega) (by omega), Option.bind_some]
  have h := meets_L1 (r2 := won a peers) (r3 := won b peers) (r1 := true) hp ha hb BIG 0 (by rw [BIG_eq]; omega) (by omega)
  simp only [List.take_zero, List.any_nil, List.filter_nil] at h
  show law14_VoteMeets_L1 peers a b (won a peers) (won b peers) true BIG false [] ((0 : Nat) : Int) = _
  rw [h]
  unfold law14_VoteMeets_J3
  have hfl : (peers.filter fun p => !a.contains p).length ≤ 1000 := Nat.le_trans (List.length_filter_le _ _) hp
  rw [chk_pos (by omega), chk_pos (by omega), vWon_eq (by omega) (by omega), vWon_eq (by simp; omega) (by omega)]
  have hself : won peers peers = decide (0 < ((peers.length : Nat) : Int)) := by
    unfold won
    have : peers.countP (fun p => peers.contains p) = peers.length := by
      rw [List.countP_eq_length]; intro x hx; simpa using hx
    rw [this, Bool.eq_iff_iff, decide_eq_true_eq, decide_eq_true_eq]; omega
  have j4 : law14_VoteMeets_J4 true peers false = some true := by
    unfold law14_VoteMeets_J4
    rw [cond_false, cond_true, vWon_eq (by omega) (by omega), Option.bind_some, hself]; simp
  have hmore : (won a peers = true ∨ won b peers = true) → won (([] : List Int) ++ a ++ b) peers = true := by
    intro h
    unfold won at h ⊢
    simp only [decide_eq_true_eq] at h ⊢
    have m1 : peers.countP (fun p => a.contains p) ≤ peers.countP (fun p => (([] : List Int) ++ a ++ b).contains p) := List.countP_mono_left (fun x _ hx => by simp only [List.nil_append, List.contains_eq_mem, decide_eq_true_eq, List.mem_append] at hx ⊢; exact .inl hx)
    have m2 : peers.countP (fun p => b.contains p) ≤ peers.countP (fun p => (([] : List Int) ++ a ++ b).contains p) := List.countP_mono_left (fun x _ hx => by simp only [List.nil_append, List.contains_eq_mem, decide_eq_true_eq, List.mem_append] at hx ⊢; exact .inr hx)
    omega
  have hout : won a peers = true → won (peers.filter fun p => !a.contains p) peers = false := by
    intro h
    unfold won at h ⊢
    simp only [decide_eq_true_eq, decide_eq_false_iff_not] at h ⊢
    have m1 : peers.countP (fun p => (peers.filter fun p => !a.contains p).contains p) ≤ peers.countP (fun p => !a.contains p) := List.countP_mono_left (fun x _ hx => by
      simp only [List.contains_eq_mem, decide_eq_true_eq, List.mem_filter] at hx
      simpa using hx.2)
    have := count_not (p := fun p => a.contains p) peers
    omega
  have hmeet : won a peers = true → won b peers = true → (peers.any fun p => a.contains p && b.contains p) = true := by
    intro h1 h2
    unfold won at h1 h2
    simp only [decide_eq_true_eq] at h1 h2
    have := count_two (p := fun p => a.contains p) (q := fun p => b.contains p) peers
    have hpos : 0 < peers.countP (fun x => a.contains x && b.contains x) := by omega
    obtain ⟨x, hx, hx2⟩ := List.countP_pos_iff.1 hpos
    exact List.any_eq_true.2 ⟨x, hx, hx2⟩
  cases h1 : won a peers with
  | true =>
    rw [hout h1, hmore (.inl h1)]
    cases h2 : won b peers with
    | true => rw [hmeet h1 h2]; simp [j4]
    | false => simp [j4]
  | false =>
    cases h2 : won b peers with
    | true => rw [hmore (.inr h2)]; simp [j4]
    | false => simp [j4]
theorem meets_L3 {raw : List Int} {x : Int} {K : List Int → Int → Option Bool} (hx : 0 ≤ x ∧ x < 16) (hr : ∀ y ∈ raw, okI .u8 y) (hl : raw.length ≤ 30) (hK : ∀ p : List Int, p.length ≤ 30 * (x.toNat + 1) → K p (x + 1) = some true) : ∀ m k p, raw.length < m + k → k ≤ raw.length → p.length ≤ 30 * x.toNat + k →
    law14_VoteMeets_L3 K raw x m p (k : Int) = some true := by
  intro m
  induction m with
  | zero => intro k p h1 h2; omega
  | succ m ih =>
    intro k p h1 h2 h3
    rw [law14_VoteMeets_L3, cond_d]
    by_cases hk : k < raw.length
    · rw [if_pos (by omega), has_eq (by omega), Option.bind_some, idx_nat hk, Option.bind_some, law14_VoteMeets_J9, law14_VoteMeets_J8, law14_VoteMeets_J8, w64_succ (by omega), chk_pos (by omega), ih (k + 1) _ (by omega) (by omega) (by simp; omega), ih (k + 1) _ (by omega) (by omega) (by omega)]
      cases _ : ((Int.tmod (IntKind.wrap .i64 raw[k]) 16) == x) && (!p.contains x) <;> rfl
    · rw [if_neg (by omega), law14_VoteMeets_J7, w64 (by omega) (by omega)]
      exact hK p (by omega)
theorem meets_L2 {raw a b : List Int} (hr : ∀ y ∈ raw, okI .u8 y) (hl : raw.length ≤ 30) (ha : a.length ≤ 30) (hb : b.length ≤ 30) : ∀ m k p, 16 < m + k → k ≤ 16 → p.length ≤ 30 * k → law14_VoteMeets_L2 raw a b true m p (k : Nat) = some true := by
  intro m
  induction m with
  | zero => intro k p h1 h2; omega
  | succ m ih =>
    intro k p h1 h2 h3
    rw [law14_VoteMeets_L2, cond_d]
    by_cases hk : k < 16
    · rw [if_pos (by omega)]
      exact meets_L3 (k := 0) (by omega) hr hl (fun q hq => ih (k + 1) q (by omega) (by omega) (by simp at hq; omega)) BIG p (by rw [BIG_eq]; omega) (by omega) (by simp; omega)
    · rw [if_neg (by omega)]
      exact meets_J2 (by omega) ha hb
theorem VoteMeets_true (y0 : List Int) (o0 : ∀ y22 ∈ y0, okI .i64 y22) (y1 : List Int) (o1 : ∀ y22 ∈ y1, okI .i64 y22) (y2 : List Int) (o2 : ∀ y41 ∈ y2, okI .u8 y41) : law14_VoteMeets_f y0 y1 y2 = some true := by
  unfold law14_VoteMeets_f law14_VoteMeets_J1
  rw [head_eq, Option.bind_some]
  cases h : ((decide (30 < (y0.length : Int))) || ((decide (30 < (y1.length : Int))) || (decide (30 < (y2.length : Int))))) with
  | true => rfl
  | false =>
    simp only [Bool.or_eq_false_iff, decide_eq_false_iff_not] at h
    obtain ⟨h1, h2, h3⟩ := h
    exact meets_L2 (k := 0) o2 (by omega) (by omega) (by omega) BIG [] (by rw [BIG_eq]; omega) (by omega) (by simp)
end Go.Proofs.Ytecdonbjabjaeaa
