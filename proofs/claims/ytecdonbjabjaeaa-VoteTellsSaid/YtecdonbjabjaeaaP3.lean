/- VoteTells, the plain law. -/
import Derived.Test.YtecdonbjabjaeaaG3
import Derived.Test.YtecdonbjabjaeaaP2
import Derived.Test.YtecdonbjabjaeaaW
set_option linter.unusedSimpArgs false
set_option linter.unusedVariables false
namespace Go.Proofs.Ytecdonbjabjaeaa
open Go.Ab
theorem tells_L {l : List Call30} {votes : List Int} {s : Seat} (hc : ∀ c ∈ l, CalOk c) (hl : l.length ≤ 30) (hv : votes.length ≤ 30) (hp : s.peers.length ≤ 30) : ∀ m k now, l.length < m + k → k ≤ l.length → Sml now → 0 ≤ now.term → now.term ≤ 1000000 + k →
    law14_VoteTells_L1 l true votes s m now (k : Int) = some true := by
  intro m
  induction m with
  | zero => intro k now h1 h2; omega
  | succ m ih =>
    intro k now h1 h2 hs ht1 ht2
    rw [law14_VoteTells_L1, cond_d]
    by_cases hk : k < l.length
    · have hck := hc l[k] (List.getElem_mem hk)
      have hll : now.log.length ≤ 1000000 := by have := hs.2.1; omega
      rw [if_pos (by omega), idx_nat hk, Option.bind_some, step_eq hck hll (by omega) (by omega), Option.bind_some]
      have hss := stp_sml hs l[k]
      have htt := stp_term hck ht1 ht2 (by omega)
      have hnext : ∀ want was, (stp now l[k]) = (want, was) → law14_VoteTells_J3 (law14_VoteTells_L1 l true votes s m) (stp now l[k]) k want was = some true := by
        intro want was he
        unfold law14_VoteTells_J3 law14_VoteTells_J4
        rw [same_eq hss, Option.bind_some, w64_succ (by omega), ih (k + 1) _ (by omega) (by omega) hss (by omega) (by omega), he]
        simp
      have hck' := hck
      obtain ⟨⟨q1, q2⟩, ⟨q3, q4⟩, ⟨q5, q6⟩, ⟨q7, q8⟩, q9, q10⟩ := hck'
      rw [Int.tmod_eq_emod_of_nonneg q1, w64 (x := l[k].term) (by omega) (by omega), w64 (x := l[k].who) (by omega) (by omega), w64 (x := l[k].last) (by omega) (by omega), w64 (x := l[k].many) (by omega) (by omega)]
      rw [rBegin_eq (by omega) (by omega), rAsk_eq hll, rDown_eq, Option.bind_some, Option.bind_some, Option.bind_some, cond_d, cond_d]
      by_cases e0 : l[k].do_ % 4 = 0
      · have : (l[k].do_ % 4 == 0) = true := by simpa using e0
        rw [this, cond_true]
        exact hnext _ _ (by unfold stp; rw [if_pos e0])
      · have : (l[k].do_ % 4 == 0) = false := by simpa using e0
        rw [this, cond_false]
        by_cases e1 : l[k].do_ % 4 = 1
        · rw [if_neg (by omega)]
          by_cases e2 : now.term < l[k].term
          · rw [if_pos e2]; exact hnext _ _ (by unfold stp; rw [if_neg e0, if_pos e1, if_pos e2])
          · rw [if_neg e2]; exact hnext _ _ (by unfold stp; rw [if_neg e0, if_pos e1, if_neg e2])
        · rw [if_pos (by omega)]
          exact hnext _ _ (by unfold stp; rw [if_neg e0, if_neg e1])
    · rw [if_neg (by omega), law14_VoteTells_J2, cond_true, vWon_eq (by omega) (by omega), rWon_eq (by omega) (by omega)]
      simp
theorem VoteTells_true (y0 : Seat) (o0 : Seat.ok y0) (y1 : List Call30) (o1 : ∀ y26 ∈ y1, Call30.ok y26) (y2 : List Int) (o2 : ∀ y22 ∈ y2, okI .i64 y22) : law14_VoteTells_f y0 y1 y2 = some true := by
  unfold law14_VoteTells_f law14_VoteTells_J1
  obtain ⟨b, eb, hb⟩ := fits_eq y0
  rw [head_eq, Option.bind_some, eb, Option.bind_some]
  cases h : ((!b) || (decide (30 < (y1.length : Int)) || decide (30 < (y2.length : Int)))) with
  | true => rfl
  | false =>
    simp only [Bool.or_eq_false_iff, Bool.not_eq_false', decide_eq_false_iff_not] at h
    obtain ⟨h1, h2, h3⟩ := h
    have hF := hb h1
    have hB := bigB_f hF.1
    exact tells_L (k := 0) o1 (by omega) (by omega) (by omega) BIG y0 (by rw [BIG_eq]; omega) (by omega) hF.sml (by omega) (by omega)
end Go.Proofs.Ytecdonbjabjaeaa
