/- VoteOnce, the plain law. -/
import Derived.Test.YtecdonbjabjaeaaG4
import Derived.Test.YtecdonbjabjaeaaP2
import Derived.Test.YtecdonbjabjaeaaW
set_option linter.unusedSimpArgs false
set_option linter.unusedVariables false
namespace Go.Proofs.Ytecdonbjabjaeaa
open Go.Ab
theorem ask_vote' (s : Seat) (t w l m : Int) (r : Seat × Bool) (hr : r = ask s t w l m) :
    (r.2 = true → r.1.voted = w ∧ (if s.term < t then True else (s.voted = -1 ∨ s.voted = w))) ∧ (r.2 = false → r.1.voted = if s.term < t then -1 else s.voted) := by
  unfold ask ask1 at hr
  split at hr
  · subst hr; refine ⟨fun h => (by cases h), fun _ => ?_⟩
    rw [if_neg (by omega)]
  · split at hr <;> split at hr
    · subst hr; exact ⟨fun _ => ⟨rfl, by rw [if_pos (by assumption)]; trivial⟩, fun h => by cases h⟩
    · subst hr; exact ⟨fun h => by (cases h), fun _ => by rw [if_pos (by assumption)]; rfl⟩
    · rename_i hh
      subst hr
      refine ⟨fun _ => ⟨rfl, ?_⟩, fun h => by cases h⟩
      rw [if_neg (by assumption)]
      simp only [free, Bool.and_eq_true, Bool.or_eq_true, beq_iff_eq] at hh
      exact hh.1
    · subst hr; exact ⟨fun h => by (cases h), fun _ => by rw [if_neg (by assumption)]⟩
theorem once_L {l : List Call30} {s : Seat} (hc : ∀ c ∈ l, CalOk c) (hl : l.length ≤ 30) : ∀ m k now, l.length < m + k → k ≤ l.length → Sml now → 0 ≤ now.term → now.term ≤ 1000000 + k → now.id = s.id → now.commit = s.commit →
    law14_VoteOnce_L1 l s true m now now.voted (k : Int) = some true := by
  intro m
  induction m with
  | zero => intro k now h1 h2; omega
  | succ m ih =>
    intro k now h1 h2 hs ht1 ht2 hid hcm
    rw [law14_VoteOnce_L1, cond_d]
    by_cases hk : k < l.length
    · have hck := hc l[k] (List.getElem_mem hk)
      have hll : now.log.length ≤ 1000000 := by have := hs.2.1; omega
      rw [if_pos (by omega), idx_nat hk, Option.bind_some, step_eq hck hll (by omega) (by omega), Option.bind_some]
      have hss := stp_sml hs l[k]
      have htt := stp_term hck ht1 ht2 (by omega)
      have hkk := stp_keeps now l[k]
      have fin : ∀ g, (stp now l[k]).1.voted = g → law14_VoteOnce_J6 (law14_VoteOnce_L1 l s true m) (stp now l[k]) k g = some true := by
        intro g hg
        unfold law14_VoteOnce_J6
        have : ((stp now l[k]).1.voted != g) = false := by simpa using hg
        rw [this, cond_false, w64_succ (by omega), ← hg]
        exact ih (k + 1) _ (by omega) (by omega) hss (by omega) (by omega) (by rw [hkk.2.2.2, hid]) (by rw [hkk.2.1, hcm])
      obtain ⟨⟨q1, q2⟩, ⟨q3, q4⟩, ⟨q5, q6⟩, ⟨q7, q8⟩, q9, q10⟩ := hck
      have f1 : ((decide ((stp now l[k]).1.term < now.term)) || (((stp now l[k]).1.id != s.id) || ((stp now l[k]).1.commit != s.commit))) = false := by
        simp only [Bool.or_eq_false_iff, decide_eq_false_iff_not, bne_eq_false_iff_eq]
        exact ⟨by omega, by rw [hkk.2.2.2, hid], by rw [hkk.2.1, hcm]⟩
      rw [f1, law14_VoteOnce_J3, cond_false, cond_d]
      have j5 : ∀ g, ((stp now l[k]).2 = true → (g = -1 ∨ g = l[k].who) ∧ (stp now l[k]).1.voted = l[k].who) → ((stp now l[k]).2 = false → (stp now l[k]).1.voted = g) →
          law14_VoteOnce_J5 (law14_VoteOnce_L1 l s true m) (stp now l[k]) l k g = some true := by
        intro g hg1 hg2
        unfold law14_VoteOnce_J5 law14_VoteOnce_J7
        cases h2 : (stp now l[k]).2 with
        | false => rw [cond_false]; exact fin g (hg2 h2)
        | true =>
          obtain ⟨h3, h4⟩ := hg1 h2
          rw [cond_true, idx_nat hk, Option.bind_some, Option.bind_some, w64 (x := l[k].who) (by omega) (by omega), cond_false]
          have hf := fin _ h4
          rcases h3 with h3 | h3
          · have : (g != -1) = false := by simpa using h3
            rw [this, cond_false]; exact hf
          · have : (g != l[k].who) = false := by simpa using h3
            rw [this]
            cases (g != -1) <;> exact hf
      have j4 : ∀ g, (l[k].do_ % 4 ≠ 0 → ((stp now l[k]).2 = true → (g = -1 ∨ g = l[k].who) ∧ (stp now l[k]).1.voted = l[k].who) ∧ ((stp now l[k]).2 = false → (stp now l[k]).1.voted = g)) →
          law14_VoteOnce_J4 (law14_VoteOnce_L1 l s true m) l k (stp now l[k]) s now g = some true := by
        intro g hg
        unfold law14_VoteOnce_J4
        rw [idx_nat hk, Option.bind_some, Int.tmod_eq_emod_of_nonneg q1]
        by_cases e0 : l[k].do_ % 4 = 0
        · have : (l[k].do_ % 4 == 0) = true := by simpa using e0
          rw [this, cond_true, law14_VoteOnce_J8]
          have hst : stp now l[k] = (begin_ now, false) := by unfold stp; rw [if_pos e0]
          have : (((stp now l[k]).1.term != IntKind.wrap .i64 (now.term + 1)) || ((stp now l[k]).1.voted != s.id)) = false := by
            rw [hst, w64 (by omega) (by omega)]; simp [begin_, hid]
          rw [this, cond_false]
          refine j5 _ (fun h => ?_) (fun _ => ?_)
          · rw [hst] at h; cases h
          · rw [hst]; exact hid
        · have : (l[k].do_ % 4 == 0) = false := by simpa using e0
          rw [this, cond_false]
          exact j5 g (hg e0).1 (hg e0).2
      have hv := ask_vote' now l[k].term l[k].who l[k].last l[k].many _ rfl
      split
      · rename_i hlt
        refine j4 (-1) fun e0 => ?_
        unfold stp at hlt ⊢
        rw [if_neg e0] at hlt ⊢
        split
        · rename_i e1
          rw [if_pos e1] at hlt
          split
          · exact ⟨fun h => (by cases h), fun _ => rfl⟩
          · rename_i e2; rw [if_neg e2] at hlt; exact absurd hlt (by show ¬ now.term < now.term; omega)
        · rename_i e1
          rw [if_neg e1, ask_term] at hlt
          split at hlt
          · omega
          · refine ⟨fun h => ⟨.inl rfl, (hv.1 h).1⟩, fun h => ?_⟩
            have := hv.2 h; rw [if_pos hlt] at this; exact this
      · rename_i hlt
        refine j4 _ fun e0 => ?_
        unfold stp at hlt ⊢
        rw [if_neg e0] at hlt ⊢
        split
        · rename_i e1
          rw [if_pos e1] at hlt
          split
          · rename_i e2; rw [if_pos e2] at hlt; exact absurd e2 hlt
          · exact ⟨fun h => (by cases h), fun _ => rfl⟩
        · rename_i e1
          rw [if_neg e1, ask_term] at hlt
          have hn : ¬ now.term < l[k].term := by split at hlt <;> omega
          refine ⟨fun h => ?_, fun h => ?_⟩
          · have := hv.1 h
            rw [if_neg hn] at this
            exact ⟨this.2, this.1⟩
          · have := hv.2 h; rw [if_neg hn] at this; exact this
    · rw [if_neg (by omega), law14_VoteOnce_J2]
theorem VoteOnce_true (y0 : Seat) (o0 : Seat.ok y0) (y1 : List Call30) (o1 : ∀ y26 ∈ y1, Call30.ok y26) : law14_VoteOnce_f y0 y1 = some true := by
  unfold law14_VoteOnce_f law14_VoteOnce_J1
  obtain ⟨b, eb, hb⟩ := fits_eq y0
  rw [head_eq, Option.bind_some, eb, Option.bind_some]
  cases h : ((!b) || decide (30 < (y1.length : Int))) with
  | true => rfl
  | false =>
    simp only [Bool.or_eq_false_iff, Bool.not_eq_false', decide_eq_false_iff_not] at h
    obtain ⟨h1, h2⟩ := h
    have hF := hb h1
    have hB := bigB_f hF.1
    exact once_L (k := 0) o1 (by omega) BIG y0 (by rw [BIG_eq]; omega) (by omega) hF.sml (by omega) (by omega) rfl rfl
end Go.Proofs.Ytecdonbjabjaeaa
