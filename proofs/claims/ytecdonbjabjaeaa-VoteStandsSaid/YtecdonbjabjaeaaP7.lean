/- VoteStands, the plain law. -/
import Derived.Test.YtecdonbjabjaeaaG7
import Derived.Test.YtecdonbjabjaeaaP2
import Derived.Test.YtecdonbjabjaeaaW
set_option linter.unusedSimpArgs false
set_option linter.unusedVariables false
namespace Go.Proofs.Ytecdonbjabjaeaa
open Go.Ab
theorem stp_ge {s : Seat} {c : Call30} (h : ¬ c.do_ % 4 < 2) (h0 : 0 ≤ c.do_) : c.term ≤ (stp s c).1.term := by
  unfold stp
  rw [if_neg (by omega), if_neg (by omega), ask_term]
  split <;> omega
theorem rise_lt {l : List Int} (h : ∀ j (h : j + 1 < l.length), l[j] < l[j + 1]) : ∀ (i j : Nat) (hj : j < l.length), (hij : i < j) → l[i]'(by omega) < l[j] := by
  intro i j hj hij
  induction j with
  | zero => omega
  | succ j ih =>
    by_cases e : i = j
    · subst e; exact h i hj
    · exact Int.lt_trans (ih (by omega) (by omega)) (h j hj)
theorem count_pw {x : Int} : ∀ {l : List Int}, l.Pairwise (· < ·) → l.countP (fun p => p == x) = if l.contains x then 1 else 0
  | [], _ => rfl
  | a :: l, h => by
    obtain ⟨h1, h2⟩ := List.pairwise_cons.1 h
    rw [List.countP_cons, count_pw h2, List.contains_cons]
    by_cases e : a = x
    · subst e
      have hn : l.contains a = false := by
        simp only [List.contains_eq_mem, decide_eq_false_iff_not]
        intro hm; have := h1 a hm; omega
      rw [hn]; simp
    · have e1 : (a == x) = false := by simpa using e
      have e2 : (x == a) = false := by simpa using fun h : x = a => e h.symm
      rw [e1, e2]; simp
theorem count_one {l : List Int} (h : ∀ j (h : j + 1 < l.length), l[j] < l[j + 1]) {x : Int} (hx : l.contains x = true) : l.countP (fun p => [x].contains p) = 1 := by
  have e : (fun p => [x].contains p) = fun p : Int => p == x := by funext p; rw [List.contains_cons]; simp
  rw [e, count_pw (List.pairwise_iff_getElem.2 fun i j hi hj hij => rise_lt h i j hj hij), hx]; rfl
theorem newer_top {l : List Entry} (h : ∀ e ∈ l, badE e = false) (hl : l.length ≤ 30) : newer l 1000000 1000000 = true := by
  have h1 : lastT l ≤ 1000000 := by
    by_cases h0 : l.length = 0
    · unfold lastT; rw [if_pos h0]; omega
    · rw [lastT_of (by omega)]
      have := h _ (List.getElem_mem (show l.length - 1 < l.length by omega))
      simp only [badE, Bool.or_eq_false_iff, decide_eq_false_iff_not] at this
      omega
  unfold newer
  simp only [Bool.or_eq_true, Bool.and_eq_true, decide_eq_true_eq, beq_iff_eq]
  omega
theorem stands_L1 {l : List Call30} {s b : Seat} (hc : ∀ c ∈ l, CalOk c) (hl : l.length ≤ 30) (hb : Sml b) (hid : b.voted = s.id) (h0 : 0 ≤ s.id) (hlog : ∀ e ∈ b.log, badE e = false) (hll : b.log.length ≤ 30) (ht : ∀ c ∈ l, ¬ c.do_ % 4 < 2 → c.term < b.term) : ∀ m k, l.length < m + k → k ≤ l.length →
    law14_VoteStands_L1 l b s true m (k : Int) = some true := by
  intro m
  induction m with
  | zero => intro k h1 h2; omega
  | succ m ih =>
    intro k h1 h2
    rw [law14_VoteStands_L1, cond_d]
    by_cases hk : k < l.length
    · have hck := hc l[k] (List.getElem_mem hk)
      have htk := ht l[k] (List.getElem_mem hk)
      obtain ⟨⟨q1, q2⟩, ⟨q3, q4⟩, ⟨q5, q6⟩, ⟨q7, q8⟩, q9, q10⟩ := hck
      have next : law14_VoteStands_J5 (law14_VoteStands_L1 l b s true m) k = some true := by
        unfold law14_VoteStands_J5; rw [w64_succ (by omega)]; exact ih (k + 1) (by omega) (by omega)
      rw [if_pos (by omega), idx_nat hk, Option.bind_some, cond_d, Int.tmod_eq_emod_of_nonneg q1]
      split
      · exact next
      · rename_i hd
        have hlt := htk hd
        rw [w64 (x := l[k].term) (by omega) (by omega), w64 (x := l[k].who) (by omega) (by omega), vAsk_eq (by omega), Option.bind_some]
        have e1 : ask b l[k].term l[k].who 1000000 1000000 = (b, false) := by unfold ask; rw [if_pos hlt]
        rw [e1, same_eq hb, Option.bind_some]
        simp only [decide_true, Bool.not_true, Bool.or_false]
        rw [law14_VoteStands_J6, cond_false, idx_nat hk, Option.bind_some, w64 (x := l[k].who) (by omega) (by omega), vAsk_eq (by omega), Option.bind_some]
        have e2 : ask b b.term l[k].who 1000000 1000000 = (b, l[k].who == s.id) := by
          unfold ask
          rw [if_neg (by omega), if_neg (by omega)]
          unfold ask1 free
          rw [newer_top hlog hll, Bool.and_true]
          by_cases e : l[k].who = s.id
          · have : (b.voted == -1 || b.voted == l[k].who) = true := by simp [hid, e]
            rw [this, if_pos rfl]
            have e3 : (l[k].who == s.id) = true := by simpa using e
            rw [e3]
            have : l[k].who = b.voted := by rw [hid, e]
            rw [this]
          · have : (b.voted == -1 || b.voted == l[k].who) = false := by
              simp only [hid, Bool.or_eq_false_iff, beq_eq_false_iff_ne]
              exact ⟨by omega, fun h => e h.symm⟩
            rw [this]
            have e3 : (l[k].who == s.id) = false := by simpa using e
            rw [e3]; rfl
        rw [e2, same_eq hb, Option.bind_some]
        simp only [decide_true, beq_self_eq_true, Bool.not_true, Bool.or_self]
        rw [law14_VoteStands_J7, cond_false]
        exact next
    · rw [if_neg (by omega), law14_VoteStands_J4]
theorem stands_L2 {l : List Call30} {s : Seat} (hF : Fit s) (hc : ∀ c ∈ l, CalOk c) (hl : l.length ≤ 30) : ∀ m k now, l.length < m + k → k ≤ l.length → Sml now → 0 ≤ now.term → now.term ≤ 1000000 + k → now.id = s.id → now.peers = s.peers → now.log = s.log →
    (∀ j (h : j < k) (h' : k ≤ l.length), ¬ (l[j]'(by omega)).do_ % 4 < 2 → (l[j]'(by omega)).term ≤ now.term) → law14_VoteStands_L2 l s true m now (k : Int) = some true := by
  intro m
  induction m with
  | zero => intro k now h1 h2; omega
  | succ m ih =>
    intro k now h1 h2 hs ht1 ht2 hid hpe hlg hall
    rw [law14_VoteStands_L2, cond_d]
    by_cases hk : k < l.length
    · have hck := hc l[k] (List.getElem_mem hk)
      have hll : now.log.length ≤ 1000000 := by have := hs.2.1; omega
      rw [if_pos (by omega), idx_nat hk, Option.bind_some, step_eq hck hll (by omega) (by omega), Option.bind_some, w64_succ (by omega)]
      have hss := stp_sml hs l[k]
      have htt := stp_term hck ht1 ht2 (by omega)
      have hkk := stp_keeps now l[k]
      refine ih (k + 1) _ (by omega) (by omega) hss (by omega) (by omega) (by rw [hkk.2.2.2, hid]) (by rw [hkk.2.2.1, hpe]) (by rw [hkk.1, hlg]) (fun j hj hj' hd => ?_)
      by_cases e : j = k
      · subst e; exact stp_ge hd hck.1.1
      · have := hall j (by omega) (by omega) hd; omega
    · have hB := bigB_f hF.1
      have hk' : k = l.length := by omega
      rw [if_neg (by omega), law14_VoteStands_J2, vBegin_eq (by omega) (by omega), Option.bind_some, w64 (by omega) (by omega)]
      have e1 : ((begin_ now).term != now.term + 1) = false := by simp [begin_]
      have e2 : ((begin_ now).voted != s.id) = false := by simp [begin_, hid]
      rw [e1, e2, cond_false, cond_false]
      have e3 : (begin_ now).votes = [s.id] := by show [now.id] = _; rw [hid]
      have e4 : (begin_ now).peers = s.peers := hpe
      rw [e3, e4, vWon_eq (by simp) (by omega), Option.bind_some]
      have hw : won [s.id] s.peers = ((s.peers.length : Int) == 1) := by
        unfold won
        rw [count_one hF.2.2.1 hF.2.2.2]
        have hpos : 0 < s.peers.length := by
          have := hF.2.2.2
          cases hp : s.peers with
          | nil => rw [hp] at this; simp at this
          | cons a b => simp
        rw [Bool.eq_iff_iff, decide_eq_true_eq, beq_iff_eq]; omega
      rw [hw, beq_self_eq_true, Bool.not_true, law14_VoteStands_J3, cond_false]
      refine stands_L1 (k := 0) hc hl (begin_sml hs) hid (by omega) (by show ∀ e ∈ now.log, _; rw [hlg]; exact hF.2.1) (by show now.log.length ≤ 30; rw [hlg]; omega) (fun c hcm hd => ?_) BIG (by rw [BIG_eq]; omega) (by omega)
      obtain ⟨j, hj, rfl⟩ := List.mem_iff_getElem.1 hcm
      have := hall j (by omega) (by omega) hd
      show _ < now.term + 1
      omega
theorem VoteStands_true (y0 : Seat) (o0 : Seat.ok y0) (y1 : List Call30) (o1 : ∀ y26 ∈ y1, Call30.ok y26) : law14_VoteStands_f y0 y1 = some true := by
  unfold law14_VoteStands_f law14_VoteStands_J1
  obtain ⟨b, eb, hb⟩ := fits_eq y0
  rw [head_eq, Option.bind_some, eb, Option.bind_some]
  cases h : ((!b) || decide (30 < (y1.length : Int))) with
  | true => rfl
  | false =>
    simp only [Bool.or_eq_false_iff, Bool.not_eq_false', decide_eq_false_iff_not] at h
    obtain ⟨h1, h2⟩ := h
    have hF := hb h1
    have hB := bigB_f hF.1
    exact stands_L2 (k := 0) hF o1 (by omega) BIG y0 (by rw [BIG_eq]; omega) (by omega) hF.sml (by omega) (by omega) rfl rfl rfl (fun j hj => by omega)
end Go.Proofs.Ytecdonbjabjaeaa
