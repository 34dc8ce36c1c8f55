/- Layer 14, plain laws: whether a seat fits, the live question, a step. -/
import Derived.Test.YtecdonbjabjaeaaP1
set_option linter.unusedSimpArgs false
set_option linter.unusedVariables false
namespace Go.Proofs.Ytecdonbjabjaeaa
open Go.Ab
theorem head_eq : law14_head_f = some true := by
  unfold law14_head_f
  simp only [seat_eq, Option.bind_some]
  have sm0 : Sml ⟨2, [1, 2, 3], 4, -1, 1, [⟨1, []⟩, ⟨3, []⟩], 1, [], [], []⟩ := by unfold Sml; simp
  simp only [vAsk_eq (s := ⟨2, [1, 2, 3], 4, -1, 1, [⟨1, []⟩, ⟨3, []⟩], 1, [], [], []⟩) (by decide), Option.bind_some]
  have a1 : ask ⟨2, [1, 2, 3], 4, -1, 1, [⟨1, []⟩, ⟨3, []⟩], 1, [], [], []⟩ 3 1 9 9 = (⟨2, [1, 2, 3], 4, -1, 1, [⟨1, []⟩, ⟨3, []⟩], 1, [], [], []⟩, false) := by decide
  have a2 : ask ⟨2, [1, 2, 3], 4, -1, 1, [⟨1, []⟩, ⟨3, []⟩], 1, [], [], []⟩ 4 1 3 2 = (⟨2, [1, 2, 3], 4, 1, 1, [⟨1, []⟩, ⟨3, []⟩], 1, [], [], []⟩, true) := by decide
  have a3 : ask ⟨2, [1, 2, 3], 4, 1, 1, [⟨1, []⟩, ⟨3, []⟩], 1, [], [], []⟩ 4 3 9 9 = (⟨2, [1, 2, 3], 4, 1, 1, [⟨1, []⟩, ⟨3, []⟩], 1, [], [], []⟩, false) := by decide
  have a4 : ask ⟨2, [1, 2, 3], 4, 1, 1, [⟨1, []⟩, ⟨3, []⟩], 1, [], [], []⟩ 5 3 3 1 = (⟨2, [1, 2, 3], 5, -1, 1, [⟨1, []⟩, ⟨3, []⟩], 1, [], [], []⟩, false) := by decide
  have a5 : ask ⟨2, [1, 2, 3], 5, -1, 1, [⟨1, []⟩, ⟨3, []⟩], 1, [], [], []⟩ 5 3 3 3 = (⟨2, [1, 2, 3], 5, 3, 1, [⟨1, []⟩, ⟨3, []⟩], 1, [], [], []⟩, true) := by decide
  have b6 : begin_ ⟨2, [1, 2, 3], 5, 3, 1, [⟨1, []⟩, ⟨3, []⟩], 1, [], [], []⟩ = ⟨2, [1, 2, 3], 6, 2, 2, [⟨1, []⟩, ⟨3, []⟩], 1, [2], [], []⟩ := by decide
  have a7 : ask ⟨2, [1, 2, 3], 6, 2, 2, [⟨1, []⟩, ⟨3, []⟩], 1, [2], [], []⟩ 6 1 9 9 = (⟨2, [1, 2, 3], 6, 2, 2, [⟨1, []⟩, ⟨3, []⟩], 1, [2], [], []⟩, false) := by decide
  simp only [a1, a2]
  simp only [vAsk_eq (s := ⟨2, [1, 2, 3], 4, 1, 1, [⟨1, []⟩, ⟨3, []⟩], 1, [], [], []⟩) (by decide), Option.bind_some, a3, a4]
  simp only [vAsk_eq (s := ⟨2, [1, 2, 3], 5, -1, 1, [⟨1, []⟩, ⟨3, []⟩], 1, [], [], []⟩) (by decide), Option.bind_some, a5]
  simp only [vBegin_eq (s := ⟨2, [1, 2, 3], 5, 3, 1, [⟨1, []⟩, ⟨3, []⟩], 1, [], [], []⟩) (by decide) (by decide), Option.bind_some, b6, vDown_eq]
  simp only [vAsk_eq (s := ⟨2, [1, 2, 3], 6, 2, 2, [⟨1, []⟩, ⟨3, []⟩], 1, [2], [], []⟩) (by decide), Option.bind_some, a7]
  simp only [same_eq (a := ⟨2, [1, 2, 3], 4, -1, 1, [⟨1, []⟩, ⟨3, []⟩], 1, [], [], []⟩) sm0, Option.bind_some]
  simp only [same_eq (a := ⟨2, [1, 2, 3], 4, 1, 1, [⟨1, []⟩, ⟨3, []⟩], 1, [], [], []⟩) (by unfold Sml; simp), Option.bind_some]
  simp only [ints_eq (a := [2]) (by decide), Option.bind_some]
  unfold law14_head_J1
  have w1 : vote_Won_f [3, 1] [1, 2, 3] = some true := by rw [vWon_eq (by decide) (by decide)]; rfl
  have w2 : vote_Won_f [1, 2] [1, 2, 3, 4] = some false := by rw [vWon_eq (by decide) (by decide)]; rfl
  have w3 : vote_Won_f [] [] = some false := by rw [vWon_eq (by decide) (by decide)]; rfl
  have w4 : vote_Won_f [1, 1, 9] [1, 2, 3] = some false := by rw [vWon_eq (by decide) (by decide)]; rfl
  simp only [w1, w2, w3, w4]
  simp [down]
def bigB (s : Seat) : Bool := (decide (30 < (s.peers.length : Int))) || ((decide (30 < (s.log.length : Int))) || ((decide (30 < (s.votes.length : Int))) || ((decide (30 < (s.next.length : Int))) || ((decide (30 < (s.match_.length : Int))) || ((decide (s.term < 0)) || ((decide (1000000 < s.term)) || ((decide (s.voted < (-1))) || ((decide (1000000 < s.voted)) || ((decide (s.id < 0)) || (decide (1000000 < s.id)))))))))))
def badE (e : Entry) : Bool := (decide (30 < (e.data.length : Int))) || ((decide (e.term < 0)) || (decide (1000000 < e.term)))
def Fit (s : Seat) : Prop := bigB s = false ∧ (∀ e ∈ s.log, badE e = false) ∧ (∀ j (h : j + 1 < s.peers.length), s.peers[j] < s.peers[j + 1]) ∧ s.peers.contains s.id = true
theorem bigB_f {s : Seat} (h : bigB s = false) : s.peers.length ≤ 30 ∧ s.log.length ≤ 30 ∧ s.votes.length ≤ 30 ∧ s.next.length ≤ 30 ∧ s.match_.length ≤ 30 ∧ 0 ≤ s.term ∧ s.term ≤ 1000000 ∧ -1 ≤ s.voted ∧ s.voted ≤ 1000000 ∧ 0 ≤ s.id ∧ s.id ≤ 1000000 := by
  simp only [bigB, Bool.or_eq_false_iff, decide_eq_false_iff_not] at h
  omega
theorem fits_L1 {s : Seat} (hp : s.peers.length ≤ 30) : ∀ m k, s.peers.length + 1 < m + k → 1 ≤ k → k ≤ s.peers.length + 1 → ∃ b, law14_Fits_L1 s m (k : Int) = some b ∧ (b = true → (∀ j (h : j + 1 < s.peers.length), k ≤ j + 1 → s.peers[j] < s.peers[j + 1]) ∧ s.peers.contains s.id = true) := by
  intro m
  induction m with
  | zero =>
    intro k h1 h2 h5; omega
  | succ m ih =>
    intro k h1 h2 h5
    rw [law14_Fits_L1, cond_d]
    by_cases hk : k < s.peers.length
    · rw [if_pos (by omega), w64 (by omega) (by omega), show ((k : Int) - 1) = ((k - 1 : Nat) : Int) by omega, idx_nat (by omega), Option.bind_some, idx_nat hk, Option.bind_some, cond_d]
      by_cases hx : s.peers[k] ≤ s.peers[k - 1]
      · rw [if_pos hx]; exact ⟨false, rfl, fun h => by cases h⟩
      · rw [if_neg hx, w64_succ (by omega)]
        obtain ⟨b, e, hb⟩ := ih (k + 1) (by omega) (by omega) (by omega)
        refine ⟨b, e, fun ht => ?_⟩
        obtain ⟨h3, h4⟩ := hb ht
        refine ⟨fun j hj hkj => ?_, h4⟩
        by_cases e : k = j + 1
        · subst e; simp only [Nat.add_sub_cancel] at hx; omega
        · exact h3 j hj (by omega)
    · rw [if_neg (by omega), law14_Fits_J3, has_eq (by omega), Option.bind_some]
      exact ⟨_, rfl, fun h => ⟨fun j hj hkj => by omega, h⟩⟩
theorem fits_L2 {s : Seat} (hp : s.peers.length ≤ 30) (hl : s.log.length ≤ 30) : ∀ m k, s.log.length < m + k → k ≤ s.log.length → ∃ b, law14_Fits_L2 s m (k : Int) = some b ∧
    (b = true → (∀ e ∈ s.log.drop k, badE e = false) ∧ (∀ j (h : j + 1 < s.peers.length), s.peers[j] < s.peers[j + 1]) ∧ s.peers.contains s.id = true) := by
  intro m
  induction m with
  | zero => intro k h1 h2; omega
  | succ m ih =>
    intro k h1 h2
    rw [law14_Fits_L2, cond_d]
    by_cases hk : k < s.log.length
    · rw [if_pos (by omega), idx_nat hk, Option.bind_some, law14_Fits_J4, w64_succ (by omega)]
      obtain ⟨b, e, hb⟩ := ih (k + 1) (by omega) (by omega)
      show ∃ b, cond (badE s.log[k]) (some false) (law14_Fits_L2 s m ((k + 1 : Nat) : Int)) = some b ∧ _
      cases hx : badE s.log[k] with
      | true => exact ⟨false, rfl, fun h => by cases h⟩
      | false =>
        refine ⟨b, e, fun ht => ?_⟩
        obtain ⟨h3, h4⟩ := hb ht
        refine ⟨fun e he => ?_, h4⟩
        rw [drop_cons hk] at he
        rcases List.mem_cons.1 he with e1 | e1
        · rw [e1]; exact hx
        · exact h3 e e1
    · rw [if_neg (by omega), law14_Fits_J2, List.drop_of_length_le (by omega)]
      obtain ⟨b, e, hb⟩ := fits_L1 hp BIG 1 (by rw [BIG_eq]; omega) (by omega) (by omega)
      refine ⟨b, e, fun ht => ⟨fun e he => by simp at he, fun j hj => (hb ht).1 j hj (by omega), (hb ht).2⟩⟩
theorem fits_eq (s : Seat) : ∃ b, law14_Fits_f s = some b ∧ (b = true → Fit s) := by
  unfold law14_Fits_f law14_Fits_J1
  show ∃ b, cond (bigB s) (some false) (law14_Fits_L2 s BIG 0) = some b ∧ _
  cases hb : bigB s with
  | true => exact ⟨false, rfl, fun h => by cases h⟩
  | false =>
    obtain ⟨h1, h2, _⟩ := bigB_f hb
    obtain ⟨b, e, h⟩ := fits_L2 h1 h2 BIG 0 (by rw [BIG_eq]; omega) (by omega)
    exact ⟨b, e, fun ht => ⟨hb, by simpa using (h ht).1, (h ht).2⟩⟩
theorem Fit.sml {s : Seat} (h : Fit s) : Sml s := by
  obtain ⟨h1, h2, h3, h4, h5, _⟩ := bigB_f h.1
  refine ⟨by omega, by omega, fun e he => ?_, by omega, by omega, by omega⟩
  have := h.2.1 e he
  simp only [badE, Bool.or_eq_false_iff, decide_eq_false_iff_not] at this
  omega
def CalOk (c : Call30) : Prop := (0 ≤ c.do_ ∧ c.do_ < 256) ∧ (0 ≤ c.term ∧ c.term < 65536) ∧ (0 ≤ c.who ∧ c.who < 256) ∧ (0 ≤ c.last ∧ c.last < 65536) ∧ (0 ≤ c.many ∧ c.many < 256)
def stp (s : Seat) (c : Call30) : Seat × Bool :=
  if c.do_ % 4 = 0 then (begin_ s, false) else if c.do_ % 4 = 1 then (if s.term < c.term then (down s c.term, false) else (s, false)) else ask s c.term c.who c.last c.many
theorem step_eq {s : Seat} {c : Call30} (hc : CalOk c) (hl : s.log.length ≤ 1000000) (h1 : -10 ≤ s.term) (h2 : s.term ≤ 2000000) : law14_step_f s c = some (stp s c) := by
  obtain ⟨⟨q1, q2⟩, ⟨q3, q4⟩, ⟨q5, q6⟩, ⟨q7, q8⟩, q9, q10⟩ := hc
  unfold law14_step_f stp
  rw [Int.tmod_eq_emod_of_nonneg q1, w64 (x := c.term) (by omega) (by omega), w64 (x := c.who) (by omega) (by omega), w64 (x := c.last) (by omega) (by omega), w64 (x := c.many) (by omega) (by omega), vBegin_eq h1 h2, vDown_eq, vAsk_eq hl]
  by_cases e0 : c.do_ % 4 = 0
  · have : (c.do_ % 4 == 0) = true := by simpa using e0
    rw [this, if_pos e0]; rfl
  · have : (c.do_ % 4 == 0) = false := by simpa using e0
    rw [this, if_neg e0, cond_false]
    by_cases e1 : c.do_ % 4 = 1
    · have : (c.do_ % 4 == 1) = true := by simpa using e1
      rw [this, if_pos e1, cond_true, cond_d]
      split <;> rfl
    · have : (c.do_ % 4 == 1) = false := by simpa using e1
      rw [this, if_neg e1]; rfl
-- what becomes of a seat
theorem ask_keeps (s : Seat) (t w l m : Int) : (ask s t w l m).1.log = s.log ∧ (ask s t w l m).1.commit = s.commit ∧ (ask s t w l m).1.peers = s.peers ∧ (ask s t w l m).1.id = s.id := by
  unfold ask ask1
  split; · exact ⟨rfl, rfl, rfl, rfl⟩
  split <;> split <;> exact ⟨rfl, rfl, rfl, rfl⟩
theorem ask_term (s : Seat) (t w l m : Int) : (ask s t w l m).1.term = if t < s.term then s.term else t := by
  unfold ask ask1
  split; · rfl
  split <;> split <;> first | rfl | (show s.term = t; omega)
theorem ask_sml {s : Seat} (h : Sml s) (t w l m : Int) : Sml (ask s t w l m).1 := by
  obtain ⟨h1, h2, h3, h4, h5, h6⟩ := h
  have hn : ([] : List Int).length ≤ 1000 := by decide
  unfold ask ask1
  split; · exact ⟨h1, h2, h3, h4, h5, h6⟩
  split <;> split <;> first | exact ⟨h1, h2, h3, h4, h5, h6⟩ | exact ⟨h1, h2, h3, hn, hn, hn⟩
theorem begin_sml {s : Seat} (h : Sml s) : Sml (begin_ s) := by
  obtain ⟨h1, h2, h3, h4, h5, h6⟩ := h
  exact ⟨h1, h2, h3, by simp [begin_], by simp [begin_], by simp [begin_]⟩
theorem down_sml {s : Seat} (h : Sml s) (t : Int) : Sml (down s t) := by
  obtain ⟨h1, h2, h3, h4, h5, h6⟩ := h
  exact ⟨h1, h2, h3, by simp [down], by simp [down], by simp [down]⟩
theorem stp_sml {s : Seat} (h : Sml s) (c : Call30) : Sml (stp s c).1 := by
  unfold stp
  split; · exact begin_sml h
  split
  · split; · exact down_sml h _
    exact h
  · exact ask_sml h _ _ _ _
theorem stp_keeps (s : Seat) (c : Call30) : (stp s c).1.log = s.log ∧ (stp s c).1.commit = s.commit ∧ (stp s c).1.peers = s.peers ∧ (stp s c).1.id = s.id := by
  unfold stp
  split; · exact ⟨rfl, rfl, rfl, rfl⟩
  split
  · split <;> exact ⟨rfl, rfl, rfl, rfl⟩
  · exact ask_keeps _ _ _ _ _
theorem stp_term {s : Seat} {c : Call30} (hc : CalOk c) {B : Int} (h1 : 0 ≤ s.term) (h2 : s.term ≤ B) (hB : 65536 ≤ B) : s.term ≤ (stp s c).1.term ∧ (stp s c).1.term ≤ B + 1 := by
  obtain ⟨_, ⟨q3, q4⟩, _⟩ := hc
  unfold stp
  split; · exact ⟨by show s.term ≤ s.term + 1; omega, by show s.term + 1 ≤ B + 1; omega⟩
  split
  · split
    · exact ⟨by show s.term ≤ c.term; omega, by show c.term ≤ B + 1; omega⟩
    · exact ⟨Int.le_refl _, by show s.term ≤ B + 1; omega⟩
  · rw [ask_term]; split <;> omega
theorem ask_newer {s : Seat} {t w l m : Int} (h : (ask s t w l m).2 = true) : newer s.log l m = true := by
  unfold ask ask1 at h
  split at h; · cases h
  split at h <;> split at h <;> first | cases h; done | (rename_i hh; simp only [Bool.and_eq_true] at hh; exact hh.2)
theorem ask_role {s : Seat} {t w l m : Int} (h : s.term < t) : (ask s t w l m).1.role = 1 ∧ (ask s t w l m).1.votes = [] := by
  unfold ask ask1; rw [if_neg (by omega), if_pos h]; split <;> exact ⟨rfl, rfl⟩
theorem ask_twice (s : Seat) (t w l m : Int) : ask (ask s t w l m).1 t w l m = ask s t w l m := by
  have hl := (ask_keeps s t w l m).1
  have ht := ask_term s t w l m
  by_cases h1 : t < s.term
  · have e : ask s t w l m = (s, false) := by unfold ask; rw [if_pos h1]
    rw [e]; exact e
  · rw [if_neg h1] at ht
    have e2 : ∀ o : Seat, o.term = t → ask o t w l m = ask1 o w l m := fun o ho => by unfold ask; rw [if_neg (by omega), if_neg (by omega)]
    rw [e2 _ ht]
    have e3 : ask s t w l m = ask1 (if s.term < t then down s t else s) w l m := by unfold ask; rw [if_neg h1]; split <;> rfl
    rw [e3]
    generalize (if s.term < t then down s t else s) = o
    unfold ask1
    by_cases h3 : (free o w && newer o.log l m) = true
    · rw [if_pos h3]
      simp only [Bool.and_eq_true] at h3
      rw [if_pos (by simp [free, h3.2])]
    · rw [if_neg h3, if_neg h3]
end Go.Proofs.Ytecdonbjabjaeaa
