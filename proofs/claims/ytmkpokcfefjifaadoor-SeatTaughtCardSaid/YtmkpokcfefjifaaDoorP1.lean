import Derived.Test.YtmkpokcfefjifaaDoorQ1
import Derived.Test.YtmkpokcfefjifaaDoorF9
import Derived.Test.YtmkpokcfefjifaaDoorB8
set_option linter.unusedSectionVars false
/- What the functions of law 15 compute: the parts that any law wants. -/
set_option linter.unusedSimpArgs false
set_option linter.unusedVariables false
namespace Go.Proofs.YtmkpokcfefjifaaDoor
open Go.Ab
/-- it answers -/
def Tot {β : Type} (x : Option β) : Prop := ∃ b, x = some b
theorem Tot.mk {β : Type} (b : β) : Tot (some b) := ⟨b, rfl⟩
theorem Tot.bind {α β : Type} {x : Option α} {f : α → Option β} (h : Tot x) (k : ∀ a, x = some a → Tot (f a)) : Tot (x.bind f) := by
  obtain ⟨a, rfl⟩ := h
  exact k a rfl
theorem Tot.cond {β : Type} {c : Bool} {x y : Option β} (h1 : c = true → Tot x) (h2 : c = false → Tot y) : Tot (cond c x y) := by
  cases c
  · exact h2 rfl
  · exact h1 rfl
theorem Tot.idx {l : List Int} {k : Nat} (h : k < l.length) : Tot (idx l (k : Int)) := ⟨_, idx_nat h⟩
theorem rises_L {l : List Int} (hl : l.length ≤ 1000000) : ∀ m k, l.length + 1 < m + k → 1 ≤ k → k ≤ l.length + 1 → Tot (seat_rises_L1 l m (k : Int)) := by
  intro m
  induction m with
  | zero =>
    intro k h1 h2 h3
    omega
  | succ m ih =>
    intro k h1 h2 h3
    rw [seat_rises_L1, cond_d]
    by_cases hk : k < l.length
    · rw [if_pos (by omega), idx_nat hk, Option.bind_some, w64 (by omega) (by omega), show (k : Int) - 1 = ((k - 1 : Nat) : Int) by omega, idx_nat (by omega), Option.bind_some]
      refine .cond (fun _ => .mk _) (fun _ => ?_)
      rw [w64_succ (by omega)]
      exact ih (k + 1) (by omega) (by omega) (by omega)
    · rw [if_neg (by omega)]
      exact .mk _
theorem rises_tot {l : List Int} (hl : l.length ≤ 1000000) : Tot (seat_rises_f l) := rises_L hl BIG 1 (by rw [BIG_eq]; omega) (by omega) (by omega)
theorem fits_L {l : List Entry} (hl : l.length ≤ 1000000) : ∀ m k, l.length < m + k → k ≤ l.length → Tot (law13_Fits_L1 l m (k : Int)) := by
  intro m
  induction m with
  | zero => intro k h1 h2; omega
  | succ m ih =>
    intro k h1 h2
    rw [law13_Fits_L1, cond_d]
    by_cases hk : k < l.length
    · rw [if_pos (by omega), idx_nat hk, Option.bind_some]
      refine .cond (fun _ => .mk _) (fun _ => ?_)
      rw [w64_succ (by omega)]
      exact ih (k + 1) (by omega) (by omega)
    · rw [if_neg (by omega)]
      exact .mk _
/-- what is gone through -/
structure Few (s : Seat) : Prop where
  p : s.peers.length ≤ 20
  v : s.votes.length ≤ 20
  n : s.next.length ≤ 20
  m : s.match_.length ≤ 20
  l : s.log.length ≤ 60
theorem great_tot (s : Seat) : ∃ b, law15_Great_f s = some b ∧ (b = false → Few s) := by
  unfold law15_Great_f law13_Fits_f
  by_cases h1 : 20 < (s.peers.length : Int)
  · rw [decide_eq_true h1]; exact ⟨_, rfl, fun h => by cases h⟩
  by_cases h2 : 20 < (s.votes.length : Int)
  · rw [decide_eq_false h1, decide_eq_true h2]; exact ⟨_, rfl, fun h => by cases h⟩
  by_cases h3 : 20 < (s.next.length : Int)
  · rw [decide_eq_false h1, decide_eq_false h2, decide_eq_true h3]; exact ⟨_, rfl, fun h => by cases h⟩
  by_cases h4 : 20 < (s.match_.length : Int)
  · rw [decide_eq_false h1, decide_eq_false h2, decide_eq_false h3, decide_eq_true h4]; exact ⟨_, rfl, fun h => by cases h⟩
  by_cases h5 : 60 < (s.log.length : Int)
  · rw [decide_eq_false h1, decide_eq_false h2, decide_eq_false h3, decide_eq_false h4, decide_eq_true h5]; exact ⟨_, rfl, fun h => by cases h⟩
  rw [decide_eq_false h1, decide_eq_false h2, decide_eq_false h3, decide_eq_false h4, decide_eq_false h5]
  obtain ⟨b, e⟩ := fits_L (l := s.log) (by omega) BIG 0 (by rw [BIG_eq]; omega) (by omega)
  have e' : law13_Fits_L1 s.log BIG 0 = some b := e
  simp only [cond_false, e', Option.bind_some]
  exact ⟨_, rfl, fun _ => ⟨by omega, by omega, by omega, by omega, by omega⟩⟩
theorem entries_L {l : List Entry} {t : Int} (hl : l.length ≤ 1000000) : ∀ m k (u : Int), l.length < m + k → k ≤ l.length → Tot (seat_entries_L1 l t m u (k : Int)) := by
  intro m
  induction m with
  | zero => intro k u h1 h2; omega
  | succ m ih =>
    intro k u h1 h2
    rw [seat_entries_L1, cond_d]
    by_cases hk : k < l.length
    · rw [if_pos (by omega), idx_nat hk, Option.bind_some]
      refine .cond (fun _ => .mk _) (fun _ => ?_)
      rw [w64_succ (by omega)]
      exact ih (k + 1) _ (by omega) (by omega)
    · rw [if_neg (by omega)]
      exact .mk _
theorem entries_tot {l : List Entry} {t : Int} (hl : l.length ≤ 1000000) : Tot (seat_entries_f l t) := entries_L hl BIG 0 1 (by rw [BIG_eq]; omega) (by omega)
theorem indexFunc_L {l : List Int} {f : Int → Option Bool} (hl : l.length ≤ 1000000) (hf : ∀ x, Tot (f x)) : ∀ m k, l.length < m + k → k ≤ l.length → Tot (slices_IndexFunc_L1 l f m (k : Int)) := by
  intro m
  induction m with
  | zero => intro k h1 h2; omega
  | succ m ih =>
    intro k h1 h2
    rw [slices_IndexFunc_L1, cond_d]
    by_cases hk : k < l.length
    · rw [if_pos (by omega), idx_nat hk, Option.bind_some]
      refine (hf _).bind fun a _ => .cond (fun _ => .mk _) (fun _ => ?_)
      rw [w64_succ (by omega)]
      exact ih (k + 1) (by omega) (by omega)
    · rw [if_neg (by omega)]
      exact .mk _
theorem cfunc_tot {l : List Int} {f : Int → Option Bool} (hl : l.length ≤ 1000000) (hf : ∀ x, Tot (f x)) : Tot (slices_ContainsFunc_f l f) :=
  .bind (indexFunc_L hl hf BIG 0 (by rw [BIG_eq]; omega) (by omega)) fun _ _ => .mk _
theorem peers_tot {l : List Int} (hl : l.length ≤ 1000000) : Tot (seat_peers_f l) := by
  unfold seat_peers_f
  refine .cond (fun h1 => .cond (fun _ => (rises_tot hl).bind fun _ _ => .cond (fun _ => ?_) (fun _ => .mk _)) (fun _ => .mk _)) (fun _ => .mk _)
  have h1 := of_decide_eq_true h1
  refine .bind (Tot.idx (k := 0) (by omega)) fun _ _ => .cond (fun _ => ?_) (fun _ => .mk _)
  rw [w64 (by omega) (by omega), show (l.length : Int) - 1 = ((l.length - 1 : Nat) : Int) by omega]
  exact .bind (Tot.idx (by omega)) fun _ _ => .mk _
theorem contains_tot {l : List Int} {x : Int} (hl : l.length ≤ 1000000) : Tot (slices_Contains_f l x) := ⟨_, contains_eq hl⟩
theorem leads_L {s : Seat} (hm : s.match_.length ≤ 1000) (hn : s.next.length = s.match_.length) (hp : s.peers.length = s.match_.length) : ∀ m k, s.match_.length < m + k → k ≤ s.match_.length → Tot (seat_leads_L1 s m (k : Int)) := by
  intro m
  induction m with
  | zero => intro k h1 h2; omega
  | succ m ih =>
    intro k h1 h2
    rw [seat_leads_L1, cond_d]
    by_cases hk : k < s.match_.length
    · rw [if_pos (by omega), idx_nat hk, Option.bind_some]
      have J : ∀ v, Tot (seat_leads_J3 (seat_leads_L1 s m) (k : Int) v) := fun v => .cond (fun _ => .mk _) (fun _ => by rw [w64_succ (by omega)]; exact ih (k + 1) (by omega) (by omega))
      refine .cond (fun _ => J _) (fun _ => .cond (fun _ => J _) (fun _ => .bind (Tot.idx (by omega)) fun _ _ => .cond (fun _ => J _) (fun _ => .cond (fun _ => J _) (fun _ => .bind (Tot.idx (by omega)) fun _ _ => J _))))
    · rw [if_neg (by omega)]
      exact .mk _
theorem leads_tot {s : Seat} (F : Few s) : Tot (seat_leads_f s) := by
  unfold seat_leads_f seat_leads_J1
  refine .cond (fun _ => .mk _) (fun h => ?_)
  simp only [Bool.or_eq_false_iff, bne_eq_false_iff_eq] at h
  exact leads_L (by have := F.m; omega) (by omega) (by omega) BIG 0 (by rw [BIG_eq]; have := F.m; omega) (by omega)
theorem right_tot {s : Seat} (F : Few s) : Tot (seat_Right_f s) := by
  have hp : s.peers.length ≤ 1000000 := by have := F.p; omega
  have hv : s.votes.length ≤ 1000000 := by have := F.v; omega
  have hl : s.log.length ≤ 1000000 := by have := F.l; omega
  have J : ∀ v, Tot (seat_Right_J1 s v) := fun v => by
    unfold seat_Right_J1
    exact .cond (fun _ => .mk _) fun _ => .cond (fun _ => .mk _) fun _ => .cond (fun _ => .cond (fun _ => .cond (fun _ => .bind (contains_tot hv) fun _ _ => .mk _) fun _ => .mk _) fun _ => .mk _) fun _ => .cond (fun _ => .cond (fun _ => .bind (leads_tot F) fun _ _ => .mk _) fun _ => .mk _) fun _ => .mk _
  have C : ∀ x, Tot (seat_Right_1_f x s) := fun x => by
    unfold seat_Right_1_f
    exact .bind (contains_tot hp) fun _ _ => .mk _
  have C2 : ∀ x, Tot (seat_Right_2_f x s) := fun x => by
    unfold seat_Right_2_f
    exact .bind (C x) fun _ _ => .mk _
  have E : Tot (seat_entries_f s.log s.term) := entries_tot hl
  have K : Tot (slices_ContainsFunc_f s.votes (fun y0_ => seat_Right_2_f y0_ s)) := cfunc_tot hv C2
  have R := rises_tot hv
  unfold seat_Right_f
  refine .bind (peers_tot hp) fun _ _ => .cond (fun _ => J _) fun _ => .bind (C _) fun _ _ => .cond (fun _ => J _) fun _ => .cond (fun _ => J _) fun _ => .cond (fun _ => J _) fun _ => .cond (fun _ => .bind (C _) fun _ _ => .cond (fun _ => J _) fun _ => ?_) fun _ => ?_
  all_goals exact .bind E fun _ _ => .cond (fun _ => J _) fun _ => .cond (fun _ => J _) fun _ => .cond (fun _ => J _) fun _ => .bind R fun _ _ => .cond (fun _ => J _) fun _ => .bind K fun _ _ => J _
end Go.Proofs.YtmkpokcfefjifaaDoor
