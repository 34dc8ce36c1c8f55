import Derived.Test.YtmkpokcfefjifaaDoorQ5
set_option linter.unusedSectionVars false
/- Seats that are the same; seats that are gone through. -/
set_option linter.unusedSimpArgs false
set_option linter.unusedVariables false
namespace Go.Proofs.YtmkpokcfefjifaaDoor
open Go.Ab
theorem ints_L {l : List Int} (hl : l.length ≤ 1000000) : ∀ u k, l.length < u + k → k ≤ l.length → ref14_Ints_L1 l l u (k : Int) = some true := by
  intro u
  induction u with
  | zero => intro k h1 h2; omega
  | succ u ih =>
    intro k h1 h2
    rw [ref14_Ints_L1, cond_d]
    by_cases hk : k < l.length
    · rw [if_pos (by omega), idx_nat hk, Option.bind_some, Option.bind_some, show (l[k] != l[k]) = false by simp, cond_false, w64_succ (by omega)]
      exact ih (k + 1) (by omega) (by omega)
    · rw [if_neg (by omega)]; rfl
theorem ints_refl {l : List Int} (hl : l.length ≤ 1000000) : ref14_Ints_f l l = some true := by
  unfold ref14_Ints_f
  rw [show ((l.length : Int) != (l.length : Int)) = false by simp, cond_false]
  exact ints_L hl BIG 0 (by rw [BIG_eq]; omega) (by omega)
theorem log_L2 {K : Int → Option Bool} {l : List Entry} {i : Nat} (hi : i < l.length) (hl : l[i].data.length ≤ 1000000) (hk : ref14_Log_J2 K (i : Int) = some true) : ∀ u k, l[i].data.length < u + k → k ≤ l[i].data.length → ref14_Log_L2 K l (i : Int) l u (k : Int) = some true := by
  intro u
  induction u with
  | zero => intro k h1 h2; omega
  | succ u ih =>
    intro k h1 h2
    rw [ref14_Log_L2, idx_nat hi, Option.bind_some, cond_d]
    by_cases hk : k < l[i].data.length
    · rw [if_pos (by omega), idx_nat hk, Option.bind_some, Option.bind_some, idx_nat hk, Option.bind_some, show (l[i].data[k] != l[i].data[k]) = false by simp, cond_false, w64_succ (by omega)]
      exact ih (k + 1) (by omega) (by omega)
    · rw [if_neg (by omega)]; assumption
theorem log_L {l : List Entry} (hl : l.length ≤ 1000000) (hd : ∀ e ∈ l, e.data.length ≤ 1000000) : ∀ u k, l.length < u + k → k ≤ l.length → ref14_Log_L1 l l u (k : Int) = some true := by
  intro u
  induction u with
  | zero => intro k h1 h2; omega
  | succ u ih =>
    intro k h1 h2
    rw [ref14_Log_L1, cond_d]
    by_cases hk : k < l.length
    · rw [if_pos (by omega), idx_nat hk, Option.bind_some, Option.bind_some, show ((l[k].term != l[k].term) || ((l[k].data.length : Int) != (l[k].data.length : Int))) = false by simp]
      refine log_L2 hk (hd _ (List.getElem_mem hk)) ?_ BIG 0 (by rw [BIG_eq]; have := hd _ (List.getElem_mem hk); omega) (by omega)
      unfold ref14_Log_J2
      rw [w64_succ (by omega)]
      exact ih (k + 1) (by omega) (by omega)
    · rw [if_neg (by omega)]; rfl
theorem log_refl {l : List Entry} (hl : l.length ≤ 1000000) (hd : ∀ e ∈ l, e.data.length ≤ 1000000) : ref14_Log_f l l = some true := by
  unfold ref14_Log_f
  rw [show ((l.length : Int) != (l.length : Int)) = false by simp, cond_false]
  exact log_L hl hd BIG 0 (by rw [BIG_eq]; omega) (by omega)
theorem fits_d {l : List Entry} (hl : l.length ≤ 1000000) : ∀ u k, l.length < u + k → k ≤ l.length → law13_Fits_L1 l u (k : Int) = some true → ∀ e ∈ l.drop k, e.data.length ≤ 40 := by
  intro u
  induction u with
  | zero => intro k h1 h2; omega
  | succ u ih =>
    intro k h1 h2 h
    rw [law13_Fits_L1, cond_d] at h
    by_cases hk : k < l.length
    · rw [if_pos (by omega), idx_nat hk, Option.bind_some, cond_d] at h
      by_cases c : 40 < (l[k].data.length : Int)
      · rw [if_pos c] at h; cases h
      · rw [if_neg c, w64_succ (by omega)] at h
        rw [drop_cons hk]
        intro e he
        rcases List.mem_cons.1 he with rfl | he
        · omega
        · exact ih (k + 1) (by omega) (by omega) h e he
    · rw [List.drop_of_length_le (by omega)]; intro e he; cases he
theorem great_d {s : Seat} (h : law15_Great_f s = some false) : ∀ e ∈ s.log, e.data.length ≤ 40 := by
  obtain ⟨b, e, F⟩ := great_tot s
  rw [h] at e
  have F := F (Option.some.inj e).symm
  unfold law15_Great_f law13_Fits_f at h
  have := F.p; have := F.v; have := F.n; have := F.m; have := F.l
  rw [decide_eq_false (by omega), decide_eq_false (by omega), decide_eq_false (by omega), decide_eq_false (by omega), decide_eq_false (by omega)] at h
  simp only [cond_false] at h
  have hf := fits_d (l := s.log) (by omega) BIG 0 (by rw [BIG_eq]; omega) (by omega)
  obtain ⟨c, hc, h⟩ := bind_some h
  have : c = true := by cases c; cases h; rfl
  subst this
  have := hf hc
  rwa [List.drop_zero] at this
theorem same_ok {s : Seat} (h : Ok s) : ref14_Same_f s s = some true := by
  have p7 := h.p7; have v7 := h.v7; have ll := h.ll
  have nm : s.next.length ≤ 7 ∧ s.match_.length ≤ 7 := by
    by_cases r : s.role = 3
    · obtain ⟨a, b⟩ := h.rl.ln r; omega
    · obtain ⟨a, b⟩ := h.rl.nl r; rw [a, b]; simp
  unfold ref14_Same_f
  rw [ints_refl (by omega), Option.bind_some, log_refl (by omega) (fun e he => by have := (h.lg.2 e he).2; omega), Option.bind_some, ints_refl (by omega), Option.bind_some, ints_refl (by omega), Option.bind_some, ints_refl (by omega), Option.bind_some]
  simp
theorem open_ok {s : Seat} (o : Seat.ok s) (g : law15_Great_f s = some false) (r : seat_Right_f s = some true) : Ok s ∧ s.peers.Pairwise (· < ·) ∧ srt 1 s.log s.term ∧ (∀ p ∈ s.peers, 0 ≤ p) ∧ (s.role ≠ 1 → 0 < s.term) := by
  obtain ⟨b, e, F⟩ := great_tot s
  rw [g] at e
  exact right_ok (F (Option.some.inj e).symm) o (great_d g) r
theorem fits_m {x : Msg} (o : Msg.ok x) : law15_Fits_f x = some (decide ((x.nums.length : Int) ≤ 60) && decide ((x.data.length : Int) ≤ 2400)) := rfl
theorem mok_of {x : Msg} (o : Msg.ok x) (h : (decide ((x.nums.length : Int) ≤ 60) && decide ((x.data.length : Int) ≤ 2400)) = true) : MOk x := by
  simp only [Bool.and_eq_true, decide_eq_true_eq] at h
  exact ⟨by omega, by omega, o⟩
end Go.Proofs.YtmkpokcfefjifaaDoor
