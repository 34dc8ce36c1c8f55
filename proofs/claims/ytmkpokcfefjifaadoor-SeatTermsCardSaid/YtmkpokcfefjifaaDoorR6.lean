import Derived.Test.YtmkpokcfefjifaaDoorQ7
import Derived.Test.YtmkpokcfefjifaaDoorQ8
import Derived.Test.YtmkpokcfefjifaaDoorG6
import Derived.Test.YtmkpokcfefjifaaDoorP0
set_option linter.unusedSectionVars false
/- SeatTerms as a plain law. -/
set_option linter.unusedSimpArgs false
set_option linter.unusedVariables false
namespace Go.Proofs.YtmkpokcfefjifaaDoor
open Go.Ab Go.Kx
def stepM (s : Seat) (x : Step) : Seat := if x.do_ = 0 then lateM s else if x.do_ = 1 then s else if x.do_ = 2 then offM s x.m.data else if x.do_ = 3 then backM s else (hearM s x.m).1
theorem step_eq {s : Seat} (h : Ok s) {x : Step} (hx : MOk x.m) : ∃ o, law15_step_f s x = some (stepM s x, o) := by
  unfold law15_step_f stepM
  by_cases d0 : x.do_ = 0
  · obtain ⟨o, e⟩ := late_eq h
    rw [if_pos d0, show (x.do_ == 0) = true by simpa using d0, cond_true, e]; exact ⟨_, rfl⟩
  rw [if_neg d0, show (x.do_ == 0) = false by simpa using d0, cond_false]
  by_cases d1 : x.do_ = 1
  · rw [if_pos d1, show (x.do_ == 1) = true by simpa using d1, cond_true, beat_eq h]; exact ⟨_, rfl⟩
  rw [if_neg d1, show (x.do_ == 1) = false by simpa using d1, cond_false]
  by_cases d2 : x.do_ = 2
  · obtain ⟨r, e⟩ := offer_eq h x.m.data
    rw [if_pos d2, show (x.do_ == 2) = true by simpa using d2, cond_true, e]; exact ⟨_, rfl⟩
  rw [if_neg d2, show (x.do_ == 2) = false by simpa using d2, cond_false]
  by_cases d3 : x.do_ = 3
  · rw [if_pos d3, show (x.do_ == 3) = true by simpa using d3, cond_true]; exact ⟨_, rfl⟩
  rw [if_neg d3, show (x.do_ == 3) = false by simpa using d3, cond_false, hear_eq h hx]; exact ⟨_, rfl⟩
theorem step_ok {s : Seat} (h : Ok s) {x : Step} (hx : MOk x.m) : Ok (stepM s x) ∧ Kept s (stepM s x) x.do_ := by
  unfold stepM
  split
  · rename_i e; rw [e]; exact ⟨late_ok h, late_kept h⟩
  split
  · exact ⟨h, Kept.same h _⟩
  split
  · rename_i e; rw [e]; exact ⟨off_ok h hx.ok.2.2.2.2, off_kept h _⟩
  split
  · rename_i e; rw [e]; exact ⟨back_ok h, back_kept h⟩
  · rename_i d3; exact ⟨hear_ok h hx, hear_kept h hx d3⟩
theorem terms_body {s a : Seat} {o : List Msg} {d : Int} {K : Seat → Int → Option Bool} {l : List Step} {i : Nat} (hi : i < l.length) (hl : l.length ≤ 1000) (hd : l[i].do_ = d) (h : Ok s) (ha : Ok a) (k : Kept s a d) (hK : K a ((i + 1 : Nat) : Int) = some true) :
    law15_SeatTerms_J3 K (a, o) s l (i : Int) ((decide (a.term < s.term)) || (cond (a.term == s.term) (cond (s.voted != (-1)) ((a.voted != s.voted) || ((d != 3) && (decide (a.commit < s.commit)))) ((d != 3) && (decide (a.commit < s.commit)))) ((d != 3) && (decide (a.commit < s.commit))))) = some true := by
  have W : ((d != 3) && (decide (a.commit < s.commit))) = false := by
    by_cases e : d = 3
    · simp [e]
    · have := k.k3 e
      rw [decide_eq_false (by omega), Bool.and_false]
  have V : ((decide (a.term < s.term)) || (cond (a.term == s.term) (cond (s.voted != (-1)) ((a.voted != s.voted) || ((d != 3) && (decide (a.commit < s.commit)))) ((d != 3) && (decide (a.commit < s.commit)))) ((d != 3) && (decide (a.commit < s.commit))))) = false := by
    rw [W]
    have k1 := k.k1
    rw [decide_eq_false (by omega), Bool.false_or, Bool.or_false]
    by_cases e : a.term = s.term
    · rw [show (a.term == s.term) = true by simpa using e, cond_true]
      by_cases v : s.voted = -1
      · rw [show (s.voted != -1) = false by simpa using v]; rfl
      · rw [show (s.voted != -1) = true by simpa using v, cond_true, show (a.voted != s.voted) = false by simpa using k.k2 e v]
    · rw [show (a.term == s.term) = false by simpa using e]; rfl
  rw [V]
  have J6 : ∀ v, v = false → law15_SeatTerms_J6 K (a, o) (i : Int) v = some true := fun v hv => by
    subst hv
    unfold law15_SeatTerms_J6
    rw [cond_false, w64_succ (by omega)]; exact hK
  have c0 := h.c0; have c1 := h.c1; have ac := k.k5.1
  have sl := h.ll; have al := ha.ll
  have J5 : law15_SeatTerms_J5 K s (a, o) (i : Int) false = some true := by
    unfold law15_SeatTerms_J5
    rw [cond_false]
    by_cases r : s.role = 3
    · rw [show (s.role == 3) = true by simpa using r, cond_true, cond_d]
      by_cases r2 : a.role = 3
      · obtain ⟨w1, w2⟩ := k.k6 r r2
        rw [if_neg (show ¬ ((a.log.length : Int) < (s.log.length : Int)) by omega), chk_pos (show (0 : Nat) ≤ 0 ∧ (0 : Int) ≤ (s.log.length : Int) ∧ (s.log.length : Int) ≤ (a.log.length : Int) by omega)]
        show (ref13_Same_f ((a.log.take (s.log.length : Int).toNat).drop 0) s.log).bind _ = _
        rw [List.drop_zero, Int.toNat_natCast, rSame_eq (ha.lg.take _), w2, Option.bind_some]
        exact J6 _ (by simp)
      · have f3 : (a.role == 3) = false := by simpa using r2
        by_cases w : (a.log.length : Int) < (s.log.length : Int)
        · rw [if_pos (show (a.log.length : Int) < (s.log.length : Int) from w)]
          exact J6 _ f3
        · rw [if_neg (show ¬ ((a.log.length : Int) < (s.log.length : Int)) from w), chk_pos (show (0 : Nat) ≤ 0 ∧ (0 : Int) ≤ (s.log.length : Int) ∧ (s.log.length : Int) ≤ (a.log.length : Int) by omega)]
          show (ref13_Same_f ((a.log.take (s.log.length : Int).toNat).drop 0) s.log).bind _ = _
          rw [List.drop_zero, rSame_eq (ha.lg.take _), Option.bind_some]
          exact J6 _ (by rw [show ((a, o).1.role == 3) = false from f3, Bool.and_false])
    · rw [show (s.role == 3) = false by simpa using r, cond_false]; exact J6 _ rfl
  have J4 : law15_SeatTerms_J4 K (a, o) s (i : Int) false = some true := by
    unfold law15_SeatTerms_J4
    rw [cond_false, cond_d, if_neg (show ¬ ((a.log.length : Int) < s.commit) by omega), chk_pos (show (0 : Nat) ≤ 0 ∧ 0 ≤ s.commit ∧ s.commit ≤ (a.log.length : Int) by omega), chk_pos (show (0 : Nat) ≤ 0 ∧ 0 ≤ s.commit ∧ s.commit ≤ (s.log.length : Int) by omega)]
    show (ref13_Same_f ((a.log.take s.commit.toNat).drop 0) ((s.log.take s.commit.toNat).drop 0)).bind _ = _
    rw [List.drop_zero, List.drop_zero, rSame_eq (ha.lg.take _), k.k5.2, Option.bind_some, decide_eq_true rfl]
    exact J5
  unfold law15_SeatTerms_J3
  rw [cond_false]
  show cond (a.role == 3) _ _ = _
  by_cases r : a.role = 3
  · rw [show (a.role == 3) = true by simpa using r, cond_true]
    by_cases r2 : s.role = 3
    · rw [show (s.role != 3) = false by simpa using r2, cond_false, J4]
    rw [show (s.role != 3) = true by simpa using r2, cond_true]
    by_cases r3 : s.role = 2
    · rw [show (s.role != 2) = false by simpa using r3, cond_false, J4]
    have d0 := k.k4 r r2 r3
    rw [show (s.role != 2) = true by simpa using r3, cond_true, idx_nat hi, Option.bind_some, show (l[i].do_ != 0) = false by rw [hd, d0]; rfl, J4]
  · rw [show (a.role == 3) = false by simpa using r, cond_false, J4]
theorem terms_L {l : List Step} (hl : l.length ≤ 1000) (hx : ∀ x ∈ l, MOk x.m) : ∀ u k s, l.length < u + k → k ≤ l.length → Ok s → law15_SeatTerms_L1 l true u s (k : Int) = some true := by
  intro u
  induction u with
  | zero => intro k s h1 h2; omega
  | succ u ih =>
    intro k s h1 h2 h
    rw [law15_SeatTerms_L1, cond_d]
    by_cases hk : k < l.length
    · have mx := hx _ (List.getElem_mem hk)
      obtain ⟨o, e⟩ := step_eq h mx
      obtain ⟨a1, a2⟩ := step_ok h mx
      rw [if_pos (by omega), idx_nat hk, Option.bind_some, e, Option.bind_some]
      exact terms_body hk hl rfl h a1 a2 (ih (k + 1) _ (by omega) (by omega) a1)
    · rw [if_neg (by omega)]; rfl
theorem small_L {l : List Step} (hl : l.length ≤ 1000) (ho : ∀ x ∈ l, Step.ok x) : ∀ u k, l.length < u + k → k ≤ l.length → ∃ b, law15_small_L1 l u (k : Int) = some b ∧ (b = true → ∀ x ∈ l.drop k, MOk x.m) := by
  intro u
  induction u with
  | zero => intro k h1 h2; omega
  | succ u ih =>
    intro k h1 h2
    rw [law15_small_L1, cond_d]
    by_cases hk : k < l.length
    · have ox := (ho _ (List.getElem_mem hk)).2
      rw [if_pos (by omega), idx_nat hk, Option.bind_some, fits_m ox, Option.bind_some, w64_succ (by omega)]
      cases hf : (decide ((l[k].m.nums.length : Int) ≤ 60) && decide ((l[k].m.data.length : Int) ≤ 2400))
      · exact ⟨false, rfl, fun h => by cases h⟩
      · rw [Bool.not_true, cond_false]
        obtain ⟨b, e, q⟩ := ih (k + 1) (by omega) (by omega)
        refine ⟨b, e, fun hb x hxm => ?_⟩
        rw [drop_cons hk] at hxm
        rcases List.mem_cons.1 hxm with rfl | hxm
        · exact mok_of ox hf
        · exact q hb x hxm
    · rw [if_neg (by omega), List.drop_of_length_le (by omega)]
      exact ⟨true, rfl, fun _ x hx => by cases hx⟩
theorem small_eq {l : List Step} (ho : ∀ x ∈ l, Step.ok x) : ∃ b, law15_small_f l = some b ∧ (b = true → l.length ≤ 1000 ∧ ∀ x ∈ l, MOk x.m) := by
  unfold law15_small_f
  rw [cond_d]
  by_cases h : 40 < (l.length : Int)
  · rw [if_pos h]; exact ⟨false, rfl, fun h => by cases h⟩
  · rw [if_neg h]
    obtain ⟨b, e, q⟩ := small_L (l := l) (by omega) ho BIG 0 (by rw [BIG_eq]; omega) (by omega)
    exact ⟨b, e, fun hb => ⟨by omega, by simpa using q hb⟩⟩
theorem SeatTerms_true (y0 : Seat) (o0 : Seat.ok y0) (y1 : List Step) (o1 : ∀ y77 ∈ y1, Step.ok y77) : law15_SeatTerms_f y0 y1 = some true := by
  unfold law15_SeatTerms_f
  rw [head_true, Option.bind_some]
  obtain ⟨g, eg, F⟩ := great_tot y0
  rw [eg, Option.bind_some]
  have no : law15_SeatTerms_J1 true y1 y0 true = some true := rfl
  cases g
  case true => exact no
  have F := F rfl
  obtain ⟨b, eb, sm⟩ := small_eq o1
  rw [cond_false, eb, Option.bind_some]
  cases b
  case false => exact no
  rw [Bool.not_true, cond_false]
  obtain ⟨r, er⟩ := right_tot F
  rw [er, Option.bind_some]
  cases r
  case false => exact no
  unfold law15_SeatTerms_J1
  rw [Bool.not_true, cond_false]
  obtain ⟨hl, hx⟩ := sm rfl
  exact terms_L hl hx BIG 0 y0 (by rw [BIG_eq]; omega) (by omega) (open_ok o0 eg er).1
end Go.Proofs.YtmkpokcfefjifaaDoor
