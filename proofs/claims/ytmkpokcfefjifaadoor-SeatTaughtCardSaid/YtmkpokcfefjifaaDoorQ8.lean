import Derived.Test.YtmkpokcfefjifaaDoorQ5
import Derived.Test.YtmkpokcfefjifaaDoorF8
set_option linter.unusedSectionVars false
/- Late, Beat, Offer, Back, in plain words; what a step keeps. -/
set_option linter.unusedSimpArgs false
set_option linter.unusedVariables false
namespace Go.Proofs.YtmkpokcfefjifaaDoor
open Go.Ab Go.RowKit
theorem begin_eq {s : Seat} (h1 : 0 ≤ s.term) (h2 : s.term ≤ 1099511627776) : vote_Begin_f s = some (begin_ s) := by
  unfold vote_Begin_f vote_Down_f begin_
  rw [Option.bind_some, w64 (by omega) (by omega)]
theorem begin_ok {s : Seat} (h : Ok s) (ht : s.term < 1099511627776) : Ok (begin_ s) :=
  ⟨h.p7, h.ps, h.me, h.i0, by have := h.t0; show 0 ≤ s.term + 1; omega, by show s.term + 1 ≤ _; omega, h.lg, h.ll, h.c0, h.c1, by show [s.id].Nodup; simp, fun v hv => by have : v ∈ [s.id] := hv; simp at this; subst this; exact h.me,
    ⟨.inr (.inl rfl), fun _ => ⟨rfl, rfl⟩, fun n => absurd rfl n, fun _ => ⟨rfl, by show s.id ∈ [s.id]; simp⟩, fun n => absurd (show (2 : Int) = 3 from n) (by decide), fun n => absurd (show (2 : Int) = 3 from n) (by decide), fun n => absurd (show (2 : Int) = 3 from n) (by decide)⟩⟩
theorem late_L {m : Machine} (hp : m.seat.peers.length ≤ 1000) (hl : m.seat.log.length ≤ 1000) : ∀ u k out, m.seat.peers.length < u + k → k ≤ m.seat.peers.length → out.length ≤ 1000 + k →
    ∃ o, seat_machine_all_late_L1 m u m.seat.id m.seat.peers m.seat.term m.seat.voted m.seat.role m.seat.log m.seat.commit m.seat.votes m.seat.next m.seat.match_ out (k : Int) = some ⟨m.seat, o⟩ := by
  intro u
  induction u with
  | zero => intro k out h1 h2; omega
  | succ u ih =>
    intro k out h1 h2 h3
    rw [seat_machine_all_late_L1, cond_d]
    by_cases hk : k < m.seat.peers.length
    · rw [if_pos (by omega), idx_i hk, Option.bind_some]
      unfold seat_machine_all_late_J1
      cases hc : (m.seat.peers.getD k 0 != m.seat.id)
      · rw [cond_false, w64_succ (by omega)]; exact ih (k + 1) out (by omega) (by omega) (by omega)
      · rw [cond_true]
        have hs : (⟨(⟨m.seat.id, m.seat.peers, m.seat.term, m.seat.voted, m.seat.role, m.seat.log, m.seat.commit, m.seat.votes, m.seat.next, m.seat.match_⟩ : Seat), out⟩ : Machine) = ⟨m.seat, out⟩ := rfl
        rw [hs]
        unfold seat_Late_1_f
        have lq := last_eq (m := ⟨m.seat, out⟩) hl
        have hi : idx (⟨m.seat, out⟩ : Machine).seat.peers (k : Int) = some (m.seat.peers.getD k 0) := idx_i hk
        rw [hi, Option.bind_some, lq, Option.bind_some, send_eq (m := ⟨m.seat, out⟩) (by show out.length ≤ 1000000; omega), Option.bind_some, Option.bind_some, w64_succ (by omega)]
        exact ih (k + 1) _ (by omega) (by omega) (by show (out ++ [_]).length ≤ _; simp; omega)
    · rw [if_neg (by omega)]; exact ⟨_, rfl⟩
theorem late_all {m : Machine} {f : Int → Option Unit} (hp : m.seat.peers.length ≤ 1000) (hl : m.seat.log.length ≤ 1000) (ho : m.out.length ≤ 1000) : ∃ o, seat_machine_all_late_f m f = some ⟨m.seat, o⟩ :=
  late_L hp hl BIG 0 m.out (by rw [BIG_eq]; omega) (by omega) (by omega)
def lateM (s : Seat) : Seat := if s.role = 3 ∨ s.term = 1099511627776 then s else if won [s.id] s.peers = true then led (begin_ s) else begin_ s
theorem late_eq {s : Seat} (h : Ok s) : ∃ o, seat_Late_f s = some (lateM s, o) := by
  unfold seat_Late_f lateM
  by_cases a : s.role = 3
  · rw [if_pos (.inl a), show (s.role == 3) = true by simpa using a]; exact ⟨_, rfl⟩
  rw [show (s.role == 3) = false by simpa using a, cond_false]
  by_cases b : s.term = 1099511627776
  · rw [if_pos (.inr b), show (s.term == 1099511627776) = true by simpa using b]; exact ⟨_, rfl⟩
  rw [show (s.term == 1099511627776) = false by simpa using b, cond_false, if_neg (by omega), begin_eq h.t0 h.tm, Option.bind_some]
  have tm := h.tm; have t0 := h.t0; have p7 := h.p7
  have hb := begin_ok h (by omega)
  have hd : ∀ e ∈ (begin_ s).log, e.data.length ≤ 1000 := fun e he => by have := (hb.lg.2 e he).2; omega
  have L := lead_eq (m := ⟨begin_ s, []⟩) (by show s.peers.length ≤ 1000; omega) (by show [s.id].length ≤ 1000; simp) hb.me hb.lg.1 hd (by simp)
  have L2 : seat_machine_lead_f ⟨begin_ s, []⟩ = some (if won [s.id] s.peers = true then (true, (⟨led (begin_ s), [] ++ allM (led (begin_ s))⟩ : Machine)) else (false, (⟨begin_ s, []⟩ : Machine))) := L
  rw [L2, Option.bind_some]
  by_cases w : won [s.id] s.peers = true
  · rw [if_pos w, if_pos w]; exact ⟨_, rfl⟩
  · rw [if_neg w, if_neg w, Bool.not_false, cond_true]
    obtain ⟨o, e⟩ := late_all (m := ⟨begin_ s, []⟩) (f := fun _ => none) (by show s.peers.length ≤ 1000; omega) hb.lg.1 (by simp)
    rw [e]; exact ⟨_, rfl⟩
theorem beat_eq {s : Seat} (h : Ok s) : seat_Beat_f s = some (s, if s.role = 3 then allM s else []) := by
  unfold seat_Beat_f seat_Beat_J1
  by_cases a : s.role = 3
  · rw [show (s.role == 3) = true by simpa using a, cond_true, if_pos a]
    have hd : ∀ e ∈ s.log, e.data.length ≤ 1000 := fun e he => by have := (h.lg.2 e he).2; omega
    have p7 := h.p7
    rw [all_eq (m := ⟨s, []⟩) (by show s.peers.length ≤ 1000; omega) (h.rl.ln a).1 h.lg.1 hd (fun i hi => by have := h.rl.lm a i hi; show 1 ≤ s.next.getD i 0 ∧ s.next.getD i 0 ≤ s.log.length + 1; omega) (by simp), Option.bind_some]
    simp
  · rw [show (s.role == 3) = false by simpa using a, cond_false, if_neg a]
def offS (s : Seat) (d : List Int) : Seat :=
  comS { s with log := s.log ++ [⟨s.term, d⟩], next := s.next.set (s.peers.idxOf s.id) (s.next.getD (s.peers.idxOf s.id) 0 + 1), match_ := s.match_.set (s.peers.idxOf s.id) (s.match_.getD (s.peers.idxOf s.id) 0 + 1) }
def offM (s : Seat) (d : List Int) : Seat := if s.role ≠ 3 ∨ 500 ≤ s.log.length ∨ 200 < d.length then s else offS s d
theorem clone_e {l : List Entry} (hl : l.length ≤ 1000) : slices_Clone_f l = some l := clone_eq hl
theorem offer_eq {s : Seat} (h : Ok s) (d : List Int) : ∃ r, seat_Offer_f s d = some (offM s d, r) := by
  unfold seat_Offer_f offM
  by_cases q : s.role ≠ 3 ∨ 500 ≤ s.log.length ∨ 200 < d.length
  · rw [if_pos q, show ((s.role != 3) || ((decide (500 ≤ (s.log.length : Int))) || (decide (200 < (d.length : Int))))) = true by
      simp only [Bool.or_eq_true, bne_iff_ne, decide_eq_true_eq]; omega]
    exact ⟨_, rfl⟩
  rw [if_neg q, show ((s.role != 3) || ((decide (500 ≤ (s.log.length : Int))) || (decide (200 < (d.length : Int))))) = false by
      simp only [Bool.or_eq_false_iff, bne_eq_false_iff_eq, decide_eq_false_iff_not]; omega]
  unfold seat_Offer_J1
  have r3 : s.role = 3 := by omega
  obtain ⟨ln, lm⟩ := h.rl.ln r3
  have p7 := h.p7; have ll := h.ll
  have ho : s.peers.idxOf s.id < s.peers.length := List.idxOf_lt_length_iff.2 h.me
  obtain ⟨q1, q2, q3, q4, q5⟩ := h.rl.lm r3 _ ho
  have t2 : ((s.peers.idxOf s.id : Nat) : Int).toNat = s.peers.idxOf s.id := Int.toNat_natCast _
  rw [cond_false, clone_e (by omega), Option.bind_some, clone56_eq (by omega), Option.bind_some, chk_pos (by omega), clone57_eq (by omega), Option.bind_some, clone57_eq (by omega), Option.bind_some]
  refine ⟨((((s.log ++ [(⟨s.term, d⟩ : Entry)]).length : Nat) : Int), true), ?_⟩
  refine bind_of (own_eq ?_ ?_) ?_
  · show s.peers.length ≤ 1000000; omega
  · exact h.me
  show (idx s.next ((s.peers.idxOf s.id : Nat) : Int)).bind _ = _
  rw [idx_i (by omega), Option.bind_some]
  refine bind_of (own_eq ?_ ?_) ?_
  · show s.peers.length ≤ 1000000; omega
  · exact h.me
  show (idx s.match_ ((s.peers.idxOf s.id : Nat) : Int)).bind _ = _
  rw [idx_i (by omega), Option.bind_some, w64 (by omega) (by omega), w64 (by omega) (by omega)]
  refine bind_of (mcommit_eq ?_ ?_) ?_
  · show (s.log ++ [_]).length ≤ 1000; simp; omega
  · show (s.match_.set _ _).length ≤ 1000; rw [List.length_set]; omega
  rfl
theorem off_ok {s : Seat} (h : Ok s) {d : List Int} (hd : ∀ n ∈ d, okI .u8 n) : Ok (offM s d) := by
  unfold offM
  split
  · exact h
  rename_i q
  have r3 : s.role = 3 := by omega
  obtain ⟨ln, lm⟩ := h.rl.ln r3
  have ho : s.peers.idxOf s.id < s.peers.length := List.idxOf_lt_length_iff.2 h.me
  obtain ⟨q1, q2, q3, q4, q5⟩ := h.rl.lm r3 _ ho
  have own : s.peers.getD (s.peers.idxOf s.id) 0 = s.id := by rw [getD_eq ho]; exact List.getElem_idxOf ho
  have q5 := q5 own
  have t0 := h.t0; have tm := h.tm; have ll := h.ll
  refine comS_ok ⟨h.p7, h.ps, h.me, h.i0, h.t0, h.tm, ⟨by show (s.log ++ [_]).length ≤ 1000; simp; omega, fun e he => ?_⟩, by show (s.log ++ [_]).length ≤ 500; simp; omega, h.c0, by have := h.c1; show s.commit ≤ ((s.log ++ [_]).length : Int); simp; omega, h.vs, h.vp,
    ⟨h.rl.r1, fun n => absurd r3 n, h.rl.nv, h.rl.st, fun _ => ⟨by show (s.next.set _ _).length = _; rw [List.length_set]; exact ln, by show (s.match_.set _ _).length = _; rw [List.length_set]; exact lm⟩, h.rl.lv, fun _ i hi => ?_⟩⟩
  · have he : e ∈ s.log ++ [⟨s.term, d⟩] := he
    rcases List.mem_append.1 he with he | he
    · exact h.lg.2 e he
    · simp at he; subst he
      exact ⟨⟨by show okI .i64 s.term; simp only [okI]; omega, hd⟩, by show d.length ≤ 200; omega⟩
  · have hi : i < s.peers.length := hi
    have el : (((s.log ++ [(⟨s.term, d⟩ : Entry)]).length : Nat) : Int) = s.log.length + 1 := by simp
    show 0 ≤ (s.match_.set (s.peers.idxOf s.id) (s.match_.getD (s.peers.idxOf s.id) 0 + 1)).getD i 0 ∧ (s.match_.set (s.peers.idxOf s.id) (s.match_.getD (s.peers.idxOf s.id) 0 + 1)).getD i 0 ≤ (((s.log ++ [(⟨s.term, d⟩ : Entry)]).length : Nat) : Int) ∧ (s.match_.set (s.peers.idxOf s.id) (s.match_.getD (s.peers.idxOf s.id) 0 + 1)).getD i 0 < (s.next.set (s.peers.idxOf s.id) (s.next.getD (s.peers.idxOf s.id) 0 + 1)).getD i 0 ∧ (s.next.set (s.peers.idxOf s.id) (s.next.getD (s.peers.idxOf s.id) 0 + 1)).getD i 0 ≤ (((s.log ++ [(⟨s.term, d⟩ : Entry)]).length : Nat) : Int) + 1 ∧ (s.peers.getD i 0 = s.id → (s.match_.set (s.peers.idxOf s.id) (s.match_.getD (s.peers.idxOf s.id) 0 + 1)).getD i 0 = (((s.log ++ [(⟨s.term, d⟩ : Entry)]).length : Nat) : Int))
    rw [el]
    by_cases e : s.peers.idxOf s.id = i
    · rw [← e, getD_set (by omega), getD_set (by omega)]
      exact ⟨by omega, by omega, by omega, by omega, fun _ => by omega⟩
    · rw [getD_set_ne e, getD_set_ne e]
      obtain ⟨w1, w2, w3, w4, w5⟩ := h.rl.lm r3 _ hi
      exact ⟨by omega, by omega, by omega, by omega, fun z => absurd (idx_own h.ps hi z) e⟩
theorem late_ok {s : Seat} (h : Ok s) : Ok (lateM s) := by
  unfold lateM
  have tm := h.tm
  split
  · exact h
  · split
    · exact led_ok (begin_ok h (by omega)) rfl
    · exact begin_ok h (by omega)
def backM (s : Seat) : Seat := ⟨s.id, s.peers, s.term, s.voted, 1, s.log, 0, [], [], []⟩
theorem back_ok {s : Seat} (h : Ok s) : Ok (backM s) :=
  ⟨h.p7, h.ps, h.me, h.i0, h.t0, h.tm, h.lg, h.ll, Int.le_refl _, by show (0 : Int) ≤ s.log.length; omega, List.nodup_nil, fun v hv => (List.not_mem_nil hv).elim,
    ⟨.inl rfl, fun _ => ⟨rfl, rfl⟩, fun _ => rfl, fun n => absurd (show (1 : Int) = 2 from n) (by decide), fun n => absurd (show (1 : Int) = 3 from n) (by decide), fun n => absurd (show (1 : Int) = 3 from n) (by decide), fun n => absurd (show (1 : Int) = 3 from n) (by decide)⟩⟩
/-! what a step keeps -/
structure Kept (s a : Seat) (d : Int) : Prop where
  k1 : s.term ≤ a.term
  k2 : a.term = s.term → s.voted ≠ -1 → a.voted = s.voted
  k3 : d ≠ 3 → s.commit ≤ a.commit
  k4 : a.role = 3 → s.role ≠ 3 → s.role ≠ 2 → d = 0
  k5 : s.commit ≤ a.log.length ∧ a.log.take s.commit.toNat = s.log.take s.commit.toNat
  k6 : s.role = 3 → a.role = 3 → s.log.length ≤ a.log.length ∧ a.log.take s.log.length = s.log
theorem Kept.same {s : Seat} (h : Ok s) (d : Int) : Kept s s d :=
  ⟨Int.le_refl _, fun _ _ => rfl, fun _ => Int.le_refl _, fun a b => absurd a b, ⟨h.c1, rfl⟩, fun _ _ => ⟨Nat.le_refl _, List.take_length⟩⟩
theorem com_ge (s : Seat) : s.commit ≤ (comS s).commit := cm_ge (l := s.log) (t := s.term) (mt := s.match_) (was := s.commit) s.log.length
theorem late_kept {s : Seat} (h : Ok s) : Kept s (lateM s) 0 := by
  unfold lateM
  split
  · exact Kept.same h 0
  rename_i q
  have r3 : s.role ≠ 3 := by omega
  split
  · exact ⟨by show s.term ≤ s.term + 1; omega, fun e => absurd (show s.term + 1 = s.term from e) (by omega), fun _ => com_ge _, fun _ _ _ => rfl, ⟨h.c1, rfl⟩, fun r => absurd r r3⟩
  · exact ⟨by show s.term ≤ s.term + 1; omega, fun e => absurd (show s.term + 1 = s.term from e) (by omega), fun _ => Int.le_refl _, fun _ _ _ => rfl, ⟨h.c1, rfl⟩, fun r => absurd r r3⟩
theorem off_kept {s : Seat} (h : Ok s) (d : List Int) : Kept s (offM s d) 2 := by
  unfold offM
  split
  · exact Kept.same h 2
  rename_i q
  have r3 : s.role = 3 := by omega
  have c0 := h.c0; have c1 := h.c1
  refine ⟨Int.le_refl _, fun _ _ => rfl, fun _ => com_ge { s with log := s.log ++ [⟨s.term, d⟩], next := s.next.set (s.peers.idxOf s.id) (s.next.getD (s.peers.idxOf s.id) 0 + 1), match_ := s.match_.set (s.peers.idxOf s.id) (s.match_.getD (s.peers.idxOf s.id) 0 + 1) }, fun _ b => absurd r3 b, ?_, fun _ _ => ?_⟩
  · show s.commit ≤ ((s.log ++ [_]).length : Int) ∧ (s.log ++ [_]).take s.commit.toNat = _
    exact ⟨by simp; omega, List.take_append_of_le_length (by omega)⟩
  · show s.log.length ≤ (s.log ++ [_]).length ∧ (s.log ++ [_]).take s.log.length = s.log
    exact ⟨by simp, by simp⟩
theorem back_kept {s : Seat} (h : Ok s) : Kept s (backM s) 3 :=
  ⟨Int.le_refl _, fun _ _ => rfl, fun n => absurd rfl n, fun n => absurd (show (1 : Int) = 3 from n) (by decide), ⟨h.c1, rfl⟩, fun _ n => absurd (show (1 : Int) = 3 from n) (by decide)⟩
theorem ask1_kept {s : Seat} (h : Ok s) (w l m d : Int) : Kept s (ask1 s w l m).1 d := by
  unfold ask1
  split
  · rename_i q
    simp only [Bool.and_eq_true, free, Bool.or_eq_true, beq_iff_eq] at q
    exact ⟨Int.le_refl _, fun _ n => by show w = s.voted; omega, fun _ => Int.le_refl _, fun a b => absurd a b, ⟨h.c1, rfl⟩, fun _ _ => ⟨Nat.le_refl _, List.take_length⟩⟩
  · exact Kept.same h d
/-- behind a new term -/
theorem kept_down {s a : Seat} {t d : Int} (ht : s.term < t) (ha : t ≤ a.term) (hr : a.role ≠ 3) (hc : s.commit ≤ a.commit) (hl : s.commit ≤ a.log.length ∧ a.log.take s.commit.toNat = s.log.take s.commit.toNat) : Kept s a d :=
  ⟨by omega, fun e => by omega, fun _ => hc, fun n => absurd n hr, hl, fun _ n => absurd n hr⟩
theorem ask_kept {s : Seat} (h : Ok s) {t w l m d : Int} (h2 : t ≤ 1099511627776) : Kept s (ask s t w l m).1 d := by
  unfold ask
  split
  · exact Kept.same h d
  · split
    · rename_i q
      have := ask1_kept (down_ok h (by have := h.t0; omega) h2) w l m d
      refine kept_down q (this.k1) ?_ ?_ ?_
      · intro r
        have e : (ask1 (down s t) w l m).1.role = 1 := by unfold ask1; split <;> rfl
        omega
      · unfold ask1; split <;> exact Int.le_refl _
      · have := h.c1; unfold ask1; split <;> exact ⟨this, rfl⟩
    · exact ask1_kept h w l m d
/-- a step that was made behind a new term, perhaps -/
theorem kept_up {s a : Seat} {x : Msg} {d : Int} (h : Ok s) (hk : Kept (upS s x) a d) (hr : (upS s x).role = 1 → a.role ≠ 3) (d3 : d ≠ 3) : Kept s a d := by
  unfold upS at hk hr
  split at hk
  · rename_i q
    rw [if_pos q] at hr
    exact kept_down q hk.k1 (hr rfl) (hk.k3 d3) hk.k5
  · exact hk
theorem voted_kept {s : Seat} (h : Ok s) (x : Msg) (d : Int) (d3 : d ≠ 3) : Kept s (votedM s x).1 d ∧ (s.role = 1 → (votedM s x).1.role ≠ 3) := by
  unfold votedM
  split
  · exact ⟨Kept.same h d, fun r => by show s.role ≠ 3; omega⟩
  rename_i q
  have r2 : s.role = 2 := by
    by_cases r : s.role = 2
    · exact r
    · exact absurd (.inr (.inl r)) q
  refine ⟨?_, fun r => by omega⟩
  split
  · exact ⟨Int.le_refl _, fun _ _ => rfl, fun _ => com_ge _, fun _ _ n => absurd r2 n, ⟨h.c1, rfl⟩, fun r => by omega⟩
  · exact ⟨Int.le_refl _, fun _ _ => rfl, fun _ => Int.le_refl _, fun _ _ n => absurd r2 n, ⟨h.c1, rfl⟩, fun r => by omega⟩
theorem puts_kept {s : Seat} (h : Ok s) (x : Msg) (d : Int) : Kept s (putsM s x).1 d ∧ (s.role = 1 → (putsM s x).1.role ≠ 3) := by
  unfold putsM
  split
  · exact ⟨Kept.same h d, fun r => by show s.role ≠ 3; omega⟩
  split
  · exact ⟨Kept.same h d, fun r => by show s.role ≠ 3; omega⟩
  rename_i r3
  refine ⟨?_, fun _ => ?_⟩
  · split
    · exact ⟨Int.le_refl _, fun _ _ => rfl, fun _ => Int.le_refl _, fun n => absurd (show (1 : Int) = 3 from n) (by decide), ⟨h.c1, rfl⟩, fun r => absurd r r3⟩
    · rename_i nb
      obtain ⟨b1, b2, b3⟩ := notBad nb
      exact ⟨Int.le_refl _, fun _ _ => rfl, fun _ => by show s.commit ≤ putC s x; unfold putC; split <;> omega, fun n => absurd (show (1 : Int) = 3 from n) (by decide), ⟨b2, b3⟩, fun r => absurd r r3⟩
  · split <;> exact fun n => absurd (show (1 : Int) = 3 from n) (by decide)
theorem told_kept {s : Seat} (h : Ok s) (x : Msg) (d : Int) : Kept s (toldM s x).1 d ∧ (s.role = 1 → (toldM s x).1.role ≠ 3) := by
  unfold toldM
  split
  · exact ⟨Kept.same h d, fun r => by show s.role ≠ 3; omega⟩
  rename_i q
  have r3 : s.role = 3 := by
    by_cases r : s.role = 3
    · exact r
    · exact absurd (.inr (.inl r)) q
  refine ⟨?_, fun r => by omega⟩
  split
  · exact ⟨Int.le_refl _, fun _ _ => rfl, fun _ => Int.le_refl _, fun _ b => absurd r3 b, ⟨h.c1, rfl⟩, fun _ _ => ⟨Nat.le_refl _, List.take_length⟩⟩
  · exact ⟨Int.le_refl _, fun _ _ => rfl, fun _ => com_ge { s with next := s.next.set (tI s x) (tM s x + 1), match_ := s.match_.set (tI s x) (tM s x) }, fun _ b => absurd r3 b, ⟨h.c1, rfl⟩, fun _ _ => ⟨Nat.le_refl _, List.take_length⟩⟩
theorem hear_kept {s : Seat} (h : Ok s) {x : Msg} (hx : MOk x) {d : Int} (d3 : d ≠ 3) : Kept s (hearM s x).1 d := by
  unfold hearM
  split
  · rename_i q
    have hf := isFor_of q
    have uo := upS_ok h hf
    split
    · exact ask_kept h hf.top
    split
    · exact kept_up h (voted_kept uo x d d3).1 (voted_kept uo x d d3).2 d3
    split
    · exact kept_up h (puts_kept uo x d).1 (puts_kept uo x d).2 d3
    · exact kept_up h (told_kept uo x d).1 (told_kept uo x d).2 d3
  · exact Kept.same h d
end Go.Proofs.YtmkpokcfefjifaaDoor
