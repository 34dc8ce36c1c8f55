import Derived.Test.YtmkpokcfefjifaaDoorQ2
import Derived.Test.YtmkpokcfefjifaaDoorP6
set_option linter.unusedSectionVars false
/- What a right seat is. -/
set_option linter.unusedSimpArgs false
set_option linter.unusedVariables false
namespace Go.Proofs.YtmkpokcfefjifaaDoor
open Go.Ab Go.RowKit
/-- terms that don't fall, from u to t -/
def srt : Int → List Entry → Int → Prop
  | _, [], _ => True
  | u, e :: es, t => u ≤ e.term ∧ e.term ≤ t ∧ e.data.length ≤ 200 ∧ srt e.term es t
structure Role (s : Seat) : Prop where
  r1 : s.role = 1 ∨ s.role = 2 ∨ s.role = 3
  nl : s.role ≠ 3 → s.next = [] ∧ s.match_ = []
  nv : s.role ≠ 2 → s.votes = []
  st : s.role = 2 → s.voted = s.id ∧ s.id ∈ s.votes
  ln : s.role = 3 → s.next.length = s.peers.length ∧ s.match_.length = s.peers.length
  lv : s.role = 3 → s.voted = s.id
  lm : s.role = 3 → ∀ i < s.peers.length, 0 ≤ s.match_.getD i 0 ∧ s.match_.getD i 0 ≤ s.log.length ∧ s.match_.getD i 0 < s.next.getD i 0 ∧ s.next.getD i 0 ≤ s.log.length + 1 ∧ (s.peers.getD i 0 = s.id → s.match_.getD i 0 = s.log.length)
structure Ok (s : Seat) : Prop where
  p7 : s.peers.length ≤ 7
  ps : s.peers.Nodup
  me : s.id ∈ s.peers
  i0 : 0 ≤ s.id
  t0 : 0 ≤ s.term
  tm : s.term ≤ 1099511627776
  lg : Good s.log
  ll : s.log.length ≤ 500
  c0 : 0 ≤ s.commit
  c1 : s.commit ≤ s.log.length
  vs : s.votes.Nodup
  vp : ∀ v ∈ s.votes, v ∈ s.peers
  rl : Role s
theorem Ok.v7 {s : Seat} (h : Ok s) : s.votes.length ≤ 7 := Nat.le_trans (h.vs.length_le_of_subset h.vp) h.p7
theorem cond_no {c : Bool} {x : Option Bool} (h : cond c (some false) x = some true) : c = false ∧ x = some true := by
  cases c
  · exact ⟨rfl, h⟩
  · cases h
theorem rises_pw {l : List Int} (hl : l.length ≤ 1000000) : ∀ m k, l.length + 1 < m + k → 1 ≤ k → k ≤ l.length + 1 → seat_rises_L1 l m (k : Int) = some true → ∀ i (h : i < l.length), k ≤ i → l[i - 1]'(by omega) < l[i] := by
  intro m
  induction m with
  | zero =>
    intro k h1 h2 h3
    omega
  | succ m ih =>
    intro k h1 h2 h3 h
    rw [seat_rises_L1, cond_d] at h
    by_cases hk : k < l.length
    · rw [if_pos (by omega), idx_nat hk, Option.bind_some, w64 (by omega) (by omega), show (k : Int) - 1 = ((k - 1 : Nat) : Int) by omega, idx_nat (by omega), Option.bind_some] at h
      obtain ⟨h4, h5⟩ := cond_no h
      rw [w64_succ (by omega)] at h5
      intro i hi hki
      by_cases e : i = k
      · subst e; simpa using h4
      · exact ih (k + 1) (by omega) (by omega) (by omega) h5 i hi (by omega)
    · intro i hi hki; omega
theorem rises_pair {l : List Int} (hl : l.length ≤ 1000000) (h : seat_rises_f l = some true) : l.Pairwise (· < ·) := by
  have h := rises_pw hl BIG 1 (by rw [BIG_eq]; omega) (by omega) (by omega) h
  have key : ∀ (d i : Nat) (hj : i + d + 1 < l.length), l[i]'(by omega) < l[i + d + 1] := by
    intro d
    induction d with
    | zero => intro i hj; exact h (i + 1) hj (by omega)
    | succ d ih => intro i hj; exact Int.lt_trans (ih i (by omega)) (h (i + (d + 1) + 1) hj (by omega))
  rw [List.pairwise_iff_getElem]
  intro i j hi hj hij
  have := key (j - i - 1) i (by omega)
  simpa only [show i + (j - i - 1) + 1 = j by omega] using this
theorem entries_srt {l : List Entry} {t : Int} (hl : l.length ≤ 1000000) : ∀ m k (u : Int), l.length < m + k → k ≤ l.length → seat_entries_L1 l t m u (k : Int) = some true → l.length ≤ 500 ∧ srt u (l.drop k) t := by
  intro m
  induction m with
  | zero => intro k u h1 h2; omega
  | succ m ih =>
    intro k u h1 h2 h
    rw [seat_entries_L1, cond_d] at h
    by_cases hk : k < l.length
    · rw [if_pos (by omega), idx_nat hk, Option.bind_some] at h
      obtain ⟨h4, h5⟩ := cond_no h
      rw [w64_succ (by omega)] at h5
      obtain ⟨h6, h7⟩ := ih (k + 1) _ (by omega) (by omega) h5
      simp only [Bool.or_eq_false_iff, decide_eq_false_iff_not] at h4
      rw [drop_cons hk]
      exact ⟨h6, by omega, by omega, by omega, h7⟩
    · rw [if_neg (by omega)] at h
      rw [List.drop_of_length_le (by omega)]
      have := of_decide_eq_true (Option.some.inj h)
      exact ⟨by omega, trivial⟩
theorem leads_lm {s : Seat} (hm : s.match_.length ≤ 1000) (hn : s.next.length = s.match_.length) (hp : s.peers.length = s.match_.length) (hl : s.log.length ≤ 1000) : ∀ m k, s.match_.length < m + k → k ≤ s.match_.length → seat_leads_L1 s m (k : Int) = some true →
    ∀ i < s.peers.length, k ≤ i → 0 ≤ s.match_.getD i 0 ∧ s.match_.getD i 0 ≤ s.log.length ∧ s.match_.getD i 0 < s.next.getD i 0 ∧ s.next.getD i 0 ≤ s.log.length + 1 ∧ (s.peers.getD i 0 = s.id → s.match_.getD i 0 = s.log.length) := by
  intro m
  induction m with
  | zero => intro k h1 h2; omega
  | succ m ih =>
    intro k h1 h2 h
    rw [seat_leads_L1, cond_d] at h
    by_cases hk : k < s.match_.length
    · rw [if_pos (by omega), idx_i hk, Option.bind_some] at h
      have no : seat_leads_J3 (seat_leads_L1 s m) (k : Int) true = some false := rfl
      rw [no] at h
      obtain ⟨a1, h⟩ := cond_no h
      obtain ⟨a2, h⟩ := cond_no h
      rw [idx_i (by omega), Option.bind_some] at h
      obtain ⟨a3, h⟩ := cond_no h
      obtain ⟨a4, h⟩ := cond_no h
      rw [idx_i (by omega), Option.bind_some] at h
      obtain ⟨a5, h⟩ := cond_no h
      rw [w64_succ (by omega)] at h
      rw [w64 (by omega) (by omega)] at a4
      simp only [decide_eq_false_iff_not, Bool.and_eq_false_iff, beq_eq_false_iff_ne, bne_eq_false_iff_eq] at a1 a2 a3 a4 a5
      intro i hi hki
      by_cases e : i = k
      · subst e
        exact ⟨by omega, by omega, by omega, by omega, fun q => a5.resolve_left (fun n => n q)⟩
      · exact ih (k + 1) (by omega) (by omega) h i hi (by omega)
    · intro i hi hki; omega
/-- Right's answer, taken apart -/
theorem right_ok {s : Seat} (F : Few s) (o : Seat.ok s) (hd : ∀ e ∈ s.log, e.data.length ≤ 40) (h : seat_Right_f s = some true) : Ok s ∧ s.peers.Pairwise (· < ·) ∧ srt 1 s.log s.term ∧ (∀ p ∈ s.peers, 0 ≤ p) ∧ (s.role ≠ 1 → 0 < s.term) := by
  have hp : s.peers.length ≤ 1000000 := by have := F.p; omega
  have hv : s.votes.length ≤ 1000000 := by have := F.v; omega
  have hl : s.log.length ≤ 1000000 := by have := F.l; omega
  unfold seat_Right_f at h
  have no : seat_Right_J1 s true = some false := rfl
  simp only [no] at h
  obtain ⟨r3, e3, h3⟩ := bind_some h
  clear h
  obtain ⟨a3, h⟩ := cond_no h3
  clear h3
  have a3 : r3 = true := by simpa using a3
  subst a3
  have R1 : ∀ x, seat_Right_1_f x s = some (s.peers.contains x) := fun x => by unfold seat_Right_1_f; rw [contains_eq hp]; rfl
  rw [R1, Option.bind_some] at h
  obtain ⟨a4, h⟩ := cond_no h
  obtain ⟨a5, h⟩ := cond_no h
  obtain ⟨a6, h⟩ := cond_no h
  have h : seat_entries_f s.log s.term = some true ∧ 0 ≤ s.commit ∧ s.commit ≤ s.log.length ∧ seat_rises_f s.votes = some true ∧ (s.votes.any fun x => !s.peers.contains x) = false ∧ seat_Right_J1 s false = some true := by
    have K : ∀ {h : Option Bool}, h = ((seat_entries_f s.log s.term).bind fun r6 => cond (!r6) (some false) (cond (decide (s.commit < 0)) (some false) (cond (decide ((s.log.length : Int) < s.commit)) (some false) ((seat_rises_f s.votes).bind fun r7 => cond (!r7) (some false) ((slices_ContainsFunc_f s.votes (fun y0_ => seat_Right_2_f y0_ s)).bind fun r8 => seat_Right_J1 s r8))))) → h = some true → seat_entries_f s.log s.term = some true ∧ 0 ≤ s.commit ∧ s.commit ≤ s.log.length ∧ seat_rises_f s.votes = some true ∧ (s.votes.any fun x => !s.peers.contains x) = false ∧ seat_Right_J1 s false = some true := by
      intro h' e h
      rw [e] at h
      obtain ⟨r6, e6, h⟩ := bind_some h
      obtain ⟨b1, h⟩ := cond_no h
      obtain ⟨b2, h⟩ := cond_no h
      obtain ⟨b3, h⟩ := cond_no h
      obtain ⟨r7, e7, h⟩ := bind_some h
      obtain ⟨b4, h⟩ := cond_no h
      rw [cfunc_eq (g := fun x => !s.peers.contains x) hv (fun x => by unfold seat_Right_2_f; rw [R1]; rfl), Option.bind_some] at h
      simp only [Bool.not_eq_false', decide_eq_false_iff_not] at b1 b2 b3 b4
      have key : ∀ b, seat_Right_J1 s b = some true → b = false := fun b q => by
        cases b
        · rfl
        · rw [no] at q; cases q
      have b5 := key _ h
      rw [b5] at h
      rw [b1] at e6; rw [b4] at e7
      exact ⟨e6, by omega, by omega, e7, b5, h⟩
    cases hvo : (s.voted != (-1))
    · rw [hvo, cond_false] at h; exact K rfl h
    · rw [hvo, cond_true, R1, Option.bind_some] at h
      exact K rfl (cond_no h).2
  obtain ⟨en, c0, c1, vr, va, h⟩ := h
  obtain ⟨ll, st⟩ := entries_srt hl BIG 0 1 (by rw [BIG_eq]; omega) (by omega) en
  rw [List.drop_zero] at st
  have pe : s.peers.length ≤ 7 ∧ s.peers.Pairwise (· < ·) ∧ ∀ p ∈ s.peers, 0 ≤ p := by
    unfold seat_peers_f at e3
    rw [cond_d] at e3
    split at e3 <;> rename_i q1
    · rw [cond_d] at e3
      split at e3 <;> rename_i q2
      · obtain ⟨r, er, e3⟩ := bind_some e3
        cases r
        · cases e3
        rw [cond_true] at e3
        have pw := rises_pair hp er
        rw [show idx s.peers 0 = some (s.peers.getD 0 0) from idx_i (k := 0) (by omega), Option.bind_some, cond_d] at e3
        split at e3 <;> rename_i q3
        · refine ⟨by omega, pw, fun p hp' => ?_⟩
          obtain ⟨i, hi, rfl⟩ := List.mem_iff_getElem.1 hp'
          rw [List.getD_eq_getElem?_getD, List.getElem?_eq_getElem (by omega)] at q3
          simp only [Option.getD_some] at q3
          by_cases e : i = 0
          · subst e; exact q3
          · have := List.pairwise_iff_getElem.1 pw 0 i (by omega) hi (by omega); omega
        · cases e3
      · cases e3
    · cases e3
  have me : s.id ∈ s.peers := by simpa using a4
  have vp : ∀ v ∈ s.votes, v ∈ s.peers := fun v hv' => by
    have := List.any_eq_false.1 va v hv'
    simpa using this
  have vs := (rises_pair hv vr)
  have nd : ∀ {l : List Int}, l.Pairwise (· < ·) → l.Nodup := fun h => h.imp fun h => by omega
  simp only [decide_eq_false_iff_not] at a5 a6
  have lg : Good s.log := ⟨by omega, fun e he => ⟨o.2.2.2.2.2.1 e he, by have := hd e he; omega⟩⟩
  unfold seat_Right_J1 at h
  rw [cond_false] at h
  have fin : Role s ∧ (s.role ≠ 1 → 0 < s.term) := by
    cases r1 : (s.role == 1)
    · rw [r1, cond_false] at h
      have r1 : s.role ≠ 1 := by simpa using r1
      cases r2 : (s.role == 2)
      · rw [r2, cond_false] at h
        have r2 : s.role ≠ 2 := by simpa using r2
        cases r3 : (s.role == 3)
        · rw [r3] at h; cases h
        · rw [r3, cond_true, cond_d] at h
          have r3 : s.role = 3 := by simpa using r3
          split at h <;> rename_i q
          · obtain ⟨r, er, h⟩ := bind_some h
            obtain rfl : r = true := Option.some.inj h
            unfold seat_leads_f seat_leads_J1 at er
            obtain ⟨w, er⟩ := cond_no er
            simp only [Bool.or_eq_false_iff, bne_eq_false_iff_eq, decide_eq_false_iff_not] at w
            have fm := F.m
            have L := leads_lm (s := s) (by omega) (by omega) (by omega) (by omega) BIG 0 (by rw [BIG_eq]; omega) (by omega) er
            have v0 : s.votes = [] := List.eq_nil_of_length_eq_zero (by omega)
            exact ⟨⟨.inr (.inr r3), fun n => absurd r3 n, fun _ => v0, fun n => absurd n r2, fun _ => ⟨by omega, by omega⟩, fun _ => w.2.2.2, fun _ i hi => L i hi (by omega)⟩, fun _ => q⟩
          · cases h
      · rw [r2, cond_true, cond_d] at h
        have r2 : s.role = 2 := by simpa using r2
        split at h <;> rename_i q
        · cases q2 : (s.voted == s.id)
          · rw [q2] at h; cases h
          · rw [q2, cond_true, contains_eq hv, Option.bind_some] at h
            have := Option.some.inj h
            simp only [Bool.and_eq_true, beq_iff_eq] at this
            have fn := F.n; have fm := F.m
            rw [w64 (by omega) (by omega)] at this
            have n0 : s.next = [] := List.eq_nil_of_length_eq_zero (by omega)
            have m0 : s.match_ = [] := List.eq_nil_of_length_eq_zero (by omega)
            exact ⟨⟨.inr (.inl r2), fun _ => ⟨n0, m0⟩, fun n => absurd r2 n, fun _ => ⟨by simpa using q2, by simpa using this.1⟩, fun n => by omega, fun n => by omega, fun n => by omega⟩, fun _ => q⟩
        · cases h
    · rw [r1, cond_true] at h
      have r1 : s.role = 1 := by simpa using r1
      have fv := F.v; have fn := F.n; have fm := F.m
      have := Option.some.inj h
      have w1 : IntKind.wrap .i64 ((s.votes.length : Int) + (s.next.length : Int)) = (s.votes.length : Int) + (s.next.length : Int) := w64 (by omega) (by omega)
      rw [w1, w64 (by omega) (by omega)] at this
      simp only [beq_iff_eq] at this
      have v0 : s.votes = [] := List.eq_nil_of_length_eq_zero (by omega)
      have n0 : s.next = [] := List.eq_nil_of_length_eq_zero (by omega)
      have m0 : s.match_ = [] := List.eq_nil_of_length_eq_zero (by omega)
      exact ⟨⟨.inl r1, fun _ => ⟨n0, m0⟩, fun _ => v0, fun n => by omega, fun n => by omega, fun n => by omega, fun n => by omega⟩, fun n => absurd r1 n⟩
  exact ⟨⟨pe.1, nd pe.2.1, me, pe.2.2 _ me, by omega, by omega, lg, ll, c0, c1, nd vs, vp, fin.1⟩, pe.2.1, st, pe.2.2, fin.2⟩
end Go.Proofs.YtmkpokcfefjifaaDoor
