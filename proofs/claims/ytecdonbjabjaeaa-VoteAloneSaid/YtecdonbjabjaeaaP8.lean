/- VoteAlone, the plain law. -/
import Derived.Test.YtecdonbjabjaeaaG8
import Derived.Test.YtecdonbjabjaeaaP2
import Derived.Test.YtecdonbjabjaeaaW
set_option linter.unusedSimpArgs false
set_option linter.unusedVariables false
namespace Go.Proofs.Ytecdonbjabjaeaa
open Go.Ab
theorem alone_true (s : Seat) (c : Call30) (hc : CalOk c) : law14_VoteAlone_f s c = some true := by
  obtain ⟨⟨q1, q2⟩, ⟨q3, q4⟩, ⟨q5, q6⟩, ⟨q7, q8⟩, q9, q10⟩ := hc
  unfold law14_VoteAlone_f
  obtain ⟨b, eb, hb⟩ := fits_eq s
  rw [head_eq, Option.bind_some, eb, Option.bind_some]
  cases b with
  | false => rfl
  | true =>
    have hF := hb rfl
    have hs := hF.sml
    have hl : s.log.length ≤ 1000000 := by have := hs.2.1; omega
    simp only [Bool.not_true, cond_false]
    rw [w64 (x := c.term) (by omega) (by omega), w64 (x := c.who) (by omega) (by omega), w64 (x := c.last) (by omega) (by omega), w64 (x := c.many) (by omega) (by omega)]
    have hA := vAsk_eq (s := s) (t := c.term) (w := c.who) (l := c.last) (m := c.many) hl
    have hk := ask_keeps s c.term c.who c.last c.many
    have ht := ask_term s c.term c.who c.last c.many
    have hsm := ask_sml hs c.term c.who c.last c.many
    have h2 := ask_twice s c.term c.who c.last c.many
    have hn : (ask s c.term c.who c.last c.many).2 = true → newer s.log c.last c.many = true := ask_newer
    have hr : s.term < c.term → _ := ask_role (s := s) (t := c.term) (w := c.who) (l := c.last) (m := c.many)
    have ho : c.term < s.term → ask s c.term c.who c.last c.many = (s, false) := fun h => by unfold ask; rw [if_pos h]
    rw [hA, Option.bind_some]
    generalize ask s c.term c.who c.last c.many = A at *
    obtain ⟨a, x⟩ := A
    simp only at *
    rw [vAsk_eq (by rw [hk.1]; exact hl), h2, Option.bind_some]
    rw [same_eq hsm, Option.bind_some, same_eq hsm, Option.bind_some, rNewer_eq hl, Option.bind_some, log_eq (by rw [hk.1]; exact hl) (fun e he => by rw [hk.1] at he; have := hs.2.2.1 e he; omega), Option.bind_some]
    simp only [hk.1, decide_true, Bool.not_true, cond_false, beq_self_eq_true, hk.2.1, bne_self_eq_false, Bool.or_false, Bool.false_or]
    unfold law14_VoteAlone_J1
    rw [cond_d]
    have key : (cond x (some (!newer s.log c.last c.many)) (some false)) = some false := by
      cases x with
      | false => rfl
      | true => rw [hn rfl]; rfl
    by_cases h3 : c.term < s.term
    · obtain ⟨rfl, rfl⟩ := Prod.mk.inj (ho h3)
      simp [w64 (x := c.term) (by omega) (by omega), h3]
    · rw [if_neg h3] at ht
      cases x with
      | false =>
        simp only [cond_false, w64 (x := c.term) (by omega) (by omega), if_neg h3, cond_true, ht, beq_self_eq_true]
        by_cases h4 : c.term = s.term
        · simp [h4]
        · have h5 := hr (by omega)
          have : (c.term == s.term) = false := by simpa using h4
          simp [this, h5.1, h5.2, h3]
      | true =>
        rw [hn rfl]
        simp only [cond_true, Bool.not_true, cond_false, w64 (x := c.term) (by omega) (by omega), if_neg h3, ht, beq_self_eq_true]
        by_cases h4 : c.term = s.term
        · simp [h4]
        · have h5 := hr (by omega)
          have : (c.term == s.term) = false := by simpa using h4
          simp [this, h5.1, h5.2, h3]
theorem VoteAlone_true (y0 : Seat) (o0 : Seat.ok y0) (y1 : Call30) (o1 : Call30.ok y1) : law14_VoteAlone_f y0 y1 = some true := alone_true y0 y1 o1
end Go.Proofs.Ytecdonbjabjaeaa
