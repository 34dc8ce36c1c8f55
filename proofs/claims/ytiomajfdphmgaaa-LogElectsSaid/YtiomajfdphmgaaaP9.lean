/- LogElects, the plain law. -/
import Derived.Test.YtiomajfdphmgaaaG9
import Derived.Test.YtiomajfdphmgaaaP2
set_option linter.unusedSimpArgs false
set_option linter.unusedVariables false
namespace Go.Proofs.Ytiomajfdphmgaaa
open Go.Ab Go.RowKit
theorem tm_succ {l : List Entry} {k : Nat} (h : k < l.length) : tm l (k + 1) = l[k].term := by
  unfold tm
  rw [if_neg (by omega), Nat.add_sub_cancel, List.getD_eq_getElem?_getD, List.getElem?_eq_getElem h, Option.getD_some]
theorem rises_tm {l : List Entry} (h : rises l) {p q : Nat} (hp : p ≤ q) (hq : q ≤ l.length) : tm l p ≤ tm l q := by
  induction q with
  | zero => have : p = 0 := by omega
            subst this; exact Int.le_refl _
  | succ q ih =>
    by_cases e : p = q + 1
    · subst e; exact Int.le_refl _
    · refine Int.le_trans (ih (by omega) (by omega)) ?_
      have h1 := h q (by omega)
      rw [tm_succ (by omega)]
      by_cases h0 : q = 0
      · subst h0; show (0 : Int) ≤ _; have := h1.1; omega
      · obtain ⟨k, rfl⟩ : ∃ k, q = k + 1 := ⟨q - 1, by omega⟩
        rw [tm_succ (by omega)]; exact h1.2 (by omega)
theorem meets_tm {l d : List Entry} (h : meets l d) {p : Nat} (h0 : p ≠ 0) (hl : p ≤ l.length) (hd : p ≤ d.length) (ht : tm l p = tm d p) : ∀ q, q ≤ p → tm l q = tm d q := by
  intro q hq
  have e : l.take p = d.take p := by
    have := h (p - 1) (Nat.zero_le _) (by omega) (by omega) (by unfold tm at ht; rw [if_neg h0, if_neg h0] at ht; exact ht)
    rwa [show p - 1 + 1 = p by omega] at this
  unfold tm
  by_cases h1 : q = 0
  · rw [if_pos h1, if_pos h1]
  · rw [if_neg h1, if_neg h1]
    have e1 : (l.take p)[q - 1]? = (d.take p)[q - 1]? := by rw [e]
    rw [List.getElem?_take, List.getElem?_take, if_pos (by omega), if_pos (by omega)] at e1
    rw [List.getD_eq_getElem?_getD, List.getD_eq_getElem?_getD, e1]
theorem cm_two {l : List Entry} {t : Int} {p : Nat} (h0 : p ≠ 0) (hp : p ≤ l.length) (ht : tm l p = t) (hlast : tm l l.length = t) : ∀ n, p ≤ n → n ≤ l.length → cm l t [(p : Int), (p : Int), 0] ((p : Int) - 1) n = p := by
  intro n
  induction n with
  | zero => intro h; omega
  | succ n ih =>
    intro h1 h2
    unfold cm
    by_cases e : p = n + 1
    · subst e
      rw [if_pos ⟨by omega, by
        unfold cmc cnt
        rw [decide_eq_true_eq]
        refine ⟨ht, ?_⟩
        simp [List.countP_cons]⟩]
    · rw [if_neg, ih (by omega) (by omega)]
      rintro ⟨_, hc⟩
      unfold cmc cnt at hc
      rw [decide_eq_true_eq] at hc
      have h3 := hc.2
      have a1 : ¬ ((n : Int) + 1 ≤ (p : Int)) := by omega
      have a2 : ¬ ((n : Int) + 1 ≤ 0) := by omega
      simp [List.countP_cons, a1, a2] at h3
theorem LogElects_true (y0 : List Entry) (o0 : ∀ y22 ∈ y0, Entry.ok y22) (y1 : List Entry) (o1 : ∀ y22 ∈ y1, Entry.ok y22) (y2 : List Entry) (o2 : ∀ y22 ∈ y2, Entry.ok y22) (y3 : Int) (o3 : okI .u8 y3) : law13_LogElects_f y0 y1 y2 y3 = some true := by
  unfold law13_LogElects_f
  simp only [okI] at o3
  obtain ⟨a, e1, h1⟩ := fit_eq o0
  obtain ⟨b, e2, h2⟩ := fit_eq o1
  obtain ⟨c, e3, h3⟩ := fit_eq o2
  rw [head_eq, Option.bind_some, e1, Option.bind_some, e2, Option.bind_some, e3, Option.bind_some]
  cases a with
  | false => rfl
  | true =>
  cases b with
  | false => rfl
  | true =>
  cases c with
  | false => rfl
  | true =>
  obtain ⟨g1, l1⟩ := h1 rfl
  obtain ⟨g2, l2⟩ := h2 rfl
  obtain ⟨g3, l3⟩ := h3 rfl
  simp only [Bool.not_true, cond_false]
  cases hz : ((y0.length : Int) == 0) with
  | true => rfl
  | false =>
  have hne : y0.length ≠ 0 := by rw [beq_eq_false_iff_ne] at hz; omega
  obtain ⟨ra, f1, k1⟩ := rises_eq g1.1
  obtain ⟨rb, f2, k2⟩ := rises_eq g2.1
  obtain ⟨rc, f3, k3⟩ := rises_eq g3.1
  obtain ⟨ma, f4, k4⟩ := meet_eq g2 g1
  obtain ⟨mb, f5, k5⟩ := meet_eq g3 g1
  rw [cond_false, f1, Option.bind_some, f2, Option.bind_some, f3, Option.bind_some, f4, Option.bind_some, f5, Option.bind_some]
  cases ra with
  | false => rfl
  | true =>
  cases rb with
  | false => rfl
  | true =>
  cases rc with
  | false => rfl
  | true =>
  cases ma with
  | false => rfl
  | true =>
  cases mb with
  | false => rfl
  | true =>
  simp only [Bool.not_true, cond_false]
  have r1 := k1 rfl; have r2 := k2 rfl; have r3 := k3 rfl
  have m1 := k4.1 rfl; have m2 := k5.1 rfl
  unfold law13_LogElects_J1
  have w3 : IntKind.wrap .i64 y3 = y3 := w64 (by omega) (by omega)
  have hmod : 0 ≤ Int.tmod y3 (y0.length : Int) ∧ Int.tmod y3 (y0.length : Int) < y0.length := by
    rw [Int.tmod_eq_emod_of_nonneg (by omega)]
    exact ⟨Int.emod_nonneg _ (by omega), Int.emod_lt_of_pos _ (by omega)⟩
  obtain ⟨p, hp⟩ : ∃ p : Nat, p = (Int.tmod y3 (y0.length : Int)).toNat + 1 := ⟨_, rfl⟩
  have hw : IntKind.wrap .i64 (1 + Int.tmod y3 (y0.length : Int)) = (p : Int) := by rw [w64 (by omega) (by omega)]; omega
  have hp0 : p ≠ 0 := by omega
  have hpl : p ≤ y0.length := by omega
  have hx : (y0.getD (p - 1) default).term = tm y0 p := by unfold tm; rw [if_neg hp0]
  have hw1 : IntKind.wrap .i64 ((p : Int) - 1) = (p : Int) - 1 := w64 (by omega) (by omega)
  rw [cond_false, chk_pos (by omega), w3, hw, idx_pred hp0 hpl g1.1, Option.bind_some, rTerm_eq (Nat.le_refl _) g1.1, Option.bind_some, hx]
  cases hb : ((tm y0 p != tm y0 y0.length) || (decide ((y0.length : Int) < y1.length))) with
  | true => rfl
  | false =>
  simp only [Bool.or_eq_false_iff, bne_eq_false_iff_eq, decide_eq_false_iff_not] at hb
  obtain ⟨hb1, hb2⟩ := hb
  unfold law13_LogElects_J2
  rw [cond_false, w3, hw, hx, hw1, commit_eq g1.1 (by simp), cm_two hp0 hpl rfl hb1.symm _ hpl (Nat.le_refl _), Option.bind_some, fits_eq g3.1, Option.bind_some, fits_eq g2.1, Option.bind_some, rTerm_eq (Nat.le_refl _) g2.1, Option.bind_some]
  have hpp : ((p : Int) != (p : Int)) = false := by simp
  rw [hpp, cond_false]
  cases hf1 : fits y2 (p : Int) (tm y0 p) with
  | false => rfl
  | true =>
  cases hf2 : fits y1 (p : Int) (tm y0 p) with
  | true => rfl
  | false =>
  simp only [Bool.not_true, Bool.not_false, cond_false]
  unfold law13_LogElects_J3
  cases hd : decide (tm y0 p < tm y1 y1.length) with
  | true => rfl
  | false =>
  rw [decide_eq_false_iff_not] at hd
  rw [cond_false, cond_true, rTerm_eq (Nat.le_refl _) g2.1, Option.bind_some, newer_eq g3.1, Option.bind_some]
  congr 1
  rw [Bool.not_eq_true', newer, decide_eq_false_iff_not]
  simp only [fits, decide_eq_true_eq, Int.toNat_natCast] at hf1
  simp only [fits, decide_eq_false_iff_not, Int.toNat_natCast] at hf2
  have v1 : tm y2 p ≤ tm y2 y2.length := rises_tm r3 (by omega) (Nat.le_refl _)
  rintro (h | ⟨h4, h5⟩)
  · omega
  · -- one term, and no longer: l has it, against what was said
    refine hf2 ⟨by omega, by omega, ?_⟩
    have hL : tm y1 y1.length = tm y0 p := by omega
    have hl0 : y1.length ≠ 0 := by omega
    have hy : tm y0 y1.length = tm y0 p := by
      have q1 := rises_tm r1 (p := p) (q := y1.length) (by omega) (by omega)
      have q2 := rises_tm r1 (p := y1.length) (q := y0.length) (by omega) (Nat.le_refl _)
      omega
    exact meets_tm m1 hl0 (Nat.le_refl _) (by omega) (by omega) p (by omega)
end Go.Proofs.Ytiomajfdphmgaaa
