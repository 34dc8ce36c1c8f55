/- LogLong, the plain law. -/
import Derived.Test.YtiomajfdphmgaaaG4
import Derived.Test.YtiomajfdphmgaaaP3
set_option linter.unusedSimpArgs false
set_option linter.unusedVariables false
namespace Go.Proofs.Ytiomajfdphmgaaa
open Go.Ab Go.RowKit
theorem put_snoc {l : List Entry} {e : Entry} : put l l.length [e] = l ++ [e] := by
  unfold put; simp [mrg]
theorem long_J2 {e : Entry} {l : List Entry} (hl : Good l) (he : Entry.ok e ∧ e.data.length ≤ 40) (hn : l.length = 500) : law13_LogLong_J2 e true l = some true := by
  have g1 : Good [e] := ⟨by simp, fun x hx => by rw [List.mem_singleton.1 hx]; exact he⟩
  unfold law13_LogLong_J2
  have i1 : idx l 498 = some l[498] := idx_nat (k := 498) (by omega)
  have i2 : idx l 499 = some l[499] := idx_nat (k := 499) (by omega)
  have p1 : putR l 0 0 [] = (l, true) := by
    unfold putR
    rw [if_pos (by simp [fits, tm])]
    have : put l (0 : Int).toNat [] = l := by unfold put; simp [mrg_nil]
    rw [this, if_neg (by omega)]
  have p2 : putR (l.take 499) 499 l[498].term [e] = (l.take 499 ++ [e], true) := by
    unfold putR
    have hlen : (l.take 499).length = 499 := by simp; omega
    have ht : tm (l.take 499) 499 = l[498].term := by
      unfold tm; rw [if_neg (by decide)]; simp [List.getD_eq_getElem?_getD, List.getElem?_take, show 498 < l.length by omega]
    have : put (l.take 499) (499 : Int).toNat [e] = l.take 499 ++ [e] := by
      have := put_snoc (l := l.take 499) (e := e)
      rw [hlen] at this; exact this
    rw [if_pos (by unfold fits; rw [decide_eq_true_eq, hlen]; exact ⟨by omega, by omega, ht⟩), this, if_neg (by simp; omega)]
  have p3 : putR l 500 l[499].term [e] = ([], false) := by
    unfold putR
    split
    · have : put l (500 : Int).toNat [e] = l ++ [e] := by
        have := put_snoc (l := l) (e := e)
        rw [hn] at this; exact this
      rw [this, if_pos (by simp; omega)]
    · rfl
  rw [put_eq hl Good.nil, p1, Option.bind_some, chk_pos (by omega), i1, Option.bind_some, put_eq (hl.take _) g1, p2, Option.bind_some, i2, Option.bind_some, put_eq hl g1, p3, Option.bind_some]
  dsimp only
  rw [rSame_eq hl, Option.bind_some]
  simp; omega
theorem long_L {e : Entry} (he : Entry.ok e ∧ e.data.length ≤ 40) : ∀ m (l : List Entry), Good l → l.length ≤ 500 → 500 < m + l.length → law13_LogLong_L1 e true m l = some true := by
  intro m
  induction m with
  | zero => intro l h1 h2 h3; omega
  | succ m ih =>
    intro l h1 h2 h3
    rw [law13_LogLong_L1.eq_def]; dsimp only
    rw [cond_d]
    by_cases h : l.length < 500
    · rw [if_pos (by omega), chk_pos (by omega)]
      refine ih _ ⟨by simp; omega, fun x hx => ?_⟩ (by simp; omega) (by simp; omega)
      rcases List.mem_append.1 hx with h4 | h4
      · exact h1.2 x h4
      · rw [List.mem_singleton.1 h4]; exact he
    · rw [if_neg (by omega)]
      exact long_J2 h1 he (by omega)
theorem LogLong_true (y0 : List Entry) (o0 : ∀ y22 ∈ y0, Entry.ok y22) (y1 : Entry) (o1 : Entry.ok y1) : law13_LogLong_f y0 y1 = some true := by
  unfold law13_LogLong_f
  obtain ⟨b, e1, h1⟩ := fit_eq o0
  rw [head_eq, Option.bind_some, e1, Option.bind_some]
  cases h : ((!b) || (decide (40 < (y1.data.length : Int)))) with
  | true => rfl
  | false =>
    simp only [Bool.or_eq_false_iff, Bool.not_eq_false', decide_eq_false_iff_not] at h
    obtain ⟨rfl, h⟩ := h
    obtain ⟨g1, l1⟩ := h1 rfl
    unfold law13_LogLong_J1
    rw [cond_false, chk_pos (by omega), List.nil_append]
    exact long_L ⟨o1, by omega⟩ BIG y0 g1 (by omega) (by rw [BIG_eq]; omega)
end Go.Proofs.Ytiomajfdphmgaaa
