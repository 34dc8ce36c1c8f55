/- LogMeets, the plain law. -/
import Derived.Test.YtiomajfdphmgaaaG6
import Derived.Test.YtiomajfdphmgaaaP5
set_option linter.unusedSimpArgs false
set_option linter.unusedVariables false
namespace Go.Proofs.Ytiomajfdphmgaaa
open Go.Ab Go.RowKit
/-- logs that meet, of one term at a place, are one up to there -/
theorem meets_upto {l d : List Entry} (h : meets l d) {p : Nat} (hl : p ≤ l.length) (hd : p ≤ d.length) (ht : tm l p = tm d p) : l.take p = d.take p := by
  by_cases h0 : p = 0
  · subst h0; simp
  · have := h (p - 1) (Nat.zero_le _) (by omega) (by omega) (by
      unfold tm at ht; rw [if_neg h0, if_neg h0] at ht; exact ht)
    rwa [show p - 1 + 1 = p by omega] at this
theorem mrg_meets : ∀ (xs ys zs : List Entry), (∃ k, ys = zs.take k) → (mrg xs ys = xs ∨ ∃ q, q = ys.length ∧ mrg xs ys = ys)
  | xs, [], _, _ => .inl (mrg_nil xs)
  | [], y :: ys, _, _ => .inr ⟨_, rfl, mrg_e _⟩
  | x :: xs, y :: ys, zs, h => by
    rw [mrg_cons]
    split
    · rename_i e
      have : ∃ k, ys = (zs.drop 1).take k := by
        obtain ⟨k, hk⟩ := h
        cases zs with
        | nil => simp at hk
        | cons z zs =>
          cases k with
          | zero => simp at hk
          | succ k =>
            rw [List.take_succ_cons, List.cons.injEq] at hk
            exact ⟨k, by simpa using hk.2⟩
      rcases mrg_meets xs ys _ this with h | ⟨q, hq, h⟩
      · left; rw [h]
      · right; exact ⟨q + 1, by simp [hq], by rw [h, e]⟩
    · exact .inr ⟨_, rfl, rfl⟩
theorem meets_pre {d : List Entry} (k : Nat) : meets (d.take k) d := by
  intro j _ h1 h2 _
  rw [List.take_take, Nat.min_eq_left (by simp at h1; omega)]
theorem LogMeets_true (y0 : List Entry) (o0 : ∀ y22 ∈ y0, Entry.ok y22) (y1 : List Entry) (o1 : ∀ y22 ∈ y1, Entry.ok y22) (y2 : Int) (o2 : okI .u8 y2) (y3 : Int) (o3 : okI .u8 y3) : law13_LogMeets_f y0 y1 y2 y3 = some true := by
  unfold law13_LogMeets_f
  simp only [okI] at o2 o3
  obtain ⟨b, e1, h1⟩ := fit_eq o0
  obtain ⟨c, e2, h2⟩ := fit_eq o1
  rw [head_eq, Option.bind_some, e1, Option.bind_some]
  cases b with
  | false => rfl
  | true =>
  obtain ⟨g1, l1⟩ := h1 rfl
  rw [e2, Option.bind_some, Bool.not_true, cond_false]
  cases c with
  | false => rfl
  | true =>
  obtain ⟨g2, l2⟩ := h2 rfl
  obtain ⟨r, er, hr⟩ := meet_eq g1 g2
  rw [er, Option.bind_some, Bool.not_true, cond_false]
  cases r with
  | false => rfl
  | true =>
  have hm := hr.1 rfl
  unfold law13_LogMeets_J1
  have w2 : IntKind.wrap .i64 y2 = y2 := w64 (by omega) (by omega)
  have w3 : IntKind.wrap .i64 y3 = y3 := w64 (by omega) (by omega)
  rw [Bool.not_true, cond_false, w2, w3, w64_succ (k := y1.length) (by omega)]
  have m1 := modlen (x := y2) (n := y1.length) (by omega) (by omega)
  have c1 : ((y1.length + 1 : Nat) : Int) = (y1.length : Int) + 1 := by omega
  rw [← c1] at m1
  obtain ⟨p, hp⟩ : ∃ p : Nat, Int.tmod y2 ((y1.length + 1 : Nat) : Int) = p := ⟨(Int.tmod y2 ((y1.length + 1 : Nat) : Int)).toNat, by omega⟩
  rw [hp] at m1
  have hpl : p ≤ y1.length := by omega
  have w4 : IntKind.wrap .i64 ((y1.length : Int) - (p : Int)) = ((y1.length - p : Nat) : Int) := by rw [w64 (by omega) (by omega)]; omega
  rw [hp, chk_pos (by omega), w4, w64_succ (by omega)]
  have m2 := modlen (x := y3) (n := ((y1.length - p : Nat) : Int)) (by omega) (by omega)
  have c2 : ((y1.length - p + 1 : Nat) : Int) = ((y1.length - p : Nat) : Int) + 1 := by omega
  rw [← c2] at m2
  obtain ⟨t, ht⟩ : ∃ t : Nat, Int.tmod y3 ((y1.length - p + 1 : Nat) : Int) = t := ⟨(Int.tmod y3 ((y1.length - p + 1 : Nat) : Int)).toNat, by omega⟩
  rw [ht] at m2
  have w5 : IntKind.wrap .i64 ((p : Int) + (t : Int)) = ((p + t : Nat) : Int) := by rw [w64 (by omega) (by omega)]; omega
  rw [ht, w5]
  obtain ⟨q, hq⟩ : ∃ q, q = p + t := ⟨_, rfl⟩
  rw [← hq]
  have hql : q ≤ y1.length := by omega
  rw [chk_pos (by omega), rTerm_eq hpl g2.1, Option.bind_some, chk_pos (by omega)]
  simp only [Int.toNat_natCast, List.drop_zero]
  have gm := (g2.take q).drop p
  rw [put_eq g1 gm, Option.bind_some]
  obtain ⟨M, hM⟩ : ∃ M, M = (y1.take q).drop p := ⟨_, rfl⟩
  rw [← hM] at gm ⊢
  have hMl : M.length = q - p := by rw [hM]; simp; omega
  by_cases hf : fits y0 (p : Int) (tm y1 p) = true
  · have hf' := hf
    simp only [fits, decide_eq_true_eq, Int.toNat_natCast] at hf'
    have hpl0 : p ≤ y0.length := by omega
    have hL := put_len (more := M) hpl0
    have hml := mrg_len (y0.drop p) M
    have hmg := mrg_ge (y0.drop p) M
    rw [List.length_drop] at hml
    have hR : putR y0 (p : Int) (tm y1 p) M = (put y0 p M, true) := by
      unfold putR
      rw [if_pos hf]
      simp only [Int.toNat_natCast]
      rw [if_neg (by rw [hL]; omega)]
    have gP := put_good g1 gm (by omega) p
    have hup := meets_upto hm hpl0 hpl hf'.2.2
    have hpq : y0.take p ++ M = y1.take q := by rw [hup, hM, List.drop_take]; rw [show q = p + (q - p) by omega, List.take_add]; congr 1; simp
    have hPq : (put y0 p M).take q = y1.take q := by
      rw [← hpq]
      unfold put
      have e1 : (y0.take p).length = p := by simp; omega
      rw [List.take_append, e1, show q - p = M.length by omega, mrg_take, List.take_of_length_le (by omega)]
    have hmeet : meets (put y0 p M) y1 := by
      have := mrg_meets (y0.drop p) M (y1.drop p) ⟨q - p, by rw [hM, List.drop_take]⟩
      rcases this with h | ⟨_, _, h⟩
      · have : put y0 p M = y0 := by unfold put; rw [h, List.take_append_drop]
        rw [this]; exact hm
      · have : put y0 p M = y1.take q := by unfold put; rw [h]; exact hpq
        rw [this]; exact meets_pre q
    obtain ⟨r2, er2, hr2⟩ := meet_eq gP g2
    rw [hR]
    dsimp only
    have hrr : r2 = true := hr2.2 hmeet
    rw [Bool.not_true, cond_false, cond_d, if_neg (by rw [hL]; omega), er2, Option.bind_some, hrr, chk_pos (by rw [hL]; omega), chk_pos (by omega), hPq, same_eq (g2.take q) (g2.take q)]
    simp
  · have hf2 : fits y0 (p : Int) (tm y1 p) = false := by simpa using hf
    have hR : putR y0 (p : Int) (tm y1 p) M = ([], false) := by unfold putR; rw [if_neg hf]
    rw [hR]
    dsimp only
    simp only [Bool.not_false, cond_true, Option.bind_some]
    rw [fits_eq g1.1, hf2]
    rfl
end Go.Proofs.Ytiomajfdphmgaaa
