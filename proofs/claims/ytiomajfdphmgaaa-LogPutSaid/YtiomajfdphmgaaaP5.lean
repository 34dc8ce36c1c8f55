/- LogPut, the plain law. -/
import Derived.Test.YtiomajfdphmgaaaG5
import Derived.Test.YtiomajfdphmgaaaP3
set_option linter.unusedSimpArgs false
set_option linter.unusedVariables false
namespace Go.Proofs.Ytiomajfdphmgaaa
open Go.Ab Go.RowKit
theorem mrg_take : ∀ xs ys : List Entry, (mrg xs ys).take ys.length = ys
  | xs, [] => by simp
  | [], y :: ys => by rw [mrg_e, List.take_length]
  | x :: xs, y :: ys => by
    rw [mrg_cons]
    split
    · rename_i h; rw [h, List.length_cons, List.take_succ_cons, mrg_take xs ys]
    · rw [List.take_length]
theorem mrg_ge (xs ys : List Entry) : ys.length ≤ (mrg xs ys).length := by
  have := congrArg List.length (mrg_take xs ys)
  rw [List.length_take] at this; omega
/-- what is there already changes nothing -/
theorem mrg_pre : ∀ xs ys : List Entry, ys = xs.take ys.length → mrg xs ys = xs
  | xs, [], _ => mrg_nil xs
  | [], y :: ys, h => by cases h
  | x :: xs, y :: ys, h => by
    rw [List.length_cons, List.take_succ_cons, List.cons.injEq] at h
    rw [mrg_cons, if_pos h.1.symm, mrg_pre xs ys h.2]
theorem mrg_or : ∀ xs ys : List Entry, (mrg xs ys).length = ys.length ∨ mrg xs ys = xs
  | xs, [] => .inr (mrg_nil xs)
  | [], y :: ys => .inl (by rw [mrg_e])
  | x :: xs, y :: ys => by
    rw [mrg_cons]
    split
    · rcases mrg_or xs ys with h | h
      · left; simp [h]
      · right; rw [h]
    · exact .inl rfl
theorem modlen {x n : Int} (h0 : 0 ≤ x) (hn : 0 ≤ n) : 0 ≤ Int.tmod x (n + 1) ∧ Int.tmod x (n + 1) ≤ n := by
  rw [Int.tmod_eq_emod_of_nonneg h0]
  have := Int.emod_nonneg x (show n + 1 ≠ 0 by omega)
  have := Int.emod_lt_of_pos x (show 0 < n + 1 by omega)
  omega
theorem put_len {l more : List Entry} {p : Nat} (hp : p ≤ l.length) : (put l p more).length = p + (mrg (l.drop p) more).length := by unfold put; simp; omega
theorem put_tm {l more : List Entry} {p : Nat} (hp : p ≤ l.length) : tm (put l p more) p = tm l p := by
  unfold tm
  by_cases h : p = 0
  · rw [if_pos h, if_pos h]
  · rw [if_neg h, if_neg h]
    congr 1
    unfold put
    rw [List.getD_eq_getElem?_getD, List.getD_eq_getElem?_getD, List.getElem?_append_left (by simp; omega), List.getElem?_take, if_pos (by omega)]
theorem put_put {l more part : List Entry} {p : Nat} (hp : p ≤ l.length) (h : part = more.take part.length) : put (put l p more) p part = put l p more := by
  unfold put
  have e1 : (l.take p ++ mrg (l.drop p) more).take p = l.take p := by rw [List.take_append_of_le_length (by simp; omega), List.take_take, Nat.min_self]
  have e2 : (l.take p ++ mrg (l.drop p) more).drop p = mrg (l.drop p) more := by rw [List.drop_append_of_le_length (by simp; omega), List.drop_of_length_le (by simp; omega), List.nil_append]
  rw [e1, e2, mrg_pre]
  have := mrg_take (l.drop p) more
  have hle : part.length ≤ more.length := by have := congrArg List.length h; simp at this; omega
  have e3 : (mrg (l.drop p) more).take part.length = ((mrg (l.drop p) more).take more.length).take part.length := by rw [List.take_take, Nat.min_eq_left hle]
  rw [e3, this]; exact h
theorem LogPut_true (y0 : List Entry) (o0 : ∀ y22 ∈ y0, Entry.ok y22) (y1 : Int) (o1 : okI .u8 y1) (y2 : List Entry) (o2 : ∀ y22 ∈ y2, Entry.ok y22) (y3 : Int) (o3 : okI .u8 y3) : law13_LogPut_f y0 y1 y2 y3 = some true := by
  unfold law13_LogPut_f
  simp only [okI] at o1 o3
  obtain ⟨b, e1, h1⟩ := fit_eq o0
  obtain ⟨c, e2, h2⟩ := fit_eq o2
  rw [head_eq, Option.bind_some, e1, Option.bind_some]
  cases b with
  | false => rfl
  | true =>
    obtain ⟨g1, l1⟩ := h1 rfl
    rw [e2, Option.bind_some, Bool.not_true, cond_false]
    cases c with
    | false => rfl
    | true =>
      obtain ⟨g2, l2⟩ := h2 rfl
      unfold law13_LogPut_J1
      have w1 : IntKind.wrap .i64 y1 = y1 := w64 (by omega) (by omega)
      have w3 : IntKind.wrap .i64 y3 = y3 := w64 (by omega) (by omega)
      rw [Bool.not_true, cond_false, w1, w64_succ (k := y0.length) (by omega)]
      have hm := modlen (x := y1) (n := y0.length) (by omega) (by omega)
      obtain ⟨p, hp⟩ : ∃ p : Nat, Int.tmod y1 ((y0.length + 1 : Nat) : Int) = p := ⟨(Int.tmod y1 ((y0.length + 1 : Nat) : Int)).toNat, by
        have : ((y0.length + 1 : Nat) : Int) = (y0.length : Int) + 1 := by omega
        rw [this]; omega⟩
      have hpl : p ≤ y0.length := by
        have : ((y0.length + 1 : Nat) : Int) = (y0.length : Int) + 1 := by omega
        rw [this] at hp; omega
      rw [hp, chk_pos (by omega), rTerm_eq hpl g1.1, Option.bind_some, put_eq g1 g2, Option.bind_some]
      have hmg := mrg_ge (y0.drop p) y2
      have hml := mrg_len (y0.drop p) y2
      rw [List.length_drop] at hml
      have hL := put_len (more := y2) hpl
      have hR : putR y0 (p : Int) (tm y0 p) y2 = (put y0 p y2, true) := by
        unfold putR
        rw [if_pos (by unfold fits; simp; omega)]
        simp only [Int.toNat_natCast]
        rw [if_neg (by rw [hL]; omega)]
      have hwl : IntKind.wrap .i64 ((p : Int) + (y2.length : Int)) = ((p + y2.length : Nat) : Int) := by rw [w64 (by omega) (by omega)]; omega
      have gP := put_good g1 g2 (by omega) p
      have ht1 : (put y0 p y2).take p = y0.take p := by unfold put; rw [List.take_append_of_le_length (by simp; omega), List.take_take, Nat.min_self]
      have ht2 : ((put y0 p y2).take (p + y2.length)).drop p = y2 := by
        rw [List.drop_take, Nat.add_sub_cancel_left]
        have : (put y0 p y2).drop p = mrg (y0.drop p) y2 := by unfold put; rw [List.drop_append_of_le_length (by simp; omega), List.drop_of_length_le (by simp; omega), List.nil_append]
        rw [this, mrg_take]
      rw [hR]
      dsimp only
      rw [Bool.not_true, cond_false, cond_d, if_neg (by rw [hL, hwl]; omega), chk_pos (by rw [hL]; omega), chk_pos (by omega)]
      simp only [Int.toNat_natCast, List.drop_zero]
      rw [ht1, same_eq (g1.take p) (g1.take p), Option.bind_some, decide_eq_true rfl, Bool.not_true, cond_false, hwl, chk_pos (by rw [hL]; omega)]
      simp only [Int.toNat_natCast]
      rw [ht2, same_eq g2 g2, Option.bind_some, decide_eq_true rfl, Bool.not_true]
      unfold law13_LogPut_J2
      have hR2 : ∀ part : List Entry, part = y2.take part.length → putR (put y0 p y2) (p : Int) (tm y0 p) part = (put y0 p y2, true) := by
        intro part hpart
        unfold putR
        rw [if_pos (by unfold fits; simp [put_tm hpl]; omega)]
        simp only [Int.toNat_natCast]
        rw [put_put hpl hpart, if_neg (by rw [hL]; omega)]
      have hm2 := modlen (x := y3) (n := y2.length) (by omega) (by omega)
      have c2 : ((y2.length + 1 : Nat) : Int) = (y2.length : Int) + 1 := by omega
      rw [cond_false, w1, w3, w64_succ (k := y0.length) (by omega), w64_succ (k := y2.length) (by omega), hp, put_eq gP g2, hR2 y2 (by simp), Option.bind_some, chk_pos (by omega), chk_pos (by rw [c2]; omega)]
      have gq := (g2.take (Int.tmod y3 ((y2.length + 1 : Nat) : Int)).toNat)
      rw [List.drop_zero, put_eq gP gq, hR2 _ (by simp), Option.bind_some]
      simp only [cond_true]
      rw [same_eq gP gP, Option.bind_some, decide_eq_true rfl, cond_true, hwl, same_eq gP g1]
      have hor := mrg_or (y0.drop p) y2
      rcases hor with h | h
      · have : (((put y0 p y2).length : Int) == ((p + y2.length : Nat) : Int)) = true := by rw [beq_iff_eq, hL, h]
        rw [Option.bind_some, cond_true, this]; rfl
      · have : put y0 p y2 = y0 := by unfold put; rw [h, List.take_append_drop]
        rw [this]; simp
end Go.Proofs.Ytiomajfdphmgaaa
