/- WireOrder as a plain law. -/
import Derived.Test.YteebeajhoemdpaaP3
import Derived.Test.YteebeajhoemdpaaG5
import Derived.Test.YteebeajhoemdpaaW
set_option linter.unusedSimpArgs false
set_option linter.unusedVariables false
namespace Go.Proofs.Yteebeajhoemdpaa
open Go.Ab Go.RowKit
theorem wsend_rs {w : List Msg} {m : Msg} {f : Int} (h : w.length < 200) : wire_Send_f w m f = some (rs w m f) := by
  obtain ⟨r, h1, h2, -⟩ := send_same (w := w) (m := m) (f := f) (by omega)
  rw [rsend_eq h] at h2
  rw [h1, h2]
theorem wsend_full {w : List Msg} {m : Msg} {f : Int} (h : 200 ≤ w.length) (hl : w.length ≤ 220) : wire_Send_f w m f = some w := by
  obtain ⟨r, h1, h2, -⟩ := send_same (w := w) (m := m) (f := f) hl
  rw [rsend_full h hl] at h2
  rw [h1, h2]
/-- where the fate keeps the order -/
theorem ord_pre {w r : List Msg} {m : Msg} (hw : w.length ≤ 220) (hs : ∀ x ∈ w, Sm x) (hr : w.length ≤ r.length) (hp : r.take w.length = w) : law05_WireOrder_J3 true w r m true = some true := by
  have gw : Gd w := ⟨by omega, hs⟩
  unfold law05_WireOrder_J3
  rw [cond_true, cond_true, chk_pos (by omega)]
  simp only [Int.toNat_natCast, List.drop_zero]
  rw [hp, all_eq gw, Option.bind_some, decide_eq_true rfl]
theorem ord_swap {w : List Msg} {x m : Msg} (hw : w.length + 1 < 200) (hs : ∀ y ∈ w, Sm y) (hx : Sm x) (hm : Sm m) : law05_WireOrder_J3 true (w ++ [x]) (w ++ [m, x]) m false = some true := by
  have gw : Gd w := ⟨by omega, hs⟩
  unfold law05_WireOrder_J3
  have l1 : (w ++ [x]).length = w.length + 1 := by simp
  have l2 : (w ++ [m, x]).length = w.length + 2 := by simp
  have n1 : (((w.length + 1 : Nat) : Int)) - 1 = (w.length : Int) := by omega
  rw [cond_false, cond_true, l1, l2, w64 (by omega) (by omega), w64 (by omega) (by omega), n1, show (((w.length + 2 : Nat) : Int) == ((w.length + 1 : Nat) : Int) + 1) = true by rw [beq_iff_eq]; omega, cond_true, chk_pos (by omega), chk_pos (by omega)]
  simp only [Int.toNat_natCast, List.drop_zero]
  have t1 : (w ++ [m, x]).take w.length = w := by simp
  have t2 : (w ++ [x]).take w.length = w := by simp
  have i1 : (w ++ [m, x])[w.length]'(by simp) = m := by simp
  have i2 : (w ++ [m, x])[w.length + 1]'(by simp) = x := by simp
  have i3 : (w ++ [x])[w.length]'(by simp) = x := by simp
  rw [t1, t2, all_eq gw, Option.bind_some, decide_eq_true rfl, cond_true, idx_nat (show w.length < (w ++ [m, x]).length by omega), Option.bind_some, i1, same_eq hm, Option.bind_some, decide_eq_true rfl, cond_true, idx_nat (show w.length + 1 < (w ++ [m, x]).length by omega), Option.bind_some, idx_nat (show w.length < (w ++ [x]).length by omega), Option.bind_some, i2, i3, same_eq hx, Option.bind_some, decide_eq_true rfl]
theorem rs_len {w : List Msg} {m : Msg} {f : Int} (h : w.length < 200) : w.length ≤ (rs w m f).length ∧ (rs w m f).length ≤ 200 := by
  unfold rs
  split
  · simp; omega
  · split
    · split <;> simp <;> omega
    · split
      · split
        · simp; omega
        · simp; omega
      · omega
theorem rs_take {w : List Msg} {m : Msg} {f : Int} (h : f ≠ 4 ∨ w.length = 0) : (rs w m f).take w.length = w := by
  unfold rs
  split
  · simp
  · split
    · split <;> simp
    · split
      · rcases h with h | h
        · exact absurd ‹f = 4› h
        · rw [if_pos h]; simp
      · simp
theorem order_J1 {w : List Msg} {m : Msg} {fate : Int} (hf : 0 ≤ fate ∧ fate ≤ 255) (hl : w.length ≤ 220) (hs : ∀ x ∈ w, Sm x) (hm : Sm m) : law05_WireOrder_J1 true w m fate false = some true := by
  unfold law05_WireOrder_J1
  rw [cond_false]
  obtain ⟨f, hff⟩ : ∃ f, Int.tmod (IntKind.wrap .i64 fate) 6 = f := ⟨_, rfl⟩
  rw [hff]
  by_cases h2 : 200 ≤ w.length
  · rw [wsend_full h2 hl, Option.bind_some]
    unfold law05_WireOrder_J2
    have e : ((decide ((w.length : Int) < (w.length : Int))) || (cond (decide (200 ≤ (w.length : Int))) ((decide ((w.length : Int) < (w.length : Int))) || (decide ((if (w.length : Int) > 200 then (w.length : Int) else 200) < (w.length : Int)))) (decide ((if (w.length : Int) > 200 then (w.length : Int) else 200) < (w.length : Int))))) = false := by
      rw [decide_eq_true (show 200 ≤ (w.length : Int) by omega), cond_true, decide_eq_false (show ¬ ((w.length : Int) < (w.length : Int)) by omega), Bool.false_or, Bool.false_or, decide_eq_false_iff_not]
      split <;> omega
    rw [e, cond_false, show ((f != 4) || (((w.length : Int) == 0) || (decide (200 ≤ (w.length : Int))))) = true by rw [decide_eq_true (show 200 ≤ (w.length : Int) by omega)]; simp]
    exact ord_pre hl hs (Nat.le_refl _) (List.take_length)
  · have hlt : w.length < 200 := by omega
    obtain ⟨q1, q2⟩ := rs_len (m := m) (f := f) hlt
    rw [wsend_rs hlt, Option.bind_some]
    unfold law05_WireOrder_J2
    have e : ((decide (((rs w m f).length : Int) < (w.length : Int))) || (cond (decide (200 ≤ (w.length : Int))) ((decide ((w.length : Int) < ((rs w m f).length : Int))) || (decide ((if (w.length : Int) > 200 then (w.length : Int) else 200) < ((rs w m f).length : Int)))) (decide ((if (w.length : Int) > 200 then (w.length : Int) else 200) < ((rs w m f).length : Int))))) = false := by
      rw [decide_eq_false (show ¬ (200 ≤ (w.length : Int)) by omega), cond_false, decide_eq_false (show ¬ (((rs w m f).length : Int) < (w.length : Int)) by omega), Bool.false_or, decide_eq_false_iff_not]
      split <;> omega
    rw [e, cond_false, decide_eq_false (show ¬ (200 ≤ (w.length : Int)) by omega), Bool.or_false]
    by_cases hc : f ≠ 4 ∨ w.length = 0
    · rw [show ((f != 4) || ((w.length : Int) == 0)) = true by
        rcases hc with h | h
        · simp [h]
        · simp [h]]
      exact ord_pre hl hs q1 (rs_take hc)
    · have h4 : f = 4 := by
        rcases Int.decEq f 4 with h | h
        · exact absurd (.inl h) hc
        · exact h
      have h0 : w.length ≠ 0 := fun h => hc (.inr h)
      subst h4
      rw [show (((4 : Int) != 4) || ((w.length : Int) == 0)) = false by simp; intro e; simp [e] at h0]
      rcases List.eq_nil_or_concat w with rfl | ⟨w', x, rfl⟩
      · exact absurd rfl h0
      · simp only [List.concat_eq_append] at hlt hs ⊢
        have hl' : w'.length + 1 < 200 := by simpa using hlt
        rw [show rs (w' ++ [x]) m 4 = w' ++ [m, x] by simp [rs]]
        exact ord_swap hl' (fun y hy => hs y (by simp [hy])) (hs x (by simp)) hm
theorem WireOrder_true (y0 : List Msg) (o0 : ∀ y22 ∈ y0, Msg.ok y22) (y1 : Msg) (o1 : Msg.ok y1) (y2 : Int) (o2 : okI .u8 y2) : law05_WireOrder_f y0 y1 y2 = some true := by
  unfold law05_WireOrder_f
  rw [head_true, Option.bind_some]
  obtain ⟨r, e, h⟩ := great_eq y0
  rw [e, Option.bind_some]
  cases r with
  | true => rfl
  | false =>
    obtain ⟨r2, e2, h2⟩ := great_eq [y1]
    rw [cond_false, e2, Option.bind_some]
    cases r2 with
    | true => rfl
    | false =>
      simp only [okI] at o2
      exact order_J1 (by omega) (h rfl).1 (h rfl).2 ((h2 rfl).2 y1 (by simp))
end Go.Proofs.Yteebeajhoemdpaa
