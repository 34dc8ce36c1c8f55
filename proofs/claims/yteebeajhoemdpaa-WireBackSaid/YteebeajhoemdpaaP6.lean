/- WireBack as a plain law. -/
import Derived.Test.YteebeajhoemdpaaP2
import Derived.Test.YteebeajhoemdpaaG6
import Derived.Test.YteebeajhoemdpaaW
set_option linter.unusedSimpArgs false
set_option linter.unusedVariables false
namespace Go.Proofs.Yteebeajhoemdpaa
open Go.Ab Go.RowKit
theorem gd_app {a b : List Msg} (ha : ∀ x ∈ a, Sm x) (hb : ∀ x ∈ b, Sm x) : ∀ x ∈ a ++ b, Sm x := fun x hx => (List.mem_append.1 hx).elim (ha x) (hb x)
theorem room_all {w l : List Msg} (h : w.length + l.length ≤ 200) : room w l = w ++ l := by unfold room; rw [List.take_of_length_le (by omega)]
theorem take_last {w : List Msg} {m : Msg} (h : w.length ≤ 900) : wire_Take_f (w ++ [m]) (w.length : Int) = some (w, m, true) := by
  rw [take_in (by simp; omega) (by simp)]; simp [List.drop_of_length_le]
theorem back_J1 {w1 : List Msg} {m1 : Msg} (hw : w1.length ≤ 190) (hs : ∀ x ∈ w1, Sm x) (hm : Sm m1) : law05_WireBack_J1 true w1 m1 false = some true := by
  unfold law05_WireBack_J1
  have hm' : ∀ x ∈ [m1], Sm x := fun x hx => by simp at hx; subst hx; exact hm
  have g1 : Gd w1 := ⟨by omega, hs⟩
  have g2 : Gd (w1 ++ [m1]) := ⟨by simp; omega, gd_app hs hm'⟩
  have e1 : wire_Send_f w1 m1 1 = some (w1 ++ [m1]) := by rw [send1_eq (by omega), room_all (by simp; omega)]
  have e3 : wire_Send_f w1 m1 3 = some (w1 ++ [m1, m1]) := by rw [send3_eq (by omega), room_all (by simp; omega)]
  have t1 : wire_Take_f (w1 ++ [m1]) (w1.length : Int) = some (w1, m1, true) := by
    rw [take_in (by simp; omega) (by simp)]; simp [List.drop_of_length_le]
  have t2 : wire_Take_f (w1 ++ [m1, m1]) (w1.length : Int) = some (w1 ++ [m1], m1, true) := by
    rw [take_in (by simp; omega) (by simp)]; simp [List.drop_append]
  have t3 : wire_Take_f (w1 ++ [m1, m1]) (IntKind.wrap .i64 ((w1.length : Int) + 1)) = some (w1 ++ [m1], m1, true) := by
    have h := take_last (w := w1 ++ [m1]) (m := m1) (by simp; omega)
    rw [List.length_append, List.length_singleton, List.append_assoc] at h
    rw [w64_succ (by omega)]; exact h
  rw [cond_false, e1, Option.bind_some, t1, Option.bind_some, e3, Option.bind_some, t2, Option.bind_some, t3, Option.bind_some]
  simp only [cond_true]
  rw [same_eq hm]
  simp only [Option.bind_some, decide_true, cond_true]
  rw [all_eq g1]
  simp only [Option.bind_some, decide_true, cond_true]
  rw [all_eq g2]
  simp only [Option.bind_some, decide_true, cond_true]
theorem WireBack_true (y0 : List Msg) (o0 : ∀ y22 ∈ y0, Msg.ok y22) (y1 : Msg) (o1 : Msg.ok y1) : law05_WireBack_f y0 y1 = some true := by
  unfold law05_WireBack_f
  rw [head_true, Option.bind_some]
  obtain ⟨r, e, h⟩ := great_eq y0
  rw [e, Option.bind_some]
  cases r with
  | true => rfl
  | false =>
    obtain ⟨r2, e2, h2⟩ := great_eq [y1]
    rw [cond_false, e2, Option.bind_some]
    cases r2 with
    | true => rfl
    | false =>
      cases hv : decide (190 < (y0.length : Int)) with
      | true => rfl
      | false =>
        have : ¬ (190 < (y0.length : Int)) := of_decide_eq_false hv
        exact back_J1 (by omega) (h rfl).2 ((h2 rfl).2 y1 (by simp))
end Go.Proofs.Yteebeajhoemdpaa
