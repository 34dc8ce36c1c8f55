/- WireTo as a plain law. -/
import Derived.Test.YteebeajhoemdpaaP2
import Derived.Test.YteebeajhoemdpaaG8
import Derived.Test.YteebeajhoemdpaaW
set_option linter.unusedSimpArgs false
set_option linter.unusedVariables false
namespace Go.Proofs.Yteebeajhoemdpaa
open Go.Ab Go.RowKit
theorem toI_app (who : Int) : ∀ (k : Nat) (a b : List Msg), toI who k (a ++ b) = toI who k a ++ toI who (k + a.length) b
  | k, [], b => by simp [toI]
  | k, m :: r, b => by
    have := toI_app who (k + 1) r b
    simp only [List.cons_append, toI, this, List.length_cons]
    rw [show k + 1 + r.length = k + (r.length + 1) by omega]
    split <;> simp
theorem room_one {w : List Msg} {m : Msg} (h : w.length ≤ 190) : wire_Send_f w m 1 = some (w ++ [m]) := by
  rw [send1_eq (by omega)]; unfold room; rw [List.take_of_length_le (by simp; omega)]
theorem to_ints {a b : List Int} (h : a.length ≤ 1000000) (e : a = b) : ref02_Ints_f a b = some true := by rw [ints_eq h, decide_eq_true e]
theorem to_L {w1 : List Msg} {m1 : Msg} (hw : w1.length ≤ 190) : ∀ m k, w1.length < m + k → k ≤ w1.length →
    law05_WireTo_L1 w1 (toI m1.to_ 0 w1) m1 true m (((toI m1.to_ 0 (w1.take k)).length : Nat) : Int) (k : Int) = some true := by
  intro m
  induction m with
  | zero => intro k h1 h2; omega
  | succ m ih =>
    intro k h1 h2
    have hl1 := toI_len m1.to_ 0 w1
    have hl2 := toI_len m1.to_ 0 (w1.take k)
    have hsp : toI m1.to_ 0 w1 = toI m1.to_ 0 (w1.take k) ++ toI m1.to_ k (w1.drop k) := by
      have := toI_app m1.to_ 0 (w1.take k) (w1.drop k)
      rw [List.take_append_drop] at this
      rw [this, show 0 + (w1.take k).length = k by simp; omega]
    rw [law05_WireTo_L1, cond_d]
    by_cases hk : k < w1.length
    · have hdr : w1.drop k = w1[k] :: w1.drop (k + 1) := drop_cons hk
      have htk : w1.take (k + 1) = w1.take k ++ [w1[k]] := take_snoc hk
      have h3 := ih (k + 1) (by omega) (by omega)
      rw [htk, toI_snoc, show 0 + (w1.take k).length = k by simp; omega] at h3
      rw [if_pos (by omega), cond_d]
      by_cases hto : (w1[k]).to_ = m1.to_
      · rw [if_pos hto] at h3
        have hsp' : toI m1.to_ 0 w1 = toI m1.to_ 0 (w1.take k) ++ (k : Int) :: toI m1.to_ (k + 1) (w1.drop (k + 1)) := by
          rw [hsp, hdr, toI, if_pos hto]
        have hlt : (toI m1.to_ 0 (w1.take k)).length < (toI m1.to_ 0 w1).length := by rw [hsp']; simp
        have hg : (toI m1.to_ 0 w1)[(toI m1.to_ 0 (w1.take k)).length]'hlt = (k : Int) := by
          simp only [hsp', List.getElem_append_right (Nat.le_refl _), Nat.sub_self, List.getElem_cons_zero]
        rw [if_pos (by omega), idx_nat hlt, Option.bind_some, hg]
        unfold law05_WireTo_J4
        rw [beq_self_eq_true, cond_true, idx_nat hk, Option.bind_some, show ((w1[k]).to_ != m1.to_) = false by simp [hto], cond_false]
        unfold law05_WireTo_J3
        rw [w64_succ (by omega), w64_succ (by omega)]
        rw [List.length_append] at h3
        exact h3
      · rw [if_neg hto, List.append_nil] at h3
        have hJ : ∀ v : Bool, v = false → law05_WireTo_J4 (law05_WireTo_L1 w1 (toI m1.to_ 0 w1) m1 true m) w1 (k : Int) m1 (((toI m1.to_ 0 (w1.take k)).length : Nat) : Int) v = some true := by
          rintro v rfl
          unfold law05_WireTo_J4
          rw [cond_false, idx_nat hk, Option.bind_some, show ((w1[k]).to_ == m1.to_) = false by simp [hto], cond_false]
          unfold law05_WireTo_J3
          rw [w64_succ (by omega)]
          exact h3
        split
        · rename_i hlt
          have hlt' : (toI m1.to_ 0 (w1.take k)).length < (toI m1.to_ 0 w1).length := by omega
          rw [idx_nat hlt', Option.bind_some]
          refine hJ _ ?_
          rw [beq_eq_false_iff_ne]
          have hmem : ∀ (a : Nat) (l : List Msg), ∀ x ∈ toI m1.to_ a l, (a : Int) ≤ x := by
            intro a l
            induction l generalizing a with
            | nil => intro x hx; cases hx
            | cons c r ihr =>
              intro x hx
              unfold toI at hx
              split at hx
              · rcases List.mem_cons.1 hx with rfl | hx
                · omega
                · have := ihr _ x hx; omega
              · have := ihr _ x hx; omega
          have hsp2 : toI m1.to_ 0 w1 = toI m1.to_ 0 (w1.take k) ++ toI m1.to_ (k + 1) (w1.drop (k + 1)) := by
            rw [hsp, hdr, toI, if_neg hto]
          have hge : ((k + 1 : Nat) : Int) ≤ (toI m1.to_ 0 w1)[(toI m1.to_ 0 (w1.take k)).length]'hlt' := by
            refine hmem (k + 1) (w1.drop (k + 1)) _ ?_
            simp only [hsp2, List.getElem_append_right (Nat.le_refl _)]
            exact List.getElem_mem _
          omega
        · exact hJ _ rfl
    · rw [if_neg (by omega)]
      have hke : k = w1.length := by omega
      subst hke
      rw [List.take_length]
      unfold law05_WireTo_J2
      rw [room_one hw, Option.bind_some, to_eq (by simp; omega), Option.bind_some, cond_true, beq_self_eq_true, cond_true, chk_pos (by omega), chk_pos (by omega)]
      rw [to_ints (by rw [toI_snoc, List.length_append, if_pos rfl, List.length_singleton]; omega) (by rw [toI_snoc, if_pos rfl]; simp)]
      rfl
theorem WireTo_true (y0 : List Msg) (o0 : ∀ y22 ∈ y0, Msg.ok y22) (y1 : Msg) (o1 : Msg.ok y1) : law05_WireTo_f y0 y1 = some true := by
  unfold law05_WireTo_f
  rw [head_true, Option.bind_some]
  obtain ⟨r, e, h⟩ := great_eq y0
  rw [e, Option.bind_some]
  cases r with
  | true => rfl
  | false =>
    obtain ⟨r2, e2, h2⟩ := great_eq [y1]
    rw [cond_false, e2, Option.bind_some]
    cases r2 with
    | true => rfl
    | false =>
      cases hv : decide (190 < (y0.length : Int)) with
      | true => rfl
      | false =>
        have hn : ¬ (190 < (y0.length : Int)) := of_decide_eq_false hv
        unfold law05_WireTo_J1
        rw [Bool.false_or, cond_false, to_eq (by omega), Option.bind_some]
        have := to_L (w1 := y0) (m1 := y1) (by omega) BIG 0 (by rw [BIG_eq]; omega) (by omega)
        exact this
end Go.Proofs.Yteebeajhoemdpaa
