/- WireSides as a plain law. -/
import Derived.Test.YteebeajhoemdpaaP2
import Derived.Test.YteebeajhoemdpaaG7
import Derived.Test.YteebeajhoemdpaaW
set_option linter.unusedSimpArgs false
set_option linter.unusedVariables false
namespace Go.Proofs.Yteebeajhoemdpaa
open Go.Ab Go.RowKit
/-- who is not on the side -/
def one (side : List Int) (x : Int) : List Int := if side.contains x then [] else [x]
def oth (side : List Int) : List Msg → List Int
  | [] => []
  | m :: r => one side m.from_ ++ one side m.to_ ++ oth side r
theorem one_len (side : List Int) (x : Int) : (one side x).length ≤ 1 := by unfold one; split <;> simp
theorem oth_len (side : List Int) : ∀ l : List Msg, (oth side l).length ≤ 2 * l.length
  | [] => by simp [oth]
  | m :: r => by
    have := oth_len side r
    have h1 := one_len side m.from_
    have h2 := one_len side m.to_
    simp only [oth, List.length_append, List.length_cons]; omega
theorem oth_snoc (side : List Int) (m : Msg) : ∀ l : List Msg, oth side (l ++ [m]) = oth side l ++ one side m.from_ ++ one side m.to_
  | [] => by simp [oth]
  | a :: r => by simp [oth, oth_snoc side m r]
theorem mem_one {side : List Int} {x y : Int} : y ∈ one side x ↔ y = x ∧ x ∉ side := by
  unfold one
  by_cases h : x ∈ side
  · simp [h]
  · simp [h]
theorem mem_oth {side : List Int} {y : Int} : ∀ {l : List Msg}, y ∈ oth side l ↔ ∃ m ∈ l, (y = m.from_ ∨ y = m.to_) ∧ y ∉ side
  | [] => by simp [oth]
  | m :: r => by
    simp only [oth, List.mem_append, mem_one, mem_oth (l := r), List.mem_cons, exists_eq_or_imp]
    constructor
    · rintro ((⟨rfl, h⟩ | ⟨rfl, h⟩) | h)
      · exact .inl ⟨.inl rfl, h⟩
      · exact .inl ⟨.inr rfl, h⟩
      · exact .inr h
    · rintro (⟨rfl | rfl, h⟩ | h)
      · exact .inl (.inl ⟨rfl, h⟩)
      · exact .inl (.inr ⟨rfl, h⟩)
      · exact .inr h
theorem cut_oth (side : List Int) (w : List Msg) : cutF (oth side w) w = cutF side w := by
  unfold cutF
  refine List.filter_congr fun m hm => ?_
  have h1 : (oth side w).contains m.from_ = !side.contains m.from_ := by
    rw [Bool.eq_iff_iff]
    simp only [List.contains_iff_mem, Bool.not_eq_true', mem_oth]
    constructor
    · rintro ⟨_, _, _, h⟩; simpa using h
    · intro h; exact ⟨m, hm, .inl rfl, by simpa using h⟩
  have h2 : (oth side w).contains m.to_ = !side.contains m.to_ := by
    rw [Bool.eq_iff_iff]
    simp only [List.contains_iff_mem, Bool.not_eq_true', mem_oth]
    constructor
    · rintro ⟨_, _, _, h⟩; simpa using h
    · intro h; exact ⟨m, hm, .inr rfl, by simpa using h⟩
  rw [h1, h2]
  cases side.contains m.from_ <;> cases side.contains m.to_ <;> rfl
theorem cut_cut (side : List Int) (w : List Msg) : cutF side (cutF side w) = cutF side w := by unfold cutF; rw [List.filter_filter]; simp
theorem cut_nil (w : List Msg) : cutF [] w = w := by unfold cutF; simp
theorem cut_len (side : List Int) (w : List Msg) : (cutF side w).length ≤ w.length := List.length_filter_le _ _
theorem sides_J2 {w side : List _} {others : List Int} {at1 : Int} (hw : w.length ≤ 220) (hsm : ∀ x ∈ w, Sm x) (hs : side.length ≤ 20) (ho : others = oth side w) (ha : at1 = ((cutF side w).length : Int)) :
    law05_WireSides_J2 true (cutF side w) w side others at1 = some true := by
  subst ho; subst ha
  unfold law05_WireSides_J2
  have hl := oth_len side w
  have hc := cut_len side w
  have gc : Gd (cutF side w) := ⟨by omega, fun x hx => hsm x (List.mem_filter.1 hx).1⟩
  have gw : Gd w := ⟨by omega, hsm⟩
  rw [cond_true, beq_self_eq_true, cond_true, cut_eq (by omega) (by omega), Option.bind_some, cut_oth, all_eq gc, Option.bind_some, decide_eq_true rfl, cond_true, cut_eq (by omega) (by omega), Option.bind_some, cut_cut]
  rw [all_eq gc, Option.bind_some, decide_eq_true rfl, cond_true, cut_eq (by omega) (by simp), Option.bind_some, cut_nil, all_eq gw, Option.bind_some, decide_eq_true rfl]
theorem sides_L {w : List Msg} {side : List Int} (hw : w.length ≤ 220) (hsm : ∀ x ∈ w, Sm x) (hs : side.length ≤ 20) : ∀ m k, w.length < m + k → k ≤ w.length →
    law05_WireSides_L1 w side (cutF side w) true m (oth side (w.take k)) (((cutF side (w.take k)).length : Nat) : Int) (k : Int) = some true := by
  intro m
  induction m with
  | zero => intro k h1 h2; omega
  | succ m ih =>
    intro k h1 h2
    have hol := oth_len side (w.take k)
    have htl : (w.take k).length = k := by simp; omega
    have hcl := cut_len side (w.take k)
    rw [law05_WireSides_L1, cond_d]
    by_cases hk : k < w.length
    · have h3 := ih (k + 1) (by omega) (by omega)
      rw [take_snoc hk, oth_snoc] at h3
      have hcs : cutF side (w.take k ++ [w[k]]) = cutF side (w.take k) ++ (if (side.contains w[k].from_ == side.contains w[k].to_) = true then [w[k]] else []) := by
        unfold cutF; rw [List.filter_append, List.filter_cons, List.filter_nil]
      rw [hcs] at h3
      have h5 : ∀ others5 : List Int, others5 = oth side (w.take k) ++ one side w[k].from_ ++ one side w[k].to_ →
          law05_WireSides_J5 (law05_WireSides_L1 w side (cutF side w) true m) w (k : Int) side (cutF side w) (((cutF side (w.take k)).length : Nat) : Int) others5 = some true := by
        rintro others5 rfl
        unfold law05_WireSides_J5
        rw [idx_nat hk, Option.bind_some, has_eq (by omega), Option.bind_some, has_eq (by omega), Option.bind_some]
        by_cases hc : (side.contains w[k].from_ == side.contains w[k].to_) = true
        · rw [if_pos hc] at h3
          have hsp : cutF side w = cutF side (w.take k) ++ w[k] :: cutF side (w.drop (k + 1)) := by
            have h6 : w = w.take k ++ w[k] :: w.drop (k + 1) := by rw [← drop_cons hk, List.take_append_drop]
            have h7 : cutF side (w.take k ++ w[k] :: w.drop (k + 1)) = cutF side (w.take k) ++ w[k] :: cutF side (w.drop (k + 1)) := by
              unfold cutF; rw [List.filter_append, List.filter_cons, if_pos hc]
            rw [← h6] at h7; exact h7
          have hlt : (cutF side (w.take k)).length < (cutF side w).length := by rw [hsp]; simp
          have hg : (cutF side w)[(cutF side (w.take k)).length]'hlt = w[k] := by
            simp only [hsp, List.getElem_append_right (Nat.le_refl _), Nat.sub_self, List.getElem_cons_zero]
          have hd : decide (((cutF side w).length : Int) ≤ (((cutF side (w.take k)).length : Nat) : Int)) = false := decide_eq_false (by omega)
          rw [hc, cond_true, hd, cond_false, idx_nat hlt, Option.bind_some, hg, same_eq (hsm _ (List.getElem_mem hk)), Option.bind_some, decide_eq_true rfl]
          unfold law05_WireSides_J6 law05_WireSides_J3
          rw [Bool.not_true, cond_false, w64_succ (by omega), w64_succ (by omega)]
          rw [List.length_append, List.length_singleton] at h3
          exact h3
        · rw [if_neg hc, List.append_nil] at h3
          rw [Bool.eq_false_iff.2 hc, cond_false]
          unfold law05_WireSides_J3
          rw [w64_succ (by omega)]
          exact h3
      have h4 : ∀ others4 : List Int, others4 = oth side (w.take k) ++ one side w[k].from_ →
          law05_WireSides_J4 (law05_WireSides_L1 w side (cutF side w) true m) w (k : Int) side (cutF side w) (((cutF side (w.take k)).length : Nat) : Int) others4 = some true := by
        rintro others4 rfl
        have := one_len side w[k].from_
        unfold law05_WireSides_J4
        rw [idx_nat hk, Option.bind_some, has_eq (by omega), Option.bind_some]
        cases hc : side.contains w[k].to_ with
        | true => rw [Bool.not_true, cond_false]; exact h5 _ (by rw [show one side w[k].to_ = [] by unfold one; rw [if_pos hc]]; simp)
        | false =>
          rw [Bool.not_false, cond_true, chk_pos (by simp; omega)]
          exact h5 _ (by rw [show one side w[k].to_ = [w[k].to_] by unfold one; rw [if_neg (by rw [hc]; simp)]])
      rw [if_pos (by omega), idx_nat hk, Option.bind_some, has_eq (by omega), Option.bind_some]
      cases hc : side.contains w[k].from_ with
      | true => rw [Bool.not_true, cond_false]; exact h4 _ (by rw [show one side w[k].from_ = [] by unfold one; rw [if_pos hc]]; simp)
      | false =>
        rw [Bool.not_false, cond_true, chk_pos (by omega)]
        exact h4 _ (by rw [show one side w[k].from_ = [w[k].from_] by unfold one; rw [if_neg (by rw [hc]; simp)]])
    · rw [if_neg (by omega)]
      obtain rfl : k = w.length := by omega
      rw [List.take_length]
      exact sides_J2 hw hsm hs rfl rfl
theorem WireSides_true (y0 : List Msg) (o0 : ∀ y22 ∈ y0, Msg.ok y22) (y1 : List Int) (o1 : ∀ y23 ∈ y1, okI .i64 y23) : law05_WireSides_f y0 y1 = some true := by
  unfold law05_WireSides_f
  rw [head_true, Option.bind_some]
  obtain ⟨r, e, h⟩ := great_eq y0
  rw [e, Option.bind_some]
  cases r with
  | true => rfl
  | false =>
    cases hv : decide (20 < (y1.length : Int)) with
    | true => rfl
    | false =>
      have hn : ¬ (20 < (y1.length : Int)) := of_decide_eq_false hv
      obtain ⟨h1, h2⟩ := h rfl
      unfold law05_WireSides_J1
      rw [Bool.or_false, cond_false, cut_eq (by omega) (by omega), Option.bind_some]
      exact sides_L h1 h2 (by omega) BIG 0 (by rw [BIG_eq]; omega) (by omega)
end Go.Proofs.Yteebeajhoemdpaa
