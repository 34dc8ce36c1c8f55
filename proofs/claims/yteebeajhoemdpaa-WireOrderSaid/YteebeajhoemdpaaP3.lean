/- WireTells as a plain law. -/
import Derived.Test.YteebeajhoemdpaaP2
import Derived.Test.YteebeajhoemdpaaG3
import Derived.Test.YteebeajhoemdpaaW
set_option linter.unusedSimpArgs false
set_option linter.unusedVariables false
namespace Go.Proofs.Yteebeajhoemdpaa
open Go.Ab Go.RowKit
theorem rtake_in {w : List Msg} {k : Nat} (h : w.length ≤ 1000) (hk : k < w.length) : ref05_Take_f w (k : Int) = some (w.take k ++ w.drop (k + 1), w[k], true) := by
  unfold ref05_Take_f ref05_Take_J1
  have e : ((decide ((k : Int) < 0)) || (decide ((w.length : Int) ≤ k))) = false := by simp; omega
  rw [e, cond_false, w64_succ (by omega)]
  simp only [Int.toNat_natCast, List.drop_zero, List.nil_append]
  rw [chk_pos (by omega), chk_pos (by simp; omega), chk_pos (by omega), chk_pos (by simp; omega), idx_nat hk, Option.bind_some]
theorem rtake_no {w : List Msg} {i : Int} (hi : i < 0 ∨ (w.length : Int) ≤ i) : ref05_Take_f w i = some (w, ⟨0, 0, 0, [], []⟩, false) := by
  unfold ref05_Take_f ref05_Take_J1
  have e : ((decide (i < 0)) || (decide ((w.length : Int) ≤ i))) = true := by simpa using hi
  rw [e, cond_true]
theorem wtake_no {w : List Msg} {i : Int} (hi : i < 0 ∨ (w.length : Int) ≤ i) : wire_Take_f w i = some (w, ⟨0, 0, 0, [], []⟩, false) := by
  unfold wire_Take_f wire_Take_J1
  have e : ((decide (i < 0)) || (decide ((w.length : Int) ≤ i))) = true := by simpa using hi
  rw [e, cond_true]
theorem take_same {w : List Msg} {i : Int} (h : w.length ≤ 220) (hs : ∀ x ∈ w, Sm x) : ∃ t, wire_Take_f w i = some t ∧ ref05_Take_f w i = some t ∧ Gd t.1 ∧ Sm t.2.1 := by
  by_cases hi : i < 0 ∨ (w.length : Int) ≤ i
  · exact ⟨_, wtake_no hi, rtake_no hi, ⟨by simp; omega, hs⟩, ⟨by simp, by simp⟩⟩
  · obtain ⟨k, rfl⟩ : ∃ k : Nat, i = k := ⟨i.toNat, by omega⟩
    have hk : k < w.length := by omega
    refine ⟨_, take_in (by omega) hk, rtake_in (by omega) hk, ⟨by simp; omega, fun x hx => ?_⟩, hs _ (List.getElem_mem hk)⟩
    exact hs x ((List.mem_append.1 hx).elim List.mem_of_mem_take List.mem_of_mem_drop)
theorem rto_L {w : List Msg} {who : Int} (h : w.length ≤ 1000) : ∀ f k, w.length < f + k → k ≤ w.length → ref05_To_L1 w who f (toI who 0 (w.take k)) (k : Int) = some (toI who 0 w) := by
  intro f
  induction f with
  | zero => intro k h1 h2; omega
  | succ f ih =>
    intro k h1 h2
    have hl := toI_len who 0 (w.take k)
    rw [ref05_To_L1, cond_d]
    by_cases hk : k < w.length
    · have h3 := ih (k + 1) (by omega) (by omega)
      rw [take_snoc hk, toI_snoc, show 0 + (w.take k).length = k by simp; omega] at h3
      rw [if_pos (by omega), idx_nat hk, Option.bind_some]
      unfold ref05_To_J2
      rw [w64_succ (by omega)]
      by_cases hx : w[k].to_ = who
      · rw [if_pos hx] at h3
        rw [show (w[k].to_ == who) = true by simpa using hx, cond_true, chk_pos (by simp at hl; omega)]
        exact h3
      · rw [if_neg hx, List.append_nil] at h3
        rw [show (w[k].to_ == who) = false by simpa using hx, cond_false]
        exact h3
    · rw [if_neg (by omega), List.take_of_length_le (by omega)]
      rfl
theorem rto_eq {w : List Msg} {who : Int} (h : w.length ≤ 1000) : ref05_To_f w who = some (toI who 0 w) := rto_L h BIG 0 (by rw [BIG_eq]; omega) (by omega)
theorem rcut_L {w : List Msg} {side : List Int} (h : w.length ≤ 1000) (hs : side.length ≤ 1000) : ∀ f k, w.length < f + k → k ≤ w.length → ref05_Cut_L1 w side f (cutF side (w.take k)) (k : Int) = some (cutF side w) := by
  intro f
  induction f with
  | zero => intro k h1 h2; omega
  | succ f ih =>
    intro k h1 h2
    have hl : (cutF side (w.take k)).length ≤ (w.take k).length := List.length_filter_le _ _
    rw [ref05_Cut_L1, cond_d]
    by_cases hk : k < w.length
    · have h3 := ih (k + 1) (by omega) (by omega)
      have hcs : cutF side (w.take k ++ [w[k]]) = cutF side (w.take k) ++ (if (side.contains w[k].from_ == side.contains w[k].to_) = true then [w[k]] else []) := by
        unfold cutF; rw [List.filter_append, List.filter_cons, List.filter_nil]
      rw [take_snoc hk, hcs] at h3
      rw [if_pos (by omega), idx_nat hk, Option.bind_some, has_eq (by omega), Option.bind_some, has_eq (by omega), Option.bind_some]
      unfold ref05_Cut_J2
      rw [w64_succ (by omega)]
      by_cases hx : (side.contains w[k].from_ == side.contains w[k].to_) = true
      · rw [if_pos hx] at h3
        rw [hx, cond_true, chk_pos (by simp at hl; omega)]
        exact h3
      · rw [if_neg hx, List.append_nil] at h3
        rw [Bool.eq_false_iff.2 hx, cond_false]
        exact h3
    · rw [if_neg (by omega), List.take_of_length_le (by omega)]
      rfl
theorem rcut_eq {w : List Msg} {side : List Int} (h : w.length ≤ 1000) (hs : side.length ≤ 1000) : ref05_Cut_f w side = some (cutF side w) := rcut_L h hs BIG 0 (by rw [BIG_eq]; omega) (by omega)
theorem rsend_full {w : List Msg} {m : Msg} {f : Int} (h : 200 ≤ w.length) (h2 : w.length ≤ 220) : ref05_Send_f w m f = some w := by
  unfold ref05_Send_f
  rw [chk_pos (by omega), cond_d, if_pos (by omega)]; rfl
/-- the model, below its bound -/
def rs (w : List Msg) (m : Msg) (f : Int) : List Msg :=
  if f = 1 then w ++ [m] else if f = 3 then (if w.length + 1 < 200 then w ++ [m, m] else w ++ [m]) else if f = 4 then (if w.length = 0 then w ++ [m] else w.take (w.length - 1) ++ [m] ++ w.drop (w.length - 1)) else w
theorem rsend_eq {w : List Msg} {m : Msg} {f : Int} (h : w.length < 200) : ref05_Send_f w m f = some (rs w m f) := by
  unfold ref05_Send_f rs
  rw [chk_pos (by omega), cond_d, if_neg (by omega)]
  simp only [List.nil_append]
  unfold ref05_Send_J8 ref05_Send_J1 ref05_Send_J7 ref05_Send_J2 ref05_Send_J6 ref05_Send_J3 ref05_Send_J5 ref05_Send_J4
  by_cases h1 : f = 1
  · subst h1
    rw [show (((1 : Int) == 1) || ((1 : Int) == 3)) = true by decide, show ((1 : Int) == 3) = false by decide, show ((1 : Int) == 4) = false by decide, cond_true, chk_pos (by omega)]
    simp
  · by_cases h3 : f = 3
    · subst h3
      rw [show (((3 : Int) == 1) || ((3 : Int) == 3)) = true by decide, show ((3 : Int) == 3) = true by decide, show ((3 : Int) == 4) = false by decide, cond_true, chk_pos (by omega), Bool.true_and, cond_d]
      by_cases hl : w.length + 1 < 200
      · rw [if_pos (by simp; omega), chk_pos (by simp; omega)]
        simp [hl]
      · rw [if_neg (by simp; omega)]
        simp [hl]
    · by_cases h4 : f = 4
      · subst h4
        rw [show (((4 : Int) == 1) || ((4 : Int) == 3)) = false by decide, show ((4 : Int) == 3) = false by decide, show ((4 : Int) == 4) = true by decide, cond_false, Bool.false_and, cond_false, Bool.true_and, Bool.true_and]
        by_cases hl : w.length = 0
        · rw [show ((w.length : Int) == 0) = true by simp [hl], cond_true, chk_pos (by omega), show decide (0 < (w.length : Int)) = false by simp [hl]]
          simp [hl]
        · rw [show ((w.length : Int) == 0) = false by simp; intro e; simp [e] at hl, cond_false, show decide (0 < (w.length : Int)) = true by simp; omega, cond_true, w64 (by omega) (by omega), show (w.length : Int) - 1 = ((w.length - 1 : Nat) : Int) by omega]
          simp only [Int.toNat_natCast, List.drop_zero]
          rw [chk_pos (by omega), chk_pos (by simp; omega), chk_pos (by simp; omega), idx_nat (show w.length - 1 < w.length by omega), Option.bind_some, chk_pos (by simp; omega)]
          have hd : w.drop (w.length - 1) = [w[w.length - 1]'(by omega)] := by
            rw [drop_cons (show w.length - 1 < w.length by omega), List.drop_of_length_le (by omega)]
          simp [hl, hd]
      · rw [show ((f == 1) || (f == 3)) = false by simp [h1, h3], show (f == 3) = false by simp [h3], show (f == 4) = false by simp [h4]]
        simp [h1, h3, h4]
theorem wsend4_nil {m : Msg} : wire_Send_f [] m 4 = some [m] := by
  unfold wire_Send_f
  rw [room_eq (l := [m]) (by simp) (by simp), show room [] [m] = [m] from rfl]
  have h1 : ((4 : Int) == 1) = false := by decide
  have h2 : ((4 : Int) == 3) = false := by decide
  have h3 : ((4 : Int) == 4) = true := by decide
  rw [h1, h2, h3]
  simp only [cond_false, cond_true, Option.bind_some]
  unfold wire_Send_J2 wire_Send_J1
  have e : ((decide ((([] : List Msg).length : Int) < ((([m] : List Msg).length : Nat) : Int))) && (decide (1 < ((([m] : List Msg).length : Nat) : Int)))) = false := by simp
  rw [e, cond_false]
theorem wsend_else {w : List Msg} {m : Msg} {f : Int} (h : w.length ≤ 1000) (h1 : f ≠ 1) (h3 : f ≠ 3) (h4 : f ≠ 4) : wire_Send_f w m f = some w := by
  unfold wire_Send_f
  rw [show (f == 1) = false by simp [h1], show (f == 3) = false by simp [h3], show (f == 4) = false by simp [h4], clone_eq (by omega)]
  rfl
theorem room_full {w l : List Msg} (h : 200 ≤ w.length) : room w l = w := by unfold room; rw [show 200 - w.length = 0 by omega]; simp
theorem wsend4_full {w : List Msg} {m : Msg} (h : 200 ≤ w.length) (h2 : w.length ≤ 1000) : wire_Send_f w m 4 = some w := by
  unfold wire_Send_f
  rw [room_eq (l := [m]) (by omega) (by simp), room_full h]
  have h1 : ((4 : Int) == 1) = false := by decide
  have h2 : ((4 : Int) == 3) = false := by decide
  have h3 : ((4 : Int) == 4) = true := by decide
  rw [h1, h2, h3]
  simp only [cond_false, cond_true, Option.bind_some]
  unfold wire_Send_J2 wire_Send_J1
  have e : ((decide ((w.length : Int) < (((w.length : Nat)) : Int))) && (decide (1 < (((w.length : Nat)) : Int)))) = false := by simp
  rw [e, cond_false]
theorem send_same {w : List Msg} {m : Msg} {f : Int} (h : w.length ≤ 220) : ∃ r, wire_Send_f w m f = some r ∧ ref05_Send_f w m f = some r ∧ r.length ≤ 222 ∧ ∀ x ∈ r, x ∈ w ∨ x = m := by
  by_cases hf : 200 ≤ w.length
  · refine ⟨w, ?_, rsend_full hf h, by omega, fun x hx => .inl hx⟩
    by_cases h1 : f = 1
    · subst h1; rw [send1_eq (by omega), room_full hf]
    · by_cases h3 : f = 3
      · subst h3; rw [send3_eq (by omega), room_full hf]
      · by_cases h4 : f = 4
        · subst h4; exact wsend4_full hf (by omega)
        · exact wsend_else (by omega) h1 h3 h4
  · have hl : w.length < 200 := by omega
    by_cases h1 : f = 1
    · subst h1
      refine ⟨w ++ [m], ?_, (rsend_eq hl).trans (by simp [rs]), by simp; omega, fun x hx => by simpa using hx⟩
      rw [send1_eq (by omega)]; unfold room; rw [List.take_of_length_le (by simp; omega)]
    · by_cases h3 : f = 3
      · subst h3
        by_cases hx : w.length + 1 < 200
        · refine ⟨w ++ [m, m], ?_, (rsend_eq hl).trans (by simp [rs, hx]), by simp; omega, fun x hx => by simpa using hx⟩
          rw [send3_eq (by omega)]; unfold room; rw [List.take_of_length_le (by simp; omega)]
        · refine ⟨w ++ [m], ?_, (rsend_eq hl).trans (by simp [rs, hx]), by simp; omega, fun x hx => by simpa using hx⟩
          rw [send3_eq (by omega)]; unfold room; rw [show 200 - w.length = 1 by omega]; rfl
      · by_cases h4 : f = 4
        · subst h4
          rcases List.eq_nil_or_concat w with rfl | ⟨w', x, rfl⟩
          · exact ⟨[m], wsend4_nil, (rsend_eq hl).trans (by simp [rs]), by simp, fun x hx => .inr (by simpa using hx)⟩
          · simp only [List.concat_eq_append] at hl h ⊢
            have hl' : w'.length + 1 < 200 := by simpa using hl
            refine ⟨w' ++ [m, x], send4_eq hl', (rsend_eq hl).trans (by simp [rs]), by simp; omega, fun y hy => ?_⟩
            simp only [List.mem_append, List.mem_cons, List.not_mem_nil, or_false] at hy ⊢
            rcases hy with h | h | h
            · exact .inl (.inl h)
            · exact .inr h
            · exact .inl (.inr h)
        · exact ⟨w, wsend_else (by omega) h1 h3 h4, (rsend_eq hl).trans (by simp [rs, h1, h3, h4]), by omega, fun x hx => .inl hx⟩
theorem WireTells_true (y0 : List Msg) (o0 : ∀ y22 ∈ y0, Msg.ok y22) (y1 : Msg) (o1 : Msg.ok y1) (y2 : Int) (o2 : okI .i64 y2) (y3 : Int) (o3 : okI .i64 y3) (y4 : List Int) (o4 : ∀ y23 ∈ y4, okI .i64 y23) : law05_WireTells_f y0 y1 y2 y3 y4 = some true := by
  unfold law05_WireTells_f
  rw [head_true, Option.bind_some]
  obtain ⟨r, e, h⟩ := great_eq y0
  rw [e, Option.bind_some]
  cases r with
  | true => rfl
  | false =>
    obtain ⟨r2, e2, h2⟩ := great_eq [y1]
    rw [cond_false, e2, Option.bind_some]
    cases r2 with
    | true => rfl
    | false =>
      cases hv : decide (20 < (y4.length : Int)) with
      | true => rfl
      | false =>
        have hn : ¬ (20 < (y4.length : Int)) := of_decide_eq_false hv
        obtain ⟨hl, hs⟩ := h rfl
        have hm : Sm y1 := (h2 rfl).2 y1 (by simp)
        obtain ⟨t, t1, t2, t3, t4⟩ := take_same (i := y3) hl hs
        obtain ⟨s, s1, s2, s3, s4⟩ := send_same (m := y1) (f := y2) hl
        have gs : Gd s := ⟨by omega, fun x hx => (s4 x hx).elim (hs x) (fun e => e ▸ hm)⟩
        have hc : (cutF y4 y0).length ≤ y0.length := List.length_filter_le _ _
        have gc : Gd (cutF y4 y0) := ⟨by omega, fun x hx => hs x (List.mem_filter.1 hx).1⟩
        have hti := toI_len y1.to_ 0 y0
        unfold law05_WireTells_J1
        rw [Bool.false_or, cond_false, t1, Option.bind_some, t2, Option.bind_some, cond_true, s1, Option.bind_some, s2, Option.bind_some, all_eq gs, Option.bind_some, decide_eq_true rfl, cond_true, all_eq t3, Option.bind_some, decide_eq_true rfl, cond_true, same_eq t4, Option.bind_some, decide_eq_true rfl, cond_true, beq_self_eq_true, cond_true]
        rw [to_eq (by omega), Option.bind_some, rto_eq (by omega), Option.bind_some, ints_eq (by omega), Option.bind_some, decide_eq_true rfl, cond_true, cut_eq (by omega) (by omega), Option.bind_some, rcut_eq (by omega) (by omega), Option.bind_some, all_eq gc, Option.bind_some, decide_eq_true rfl]
end Go.Proofs.Yteebeajhoemdpaa
