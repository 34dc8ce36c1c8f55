/- WireCounts as a plain law. -/
import Derived.Test.YteebeajhoemdpaaP2
import Derived.Test.YteebeajhoemdpaaG4
import Derived.Test.YteebeajhoemdpaaW
set_option linter.unusedSimpArgs false
set_option linter.unusedVariables false
namespace Go.Proofs.Yteebeajhoemdpaa
open Go.Ab Go.RowKit
/-- how often -/
def cnt (m : Msg) (w : List Msg) : Nat := (w.filter fun x => decide (x = m)).length
def c1 (m x : Msg) : Nat := if x = m then 1 else 0
theorem cnt_nil (m : Msg) : cnt m [] = 0 := rfl
theorem cnt_cons (m x : Msg) (w : List Msg) : cnt m (x :: w) = c1 m x + cnt m w := by
  unfold cnt c1
  by_cases h : x = m
  · rw [List.filter_cons, if_pos (decide_eq_true h), if_pos h, List.length_cons]; omega
  · rw [List.filter_cons, if_neg (by simpa using h), if_neg h]; omega
theorem cnt_app (m : Msg) : ∀ a b : List Msg, cnt m (a ++ b) = cnt m a + cnt m b
  | [], b => by simp [cnt_nil]
  | x :: a, b => by rw [List.cons_append, cnt_cons, cnt_cons, cnt_app m a b]; omega
theorem cnt_len (m : Msg) (w : List Msg) : cnt m w ≤ w.length := List.length_filter_le _ _
theorem many_L {w : List Msg} {m : Msg} (hw : Gd w) : ∀ f k (n : Int), w.length < f + k → k ≤ w.length → 0 ≤ n → n ≤ 1000 + k → ref05_Many_L1 w m f n (k : Int) = some (n + (cnt m (w.drop k) : Nat)) := by
  have hl := hw.1
  intro f
  induction f with
  | zero => intro k n h1 h2; omega
  | succ f ih =>
    intro k n h1 h2 h3 h4
    rw [ref05_Many_L1, cond_d]
    by_cases hk : k < w.length
    · rw [if_pos (by omega), idx_nat hk, Option.bind_some, same_eq (hw.2 _ (List.getElem_mem hk)), Option.bind_some, drop_cons hk, cnt_cons]
      unfold ref05_Many_J2 c1
      rw [w64_succ (by omega)]
      by_cases hx : w[k] = m
      · rw [decide_eq_true hx, cond_true, w64 (by omega) (by omega), ih (k + 1) (n + 1) (by omega) (by omega) (by omega) (by omega), if_pos hx]
        congr 1; omega
      · rw [decide_eq_false hx, cond_false, ih (k + 1) n (by omega) (by omega) (by omega) (by omega), if_neg hx]
        congr 1; omega
    · rw [if_neg (by omega), List.drop_of_length_le (by omega)]
      unfold ref05_Many_J1
      rw [cnt_nil]; congr 1; omega
theorem many_eq {w : List Msg} {m : Msg} (hw : Gd w) : ref05_Many_f w m = some ((cnt m w : Nat) : Int) := by
  have h := many_L (m := m) hw BIG 0 0 (by have := hw.1; rw [BIG_eq]; omega) (by omega) (by omega) (by omega)
  rw [List.drop_zero, Int.zero_add] at h
  exact h
/-- how many a fate adds -/
def many (f : Int) : Nat := if f = 2 ∨ f = 5 then 0 else if f = 3 then 2 else 1
theorem send5_eq {w : List Msg} {m : Msg} (h : w.length ≤ 1000) : wire_Send_f w m 5 = some w := by
  unfold wire_Send_f
  rw [clone_eq (by omega)]
  have h1 : ((5 : Int) == 1) = false := by decide
  have h2 : ((5 : Int) == 3) = false := by decide
  have h3 : ((5 : Int) == 4) = false := by decide
  rw [h1, h2, h3]; rfl
theorem send4_nil {m : Msg} : wire_Send_f [] m 4 = some [m] := by
  unfold wire_Send_f
  rw [room_eq (l := [m]) (by simp) (by simp), show room [] [m] = [m] from rfl]
  have h1 : ((4 : Int) == 1) = false := by decide
  have h2 : ((4 : Int) == 3) = false := by decide
  have h3 : ((4 : Int) == 4) = true := by decide
  rw [h1, h2, h3]
  simp only [cond_false, cond_true, Option.bind_some]
  unfold wire_Send_J2 wire_Send_J1
  have e : ((decide ((([] : List Msg).length : Int) < ((([m] : List Msg).length : Nat) : Int))) && (decide (1 < ((([m] : List Msg).length : Nat) : Int)))) = false := by simp
  rw [e, cond_false]
theorem room_all' {w l : List Msg} (h : w.length + l.length ≤ 200) : room w l = w ++ l := by unfold room; rw [List.take_of_length_le (by omega)]
theorem send_any {w : List Msg} {m : Msg} {f : Int} (hw : w.length ≤ 190) (h1 : 1 ≤ f) (h5 : f ≤ 5) : ∃ r, wire_Send_f w m f = some r ∧ r.length = w.length + many f ∧ (∀ x ∈ r, x ∈ w ∨ x = m) ∧ ∀ z, cnt z r = cnt z w + c1 z m * many f := by
  have hf : f = 1 ∨ f = 2 ∨ f = 3 ∨ f = 4 ∨ f = 5 := by omega
  rcases hf with rfl | rfl | rfl | rfl | rfl
  · refine ⟨w ++ [m], by rw [send1_eq (by omega), room_all' (by simp; omega)], by simp [many], fun x hx => by simpa using hx, fun z => ?_⟩
    rw [cnt_app, cnt_cons, cnt_nil]; simp [many]
  · exact ⟨w, send2_eq (by omega), by simp [many], fun x hx => .inl hx, fun z => by simp [many]⟩
  · refine ⟨w ++ [m, m], by rw [send3_eq (by omega), room_all' (by simp; omega)], by simp [many], fun x hx => by simpa using hx, fun z => ?_⟩
    rw [cnt_app, cnt_cons, cnt_cons, cnt_nil]; simp [many]; omega
  · rcases List.eq_nil_or_concat w with rfl | ⟨w', x, rfl⟩
    · refine ⟨[m], send4_nil, by simp [many], fun y hy => .inr (by simpa using hy), fun z => ?_⟩
      rw [cnt_cons, cnt_nil]; simp [many]
    · simp only [List.concat_eq_append] at hw ⊢
      have hl : w'.length + 1 ≤ 190 := by simpa using hw
      refine ⟨w' ++ [m, x], send4_eq (by omega), by simp [many], fun y hy => ?_, fun z => ?_⟩
      · simp only [List.mem_append, List.mem_cons, List.not_mem_nil, or_false] at hy ⊢
        rcases hy with h | h | h
        · exact .inl (.inl h)
        · exact .inr h
        · exact .inl (.inr h)
      · simp only [cnt_app, cnt_cons, cnt_nil]; simp [many]; omega
  · exact ⟨w, send5_eq (by omega), by simp [many], fun x hx => .inl hx, fun z => by simp [many]⟩
theorem counts_L {l1 : List Act} {m1 : Msg} (hl : l1.length ≤ 80) (hok : ∀ x ∈ l1, Act.ok x) (hm : Sm m1) : ∀ f k (w : List Msg) (put took : Int), l1.length < f + k → k ≤ l1.length → w.length ≤ 2 * k → (∀ x ∈ w, Sm x) → 0 ≤ took → took ≤ k → put = took + (cnt m1 w : Nat) →
    law05_WireCounts_L1 l1 true m1 f w put took (k : Int) = some true := by
  intro f
  induction f with
  | zero => intro k w put took h1 h2; omega
  | succ f ih =>
    intro k w put took h1 h2 hw hs ht0 ht hput
    have hcl := cnt_len m1 w
    have gw : Gd w := ⟨by omega, hs⟩
    rw [law05_WireCounts_L1, cond_d]
    by_cases hk : k < l1.length
    · rw [if_pos (by omega), idx_nat hk, Option.bind_some]
      obtain ⟨r3, e3, h3⟩ := great_eq [(l1[k]).m]
      rw [e3, Option.bind_some]
      have hJ3 : ∀ (w' : List Msg) (p t : Int), w'.length ≤ 2 * (k + 1) → (∀ x ∈ w', Sm x) → 0 ≤ t → t ≤ k + 1 → p = t + (cnt m1 w' : Nat) → law05_WireCounts_J3 (law05_WireCounts_L1 l1 true m1 f) (k : Int) w' p t = some true := by
        intro w' p t a1 a2 a3 a4 a5
        unfold law05_WireCounts_J3
        rw [w64_succ (by omega)]
        exact ih (k + 1) w' p t (by omega) (by omega) a1 a2 a3 (by omega) a5
      cases r3 with
      | true => rfl
      | false =>
        have hxs : Sm (l1[k]).m := (h3 rfl).2 _ (by simp)
        obtain ⟨-, hf8, ha8⟩ := hok _ (List.getElem_mem hk)
        simp only [okI] at hf8 ha8
        rw [cond_false, w64 (by omega) (by omega)]
        obtain ⟨fa, hfa⟩ : ∃ fa, Int.tmod (l1[k]).fate 6 = fa := ⟨_, rfl⟩
        have hfr : 0 ≤ fa ∧ fa ≤ 5 := by
          rw [← hfa, Int.tmod_eq_emod_of_nonneg (by omega)]; omega
        rw [hfa]
        by_cases hf0 : fa = 0
        · rw [show (fa == 0) = true by simp [hf0], cond_true]
          by_cases hw0 : w.length = 0
          · rw [show ((w.length : Int) == 0) = true by simp only [beq_iff_eq]; omega, cond_true]
            exact hJ3 w put took (by omega) hs ht0 (by omega) hput
          · rw [show ((w.length : Int) == 0) = false by simp only [beq_eq_false_iff_ne]; omega, cond_false, chk_pos (by omega), w64 (by omega) (by omega)]
            obtain ⟨j, hj, hjl⟩ : ∃ j : Nat, Int.tmod (l1[k]).at_ (w.length : Int) = j ∧ j < w.length := by
              rw [Int.tmod_eq_emod_of_nonneg (by omega)]
              have q1 := Int.emod_nonneg (l1[k]).at_ (show (w.length : Int) ≠ 0 by omega)
              have q2 := Int.emod_lt_of_pos (l1[k]).at_ (show (0 : Int) < w.length by omega)
              exact ⟨((l1[k]).at_ % (w.length : Int)).toNat, by omega, by omega⟩
            rw [hj, take_in (by omega) hjl, Option.bind_some]
            have hlen : (w.take j ++ w.drop (j + 1)).length = w.length - 1 := by simp; omega
            have hcnt : cnt m1 w = cnt m1 (w.take j ++ w.drop (j + 1)) + c1 m1 w[j] := by
              have h6 : w = w.take j ++ w[j] :: w.drop (j + 1) := by rw [← drop_cons hjl, List.take_append_drop]
              have h7 : cnt m1 (w.take j ++ w[j] :: w.drop (j + 1)) = cnt m1 (w.take j ++ w.drop (j + 1)) + c1 m1 w[j] := by
                rw [cnt_app, cnt_app, cnt_cons]; omega
              rw [← h6] at h7; exact h7
            have hs' : ∀ x ∈ w.take j ++ w.drop (j + 1), Sm x := fun x hx => hs x ((List.mem_append.1 hx).elim List.mem_of_mem_take List.mem_of_mem_drop)
            unfold law05_WireCounts_J4
            dsimp only
            rw [w64 (by omega) (by omega), show (((w.take j ++ w.drop (j + 1)).length : Int) != (w.length : Int) - 1) = false by rw [hlen, bne_eq_false_iff_eq]; omega, Bool.not_true, Bool.false_or, cond_false, same_eq (hs _ (List.getElem_mem hjl)), Option.bind_some]
            by_cases hx : w[j] = m1
            · rw [decide_eq_true hx, cond_true, w64 (by omega) (by omega)]
              refine hJ3 _ _ _ (by omega) hs' (by omega) (by omega) ?_
              unfold c1 at hcnt; rw [if_pos hx] at hcnt; omega
            · rw [decide_eq_false hx, cond_false]
              refine hJ3 _ _ _ (by omega) hs' (by omega) (by omega) ?_
              unfold c1 at hcnt; rw [if_neg hx] at hcnt; omega
        · rw [show (fa == 0) = false by simp [hf0], cond_false]
          obtain ⟨r, er, hrl, hrm, hrc⟩ := send_any (w := w) (m := (l1[k]).m) (f := fa) (by omega) (by omega) (by omega)
          have hrs : ∀ x ∈ r, Sm x := fun x hx => (hrm x hx).elim (hs x) (fun e => e ▸ hxs)
          have hm2 : many fa ≤ 2 := by
            unfold many
            split
            · omega
            · split <;> omega
          have hJ6 : ∀ n : Int, n = (many fa : Nat) → law05_WireCounts_J6 (law05_WireCounts_L1 l1 true m1 f) l1 (k : Int) w fa m1 put took n = some true := by
            rintro n rfl
            unfold law05_WireCounts_J6
            rw [idx_nat hk, Option.bind_some, er, Option.bind_some, w64 (by omega) (by omega), show ((r.length : Int) != (w.length : Int) + ((many fa : Nat) : Int)) = false by rw [bne_eq_false_iff_eq]; omega, cond_false, same_eq hxs, Option.bind_some]
            have hz := hrc m1
            by_cases hx : (l1[k]).m = m1
            · rw [decide_eq_true hx, cond_true, w64 (by omega) (by omega)]
              refine hJ3 _ _ _ (by omega) hrs (by omega) (by omega) ?_
              unfold c1 at hz; rw [if_pos hx] at hz; omega
            · rw [decide_eq_false hx, cond_false]
              refine hJ3 _ _ _ (by omega) hrs (by omega) (by omega) ?_
              unfold c1 at hz; rw [if_neg hx] at hz; omega
          have hJ5 : ∀ n : Int, (n = if fa = 3 then 2 else 1) → law05_WireCounts_J5 (law05_WireCounts_L1 l1 true m1 f) l1 (k : Int) w m1 put took fa n = some true := by
            intro n hn
            unfold law05_WireCounts_J5 law05_WireCounts_J7
            by_cases h25 : fa = 2 ∨ fa = 5
            · rw [show ((fa == 2) || (fa == 5)) = true by simpa using h25, cond_true]
              exact hJ6 0 (by unfold many; rw [if_pos h25]; rfl)
            · rw [show ((fa == 2) || (fa == 5)) = false by simpa using h25, cond_false]
              refine hJ6 n ?_
              unfold many; rw [if_neg h25, hn]; split <;> rfl
          by_cases h33 : fa = 3
          · rw [show (fa == 3) = true by simp [h33], cond_true]; exact hJ5 2 (by rw [if_pos h33])
          · rw [show (fa == 3) = false by simp [h33], cond_false]; exact hJ5 1 (by rw [if_neg h33])
    · rw [if_neg (by omega)]
      unfold law05_WireCounts_J2
      rw [cond_true, many_eq gw, Option.bind_some, w64 (by omega) (by omega)]
      congr 1
      rw [beq_iff_eq]; omega
theorem WireCounts_true (y0 : List Act) (o0 : ∀ y38 ∈ y0, Act.ok y38) (y1 : Msg) (o1 : Msg.ok y1) : law05_WireCounts_f y0 y1 = some true := by
  unfold law05_WireCounts_f
  rw [head_true, Option.bind_some, cond_d]
  split
  · rfl
  · obtain ⟨r2, e2, h2⟩ := great_eq [y1]
    rw [e2, Option.bind_some]
    cases r2 with
    | true => rfl
    | false =>
      unfold law05_WireCounts_J1
      rw [cond_false]
      exact counts_L (by omega) o0 ((h2 rfl).2 y1 (by simp)) BIG 0 [] 0 0 (by rw [BIG_eq]; omega) (by omega) (by simp) (fun x h => by cases h) (by omega) (by omega) (by rw [cnt_nil]; rfl)
end Go.Proofs.Yteebeajhoemdpaa
