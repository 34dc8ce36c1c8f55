import Derived.Test.YtocnbgjaiihgiaaC
namespace Go.Proofs.Ytocnbgjaiihgiaa
open Go.RowKit Go.Kx Plain
abbrev RI : Rep (List Int) := Rep.slice (Rep.int .i64)
theorem nat_int {w : World} {D : Nat → Prop} {cs : List Value} {l : List Nat} (h : (Rep.slice (Rep.nat .i64 4294967296)).rd w D cs l) : RI.rd w D cs (l.map (fun n : Nat => (n : Int))) := by
  obtain ⟨A, c, rfl, h1, h2, h3⟩ := h
  refine ⟨A, c, by simp, by simpa using h1, h2, fun i x hx => ?_⟩
  simp only [List.getElem?_map, Option.map_eq_some_iff] at hx
  obtain ⟨n, hn, rfl⟩ := hx
  obtain ⟨b, o, es, h4, h5, h6, h7, h8, h9⟩ := h3 i n hn
  refine ⟨b, o, es, h4, h5, h6, h7, h8, ?_⟩
  exact WalkArith.wf_i64 (by omega)
/-- how far two rows go together -/
def pre : List Int → List Int → Nat
  | a :: l, b :: s => if a = b then pre l s + 1 else 0
  | _, _ => 0
def checkL (l s : List Int) : Int := if pre l s = l.length ∧ pre l s = s.length then -1 else pre l s
theorem pre_at : ∀ (l s : List Int) (k : Nat), (∀ j, j < k → l[j]? = s[j]?) → k < l.length → k < s.length → l[k]? ≠ s[k]? → pre l s = k
  | [], _, k, _, h1, _, _ => by simp at h1
  | _ :: _, [], k, _, _, h1, _ => by simp at h1
  | a :: l, b :: s, 0, _, _, _, h3 => by
    have : a ≠ b := by simpa using h3
    simp [pre, this]
  | a :: l, b :: s, k + 1, h, h1, h2, h3 => by
    have h0 := h 0 (by omega)
    simp at h0
    subst h0
    rw [pre, if_pos rfl, pre_at l s k (fun j hj => by simpa using h (j + 1) (by omega)) (by simpa using h1) (by simpa using h2) (by simpa using h3)]
theorem pre_all : ∀ (l s : List Int) (k : Nat), (∀ j, j < k → l[j]? = s[j]?) → k = min l.length s.length → pre l s = k
  | [], _, k, _, h1 => by simp at h1; subst h1; simp [pre]
  | _ :: _, [], k, _, h1 => by simp at h1; subst h1; simp [pre]
  | a :: l, b :: s, 0, _, h3 => by simp at h3
  | a :: l, b :: s, k + 1, h, h1 => by
    have h0 := h 0 (by omega)
    simp at h0
    subst h0
    rw [pre, if_pos rfl, pre_all l s k (fun j hj => by simpa using h (j + 1) (by omega)) (by simp at h1; omega)]
theorem check_at {l s : List Int} {k : Nat} (h : ∀ j, j < k → l[j]? = s[j]?) (h1 : k < l.length) (h2 : k < s.length) (h3 : l[k]? ≠ s[k]?) : checkL l s = k := by
  unfold checkL; rw [pre_at l s k h h1 h2 h3, if_neg (by omega)]
theorem check_end {l s : List Int} {k : Nat} (h : ∀ j, j < k → l[j]? = s[j]?) (h1 : k = min l.length s.length) (h2 : l.length ≠ s.length) : checkL l s = k := by
  unfold checkL; rw [pre_all l s k h h1, if_neg (by omega)]
theorem check_all {l s : List Int} {k : Nat} (h : ∀ j, j < k → l[j]? = s[j]?) (h1 : k = min l.length s.length) (h2 : l.length = s.length) : checkL l s = -1 := by
  unfold checkL; rw [pre_all l s k h h1, if_pos (by omega)]
theorem ret_int {k : IntKind} {a b : Int} (h : a = b) : Ending.returned (.int k a) = .returned (.int k b) := by rw [h]
/-- the contract of Blocks with its list under a name -/
theorem blocks_named (v : Value) (l : List Nat) (w : World) {D : Nat → Prop} (hl : (Rep.slice Rep.u8).rd w D [v] l) (hD : l.length ≤ 1000000) (q : List Int) (hq : q = (blocks l).map (fun n : Nat => (n : Int))) :
    Calls Try.prog 13 #[v] w fun e w' => ∃ A c, e = .returned (.slice A q.length c) ∧ RI.rd w' T [.slice A q.length c] q ∧ Below w.heap.size w w' :=
  (blocks_any v l w hl hD).mono fun e w' ⟨v', he, ho, hb⟩ => by
    have h := nat_int ho.rd
    rw [← hq] at h
    obtain ⟨A, c, rfl, _, _, h⟩ := Rep.slice_open h
    exact ⟨A, c, he, h, hb⟩
set_option maxHeartbeats 400000 in
theorem check_any (v u : Value) (l : List Nat) (s : List Int) (w : World) {D E : Nat → Prop} (hl : (Rep.slice Rep.u8).rd w D [v] l) (hD : l.length ≤ 1000000) (hs : RI.rd w E [u] s) :
    Calls Try.prog 15 #[v, u] w fun e w' => e = .returned (.int .i64 (checkL ((blocks l).map (fun n : Nat => (n : Int))) s)) ∧ Below w.heap.size w w' := by
  have hs := Rep.widen hs
  obtain ⟨A, c, rfl, hm1, hm2, hs⟩ := Rep.slice_open hs
  have hbl : ((blocks l).map (fun n : Nat => (n : Int))).length ≤ 1000000 := by rw [List.length_map, blocks_len]; omega
  obtain ⟨q, Hq⟩ : ∃ q, Hid (q = (blocks l).map (fun n : Nat => (n : Int))) := ⟨_, rfl⟩
  have hcall := blocks_named v l w hl hD q Hq.out
  rw [← Hq.out] at hbl ⊢
  clear hl
  have Hcall := Lib.hid hcall
  clear hcall
  obtain ⟨m, hmin, hm⟩ : ∃ m : Nat, (if s.length < q.length then (s.length : Int) else (q.length : Int)) = (m : Int) ∧ Hid (m = min q.length s.length) :=
    ⟨min q.length s.length, by split <;> omega, rfl⟩
  go_enter Try.func15, Try.ntmps15
  go_wp2_with (go_at_call 13; refine Hcall.out.mono ?_; rintro e w1 ⟨A', c', rfl, hb, hb1⟩)
  have hs := Rep.below hs hb1
  have hmq : m ≤ q.length := by have := hm.out; omega
  have hms : m ≤ s.length := by have := hm.out; omega
  go_loopw [6, 14] (fun _ i wr => ∃ k : Nat, k ≤ m ∧ i = .int .i64 k ∧ Hid (∀ j, j < k → q[j]? = s[j]?) ∧ Keeps w1 wr T ∧ Below w.heap.size w wr) (fun _ i _ => m - (intOf i).toNat)
  case atStart => exact ⟨0, by omega, rfl, fun j hj => by omega, Keeps.refl _ _, hb1⟩
  case round =>
    obtain ⟨k, hk, rfl, Heq, hkeep, hbel⟩ := hrel
    by_cases hlt : k < m
    · have hdec : decide (k < m) = true := by simp; omega
      obtain ⟨b1, o1, rfl, hc1, _⟩ := Rep.slice_int ((Rep.slice (Rep.int .i64)).keep hkeep hb) (i := k) (x := q[k]) (by simp)
      obtain ⟨b2, o2, rfl, hc2, _⟩ := Rep.slice_int ((Rep.slice (Rep.int .i64)).keep hkeep hs) (i := k) (x := s[k]) (by simp)
      have hi1 : (k : Int) < (q.length : Int) := by omega
      have hi2 : (k : Int) < (s.length : Int) := by omega
      by_cases he : q[k] = s[k]
      · have hne : (q[k] != s[k]) = false := by simp [he]
        have Hst : Hid (∀ j, j < k + 1 → q[j]? = s[j]?) := fun j hj => by
          rcases Nat.lt_or_ge j k with h | h
          · exact Heq.out j h
          · have : j = k := by omega
            subst this; rw [List.getElem?_eq_getElem (by omega), List.getElem?_eq_getElem (by omega), he]
        generalize q[k] = x at *
        generalize s[k] = y at *
        clear he
        go_wp2
        go_quiet (fail)
        go_wp2
        go_roundw
        case rel => exact ⟨k + 1, by omega, by go_num, Hst, hkeep.trans (Keeps.drewN _ _ _), below_of_drewN hbel _⟩
        case measure => simp [intOf]; omega
      · have hne : (q[k] != s[k]) = true := by simp [he]
        have Hst : Hid (checkL q s = k) := check_at Heq.out (by omega) (by omega) (by rw [List.getElem?_eq_getElem (by omega), List.getElem?_eq_getElem (by omega)]; simpa using he)
        generalize q[k] = x at *
        generalize s[k] = y at *
        clear he
        go_wp2
        go_quiet (fail)
        go_wp2
        go_ret
        exact ⟨ret_int Hst.out.symm, below_of_drewN hbel _⟩
    · have hdec : decide (k < m) = false := by simp; omega
      have hkm : Hid (k = m) := (by omega : k = m)
      by_cases hl : q.length = s.length
      · have hne : ((q.length : Int) != (s.length : Int)) = false := by simp [hl]
        have Hst : Hid (checkL q s = -1) := check_all Heq.out (by rw [hkm.out]; exact hm.out) hl
        clear hl
        go_wp2
        go_ret
        exact ⟨ret_int Hst.out.symm, hbel⟩
      · have hne : ((q.length : Int) != (s.length : Int)) = true := by simp; omega
        have Hst : Hid (checkL q s = m) := by have := check_end Heq.out (by rw [hkm.out]; exact hm.out) hl; rw [hkm.out] at this; exact this
        clear hl
        go_wp2
        go_ret
        exact ⟨ret_int Hst.out.symm, hbel⟩
end Go.Proofs.Ytocnbgjaiihgiaa
