import Derived.Test.YtocnbgjaiihgiaaE
namespace Go.Proofs.Ytocnbgjaiihgiaa
open Go.RowKit Go.Kx Plain
theorem ret_bool {a b : Bool} (h : a = b) : Ending.returned (.bool a) = .returned (.bool b) := by rw [h]
theorem list_eq_of {l s : List Int} (hl : l.length = s.length) (h : ∀ j, j < l.length → l[j]? = s[j]?) : l = s := by
  apply List.ext_getElem? 
  intro i
  rcases Nat.lt_or_ge i l.length with h1 | h1
  · exact h i h1
  · rw [List.getElem?_eq_none h1, List.getElem?_eq_none (by omega)]
set_option maxHeartbeats 400000 in
theorem ints_any (v u : Value) (q s : List Int) (w : World) {D E : Nat → Prop} (hq : RI.rd w D [v] q) (hs : RI.rd w E [u] s) :
    Calls Try.prog 12 #[v, u] w fun e w' => e = .returned (.bool (decide (q = s))) ∧ Below w.heap.size w w' := by
  have hs := Rep.widen hs
  have hb := Rep.widen hq
  clear hq
  obtain ⟨A, c, rfl, hm1, hm2, hs⟩ := Rep.slice_open hs
  obtain ⟨A', c', rfl, hn1, hn2, hb⟩ := Rep.slice_open hb
  by_cases hl : q.length = s.length
  · have hne : ((q.length : Int) != (s.length : Int)) = false := by simp [hl]
    have Hl := Lib.hid hl
    clear hl
    go_enter Try.func12, Try.ntmps12
    go_wp2
    go_loopw [5] (fun i wr => ∃ k : Nat, k ≤ q.length ∧ i = .int .i64 k ∧ Hid (∀ j, j < k → q[j]? = s[j]?) ∧ Keeps w wr T ∧ Below w.heap.size w wr) (fun i _ => q.length - (intOf i).toNat)
    case atStart => exact ⟨0, by omega, rfl, fun j hj => by omega, Keeps.refl _ _, Below.refl _ _⟩
    case round =>
      obtain ⟨k, hk, rfl, Heq, hkeep, hbel⟩ := hrel
      by_cases hlt : k < q.length
      · have hdec : decide (k < q.length) = true := by simp; omega
        have hks : k < s.length := by have := Hl.out; omega
        obtain ⟨b1, o1, rfl, hc1, _⟩ := Rep.slice_int ((Rep.slice (Rep.int .i64)).keep hkeep hb) (i := k) (x := q[k]) (by simp)
        obtain ⟨b2, o2, rfl, hc2, _⟩ := Rep.slice_int ((Rep.slice (Rep.int .i64)).keep hkeep hs) (i := k) (x := s[k]) (by simp)
        have hi1 : (k : Int) < (q.length : Int) := by omega
        have hi2 : (k : Int) < (s.length : Int) := by omega
        by_cases he : q[k] = s[k]
        · have hne : (q[k] != s[k]) = false := by simp [he]
          have Hst : Hid (∀ j, j < k + 1 → q[j]? = s[j]?) := fun j hj => by
            rcases Nat.lt_or_ge j k with h | h
            · exact Heq.out j h
            · have : j = k := by omega
              subst this; rw [List.getElem?_eq_getElem (by omega), List.getElem?_eq_getElem (by omega), he]
          generalize q[k] = x at *
          generalize s[k] = y at *
          clear he
          go_wp2
          go_quiet (fail)
          go_wp2
          go_roundw
          case rel => exact ⟨k + 1, by omega, by go_num, Hst, hkeep.trans (Keeps.drewN _ _ _), below_of_drewN hbel _⟩
          case measure => simp [intOf]; omega
        · have hne : (q[k] != s[k]) = true := by simp [he]
          have Hst : Hid (decide (q = s) = false) := (by simp; intro h; subst h; exact he rfl : decide (q = s) = false)
          generalize q[k] = x at *
          generalize s[k] = y at *
          clear he
          go_wp2
          go_quiet (fail)
          go_wp2
          go_ret
          exact ⟨ret_bool Hst.out.symm, below_of_drewN hbel _⟩
      · have hdec : decide (k < q.length) = false := by simp; omega
        have hkm : Hid (k = q.length) := (by omega : k = q.length)
        have Hst : Hid (decide (q = s) = true) := (by
          have : q = s := list_eq_of Hl.out (fun j hj => Heq.out j (by rw [hkm.out]; exact hj))
          exact decide_eq_true this : decide (q = s) = true)
        go_wp2
        go_ret
        exact ⟨ret_bool Hst.out.symm, hbel⟩
  · have hne : ((q.length : Int) != (s.length : Int)) = true := by simp; omega
    have Hst : Hid (decide (q = s) = false) := (by simp; intro h; subst h; exact hl rfl : decide (q = s) = false)
    clear hl
    go_enter Try.func12, Try.ntmps12
    go_wp2
    go_ret
    exact ⟨ret_bool Hst.out.symm, Below.refl _ _⟩
end Go.Proofs.Ytocnbgjaiihgiaa
