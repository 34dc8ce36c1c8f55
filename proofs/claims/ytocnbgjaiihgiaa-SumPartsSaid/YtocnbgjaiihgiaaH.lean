import Derived.Test.YtocnbgjaiihgiaaG
namespace Go.Proofs.Ytocnbgjaiihgiaa
open Go.RowKit Go.Kx Plain
theorem refblocks_named (v : Value) (l : List Nat) (w : World) {D : Nat → Prop} (hl : (Rep.slice Rep.u8).rd w D [v] l) (hD : l.length ≤ 1000000) (q : List Int) (hq : q = (blocks l).map (fun n : Nat => (n : Int))) :
    Calls Try.prog 14 #[v] w fun e w' => ∃ A c, e = .returned (.slice A q.length c) ∧ RI.rd w' T [.slice A q.length c] q ∧ Below w.heap.size w w' :=
  (refblocks_any v l w hl hD).mono fun e w' ⟨v', he, ho, hb⟩ => by
    have h := nat_int ho.rd
    rw [← hq] at h
    obtain ⟨A, c, rfl, _, _, h⟩ := Rep.slice_open h
    exact ⟨A, c, he, h, hb⟩
theorem check_short {l s : List Int} {k : Nat} (h : ∀ j, j < k → l[j]? = s[j]?) (h1 : k = min l.length s.length) (h2 : k < l.length ∨ k < s.length) : checkL l s = k := by
  exact check_end h h1 (by omega)
set_option maxHeartbeats 800000 in
theorem refcheck_any (v u : Value) (l : List Nat) (s : List Int) (w : World) {D E : Nat → Prop} (hl : (Rep.slice Rep.u8).rd w D [v] l) (hD : l.length ≤ 1000000) (hs : RI.rd w E [u] s) (hsz : s.length ≤ 1000000) :
    Calls Try.prog 16 #[v, u] w fun e w' => e = .returned (.int .i64 (checkL ((blocks l).map (fun n : Nat => (n : Int))) s)) ∧ Below w.heap.size w w' := by
  have hs := Rep.widen hs
  obtain ⟨A, c, rfl, hm1, hm2, hs⟩ := Rep.slice_open hs
  have hbl : ((blocks l).map (fun n : Nat => (n : Int))).length ≤ 1000000 := by rw [List.length_map, blocks_len]; omega
  obtain ⟨q, Hq⟩ : ∃ q, Hid (q = (blocks l).map (fun n : Nat => (n : Int))) := ⟨_, rfl⟩
  have hcall := refblocks_named v l w hl hD q Hq.out
  rw [← Hq.out] at hbl ⊢
  clear hl
  have Hcall := Lib.hid hcall
  clear hcall
  go_enter Try.func16, Try.ntmps16
  go_wp2_with (go_at_call 14; refine Hcall.out.mono ?_; rintro e w1 ⟨A', c', rfl, hb, hb1⟩)
  have hs := Rep.below hs hb1
  go_loopw [6] (fun i wr => ∃ k : Nat, i = .int .i64 k ∧ k ≤ 1000000 ∧ Hid (∀ j, j < k → q[j]? = s[j]?) ∧ (k ≤ q.length ∧ k ≤ s.length) ∧ Keeps w1 wr T ∧ Below w.heap.size w wr) (fun i _ => q.length + s.length - (intOf i).toNat)
  case atStart => exact ⟨0, rfl, by omega, fun j hj => by omega, ⟨by omega, by omega⟩, Keeps.refl _ _, hb1⟩
  case round =>
    obtain ⟨k, rfl, hk, Heq, ⟨hkq, hks⟩, hkeep, hbel⟩ := hrel
    by_cases h1 : k < q.length
    · have hd1 : decide (k < q.length) = true := by simp; omega
      have hd1' : decide (q.length ≤ k) = false := by simp; omega
      by_cases h2 : k < s.length
      · have hd2' : decide (s.length ≤ k) = false := by simp; omega
        obtain ⟨b1, o1, rfl, hc1, _⟩ := Rep.slice_int ((Rep.slice (Rep.int .i64)).keep hkeep hb) (i := k) (x := q[k]) (by simp)
        obtain ⟨b2, o2, rfl, hc2, _⟩ := Rep.slice_int ((Rep.slice (Rep.int .i64)).keep hkeep hs) (i := k) (x := s[k]) (by simp)
        have hi1 : (k : Int) < (q.length : Int) := by omega
        have hi2 : (k : Int) < (s.length : Int) := by omega
        by_cases he : q[k] = s[k]
        · have hne : (q[k] != s[k]) = false := by simp [he]
          have Hst : Hid (∀ j, j < k + 1 → q[j]? = s[j]?) := fun j hj => by
            rcases Nat.lt_or_ge j k with h | h
            · exact Heq.out j h
            · have : j = k := by omega
              subst this; rw [List.getElem?_eq_getElem (by omega), List.getElem?_eq_getElem (by omega), he]
          generalize q[k] = x at *
          generalize s[k] = y at *
          clear he
          go_wp2
          go_quiet (fail)
          go_wp2
          go_roundw
          case rel => exact ⟨k + 1, by go_num, by omega, Hst, ⟨by omega, by omega⟩, hkeep.trans (Keeps.drewN _ _ _), below_of_drewN hbel _⟩
          case measure => simp [intOf]; omega
        · have hne : (q[k] != s[k]) = true := by simp [he]
          have Hst : Hid (checkL q s = k) := check_at Heq.out (by omega) (by omega) (by rw [List.getElem?_eq_getElem (by omega), List.getElem?_eq_getElem (by omega)]; simpa using he)
          generalize q[k] = x at *
          generalize s[k] = y at *
          clear he
          go_wp2
          go_quiet (fail)
          go_wp2
          go_ret
          exact ⟨ret_int Hst.out.symm, below_of_drewN hbel _⟩
      · have hd2' : decide (s.length ≤ k) = true := by simp; omega
        have Hst : Hid (checkL q s = k) := check_short Heq.out (by omega) (by omega)
        go_wp2
        go_quiet (fail)
        go_wp2
        go_ret
        exact ⟨ret_int Hst.out.symm, below_of_drewN hbel _⟩
    · have hd1 : decide (k < q.length) = false := by simp; omega
      have hd1' : decide (q.length ≤ k) = true := by simp; omega
      by_cases h2 : k < s.length
      · have hd2 : decide (k < s.length) = true := by simp; omega
        have Hst : Hid (checkL q s = k) := check_short Heq.out (by omega) (by omega)
        go_wp2
        go_quiet (fail)
        go_wp2
        go_ret
        exact ⟨ret_int Hst.out.symm, below_of_drewN hbel _⟩
      · have hd2 : decide (k < s.length) = false := by simp; omega
        have Hst : Hid (checkL q s = -1) := check_all (k := k) Heq.out (by omega) (by omega)
        go_wp2
        go_ret
        exact ⟨ret_int Hst.out.symm, hbel⟩
end Go.Proofs.Ytocnbgjaiihgiaa
