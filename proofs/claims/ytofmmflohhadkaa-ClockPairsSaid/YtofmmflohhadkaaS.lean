import Derived.Test.YtofmmflohhadkaaR
namespace Go.Proofs.Ytofmmflohhadkaa
open Go.RowKit Go.Kx Plain
set_option maxHeartbeats 1000000 in
theorem rRight_any (va vb : Value) (a b : List Int) (w : World) {D D' : Nat → Prop} (ha : RI.rd w D [va] a) (hb : RI.rd w D' [vb] b) :
    Calls Try.prog 19 #[va, vb] w fun e w' => IsB (RightP a b) e ∧ Below w.heap.size w w' := by
  have ha := Rep.widen ha
  have hb := Rep.widen hb
  obtain ⟨A, c, rfl, hm1, hm2, ha⟩ := Rep.slice_open ha
  obtain ⟨A', c', rfl, hn1, hn2, hb⟩ := Rep.slice_open hb
  by_cases hl : a.length = b.length
  · have hne : ((a.length : Int) != (b.length : Int)) = false := by simp [hl]
    have Hl := Lib.hid hl
    clear hl
    go_enter Try.func19, Try.ntmps19
    go_wp2
    go_loop [5] (fun i => ∃ n : Nat, n ≤ a.length ∧ i = .int .i64 n ∧ Hid (∀ j, j < n → Rng a b j)) (fun i => a.length - (intOf i).toNat)
    case atStart => exact ⟨0, by omega, rfl, fun j hj => by omega⟩
    case round =>
      obtain ⟨n, hn, rfl, Hok⟩ := hrel
      by_cases hlt : n < a.length
      · have hdec : decide (n < a.length) = true := by simp; omega
        have hnb : n < b.length := by have := Hl.out; omega
        have hia : (n : Int) < (a.length : Int) := by omega
        have hib : (n : Int) < (b.length : Int) := by omega
        obtain ⟨b1, o1, rfl, hc1, hw1⟩ := Rep.slice_int ha (i := n) (x := a[n]) (by simp)
        obtain ⟨b2, o2, rfl, hc2, hw2⟩ := Rep.slice_int hb (i := n) (x := b[n]) (by simp)
        have hx : Hid (a.getD n 0 = a[n]) := getD_of (by simp)
        have hy : Hid (b.getD n 0 = b[n]) := getD_of (by simp)
        generalize a[n] = x at *
        generalize b[n] = y at *
        by_cases hR : 0 ≤ x ∧ x ≤ 2199023255552 ∧ 0 ≤ y ∧ y ≤ 4398046511104
        · obtain ⟨r1, r2, r3, r4⟩ := hR
          have d1 : decide (x < 0) = false := by simp; omega
          have d2 : decide (2199023255552 < x) = false := by simp; omega
          have d3 : decide (y < 0) = false := by simp; omega
          have d4 : decide (4398046511104 < y) = false := by simp; omega
          have Hok2 : Hid (∀ j, j < n + 1 → Rng a b j) := fun j hj => by
            rcases Nat.lt_or_ge j n with h | h
            · exact Hok.out j h
            · have : j = n := by omega
              subst this
              unfold Rng; rw [hx.out, hy.out]; exact ⟨r1, r2, r3, r4⟩
          go_wp2
          go_round
          case rel => exact ⟨n + 1, by omega, by go_num, Hok2⟩
          case measure => simp [intOf]; omega
        · have hno : Hid (¬ RightP a b) := fun h => hR (by have := h.2.1 n hlt; unfold Rng at this; rw [hx.out, hy.out] at this; exact this)
          by_cases e1 : x < 0
          · have d1 : decide (x < 0) = true := by simp; omega
            clear hR
            go_wp2
            go_ret
            exact ⟨isF hno.out, Below.refl _ _⟩
          · have d1 : decide (x < 0) = false := by simp; omega
            by_cases e2 : 2199023255552 < x
            · have d2 : decide (2199023255552 < x) = true := by simp; omega
              clear hR
              go_wp2
              go_ret
              exact ⟨isF hno.out, Below.refl _ _⟩
            · have d2 : decide (2199023255552 < x) = false := by simp; omega
              by_cases e3 : y < 0
              · have d3 : decide (y < 0) = true := by simp; omega
                clear hR
                go_wp2
                go_ret
                exact ⟨isF hno.out, Below.refl _ _⟩
              · have d3 : decide (y < 0) = false := by simp; omega
                have d4 : decide (4398046511104 < y) = true := by simp; omega
                clear hR
                go_wp2
                go_ret
                exact ⟨isF hno.out, Below.refl _ _⟩
      · have hdec : decide (n < a.length) = false := by simp; omega
        have Hall : Hid (∀ j, j < a.length → Rng a b j) := fun j hj => Hok.out j (by omega)
        clear Hok
        go_wp2
        go_loopw [6, 7, 8, 9] (fun i _ _ _ wr => ∃ n : Nat, n ≤ a.length ∧ i = .int .i64 n ∧ Hid (∀ j, j < n → ∀ k, k < j → PairP a b j k) ∧ Keeps w wr T ∧ Below w.heap.size w wr) (fun i _ _ _ _ => a.length - (intOf i).toNat)
        case atStart => exact ⟨0, by omega, rfl, fun j hj => by omega, Keeps.refl _ _, Below.refl _ _⟩
        case round =>
          obtain ⟨n, hn, rfl, Hok, hkeep, hbel⟩ := hrel
          by_cases hlt : n < a.length
          · have hdec : decide (n < a.length) = true := by simp; omega
            have hnb : n < b.length := by have := Hl.out; omega
            have hia : (n : Int) < (a.length : Int) := by omega
            have hib : (n : Int) < (b.length : Int) := by omega
            go_wp2
            go_loopw [7, 8, 9] (fun k _ _ wr2 => ∃ m : Nat, m ≤ n ∧ k = .int .i64 m ∧ Hid (∀ k, k < m → PairP a b n k) ∧ Keeps w wr2 T ∧ Below w.heap.size w wr2) (fun k _ _ _ => n - (intOf k).toNat)
            case atStart => exact ⟨0, by omega, rfl, fun j hj => by omega, hkeep, hbel⟩
            case round =>
              obtain ⟨m, hm, rfl, Hin, hkeep2, hbel2⟩ := hrel
              by_cases hlt2 : m < n
              · have hdm : decide (m < n) = true := by simp; omega
                have hma : (m : Int) < (a.length : Int) := by omega
                have hmb : (m : Int) < (b.length : Int) := by omega
                have hmla : m < a.length := by omega
                have hmlb : m < b.length := by omega
                obtain ⟨b1, o1, rfl, hc1, _⟩ := Rep.slice_int ((Rep.slice (Rep.int .i64)).keep hkeep2 ha) (i := n) (x := a[n]) (by simp)
                obtain ⟨b2, o2, rfl, hc2, _⟩ := Rep.slice_int ((Rep.slice (Rep.int .i64)).keep hkeep2 hb) (i := n) (x := b[n]) (by simp)
                obtain ⟨b1', o1', e1, hc3, _⟩ := Rep.slice_int ((Rep.slice (Rep.int .i64)).keep hkeep2 ha) (i := m) (x := a[m]) (by simp)
                obtain ⟨b2', o2', e2, hc4, _⟩ := Rep.slice_int ((Rep.slice (Rep.int .i64)).keep hkeep2 hb) (i := m) (x := b[m]) (by simp)
                injection e1 with e1; injection e1 with e1 e1'; subst e1 e1'
                injection e2 with e2; injection e2 with e2 e2'; subst e2 e2'
                have hx : Hid (a.getD n 0 = a[n]) := getD_of (by simp)
                have hy : Hid (b.getD n 0 = b[n]) := getD_of (by simp)
                have hgx : Hid (a.getD m 0 = a[m]) := getD_of (by simp)
                have hgy : Hid (b.getD m 0 = b[m]) := getD_of (by simp)
                obtain ⟨q1, q2, q3, q4⟩ := Hall.out m hmla
                obtain ⟨r1, r2, r3, r4⟩ := Hall.out n hlt
                rw [hgx.out] at q1 q2
                rw [hgy.out] at q3 q4
                rw [hx.out] at r1 r2
                rw [hy.out] at r3 r4
                generalize a[m] = xm at *
                generalize b[m] = ym at *
                generalize a[n] = x at *
                generalize b[n] = y at *
                have hPP : Hid (PairP a b n m ↔ 0 ≤ x - xm ∧ lst (x - xm) ≤ y - ym ∧ y - ym ≤ mst (x - xm)) := by show _ ↔ _; unfold PairP; rw [hx.out, hy.out, hgx.out, hgy.out]
                obtain ⟨d, hd⟩ : ∃ d, x - xm = d := ⟨_, rfl⟩
                obtain ⟨s, hs⟩ : ∃ s, y - ym = s := ⟨_, rfl⟩
                rw [hd, hs] at hPP
                obtain ⟨hd1, hd2⟩ : -2199023255552 ≤ d ∧ d ≤ 2199023255552 := by omega
                obtain ⟨hs1, hs2⟩ : -4398046511104 ≤ s ∧ s ≤ 4398046511104 := by omega
                by_cases hdn : d < 0
                · have hno : Hid (¬ RightP a b) := fun h => by have := (hPP.out.1 (h.2.2 n hlt m hlt2)).1; omega
                  have hdd : decide (d < 0) = true := by simp; omega
                  go_wp2
                  go_quiet (fail)
                  go_wp2
                  go_quiet (fail)
                  go_wp2
                  go_ret
                  exact ⟨isF hno.out, below_of_drewN hbel2 _⟩
                · have hdd : decide (d < 0) = false := by simp; omega
                  have hcl := cl_id d (by omega) (by simp only [E]; omega)
                  obtain ⟨L, HL⟩ : ∃ L, Hid (lst d = L) := ⟨_, rfl⟩
                  obtain ⟨U, HU⟩ : ∃ L, Hid (mst d = L) := ⟨_, rfl⟩
                  have HL2 : Hid (lst (cl d E) = L) := by show _ = _; rw [hcl]; exact HL.out
                  have HU2 : Hid (mst (cl d E) = U) := by show _ = _; rw [hcl]; exact HU.out
                  have hPP2 : Hid (PairP a b n m ↔ L ≤ s ∧ s ≤ U) := by show _ ↔ _; rw [hPP.out, HL.out, HU.out]; omega
                  clear hcl
                  by_cases hsL : s < L
                  · have hno : Hid (¬ RightP a b) := fun h => by have := (hPP2.out.1 (h.2.2 n hlt m hlt2)).1; omega
                    have hdL : decide (s < L) = true := by simp; omega
                    go_wp2
                    go_quiet (fail)
                    go_wp2
                    go_quiet (fail)
                    go_wp2_with (go_at_call 11; refine (rLeast_any d _ L HL2.out).mono ?_; rintro e w' ⟨rfl, rfl⟩)
                    go_ret
                    exact ⟨isF hno.out, below_of_drewN hbel2 _⟩
                  · have hdL : decide (s < L) = false := by simp; omega
                    by_cases hsU : U < s
                    · have hno : Hid (¬ RightP a b) := fun h => by have := (hPP2.out.1 (h.2.2 n hlt m hlt2)).2; omega
                      have hdU : decide (U < s) = true := by simp; omega
                      go_wp2
                      go_quiet (fail)
                      go_wp2
                      go_quiet (fail)
                      go_wp2_with (first
                        | (go_at_call 11; refine (rLeast_any d _ L HL2.out).mono ?_; rintro e w' ⟨rfl, rfl⟩)
                        | (go_at_call 13; refine (rMost_any d _ U HU2.out).mono ?_; rintro e w' ⟨rfl, rfl⟩))
                      go_ret
                      exact ⟨isF hno.out, below_of_drewN hbel2 _⟩
                    · have hdU : decide (U < s) = false := by simp; omega
                      have Hin2 : Hid (∀ k, k < m + 1 → PairP a b n k) := fun k hk => by
                        rcases Nat.lt_or_ge k m with h | h
                        · exact Hin.out k h
                        · have : k = m := by omega
                          subst this; exact hPP2.out.2 ⟨by omega, by omega⟩
                      go_wp2
                      go_quiet (fail)
                      go_wp2
                      go_quiet (fail)
                      go_wp2_with (first
                        | (go_at_call 11; refine (rLeast_any d _ L HL2.out).mono ?_; rintro e w' ⟨rfl, rfl⟩)
                        | (go_at_call 13; refine (rMost_any d _ U HU2.out).mono ?_; rintro e w' ⟨rfl, rfl⟩))
                      go_roundw
                      case rel => exact ⟨m + 1, by omega, by go_num, Hin2, hkeep2.trans (Keeps.drewN _ _ _), below_of_drewN hbel2 _⟩
                      case measure => simp [intOf]; omega
              · have hdm : decide (m < n) = false := by simp; omega
                have hmn : m = n := by omega
                have Hok2 : Hid (∀ j, j < n + 1 → ∀ k, k < j → PairP a b j k) := fun j hj => by
                  rcases Nat.lt_or_ge j n with h | h
                  · exact Hok.out j h
                  · have : j = n := by omega
                    subst this
                    exact fun k hk => Hin.out k (by omega)
                clear hmn
                go_wp2
                go_roundw
                case rel => exact ⟨n + 1, by omega, by go_num, Hok2, hkeep2, hbel2⟩
                case measure => simp [intOf]; omega
          · have hdec : decide (n < a.length) = false := by simp; omega
            have hyes : Hid (RightP a b) := ⟨Hl.out, Hall.out, fun i hi => Hok.out i (by omega)⟩
            go_wp2
            go_ret
            exact ⟨isT hyes.out, hbel⟩
  · have hne : ((a.length : Int) != (b.length : Int)) = true := by simp; omega
    have hno : Hid (¬ RightP a b) := fun h => hl h.1
    clear hl
    go_enter Try.func19, Try.ntmps19
    go_wp2
    go_ret
    exact ⟨isF hno.out, Below.refl _ _⟩
end Go.Proofs.Ytofmmflohhadkaa
