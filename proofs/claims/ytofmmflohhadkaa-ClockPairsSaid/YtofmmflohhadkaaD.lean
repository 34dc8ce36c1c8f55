import Derived.Test.YtofmmflohhadkaaC
namespace Go.Proofs.Ytofmmflohhadkaa
open Go.RowKit Go.Kx Plain
set_option maxHeartbeats 600000 in
theorem rWait_any (n : Int) (w : World) (v : Int) (hv : wt (cl n M) = v) :
    Calls Try.prog 15 #[.int .i64 n] w fun e w' => e = .returned (.int .i64 v) ∧ w = w' := by
  have Hv := Lib.hid hv
  clear hv
  obtain ⟨hc1, hc2⟩ := cl_M n
  obtain ⟨k, Hc⟩ : ∃ c, Hid (cl n M = c) := ⟨_, rfl⟩
  rw [Hc.out] at hc1 hc2 Hv
  simp only [M] at hc2
  go_enter Try.func15, Try.ntmps15
  go_wp2_with (go_at_call 25; refine (rwithin_any n 1099511627776 _ (by omega) k Hc.out).mono ?_; rintro e w' ⟨rfl, rfl⟩)
  go_loop [4, 5, 6] (fun f t _ => ∃ a c : Int, f = .int .i64 a ∧ t = .int .i64 c ∧ 0 ≤ a ∧ a ≤ c ∧ c ≤ 2199023255552 ∧ Hid (∀ x, 0 ≤ x → x < a → lst (sn x) < k) ∧ Hid (c < 2199023255552 → k ≤ lst (sn c))) (fun f t _ => (intOf t - intOf f).toNat)
  case atStart => exact ⟨0, 2199023255552, rfl, rfl, by omega, by omega, by omega, fun x h1 h2 => by omega, fun h => by omega⟩
  case round =>
    obtain ⟨a, c, rfl, rfl, ha, hac, hc, hlow, hup⟩ := hrel
    by_cases hlt : a < c
    · have hdec : decide (a < c) = true := by simp; omega
      obtain ⟨d, hd, hd1, hd2⟩ : ∃ d : Int, (a + c) / 2 = d ∧ a ≤ d ∧ d < c := ⟨_, rfl, by omega, by omega⟩
      obtain ⟨s, Hs⟩ : ∃ m, Hid (sn d = m) := ⟨_, rfl⟩
      obtain ⟨hs1, hs2⟩ := sn_range d (by omega) (by simp only [E]; omega)
      rw [Hs.out] at hs1 hs2
      obtain ⟨m, Hm⟩ : ∃ m, Hid (lst s = m) := ⟨_, rfl⟩
      by_cases hq : k ≤ m
      · have hdq : decide (k ≤ m) = true := by simp; omega
        have hup2 : Hid (d < 2199023255552 → k ≤ lst (sn d)) := fun _ => by rw [Hs.out, Hm.out]; exact hq
        go_wp2_with (first
          | (go_at_call 29; refine (soonest_any d _ (by omega) (by omega) s Hs.out).mono ?_; rintro e w' ⟨rfl, rfl⟩)
          | (go_at_call 11; refine (rLeast_any s _ m (by rw [cl_id s hs1 hs2]; exact Hm.out)).mono ?_; rintro e w' ⟨rfl, rfl⟩))
        go_round
        case rel => exact ⟨a, d, rfl, rfl, ha, hd1, by omega, hlow, hup2⟩
        case measure => simp [intOf]; omega
      · have hdq : decide (k ≤ m) = false := by simp; omega
        have hlow2 : Hid (∀ x, 0 ≤ x → x < d + 1 → lst (sn x) < k) := fun x h1 h2 => by
          have h3 : sn x ≤ sn d := by unfold sn; omega
          have := lst_mono _ _ h3
          rw [Hs.out, Hm.out] at this
          omega
        go_wp2_with (first
          | (go_at_call 29; refine (soonest_any d _ (by omega) (by omega) s Hs.out).mono ?_; rintro e w' ⟨rfl, rfl⟩)
          | (go_at_call 11; refine (rLeast_any s _ m (by rw [cl_id s hs1 hs2]; exact Hm.out)).mono ?_; rintro e w' ⟨rfl, rfl⟩))
        go_round
        case rel => exact ⟨d + 1, c, rfl, rfl, by omega, by omega, hc, hlow2, hup⟩
        case measure => simp [intOf]; omega
    · have hdec : decide (a < c) = false := by simp; omega
      have hfin : Hid (a = v) := by
        have hace : a = c := by omega
        show a = v
        rw [← Hv.out]
        have hr := wt_range k hc1 (by simp only [M]; omega)
        exact found (p := fun r => k ≤ lst (sn r)) a ha (by simp only [E]; omega) hr.1 hr.2 (fun x p q => Int.not_le.2 (hlow.out x p q)) (by rw [hace]; exact hup.out) (fun x hx hx2 => wt_ref k x hc1 (by simp only [M]; omega) hx hx2)
      go_wp2
      go_ret
      exact ⟨ret_int hfin.out, rfl⟩
set_option maxHeartbeats 600000 in
theorem rUse_any (n : Int) (w : World) (v : Int) (hv : us (cl n M) = v) :
    Calls Try.prog 17 #[.int .i64 n] w fun e w' => e = .returned (.int .i64 v) ∧ w = w' := by
  have Hv := Lib.hid hv
  clear hv
  obtain ⟨hc1, hc2⟩ := cl_M n
  obtain ⟨k, Hc⟩ : ∃ c, Hid (cl n M = c) := ⟨_, rfl⟩
  rw [Hc.out] at hc1 hc2 Hv
  simp only [M] at hc2
  have hl0 : lt 0 = 1 := by decide
  have hm1 : mst (cl 1 E) = 2 := by decide
  by_cases hk2 : k < 2
  · have hd : decide (k < 2) = true := by simp; omega
    have hfin : Hid (-1 = v) := by show -1 = v; rw [← Hv.out, us_small k hc1 hk2]
    go_enter Try.func17, Try.ntmps17
    go_wp2_with (first
      | (go_at_call 25; refine (rwithin_any n 1099511627776 _ (by omega) k Hc.out).mono ?_; rintro e w' ⟨rfl, rfl⟩)
      | (go_at_call 31; refine (latest_any 0 _ (by omega) (by omega) 1 hl0).mono ?_; rintro e w' ⟨rfl, rfl⟩)
      | (go_at_call 13; refine (rMost_any 1 _ 2 hm1).mono ?_; rintro e w' ⟨rfl, rfl⟩))
    go_ret
    exact ⟨ret_int hfin.out, rfl⟩
  · have hd : decide (k < 2) = false := by simp; omega
    go_enter Try.func17, Try.ntmps17
    go_wp2_with (first
      | (go_at_call 25; refine (rwithin_any n 1099511627776 _ (by omega) k Hc.out).mono ?_; rintro e w' ⟨rfl, rfl⟩)
      | (go_at_call 31; refine (latest_any 0 _ (by omega) (by omega) 1 hl0).mono ?_; rintro e w' ⟨rfl, rfl⟩)
      | (go_at_call 13; refine (rMost_any 1 _ 2 hm1).mono ?_; rintro e w' ⟨rfl, rfl⟩))
    go_loop [4, 5, 6] (fun f t _ => ∃ a c : Int, f = .int .i64 a ∧ t = .int .i64 c ∧ 0 ≤ a ∧ a ≤ c ∧ c ≤ 2199023255552 ∧ Hid (0 < a → mst (lt a) ≤ k) ∧ Hid (∀ x, c < x → x ≤ E → k < mst (lt x))) (fun f t _ => (intOf t - intOf f).toNat)
    case atStart => exact ⟨0, 2199023255552, rfl, rfl, by omega, by omega, by omega, fun h => by omega, fun x h1 h2 => by simp only [E] at h2; omega⟩
    case round =>
      obtain ⟨a, c, rfl, rfl, ha, hac, hc, hlow, hup⟩ := hrel
      by_cases hlt : a < c
      · have hdec : decide (a < c) = true := by simp; omega
        obtain ⟨d, hd', hd1, hd2⟩ : ∃ d : Int, (a + c + 1) / 2 = d ∧ a < d ∧ d ≤ c := ⟨_, rfl, by omega, by omega⟩
        obtain ⟨s, Hs⟩ : ∃ m, Hid (lt d = m) := ⟨_, rfl⟩
        obtain ⟨hs1, hs2⟩ := lt_range d (by omega)
        rw [Hs.out] at hs1 hs2
        obtain ⟨m, Hm⟩ : ∃ m, Hid (mst s = m) := ⟨_, rfl⟩
        by_cases hq : m ≤ k
        · have hdq : decide (m ≤ k) = true := by simp; omega
          have hlow2 : Hid (0 < d → mst (lt d) ≤ k) := fun _ => by rw [Hs.out, Hm.out]; exact hq
          go_wp2_with (first
            | (go_at_call 31; refine (latest_any d _ (by omega) (by omega) s Hs.out).mono ?_; rintro e w' ⟨rfl, rfl⟩)
            | (go_at_call 13; refine (rMost_any s _ m (by rw [cl_id s hs1 hs2]; exact Hm.out)).mono ?_; rintro e w' ⟨rfl, rfl⟩))
          go_round
          case rel => exact ⟨d, c, rfl, rfl, by omega, hd2, hc, hlow2, hup⟩
          case measure => simp [intOf]; omega
        · have hdq : decide (m ≤ k) = false := by simp; omega
          have hup2 : Hid (∀ x, d - 1 < x → x ≤ E → k < mst (lt x)) := fun x h1 h2 => by
            have h3 : lt d ≤ lt x := by unfold lt; omega
            have := mst_mono _ _ h3
            rw [Hs.out, Hm.out] at this
            omega
          go_wp2_with (first
            | (go_at_call 31; refine (latest_any d _ (by omega) (by omega) s Hs.out).mono ?_; rintro e w' ⟨rfl, rfl⟩)
            | (go_at_call 13; refine (rMost_any s _ m (by rw [cl_id s hs1 hs2]; exact Hm.out)).mono ?_; rintro e w' ⟨rfl, rfl⟩))
          go_round
          case rel => exact ⟨a, d - 1, rfl, rfl, ha, by omega, by omega, hlow, hup2⟩
          case measure => simp [intOf]; omega
      · have hdec : decide (a < c) = false := by simp; omega
        have hfin : Hid (a = v) := by
          have hace : a = c := by omega
          show a = v
          rw [← Hv.out]
          have hr := us_range k (by omega) (by simp only [M]; omega)
          exact found_up (p := fun r => mst (lt r) ≤ k) a ha (by simp only [E]; omega) hr.1 hr.2 hlow.out (by rw [hace]; exact fun x p q => Int.not_le.2 (hup.out x p q)) (fun x hx hx2 => us_ref k x hc1 (by simp only [M]; omega) hx hx2)
        go_wp2
        go_ret
        exact ⟨ret_int hfin.out, rfl⟩
end Go.Proofs.Ytofmmflohhadkaa
