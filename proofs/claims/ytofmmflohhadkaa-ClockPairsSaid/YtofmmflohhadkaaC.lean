import Derived.Test.YtofmmflohhadkaaB
namespace Go.Proofs.Ytofmmflohhadkaa
open Go.RowKit Go.Kx Plain
set_option maxHeartbeats 400000 in
theorem rwithin_any (n b : Int) (w : World) (hb : 0 ≤ b) (v : Int) (hv : cl n b = v) :
    Calls Try.prog 25 #[.int .i64 n, .int .i64 b] w fun e w' => e = .returned (.int .i64 v) ∧ w = w' := by
  have Hv := Lib.hid hv
  clear hv
  by_cases h2 : n < 0
  · have hd : decide (n < 0) = true := by simp; omega
    go_enter Try.func25, Try.ntmps25
    go_wp2
    go_ret
    have := Hv.out
    unfold cl at this
    exact ⟨ret_int (by omega), rfl⟩
  · have hd : decide (n < 0) = false := by simp; omega
    by_cases h3 : b < n
    · have hd2 : decide (b < n) = true := by simp; omega
      go_enter Try.func25, Try.ntmps25
      go_wp2
      go_ret
      have := Hv.out
      unfold cl at this
      exact ⟨ret_int (by omega), rfl⟩
    · have hd2 : decide (b < n) = false := by simp; omega
      go_enter Try.func25, Try.ntmps25
      go_wp2
      go_ret
      have := Hv.out
      unfold cl at this
      exact ⟨ret_int (by omega), rfl⟩
theorem cl_E (n : Int) : 0 ≤ cl n E ∧ cl n E ≤ 2199023255552 := by unfold cl; simp only [E]; omega
theorem cl_id (n : Int) (h0 : 0 ≤ n) (h1 : n ≤ E) : cl n E = n := by unfold cl; omega
set_option maxHeartbeats 400000 in
theorem rLeast_any (n : Int) (w : World) (v : Int) (hv : lst (cl n E) = v) :
    Calls Try.prog 11 #[.int .i64 n] w fun e w' => e = .returned (.int .i64 v) ∧ w = w' := by
  have Hv := Lib.hid hv
  clear hv
  obtain ⟨hc1, hc2⟩ := cl_E n
  obtain ⟨c, Hc⟩ : ∃ c, Hid (cl n E = c) := ⟨_, rfl⟩
  rw [Hc.out] at hc1 hc2 Hv
  go_enter Try.func11, Try.ntmps11
  go_wp2_with (go_at_call 25; refine (rwithin_any n 2199023255552 _ (by omega) c Hc.out).mono ?_; rintro e w' ⟨rfl, rfl⟩)
  go_ret
  exact ⟨ret_int Hv.out, rfl⟩
set_option maxHeartbeats 400000 in
theorem rMost_any (n : Int) (w : World) (v : Int) (hv : mst (cl n E) = v) :
    Calls Try.prog 13 #[.int .i64 n] w fun e w' => e = .returned (.int .i64 v) ∧ w = w' := by
  have Hv := Lib.hid hv
  clear hv
  obtain ⟨hc1, hc2⟩ := cl_E n
  obtain ⟨c, Hc⟩ : ∃ c, Hid (cl n E = c) := ⟨_, rfl⟩
  rw [Hc.out] at hc1 hc2 Hv
  by_cases hm : 0 < c * 1001 % 1000
  · have hd : decide (0 < c * 1001 % 1000) = true := by simp; omega
    have hv2 : Hid (c * 1001 / 1000 + 1 = v) := by have := Hv.out; unfold mst at this; show _ = _; omega
    go_enter Try.func13, Try.ntmps13
    go_wp2_with (go_at_call 25; refine (rwithin_any n 2199023255552 _ (by omega) c Hc.out).mono ?_; rintro e w' ⟨rfl, rfl⟩)
    go_ret
    exact ⟨ret_int hv2.out, rfl⟩
  · have hd : decide (0 < c * 1001 % 1000) = false := by simp; omega
    have hv2 : Hid (c * 1001 / 1000 = v) := by have := Hv.out; unfold mst at this; show _ = _; omega
    go_enter Try.func13, Try.ntmps13
    go_wp2_with (go_at_call 25; refine (rwithin_any n 2199023255552 _ (by omega) c Hc.out).mono ?_; rintro e w' ⟨rfl, rfl⟩)
    go_ret
    exact ⟨ret_int hv2.out, rfl⟩
set_option maxHeartbeats 400000 in
theorem soonest_any (u : Int) (w : World) (h0 : 0 ≤ u) (h1 : u ≤ 2199023255552) (v : Int) (hv : sn u = v) :
    Calls Try.prog 29 #[.int .i64 u] w fun e w' => e = .returned (.int .i64 v) ∧ w = w' := by
  have Hv := Lib.hid hv
  clear hv
  go_enter Try.func29, Try.ntmps29
  go_wp2
  go_loop [3, 4, 5] (fun f t _ => ∃ a c : Int, f = .int .i64 a ∧ t = .int .i64 c ∧ 0 ≤ a ∧ a ≤ c ∧ c ≤ 2199023255552 ∧ Hid (∀ x, 0 ≤ x → x < a → mst x < u) ∧ Hid (c < 2199023255552 → u ≤ mst c)) (fun f t _ => (intOf t - intOf f).toNat)
  case atStart => exact ⟨0, 2199023255552, rfl, rfl, by omega, by omega, by omega, fun x h1 h2 => by omega, fun h => by omega⟩
  case round =>
    obtain ⟨a, c, rfl, rfl, ha, hac, hc, hlow, hup⟩ := hrel
    by_cases hlt : a < c
    · have hdec : decide (a < c) = true := by simp; omega
      obtain ⟨d, hd, hd1, hd2⟩ : ∃ d : Int, (a + c) / 2 = d ∧ a ≤ d ∧ d < c := ⟨_, rfl, by omega, by omega⟩
      obtain ⟨m, Hm⟩ : ∃ m, Hid (mst d = m) := ⟨_, rfl⟩
      by_cases hq : u ≤ m
      · have hdq : decide (u ≤ m) = true := by simp; omega
        have hup2 : Hid (d < 2199023255552 → u ≤ mst d) := fun _ => by rw [Hm.out]; exact hq
        go_wp2_with (go_at_call 13; refine (rMost_any d _ m (by rw [cl_id d (by omega) (by simp only [E]; omega)]; exact Hm.out)).mono ?_; rintro e w' ⟨rfl, rfl⟩)
        go_round
        case rel => exact ⟨a, d, rfl, rfl, ha, hd1, by omega, hlow, hup2⟩
        case measure => simp [intOf]; omega
      · have hdq : decide (u ≤ m) = false := by simp; omega
        have hlow2 : Hid (∀ x, 0 ≤ x → x < d + 1 → mst x < u) := fun x h1 h2 => by
          have := mst_mono x d (by omega)
          rw [Hm.out] at this
          omega
        go_wp2_with (go_at_call 13; refine (rMost_any d _ m (by rw [cl_id d (by omega) (by simp only [E]; omega)]; exact Hm.out)).mono ?_; rintro e w' ⟨rfl, rfl⟩)
        go_round
        case rel => exact ⟨d + 1, c, rfl, rfl, by omega, by omega, hc, hlow2, hup⟩
        case measure => simp [intOf]; omega
    · have hdec : decide (a < c) = false := by simp; omega
      have hfin : Hid (a = v) := by
        have hace : a = c := by omega
        show a = v
        rw [← Hv.out]
        have hr := sn_range u h0 h1
        exact found (p := fun r => u ≤ mst r) a ha (by simp only [E]; omega) hr.1 hr.2 (fun x p q => Int.not_le.2 (hlow.out x p q)) (by rw [hace]; exact hup.out) (fun x _ _ => mst_ge x u)
      go_wp2
      go_ret
      exact ⟨ret_int hfin.out, rfl⟩
set_option maxHeartbeats 400000 in
theorem latest_any (u : Int) (w : World) (h0 : 0 ≤ u) (h1 : u ≤ 2199023255552) (v : Int) (hv : lt u = v) :
    Calls Try.prog 31 #[.int .i64 u] w fun e w' => e = .returned (.int .i64 v) ∧ w = w' := by
  have Hv := Lib.hid hv
  clear hv
  go_enter Try.func31, Try.ntmps31
  go_wp2
  go_loop [3, 4, 5] (fun f t _ => ∃ a c : Int, f = .int .i64 a ∧ t = .int .i64 c ∧ 0 ≤ a ∧ a ≤ c ∧ c ≤ 2199023255552 ∧ Hid (0 < a → lst a ≤ u) ∧ Hid (∀ x, c < x → x ≤ E → u < lst x)) (fun f t _ => (intOf t - intOf f).toNat)
  case atStart => exact ⟨0, 2199023255552, rfl, rfl, by omega, by omega, by omega, fun h => by omega, fun x h1 h2 => by simp only [E] at h2; omega⟩
  case round =>
    obtain ⟨a, c, rfl, rfl, ha, hac, hc, hlow, hup⟩ := hrel
    by_cases hlt : a < c
    · have hdec : decide (a < c) = true := by simp; omega
      obtain ⟨d, hd, hd1, hd2⟩ : ∃ d : Int, (a + c + 1) / 2 = d ∧ a < d ∧ d ≤ c := ⟨_, rfl, by omega, by omega⟩
      obtain ⟨m, Hm⟩ : ∃ m, Hid (lst d = m) := ⟨_, rfl⟩
      by_cases hq : m ≤ u
      · have hdq : decide (m ≤ u) = true := by simp; omega
        have hlow2 : Hid (0 < d → lst d ≤ u) := fun _ => by rw [Hm.out]; exact hq
        go_wp2_with (go_at_call 11; refine (rLeast_any d _ m (by rw [cl_id d (by omega) (by simp only [E]; omega)]; exact Hm.out)).mono ?_; rintro e w' ⟨rfl, rfl⟩)
        go_round
        case rel => exact ⟨d, c, rfl, rfl, by omega, hd2, hc, hlow2, hup⟩
        case measure => simp [intOf]; omega
      · have hdq : decide (m ≤ u) = false := by simp; omega
        have hup2 : Hid (∀ x, d - 1 < x → x ≤ E → u < lst x) := fun x h1 h2 => by
          have := lst_mono d x (by omega)
          rw [Hm.out] at this
          omega
        go_wp2_with (go_at_call 11; refine (rLeast_any d _ m (by rw [cl_id d (by omega) (by simp only [E]; omega)]; exact Hm.out)).mono ?_; rintro e w' ⟨rfl, rfl⟩)
        go_round
        case rel => exact ⟨a, d - 1, rfl, rfl, ha, by omega, by omega, hlow, hup2⟩
        case measure => simp [intOf]; omega
    · have hdec : decide (a < c) = false := by simp; omega
      have hfin : Hid (a = v) := by
        have hace : a = c := by omega
        show a = v
        rw [← Hv.out]
        have hr := lt_range u h0
        exact found_up (p := fun r => lst r ≤ u) a ha (by simp only [E]; omega) hr.1 hr.2 hlow.out (by rw [hace]; exact fun x p q => Int.not_le.2 (hup.out x p q)) (fun x _ hx => lt_spec u x hx)
      go_wp2
      go_ret
      exact ⟨ret_int hfin.out, rfl⟩
end Go.Proofs.Ytofmmflohhadkaa
