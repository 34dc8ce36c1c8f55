import Derived.Test.YtofmmflohhadkaaV
namespace Go.Proofs.Ytofmmflohhadkaa
open Go.RowKit Go.Kx Plain
set_option maxHeartbeats 2000000 in
theorem order_any (w : World) (x : Nat) (hx : x < 18446744073709551616) (y : Nat) (hy : y < 18446744073709551616) :
    Calls Try.prog 7 #[.int .u64 (x : Int), .int .u64 (y : Int)] w fun e w' => e = .returned (.bool true) ∧ Below w.heap.size w w' := by
  obtain ⟨n, Ha, ha⟩ : ∃ a, Hid (x % 1099511627777 = a) ∧ a < 1099511627777 := ⟨_, rfl, Nat.mod_lt _ (by omega)⟩
  obtain ⟨m, Hb, hb⟩ : ∃ a, Hid (y % 1099511627777 = a) ∧ a < 1099511627777 := ⟨_, rfl, Nat.mod_lt _ (by omega)⟩
  have ca := cl_idM (n : Int) (by omega) (by simp only [M]; omega)
  have cb := cl_idM (m : Int) (by omega) (by simp only [M]; omega)
  have hwr := wt_range (n : Int) (by omega) (by simp only [M]; omega)
  simp only [E] at hwr
  have hur := us_ge (n : Int) (by omega)
  have hz1 : n = 0 → wt (n : Int) = 0 := by rintro rfl; exact wt_zero
  have hz2 : n = 0 → us (n : Int) = -1 := by rintro rfl; exact us_zero
  have hp1 : 0 < n → (n : Int) < wt (n : Int) := fun h => wt_pos _ (by omega)
  have hp2 : 0 < n → us (n : Int) < (n : Int) := fun h => us_lt _ (by omega)
  have hm1 : n ≤ m → wt (n : Int) ≤ wt (m : Int) := fun h => wt_mono _ _ (by omega) (by omega)
  have hm2 : n ≤ m → us (n : Int) ≤ us (m : Int) := fun h => us_mono _ _ (by omega)
  have huw := us_wt (n : Int) (by omega)
  have hmr := wt_range (m : Int) (by omega) (by simp only [M]; omega)
  simp only [E] at hmr
  obtain ⟨wn, Hw, hw⟩ : ∃ l, Hid (wt (cl (n : Int) M) = l) ∧ wt (n : Int) = l := ⟨_, rfl, by rw [ca]⟩
  obtain ⟨un, Hu, hu⟩ : ∃ l, Hid (us (cl (n : Int) M) = l) ∧ us (n : Int) = l := ⟨_, rfl, by rw [ca]⟩
  obtain ⟨wm, Hwm, hwm⟩ : ∃ l, Hid (wt (cl (m : Int) M) = l) ∧ wt (m : Int) = l := ⟨_, rfl, by rw [cb]⟩
  obtain ⟨um, Hum, hum⟩ : ∃ l, Hid (us (cl (m : Int) M) = l) ∧ us (m : Int) = l := ⟨_, rfl, by rw [cb]⟩
  rw [hw] at hwr hz1 hp1 hm1 huw
  rw [hu] at hur hz2 hp2 hm2
  rw [hwm] at hm1 hmr
  rw [hum] at hm2
  clear hw hu hwm hum ca cb
  obtain ⟨uw, Huw⟩ : ∃ l, Hid (us wn = l) := ⟨_, rfl⟩
  rw [Huw.out] at huw
  have Hcw : Hid (wn ≤ 1099511627776 → us (cl wn M) = uw) := fun h => by rw [cl_idM wn hwr.1 h]; exact Huw.out
  obtain ⟨hwr1, hwr2⟩ := hwr
  have Hz1 := Lib.hid hz1
  have Hz2 := Lib.hid hz2
  have Hp1 := Lib.hid hp1
  have Hp2 := Lib.hid hp2
  have Hm1 := Lib.hid hm1
  have Hm2 := Lib.hid hm2
  clear hz1 hz2 hp1 hp2 hm1 hm2
  have d12 : decide ((n : Int) - 1 ≤ uw) = true := by simp; omega
  go_enter Try.func7, Try.ntmps7
  go_wp2_with fail
  refine (head_any _).mono ?_
  rintro e W1 ⟨rfl, hB⟩
  go_wp2_with fail
  refine (time_any x _ hx n Ha.out).mono ?_
  rintro e w' ⟨rfl, rfl⟩
  go_wp2_with fail
  refine (time_any y _ hy m Hb.out).mono ?_
  rintro e w' ⟨rfl, rfl⟩
  go_wp2_with fail
  refine (Wait_any _ _ (by omega) (by omega) wn Hw.out).mono ?_
  rintro e W2 ⟨rfl, hb2⟩
  have hB := hB.trans (hb2.mono hB.size)
  go_wp2_with fail
  refine (Use_any _ _ (by omega) (by omega) un Hu.out).mono ?_
  rintro e W3 ⟨rfl, hb3⟩
  have hB := hB.trans (hb3.mono hB.size)
  clear hb2 hb3
  by_cases hn0 : n = 0
  · have e1 := Hz1.out hn0
    have e2 := Hz2.out hn0
    have t1 : ((n : Int) == 0) = true := by simp; omega
    have t2 : (wn != 0) = false := by simp; omega
    have t3 : (un != -1) = false := by simp; omega
    have t4 : decide ((0 : Int) < (n : Int)) = false := by simp; omega
    have t4' : decide (0 < n) = false := by simp; omega
    clear hn0 e1 e2
    by_cases hnm : n ≤ m
    · have s1 := Hm1.out hnm
      have s2 := Hm2.out hnm
      have t8 : decide (n ≤ m) = true := by simp; omega
      have t9 : decide (wm < wn) = false := by simp; omega
      have t10 : decide (um < un) = false := by simp; omega
      go_wp2_with fail
      refine (Wait_any _ _ (by omega) (by omega) wm Hwm.out).mono ?_
      rintro e W4 ⟨rfl, hb4⟩
      have hB := hB.trans (hb4.mono hB.size)
      go_wp2_with fail
      refine (Use_any _ _ (by omega) (by omega) um Hum.out).mono ?_
      rintro e W5 ⟨rfl, hb5⟩
      have hB := hB.trans (hb5.mono hB.size)
      by_cases hbig : 1099511627776 < wn
      · have t11 : decide (1099511627776 < wn) = true := by simp; omega
        go_wp2_with fail
        go_ret
        exact ⟨rfl, hB⟩
      · have t11 : decide (1099511627776 < wn) = false := by simp; omega
        go_wp2_with fail
        refine (Use_any _ _ (by omega) (by omega) uw (Hcw.out (by omega))).mono ?_
        rintro e W6 ⟨rfl, hb6⟩
        go_wp2_with fail
        go_ret
        exact ⟨rfl, hB.trans (hb6.mono hB.size)⟩
    · have t8 : decide (n ≤ m) = false := by simp; omega
      by_cases hbig : 1099511627776 < wn
      · have t11 : decide (1099511627776 < wn) = true := by simp; omega
        go_wp2_with fail
        go_ret
        exact ⟨rfl, hB⟩
      · have t11 : decide (1099511627776 < wn) = false := by simp; omega
        go_wp2_with fail
        refine (Use_any _ _ (by omega) (by omega) uw (Hcw.out (by omega))).mono ?_
        rintro e W6 ⟨rfl, hb6⟩
        go_wp2_with fail
        go_ret
        exact ⟨rfl, hB.trans (hb6.mono hB.size)⟩
  · have e1 := Hp1.out (by omega)
    have e2 := Hp2.out (by omega)
    have t1 : ((n : Int) == 0) = false := by simp; omega
    have t4 : decide ((0 : Int) < (n : Int)) = true := by simp; omega
    have t4' : decide (0 < n) = true := by simp; omega
    have t5 : decide (wn ≤ (n : Int)) = false := by simp; omega
    have t6 : decide ((n : Int) ≤ un) = false := by simp; omega
    have t7 : decide (un < -1) = false := by simp; omega
    by_cases hnm : n ≤ m
    · have s1 := Hm1.out hnm
      have s2 := Hm2.out hnm
      have t8 : decide (n ≤ m) = true := by simp; omega
      have t9 : decide (wm < wn) = false := by simp; omega
      have t10 : decide (um < un) = false := by simp; omega
      go_wp2_with fail
      refine (Wait_any _ _ (by omega) (by omega) wm Hwm.out).mono ?_
      rintro e W4 ⟨rfl, hb4⟩
      have hB := hB.trans (hb4.mono hB.size)
      go_wp2_with fail
      refine (Use_any _ _ (by omega) (by omega) um Hum.out).mono ?_
      rintro e W5 ⟨rfl, hb5⟩
      have hB := hB.trans (hb5.mono hB.size)
      by_cases hbig : 1099511627776 < wn
      · have t11 : decide (1099511627776 < wn) = true := by simp; omega
        go_wp2_with fail
        go_ret
        exact ⟨rfl, hB⟩
      · have t11 : decide (1099511627776 < wn) = false := by simp; omega
        go_wp2_with fail
        refine (Use_any _ _ (by omega) (by omega) uw (Hcw.out (by omega))).mono ?_
        rintro e W6 ⟨rfl, hb6⟩
        go_wp2_with fail
        go_ret
        exact ⟨rfl, hB.trans (hb6.mono hB.size)⟩
    · have t8 : decide (n ≤ m) = false := by simp; omega
      by_cases hbig : 1099511627776 < wn
      · have t11 : decide (1099511627776 < wn) = true := by simp; omega
        go_wp2_with fail
        go_ret
        exact ⟨rfl, hB⟩
      · have t11 : decide (1099511627776 < wn) = false := by simp; omega
        go_wp2_with fail
        refine (Use_any _ _ (by omega) (by omega) uw (Hcw.out (by omega))).mono ?_
        rintro e W6 ⟨rfl, hb6⟩
        go_wp2_with fail
        go_ret
        exact ⟨rfl, hB.trans (hb6.mono hB.size)⟩
end Go.Proofs.Ytofmmflohhadkaa
