import Derived.Test.YtofmmflohhadkaaW
namespace Go.Proofs.Ytofmmflohhadkaa
open Go.RowKit Go.Kx Plain
set_option maxHeartbeats 2000000 in
theorem least_law (w : World) (x : Nat) (hx : x < 18446744073709551616) :
    Calls Try.prog 6 #[.int .u64 (x : Int)] w fun e w' => e = .returned (.bool true) ∧ Below w.heap.size w w' := by
  obtain ⟨n, Ha, ha⟩ : ∃ a, Hid (x % 1099511627777 = a) ∧ a < 1099511627777 := ⟨_, rfl, Nat.mod_lt _ (by omega)⟩
  have ca := cl_idM (n : Int) (by omega) (by simp only [M]; omega)
  have hwr := wt_range (n : Int) (by omega) (by simp only [M]; omega)
  have hws := wt_small (n : Int) (by simp only [M]; omega)
  have hus := us_small' (n : Int) (by simp only [M]; omega)
  simp only [E] at hwr
  have hur := us_ge (n : Int) (by omega)
  have hlate := fun h : 0 < (n : Int) => late_at (n : Int) h (by simp only [M]; omega)
  have hsoon := soon_at (n : Int) (by omega) (by simp only [M]; omega)
  have hz1 : n = 0 → wt (n : Int) = 0 := by rintro rfl; exact wt_zero
  have hp1 : 0 < n → (n : Int) < wt (n : Int) := fun h => wt_pos _ (by omega)
  have hr1 := r1_range (n : Int) (by omega) (by simp only [M]; omega)
  have hr2 := r2_range (n : Int) (by omega) (by simp only [M]; omega)
  obtain ⟨wn, Hw, hw⟩ : ∃ l, Hid (wt (cl (n : Int) M) = l) ∧ wt (n : Int) = l := ⟨_, rfl, by rw [ca]⟩
  obtain ⟨un, Hu, hu⟩ : ∃ l, Hid (us (cl (n : Int) M) = l) ∧ us (n : Int) = l := ⟨_, rfl, by rw [ca]⟩
  rw [hw] at hwr hz1 hp1 hws
  rw [hu] at hur hus
  simp only [hw] at hlate
  simp only [hu] at hsoon
  clear hw hu ca
  obtain ⟨hwr1, hwr2⟩ := hwr
  -- the two numbers, and their parts
  obtain ⟨w1, hw1, hw1r⟩ : ∃ w1 : Int, wn - 1 = w1 ∧ -1 ≤ w1 ∧ w1 ≤ 1200000000000 := ⟨_, rfl, by omega, by omega⟩
  obtain ⟨u1, hu1, hu1r⟩ : ∃ u1 : Int, un + 1 = u1 ∧ 0 ≤ u1 ∧ u1 ≤ 1200000000001 := ⟨_, rfl, by omega, by omega⟩
  obtain ⟨q, hq, hq2, hqr⟩ : ∃ q : Int, w1.tdiv 1001 = q ∧ (0 ≤ w1 → w1 / 1001 = q) ∧ -1 ≤ q ∧ q ≤ 1200000000000 := by
    by_cases h : 0 ≤ w1
    · exact ⟨w1 / 1001, Int.tdiv_eq_ediv_of_nonneg h, fun _ => rfl, by omega, by omega⟩
    · have : w1 = -1 := by omega
      subst this
      exact ⟨0, by decide, fun h => by omega, by omega, by omega⟩
  obtain ⟨p, hp, hpr⟩ : ∃ p : Int, u1 / 999 = p ∧ 0 ≤ p ∧ p ≤ 1200000000001 := ⟨_, rfl, by omega, by omega⟩
  simp only [hw1] at hlate
  simp only [hu1] at hsoon
  have HL : Hid (0 < (n : Int) → ∃ d : Int, -5 ≤ d ∧ d ≤ 5 ∧ 0 ≤ w1 - q + d ∧ lst (cl (w1 - q + d) E) ≤ w1 ∧ w1 ≤ mst (cl (w1 - q + d) E) ∧ lst (cl (w1 - q + d) E) < (n : Int)) := fun h => by
    obtain ⟨d, h1, h2, h3, h4, h5, h6, h7⟩ := hlate h
    have := hp1 (by omega)
    rw [hq2 (by omega)] at h3 h4
    refine ⟨d, h1, h2, h3, ?_⟩
    rw [h4, cl_id _ (by omega) (by omega)]
    exact ⟨h5, h6, h7⟩
  have HS : Hid (∃ d : Int, -5 ≤ d ∧ d ≤ 5 ∧ 0 ≤ u1 + p + d ∧ lst (cl (u1 + p + d) E) ≤ u1 ∧ u1 ≤ mst (cl (u1 + p + d) E) ∧ (n : Int) < mst (cl (u1 + p + d) E)) := by
    obtain ⟨d, h1, h2, h3, h4, h5, h6, h7⟩ := hsoon
    rw [hp] at h3 h4
    refine ⟨d, h1, h2, h3, ?_⟩
    rw [h4, cl_id _ hr2.1 hr2.2]
    exact ⟨h5, h6, h7⟩
  have Hq2 := Lib.hid hq2
  clear hlate hsoon hz1 hp1 hr1 hr2 hq2
  obtain ⟨hw1a, hw1b⟩ := hw1r
  obtain ⟨hu1a, hu1b⟩ := hu1r
  obtain ⟨hqa, hqb⟩ := hqr
  obtain ⟨hpa, hpb⟩ := hpr
  go_enter Try.func6, Try.ntmps6
  go_wp2_with fail
  refine (head_any _).mono ?_
  rintro e W1 ⟨rfl, hB⟩
  go_wp2_with fail
  refine (time_any x _ hx n Ha.out).mono ?_
  rintro e w' ⟨rfl, rfl⟩
  go_wp2_with fail
  refine (Wait_any _ _ (by omega) (by omega) wn Hw.out).mono ?_
  rintro e W2 ⟨rfl, hb2⟩
  have hB := hB.trans (hb2.mono hB.size)
  go_wp2_with fail
  refine (Use_any _ _ (by omega) (by omega) un Hu.out).mono ?_
  rintro e W3 ⟨rfl, hb3⟩
  have hB := hB.trans (hb3.mono hB.size)
  clear hb2 hb3
  go_wp2_with fail
  go_loop [7, 8, 9, 10, 11] (fun l s i _ _ => ∃ (d : Int) (bl bs : Bool), i = .int .i64 d ∧ l = .bool bl ∧ s = .bool bs ∧ -5 ≤ d ∧ d ≤ 6 ∧
      Hid (∀ e : Int, -5 ≤ e → e < d → 0 ≤ w1 - q + e ∧ lst (cl (w1 - q + e) E) ≤ w1 ∧ w1 ≤ mst (cl (w1 - q + e) E) ∧ lst (cl (w1 - q + e) E) < (n : Int) → bl = true) ∧
      Hid (∀ e : Int, -5 ≤ e → e < d → 0 ≤ u1 + p + e ∧ lst (cl (u1 + p + e) E) ≤ u1 ∧ u1 ≤ mst (cl (u1 + p + e) E) ∧ (n : Int) < mst (cl (u1 + p + e) E) → bs = true)) (fun _ _ i _ _ => (6 - intOf i).toNat)
  case atStart => exact ⟨-5, false, false, rfl, rfl, rfl, by omega, by omega, fun e h1 h2 => by omega, fun e h1 h2 => by omega⟩
  case round =>
    obtain ⟨d, bl, bs, rfl, rfl, rfl, hd1, hd2, hl, hs⟩ := hrel
    by_cases hlt : d ≤ 5
    · have hdec : decide (d ≤ 5) = true := by simp; omega
      obtain ⟨r, hr⟩ : ∃ r, w1 - q + d = r := ⟨_, rfl⟩
      obtain ⟨s, hs0⟩ : ∃ r, u1 + p + d = r := ⟨_, rfl⟩
      have hrb : -2000000000000 ≤ r ∧ r ≤ 2000000000000 := by omega
      have hsb : -4000000000000 ≤ s ∧ s ≤ 4000000000000 := by omega
      obtain ⟨hrb1, hrb2⟩ := hrb
      obtain ⟨hsb1, hsb2⟩ := hsb
      obtain ⟨L, HLr⟩ : ∃ v, Hid (lst (cl r E) = v) := ⟨_, rfl⟩
      obtain ⟨U, HUr⟩ : ∃ v, Hid (mst (cl r E) = v) := ⟨_, rfl⟩
      obtain ⟨L', HLs⟩ : ∃ v, Hid (lst (cl s E) = v) := ⟨_, rfl⟩
      obtain ⟨U', HUs⟩ : ∃ v, Hid (mst (cl s E) = v) := ⟨_, rfl⟩
      have hw0 : wn = 0 ∨ 0 ≤ w1 := by omega
      have Hl2 : Hid (0 ≤ w1 - q + d ∧ lst (cl (w1 - q + d) E) ≤ w1 ∧ w1 ≤ mst (cl (w1 - q + d) E) ∧ lst (cl (w1 - q + d) E) < (n : Int) → 0 ≤ r ∧ L ≤ w1 ∧ w1 ≤ U ∧ L < (n : Int)) := by rw [hr, HLr.out, HUr.out]; exact fun h => h
      have Hs2 : Hid (0 ≤ u1 + p + d ∧ lst (cl (u1 + p + d) E) ≤ u1 ∧ u1 ≤ mst (cl (u1 + p + d) E) ∧ (n : Int) < mst (cl (u1 + p + d) E) → 0 ≤ s ∧ L' ≤ u1 ∧ u1 ≤ U' ∧ (n : Int) < U') := by rw [hs0, HLs.out, HUs.out]; exact fun h => h
      go_upto_region 9 with fail
      go_cut [50] (fun v wx => ∃ b : Bool, v = .bool b ∧ W3 = wx ∧ Hid (0 ≤ r ∧ L ≤ w1 ∧ w1 ≤ U ∧ L < (n : Int) → b = true))
      case first =>
        by_cases t0 : 0 ≤ r
        · have d0 : decide (0 ≤ r) = true := by simp; omega
          by_cases t1 : L ≤ w1
          · have d1 : decide (L ≤ w1) = true := by simp; omega
            by_cases t2 : w1 ≤ U
            · have d2 : decide (w1 ≤ U) = true := by simp; omega
              by_cases t3 : L < (n : Int)
              · have d3 : decide (L < (n : Int)) = true := by simp; omega
                go_wp2_with (first
                  | (go_at_call 10; refine (Least_any r _ (by omega) (by omega) L HLr.out).mono ?_; rintro e w' ⟨rfl, rfl⟩)
                  | (go_at_call 12; refine (Most_any r _ (by omega) (by omega) U HUr.out).mono ?_; rintro e w' ⟨rfl, rfl⟩))
                go_meet
                exact ⟨_, rfl, rfl, fun _ => rfl⟩
              · have d3 : decide (L < (n : Int)) = false := by simp; omega
                go_wp2_with (first
                  | (go_at_call 10; refine (Least_any r _ (by omega) (by omega) L HLr.out).mono ?_; rintro e w' ⟨rfl, rfl⟩)
                  | (go_at_call 12; refine (Most_any r _ (by omega) (by omega) U HUr.out).mono ?_; rintro e w' ⟨rfl, rfl⟩))
                go_meet
                exact ⟨_, rfl, rfl, fun h => by omega⟩
            · have d2 : decide (w1 ≤ U) = false := by simp; omega
              go_wp2_with (first
                | (go_at_call 10; refine (Least_any r _ (by omega) (by omega) L HLr.out).mono ?_; rintro e w' ⟨rfl, rfl⟩)
                | (go_at_call 12; refine (Most_any r _ (by omega) (by omega) U HUr.out).mono ?_; rintro e w' ⟨rfl, rfl⟩))
              go_meet
              exact ⟨_, rfl, rfl, fun h => by omega⟩
          · have d1 : decide (L ≤ w1) = false := by simp; omega
            go_wp2_with (first
              | (go_at_call 10; refine (Least_any r _ (by omega) (by omega) L HLr.out).mono ?_; rintro e w' ⟨rfl, rfl⟩)
              | (go_at_call 12; refine (Most_any r _ (by omega) (by omega) U HUr.out).mono ?_; rintro e w' ⟨rfl, rfl⟩))
            go_meet
            exact ⟨_, rfl, rfl, fun h => by omega⟩
        · have d0 : decide (0 ≤ r) = false := by simp; omega
          go_wp2_with (first
            | (go_at_call 10; refine (Least_any r _ (by omega) (by omega) L HLr.out).mono ?_; rintro e w' ⟨rfl, rfl⟩)
            | (go_at_call 12; refine (Most_any r _ (by omega) (by omega) U HUr.out).mono ?_; rintro e w' ⟨rfl, rfl⟩))
          go_meet
          exact ⟨_, rfl, rfl, fun h => by omega⟩
      case rest =>
        obtain ⟨b, rfl, rfl, hb⟩ := hcut
        have hl3 : Hid (∀ e : Int, -5 ≤ e → e < d + 1 → 0 ≤ w1 - q + e ∧ lst (cl (w1 - q + e) E) ≤ w1 ∧ w1 ≤ mst (cl (w1 - q + e) E) ∧ lst (cl (w1 - q + e) E) < (n : Int) → (b || bl) = true) := fun e he1 he2 hc => by
          by_cases h : e < d
          · rw [hl.out e he1 h hc]; simp
          · have : e = d := by omega
            subst this
            rw [hb.out (Hl2.out hc)]; simp
        clear hl hb
        cases b
        all_goals
          go_upto_region 12 with fail
          go_cut [76] (fun v wx => ∃ b : Bool, v = .bool b ∧ W3 = wx ∧ Hid (0 ≤ s ∧ L' ≤ u1 ∧ u1 ≤ U' ∧ (n : Int) < U' → b = true))
          case first =>
            by_cases t0 : 0 ≤ s
            · have d0 : decide (0 ≤ s) = true := by simp; omega
              by_cases t1 : L' ≤ u1
              · have d1 : decide (L' ≤ u1) = true := by simp; omega
                by_cases t2 : u1 ≤ U'
                · have d2 : decide (u1 ≤ U') = true := by simp; omega
                  by_cases t3 : (n : Int) < U'
                  · have d3 : decide ((n : Int) < U') = true := by simp; omega
                    go_wp2_with (first
                      | (go_at_call 10; refine (Least_any s _ (by omega) (by omega) L' HLs.out).mono ?_; rintro e w' ⟨rfl, rfl⟩)
                      | (go_at_call 12; refine (Most_any s _ (by omega) (by omega) U' HUs.out).mono ?_; rintro e w' ⟨rfl, rfl⟩))
                    go_meet
                    exact ⟨_, rfl, rfl, fun _ => rfl⟩
                  · have d3 : decide ((n : Int) < U') = false := by simp; omega
                    go_wp2_with (first
                      | (go_at_call 10; refine (Least_any s _ (by omega) (by omega) L' HLs.out).mono ?_; rintro e w' ⟨rfl, rfl⟩)
                      | (go_at_call 12; refine (Most_any s _ (by omega) (by omega) U' HUs.out).mono ?_; rintro e w' ⟨rfl, rfl⟩))
                    go_meet
                    exact ⟨_, rfl, rfl, fun h => by omega⟩
                · have d2 : decide (u1 ≤ U') = false := by simp; omega
                  go_wp2_with (first
                    | (go_at_call 10; refine (Least_any s _ (by omega) (by omega) L' HLs.out).mono ?_; rintro e w' ⟨rfl, rfl⟩)
                    | (go_at_call 12; refine (Most_any s _ (by omega) (by omega) U' HUs.out).mono ?_; rintro e w' ⟨rfl, rfl⟩))
                  go_meet
                  exact ⟨_, rfl, rfl, fun h => by omega⟩
              · have d1 : decide (L' ≤ u1) = false := by simp; omega
                go_wp2_with (first
                  | (go_at_call 10; refine (Least_any s _ (by omega) (by omega) L' HLs.out).mono ?_; rintro e w' ⟨rfl, rfl⟩)
                  | (go_at_call 12; refine (Most_any s _ (by omega) (by omega) U' HUs.out).mono ?_; rintro e w' ⟨rfl, rfl⟩))
                go_meet
                exact ⟨_, rfl, rfl, fun h => by omega⟩
            · have d0 : decide (0 ≤ s) = false := by simp; omega
              go_wp2_with (first
                | (go_at_call 10; refine (Least_any s _ (by omega) (by omega) L' HLs.out).mono ?_; rintro e w' ⟨rfl, rfl⟩)
                | (go_at_call 12; refine (Most_any s _ (by omega) (by omega) U' HUs.out).mono ?_; rintro e w' ⟨rfl, rfl⟩))
              go_meet
              exact ⟨_, rfl, rfl, fun h => by omega⟩
          case rest =>
            obtain ⟨b, rfl, rfl, hb⟩ := hcut
            have hs3 : Hid (∀ e : Int, -5 ≤ e → e < d + 1 → 0 ≤ u1 + p + e ∧ lst (cl (u1 + p + e) E) ≤ u1 ∧ u1 ≤ mst (cl (u1 + p + e) E) ∧ (n : Int) < mst (cl (u1 + p + e) E) → (b || bs) = true) := fun e he1 he2 hc => by
              by_cases h : e < d
              · rw [hs.out e he1 h hc]; simp
              · have : e = d := by omega
                subst this
                rw [hb.out (Hs2.out hc)]; simp
            clear hs hb
            cases b
            all_goals
              go_wp2
              go_round
              case rel => exact ⟨d + 1, _, _, rfl, rfl, rfl, by omega, by omega, hl3, hs3⟩
              case measure => simp [intOf]; omega
    · have hdec : decide (d ≤ 5) = false := by simp; omega
      have hS : bs = true := by
        obtain ⟨e, h1, h2, h3⟩ := HS.out
        exact hs.out e h1 (by omega) h3
      subst hS
      by_cases hn0 : n = 0
      · have t1 : ((n : Int) == 0) = true := by simp; omega
        clear hn0
        go_wp2
        go_ret
        exact ⟨rfl, hB⟩
      · have t1 : ((n : Int) == 0) = false := by simp; omega
        have hL : bl = true := by
          obtain ⟨e, h1, h2, h3⟩ := HL.out (by omega)
          exact hl.out e h1 (by omega) h3
        subst hL
        go_wp2
        go_ret
        exact ⟨rfl, hB⟩
end Go.Proofs.Ytofmmflohhadkaa
