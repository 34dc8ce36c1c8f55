import Derived.Test.YtofmmflohhadkaaU
import Derived.Deep.DeepCutAuto
namespace Go.Proofs.Ytofmmflohhadkaa
open Go.RowKit Go.Kx Plain
set_option maxHeartbeats 1000000 in
theorem waits_any (w : World) (x : Nat) (hx : x < 18446744073709551616) (r : Nat) (hr : r < 18446744073709551616) (own : Nat) (hown : own < 18446744073709551616) (oth : Nat) (hoth : oth < 18446744073709551616) :
    Calls Try.prog 5 #[.int .u64 (x : Int), .int .u64 (r : Int), .int .u64 (own : Int), .int .u64 (oth : Int)] w fun e w' => e = .returned (.bool true) ∧ Below w.heap.size w w' := by
  obtain ⟨n, Ha, ha⟩ : ∃ a, Hid (x % 1099511627777 = a) ∧ a < 1099511627777 := ⟨_, rfl, Nat.mod_lt _ (by omega)⟩
  obtain ⟨b, Hb, hb⟩ : ∃ a, Hid (r % 1099511627777 = a) ∧ a < 1099511627777 := ⟨_, rfl, Nat.mod_lt _ (by omega)⟩
  have ca := cl_idM (n : Int) (by omega) (by simp only [M]; omega)
  have cb := cl_id (b : Int) (by omega) (by simp only [E]; omega)
  have hlm := lst_le_mst (b : Int) (by omega)
  have q0 : 0 ≤ lst (b : Int) := by unfold lst; omega
  have q1 := (least_bounds (b : Int) (by omega)).2.2.2
  have hwr := wt_range (n : Int) (by omega) (by simp only [M]; omega)
  simp only [E] at hwr
  have hur := us_ge (n : Int) (by omega)
  have hul : us (n : Int) ≤ n := by
    by_cases h : n = 0
    · subst h; decide
    · have := us_lt (n : Int) (by omega); omega
  have kw := fun a c => wait_does (n : Int) (b : Int) a c (by omega)
  have ku := fun a c => use_does (n : Int) (b : Int) a c
  obtain ⟨l, Hl, hl⟩ : ∃ l, Hid (lst (cl (b : Int) E) = l) ∧ lst (b : Int) = l := ⟨_, rfl, by rw [cb]⟩
  obtain ⟨m, Hm, hm⟩ : ∃ l, Hid (mst (cl (b : Int) E) = l) ∧ mst (b : Int) = l := ⟨_, rfl, by rw [cb]⟩
  obtain ⟨wn, Hw, hw⟩ : ∃ l, Hid (wt (cl (n : Int) M) = l) ∧ wt (n : Int) = l := ⟨_, rfl, by rw [ca]⟩
  obtain ⟨un, Hu, hu⟩ : ∃ l, Hid (us (cl (n : Int) M) = l) ∧ us (n : Int) = l := ⟨_, rfl, by rw [ca]⟩
  rw [hl] at q0 hlm kw ku
  rw [hm] at q1 hlm kw ku
  rw [hw] at kw hwr
  rw [hu] at ku hur hul
  have Kw := Lib.hid kw
  have Ku := Lib.hid ku
  clear kw ku hl hm hw hu ca cb
  obtain ⟨hwr1, hwr2⟩ := hwr
  go_enter Try.func5, Try.ntmps5
  go_wp2_with fail
  refine (head_any _).mono ?_
  rintro e W1 ⟨rfl, hB⟩
  go_wp2_with fail
  refine (time_any x _ hx n Ha.out).mono ?_
  rintro e w' ⟨rfl, rfl⟩
  go_wp2_with fail
  refine (time_any r _ hr b Hb.out).mono ?_
  rintro e w' ⟨rfl, rfl⟩
  go_wp2_with fail
  refine (Least_any _ _ (by omega) (by omega) l Hl.out).mono ?_
  rintro e w' ⟨rfl, rfl⟩
  go_wp2_with fail
  refine (Most_any _ _ (by omega) (by omega) m Hm.out).mono ?_
  rintro e w' ⟨rfl, rfl⟩
  go_wp2_with fail
  refine (between_any l m own _ (by omega) (by omega) (by omega) (by omega)).mono ?_
  rintro e w' ⟨⟨a, rfl, hp1, hp2⟩, rfl⟩
  have hal : l ≤ a ∧ a ≤ m := by omega
  clear hp1 hp2
  go_wp2_with fail
  refine (Least_any _ _ (by omega) (by omega) l Hl.out).mono ?_
  rintro e w' ⟨rfl, rfl⟩
  go_wp2_with fail
  refine (Most_any _ _ (by omega) (by omega) m Hm.out).mono ?_
  rintro e w' ⟨rfl, rfl⟩
  go_wp2_with fail
  refine (between_any l m oth _ (by omega) (by omega) (by omega) (by omega)).mono ?_
  rintro e w' ⟨⟨c, rfl, hp1, hp2⟩, rfl⟩
  have hcl : l ≤ c ∧ c ≤ m := by omega
  clear hp1 hp2
  obtain ⟨hal1, hal2⟩ := hal
  obtain ⟨hcl1, hcl2⟩ := hcl
  go_wp2_with fail
  refine (Wait_any _ _ (by omega) (by omega) wn Hw.out).mono ?_
  rintro e W2 ⟨rfl, hb2⟩
  have hB := hB.trans (hb2.mono hB.size)
  by_cases h1 : wn ≤ a
  · have h2 : (n : Int) ≤ c := Kw.out a c hal2 hcl1 h1 (by omega)
    have d1 : decide (wn ≤ a) = true := by simp; omega
    have d2 : decide (c < (n : Int)) = false := by simp; omega
    by_cases h3 : un < a
    · have d3 : decide (un < a) = true := by simp; omega
      go_wp2_with fail
      refine (Use_any _ _ (by omega) (by omega) un Hu.out).mono ?_
      rintro e W3 ⟨rfl, hb3⟩
      go_wp2_with fail
      go_ret
      exact ⟨rfl, hB.trans (hb3.mono hB.size)⟩
    · have h4 : c ≤ (n : Int) := Ku.out a c hal1 hcl2 (by omega)
      have d3 : decide (un < a) = false := by simp; omega
      have d4 : decide (c ≤ (n : Int)) = true := by simp; omega
      go_wp2_with fail
      refine (Use_any _ _ (by omega) (by omega) un Hu.out).mono ?_
      rintro e W3 ⟨rfl, hb3⟩
      go_wp2_with fail
      go_ret
      exact ⟨rfl, hB.trans (hb3.mono hB.size)⟩
  · have d1 : decide (wn ≤ a) = false := by simp; omega
    by_cases h3 : un < a
    · have d3 : decide (un < a) = true := by simp; omega
      go_wp2_with fail
      refine (Use_any _ _ (by omega) (by omega) un Hu.out).mono ?_
      rintro e W3 ⟨rfl, hb3⟩
      go_wp2_with fail
      go_ret
      exact ⟨rfl, hB.trans (hb3.mono hB.size)⟩
    · have h4 : c ≤ (n : Int) := Ku.out a c hal1 hcl2 (by omega)
      have d3 : decide (un < a) = false := by simp; omega
      have d4 : decide (c ≤ (n : Int)) = true := by simp; omega
      go_wp2_with fail
      refine (Use_any _ _ (by omega) (by omega) un Hu.out).mono ?_
      rintro e W3 ⟨rfl, hb3⟩
      go_wp2_with fail
      go_ret
      exact ⟨rfl, hB.trans (hb3.mono hB.size)⟩
end Go.Proofs.Ytofmmflohhadkaa
