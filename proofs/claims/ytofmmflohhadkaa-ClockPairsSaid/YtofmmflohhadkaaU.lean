import Derived.Test.YtofmmflohhadkaaT
namespace Go.Proofs.Ytofmmflohhadkaa
open Go.RowKit Go.Kx Plain
theorem cl_idM (n : Int) (h0 : 0 ≤ n) (h1 : n ≤ M) : cl n M = n := by unfold cl; omega
set_option maxHeartbeats 1000000 in
theorem tells_any (w : World) (n : Int) (hn : (Lit.int .i64 n).wf = true) (va : Value) (a : List Int) (ha : RI.rd w T [va] a) (vb : Value) (b : List Int) (hb : RI.rd w T [vb] b) :
    Calls Try.prog 3 #[.int .i64 n, va, vb] w fun e w' => e = .returned (.bool true) ∧ Below w.heap.size w w' := by
  obtain ⟨hn0, hn1⟩ := wf64 n hn
  obtain ⟨A, c, rfl, hm1, hm2, ha⟩ := Rep.slice_open ha
  obtain ⟨A', c', rfl, hk1, hk2, hb⟩ := Rep.slice_open hb
  by_cases h1 : 60 < a.length
  · have hd1 : decide ((60 : Int) < (a.length : Int)) = true := by simp; omega
    go_enter Try.func3, Try.ntmps3
    go_wp2_with fail
    refine (head_any _).mono ?_
    rintro e W1 ⟨rfl, hB⟩
    go_wp2_with fail
    go_ret
    exact ⟨rfl, hB⟩
  · have hd1 : decide ((60 : Int) < (a.length : Int)) = false := by simp; omega
    by_cases h2 : 60 < b.length
    · have hd2 : decide ((60 : Int) < (b.length : Int)) = true := by simp; omega
      go_enter Try.func3, Try.ntmps3
      go_wp2_with fail
      refine (head_any _).mono ?_
      rintro e W1 ⟨rfl, hB⟩
      go_wp2_with fail
      go_ret
      exact ⟨rfl, hB⟩
    · have hd2 : decide ((60 : Int) < (b.length : Int)) = false := by simp; omega
      obtain ⟨L, HL⟩ : ∃ L, Hid (lst (cl n E) = L) := ⟨_, rfl⟩
      obtain ⟨U, HU⟩ : ∃ L, Hid (mst (cl n E) = L) := ⟨_, rfl⟩
      obtain ⟨wn, HW⟩ : ∃ L, Hid (wt (cl n M) = L) := ⟨_, rfl⟩
      obtain ⟨un, HN⟩ : ∃ L, Hid (us (cl n M) = L) := ⟨_, rfl⟩
      go_enter Try.func3, Try.ntmps3
      go_wp2_with fail
      refine (head_any _).mono ?_
      rintro e W1 ⟨rfl, hB⟩
      have ha := Rep.below ha hB
      have hb := Rep.below hb hB
      go_wp2_with fail
      refine (Least_any n _ hn0 hn1 L HL.out).mono ?_
      rintro e w' ⟨rfl, rfl⟩
      go_wp2_with fail
      refine (rLeast_any n _ L HL.out).mono ?_
      rintro e w' ⟨rfl, rfl⟩
      go_wp2_with fail
      refine (Most_any n _ hn0 hn1 U HU.out).mono ?_
      rintro e w' ⟨rfl, rfl⟩
      go_wp2_with fail
      refine (rMost_any n _ U HU.out).mono ?_
      rintro e w' ⟨rfl, rfl⟩
      go_wp2_with fail
      refine (Wait_any n _ hn0 hn1 wn HW.out).mono ?_
      rintro e W2 ⟨rfl, hb2⟩
      have hB := hB.trans (hb2.mono hB.size)
      have ha := Rep.below ha hb2
      have hb := Rep.below hb hb2
      go_wp2_with fail
      refine (rWait_any n _ wn HW.out).mono ?_
      rintro e w' ⟨rfl, rfl⟩
      go_wp2_with fail
      refine (Use_any n _ hn0 hn1 un HN.out).mono ?_
      rintro e W3 ⟨rfl, hb3⟩
      have hB := hB.trans (hb3.mono hB.size)
      have ha := Rep.below ha hb3
      have hb := Rep.below hb hb3
      go_wp2_with fail
      refine (rUse_any n _ un HN.out).mono ?_
      rintro e w' ⟨rfl, rfl⟩
      go_wp2_with fail
      refine (Right_any _ _ a b _ ha hb).mono ?_
      rintro e W4 ⟨⟨r, rfl, hr⟩, hb4⟩
      have hB := hB.trans (hb4.mono hB.size)
      have ha := Rep.below ha hb4
      have hb := Rep.below hb hb4
      have Hr := Lib.hid hr
      clear hr
      go_wp2_with fail
      refine (rRight_any _ _ a b _ ha hb).mono ?_
      rintro e W5 ⟨⟨r', rfl, hr'⟩, hb5⟩
      have hB := hB.trans (hb5.mono hB.size)
      obtain rfl : r = r' := by
        have h := Hr.out
        cases r <;> cases r' <;> simp_all
      clear hr'
      go_wp2_with fail
      go_ret
      exact ⟨ret_bool (by simp), hB⟩
set_option maxHeartbeats 1000000 in
theorem bounds_any (w : World) (x : Nat) (hx : x < 18446744073709551616) (y : Nat) (hy : y < 18446744073709551616) :
    Calls Try.prog 4 #[.int .u64 (x : Int), .int .u64 (y : Int)] w fun e w' => e = .returned (.bool true) ∧ Below w.heap.size w w' := by
  obtain ⟨a, Ha, ha⟩ : ∃ a, Hid (x % 1099511627777 = a) ∧ a < 1099511627777 := ⟨_, rfl, Nat.mod_lt _ (by omega)⟩
  obtain ⟨b, Hb, hb⟩ : ∃ a, Hid (y % 1099511627777 = a) ∧ a < 1099511627777 := ⟨_, rfl, Nat.mod_lt _ (by omega)⟩
  obtain ⟨p1, p2, p3, p4⟩ := least_bounds (a : Int) (by omega)
  have q0 : 0 ≤ lst (a : Int) := by unfold lst; omega
  obtain ⟨s1, s2⟩ := least_sum (a : Int) (b : Int)
  have ca := cl_id (a : Int) (by omega) (by simp only [E]; omega)
  have cb := cl_id (b : Int) (by omega) (by simp only [E]; omega)
  have cab := cl_id ((a : Int) + (b : Int)) (by omega) (by simp only [E]; omega)
  have m1 := lst_mono (a : Int) (b : Int)
  have m2 := mst_mono (a : Int) (b : Int)
  have ub := (least_bounds (b : Int) (by omega)).2.2
  have ub1 := (least_bounds (b : Int) (by omega)).1
  have ub4 := (least_bounds (b : Int) (by omega)).2.1
  have lb : 0 ≤ lst (b : Int) := by unfold lst; omega
  obtain ⟨l, Hl, hl⟩ : ∃ l, Hid (lst (cl (a : Int) E) = l) ∧ lst (a : Int) = l := ⟨_, rfl, by rw [ca]⟩
  obtain ⟨m, Hm, hm⟩ : ∃ l, Hid (mst (cl (a : Int) E) = l) ∧ mst (a : Int) = l := ⟨_, rfl, by rw [ca]⟩
  obtain ⟨k, Hk, hk⟩ : ∃ l, Hid (lst (cl (b : Int) E) = l) ∧ lst (b : Int) = l := ⟨_, rfl, by rw [cb]⟩
  obtain ⟨n, Hn, hn⟩ : ∃ l, Hid (mst (cl (b : Int) E) = l) ∧ mst (b : Int) = l := ⟨_, rfl, by rw [cb]⟩
  obtain ⟨u, Hu, hu⟩ : ∃ l, Hid (lst (cl ((a : Int) + (b : Int)) E) = l) ∧ lst ((a : Int) + (b : Int)) = l := ⟨_, rfl, by rw [cab]⟩
  obtain ⟨v, Hv, hv⟩ : ∃ l, Hid (mst (cl ((a : Int) + (b : Int)) E) = l) ∧ mst ((a : Int) + (b : Int)) = l := ⟨_, rfl, by rw [cab]⟩
  rw [hl] at p1 p3 q0 s1 m1
  rw [hm] at p2 p4 s2 m2
  rw [hk] at s1 m1 lb ub ub1
  rw [hn] at s2 m2 ub ub4
  rw [hu] at s1
  rw [hv] at s2
  clear hl hm hk hn hu hv ca cb cab
  obtain ⟨ub2, ub3⟩ := ub
  have d1 : decide ((a : Int) < l) = false := by simp; omega
  have d2 : decide (m < (a : Int)) = false := by simp; omega
  have d3 : decide ((a : Int) / 1000 + 1 < (a : Int) - l) = false := by simp; omega
  have d4 : decide ((a : Int) / 1000 + 1 < m - (a : Int)) = false := by simp; omega
  have d5 : decide (l + k ≤ u) = true := by simp; omega
  have d6 : decide (v ≤ m + n) = true := by simp; omega
  by_cases hab : a ≤ b
  · have m1 := m1 (by omega)
    have m2 := m2 (by omega)
    have d7 : decide (a ≤ b) = true := by simp; omega
    have d8 : decide (k < l) = false := by simp; omega
    have d9 : decide (n < m) = false := by simp; omega
    go_enter Try.func4, Try.ntmps4
    go_wp2_with fail
    refine (head_any _).mono ?_
    rintro e W1 ⟨rfl, hB⟩
    go_wp2_with fail
    refine (time_any x _ hx a Ha.out).mono ?_
    rintro e w' ⟨rfl, rfl⟩
    go_wp2_with fail
    refine (time_any y _ hy b Hb.out).mono ?_
    rintro e w' ⟨rfl, rfl⟩
    go_wp2_with fail
    refine (Least_any _ _ (by omega) (by omega) l Hl.out).mono ?_
    rintro e w' ⟨rfl, rfl⟩
    go_wp2_with fail
    refine (Most_any _ _ (by omega) (by omega) m Hm.out).mono ?_
    rintro e w' ⟨rfl, rfl⟩
    go_wp2_with fail
    refine (Least_any _ _ (by omega) (by omega) k Hk.out).mono ?_
    rintro e w' ⟨rfl, rfl⟩
    go_wp2_with fail
    refine (Most_any _ _ (by omega) (by omega) n Hn.out).mono ?_
    rintro e w' ⟨rfl, rfl⟩
    go_wp2_with fail
    refine (Least_any _ _ (by omega) (by omega) u Hu.out).mono ?_
    rintro e w' ⟨rfl, rfl⟩
    go_wp2_with fail
    refine (Most_any _ _ (by omega) (by omega) v Hv.out).mono ?_
    rintro e w' ⟨rfl, rfl⟩
    go_wp2_with fail
    go_ret
    exact ⟨rfl, hB⟩
  · have d7 : decide (a ≤ b) = false := by simp; omega
    clear m1 m2
    go_enter Try.func4, Try.ntmps4
    go_wp2_with fail
    refine (head_any _).mono ?_
    rintro e W1 ⟨rfl, hB⟩
    go_wp2_with fail
    refine (time_any x _ hx a Ha.out).mono ?_
    rintro e w' ⟨rfl, rfl⟩
    go_wp2_with fail
    refine (time_any y _ hy b Hb.out).mono ?_
    rintro e w' ⟨rfl, rfl⟩
    go_wp2_with fail
    refine (Least_any _ _ (by omega) (by omega) l Hl.out).mono ?_
    rintro e w' ⟨rfl, rfl⟩
    go_wp2_with fail
    refine (Most_any _ _ (by omega) (by omega) m Hm.out).mono ?_
    rintro e w' ⟨rfl, rfl⟩
    go_wp2_with fail
    refine (Least_any _ _ (by omega) (by omega) k Hk.out).mono ?_
    rintro e w' ⟨rfl, rfl⟩
    go_wp2_with fail
    refine (Most_any _ _ (by omega) (by omega) n Hn.out).mono ?_
    rintro e w' ⟨rfl, rfl⟩
    go_wp2_with fail
    refine (Least_any _ _ (by omega) (by omega) u Hu.out).mono ?_
    rintro e w' ⟨rfl, rfl⟩
    go_wp2_with fail
    refine (Most_any _ _ (by omega) (by omega) v Hv.out).mono ?_
    rintro e w' ⟨rfl, rfl⟩
    go_wp2_with fail
    go_ret
    exact ⟨rfl, hB⟩
end Go.Proofs.Ytofmmflohhadkaa
