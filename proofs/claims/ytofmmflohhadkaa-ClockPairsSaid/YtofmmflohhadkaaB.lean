import Derived.Test.YtofmmflohhadkaaA
namespace Go.Proofs.Ytofmmflohhadkaa
open Go.RowKit Go.Kx Plain
theorem cl_M (n : Int) : 0 ≤ cl n M ∧ cl n M ≤ M := by unfold cl; simp only [M]; omega
set_option maxHeartbeats 600000 in
theorem Wait_any (n : Int) (w : World) (h0 : -9223372036854775808 ≤ n) (h1 : n ≤ 9223372036854775807) (v : Int) (hv : wt (cl n M) = v) :
    Calls Try.prog 14 #[.int .i64 n] w fun e w' => e = .returned (.int .i64 v) ∧ Below w.heap.size w w' := by
  have Hv := Lib.hid hv
  clear hv
  obtain ⟨hc1, hc2⟩ := cl_M n
  obtain ⟨c, Hc⟩ : ∃ c, Hid (cl n M = c) := ⟨_, rfl⟩
  rw [Hc.out] at hc1 hc2 Hv
  go_enter Try.func14, Try.ntmps14
  go_wp2_with (go_at_call 23; refine (within_any n 0 1099511627776 _ h0 h1 c Hc.out).mono ?_; rintro e w' ⟨rfl, rfl⟩)
  have hcell : (w.alloc (.cells #[.int .i64 c] 3)).cell? ⟨w.heap.size, 0, none⟩ = some (.int .i64 c) := by rw [World.cell?_alloc_at _ _ _ _ (by simp)]; rfl
  have hB : Below w.heap.size w (w.alloc (.cells #[.int .i64 c] 3)) := (Below.refl _ _).alloc (Nat.le_refl _) _
  generalize w.alloc (.cells #[.int .i64 c] 3) = W at hcell hB ⊢
  generalize hg : w.heap.size = g at *
  refine (first28_any (fun r => decide (c ≤ lst r)) g 0 W (fun r m hr0 hr1 => (wait1_any r c g 0 (W.drewN m) hr0 hr1 hcell).mono fun e w' ⟨he, k, hw⟩ => ⟨he, m + k, by rw [hw, World.drewN_drewN]⟩) (fun x y hxy h => by simp at h ⊢; unfold lst at *; omega)).mono ?_
  rintro e w' ⟨r, rfl, hr0, hr1, hlow, hup, k, rfl⟩
  have hr : r = r1 c := found (p := fun r => c ≤ lst r) r hr0 hr1 (r1_range c hc1 hc2).1 (r1_range c hc1 hc2).2 (fun x h0 h1 => by simpa using hlow x h0 h1) (fun h => by simpa using hup h) (fun x _ _ => lst_ge x c)
  have Hr := Lib.hid hr
  clear hlow hup hr
  by_cases hz : r = 0
  · have hz' : (r == 0) = true := by simp [hz]
    have hvv : Hid (v = 0) := by show v = 0; rw [← Hv.out]; unfold wt; rw [if_pos (by rw [← Hr.out]; exact hz)]
    clear hz
    go_wp2
    go_ret
    exact ⟨ret_int hvv.out.symm, by rw [hg]; exact below_of_drewN hB _⟩
  · have hz' : (r == 0) = false := by simp [hz]
    have hvv : Hid (v = mst (r - 1) + 1) := by show v = _; rw [← Hv.out]; unfold wt; rw [if_neg (by rw [← Hr.out]; exact hz), ← Hr.out]
    have hm : 0 ≤ mst (r - 1) ∧ mst (r - 1) ≤ 4398046511104 := by unfold mst; omega
    obtain ⟨u, Hu⟩ : ∃ u, Hid (mst (r - 1) = u) := ⟨_, rfl⟩
    rw [Hu.out] at hm hvv
    obtain ⟨hm1, hm2⟩ := hm
    go_wp2_with (go_at_call 26; refine (most_any (r - 1) _ (by omega) (by omega) u Hu.out).mono ?_; rintro e w' ⟨rfl, rfl⟩)
    go_ret
    exact ⟨ret_int hvv.out.symm, by rw [hg]; exact below_of_drewN hB _⟩
set_option maxHeartbeats 600000 in
theorem Use_any (n : Int) (w : World) (h0 : -9223372036854775808 ≤ n) (h1 : n ≤ 9223372036854775807) (v : Int) (hv : us (cl n M) = v) :
    Calls Try.prog 16 #[.int .i64 n] w fun e w' => e = .returned (.int .i64 v) ∧ Below w.heap.size w w' := by
  have Hv := Lib.hid hv
  clear hv
  obtain ⟨hc1, hc2⟩ := cl_M n
  obtain ⟨c, Hc⟩ : ∃ c, Hid (cl n M = c) := ⟨_, rfl⟩
  rw [Hc.out] at hc1 hc2 Hv
  go_enter Try.func16, Try.ntmps16
  go_wp2_with (go_at_call 23; refine (within_any n 0 1099511627776 _ h0 h1 c Hc.out).mono ?_; rintro e w' ⟨rfl, rfl⟩)
  have hcell : (w.alloc (.cells #[.int .i64 c] 3)).cell? ⟨w.heap.size, 0, none⟩ = some (.int .i64 c) := by rw [World.cell?_alloc_at _ _ _ _ (by simp)]; rfl
  have hB : Below w.heap.size w (w.alloc (.cells #[.int .i64 c] 3)) := (Below.refl _ _).alloc (Nat.le_refl _) _
  generalize w.alloc (.cells #[.int .i64 c] 3) = W at hcell hB ⊢
  generalize hg : w.heap.size = g at *
  refine (first30_any (fun r => decide (c < mst r)) g 0 W (fun r m hr0 hr1 => (use1_any r c g 0 (W.drewN m) hr0 hr1 hcell).mono fun e w' ⟨he, k, hw⟩ => ⟨he, m + k, by rw [hw, World.drewN_drewN]⟩) (fun x y hxy h => by simp at h ⊢; unfold mst at *; omega)).mono ?_
  rintro e w' ⟨r, rfl, hr0, hr1, hlow, hup, k, rfl⟩
  have hr : r = r2 c := found (p := fun r => c < mst r) r hr0 hr1 (r2_range c hc1 hc2).1 (r2_range c hc1 hc2).2 (fun x h0 h1 => by simpa using hlow x h0 h1) (fun h => by simpa using hup h) (fun x _ _ => mst_gt x c)
  have Hr := Lib.hid hr
  clear hlow hup hr
  have hvv : Hid (v = lst r - 1) := by show v = _; rw [← Hv.out]; unfold us; rw [← Hr.out]
  have hm : 0 ≤ lst r ∧ lst r ≤ 4398046511104 := by unfold lst; omega
  obtain ⟨u, Hu⟩ : ∃ u, Hid (lst r = u) := ⟨_, rfl⟩
  rw [Hu.out] at hm hvv
  obtain ⟨hm1, hm2⟩ := hm
  go_wp2_with (go_at_call 24; refine (least_any r _ hr0 hr1 u Hu.out).mono ?_; rintro e w' ⟨rfl, rfl⟩)
  go_ret
  exact ⟨ret_int hvv.out.symm, by rw [hg]; exact below_of_drewN hB _⟩
end Go.Proofs.Ytofmmflohhadkaa
