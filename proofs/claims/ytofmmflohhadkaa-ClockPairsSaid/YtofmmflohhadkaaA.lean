import Derived.Test.YtofmmflohhadkaaRows
import Derived.Test.YtofmmflohhadkaaPlain
import Derived.Test.YtofmmflohhadkaaLib
namespace Go.Proofs.Ytofmmflohhadkaa
open Go.RowKit Go.Kx Plain
theorem ret_int {k : IntKind} {a b : Int} (h : a = b) : Ending.returned (.int k a) = .returned (.int k b) := by rw [h]
theorem ret_bool {a b : Bool} (h : a = b) : Ending.returned (.bool a) = .returned (.bool b) := by rw [h]
set_option maxHeartbeats 400000 in
theorem within_any (n a b : Int) (w : World) (h0 : -9223372036854775808 ≤ n) (h1 : n ≤ 9223372036854775807) (v : Int) (hv : min (max n a) b = v) :
    Calls Try.prog 23 #[.int .i64 n, .int .i64 a, .int .i64 b] w fun e w' => e = .returned (.int .i64 v) ∧ w = w' := by
  have Hv := Lib.hid hv
  clear hv
  by_cases h2 : n < a
  · by_cases h3 : b < a
    all_goals
      go_enter Try.func23, Try.ntmps23
      go_wp2
      go_ret
      have := Hv.out
      exact ⟨ret_int (by omega), rfl⟩
  · by_cases h3 : b < n
    all_goals
      go_enter Try.func23, Try.ntmps23
      go_wp2
      go_ret
      have := Hv.out
      exact ⟨ret_int (by omega), rfl⟩
set_option maxHeartbeats 400000 in
theorem least_any (r : Int) (w : World) (h0 : 0 ≤ r) (h1 : r ≤ 2199023255552) (v : Int) (hv : lst r = v) :
    Calls Try.prog 24 #[.int .i64 r] w fun e w' => e = .returned (.int .i64 v) ∧ w = w' := by
  have Hv := Lib.hid hv
  clear hv
  go_enter Try.func24, Try.ntmps24
  go_wp2
  go_ret
  exact ⟨ret_int Hv.out, rfl⟩
set_option maxHeartbeats 400000 in
theorem most_any (r : Int) (w : World) (h0 : 0 ≤ r) (h1 : r ≤ 2199023255552) (v : Int) (hv : mst r = v) :
    Calls Try.prog 26 #[.int .i64 r] w fun e w' => e = .returned (.int .i64 v) ∧ w = w' := by
  have Hv := Lib.hid hv
  clear hv
  go_enter Try.func26, Try.ntmps26
  go_wp2
  go_ret
  exact ⟨ret_int (by rw [← Hv.out]; unfold mst; omega), rfl⟩
theorem wf64 (n : Int) (h : (Lit.int .i64 n).wf = true) : -9223372036854775808 ≤ n ∧ n ≤ 9223372036854775807 := by
  simp [Lit.wf, IntKind.min, IntKind.max, IntKind.signed, IntKind.bits] at h; omega
set_option maxHeartbeats 400000 in
theorem Least_any (n : Int) (w : World) (h0 : -9223372036854775808 ≤ n) (h1 : n ≤ 9223372036854775807) (v : Int) (hv : lst (cl n E) = v) :
    Calls Try.prog 10 #[.int .i64 n] w fun e w' => e = .returned (.int .i64 v) ∧ w = w' := by
  have Hv := Lib.hid hv
  clear hv
  have hc : 0 ≤ cl n E ∧ cl n E ≤ 2199023255552 := by unfold cl; simp only [E]; omega
  obtain ⟨hc1, hc2⟩ := hc
  obtain ⟨c, Hc⟩ : ∃ c, Hid (cl n E = c) := ⟨_, rfl⟩
  rw [Hc.out] at hc1 hc2
  go_enter Try.func10, Try.ntmps10
  go_wp2_with (first
    | (go_at_call 23; refine (within_any n 0 2199023255552 _ h0 h1 c Hc.out).mono ?_; rintro e w' ⟨rfl, rfl⟩)
    | (go_at_call 24; refine (least_any c _ hc1 hc2 v (by rw [← Hc.out]; exact Hv.out)).mono ?_; rintro e w' ⟨rfl, rfl⟩))
  go_ret
  exact ⟨rfl, rfl⟩
set_option maxHeartbeats 400000 in
theorem Most_any (n : Int) (w : World) (h0 : -9223372036854775808 ≤ n) (h1 : n ≤ 9223372036854775807) (v : Int) (hv : mst (cl n E) = v) :
    Calls Try.prog 12 #[.int .i64 n] w fun e w' => e = .returned (.int .i64 v) ∧ w = w' := by
  have Hv := Lib.hid hv
  clear hv
  have hc : 0 ≤ cl n E ∧ cl n E ≤ 2199023255552 := by unfold cl; simp only [E]; omega
  obtain ⟨hc1, hc2⟩ := hc
  obtain ⟨c, Hc⟩ : ∃ c, Hid (cl n E = c) := ⟨_, rfl⟩
  rw [Hc.out] at hc1 hc2
  go_enter Try.func12, Try.ntmps12
  go_wp2_with (first
    | (go_at_call 23; refine (within_any n 0 2199023255552 _ h0 h1 c Hc.out).mono ?_; rintro e w' ⟨rfl, rfl⟩)
    | (go_at_call 26; refine (most_any c _ hc1 hc2 v (by rw [← Hc.out]; exact Hv.out)).mono ?_; rintro e w' ⟨rfl, rfl⟩))
  go_ret
  exact ⟨rfl, rfl⟩
set_option maxHeartbeats 400000 in
theorem wait1_any (r n : Int) (b o : Nat) (w : World) (h0 : 0 ≤ r) (h1 : r ≤ 2199023255552) (hc : w.cell? ⟨b, o, none⟩ = some (.int .i64 n)) :
    Calls Try.prog 28 #[.int .i64 r,   .pointer (some ⟨b, o, none⟩)] w fun e w' => e = .returned (.bool (decide (n ≤ lst r))) ∧ ∃ k, w' = w.drewN k := by
  obtain ⟨v, Hv⟩ : ∃ v, Hid (lst r = v) := ⟨_, rfl⟩
  go_enter Try.func28, Try.ntmps28
  go_wp2
  go_quiet ((go_at_call 24; exact Calls.quiet_of_same ((least_any r _ h0 h1 v Hv.out).mono fun e w' ⟨he, hw⟩ => ⟨he, hw.symm⟩)))
  go_wp2
  go_ret
  exact ⟨ret_bool (by rw [Hv.out]), _, rfl⟩
set_option maxHeartbeats 400000 in
theorem use1_any (r n : Int) (b o : Nat) (w : World) (h0 : 0 ≤ r) (h1 : r ≤ 2199023255552) (hc : w.cell? ⟨b, o, none⟩ = some (.int .i64 n)) :
    Calls Try.prog 30 #[.int .i64 r,   .pointer (some ⟨b, o, none⟩)] w fun e w' => e = .returned (.bool (decide (n < mst r))) ∧ ∃ k, w' = w.drewN k := by
  obtain ⟨v, Hv⟩ : ∃ v, Hid (mst r = v) := ⟨_, rfl⟩
  go_enter Try.func30, Try.ntmps30
  go_wp2
  go_quiet ((go_at_call 26; exact Calls.quiet_of_same ((most_any r _ h0 h1 v Hv.out).mono fun e w' ⟨he, hw⟩ => ⟨he, hw.symm⟩)))
  go_wp2
  go_ret
  exact ⟨ret_bool (by rw [Hv.out]), _, rfl⟩
set_option maxHeartbeats 400000 in
theorem first28_any (p : Int → Bool) (b o : Nat) (w : World)
    (hcall : ∀ (r : Int) (m : Nat), 0 ≤ r → r ≤ 2199023255552 → Calls Try.prog 28 #[.int .i64 r, .pointer (some ⟨b, o, none⟩)] (w.drewN m) fun e w' => e = .returned (.bool (p r)) ∧ ∃ k, w' = w.drewN k) (hp : ∀ x y, x ≤ y → p x = true → p y = true) :
    Calls Try.prog 27 #[.int .i64 0, .int .i64 2199023255552, .func (.func 28) #[] #[.pointer (some ⟨b, o, none⟩)]] w fun e w' =>
      ∃ r : Int, e = .returned (.int .i64 r) ∧ 0 ≤ r ∧ r ≤ 2199023255552 ∧ (∀ x, 0 ≤ x → x < r → p x = false) ∧ (r < 2199023255552 → p r = true) ∧ ∃ k, w' = w.drewN k := by
  have Hcall := Lib.hid hcall
  have Hp := Lib.hid hp
  clear hcall hp
  go_enter Try.func27, Try.ntmps27
  go_wp2
  go_loopw [0, 1, 7] (fun f t _ wr => ∃ (a c : Int) (m : Nat), f = .int .i64 a ∧ t = .int .i64 c ∧ 0 ≤ a ∧ a ≤ c ∧ c ≤ 2199023255552 ∧ Hid (∀ x, 0 ≤ x → x < a → p x = false) ∧ Hid (c < 2199023255552 → p c = true) ∧ wr = w.drewN m) (fun f t _ _ => (intOf t - intOf f).toNat)
  case atStart => exact ⟨0, 2199023255552, 0, rfl, rfl, by omega, by omega, by omega, fun x h1 h2 => by omega, fun h => by omega, rfl⟩
  case round =>
    obtain ⟨a, c, m, rfl, rfl, ha, hac, hc, hlow, hup, rfl⟩ := hrel
    by_cases hlt : a < c
    · have hdec : decide (a < c) = true := by simp; omega
      obtain ⟨d, hd, hd1, hd2⟩ : ∃ d : Int, a + (c - a) / 2 = d ∧ a ≤ d ∧ d < c := ⟨_, rfl, by omega, by omega⟩
      by_cases hpd : p d = true
      · have HP := Lib.hid (Hp.out)
        have hup2 : Hid (d < 2199023255552 → p d = true) := fun _ => hpd
        go_wp2_with (go_at_call 28; refine (Hcall.out d m (by omega) (by omega)).mono ?_; rintro e w' ⟨rfl, k, rfl⟩)
        go_roundw
        case rel => exact ⟨a, d, k, rfl, rfl, ha, hd1, by omega, hlow, hup2, rfl⟩
        case measure => simp [intOf]; omega
      · have hpd' : p d = false := by simpa using hpd
        have hlow2 : Hid (∀ x, 0 ≤ x → x < d + 1 → p x = false) := fun x h1 h2 => by
          cases hpx : p x with
          | false => rfl
          | true => exact absurd (Hp.out x d (by omega) hpx) hpd
        clear hpd
        go_wp2_with (go_at_call 28; refine (Hcall.out d m (by omega) (by omega)).mono ?_; rintro e w' ⟨rfl, k, rfl⟩)
        go_roundw
        case rel => exact ⟨d + 1, c, k, rfl, rfl, by omega, by omega, hc, hlow2, hup, rfl⟩
        case measure => simp [intOf]; omega
    · have hdec : decide (a < c) = false := by simp; omega
      have hace : Hid (a = c) := (by omega : a = c)
      go_wp2
      go_ret
      exact ⟨a, rfl, ha, by omega, hlow.out, by rw [hace.out]; exact hup.out, m, rfl⟩
set_option maxHeartbeats 400000 in
theorem first30_any (p : Int → Bool) (b o : Nat) (w : World)
    (hcall : ∀ (r : Int) (m : Nat), 0 ≤ r → r ≤ 2199023255552 → Calls Try.prog 30 #[.int .i64 r, .pointer (some ⟨b, o, none⟩)] (w.drewN m) fun e w' => e = .returned (.bool (p r)) ∧ ∃ k, w' = w.drewN k) (hp : ∀ x y, x ≤ y → p x = true → p y = true) :
    Calls Try.prog 27 #[.int .i64 0, .int .i64 2199023255552, .func (.func 30) #[] #[.pointer (some ⟨b, o, none⟩)]] w fun e w' =>
      ∃ r : Int, e = .returned (.int .i64 r) ∧ 0 ≤ r ∧ r ≤ 2199023255552 ∧ (∀ x, 0 ≤ x → x < r → p x = false) ∧ (r < 2199023255552 → p r = true) ∧ ∃ k, w' = w.drewN k := by
  have Hcall := Lib.hid hcall
  have Hp := Lib.hid hp
  clear hcall hp
  go_enter Try.func27, Try.ntmps27
  go_wp2
  go_loopw [0, 1, 7] (fun f t _ wr => ∃ (a c : Int) (m : Nat), f = .int .i64 a ∧ t = .int .i64 c ∧ 0 ≤ a ∧ a ≤ c ∧ c ≤ 2199023255552 ∧ Hid (∀ x, 0 ≤ x → x < a → p x = false) ∧ Hid (c < 2199023255552 → p c = true) ∧ wr = w.drewN m) (fun f t _ _ => (intOf t - intOf f).toNat)
  case atStart => exact ⟨0, 2199023255552, 0, rfl, rfl, by omega, by omega, by omega, fun x h1 h2 => by omega, fun h => by omega, rfl⟩
  case round =>
    obtain ⟨a, c, m, rfl, rfl, ha, hac, hc, hlow, hup, rfl⟩ := hrel
    by_cases hlt : a < c
    · have hdec : decide (a < c) = true := by simp; omega
      obtain ⟨d, hd, hd1, hd2⟩ : ∃ d : Int, a + (c - a) / 2 = d ∧ a ≤ d ∧ d < c := ⟨_, rfl, by omega, by omega⟩
      by_cases hpd : p d = true
      · have HP := Lib.hid (Hp.out)
        have hup2 : Hid (d < 2199023255552 → p d = true) := fun _ => hpd
        go_wp2_with (go_at_call 30; refine (Hcall.out d m (by omega) (by omega)).mono ?_; rintro e w' ⟨rfl, k, rfl⟩)
        go_roundw
        case rel => exact ⟨a, d, k, rfl, rfl, ha, hd1, by omega, hlow, hup2, rfl⟩
        case measure => simp [intOf]; omega
      · have hpd' : p d = false := by simpa using hpd
        have hlow2 : Hid (∀ x, 0 ≤ x → x < d + 1 → p x = false) := fun x h1 h2 => by
          cases hpx : p x with
          | false => rfl
          | true => exact absurd (Hp.out x d (by omega) hpx) hpd
        clear hpd
        go_wp2_with (go_at_call 30; refine (Hcall.out d m (by omega) (by omega)).mono ?_; rintro e w' ⟨rfl, k, rfl⟩)
        go_roundw
        case rel => exact ⟨d + 1, c, k, rfl, rfl, by omega, by omega, hc, hlow2, hup, rfl⟩
        case measure => simp [intOf]; omega
    · have hdec : decide (a < c) = false := by simp; omega
      have hace : Hid (a = c) := (by omega : a = c)
      go_wp2
      go_ret
      exact ⟨a, rfl, ha, by omega, hlow.out, by rw [hace.out]; exact hup.out, m, rfl⟩
end Go.Proofs.Ytofmmflohhadkaa
