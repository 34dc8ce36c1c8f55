import Derived.Test.YtocnbgjaiihgiaaI
import Derived.Test.YtocnbgjaiihgiaaP2
namespace Go.Proofs.Ytocnbgjaiihgiaa
open Go.RowKit Go.Kx Plain
theorem info5 : (Try.prog.info? 5).map (fun i => (i.zero, i.size, i.bytes)) = some (some (.int .u8 0), 1, 1) := by kernel_rfl
theorem make22 (n : Nat) (hn : n ≤ 1000000) (w : World) : (Instr.makeSlice 22 (.int .i64 (n : Int)) (.int .i64 (n : Int))).run Try.prog w = .ok (.slice (some ⟨w.heap.size, 0, none⟩) n n) (w.alloc (.cells (Array.replicate n (.int .u8 0)) 5)) :=
  run_make_one w Try.underlying22 info5 rfl .i64 .i64 n (by omega) (by omega)
theorem min4 (a b c : Nat) (ts : Array TypeId) (t : TypeId) (w : World) : (Builtin.min_ ts t #[.int .i64 (a : Int), .int .i64 (b : Int), .int .i64 (c : Int), .int .i64 400]).run Try.prog w = .ok (.int .i64 ((min (min (min a b) c) 400 : Nat) : Int)) w := by
  simp only [Builtin.min_, Builtin.min2, List.foldlM_cons, List.foldlM_nil]
  simp
  split <;> split <;> split <;> omega
theorem u8xor3 (a b c : Nat) (ha : a < 256) (hb : b < 256) (hc : c < 256) : ∃ d : Nat, bits .xor .u8 (a : Int) (b : Int) = (d : Int) ∧ bits .xor .u8 (d : Int) (c : Int) = ((a ^^^ b ^^^ c : Nat) : Int) ∧ a ^^^ b ^^^ c < 256 :=
  ⟨a ^^^ b, u8_xor_nat a b ha hb, u8_xor_nat _ c (Nat.xor_lt_two_pow (n := 8) (by omega) (by omega)) hc, Nat.xor_lt_two_pow (n := 8) (Nat.xor_lt_two_pow (n := 8) (by omega) (by omega)) (by omega)⟩
set_option maxHeartbeats 1000000 in
theorem even_any (w : World) (va : Value) (a : List Nat) (ha : (Rep.slice Rep.u8).rd w T [va] a) (vb : Value) (b : List Nat) (hb : (Rep.slice Rep.u8).rd w T [vb] b) (vc : Value) (c : List Nat) (hc : (Rep.slice Rep.u8).rd w T [vc] c) :
    Calls Try.prog 5 #[va, vb, vc] w fun e w' => e = .returned (.bool true) ∧ Below w.heap.size w w' := by
  obtain ⟨A1, c1, rfl, hA1, hA1', ha⟩ := Rep.slice_open ha
  obtain ⟨A2, c2, rfl, hA2, hA2', hb⟩ := Rep.slice_open hb
  obtain ⟨A3, c3, rfl, hA3, hA3', hc⟩ := Rep.slice_open hc
  have hmin := min4 a.length b.length c.length
  obtain ⟨n, Hn⟩ : ∃ n, Hid (n = min (min (min a.length b.length) c.length) 400) := ⟨_, rfl⟩
  rw [← Hn.out] at hmin
  have hn1 : n ≤ a.length := by have := Hn.out; omega
  have hn2 : n ≤ b.length := by have := Hn.out; omega
  have hn3 : n ≤ c.length := by have := Hn.out; omega
  have hn4 : n ≤ 400 := by have := Hn.out; omega
  have hmk := make22 n (by omega)
  go_enter Try.func5, Try.ntmps5
  go_wp2_with fail
  refine (head_any _).mono ?_
  rintro e W1 ⟨rfl, hb1⟩
  have ha := Rep.below ha hb1
  have hb := Rep.below hb hb1
  have hc := Rep.below hc hb1
  go_wp2_with fail
  clear hmin hmk
  have hblk := Blk.new W1 5 (Array.replicate n (.int .u8 0))
  have hB : Below w.heap.size w (W1.alloc (.cells (Array.replicate n (.int .u8 0)) 5)) := hb1.alloc hb1.size _
  have ha := (Rep.slice Rep.u8).more (D' := fun b => b ≠ W1.heap.size) (fun b _ h => Nat.ne_of_lt h) ha
  have hb := (Rep.slice Rep.u8).more (D' := fun b => b ≠ W1.heap.size) (fun b _ h => Nat.ne_of_lt h) hb
  have hc := (Rep.slice Rep.u8).more (D' := fun b => b ≠ W1.heap.size) (fun b _ h => Nat.ne_of_lt h) hc
  have ha := (Rep.slice Rep.u8).keep (Keeps.alloc W1 (.cells (Array.replicate n (.int .u8 0)) 5) (fun b => b ≠ W1.heap.size)) ha
  have hb := (Rep.slice Rep.u8).keep (Keeps.alloc W1 (.cells (Array.replicate n (.int .u8 0)) 5) (fun b => b ≠ W1.heap.size)) hb
  have hc := (Rep.slice Rep.u8).keep (Keeps.alloc W1 (.cells (Array.replicate n (.int .u8 0)) 5) (fun b => b ≠ W1.heap.size)) hc
  generalize W1.alloc (.cells (Array.replicate n (.int .u8 0)) 5) = W2 at hblk hB ha hb hc ⊢
  have hg : w.heap.size ≤ W1.heap.size := hb1.size
  generalize W1.heap.size = g at *
  obtain ⟨xs, Hxs⟩ : ∃ xs, Hid (xs = xor3 (a.take n) (b.take n) (c.take n)) := ⟨_, rfl⟩
  have hxl : xs.length = n := by
    rw [Hxs.out, xor3_length _ _ _ (by simp; omega) (by simp; omega)]; simp; omega
  have Hxl := Lib.hid hxl
  clear hxl
  go_loopw [10] (fun i wr => ∃ (k : Nat) (cur : Array Value), k ≤ n ∧ i = .int .i64 k ∧ Blk wr g 5 cur ∧ Hid (cur.size = n) ∧ Hid (∀ j x, j < k → xs[j]? = some x → cur[j]? = some (.int .u8 ((x : Nat) : Int)) ∧ x < 256) ∧ Keeps W2 wr (fun b => b ≠ g) ∧ Below w.heap.size w wr) (fun i _ => n - (intOf i).toNat)
  case atStart => exact ⟨0, _, by omega, rfl, hblk, (by simp : (Array.replicate n (Value.int .u8 0)).size = n), fun j x h => by omega, Keeps.refl _ _, hB⟩
  case round =>
    obtain ⟨k, cur, hk, rfl, hblk2, Hcs, Hcur, hkeep, hbel⟩ := hrel
    by_cases hlt : k < n
    · have hdec : decide (k < n) = true := by simp; omega
      obtain ⟨b1, o1, rfl, hc1, hx1, hd1⟩ := Rep.slice_u8D ((Rep.slice Rep.u8).keep hkeep ha) (i := k) (x := a[k]) (by simp)
      obtain ⟨b2, o2, rfl, hc2, hx2, hd2⟩ := Rep.slice_u8D ((Rep.slice Rep.u8).keep hkeep hb) (i := k) (x := b[k]) (by simp)
      obtain ⟨b3, o3, rfl, hc3, hx3, hd3⟩ := Rep.slice_u8D ((Rep.slice Rep.u8).keep hkeep hc) (i := k) (x := c[k]) (by simp)
      have hi1 : (k : Int) < (a.length : Int) := by omega
      have hi2 : (k : Int) < (b.length : Int) := by omega
      have hi3 : (k : Int) < (c.length : Int) := by omega
      have hi4 : (k : Int) < (n : Int) := by omega
      have hi0 : (0 : Int) ≤ (k : Int) := by omega
      have hX : Hid (xs[k]? = some (a[k] ^^^ b[k] ^^^ c[k])) := by
        show _ = _
        rw [Hxs.out]
        exact xor3_at _ _ _ k _ _ _ (by rw [List.getElem?_take_of_lt hlt]; simp) (by rw [List.getElem?_take_of_lt hlt]; simp) (by rw [List.getElem?_take_of_lt hlt]; simp)
      obtain ⟨d, e1, e2, e3⟩ := u8xor3 a[k] b[k] c[k] hx1 hx2 hx3
      obtain ⟨v, hv⟩ := hblk2.at (i := k) (by have := Hcs.out; omega)
      have hfr := hblk2.free k
      generalize hy : a[k] ^^^ b[k] ^^^ c[k] = y at *
      clear hy
      generalize a[k] = x1 at *
      generalize b[k] = x2 at *
      generalize c[k] = x3 at *
      go_wp2
      go_region_held3 (fun w' => w'.cell? ⟨b1, o1 + k, none⟩ = some (.int .u8 (x1 : Int)) ∧ w'.cell? ⟨b2, o2 + k, none⟩ = some (.int .u8 (x2 : Int)) ∧ w'.cell? ⟨b3, o3 + k, none⟩ = some (.int .u8 (x3 : Int)))
        (first | exact ⟨hc1, hc2, hc3⟩ | exact ⟨((Keeps.put wr g k _).trans (Keeps.drew _ _)).cell hd1 hc1, ((Keeps.put wr g k _).trans (Keeps.drew _ _)).cell hd2 hc2, ((Keeps.put wr g k _).trans (Keeps.drew _ _)).cell hd3 hc3⟩) (fail)
      go_wp2
      have hcs1 : Hid ((cur.setIfInBounds k (.int .u8 (y : Int))).size = n) := by show _ = _; simp; exact Hcs.out
      have hcur1 : Hid (∀ j x, j < k + 1 → xs[j]? = some x → (cur.setIfInBounds k (.int .u8 (y : Int)))[j]? = some (.int .u8 ((x : Nat) : Int)) ∧ x < 256) := by
        intro j x hj hx
        rcases Nat.lt_or_ge j k with h | h
        · rw [Array.getElem?_setIfInBounds, if_neg (by omega)]; exact Hcur.out j x h hx
        · have : j = k := by omega
          subst this
          rw [hX.out] at hx
          injection hx with hx
          subst hx
          rw [Array.getElem?_setIfInBounds, if_pos rfl, if_pos (by have := Hcs.out; omega)]
          exact ⟨rfl, e3⟩
      go_roundw
      case rel => exact ⟨k + 1, _, by omega, by go_num, (hblk2.put k _).drew, hcs1, hcur1, hkeep.trans ((Keeps.put wr g k _).trans (Keeps.drew _ _)), (hbel.setCell hg _).drew⟩
      case measure => simp [intOf]; omega
    · have hdec : decide (k < n) = false := by simp; omega
      have hkn : k = n := by omega
      subst hkn
      have hxr : (Rep.slice Rep.u8).rd wr T [.slice (some ⟨g, 0, none⟩) k k] xs := Rep.slice_of_blk (R := Rep.u8) rfl hblk2 Hxl.out ⟨Nat.le_refl _, by omega⟩ (fun i x hx => by
        have hi : i < k := by have := (List.getElem?_eq_some_iff.1 hx).1; have := Hxl.out; omega
        have := Hcur.out i x hi hx
        exact ⟨_, this.1, rfl, this.2⟩)
      have ha := Rep.widen (Rep.slice_take ((Rep.slice Rep.u8).keep hkeep ha) hn1)
      have hb := Rep.widen (Rep.slice_take ((Rep.slice Rep.u8).keep hkeep hb) hn2)
      have hc := Rep.widen (Rep.slice_take ((Rep.slice Rep.u8).keep hkeep hc) hn3)
      have hcx : Hid (crc xs = crc (a.take k) ^^^ crc (b.take k) ^^^ crc (c.take k)) := by
        show _ = _
        rw [Hxs.out]; exact crc_xor3 _ _ _ (by simp; omega) (by simp; omega)
      have l1 := crc_lt (Rep.slice_u8_all ha)
      have l2 := crc_lt (Rep.slice_u8_all hb)
      have l3 := crc_lt (Rep.slice_u8_all hc)
      obtain ⟨n1, h1⟩ : ∃ n1, crc (a.take k) = n1 := ⟨_, rfl⟩
      obtain ⟨n2, h2⟩ : ∃ n1, crc (b.take k) = n1 := ⟨_, rfl⟩
      obtain ⟨n3, h3⟩ : ∃ n1, crc (c.take k) = n1 := ⟨_, rfl⟩
      obtain ⟨n0, h0⟩ : ∃ n1, crc xs = n1 := ⟨_, rfl⟩
      rw [h1] at hcx l1
      rw [h2] at hcx l2
      rw [h3] at hcx l3
      rw [h0] at hcx
      have l12 : n1 ^^^ n2 < 4294967296 := Nat.xor_lt_two_pow (n := 32) (by omega) (by omega)
      have f1 := i64_xor_nat' n1 n2 l1 l2
      have f2 := i64_xor_nat' (n1 ^^^ n2) n3 l12 l3
      rw [← hcx.out] at f2
      obtain ⟨m, hm⟩ : ∃ m, n1 ^^^ n2 = m := ⟨_, rfl⟩
      rw [hm] at f1 f2
      have H0 := Lib.hid h0
      have H1 := Lib.hid h1
      have H2 := Lib.hid h2
      have H3 := Lib.hid h3
      clear h0 h1 h2 h3 hm
      have hs0 := hbel.size
      have hk1 : k ≤ c1 := by omega
      have hk2 : k ≤ c2 := by omega
      have hk3 : k ≤ c3 := by omega
      go_wp2
      go_region_held3 (fun w' => Below wr.heap.size wr w')
        (first | exact (Below.refl _ _).drew | exact Below.trans (by assumption) (hbc.mono (Below.size (by assumption))))
        ((first
          | (go_at_call 10; refine (Of_any _ xs _ (Rep.below hxr (by assumption)) (n0 : Int) (by rw [H0.out])).mono ?_; rintro e w9 ⟨rfl, hbc⟩)
          | (go_at_call 10; refine (Of_any _ (a.take k) _ (Rep.below ha (by assumption)) (n1 : Int) (by rw [H1.out])).mono ?_; rintro e w9 ⟨rfl, hbc⟩)
          | (go_at_call 10; refine (Of_any _ (b.take k) _ (Rep.below hb (by assumption)) (n2 : Int) (by rw [H2.out])).mono ?_; rintro e w9 ⟨rfl, hbc⟩)
          | (go_at_call 10; refine (Of_any _ (c.take k) _ (Rep.below hc (by assumption)) (n3 : Int) (by rw [H3.out])).mono ?_; rintro e w9 ⟨rfl, hbc⟩)))
      have hB9 := hbel.trans (Below.mono (show Below wr.heap.size wr _ by assumption) hs0)
      go_wp2
      go_ret
      exact ⟨rfl, hB9⟩
end Go.Proofs.Ytocnbgjaiihgiaa
