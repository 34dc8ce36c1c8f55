import Derived.Test.YtocnbgjaiihgiaaA
namespace Go.Proofs.Ytocnbgjaiihgiaa
open Go.RowKit Go.Kx Plain
theorem ret_nat {k : IntKind} {a b : Nat} (h : a = b) : Ending.returned (.int k (a : Int)) = .returned (.int k (b : Int)) := by rw [h]
theorem nib_step (c : Nat) (h : c < 4294967296) : ∃ m n c2 : Nat, m < 16 ∧ n < 4294967296 ∧ c2 < 4294967296 ∧ bits .and .u32 (c : Int) 15 = (m : Int) ∧ tab[m]? = some (.int .u32 (n : Int)) ∧
    bits .xor .u32 (n : Int) ((c : Int) / 16) = (c2 : Int) ∧ c2 = nib c := by
  refine ⟨c % 16, nib (c % 16), nib c, by omega, nib_lt (by omega), nib_lt h, ?_, tab_at _ (by omega), ?_, rfl⟩
  · have := u32_and_nat c 15 h (by omega)
    rw [show (15 : Nat) = 2 ^ 4 - 1 by rfl, Nat.and_two_pow_sub_one_eq_mod] at this
    exact this
  · have := u32_xor_nat (nib (c % 16)) (c / 16) (nib_lt (by omega)) (by omega)
    rw [← nib_eq c] at this
    rw [← this]; rfl
theorem take_snoc' (l : List Nat) (k x : Nat) (h : l[k]? = some x) : l.take (k + 1) = l.take k ++ [x] := by
  rw [List.take_add_one, h]; rfl
theorem crcFrom_snoc (c x : Nat) (l : List Nat) : crcFrom c (l ++ [x]) = byteStep (crcFrom c l) x := by simp [crcFrom]
set_option maxHeartbeats 400000 in
theorem of_any (v : Value) (l : List Nat) (w : World) {D : Nat → Prop} (hl : (Rep.slice Rep.u8).rd w D [v] l) :
    Calls Try.prog 17 #[.agg tab, v] w fun e w' => e = .returned (.int .i64 ((crc l : Nat) : Int)) ∧ Below w.heap.size w w' := by
  have hb := Rep.slice_u8_all hl
  obtain ⟨a, cap, rfl, hm1, hm2, hl⟩ := Rep.slice_open hl
  have hm : l.length ≤ 9223372036854775807 := by omega
  have hc := fun j x => Rep.slice_u8 hl (i := j) (x := x)
  clear hl hm1 hm2
  go_enter Try.func17, Try.ntmps17
  go_wp2
  have hB : Below w.heap.size w (w.alloc (.cells tab 40)) := (Below.refl _ _).alloc (Nat.le_refl _) _
  have ht : ∀ m v, tab[m]? = some v → (w.alloc (.cells tab 40)).cell? ⟨w.heap.size, m, none⟩ = some v := fun m v hv => by
    rw [World.cell?_alloc_at _ _ _ _ (by simp), hv]
  have hc' : ∀ (j x : Nat), l[j]? = some x → ∃ b off, a = some ⟨b, off, none⟩ ∧ (w.alloc (.cells tab 40)).cell? ⟨b, off + j, none⟩ = some (.int .u8 (x : Int)) ∧ x < 256 := fun j x hx => by
    obtain ⟨b, off, h1, h2, h3⟩ := hc j x hx
    exact ⟨b, off, h1, by rw [World.cell?_alloc_past _ _ _ (block_lt_of_cell h2)]; exact h2, h3⟩
  clear hc
  generalize w.alloc (.cells tab 40) = W at hB ht hc' ⊢
  generalize w.heap.size = B at ht ⊢
  go_loop [5, 10] (fun c i => ∃ k : Nat, k ≤ l.length ∧ i = .int .i64 k ∧ c = .int .u32 ((crcFrom 4294967295 (l.take k) : Nat) : Int)) (fun _ i => l.length - (intOf i).toNat)
  case atStart => exact ⟨0, by omega, rfl, rfl⟩
  case round =>
    obtain ⟨k, hk, rfl, rfl⟩ := hrel
    have hcl : crcFrom 4294967295 (l.take k) < 4294967296 := crcFrom_lt (by omega) (fun x hx => hb x (List.mem_of_mem_take hx))
    by_cases hlt : k < l.length
    · obtain ⟨b, off, rfl, hcell, hx⟩ := hc' k l[k] (by simp)
      have hsn := crcFrom_snoc 4294967295 l[k] (l.take k)
      rw [← take_snoc' l k l[k] (by simp)] at hsn
      generalize l[k] = x at *
      obtain ⟨d, HD⟩ : ∃ d, Hid (d = crcFrom 4294967295 (l.take (k + 1))) := ⟨_, rfl⟩
      rw [← HD.out] at hsn
      generalize crcFrom 4294967295 (l.take k) = c at *
      obtain ⟨c1, hc1, hc1', hc1l⟩ : ∃ c1 : Nat, bits .xor .u32 (c : Int) (x : Int) = (c1 : Int) ∧ c1 = c ^^^ x ∧ c1 < 4294967296 :=
        ⟨c ^^^ x, u32_xor_nat c x hcl (by omega), rfl, Nat.xor_lt_two_pow (n := 32) (by omega) (by omega)⟩
      obtain ⟨m, n, c2, hm2, hn2, hc2l, e1, e2, e3, e4⟩ := nib_step c1 hc1l
      obtain ⟨m', n', c3, hm3, hn3, hc3l, e5, e6, e7, e8⟩ := nib_step c2 hc2l
      have g1 := ht m _ e2
      have g2 := ht m' _ e6
      have hd : c3 = d := by rw [hsn, e8, e4, hc1']; rfl
      have Hd := Lib.hid hd
      have hdec : decide ((k : Int) < (l.length : Int)) = true := by simp; omega
      clear hd hsn e2 e4 e6 e8 hc1' ht hc' hb hB
      go_wp2
      go_round
      case rel => exact ⟨k + 1, by omega, by go_num, by rw [← HD.out, ← Hd.out]⟩
      case measure => simp [intOf]; omega
    · have : k = l.length := by omega
      subst this
      have hdec : decide ((l.length : Int) < (l.length : Int)) = false := by simp
      rw [List.take_length] at *
      have hx : bits .xor .u32 ((crcFrom 4294967295 l : Nat) : Int) 4294967295 = ((crc l : Nat) : Int) := u32_xor_nat _ 4294967295 hcl (by decide)
      have hcr : crc l < 4294967296 := crc_lt hb
      obtain ⟨d, HD⟩ : ∃ d, Hid (d = crc l) := ⟨_, rfl⟩
      rw [← HD.out] at hx hcr
      generalize crcFrom 4294967295 l = c at *
      clear hc' ht
      go_wp2
      go_ret
      exact ⟨ret_nat HD.out, hB⟩
end Go.Proofs.Ytocnbgjaiihgiaa
