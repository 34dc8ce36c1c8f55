import Derived.Test.YtocnbgjaiihgiaaD
namespace Go.Proofs.Ytocnbgjaiihgiaa
open Go.RowKit Go.Kx Plain
theorem i64_xor_nat' (a b : Nat) (ha : a < 4294967296) (hb : b < 4294967296) : bits .xor .i64 (a : Int) (b : Int) = ((a ^^^ b : Nat) : Int) := by
  have hx : a ^^^ b < 2 ^ 32 := Nat.xor_lt_two_pow (by omega) (by omega)
  show IntKind.i64.wrap ((BitVec.ofInt 64 (a : Int) ^^^ BitVec.ofInt 64 (b : Int)).toNat : Int) = _
  have h1 : (BitVec.ofInt 64 (a : Int)).toNat = a := by
    rw [BitVec.ofInt_natCast, BitVec.toNat_ofNat]; exact Nat.mod_eq_of_lt (by omega)
  have h2 : (BitVec.ofInt 64 (b : Int)).toNat = b := by
    rw [BitVec.ofInt_natCast, BitVec.toNat_ofNat]; exact Nat.mod_eq_of_lt (by omega)
  rw [BitVec.toNat_xor, h1, h2]
  exact IntWalk.i64_in _ ⟨by omega, by omega⟩
set_option maxHeartbeats 400000 in
theorem turned_any (a b : Int) (n : Nat) (w : World) (h1 : 0 ≤ a) (h2 : a < 4294967296) (h3 : 0 ≤ b) (h4 : b < 4294967296) (hn : a.toNat ^^^ b.toNat = n) :
    Calls Try.prog 19 #[.int .i64 a, .int .i64 b] w fun e w' => e = .returned (.int .i64 (n : Int)) ∧ w = w' := by
  have hx : bits .xor .i64 a b = (n : Int) := by
    obtain ⟨A, rfl⟩ := Int.eq_ofNat_of_zero_le h1
    obtain ⟨B, rfl⟩ := Int.eq_ofNat_of_zero_le h3
    rw [i64_xor_nat' A B (by omega) (by omega), ← hn]; simp
  clear hn
  go_enter Try.func19, Try.ntmps19
  go_wp2
  go_ret
  exact ⟨rfl, rfl⟩
theorem nib_nib (c : Nat) : bitN 8 c = nib (nib c) := rfl
set_option maxHeartbeats 800000 in
theorem refof_any (v : Value) (l : List Nat) (w : World) {D : Nat → Prop} (hl : (Rep.slice Rep.u8).rd w D [v] l) (hsz : l.length ≤ 1000000) :
    Calls Try.prog 11 #[v] w fun e w' => e = .returned (.int .i64 ((crc l : Nat) : Int)) ∧ w = w' := by
  have hb := Rep.slice_u8_all hl
  obtain ⟨a, cap, rfl, hm1, hm2, hl⟩ := Rep.slice_open hl
  have hc := fun j x => Rep.slice_u8 hl (i := j) (x := x)
  clear hl hm1 hm2
  go_enter Try.func11, Try.ntmps11
  go_wp2
  go_loop [3, 4, 5, 6] (fun c i _ _ => ∃ k : Nat, k ≤ l.length ∧ i = .int .i64 k ∧ c = .int .i64 ((crcFrom 4294967295 (l.take k) : Nat) : Int)) (fun _ i _ _ => l.length - (intOf i).toNat)
  case atStart => exact ⟨0, by omega, rfl, rfl⟩
  case round =>
    obtain ⟨k, hk, rfl, rfl⟩ := hrel
    have hcl : crcFrom 4294967295 (l.take k) < 4294967296 := crcFrom_lt (by omega) (fun x hx => hb x (List.mem_of_mem_take hx))
    by_cases hlt : k < l.length
    · obtain ⟨b, off, rfl, hcell, hx⟩ := hc k l[k] (by simp)
      have hdec : decide (k < l.length) = true := by simp; omega
      have hsn := crcFrom_snoc 4294967295 l[k] (l.take k)
      rw [← take_snoc' l k l[k] (by simp)] at hsn
      have Hsn := Lib.hid hsn
      clear hsn
      have hi1 : (k : Int) < (l.length : Int) := by omega
      generalize l[k] = x at *
      generalize crcFrom 4294967295 (l.take k) = c at *
      go_wp2_with (go_at_call 19; refine (turned_any _ _ (c ^^^ x) _ (by omega) (by omega) (by omega) (by omega) (by simp)).mono ?_; rintro e w' ⟨rfl, rfl⟩)
      have hc1e : Hid (crcFrom 4294967295 (l.take (k + 1)) = bitN 8 (c ^^^ x)) := by show _ = _; rw [Hsn.out]; rfl
      have hc1 : c ^^^ x < 4294967296 := Nat.xor_lt_two_pow (n := 32) (by omega) (by omega)
      generalize c ^^^ x = c1 at *
      go_loop [3, 5, 6] (fun c j _ => ∃ n : Nat, n ≤ 8 ∧ j = .int .i64 n ∧ c = .int .i64 ((bitN n c1 : Nat) : Int)) (fun _ j _ => 8 - (intOf j).toNat)
      case atStart => exact ⟨0, by omega, rfl, rfl⟩
      case round =>
        obtain ⟨n, hn, rfl, rfl⟩ := hrel
        by_cases hn8 : n < 8
        · have hd8 : decide ((n : Int) < 8) = true := by simp; omega
          have hq := bitN_lt n c1 hc1
          have hs : Hid (bitN (n + 1) c1 = bit (bitN n c1)) := (rfl : bitN (n + 1) c1 = bit (bitN n c1))
          generalize bitN n c1 = q at *
          by_cases hodd : q % 2 = 1
          · have ho : ((q : Int) % 2 == 1) = true := by simp; omega
            have hs2 : Hid (bit q = (q / 2) ^^^ poly) := by show bit q = _; unfold bit; rw [if_pos hodd]
            clear hodd
            go_wp2_with (go_at_call 19; refine (turned_any _ _ (bit q) _ (by omega) (by omega) (by omega) (by omega) (by rw [hs2.out]; rfl)).mono ?_; rintro e w' ⟨rfl, rfl⟩)
            go_round
            case rel => exact ⟨n + 1, by omega, by go_num, by rw [hs.out]⟩
            case measure => simp [intOf]; omega
          · have ho : ((q : Int) % 2 == 1) = false := by simp; omega
            have hs2 : Hid (bit q = q / 2) := by show bit q = _; unfold bit; rw [if_neg hodd]
            clear hodd
            go_wp2
            go_round
            case rel => exact ⟨n + 1, by omega, by go_num, by rw [hs.out, hs2.out]; go_num⟩
            case measure => simp [intOf]; omega
        · have : n = 8 := by omega
          subst this
          have hd8 : decide ((8 : Int) < 8) = false := by simp
          go_wp2
          go_round
          case rel => exact ⟨k + 1, by omega, by go_num, by rw [hc1e.out]⟩
          case measure => simp [intOf]; omega
    · have : k = l.length := by omega
      subst this
      rw [List.take_length] at *
      have hcr : Hid (crc l = crcFrom 4294967295 l ^^^ 4294967295) := (rfl : crc l = crcFrom 4294967295 l ^^^ 4294967295)
      have hdec : decide (l.length < l.length) = false := by simp
      generalize crcFrom 4294967295 l = c at *
      go_wp2_with (go_at_call 19; refine (turned_any _ _ (c ^^^ 4294967295) _ (by omega) (by omega) (by omega) (by omega) (by simp)).mono ?_; rintro e w' ⟨rfl, rfl⟩)
      go_ret
      exact ⟨ret_nat hcr.out.symm, rfl⟩
end Go.Proofs.Ytocnbgjaiihgiaa
