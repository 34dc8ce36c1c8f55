set_option linter.unusedSectionVars false
/- DERIVED. Plain arithmetic of the sums by bits; no program here. -/
namespace Go.Proofs.YtjflkcfafijhfaaGreat.Plain
def poly : Nat := 2197175160
def bit (c : Nat) : Nat := if c % 2 = 1 then (c / 2) ^^^ poly else c / 2
def nib (c : Nat) : Nat := bit (bit (bit (bit c)))
def byteStep (c x : Nat) : Nat := nib (nib (c ^^^ x))
def crcFrom (c : Nat) (l : List Nat) : Nat := l.foldl byteStep c
def crc (l : List Nat) : Nat := crcFrom 4294967295 l ^^^ 4294967295
theorem poly_lt : poly < 4294967296 := by decide
theorem bit_lt {c : Nat} (h : c < 4294967296) : bit c < 4294967296 := by
 unfold bit
 split
 ·exact Nat.xor_lt_two_pow (n := 32) (by omega) poly_lt
 ·omega
theorem nib_lt {c : Nat} (h : c < 4294967296) : nib c < 4294967296 := bit_lt (bit_lt (bit_lt (bit_lt h)))
theorem xor_div2 (a b : Nat) : (a ^^^ b) / 2 = (a / 2) ^^^ (b / 2) := by
 have := Nat.shiftRight_xor_distrib (a := a) (b := b) (i := 1)
 simpa [Nat.shiftRight_eq_div_pow] using this
theorem xor_mod2 (a b : Nat) : (a ^^^ b) % 2 = (a % 2 + b % 2) % 2 := by
 have := @Nat.xor_mod_two_eq_one a b
 have h1 : a % 2 = 0 ∨ a % 2 = 1 := by omega
 have h2 : b % 2 = 0 ∨ b % 2 = 1 := by omega
 have h3 : (a ^^^ b) % 2 = 0 ∨ (a ^^^ b) % 2 = 1 := by omega
 rcases h1 with h1 | h1 <;> rcases h2 with h2 | h2 <;> rcases h3 with h3 | h3 <;> simp_all
theorem bit_xor (a b : Nat) : bit (a ^^^ b) = bit a ^^^ bit b := by
 unfold bit
 rw [xor_mod2, xor_div2]
 have h1 : a % 2 = 0 ∨ a % 2 = 1 := by omega
 have h2 : b % 2 = 0 ∨ b % 2 = 1 := by omega
 rcases h1 with h1 | h1 <;> rcases h2 with h2 | h2 <;> simp [h1, h2] <;> try ac_rfl
 have : a / 2 ^^^ poly ^^^ (b / 2 ^^^ poly) = a / 2 ^^^ b / 2 ^^^ (poly ^^^ poly) := by ac_rfl
 rw [this, Nat.xor_self, Nat.xor_zero]
theorem nib_xor (a b : Nat) : nib (a ^^^ b) = nib a ^^^ nib b := by simp [nib, bit_xor]
theorem bit_even (q : Nat) : bit (2 * q) = q := by unfold bit; rw [if_neg (by omega)]; omega
theorem nib_16 (q : Nat) : nib (16 * q) = q := by
 unfold nib
 rw [show 16 * q = 2 * (2 * (2 * (2 * q))) by omega, bit_even, bit_even, bit_even, bit_even]
theorem split16 (c : Nat) : c = (16 * (c / 16)) ^^^ (c % 16) := by
 have h : 16 * (c / 16) ^^^ (c % 16) = 16 * (c / 16) + c % 16 := by
  have := Nat.two_pow_add_eq_or_of_lt (i := 4) (b := c % 16) (by omega) (c / 16)
  have h2 : (2 ^ 4 * (c / 16)) ^^^ (c % 16) = (2 ^ 4 * (c / 16)) ||| (c % 16) := by
   apply Nat.eq_of_testBit_eq
   intro i
   rw [Nat.testBit_xor, Nat.testBit_or, Nat.testBit_two_pow_mul]
   by_cases hi : 4 ≤ i
   ·have : (c % 16).testBit i = false := by
     apply Nat.testBit_lt_two_pow
     calc c % 16 < 2 ^ 4 := by omega
      _ ≤ 2 ^ i := Nat.pow_le_pow_right (by omega) hi
    simp [this]
   ·simp [hi]
  rw [show (16 : Nat) = 2 ^ 4 by rfl] at *
  rw [h2, this]
 rw [h]; omega
theorem nib_eq (c : Nat) : nib c = nib (c % 16) ^^^ (c / 16) := by
 conv => lhs; rw [split16 c, nib_xor, nib_16]
 rw [Nat.xor_comm]
theorem byteStep_lt {c x : Nat} (h : c < 4294967296) (hx : x < 256) : byteStep c x < 4294967296 :=
 nib_lt (nib_lt (Nat.xor_lt_two_pow (n := 32) (by omega) (by omega)))
theorem crcFrom_lt {c : Nat} {l : List Nat} (h : c < 4294967296) (hl : ∀ x ∈ l, x < 256) : crcFrom c l < 4294967296 := by
 induction l generalizing c with
 | nil => exact h
 | cons x l ih => exact ih (byteStep_lt h (hl x (by simp))) (fun y hy => hl y (by simp [hy]))
theorem crc_lt {l : List Nat} (hl : ∀ x ∈ l, x < 256) : crc l < 4294967296 :=
 Nat.xor_lt_two_pow (n := 32) (crcFrom_lt (by omega) hl) (by omega)
end Go.Proofs.YtjflkcfafijhfaaGreat.Plain
