/- DERIVED. Plain facts: blocks of parts; a sum's own bytes. No program's walk here. -/
import Derived.Test.YtocnbgjaiihgiaaP3
namespace Go.Proofs.Ytocnbgjaiihgiaa
open Plain
theorem blocks_append (l m : List Nat) (h : l.length % 16 = 0) : blocks (l ++ m) = blocks l ++ blocks m := by
  induction hn : l.length using Nat.strongRecOn generalizing l with
  | _ n ih =>
    by_cases hl : l = []
    · subst hl; rw [blocks_nil]; rfl
    · have hp := List.length_pos_iff.2 hl
      have h16 : 16 ≤ l.length := by omega
      have hne : l ++ m ≠ [] := by simp [hl]
      have e1 : (l ++ m).take 16 = l.take 16 := by rw [List.take_append_of_le_length h16]
      have e2 : (l ++ m).drop 16 = l.drop 16 ++ m := by rw [List.drop_append_of_le_length h16]
      rw [blocks_cons _ hne, blocks_cons l hl, e1, e2, ih (l.length - 16) (by omega) (l.drop 16) (by simp; omega) (by simp)]
      rfl
namespace Plain
theorem xor_add (x q : Nat) (h : x < 256) : x ^^^ 256 * q = 256 * q + x := by
  have h2 : (2 ^ 8 * q) ^^^ x = (2 ^ 8 * q) ||| x := by
    apply Nat.eq_of_testBit_eq
    intro i
    rw [Nat.testBit_xor, Nat.testBit_or, Nat.testBit_two_pow_mul]
    by_cases hi : 8 ≤ i
    · have : x.testBit i = false := by
        apply Nat.testBit_lt_two_pow
        calc x < 2 ^ 8 := by omega
          _ ≤ 2 ^ i := Nat.pow_le_pow_right (by omega) hi
      simp [this]
    · simp [hi]
  rw [Nat.xor_comm]
  have := Nat.two_pow_add_eq_or_of_lt (i := 8) (b := x) (by omega) q
  rw [show (256 : Nat) = 2 ^ 8 by rfl, h2, this]
def le4 (n : Nat) : List Nat := [n % 256, n / 256 % 256, n / 65536 % 256, n / 16777216 % 256]
theorem word_le4 (n : Nat) (h : n < 4294967296) : word (le4 n) = n := by
  unfold le4
  simp only [word, Nat.mul_zero, Nat.xor_zero]
  rw [xor_add _ _ (Nat.mod_lt _ (by omega)), xor_add _ _ (Nat.mod_lt _ (by omega)), xor_add _ _ (Nat.mod_lt _ (by omega))]
  omega
theorem le4_lt (n : Nat) : ∀ x ∈ le4 n, x < 256 := by
  intro x hx
  simp [le4] at hx
  rcases hx with h | h | h | h <;> omega
theorem own_zero : crcFrom 4294967295 [0, 0, 0, 0] ^^^ 4294967295 = 1214729159 := by decide +kernel
theorem crc_tail (b ys : List Nat) : crc (b ++ ys) = crcFrom (crcFrom 4294967295 b ^^^ word ys) (ys.map fun _ => 0) ^^^ 4294967295 := by
  unfold crc; rw [crcFrom_append, crcFrom_word ys]
theorem own_sum (b : List Nat) (hb : ∀ x ∈ b, x < 256) : crc (b ++ le4 (crc b)) = 1214729159 := by
  rw [crc_tail, word_le4 _ (crc_lt hb)]
  have : crcFrom 4294967295 b ^^^ crc b = 4294967295 := by
    unfold crc; rw [← Nat.xor_assoc, Nat.xor_self, Nat.zero_xor]
  rw [this]; exact own_zero
theorem own_only (b ys : List Nat) (hb : ∀ x ∈ b, x < 256) (hy : ∀ x ∈ ys, x < 256) (h4 : ys.length = 4) : crc (b ++ ys) = 1214729159 ↔ ys = le4 (crc b) := by
  constructor
  · intro h
    rw [← own_sum b hb, crc_tail, crc_tail] at h
    have h := xor_cancel h
    have hz : (ys.map fun _ => 0) = ((le4 (crc b)).map fun _ => 0) := by rw [List.map_const', List.map_const', h4]; rfl
    rw [hz] at h
    have hc := crcFrom_lt (c := 4294967295) (by omega) hb
    have w1 := word_lt32 ys hy (by omega)
    have w2 := word_lt32 (le4 (crc b)) (le4_lt _) (by simp [le4])
    have h := crcFrom_inj (by intro z hz; simp at hz; omega) (Nat.xor_lt_two_pow (n := 32) (by omega) (by omega)) (Nat.xor_lt_two_pow (n := 32) (by omega) (by omega)) h
    rw [Nat.xor_comm, Nat.xor_comm _ (word (le4 (crc b)))] at h
    exact word_inj ys _ (by rw [h4]; rfl) hy (le4_lt _) (xor_cancel h)
  · rintro rfl; exact own_sum b hb
end Plain
end Go.Proofs.Ytocnbgjaiihgiaa
