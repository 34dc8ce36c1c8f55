/- Numbers as bytes, there and back, as plain laws (no program in sight but its functional forms). -/
import Derived.Test.YtifkepfcjhebfaaF6
import Derived.Test.YtifkepfcjhebfaaW
import Derived.Test.YtifkepfcjhebfaaB7
set_option linter.unusedSimpArgs false
set_option linter.unusedVariables false
namespace Go.Proofs.Ytifkepfcjhebfaa
open Go.Ab Go.RowKit
theorem wu8 (x : Int) : IntKind.wrap .u8 x = x % 256 := by simp [IntKind.wrap, IntKind.bits, IntKind.signed]
theorem wu64 (x : Int) : IntKind.wrap .u64 x = x % 18446744073709551616 := by simp [IntKind.wrap, IntKind.bits, IntKind.signed]
theorem wi64 (x : Int) : IntKind.wrap .i64 x = if x % 18446744073709551616 ≥ 9223372036854775808 then x % 18446744073709551616 - 18446744073709551616 else x % 18446744073709551616 := by simp [IntKind.wrap, IntKind.bits, IntKind.signed]
/-- no sign: the number of one that has one -/
def zz (n : Int) : Nat := if n < 0 then (2 * (-(n + 1)) + 1).toNat else (2 * n).toNat
def zag (u : Nat) : Int := if u % 2 = 1 then -((u / 2 : Nat) : Int) - 1 else ((u / 2 : Nat) : Int)
theorem zz_lt {n : Int} (h : okI .i64 n) : zz n < 18446744073709551616 := by
  simp only [okI] at h; unfold zz; split <;> omega
theorem zag_zz {n : Int} : zag (zz n) = n := by unfold zag zz; split <;> split <;> omega
theorem zz_zag (u : Nat) : zz (zag u) = u := by unfold zag zz; split <;> split <;> omega
theorem zag_ok {u : Nat} (h : u < 18446744073709551616) : okI .i64 (zag u) := by simp only [okI]; unfold zag; split <;> omega
/-- a number's bytes -/
def enc (u : Nat) : List Int := if h : u < 128 then [(u : Int)] else ((128 + u % 128 : Nat) : Int) :: enc (u / 128)
termination_by u
decreasing_by omega
def num (n : Int) : List Int := enc (zz n)
theorem enc_s {u : Nat} (h : u < 128) : enc u = [(u : Int)] := by rw [enc, dif_pos h]
theorem enc_l {u : Nat} (h : ¬ u < 128) : enc u = ((128 + u % 128 : Nat) : Int) :: enc (u / 128) := by rw [enc, dif_neg h]
theorem enc_len : ∀ k u, u < 128 ^ (k + 1) → 1 ≤ (enc u).length ∧ (enc u).length ≤ k + 1 := by
  intro k
  induction k with
  | zero => intro u h; rw [enc_s (by simpa using h)]; simp
  | succ k ih =>
    intro u h
    by_cases hu : u < 128
    · rw [enc_s hu]; simp
    · rw [enc_l hu]
      have := ih (u / 128) (by rw [Nat.pow_succ] at h; omega)
      simp; omega
theorem enc_ok : ∀ k u, u < 128 ^ (k + 1) → ∀ x ∈ enc u, okI .u8 x := by
  intro k
  induction k with
  | zero => intro u h x hx; rw [enc_s (by simpa using h)] at hx; have := List.mem_singleton.1 hx; subst this; simp only [okI]; simp at h; omega
  | succ k ih =>
    intro u h x hx
    by_cases hu : u < 128
    · rw [enc_s hu] at hx; have := List.mem_singleton.1 hx; subst this; simp only [okI]; omega
    · rw [enc_l hu] at hx
      rcases List.mem_cons.1 hx with e | e
      · subst e; simp only [okI]; omega
      · exact ih (u / 128) (by rw [Nat.pow_succ] at h; omega) x e
theorem lt_p {u : Nat} (h : u < 18446744073709551616) : u < 128 ^ (9 + 1) := Nat.lt_of_lt_of_le h (by decide)
theorem num_len {n : Int} (h : okI .i64 n) : 1 ≤ (num n).length ∧ (num n).length ≤ 10 := enc_len 9 _ (lt_p (zz_lt h))
theorem num_ok {n : Int} (h : okI .i64 n) : ∀ x ∈ num n, okI .u8 x := enc_ok 9 _ (lt_p (zz_lt h))
theorem or128 : ∀ a, a < 256 → a ||| 128 = 128 + a % 128 := by decide +kernel
theorem and127 : ∀ a, a < 256 → a &&& 127 = a % 128 := by decide +kernel
theorem or_nat (w a b : Nat) : ((BitVec.ofInt w (a : Int) ||| BitVec.ofInt w (b : Int)).toNat : Nat) = (a % 2 ^ w ||| b % 2 ^ w) := by
  rw [BitVec.ofInt_natCast, BitVec.ofInt_natCast, BitVec.toNat_or, BitVec.toNat_ofNat, BitVec.toNat_ofNat]
theorem and_nat (w a b : Nat) : ((BitVec.ofInt w (a : Int) &&& BitVec.ofInt w (b : Int)).toNat : Nat) = (a % 2 ^ w &&& b % 2 ^ w) := by
  rw [BitVec.ofInt_natCast, BitVec.ofInt_natCast, BitVec.toNat_and, BitVec.toNat_ofNat, BitVec.toNat_ofNat]
theorem byte_or (u : Nat) : IntKind.wrap .u8 (BitVec.ofInt (IntKind.bits .u8) (IntKind.wrap .u8 (u : Int)) ||| BitVec.ofInt (IntKind.bits .u8) 128).toNat = ((128 + u % 128 : Nat) : Int) := by
  have e : IntKind.wrap .u8 (u : Int) = ((u % 256 : Nat) : Int) := by rw [wu8]; omega
  have h := or_nat 8 (u % 256) 128
  have e2 : IntKind.bits .u8 = 8 := rfl
  rw [e, e2]
  have e3 : ((128 : Nat) : Int) = 128 := rfl
  rw [e3] at h
  rw [h, wu8]
  have h3 : u % 256 % 2 ^ 8 = u % 256 := by omega
  have h4 : 128 % 2 ^ 8 = 128 := by decide
  rw [h3, h4, or128 _ (by omega)]; omega
theorem fdiv128 (u : Nat) : Int.fdiv (u : Int) (2 ^ (min 7 (IntKind.bits .u64))) = ((u / 128 : Nat) : Int) := by
  have : (2 : Int) ^ (min 7 (IntKind.bits .u64)) = 128 := by decide
  rw [this, Int.fdiv_eq_ediv_of_nonneg _ (by decide)]; omega
theorem pInt_L : ∀ (k u : Nat), u < 128 ^ (k + 1) → ∀ (m : Nat) (out : List Int), k < m → out.length + k ≤ 1000 → pack_Int_L1 m out (u : Int) = some (out ++ enc u) := by
  intro k
  induction k with
  | zero =>
    intro u h m out hm ho
    obtain ⟨m, rfl⟩ : ∃ m', m = m' + 1 := ⟨m - 1, by omega⟩
    rw [pack_Int_L1, cond_d, if_neg (by simp at h; omega), pack_Int_J1, chk_pos (by omega), enc_s (by simpa using h), wu8]
    congr 3; simp at h; omega
  | succ k ih =>
    intro u h m out hm ho
    obtain ⟨m, rfl⟩ : ∃ m', m = m' + 1 := ⟨m - 1, by omega⟩
    rw [pack_Int_L1, cond_d]
    by_cases hu : u < 128
    · rw [if_neg (by omega), pack_Int_J1, chk_pos (by omega), enc_s hu, wu8]
      congr 3; omega
    · rw [if_pos (by omega), chk_pos (by omega), byte_or, fdiv128, ih (u / 128) (by rw [Nat.pow_succ] at h; omega) m _ (by omega) (by simp; omega), enc_l hu]
      simp

theorem xor_nat (w a b : Nat) : ((BitVec.ofInt w (a : Int) ^^^ BitVec.ofInt w (b : Int)).toNat : Nat) = (a % 2 ^ w ^^^ b % 2 ^ w) := by
  rw [BitVec.ofInt_natCast, BitVec.ofInt_natCast, BitVec.toNat_xor, BitVec.toNat_ofNat, BitVec.toNat_ofNat]
theorem xor_all (a : Nat) : ((BitVec.ofInt 64 (a : Int) ^^^ BitVec.ofInt 64 (-1)).toNat : Nat) = 2 ^ 64 - 1 - a % 2 ^ 64 := by
  have : BitVec.ofInt 64 (-1) = BitVec.allOnes 64 := by decide
  rw [this, BitVec.xor_allOnes, BitVec.toNat_not, BitVec.ofInt_natCast, BitVec.toNat_ofNat]
theorem ofInt_mod (w : Nat) (x : Int) : BitVec.ofInt w (x % 2 ^ w) = BitVec.ofInt w x := by
  apply BitVec.eq_of_toNat_eq
  rw [BitVec.toNat_ofInt, BitVec.toNat_ofInt]
  congr 1
  have : ((2 ^ w : Nat) : Int) = (2 : Int) ^ w := by simp
  rw [this, Int.emod_emod_of_dvd _ (Int.dvd_refl _)]
theorem zig_bits {n : Int} (h : okI .i64 n) : (IntKind.wrap .u64 (BitVec.ofInt (IntKind.bits .u64) (IntKind.wrap .u64 ((IntKind.wrap .u64 n) * 2 ^ (min 1 (IntKind.bits .u64)))) ^^^ BitVec.ofInt (IntKind.bits .u64) (IntKind.wrap .u64 (Int.fdiv n (2 ^ (min 63 (IntKind.bits .i64)))))).toNat) = (zz n : Int) := by
  simp only [okI] at h
  have e1 : IntKind.bits .u64 = 64 := rfl
  have e2 : (2 : Int) ^ (min 1 64) = 2 := by decide
  have e3 : (2 : Int) ^ (min 63 (IntKind.bits .i64)) = 9223372036854775808 := by decide
  rw [e1, e2, e3]
  have hA : IntKind.wrap .u64 (IntKind.wrap .u64 n * 2) = (((2 * n) % 18446744073709551616).toNat : Int) := by rw [wu64, wu64]; omega
  obtain ⟨a, ha⟩ : ∃ a : Nat, a = ((2 * n) % 18446744073709551616).toNat := ⟨_, rfl⟩
  rw [hA, ← ha]
  unfold zz
  by_cases hn : n < 0
  · have hB : IntKind.wrap .u64 (Int.fdiv n 9223372036854775808) = (-1) % 2 ^ 64 := by
      have : Int.fdiv n 9223372036854775808 = -1 := by rw [Int.fdiv_eq_ediv_of_nonneg _ (by decide)]; omega
      rw [this, wu64]; decide
    rw [hB, ofInt_mod, xor_all, if_pos hn, wu64]
    omega
  · have hB : IntKind.wrap .u64 (Int.fdiv n 9223372036854775808) = ((0 : Nat) : Int) := by
      have : Int.fdiv n 9223372036854775808 = 0 := by rw [Int.fdiv_eq_ediv_of_nonneg _ (by decide)]; omega
      rw [this, wu64]; decide
    rw [hB, xor_nat, if_neg hn, wu64]
    simp only [Nat.zero_mod, Nat.xor_zero]
    omega
theorem pInt_eq {n : Int} (h : okI .i64 n) : pack_Int_f n = some (num n) := by
  unfold pack_Int_f num
  rw [zig_bits h, pInt_L 9 _ (lt_p (zz_lt h)) BIG [] (by rw [BIG_eq]; omega) (by simp), List.nil_append]
theorem zig_eq {n : Int} (h : okI .i64 n) : ref01_zig_f n = some (zz n : Int) := by
  simp only [okI] at h
  unfold ref01_zig_f zz
  rw [cond_d]
  by_cases hn : n < 0
  · rw [if_pos hn, if_pos hn]
    congr 1
    rw [w64 (x := n + 1) (by omega) (by omega), w64 (x := 0 - (n + 1)) (by omega) (by omega), wu64, wu64, wu64]; omega
  · rw [if_neg hn, if_neg hn]
    congr 1
    rw [wu64, wu64]; omega
theorem rInt_L : ∀ (k u : Nat), u < 128 ^ (k + 1) → u < 18446744073709551616 → ∀ (m : Nat) (out : List Int), k < m → out.length + k ≤ 1000 → ref01_Int_L1 m out (u : Int) = some (out ++ enc u) := by
  intro k
  induction k with
  | zero =>
    intro u h h2 m out hm ho
    obtain ⟨m, rfl⟩ : ∃ m', m = m' + 1 := ⟨m - 1, by omega⟩
    rw [ref01_Int_L1, cond_d, if_neg (by simp at h; omega), ref01_Int_J1, chk_pos (by omega), enc_s (by simpa using h), wu8]
    congr 3; simp at h; omega
  | succ k ih =>
    intro u h h2 m out hm ho
    obtain ⟨m, rfl⟩ : ∃ m', m = m' + 1 := ⟨m - 1, by omega⟩
    rw [ref01_Int_L1, cond_d]
    by_cases hu : u < 128
    · rw [if_neg (by omega), ref01_Int_J1, chk_pos (by omega), enc_s hu, wu8]
      congr 3; omega
    · have e1 : IntKind.wrap .u8 (IntKind.wrap .u64 (128 + Int.tmod (u : Int) 128)) = ((128 + u % 128 : Nat) : Int) := by rw [wu8, wu64, Int.tmod_eq_emod_of_nonneg (by omega)]; omega
      have e2 : IntKind.wrap .u64 (Int.tdiv (u : Int) 128) = ((u / 128 : Nat) : Int) := by rw [wu64, Int.tdiv_eq_ediv_of_nonneg (by omega)]; omega
      rw [if_pos (by omega), chk_pos (by omega), e1, e2, ih (u / 128) (by rw [Nat.pow_succ] at h; omega) (by omega) m _ (by omega) (by simp; omega), enc_l hu]
      simp
theorem rInt_eq {n : Int} (h : okI .i64 n) : ref01_Int_f n = some (num n) := by
  unfold ref01_Int_f num
  rw [zig_eq h, Option.bind_some]
  exact rInt_L 9 _ (lt_p (zz_lt h)) (zz_lt h) BIG [] (by rw [BIG_eq]; omega) (by simp)
/-! reading -/
/-- what a reader yields -/
inductive R (α : Type) where
  | ok (v : α) (rest : List Int)
  | no (e : Int)
def dU : List Int → Nat → Nat → R Int
  | [], _, _ => .no 10
  | x :: b, i, u => if i = 9 ∧ 1 < x then .no 11 else if 128 ≤ x then dU b (i + 1) (u + (x % 128).toNat * 128 ^ i) else if x = 0 ∧ 0 < i then .no 11 else .ok (zag (u + x.toNat * 128 ^ i)) b
def T3 {α : Type} (d : α) : R α → α × List Int × Int
  | .ok v b => (v, b, 0)
  | .no e => (d, [], e)
theorem pow7 (i : Nat) : 128 ^ i = 2 ^ (7 * i) := by rw [show 128 = 2 ^ 7 by decide, ← Nat.pow_mul]
theorem pow_le9 : ∀ i, i ≤ 9 → (2 : Nat) ^ (7 * i) ≤ 9223372036854775808 := by decide
theorem or_step {u x i : Nat} (hi : i ≤ 9) (hu : u < 128 ^ i) (hx : x < 256) (h9 : i = 9 → x ≤ 1) :
    IntKind.wrap .u64 (BitVec.ofInt (IntKind.bits .u64) (u : Int) ||| BitVec.ofInt (IntKind.bits .u64) (IntKind.wrap .u64 ((IntKind.wrap .u64 (IntKind.wrap .u8 (BitVec.ofInt (IntKind.bits .u8) (x : Int) &&& BitVec.ofInt (IntKind.bits .u8) 127).toNat)) * 2 ^ (min (IntKind.wrap .i64 (7 * (i : Int))).toNat (IntKind.bits .u64))))).toNat = ((u + x % 128 * 128 ^ i : Nat) : Int) := by
  have e1 : IntKind.bits .u64 = 64 := rfl
  have e8 : IntKind.bits .u8 = 8 := rfl
  have h := and_nat 8 x 127
  have e3 : ((127 : Nat) : Int) = 127 := rfl
  rw [e3] at h
  have h3 : x % 2 ^ 8 = x := Nat.mod_eq_of_lt hx
  have h4 : 127 % 2 ^ 8 = 127 := by decide
  rw [h3, h4, and127 _ hx] at h
  have w7 : (IntKind.wrap .i64 (7 * (i : Int))).toNat = 7 * i := by rw [w64 (by omega) (by omega)]; omega
  have wm : min (7 * i) 64 = 7 * i := by omega
  rw [e1, e8, h, w7, wm]
  have hp := pow_le9 i hi
  have hd : x % 128 * 2 ^ (7 * i) < 18446744073709551616 ∧ (i = 9 → x % 128 ≤ 1) := by
    refine ⟨?_, fun h => by have := h9 h; omega⟩
    by_cases hi9 : i = 9
    · subst hi9; have := h9 rfl
      have : x % 128 ≤ 1 := by omega
      calc x % 128 * 2 ^ (7 * 9) ≤ 1 * 2 ^ (7 * 9) := Nat.mul_le_mul_right _ this
        _ < _ := by decide
    · have : (2 : Nat) ^ (7 * i) ≤ 2 ^ (7 * 8) := Nat.pow_le_pow_right (by decide) (by omega)
      calc x % 128 * 2 ^ (7 * i) ≤ 127 * 2 ^ (7 * 8) := Nat.mul_le_mul (by omega) this
        _ < _ := by decide
  have ev : IntKind.wrap .u64 ((IntKind.wrap .u64 (IntKind.wrap .u8 ((x % 128 : Nat) : Int))) * 2 ^ (7 * i)) = ((x % 128 * 2 ^ (7 * i) : Nat) : Int) := by
    have a1 : IntKind.wrap .u8 ((x % 128 : Nat) : Int) = ((x % 128 : Nat) : Int) := by rw [wu8]; omega
    have a2 : IntKind.wrap .u64 ((x % 128 : Nat) : Int) = ((x % 128 : Nat) : Int) := by rw [wu64]; omega
    have a3 : ((x % 128 : Nat) : Int) * 2 ^ (7 * i) = ((x % 128 * 2 ^ (7 * i) : Nat) : Int) := by rw [Int.natCast_mul]; simp
    rw [a1, a2, a3, wu64]
    have := hd.1
    generalize x % 128 * 2 ^ (7 * i) = q at *
    omega
  rw [ev, or_nat]
  rw [pow7] at hu ⊢
  have q1 : u % 2 ^ 64 = u := Nat.mod_eq_of_lt (by omega)
  have q2 : (x % 128 * 2 ^ (7 * i)) % 2 ^ 64 = x % 128 * 2 ^ (7 * i) := Nat.mod_eq_of_lt (by have := hd.1; omega)
  have q3 := Nat.two_pow_add_eq_or_of_lt hu (x % 128)
  rw [q1, q2, Nat.or_comm, Nat.mul_comm, ← q3, wu64]
  have hs : 2 ^ (7 * i) * (x % 128) + u < 18446744073709551616 := by
    by_cases hi9 : i = 9
    · subst hi9
      have := hd.2 rfl
      have h1 : 2 ^ (7 * 9) * (x % 128) ≤ 2 ^ (7 * 9) * 1 := Nat.mul_le_mul_left _ this
      have h2 : (2 : Nat) ^ (7 * 9) = 9223372036854775808 := by decide
      omega
    · have h1 : (2 : Nat) ^ (7 * i) ≤ 2 ^ (7 * 8) := Nat.pow_le_pow_right (by decide) (by omega)
      have h2 : 2 ^ (7 * i) * (x % 128) ≤ 2 ^ (7 * 8) * 127 := Nat.mul_le_mul h1 (by omega)
      have h3 : (2 : Nat) ^ (7 * 8) = 72057594037927936 := by decide
      omega
  generalize 2 ^ (7 * i) * (x % 128) = q at *
  omega
end Go.Proofs.Ytifkepfcjhebfaa
