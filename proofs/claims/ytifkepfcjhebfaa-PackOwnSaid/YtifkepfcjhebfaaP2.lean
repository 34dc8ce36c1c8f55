/- Numbers read, and what is packed, as plain laws. -/
import Derived.Test.YtifkepfcjhebfaaP1
set_option linter.unusedSimpArgs false
set_option linter.unusedVariables false
namespace Go.Proofs.Ytifkepfcjhebfaa
open Go.Ab Go.RowKit
def Bs (b : List Int) : Prop := ∀ x ∈ b, okI .u8 x
theorem Bs.drop {b : List Int} (h : Bs b) (k : Nat) : Bs (b.drop k) := fun x hx => h x (List.mem_of_mem_drop hx)
theorem Bs.take {b : List Int} (h : Bs b) (k : Nat) : Bs (b.take k) := fun x hx => h x (List.mem_of_mem_take hx)
theorem Bs.app {a b : List Int} (h : Bs a) (k : Bs b) : Bs (a ++ b) := fun x hx => by
  rcases List.mem_append.1 hx with e | e
  · exact h x e
  · exact k x e
theorem zag_bits {u : Nat} (h : u < 18446744073709551616) : (IntKind.wrap .i64 (BitVec.ofInt (IntKind.bits .i64) (IntKind.wrap .i64 (Int.fdiv (u : Int) (2 ^ (min 1 (IntKind.bits .u64))))) ^^^ BitVec.ofInt (IntKind.bits .i64) (IntKind.wrap .i64 (0 - (IntKind.wrap .i64 (IntKind.wrap .u64 (BitVec.ofInt (IntKind.bits .u64) (u : Int) &&& BitVec.ofInt (IntKind.bits .u64) 1).toNat))))).toNat) = zag u := by
  have e1 : IntKind.bits .u64 = 64 := rfl
  have e0 : IntKind.bits .i64 = 64 := rfl
  have e2 : (2 : Int) ^ (min 1 64) = 2 := by decide
  rw [e1, e0, e2]
  have ha : IntKind.wrap .i64 (Int.fdiv (u : Int) 2) = ((u / 2 : Nat) : Int) := by
    rw [Int.fdiv_eq_ediv_of_nonneg _ (by decide), w64 (by omega) (by omega)]; omega
  have h1 := and_nat 64 u 1
  have e3 : ((1 : Nat) : Int) = 1 := rfl
  rw [e3] at h1
  have h2 : u % 2 ^ 64 = u := Nat.mod_eq_of_lt (by omega)
  have h3 : 1 % 2 ^ 64 = 1 := by decide
  rw [h2, h3, Nat.and_one_is_mod] at h1
  rw [h1, ha]
  have hb : IntKind.wrap .i64 (IntKind.wrap .u64 ((u % 2 : Nat) : Int)) = ((u % 2 : Nat) : Int) := by rw [wu64, w64 (by omega) (by omega)]; omega
  rw [hb]
  unfold zag
  by_cases hu : u % 2 = 1
  · rw [if_pos hu, hu]
    have : IntKind.wrap .i64 (0 - ((1 : Nat) : Int)) = -1 := by decide
    rw [this, xor_all, wi64]
    have : u / 2 % 2 ^ 64 = u / 2 := Nat.mod_eq_of_lt (by omega)
    rw [this]
    split <;> omega
  · rw [if_neg hu, show u % 2 = 0 by omega]
    have : IntKind.wrap .i64 (0 - ((0 : Nat) : Int)) = ((0 : Nat) : Int) := by decide
    rw [this, xor_nat]
    have : u / 2 % 2 ^ 64 = u / 2 := Nat.mod_eq_of_lt (by omega)
    rw [this, Nat.zero_mod, Nat.xor_zero, w64 (by omega) (by omega)]
theorem sum_lt {u x i : Nat} (hi : i ≤ 9) (hu : u < 128 ^ i) (hx : x < 128) (h9 : i = 9 → x ≤ 1) : u + x * 128 ^ i < 18446744073709551616 ∧ (i ≤ 8 → u + x * 128 ^ i < 128 ^ (i + 1)) := by
  constructor
  · by_cases hi9 : i = 9
    · subst hi9
      have := Nat.mul_le_mul_right (128 ^ 9) (h9 rfl)
      have h2 : (128 : Nat) ^ 9 = 9223372036854775808 := by decide
      omega
    · have h1 : (128 : Nat) ^ i ≤ 128 ^ 8 := Nat.pow_le_pow_right (by decide) (by omega)
      have h2 : x * 128 ^ i ≤ 127 * 128 ^ 8 := Nat.mul_le_mul (by omega) h1
      have h3 : (128 : Nat) ^ 8 = 72057594037927936 := by decide
      omega
  · intro _
    have : x * 128 ^ i ≤ 127 * 128 ^ i := Nat.mul_le_mul_right _ (by omega)
    rw [Nat.pow_succ]; omega
theorem pRead_L {b : List Int} (hb : Bs b) (hl : b.length ≤ 1000000) : ∀ (m k u : Nat), 10 < m + k → k ≤ b.length → k ≤ 9 → u < 128 ^ k → pack_ReadInt_L1 b m (u : Int) (k : Int) = some (T3 0 (dU (b.drop k) k u)) := by
  intro m
  induction m with
  | zero => intro k u h1 h2 h3; omega
  | succ m ih =>
    intro k u h1 h2 h3 h4
    rw [pack_ReadInt_L1, cond_d]
    by_cases hk : k < b.length
    · rw [if_pos (by omega), idx_nat hk, Option.bind_some, drop_cons hk]
      have hx := hb _ (List.getElem_mem hk)
      simp only [okI] at hx
      obtain ⟨x, hxx⟩ : ∃ x : Nat, b[k] = (x : Int) := ⟨b[k].toNat, by omega⟩
      rw [hxx] at hx ⊢
      unfold dU pack_ReadInt_J2
      by_cases h9 : k = 9 ∧ 1 < (x : Int)
      · have : (((k : Int) == 9) && (decide (1 < (x : Int)))) = true := by rw [Bool.and_eq_true, beq_iff_eq, decide_eq_true_eq]; omega
        rw [this, if_pos h9]; rfl
      · have : (((k : Int) == 9) && (decide (1 < (x : Int)))) = false := by
          rw [Bool.eq_false_iff]; intro hh; rw [Bool.and_eq_true, beq_iff_eq, decide_eq_true_eq] at hh; exact h9 ⟨by omega, hh.2⟩
        have hx9 : k = 9 → x ≤ 1 := fun e => by
          rcases Nat.lt_or_ge 1 x with h | h
          · exact absurd ⟨e, by omega⟩ h9
          · exact h
        rw [this, cond_false, if_neg h9, chk_pos (by rw [w64 (by omega) (by omega)]; omega), or_step h3 h4 (by omega) hx9, cond_d, w64_succ (by omega)]
        have hxm : ((x : Int) % 128).toNat = x % 128 := by omega
        by_cases h128 : 128 ≤ (x : Int)
        · have hk8 : k ≤ 8 := by
            rcases Nat.lt_or_ge k 9 with h | h
            · omega
            · have := hx9 (by omega); omega
          rw [if_pos h128, if_pos h128, hxm]
          exact ih (k + 1) _ (by omega) (by omega) (by omega) ((sum_lt h3 h4 (by omega) (fun e => by omega)).2 hk8)
        · have hxe : x % 128 = x := by omega
          rw [if_neg h128, if_neg h128, pack_ReadInt_J3, or_step h3 h4 (by omega) hx9, w64_succ (by omega)]
          by_cases h0 : (x : Int) = 0 ∧ 0 < k
          · have : (((x : Int) == 0) && (decide (0 < (k : Int)))) = true := by rw [Bool.and_eq_true, beq_iff_eq, decide_eq_true_eq]; omega
            rw [this, if_pos h0]; rfl
          · have : (((x : Int) == 0) && (decide (0 < (k : Int)))) = false := by
              rw [Bool.eq_false_iff]; intro hh; rw [Bool.and_eq_true, beq_iff_eq, decide_eq_true_eq] at hh; exact h0 ⟨hh.1, by omega⟩
            rw [this, cond_false, if_neg h0, chk_pos (by omega), hxe, zag_bits (sum_lt h3 h4 (by omega) hx9).1]
            simp [T3]
    · rw [if_neg (by omega), List.drop_of_length_le (by omega)]; rfl
def rI (b : List Int) : R Int := dU b 0 0
theorem pRead_eq {b : List Int} (hb : Bs b) (hl : b.length ≤ 1000000) : pack_ReadInt_f b = some (T3 0 (rI b)) := by
  unfold pack_ReadInt_f
  exact pRead_L hb hl BIG 0 0 (by rw [BIG_eq]; omega) (by omega) (by omega) (by decide)
theorem rzag_eq {u : Nat} (h : u < 18446744073709551616) : ref01_zag_f (u : Int) = some (zag u) := by
  unfold ref01_zag_f zag
  rw [Int.tmod_eq_emod_of_nonneg (by omega), Int.tdiv_eq_ediv_of_nonneg (by omega), wu64, w64 (x := (u : Int) / 2 % 18446744073709551616) (by omega) (by omega)]
  by_cases hu : u % 2 = 1
  · have : (((u : Int) % 2) == 1) = true := by rw [beq_iff_eq]; omega
    rw [this, cond_true, if_pos hu, w64 (x := 0 - ((u : Int) / 2 % 18446744073709551616)) (by omega) (by omega), w64 (by omega) (by omega)]; congr 1; omega
  · have : (((u : Int) % 2) == 1) = false := by rw [beq_eq_false_iff_ne]; omega
    rw [this, cond_false, if_neg hu]; congr 1; omega
theorem rRead_L {b : List Int} (hb : Bs b) (hl : b.length ≤ 1000000) : ∀ (m k u : Nat), 10 < m + k → k ≤ b.length → k ≤ 9 → u < 128 ^ k → ref01_ReadInt_L1 b m (u : Int) ((128 ^ k : Nat) : Int) (k : Int) = some (T3 0 (dU (b.drop k) k u)) := by
  intro m
  induction m with
  | zero => intro k u h1 h2 h3; omega
  | succ m ih =>
    intro k u h1 h2 h3 h4
    rw [ref01_ReadInt_L1, ref01_ReadInt_J2]
    by_cases hk : k < b.length
    · have : ((decide ((k : Int) < b.length)) && (decide ((k : Int) < 10))) = true := by rw [Bool.and_eq_true, decide_eq_true_eq, decide_eq_true_eq]; omega
      rw [this, cond_true, idx_nat hk, Option.bind_some, drop_cons hk, ref01_ReadInt_J3, idx_nat hk, Option.bind_some]
      have hx := hb _ (List.getElem_mem hk)
      simp only [okI] at hx
      obtain ⟨x, hxx⟩ : ∃ x : Nat, b[k] = (x : Int) := ⟨b[k].toNat, by omega⟩
      rw [hxx] at hx ⊢
      unfold dU
      by_cases h9 : k = 9 ∧ 1 < (x : Int)
      · have : (((k : Int) == 9) && (decide (1 < (x : Int)))) = true := by rw [Bool.and_eq_true, beq_iff_eq, decide_eq_true_eq]; omega
        rw [this, if_pos h9]; rfl
      · have : (((k : Int) == 9) && (decide (1 < (x : Int)))) = false := by
          rw [Bool.eq_false_iff]; intro hh; rw [Bool.and_eq_true, beq_iff_eq, decide_eq_true_eq] at hh; exact h9 ⟨by omega, hh.2⟩
        have hx9 : k = 9 → x ≤ 1 := fun e => by
          rcases Nat.lt_or_ge 1 x with h | h
          · exact absurd ⟨e, by omega⟩ h9
          · exact h
        have hs := sum_lt (u := u) (x := x % 128) h3 h4 (by omega) (fun e => by have := hx9 e; omega)
        have hsum : IntKind.wrap .u64 ((u : Int) + (IntKind.wrap .u64 (((128 ^ k : Nat) : Int) * (IntKind.wrap .u64 (Int.tmod (x : Int) 128))))) = ((u + x % 128 * 128 ^ k : Nat) : Int) := by
          have a1 : IntKind.wrap .u64 (Int.tmod (x : Int) 128) = ((x % 128 : Nat) : Int) := by rw [Int.tmod_eq_emod_of_nonneg (by omega), wu64]; omega
          have a2 : ((128 ^ k : Nat) : Int) * ((x % 128 : Nat) : Int) = ((x % 128 * 128 ^ k : Nat) : Int) := by rw [Int.mul_comm, ← Int.natCast_mul]
          rw [a1, a2]
          have := hs.1
          generalize x % 128 * 128 ^ k = q at *
          rw [wu64, wu64]; omega
        have hxm : ((x : Int) % 128).toNat = x % 128 := by omega
        rw [this, cond_false, if_neg h9, hsum, cond_d]
        by_cases h128 : 128 ≤ (x : Int)
        · have hk8 : k ≤ 8 := by
            rcases Nat.lt_or_ge k 9 with h | h
            · omega
            · have := hx9 (by omega); omega
          have hby : IntKind.wrap .u64 (((128 ^ k : Nat) : Int) * 128) = ((128 ^ (k + 1) : Nat) : Int) := by
            have h1 : (128 : Nat) ^ (k + 1) ≤ 128 ^ 9 := Nat.pow_le_pow_right (by decide) (by omega)
            have h2 : (128 : Nat) ^ 9 = 9223372036854775808 := by decide
            rw [Nat.pow_succ] at h1 ⊢
            generalize (128 : Nat) ^ k = q at *
            rw [wu64]; omega
          rw [if_neg (by omega), if_pos h128, hby, w64_succ (by omega), hxm]
          exact ih (k + 1) _ (by omega) (by omega) (by omega) (hs.2 hk8)
        · have hxe : x % 128 = x := by omega
          rw [if_pos (by omega), if_neg h128, ref01_ReadInt_J4, hsum, w64_succ (by omega)]
          by_cases h0 : (x : Int) = 0 ∧ 0 < k
          · have : ((decide (0 < (k : Int))) && ((x : Int) == 0)) = true := by rw [Bool.and_eq_true, beq_iff_eq, decide_eq_true_eq]; omega
            rw [this, if_pos h0]; rfl
          · have : ((decide (0 < (k : Int))) && ((x : Int) == 0)) = false := by
              rw [Bool.eq_false_iff]; intro hh; rw [Bool.and_eq_true, beq_iff_eq, decide_eq_true_eq] at hh; exact h0 ⟨hh.2, by omega⟩
            rw [this, cond_false, if_neg h0, rzag_eq hs.1, Option.bind_some, chk_pos (by omega), hxe]
            simp [T3]
    · have : ((decide ((k : Int) < b.length)) && (decide ((k : Int) < 10))) = false := by
        rw [Bool.eq_false_iff]; intro hh; rw [Bool.and_eq_true, decide_eq_true_eq, decide_eq_true_eq] at hh; omega
      rw [this, cond_false, List.drop_of_length_le (by omega)]; rfl
theorem rRead_eq {b : List Int} (hb : Bs b) (hl : b.length ≤ 1000000) : ref01_ReadInt_f b = some (T3 0 (rI b)) := by
  unfold ref01_ReadInt_f
  exact rRead_L hb hl BIG 0 0 (by rw [BIG_eq]; omega) (by omega) (by omega) (by decide)
/-! laws of the reader of numbers -/
theorem dU_ok {α : Type} : ∀ (b : List Int) (i u : Nat) (v : Int) (r : List Int), Bs b → i ≤ 9 → u < 128 ^ i → dU b i u = .ok v r → ∃ w : Nat, v = zag (u + w * 128 ^ i) ∧ b = enc w ++ r ∧ u + w * 128 ^ i < 18446744073709551616 ∧ (0 < i → 0 < w)
  | [], i, u, v, r, _, _, _, h => by unfold dU at h; cases h
  | x :: b, i, u, v, r, hb, hi, hu, h => by
    have hx := hb x (by simp)
    simp only [okI] at hx
    unfold dU at h
    split at h
    · cases h
    · rename_i h9
      have hx9 : i = 9 → x ≤ 1 := fun e => by
        rcases (show 1 < x ∨ x ≤ 1 by omega) with h | h
        · exact absurd ⟨e, h⟩ h9
        · exact h
      split at h
      · rename_i h128
        have hi8 : i ≤ 8 := by
          rcases Nat.lt_or_ge i 9 with h | h
          · omega
          · have := hx9 (by omega); omega
        have hs := sum_lt (u := u) (x := (x % 128).toNat) hi hu (by omega) (fun e => by omega)
        obtain ⟨w, e1, e2, e3, e4⟩ := dU_ok (α := α) b (i + 1) _ v r (fun y hy => hb y (by simp [hy])) (by omega) (hs.2 hi8) h
        refine ⟨(x % 128).toNat + w * 128, ?_, ?_, ?_, fun _ => by have := e4 (by omega); omega⟩
        · rw [e1]; congr 1; rw [Nat.pow_succ, Nat.add_mul]; have : w * 128 * 128 ^ i = w * (128 ^ i * 128) := by rw [Nat.mul_assoc, Nat.mul_comm 128]
          omega
        · have hw := e4 (by omega)
          rw [enc_l (by omega), e2]
          have a1 : ((128 + ((x % 128).toNat + w * 128) % 128 : Nat) : Int) = x := by omega
          have a2 : ((x % 128).toNat + w * 128) / 128 = w := by omega
          rw [a1, a2]; rfl
        · rw [Nat.pow_succ] at e3; rw [Nat.add_mul]; have : w * 128 * 128 ^ i = w * (128 ^ i * 128) := by rw [Nat.mul_assoc, Nat.mul_comm 128]
          omega
      · rename_i h128
        split at h
        · cases h
        · rename_i h0
          injection h with h1 h2
          have hs := sum_lt (u := u) (x := x.toNat) hi hu (by omega) (fun e => by have := hx9 e; omega)
          refine ⟨x.toNat, h1.symm, ?_, hs.1, fun hi0 => ?_⟩
          · rw [enc_s (by omega), h2]; have : ((x.toNat : Nat) : Int) = x := by omega
            rw [this]; rfl
          · rcases (show 0 < x ∨ x ≤ 0 by omega) with h | h
            · omega
            · exact absurd ⟨by omega, hi0⟩ h0
theorem enc_dU : ∀ (w i u : Nat) (z : List Int), i ≤ 9 → u < 128 ^ i → w * 128 ^ i < 18446744073709551616 → (0 < i → 0 < w) → dU (enc w ++ z) i u = .ok (zag (u + w * 128 ^ i)) z := by
  intro w
  induction w using Nat.strongRecOn with
  | _ w ih =>
    intro i u z hi hu hw h0
    have h9 : i = 9 → w ≤ 1 := fun e => by
      subst e
      rcases Nat.lt_or_ge 1 w with h | h
      · have := Nat.mul_le_mul_right (128 ^ 9) h
        have h2 : (128 : Nat) ^ 9 = 9223372036854775808 := by decide
        omega
      · exact h
    by_cases h : w < 128
    · rw [enc_s h]
      show dU ((w : Int) :: z) i u = _
      unfold dU
      rw [if_neg (fun hh => by have := h9 hh.1; omega), if_neg (by omega), if_neg (fun hh => by have := h0 hh.2; omega), Int.toNat_natCast]
    · rw [enc_l h]
      show dU (((128 + w % 128 : Nat) : Int) :: (enc (w / 128) ++ z)) i u = _
      unfold dU
      have hi8 : i ≤ 8 := by
        rcases Nat.lt_or_ge i 9 with h | h
        · omega
        · have := h9 (by omega); omega
      rw [if_neg (fun hh => by omega), if_pos (by omega)]
      have a1 : (((128 + w % 128 : Nat) : Int) % 128).toNat = w % 128 := by omega
      have hs := sum_lt (u := u) (x := w % 128) hi hu (by omega) (fun e => by omega)
      have e1 : w * 128 ^ i = w % 128 * 128 ^ i + w / 128 * 128 ^ (i + 1) := by
        rw [Nat.pow_succ]
        have h1 : w / 128 * (128 ^ i * 128) = (w / 128 * 128) * 128 ^ i := by rw [Nat.mul_assoc, Nat.mul_comm 128]
        rw [h1, ← Nat.add_mul]; congr 1; omega
      rw [a1, ih (w / 128) (by omega) (i + 1) _ z (by omega) (hs.2 hi8) (by omega) (fun _ => by omega)]
      congr 2; omega
theorem num_read {n : Int} (h : okI .i64 n) (z : List Int) : rI (num n ++ z) = .ok n z := by
  unfold rI num
  rw [enc_dU _ 0 0 z (by omega) (by decide) (by simpa using zz_lt h) (by omega)]
  simp [zag_zz]
theorem read_num {b r : List Int} {n : Int} (hb : Bs b) (h : rI b = .ok n r) : b = num n ++ r ∧ okI .i64 n := by
  obtain ⟨w, e1, e2, e3, _⟩ := dU_ok (α := Unit) b 0 0 n r hb (by omega) (by decide) h
  simp only [Nat.pow_zero, Nat.mul_one, Nat.zero_add] at e1 e3
  subst e1
  refine ⟨?_, zag_ok e3⟩
  unfold num; rw [zz_zag]; exact e2
/-- a number's beginning tells that bytes are lacking -/
theorem cut_dU : ∀ (w i u k : Nat), i ≤ 9 → w * 128 ^ i < 18446744073709551616 → k < (enc w).length → dU ((enc w).take k) i u = .no 10 := by
  intro w
  induction w using Nat.strongRecOn with
  | _ w ih =>
    intro i u k hi hw hk
    cases k with
    | zero => rw [List.take_zero]; unfold dU; rfl
    | succ k =>
      by_cases h : w < 128
      · rw [enc_s h] at hk; simp at hk
      · rw [enc_l h] at hk ⊢
        rw [List.take_succ_cons]
        unfold dU
        have h9 : i ≠ 9 := fun e => by
          subst e
          have := Nat.mul_le_mul_right (128 ^ 9) (show 128 ≤ w by omega)
          have h2 : (128 : Nat) ^ 9 = 9223372036854775808 := by decide
          omega
        rw [if_neg (fun hh => h9 hh.1), if_pos (by omega)]
        refine ih (w / 128) (by omega) (i + 1) _ k (by omega) ?_ (by simpa using hk)
        rw [Nat.pow_succ]
        have h1 : w / 128 * (128 ^ i * 128) = (w / 128 * 128) * 128 ^ i := by rw [Nat.mul_assoc, Nat.mul_comm 128]
        have h2 : w / 128 * 128 * 128 ^ i ≤ w * 128 ^ i := Nat.mul_le_mul_right _ (by omega)
        omega
theorem num_cut {n : Int} (h : okI .i64 n) {k : Nat} (hk : k < (num n).length) : rI ((num n).take k) = .no 10 := by
  unfold rI num
  exact cut_dU _ 0 0 k (by omega) (by simpa using zz_lt h) hk
theorem dU_no {e : Int} : ∀ (b : List Int) (i u : Nat), dU b i u = .no e → e = 10 ∨ e = 11
  | [], i, u, h => by unfold dU at h; injection h with h; exact .inl h.symm
  | x :: b, i, u, h => by
    unfold dU at h
    split at h
    · injection h with h; exact .inr h.symm
    · split at h
      · exact dU_no b _ _ h
      · split at h
        · injection h with h; exact .inr h.symm
        · cases h
theorem dU_len : ∀ (b : List Int) (i u : Nat) (v : Int) (r : List Int), dU b i u = .ok v r → ∃ k, 1 ≤ k ∧ k ≤ b.length ∧ r = b.drop k
  | [], i, u, v, r, h => by unfold dU at h; cases h
  | x :: b, i, u, v, r, h => by
    unfold dU at h
    split at h
    · cases h
    · split at h
      · obtain ⟨k, h1, h2, h3⟩ := dU_len b _ _ v r h
        exact ⟨k + 1, by omega, by simp; omega, by rw [h3]; rfl⟩
      · split at h
        · cases h
        · injection h with h1 h2; exact ⟨1, by omega, by simp, by rw [h2]; rfl⟩
end Go.Proofs.Ytifkepfcjhebfaa
