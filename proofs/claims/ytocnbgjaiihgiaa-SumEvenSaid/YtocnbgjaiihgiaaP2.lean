/- DERIVED. Plain arithmetic of the sums: xor, bursts, own sums. No program here. -/
import Derived.Test.YtocnbgjaiihgiaaPlain
namespace Go.Proofs.Ytocnbgjaiihgiaa.Plain

def xor3 : List Nat → List Nat → List Nat → List Nat
  | a :: l, b :: m, c :: n => (a ^^^ b ^^^ c) :: xor3 l m n
  | _, _, _ => []
theorem byteStep_xor (a b x y : Nat) : byteStep (a ^^^ b) (x ^^^ y) = byteStep a x ^^^ byteStep b y := by
  unfold byteStep
  rw [show a ^^^ b ^^^ (x ^^^ y) = (a ^^^ x) ^^^ (b ^^^ y) by ac_rfl, nib_xor, nib_xor]
theorem crcFrom_xor3 : ∀ (l m n : List Nat) (c1 c2 c3 : Nat), l.length = m.length → m.length = n.length →
    crcFrom (c1 ^^^ c2 ^^^ c3) (xor3 l m n) = crcFrom c1 l ^^^ crcFrom c2 m ^^^ crcFrom c3 n
  | [], [], [], _, _, _, _, _ => rfl
  | a :: l, b :: m, c :: n, c1, c2, c3, h1, h2 => by
    simp at h1 h2
    have := crcFrom_xor3 l m n (byteStep c1 a) (byteStep c2 b) (byteStep c3 c) h1 h2
    rw [← byteStep_xor, ← byteStep_xor] at this
    exact this
  | [], _ :: _, _, _, _, _, h1, _ => by simp at h1
  | _ :: _, [], _, _, _, _, h1, _ => by simp at h1
  | [], [], _ :: _, _, _, _, _, h2 => by simp at h2
  | _ :: _, _ :: _, [], _, _, _, _, h2 => by simp at h2
theorem xor_self3 (c : Nat) : c ^^^ c ^^^ c = c := by simp
theorem crc_xor3 (l m n : List Nat) (h1 : l.length = m.length) (h2 : m.length = n.length) : crc (xor3 l m n) = crc l ^^^ crc m ^^^ crc n := by
  unfold crc
  have := crcFrom_xor3 l m n 4294967295 4294967295 4294967295 h1 h2
  rw [xor_self3] at this
  rw [this]
  have e : ∀ a b c k : Nat, (a ^^^ k) ^^^ (b ^^^ k) ^^^ (c ^^^ k) = a ^^^ b ^^^ c ^^^ (k ^^^ k ^^^ k) := by intro a b c k; ac_rfl
  rw [e, xor_self3]
theorem xor3_length : ∀ (l m n : List Nat), l.length = m.length → m.length = n.length → (xor3 l m n).length = l.length
  | [], [], [], _, _ => rfl
  | a :: l, b :: m, c :: n, h1, h2 => by
    simp at h1 h2; simp [xor3, xor3_length l m n h1 h2]
  | [], _ :: _, _, h1, _ => by simp at h1
  | _ :: _, [], _, h1, _ => by simp at h1
  | [], [], _ :: _, _, h2 => by simp at h2
  | _ :: _, _ :: _, [], _, h2 => by simp at h2
theorem xor3_at : ∀ (l m n : List Nat) (i x y z : Nat), l[i]? = some x → m[i]? = some y → n[i]? = some z → (xor3 l m n)[i]? = some (x ^^^ y ^^^ z)
  | [], _, _, _, _, _, _, h, _, _ => by simp at h
  | _ :: _, [], _, _, _, _, _, _, h, _ => by simp at h
  | _ :: _, _ :: _, [], _, _, _, _, _, _, h => by simp at h
  | a :: l, b :: m, c :: n, 0, x, y, z, h1, h2, h3 => by simp at h1 h2 h3; subst h1 h2 h3; rfl
  | a :: l, b :: m, c :: n, i + 1, x, y, z, h1, h2, h3 => by
    simpa [xor3] using xor3_at l m n i x y z (by simpa using h1) (by simpa using h2) (by simpa using h3)

/-! steps by bits are one to one -/
theorem xor_cancel {a b c : Nat} (h : a ^^^ c = b ^^^ c) : a = b := by
  have := congrArg (· ^^^ c) h
  simpa [Nat.xor_assoc] using this
theorem xor_eq_zero {a b : Nat} : a ^^^ b = 0 ↔ a = b := by
  constructor
  · intro h
    have := congrArg (· ^^^ b) h
    simpa [Nat.xor_assoc] using this
  · rintro rfl; simp
theorem bit_zero {c : Nat} (hc : c < 4294967296) (h : bit c = 0) : c = 0 := by
  unfold bit at h
  split at h
  · have := xor_eq_zero.1 h
    have h2 : poly ≥ 2147483648 := by decide
    omega
  · omega
theorem nib_zero {c : Nat} (hc : c < 4294967296) (h : nib c = 0) : c = 0 :=
  bit_zero hc (bit_zero (bit_lt hc) (bit_zero (bit_lt (bit_lt hc)) (bit_zero (bit_lt (bit_lt (bit_lt hc))) h)))
theorem nn_zero {c : Nat} (hc : c < 4294967296) (h : nib (nib c) = 0) : c = 0 := nib_zero hc (nib_zero (nib_lt hc) h)
theorem nn_inj {a b : Nat} (ha : a < 4294967296) (hb : b < 4294967296) (h : nib (nib a) = nib (nib b)) : a = b := by
  have h1 : nib (nib (a ^^^ b)) = 0 := by rw [nib_xor, nib_xor, h, Nat.xor_self]
  exact xor_eq_zero.1 (nn_zero (Nat.xor_lt_two_pow (n := 32) (by omega) (by omega)) h1)
theorem byteStep_inj {a b x : Nat} (ha : a < 4294967296) (hb : b < 4294967296) (hx : x < 256) (h : byteStep a x = byteStep b x) : a = b :=
  xor_cancel (nn_inj (Nat.xor_lt_two_pow (n := 32) (by omega) (by omega)) (Nat.xor_lt_two_pow (n := 32) (by omega) (by omega)) h)
theorem crcFrom_inj {l : List Nat} (hl : ∀ x ∈ l, x < 256) {a b : Nat} (ha : a < 4294967296) (hb : b < 4294967296) (h : crcFrom a l = crcFrom b l) : a = b := by
  induction l generalizing a b with
  | nil => exact h
  | cons x l ih =>
    have hx := hl x (by simp)
    exact byteStep_inj ha hb hx (ih (fun y hy => hl y (by simp [hy])) (byteStep_lt ha hx) (byteStep_lt hb hx) h)
/-- a byte in the lowest eight bits, seen through one step -/
theorem byteStep_low (c x : Nat) : byteStep c x = nib (nib c) ^^^ nib (nib x) := by unfold byteStep; rw [nib_xor, nib_xor]
theorem nib_256 (q : Nat) : nib (nib (256 * q)) = q := by
  rw [show 256 * q = 16 * (16 * q) by omega, nib_16, nib_16]
/-- two rows of bytes from two states with the same end: the states differ by just the rows' difference -/
def word : List Nat → Nat
  | [] => 0
  | x :: l => x ^^^ 256 * word l
theorem nn_xor (a b : Nat) : nib (nib (a ^^^ b)) = nib (nib a) ^^^ nib (nib b) := by rw [nib_xor, nib_xor]
theorem crcFrom_word : ∀ (l : List Nat) (c : Nat), crcFrom c l = crcFrom (c ^^^ word l) (l.map fun _ => 0)
  | [], c => by simp [word]
  | x :: l, c => by
    have h1 := crcFrom_word l (byteStep c x)
    have h2 : byteStep c x ^^^ word l = byteStep (c ^^^ word (x :: l)) 0 := by
      show nib (nib (c ^^^ x)) ^^^ word l = nib (nib ((c ^^^ (x ^^^ 256 * word l)) ^^^ 0))
      rw [Nat.xor_zero, ← Nat.xor_assoc, nn_xor (c ^^^ x), nib_256]
    show crcFrom (byteStep c x) l = crcFrom (byteStep (c ^^^ word (x :: l)) 0) (l.map fun _ => 0)
    rw [h1, h2]
theorem word_lt : ∀ (l : List Nat), (∀ x ∈ l, x < 256) → word l < 2 ^ (8 * l.length)
  | [], _ => by simp [word]
  | x :: l, h => by
    have h1 := word_lt l (fun y hy => h y (by simp [hy]))
    have hx := h x (by simp)
    have e : (2 : Nat) ^ (8 * (l.length + 1)) = 256 * 2 ^ (8 * l.length) := by
      rw [show 8 * (l.length + 1) = 8 * l.length + 8 by omega, Nat.pow_add]; omega
    have h2 : 256 * word l < 2 ^ (8 * (l.length + 1)) := by rw [e]; omega
    have h3 : (256 : Nat) ≤ 2 ^ (8 * (l.length + 1)) := by
      rw [e]; have := Nat.one_le_two_pow (n := 8 * l.length); omega
    exact Nat.xor_lt_two_pow (n := 8 * (l.length + 1)) (by omega) h2
theorem word_lt32 (l : List Nat) (h : ∀ x ∈ l, x < 256) (h4 : l.length ≤ 4) : word l < 4294967296 :=
  Nat.lt_of_lt_of_le (word_lt l h) (by
    have := Nat.pow_le_pow_right (n := 2) (by omega) (show 8 * l.length ≤ 32 by omega)
    simpa using this)
theorem xor_mod256 (a b : Nat) : (a ^^^ b) % 256 = a % 256 ^^^ b % 256 := by
  have := Nat.xor_mod_two_pow (a := a) (b := b) (n := 8)
  simpa using this
theorem xor_div256 (a b : Nat) : (a ^^^ b) / 256 = a / 256 ^^^ b / 256 := by
  have := Nat.shiftRight_xor_distrib (a := a) (b := b) (i := 8)
  simpa [Nat.shiftRight_eq_div_pow] using this
theorem word_inj : ∀ (l m : List Nat), l.length = m.length → (∀ x ∈ l, x < 256) → (∀ x ∈ m, x < 256) → word l = word m → l = m
  | [], [], _, _, _, _ => rfl
  | x :: l, y :: m, hl, h1, h2, h => by
    have hx := h1 x (by simp)
    have hy := h2 y (by simp)
    have hm := congrArg (· % 256) h
    have hd := congrArg (· / 256) h
    simp only [word, xor_mod256, xor_div256] at hm hd
    rw [Nat.mul_mod_right, Nat.mul_mod_right, Nat.xor_zero, Nat.xor_zero, Nat.mod_eq_of_lt hx, Nat.mod_eq_of_lt hy] at hm
    rw [Nat.mul_div_cancel_left _ (by omega), Nat.mul_div_cancel_left _ (by omega), Nat.div_eq_of_lt hx, Nat.div_eq_of_lt hy, Nat.zero_xor, Nat.zero_xor] at hd
    rw [hm, word_inj l m (by simpa using hl) (fun z hz => h1 z (by simp [hz])) (fun z hz => h2 z (by simp [hz])) hd]
  | [], _ :: _, hl, _, _, _ => by simp at hl
  | _ :: _, [], hl, _, _, _ => by simp at hl
theorem crcFrom_append (c : Nat) (l m : List Nat) : crcFrom c (l ++ m) = crcFrom (crcFrom c l) m := by simp [crcFrom]
/-- bursts of four bytes or fewer are told -/
theorem burst (p x y q : List Nat) (hp : ∀ z ∈ p, z < 256) (hx : ∀ z ∈ x, z < 256) (hy : ∀ z ∈ y, z < 256) (hq : ∀ z ∈ q, z < 256) (hl : x.length = y.length) (h4 : x.length ≤ 4) :
    crc (p ++ x ++ q) = crc (p ++ y ++ q) ↔ x = y := by
  constructor
  · intro h
    unfold crc at h
    have h := xor_cancel h
    rw [crcFrom_append, crcFrom_append, crcFrom_append, crcFrom_append] at h
    have hc := crcFrom_lt (c := 4294967295) (by omega) hp
    have h := crcFrom_inj hq (crcFrom_lt hc hx) (crcFrom_lt hc hy) h
    rw [crcFrom_word x, crcFrom_word y] at h
    have hz : (x.map fun _ => 0) = (y.map fun _ => 0) := by
      rw [List.map_const', List.map_const', hl]
    rw [hz] at h
    have wx := word_lt32 x hx h4
    have wy := word_lt32 y hy (by omega)
    have h := crcFrom_inj (by intro z hz; simp at hz; omega) (Nat.xor_lt_two_pow (n := 32) (by omega) (by omega)) (Nat.xor_lt_two_pow (n := 32) (by omega) (by omega)) h
    rw [Nat.xor_comm, Nat.xor_comm _ (word y)] at h
    exact word_inj x y hl hx hy (xor_cancel h)
  · rintro rfl; rfl
end Go.Proofs.Ytocnbgjaiihgiaa.Plain
