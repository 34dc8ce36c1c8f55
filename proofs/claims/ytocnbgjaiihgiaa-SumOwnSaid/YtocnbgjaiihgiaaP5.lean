/- DERIVED. Plain facts: a burst turned byte by byte. No program here. -/
import Derived.Test.YtocnbgjaiihgiaaP2
namespace Go.Proofs.Ytocnbgjaiihgiaa.Plain
def tw (b : List Nat) (k : Nat) (ys : List Nat) : Nat → List Nat
  | 0 => b
  | i + 1 => (tw b k ys i).set (k + i) (b.getD (k + i) 0 ^^^ ys.getD i 0)
def sm (ys : List Nat) : Nat → Bool
  | 0 => true
  | i + 1 => sm ys i && (((ys.getD i 0 : Nat) : Int) == 0)
theorem tw_length (b : List Nat) (k : Nat) (ys : List Nat) : ∀ i, (tw b k ys i).length = b.length
  | 0 => rfl
  | i + 1 => by rw [tw, List.length_set, tw_length b k ys i]
theorem tw_get (b : List Nat) (k : Nat) (ys : List Nat) : ∀ (i j : Nat), k + i ≤ b.length → (tw b k ys i)[j]? = if k ≤ j ∧ j < k + i then some (b.getD j 0 ^^^ ys.getD (j - k) 0) else b[j]?
  | 0, j, _ => by rw [if_neg (by omega)]; rfl
  | i + 1, j, h => by
    rw [tw, List.getElem?_set, tw_length, tw_get b k ys i j (by omega)]
    by_cases h1 : k + i = j
    · subst h1
      rw [if_pos rfl, if_pos (by omega), if_pos (by omega)]
      congr 3; omega
    · rw [if_neg h1]
      by_cases h2 : k ≤ j ∧ j < k + i
      · rw [if_pos h2, if_pos (by omega)]
      · rw [if_neg h2, if_neg (by omega)]
theorem tw_at (b : List Nat) (k : Nat) (ys : List Nat) (i : Nat) (h : k + i < b.length) : (tw b k ys i)[k + i]? = some (b.getD (k + i) 0) := by
  rw [tw_get b k ys i (k + i) (by omega), if_neg (by omega), List.getD_eq_getElem?_getD, List.getElem?_eq_getElem h]; rfl
theorem sm_iff (ys : List Nat) : ∀ i, sm ys i = true ↔ ∀ j, j < i → ys.getD j 0 = 0
  | 0 => by simp [sm]
  | i + 1 => by
    rw [sm, Bool.and_eq_true, sm_iff ys i]
    constructor
    · rintro ⟨h1, h2⟩ j hj
      rcases Nat.lt_or_ge j i with h | h
      · exact h1 j h
      · have : j = i := by omega
        subst this
        have := eq_of_beq h2
        omega
    · intro h
      refine ⟨fun j hj => h j (by omega), ?_⟩
      rw [h i (by omega)]; rfl
theorem tw_burst (b : List Nat) (k : Nat) (ys : List Nat) (m : Nat) (hb : ∀ x ∈ b, x < 256) (hy : ∀ j, ys.getD j 0 < 256) (h : k + m ≤ b.length) (hm : m ≤ 4) :
    (((crc b : Nat) : Int) == ((crc (tw b k ys m) : Nat) : Int)) = sm ys m := by
  have hl := tw_length b k ys m
  have e1 : b = b.take k ++ (b.drop k).take m ++ b.drop (k + m) := by
    conv => lhs; rw [← List.take_append_drop k b, ← List.take_append_drop m (b.drop k), List.drop_drop]
    simp
  have htk : (tw b k ys m).take k = b.take k := by
    apply List.ext_getElem?
    intro j
    rw [List.getElem?_take, List.getElem?_take]
    by_cases hj : j < k
    · rw [if_pos hj, if_pos hj, tw_get b k ys m j h, if_neg (by omega)]
    · rw [if_neg hj, if_neg hj]
  have hdr : (tw b k ys m).drop (k + m) = b.drop (k + m) := by
    apply List.ext_getElem?
    intro j
    rw [List.getElem?_drop, List.getElem?_drop, tw_get b k ys m _ h, if_neg (by omega)]
  have e2 : tw b k ys m = b.take k ++ ((tw b k ys m).drop k).take m ++ b.drop (k + m) := by
    conv => lhs; rw [← List.take_append_drop k (tw b k ys m), ← List.take_append_drop m ((tw b k ys m).drop k), List.drop_drop, htk, hdr]
    simp
  have hx : ∀ z ∈ (b.drop k).take m, z < 256 := fun z hz => hb z (List.mem_of_mem_drop (List.mem_of_mem_take hz))
  have hall : ∀ z ∈ tw b k ys m, z < 256 := by
    intro z hz
    obtain ⟨j, hj, rfl⟩ := List.mem_iff_getElem.1 hz
    have := tw_get b k ys m j h
    rw [List.getElem?_eq_getElem hj] at this
    split at this
    · injection this with this
      rw [this]
      refine Nat.xor_lt_two_pow (n := 8) ?_ (hy _)
      have hjb : j < b.length := by omega
      rw [List.getD_eq_getElem?_getD, List.getElem?_eq_getElem hjb]; exact hb _ (by simp)
    · exact hb _ (List.mem_of_getElem? this.symm)
  have hy' : ∀ z ∈ ((tw b k ys m).drop k).take m, z < 256 := fun z hz => hall z (List.mem_of_mem_drop (List.mem_of_mem_take hz))
  have key := burst (b.take k) ((b.drop k).take m) (((tw b k ys m).drop k).take m) (b.drop (k + m)) (fun z hz => hb z (List.mem_of_mem_take hz)) hx hy' (fun z hz => hb z (List.mem_of_mem_drop hz)) (by simp [hl]) (by simp; omega)
  rw [← e1, ← e2] at key
  have hxy : (b.drop k).take m = ((tw b k ys m).drop k).take m ↔ sm ys m = true := by
    rw [sm_iff]
    constructor
    · intro he j hj
      have := congrArg (·[j]?) he
      simp only [List.getElem?_take, List.getElem?_drop, if_pos hj] at this
      rw [tw_get b k ys m _ h, if_pos (by omega)] at this
      have hjb : k + j < b.length := by omega
      rw [List.getElem?_eq_getElem hjb, List.getD_eq_getElem?_getD, List.getElem?_eq_getElem hjb] at this
      injection this with this
      have h2 := congrArg (b[k + j] ^^^ ·) this
      have e : k + j - k = j := by omega
      simp [← Nat.xor_assoc, e] at h2
      simpa using h2.symm
    · intro hz
      apply List.ext_getElem?
      intro j
      rw [List.getElem?_take, List.getElem?_take]
      by_cases hj : j < m
      · rw [if_pos hj, if_pos hj, List.getElem?_drop, List.getElem?_drop, tw_get b k ys m _ h, if_pos (by omega)]
        have hjb : k + j < b.length := by omega
        have e : k + j - k = j := by omega
        rw [e, hz j hj, List.getElem?_eq_getElem hjb, List.getD_eq_getElem?_getD, List.getElem?_eq_getElem hjb]
        simp
      · rw [if_neg hj, if_neg hj]
  rw [Bool.eq_iff_iff, ← hxy, ← key]
  simp
  omega
end Go.Proofs.Ytocnbgjaiihgiaa.Plain
