/- DERIVED. Plain facts of blocks and their sums. No program's walk here. -/
import Derived.Test.YtocnbgjaiihgiaaD
import Derived.Test.YtocnbgjaiihgiaaP2
namespace Go.Proofs.Ytocnbgjaiihgiaa
open Plain
theorem blocks_get (l : List Nat) : ∀ j, (blocks l)[j]? = if 16 * j < l.length then some (crc ((l.drop (16 * j)).take 16)) else none := by
  induction h : l.length using Nat.strongRecOn generalizing l with
  | _ n ih =>
    intro j
    by_cases hl : l = []
    · subst hl; rw [blocks_nil]; simp at h; subst h; simp
    · have := List.length_pos_iff.2 hl
      rw [blocks_cons l hl]
      cases j with
      | zero => simp; omega
      | succ j =>
        rw [List.getElem?_cons_succ, ih (l.length - 16) (by omega) (l.drop 16) (by simp) j, List.drop_drop, h]
        have e : 16 + 16 * j = 16 * (j + 1) := by omega
        rw [e]
        by_cases hj : 16 * (j + 1) < n
        · rw [if_pos (by omega), if_pos hj]
        · rw [if_neg (by omega), if_neg hj]
theorem blocks_map_get (l : List Nat) (j : Nat) : ((blocks l).map (fun n : Nat => (n : Int)))[j]? = if 16 * j < l.length then some ((crc ((l.drop (16 * j)).take 16) : Nat) : Int) else none := by
  rw [List.getElem?_map, blocks_get]
  split <;> rfl
theorem check_self (l : List Int) : checkL l l = -1 := check_all (k := l.length) (fun j _ => rfl) (by omega) rfl
theorem check_snoc (l : List Int) (x : Int) : checkL l (l ++ [x]) = l.length :=
  check_end (k := l.length) (fun j hj => by rw [List.getElem?_append_left hj]) (by simp) (by simp)
theorem check_init (l : List Int) (n : Nat) (hn : n + 1 = l.length) : checkL l (l.take n) = n :=
  check_end (k := n) (fun j hj => by rw [List.getElem?_take, if_pos hj]) (by simp; omega) (by simp; omega)
theorem set_split (l : List Nat) (k : Nat) (y : Nat) (hk : k < l.length) : l = l.take k ++ [l[k]] ++ l.drop (k + 1) ∧ l.set k y = l.take k ++ [y] ++ l.drop (k + 1) := by
  constructor
  · conv => lhs; rw [← List.take_append_drop k l, List.drop_eq_getElem_cons hk]
    simp
  · rw [List.set_eq_take_append_cons_drop, if_pos hk]; simp
/-- one byte turned: the first block that does not fit -/
theorem check_turned (l : List Nat) (k x y : Nat) (hx : l[k]? = some x) (hl : ∀ z ∈ l, z < 256) (hy : y < 256) :
    checkL ((blocks (l.set k y)).map (fun n : Nat => (n : Int))) ((blocks l).map (fun n : Nat => (n : Int))) = if y = x then -1 else ((k / 16 : Nat) : Int) := by
  have hk : k < l.length := (List.getElem?_eq_some_iff.1 hx).1
  have hxe : l[k] = x := by rw [List.getElem?_eq_getElem hk] at hx; injection hx
  by_cases h : y = x
  · subst h
    have : l.set k y = l := by
      conv => lhs; rw [← hxe]
      simp
    rw [this, check_self, if_pos rfl]
  · rw [if_neg h]
    have hdt : ∀ j, j ≠ k / 16 → (((l.set k y).drop (16 * j)).take 16) = ((l.drop (16 * j)).take 16) := by
      intro j hj
      apply List.ext_getElem?
      intro i
      rw [List.getElem?_take, List.getElem?_take]
      by_cases hi : i < 16
      · rw [if_pos hi, if_pos hi, List.getElem?_drop, List.getElem?_drop, List.getElem?_set_ne (by omega)]
      · rw [if_neg hi, if_neg hi]
    refine check_at (fun j hj => ?_) (by rw [List.length_map, blocks_len, List.length_set]; omega) (by rw [List.length_map, blocks_len]; omega) ?_
    · rw [blocks_map_get, blocks_map_get, List.length_set, hdt j (by omega)]
    · have hc : 16 * (k / 16) < l.length := by omega
      rw [blocks_map_get, blocks_map_get, List.length_set, if_pos hc, if_pos hc]
      intro heq
      injection heq with heq
      have heq := Int.ofNat.inj heq
      have hr : k % 16 < ((l.drop (16 * (k / 16))).take 16).length := by simp; omega
      have hset : ((l.set k y).drop (16 * (k / 16))).take 16 = ((l.drop (16 * (k / 16))).take 16).set (k % 16) y := by
        apply List.ext_getElem?
        intro i
        rw [List.getElem?_take, List.getElem?_set, List.getElem?_take]
        by_cases hi : i < 16
        · rw [if_pos hi, List.getElem?_drop, List.getElem?_set]
          by_cases hik : k % 16 = i
          · rw [if_pos (by omega), if_pos hik, if_pos hk, if_pos hr]
          · rw [if_neg (by omega), if_neg hik, if_pos hi, List.getElem?_drop]
        · rw [if_neg hi, if_neg (by omega), if_neg hi]
      rw [hset] at heq
      have hmem : ∀ z ∈ (l.drop (16 * (k / 16))).take 16, z < 256 := fun z hz => hl z (List.mem_of_mem_drop (List.mem_of_mem_take hz))
      have hge : ((l.drop (16 * (k / 16))).take 16)[k % 16] = x := by
        rw [List.getElem_take, List.getElem_drop, ← hxe]
        congr 1; omega
      generalize (l.drop (16 * (k / 16))).take 16 = m at *
      obtain ⟨h1, h2⟩ := set_split m (k % 16) y hr
      rw [h2] at heq
      conv at heq => rhs; rw [h1]
      have := (burst (m.take (k % 16)) [y] [m[k % 16]] (m.drop (k % 16 + 1)) (fun z hz => hmem z (List.mem_of_mem_take hz)) (by simpa using hy) (by simp; exact hmem _ (by simp)) (fun z hz => hmem z (List.mem_of_mem_drop hz)) rfl (by simp)).1 heq
      simp at this
      exact h (by rw [this, hge])
end Go.Proofs.Ytocnbgjaiihgiaa
