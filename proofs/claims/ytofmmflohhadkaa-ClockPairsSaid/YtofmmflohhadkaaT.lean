import Derived.Test.YtofmmflohhadkaaS
namespace Go.Proofs.Ytofmmflohhadkaa
open Go.RowKit Go.Kx Plain
theorem ints_block {w : World} {b : Nat} {cs : Array Value} {t : TypeId} {fr : Nat × Nat} {l : List Int} (h : w.heap[b]? = some (.cells cs t fr))
    (hcs : ∀ (i : Nat) (x : Int), l[i]? = some x → cs[i]? = some (.int .i64 x) ∧ (Lit.int .i64 x).wf = true) (n c : Nat) (hn : l.length = n) (hc : n ≤ c ∧ c ≤ 9223372036854775807) : RI.rd w T [.slice (some ⟨b, 0, none⟩) n c] l := by
  subst hn
  refine ⟨_, c, rfl, hc.1, hc.2, fun i x hx => ⟨b, 0, [.int .i64 x], rfl, trivial, ?_, fun j v hv => ?_, rfl, (hcs i x hx).2⟩⟩
  · rcases Nat.lt_or_ge b w.heap.size with h1 | h1
    · exact h1
    · rw [Array.getElem?_eq_none h1] at h; cases h
  · match j, hv with
    | 0, hv =>
      simp at hv
      subst hv
      rw [cell_of_row w b _ cs t fr h]
      have := (hcs i x hx).1
      simpa [Rep.int] using this
theorem two_rd (w : World) (x y : Int) (hx : (Lit.int .i64 x).wf = true) (hy : (Lit.int .i64 y).wf = true) (g : Nat) (hg : Blk w g 3 #[.int .i64 x, .int .i64 y]) : RI.rd w T [.slice (some ⟨g, 0, none⟩) 2 2] [x, y] :=
  ints_block hg (fun i z hz => by
    rcases i with _ | _ | i <;> simp at hz <;> subst hz
    · exact ⟨rfl, hx⟩
    · exact ⟨rfl, hy⟩) 2 2 rfl ⟨by decide, by decide⟩
theorem right_yes : RightP [0, 10] [5, 15] := by
  refine ⟨rfl, ?_, ?_⟩
  · intro i hi
    rcases i with _ | _ | i <;> simp [Rng] at *
  · intro i hi k hk
    rcases i with _ | _ | i <;> rcases k with _ | k <;> simp [PairP] at * <;> first | omega | decide
theorem right_no : ¬ RightP [0, 10] [5, 17] := by
  intro h
  have := (h.2.2 1 (by decide) 0 (by decide)).2.2
  revert this; decide
theorem IsB.eqT {P : Prop} (h : P) {e : Ending} (hb : IsB P e) : e = .returned (.bool true) := by
  obtain ⟨c, rfl, hc⟩ := hb; rw [hc.2 h]
theorem IsB.eqF {P : Prop} (h : ¬ P) {e : Ending} (hb : IsB P e) : e = .returned (.bool false) := by
  obtain ⟨c, rfl, hc⟩ := hb
  cases c with
  | true => exact absurd (hc.1 rfl) h
  | false => rfl
set_option maxHeartbeats 1000000 in
theorem head_any (w : World) :
    Calls Try.prog 9 #[] w fun e w' => e = .returned (.bool true) ∧ Below w.heap.size w w' := by
  go_enter Try.func9, Try.ntmps9
  go_wp2_with fail
  refine (Least_any 1000 _ (by omega) (by omega) 999 (by decide)).mono ?_
  rintro e w' ⟨rfl, rfl⟩
  go_wp2_with fail
  refine (Most_any 1000 _ (by omega) (by omega) 1001 (by decide)).mono ?_
  rintro e w' ⟨rfl, rfl⟩
  go_wp2_with fail
  refine (Least_any 1 _ (by omega) (by omega) 0 (by decide)).mono ?_
  rintro e w' ⟨rfl, rfl⟩
  go_wp2_with fail
  refine (Most_any 1 _ (by omega) (by omega) 2 (by decide)).mono ?_
  rintro e w' ⟨rfl, rfl⟩
  go_wp2_with fail
  refine (Wait_any 1 _ (by omega) (by omega) 3 (by decide)).mono ?_
  rintro e w1 ⟨rfl, hB⟩
  go_wp2_with fail
  refine (Wait_any 0 _ (by omega) (by omega) 0 (by decide)).mono ?_
  rintro e w2 ⟨rfl, hb⟩
  have hB := hB.trans (hb.mono hB.size)
  go_wp2_with fail
  refine (Use_any 100 _ (by omega) (by omega) 98 (by decide)).mono ?_
  rintro e w3 ⟨rfl, hb3⟩
  have hB := hB.trans (hb3.mono hB.size)
  go_wp2_with fail
  refine (Use_any 0 _ (by omega) (by omega) (-1) (by decide)).mono ?_
  rintro e w4 ⟨rfl, hb4⟩
  have hB := hB.trans (hb4.mono hB.size)
  go_wp2_with fail
  have hB := (hB.alloc hB.size (.cells #[.int .i64 0, .int .i64 10] 3)).alloc (le_alloc hB.size _) (.cells #[.int .i64 5, .int .i64 15] 3)
  have h1 : Blk ((w4.alloc (.cells #[.int .i64 0, .int .i64 10] 3)).alloc (.cells #[.int .i64 5, .int .i64 15] 3)) w4.heap.size 3 #[.int .i64 0, .int .i64 10] := heap_alloc2_old _ _ _
  have h2 : Blk ((w4.alloc (.cells #[.int .i64 0, .int .i64 10] 3)).alloc (.cells #[.int .i64 5, .int .i64 15] 3)) (w4.heap.size + 1) 3 #[.int .i64 5, .int .i64 15] := heap_alloc2_new _ _ _
  generalize (w4.alloc (.cells #[.int .i64 0, .int .i64 10] 3)).alloc (.cells #[.int .i64 5, .int .i64 15] 3) = W4 at hB h1 h2 ⊢
  refine (Right_any _ _ [0, 10] [5, 15] _ (two_rd _ _ _ (by decide) (by decide) _ h1) (two_rd _ _ _ (by decide) (by decide) _ h2)).mono ?_
  rintro e w5 ⟨hR, hb5⟩
  obtain rfl := hR.eqT right_yes
  have hB := hB.trans (hb5.mono hB.size)
  go_wp2_with fail
  have hB := (hB.alloc hB.size (.cells #[.int .i64 0, .int .i64 10] 3)).alloc (le_alloc hB.size _) (.cells #[.int .i64 5, .int .i64 17] 3)
  have h1 : Blk ((w5.alloc (.cells #[.int .i64 0, .int .i64 10] 3)).alloc (.cells #[.int .i64 5, .int .i64 17] 3)) w5.heap.size 3 #[.int .i64 0, .int .i64 10] := heap_alloc2_old _ _ _
  have h2 : Blk ((w5.alloc (.cells #[.int .i64 0, .int .i64 10] 3)).alloc (.cells #[.int .i64 5, .int .i64 17] 3)) (w5.heap.size + 1) 3 #[.int .i64 5, .int .i64 17] := heap_alloc2_new _ _ _
  generalize (w5.alloc (.cells #[.int .i64 0, .int .i64 10] 3)).alloc (.cells #[.int .i64 5, .int .i64 17] 3) = W5 at hB h1 h2 ⊢
  refine (Right_any _ _ [0, 10] [5, 17] _ (two_rd _ _ _ (by decide) (by decide) _ h1) (two_rd _ _ _ (by decide) (by decide) _ h2)).mono ?_
  rintro e w6 ⟨hR, hb6⟩
  obtain rfl := hR.eqF right_no
  have hB := hB.trans (hb6.mono hB.size)
  go_wp2_with fail
  go_ret
  exact ⟨rfl, hB⟩
set_option maxHeartbeats 400000 in
theorem time_any (x : Nat) (w : World) (hx : x < 18446744073709551616) (v : Nat) (hv : x % 1099511627777 = v) :
    Calls Try.prog 20 #[.int .u64 (x : Int)] w fun e w' => e = .returned (.int .i64 (v : Int)) ∧ w = w' := by
  have hv2 : (x : Int) % 1099511627777 = (v : Int) := by omega
  have hv3 : v < 1099511627777 := by omega
  clear hv hx
  go_enter Try.func20, Try.ntmps20
  go_wp2
  go_ret
  exact ⟨rfl, rfl⟩
def BetP (a b v : Int) : Prop := (b ≤ a → v = a) ∧ (a < b → a ≤ v ∧ v ≤ b)
def IsBet (a b : Int) (e : Ending) : Prop := ∃ v, e = .returned (.int .i64 v) ∧ BetP a b v
set_option maxHeartbeats 400000 in
theorem between_any (a b : Int) (x : Nat) (w : World) (h0 : 0 ≤ a) (h1 : a ≤ 4611686018427387904) (h2 : 0 ≤ b) (h3 : b ≤ 4611686018427387904) :
    Calls Try.prog 21 #[.int .i64 a, .int .i64 b, .int .u64 (x : Int)] w fun e w' => IsBet a b e ∧ w = w' := by
  by_cases hba : b ≤ a
  · have hd : decide (b ≤ a) = true := by simp; omega
    go_enter Try.func21, Try.ntmps21
    go_wp2
    go_ret
    exact ⟨⟨_, rfl, fun _ => rfl, fun h => by omega⟩, rfl⟩
  · have hd : decide (b ≤ a) = false := by simp; omega
    obtain ⟨d, hd1, hd2, hd3⟩ : ∃ d : Int, b - a + 1 = d ∧ 0 < d ∧ d ≤ 4611686018427387905 := ⟨_, rfl, by omega, by omega⟩
    have hdb : Hid (b - a + 1 = d) := hd1
    obtain ⟨m, hm1, hm2, hm3⟩ : ∃ m : Int, (x : Int) % d = m ∧ 0 ≤ m ∧ m < d := ⟨_, rfl, Int.emod_nonneg _ (by omega), Int.emod_lt_of_pos _ hd2⟩
    have hd0 : (d == 0) = false := by simp; omega
    go_enter Try.func21, Try.ntmps21
    go_wp2
    go_ret
    have := hdb.out
    exact ⟨⟨_, rfl, fun h => by omega, fun _ => by omega⟩, rfl⟩
end Go.Proofs.Ytofmmflohhadkaa
