/- DERIVED. Plain arithmetic of clocks that drift. No program here. -/
namespace Go.Proofs.Ytofmmflohhadkaa.Plain
abbrev E : Int := 2199023255552
abbrev M : Int := 1099511627776
def cl (n hi : Int) : Int := min (max n 0) hi
def lst (r : Int) : Int := r * 999 / 1000
def mst (r : Int) : Int := (r * 1001 + 999) / 1000
/-- the least real time of which at least n is shown; the least of which more than n may be shown -/
def r1 (n : Int) : Int := (1000 * n + 998) / 999
def r2 (n : Int) : Int := 1000 * n / 1001 + 1
def wt (n : Int) : Int := if r1 n = 0 then 0 else mst (r1 n - 1) + 1
def us (n : Int) : Int := lst (r2 n) - 1
def sn (w : Int) : Int := (1000 * w + 1) / 1001
def lt (u : Int) : Int := min E ((1000 * u + 999) / 999)
theorem lst_ge (r n : Int) : n ≤ lst r ↔ r1 n ≤ r := by unfold lst r1; omega
theorem mst_gt (r n : Int) : n < mst r ↔ r2 n ≤ r := by unfold mst r2; omega
theorem mst_ge (r w : Int) : w ≤ mst r ↔ sn w ≤ r := by unfold mst sn; omega
theorem lst_le (r u : Int) : lst r ≤ u ↔ r ≤ (1000 * u + 999) / 999 := by unfold lst; omega
theorem r1_range (n : Int) (h0 : 0 ≤ n) (h1 : n ≤ M) : 0 ≤ r1 n ∧ r1 n ≤ E := by unfold r1; simp only [M, E] at *; omega
theorem r2_range (n : Int) (h0 : 0 ≤ n) (h1 : n ≤ M) : 0 ≤ r2 n ∧ r2 n ≤ E := by unfold r2; simp only [M, E] at *; omega
/-- what halving finds -/
theorem found {p : Int → Prop} {a : Int} (r : Int) (h0 : 0 ≤ r) (h1 : r ≤ E) (ha : 0 ≤ a) (ha' : a ≤ E) (hlow : ∀ x, 0 ≤ x → x < r → ¬ p x) (hup : r < E → p r) (hp : ∀ x, 0 ≤ x → x ≤ E → (p x ↔ a ≤ x)) : r = a := by
  rcases Int.lt_trichotomy r a with h | h | h
  · exact absurd ((hp r h0 (by omega)).1 (hup (by omega))) (by omega)
  · exact h
  · exact absurd ((hp a ha ha').2 (by omega)) (hlow a ha h)
theorem wt_ref (k w : Int) (h0 : 0 ≤ k) (h1 : k ≤ M) (hw : 0 ≤ w) (hw1 : w ≤ E) : k ≤ lst (sn w) ↔ wt k ≤ w := by
  rw [lst_ge]
  unfold sn wt
  by_cases h : r1 k = 0
  · rw [if_pos h, h]; omega
  · rw [if_neg h]
    have hr := r1_range k h0 h1
    unfold mst
    omega
theorem wt_range (n : Int) (h0 : 0 ≤ n) (h1 : n ≤ M) : 0 ≤ wt n ∧ wt n ≤ E := by
  have := r1_range n h0 h1
  unfold wt
  split
  · simp only [E]; omega
  · unfold mst r1 at *; simp only [M, E] at *; omega
theorem us_ref (k u : Int) (h0 : 0 ≤ k) (h1 : k ≤ M) (hu : 0 ≤ u) (hu1 : u ≤ E) : mst (lt u) ≤ k ↔ u ≤ us k := by
  have h := mst_gt (lt u) k
  have hr := r2_range k h0 h1
  have : mst (lt u) ≤ k ↔ ¬ (r2 k ≤ lt u) := by omega
  rw [this]
  unfold lt us lst
  simp only [E, M] at *
  unfold r2 at *
  omega
theorem mst_mono (x y : Int) (h : x ≤ y) : mst x ≤ mst y := by unfold mst; omega
theorem lst_mono (x y : Int) (h : x ≤ y) : lst x ≤ lst y := by unfold lst; omega
theorem sn_range (w : Int) (h0 : 0 ≤ w) (h1 : w ≤ E) : 0 ≤ sn w ∧ sn w ≤ E := by unfold sn; simp only [E] at *; omega
theorem lt_range (u : Int) (h0 : 0 ≤ u) : 0 ≤ lt u ∧ lt u ≤ E := by unfold lt; simp only [E] at *; omega
/-- what halving from above finds -/
theorem found_up {p : Int → Prop} {a : Int} (r : Int) (h0 : 0 ≤ r) (h1 : r ≤ E) (ha : 0 ≤ a) (ha' : a ≤ E) (hlow : 0 < r → p r) (hup : ∀ x, r < x → x ≤ E → ¬ p x) (hp : ∀ x, 0 ≤ x → x ≤ E → (p x ↔ x ≤ a)) : r = a := by
  rcases Int.lt_trichotomy r a with h | h | h
  · exact absurd ((hp a ha ha').2 (by omega)) (hup a h ha')
  · exact h
  · exact absurd ((hp r h0 h1).1 (hlow (by omega))) (by omega)
theorem lt_spec (u x : Int) (hx : x ≤ E) : lst x ≤ u ↔ x ≤ lt u := by rw [lst_le]; unfold lt; omega
theorem us_small (k : Int) (h0 : 0 ≤ k) (h : k < 2) : us k = -1 := by unfold us r2 lst; omega
theorem us_range (k : Int) (h0 : 2 ≤ k) (h1 : k ≤ M) : 0 ≤ us k ∧ us k ≤ E := by unfold us r2 lst; simp only [M, E] at *; omega
theorem mst_lt0 : mst (lt 0) = 2 := by decide
theorem wt_zero : wt 0 = 0 := by decide
theorem us_zero : us 0 = -1 := by decide
theorem wt_pos (n : Int) (h : 0 < n) : n < wt n := by unfold wt; split <;> ((try simp only [lst, mst, r1, r2] at *); omega)
theorem us_lt (n : Int) (h : 0 < n) : us n < n := by unfold us lst r2; omega
theorem us_ge (n : Int) (h : 0 ≤ n) : -1 ≤ us n := by unfold us lst r2; omega
theorem wt_mono (n m : Int) (h0 : 0 ≤ n) (h : n ≤ m) : wt n ≤ wt m := by
  unfold wt
  split <;> split <;> ((try simp only [lst, mst, r1, r2] at *); omega)
theorem us_mono (n m : Int) (h : n ≤ m) : us n ≤ us m := by unfold us lst r2; omega
theorem us_wt (n : Int) (h0 : 0 ≤ n) : n - 1 ≤ us (wt n) := by
  unfold us wt
  split <;> ((try simp only [lst, mst, r1, r2] at *); omega)
theorem wait_does (n r a b : Int) (hr : 0 ≤ r) (ha : a ≤ mst r) (hb : lst r ≤ b) (h : wt n ≤ a) (h0 : 0 ≤ n) : n ≤ b := by
  have hl : 0 ≤ lst r := by unfold lst; omega
  have key : n ≤ lst r := by
    rw [lst_ge]
    unfold wt at h
    split at h
    · omega
    · by_cases h1 : r < r1 n
      · have := mst_mono r (r1 n - 1) (by omega); omega
      · omega
  omega
theorem use_does (n r a b : Int) (ha : lst r ≤ a) (hb : b ≤ mst r) (h : a ≤ us n) : b ≤ n := by
  unfold us at h
  have h1 : r < r2 n := by
    by_cases h1 : r < r2 n
    · exact h1
    · have := lst_mono (r2 n) r (by omega); omega
  have h2 : ¬ n < mst r := fun h => by have := (mst_gt r n).1 h; omega
  omega
theorem lst_le_mst (r : Int) (h : 0 ≤ r) : lst r ≤ mst r := by unfold lst mst; omega
theorem late_at (n : Int) (h : 0 < n) (hM : n ≤ M) : ∃ d : Int, -5 ≤ d ∧ d ≤ 5 ∧ 0 ≤ (wt n - 1) - (wt n - 1) / 1001 + d ∧ (wt n - 1) - (wt n - 1) / 1001 + d = r1 n - 1 ∧ lst (r1 n - 1) ≤ wt n - 1 ∧ wt n - 1 ≤ mst (r1 n - 1) ∧ lst (r1 n - 1) < n := by
  refine ⟨r1 n - 1 - ((wt n - 1) - (wt n - 1) / 1001), ?_⟩
  unfold wt
  simp only [M] at hM
  split <;> ((try simp only [lst, mst, r1, r2] at *); omega)
theorem soon_at (n : Int) (h : 0 ≤ n) (hM : n ≤ M) : ∃ d : Int, -5 ≤ d ∧ d ≤ 5 ∧ 0 ≤ (us n + 1) + (us n + 1) / 999 + d ∧ (us n + 1) + (us n + 1) / 999 + d = r2 n ∧ lst (r2 n) ≤ us n + 1 ∧ us n + 1 ≤ mst (r2 n) ∧ n < mst (r2 n) := by
  refine ⟨r2 n - ((us n + 1) + (us n + 1) / 999), ?_⟩
  simp only [M] at hM
  simp only [us, lst, mst, r2] at *
  omega
theorem least_bounds (a : Int) (h0 : 0 ≤ a) : lst a ≤ a ∧ a ≤ mst a ∧ a - lst a ≤ a / 1000 + 1 ∧ mst a - a ≤ a / 1000 + 1 := by unfold lst mst; omega
theorem least_sum (a b : Int) : lst a + lst b ≤ lst (a + b) ∧ mst (a + b) ≤ mst a + mst b := by unfold lst mst; omega
theorem wt_small (n : Int) (h : n ≤ M) : wt n ≤ 1200000000000 := by
  unfold wt
  simp only [M] at h
  split <;> ((try simp only [lst, mst, r1, r2] at *); omega)
theorem us_small' (n : Int) (h : n ≤ M) : us n ≤ 1200000000000 := by
  simp only [us, lst, r2, M] at *; omega
end Go.Proofs.Ytofmmflohhadkaa.Plain
