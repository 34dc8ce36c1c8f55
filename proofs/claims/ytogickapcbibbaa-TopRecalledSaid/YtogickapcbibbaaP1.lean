/- Clocks, as plain laws. -/
import Derived.Test.YtogickapcbibbaaF5
import Derived.Test.YtogickapcbibbaaB8
set_option linter.unusedSimpArgs false
set_option linter.unusedVariables false
namespace Go.Proofs.Ytogickapcbibbaa
open Go.Ab Go.RowKit
def lst (r : Int) : Int := r * 999 / 1000
def mst (r : Int) : Int := (r * 1001 + 999) / 1000
theorem least_eq {r : Int} (h0 : 0 ≤ r) (h1 : r ≤ 2199023255552) : clock_span_least_f r = some (lst r) := by
  unfold clock_span_least_f lst
  rw [w64 (x := r * 999) (by omega) (by omega), Int.tdiv_eq_ediv_of_nonneg (by omega), w64 (by omega) (by omega)]
theorem most_eq {r : Int} (h0 : 0 ≤ r) (h1 : r ≤ 2199023255552) : clock_span_most_f r = some (mst r) := by
  unfold clock_span_most_f mst
  rw [w64 (x := r * 1001) (by omega) (by omega), w64 (x := r * 1001 + 1000) (by omega) (by omega), w64 (x := r * 1001 + 1000 - 1) (by omega) (by omega), Int.tdiv_eq_ediv_of_nonneg (by omega), w64 (by omega) (by omega)]
  congr 1; omega
theorem within_eq {n a b : Int} (h0 : a ≤ n) (h1 : n ≤ b) : clock_within_f n a b = some n := by
  unfold clock_within_f
  congr 1
  split <;> split <;> omega
theorem Least_eq {r : Int} (h0 : 0 ≤ r) (h1 : r ≤ 2199023255552) : clock_Least_f r = some (lst r) := by
  unfold clock_Least_f
  rw [within_eq h0 h1, Option.bind_some, least_eq h0 h1, Option.bind_some]
theorem Most_eq {r : Int} (h0 : 0 ≤ r) (h1 : r ≤ 2199023255552) : clock_Most_f r = some (mst r) := by
  unfold clock_Most_f
  rw [within_eq h0 h1, Option.bind_some, most_eq h0 h1, Option.bind_some]
/-- the least number from which on something is so -/
theorem first_L {so : Int → Option Bool} {t : Int} (hso : ∀ x, 0 ≤ x → x ≤ 2199023255552 → so x = some (decide (t ≤ x))) : ∀ (m : Nat) (a b : Int), b - a < m → 0 ≤ a → a ≤ t → t ≤ b → b ≤ 2199023255552 → clock_first_L1 so m a b = some t := by
  intro m
  induction m with
  | zero => intro a b h1 h2 h3 h4; omega
  | succ m ih =>
    intro a b h1 h2 h3 h4 h5
    rw [clock_first_L1, cond_d]
    by_cases hab : a < b
    · rw [if_pos hab, w64 (x := b - a) (by omega) (by omega), Int.tdiv_eq_ediv_of_nonneg (by omega), w64 (x := (b - a) / 2) (by omega) (by omega), w64 (x := a + (b - a) / 2) (by omega) (by omega),
        hso _ (by omega) (by omega), Option.bind_some, cond_d]
      split
      · exact ih a _ (by omega) h2 h3 (by omega) (by omega)
      · rw [w64 (by omega) (by omega)]
        exact ih _ b (by omega) (by omega) (by omega) h4 h5
    · rw [if_neg hab, clock_first_J1]; congr 1; omega
theorem Wait_eq {n : Int} (h0 : 1 ≤ n) (h1 : n ≤ 64) : clock_Wait_f n = some (n + 2) := by
  unfold clock_Wait_f clock_first_f
  rw [within_eq (by omega) (by omega), Option.bind_some]
  have : clock_first_L1 (fun y0_ => clock_Wait_1_f y0_ n) BIG 0 2199023255552 = some (n + 1) := by
    refine first_L (fun x hx hx2 => ?_) BIG 0 _ (by rw [BIG_eq]; omega) (by omega) (by omega) (by omega) (by omega)
    unfold clock_Wait_1_f
    rw [least_eq hx hx2, Option.bind_some]
    congr 1
    unfold lst
    by_cases h : n + 1 ≤ x
    · rw [decide_eq_true h, decide_eq_true]; omega
    · rw [decide_eq_false h, decide_eq_false]; omega
  rw [this, Option.bind_some, w64 (by omega) (by omega)]
  have e : (n + 1 == 0) = false := by rw [beq_eq_false_iff_ne]; omega
  rw [e, cond_false, most_eq (by omega) (by omega), Option.bind_some]
  congr 1
  unfold mst
  rw [w64 (by omega) (by omega)]; omega
/-- THE LAW OF WAITING: what went by n + 2 or more here, and by real time t, went by n or more there -/
theorem waited {t n a b : Int} (hn : 1 ≤ n) (hn2 : n ≤ 64) (ha : n + 2 ≤ a) (ha2 : a ≤ mst t) : n + 1 ≤ t := by
  unfold mst at ha2; omega
theorem passed {t n : Int} (hn : 1 ≤ n) (hn2 : n ≤ 64) (h : n + 1 ≤ t) : n ≤ lst t := by
  unfold lst; omega

/-! ## readings -/
/-- times rise, from 0 on -/
def Reals (l : List Int) : Prop := l.length ≤ 15 ∧ (∀ x ∈ l, 0 ≤ x ∧ x ≤ 1500) ∧ ∀ (i j : Nat) (hi : i < l.length) (hj : j < l.length), i ≤ j → l[i] ≤ l[j]
theorem between_eq {a b p : Int} (ha : 0 ≤ a) (ha2 : a ≤ 1000000) (hb : -1000000 ≤ b) (hb2 : b ≤ 4398046511104) (hp : 0 ≤ p) (hp2 : p < 65536) : ∃ r, law03_Between_f a b p = some r ∧ a ≤ r ∧ (r ≤ a ∨ r ≤ b) := by
  unfold law03_Between_f
  rw [cond_d]
  by_cases h : b ≤ a
  · rw [if_pos h]; exact ⟨a, rfl, by omega, by omega⟩
  · rw [if_neg h]
    have wu : ∀ x : Int, IntKind.wrap .u64 x = x % 18446744073709551616 := fun x => rfl
    rw [w64 (x := b - a) (by omega) (by omega), w64 (x := b - a + 1) (by omega) (by omega), wu, Int.emod_eq_of_lt (by omega) (by omega), chk_pos (by omega),
      Int.tmod_eq_emod_of_nonneg hp]
    have h1 := Int.emod_nonneg p (b := b - a + 1) (by omega)
    have h2 := Int.emod_lt_of_pos p (b := b - a + 1) (by omega)
    rw [w64 (x := p % (b - a + 1)) (by omega) (by omega), w64 (by omega) (by omega)]
    exact ⟨_, rfl, by omega, by omega⟩
/-- readings as Shows makes them -/
def Out (l : List Int) : Prop := ∀ (i : Nat) (hi : i < l.length), 0 ≤ l[i] ∧ l[i] ≤ 2000 * (i : Int)
theorem Out.snoc {l : List Int} (h : Out l) {x : Int} (h0 : 0 ≤ x) (h1 : x ≤ 2000 * (l.length : Int)) : Out (l ++ [x]) := fun i hi => by
  simp at hi
  by_cases e : i < l.length
  · rw [List.getElem_append_left e]; exact h i e
  · have : i = l.length := by omega
    subst this
    simp; omega
theorem shows_L2 {R P : List Int} (hR : Reals R) (hP : ∀ x ∈ P, okI .u16 x) {kk : List Int → Int → Option (List Int)} {out : List Int} (ho : Out out) {i : Nat} (hi : i < R.length) (hl : out.length = i) (h0 : 0 < i)
    (hk : ∀ r, 0 ≤ r → r ≤ 2000 * (i : Int) → ∃ res, kk (out ++ [r]) ((i + 1 : Nat) : Int) = some res ∧ res.length = R.length ∧ Out res) :
    ∀ m k (a b : Int), i < m + k → k ≤ i → 0 ≤ a → a ≤ 2000 * (i : Int) - 400 → -1000000 ≤ b → b ≤ 4398046511104 → (0 < k → b ≤ 2000 * (i : Int) - 400) → ∃ res, law03_Shows_L2 kk (i : Int) out R P m a b (k : Int) = some res ∧ res.length = R.length ∧ Out res := by
  have hb15 := hR.1
  intro m
  induction m with
  | zero => intro k a b h1 h2; omega
  | succ m ih =>
    intro k a b h1 h2 ha ha2 hb hb2 hb3
    rw [law03_Shows_L2, cond_d]
    by_cases hki : k < i
    · have hx := hR.2.1 _ (List.getElem_mem hi)
      have hy := hR.2.1 _ (List.getElem_mem (show k < R.length by omega))
      have hxy := hR.2.2 k i (by omega) hi (by omega)
      have hok := ho k (by omega)
      rw [if_pos (by omega), idx_nat (show k < out.length by omega), Option.bind_some, idx_nat hi, Option.bind_some, idx_nat (show k < R.length by omega), Option.bind_some,
        w64 (x := R[i] - R[k]) (by omega) (by omega), Least_eq (by omega) (by omega), Option.bind_some, Most_eq (by omega) (by omega), Option.bind_some, w64_succ (by omega)]
      have hl1 : 0 ≤ lst (R[i] - R[k]) ∧ lst (R[i] - R[k]) ≤ 1500 := by unfold lst; omega
      have hm1 : 0 ≤ mst (R[i] - R[k]) ∧ mst (R[i] - R[k]) ≤ 1600 := by unfold mst; omega
      rw [w64 (x := out[k] + lst (R[i] - R[k])) (by omega) (by omega), w64 (x := out[k] + mst (R[i] - R[k])) (by omega) (by omega)]
      refine ih (k + 1) _ _ (by omega) (by omega) ?_ ?_ ?_ ?_ ?_
      · split <;> omega
      · split <;> omega
      · split <;> omega
      · split <;> omega
      · intro _; split <;> omega
    · rw [if_neg (by omega)]
      obtain rfl : k = i := by omega
      have hb4 := hb3 h0
      have hp : ∀ p, 0 ≤ p → p < 65536 → ∃ res, law03_Shows_J4 kk a b out (k : Int) p = some res ∧ res.length = R.length ∧ Out res := fun p hp hp2 => by
        unfold law03_Shows_J4 law03_Shows_J2
        obtain ⟨r, e, h3, h4⟩ := between_eq (p := p) ha (by omega) hb hb2 hp hp2
        rw [e, Option.bind_some, chk_pos (by omega), w64_succ (by omega)]
        exact hk r (by omega) (by omega)
      unfold law03_Shows_J3
      rw [cond_d]
      by_cases hkp : k < P.length
      · rw [if_pos (by omega), idx_nat hkp, Option.bind_some]
        have := hP _ (List.getElem_mem hkp)
        have hpp : 0 ≤ P[k] ∧ P[k] < 65536 := this
        have wu : IntKind.wrap .u64 P[k] = P[k] := by show P[k] % 18446744073709551616 = P[k]; omega
        rw [wu]
        exact hp _ hpp.1 hpp.2
      · rw [if_neg (by omega)]
        exact hp 0 (by omega) (by omega)
theorem shows_L1 {R P : List Int} (hR : Reals R) (hP : ∀ x ∈ P, okI .u16 x) : ∀ m (out : List Int), R.length < m + out.length → out.length ≤ R.length → Out out → ∃ res, law03_Shows_L1 R P m out (out.length : Int) = some res ∧ res.length = R.length ∧ Out res := by
  have hb15 := hR.1
  intro m
  induction m with
  | zero => intro out h1 h2; omega
  | succ m ih =>
    intro out h1 h2 ho
    rw [law03_Shows_L1, cond_d]
    by_cases hi : out.length < R.length
    · rw [if_pos (by omega)]
      have step : ∀ r, 0 ≤ r → r ≤ 2000 * (out.length : Int) → ∃ res, law03_Shows_L1 R P m (out ++ [r]) ((out.length + 1 : Nat) : Int) = some res ∧ res.length = R.length ∧ Out res := fun r h3 h4 => by
        have := ih (out ++ [r]) (by simp; omega) (by simp; omega) (ho.snoc h3 h4)
        simpa using this
      by_cases h0 : out.length = 0
      · have e : ((out.length : Int) == 0) = true := by rw [beq_iff_eq]; omega
        rw [e, cond_true, chk_pos (by omega)]
        unfold law03_Shows_J2
        rw [w64_succ (by omega)]
        exact step 0 (by omega) (by omega)
      · have e : ((out.length : Int) == 0) = false := by rw [beq_eq_false_iff_ne]; omega
        rw [e, cond_false]
        exact shows_L2 hR hP ho hi rfl (by omega) step BIG 0 0 _ (by rw [BIG_eq]; omega) (by omega) (by omega) (by omega) (by omega) (by omega) (by omega)
    · rw [if_neg (by omega)]
      exact ⟨out, rfl, by omega, ho⟩
theorem shows_eq {R P : List Int} (hR : Reals R) (hP : ∀ x ∈ P, okI .u16 x) : ∃ res, law03_Shows_f R P = some res ∧ res.length = R.length ∧ Out res := by
  have hb15 := hR.1
  unfold law03_Shows_f
  exact shows_L1 hR hP BIG [] (by rw [BIG_eq]; simp; omega) (by simp) (fun i hi => by simp at hi)
/-- what Right says -/
def Fit (R s : List Int) : Prop := ∀ (k i : Nat) (hk : k < R.length) (hi : i < R.length) (hk2 : k < s.length) (hi2 : i < s.length), k < i → lst (R[i] - R[k]) ≤ s[i] - s[k] ∧ s[i] - s[k] ≤ mst (R[i] - R[k])
theorem right_L2 {R s : List Int} (hR : Reals R) (hs : Out s) (hl : s.length = R.length) {kk : Int → Option Bool} {i : Nat} (hi : i < R.length) {b : Bool} (hk : kk ((i + 1 : Nat) : Int) = some b) :
    ∀ m k, i < m + k → k ≤ i → ∃ c, clock_Right_L2 kk (i : Int) R s R[i] m (k : Int) = some c ∧ (c = true → b = true ∧ ∀ j (hj : j < i), k ≤ j → lst (R[i] - R[j]) ≤ s[i] - s[j] ∧ s[i] - s[j] ≤ mst (R[i] - R[j])) := by
  have hb15 := hR.1
  intro m
  induction m with
  | zero => intro k h1 h2; omega
  | succ m ih =>
    intro k h1 h2
    rw [clock_Right_L2, cond_d]
    by_cases hki : k < i
    · have hx := hR.2.1 _ (List.getElem_mem hi)
      have hy := hR.2.1 _ (List.getElem_mem (show k < R.length by omega))
      have hxy := hR.2.2 k i (by omega) hi (by omega)
      have h3 := hs k (by omega)
      have h4 := hs i (by omega)
      rw [if_pos (by omega), idx_nat (show k < R.length by omega), Option.bind_some, idx_nat (show i < s.length by omega), Option.bind_some, idx_nat (show k < s.length by omega), Option.bind_some,
        w64 (x := R[i] - R[k]) (by omega) (by omega), cond_d, if_neg (by omega), Least_eq (by omega) (by omega), Option.bind_some, w64 (x := s[i] - s[k]) (by omega) (by omega), cond_d]
      by_cases h5 : s[i] - s[k] < lst (R[i] - R[k])
      · rw [if_pos h5]
        exact ⟨false, rfl, fun h => by cases h⟩
      · rw [if_neg h5, Most_eq (by omega) (by omega), Option.bind_some]
        unfold clock_Right_J4
        rw [cond_d]
        by_cases h6 : mst (R[i] - R[k]) < s[i] - s[k]
        · rw [if_pos h6]
          exact ⟨false, rfl, fun h => by cases h⟩
        · rw [if_neg h6, w64_succ (by omega)]
          obtain ⟨c, e, h⟩ := ih (k + 1) (by omega) (by omega)
          refine ⟨c, e, fun hc => ⟨(h hc).1, fun j hj hkj => ?_⟩⟩
          by_cases e : j = k
          · subst e; omega
          · exact (h hc).2 j hj (by omega)
    · rw [if_neg (by omega)]
      unfold clock_Right_J2
      rw [w64_succ (by omega), hk]
      exact ⟨b, rfl, fun h => ⟨h, fun j hj hkj => by omega⟩⟩
theorem right_L1 {R s : List Int} (hR : Reals R) (hs : Out s) (hl : s.length = R.length) : ∀ m i, R.length < m + i → i ≤ R.length → ∃ c, clock_Right_L1 R s m (i : Int) = some c ∧ (c = true → ∀ (k j : Nat) (hj : j < R.length) (hkj : k < j), i ≤ j → lst (R[j] - R[k]) ≤ s[j] - s[k] ∧ s[j] - s[k] ≤ mst (R[j] - R[k])) := by
  have hb15 := hR.1
  intro m
  induction m with
  | zero => intro i h1 h2; omega
  | succ m ih =>
    intro i h1 h2
    rw [clock_Right_L1, cond_d]
    by_cases hi : i < R.length
    · have hx := hR.2.1 _ (List.getElem_mem hi)
      have h4 := hs i (by omega)
      rw [if_pos (by omega), idx_nat hi, Option.bind_some, cond_d, if_neg (by omega), cond_d, if_neg (by omega), idx_nat (show i < s.length by omega), Option.bind_some]
      have e1 : decide (s[i] < 0) = false := by rw [decide_eq_false]; omega
      have e2 : decide (4398046511104 < s[i]) = false := by rw [decide_eq_false]; omega
      rw [e1, e2]
      unfold clock_Right_J3
      obtain ⟨b, e, h⟩ := ih (i + 1) (by omega) (by omega)
      obtain ⟨c, e3, h3⟩ := right_L2 hR hs hl hi e BIG 0 (by rw [BIG_eq]; omega) (by omega)
      refine ⟨c, e3, fun hc k j hj hkj hij => ?_⟩
      obtain ⟨h5, h6⟩ := h3 hc
      by_cases e : j = i
      · subst e; exact h6 k hkj (by omega)
      · exact h h5 k j hj hkj (by omega)
    · rw [if_neg (by omega)]
      exact ⟨true, rfl, fun _ k j hj hkj hij => by omega⟩
theorem right_eq {R s : List Int} (hR : Reals R) (hs : Out s) (hl : s.length = R.length) : ∃ c, clock_Right_f R s = some c ∧ (c = true → Fit R s) := by
  unfold clock_Right_f
  have e : ((R.length : Int) != (s.length : Int)) = false := by rw [hl]; simp
  have hb15 := hR.1
  rw [e, cond_false]
  obtain ⟨c, e2, h⟩ := right_L1 hR hs hl BIG 0 (by rw [BIG_eq]; omega) (by omega)
  exact ⟨c, e2, fun hc k i hk hi _ _ hki => h hc k i hi hki (by omega)⟩
end Go.Proofs.Ytogickapcbibbaa
