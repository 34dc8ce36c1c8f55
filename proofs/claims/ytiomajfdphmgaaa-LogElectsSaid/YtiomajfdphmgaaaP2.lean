/- Commit, meeting, rising, and the head of layer 13's laws, as plain laws. -/
import Derived.Test.YtiomajfdphmgaaaP1
set_option linter.unusedSimpArgs false
set_option linter.unusedVariables false
namespace Go.Proofs.Ytiomajfdphmgaaa
open Go.Ab Go.RowKit
/-! commit -/
def cnt (mt : List Int) (p : Int) : Nat := mt.countP fun m => decide (p ≤ m)
theorem reach_L {mt : List Int} {p : Int} (hl : mt.length ≤ 1000) : ∀ m k n, mt.length < m + k → k ≤ mt.length → n ≤ k → log_Commit_1_L1 mt p m (n : Nat) (k : Nat) = some ((n + cnt (mt.drop k) p : Nat) : Int) := by
  intro m
  induction m with
  | zero => intro k n h1 h2; omega
  | succ m ih =>
    intro k n h1 h2 h3
    rw [log_Commit_1_L1, cond_d]
    by_cases hk : k < mt.length
    · rw [if_pos (by omega), idx_nat hk, Option.bind_some, cond_d, log_Commit_1_J2, log_Commit_1_J2, w64_succ (by omega), w64_succ (by omega), drop_cons hk]
      unfold cnt
      rw [List.countP_cons]
      by_cases hp : p ≤ mt[k]
      · rw [if_pos hp, if_pos (by simpa using hp), ih (k + 1) (n + 1) (by omega) (by omega) (by omega)]
        unfold cnt; congr 2; omega
      · rw [if_neg hp, if_neg (by simpa using hp), ih (k + 1) n (by omega) (by omega) (by omega)]
        unfold cnt; congr 2
    · rw [if_neg (by omega), log_Commit_1_J1, List.drop_of_length_le (by omega)]; simp [cnt]
theorem reach_eq {mt : List Int} {p : Int} (hl : mt.length ≤ 1000) : log_Commit_1_f p mt = some (cnt mt p : Int) := by
  unfold log_Commit_1_f
  have := reach_L (p := p) hl BIG 0 0 (by rw [BIG_eq]; omega) (by omega) (by omega)
  simpa using this
theorem rReach_L {mt : List Int} {p : Int} (hl : mt.length ≤ 1000) : ∀ m k n, mt.length < m + k → k ≤ mt.length → n ≤ k → ref13_Reach_L1 mt p m (n : Nat) (k : Nat) = some ((n + cnt (mt.drop k) p : Nat) : Int) := by
  intro m
  induction m with
  | zero => intro k n h1 h2; omega
  | succ m ih =>
    intro k n h1 h2 h3
    rw [ref13_Reach_L1, cond_d]
    by_cases hk : k < mt.length
    · rw [if_pos (by omega), idx_nat hk, Option.bind_some, cond_d, ref13_Reach_J2, ref13_Reach_J2, w64_succ (by omega), w64_succ (by omega), drop_cons hk]
      unfold cnt
      rw [List.countP_cons]
      by_cases hp : p ≤ mt[k]
      · rw [if_pos hp, if_pos (by simpa using hp), ih (k + 1) (n + 1) (by omega) (by omega) (by omega)]
        unfold cnt; congr 2; omega
      · rw [if_neg hp, if_neg (by simpa using hp), ih (k + 1) n (by omega) (by omega) (by omega)]
        unfold cnt; congr 2
    · rw [if_neg (by omega), ref13_Reach_J1, List.drop_of_length_le (by omega)]; simp [cnt]
theorem rReach_eq {mt : List Int} {p : Int} (hl : mt.length ≤ 1000) : ref13_Reach_f mt p = some (cnt mt p : Int) := by
  unfold ref13_Reach_f
  have := rReach_L (p := p) hl BIG 0 0 (by rw [BIG_eq]; omega) (by omega) (by omega)
  simpa using this
theorem cnt_le (mt : List Int) (p : Int) : cnt mt p ≤ mt.length := List.countP_le_length
def cmc (l : List Entry) (t : Int) (mt : List Int) (p : Nat) : Bool := decide (tm l p = t ∧ mt.length < 2 * cnt mt p)
def cm (l : List Entry) (t : Int) (mt : List Int) (was : Int) : Nat → Int
  | 0 => was
  | p + 1 => if was < ((p + 1 : Nat) : Int) ∧ cmc l t mt (p + 1) = true then ((p + 1 : Nat) : Int) else cm l t mt was p
theorem cm_was {l : List Entry} {t : Int} {mt : List Int} {was : Int} : ∀ p : Nat, (p : Int) ≤ was → cm l t mt was p = was
  | 0, _ => rfl
  | p + 1, h => by unfold cm; rw [if_neg (by omega), cm_was p (by omega)]
theorem commit_body {l : List Entry} {t : Int} {mt : List Int} {p : Nat} (h0 : p ≠ 0) (hp : p ≤ l.length) (hl : l.length ≤ 1000) (hm : mt.length ≤ 1000) {β : Type} {f : Bool → Option β} :
    ((idx l (IntKind.wrap .i64 ((p : Int) - 1))).bind fun x1 => cond (x1.term == t) ((log_Commit_1_f p mt).bind fun r1 => f (decide ((mt.length : Int) < (IntKind.wrap .i64 (2 * r1))))) (f false)) = f (cmc l t mt p) := by
  rw [idx_pred h0 hp hl, Option.bind_some, reach_eq hm, Option.bind_some]
  have := cnt_le mt (p : Int)
  rw [w64 (by omega) (by omega)]
  have e : (l.getD (p - 1) default).term = tm l p := by unfold tm; rw [if_neg h0]
  rw [e]
  unfold cmc
  by_cases h : tm l p = t
  · have : (tm l p == t) = true := by simpa using h
    rw [this, cond_true]; congr 1; rw [Bool.eq_iff_iff, decide_eq_true_eq, decide_eq_true_eq]; exact ⟨fun h2 => ⟨h, by omega⟩, fun h2 => by omega⟩
  · have : (tm l p == t) = false := by simpa using h
    rw [this, cond_false]; congr 1; symm; rw [decide_eq_false_iff_not]; exact fun h2 => h h2.1
theorem commit_L {l : List Entry} {t : Int} {mt : List Int} {was : Int} (hl : l.length ≤ 1000) (hm : mt.length ≤ 1000) : ∀ m p, p < m → p ≤ l.length → log_Commit_L1 was l t mt m (p : Nat) = some (cm l t mt was p) := by
  intro m
  induction m with
  | zero => intro p h; omega
  | succ m ih =>
    intro p h1 h2
    rw [log_Commit_L1, cond_d]
    by_cases hp : (if 0 > was then 0 else was) < (p : Int)
    · rw [if_pos hp]
      obtain ⟨q, rfl⟩ : ∃ q, p = q + 1 := ⟨p - 1, by split at hp <;> omega⟩
      have hw : was < ((q + 1 : Nat) : Int) := by split at hp <;> omega
      rw [commit_body (f := fun b => log_Commit_J2 (log_Commit_L1 was l t mt m) ((q + 1 : Nat) : Int) b) (by omega) h2 hl hm, log_Commit_J2]
      unfold cm
      cases hc : cmc l t mt (q + 1) with
      | true => rw [cond_true, if_pos ⟨hw, rfl⟩]
      | false =>
        rw [cond_false, if_neg (by simp)]
        have : IntKind.wrap .i64 (((q + 1 : Nat) : Int) - 1) = (q : Nat) := by rw [w64 (by omega) (by omega)]; omega
        rw [this, ih q (by omega) (by omega)]
    · rw [if_neg hp, log_Commit_J1]
      by_cases h0 : p = 0
      · subst h0; rfl
      · rw [cm_was p (by split at hp <;> omega)]
theorem commit_eq {l : List Entry} {t : Int} {mt : List Int} {was : Int} (hl : l.length ≤ 1000) (hm : mt.length ≤ 1000) : log_Commit_f l t mt was = some (cm l t mt was l.length) := by
  unfold log_Commit_f
  exact commit_L hl hm BIG l.length (by rw [BIG_eq]; omega) (Nat.le_refl _)
theorem rCommit_L {l : List Entry} {t : Int} {mt : List Int} {was : Int} (hl : l.length ≤ 1000) (hm : mt.length ≤ 1000) : ∀ m k, l.length < m + k → k ≤ l.length → ref13_Commit_L1 l was t mt (m + 1) (cm l t mt was k) ((k + 1 : Nat) : Int) = some (cm l t mt was l.length) := by
  intro m
  induction m with
  | zero => intro k h1 h2; omega
  | succ m ih =>
    intro k h1 h2
    rw [ref13_Commit_L1, cond_d]
    by_cases hk : k < l.length
    · rw [if_pos (by omega), cond_d]
      have hJ : ∀ b : Bool, (b = true → was < ((k + 1 : Nat) : Int) ∧ cmc l t mt (k + 1) = true) → (b = false → ¬ (was < ((k + 1 : Nat) : Int) ∧ cmc l t mt (k + 1) = true)) →
          ref13_Commit_J3 (ref13_Commit_L1 l was t mt (m + 1)) ((k + 1 : Nat) : Int) (cm l t mt was k) b = some (cm l t mt was l.length) := by
        intro b h1 h2
        have e := ih (k + 1) (by omega) (by omega)
        have e2 : IntKind.wrap .i64 (((k + 1 : Nat) : Int) + 1) = ((k + 1 + 1 : Nat) : Int) := by rw [w64 (by omega) (by omega)]; omega
        unfold ref13_Commit_J3 ref13_Commit_J2
        rw [e2]
        cases b with
        | true =>
          rw [cond_true, ← e]; congr 1
          rw [cm, if_pos (h1 rfl)]
        | false =>
          rw [cond_false, ← e]; congr 1
          rw [cm, if_neg (h2 rfl)]
      have hb := commit_body (l := l) (t := t) (mt := mt) (p := k + 1) (by omega) (by omega) hl hm (f := fun b => ref13_Commit_J3 (ref13_Commit_L1 l was t mt (m + 1)) ((k + 1 : Nat) : Int) (cm l t mt was k) b)
      rw [reach_eq hm] at hb
      rw [rReach_eq hm]
      by_cases hw : was < ((k + 1 : Nat) : Int)
      · rw [if_pos hw, hb]
        exact hJ _ (fun h => ⟨hw, h⟩) (fun h h2 => by rw [h2.2] at h; cases h)
      · rw [if_neg hw]
        exact hJ false (fun h => by cases h) (fun _ h2 => hw h2.1)
    · have : k = l.length := by omega
      rw [if_neg (by omega), ref13_Commit_J1, this]
theorem rCommit_eq {l : List Entry} {t : Int} {mt : List Int} {was : Int} (hl : l.length ≤ 1000) (hm : mt.length ≤ 1000) : ref13_Commit_f l t mt was = some (cm l t mt was l.length) := by
  unfold ref13_Commit_f
  have h := BIG_eq
  obtain ⟨b, hb⟩ : ∃ b, BIG = b + 1 := ⟨BIG - 1, by rw [BIG_eq]⟩
  rw [hb]
  exact rCommit_L hl hm b 0 (by rw [BIG_eq] at hb; omega) (by omega)
/-! meeting -/
def tmi (l : List Entry) (i : Nat) : Int := (l.getD i default).term
theorem tmi_eq {l : List Entry} {i : Nat} (h : i < l.length) : tmi l i = l[i].term := by unfold tmi; simp [List.getD_eq_getElem?_getD, h]
def meetsFrom (a b : List Entry) (k : Nat) : Prop := ∀ j, k ≤ j → j < a.length → j < b.length → tmi a j = tmi b j → a.take (j + 1) = b.take (j + 1)
def meets (a b : List Entry) : Prop := meetsFrom a b 0
theorem take_iff {a b : List Entry} {k : Nat} (ha : k < a.length) (hb : k < b.length) : a.take (k + 1) = b.take (k + 1) ↔ a.take k = b.take k ∧ a[k] = b[k] := by
  rw [take_snoc ha, take_snoc hb]
  constructor
  · intro h
    have := List.append_inj h (by simp; omega)
    exact ⟨this.1, by simpa using this.2⟩
  · rintro ⟨h1, h2⟩; rw [h1, h2]
theorem meet_L {a b : List Entry} (ha : Good a) (hb : Good b) : ∀ m k, a.length < m + k → k ≤ a.length → k ≤ b.length → ∃ r, ref13_Meet_L1 a b m (decide (a.take k = b.take k)) (k : Int) = some r ∧ (r = true ↔ meetsFrom a b k) := by
  intro m
  induction m with
  | zero => intro k h1 h2; omega
  | succ m ih =>
    intro k h1 h2 h3
    have := ha.1; have := hb.1
    rw [ref13_Meet_L1, ref13_Meet_J2]
    by_cases hk : k < a.length ∧ k < b.length
    · obtain ⟨hka, hkb⟩ := hk
      have e : ((decide ((k : Int) < a.length)) && (decide ((k : Int) < b.length))) = true := by simp; omega
      rw [e, cond_true, idx_nat hka, Option.bind_some, idx_nat hkb, Option.bind_some, rAlike_eq (by have := (ha.at hka).2; omega), Option.bind_some]
      have eJ : ∀ x : Bool, x = decide (a.take (k + 1) = b.take (k + 1)) → ref13_Meet_J3 (ref13_Meet_L1 a b m) a (k : Int) b x = cond ((a[k].term == b[k].term) && !x) (some false) (ref13_Meet_L1 a b m (decide (a.take (k + 1) = b.take (k + 1))) ((k + 1 : Nat) : Int)) := by
        rintro x hx
        unfold ref13_Meet_J3 ref13_Meet_J4
        rw [idx_nat hka, Option.bind_some, idx_nat hkb, Option.bind_some, w64_succ (by omega), hx]
      have e3 : cond (decide (a.take k = b.take k)) (ref13_Meet_J3 (ref13_Meet_L1 a b m) a (k : Int) b (decide (a[k] = b[k]))) (ref13_Meet_J3 (ref13_Meet_L1 a b m) a (k : Int) b false) = cond ((a[k].term == b[k].term) && !(decide (a.take (k + 1) = b.take (k + 1)))) (some false) (ref13_Meet_L1 a b m (decide (a.take (k + 1) = b.take (k + 1))) ((k + 1 : Nat) : Int)) := by
        rw [cond_d]
        have hi := take_iff hka hkb
        by_cases h : a.take k = b.take k
        · rw [if_pos h, eJ _ (by rw [Bool.eq_iff_iff, decide_eq_true_eq, decide_eq_true_eq, hi]; exact ⟨fun x => ⟨h, x⟩, fun x => x.2⟩)]
          congr 2; congr 1
          rw [Bool.eq_iff_iff, decide_eq_true_eq, decide_eq_true_eq, hi]; exact ⟨fun x => ⟨h, x⟩, fun x => x.2⟩
        · rw [if_neg h, eJ false (by symm; rw [decide_eq_false_iff_not, hi]; exact fun x => h x.1)]
          congr 2; congr 1; symm; rw [decide_eq_false_iff_not, hi]; exact fun x => h x.1
      rw [e3]
      obtain ⟨r, er, hr⟩ := ih (k + 1) (by omega) (by omega) (by omega)
      rw [er]
      by_cases h : a[k].term = b[k].term ∧ a.take (k + 1) ≠ b.take (k + 1)
      · have : ((a[k].term == b[k].term) && !(decide (a.take (k + 1) = b.take (k + 1)))) = true := by rw [Bool.and_eq_true, beq_iff_eq, Bool.not_eq_true', decide_eq_false_iff_not]; exact h
        rw [this]
        refine ⟨false, rfl, fun h => (by cases h), fun hm => absurd (hm k (Nat.le_refl _) hka hkb (by rw [tmi_eq hka, tmi_eq hkb]; exact h.1)) h.2⟩
      · have : ((a[k].term == b[k].term) && !(decide (a.take (k + 1) = b.take (k + 1)))) = false := by
          rw [Bool.eq_false_iff]; intro hh; rw [Bool.and_eq_true, beq_iff_eq, Bool.not_eq_true', decide_eq_false_iff_not] at hh; exact h hh
        rw [this]
        refine ⟨r, rfl, fun h2 j hj => ?_, fun hm => hr.2 fun j hj => hm j (by omega)⟩
        intro ja jb je
        by_cases hjk : j = k
        · subst hjk
          rw [tmi_eq ja, tmi_eq jb] at je
          exact Classical.byContradiction fun hc => h ⟨je, hc⟩
        · exact hr.1 h2 j (by omega) ja jb je
    · have e : ((decide ((k : Int) < a.length)) && (decide ((k : Int) < b.length))) = false := by
        rw [Bool.eq_false_iff]; intro hh; rw [Bool.and_eq_true, decide_eq_true_eq, decide_eq_true_eq] at hh; exact hk ⟨by omega, by omega⟩
      rw [e, cond_false]
      exact ⟨true, rfl, fun _ j hj ja jb => absurd ⟨by omega, by omega⟩ hk, fun _ => rfl⟩
theorem meet_eq {a b : List Entry} (ha : Good a) (hb : Good b) : ∃ r, ref13_Meet_f a b = some r ∧ (r = true ↔ meets a b) := by
  unfold ref13_Meet_f
  obtain ⟨r, e, h⟩ := meet_L ha hb BIG 0 (by have := ha.1; rw [BIG_eq]; omega) (by omega) (by omega)
  refine ⟨r, ?_, h⟩
  have e2 : decide (a.take 0 = b.take 0) = true := by simp
  rw [e2] at e; exact e
/-! rising -/
def rises (l : List Entry) : Prop := ∀ i (h : i < l.length), 1 ≤ l[i].term ∧ ∀ h0 : 0 < i, l[i - 1].term ≤ l[i].term
theorem rises_L {l : List Entry} (hl : l.length ≤ 1000) : ∀ m k, l.length < m + k → k ≤ l.length → ∃ r, law13_rises_L1 l m (k : Int) = some r ∧ (r = true → ∀ i (h : i < l.length), k ≤ i → 1 ≤ l[i].term ∧ ∀ h0 : 0 < i, l[i - 1].term ≤ l[i].term) := by
  intro m
  induction m with
  | zero => intro k h1 h2; omega
  | succ m ih =>
    intro k h1 h2
    rw [law13_rises_L1, cond_d]
    by_cases hk : k < l.length
    · obtain ⟨r, er, hr⟩ := ih (k + 1) (by omega) (by omega)
      rw [if_pos (by omega), idx_nat hk, Option.bind_some, cond_d, cond_d]
      simp only [law13_rises_J2]
      rw [w64_succ (by omega), er, cond_true, cond_false]
      by_cases h3 : l[k].term < 1
      · rw [if_pos h3]; exact ⟨false, rfl, fun h => by cases h⟩
      · rw [if_neg h3]
        by_cases h4 : k = 0
        · rw [if_neg (by omega)]
          refine ⟨r, rfl, fun h i hi hki => ?_⟩
          by_cases hik : i = k
          · subst hik; exact ⟨by omega, fun h0 => by omega⟩
          · exact hr h i hi (by omega)
        · have e : IntKind.wrap .i64 ((k : Int) - 1) = ((k - 1 : Nat) : Int) := by rw [w64 (by omega) (by omega)]; omega
          rw [if_pos (by omega), e, idx_nat (by omega), Option.bind_some, cond_d]
          by_cases h5 : l[k].term < l[k - 1].term
          · rw [if_pos h5]; exact ⟨false, rfl, fun h => by cases h⟩
          · rw [if_neg h5]
            refine ⟨r, rfl, fun h i hi hki => ?_⟩
            by_cases hik : i = k
            · subst hik; exact ⟨by omega, fun h0 => by omega⟩
            · exact hr h i hi (by omega)
    · rw [if_neg (by omega)]
      exact ⟨true, rfl, fun _ i hi hki => by omega⟩
theorem rises_eq {l : List Entry} (hl : l.length ≤ 1000) : ∃ r, law13_rises_f l = some r ∧ (r = true → rises l) := by
  unfold law13_rises_f
  obtain ⟨r, e, h⟩ := rises_L hl BIG 0 (by rw [BIG_eq]; omega) (by omega)
  exact ⟨r, e, fun hr i hi => h hr i hi (by omega)⟩
/-! sizes -/
theorem fit_L {l : List Entry} (hl : l.length ≤ 1000) : ∀ m k, l.length < m + k → k ≤ l.length → ∃ r, law13_Fits_L1 l m (k : Int) = some r ∧ (r = true → ∀ e ∈ l.drop k, e.data.length ≤ 40) := by
  intro m
  induction m with
  | zero => intro k h1 h2; omega
  | succ m ih =>
    intro k h1 h2
    rw [law13_Fits_L1, cond_d]
    by_cases hk : k < l.length
    · obtain ⟨r, er, hr⟩ := ih (k + 1) (by omega) (by omega)
      rw [if_pos (by omega), idx_nat hk, Option.bind_some, cond_d, w64_succ (by omega), er, drop_cons hk]
      by_cases h3 : (40 : Int) < l[k].data.length
      · rw [if_pos h3]; exact ⟨false, rfl, fun h => by cases h⟩
      · rw [if_neg h3]
        refine ⟨r, rfl, fun h e he => ?_⟩
        rcases List.mem_cons.1 he with h4 | h4
        · rw [h4]; omega
        · exact hr h e h4
    · rw [if_neg (by omega), List.drop_of_length_le (by omega)]
      exact ⟨true, rfl, fun _ e he => by cases he⟩
theorem fit_eq {l : List Entry} (hl : ∀ e ∈ l, Entry.ok e) : ∃ r, law13_Fits_f l = some r ∧ (r = true → Good l ∧ l.length ≤ 60) := by
  unfold law13_Fits_f
  rw [cond_d]
  by_cases h : (60 : Int) < l.length
  · rw [if_pos h]; exact ⟨false, rfl, fun h => by cases h⟩
  · rw [if_neg h]
    obtain ⟨r, e, h2⟩ := fit_L (l := l) (by omega) BIG 0 (by rw [BIG_eq]; omega) (by omega)
    exact ⟨r, e, fun hr => ⟨⟨by omega, fun x hx => ⟨hl x hx, h2 hr x (by simpa using hx)⟩⟩, by omega⟩⟩
/-! the head -/
def E (ts : List Int) : List Entry := ts.map fun t => ⟨t, [7]⟩
theorem E_L {ts : List Int} (hl : ts.length ≤ 1000) : ∀ m k, ts.length < m + k → k ≤ ts.length → law13_Entries_L1 ts m (E (ts.take k)) (k : Int) = some (E ts) := by
  intro m
  induction m with
  | zero => intro k h1 h2; omega
  | succ m ih =>
    intro k h1 h2
    rw [law13_Entries_L1, cond_d]
    by_cases hk : k < ts.length
    · rw [if_pos (by omega), idx_nat hk, Option.bind_some, chk_pos (by simp [E]; omega), w64_succ (by omega)]
      have := ih (k + 1) (by omega) (by omega)
      rw [take_snoc hk] at this
      unfold E at this ⊢
      rw [List.map_append] at this
      exact this
    · rw [if_neg (by omega), law13_Entries_J1, List.take_of_length_le (by omega)]
theorem E_eq {ts : List Int} (hl : ts.length ≤ 1000) : law13_Entries_f ts = some (E ts) := by
  unfold law13_Entries_f
  have := E_L hl BIG 0 (by rw [BIG_eq]; omega) (by omega)
  simpa [E] using this
theorem E_good {ts : List Int} (hl : ts.length ≤ 1000) (h : ∀ t ∈ ts, okI .i64 t) : Good (E ts) := by
  refine ⟨by simpa [E] using hl, fun e he => ?_⟩
  obtain ⟨t, ht, rfl⟩ := List.mem_map.1 he
  refine ⟨⟨h t ht, fun y hy => ?_⟩, by show ([7] : List Int).length ≤ 40; decide⟩
  have : y = 7 := by simpa using hy
  subst this; simp [okI]
theorem head_eq : law13_head_f = some true := by
  have g1 : Good (E [1, 1, 2]) := E_good (by decide) (by simp [okI])
  have g2 : Good (E [1, 3]) := E_good (by decide) (by simp [okI])
  have g3 : Good (E [1]) := E_good (by decide) (by simp [okI])
  have g4 : Good (E [1, 1, 3]) := E_good (by decide) (by simp [okI])
  have g5 : Good (E [1, 1, 2, 2]) := E_good (by decide) (by simp [okI])
  have p1 : putR (E [1, 1, 2]) 1 1 (E [1, 3]) = (E [1, 1, 3], true) := by decide
  have p2 : putR (E [1, 1, 2]) 1 1 (E [1]) = (E [1, 1, 2], true) := by decide
  have p3 : putR (E [1, 1, 2]) 3 1 [] = ([], false) := by decide
  have p4 : putR [] 0 0 (E [1, 1, 2]) = (E [1, 1, 2], true) := by decide
  unfold law13_head_f
  rw [E_eq (by decide), Option.bind_some, E_eq (by decide), Option.bind_some, put_eq g1 g2, p1, Option.bind_some, E_eq (by decide), Option.bind_some, put_eq g1 g3, p2, Option.bind_some, put_eq g1 Good.nil, p3, Option.bind_some, put_eq Good.nil g1, p4, Option.bind_some]
  dsimp only
  rw [fits_eq g1.1, Option.bind_some, fits_eq g1.1, Option.bind_some, fits_eq g1.1, Option.bind_some, fits_eq g1.1, Option.bind_some, E_eq (by decide), Option.bind_some, rSame_eq g4, Option.bind_some, rSame_eq g1, Option.bind_some, Option.bind_some, newer_eq g1.1, Option.bind_some, newer_eq g1.1, Option.bind_some, newer_eq g1.1, Option.bind_some,
    E_eq (by decide), Option.bind_some, commit_eq g5.1 (by decide), Option.bind_some, commit_eq g1.1 (by decide), Option.bind_some, commit_eq g1.1 (by decide), Option.bind_some, same_eq g1 g1, Option.bind_some, same_eq g1 g4, Option.bind_some]
  decide
end Go.Proofs.Ytiomajfdphmgaaa
