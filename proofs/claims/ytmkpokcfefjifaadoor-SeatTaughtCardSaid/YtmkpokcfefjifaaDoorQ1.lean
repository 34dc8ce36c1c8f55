import Derived.Test.YtmkpokcfefjifaaDoorF2
import Derived.Test.YtmkpokcfefjifaaDoorW
import Derived.Test.YtmkpokcfefjifaaDoorB7
import Derived.Test.YtmkpokcfefjifaaDoorB8
set_option linter.unusedSectionVars false
/- Logs, votes and sorting, as plain laws (lines of the proofs of layers 13 and 14, turned to this seat). -/
set_option linter.unusedSimpArgs false
set_option linter.unusedVariables false
namespace Go.Proofs.YtmkpokcfefjifaaDoor
open Go.Ab Go.RowKit
theorem byte_inj {m n : Int} (hm : okI .u8 m) (hn : okI .u8 n) (h : UInt8.ofNat m.toNat = UInt8.ofNat n.toNat) : m = n := by
  simp only [okI] at hm hn
  have h2 : (UInt8.ofNat m.toNat).toNat = (UInt8.ofNat n.toNat).toNat := by rw [h]
  rw [UInt8.toNat_ofNat', UInt8.toNat_ofNat'] at h2
  omega
theorem bytes_inj : ∀ {a b : List Int}, (∀ x ∈ a, okI .u8 x) → (∀ x ∈ b, okI .u8 x) → a.map (fun n => UInt8.ofNat n.toNat) = b.map (fun n => UInt8.ofNat n.toNat) → a = b
  | [], [], _, _, _ => rfl
  | [], y :: b, _, _, h => by cases h
  | x :: a, [], _, _, h => by cases h
  | x :: a, y :: b, ha, hb, h => by
    simp only [List.map_cons, List.cons.injEq] at h
    rw [byte_inj (ha x (by simp)) (hb y (by simp)) h.1, bytes_inj (fun z hz => ha z (by simp [hz])) (fun z hz => hb z (by simp [hz])) h.2]
theorem str_inj {a b : List Int} (ha : ∀ x ∈ a, okI .u8 x) (hb : ∀ x ∈ b, okI .u8 x) : ((strOfNums a).toList == (strOfNums b).toList) = decide (a = b) := by
  rw [Bool.eq_iff_iff, beq_iff_eq, decide_eq_true_eq]
  constructor
  · intro h
    have h2 : (strOfNums a).data.toList = (strOfNums b).data.toList := by
      have : ∀ s : ByteArray, s.toList = s.data.toList := fun s => ByteArray.toList_eq s
      rw [← this, ← this, h]
    rw [strOfNums_data, strOfNums_data] at h2
    exact bytes_inj ha hb h2
  · rintro rfl; rfl
theorem bcons {β : Type} [DecidableEq β] {x y : β} {xs ys : List β} : (cond (!decide (x = y)) (some false) (some (decide (xs = ys)))) = some (decide (x :: xs = y :: ys)) := by
  by_cases h : x = y
  · simp [h]
  · simp [h]
theorem alike_eq {a b : Entry} (ha : Entry.ok a) (hb : Entry.ok b) : log_alike_f a b = some (decide (a = b)) := by
  unfold log_alike_f bytes_Equal_f
  rw [str_inj ha.2 hb.2]
  simp only [Option.bind_some]
  obtain ⟨t, d⟩ := a; obtain ⟨t', d'⟩ := b
  by_cases h : t = t'
  · subst h; simp
  · have : (t == t') = false := by simpa using h
    rw [this]; simp [h]
theorem rAlike_L {a b : Entry} (hab : a.data.length = b.data.length) (hl : a.data.length ≤ 1000000) : ∀ m k, a.data.length < m + k → k ≤ a.data.length → ref13_Alike_L1 a b m (k : Int) = some (decide (a.data.drop k = b.data.drop k)) := by
  intro m
  induction m with
  | zero => intro k h1 h2; omega
  | succ m ih =>
    intro k h1 h2
    rw [ref13_Alike_L1, cond_d]
    by_cases hk : k < a.data.length
    · have hk' : k < b.data.length := by omega
      rw [if_pos (by omega), idx_nat hk, Option.bind_some, idx_nat hk', Option.bind_some, w64_succ (by omega), ih (k + 1) (by omega) (by omega), drop_cons hk, drop_cons hk']
      by_cases hx : a.data[k] = b.data[k]
      · have : (a.data[k] != b.data[k]) = false := by simpa using hx
        rw [this, cond_false]; congr 1; rw [Bool.eq_iff_iff, decide_eq_true_eq, decide_eq_true_eq, List.cons.injEq]; exact ⟨fun h => ⟨hx, h⟩, fun h => h.2⟩
      · have : (a.data[k] != b.data[k]) = true := by simpa using hx
        rw [this, cond_true]; congr 1; symm; rw [decide_eq_false_iff_not, List.cons.injEq]; exact fun h => hx h.1
    · rw [if_neg (by omega), List.drop_of_length_le (by omega), List.drop_of_length_le (by omega)]
      simp [ref13_Alike_J2]
theorem rAlike_eq {a b : Entry} (hl : a.data.length ≤ 1000000) : ref13_Alike_f a b = some (decide (a = b)) := by
  unfold ref13_Alike_f ref13_Alike_J1
  obtain ⟨t, d⟩ := a; obtain ⟨t', d'⟩ := b
  simp only at hl ⊢
  by_cases h : t = t' ∧ d.length = d'.length
  · obtain ⟨rfl, h2⟩ := h
    have e : ((t != t) || ((d.length : Int) != (d'.length : Int))) = false := by simp [h2]
    rw [e, cond_false]
    have := rAlike_L (a := ⟨t, d⟩) (b := ⟨t, d'⟩) h2 hl BIG 0 (by rw [BIG_eq]; simp; omega) (by simp)
    simpa using this
  · have e : ((t != t') || ((d.length : Int) != (d'.length : Int))) = true := by
      rw [Bool.or_eq_true, bne_iff_ne, bne_iff_ne]
      by_cases ht : t = t'
      · right; intro hd; exact h ⟨ht, by omega⟩
      · exact .inl ht
    rw [e, cond_true]; congr 1; symm; rw [decide_eq_false_iff_not]; rintro ⟨⟩; exact h ⟨rfl, rfl⟩
def Good (l : List Entry) : Prop := l.length ≤ 1000 ∧ ∀ e ∈ l, Entry.ok e ∧ e.data.length ≤ 200
theorem Good.at {l : List Entry} (h : Good l) {k : Nat} (hk : k < l.length) : Entry.ok l[k] ∧ l[k].data.length ≤ 200 := h.2 _ (List.getElem_mem hk)
theorem Good.take {l : List Entry} (h : Good l) (k : Nat) : Good (l.take k) := ⟨by have := h.1; simp; omega, fun e he => h.2 e (List.mem_of_mem_take he)⟩
theorem Good.drop {l : List Entry} (h : Good l) (k : Nat) : Good (l.drop k) := ⟨by have := h.1; simp; omega, fun e he => h.2 e (List.mem_of_mem_drop he)⟩
theorem Good.nil : Good [] := ⟨by simp, fun e he => by cases he⟩
theorem same_L {s1 s2 : List Entry} (h1 : Good s1) (h2 : Good s2) (hab : s1.length = s2.length) : ∀ m k, s1.length < m + k → k ≤ s1.length → slices_EqualFunc_L1 s1 s2 log_alike_f m (k : Int) = some (decide (s1.drop k = s2.drop k)) := by
  intro m
  induction m with
  | zero => intro k h1 h2; omega
  | succ m ih =>
    intro k h3 h4
    have := h1.1
    rw [slices_EqualFunc_L1, cond_d]
    by_cases hk : k < s1.length
    · have hk' : k < s2.length := by omega
      rw [if_pos (by omega), idx_nat hk, Option.bind_some, idx_nat hk', Option.bind_some, alike_eq (h1.at hk).1 (h2.at hk').1, Option.bind_some, w64_succ (by omega), ih (k + 1) (by omega) (by omega), drop_cons hk, drop_cons hk']
      exact bcons
    · rw [if_neg (by omega), List.drop_of_length_le (by omega), List.drop_of_length_le (by omega)]
      simp [slices_EqualFunc_J1]
theorem same_eq {a b : List Entry} (h1 : Good a) (h2 : Good b) : log_Same_f a b = some (decide (a = b)) := by
  unfold log_Same_f slices_EqualFunc_f
  by_cases h : a.length = b.length
  · have e : ((a.length : Int) != b.length) = false := by rw [bne_eq_false_iff_eq]; omega
    have := same_L h1 h2 h BIG 0 (by have := h1.1; rw [BIG_eq]; omega) (by omega)
    have e2 : slices_EqualFunc_L1 a b log_alike_f BIG 0 = some (decide (a.drop 0 = b.drop 0)) := this
    rw [e, cond_false, e2]; simp
  · have e : ((a.length : Int) != b.length) = true := by rw [bne_iff_ne]; omega
    rw [e, cond_true, Option.bind_some]; congr 1; symm; rw [decide_eq_false_iff_not]; rintro rfl; exact h rfl
theorem rSame_L {s1 s2 : List Entry} (h1 : Good s1) (hab : s1.length = s2.length) : ∀ m k, s1.length < m + k → k ≤ s1.length → ref13_Same_L1 s1 s2 m (k : Int) = some (decide (s1.drop k = s2.drop k)) := by
  intro m
  induction m with
  | zero => intro k h1 h2; omega
  | succ m ih =>
    intro k h3 h4
    have := h1.1
    rw [ref13_Same_L1, cond_d]
    by_cases hk : k < s1.length
    · have hk' : k < s2.length := by omega
      rw [if_pos (by omega), idx_nat hk, Option.bind_some, idx_nat hk', Option.bind_some, rAlike_eq (by have := (h1.at hk).2; omega), Option.bind_some, w64_succ (by omega), ih (k + 1) (by omega) (by omega), drop_cons hk, drop_cons hk']
      exact bcons
    · rw [if_neg (by omega), List.drop_of_length_le (by omega), List.drop_of_length_le (by omega)]
      simp [ref13_Same_J1]
theorem rSame_eq {a b : List Entry} (h1 : Good a) : ref13_Same_f a b = some (decide (a = b)) := by
  unfold ref13_Same_f
  by_cases h : a.length = b.length
  · have e : ((a.length : Int) != b.length) = false := by rw [bne_eq_false_iff_eq]; omega
    have := rSame_L h1 h BIG 0 (by have := h1.1; rw [BIG_eq]; omega) (by omega)
    rw [e, cond_false]; simpa using this
  · have e : ((a.length : Int) != b.length) = true := by rw [bne_iff_ne]; omega
    rw [e, cond_true]; congr 1; symm; rw [decide_eq_false_iff_not]; rintro rfl; exact h rfl
/-- the term at a place -/
def tm (l : List Entry) (p : Nat) : Int := if p = 0 then 0 else (l.getD (p - 1) default).term
theorem idx_pred {l : List Entry} {p : Nat} (h0 : p ≠ 0) (hp : p ≤ l.length) (hl : l.length ≤ 1000) : idx l (IntKind.wrap .i64 ((p : Int) - 1)) = some (l.getD (p - 1) default) := by
  rw [w64 (by omega) (by omega)]
  have : ((p : Int) - 1) = ((p - 1 : Nat) : Int) := by omega
  rw [this, idx_nat (by omega)]
  simp [List.getD_eq_getElem?_getD, show p - 1 < l.length by omega]
def fits (l : List Entry) (p : Int) (t : Int) : Bool := decide (0 ≤ p ∧ p ≤ l.length ∧ tm l p.toNat = t)
theorem fits_eq {l : List Entry} {p t : Int} (hl : l.length ≤ 1000) : log_Fits_f l p t = some (fits l p t) := by
  unfold log_Fits_f log_Fits_J1 fits
  by_cases h : 0 ≤ p ∧ p ≤ l.length
  · obtain ⟨q, rfl⟩ : ∃ q : Nat, p = q := ⟨p.toNat, by omega⟩
    have e : ((decide ((q : Int) < 0)) || (decide ((l.length : Int) < q))) = false := by simp; omega
    rw [e, cond_false]
    by_cases h0 : q = 0
    · subst h0
      show some ((t == 0)) = _
      congr 1
      rw [Bool.eq_iff_iff, beq_iff_eq, decide_eq_true_eq]
      exact ⟨fun e => ⟨by omega, by omega, e.symm⟩, fun e => e.2.2.symm⟩
    · have : ((q : Int) == 0) = false := by rw [beq_eq_false_iff_ne]; omega
      rw [this, cond_false, idx_pred h0 (by omega) hl, Option.bind_some]
      congr 1
      rw [Bool.eq_iff_iff, beq_iff_eq, decide_eq_true_eq]
      simp only [Int.toNat_natCast, tm, if_neg h0]
      exact ⟨fun e => ⟨by omega, by omega, e⟩, fun e => e.2.2⟩
  · have e : ((decide (p < 0)) || (decide ((l.length : Int) < p))) = true := by
      rw [Bool.or_eq_true, decide_eq_true_eq, decide_eq_true_eq]; omega
    rw [e, cond_true]; congr 1; symm; rw [decide_eq_false_iff_not]; rintro ⟨h1, h2, _⟩; exact h ⟨h1, h2⟩
def newer (l : List Entry) (t n : Int) : Bool := decide (tm l l.length < t ∨ t = tm l l.length ∧ (l.length : Int) ≤ n)
theorem newer_J {t a n L : Int} : (some ((decide (a < t)) || ((t == a) && (decide (L ≤ n))))) = some (decide (a < t ∨ t = a ∧ L ≤ n)) := by
  congr 1; rw [Bool.eq_iff_iff]; simp
theorem newer_eq {l : List Entry} {t n : Int} (hl : l.length ≤ 1000) : log_Newer_f l t n = some (newer l t n) := by
  unfold log_Newer_f newer
  rw [cond_d]
  by_cases h : l.length = 0
  · rw [if_neg (by omega)]; unfold log_Newer_J1; rw [newer_J]; simp [tm, h]
  · rw [if_pos (by omega), idx_pred h (Nat.le_refl _) hl, Option.bind_some]; unfold log_Newer_J1; rw [newer_J]; simp [tm, h]
def mrg : List Entry → List Entry → List Entry
  | xs, [] => xs
  | [], y :: ys => y :: ys
  | x :: xs, y :: ys => if x = y then x :: mrg xs ys else y :: ys
def put (l : List Entry) (p : Nat) (more : List Entry) : List Entry := l.take p ++ mrg (l.drop p) more
def putR (l : List Entry) (p : Int) (t : Int) (more : List Entry) : List Entry × Bool :=
  if fits l p t = true then (if 500 < (put l p.toNat more).length then ([], false) else (put l p.toNat more, true)) else ([], false)
theorem mrg_nil (xs : List Entry) : mrg xs [] = xs := by cases xs <;> rfl
theorem mrg_e (ys : List Entry) : mrg [] ys = ys := by cases ys <;> rfl
theorem mrg_cons (x y : Entry) (xs ys : List Entry) : mrg (x :: xs) (y :: ys) = if x = y then x :: mrg xs ys else y :: ys := rfl
theorem mrg_len : ∀ xs ys : List Entry, (mrg xs ys).length ≤ xs.length + ys.length
  | xs, [] => by rw [mrg_nil]; simp
  | [], y :: ys => by simp [mrg]
  | x :: xs, y :: ys => by
    unfold mrg; have := mrg_len xs ys; split <;> simp <;> omega
theorem put_step {l more : List Entry} {p k : Nat} (hp : p + k ≤ l.length) (hk : k < more.length) :
    l.take (p + k) ++ mrg (l.drop (p + k)) (more.drop k) = if h : p + k < l.length then (if l[p + k] = more[k] then l.take (p + k + 1) ++ mrg (l.drop (p + k + 1)) (more.drop (k + 1)) else l.take (p + k) ++ more.drop k) else l.take (p + k) ++ more.drop k := by
  by_cases h : p + k < l.length
  · rw [dif_pos h, drop_cons h, drop_cons hk]
    rw [mrg_cons]
    by_cases e : l[p + k] = more[k]
    · rw [if_pos e, if_pos e, take_snoc h, List.append_assoc, List.singleton_append]
    · rw [if_neg e, if_neg e]
  · rw [dif_neg h, List.drop_of_length_le (by omega : l.length ≤ p + k), mrg_e]
theorem put_J {out : List Entry} : log_Put_J1 out = some (if 500 < out.length then ([], false) else (out, true)) := by
  unfold log_Put_J1; rw [cond_d]
  by_cases h : 500 < out.length
  · rw [if_pos (by omega), if_pos h]
  · rw [if_neg (by omega), if_neg h]
theorem clone_eq {l : List Entry} (hl : l.length ≤ 1000) : slices_Clone_f l = some l := by
  unfold slices_Clone_f
  rw [chk_pos (by omega), List.nil_append]
  exact nilq_of (fun h => by rw [h]) rfl
theorem put_L {l more : List Entry} {p : Nat} (hl : Good l) (hm : Good more) (hp : p ≤ l.length) : ∀ m k, more.length < m + k → k ≤ more.length → p + k ≤ l.length → (k < more.length ∨ True) →
    log_Put_L1 more (p : Int) l m (k : Int) = log_Put_J1 (l.take (p + k) ++ mrg (l.drop (p + k)) (more.drop k)) := by
  intro m
  induction m with
  | zero => intro k h1 h2; omega
  | succ m ih =>
    intro k h1 h2 h3 _
    have hl1 := hl.1; have hm1 := hm.1
    rw [log_Put_L1, cond_d]
    by_cases hk : k < more.length
    · have ew : IntKind.wrap .i64 ((p : Int) + (k : Int)) = ((p + k : Nat) : Int) := by rw [w64 (by omega) (by omega)]; omega
      have hJ : ∀ b : Bool, (b = true → p + k < l.length) → log_Put_J2 (log_Put_L1 more (p : Int) l m) (k : Int) l more ((p + k : Nat) : Int) b =
          if b = true then log_Put_J1 (l.take (p + (k + 1)) ++ mrg (l.drop (p + (k + 1))) (more.drop (k + 1))) else log_Put_J1 (l.take (p + k) ++ more.drop k) := by
        intro b hb
        unfold log_Put_J2
        cases b with
        | true => rw [cond_true, w64_succ (by omega), ih (k + 1) (by omega) (by omega) (by have := hb rfl; omega) (.inr trivial)]; rfl
        | false =>
          rw [cond_false, chk_pos (by omega), chk_pos (by omega), chk_pos (by simp; omega)]
          rw [Int.toNat_natCast, Int.toNat_natCast]; simp
      rw [if_pos (by omega), idx_nat hk, Option.bind_some, ew, put_step h3 hk, cond_d]
      by_cases h : p + k < l.length
      · rw [if_pos (by omega), idx_nat h, Option.bind_some, alike_eq (hl.at h).1 (hm.at hk).1, Option.bind_some, dif_pos h, hJ _ (fun _ => h)]
        by_cases e : l[p + k] = more[k]
        · simp only [e, decide_true, if_true]; rfl
        · simp only [e, decide_false, Bool.false_eq_true, if_false]
      · rw [if_neg (by omega), dif_neg h, hJ false (fun h => by cases h)]; simp
    · have : k = more.length := by omega
      rw [if_neg (by omega), this, List.drop_length, mrg_nil, List.take_append_drop]
theorem put_eq {l more : List Entry} {p t : Int} (hl : Good l) (hm : Good more) : log_Put_f l p t more = some (putR l p t more) := by
  unfold log_Put_f putR
  rw [fits_eq hl.1, Option.bind_some, clone_eq hl.1]
  by_cases h : fits l p t = true
  · rw [h, if_pos rfl, Bool.not_true, cond_false, Option.bind_some]
    simp only [fits, decide_eq_true_eq] at h
    obtain ⟨q, rfl⟩ : ∃ q : Nat, p = q := ⟨p.toNat, by omega⟩
    have := put_L hl hm (p := q) (by omega) BIG 0 (by have := hm.1; rw [BIG_eq]; omega) (by omega) (by omega) (.inr trivial)
    have e2 : log_Put_L1 more (q : Int) l BIG 0 = log_Put_J1 (l.take (q + 0) ++ mrg (l.drop (q + 0)) (more.drop 0)) := this
    rw [e2, put_J]; rfl
  · have h' : fits l p t = false := by simpa using h
    rw [h', Bool.not_false, cond_true, if_neg (by simp)]
def cnt (mt : List Int) (p : Int) : Nat := mt.countP fun m => decide (p ≤ m)
theorem reach_L {mt : List Int} {p : Int} (hl : mt.length ≤ 1000) : ∀ m k n, mt.length < m + k → k ≤ mt.length → n ≤ k → log_Commit_1_L1 mt p m (n : Nat) (k : Nat) = some ((n + cnt (mt.drop k) p : Nat) : Int) := by
  intro m
  induction m with
  | zero => intro k n h1 h2; omega
  | succ m ih =>
    intro k n h1 h2 h3
    rw [log_Commit_1_L1, cond_d]
    by_cases hk : k < mt.length
    · rw [if_pos (by omega), idx_nat hk, Option.bind_some, cond_d, log_Commit_1_J2, log_Commit_1_J2, w64_succ (by omega), w64_succ (by omega), drop_cons hk]
      unfold cnt
      rw [List.countP_cons]
      by_cases hp : p ≤ mt[k]
      · rw [if_pos hp, if_pos (by simpa using hp), ih (k + 1) (n + 1) (by omega) (by omega) (by omega)]
        unfold cnt; congr 2; omega
      · rw [if_neg hp, if_neg (by simpa using hp), ih (k + 1) n (by omega) (by omega) (by omega)]
        unfold cnt; congr 2
    · rw [if_neg (by omega), log_Commit_1_J1, List.drop_of_length_le (by omega)]; simp [cnt]
theorem reach_eq {mt : List Int} {p : Int} (hl : mt.length ≤ 1000) : log_Commit_1_f p mt = some (cnt mt p : Int) := by
  unfold log_Commit_1_f
  have := reach_L (p := p) hl BIG 0 0 (by rw [BIG_eq]; omega) (by omega) (by omega)
  simpa using this
theorem cnt_le (mt : List Int) (p : Int) : cnt mt p ≤ mt.length := List.countP_le_length
def cmc (l : List Entry) (t : Int) (mt : List Int) (p : Nat) : Bool := decide (tm l p = t ∧ mt.length < 2 * cnt mt p)
def cm (l : List Entry) (t : Int) (mt : List Int) (was : Int) : Nat → Int
  | 0 => was
  | p + 1 => if was < ((p + 1 : Nat) : Int) ∧ cmc l t mt (p + 1) = true then ((p + 1 : Nat) : Int) else cm l t mt was p
theorem cm_was {l : List Entry} {t : Int} {mt : List Int} {was : Int} : ∀ p : Nat, (p : Int) ≤ was → cm l t mt was p = was
  | 0, _ => rfl
  | p + 1, h => by unfold cm; rw [if_neg (by omega), cm_was p (by omega)]
theorem commit_body {l : List Entry} {t : Int} {mt : List Int} {p : Nat} (h0 : p ≠ 0) (hp : p ≤ l.length) (hl : l.length ≤ 1000) (hm : mt.length ≤ 1000) {β : Type} {f : Bool → Option β} :
    ((idx l (IntKind.wrap .i64 ((p : Int) - 1))).bind fun x1 => cond (x1.term == t) ((log_Commit_1_f p mt).bind fun r1 => f (decide ((mt.length : Int) < (IntKind.wrap .i64 (2 * r1))))) (f false)) = f (cmc l t mt p) := by
  rw [idx_pred h0 hp hl, Option.bind_some, reach_eq hm, Option.bind_some]
  have := cnt_le mt (p : Int)
  rw [w64 (by omega) (by omega)]
  have e : (l.getD (p - 1) default).term = tm l p := by unfold tm; rw [if_neg h0]
  rw [e]
  unfold cmc
  by_cases h : tm l p = t
  · have : (tm l p == t) = true := by simpa using h
    rw [this, cond_true]; congr 1; rw [Bool.eq_iff_iff, decide_eq_true_eq, decide_eq_true_eq]; exact ⟨fun h2 => ⟨h, by omega⟩, fun h2 => by omega⟩
  · have : (tm l p == t) = false := by simpa using h
    rw [this, cond_false]; congr 1; symm; rw [decide_eq_false_iff_not]; exact fun h2 => h h2.1
theorem commit_L {l : List Entry} {t : Int} {mt : List Int} {was : Int} (hl : l.length ≤ 1000) (hm : mt.length ≤ 1000) : ∀ m p, p < m → p ≤ l.length → log_Commit_L1 was l t mt m (p : Nat) = some (cm l t mt was p) := by
  intro m
  induction m with
  | zero => intro p h; omega
  | succ m ih =>
    intro p h1 h2
    rw [log_Commit_L1, cond_d]
    by_cases hp : (if 0 > was then 0 else was) < (p : Int)
    · rw [if_pos hp]
      obtain ⟨q, rfl⟩ : ∃ q, p = q + 1 := ⟨p - 1, by split at hp <;> omega⟩
      have hw : was < ((q + 1 : Nat) : Int) := by split at hp <;> omega
      rw [commit_body (f := fun b => log_Commit_J2 (log_Commit_L1 was l t mt m) ((q + 1 : Nat) : Int) b) (by omega) h2 hl hm, log_Commit_J2]
      unfold cm
      cases hc : cmc l t mt (q + 1) with
      | true => rw [cond_true, if_pos ⟨hw, rfl⟩]
      | false =>
        rw [cond_false, if_neg (by simp)]
        have : IntKind.wrap .i64 (((q + 1 : Nat) : Int) - 1) = (q : Nat) := by rw [w64 (by omega) (by omega)]; omega
        rw [this, ih q (by omega) (by omega)]
    · rw [if_neg hp, log_Commit_J1]
      by_cases h0 : p = 0
      · subst h0; rfl
      · rw [cm_was p (by split at hp <;> omega)]
theorem commit_eq {l : List Entry} {t : Int} {mt : List Int} {was : Int} (hl : l.length ≤ 1000) (hm : mt.length ≤ 1000) : log_Commit_f l t mt was = some (cm l t mt was l.length) := by
  unfold log_Commit_f
  exact commit_L hl hm BIG l.length (by rw [BIG_eq]; omega) (Nat.le_refl _)
def tmi (l : List Entry) (i : Nat) : Int := (l.getD i default).term
theorem tmi_eq {l : List Entry} {i : Nat} (h : i < l.length) : tmi l i = l[i].term := by unfold tmi; simp [List.getD_eq_getElem?_getD, h]
def meetsFrom (a b : List Entry) (k : Nat) : Prop := ∀ j, k ≤ j → j < a.length → j < b.length → tmi a j = tmi b j → a.take (j + 1) = b.take (j + 1)
def meets (a b : List Entry) : Prop := meetsFrom a b 0
theorem take_iff {a b : List Entry} {k : Nat} (ha : k < a.length) (hb : k < b.length) : a.take (k + 1) = b.take (k + 1) ↔ a.take k = b.take k ∧ a[k] = b[k] := by
  rw [take_snoc ha, take_snoc hb]
  constructor
  · intro h
    have := List.append_inj h (by simp; omega)
    exact ⟨this.1, by simpa using this.2⟩
  · rintro ⟨h1, h2⟩; rw [h1, h2]
theorem meet_L {a b : List Entry} (ha : Good a) (hb : Good b) : ∀ m k, a.length < m + k → k ≤ a.length → k ≤ b.length → ∃ r, ref13_Meet_L1 a b m (decide (a.take k = b.take k)) (k : Int) = some r ∧ (r = true ↔ meetsFrom a b k) := by
  intro m
  induction m with
  | zero => intro k h1 h2; omega
  | succ m ih =>
    intro k h1 h2 h3
    have := ha.1; have := hb.1
    rw [ref13_Meet_L1, ref13_Meet_J2]
    by_cases hk : k < a.length ∧ k < b.length
    · obtain ⟨hka, hkb⟩ := hk
      have e : ((decide ((k : Int) < a.length)) && (decide ((k : Int) < b.length))) = true := by simp; omega
      rw [e, cond_true, idx_nat hka, Option.bind_some, idx_nat hkb, Option.bind_some, rAlike_eq (by have := (ha.at hka).2; omega), Option.bind_some]
      have eJ : ∀ x : Bool, x = decide (a.take (k + 1) = b.take (k + 1)) → ref13_Meet_J3 (ref13_Meet_L1 a b m) a (k : Int) b x = cond ((a[k].term == b[k].term) && !x) (some false) (ref13_Meet_L1 a b m (decide (a.take (k + 1) = b.take (k + 1))) ((k + 1 : Nat) : Int)) := by
        rintro x hx
        unfold ref13_Meet_J3 ref13_Meet_J4
        rw [idx_nat hka, Option.bind_some, idx_nat hkb, Option.bind_some, w64_succ (by omega), hx]
      have e3 : cond (decide (a.take k = b.take k)) (ref13_Meet_J3 (ref13_Meet_L1 a b m) a (k : Int) b (decide (a[k] = b[k]))) (ref13_Meet_J3 (ref13_Meet_L1 a b m) a (k : Int) b false) = cond ((a[k].term == b[k].term) && !(decide (a.take (k + 1) = b.take (k + 1)))) (some false) (ref13_Meet_L1 a b m (decide (a.take (k + 1) = b.take (k + 1))) ((k + 1 : Nat) : Int)) := by
        rw [cond_d]
        have hi := take_iff hka hkb
        by_cases h : a.take k = b.take k
        · rw [if_pos h, eJ _ (by rw [Bool.eq_iff_iff, decide_eq_true_eq, decide_eq_true_eq, hi]; exact ⟨fun x => ⟨h, x⟩, fun x => x.2⟩)]
          congr 2; congr 1
          rw [Bool.eq_iff_iff, decide_eq_true_eq, decide_eq_true_eq, hi]; exact ⟨fun x => ⟨h, x⟩, fun x => x.2⟩
        · rw [if_neg h, eJ false (by symm; rw [decide_eq_false_iff_not, hi]; exact fun x => h x.1)]
          congr 2; congr 1; symm; rw [decide_eq_false_iff_not, hi]; exact fun x => h x.1
      rw [e3]
      obtain ⟨r, er, hr⟩ := ih (k + 1) (by omega) (by omega) (by omega)
      rw [er]
      by_cases h : a[k].term = b[k].term ∧ a.take (k + 1) ≠ b.take (k + 1)
      · have : ((a[k].term == b[k].term) && !(decide (a.take (k + 1) = b.take (k + 1)))) = true := by rw [Bool.and_eq_true, beq_iff_eq, Bool.not_eq_true', decide_eq_false_iff_not]; exact h
        rw [this]
        refine ⟨false, rfl, fun h => (by cases h), fun hm => absurd (hm k (Nat.le_refl _) hka hkb (by rw [tmi_eq hka, tmi_eq hkb]; exact h.1)) h.2⟩
      · have : ((a[k].term == b[k].term) && !(decide (a.take (k + 1) = b.take (k + 1)))) = false := by
          rw [Bool.eq_false_iff]; intro hh; rw [Bool.and_eq_true, beq_iff_eq, Bool.not_eq_true', decide_eq_false_iff_not] at hh; exact h hh
        rw [this]
        refine ⟨r, rfl, fun h2 j hj => ?_, fun hm => hr.2 fun j hj => hm j (by omega)⟩
        intro ja jb je
        by_cases hjk : j = k
        · subst hjk
          rw [tmi_eq ja, tmi_eq jb] at je
          exact Classical.byContradiction fun hc => h ⟨je, hc⟩
        · exact hr.1 h2 j (by omega) ja jb je
    · have e : ((decide ((k : Int) < a.length)) && (decide ((k : Int) < b.length))) = false := by
        rw [Bool.eq_false_iff]; intro hh; rw [Bool.and_eq_true, decide_eq_true_eq, decide_eq_true_eq] at hh; exact hk ⟨by omega, by omega⟩
      rw [e, cond_false]
      exact ⟨true, rfl, fun _ j hj ja jb => absurd ⟨by omega, by omega⟩ hk, fun _ => rfl⟩
theorem meet_eq {a b : List Entry} (ha : Good a) (hb : Good b) : ∃ r, ref13_Meet_f a b = some r ∧ (r = true ↔ meets a b) := by
  unfold ref13_Meet_f
  obtain ⟨r, e, h⟩ := meet_L ha hb BIG 0 (by have := ha.1; rw [BIG_eq]; omega) (by omega) (by omega)
  refine ⟨r, ?_, h⟩
  have e2 : decide (a.take 0 = b.take 0) = true := by simp
  rw [e2] at e; exact e
theorem put_ok {l more : List Entry} (hl : ∀ e ∈ l, Entry.ok e ∧ e.data.length ≤ 200) (hm : ∀ e ∈ more, Entry.ok e ∧ e.data.length ≤ 200) : ∀ e ∈ mrg l more, Entry.ok e ∧ e.data.length ≤ 200 := by
  induction l generalizing more with
  | nil => rw [mrg_e]; exact hm
  | cons x xs ih =>
    cases more with
    | nil => rw [mrg_nil]; exact hl
    | cons y ys =>
      rw [mrg_cons]
      split
      · intro e he
        rcases List.mem_cons.1 he with h | h
        · rw [h]; exact hl x (by simp)
        · exact ih (fun e he => hl e (by simp [he])) (fun e he => hm e (by simp [he])) e h
      · exact hm
theorem put_good {l more : List Entry} (hl : Good l) (hm : Good more) (hs : l.length + more.length ≤ 1000) (p : Nat) : Good (put l p more) := by
  refine ⟨?_, fun e he => ?_⟩
  · unfold put; have := mrg_len (l.drop p) more; simp at this ⊢; omega
  · unfold put at he
    rcases List.mem_append.1 he with h | h
    · exact (hl.take p).2 e h
    · exact put_ok (hl.drop p).2 hm.2 e h
theorem putR_good {l more : List Entry} {p t : Int} (hl : Good l) (hm : Good more) (hs : l.length + more.length ≤ 1000) : Good (putR l p t more).1 := by
  unfold putR
  split
  · split
    · exact Good.nil
    · exact put_good hl hm hs _
  · exact Good.nil
theorem mrg_take : ∀ xs ys : List Entry, (mrg xs ys).take ys.length = ys
  | xs, [] => by simp
  | [], y :: ys => by rw [mrg_e, List.take_length]
  | x :: xs, y :: ys => by
    rw [mrg_cons]
    split
    · rename_i h; rw [h, List.length_cons, List.take_succ_cons, mrg_take xs ys]
    · rw [List.take_length]
theorem mrg_ge (xs ys : List Entry) : ys.length ≤ (mrg xs ys).length := by
  have := congrArg List.length (mrg_take xs ys)
  rw [List.length_take] at this; omega
/-- what is there already changes nothing -/
theorem mrg_pre : ∀ xs ys : List Entry, ys = xs.take ys.length → mrg xs ys = xs
  | xs, [], _ => mrg_nil xs
  | [], y :: ys, h => by cases h
  | x :: xs, y :: ys, h => by
    rw [List.length_cons, List.take_succ_cons, List.cons.injEq] at h
    rw [mrg_cons, if_pos h.1.symm, mrg_pre xs ys h.2]
theorem put_len {l more : List Entry} {p : Nat} (hp : p ≤ l.length) : (put l p more).length = p + (mrg (l.drop p) more).length := by unfold put; simp; omega
theorem put_tm {l more : List Entry} {p : Nat} (hp : p ≤ l.length) : tm (put l p more) p = tm l p := by
  unfold tm
  by_cases h : p = 0
  · rw [if_pos h, if_pos h]
  · rw [if_neg h, if_neg h]
    congr 1
    unfold put
    rw [List.getD_eq_getElem?_getD, List.getD_eq_getElem?_getD, List.getElem?_append_left (by simp; omega), List.getElem?_take, if_pos (by omega)]
theorem put_put {l more part : List Entry} {p : Nat} (hp : p ≤ l.length) (h : part = more.take part.length) : put (put l p more) p part = put l p more := by
  unfold put
  have e1 : (l.take p ++ mrg (l.drop p) more).take p = l.take p := by rw [List.take_append_of_le_length (by simp; omega), List.take_take, Nat.min_self]
  have e2 : (l.take p ++ mrg (l.drop p) more).drop p = mrg (l.drop p) more := by rw [List.drop_append_of_le_length (by simp; omega), List.drop_of_length_le (by simp; omega), List.nil_append]
  rw [e1, e2, mrg_pre]
  have := mrg_take (l.drop p) more
  have hle : part.length ≤ more.length := by have := congrArg List.length h; simp at this; omega
  have e3 : (mrg (l.drop p) more).take part.length = ((mrg (l.drop p) more).take more.length).take part.length := by rw [List.take_take, Nat.min_eq_left hle]
  rw [e3, this]; exact h
/-- logs that meet, of one term at a place, are one up to there -/
theorem meets_upto {l d : List Entry} (h : meets l d) {p : Nat} (hl : p ≤ l.length) (hd : p ≤ d.length) (ht : tm l p = tm d p) : l.take p = d.take p := by
  by_cases h0 : p = 0
  · subst h0; simp
  · have := h (p - 1) (Nat.zero_le _) (by omega) (by omega) (by
      unfold tm at ht; rw [if_neg h0, if_neg h0] at ht; exact ht)
    rwa [show p - 1 + 1 = p by omega] at this
theorem mrg_meets : ∀ (xs ys zs : List Entry), (∃ k, ys = zs.take k) → (mrg xs ys = xs ∨ ∃ q, q = ys.length ∧ mrg xs ys = ys)
  | xs, [], _, _ => .inl (mrg_nil xs)
  | [], y :: ys, _, _ => .inr ⟨_, rfl, mrg_e _⟩
  | x :: xs, y :: ys, zs, h => by
    rw [mrg_cons]
    split
    · rename_i e
      have : ∃ k, ys = (zs.drop 1).take k := by
        obtain ⟨k, hk⟩ := h
        cases zs with
        | nil => simp at hk
        | cons z zs =>
          cases k with
          | zero => simp at hk
          | succ k =>
            rw [List.take_succ_cons, List.cons.injEq] at hk
            exact ⟨k, by simpa using hk.2⟩
      rcases mrg_meets xs ys _ this with h | ⟨q, hq, h⟩
      · left; rw [h]
      · right; exact ⟨q + 1, by simp [hq], by rw [h, e]⟩
    · exact .inr ⟨_, rfl, rfl⟩
theorem meets_pre {d : List Entry} (k : Nat) : meets (d.take k) d := by
  intro j _ h1 h2 _
  rw [List.take_take, Nat.min_eq_left (by simp at h1; omega)]
theorem has_L {l : List Int} {x : Int} (hl : l.length ≤ 1000000) : ∀ m k, l.length < m + k → k ≤ l.length → ref14_Has_L1 l x m (k : Int) = some ((l.drop k).contains x) := by
  intro m
  induction m with
  | zero => intro k h1 h2; omega
  | succ m ih =>
    intro k h1 h2
    rw [ref14_Has_L1, cond_d]
    by_cases hk : k < l.length
    · rw [if_pos (by omega), idx_nat hk, Option.bind_some, w64_succ (by omega), ih (k + 1) (by omega) (by omega), drop_cons hk, List.contains_cons]
      by_cases hx : l[k] = x
      · simp [hx]
      · have : (l[k] == x) = false := by simpa using hx
        have h' : (x == l[k]) = false := by simpa using fun e : x = l[k] => hx e.symm
        rw [this, h']; simp
    · rw [if_neg (by omega), List.drop_of_length_le (by omega)]
      simp [ref14_Has_J1]
theorem has_eq {l : List Int} {x : Int} (hl : l.length ≤ 1000000) : ref14_Has_f l x = some (l.contains x) := by
  unfold ref14_Has_f
  exact has_L hl BIG 0 (by rw [BIG_eq]; omega) (by omega)
theorem index_L {l : List Int} {x : Int} (hl : l.length ≤ 1000000) : ∀ m k, l.length < m + k → k ≤ l.length → ∃ r, slices_Index_L1 l x m (k : Int) = some r ∧ (0 ≤ r ↔ (l.drop k).contains x = true) := by
  intro m
  induction m with
  | zero => intro k h1 h2; omega
  | succ m ih =>
    intro k h1 h2
    rw [slices_Index_L1, cond_d]
    by_cases hk : k < l.length
    · rw [if_pos (by omega), idx_nat hk, Option.bind_some, w64_succ (by omega), drop_cons hk, List.contains_cons]
      obtain ⟨r, e, h⟩ := ih (k + 1) (by omega) (by omega)
      by_cases hx : x = l[k]
      · refine ⟨k, ?_, ?_⟩
        · have : (x == l[k]) = true := by simpa using hx
          rw [this]; rfl
        · have : (x == l[k]) = true := by simpa using hx
          rw [this]; simp
      · have h' : (x == l[k]) = false := by simpa using hx
        rw [h']
        exact ⟨r, e, by simpa using h⟩
    · rw [if_neg (by omega), List.drop_of_length_le (by omega)]
      exact ⟨-1, rfl, by simp⟩
theorem contains_eq {l : List Int} {x : Int} (hl : l.length ≤ 1000000) : slices_Contains_f l x = some (l.contains x) := by
  unfold slices_Contains_f slices_Index_f
  obtain ⟨r, e, h⟩ := index_L (x := x) hl BIG 0 (by rw [BIG_eq]; omega) (by omega)
  have e' : slices_Index_L1 l x BIG 0 = some r := e
  rw [e', Option.bind_some]
  rw [List.drop_zero] at h
  congr 1
  rw [Bool.eq_iff_iff, decide_eq_true_eq]; exact h

theorem big_add (k : Nat) (hk : k ≤ 1000) : ∃ m, BIG = m + k := ⟨BIG - k, by rw [BIG_eq]; omega⟩
set_option maxRecDepth 20000 in
theorem len_small {n : Nat} (hn : n ≤ 200) : ∃ r, math_bits_Len_f (IntKind.wrap .u64 (n : Int)) = some r := by
  have w : IntKind.wrap .u64 (n : Int) = n := by show (n : Int) % 18446744073709551616 = n; omega
  have w8 : IntKind.wrap .u8 (n : Int) = n := by show (n : Int) % 256 = n; omega
  unfold math_bits_Len_f math_bits_Len64_f math_bits_Len64_J1 math_bits_Len64_J2 math_bits_Len64_J3
  rw [w, cond_d, if_neg (by omega), cond_d, if_neg (by omega), cond_d, if_neg (by omega), w8, chk_pos ⟨by omega, by
    refine Int.lt_of_lt_of_le (show (n : Int) < 256 by omega) ?_
    decide⟩]
  exact ⟨_, rfl⟩
section
variable {l : List Entry} {t : Int}
theorem cm_spec {mt : List Int} {was : Int} : ∀ n, cm l t mt was n = was ∨ ∃ p : Nat, p ≠ 0 ∧ p ≤ n ∧ cm l t mt was n = p ∧ was < p ∧ cmc l t mt p = true
  | 0 => .inl rfl
  | n + 1 => by
    unfold cm
    split
    · rename_i h; exact .inr ⟨n + 1, by omega, Nat.le_refl _, rfl, h.1, h.2⟩
    · rcases cm_spec (mt := mt) (was := was) n with h | ⟨p, h0, h1, h2, h3, h4⟩
      · exact .inl h
      · exact .inr ⟨p, h0, by omega, h2, h3, h4⟩
theorem cm_ge {mt : List Int} {was : Int} (n : Nat) : was ≤ cm l t mt was n := by
  rcases cm_spec (l := l) (t := t) (mt := mt) (was := was) n with h | ⟨p, _, _, h, h2, _⟩ <;> omega
theorem cm_again {mt : List Int} {was : Int} : ∀ n (p : Nat), cm l t mt was n = (p : Int) → was < p → cm l t mt (p : Int) n = p
  | 0, p, h, h2 => by unfold cm at h; omega
  | n + 1, p, h, h2 => by
    unfold cm at h
    by_cases h1 : was < ((n + 1 : Nat) : Int) ∧ cmc l t mt (n + 1) = true
    · rw [if_pos h1] at h
      exact cm_was _ (by omega)
    · rw [if_neg h1] at h
      unfold cm
      rw [if_neg (fun h3 => h1 ⟨by omega, h3.2⟩)]
      exact cm_again n p h h2
end
def down (s : Seat) (term : Int) : Seat := ⟨s.id, s.peers, term, -1, 1, s.log, s.commit, [], [], []⟩
def begin_ (s : Seat) : Seat := ⟨s.id, s.peers, s.term + 1, s.id, 2, s.log, s.commit, [s.id], [], []⟩
theorem vDown_eq (s : Seat) (t : Int) : vote_Down_f s t = some (down s t) := rfl
def free (s : Seat) (who : Int) : Bool := s.voted == -1 || s.voted == who
def ask1 (o : Seat) (who last many : Int) : Seat × Bool := if (free o who && newer o.log last many) = true then ({ o with voted := who }, true) else (o, false)
def ask (s : Seat) (term who last many : Int) : Seat × Bool :=
  if term < s.term then (s, false) else if s.term < term then ask1 (down s term) who last many else ask1 s who last many
theorem vAsk1 {o : Seat} {w l m : Int} (hl : o.log.length ≤ 1000) : vote_Ask_J1 w l m o = some (ask1 o w l m) := by
  unfold vote_Ask_J1 vote_Ask_1_f vote_Ask_2_f vote_Ask_J2 ask1 free
  rw [Option.bind_some]
  simp only [newer_eq hl, Option.bind_some]
  cases (o.voted == -1 || o.voted == w) <;> cases newer o.log l m <;> rfl
theorem vAsk_eq {s : Seat} {t w l m : Int} (hl : s.log.length ≤ 1000) : vote_Ask_f s t w l m = some (ask s t w l m) := by
  unfold vote_Ask_f ask
  rw [cond_d, cond_d, vDown_eq, Option.bind_some, vAsk1 (o := down s t) hl, vAsk1 hl]
  split
  · rfl
  · split <;> rfl
def won (votes peers : List Int) : Bool := decide (peers.length < 2 * peers.countP (fun p => votes.contains p))
theorem count_L {l : List Int} {f : Int → Option Bool} {p : Int → Bool} (hf : ∀ x, f x = some (p x)) (hl : l.length ≤ 1000000) : ∀ m k n, l.length < m + k → k ≤ l.length → n ≤ k → vote_count_L1 l f m (n : Nat) (k : Nat) = some ((n + (l.drop k).countP p : Nat) : Int) := by
  intro m
  induction m with
  | zero => intro k n h1 h2; omega
  | succ m ih =>
    intro k n h1 h2 h3
    rw [vote_count_L1, cond_d]
    by_cases hk : k < l.length
    · rw [if_pos (by omega), idx_nat hk, Option.bind_some, hf, Option.bind_some, vote_count_J2, vote_count_J2, w64_succ (by omega), w64_succ (by omega), drop_cons hk, List.countP_cons]
      cases p l[k] with
      | true => rw [cond_true, ih (k + 1) (n + 1) (by omega) (by omega) (by omega)]; simp; omega
      | false => rw [cond_false, ih (k + 1) n (by omega) (by omega) (by omega)]; simp
    · rw [if_neg (by omega), List.drop_of_length_le (by omega)]; simp [vote_count_J1]
theorem vWon_eq {v p : List Int} (hv : v.length ≤ 1000000) (hp : p.length ≤ 1000000) : vote_Won_f v p = some (won v p) := by
  unfold vote_Won_f vote_count_f vote_Won_1_f
  have h := count_L (l := p) (f := fun y => (slices_Contains_f v y).bind fun r1 => some r1) (p := fun x => v.contains x) (fun x => by rw [contains_eq hv]; rfl) hp BIG 0 0 (by rw [BIG_eq]; omega) (by omega) (by omega)
  have h' : vote_count_L1 p (fun y0_ => (slices_Contains_f v y0_).bind fun r1 => some r1) BIG 0 0 = _ := h
  rw [h', Option.bind_some]
  have hc : p.countP (fun x => v.contains x) ≤ p.length := List.countP_le_length
  rw [List.drop_zero, Nat.zero_add, w64 (by omega) (by omega)]
  unfold won
  congr 1
  rw [Bool.eq_iff_iff]; simp only [decide_eq_true_eq]; omega
theorem ask_keeps (s : Seat) (t w l m : Int) : (ask s t w l m).1.log = s.log ∧ (ask s t w l m).1.commit = s.commit ∧ (ask s t w l m).1.peers = s.peers ∧ (ask s t w l m).1.id = s.id := by
  unfold ask ask1
  split; · exact ⟨rfl, rfl, rfl, rfl⟩
  split <;> split <;> exact ⟨rfl, rfl, rfl, rfl⟩
theorem ask_term (s : Seat) (t w l m : Int) : (ask s t w l m).1.term = if t < s.term then s.term else t := by
  unfold ask ask1
  split; · rfl
  split <;> split <;> first | rfl | (show s.term = t; omega)
theorem ask_twice (s : Seat) (t w l m : Int) : ask (ask s t w l m).1 t w l m = ask s t w l m := by
  have hl := (ask_keeps s t w l m).1
  have ht := ask_term s t w l m
  by_cases h1 : t < s.term
  · have e : ask s t w l m = (s, false) := by unfold ask; rw [if_pos h1]
    rw [e]; exact e
  · rw [if_neg h1] at ht
    have e2 : ∀ o : Seat, o.term = t → ask o t w l m = ask1 o w l m := fun o ho => by unfold ask; rw [if_neg (by omega), if_neg (by omega)]
    rw [e2 _ ht]
    have e3 : ask s t w l m = ask1 (if s.term < t then down s t else s) w l m := by unfold ask; rw [if_neg h1]; split <;> rfl
    rw [e3]
    generalize (if s.term < t then down s t else s) = o
    unfold ask1
    by_cases h3 : (free o w && newer o.log l m) = true
    · rw [if_pos h3]
      simp only [Bool.and_eq_true] at h3
      rw [if_pos (by simp [free, h3.2])]
    · rw [if_neg h3, if_neg h3]
section
variable {α : Type}
def insBack (lt : α → α → Bool) : List α → α → List α → List α
  | [], x, R => x :: R
  | y :: A, x, R => if lt x y = true then insBack lt A x (y :: R) else (y :: A).reverse ++ x :: R
def isort (lt : α → α → Bool) : List α → List α → List α
  | P, [] => P
  | P, x :: C => isort lt (insBack lt P.reverse x []) C
theorem insBack_app (lt : α → α → Bool) : ∀ (A : List α) x (R C : List α), insBack lt A x (R ++ C) = insBack lt A x R ++ C
  | [], x, R, C => rfl
  | y :: A, x, R, C => by
    unfold insBack
    split
    · exact insBack_app lt A x (y :: R) C
    · simp
theorem insBack_len (lt : α → α → Bool) : ∀ (A : List α) x (R : List α), (insBack lt A x R).length = A.length + R.length + 1
  | [], x, R => by simp [insBack]
  | y :: A, x, R => by
    unfold insBack
    split
    · rw [insBack_len]; simp; omega
    · simp; omega
theorem insBack_perm (lt : α → α → Bool) : ∀ (A : List α) x (R : List α), (insBack lt A x R).Perm (x :: (A.reverse ++ R))
  | [], x, R => by simp [insBack]
  | y :: A, x, R => by
    unfold insBack
    split
    · refine (insBack_perm lt A x (y :: R)).trans ?_
      simp
    · exact List.perm_middle
theorem isort_perm (lt : α → α → Bool) : ∀ (P C : List α), (isort lt P C).Perm (P ++ C)
  | P, [] => by simp [isort]
  | P, x :: C => by
    unfold isort
    refine (isort_perm lt _ C).trans ?_
    refine ((insBack_perm lt P.reverse x []).append_right C).trans ?_
    simp only [List.reverse_reverse, List.append_nil, List.cons_append]
    exact List.perm_middle.symm
end
theorem at_mid {α : Type} [Inhabited α] (A : List α) (x : α) (R : List α) : idx (A ++ x :: R) (A.length : Int) = some x := by
  rw [idx_nat (by simp)]; simp
theorem less_eq (x y : Int) : cmp_Less_f x y = some (decide (x < y)) := by
  unfold cmp_Less_f cmp_isNaN_f
  simp
theorem L2_int {kk : List Int → Int → Option (List Int)}  {i : Int} : ∀ (m : Nat) (A : List Int) (x : Int) (R : List Int), A.length < m → A.length + R.length ≤ 1000 →
    slices_insertionSortOrdered_L2 kk 0 i m (A.reverse ++ x :: R) (A.length : Int) = slices_insertionSortOrdered_J1 kk i (insBack (fun a b : Int => decide (a < b)) A x R) := by
  intro m
  induction m with
  | zero => intro A x R h; omega
  | succ m ih =>
    intro A x R h1 h2
    rw [slices_insertionSortOrdered_L2, cond_d]
    cases A with
    | nil =>
      rw [if_neg (by simp)]
      rfl
    | cons y A =>
      have e1 : IntKind.wrap .i64 (((y :: A).length : Int) - 1) = (A.reverse.length : Int) := by simp only [List.length_cons, List.length_reverse]; simp only [List.length_cons] at h2; rw [w64 (by omega) (by omega)]; omega
      have e0 : ((y :: A).length : Int) = ((A.reverse ++ [y]).length : Int) := by simp
      have e2 : (y :: A).reverse ++ x :: R = (A.reverse ++ [y]) ++ x :: R := by simp
      have e3 : (y :: A).reverse ++ x :: R = A.reverse ++ y :: x :: R := by simp
      have g1 : idx ((y :: A).reverse ++ x :: R) ((y :: A).length : Int) = some x := by rw [e2, e0]; exact at_mid _ _ _
      have g2 : idx ((y :: A).reverse ++ x :: R) (IntKind.wrap .i64 (((y :: A).length : Int) - 1)) = some y := by rw [e1, e3]; exact at_mid _ _ _
      rw [if_pos (by simp only [List.length_cons]; omega), g1, Option.bind_some, g2, Option.bind_some, less_eq, Option.bind_some]
      unfold slices_insertionSortOrdered_J2
      cases hlt : decide (x < y) with
      | true =>
        rw [cond_true, g2, Option.bind_some, g1, Option.bind_some]
        have g3 : ∃ z, idx (((y :: A).reverse ++ x :: R).set ((y :: A).length : Int).toNat y) (IntKind.wrap .i64 (((y :: A).length : Int) - 1)) = some z := by
          rw [e1, idx_nat (by simp)]; exact ⟨_, rfl⟩
        obtain ⟨z, hz⟩ := g3
        rw [hz, Option.bind_some, e1]
        have e4 : (((y :: A).reverse ++ x :: R).set ((y :: A).length : Int).toNat y).set ((A.reverse.length : Int)).toNat x = A.reverse ++ x :: y :: R := by
          rw [e3, Int.toNat_natCast, Int.toNat_natCast]
          simp
        rw [e4, List.length_reverse]
        have := ih A x (y :: R) (by simp only [List.length_cons] at h1; omega) (by simp only [List.length_cons] at h2 ⊢; omega)
        rw [this]
        conv => rhs; rw [insBack, if_pos hlt]
      | false =>
        rw [cond_false]
        conv => rhs; rw [insBack, if_neg (by rw [hlt]; decide)]
theorem L1_int  {b : Int} : ∀ (m : Nat) (P C : List Int), C.length < m → P.length + C.length ≤ 1000 → b = ((P.length + C.length : Nat) : Int) →
    slices_insertionSortOrdered_L1 b 0 m (P ++ C) (P.length : Int) = some (isort (fun a b : Int => decide (a < b)) P C) := by
  intro m
  induction m with
  | zero => intro P C h; omega
  | succ m ih =>
    intro P C h1 h2 hb
    rw [slices_insertionSortOrdered_L1, cond_d]
    cases C with
    | nil => rw [if_neg (by simp at hb; omega)]; simp [isort]
    | cons x C =>
      rw [if_pos (by simp only [List.length_cons] at hb; omega)]
      have := L2_int (kk := slices_insertionSortOrdered_L1 b 0 m)  (i := (P.length : Int)) BIG P.reverse x C (by rw [BIG_eq]; simp only [List.length_cons] at h2; simp; omega) (by simp only [List.length_cons] at h2; simp; omega)
      rw [List.reverse_reverse, List.length_reverse] at this
      rw [this]
      unfold slices_insertionSortOrdered_J1
      rw [w64_succ (by omega)]
      have hi : insBack (fun a b : Int => decide (a < b)) P.reverse x C = insBack (fun a b : Int => decide (a < b)) P.reverse x [] ++ C := by simpa using insBack_app (fun a b : Int => decide (a < b)) P.reverse x [] C
      have hl : (insBack (fun a b : Int => decide (a < b)) P.reverse x []).length = P.length + 1 := by rw [insBack_len]; simp
      have h3 := ih (insBack (fun a b : Int => decide (a < b)) P.reverse x []) C (by simp only [List.length_cons] at h1; omega) (by simp only [List.length_cons] at h2; omega) (by rw [hb, hl]; simp only [List.length_cons]; omega)
      rw [hl] at h3
      rw [hi, h3]
      rfl
theorem sort_int  (l : List Int) (hl : l.length ≤ 12) : slices_Sort_f l  = some (isort (fun a b : Int => decide (a < b)) [] l) := by
  unfold slices_Sort_f
  obtain ⟨r, hr⟩ := len_small (n := l.length) (by omega)
  rw [hr, Option.bind_some]
  unfold slices_pdqsortOrdered_f
  obtain ⟨m, hm⟩ := big_add 1 (by omega)
  have hs : slices_insertionSortOrdered_f l 0 (l.length : Int)  = some (isort (fun a b : Int => decide (a < b)) [] l) := by
    unfold slices_insertionSortOrdered_f
    rw [show IntKind.wrap .i64 (0 + 1) = ((1 : Nat) : Int) by decide]
    cases l with
    | nil =>
      rw [hm, slices_insertionSortOrdered_L1, show decide (((1 : Nat) : Int) < (([] : List Int).length : Int)) = false by decide, cond_false]; rfl
    | cons x C =>
      have := L1_int  (b := ((x :: C).length : Int)) BIG [x] C (by rw [BIG_eq]; simp only [List.length_cons] at hl; omega) (by simp only [List.length_cons] at hl; simp; omega) (by simp; omega)
      simpa [isort, insBack] using this
  have hlen : (isort (fun a b : Int => decide (a < b)) [] l).length = l.length := by have := (isort_perm (fun a b : Int => decide (a < b)) [] l).length_eq; simpa using this
  rw [hm, slices_pdqsortOrdered_L1, chk_pos (by rw [w64 (by omega) (by omega), decide_eq_true]; omega), hs, Option.bind_some, chk_pos hlen, Option.bind_some, chk_pos hlen]
end Go.Proofs.YtmkpokcfefjifaaDoor
