/- What the functions of layer 13 compute, as plain laws (no program in sight but its functional forms). -/
import Derived.Test.YtiomajfdphmgaaaF3
import Derived.Test.YtiomajfdphmgaaaW
import Derived.Test.YtiomajfdphmgaaaB7
set_option linter.unusedSimpArgs false
set_option linter.unusedVariables false
namespace Go.Proofs.Ytiomajfdphmgaaa
open Go.Ab Go.RowKit
/-! entries -/
theorem byte_inj {m n : Int} (hm : okI .u8 m) (hn : okI .u8 n) (h : UInt8.ofNat m.toNat = UInt8.ofNat n.toNat) : m = n := by
  simp only [okI] at hm hn
  have h2 : (UInt8.ofNat m.toNat).toNat = (UInt8.ofNat n.toNat).toNat := by rw [h]
  rw [UInt8.toNat_ofNat', UInt8.toNat_ofNat'] at h2
  omega
theorem bytes_inj : ∀ {a b : List Int}, (∀ x ∈ a, okI .u8 x) → (∀ x ∈ b, okI .u8 x) → a.map (fun n => UInt8.ofNat n.toNat) = b.map (fun n => UInt8.ofNat n.toNat) → a = b
  | [], [], _, _, _ => rfl
  | [], y :: b, _, _, h => by cases h
  | x :: a, [], _, _, h => by cases h
  | x :: a, y :: b, ha, hb, h => by
    simp only [List.map_cons, List.cons.injEq] at h
    rw [byte_inj (ha x (by simp)) (hb y (by simp)) h.1, bytes_inj (fun z hz => ha z (by simp [hz])) (fun z hz => hb z (by simp [hz])) h.2]
theorem str_inj {a b : List Int} (ha : ∀ x ∈ a, okI .u8 x) (hb : ∀ x ∈ b, okI .u8 x) : ((strOfNums a).toList == (strOfNums b).toList) = decide (a = b) := by
  rw [Bool.eq_iff_iff, beq_iff_eq, decide_eq_true_eq]
  constructor
  · intro h
    have h2 : (strOfNums a).data.toList = (strOfNums b).data.toList := by
      have : ∀ s : ByteArray, s.toList = s.data.toList := fun s => ByteArray.toList_eq s
      rw [← this, ← this, h]
    rw [strOfNums_data, strOfNums_data] at h2
    exact bytes_inj ha hb h2
  · rintro rfl; rfl
theorem bcons {β : Type} [DecidableEq β] {x y : β} {xs ys : List β} : (cond (!decide (x = y)) (some false) (some (decide (xs = ys)))) = some (decide (x :: xs = y :: ys)) := by
  by_cases h : x = y
  · simp [h]
  · simp [h]
theorem alike_eq {a b : Entry} (ha : Entry.ok a) (hb : Entry.ok b) : log_alike_f a b = some (decide (a = b)) := by
  unfold log_alike_f bytes_Equal_f
  rw [str_inj ha.2 hb.2]
  simp only [Option.bind_some]
  obtain ⟨t, d⟩ := a; obtain ⟨t', d'⟩ := b
  by_cases h : t = t'
  · subst h; simp
  · have : (t == t') = false := by simpa using h
    rw [this]; simp [h]
theorem rAlike_L {a b : Entry} (hab : a.data.length = b.data.length) (hl : a.data.length ≤ 1000000) : ∀ m k, a.data.length < m + k → k ≤ a.data.length → ref13_Alike_L1 a b m (k : Int) = some (decide (a.data.drop k = b.data.drop k)) := by
  intro m
  induction m with
  | zero => intro k h1 h2; omega
  | succ m ih =>
    intro k h1 h2
    rw [ref13_Alike_L1, cond_d]
    by_cases hk : k < a.data.length
    · have hk' : k < b.data.length := by omega
      rw [if_pos (by omega), idx_nat hk, Option.bind_some, idx_nat hk', Option.bind_some, w64_succ (by omega), ih (k + 1) (by omega) (by omega), drop_cons hk, drop_cons hk']
      by_cases hx : a.data[k] = b.data[k]
      · have : (a.data[k] != b.data[k]) = false := by simpa using hx
        rw [this, cond_false]; congr 1; rw [Bool.eq_iff_iff, decide_eq_true_eq, decide_eq_true_eq, List.cons.injEq]; exact ⟨fun h => ⟨hx, h⟩, fun h => h.2⟩
      · have : (a.data[k] != b.data[k]) = true := by simpa using hx
        rw [this, cond_true]; congr 1; symm; rw [decide_eq_false_iff_not, List.cons.injEq]; exact fun h => hx h.1
    · rw [if_neg (by omega), List.drop_of_length_le (by omega), List.drop_of_length_le (by omega)]
      simp [ref13_Alike_J2]
theorem rAlike_eq {a b : Entry} (hl : a.data.length ≤ 1000000) : ref13_Alike_f a b = some (decide (a = b)) := by
  unfold ref13_Alike_f ref13_Alike_J1
  obtain ⟨t, d⟩ := a; obtain ⟨t', d'⟩ := b
  simp only at hl ⊢
  by_cases h : t = t' ∧ d.length = d'.length
  · obtain ⟨rfl, h2⟩ := h
    have e : ((t != t) || ((d.length : Int) != (d'.length : Int))) = false := by simp [h2]
    rw [e, cond_false]
    have := rAlike_L (a := ⟨t, d⟩) (b := ⟨t, d'⟩) h2 hl BIG 0 (by rw [BIG_eq]; simp; omega) (by simp)
    simpa using this
  · have e : ((t != t') || ((d.length : Int) != (d'.length : Int))) = true := by
      rw [Bool.or_eq_true, bne_iff_ne, bne_iff_ne]
      by_cases ht : t = t'
      · right; intro hd; exact h ⟨ht, by omega⟩
      · exact .inl ht
    rw [e, cond_true]; congr 1; symm; rw [decide_eq_false_iff_not]; rintro ⟨⟩; exact h ⟨rfl, rfl⟩
/-! logs -/
def Good (l : List Entry) : Prop := l.length ≤ 1000 ∧ ∀ e ∈ l, Entry.ok e ∧ e.data.length ≤ 40
theorem Good.at {l : List Entry} (h : Good l) {k : Nat} (hk : k < l.length) : Entry.ok l[k] ∧ l[k].data.length ≤ 40 := h.2 _ (List.getElem_mem hk)
theorem Good.take {l : List Entry} (h : Good l) (k : Nat) : Good (l.take k) := ⟨by have := h.1; simp; omega, fun e he => h.2 e (List.mem_of_mem_take he)⟩
theorem Good.drop {l : List Entry} (h : Good l) (k : Nat) : Good (l.drop k) := ⟨by have := h.1; simp; omega, fun e he => h.2 e (List.mem_of_mem_drop he)⟩
theorem Good.nil : Good [] := ⟨by simp, fun e he => by cases he⟩
theorem same_L {s1 s2 : List Entry} (h1 : Good s1) (h2 : Good s2) (hab : s1.length = s2.length) : ∀ m k, s1.length < m + k → k ≤ s1.length → slices_EqualFunc_L1 s1 s2 log_alike_f m (k : Int) = some (decide (s1.drop k = s2.drop k)) := by
  intro m
  induction m with
  | zero => intro k h1 h2; omega
  | succ m ih =>
    intro k h3 h4
    have := h1.1
    rw [slices_EqualFunc_L1, cond_d]
    by_cases hk : k < s1.length
    · have hk' : k < s2.length := by omega
      rw [if_pos (by omega), idx_nat hk, Option.bind_some, idx_nat hk', Option.bind_some, alike_eq (h1.at hk).1 (h2.at hk').1, Option.bind_some, w64_succ (by omega), ih (k + 1) (by omega) (by omega), drop_cons hk, drop_cons hk']
      exact bcons
    · rw [if_neg (by omega), List.drop_of_length_le (by omega), List.drop_of_length_le (by omega)]
      simp [slices_EqualFunc_J1]
theorem same_eq {a b : List Entry} (h1 : Good a) (h2 : Good b) : log_Same_f a b = some (decide (a = b)) := by
  unfold log_Same_f slices_EqualFunc_f
  by_cases h : a.length = b.length
  · have e : ((a.length : Int) != b.length) = false := by rw [bne_eq_false_iff_eq]; omega
    have := same_L h1 h2 h BIG 0 (by have := h1.1; rw [BIG_eq]; omega) (by omega)
    have e2 : slices_EqualFunc_L1 a b log_alike_f BIG 0 = some (decide (a.drop 0 = b.drop 0)) := this
    rw [e, cond_false, e2]; simp
  · have e : ((a.length : Int) != b.length) = true := by rw [bne_iff_ne]; omega
    rw [e, cond_true, Option.bind_some]; congr 1; symm; rw [decide_eq_false_iff_not]; rintro rfl; exact h rfl
theorem rSame_L {s1 s2 : List Entry} (h1 : Good s1) (hab : s1.length = s2.length) : ∀ m k, s1.length < m + k → k ≤ s1.length → ref13_Same_L1 s1 s2 m (k : Int) = some (decide (s1.drop k = s2.drop k)) := by
  intro m
  induction m with
  | zero => intro k h1 h2; omega
  | succ m ih =>
    intro k h3 h4
    have := h1.1
    rw [ref13_Same_L1, cond_d]
    by_cases hk : k < s1.length
    · have hk' : k < s2.length := by omega
      rw [if_pos (by omega), idx_nat hk, Option.bind_some, idx_nat hk', Option.bind_some, rAlike_eq (by have := (h1.at hk).2; omega), Option.bind_some, w64_succ (by omega), ih (k + 1) (by omega) (by omega), drop_cons hk, drop_cons hk']
      exact bcons
    · rw [if_neg (by omega), List.drop_of_length_le (by omega), List.drop_of_length_le (by omega)]
      simp [ref13_Same_J1]
theorem rSame_eq {a b : List Entry} (h1 : Good a) : ref13_Same_f a b = some (decide (a = b)) := by
  unfold ref13_Same_f
  by_cases h : a.length = b.length
  · have e : ((a.length : Int) != b.length) = false := by rw [bne_eq_false_iff_eq]; omega
    have := rSame_L h1 h BIG 0 (by have := h1.1; rw [BIG_eq]; omega) (by omega)
    rw [e, cond_false]; simpa using this
  · have e : ((a.length : Int) != b.length) = true := by rw [bne_iff_ne]; omega
    rw [e, cond_true]; congr 1; symm; rw [decide_eq_false_iff_not]; rintro rfl; exact h rfl
/-- the term at a place -/
def tm (l : List Entry) (p : Nat) : Int := if p = 0 then 0 else (l.getD (p - 1) default).term
theorem idx_pred {l : List Entry} {p : Nat} (h0 : p ≠ 0) (hp : p ≤ l.length) (hl : l.length ≤ 1000) : idx l (IntKind.wrap .i64 ((p : Int) - 1)) = some (l.getD (p - 1) default) := by
  rw [w64 (by omega) (by omega)]
  have : ((p : Int) - 1) = ((p - 1 : Nat) : Int) := by omega
  rw [this, idx_nat (by omega)]
  simp [List.getD_eq_getElem?_getD, show p - 1 < l.length by omega]
theorem rTerm_eq {l : List Entry} {p : Nat} (hp : p ≤ l.length) (hl : l.length ≤ 1000) : ref13_Term_f l (p : Int) = some (tm l p) := by
  unfold ref13_Term_f tm
  by_cases h : p = 0
  · subst h; rfl
  · have : ((p : Int) == 0) = false := by rw [beq_eq_false_iff_ne]; omega
    rw [this, cond_false, idx_pred h hp hl, Option.bind_some, if_neg h]
def fits (l : List Entry) (p : Int) (t : Int) : Bool := decide (0 ≤ p ∧ p ≤ l.length ∧ tm l p.toNat = t)
theorem fits_eq {l : List Entry} {p t : Int} (hl : l.length ≤ 1000) : log_Fits_f l p t = some (fits l p t) := by
  unfold log_Fits_f log_Fits_J1 fits
  by_cases h : 0 ≤ p ∧ p ≤ l.length
  · obtain ⟨q, rfl⟩ : ∃ q : Nat, p = q := ⟨p.toNat, by omega⟩
    have e : ((decide ((q : Int) < 0)) || (decide ((l.length : Int) < q))) = false := by simp; omega
    rw [e, cond_false]
    by_cases h0 : q = 0
    · subst h0
      show some ((t == 0)) = _
      congr 1
      rw [Bool.eq_iff_iff, beq_iff_eq, decide_eq_true_eq]
      exact ⟨fun e => ⟨by omega, by omega, e.symm⟩, fun e => e.2.2.symm⟩
    · have : ((q : Int) == 0) = false := by rw [beq_eq_false_iff_ne]; omega
      rw [this, cond_false, idx_pred h0 (by omega) hl, Option.bind_some]
      congr 1
      rw [Bool.eq_iff_iff, beq_iff_eq, decide_eq_true_eq]
      simp only [Int.toNat_natCast, tm, if_neg h0]
      exact ⟨fun e => ⟨by omega, by omega, e⟩, fun e => e.2.2⟩
  · have e : ((decide (p < 0)) || (decide ((l.length : Int) < p))) = true := by
      rw [Bool.or_eq_true, decide_eq_true_eq, decide_eq_true_eq]; omega
    rw [e, cond_true]; congr 1; symm; rw [decide_eq_false_iff_not]; rintro ⟨h1, h2, _⟩; exact h ⟨h1, h2⟩
theorem rFits_eq {l : List Entry} {p t : Int} (hl : l.length ≤ 1000) : ref13_Fits_f l p t = some (fits l p t) := by
  unfold ref13_Fits_f fits
  rw [cond_d, cond_d]
  by_cases h1 : 0 ≤ p
  · by_cases h2 : p ≤ l.length
    · obtain ⟨q, rfl⟩ : ∃ q : Nat, p = q := ⟨p.toNat, by omega⟩
      rw [if_pos h1, if_pos h2, rTerm_eq (by omega) hl, Option.bind_some]
      congr 1
      rw [Bool.eq_iff_iff, beq_iff_eq, decide_eq_true_eq]
      simp only [Int.toNat_natCast]
      exact ⟨fun e => ⟨by omega, by omega, e⟩, fun e => e.2.2⟩
    · rw [if_pos h1, if_neg h2]; congr 1; symm; rw [decide_eq_false_iff_not]; rintro ⟨_, h, _⟩; exact h2 h
  · rw [if_neg h1]; congr 1; symm; rw [decide_eq_false_iff_not]; rintro ⟨h, _⟩; exact h1 h
def newer (l : List Entry) (t n : Int) : Bool := decide (tm l l.length < t ∨ t = tm l l.length ∧ (l.length : Int) ≤ n)
theorem newer_J {t a n L : Int} : (some ((decide (a < t)) || ((t == a) && (decide (L ≤ n))))) = some (decide (a < t ∨ t = a ∧ L ≤ n)) := by
  congr 1; rw [Bool.eq_iff_iff]; simp
theorem newer_eq {l : List Entry} {t n : Int} (hl : l.length ≤ 1000) : log_Newer_f l t n = some (newer l t n) := by
  unfold log_Newer_f newer
  rw [cond_d]
  by_cases h : l.length = 0
  · rw [if_neg (by omega)]; unfold log_Newer_J1; rw [newer_J]; simp [tm, h]
  · rw [if_pos (by omega), idx_pred h (Nat.le_refl _) hl, Option.bind_some]; unfold log_Newer_J1; rw [newer_J]; simp [tm, h]
theorem rNewer_eq {l : List Entry} {t n : Int} (hl : l.length ≤ 1000) : ref13_Newer_f l t n = some (newer l t n) := by
  unfold ref13_Newer_f newer
  rw [rTerm_eq (Nat.le_refl _) hl, Option.bind_some, newer_J]
/-! put -/
def mrg : List Entry → List Entry → List Entry
  | xs, [] => xs
  | [], y :: ys => y :: ys
  | x :: xs, y :: ys => if x = y then x :: mrg xs ys else y :: ys
def put (l : List Entry) (p : Nat) (more : List Entry) : List Entry := l.take p ++ mrg (l.drop p) more
def putR (l : List Entry) (p : Int) (t : Int) (more : List Entry) : List Entry × Bool :=
  if fits l p t = true then (if 500 < (put l p.toNat more).length then ([], false) else (put l p.toNat more, true)) else ([], false)
theorem mrg_nil (xs : List Entry) : mrg xs [] = xs := by cases xs <;> rfl
theorem mrg_e (ys : List Entry) : mrg [] ys = ys := by cases ys <;> rfl
theorem mrg_cons (x y : Entry) (xs ys : List Entry) : mrg (x :: xs) (y :: ys) = if x = y then x :: mrg xs ys else y :: ys := rfl
theorem mrg_len : ∀ xs ys : List Entry, (mrg xs ys).length ≤ xs.length + ys.length
  | xs, [] => by rw [mrg_nil]; simp
  | [], y :: ys => by simp [mrg]
  | x :: xs, y :: ys => by
    unfold mrg; have := mrg_len xs ys; split <;> simp <;> omega
theorem put_step {l more : List Entry} {p k : Nat} (hp : p + k ≤ l.length) (hk : k < more.length) :
    l.take (p + k) ++ mrg (l.drop (p + k)) (more.drop k) = if h : p + k < l.length then (if l[p + k] = more[k] then l.take (p + k + 1) ++ mrg (l.drop (p + k + 1)) (more.drop (k + 1)) else l.take (p + k) ++ more.drop k) else l.take (p + k) ++ more.drop k := by
  by_cases h : p + k < l.length
  · rw [dif_pos h, drop_cons h, drop_cons hk]
    rw [mrg_cons]
    by_cases e : l[p + k] = more[k]
    · rw [if_pos e, if_pos e, take_snoc h, List.append_assoc, List.singleton_append]
    · rw [if_neg e, if_neg e]
  · rw [dif_neg h, List.drop_of_length_le (by omega : l.length ≤ p + k), mrg_e]
theorem put_J {out : List Entry} : log_Put_J1 out = some (if 500 < out.length then ([], false) else (out, true)) := by
  unfold log_Put_J1; rw [cond_d]
  by_cases h : 500 < out.length
  · rw [if_pos (by omega), if_pos h]
  · rw [if_neg (by omega), if_neg h]
theorem rPut_J {out : List Entry} : ref13_Put_J2 out = some (if 500 < out.length then ([], false) else (out, true)) := by
  unfold ref13_Put_J2; rw [cond_d]
  by_cases h : 500 < out.length
  · rw [if_pos (by omega), if_pos h]
  · rw [if_neg (by omega), if_neg h]
theorem clone_eq {l : List Entry} (hl : l.length ≤ 1000) : slices_Clone_f l = some l := by
  unfold slices_Clone_f
  rw [chk_pos (by omega), List.nil_append]
  exact nilq_of (fun h => by rw [h]) rfl
theorem put_L {l more : List Entry} {p : Nat} (hl : Good l) (hm : Good more) (hp : p ≤ l.length) : ∀ m k, more.length < m + k → k ≤ more.length → p + k ≤ l.length → (k < more.length ∨ True) →
    log_Put_L1 more (p : Int) l m (k : Int) = log_Put_J1 (l.take (p + k) ++ mrg (l.drop (p + k)) (more.drop k)) := by
  intro m
  induction m with
  | zero => intro k h1 h2; omega
  | succ m ih =>
    intro k h1 h2 h3 _
    have hl1 := hl.1; have hm1 := hm.1
    rw [log_Put_L1, cond_d]
    by_cases hk : k < more.length
    · have ew : IntKind.wrap .i64 ((p : Int) + (k : Int)) = ((p + k : Nat) : Int) := by rw [w64 (by omega) (by omega)]; omega
      have hJ : ∀ b : Bool, (b = true → p + k < l.length) → log_Put_J2 (log_Put_L1 more (p : Int) l m) (k : Int) (p : Int) l more b =
          if b = true then log_Put_J1 (l.take (p + (k + 1)) ++ mrg (l.drop (p + (k + 1))) (more.drop (k + 1))) else log_Put_J1 (l.take (p + k) ++ more.drop k) := by
        intro b hb
        unfold log_Put_J2
        cases b with
        | true => rw [cond_true, w64_succ (by omega), ih (k + 1) (by omega) (by omega) (by have := hb rfl; omega) (.inr trivial)]; rfl
        | false =>
          rw [cond_false, ew, chk_pos (by omega), chk_pos (by omega), chk_pos (by simp; omega)]
          simp [show ((p : Int) + (k : Int)).toNat = p + k by omega]
      rw [if_pos (by omega), idx_nat hk, Option.bind_some, ew, put_step h3 hk, cond_d]
      by_cases h : p + k < l.length
      · rw [if_pos (by omega), idx_nat h, Option.bind_some, alike_eq (hl.at h).1 (hm.at hk).1, Option.bind_some, dif_pos h, hJ _ (fun _ => h)]
        by_cases e : l[p + k] = more[k]
        · simp only [e, decide_true, if_true]; rfl
        · simp only [e, decide_false, Bool.false_eq_true, if_false]
      · rw [if_neg (by omega), dif_neg h, hJ false (fun h => by cases h)]; simp
    · have : k = more.length := by omega
      rw [if_neg (by omega), this, List.drop_length, mrg_nil, List.take_append_drop]
theorem put_eq {l more : List Entry} {p t : Int} (hl : Good l) (hm : Good more) : log_Put_f l p t more = some (putR l p t more) := by
  unfold log_Put_f putR
  rw [fits_eq hl.1, Option.bind_some, clone_eq hl.1]
  by_cases h : fits l p t = true
  · rw [h, if_pos rfl, Bool.not_true, cond_false, Option.bind_some]
    simp only [fits, decide_eq_true_eq] at h
    obtain ⟨q, rfl⟩ : ∃ q : Nat, p = q := ⟨p.toNat, by omega⟩
    have := put_L hl hm (p := q) (by omega) BIG 0 (by have := hm.1; rw [BIG_eq]; omega) (by omega) (by omega) (.inr trivial)
    have e2 : log_Put_L1 more (q : Int) l BIG 0 = log_Put_J1 (l.take (q + 0) ++ mrg (l.drop (q + 0)) (more.drop 0)) := this
    rw [e2, put_J]; rfl
  · have h' : fits l p t = false := by simpa using h
    rw [h', Bool.not_false, cond_true, if_neg (by simp)]
theorem rPut_L {l more : List Entry} {p : Nat} (hl : Good l) (hm : Good more) (hp : p ≤ l.length) : ∀ m k, more.length < m + k → k ≤ more.length → p + k ≤ l.length →
    ref13_Put_L1 more (p : Int) l m (k : Int) = ref13_Put_J2 (l.take (p + k) ++ mrg (l.drop (p + k)) (more.drop k)) := by
  intro m
  induction m with
  | zero => intro k h1 h2; omega
  | succ m ih =>
    intro k h1 h2 h3
    have hl1 := hl.1; have hm1 := hm.1
    have ew : IntKind.wrap .i64 ((p : Int) + (k : Int)) = ((p + k : Nat) : Int) := by rw [w64 (by omega) (by omega)]; omega
    have hJ1 : ref13_Put_J1 l more (p : Int) (k : Int) = ref13_Put_J2 (if k < more.length then l.take (p + k) ++ more.drop k else l) := by
      unfold ref13_Put_J1
      rw [chk_pos (by omega), cond_d]
      by_cases hk : k < more.length
      · rw [if_pos (by omega), if_pos hk, ew, chk_pos (by omega), chk_pos (by omega), chk_pos (by simp; omega)]; simp [show ((p : Int) + (k : Int)).toNat = p + k by omega]
      · rw [if_neg (by omega), if_neg hk, List.nil_append]
    have hJ : ∀ b : Bool, (b = true → k < more.length ∧ p + k < l.length) → ref13_Put_J3 (ref13_Put_L1 more (p : Int) l m) (k : Int) l more (p : Int) b =
        if b = true then ref13_Put_J2 (l.take (p + (k + 1)) ++ mrg (l.drop (p + (k + 1))) (more.drop (k + 1))) else ref13_Put_J2 (if k < more.length then l.take (p + k) ++ more.drop k else l) := by
      intro b hb
      unfold ref13_Put_J3
      cases b with
      | true => rw [cond_true, w64_succ (by omega), ih (k + 1) (by have := hb rfl; omega) (by have := hb rfl; omega) (by have := hb rfl; omega)]; rfl
      | false => rw [cond_false, hJ1]; rfl
    rw [ref13_Put_L1, cond_d]
    by_cases hk : k < more.length
    · rw [if_pos (by omega), ew, put_step h3 hk, cond_d]
      by_cases h : p + k < l.length
      · rw [if_pos (by omega), idx_nat h, Option.bind_some, idx_nat hk, Option.bind_some, rAlike_eq (by have := (hl.at h).2; omega), Option.bind_some, dif_pos h, hJ _ (fun _ => ⟨hk, h⟩)]
        by_cases e : l[p + k] = more[k]
        · simp only [e, decide_true, if_true]; rfl
        · simp only [e, decide_false, Bool.false_eq_true, if_false, if_pos hk]
      · rw [if_neg (by omega), dif_neg h, hJ false (fun h => by cases h)]; simp [hk]
    · have : k = more.length := by omega
      rw [if_neg (by omega), hJ false (fun h => by cases h)]
      subst this
      simp [mrg_nil, List.take_append_drop]
theorem rPut_eq {l more : List Entry} {p t : Int} (hl : Good l) (hm : Good more) : ref13_Put_f l p t more = some (putR l p t more) := by
  unfold ref13_Put_f putR
  rw [rFits_eq hl.1, Option.bind_some]
  by_cases h : fits l p t = true
  · rw [h, if_pos rfl, Bool.not_true, cond_false]
    simp only [fits, decide_eq_true_eq] at h
    obtain ⟨q, rfl⟩ : ∃ q : Nat, p = q := ⟨p.toNat, by omega⟩
    have := rPut_L hl hm (p := q) (by omega) BIG 0 (by have := hm.1; rw [BIG_eq]; omega) (by omega) (by omega)
    have e2 : ref13_Put_L1 more (q : Int) l BIG 0 = ref13_Put_J2 (l.take (q + 0) ++ mrg (l.drop (q + 0)) (more.drop 0)) := this
    rw [e2, rPut_J]; rfl
  · have h' : fits l p t = false := by simpa using h
    rw [h', Bool.not_false, cond_true, if_neg (by simp)]
end Go.Proofs.Ytiomajfdphmgaaa
