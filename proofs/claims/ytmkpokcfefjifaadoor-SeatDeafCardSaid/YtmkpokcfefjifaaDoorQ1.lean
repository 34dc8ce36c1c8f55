import Derived.Test.YtmkpokcfefjifaaDoorF2
import Derived.Test.YtmkpokcfefjifaaDoorW
import Derived.Test.YtmkpokcfefjifaaDoorB7
import Derived.Test.YtmkpokcfefjifaaDoorB8
set_option linter.unusedSectionVars false
/- Logs, votes and sorting, as plain laws (lines of the proofs of layers 13 and 14, turned to this seat). -/
set_option linter.unusedSimpArgs false
set_option linter.unusedVariables false
namespace Go.Proofs.YtmkpokcfefjifaaDoor
open Go.Ab Go.RowKit
theorem byte_inj {m n : Int} (hm : okI .u8 m) (hn : okI .u8 n) (h : UInt8.ofNat m.toNat = UInt8.ofNat n.toNat) : m = n := by
  simp only [okI] at hm hn
  have h2 : (UInt8.ofNat m.toNat).toNat = (UInt8.ofNat n.toNat).toNat := by rw [h]
  rw [UInt8.toNat_ofNat', UInt8.toNat_ofNat'] at h2
  omega
theorem bytes_inj : ∀ {a b : List Int}, (∀ x ∈ a, okI .u8 x) → (∀ x ∈ b, okI .u8 x) → a.map (fun n => UInt8.ofNat n.toNat) = b.map (fun n => UInt8.ofNat n.toNat) → a = b
  | [], [], _, _, _ => rfl
  | [], y :: b, _, _, h => by cases h
  | x :: a, [], _, _, h => by cases h
  | x :: a, y :: b, ha, hb, h => by
    simp only [List.map_cons, List.cons.injEq] at h
    rw [byte_inj (ha x (by simp)) (hb y (by simp)) h.1, bytes_inj (fun z hz => ha z (by simp [hz])) (fun z hz => hb z (by simp [hz])) h.2]
theorem str_inj {a b : List Int} (ha : ∀ x ∈ a, okI .u8 x) (hb : ∀ x ∈ b, okI .u8 x) : ((strOfNums a).toList == (strOfNums b).toList) = decide (a = b) := by
  rw [Bool.eq_iff_iff, beq_iff_eq, decide_eq_true_eq]
  constructor
  · intro h
    have h2 : (strOfNums a).data.toList = (strOfNums b).data.toList := by
      have : ∀ s : ByteArray, s.toList = s.data.toList := fun s => ByteArray.toList_eq s
      rw [← this, ← this, h]
    rw [strOfNums_data, strOfNums_data] at h2
    exact bytes_inj ha hb h2
  · rintro rfl; rfl
theorem alike_eq {a b : Entry} (ha : Entry.ok a) (hb : Entry.ok b) : log_alike_f a b = some (decide (a = b)) := by
  unfold log_alike_f bytes_Equal_f
  rw [str_inj ha.2 hb.2]
  simp only [Option.bind_some]
  obtain ⟨t, d⟩ := a; obtain ⟨t', d'⟩ := b
  by_cases h : t = t'
  · subst h; simp
  · have : (t == t') = false := by simpa using h
    rw [this]; simp [h]
def Good (l : List Entry) : Prop := l.length ≤ 1000 ∧ ∀ e ∈ l, Entry.ok e ∧ e.data.length ≤ 200
theorem Good.at {l : List Entry} (h : Good l) {k : Nat} (hk : k < l.length) : Entry.ok l[k] ∧ l[k].data.length ≤ 200 := h.2 _ (List.getElem_mem hk)
theorem Good.take {l : List Entry} (h : Good l) (k : Nat) : Good (l.take k) := ⟨by have := h.1; simp; omega, fun e he => h.2 e (List.mem_of_mem_take he)⟩
theorem Good.drop {l : List Entry} (h : Good l) (k : Nat) : Good (l.drop k) := ⟨by have := h.1; simp; omega, fun e he => h.2 e (List.mem_of_mem_drop he)⟩
theorem Good.nil : Good [] := ⟨by simp, fun e he => by cases he⟩
/-- the term at a place -/
def tm (l : List Entry) (p : Nat) : Int := if p = 0 then 0 else (l.getD (p - 1) default).term
theorem idx_pred {l : List Entry} {p : Nat} (h0 : p ≠ 0) (hp : p ≤ l.length) (hl : l.length ≤ 1000) : idx l (IntKind.wrap .i64 ((p : Int) - 1)) = some (l.getD (p - 1) default) := by
  rw [w64 (by omega) (by omega)]
  have : ((p : Int) - 1) = ((p - 1 : Nat) : Int) := by omega
  rw [this, idx_nat (by omega)]
  simp [List.getD_eq_getElem?_getD, show p - 1 < l.length by omega]
def fits (l : List Entry) (p : Int) (t : Int) : Bool := decide (0 ≤ p ∧ p ≤ l.length ∧ tm l p.toNat = t)
theorem fits_eq {l : List Entry} {p t : Int} (hl : l.length ≤ 1000) : log_Fits_f l p t = some (fits l p t) := by
  unfold log_Fits_f log_Fits_J1 fits
  by_cases h : 0 ≤ p ∧ p ≤ l.length
  · obtain ⟨q, rfl⟩ : ∃ q : Nat, p = q := ⟨p.toNat, by omega⟩
    have e : ((decide ((q : Int) < 0)) || (decide ((l.length : Int) < q))) = false := by simp; omega
    rw [e, cond_false]
    by_cases h0 : q = 0
    · subst h0
      show some ((t == 0)) = _
      congr 1
      rw [Bool.eq_iff_iff, beq_iff_eq, decide_eq_true_eq]
      exact ⟨fun e => ⟨by omega, by omega, e.symm⟩, fun e => e.2.2.symm⟩
    · have : ((q : Int) == 0) = false := by rw [beq_eq_false_iff_ne]; omega
      rw [this, cond_false, idx_pred h0 (by omega) hl, Option.bind_some]
      congr 1
      rw [Bool.eq_iff_iff, beq_iff_eq, decide_eq_true_eq]
      simp only [Int.toNat_natCast, tm, if_neg h0]
      exact ⟨fun e => ⟨by omega, by omega, e⟩, fun e => e.2.2⟩
  · have e : ((decide (p < 0)) || (decide ((l.length : Int) < p))) = true := by
      rw [Bool.or_eq_true, decide_eq_true_eq, decide_eq_true_eq]; omega
    rw [e, cond_true]; congr 1; symm; rw [decide_eq_false_iff_not]; rintro ⟨h1, h2, _⟩; exact h ⟨h1, h2⟩
def mrg : List Entry → List Entry → List Entry
  | xs, [] => xs
  | [], y :: ys => y :: ys
  | x :: xs, y :: ys => if x = y then x :: mrg xs ys else y :: ys
def put (l : List Entry) (p : Nat) (more : List Entry) : List Entry := l.take p ++ mrg (l.drop p) more
def putR (l : List Entry) (p : Int) (t : Int) (more : List Entry) : List Entry × Bool :=
  if fits l p t = true then (if 500 < (put l p.toNat more).length then ([], false) else (put l p.toNat more, true)) else ([], false)
theorem mrg_nil (xs : List Entry) : mrg xs [] = xs := by cases xs <;> rfl
theorem mrg_e (ys : List Entry) : mrg [] ys = ys := by cases ys <;> rfl
theorem mrg_cons (x y : Entry) (xs ys : List Entry) : mrg (x :: xs) (y :: ys) = if x = y then x :: mrg xs ys else y :: ys := rfl
theorem put_step {l more : List Entry} {p k : Nat} (hp : p + k ≤ l.length) (hk : k < more.length) :
    l.take (p + k) ++ mrg (l.drop (p + k)) (more.drop k) = if h : p + k < l.length then (if l[p + k] = more[k] then l.take (p + k + 1) ++ mrg (l.drop (p + k + 1)) (more.drop (k + 1)) else l.take (p + k) ++ more.drop k) else l.take (p + k) ++ more.drop k := by
  by_cases h : p + k < l.length
  · rw [dif_pos h, drop_cons h, drop_cons hk]
    rw [mrg_cons]
    by_cases e : l[p + k] = more[k]
    · rw [if_pos e, if_pos e, take_snoc h, List.append_assoc, List.singleton_append]
    · rw [if_neg e, if_neg e]
  · rw [dif_neg h, List.drop_of_length_le (by omega : l.length ≤ p + k), mrg_e]
theorem put_J {out : List Entry} : log_Put_J1 out = some (if 500 < out.length then ([], false) else (out, true)) := by
  unfold log_Put_J1; rw [cond_d]
  by_cases h : 500 < out.length
  · rw [if_pos (by omega), if_pos h]
  · rw [if_neg (by omega), if_neg h]
theorem clone_eq {l : List Entry} (hl : l.length ≤ 1000) : slices_Clone_f l = some l := by
  unfold slices_Clone_f
  rw [chk_pos (by omega), List.nil_append]
  exact nilq_of (fun h => by rw [h]) rfl
theorem put_L {l more : List Entry} {p : Nat} (hl : Good l) (hm : Good more) (hp : p ≤ l.length) : ∀ m k, more.length < m + k → k ≤ more.length → p + k ≤ l.length → (k < more.length ∨ True) →
    log_Put_L1 more (p : Int) l m (k : Int) = log_Put_J1 (l.take (p + k) ++ mrg (l.drop (p + k)) (more.drop k)) := by
  intro m
  induction m with
  | zero => intro k h1 h2; omega
  | succ m ih =>
    intro k h1 h2 h3 _
    have hl1 := hl.1; have hm1 := hm.1
    rw [log_Put_L1, cond_d]
    by_cases hk : k < more.length
    · have ew : IntKind.wrap .i64 ((p : Int) + (k : Int)) = ((p + k : Nat) : Int) := by rw [w64 (by omega) (by omega)]; omega
      have hJ : ∀ b : Bool, (b = true → p + k < l.length) → log_Put_J2 (log_Put_L1 more (p : Int) l m) (k : Int) l more ((p + k : Nat) : Int) b =
          if b = true then log_Put_J1 (l.take (p + (k + 1)) ++ mrg (l.drop (p + (k + 1))) (more.drop (k + 1))) else log_Put_J1 (l.take (p + k) ++ more.drop k) := by
        intro b hb
        unfold log_Put_J2
        cases b with
        | true => rw [cond_true, w64_succ (by omega), ih (k + 1) (by omega) (by omega) (by have := hb rfl; omega) (.inr trivial)]; rfl
        | false =>
          rw [cond_false, chk_pos (by omega), chk_pos (by omega), chk_pos (by simp; omega)]
          rw [Int.toNat_natCast, Int.toNat_natCast]; simp
      rw [if_pos (by omega), idx_nat hk, Option.bind_some, ew, put_step h3 hk, cond_d]
      by_cases h : p + k < l.length
      · rw [if_pos (by omega), idx_nat h, Option.bind_some, alike_eq (hl.at h).1 (hm.at hk).1, Option.bind_some, dif_pos h, hJ _ (fun _ => h)]
        by_cases e : l[p + k] = more[k]
        · simp only [e, decide_true, if_true]; rfl
        · simp only [e, decide_false, Bool.false_eq_true, if_false]
      · rw [if_neg (by omega), dif_neg h, hJ false (fun h => by cases h)]; simp
    · have : k = more.length := by omega
      rw [if_neg (by omega), this, List.drop_length, mrg_nil, List.take_append_drop]
theorem put_eq {l more : List Entry} {p t : Int} (hl : Good l) (hm : Good more) : log_Put_f l p t more = some (putR l p t more) := by
  unfold log_Put_f putR
  rw [fits_eq hl.1, Option.bind_some, clone_eq hl.1]
  by_cases h : fits l p t = true
  · rw [h, if_pos rfl, Bool.not_true, cond_false, Option.bind_some]
    simp only [fits, decide_eq_true_eq] at h
    obtain ⟨q, rfl⟩ : ∃ q : Nat, p = q := ⟨p.toNat, by omega⟩
    have := put_L hl hm (p := q) (by omega) BIG 0 (by have := hm.1; rw [BIG_eq]; omega) (by omega) (by omega) (.inr trivial)
    have e2 : log_Put_L1 more (q : Int) l BIG 0 = log_Put_J1 (l.take (q + 0) ++ mrg (l.drop (q + 0)) (more.drop 0)) := this
    rw [e2, put_J]; rfl
  · have h' : fits l p t = false := by simpa using h
    rw [h', Bool.not_false, cond_true, if_neg (by simp)]
def tmi (l : List Entry) (i : Nat) : Int := (l.getD i default).term
def meetsFrom (a b : List Entry) (k : Nat) : Prop := ∀ j, k ≤ j → j < a.length → j < b.length → tmi a j = tmi b j → a.take (j + 1) = b.take (j + 1)
def meets (a b : List Entry) : Prop := meetsFrom a b 0
theorem has_L {l : List Int} {x : Int} (hl : l.length ≤ 1000000) : ∀ m k, l.length < m + k → k ≤ l.length → ref14_Has_L1 l x m (k : Int) = some ((l.drop k).contains x) := by
  intro m
  induction m with
  | zero => intro k h1 h2; omega
  | succ m ih =>
    intro k h1 h2
    rw [ref14_Has_L1, cond_d]
    by_cases hk : k < l.length
    · rw [if_pos (by omega), idx_nat hk, Option.bind_some, w64_succ (by omega), ih (k + 1) (by omega) (by omega), drop_cons hk, List.contains_cons]
      by_cases hx : l[k] = x
      · simp [hx]
      · have : (l[k] == x) = false := by simpa using hx
        have h' : (x == l[k]) = false := by simpa using fun e : x = l[k] => hx e.symm
        rw [this, h']; simp
    · rw [if_neg (by omega), List.drop_of_length_le (by omega)]
      simp [ref14_Has_J1]
theorem has_eq {l : List Int} {x : Int} (hl : l.length ≤ 1000000) : ref14_Has_f l x = some (l.contains x) := by
  unfold ref14_Has_f
  exact has_L hl BIG 0 (by rw [BIG_eq]; omega) (by omega)
theorem index_L {l : List Int} {x : Int} (hl : l.length ≤ 1000000) : ∀ m k, l.length < m + k → k ≤ l.length → ∃ r, slices_Index_L1 l x m (k : Int) = some r ∧ (0 ≤ r ↔ (l.drop k).contains x = true) := by
  intro m
  induction m with
  | zero => intro k h1 h2; omega
  | succ m ih =>
    intro k h1 h2
    rw [slices_Index_L1, cond_d]
    by_cases hk : k < l.length
    · rw [if_pos (by omega), idx_nat hk, Option.bind_some, w64_succ (by omega), drop_cons hk, List.contains_cons]
      obtain ⟨r, e, h⟩ := ih (k + 1) (by omega) (by omega)
      by_cases hx : x = l[k]
      · refine ⟨k, ?_, ?_⟩
        · have : (x == l[k]) = true := by simpa using hx
          rw [this]; rfl
        · have : (x == l[k]) = true := by simpa using hx
          rw [this]; simp
      · have h' : (x == l[k]) = false := by simpa using hx
        rw [h']
        exact ⟨r, e, by simpa using h⟩
    · rw [if_neg (by omega), List.drop_of_length_le (by omega)]
      exact ⟨-1, rfl, by simp⟩
theorem contains_eq {l : List Int} {x : Int} (hl : l.length ≤ 1000000) : slices_Contains_f l x = some (l.contains x) := by
  unfold slices_Contains_f slices_Index_f
  obtain ⟨r, e, h⟩ := index_L (x := x) hl BIG 0 (by rw [BIG_eq]; omega) (by omega)
  have e' : slices_Index_L1 l x BIG 0 = some r := e
  rw [e', Option.bind_some]
  rw [List.drop_zero] at h
  congr 1
  rw [Bool.eq_iff_iff, decide_eq_true_eq]; exact h

section
variable {l : List Entry} {t : Int}
end
def free (s : Seat) (who : Int) : Bool := s.voted == -1 || s.voted == who
section
variable {α : Type}
end
end Go.Proofs.YtmkpokcfefjifaaDoor
