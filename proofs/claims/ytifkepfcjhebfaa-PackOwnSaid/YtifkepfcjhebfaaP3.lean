/- What is packed, as plain laws. -/
import Derived.Test.YtifkepfcjhebfaaP2
set_option linter.unusedSimpArgs false
set_option linter.unusedVariables false
namespace Go.Proofs.Ytifkepfcjhebfaa
open Go.Ab Go.RowKit
theorem strB_ok (s : ByteArray) : Bs (strBytes s) := fun x hx => by
  obtain ⟨b, _, rfl⟩ := List.mem_map.1 hx
  have := b.toNat_lt
  simp only [okI]; omega
theorem strB_nums {l : List Int} (h : Bs l) : strBytes (strOfNums l) = l := by
  unfold strBytes
  rw [strOfNums_data, List.map_map]
  have : ∀ x ∈ l, ((fun b : UInt8 => (b.toNat : Int)) ∘ fun n : Int => UInt8.ofNat n.toNat) x = x := fun x hx => by
    have := h x hx
    simp only [okI] at this
    show ((UInt8.ofNat x.toNat).toNat : Int) = x
    rw [UInt8.toNat_ofNat']; omega
  rw [List.map_congr_left (g := id) this, List.map_id]
theorem ba_ext {a b : ByteArray} (h : a.data.toList = b.data.toList) : a = b := by
  cases a; cases b; congr 1; exact Array.ext' h
theorem nums_strB (s : ByteArray) : strOfNums (strBytes s) = s := by
  apply ba_ext
  rw [strOfNums_data]
  unfold strBytes
  rw [List.map_map]
  have : ∀ x ∈ s.data.toList, ((fun n : Int => UInt8.ofNat n.toNat) ∘ fun b : UInt8 => (b.toNat : Int)) x = x := fun x _ => by
    show UInt8.ofNat ((x.toNat : Int).toNat) = x
    rw [Int.toNat_natCast]; simp
  rw [List.map_congr_left (g := id) this, List.map_id]
theorem tl_eq {a b : ByteArray} : (a.toList == b.toList) = decide (a = b) := by
  rw [Bool.eq_iff_iff, beq_iff_eq, decide_eq_true_eq]
  constructor
  · intro h
    rw [ByteArray.toList_eq, ByteArray.toList_eq] at h
    exact ba_ext h
  · rintro rfl; rfl
theorem rSame_eq {a b : List Int} (ha : Bs a) (hb : Bs b) : ref01_Same_f a b = some (decide (a = b)) := by
  unfold ref01_Same_f
  rw [tl_eq]
  congr 1
  rw [Bool.eq_iff_iff, decide_eq_true_eq, decide_eq_true_eq]
  constructor
  · intro h; rw [← strB_nums ha, ← strB_nums hb, h]
  · rintro rfl; rfl
def str (s : ByteArray) : List Int := num s.size ++ strBytes s
theorem okI_len {n : Nat} (h : n ≤ 1000000000000) : okI .i64 (n : Int) := by simp only [okI]; omega
theorem pStr_eq {s : ByteArray} (h : s.size ≤ 1000000) : pack_Str_f s = some (str s) := by
  unfold pack_Str_f
  have := num_len (okI_len (n := s.size) (by omega))
  rw [pInt_eq (okI_len (by omega)), Option.bind_some, chk_pos (by omega)]; rfl
theorem rStr_L {s : ByteArray} (h : s.size ≤ 1000000) (c : List Int) (hc : c.length ≤ 10) : ∀ (m k : Nat), s.size < m + k → k ≤ s.size → ref01_Str_L1 s m (c ++ (strBytes s).take k) (k : Int) = some (c ++ strBytes s) := by
  intro m
  induction m with
  | zero => intro k h1 h2; omega
  | succ m ih =>
    intro k h1 h2
    rw [ref01_Str_L1, cond_d]
    have hl := strBytes_len s
    by_cases hk : k < s.size
    · have hk2 : k < (strBytes s).length := by omega
      have e : ((s.data.toList.getD (k : Int).toNat 0).toNat : Int) = (strBytes s)[k] := by
        have hk3 : k < s.data.toList.length := by rw [Array.length_toList]; exact hk
        have h0 : (strBytes s)[k]? = some (((s.data.toList.getD (k : Int).toNat 0).toNat : Nat) : Int) := by
          unfold strBytes
          rw [List.getElem?_map, Int.toNat_natCast, List.getD_eq_getElem?_getD, List.getElem?_eq_getElem hk3]; rfl
        rw [List.getElem?_eq_getElem hk2] at h0
        injection h0 with h0
        exact h0.symm
      rw [if_pos (by omega), chk_pos (by omega), chk_pos (by simp; omega), e, w64_succ (by omega), List.append_assoc, ← take_snoc hk2]
      exact ih (k + 1) (by omega) (by omega)
    · rw [if_neg (by omega), ref01_Str_J1, List.take_of_length_le (by omega)]
theorem rStr_eq {s : ByteArray} (h : s.size ≤ 1000000) : ref01_Str_f s = some (str s) := by
  unfold ref01_Str_f
  have := num_len (okI_len (n := s.size) (by omega))
  rw [rInt_eq (okI_len (by omega)), Option.bind_some]
  have := rStr_L h (num s.size) (by omega) BIG 0 (by rw [BIG_eq]; omega) (by omega)
  rw [List.take_zero, List.append_nil] at this
  exact this
theorem str_len {s : ByteArray} (h : s.size ≤ 1000000) : 1 ≤ (str s).length ∧ (str s).length ≤ s.size + 10 := by
  have := num_len (okI_len (n := s.size) (by omega))
  unfold str; rw [List.length_append, strBytes_len]; omega
theorem str_ok {s : ByteArray} (h : s.size ≤ 1000000) : Bs (str s) := Bs.app (num_ok (okI_len (by omega))) (strB_ok s)
theorem nums_len {l : List Int} (h : ∀ x ∈ l, okI .i64 x) : l.length ≤ (l.flatMap num).length ∧ (l.flatMap num).length ≤ 10 * l.length := by
  induction l with
  | nil => simp
  | cons a l ih =>
    have := ih (fun x hx => h x (by simp [hx]))
    have := num_len (h a (by simp))
    rw [List.flatMap_cons, List.length_append, List.length_cons]; omega
theorem nums_ok {l : List Int} (h : ∀ x ∈ l, okI .i64 x) : Bs (l.flatMap num) := fun x hx => by
  obtain ⟨n, hn, h2⟩ := List.mem_flatMap.1 hx
  exact num_ok (h n hn) x h2
theorem fm_snoc {α : Type} {f : α → List Int} {l : List α} {k : Nat} (hk : k < l.length) : (l.take (k + 1)).flatMap f = (l.take k).flatMap f ++ f l[k] := by
  rw [take_snoc hk, List.flatMap_append]; simp
theorem pNums_L {l : List Int} (h : ∀ x ∈ l, okI .i64 x) (hl : l.length ≤ 1000000) : ∀ (m k : Nat), l.length < m + k → k ≤ l.length → pack_numbers_L1 l m ((l.take k).flatMap num) (k : Int) = some (l.flatMap num) := by
  intro m
  induction m with
  | zero => intro k h1 h2; omega
  | succ m ih =>
    intro k h1 h2
    rw [pack_numbers_L1, cond_d]
    by_cases hk : k < l.length
    · have h3 := nums_len (l := l.take k) (fun x hx => h x (List.mem_of_mem_take hx))
      have h4 := num_len (h _ (List.getElem_mem hk))
      simp only [List.length_take] at h3
      rw [if_pos (by omega), idx_nat hk, Option.bind_some, pInt_eq (h _ (List.getElem_mem hk)), Option.bind_some, chk_pos (by omega), w64_succ (by omega), ← fm_snoc hk]
      exact ih (k + 1) (by omega) (by omega)
    · rw [if_neg (by omega), pack_numbers_J1, List.take_of_length_le (by omega)]
theorem pNums_eq {l : List Int} (h : ∀ x ∈ l, okI .i64 x) (hl : l.length ≤ 1000000) : pack_numbers_f l = some (l.flatMap num) := by
  unfold pack_numbers_f
  have := pNums_L h hl BIG 0 (by rw [BIG_eq]; omega) (by omega)
  rw [List.take_zero] at this
  exact this
def ints (l : List Int) : List Int := num l.length ++ l.flatMap num
theorem pInts_eq {l : List Int} (h : ∀ x ∈ l, okI .i64 x) (hl : l.length ≤ 1000000) : pack_Ints_f l = some (ints l) := by
  unfold pack_Ints_f
  have := num_len (okI_len (n := l.length) (by omega))
  have := nums_len h
  rw [pInt_eq (okI_len (by omega)), Option.bind_some, pNums_eq h hl, Option.bind_some, chk_pos (by omega)]; rfl
theorem rInts_L {l : List Int} (h : ∀ x ∈ l, okI .i64 x) (hl : l.length ≤ 1000000) (c : List Int) (hc : c.length ≤ 10) : ∀ (m k : Nat), l.length < m + k → k ≤ l.length → ref01_Ints_L1 l m (c ++ (l.take k).flatMap num) (k : Int) = some (c ++ l.flatMap num) := by
  intro m
  induction m with
  | zero => intro k h1 h2; omega
  | succ m ih =>
    intro k h1 h2
    rw [ref01_Ints_L1, cond_d]
    by_cases hk : k < l.length
    · have h3 := nums_len (l := l.take k) (fun x hx => h x (List.mem_of_mem_take hx))
      have h4 := num_len (h _ (List.getElem_mem hk))
      simp only [List.length_take] at h3
      rw [if_pos (by omega), idx_nat hk, Option.bind_some, rInt_eq (h _ (List.getElem_mem hk)), Option.bind_some, chk_pos (by rw [List.length_append]; omega), w64_succ (by omega), List.append_assoc, ← fm_snoc hk]
      exact ih (k + 1) (by omega) (by omega)
    · rw [if_neg (by omega), ref01_Ints_J1, List.take_of_length_le (by omega)]
theorem rInts_eq {l : List Int} (h : ∀ x ∈ l, okI .i64 x) (hl : l.length ≤ 1000000) : ref01_Ints_f l = some (ints l) := by
  unfold ref01_Ints_f
  have := num_len (okI_len (n := l.length) (by omega))
  rw [rInt_eq (okI_len (by omega)), Option.bind_some]
  have := rInts_L h hl (num l.length) (by omega) BIG 0 (by rw [BIG_eq]; omega) (by omega)
  rw [List.take_zero, List.flatMap_nil, List.append_nil] at this
  exact this
theorem rAll_L {l : List (List Int)} {B : Nat} (h : ∀ x ∈ l, x.length ≤ B) (hl : l.length ≤ 1000) (hB : B ≤ 100000000000) : ∀ (m k : Nat), l.length < m + k → k ≤ l.length → ref01_all_L1 l m ((l.take k).flatten) (k : Int) = some l.flatten := by
  have hfl : ∀ k, ((l.take k).flatten).length ≤ k * B := by
    intro k
    induction k with
    | zero => simp
    | succ k ih =>
      by_cases hk : k < l.length
      · have := h _ (List.getElem_mem hk)
        have e1 : [l[k]].flatten.length = l[k].length := by simp
        rw [take_snoc hk, List.flatten_append, List.length_append, Nat.succ_mul, e1]; omega
      · rw [List.take_of_length_le (by omega)]; rw [List.take_of_length_le (by omega)] at ih; rw [Nat.succ_mul]; omega
  intro m
  induction m with
  | zero => intro k h1 h2; omega
  | succ m ih =>
    intro k h1 h2
    rw [ref01_all_L1, cond_d]
    by_cases hk : k < l.length
    · have h3 := hfl k
      have h4 := h _ (List.getElem_mem hk)
      have h5 : k * B ≤ 1000 * B := Nat.mul_le_mul_right _ (by omega)
      rw [if_pos (by omega), idx_nat hk, Option.bind_some, chk_pos (by omega), w64_succ (by omega)]
      have := ih (k + 1) (by omega) (by omega)
      rw [take_snoc hk, List.flatten_append] at this
      simpa using this
    · rw [if_neg (by omega), ref01_all_J1, List.take_of_length_le (by omega)]
theorem rAll_eq {l : List (List Int)} {B : Nat} (h : ∀ x ∈ l, x.length ≤ B) (hl : l.length ≤ 1000) (hB : B ≤ 100000000000) : ref01_all_f l = some l.flatten := by
  unfold ref01_all_f
  have := rAll_L h hl hB BIG 0 (by rw [BIG_eq]; omega) (by omega)
  rw [List.take_zero] at this
  exact this
/-! operations -/
def SOp (o : Op) : Prop := Op.ok o ∧ o.path.size ≤ 100000 ∧ o.to_.size ≤ 100000 ∧ o.data.length ≤ 100000
def opB (o : Op) : List Int := num o.kind ++ (num o.client ++ (str o.path ++ (str o.to_ ++ (num o.n ++ (num o.m ++ (num o.handle ++ str (strOfNums o.data)))))))
theorem nums_size (l : List Int) : (strOfNums l).size = l.length := strOfNums_size l
theorem pOp_eq {o : Op} (h : SOp o) : pack_Op_f o = some (opB o) := by
  obtain ⟨⟨h1, h2, h3, h4, h5, h6, h7, h8⟩, s1, s2, s3⟩ := h
  unfold pack_Op_f
  have l1 := num_len h1; have l2 := num_len h2; have l5 := num_len h5; have l6 := num_len h6; have l7 := num_len h7
  have m1 := str_len (s := o.path) (by omega); have m2 := str_len (s := o.to_) (by omega); have m3 := str_len (s := strOfNums o.data) (by rw [nums_size]; omega)
  rw [nums_size] at m3
  rw [pNums_eq (by intro x hx; simp at hx; rcases hx with rfl | rfl <;> assumption) (by simp), Option.bind_some, pStr_eq (by omega), Option.bind_some, chk_pos (by simp; omega), pStr_eq (by omega), Option.bind_some, chk_pos (by simp; omega),
    pNums_eq (by intro x hx; simp at hx; rcases hx with rfl | rfl | rfl <;> assumption) (by simp), Option.bind_some, chk_pos (by simp; omega), pStr_eq (by rw [nums_size]; omega), Option.bind_some, chk_pos (by simp; omega)]
  unfold opB
  simp
theorem rOp_eq {o : Op} (h : SOp o) : ref01_Op_f o = some (opB o) := by
  obtain ⟨⟨h1, h2, h3, h4, h5, h6, h7, h8⟩, s1, s2, s3⟩ := h
  unfold ref01_Op_f
  have l1 := num_len h1; have l2 := num_len h2; have l5 := num_len h5; have l6 := num_len h6; have l7 := num_len h7
  have m1 := str_len (s := o.path) (by omega); have m2 := str_len (s := o.to_) (by omega); have m3 := str_len (s := strOfNums o.data) (by rw [nums_size]; omega)
  rw [nums_size] at m3
  rw [rInt_eq h1, Option.bind_some, rInt_eq h2, Option.bind_some, rStr_eq (by omega), Option.bind_some, rStr_eq (by omega), Option.bind_some, rInt_eq h5, Option.bind_some, rInt_eq h6, Option.bind_some, rInt_eq h7, Option.bind_some, rStr_eq (by rw [nums_size]; omega), Option.bind_some,
    rAll_eq (B := 200000) (by intro x hx; simp at hx; rcases hx with rfl | rfl | rfl | rfl | rfl | rfl | rfl | rfl <;> omega) (by simp) (by omega), Option.bind_some]
  unfold opB
  simp
theorem opB_len {o : Op} (h : SOp o) : 1 ≤ (opB o).length ∧ (opB o).length ≤ 400000 := by
  obtain ⟨⟨h1, h2, h3, h4, h5, h6, h7, h8⟩, s1, s2, s3⟩ := h
  have l1 := num_len h1; have l2 := num_len h2; have l5 := num_len h5; have l6 := num_len h6; have l7 := num_len h7
  have m1 := str_len (s := o.path) (by omega); have m2 := str_len (s := o.to_) (by omega); have m3 := str_len (s := strOfNums o.data) (by rw [nums_size]; omega)
  rw [nums_size] at m3
  unfold opB; simp; omega
theorem opB_ok {o : Op} (h : SOp o) : Bs (opB o) := by
  obtain ⟨⟨h1, h2, h3, h4, h5, h6, h7, h8⟩, s1, s2, s3⟩ := h
  unfold opB
  exact Bs.app (num_ok h1) (Bs.app (num_ok h2) (Bs.app (str_ok (by omega)) (Bs.app (str_ok (by omega)) (Bs.app (num_ok h5) (Bs.app (num_ok h6) (Bs.app (num_ok h7) (str_ok (by rw [nums_size]; omega))))))))
/-! answers -/
def SAns (a : Ans) : Prop := Ans.ok a ∧ a.names.length ≤ 100000 ∧ (∀ s ∈ a.names, s.size ≤ 100000) ∧ a.data.length ≤ 100000
def ansH (a : Ans) : List Int := num a.err ++ (num a.ino ++ (num a.kind ++ (num a.n ++ num a.m)))
def ansB (a : Ans) : List Int := ansH a ++ ((num a.names.length ++ a.names.flatMap str) ++ str (strOfNums a.data))
theorem strs_len {l : List ByteArray} (h : ∀ s ∈ l, s.size ≤ 100000) : l.length ≤ (l.flatMap str).length ∧ (l.flatMap str).length ≤ 100010 * l.length := by
  induction l with
  | nil => simp
  | cons a l ih =>
    have := ih (fun x hx => h x (by simp [hx]))
    have h1 := h a (by simp)
    have := str_len (s := a) (by omega)
    rw [List.flatMap_cons, List.length_append, List.length_cons]; omega
theorem strs_ok {l : List ByteArray} (h : ∀ s ∈ l, s.size ≤ 100000) : Bs (l.flatMap str) := fun x hx => by
  obtain ⟨n, hn, h2⟩ := List.mem_flatMap.1 hx
  exact str_ok (by have := h n hn; omega) x h2
theorem pAns_L {a : Ans} (h : SAns a) (c : List Int) (hc : c.length ≤ 100) : ∀ (m k : Nat), a.names.length < m + k → k ≤ a.names.length → pack_Ans_L1 a m (c ++ (a.names.take k).flatMap str) (k : Int) = some (c ++ a.names.flatMap str ++ str (strOfNums a.data)) := by
  obtain ⟨hok, s1, s2, s3⟩ := h
  intro m
  induction m with
  | zero => intro k h1 h2; omega
  | succ m ih =>
    intro k h1 h2
    rw [pack_Ans_L1, cond_d]
    have h3 := strs_len (l := a.names.take k) (fun x hx => s2 x (List.mem_of_mem_take hx))
    simp only [List.length_take] at h3
    by_cases hk : k < a.names.length
    · have hz := s2 _ (List.getElem_mem hk)
      have h4 := str_len (s := a.names[k]) (by omega)
      rw [if_pos (by omega), idx_nat hk, Option.bind_some, pStr_eq (by omega), Option.bind_some, chk_pos (by rw [List.length_append]; omega), w64_succ (by omega), List.append_assoc, ← fm_snoc hk]
      exact ih (k + 1) (by omega) (by omega)
    · have m3 := str_len (s := strOfNums a.data) (by rw [nums_size]; omega)
      rw [nums_size] at m3
      rw [List.take_of_length_le (by omega)] at h3 ⊢
      rw [if_neg (by omega), pack_Ans_J1, pStr_eq (by rw [nums_size]; omega), Option.bind_some, chk_pos (by rw [List.length_append]; omega)]
theorem pAns_eq {a : Ans} (h : SAns a) : pack_Ans_f a = some (ansB a) := by
  have hL := pAns_L h
  obtain ⟨⟨h1, h2, h3, h4, h5, h6, h7⟩, s1, s2, s3⟩ := h
  unfold pack_Ans_f
  have hn := okI_len (n := a.names.length) (by omega)
  have l1 := num_len h1; have l2 := num_len h2; have l3 := num_len h3; have l4 := num_len h4; have l5 := num_len h5; have l6 := num_len hn
  rw [pNums_eq (by intro x hx; simp at hx; rcases hx with rfl | rfl | rfl | rfl | rfl | rfl <;> assumption) (by simp), Option.bind_some]
  have := hL ([a.err, a.ino, a.kind, a.n, a.m, (a.names.length : Int)].flatMap num) (by simp; omega) BIG 0 (by rw [BIG_eq]; omega) (by omega)
  rw [List.take_zero, List.flatMap_nil, List.append_nil] at this
  show pack_Ans_L1 a BIG _ ((0 : Nat) : Int) = _
  rw [this]
  unfold ansB ansH
  simp
theorem rAns_L {a : Ans} (h : SAns a) (c : List Int) (hc : c.length ≤ 100) : ∀ (m k : Nat), a.names.length < m + k → k ≤ a.names.length → ref01_Ans_L1 a m (c ++ (a.names.take k).flatMap str) (k : Int) = some (c ++ a.names.flatMap str ++ str (strOfNums a.data)) := by
  obtain ⟨hok, s1, s2, s3⟩ := h
  intro m
  induction m with
  | zero => intro k h1 h2; omega
  | succ m ih =>
    intro k h1 h2
    rw [ref01_Ans_L1, cond_d]
    have h3 := strs_len (l := a.names.take k) (fun x hx => s2 x (List.mem_of_mem_take hx))
    simp only [List.length_take] at h3
    by_cases hk : k < a.names.length
    · have hz := s2 _ (List.getElem_mem hk)
      have h4 := str_len (s := a.names[k]) (by omega)
      rw [if_pos (by omega), idx_nat hk, Option.bind_some, rStr_eq (by omega), Option.bind_some, chk_pos (by rw [List.length_append]; omega), w64_succ (by omega), List.append_assoc, ← fm_snoc hk]
      exact ih (k + 1) (by omega) (by omega)
    · have m3 := str_len (s := strOfNums a.data) (by rw [nums_size]; omega)
      rw [nums_size] at m3
      rw [List.take_of_length_le (by omega)] at h3 ⊢
      rw [if_neg (by omega), ref01_Ans_J1, rStr_eq (by rw [nums_size]; omega), Option.bind_some, rAll_eq (B := 20000000000) (by intro x hx; simp at hx; rcases hx with rfl | rfl <;> (try rw [List.length_append]) <;> omega) (by simp) (by omega), Option.bind_some]
      simp
theorem rAns_eq {a : Ans} (h : SAns a) : ref01_Ans_f a = some (ansB a) := by
  have hL := rAns_L h
  obtain ⟨⟨h1, h2, h3, h4, h5, h6, h7⟩, s1, s2, s3⟩ := h
  unfold ref01_Ans_f
  have hn := okI_len (n := a.names.length) (by omega)
  have l1 := num_len h1; have l2 := num_len h2; have l3 := num_len h3; have l4 := num_len h4; have l5 := num_len h5; have l6 := num_len hn
  rw [rInt_eq h1, Option.bind_some, rInt_eq h2, Option.bind_some, rInt_eq h3, Option.bind_some, rInt_eq h4, Option.bind_some, rInt_eq h5, Option.bind_some, rInt_eq hn, Option.bind_some, rAll_eq (B := 10) (by intro x hx; simp at hx; rcases hx with rfl | rfl | rfl | rfl | rfl | rfl <;> omega) (by simp) (by omega), Option.bind_some]
  have := hL ([num a.err, num a.ino, num a.kind, num a.n, num a.m, num (a.names.length : Int)].flatten) (by simp; omega) BIG 0 (by rw [BIG_eq]; omega) (by omega)
  rw [List.take_zero, List.flatMap_nil, List.append_nil] at this
  show ref01_Ans_L1 a BIG _ ((0 : Nat) : Int) = _
  rw [this]
  unfold ansB ansH
  simp
theorem ansB_ok {a : Ans} (h : SAns a) : Bs (ansB a) := by
  obtain ⟨⟨h1, h2, h3, h4, h5, h6, h7⟩, s1, s2, s3⟩ := h
  unfold ansB ansH
  exact Bs.app (Bs.app (num_ok h1) (Bs.app (num_ok h2) (Bs.app (num_ok h3) (Bs.app (num_ok h4) (num_ok h5))))) (Bs.app (Bs.app (num_ok (okI_len (by omega))) (strs_ok s2)) (str_ok (by rw [nums_size]; omega)))
end Go.Proofs.Ytifkepfcjhebfaa
