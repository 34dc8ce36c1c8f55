/- The head, cuts and likenesses of layer 1's laws. -/
import Derived.Test.YtifkepfcjhebfaaP6
set_option linter.unusedSimpArgs false
set_option linter.unusedVariables false
namespace Go.Proofs.Ytifkepfcjhebfaa
open Go.Ab Go.RowKit
theorem mn200 (n : Nat) : (if 200 < (n : Int) then 200 else (n : Int)) = ((min n 200 : Nat) : Int) := by split <;> omega
theorem mn100 (n : Nat) : (if 100 < (n : Int) then 100 else (n : Int)) = ((min n 100 : Nat) : Int) := by split <;> omega
theorem mn300 (n : Nat) : (if 300 < (n : Int) then 300 else (n : Int)) = ((min n 300 : Nat) : Int) := by split <;> omega
theorem mn500 (n : Nat) : (if 500 < (n : Int) then 500 else (n : Int)) = ((min n 500 : Nat) : Int) := by split <;> omega
theorem mn2000 (n : Nat) : (if 2000 < (n : Int) then 2000 else (n : Int)) = ((min n 2000 : Nat) : Int) := by split <;> omega
theorem few_eq (b : List Int) : law01_few_f b = some (b.take 2000) := by
  unfold law01_few_f
  rw [mn2000]
  have h : (b.take (min b.length 2000)).length ≤ 2000 := by rw [List.length_take]; omega
  rw [chk_pos (by omega), Int.toNat_natCast, List.drop_zero, chk_pos (by omega), List.nil_append]
  congr 1
  rcases Nat.le_total b.length 2000 with h | h
  · rw [Nat.min_eq_left h, List.take_length, List.take_of_length_le (by omega)]
  · rw [Nat.min_eq_right h]
theorem ext_size (s : ByteArray) (k : Nat) : (s.extract 0 (min s.size k)).size ≤ k := by rw [ByteArray.size_extract]; omega
theorem cutOp_eq {o : Op} (h : Op.ok o) : ∃ p, ref01_CutOp_f o = some p ∧ SOp p ∧ (opB p).length ≤ 2000 := by
  obtain ⟨h1, h2, h3, h4, h5, h6, h7, h8⟩ := h
  unfold ref01_CutOp_f
  rw [mn300, mn300, mn300]
  have hd : (o.data.take (min o.data.length 300)).length ≤ 300 := by rw [List.length_take]; omega
  have a1 := ext_size o.path 300
  have a2 := ext_size o.to_ 300
  simp only [Int.toNat_natCast, List.drop_zero, List.nil_append]
  rw [chk_pos (by omega), chk_pos (by omega), chk_pos (by omega), chk_pos (by omega)]
  have hb : Bs (o.data.take (min o.data.length 300)) := Bs.take h8 _
  refine ⟨_, rfl, ⟨⟨h1, h2, ?_, ?_, h5, h6, h7, hb⟩, ?_, ?_, ?_⟩, ?_⟩
  · show (o.path.extract 0 (min o.path.size 300)).size ≤ _; omega
  · show (o.to_.extract 0 (min o.to_.size 300)).size ≤ _; omega
  · show (o.path.extract 0 (min o.path.size 300)).size ≤ _; omega
  · show (o.to_.extract 0 (min o.to_.size 300)).size ≤ _; omega
  · show (o.data.take (min o.data.length 300)).length ≤ _; omega
  · have l1 := num_len h1; have l2 := num_len h2; have l5 := num_len h5; have l6 := num_len h6; have l7 := num_len h7
    have m1 := str_len (s := o.path.extract 0 (min o.path.size 300)) (by omega)
    have m2 := str_len (s := o.to_.extract 0 (min o.to_.size 300)) (by omega)
    have m3 := str_len (s := strOfNums (o.data.take (min o.data.length 300))) (by rw [nums_size]; omega)
    rw [nums_size] at m3
    unfold opB
    simp only [List.length_append]
    omega
def Cans (q : Ans) : Prop := SAns q ∧ q.names.length ≤ 40 ∧ (∀ s ∈ q.names, s.size ≤ 100) ∧ q.data.length ≤ 300
theorem cutAns_L {a : Ans} (h : Ans.ok a) : ∀ (m k : Nat) (l : List ByteArray), 41 < m + k → k ≤ a.names.length → k ≤ 40 → l.length = k → (∀ s ∈ l, s.size ≤ 100) → ∃ q, ref01_CutAns_L1 a m l (k : Int) = some q ∧ Cans q := by
  obtain ⟨h1, h2, h3, h4, h5, h6, h7⟩ := h
  intro m
  induction m with
  | zero => intro k l q1 q2 q3; omega
  | succ m ih =>
    intro k l q1 q2 q3 q4 q5
    rw [ref01_CutAns_L1, ref01_CutAns_J2]
    by_cases hk : k < a.names.length ∧ k < 40
    · have e : ((decide ((k : Int) < a.names.length)) && (decide ((k : Int) < 40))) = true := by rw [Bool.and_eq_true, decide_eq_true_eq, decide_eq_true_eq]; omega
      rw [e, cond_true, idx_nat hk.1, Option.bind_some, mn100, chk_pos (by omega), chk_pos (by omega), w64_succ (by omega), Int.toNat_natCast]
      refine ih (k + 1) _ (by omega) (by omega) (by omega) (by simp; omega) (fun s hs => ?_)
      rcases List.mem_append.1 hs with h | h
      · exact q5 s h
      · rw [List.mem_singleton.1 h]; exact ext_size _ 100
    · have e : ((decide ((k : Int) < a.names.length)) && (decide ((k : Int) < 40))) = false := by
        rw [Bool.eq_false_iff]; intro hh; rw [Bool.and_eq_true, decide_eq_true_eq, decide_eq_true_eq] at hh; omega
      have hd : (a.data.take (min a.data.length 300)).length ≤ 300 := by rw [List.length_take]; omega
      have hb : Bs (a.data.take (min a.data.length 300)) := Bs.take h7 _
      rw [e, cond_false, ref01_CutAns_J1, mn300]
      simp only [Int.toNat_natCast, List.drop_zero, List.nil_append]
      rw [chk_pos (by omega), chk_pos (by omega)]
      exact ⟨_, rfl, ⟨⟨h1, h2, h3, h4, h5, fun s hs => (by have := q5 s hs; show s.size ≤ _; omega), hb⟩, by show l.length ≤ _; omega, fun s hs => by have := q5 s hs; omega, by show (a.data.take (min a.data.length 300)).length ≤ _; omega⟩, by show l.length ≤ _; omega, q5, hd⟩
theorem cutAns_eq {a : Ans} (h : Ans.ok a) : ∃ q, ref01_CutAns_f a = some q ∧ Cans q := by
  unfold ref01_CutAns_f
  exact cutAns_L h BIG 0 [] (by rw [BIG_eq]; omega) (by omega) (by omega) rfl (fun s hs => by cases hs)
theorem strs_len2 {l : List ByteArray} (h : ∀ s ∈ l, s.size ≤ 100) : (l.flatMap str).length ≤ 110 * l.length := by
  induction l with
  | nil => simp
  | cons a l ih =>
    have := ih (fun x hx => h x (by simp [hx]))
    have h1 := h a (by simp)
    have := str_len (s := a) (by omega)
    rw [List.flatMap_cons, List.length_append, List.length_cons]; omega
theorem ansB_len {q : Ans} (h : Cans q) : 1 ≤ (ansB q).length ∧ (ansB q).length ≤ 10000 := by
  obtain ⟨⟨⟨h1, h2, h3, h4, h5, h6, h7⟩, s1, s2, s3⟩, t1, t2, t3⟩ := h
  have l1 := num_len h1; have l2 := num_len h2; have l3 := num_len h3; have l4 := num_len h4; have l5 := num_len h5; have l6 := num_len (okI_len (n := q.names.length) (by omega))
  have m3 := str_len (s := strOfNums q.data) (by rw [nums_size]; omega)
  rw [nums_size] at m3
  have := strs_len2 t2
  unfold ansB ansH
  simp only [List.length_append]
  omega
/-! likeness -/
theorem sameOp_eq {a b : Op} (ha : Bs a.data) (hb : Bs b.data) : ref01_SameOp_f a b = some (decide (a = b)) := by
  unfold ref01_SameOp_f
  rw [rSame_eq ha hb, tl_eq, tl_eq, Option.bind_some]
  obtain ⟨a1, a2, a3, a4, a5, a6, a7, a8⟩ := a
  obtain ⟨b1, b2, b3, b4, b5, b6, b7, b8⟩ := b
  simp only [Op.mk.injEq]
  by_cases c1 : a1 = b1 <;> by_cases c2 : a2 = b2 <;> by_cases c3 : a3 = b3 <;> by_cases c4 : a4 = b4 <;> by_cases c5 : a5 = b5 <;> by_cases c6 : a6 = b6 <;> by_cases c7 : a7 = b7 <;> simp [Bool.cond_eq_ite, c1, c2, c3, c4, c5, c6, c7]
theorem sameAns_L {a b : Ans} (hl : a.names.length = b.names.length) (h2 : a.names.length ≤ 1000000) : ∀ (m k : Nat), a.names.length < m + k → k ≤ a.names.length → ref01_SameAns_L1 a b m (k : Int) = some (decide (a.names.drop k = b.names.drop k)) := by
  intro m
  induction m with
  | zero => intro k h1 h2; omega
  | succ m ih =>
    intro k h1 h2
    rw [ref01_SameAns_L1, cond_d]
    by_cases hk : k < a.names.length
    · have hk' : k < b.names.length := by omega
      rw [if_pos (by omega), idx_nat hk, Option.bind_some, idx_nat hk', Option.bind_some, w64_succ (by omega), ih (k + 1) (by omega) (by omega), drop_cons hk, drop_cons hk', tl_eq]
      by_cases hx : a.names[k] = b.names[k]
      · rw [decide_eq_true hx, Bool.not_true, cond_false]; congr 1; rw [Bool.eq_iff_iff, decide_eq_true_eq, decide_eq_true_eq, List.cons.injEq]; exact ⟨fun h => ⟨hx, h⟩, fun h => h.2⟩
      · rw [decide_eq_false hx, Bool.not_false, cond_true]; congr 1; symm; rw [decide_eq_false_iff_not, List.cons.injEq]; exact fun h => hx h.1
    · rw [if_neg (by omega), List.drop_of_length_le (by omega), List.drop_of_length_le (by omega)]
      simp [ref01_SameAns_J2]
theorem sameAns_eq {a b : Ans} (ha : Bs a.data) (hb : Bs b.data) (h2 : a.names.length ≤ 1000000) : ref01_SameAns_f a b = some (decide (a = b)) := by
  unfold ref01_SameAns_f
  rw [rSame_eq ha hb, Option.bind_some]
  have hL : a.names.length = b.names.length → ref01_SameAns_L1 a b BIG 0 = some (decide (a.names = b.names)) := fun hl => by
    have := sameAns_L hl h2 BIG 0 (by rw [BIG_eq]; omega) (by omega)
    rw [List.drop_zero, List.drop_zero] at this; exact this
  have hT : ref01_SameAns_J1 a b true = some false := rfl
  have hF : ref01_SameAns_J1 a b false = ref01_SameAns_L1 a b BIG 0 := rfl
  obtain ⟨a1, a2, a3, a4, a5, a6, a7⟩ := a
  obtain ⟨b1, b2, b3, b4, b5, b6, b7⟩ := b
  simp only [Ans.mk.injEq] at *
  have hn : ∀ {x y : Int}, x ≠ y → (x != y) = true := fun h => by rw [bne_iff_ne]; exact h
  have hy : ∀ {x y : Int}, x = y → (x != y) = false := fun h => by rw [bne_eq_false_iff_eq]; exact h
  by_cases c1 : a1 = b1
  case neg => rw [hn c1, cond_true, hT]; simp [c1]
  by_cases c2 : a2 = b2
  case neg => rw [hy c1, hn c2, cond_false, cond_true, hT]; simp [c2]
  by_cases c3 : a3 = b3
  case neg => rw [hy c1, hy c2, hn c3, cond_false, cond_false, cond_true, hT]; simp [c3]
  by_cases c4 : a4 = b4
  case neg => rw [hy c1, hy c2, hy c3, hn c4]; simp [c4, hT]
  by_cases c5 : a5 = b5
  case neg => rw [hy c1, hy c2, hy c3, hy c4, hn c5]; simp [c5, hT]
  by_cases c6 : a6.length = b6.length
  case neg =>
    have e : ((a6.length : Int) != b6.length) = true := by rw [bne_iff_ne]; omega
    have : a6 ≠ b6 := fun h => c6 (by rw [h])
    rw [hy c1, hy c2, hy c3, hy c4, hy c5, e]; simp [this, hT]
  have e : ((a6.length : Int) != b6.length) = false := by rw [bne_eq_false_iff_eq]; omega
  rw [hy c1, hy c2, hy c3, hy c4, hy c5, e]
  simp only [cond_false]
  by_cases c7 : a7 = b7
  · rw [decide_eq_true c7, Bool.not_true, hF, hL c6]; simp [c1, c2, c3, c4, c5, c7]
  · rw [decide_eq_false c7, Bool.not_false, hT]; simp [c7]
theorem sameInts_L {a b : List Int} (hl : a.length = b.length) (h2 : a.length ≤ 1000000) : ∀ (m k : Nat), a.length < m + k → k ≤ a.length → ref01_SameInts_L1 a b m (k : Int) = some (decide (a.drop k = b.drop k)) := by
  intro m
  induction m with
  | zero => intro k h1 h2; omega
  | succ m ih =>
    intro k h1 h2
    rw [ref01_SameInts_L1, cond_d]
    by_cases hk : k < a.length
    · have hk' : k < b.length := by omega
      rw [if_pos (by omega), idx_nat hk, Option.bind_some, idx_nat hk', Option.bind_some, w64_succ (by omega), ih (k + 1) (by omega) (by omega), drop_cons hk, drop_cons hk']
      by_cases hx : a[k] = b[k]
      · have : (a[k] != b[k]) = false := by rw [bne_eq_false_iff_eq]; exact hx
        rw [this, cond_false]; congr 1; rw [Bool.eq_iff_iff, decide_eq_true_eq, decide_eq_true_eq, List.cons.injEq]; exact ⟨fun h => ⟨hx, h⟩, fun h => h.2⟩
      · have : (a[k] != b[k]) = true := by rw [bne_iff_ne]; exact hx
        rw [this, cond_true]; congr 1; symm; rw [decide_eq_false_iff_not, List.cons.injEq]; exact fun h => hx h.1
    · rw [if_neg (by omega), List.drop_of_length_le (by omega), List.drop_of_length_le (by omega)]
      simp [ref01_SameInts_J1]
theorem sameInts_eq {a b : List Int} (h2 : a.length ≤ 1000000) : ref01_SameInts_f a b = some (decide (a = b)) := by
  unfold ref01_SameInts_f
  by_cases hl : a.length = b.length
  · have e : ((a.length : Int) != b.length) = false := by rw [bne_eq_false_iff_eq]; omega
    have := sameInts_L hl h2 BIG 0 (by rw [BIG_eq]; omega) (by omega)
    rw [List.drop_zero, List.drop_zero] at this
    rw [e, cond_false]; exact this
  · have e : ((a.length : Int) != b.length) = true := by rw [bne_iff_ne]; omega
    rw [e, cond_true]; congr 1; symm; rw [decide_eq_false_iff_not]; rintro rfl; exact hl rfl
/-! the head -/
theorem num_s {n : Int} (h0 : 0 ≤ n) (h : n < 64) : num n = [2 * n] := by
  unfold num
  have e : zz n = (2 * n).toNat := by unfold zz; rw [if_neg (by omega)]
  rw [e, enc_s (by omega)]
  congr 1; omega
theorem num_m1 : num (-1) = [1] := by
  have e : zz (-1) = 1 := by decide
  unfold num; rw [e, enc_s (by omega)]; rfl
theorem num_64 : num 64 = [128, 1] := by
  have e : zz 64 = 128 := by decide
  unfold num; rw [e, enc_l (by omega), enc_s (by omega)]; rfl
theorem okb {b : List Int} (h : b.all (fun x => decide (0 ≤ x ∧ x < 256)) = true) : Bs b := fun x hx => by
  have := List.all_eq_true.1 h x hx
  simpa [okI] using this
def O0 : Op := ⟨2, 3, (⟨#[47, 97]⟩ : ByteArray), ByteArray.empty, 2, 0, 0, []⟩
theorem O0_s : SOp O0 := by
  refine ⟨⟨?_, ?_, ?_, ?_, ?_, ?_, ?_, fun x hx => by cases hx⟩, ?_, ?_, ?_⟩ <;> first | (simp [O0, okI]; done) | decide | (unfold okS; decide)
theorem O0_b : opB O0 = [4, 6, 4, 47, 97, 0, 4, 0, 0, 0] := by
  unfold opB O0 str
  simp only
  have e1 : ((ByteArray.size ⟨#[47, 97]⟩ : Nat) : Int) = 2 := by decide
  have e2 : ((ByteArray.size ByteArray.empty : Nat) : Int) = 0 := by decide
  have e3 : ((ByteArray.size (strOfNums []) : Nat) : Int) = 0 := by decide
  have e4 : strBytes ⟨#[47, 97]⟩ = [47, 97] := by decide
  have e5 : strBytes ByteArray.empty = [] := by decide
  have e6 : strBytes (strOfNums []) = [] := by decide
  rw [e1, e2, e3, e4, e5, e6, num_s (n := 2) (by omega) (by omega), num_s (n := 3) (by omega) (by omega), num_s (n := 0) (by omega) (by omega)]
  decide
theorem head_eq : law01_head_f = some true := by
  unfold law01_head_f
  have b1 : Bs [128, 0] := okb (by decide)
  have b2 : Bs [128] := okb (by decide)
  have b3 : Bs [128, 1, 7] := okb (by decide)
  have b4 : G [4, 97, 98] := ⟨okb (by decide), by decide⟩
  have r1 : T3 0 (rI [128, 0]) = ((0 : Int), [], (11 : Int)) := by decide
  have r2 : T3 0 (rI [128]) = ((0 : Int), [], (10 : Int)) := by decide
  have r3 : T3 0 (rI [128, 1, 7]) = ((64 : Int), [7], (0 : Int)) := by decide
  have r4 : T3 E0 (pS [4, 97, 98]) = ((⟨#[97, 98]⟩ : ByteArray), [], (0 : Int)) := by decide
  have hO := O0_s
  have hoB := opB_len hO
  have gO : G (opB O0) := ⟨opB_ok hO, by omega⟩
  have rO : pack_ReadOp_f (opB O0) = some (O0, 0) := by
    rw [pReadOp_eq gO]
    have := (end_laws (cod_op hO)).1
    show some (TE Z0 ((pOp1 (opB O0)).andThen pEnd)) = _
    rw [this]; rfl
  have k0 : num 0 = [0] := by rw [num_s (by omega) (by omega)]; decide
  have ks : str (⟨#[97, 98]⟩ : ByteArray) = [4, 97, 98] := by
    unfold str
    have e1 : ((ByteArray.size ⟨#[97, 98]⟩ : Nat) : Int) = 2 := by decide
    rw [e1, num_s (by omega) (by omega)]; decide
  have z0 : Bs [0] := okb (by decide)
  have z1 : Bs [1] := okb (by decide)
  have z2 : Bs [128, 1] := okb (by decide)
  have z3 : Bs [4, 6, 4, 47, 97, 0, 4, 0, 0, 0] := okb (by decide)
  rw [pRead_eq b1 (by decide), Option.bind_some, pRead_eq b2 (by decide), Option.bind_some, pRead_eq b3 (by decide), Option.bind_some, pReadStr_eq b4, Option.bind_some]
  have hp : pack_Op_f (⟨2, 3, (⟨#[47, 97]⟩ : ByteArray), ByteArray.empty, 2, 0, 0, []⟩ : Op) = some (opB O0) := pOp_eq hO
  rw [hp, Option.bind_some, rO, Option.bind_some, pInt_eq (by simp [okI]), Option.bind_some, k0, rSame_eq z0 z0, Option.bind_some, pInt_eq (by simp [okI]), Option.bind_some, num_m1, rSame_eq z1 z1, Option.bind_some, pInt_eq (by simp [okI]), Option.bind_some, num_64, rSame_eq z2 z2, Option.bind_some,
    pStr_eq (by decide), Option.bind_some, ks, rSame_eq b4.1 b4.1, Option.bind_some, r1, r2, r3, r4, sameOp_eq (fun x hx => by cases hx) (fun x hx => by cases hx), Option.bind_some, Option.bind_some, O0_b, rSame_eq z3 z3, Option.bind_some, tl_eq]
  decide
end Go.Proofs.Ytifkepfcjhebfaa
