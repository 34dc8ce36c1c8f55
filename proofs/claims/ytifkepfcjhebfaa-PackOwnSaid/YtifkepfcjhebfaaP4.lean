/- What is read, as plain laws: the readers are one plain parser. Printed in part by mkP4.py. -/
import Derived.Test.YtifkepfcjhebfaaP3
set_option linter.unusedSimpArgs false
set_option linter.unusedVariables false
namespace Go.Proofs.Ytifkepfcjhebfaa
open Go.Ab Go.RowKit
def R.andThen {α β : Type} : R α → (α → List Int → R β) → R β
  | .ok v r, f => f v r
  | .no e, _ => .no e
def pC (b : List Int) : R Nat := (rI b).andThen fun n r => if n < 0 then .no 11 else if (r.length : Int) < n then .no 10 else .ok n.toNat r
def pS (b : List Int) : R ByteArray := (pC b).andThen fun n r => .ok (strOfNums (r.take n)) (r.drop n)
def pN {α : Type} (p : List Int → R α) : Nat → List Int → R (List α)
  | 0, b => .ok [] b
  | k + 1, b => (p b).andThen fun x r => (pN p k r).andThen fun xs r => .ok (x :: xs) r
def E0 : ByteArray := ⟨#[]⟩
/-- bytes that may be read -/
def G (b : List Int) : Prop := Bs b ∧ b.length ≤ 1000000
theorem G.drop {b : List Int} (h : G b) (k : Nat) : G (b.drop k) := ⟨h.1.drop k, by have := h.2; simp; omega⟩
theorem rI_G {b r : List Int} {v : Int} (hb : G b) (h : rI b = .ok v r) : G r ∧ r.length < b.length ∧ okI .i64 v := by
  obtain ⟨k, h1, h2, h3⟩ := dU_len b 0 0 v r h
  subst h3
  refine ⟨hb.drop k, ?_, (read_num hb.1 h).2⟩
  rw [List.length_drop]; omega
theorem rI_no {b : List Int} {e : Int} (h : rI b = .no e) : e = 10 ∨ e = 11 := dU_no b 0 0 h
section
variable {b : List Int} {e : Int}
theorem ne0 (he : e = 10 ∨ e = 11) : (e != 0) = true := by rcases he with rfl | rfl <;> rfl
theorem num_err {x : Rest} (he : e = 10 ∨ e = 11) : pack_reader_num_f ⟨x, e⟩ = some (0, ⟨x, e⟩) := by
  unfold pack_reader_num_f; rw [ne0 he, cond_true]
theorem num_c (hb : G b) : (∃ v r, rI b = .ok v r ∧ G r ∧ r.length < b.length ∧ okI .i64 v ∧ pack_reader_num_f ⟨⟨b⟩, 0⟩ = some (v, ⟨⟨r⟩, 0⟩)) ∨ (∃ e x, rI b = .no e ∧ (e = 10 ∨ e = 11) ∧ pack_reader_num_f ⟨⟨b⟩, 0⟩ = some (0, ⟨x, e⟩)) := by
  unfold pack_reader_num_f
  simp only [bne_self_eq_false, cond_false]
  rw [pRead_eq hb.1 hb.2, Option.bind_some]
  cases h : rI b with
  | ok v r => exact .inl ⟨v, r, rfl, (rI_G hb h).1, (rI_G hb h).2.1, (rI_G hb h).2.2, rfl⟩
  | no e => exact .inr ⟨e, ⟨[]⟩, rfl, rI_no h, rfl⟩
theorem cnt_err {x : Rest} (he : e = 10 ∨ e = 11) : pack_reader_count_f ⟨x, e⟩ = some (0, ⟨x, e⟩) := by
  unfold pack_reader_count_f; rw [num_err he, Option.bind_some]; simp only [ne0 he, cond_true]
theorem cnt_c (hb : G b) : (∃ n r, pC b = .ok n r ∧ n ≤ r.length ∧ G r ∧ r.length < b.length ∧ pack_reader_count_f ⟨⟨b⟩, 0⟩ = some ((n : Int), ⟨⟨r⟩, 0⟩)) ∨ (∃ e x, pC b = .no e ∧ (e = 10 ∨ e = 11) ∧ pack_reader_count_f ⟨⟨b⟩, 0⟩ = some (0, ⟨x, e⟩)) := by
  unfold pack_reader_count_f pC
  rcases num_c hb with ⟨v, r, h1, h2, h3, h4, h5⟩ | ⟨e, x, h1, h2, h3⟩
  · rw [h5, h1, Option.bind_some]
    simp only [bne_self_eq_false, cond_false, R.andThen]
    rw [cond_d, cond_d]
    by_cases hv : v < 0
    · rw [if_pos hv, if_pos hv]; exact .inr ⟨11, ⟨r⟩, rfl, .inr rfl, rfl⟩
    · rw [if_neg hv, if_neg hv]
      by_cases hl : (r.length : Int) < v
      · rw [if_pos hl, if_pos hl]; exact .inr ⟨10, ⟨r⟩, rfl, .inl rfl, rfl⟩
      · rw [if_neg hl, if_neg hl]
        refine .inl ⟨v.toNat, r, rfl, by omega, h2, h3, ?_⟩
        have : ((v.toNat : Nat) : Int) = v := by omega
        rw [this]
  · rw [h3, h1, Option.bind_some]
    simp only [ne0 h2, cond_true, R.andThen]
    exact .inr ⟨e, x, rfl, h2, rfl⟩
theorem str_err {x : Rest} (he : e = 10 ∨ e = 11) : pack_reader_str_f ⟨x, e⟩ = some (E0, ⟨x, e⟩) := by
  unfold pack_reader_str_f; rw [cnt_err he, Option.bind_some]; simp only [ne0 he, cond_true]; rfl
theorem str_c (hb : G b) : (∃ s r, pS b = .ok s r ∧ s.size ≤ b.length ∧ G r ∧ r.length < b.length ∧ pack_reader_str_f ⟨⟨b⟩, 0⟩ = some (s, ⟨⟨r⟩, 0⟩)) ∨ (∃ e x, pS b = .no e ∧ (e = 10 ∨ e = 11) ∧ pack_reader_str_f ⟨⟨b⟩, 0⟩ = some (E0, ⟨x, e⟩)) := by
  unfold pack_reader_str_f pS
  rcases cnt_c hb with ⟨n, r, h1, h2, h3, h4, h5⟩ | ⟨e, x, h1, h2, h3⟩
  · rw [h5, h1, Option.bind_some]
    simp only [bne_self_eq_false, cond_false, R.andThen]
    unfold pack_rest_take_f
    simp only
    rw [chk_pos (by omega), chk_pos (by omega), Option.bind_some]
    simp only [Int.toNat_natCast, List.drop_zero]
    exact .inl ⟨_, _, rfl, by rw [nums_size]; simp; omega, h3.drop n, by simp; omega, rfl⟩
  · rw [h3, h1, Option.bind_some]
    simp only [ne0 h2, cond_true, R.andThen]
    exact .inr ⟨e, x, rfl, h2, rfl⟩
theorem end_err {x : Rest} (he : e = 10 ∨ e = 11) : pack_reader_end_f ⟨x, e⟩ = some (e, ⟨x, e⟩) := by
  unfold pack_reader_end_f pack_reader_end_J2 pack_reader_end_J1
  have : (e == 0) = false := by rcases he with rfl | rfl <;> rfl
  simp only [this, Bool.false_and, cond_false]
theorem end_c : ∃ x, pack_reader_end_f ⟨⟨b⟩, 0⟩ = some (if b = [] then 0 else 11, x) := by
  unfold pack_reader_end_f pack_reader_end_J2 pack_reader_end_J1
  cases b with
  | nil => exact ⟨_, rfl⟩
  | cons a b =>
    have : (((0 : Int) == 0) && (decide (0 < ((a :: b).length : Int)))) = true := by rw [Bool.and_eq_true, decide_eq_true_eq]; exact ⟨rfl, by simp⟩
    refine ⟨⟨⟨a :: b⟩, 11⟩, ?_⟩
    simp only [this, cond_true]
    rw [if_neg (by simp)]
/-! the same of the document's answer -/
theorem rnum_err {x : List Int} (he : e = 10 ∨ e = 11) : ref01_reader_num_f ⟨x, e⟩ = some (0, ⟨x, e⟩) := by
  unfold ref01_reader_num_f; rw [ne0 he, cond_true]
theorem rnum_c (hb : G b) : (∃ v r, rI b = .ok v r ∧ G r ∧ r.length < b.length ∧ okI .i64 v ∧ ref01_reader_num_f ⟨b, 0⟩ = some (v, ⟨r, 0⟩)) ∨ (∃ e x, rI b = .no e ∧ (e = 10 ∨ e = 11) ∧ ref01_reader_num_f ⟨b, 0⟩ = some (0, ⟨x, e⟩)) := by
  unfold ref01_reader_num_f
  simp only [bne_self_eq_false, cond_false]
  rw [rRead_eq hb.1 hb.2, Option.bind_some]
  cases h : rI b with
  | ok v r => exact .inl ⟨v, r, rfl, (rI_G hb h).1, (rI_G hb h).2.1, (rI_G hb h).2.2, rfl⟩
  | no e => exact .inr ⟨e, [], rfl, rI_no h, rfl⟩
theorem pC_c (hb : G b) : (∃ n r, pC b = .ok n r ∧ n ≤ r.length ∧ G r ∧ r.length < b.length) ∨ (∃ e, pC b = .no e ∧ (e = 10 ∨ e = 11)) := by
  rcases cnt_c hb with ⟨n, r, h1, h2, h3, h4, h5⟩ | ⟨e, x, h1, h2, h3⟩
  · exact .inl ⟨n, r, h1, h2, h3, h4⟩
  · exact .inr ⟨e, h1, h2⟩
theorem rcnt_c (hb : G b) : ref01_count_f b = some (match pC b with | .ok n r => ((n : Int), r, 0) | .no e => (0, [], e)) := by
  unfold ref01_count_f pC
  rw [rRead_eq hb.1 hb.2, Option.bind_some]
  cases h : rI b with
  | ok v r =>
    have hT : T3 (0 : Int) (R.ok v r) = (v, r, 0) := rfl
    rw [hT]
    simp only [bne_self_eq_false, cond_false, R.andThen]
    rw [cond_d, cond_d]
    by_cases hv : v < 0
    · rw [if_pos hv, if_pos hv]
    · rw [if_neg hv, if_neg hv]
      by_cases hl : (r.length : Int) < v
      · rw [if_pos hl, if_pos hl]
      · rw [if_neg hl, if_neg hl]
        have : ((v.toNat : Nat) : Int) = v := by omega
        simp only [this]
  | no e => simp only [T3, ne0 (rI_no h), cond_true, R.andThen]
theorem rReadStr_c (hb : G b) : ref01_ReadStr_f b = some (T3 E0 (pS b)) := by
  unfold ref01_ReadStr_f pS
  rw [rcnt_c hb, Option.bind_some]
  rcases pC_c hb with ⟨n, r, h1, h2, h3, h4⟩ | ⟨e, h1, h2⟩
  · rw [h1]
    simp only [bne_self_eq_false, cond_false, R.andThen]
    rw [chk_pos (by omega), chk_pos (by omega)]
    simp [T3]
  · rw [h1]
    simp only [ne0 h2, cond_true, R.andThen]; rfl
theorem pS_c (hb : G b) : (∃ s r, pS b = .ok s r ∧ s.size ≤ b.length ∧ G r ∧ r.length < b.length) ∨ (∃ e, pS b = .no e ∧ (e = 10 ∨ e = 11)) := by
  rcases str_c hb with ⟨n, r, h1, h2, h3, h4, h5⟩ | ⟨e, x, h1, h2, h3⟩
  · exact .inl ⟨n, r, h1, h2, h3, h4⟩
  · exact .inr ⟨e, h1, h2⟩
theorem rstr_err {x : List Int} (he : e = 10 ∨ e = 11) : ref01_reader_str_f ⟨x, e⟩ = some (E0, ⟨x, e⟩) := by
  unfold ref01_reader_str_f; rw [ne0 he, cond_true]; rfl
theorem rstr_c (hb : G b) : (∃ s r, pS b = .ok s r ∧ s.size ≤ b.length ∧ G r ∧ r.length < b.length ∧ ref01_reader_str_f ⟨b, 0⟩ = some (s, ⟨r, 0⟩)) ∨ (∃ e x, pS b = .no e ∧ (e = 10 ∨ e = 11) ∧ ref01_reader_str_f ⟨b, 0⟩ = some (E0, ⟨x, e⟩)) := by
  unfold ref01_reader_str_f
  simp only [bne_self_eq_false, cond_false]
  rw [rReadStr_c hb, Option.bind_some]
  rcases pS_c hb with ⟨n, r, h1, h2, h3, h4⟩ | ⟨e, h1, h2⟩
  · rw [h1]; exact .inl ⟨n, r, rfl, h2, h3, h4, rfl⟩
  · rw [h1]; exact .inr ⟨e, [], rfl, h2, rfl⟩
theorem rend_err {x : List Int} (he : e = 10 ∨ e = 11) : ref01_reader_end_f ⟨x, e⟩ = some (e, ⟨x, e⟩) := by
  unfold ref01_reader_end_f ref01_reader_end_J1
  have : (e == 0) = false := by rcases he with rfl | rfl <;> rfl
  simp only [this, Bool.false_and, cond_false]
theorem rend_c : ∃ x, ref01_reader_end_f ⟨b, 0⟩ = some (if b = [] then 0 else 11, x) := by
  unfold ref01_reader_end_f ref01_reader_end_J1
  cases b with
  | nil => exact ⟨_, rfl⟩
  | cons a b =>
    have : (((0 : Int) == 0) && (decide (0 < ((a :: b).length : Int)))) = true := by rw [Bool.and_eq_true, decide_eq_true_eq]; exact ⟨rfl, by simp⟩
    refine ⟨⟨a :: b, 0⟩, ?_⟩
    simp only [this, cond_true]
    rw [if_neg (by simp)]
end
def Z0 : Op := ⟨0, 0, ByteArray.empty, ByteArray.empty, 0, 0, 0, []⟩
def A0 : Ans := ⟨0, 0, 0, 0, 0, [], []⟩
/-- what a reader of all bytes yields -/
def TE {α : Type} (d : α) : R α → α × Int
  | .ok v _ => (v, 0)
  | .no e => (d, e)
def pEnd {α : Type} (v : α) (r : List Int) : R α := if r = [] then .ok v r else .no 11
def pOp1 (b : List Int) : R Op := (rI b).andThen fun v1 r1 => (rI r1).andThen fun v2 r2 => (pS r2).andThen fun v3 r3 => (pS r3).andThen fun v4 r4 => (rI r4).andThen fun v5 r5 => (rI r5).andThen fun v6 r6 => (rI r6).andThen fun v7 r7 => (pS r7).andThen fun v8 r8 => .ok ⟨v1, v2, v3, v4, v5, v6, v7, strBytes v8⟩ r8
def pOp (b : List Int) : R Op := (pOp1 b).andThen pEnd
theorem pReadOp_eq {b : List Int} (hb : G b) : pack_ReadOp_f b = some (TE Z0 (pOp b)) := by
  unfold pack_ReadOp_f pOp pOp1
  have hE : E0.size ≤ 140737488355328 := by decide
  rcases num_c hb with ⟨v1, r1, a1, g1, l1, o1, q1⟩ | ⟨e, x, a, he, q⟩
  case inr =>
    rw [q, a]; simp only [Option.bind_some, R.andThen, num_err he, str_err he, end_err he, ne0 he, cond_true, chk_pos hE]; try rw [chk_pos (by omega)]
    try simp only [Option.bind_some, end_err he, ne0 he, cond_true]
    rfl
  rw [q1, a1, Option.bind_some]
  simp only [R.andThen]
  rcases num_c g1 with ⟨v2, r2, a2, g2, l2, o2, q2⟩ | ⟨e, x, a, he, q⟩
  case inr =>
    rw [q, a]; simp only [Option.bind_some, R.andThen, num_err he, str_err he, end_err he, ne0 he, cond_true, chk_pos hE]; try rw [chk_pos (by omega)]
    try simp only [Option.bind_some, end_err he, ne0 he, cond_true]
    rfl
  rw [q2, a2, Option.bind_some]
  simp only [R.andThen]
  rcases str_c g2 with ⟨v3, r3, a3, o3, g3, l3, q3⟩ | ⟨e, x, a, he, q⟩
  case inr =>
    rw [q, a]; simp only [Option.bind_some, R.andThen, num_err he, str_err he, end_err he, ne0 he, cond_true, chk_pos hE]; try rw [chk_pos (by omega)]
    try simp only [Option.bind_some, end_err he, ne0 he, cond_true]
    rfl
  rw [q3, a3, Option.bind_some]
  simp only [R.andThen]
  rcases str_c g3 with ⟨v4, r4, a4, o4, g4, l4, q4⟩ | ⟨e, x, a, he, q⟩
  case inr =>
    rw [q, a]; simp only [Option.bind_some, R.andThen, num_err he, str_err he, end_err he, ne0 he, cond_true, chk_pos hE]; try rw [chk_pos (by omega)]
    try simp only [Option.bind_some, end_err he, ne0 he, cond_true]
    rfl
  rw [q4, a4, Option.bind_some]
  simp only [R.andThen]
  rcases num_c g4 with ⟨v5, r5, a5, g5, l5, o5, q5⟩ | ⟨e, x, a, he, q⟩
  case inr =>
    rw [q, a]; simp only [Option.bind_some, R.andThen, num_err he, str_err he, end_err he, ne0 he, cond_true, chk_pos hE]; try rw [chk_pos (by omega)]
    try simp only [Option.bind_some, end_err he, ne0 he, cond_true]
    rfl
  rw [q5, a5, Option.bind_some]
  simp only [R.andThen]
  rcases num_c g5 with ⟨v6, r6, a6, g6, l6, o6, q6⟩ | ⟨e, x, a, he, q⟩
  case inr =>
    rw [q, a]; simp only [Option.bind_some, R.andThen, num_err he, str_err he, end_err he, ne0 he, cond_true, chk_pos hE]; try rw [chk_pos (by omega)]
    try simp only [Option.bind_some, end_err he, ne0 he, cond_true]
    rfl
  rw [q6, a6, Option.bind_some]
  simp only [R.andThen]
  rcases num_c g6 with ⟨v7, r7, a7, g7, l7, o7, q7⟩ | ⟨e, x, a, he, q⟩
  case inr =>
    rw [q, a]; simp only [Option.bind_some, R.andThen, num_err he, str_err he, end_err he, ne0 he, cond_true, chk_pos hE]; try rw [chk_pos (by omega)]
    try simp only [Option.bind_some, end_err he, ne0 he, cond_true]
    rfl
  rw [q7, a7, Option.bind_some]
  simp only [R.andThen]
  rcases str_c g7 with ⟨v8, r8, a8, o8, g8, l8, q8⟩ | ⟨e, x, a, he, q⟩
  case inr =>
    rw [q, a]; simp only [Option.bind_some, R.andThen, num_err he, str_err he, end_err he, ne0 he, cond_true, chk_pos hE]; try rw [chk_pos (by omega)]
    try simp only [Option.bind_some, end_err he, ne0 he, cond_true]
    rfl
  rw [q8, a8, Option.bind_some]
  simp only [R.andThen]
  have := hb.2
  rw [chk_pos (by omega)]
  obtain ⟨x, q⟩ := end_c (b := r8)
  rw [q, Option.bind_some]
  unfold pEnd
  by_cases h : r8 = []
  · rw [if_pos h, if_pos h]; rfl
  · rw [if_neg h, if_neg h]; rfl
theorem rReadOp_eq {b : List Int} (hb : G b) : ref01_ReadOp_f b = some (TE Z0 (pOp b)) := by
  unfold ref01_ReadOp_f pOp pOp1
  have hE : E0.size ≤ 140737488355328 := by decide
  rcases rnum_c hb with ⟨v1, r1, a1, g1, l1, o1, q1⟩ | ⟨e, x, a, he, q⟩
  case inr =>
    rw [q, a]; simp only [Option.bind_some, R.andThen, rnum_err he, rstr_err he, rend_err he, ne0 he, cond_true, chk_pos hE]; try rw [chk_pos (by omega)]
    try simp only [Option.bind_some, rend_err he, ne0 he, cond_true]
    rfl
  rw [q1, a1, Option.bind_some]
  simp only [R.andThen]
  rcases rnum_c g1 with ⟨v2, r2, a2, g2, l2, o2, q2⟩ | ⟨e, x, a, he, q⟩
  case inr =>
    rw [q, a]; simp only [Option.bind_some, R.andThen, rnum_err he, rstr_err he, rend_err he, ne0 he, cond_true, chk_pos hE]; try rw [chk_pos (by omega)]
    try simp only [Option.bind_some, rend_err he, ne0 he, cond_true]
    rfl
  rw [q2, a2, Option.bind_some]
  simp only [R.andThen]
  rcases rstr_c g2 with ⟨v3, r3, a3, o3, g3, l3, q3⟩ | ⟨e, x, a, he, q⟩
  case inr =>
    rw [q, a]; simp only [Option.bind_some, R.andThen, rnum_err he, rstr_err he, rend_err he, ne0 he, cond_true, chk_pos hE]; try rw [chk_pos (by omega)]
    try simp only [Option.bind_some, rend_err he, ne0 he, cond_true]
    rfl
  rw [q3, a3, Option.bind_some]
  simp only [R.andThen]
  rcases rstr_c g3 with ⟨v4, r4, a4, o4, g4, l4, q4⟩ | ⟨e, x, a, he, q⟩
  case inr =>
    rw [q, a]; simp only [Option.bind_some, R.andThen, rnum_err he, rstr_err he, rend_err he, ne0 he, cond_true, chk_pos hE]; try rw [chk_pos (by omega)]
    try simp only [Option.bind_some, rend_err he, ne0 he, cond_true]
    rfl
  rw [q4, a4, Option.bind_some]
  simp only [R.andThen]
  rcases rnum_c g4 with ⟨v5, r5, a5, g5, l5, o5, q5⟩ | ⟨e, x, a, he, q⟩
  case inr =>
    rw [q, a]; simp only [Option.bind_some, R.andThen, rnum_err he, rstr_err he, rend_err he, ne0 he, cond_true, chk_pos hE]; try rw [chk_pos (by omega)]
    try simp only [Option.bind_some, rend_err he, ne0 he, cond_true]
    rfl
  rw [q5, a5, Option.bind_some]
  simp only [R.andThen]
  rcases rnum_c g5 with ⟨v6, r6, a6, g6, l6, o6, q6⟩ | ⟨e, x, a, he, q⟩
  case inr =>
    rw [q, a]; simp only [Option.bind_some, R.andThen, rnum_err he, rstr_err he, rend_err he, ne0 he, cond_true, chk_pos hE]; try rw [chk_pos (by omega)]
    try simp only [Option.bind_some, rend_err he, ne0 he, cond_true]
    rfl
  rw [q6, a6, Option.bind_some]
  simp only [R.andThen]
  rcases rnum_c g6 with ⟨v7, r7, a7, g7, l7, o7, q7⟩ | ⟨e, x, a, he, q⟩
  case inr =>
    rw [q, a]; simp only [Option.bind_some, R.andThen, rnum_err he, rstr_err he, rend_err he, ne0 he, cond_true, chk_pos hE]; try rw [chk_pos (by omega)]
    try simp only [Option.bind_some, rend_err he, ne0 he, cond_true]
    rfl
  rw [q7, a7, Option.bind_some]
  simp only [R.andThen]
  rcases rstr_c g7 with ⟨v8, r8, a8, o8, g8, l8, q8⟩ | ⟨e, x, a, he, q⟩
  case inr =>
    rw [q, a]; simp only [Option.bind_some, R.andThen, rnum_err he, rstr_err he, rend_err he, ne0 he, cond_true, chk_pos hE]; try rw [chk_pos (by omega)]
    try simp only [Option.bind_some, rend_err he, ne0 he, cond_true]
    rfl
  rw [q8, a8, Option.bind_some]
  simp only [R.andThen]
  have := hb.2
  rw [chk_pos (by omega)]
  obtain ⟨x, q⟩ := rend_c (b := r8)
  rw [q, Option.bind_some]
  unfold pEnd
  by_cases h : r8 = []
  · rw [if_pos h, if_pos h]; rfl
  · rw [if_neg h, if_neg h]; rfl
end Go.Proofs.Ytifkepfcjhebfaa
