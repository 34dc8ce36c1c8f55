/- The other readers of layer 1 are the plain parser, too. Printed in part by mkP5.py. -/
import Derived.Test.YtifkepfcjhebfaaP4
set_option linter.unusedSimpArgs false
set_option linter.unusedVariables false
namespace Go.Proofs.Ytifkepfcjhebfaa
open Go.Ab Go.RowKit
theorem pReadStr_eq {b : List Int} (hb : G b) : pack_ReadStr_f b = some (T3 E0 (pS b)) := by
  unfold pack_ReadStr_f
  rcases str_c hb with ⟨s, r, h1, h2, h3, h4, h5⟩ | ⟨e, x, h1, h2, h3⟩
  · rw [h5, h1, Option.bind_some]
    simp only [bne_self_eq_false, cond_false]; rfl
  · rw [h3, h1, Option.bind_some]
    simp only [ne0 h2, cond_true]; rfl
def pInts (b : List Int) : R (List Int) := (pC b).andThen fun n r => pN rI n r
theorem pN_G {α : Type} {p : List Int → R α} (hp : ∀ b v r, G b → p b = .ok v r → G r) : ∀ (k : Nat) (b : List Int) (v : List α) (r : List Int), G b → pN p k b = .ok v r → G r ∧ v.length = k
  | 0, b, v, r, hb, h => by unfold pN at h; injection h with h1 h2; subst h1; subst h2; exact ⟨hb, rfl⟩
  | k + 1, b, v, r, hb, h => by
    unfold pN at h
    cases h1 : p b with
    | no e => rw [h1] at h; cases h
    | ok x r1 =>
      rw [h1] at h
      simp only [R.andThen] at h
      cases h2 : pN p k r1 with
      | no e => rw [h2] at h; cases h
      | ok xs r2 =>
        rw [h2] at h
        injection h with h3 h4
        have := pN_G hp k r1 xs r2 (hp b x r1 hb h1) h2
        subst h3; subst h4
        exact ⟨this.1, by simp [this.2]⟩
theorem pInts_L {x : Reader} {n : Nat} (hn : n ≤ 1000000) : ∀ (k m : Nat) (b out : List Int) (v : Nat), G b → k < m → n = v + k → out.length = v → pack_ReadInts_L1 ((n : Int), x) m ⟨⟨b⟩, 0⟩ out (v : Int) =
    some (match pN rI k b with | .ok xs r => (out ++ xs, r, 0) | .no e => ([], [], e)) := by
  intro k
  induction k with
  | zero =>
    intro m b out v hb hm hv ho
    obtain ⟨m, rfl⟩ : ∃ m', m = m' + 1 := ⟨m - 1, by omega⟩
    rw [pack_ReadInts_L1, cond_d, if_neg (by simp; omega)]
    simp [pack_ReadInts_J1, pN]
  | succ k ih =>
    intro m b out v hb hm hv ho
    obtain ⟨m, rfl⟩ : ∃ m', m = m' + 1 := ⟨m - 1, by omega⟩
    rw [pack_ReadInts_L1, cond_d, if_pos (by simp; omega)]
    unfold pN
    rcases num_c hb with ⟨w, r, h1, h2, h3, h4, h5⟩ | ⟨e, y, h1, h2, h3⟩
    · rw [h5, h1, Option.bind_some, chk_pos (by omega)]
      simp only [bne_self_eq_false, cond_false, R.andThen]
      rw [w64_succ (by omega), ih m r _ (v + 1) h2 (by omega) (by omega) (by simp; omega)]
      cases pN rI k r <;> simp
    · rw [h3, h1, Option.bind_some, chk_pos (by omega)]
      simp only [ne0 h2, cond_true, R.andThen, pack_ReadInts_J1]
theorem pReadInts_eq {b : List Int} (hb : G b) : pack_ReadInts_f b = some (T3 [] (pInts b)) := by
  unfold pack_ReadInts_f pInts
  have hb2 := hb.2
  rcases cnt_c hb with ⟨n, r, h1, h2, h3, h4, h5⟩ | ⟨e, x, h1, h2, h3⟩
  · rw [h5, h1, Option.bind_some]
    simp only [R.andThen]
    have := pInts_L (x := ⟨⟨r⟩, 0⟩) (n := n) (by omega) n BIG r [] 0 h3 (by rw [BIG_eq]; omega) (by omega) rfl
    show pack_ReadInts_L1 ((n : Int), ⟨⟨r⟩, 0⟩) BIG ⟨⟨r⟩, 0⟩ [] ((0 : Nat) : Int) = _
    rw [this]
    cases pN rI n r <;> simp [T3]
  · rw [h3, h1, Option.bind_some]
    simp only [R.andThen]
    obtain ⟨m, hm⟩ : ∃ m', BIG = m' + 1 := ⟨BIG - 1, by rw [BIG_eq]⟩
    rw [hm, pack_ReadInts_L1, cond_d, if_neg (by simp), pack_ReadInts_J1]
    simp only [ne0 h2, cond_true]; rfl
theorem rInts_L2 {x : List Int × Int} {n : Nat} (hn : n ≤ 1000000) : ∀ (k m : Nat) (b out : List Int) (v : Nat), G b → k < m → n = v + k → out.length = v → ref01_ReadInts_L1 ((n : Int), x) m out b (v : Int) =
    some (match pN rI k b with | .ok xs r => (out ++ xs, r, 0) | .no e => ([], [], e)) := by
  intro k
  induction k with
  | zero =>
    intro m b out v hb hm hv ho
    obtain ⟨m, rfl⟩ : ∃ m', m = m' + 1 := ⟨m - 1, by omega⟩
    rw [ref01_ReadInts_L1, cond_d, if_neg (by simp; omega)]
    simp [ref01_ReadInts_J1, pN]
  | succ k ih =>
    intro m b out v hb hm hv ho
    obtain ⟨m, rfl⟩ : ∃ m', m = m' + 1 := ⟨m - 1, by omega⟩
    rw [ref01_ReadInts_L1, cond_d, if_pos (by simp; omega), rRead_eq hb.1 hb.2, Option.bind_some]
    unfold pN
    cases h : rI b with
    | ok w r =>
      have hT : T3 (0 : Int) (R.ok w r) = (w, r, 0) := rfl
      rw [hT]
      simp only [bne_self_eq_false, cond_false, R.andThen]
      rw [chk_pos (by omega), w64_succ (by omega), ih m r _ (v + 1) (rI_G hb h).1 (by omega) (by omega) (by simp; omega)]
      cases pN rI k r <;> simp
    | no e =>
      have hT : T3 (0 : Int) (R.no e) = (0, [], e) := rfl
      rw [hT]
      simp only [ne0 (rI_no h), cond_true, R.andThen]
theorem rReadInts_eq {b : List Int} (hb : G b) : ref01_ReadInts_f b = some (T3 [] (pInts b)) := by
  unfold ref01_ReadInts_f pInts
  have hb2 := hb.2
  rw [rcnt_c hb, Option.bind_some]
  rcases pC_c hb with ⟨n, r, h1, h2, h3, h4⟩ | ⟨e, h1, h2⟩
  · rw [h1]
    simp only [bne_self_eq_false, cond_false, R.andThen]
    have := rInts_L2 (x := (r, 0)) (n := n) (by omega) n BIG r [] 0 h3 (by rw [BIG_eq]; omega) (by omega) rfl
    show ref01_ReadInts_L1 ((n : Int), r, 0) BIG [] r ((0 : Nat) : Int) = _
    rw [this]
    cases pN rI n r <;> simp [T3]
  · rw [h1]
    simp only [ne0 h2, cond_true, R.andThen]; rfl
/-! answers -/
def pTail (a b c d e : Int) (names : List ByteArray) (r : List Int) : R Ans := (pS r).andThen fun s r => .ok ⟨a, b, c, d, e, names, strBytes s⟩ r
def pAns1 (b : List Int) : R Ans := (rI b).andThen fun v1 r1 => (rI r1).andThen fun v2 r2 => (rI r2).andThen fun v3 r3 => (rI r3).andThen fun v4 r4 => (rI r4).andThen fun v5 r5 => (pC r5).andThen fun n r6 => (pN pS n r6).andThen fun l r7 => pTail v1 v2 v3 v4 v5 l r7
def pAns (b : List Int) : R Ans := (pAns1 b).andThen pEnd
theorem andThen_assoc {α β γ : Type} (x : R α) (f : α → List Int → R β) (g : β → List Int → R γ) : (x.andThen f).andThen g = x.andThen fun v r => (f v r).andThen g := by cases x <;> rfl
section
variable {b : List Int} {e : Int} {s1 s2 s3 s4 s5 : Reader} {v1 v2 v3 v4 v5 : Int}
theorem ansJ_err {x : Rest} {l : List ByteArray} (he : e = 10 ∨ e = 11) : pack_ReadAns_J1 (v1, s1) (v2, s2) (v3, s3) (v4, s4) (v5, s5) ⟨x, e⟩ l = some (A0, e) := by
  have hE : E0.size ≤ 140737488355328 := by decide
  unfold pack_ReadAns_J1
  rw [str_err he, Option.bind_some, chk_pos hE, end_err he, Option.bind_some]
  simp only [ne0 he, cond_true]; rfl
theorem ansJ_c {l : List ByteArray} (hb : G b) : pack_ReadAns_J1 (v1, s1) (v2, s2) (v3, s3) (v4, s4) (v5, s5) ⟨⟨b⟩, 0⟩ l = some (TE A0 ((pTail v1 v2 v3 v4 v5 l b).andThen pEnd)) := by
  have hE : E0.size ≤ 140737488355328 := by decide
  unfold pack_ReadAns_J1 pTail
  have := hb.2
  rcases str_c hb with ⟨s, r, h1, h2, h3, h4, h5⟩ | ⟨e, x, h1, h2, h3⟩
  · rw [h5, h1, Option.bind_some, chk_pos (by show s.size ≤ _; omega)]
    obtain ⟨x, q⟩ := end_c (b := r)
    simp only
    rw [q, Option.bind_some]
    simp only [R.andThen]
    unfold pEnd
    by_cases h : r = []
    · rw [if_pos h, if_pos h]; rfl
    · rw [if_neg h, if_neg h]; rfl
  · rw [h3, h1, Option.bind_some, chk_pos hE]
    simp only
    rw [end_err h2, Option.bind_some]
    simp only [ne0 h2, cond_true, R.andThen]; rfl
theorem ans_L {x : Reader} {n : Nat} (hn : n ≤ 1000000) : ∀ (k m : Nat) (b : List Int) (out : List ByteArray) (v : Nat), G b → k < m → n = v + k → out.length = v → pack_ReadAns_L1 ((n : Int), x) (v1, s1) (v2, s2) (v3, s3) (v4, s4) (v5, s5) m ⟨⟨b⟩, 0⟩ out (v : Int) =
    some (TE A0 (((pN pS k b).andThen fun l r => pTail v1 v2 v3 v4 v5 (out ++ l) r).andThen pEnd)) := by
  intro k
  induction k with
  | zero =>
    intro m b out v hb hm hv ho
    obtain ⟨m, rfl⟩ : ∃ m', m = m' + 1 := ⟨m - 1, by omega⟩
    rw [pack_ReadAns_L1, cond_d, if_neg (by simp; omega), ansJ_c hb]
    simp only [pN, R.andThen, List.append_nil]
  | succ k ih =>
    intro m b out v hb hm hv ho
    obtain ⟨m, rfl⟩ : ∃ m', m = m' + 1 := ⟨m - 1, by omega⟩
    rw [pack_ReadAns_L1, cond_d, if_pos (by simp; omega)]
    unfold pN
    rcases str_c hb with ⟨s, r, h1, h2, h3, h4, h5⟩ | ⟨e, x, h1, h2, h3⟩
    · rw [h5, h1, Option.bind_some, chk_pos (by omega)]
      simp only [bne_self_eq_false, cond_false, R.andThen]
      rw [w64_succ (by omega), ih m r _ (v + 1) h3 (by omega) (by omega) (by simp; omega)]
      cases pN pS k r <;> simp [R.andThen]
    · rw [h3, h1, Option.bind_some, chk_pos (by omega)]
      simp only [ne0 h2, cond_true, R.andThen]
      rw [ansJ_err h2]; rfl
end
section
variable {b : List Int} {e : Int} {s1 s2 s3 s4 s5 : Reader74} {v1 v2 v3 v4 v5 : Int}
theorem ransJ_err {x : List Int} {l : List ByteArray} (he : e = 10 ∨ e = 11) : ref01_ReadAns_J1 (v1, s1) (v2, s2) (v3, s3) (v4, s4) (v5, s5) ⟨x, e⟩ l = some (A0, e) := by
  have hE : E0.size ≤ 140737488355328 := by decide
  unfold ref01_ReadAns_J1
  rw [rstr_err he, Option.bind_some, chk_pos hE, rend_err he, Option.bind_some]
  simp only [ne0 he, cond_true]; rfl
theorem ransJ_c {l : List ByteArray} (hb : G b) : ref01_ReadAns_J1 (v1, s1) (v2, s2) (v3, s3) (v4, s4) (v5, s5) ⟨b, 0⟩ l = some (TE A0 ((pTail v1 v2 v3 v4 v5 l b).andThen pEnd)) := by
  have hE : E0.size ≤ 140737488355328 := by decide
  unfold ref01_ReadAns_J1 pTail
  have := hb.2
  rcases rstr_c hb with ⟨s, r, h1, h2, h3, h4, h5⟩ | ⟨e, x, h1, h2, h3⟩
  · rw [h5, h1, Option.bind_some, chk_pos (by show s.size ≤ _; omega)]
    obtain ⟨x, q⟩ := rend_c (b := r)
    simp only
    rw [q, Option.bind_some]
    simp only [R.andThen]
    unfold pEnd
    by_cases h : r = []
    · rw [if_pos h, if_pos h]; rfl
    · rw [if_neg h, if_neg h]; rfl
  · rw [h3, h1, Option.bind_some, chk_pos hE]
    simp only
    rw [rend_err h2, Option.bind_some]
    simp only [ne0 h2, cond_true, R.andThen]; rfl
theorem rans_L {x : List Int × Int} {n : Nat} (hn : n ≤ 1000000) : ∀ (k m : Nat) (b : List Int) (out : List ByteArray) (v : Nat), G b → k + 1 < m → n = v + k → out.length = v → ref01_ReadAns_L1 (v1, s1) (v2, s2) (v3, s3) (v4, s4) (v5, s5) ((n : Int), x) m ⟨b, 0⟩ out (v : Int) =
    some (TE A0 (((pN pS k b).andThen fun l r => pTail v1 v2 v3 v4 v5 (out ++ l) r).andThen pEnd)) := by
  intro k
  induction k with
  | zero =>
    intro m b out v hb hm hv ho
    obtain ⟨m, rfl⟩ : ∃ m', m = m' + 1 := ⟨m - 1, by omega⟩
    have : ((decide ((v : Int) < (n : Int))) && ((0 : Int) == 0)) = false := by rw [Bool.and_eq_false_iff]; left; rw [decide_eq_false_iff_not]; omega
    rw [ref01_ReadAns_L1]
    simp only [this]
    rw [ref01_ReadAns_J2, cond_false, ransJ_c hb]
    simp only [pN, R.andThen, List.append_nil]
  | succ k ih =>
    intro m b out v hb hm hv ho
    obtain ⟨m, rfl⟩ : ∃ m', m = m' + 1 := ⟨m - 1, by omega⟩
    have : ((decide ((v : Int) < (n : Int))) && ((0 : Int) == 0)) = true := by rw [Bool.and_eq_true]; exact ⟨by rw [decide_eq_true_eq]; omega, rfl⟩
    rw [ref01_ReadAns_L1]
    simp only [this]
    rw [ref01_ReadAns_J2, cond_true]
    unfold pN
    rcases rstr_c hb with ⟨s, r, h1, h2, h3, h4, h5⟩ | ⟨e, x, h1, h2, h3⟩
    · rw [h5, h1, Option.bind_some, chk_pos (by omega)]
      simp only [R.andThen]
      rw [w64_succ (by omega), ih m r _ (v + 1) h3 (by omega) (by omega) (by simp; omega)]
      cases pN pS k r <;> simp [R.andThen]
    · rw [h3, h1, Option.bind_some, chk_pos (by omega)]
      simp only [R.andThen]
      obtain ⟨m, rfl⟩ : ∃ m', m = m' + 1 := ⟨m - 1, by omega⟩
      have e0 : (e == 0) = false := by rcases h2 with rfl | rfl <;> rfl
      rw [ref01_ReadAns_L1, ref01_ReadAns_J2]
      simp only [e0, Bool.and_false, cond_false]
      rw [ransJ_err h2]; rfl
end
theorem pReadAns_eq {b : List Int} (hb : G b) : pack_ReadAns_f b = some (TE A0 (pAns b)) := by
  unfold pack_ReadAns_f pAns pAns1
  rcases num_c hb with ⟨v1, r1, a1, g1, l1, o1, q1⟩ | ⟨e, x, a, he, q⟩
  case inr =>
    rw [q, a]; simp only [Option.bind_some, R.andThen, num_err he, cnt_err he]
    obtain ⟨m, hm⟩ : ∃ m', BIG = m' + 1 := ⟨BIG - 1, by rw [BIG_eq]⟩
    rw [hm, pack_ReadAns_L1, cond_d, if_neg (by simp), ansJ_err he]; rfl
  rw [q1, a1, Option.bind_some]
  simp only [R.andThen]
  rcases num_c g1 with ⟨v2, r2, a2, g2, l2, o2, q2⟩ | ⟨e, x, a, he, q⟩
  case inr =>
    rw [q, a]; simp only [Option.bind_some, R.andThen, num_err he, cnt_err he]
    obtain ⟨m, hm⟩ : ∃ m', BIG = m' + 1 := ⟨BIG - 1, by rw [BIG_eq]⟩
    rw [hm, pack_ReadAns_L1, cond_d, if_neg (by simp), ansJ_err he]; rfl
  rw [q2, a2, Option.bind_some]
  simp only [R.andThen]
  rcases num_c g2 with ⟨v3, r3, a3, g3, l3, o3, q3⟩ | ⟨e, x, a, he, q⟩
  case inr =>
    rw [q, a]; simp only [Option.bind_some, R.andThen, num_err he, cnt_err he]
    obtain ⟨m, hm⟩ : ∃ m', BIG = m' + 1 := ⟨BIG - 1, by rw [BIG_eq]⟩
    rw [hm, pack_ReadAns_L1, cond_d, if_neg (by simp), ansJ_err he]; rfl
  rw [q3, a3, Option.bind_some]
  simp only [R.andThen]
  rcases num_c g3 with ⟨v4, r4, a4, g4, l4, o4, q4⟩ | ⟨e, x, a, he, q⟩
  case inr =>
    rw [q, a]; simp only [Option.bind_some, R.andThen, num_err he, cnt_err he]
    obtain ⟨m, hm⟩ : ∃ m', BIG = m' + 1 := ⟨BIG - 1, by rw [BIG_eq]⟩
    rw [hm, pack_ReadAns_L1, cond_d, if_neg (by simp), ansJ_err he]; rfl
  rw [q4, a4, Option.bind_some]
  simp only [R.andThen]
  rcases num_c g4 with ⟨v5, r5, a5, g5, l5, o5, q5⟩ | ⟨e, x, a, he, q⟩
  case inr =>
    rw [q, a]; simp only [Option.bind_some, R.andThen, num_err he, cnt_err he]
    obtain ⟨m, hm⟩ : ∃ m', BIG = m' + 1 := ⟨BIG - 1, by rw [BIG_eq]⟩
    rw [hm, pack_ReadAns_L1, cond_d, if_neg (by simp), ansJ_err he]; rfl
  rw [q5, a5, Option.bind_some]
  simp only [R.andThen]
  have := hb.2
  rcases cnt_c g5 with ⟨n, r, h1, h2, h3, h4, h5⟩ | ⟨e, x, h1, h2, h3⟩
  · rw [h5, h1, Option.bind_some]
    have := ans_L (v1 := v1) (v2 := v2) (v3 := v3) (v4 := v4) (v5 := v5) (s1 := ⟨⟨r1⟩, 0⟩) (s2 := ⟨⟨r2⟩, 0⟩) (s3 := ⟨⟨r3⟩, 0⟩) (s4 := ⟨⟨r4⟩, 0⟩) (s5 := ⟨⟨r5⟩, 0⟩) (x := ⟨⟨r⟩, 0⟩) (n := n) (by omega) n BIG r [] 0 h3 (by rw [BIG_eq]; omega) (by omega) rfl
    simp only [R.andThen]
    exact this
  · rw [h3, h1, Option.bind_some]
    simp only [R.andThen]
    obtain ⟨m, hm⟩ : ∃ m', BIG = m' + 1 := ⟨BIG - 1, by rw [BIG_eq]⟩
    rw [hm, pack_ReadAns_L1, cond_d, if_neg (by simp), ansJ_err h2]; rfl
theorem rReadAns_eq {b : List Int} (hb : G b) : ref01_ReadAns_f b = some (TE A0 (pAns b)) := by
  unfold ref01_ReadAns_f pAns pAns1
  rcases rnum_c hb with ⟨v1, r1, a1, g1, l1, o1, q1⟩ | ⟨e, x, a, he, q⟩
  case inr =>
    rw [q, a]; simp only [Option.bind_some, R.andThen, rnum_err he, ne0 he, cond_true]; rfl
  rw [q1, a1, Option.bind_some]
  simp only [R.andThen]
  rcases rnum_c g1 with ⟨v2, r2, a2, g2, l2, o2, q2⟩ | ⟨e, x, a, he, q⟩
  case inr =>
    rw [q, a]; simp only [Option.bind_some, R.andThen, rnum_err he, ne0 he, cond_true]; rfl
  rw [q2, a2, Option.bind_some]
  simp only [R.andThen]
  rcases rnum_c g2 with ⟨v3, r3, a3, g3, l3, o3, q3⟩ | ⟨e, x, a, he, q⟩
  case inr =>
    rw [q, a]; simp only [Option.bind_some, R.andThen, rnum_err he, ne0 he, cond_true]; rfl
  rw [q3, a3, Option.bind_some]
  simp only [R.andThen]
  rcases rnum_c g3 with ⟨v4, r4, a4, g4, l4, o4, q4⟩ | ⟨e, x, a, he, q⟩
  case inr =>
    rw [q, a]; simp only [Option.bind_some, R.andThen, rnum_err he, ne0 he, cond_true]; rfl
  rw [q4, a4, Option.bind_some]
  simp only [R.andThen]
  rcases rnum_c g4 with ⟨v5, r5, a5, g5, l5, o5, q5⟩ | ⟨e, x, a, he, q⟩
  case inr =>
    rw [q, a]; simp only [Option.bind_some, R.andThen, rnum_err he, ne0 he, cond_true]; rfl
  rw [q5, a5, Option.bind_some]
  simp only [R.andThen]
  have := hb.2
  simp only [bne_self_eq_false, cond_false]
  rw [rcnt_c g5, Option.bind_some]
  rcases pC_c g5 with ⟨n, r, h1, h2, h3, h4⟩ | ⟨e, h1, h2⟩
  · rw [h1]
    have := rans_L (v1 := v1) (v2 := v2) (v3 := v3) (v4 := v4) (v5 := v5) (s1 := ⟨r1, 0⟩) (s2 := ⟨r2, 0⟩) (s3 := ⟨r3, 0⟩) (s4 := ⟨r4, 0⟩) (s5 := ⟨r5, 0⟩) (x := (r, 0)) (n := n) (by omega) n BIG r [] 0 h3 (by rw [BIG_eq]; omega) (by omega) rfl
    simp only [bne_self_eq_false, cond_false, R.andThen]
    exact this
  · rw [h1]
    simp only [ne0 h2, cond_true, R.andThen]; rfl
end Go.Proofs.Ytifkepfcjhebfaa
