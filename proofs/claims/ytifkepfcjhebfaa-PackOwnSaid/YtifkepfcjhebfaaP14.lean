/- PackOwn, the plain law. -/
import Derived.Test.YtifkepfcjhebfaaG9
import Derived.Test.YtifkepfcjhebfaaP7
set_option linter.unusedSimpArgs false
set_option linter.unusedVariables false
namespace Go.Proofs.Ytifkepfcjhebfaa
open Go.Ab Go.RowKit
/-- errors are those two -/
def NoP {α : Type} (p : List Int → R α) : Prop := ∀ b e, p b = .no e → e = 10 ∨ e = 11
theorem NoP.then {α β : Type} {p : List Int → R α} {q : α → List Int → R β} (h1 : NoP p) (h2 : ∀ v, NoP (q v)) : NoP (fun b => (p b).andThen q) := fun b e h => by
  simp only at h
  cases h3 : p b with
  | no e' => rw [h3] at h; injection h with h; subst h; exact h1 b e' h3
  | ok v r => rw [h3] at h; exact h2 v r e h
theorem no_I : NoP rI := fun b e h => rI_no h
theorem no_ok {α β : Type} {f : α → List Int → β} {g : List Int → List Int} (v : α) : NoP (fun r => R.ok (f v r) (g r)) := fun b e h => by cases h
theorem no_C : NoP pC := no_I.then fun n r e h => by
  split at h
  · injection h with h; exact .inr h.symm
  · split at h
    · injection h with h; exact .inl h.symm
    · cases h
theorem no_S : NoP pS := no_C.then fun n r e h => by cases h
theorem no_N {α : Type} {p : List Int → R α} (h : NoP p) : ∀ k, NoP (pN p k)
  | 0 => fun b e h => by unfold pN at h; cases h
  | k + 1 => fun b e h2 => by
    unfold pN at h2
    exact (h.then (q := fun x r => (pN p k r).andThen fun xs r => .ok (x :: xs) r) fun x => (no_N h k).then fun xs r e h => by cases h) b e h2
theorem no_E {α : Type} (v : α) : NoP (pEnd v) := fun b e h => by
  unfold pEnd at h
  split at h
  · cases h
  · injection h with h; exact .inr h.symm
theorem no_Op : NoP pOp := NoP.then (p := pOp1) (q := pEnd) (no_I.then fun _ => no_I.then fun _ => no_S.then fun _ => no_S.then fun _ => no_I.then fun _ => no_I.then fun _ => no_I.then fun _ => no_S.then fun _ r e h => by cases h) no_E
theorem no_Ans : NoP pAns := NoP.then (p := pAns1) (q := pEnd) (no_I.then fun _ => no_I.then fun _ => no_I.then fun _ => no_I.then fun _ => no_I.then fun _ => no_C.then fun n => (no_N no_S n).then fun _ => no_S.then fun _ r e h => by cases h) no_E
theorem no_Ints : NoP pInts := no_C.then fun n => no_N no_I n
theorem own_J3 {b : List Int} (g : G b) (hl : b.length ≤ 2000) : law01_PackOwn_J3 b true false = some true := by
  unfold law01_PackOwn_J3
  have hz : Bs Z0.data := fun x hx => by cases hx
  have ha : Bs A0.data := fun x hx => by cases hx
  rw [cond_false, pReadOp_eq g, Option.bind_some, pReadAns_eq g, Option.bind_some, cond_true]
  have hA0 : ref01_SameAns_f A0 (⟨0, 0, 0, 0, 0, [], []⟩ : Ans) = some true := by
    rw [sameAns_eq ha (fun x hx => by cases hx) (by simp [A0])]; rfl
  have hO0 : ref01_SameOp_f Z0 (⟨0, 0, ByteArray.empty, ByteArray.empty, 0, 0, 0, []⟩ : Op) = some true := by
    rw [sameOp_eq hz (fun x hx => by cases hx)]; rfl
  have n0 : ∀ {e : Int}, (e = 10 ∨ e = 11) → (e == 0) = false := fun h => by rcases h with rfl | rfl <;> rfl
  cases h1 : pOp b with
  | ok o r =>
    obtain ⟨e1, s1⟩ := rd_op g (by omega) h1
    have q1 : ref01_Same_f (opB o) b = some true := by rw [rSame_eq (opB_ok s1) g.1, decide_eq_true e1.symm]
    cases h2 : pAns b with
    | ok a r2 =>
      obtain ⟨e2, s2⟩ := rd_ans g (by omega) h2
      have q2 : ref01_Same_f (ansB a) b = some true := by rw [rSame_eq (ansB_ok s2) g.1, decide_eq_true e2.symm]
      simp only [TE, beq_self_eq_true, cond_true, pOp_eq s1, Option.bind_some, q1, pAns_eq s2, q2]
    | no e2 =>
      have m2 := no_Ans b e2 h2
      simp only [TE, beq_self_eq_true, cond_true, pOp_eq s1, Option.bind_some, q1, n0 m2, ne0 m2, cond_false, hA0]
  | no e1 =>
    have m1 := no_Op b e1 h1
    cases h2 : pAns b with
    | ok a r2 =>
      obtain ⟨e2, s2⟩ := rd_ans g (by omega) h2
      have q2 : ref01_Same_f (ansB a) b = some true := by rw [rSame_eq (ansB_ok s2) g.1, decide_eq_true e2.symm]
      simp only [TE, beq_self_eq_true, cond_true, cond_false, n0 m1, ne0 m1, hO0, Option.bind_some, pAns_eq s2, q2]
    | no e2 =>
      have m2 := no_Ans b e2 h2
      simp only [TE, beq_self_eq_true, cond_true, cond_false, n0 m1, ne0 m1, hO0, Option.bind_some, n0 m2, ne0 m2, hA0]
theorem own_J2 {b : List Int} (g : G b) (hl : b.length ≤ 2000) : law01_PackOwn_J2 b true false = some true := by
  unfold law01_PackOwn_J2
  have n0 : ∀ {e : Int}, (e = 10 ∨ e = 11) → (e == 0) = false := fun h => by rcases h with rfl | rfl <;> rfl
  rw [cond_false, pReadInts_eq g, Option.bind_some]
  cases h : pInts b with
  | ok l r =>
    obtain ⟨e1, h2, g2, h3, h4⟩ := rd_ints g h
    have hb : Bs (ints l) := Bs.app (num_ok (okI_len (by omega))) (nums_ok h2)
    have hlen : (ints l).length + r.length = b.length := by rw [e1, List.length_append]
    have hT : T3 ([] : List Int) (R.ok l r) = (l, r, 0) := rfl
    rw [hT]
    simp only [beq_self_eq_true, cond_true]
    rw [pInts_eq h2 (by omega), Option.bind_some, few_eq, Option.bind_some, List.take_of_length_le (by omega), chk_pos (by omega), rSame_eq (Bs.app hb g2.1) g.1, Option.bind_some, decide_eq_true e1.symm]
    exact own_J3 g hl
  | no e =>
    have m := no_Ints b e h
    have hw : IntKind.wrap .i64 ((([] : List Int).length : Int) + (([] : List Int).length : Int)) = 0 := by decide
    simp only [T3, n0 m, ne0 m, cond_false, hw, Bool.true_and]
    exact own_J3 g hl
theorem own_J1 {b : List Int} (g : G b) (hl : b.length ≤ 2000) : law01_PackOwn_J1 b true false = some true := by
  unfold law01_PackOwn_J1
  have n0 : ∀ {e : Int}, (e = 10 ∨ e = 11) → (e == 0) = false := fun h => by rcases h with rfl | rfl <;> rfl
  rw [cond_false, pReadStr_eq g, Option.bind_some]
  cases h : pS b with
  | ok s r =>
    obtain ⟨e1, h2, g2, h3⟩ := rd_str g h
    have hlen : (str s).length + r.length = b.length := by rw [e1, List.length_append]
    have hT : T3 E0 (R.ok s r) = (s, r, 0) := rfl
    rw [hT]
    simp only [beq_self_eq_true, cond_true]
    rw [pStr_eq (by omega), Option.bind_some, few_eq, Option.bind_some, List.take_of_length_le (by omega), chk_pos (by omega), rSame_eq (Bs.app (str_ok (by omega)) g2.1) g.1, Option.bind_some, decide_eq_true e1.symm]
    exact own_J2 g hl
  | no e =>
    have m := no_S b e h
    simp only [T3, n0 m, ne0 m, cond_false, Bool.true_and]
    have : (!(E0.toList == (⟨#[]⟩ : ByteArray).toList)) = false := by rw [tl_eq]; rfl
    rw [this]
    exact own_J2 g hl
theorem PackOwn_true (y0 : List Int) (o0 : ∀ y22 ∈ y0, okI .u8 y22) : law01_PackOwn_f y0 = some true := by
  unfold law01_PackOwn_f
  have n0 : ∀ {e : Int}, (e = 10 ∨ e = 11) → (e == 0) = false := fun h => by rcases h with rfl | rfl <;> rfl
  obtain ⟨b, hb⟩ : ∃ b, b = y0.take 2000 := ⟨_, rfl⟩
  have hl : b.length ≤ 2000 := by rw [hb, List.length_take]; omega
  have g : G b := ⟨by rw [hb]; exact Bs.take o0 2000, by omega⟩
  rw [head_eq, Option.bind_some, few_eq, Option.bind_some, ← hb, pRead_eq g.1 g.2, Option.bind_some]
  cases h : rI b with
  | ok v r =>
    obtain ⟨e1, h2, g2, h3⟩ := rd_num g h
    have hlen : (num v).length + r.length = b.length := by rw [e1, List.length_append]
    have hT : T3 (0 : Int) (R.ok v r) = (v, r, 0) := rfl
    rw [hT]
    simp only [beq_self_eq_true, cond_true]
    rw [pInt_eq h2, Option.bind_some, few_eq, Option.bind_some, List.take_of_length_le (by omega), chk_pos (by omega), rSame_eq (Bs.app (num_ok h2) g2.1) g.1, Option.bind_some, decide_eq_true e1.symm]
    exact own_J1 g hl
  | no e =>
    have m := rI_no h
    simp only [T3, n0 m, ne0 m, cond_false, Bool.true_and]
    exact own_J1 g hl
end Go.Proofs.Ytifkepfcjhebfaa
