/- The parser's laws: there and back, cut off, and what it reads is packed so. -/
import Derived.Test.YtifkepfcjhebfaaP5
set_option linter.unusedSimpArgs false
set_option linter.unusedVariables false
namespace Go.Proofs.Ytifkepfcjhebfaa
open Go.Ab Go.RowKit
/-- p reads v of the bytes B, whatever stands behind, and lacks bytes of each shorter beginning -/
structure Cod {α : Type} (p : List Int → R α) (B : List Int) (v : α) : Prop where
  rt : ∀ z, p (B ++ z) = .ok v z
  cut : ∀ k, k < B.length → p (B.take k) = .no 10
theorem Cod.whole {α : Type} {p : List Int → R α} {B : List Int} {v : α} (h : Cod p B v) : p B = .ok v [] := by
  have := h.rt []; rwa [List.append_nil] at this
theorem cod_num {n : Int} (h : okI .i64 n) : Cod rI (num n) n := ⟨num_read h, fun k hk => num_cut h hk⟩
theorem take_app {A B : List Int} {k : Nat} (h : A.length ≤ k) : (A ++ B).take k = A ++ B.take (k - A.length) := by
  rw [List.take_append, List.take_of_length_le h]
theorem Cod.seq {α β : Type} {p : List Int → R α} {q : α → List Int → R β} {B C : List Int} {v : α} {w : β} (h1 : Cod p B v) (h2 : Cod (q v) C w) : Cod (fun b => (p b).andThen q) (B ++ C) w where
  rt z := by rw [List.append_assoc, h1.rt]; exact h2.rt z
  cut k hk := by
    rcases Nat.lt_or_ge k B.length with h | h
    · rw [List.take_append_of_le_length (by omega), h1.cut k h]; rfl
    · rw [take_app h, h1.rt]
      exact h2.cut _ (by rw [List.length_append] at hk; omega)
/-- a count ahead -/
theorem cod_cnt {β : Type} {q : Nat → List Int → R β} {C : List Int} {w : β} {n : Nat} (hn : n ≤ C.length) (hn2 : n ≤ 1000000000000) (rt : ∀ z, q n (C ++ z) = .ok w z) (cut : ∀ k, n ≤ k → k < C.length → q n (C.take k) = .no 10) : Cod (fun b => (pC b).andThen q) (num n ++ C) w where
  rt z := by
    unfold pC
    rw [List.append_assoc, num_read (okI_len hn2)]
    simp only [R.andThen]
    rw [if_neg (by omega), if_neg (by rw [List.length_append]; omega)]
    simpa using rt z
  cut k hk := by
    unfold pC
    rcases Nat.lt_or_ge k (num n).length with h | h
    · rw [List.take_append_of_le_length (by omega), num_cut (okI_len hn2) h]; rfl
    · rw [take_app h, num_read (okI_len hn2)]
      rw [List.length_append] at hk
      have hl : (C.take (k - (num n).length)).length = k - (num n).length := by rw [List.length_take]; omega
      simp only [R.andThen]
      rw [if_neg (by omega), hl]
      by_cases h2 : ((k - (num n).length : Nat) : Int) < (n : Int)
      · rw [if_pos h2]
      · rw [if_neg h2]
        simpa using cut (k - (num n).length) (by omega) (by omega)
theorem cod_str {s : ByteArray} (h : s.size ≤ 1000000) : Cod pS (str s) s := by
  have hl := strBytes_len s
  refine cod_cnt (q := fun n r => .ok (strOfNums (r.take n)) (r.drop n)) (by omega) (by omega) (fun z => ?_) (fun k h1 h2 => by omega)
  show R.ok _ _ = _
  rw [List.take_append_of_le_length (by omega), List.take_of_length_le (by omega), nums_strB, List.drop_append_of_le_length (by omega), List.drop_of_length_le (by omega), List.nil_append]
theorem cod_N {α : Type} {p : List Int → R α} {f : α → List Int} : ∀ (l : List α), (∀ x ∈ l, Cod p (f x) x) → Cod (pN p l.length) (l.flatMap f) l
  | [], _ => ⟨fun z => rfl, fun k hk => by simp at hk⟩
  | x :: l, h => by
    have h1 := h x (by simp)
    have h2 := cod_N l (fun y hy => h y (by simp [hy]))
    have h3 : Cod (fun b => (pN p l.length b).andThen fun xs r => R.ok (x :: xs) r) (l.flatMap f ++ []) (x :: l) := h2.seq ⟨fun z => rfl, fun k hk => by simp at hk⟩
    rw [List.append_nil] at h3
    have h4 := h1.seq (q := fun x r => (pN p l.length r).andThen fun xs r => R.ok (x :: xs) r) h3
    rw [List.flatMap_cons]
    exact ⟨fun z => h4.rt z, fun k hk => h4.cut k hk⟩
theorem cod_ints {l : List Int} (h : ∀ x ∈ l, okI .i64 x) (hl : l.length ≤ 1000000) : Cod pInts (ints l) l := by
  have h1 := cod_N (p := rI) (f := num) l (fun x hx => cod_num (h x hx))
  have := nums_len h
  exact cod_cnt (q := fun n r => pN rI n r) (by omega) (by omega) h1.rt (fun k _ hk => h1.cut k hk)
theorem Cod.map {α β : Type} {p : List Int → R α} {B : List Int} {v : α} (h : Cod p B v) (f : α → β) : Cod (fun b => (p b).andThen fun v r => R.ok (f v) r) B (f v) :=
  ⟨fun z => by show (p _).andThen _ = _; rw [h.rt]; rfl, fun k hk => by show (p _).andThen _ = _; rw [h.cut k hk]; rfl⟩
theorem cod_op {o : Op} (h : SOp o) : Cod pOp1 (opB o) o := by
  obtain ⟨⟨h1, h2, h3, h4, h5, h6, h7, h8⟩, s1, s2, s3⟩ := h
  have he : o = ⟨o.kind, o.client, o.path, o.to_, o.n, o.m, o.handle, strBytes (strOfNums o.data)⟩ := by rw [strB_nums h8]
  unfold pOp1 opB
  refine (cod_num h1).seq ((cod_num h2).seq ((cod_str (by omega)).seq ((cod_str (by omega)).seq ((cod_num h5).seq ((cod_num h6).seq ((cod_num h7).seq ?_))))))
  have := (cod_str (s := strOfNums o.data) (by rw [nums_size]; omega)).map (fun v8 => (⟨o.kind, o.client, o.path, o.to_, o.n, o.m, o.handle, strBytes v8⟩ : Op))
  rw [← he] at this
  exact this
theorem cod_ans {a : Ans} (h : SAns a) : Cod pAns1 (ansB a) a := by
  obtain ⟨⟨h1, h2, h3, h4, h5, h6, h7⟩, s1, s2, s3⟩ := h
  have he : a = ⟨a.err, a.ino, a.kind, a.n, a.m, a.names, strBytes (strOfNums a.data)⟩ := by rw [strB_nums h7]
  have hN := cod_N (p := pS) (f := str) a.names (fun s hs => cod_str (by have := s2 s hs; omega))
  have hT := (cod_str (s := strOfNums a.data) (by rw [nums_size]; omega)).map (fun v8 => (⟨a.err, a.ino, a.kind, a.n, a.m, a.names, strBytes v8⟩ : Ans))
  rw [← he] at hT
  have hNT := hN.seq (q := fun l r => pTail a.err a.ino a.kind a.n a.m l r) hT
  have hl := strs_len s2
  have hC : Cod (fun b => (pC b).andThen fun n r6 => (pN pS n r6).andThen fun l r7 => pTail a.err a.ino a.kind a.n a.m l r7) (num (a.names.length : Nat) ++ (a.names.flatMap str ++ str (strOfNums a.data))) a :=
    cod_cnt (by rw [List.length_append]; omega) (by omega) hNT.rt (fun k _ hk => hNT.cut k hk)
  have e : ansB a = num a.err ++ (num a.ino ++ (num a.kind ++ (num a.n ++ (num a.m ++ (num (a.names.length : Nat) ++ (a.names.flatMap str ++ str (strOfNums a.data))))))) := by unfold ansB ansH; simp
  rw [e]
  unfold pAns1
  refine (cod_num h1).seq ((cod_num h2).seq ((cod_num h3).seq ((cod_num h4).seq ((cod_num h5).seq ?_))))
  exact hC
theorem end_laws {α : Type} {p : List Int → R α} {B : List Int} {v : α} (h : Cod p B v) : (p B).andThen pEnd = .ok v [] ∧ (∀ k, k < B.length → (p (B.take k)).andThen pEnd = .no 10) ∧ ∀ x, (p (B ++ [x])).andThen pEnd = .no 11 := by
  refine ⟨?_, fun k hk => ?_, fun x => ?_⟩
  · rw [h.whole]; simp [R.andThen, pEnd]
  · rw [h.cut k hk]; rfl
  · rw [h.rt]; simp [R.andThen, pEnd]
/-! what is read is packed so -/
theorem rd_num {b r : List Int} {v : Int} (hb : G b) (h : rI b = .ok v r) : b = num v ++ r ∧ okI .i64 v ∧ G r ∧ r.length < b.length := by
  have p := read_num hb.1 h
  have q := rI_G hb h
  exact ⟨p.1, p.2, q.1, q.2.1⟩
theorem andThen_ok {α β : Type} {x : R α} {f : α → List Int → R β} {v : β} {r : List Int} (h : x.andThen f = .ok v r) : ∃ w s, x = .ok w s ∧ f w s = .ok v r := by
  cases x with
  | ok w s => exact ⟨w, s, rfl, h⟩
  | no e => cases h
theorem rd_cnt {b r : List Int} {n : Nat} (hb : G b) (h : pC b = .ok n r) : b = num (n : Int) ++ r ∧ n ≤ r.length ∧ G r ∧ r.length < b.length := by
  unfold pC at h
  obtain ⟨w, s, h1, h2⟩ := andThen_ok h
  obtain ⟨e1, e2, e3, e4⟩ := rd_num hb h1
  split at h2
  · cases h2
  · split at h2
    · cases h2
    · injection h2 with h3 h4
      subst h3; subst h4
      have : ((w.toNat : Nat) : Int) = w := by omega
      rw [this]
      exact ⟨e1, by omega, e3, e4⟩
theorem rd_str {b r : List Int} {s : ByteArray} (hb : G b) (h : pS b = .ok s r) : b = str s ++ r ∧ s.size ≤ b.length ∧ G r ∧ r.length < b.length := by
  unfold pS at h
  obtain ⟨n, t, h1, h2⟩ := andThen_ok h
  obtain ⟨e1, e2, e3, e4⟩ := rd_cnt hb h1
  injection h2 with h3 h4
  subst h3; subst h4
  have hl : (strOfNums (t.take n)).size = n := by rw [nums_size, List.length_take]; omega
  refine ⟨?_, by omega, e3.drop n, by rw [List.length_drop]; omega⟩
  unfold str
  rw [hl, strB_nums (e3.1.take n), List.append_assoc, List.take_append_drop]; exact e1
theorem rd_N {α : Type} {p : List Int → R α} {f : α → List Int} {ok : α → Prop} {B : Nat} (hp : ∀ b v r, G b → b.length ≤ B → p b = .ok v r → b = f v ++ r ∧ ok v ∧ G r ∧ r.length < b.length) : ∀ (k : Nat) (b : List Int) (l : List α) (r : List Int), G b → b.length ≤ B → pN p k b = .ok l r → b = l.flatMap f ++ r ∧ (∀ x ∈ l, ok x) ∧ G r ∧ r.length ≤ b.length ∧ l.length = k
  | 0, b, l, r, hb, hB, h => by unfold pN at h; injection h with h1 h2; subst h1; subst h2; exact ⟨rfl, fun x hx => (by cases hx), hb, Nat.le_refl _, rfl⟩
  | k + 1, b, l, r, hb, hB, h => by
    unfold pN at h
    obtain ⟨x, s, h1, h2⟩ := andThen_ok h
    obtain ⟨xs, t, h3, h4⟩ := andThen_ok h2
    injection h4 with h5 h6
    subst h5; subst h6
    obtain ⟨e1, e2, e3, e4⟩ := hp b x s hb hB h1
    obtain ⟨f1, f2, f3, f4, f5⟩ := rd_N hp k s xs t e3 (by omega) h3
    refine ⟨?_, fun y hy => ?_, f3, by omega, by simp [f5]⟩
    · rw [List.flatMap_cons, List.append_assoc, ← f1]; exact e1
    · rcases List.mem_cons.1 hy with h | h
      · rw [h]; exact e2
      · exact f2 y h
theorem rd_ints {b r l : List Int} (hb : G b) (h : pInts b = .ok l r) : b = ints l ++ r ∧ (∀ x ∈ l, okI .i64 x) ∧ G r ∧ r.length < b.length ∧ l.length ≤ b.length := by
  unfold pInts at h
  obtain ⟨n, t, h1, h2⟩ := andThen_ok h
  obtain ⟨e1, e2, e3, e4⟩ := rd_cnt hb h1
  obtain ⟨f1, f2, f3, f4, f5⟩ := rd_N (f := num) (ok := okI .i64) (B := t.length) (fun b v r hb _ h => rd_num hb h) n t l r e3 (Nat.le_refl _) h2
  refine ⟨?_, f2, f3, by omega, by omega⟩
  unfold ints
  rw [f5, List.append_assoc, ← f1]; exact e1
theorem rd_op {b : List Int} {o : Op} (hb : G b) (hl : b.length ≤ 100000) {r : List Int} (h : pOp b = .ok o r) : b = opB o ∧ SOp o := by
  unfold pOp pOp1 at h
  obtain ⟨o', s, h, hE⟩ := andThen_ok h
  obtain ⟨v1, r1, a1, h⟩ := andThen_ok h
  obtain ⟨b1, c1, g1, l1⟩ := rd_num hb a1
  obtain ⟨v2, r2, a2, h⟩ := andThen_ok h
  obtain ⟨b2, c2, g2, l2⟩ := rd_num g1 a2
  obtain ⟨v3, r3, a3, h⟩ := andThen_ok h
  obtain ⟨b3, c3, g3, l3⟩ := rd_str g2 a3
  obtain ⟨v4, r4, a4, h⟩ := andThen_ok h
  obtain ⟨b4, c4, g4, l4⟩ := rd_str g3 a4
  obtain ⟨v5, r5, a5, h⟩ := andThen_ok h
  obtain ⟨b5, c5, g5, l5⟩ := rd_num g4 a5
  obtain ⟨v6, r6, a6, h⟩ := andThen_ok h
  obtain ⟨b6, c6, g6, l6⟩ := rd_num g5 a6
  obtain ⟨v7, r7, a7, h⟩ := andThen_ok h
  obtain ⟨b7, c7, g7, l7⟩ := rd_num g6 a7
  obtain ⟨v8, r8, a8, h⟩ := andThen_ok h
  obtain ⟨b8, c8, g8, l8⟩ := rd_str g7 a8
  injection h with h1 h2
  subst h1; subst h2
  unfold pEnd at hE
  split at hE
  case isFalse => cases hE
  rename_i hnil
  injection hE with h3 h4
  subst h3
  refine ⟨?_, ⟨c1, c2, by show v3.size ≤ _; omega, by show v4.size ≤ _; omega, c5, c6, c7, strB_ok v8⟩, by simp only; omega, by simp only; omega, by simp only; rw [strBytes_len]; omega⟩
  unfold opB
  simp only
  rw [nums_strB, b1, b2, b3, b4, b5, b6, b7, b8, hnil, List.append_nil]
theorem rd_ans {b : List Int} {a : Ans} (hb : G b) (hl : b.length ≤ 100000) {r : List Int} (h : pAns b = .ok a r) : b = ansB a ∧ SAns a := by
  unfold pAns pAns1 at h
  obtain ⟨o', s, h, hE⟩ := andThen_ok h
  obtain ⟨v1, r1, a1, h⟩ := andThen_ok h
  obtain ⟨b1, c1, g1, l1⟩ := rd_num hb a1
  obtain ⟨v2, r2, a2, h⟩ := andThen_ok h
  obtain ⟨b2, c2, g2, l2⟩ := rd_num g1 a2
  obtain ⟨v3, r3, a3, h⟩ := andThen_ok h
  obtain ⟨b3, c3, g3, l3⟩ := rd_num g2 a3
  obtain ⟨v4, r4, a4, h⟩ := andThen_ok h
  obtain ⟨b4, c4, g4, l4⟩ := rd_num g3 a4
  obtain ⟨v5, r5, a5, h⟩ := andThen_ok h
  obtain ⟨b5, c5, g5, l5⟩ := rd_num g4 a5
  obtain ⟨n, r6, a6, h⟩ := andThen_ok h
  obtain ⟨b6, c6, g6, l6⟩ := rd_cnt g5 a6
  obtain ⟨ns, r7, a7, h⟩ := andThen_ok h
  obtain ⟨b7, c7, g7, l7, k7⟩ := rd_N (f := str) (ok := fun s => s.size ≤ 100000) (B := 100000) (fun b v r hb hB h => by
    obtain ⟨e1, e2, e3, e4⟩ := rd_str hb h
    exact ⟨e1, by omega, e3, e4⟩) n r6 ns r7 g6 (by omega) a7
  unfold pTail at h
  obtain ⟨v8, r8, a8, h⟩ := andThen_ok h
  obtain ⟨b8, c8, g8, l8⟩ := rd_str g7 a8
  injection h with h1 h2
  subst h1; subst h2
  unfold pEnd at hE
  split at hE
  case isFalse => cases hE
  rename_i hnil
  injection hE with h3 h4
  subst h3
  refine ⟨?_, ⟨c1, c2, c3, c4, c5, fun s hs => (by have := c7 s hs; unfold okS; omega), strB_ok v8⟩, by simp only; omega, c7, by simp only; rw [strBytes_len]; omega⟩
  unfold ansB ansH
  simp only
  rw [nums_strB, k7, b1, b2, b3, b4, b5, b6, b7, b8, hnil, List.append_nil]
  simp
end Go.Proofs.Ytifkepfcjhebfaa
