import Derived.Test.YtmkpokcfefjifaaDoorQ8
import Derived.Test.YtmkpokcfefjifaaDoorQ6
import Derived.Test.YtmkpokcfefjifaaDoorQ7
import Derived.Test.YtmkpokcfefjifaaDoorG7
import Derived.Test.YtmkpokcfefjifaaDoorP0
set_option linter.unusedSectionVars false
/- One round of teaching: what a leader sends, what the seat makes of it, and what the leader hears back. -/
set_option linter.unusedSimpArgs false
set_option linter.unusedVariables false
namespace Go.Proofs.YtmkpokcfefjifaaDoor
open Go.Ab Go.RowKit
theorem tm_cons {e : Entry} {es : List Entry} {p : Nat} : tm (e :: es) (p + 1) = if p = 0 then e.term else tm es p := by
  unfold tm
  rw [if_neg (by omega)]
  split
  · rename_i h; subst h; rfl
  · rename_i h
    obtain ⟨q, rfl⟩ : ∃ q, p = q + 1 := ⟨p - 1, by omega⟩
    rfl
theorem srt_drop : ∀ {l : List Entry} {u t : Int} {p : Nat}, srt u l t → p ≤ l.length → srt (if p = 0 then u else tm l p) (l.drop p) t
  | l, u, t, 0, h, _ => by simpa using h
  | e :: es, u, t, p + 1, h, hp => by
    rw [if_neg (by omega), tm_cons, List.drop_succ_cons]
    exact srt_drop h.2.2.2 (by simpa using hp)
  | [], u, t, p + 1, h, hp => by simp at hp
theorem srt_take : ∀ {l : List Entry} {u t : Int} (k : Nat), srt u l t → srt u (l.take k) t
  | _, _, _, 0, _ => by rw [List.take_zero]; trivial
  | [], _, _, k + 1, _ => by rw [List.take_nil]; trivial
  | e :: es, u, t, k + 1, h => by rw [List.take_succ_cons]; exact ⟨h.1, h.2.1, h.2.2.1, srt_take k h.2.2.2⟩
theorem srt_low : ∀ {l : List Entry} {u t : Int}, srt u l t → ∀ e ∈ l, u ≤ e.term ∧ e.term ≤ t ∧ e.data.length ≤ 200
  | e :: es, u, t, h, x, hx => by
    rcases List.mem_cons.1 hx with rfl | hx
    · exact ⟨h.1, h.2.1, h.2.2.1⟩
    · have := srt_low h.2.2.2 x hx; have := h.1; exact ⟨by omega, by omega, by omega⟩
  | [], _, _, _, x, hx => by cases hx
theorem okW_srt : ∀ {es : List Entry} {u t : Int}, srt u es t → okW t (numsE es) u (dataE es) = true
  | [], u, t, _ => rfl
  | e :: es, u, t, h => by
    show okW t (e.term :: (e.data.length : Int) :: numsE es) u (e.data ++ dataE es) = true
    have := h.1; have := h.2.1; have := h.2.2.1
    rw [okW, if_neg (by rw [List.length_append]; omega), Int.toNat_natCast, List.drop_left]
    exact okW_srt h.2.2.2
theorem parse_E : ∀ (es : List Entry), parse (numsE es) (dataE es) = es
  | [] => rfl
  | e :: es => by
    show parse (e.term :: (e.data.length : Int) :: numsE es) (e.data ++ dataE es) = e :: es
    rw [parse, Int.toNat_natCast, List.drop_left, List.take_left, parse_E es]
theorem numsE_len (es : List Entry) : (numsE es).length = 2 * es.length := by
  induction es with
  | nil => rfl
  | cons e es ih => show (e.term :: (e.data.length : Int) :: numsE es).length = _; simp only [List.length_cons]; omega
theorem dataE_len {es : List Entry} (h : ∀ e ∈ es, e.data.length ≤ 200) : (dataE es).length ≤ 200 * es.length := by
  induction es with
  | nil => simp [dataE]
  | cons e es ih =>
    show (e.data ++ dataE es).length ≤ _
    have := h e (by simp); have := ih (fun x hx => h x (by simp [hx]))
    rw [List.length_append, List.length_cons]; omega
theorem numsE_mem {es : List Entry} {n : Int} (h : n ∈ numsE es) : ∃ e ∈ es, n = e.term ∨ n = e.data.length := by
  unfold numsE at h
  obtain ⟨e, he, h⟩ := List.mem_flatMap.1 h
  simp at h
  exact ⟨e, he, h⟩
theorem dataE_mem {es : List Entry} {n : Int} (h : n ∈ dataE es) : ∃ e ∈ es, n ∈ e.data := List.mem_flatMap.1 h
/-- a leader, and a seat that is taught by it -/
structure Tea (L S : Seat) (i : Nat) : Prop where
  lo : Ok L
  so : Ok S
  l3 : L.role = 3
  st : srt 1 L.log L.term
  t1 : 0 < L.term
  lk : okI .i64 L.id
  sk : okI .i64 S.id
  pe : S.peers = L.peers
  ne : S.id ≠ L.id
  ip : i < L.peers.length
  ii : L.peers.getD i 0 = S.id
  tle : S.term ≤ L.term
  tr : S.term = L.term → S.role ≠ 3
  cc : S.commit ≤ L.log.length ∧ S.log.take S.commit.toNat = L.log.take S.commit.toNat
  me : meets S.log L.log
  ma : L.match_.getD i 0 ≤ S.log.length ∧ S.log.take (L.match_.getD i 0).toNat = L.log.take (L.match_.getD i 0).toNat
theorem tm_ge {l : List Entry} {t : Int} (h : srt 1 l t) {p : Nat} (hp : p ≤ l.length) : 0 ≤ tm l p ∧ (p ≠ 0 → 1 ≤ tm l p) ∧ tm l p ≤ max 0 t := by
  unfold tm
  split
  · exact ⟨Int.le_refl _, fun n => absurd ‹p = 0› n, by omega⟩
  · have : l.getD (p - 1) default ∈ l := by
      rw [List.getD_eq_getElem?_getD, List.getElem?_eq_getElem (by omega)]; exact List.getElem_mem _
    have := srt_low h _ this
    exact ⟨by omega, fun _ => by omega, by omega⟩
section
variable {L S : Seat} {i : Nat}
theorem Tea.lm (h : Tea L S i) : 0 ≤ L.match_.getD i 0 ∧ L.match_.getD i 0 ≤ L.log.length ∧ L.match_.getD i 0 < L.next.getD i 0 ∧ L.next.getD i 0 ≤ L.log.length + 1 := by
  obtain ⟨a, b, c, d, _⟩ := h.lo.rl.lm h.l3 i h.ip
  exact ⟨a, b, c, d⟩
/-- the place from which the leader sends -/
def atN (L : Seat) (i : Nat) : Nat := (L.next.getD i 0 - 1).toNat
theorem Tea.at_ (h : Tea L S i) : L.next.getD i 0 - 1 = (atN L i : Int) ∧ atN L i ≤ L.log.length ∧ L.match_.getD i 0 ≤ atN L i := by
  obtain ⟨a, b, c, d⟩ := h.lm
  unfold atN; omega
theorem Tea.sent_srt (h : Tea L S i) : srt (if 1 > tm L.log (atN L i) then 1 else tm L.log (atN L i)) (sentE L i) L.term := by
  obtain ⟨e, hl, _⟩ := h.at_
  have sd := srt_drop h.st hl
  have g := tm_ge h.st hl
  refine srt_take 8 ?_
  show srt _ (L.log.drop (atN L i)) L.term
  by_cases z : atN L i = 0
  · rw [if_pos z] at sd
    have t0 : tm L.log (atN L i) = 0 := by rw [z]; rfl
    rw [if_pos (by omega)]; exact sd
  · rw [if_neg z] at sd
    have := g.2.1 z
    rw [if_neg (by omega)]; exact sd
theorem Tea.sent_len (h : Tea L S i) : (sentE L i).length = min 8 (L.log.length - atN L i) := by
  unfold sentE; rw [List.length_take, List.length_drop]; rfl
theorem Tea.put_nums (h : Tea L S i) : (putM L i).nums = [L.term, (atN L i : Int), tm L.log (atN L i), L.commit] ++ numsE (sentE L i) := by
  unfold putM
  rw [h.at_.1, Int.toNat_natCast]
theorem Tea.sent_mem (h : Tea L S i) : ∀ e ∈ sentE L i, e ∈ L.log := fun e he => List.mem_of_mem_drop (List.mem_of_mem_take he)
theorem Tea.m_ok (h : Tea L S i) : MOk (putM L i) := by
  have hm := h.sent_mem
  have hl := h.sent_len
  have hd : ∀ e ∈ sentE L i, e.data.length ≤ 200 := fun e he => (h.lo.lg.2 e (hm e he)).2
  have dl := dataE_len hd
  have t0 := h.lo.t0; have tmx := h.lo.tm; have ll := h.lo.ll; have c0 := h.lo.c0; have c1 := h.lo.c1
  have al := h.at_.2.1
  have tg := tm_ge h.st al
  refine ⟨?_, ?_, h.lk, ?_, ?_, ?_, ?_⟩
  · rw [h.put_nums, List.length_append, numsE_len, hl]; simp; omega
  · show (dataE (sentE L i)).length ≤ 2400; omega
  · show okI .i64 (L.peers.getD i 0); rw [h.ii]; exact h.sk
  · show okI .i64 3; show _ ∧ _; decide
  · intro y hy
    rw [h.put_nums] at hy
    rcases List.mem_append.1 hy with hy | hy
    · simp only [List.mem_cons, List.not_mem_nil, or_false] at hy
      show _ ∧ _
      rcases hy with rfl | rfl | rfl | rfl <;> omega
    · obtain ⟨e, he, hy⟩ := numsE_mem hy
      have oe := (h.lo.lg.2 e (hm e he)).1.1
      have de := hd e he
      rcases hy with rfl | rfl
      · exact oe
      · show _ ∧ _; omega
  · intro y hy
    obtain ⟨e, he, hy⟩ := dataE_mem hy
    exact (h.lo.lg.2 e (hm e he)).1.2 y hy
theorem Tea.car_eq (h : Tea L S i) : car (putM L i) = sentE L i := by
  unfold car
  rw [h.put_nums]
  exact parse_E _
theorem Tea.n0 (h : Tea L S i) : (putM L i).nums.getD 0 0 = L.term := by rw [h.put_nums]; rfl
theorem Tea.n1 (h : Tea L S i) : (putM L i).nums.getD 1 0 = atN L i := by rw [h.put_nums]; rfl
theorem Tea.n2 (h : Tea L S i) : (putM L i).nums.getD 2 0 = tm L.log (atN L i) := by rw [h.put_nums]; rfl
theorem Tea.n3 (h : Tea L S i) : (putM L i).nums.getD 3 0 = L.commit := by rw [h.put_nums]; rfl
theorem Tea.m_for (h : Tea L S i) : forB S (putM L i) = true := by
  have hl := h.sent_len
  have t0 := h.lo.t0; have tmx := h.lo.tm; have c0 := h.lo.c0
  have al := h.at_.2.1
  have tg := tm_ge h.st al
  have len : (putM L i).nums.length = 4 + 2 * (sentE L i).length := by rw [h.put_nums, List.length_append, numsE_len]; rfl
  unfold forB
  have an : ((putM L i).nums.any neg) = false := by
    rw [List.any_eq_false]
    intro y hy
    rw [h.put_nums] at hy
    have : 0 ≤ y := by
      rcases List.mem_append.1 hy with hy | hy
      · simp only [List.mem_cons, List.not_mem_nil, or_false] at hy
        rcases hy with rfl | rfl | rfl | rfl <;> omega
      · obtain ⟨e, he, hy⟩ := numsE_mem hy
        have := srt_low h.st e (h.sent_mem e he)
        rcases hy with rfl | rfl <;> omega
    simp [neg]; omega
  rw [if_pos ⟨h.ii, fun e => h.ne e.symm, by rw [h.pe]; exact List.contains_iff_mem.2 h.lo.me, by show (1 : Int) ≤ 3; decide, by show (3 : Int) ≤ 4; decide, by omega, by rw [h.n0]; exact tmx, an⟩]
  unfold tailB
  rw [if_pos (show (putM L i).kind = 3 from rfl), h.n0, h.n2]
  have dr : (putM L i).nums.drop 4 = numsE (sentE L i) := by rw [h.put_nums]; rfl
  have da : (putM L i).data = dataE (sentE L i) := rfl
  rw [dr, da, okW_srt h.sent_srt, decide_eq_true (by omega), decide_eq_true (by omega)]; rfl
theorem Tea.up (h : Tea L S i) : (upS S (putM L i)).term = L.term ∧ (upS S (putM L i)).role ≠ 3 := by
  unfold upS
  rw [h.n0]
  have := h.tle
  split
  · exact ⟨rfl, fun n => absurd (show (1 : Int) = 3 from n) (by decide)⟩
  · exact ⟨by omega, h.tr (by omega)⟩
theorem Tea.hear (h : Tea L S i) : hearM S (putM L i) = putsM (upS S (putM L i)) (putM L i) := by
  unfold hearM
  rw [if_pos h.m_for]
  have k : (putM L i).kind = 3 := rfl
  rw [if_neg (by rw [k]; decide), if_neg (by rw [k]; decide), if_pos k]
/-- a beginning that is alike stays, where what is put in is alike -/
theorem mrg_keep : ∀ (d : Nat) (xs zs : List Entry) (k : Nat), d ≤ xs.length → d ≤ zs.length → xs.take d = zs.take d → (mrg xs (zs.take k)).take d = xs.take d ∧ d ≤ (mrg xs (zs.take k)).length
  | 0, xs, zs, k, _, _, _ => ⟨by simp, Nat.zero_le _⟩
  | d + 1, x :: xs, z :: zs, 0, h1, _, _ => by rw [List.take_zero, mrg_nil]; exact ⟨rfl, h1⟩
  | d + 1, x :: xs, z :: zs, k + 1, h1, h2, e => by
    rw [List.take_succ_cons, List.take_succ_cons, List.cons.injEq] at e
    obtain ⟨rfl, e⟩ := e
    rw [List.take_succ_cons, mrg_cons, if_pos rfl]
    obtain ⟨a, b⟩ := mrg_keep d xs zs k (by simpa using h1) (by simpa using h2) e
    exact ⟨by rw [List.take_succ_cons, List.take_succ_cons, a], by simpa using b⟩
  | d + 1, [], zs, k, h1, _, _ => by simp at h1
  | d + 1, x :: xs, [], k, _, h2, _ => by simp at h2
theorem take_drop_take {A D : List Entry} {p c : Nat} (h : A.take c = D.take c) : (A.drop p).take (c - p) = (D.drop p).take (c - p) := by
  have : (A.take c).drop p = (D.take c).drop p := by rw [h]
  rwa [List.drop_take, List.drop_take] at this
theorem take_less {A D : List Entry} {a b : Nat} (h : A.take b = D.take b) (hab : a ≤ b) : A.take a = D.take a := by
  have : (A.take b).take a = (D.take b).take a := by rw [h]
  rwa [List.take_take, List.take_take, Nat.min_eq_left hab] at this
/-- what putting a leader's entries does to a log that meets its -/
theorem put_taught {A D : List Entry} {p k : Nat} (hp : p ≤ A.length) (hd : p ≤ D.length) (hm : meets A D) (ht : tm A p = tm D p) {c : Nat} (hc : c ≤ A.length) (hcd : c ≤ D.length) (ec : A.take c = D.take c) :
    let R := put A p ((D.drop p).take k)
    R.length ≤ max A.length D.length ∧ c ≤ R.length ∧ R.take c = A.take c ∧ R.take (p + ((D.drop p).take k).length) = D.take (p + ((D.drop p).take k).length) ∧ p + ((D.drop p).take k).length ≤ R.length ∧ meets R D := by
  have eA := meets_upto hm hp hd ht
  intro R
  have lenE : ((D.drop p).take k).length = min k (D.length - p) := by rw [List.length_take, List.length_drop]
  have Rl : R.length = p + (mrg (A.drop p) ((D.drop p).take k)).length := put_len hp
  have mo : mrg (A.drop p) ((D.drop p).take k) = A.drop p ∨ mrg (A.drop p) ((D.drop p).take k) = (D.drop p).take k := by
    rcases mrg_meets (A.drop p) ((D.drop p).take k) (D.drop p) ⟨k, rfl⟩ with h | ⟨_, _, h⟩
    · exact .inl h
    · exact .inr h
  have Rd : R = A.take p ++ mrg (A.drop p) ((D.drop p).take k) := rfl
  have Rcase : R = A ∨ R = D.take (p + k) := by
    rcases mo with h | h
    · left; rw [Rd, h, List.take_append_drop]
    · right; rw [Rd, h, eA, List.take_add]
  have tl : (A.take p).length = p := by rw [List.length_take]; omega
  refine ⟨?_, ?_, ?_, ?_, ?_, ?_⟩
  · rcases Rcase with h | h
    · rw [h]; omega
    · rw [h, List.length_take]; omega
  · by_cases q : c ≤ p
    · omega
    · obtain ⟨_, b⟩ := mrg_keep (c - p) (A.drop p) (D.drop p) k (by rw [List.length_drop]; omega) (by rw [List.length_drop]; omega) (take_drop_take ec)
      omega
  · by_cases q : c ≤ p
    · rw [Rd, List.take_append_of_le_length (by omega), List.take_take, Nat.min_eq_left q]
    · obtain ⟨a, _⟩ := mrg_keep (c - p) (A.drop p) (D.drop p) k (by rw [List.length_drop]; omega) (by rw [List.length_drop]; omega) (take_drop_take ec)
      have e1 : R.take c = A.take p ++ (mrg (A.drop p) ((D.drop p).take k)).take (c - p) := by
        rw [Rd, List.take_append, tl, List.take_of_length_le (l := A.take p) (by omega)]
      rw [e1, a]
      have e2 : A.take c = A.take p ++ (A.drop p).take (c - p) := by
        have := List.take_add (l := A) (i := p) (j := c - p)
        rw [show p + (c - p) = c by omega] at this
        exact this
      rw [e2]
  · have tlD : (D.take p).length = p := by rw [List.length_take]; omega
    rw [Rd, eA, List.take_append, tlD, List.take_of_length_le (l := D.take p) (by omega)]
    rw [show p + ((D.drop p).take k).length - p = ((D.drop p).take k).length by omega, mrg_take, List.take_add]
    congr 1
    rw [lenE]
    by_cases q : k ≤ D.length - p
    · rw [Nat.min_eq_left q]
    · rw [List.take_of_length_le (l := D.drop p) (by rw [List.length_drop]; omega), List.take_of_length_le (by rw [List.length_drop]; omega)]
  · have := put_ge (l := A) (more := (D.drop p).take k) hp
    exact this
  · rcases Rcase with h | h
    · rw [h]; exact hm
    · rw [h]; exact meets_pre _
end
end Go.Proofs.YtmkpokcfefjifaaDoor
/- A round of teaching, whole. -/
set_option linter.unusedSimpArgs false
set_option linter.unusedVariables false
namespace Go.Proofs.YtmkpokcfefjifaaDoor
open Go.Ab Go.RowKit
section
variable {L S : Seat} {i : Nat}
theorem tm_take {A D : List Entry} {p : Nat} (h : A.take p = D.take p) (ha : p ≤ A.length) (hd : p ≤ D.length) : tm A p = tm D p := by
  unfold tm
  split
  · rfl
  · have e : (A.take p)[p - 1]? = (D.take p)[p - 1]? := by rw [h]
    rw [List.getElem?_take, List.getElem?_take, if_pos (by omega), if_pos (by omega)] at e
    rw [List.getD_eq_getElem?_getD, List.getD_eq_getElem?_getD, e]
def bm (f to t a c : Int) : Msg := ⟨f, to, 4, [t, a, c], []⟩
theorem Tea.b_for (h : Tea L S i) {a c : Int} (ha : a = 0 ∨ a = 1) (hc : 0 ≤ c) : forB L (bm S.id L.id L.term a c) = true := by
  have t0 := h.lo.t0; have tmx := h.lo.tm
  have an : ([L.term, a, c].any neg) = false := by
    simp only [List.any_cons, List.any_nil, neg, Bool.or_false, Bool.or_eq_false_iff, decide_eq_false_iff_not]; omega
  have pm : L.peers.contains S.id = true := by
    rw [List.contains_iff_mem, ← h.pe]; exact h.so.me
  unfold forB bm
  rw [if_pos ⟨rfl, h.ne, pm, by show (1 : Int) ≤ 4; decide, by show (4 : Int) ≤ 4; decide, by show 2 ≤ 3; decide, tmx, an⟩]
  unfold tailB
  show (if (4 : Int) = 3 then _ else (decide ([L.term, a, c].length = (if (4 : Int) = 2 then 2 else 3)) && (decide (([] : List Int).length = 0) && (decide ((4 : Int) = 1) || decide ([L.term, a, c].getD 1 0 ≤ 1))))) = true
  rw [if_neg (by decide), if_neg (by decide), show decide ([L.term, a, c].getD 1 0 ≤ 1) = true by rw [decide_eq_true_eq]; show a ≤ 1; omega]
  rfl
theorem Tea.b_ok (h : Tea L S i) {a c : Int} (ha : a = 0 ∨ a = 1) (hc : 0 ≤ c) (hc2 : c ≤ 1000) : MOk (bm S.id L.id L.term a c) := by
  have t0 := h.lo.t0; have tmx := h.lo.tm
  refine ⟨by show 3 ≤ 60; omega, by show 0 ≤ 2400; omega, h.sk, h.lk, by show okI .i64 4; show _ ∧ _; decide, fun y hy => ?_, fun y hy => by cases hy⟩
  have hy : y ∈ [L.term, a, c] := hy
  simp only [List.mem_cons, List.not_mem_nil, or_false] at hy
  show _ ∧ _
  rcases hy with rfl | rfl | rfl <;> omega
theorem Tea.b_hear (h : Tea L S i) {a c : Int} (ha : a = 0 ∨ a = 1) (hc : 0 ≤ c) : (hearM L (bm S.id L.id L.term a c)) = toldM L (bm S.id L.id L.term a c) := by
  unfold hearM
  have k : (bm S.id L.id L.term a c).kind = 4 := rfl
  rw [if_pos (h.b_for ha hc), if_neg (by rw [k]; decide), if_neg (by rw [k]; decide), if_neg (by rw [k]; decide), upS_same (s := L) (x := bm S.id L.id L.term a c) (Int.le_refl _)]
theorem Tea.tix (h : Tea L S i) (a c : Int) : tI L (bm S.id L.id L.term a c) = i := idx_own h.lo.ps h.ip h.ii
def mu (L : Seat) (i : Nat) : Nat := (L.next.getD i 0 - 1 - L.match_.getD i 0).toNat + (L.log.length - L.match_.getD i 0).toNat
/-- what stays of a leader over a round -/
structure Stay (L L' : Seat) : Prop where
  log : L'.log = L.log
  pe : L'.peers = L.peers
  id : L'.id = L.id
  term : L'.term = L.term
theorem Tea.round (h : Tea L S i) : ∃ b, (hearM S (putM L i)).2 = [b] ∧ MOk b ∧ Stay L (hearM L b).1 ∧ (hearM S (putM L i)).1.id = S.id ∧ Tea (hearM L b).1 (hearM S (putM L i)).1 i ∧ (hearM S (putM L i)).1.term = L.term ∧
    ((hearM L b).1.match_.getD i 0 = L.log.length ∨ mu (hearM L b).1 i < mu L i) := by
  have so' := hear_ok h.so h.m_ok
  obtain ⟨ea, hat, hma⟩ := h.at_
  obtain ⟨m0, m1, m2, m3⟩ := h.lm
  obtain ⟨ut, ur⟩ := h.up
  obtain ⟨u1, u2, u3, u4⟩ := upS_keeps S (putM L i)
  have hcar := h.car_eq
  have hln := (h.lo.rl.ln h.l3)
  have ll := h.lo.ll; have sl := h.so.ll
  have sc0 := h.so.c0; have sc1 := h.so.c1
  have nt : ¬ (putM L i).nums.getD 0 0 < (upS S (putM L i)).term := by rw [h.n0, ut]; omega
  rw [h.hear] at so' ⊢
  by_cases ft : atN L i ≤ S.log.length ∧ tm S.log (atN L i) = tm L.log (atN L i)
  · -- the entries fit
    have pt := put_taught (A := S.log) (D := L.log) (p := atN L i) (k := 8) ft.1 hat h.me ft.2 (c := S.commit.toNat) (by omega) (by have := h.cc.1; omega) h.cc.2
    have hes : (L.log.drop (atN L i)).take 8 = sentE L i := rfl
    rw [hes] at pt
    obtain ⟨p1, p2, p3, p4, p5, p6⟩ := pt
    have pp : putP (upS S (putM L i)) (putM L i) = (put S.log (atN L i) (sentE L i), true) := by
      unfold putP putR
      rw [hcar, h.n1, h.n2, u3]
      have ff : fits S.log (atN L i : Int) (tm L.log (atN L i)) = true := by
        simp only [fits, decide_eq_true_eq]
        exact ⟨by omega, by have := ft.1; omega, by rw [Int.toNat_natCast]; exact ft.2⟩
      rw [if_pos ff, Int.toNat_natCast, if_neg (by omega)]
    have nb : ¬ putBad (upS S (putM L i)) (putM L i) := by
      unfold putBad
      rw [pp, u3, u4]
      intro q
      rcases q with q | q | q
      · cases q
      · have q : ((put S.log (atN L i) (sentE L i)).length : Int) < S.commit := q; omega
      · exact q p3
    have sl8 := h.sent_len
    have pm : putsM (upS S (putM L i)) (putM L i) = ({ upS S (putM L i) with role := 1, votes := [], log := (putP (upS S (putM L i)) (putM L i)).1, commit := putC (upS S (putM L i)) (putM L i) }, [bm (upS S (putM L i)).id L.id (upS S (putM L i)).term 1 ((putM L i).nums.getD 1 0 + (car (putM L i)).length)]) := by
      unfold putsM; rw [if_neg nt, if_neg ur, if_neg nb]; rfl
    rw [pm, pp, ut, u2, h.n1, hcar] at so' ⊢
    have hb1 : (1 : Int) = 0 ∨ (1 : Int) = 1 := .inr rfl
    have hb0 : 0 ≤ (atN L i : Int) + ((sentE L i).length : Int) := by omega
    have bh := h.b_hear hb1 hb0
    have bo := h.b_ok hb1 hb0 (by omega)
    have lo' := hear_ok h.lo bo
    have tY : (toldM L (bm S.id L.id L.term 1 ((atN L i : Int) + ((sentE L i).length : Int)))).1 = toldY L (bm S.id L.id L.term 1 ((atN L i : Int) + ((sentE L i).length : Int))) := by
      unfold toldM
      have a1 : (bm S.id L.id L.term 1 ((atN L i : Int) + ((sentE L i).length : Int))).nums.getD 1 0 = 1 := rfl
      rw [if_neg (fun q => ?_), if_neg (by rw [a1]; decide)]
      rcases q with q | q | q
      · exact q rfl
      · exact q h.l3
      · have q : (L.log.length : Int) < (atN L i : Int) + ((sentE L i).length : Int) := q
        omega
    refine ⟨_, rfl, bo, ?_⟩
    rw [bh, tY] at lo' ⊢
    have hM : tM L (bm S.id L.id L.term 1 ((atN L i : Int) + ((sentE L i).length : Int))) = (atN L i : Int) + ((sentE L i).length : Int) := by
      unfold tM
      rw [h.tix]
      show (if (atN L i : Int) + ((sentE L i).length : Int) > L.match_.getD i 0 then (atN L i : Int) + ((sentE L i).length : Int) else L.match_.getD i 0) = _
      split
      · rfl
      · omega
    have gm : (toldY L (bm S.id L.id L.term 1 ((atN L i : Int) + ((sentE L i).length : Int)))).match_.getD i 0 = (atN L i : Int) + ((sentE L i).length : Int) := by
      show (L.match_.set (tI L _) (tM L _)).getD i 0 = _
      rw [hM, h.tix]; exact getD_set (by have := h.ip; omega)
    have gn : (toldY L (bm S.id L.id L.term 1 ((atN L i : Int) + ((sentE L i).length : Int)))).next.getD i 0 = (atN L i : Int) + ((sentE L i).length : Int) + 1 := by
      show (L.next.set (tI L _) (tM L _ + 1)).getD i 0 = _
      rw [hM, h.tix]; exact getD_set (by have := h.ip; omega)
    have hpc : putC (upS S (putM L i)) (putM L i) = S.commit ∨ (0 ≤ putC (upS S (putM L i)) (putM L i) ∧ putC (upS S (putM L i)) (putM L i) ≤ (atN L i : Int) + ((sentE L i).length : Int)) := by
      unfold putC
      rw [hcar, h.n1, h.n3, u4]
      have hv : (if (atN L i : Int) + ((sentE L i).length : Int) < L.commit then (atN L i : Int) + ((sentE L i).length : Int) else L.commit) ≤ (atN L i : Int) + ((sentE L i).length : Int) := by split <;> omega
      generalize (if (atN L i : Int) + ((sentE L i).length : Int) < L.commit then (atN L i : Int) + ((sentE L i).length : Int) else L.commit) = v at hv ⊢
      split
      · right; exact ⟨by omega, hv⟩
      · exact .inl rfl
    refine ⟨⟨rfl, rfl, rfl, rfl⟩, rfl, ⟨lo', so', h.l3, h.st, h.t1, h.lk, ?_, ?_, fun e => h.ne (u2.symm.trans e), h.ip, h.ii.trans u2.symm, Int.le_of_eq ut, fun _ n => absurd (show (1 : Int) = 3 from n) (by decide), ?_, p6, ?_⟩, rfl, ?_⟩
    · show okI .i64 (upS S (putM L i)).id; rw [u2]; exact h.sk
    · show (upS S (putM L i)).peers = L.peers; rw [u1]; exact h.pe
    · show putC (upS S (putM L i)) (putM L i) ≤ (L.log.length : Int) ∧ (put S.log (atN L i) (sentE L i)).take (putC (upS S (putM L i)) (putM L i)).toNat = L.log.take (putC (upS S (putM L i)) (putM L i)).toNat
      rcases hpc with e | ⟨e1, e2⟩
      · rw [e]; exact ⟨h.cc.1, p3.trans h.cc.2⟩
      · exact ⟨by omega, take_less p4 (by omega)⟩
    · rw [gm]
      show (atN L i : Int) + ((sentE L i).length : Int) ≤ ((put S.log (atN L i) (sentE L i)).length : Int) ∧ (put S.log (atN L i) (sentE L i)).take ((atN L i : Int) + ((sentE L i).length : Int)).toNat = L.log.take ((atN L i : Int) + ((sentE L i).length : Int)).toNat
      rw [show ((atN L i : Int) + ((sentE L i).length : Int)).toNat = atN L i + (sentE L i).length by omega]
      exact ⟨by omega, p4⟩
    · rw [gm]
      by_cases e : atN L i + (sentE L i).length = L.log.length
      · left; omega
      · right
        unfold mu
        rw [gm, gn]
        show ((atN L i : Int) + ((sentE L i).length : Int) + 1 - 1 - ((atN L i : Int) + ((sentE L i).length : Int))).toNat + ((L.log.length : Int) - ((atN L i : Int) + ((sentE L i).length : Int))).toNat < _
        omega
  · -- they don't
    have nf : atN L i ≠ (L.match_.getD i 0).toNat := fun e => by
      obtain ⟨w1, w2⟩ := h.ma
      refine ft ⟨by omega, ?_⟩
      rw [e]
      exact tm_take w2 (by omega) (by omega)
    have pb : putBad (upS S (putM L i)) (putM L i) := by
      left
      unfold putP putR
      have ff : ¬ fits (upS S (putM L i)).log ((putM L i).nums.getD 1 0) ((putM L i).nums.getD 2 0) = true := fun q => by
        rw [h.n1, h.n2, u3] at q
        obtain ⟨q1, q2, q3⟩ := fits_d2 q
        rw [Int.toNat_natCast] at q3
        exact ft ⟨by omega, q3⟩
      rw [if_neg ff]
    have pm : putsM (upS S (putM L i)) (putM L i) = ({ upS S (putM L i) with role := 1, votes := [] }, [bm (upS S (putM L i)).id L.id (upS S (putM L i)).term 0 (backN (upS S (putM L i)) (putM L i))]) := by
      unfold putsM; rw [if_neg nt, if_neg ur, if_pos pb]; rfl
    rw [pm, ut, u2] at so' ⊢
    have hb : 0 ≤ backN (upS S (putM L i)) (putM L i) ∧ backN (upS S (putM L i)) (putM L i) ≤ (atN L i : Int) - 1 := by
      unfold backN
      rw [h.n1]
      constructor
      · split <;> omega
      · split <;> (try split) <;> omega
    generalize backN (upS S (putM L i)) (putM L i) = c at hb so' ⊢
    have hb1 : (0 : Int) = 0 ∨ (0 : Int) = 1 := .inl rfl
    have bh := h.b_hear hb1 hb.1
    have bo := h.b_ok hb1 hb.1 (by omega)
    have lo' := hear_ok h.lo bo
    have tN : (toldM L (bm S.id L.id L.term 0 c)).1 = toldN L (bm S.id L.id L.term 0 c) := by
      unfold toldM
      have a1 : (bm S.id L.id L.term 0 c).nums.getD 1 0 = 0 := rfl
      rw [if_neg (fun q => ?_), if_pos a1]
      rcases q with q | q | q
      · exact q rfl
      · exact q h.l3
      · have q : (L.log.length : Int) < c := q
        omega
    refine ⟨_, rfl, bo, ?_⟩
    rw [bh, tN] at lo' ⊢
    have gn : ∃ V, (toldN L (bm S.id L.id L.term 0 c)).next.getD i 0 = V ∧ V ≤ atN L i ∧ L.match_.getD i 0 + 1 ≤ V := by
      refine ⟨(if (if c + 1 < L.next.getD i 0 then c + 1 else L.next.getD i 0) > L.match_.getD i 0 + 1 then (if c + 1 < L.next.getD i 0 then c + 1 else L.next.getD i 0) else L.match_.getD i 0 + 1), ?_, ?_, ?_⟩
      · unfold toldN
        rw [h.tix]; exact getD_set (by have := h.ip; omega)
      · split <;> (try split) <;> omega
      · split <;> omega
    obtain ⟨V, gv, v1, v2⟩ := gn
    refine ⟨⟨rfl, rfl, rfl, rfl⟩, rfl, ⟨lo', so', h.l3, h.st, h.t1, h.lk, ?_, ?_, fun e => h.ne (u2.symm.trans e), h.ip, h.ii.trans u2.symm, Int.le_of_eq ut, fun _ n => absurd (show (1 : Int) = 3 from n) (by decide), ?_, ?_, ?_⟩, rfl, ?_⟩
    · show okI .i64 (upS S (putM L i)).id; rw [u2]; exact h.sk
    · show (upS S (putM L i)).peers = L.peers; rw [u1]; exact h.pe
    · show (upS S (putM L i)).commit ≤ (L.log.length : Int) ∧ (upS S (putM L i)).log.take (upS S (putM L i)).commit.toNat = L.log.take (upS S (putM L i)).commit.toNat
      rw [u3, u4]; exact h.cc
    · show meets (upS S (putM L i)).log L.log
      rw [u3]; exact h.me
    · show L.match_.getD i 0 ≤ ((upS S (putM L i)).log.length : Int) ∧ (upS S (putM L i)).log.take (L.match_.getD i 0).toNat = L.log.take (L.match_.getD i 0).toNat
      rw [u3]; exact h.ma
    · right
      unfold mu
      rw [gv]
      show (V - 1 - L.match_.getD i 0).toNat + ((L.log.length : Int) - L.match_.getD i 0).toNat < _
      omega
end
end Go.Proofs.YtmkpokcfefjifaaDoor
/- SeatTaught as a plain law. -/
set_option linter.unusedSimpArgs false
set_option linter.unusedVariables false
namespace Go.Proofs.YtmkpokcfefjifaaDoor
open Go.Ab Go.Kx
section
variable {L S : Seat} {i : Nat}
theorem all_split (h : Tea L S i) : ∃ pre post, allM L = pre ++ putM L i :: post ∧ (∀ x ∈ pre, x.to_ ≠ S.id) ∧ (∀ x ∈ post, x.to_ ≠ S.id) := by
  have hF : i ∈ (List.range' 0 (L.peers.length - 0)).filter fun j => L.peers.getD j 0 != L.id := by
    rw [List.mem_filter]
    exact ⟨by rw [List.mem_range'_1]; have := h.ip; omega, by rw [h.ii]; simpa using h.ne⟩
  obtain ⟨p, q, e⟩ := List.append_of_mem hF
  have nd : ((List.range' 0 (L.peers.length - 0)).filter fun j => L.peers.getD j 0 != L.id).Nodup := by
    have n : (List.range' 0 (L.peers.length - 0)).Nodup := List.nodup_range'
    exact n.filter _
  have lt : ∀ j ∈ (List.range' 0 (L.peers.length - 0)).filter fun j => L.peers.getD j 0 != L.id, j < L.peers.length := fun j hj => by
    have := (List.mem_filter.1 hj).1
    rw [List.mem_range'_1] at this; omega
  rw [e] at nd lt
  have key : ∀ j, j < L.peers.length → j ≠ i → (putM L j).to_ ≠ S.id := fun j hj hne z => by
    have z : L.peers.getD j 0 = S.id := z
    have := idx_own h.lo.ps hj z
    have := idx_own h.lo.ps h.ip h.ii
    omega
  rw [List.nodup_append, List.nodup_cons] at nd
  refine ⟨p.map (putM L), q.map (putM L), ?_, fun x hx => ?_, fun x hx => ?_⟩
  · show ((List.range' 0 (L.peers.length - 0)).filter fun j => L.peers.getD j 0 != L.id).map (putM L) = _
    rw [e, List.map_append, List.map_cons]
  · obtain ⟨j, hj, rfl⟩ := List.mem_map.1 hx
    exact key j (lt j (by simp [hj])) (fun z => nd.2.2 j hj i (by simp) z)
  · obtain ⟨j, hj, rfl⟩ := List.mem_map.1 hx
    exact key j (lt j (by simp [hj])) (fun z => nd.2.1.1 (z ▸ hj))
theorem map_getD (l : List Int) : (List.range l.length).map (fun i => l.getD i 0) = l := by
  apply List.ext_getElem (by simp)
  intro n h1 h2
  rw [List.getElem_map, List.getElem_range, getD_eq h2]
theorem all_len (h : Ok L) : (allM L).length + 1 = L.peers.length := by
  unfold allM allFrom
  rw [List.length_map, ← List.countP_eq_length_filter, Nat.sub_zero, ← List.range_eq_range']
  have e : (List.range L.peers.length).countP (fun j => L.peers.getD j 0 != L.id) = ((List.range L.peers.length).map (fun j => L.peers.getD j 0)).countP (fun x => x != L.id) := by
    rw [List.countP_map]; rfl
  rw [e, map_getD]
  have c := h.ps.count (a := L.id)
  rw [if_pos h.me] at c
  have t := List.length_eq_countP_add_countP (l := L.peers) (fun x => x == L.id)
  have c' : L.peers.countP (fun x => x == L.id) = 1 := c
  have d : L.peers.countP (fun a => decide ¬(a == L.id) = true) = L.peers.countP (fun x => x != L.id) := by
    congr 1; funext a; by_cases z : a = L.id <;> simp [z]
  omega
theorem tau_skip {K : Seat → Seat → Int → Option Bool} {out : List Msg} {bt : Seat} {r3 k : Int} (hl : out.length ≤ 1000) : ∀ u n (L S : Seat), out.length < u + n → n ≤ out.length → (∀ x ∈ out.drop n, x.to_ ≠ S.id) →
    law15_SeatTaught_L2 K (bt, out) r3 true k u L S (n : Int) = law15_SeatTaught_J6 K r3 true k L S := by
  intro u
  induction u with
  | zero => intro n L S h1 h2; omega
  | succ u ih =>
    intro n L S h1 h2 h3
    rw [law15_SeatTaught_L2, cond_d]
    by_cases hn : n < out.length
    · rw [drop_cons hn] at h3
      have := h3 _ (List.mem_cons_self ..)
      rw [if_pos (show (n : Int) < (out.length : Int) by omega), idx_nat hn, Option.bind_some, show (out[n].to_ != S.id) = true by simpa using this, cond_true]
      unfold law15_SeatTaught_J7
      rw [w64_succ (by omega)]
      exact ih (n + 1) L S (by omega) (by omega) (fun x hx => h3 x (List.mem_cons_of_mem _ hx))
    · rw [if_neg (show ¬ ((n : Int) < (out.length : Int)) by omega)]
theorem tau_hit {K : Seat → Seat → Int → Option Bool} {out : List Msg} {bt : Seat} {r3 k : Int} (hl : out.length ≤ 1000) {L S L' S' : Seat} {m b : Msg} {o : List Msg} (post : List Msg) (hm : m.to_ = S.id) (h1 : seat_Hear_f S m = some (S', [b])) (h2 : seat_Hear_f L b = some (L', o)) (hid : S'.id = S.id)
    (hpost : ∀ x ∈ post, x.to_ ≠ S.id) : ∀ (pre : List Msg) (u n : Nat), out.length < u + n → n ≤ out.length → out.drop n = pre ++ m :: post → (∀ x ∈ pre, x.to_ ≠ S.id) →
    law15_SeatTaught_L2 K (bt, out) r3 true k u L S (n : Int) = law15_SeatTaught_J6 K r3 true k L' S' := by
  intro pre
  induction pre with
  | nil =>
    intro u n h3 h4 h5 h6
    obtain ⟨u, rfl⟩ : ∃ v, u = v + 1 := ⟨u - 1, by omega⟩
    have hn : n < out.length := by
      have := congrArg List.length h5
      rw [List.length_drop] at this
      simp at this; omega
    rw [drop_cons hn, List.nil_append, List.cons.injEq] at h5
    rw [law15_SeatTaught_L2, cond_d, if_pos (show (n : Int) < (out.length : Int) by omega), idx_nat hn, Option.bind_some, h5.1, show (m.to_ != S.id) = false by simpa using hm, cond_false, h1, Option.bind_some]
    show cond ((([b].length : Nat) : Int) != 1) _ _ = _
    have i0 : idx (S', [b]).2 0 = some b := idx_nat (l := [b]) (k := 0) (by simp)
    rw [show ((([b].length : Nat) : Int) != 1) = false from rfl, cond_false, i0, Option.bind_some, h2, Option.bind_some]
    unfold law15_SeatTaught_J7
    rw [w64_succ (by omega)]
    exact tau_skip hl u (n + 1) L' S' (by omega) (by omega) (by rw [h5.2, hid]; exact hpost)
  | cons x pre ih =>
    intro u n h3 h4 h5 h6
    obtain ⟨u, rfl⟩ : ∃ v, u = v + 1 := ⟨u - 1, by omega⟩
    have hn : n < out.length := by
      have := congrArg List.length h5
      rw [List.length_drop] at this
      simp at this; omega
    rw [drop_cons hn, List.cons_append, List.cons.injEq] at h5
    have := h6 x (List.mem_cons_self ..)
    rw [law15_SeatTaught_L2, cond_d, if_pos (show (n : Int) < (out.length : Int) by omega), idx_nat hn, Option.bind_some, h5.1, show (x.to_ != S.id) = true by simpa using this, cond_true]
    unfold law15_SeatTaught_J7
    rw [w64_succ (by omega)]
    exact ih u (n + 1) (by omega) (by omega) h5.2 (fun y hy => h6 y (List.mem_cons_of_mem _ hy))
theorem tau_end (h : Tea L S i) (ht : S.term = L.term) (hm : L.match_.getD i 0 = L.log.length) : law15_SeatTaught_J4 true (i : Int) L S = some true := by
  unfold law15_SeatTaught_J4
  have ln := (h.lo.rl.ln h.l3).2
  obtain ⟨w1, w2⟩ := h.ma
  rw [hm] at w1 w2
  rw [cond_true, show (L.role == 3) = true by simpa using h.l3, cond_true, idx_i (by have := h.ip; omega), Option.bind_some, hm, show ((L.log.length : Int) == (L.log.length : Int)) = true by simp, cond_true, decide_eq_true w1, cond_true,
    chk_pos (show (0 : Nat) ≤ 0 ∧ (0 : Int) ≤ (L.log.length : Int) ∧ (L.log.length : Int) ≤ (S.log.length : Int) by omega), List.drop_zero, rSame_eq (h.so.lg.take _), Option.bind_some]
  rw [Int.toNat_natCast] at w2 ⊢
  rw [w2, List.take_length, ht]
  simp
theorem tau_L1 : ∀ (u k : Nat) (L S : Seat), Tea L S i → k + mu L i ≤ 2 * L.log.length → 2 * L.log.length < u + k → law15_SeatTaught_L1 (i : Int) true u L S (k : Int) = some true := by
  intro u
  induction u with
  | zero => intro k L S h h1 h2; omega
  | succ u ih =>
    intro k L S h h1 h2
    have ll := h.lo.ll; have p7 := h.lo.p7
    have w1 : IntKind.wrap .i64 (3 * (L.log.length : Int)) = 3 * (L.log.length : Int) := w64 (by omega) (by omega)
    have w2 : IntKind.wrap .i64 (3 * (L.log.length : Int) + 5) = 3 * (L.log.length : Int) + 5 := w64 (by omega) (by omega)
    rw [law15_SeatTaught_L1, w1, w2, cond_d, if_pos (by omega), beat_eq h.lo, Option.bind_some, if_pos h.l3]
    have al := all_len h.lo
    have w3 : IntKind.wrap .i64 ((L.peers.length : Int) - 1) = ((allM L).length : Int) := by rw [w64 (by omega) (by omega)]; omega
    show cond (((allM L).length : Int) != IntKind.wrap .i64 ((L.peers.length : Int) - 1)) _ _ = _
    rw [w3, show (((allM L).length : Int) != ((allM L).length : Int)) = false by simp, cond_false]
    obtain ⟨b, hb, mb, st, sid, T, tt, prog⟩ := h.round
    obtain ⟨pre, post, hs, hpre, hpost⟩ := all_split h
    have e1 : seat_Hear_f S (putM L i) = some ((hearM S (putM L i)).1, [b]) := by rw [hear_eq h.so h.m_ok, ← hb]
    have e2 : seat_Hear_f L b = some ((hearM L b).1, (hearM L b).2) := hear_eq h.lo mb
    have T2 := tau_hit (K := law15_SeatTaught_L1 (i : Int) true u) (bt := L) (r3 := (i : Int)) (k := (k : Int)) (out := allM L) (by omega) post h.ii e1 e2 sid hpost pre BIG 0 (by rw [BIG_eq]; omega) (by omega) (by rw [List.drop_zero]; exact hs) hpre
    have T2' : law15_SeatTaught_L2 (law15_SeatTaught_L1 (i : Int) true u) (L, allM L) (i : Int) true (k : Int) BIG L S 0 = law15_SeatTaught_J6 (law15_SeatTaught_L1 (i : Int) true u) (i : Int) true (k : Int) (hearM L b).1 (hearM S (putM L i)).1 := T2
    rw [T2']
    have ln := (T.lo.rl.ln T.l3).2
    unfold law15_SeatTaught_J6
    rw [idx_i (by have := T.ip; omega), Option.bind_some]
    by_cases c : (hearM L b).1.match_.getD i 0 = (hearM L b).1.log.length
    · rw [show ((hearM L b).1.match_.getD i 0 == ((hearM L b).1.log.length : Int)) = true by simpa using c, cond_true]
      exact tau_end T (tt.trans st.term.symm) c
    · rw [show ((hearM L b).1.match_.getD i 0 == ((hearM L b).1.log.length : Int)) = false by simpa using c, cond_false]
      unfold law15_SeatTaught_J5
      rw [w64_succ (by omega)]
      have sl := st.log
      rw [sl] at c
      have := prog.resolve_left c
      exact ih (k + 1) _ _ T (by rw [sl]; omega) (by rw [sl]; omega)
theorem place_L {l : List Int} {x : Int} (hl : l.length ≤ 1000000) : ∀ m k, l.length < m + k → k ≤ l.length → x ∈ l.drop k → ref15_Place_L1 l x m (k : Int) = some ((k + (l.drop k).idxOf x : Nat) : Int) := by
  intro m
  induction m with
  | zero => intro k h1 h2; omega
  | succ m ih =>
    intro k h1 h2 hx
    rw [ref15_Place_L1, cond_d]
    by_cases hk : k < l.length
    · rw [drop_cons hk] at hx ⊢
      rw [if_pos (by omega), idx_nat hk, Option.bind_some, w64_succ (by omega)]
      by_cases e : l[k] = x
      · rw [show (l[k] == x) = true by simpa using e, cond_true, e]; simp
      · have hx' : x ∈ l.drop (k + 1) := by
          rcases List.mem_cons.1 hx with z | z
          · exact absurd z.symm e
          · exact z
        rw [show (l[k] == x) = false by simpa using e, cond_false, ih (k + 1) (by omega) (by omega) hx', List.idxOf_cons, show (l[k] == x) = false by simpa using e, cond_false]
        congr 2; omega
    · rw [List.drop_of_length_le (by omega)] at hx; cases hx
theorem place_eq {l : List Int} {x : Int} (hl : l.length ≤ 1000000) (hx : x ∈ l) : ref15_Place_f l x = some ((l.idxOf x : Nat) : Int) := by
  unfold ref15_Place_f
  have := place_L (x := x) hl BIG 0 (by rw [BIG_eq]; omega) (by omega) (by simpa using hx)
  simpa using this
theorem ints2_L {a b : List Int} (ha : a.length ≤ 1000000) (hab : a.length = b.length) : ∀ m k, a.length < m + k → k ≤ a.length → ref14_Ints_L1 a b m (k : Int) = some (decide (a.drop k = b.drop k)) := by
  intro m
  induction m with
  | zero => intro k h1 h2; omega
  | succ m ih =>
    intro k h1 h2
    rw [ref14_Ints_L1, cond_d]
    by_cases hk : k < a.length
    · have hk' : k < b.length := by omega
      rw [if_pos (by omega), idx_nat hk, Option.bind_some, idx_nat hk', Option.bind_some, w64_succ (by omega), ih (k + 1) (by omega) (by omega), drop_cons hk, drop_cons hk']
      by_cases hx : a[k] = b[k]
      · have : (a[k] != b[k]) = false := by simpa using hx
        rw [this, cond_false]; congr 1; rw [Bool.eq_iff_iff, decide_eq_true_eq, decide_eq_true_eq, List.cons.injEq]; exact ⟨fun h => ⟨hx, h⟩, fun h => h.2⟩
      · have : (a[k] != b[k]) = true := by simpa using hx
        rw [this, cond_true]; congr 1; symm; rw [decide_eq_false_iff_not, List.cons.injEq]; exact fun h => hx h.1
    · rw [if_neg (by omega), List.drop_of_length_le (by omega), List.drop_of_length_le (by omega)]
      simp [ref14_Ints_J1]
theorem ints2_eq {a b : List Int} (ha : a.length ≤ 1000000) : ref14_Ints_f a b = some (decide (a = b)) := by
  unfold ref14_Ints_f
  by_cases h : a.length = b.length
  · have : ((a.length : Int) != b.length) = false := by rw [bne_eq_false_iff_eq]; omega
    rw [this]
    have := ints2_L ha h BIG 0 (by rw [BIG_eq]; omega) (by omega)
    simpa using this
  · have : ((a.length : Int) != b.length) = true := by rw [bne_iff_ne]; omega
    have h2 : a ≠ b := fun e => h (by rw [e])
    rw [this]; simp [h2]
end
theorem tau_2 {L S : Seat} (lo : Ok L) (so : Ok S) (l3 : L.role = 3) (st : srt 1 L.log L.term) (t1 : 0 < L.term) (lk : okI .i64 L.id) (sk : okI .i64 S.id) (pe : S.peers = L.peers) (ne : S.id ≠ L.id) (tle : S.term ≤ L.term) (tr : S.term = L.term → S.role ≠ 3)
    (cc : S.commit ≤ L.log.length ∧ S.log.take S.commit.toNat = L.log.take S.commit.toNat) : law15_SeatTaught_J2 true S L false = some true := by
  unfold law15_SeatTaught_J2
  obtain ⟨r, er, hr⟩ := meet_eq so.lg lo.lg
  rw [cond_false, er, Option.bind_some]
  cases r
  case false => rfl
  have me := hr.1 rfl
  have p7 := lo.p7
  have hm : S.id ∈ L.peers := pe ▸ so.me
  have ip : L.peers.idxOf S.id < L.peers.length := List.idxOf_lt_length_iff.2 hm
  have ii : L.peers.getD (L.peers.idxOf S.id) 0 = S.id := by rw [getD_eq ip]; exact List.getElem_idxOf ip
  obtain ⟨ln, lm⟩ := lo.rl.ln l3
  obtain ⟨q1, q2, q3, q4, q5⟩ := lo.rl.lm l3 _ ip
  have no : ∀ r3, law15_SeatTaught_J3 true r3 L S true = some true := fun _ => rfl
  rw [Bool.not_true, cond_false, place_eq (by omega) hm, Option.bind_some, idx_i (by omega), Option.bind_some, cond_d]
  split
  · exact no _
  rename_i w
  rw [chk_pos (show (0 : Nat) ≤ 0 ∧ 0 ≤ L.match_.getD (L.peers.idxOf S.id) 0 ∧ L.match_.getD (L.peers.idxOf S.id) 0 ≤ (S.log.length : Int) by omega), chk_pos (show (0 : Nat) ≤ 0 ∧ 0 ≤ L.match_.getD (L.peers.idxOf S.id) 0 ∧ L.match_.getD (L.peers.idxOf S.id) 0 ≤ (L.log.length : Int) by omega), List.drop_zero, List.drop_zero, rSame_eq (so.lg.take _), Option.bind_some]
  by_cases e : S.log.take (L.match_.getD (L.peers.idxOf S.id) 0).toNat = L.log.take (L.match_.getD (L.peers.idxOf S.id) 0).toNat
  case neg => rw [decide_eq_false e]; exact no _
  rw [decide_eq_true e, Bool.not_true]
  unfold law15_SeatTaught_J3
  rw [cond_false]
  have T : Tea L S (L.peers.idxOf S.id) := ⟨lo, so, l3, st, t1, lk, sk, pe, ne, ip, ii, tle, tr, cc, me, ⟨by omega, e⟩⟩
  have ll := lo.ll
  refine tau_L1 BIG 0 L S T ?_ (by rw [BIG_eq]; omega)
  unfold mu
  omega
theorem SeatTaught_true (y0 : Seat) (o0 : Seat.ok y0) (y1 : Seat) (o1 : Seat.ok y1) : law15_SeatTaught_f y0 y1 = some true := by
  unfold law15_SeatTaught_f
  rw [head_true, Option.bind_some]
  have no : law15_SeatTaught_J1 true y0 y1 true = some true := rfl
  obtain ⟨g, eg, F⟩ := great_tot y0
  rw [eg, Option.bind_some]
  cases g
  case true => exact no
  have F := F rfl
  obtain ⟨g2, eg2, F2⟩ := great_tot y1
  rw [cond_false, eg2, Option.bind_some]
  cases g2
  case true => exact no
  have F2 := F2 rfl
  obtain ⟨r, er⟩ := right_tot F
  rw [cond_false, er, Option.bind_some]
  cases r
  case false => exact no
  obtain ⟨r2, er2⟩ := right_tot F2
  rw [Bool.not_true, cond_false, er2, Option.bind_some]
  cases r2
  case false => exact no
  rw [Bool.not_true, cond_false]
  by_cases l3 : y0.role = 3
  case neg => rw [show (y0.role != 3) = true by simpa using l3, cond_true]; exact no
  rw [show (y0.role != 3) = false by simpa using l3, cond_false]
  by_cases ne : y1.id = y0.id
  case pos => rw [show (y1.id == y0.id) = true by simpa using ne, cond_true]; exact no
  have fp := F.p; have fp2 := F2.p
  rw [show (y1.id == y0.id) = false by simpa using ne, cond_false, ints2_eq (by omega), Option.bind_some]
  by_cases w : y1.peers = y0.peers ∧ y1.term ≤ y0.term ∧ (y1.term = y0.term → y1.role ≠ 3)
  case neg =>
    have : ((!decide (y1.peers = y0.peers)) || ((decide (y0.term < y1.term)) || ((y1.term == y0.term) && (y1.role == 3)))) = true := by
      by_cases a : y1.peers = y0.peers
      · by_cases b : y1.term ≤ y0.term
        · have : y1.term = y0.term ∧ y1.role = 3 := by
            refine Classical.byContradiction fun z => w ⟨a, b, fun q r => z ⟨q, r⟩⟩
          rw [show (y1.term == y0.term) = true by simpa using this.1, show (y1.role == 3) = true by simpa using this.2]; simp
        · rw [decide_eq_true (show y0.term < y1.term by omega)]; simp
      · rw [decide_eq_false a]; rfl
    rw [this]; exact no
  obtain ⟨w1, w2, w3⟩ := w
  have : ((!decide (y1.peers = y0.peers)) || ((decide (y0.term < y1.term)) || ((y1.term == y0.term) && (y1.role == 3)))) = false := by
    rw [decide_eq_true w1, decide_eq_false (by omega)]
    simp only [Bool.not_true, Bool.false_or, Bool.and_eq_false_iff, beq_eq_false_iff_ne]
    by_cases q : y1.term = y0.term
    · exact .inr (w3 q)
    · exact .inl q
  rw [this]
  obtain ⟨lo, lp, ls, l0, lt⟩ := open_ok o0 eg er
  obtain ⟨so, sp, ss, s0, sq⟩ := open_ok o1 eg2 er2
  unfold law15_SeatTaught_J1
  have no2 : law15_SeatTaught_J2 true y1 y0 true = some true := rfl
  rw [cond_false, cond_d]
  split
  · exact no2
  rename_i c
  have c0 := so.c0; have c1 := so.c1
  rw [chk_pos (show (0 : Nat) ≤ 0 ∧ 0 ≤ y1.commit ∧ y1.commit ≤ (y1.log.length : Int) by omega), chk_pos (show (0 : Nat) ≤ 0 ∧ 0 ≤ y1.commit ∧ y1.commit ≤ (y0.log.length : Int) by omega), List.drop_zero, List.drop_zero, rSame_eq (so.lg.take _), Option.bind_some]
  by_cases e : y1.log.take y1.commit.toNat = y0.log.take y1.commit.toNat
  case neg => rw [decide_eq_false e]; exact no2
  rw [decide_eq_true e, Bool.not_true]
  exact tau_2 lo so l3 ls (lt (by omega)) o0.1 o1.1 w1 ne w2 w3 ⟨by omega, e⟩
end Go.Proofs.YtmkpokcfefjifaaDoor
