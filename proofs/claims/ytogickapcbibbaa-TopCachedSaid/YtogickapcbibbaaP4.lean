/- A server, and a client's cache, act by act: plain laws. -/
import Derived.Test.YtogickapcbibbaaP3
set_option linter.unusedSimpArgs false
set_option linter.unusedVariables false
namespace Go.Proofs.Ytogickapcbibbaa
open Go.Ab Go.RowKit
structure LInv (L : List Lease) : Prop where
  all : ∀ x ∈ L, x.client = 1 ∧ x.kind = 1 ∧ x.span = whole ∧ (x.ino = 5 ∨ x.ino = 9) ∧ 0 ≤ x.until_ ∧ x.until_ ≤ 1000000 ∧ x.epoch = 0
  nod : L.Pairwise (fun x y => x.ino ≠ y.ino)
theorem LInv.filter {L : List Lease} (h : LInv L) (p : Lease → Bool) : LInv (L.filter p) := ⟨fun x hx => h.all x (List.mem_filter.1 hx).1, h.nod.sublist List.filter_sublist⟩
theorem LInv.len {L : List Lease} (h : LInv L) : L.length ≤ 2 := by
  match L, h with
  | [], _ => simp
  | [_], _ => simp
  | [_, _], _ => simp
  | a :: b :: c :: r, h =>
    exfalso
    have h1 := h.nod
    simp only [List.pairwise_cons] at h1
    have ha := (h.all a (by simp)).2.2.2.1
    have hb := (h.all b (by simp)).2.2.2.1
    have hc := (h.all c (by simp)).2.2.2.1
    have n1 := h1.1 b (by simp)
    have n2 := h1.1 c (by simp)
    have n3 := h1.2.1 c (by simp)
    omega
theorem LInv.wh {L : List Lease} (h : LInv L) : ∀ x ∈ L, x.span = whole := fun x hx => (h.all x hx).2.2.1
def U (i : Int) (L : List Lease) (u : Int) : Prop := ∃ x ∈ L, x.ino = i ∧ x.until_ = u
theorem U.over {i u now : Int} {L : List Lease} (h : U i L u) (hu : now < u) : U i (L.filter (isOver now)) u := by
  obtain ⟨x, hx, h1, h2⟩ := h
  exact ⟨x, List.mem_filter.2 ⟨hx, by unfold isOver; rw [h2]; exact decide_eq_true hu⟩, h1, h2⟩
/-- a share of one's own -/
theorem share {L : List Lease} (h : LInv L) {now i n : Int} (hi : i = 5 ∨ i = 9) (hn : 1 ≤ n) (hn2 : n ≤ 64) (h0 : 0 ≤ now) (h1 : now ≤ 100000) :
    ∃ L', top_askR14_f L now 1 i 1 n = some (L', true, []) ∧ LInv L' ∧ U i L' (now + (n + 2)) ∧ ∀ j u, j ≠ i → U j L u → now < u → U j L' u := by
  have hO := h.filter (isOver now)
  have hl := h.len
  refine ⟨_, ask_had (by omega) h.wh (by decide) (by decide) (by omega) (.inl rfl) hn hn2 h0 (by omega) ?_, ⟨fun x hx => ?_, ?_⟩, ?_, ?_⟩
  · rw [List.filter_eq_nil_iff]
    intro x hx
    have := (hO.all x hx).1
    unfold clB
    rw [this]; simp
  · rcases List.mem_append.1 hx with hx | hx
    · exact hO.all x (List.mem_filter.1 hx).1
    · simp only [List.mem_singleton] at hx
      subst hx
      exact ⟨rfl, rfl, rfl, hi, by show 0 ≤ now + (n + 2); omega, by show now + (n + 2) ≤ 1000000; omega, rfl⟩
  · rw [List.pairwise_append]
    refine ⟨(hO.filter _).nod, by simp, fun x hx y hy => ?_⟩
    simp only [List.mem_singleton] at hy
    subst hy
    obtain ⟨hx1, hx2⟩ := List.mem_filter.1 hx
    have := hO.all x hx1
    unfold nsB at hx2
    rw [this.1, this.2.1] at hx2
    simp at hx2
    exact hx2
  · exact ⟨wants 1 i 1 (now + (n + 2)), List.mem_append_right _ (by simp), rfl, rfl⟩
  · intro j u hj hu hlt
    obtain ⟨x, hx, h3, h4⟩ := hu.over hlt
    refine ⟨x, List.mem_append_left _ (List.mem_filter.2 ⟨hx, ?_⟩), h3, h4⟩
    unfold nsB
    rw [h3]
    have e : (j != i) = true := by simpa using hj
    rw [e]; simp
/-- another one's own: had or not -/
theorem own {L : List Lease} (h : LInv L) {now i n : Int} (hi : i = 5 ∨ i = 9) (hn : 1 ≤ n) (hn2 : n ≤ 64) (h0 : 0 ≤ now) (h1 : now ≤ 100000) :
    (∃ L1, top_askR14_f L now 2 i 2 n = some (L1, true, []) ∧ lease_Back_f L1 2 i = some (L.filter (isOver now)) ∧ ∀ u, U i L u → u ≤ now) ∨ ∃ r, top_askR14_f L now 2 i 2 n = some (L.filter (isOver now), false, r) := by
  have hO := h.filter (isOver now)
  have hl := h.len
  have hol := hO.len
  have hcl : ∀ x ∈ L.filter (isOver now), clB 2 i 2 x = (x.ino == i) := fun x hx => by
    have := (hO.all x hx).1
    unfold clB
    rw [this]; simp
  by_cases hc : (L.filter (isOver now)).filter (clB 2 i 2) = []
  · left
    refine ⟨_, ask_had (by omega) h.wh (by decide) (by decide) (by omega) (.inr rfl) hn hn2 h0 (by omega) hc, ?_, fun u hu => ?_⟩
    · have e : (L.filter (isOver now)).filter (nsB 2 i 2) = L.filter (isOver now) := by
        rw [List.filter_eq_self]
        intro x hx
        have := (hO.all x hx).1
        unfold nsB; rw [this]; simp
      rw [e, Back_eq (by simp; omega), List.filter_append]
      congr 1
      have e1 : (L.filter (isOver now)).filter (notOf 2 i) = L.filter (isOver now) := by
        rw [List.filter_eq_self]
        intro x hx
        have := (hO.all x hx).1
        unfold notOf; rw [this]; simp
      have e2 : ([wants 2 i 2 (now + (n + 2))] : List Lease).filter (notOf 2 i) = [] := by
        rw [List.filter_eq_nil_iff]
        intro x hx
        simp only [List.mem_singleton] at hx
        subst hx
        unfold notOf wants; simp
      rw [e1, e2, List.append_nil]
    · rcases Int.lt_or_le now u with hlt | hle
      · obtain ⟨x, hx, h3, h4⟩ := hu.over hlt
        exfalso
        have := List.filter_eq_nil_iff.1 hc x hx
        rw [hcl x hx, h3] at this
        simp at this
      · exact hle
  · right
    have hone : ∃ x, (L.filter (isOver now)).filter (clB 2 i 2) = [x] ∧ x.client = 1 := by
      have hC := hO.filter (clB 2 i 2)
      have hin : ∀ x ∈ (L.filter (isOver now)).filter (clB 2 i 2), x.ino = i := fun x hx => by
        obtain ⟨h3, h4⟩ := List.mem_filter.1 hx
        rw [hcl x h3] at h4
        simpa using h4
      generalize (L.filter (isOver now)).filter (clB 2 i 2) = C at hc hC hin ⊢
      match C, hc, hC, hin with
      | [], hc, _, _ => exact absurd rfl hc
      | [x], _, hC, _ => exact ⟨x, rfl, (hC.all x (by simp)).1⟩
      | x :: y :: r, _, hC, hin =>
        exfalso
        have := hC.nod
        simp only [List.pairwise_cons] at this
        exact this.1 y (by simp) ((hin x (by simp)).trans (hin y (by simp)).symm)
    obtain ⟨x, hx, hx1⟩ := hone
    exact ⟨[1], ask_not (by omega) h.wh (by decide) (by decide) (by omega) (.inr rfl) hn hn2 hc (by rw [hx, List.map_singleton, hx1]; exact once_one 1)⟩
theorem filter_U {L : List Lease} {now : Int} : ∀ i u, U i L u → U i (L.filter (isOver now)) u ∨ u ≤ now := fun i u hu => by
  rcases Int.lt_or_le now u with hlt | hle
  · exact .inl (hu.over hlt)
  · exact .inr hle
/-- what a place is -/
structure Pl0 (p : PlaceR14) : Prop where
  L : LInv p.l
  d0 : 0 ≤ p.data
  d1 : p.data < 200
  is : p.is = 0 ∨ p.is = 7
  K : p.k = [] ∨ ∃ d u e v, p.k = [k5 d u, k9 e v]
/-- what an act makes of it -/
def Acted (p p' : PlaceR14) (s c : Int) : Prop :=
  (∃ n, 1 ≤ n ∧ n ≤ 64 ∧ p'.k = [k5 p.data (c + n), k9 p.is (c + n)] ∧ p'.data = p.data ∧ p'.is = p.is ∧ U 5 p'.l (s + (n + 2)) ∧ U 9 p'.l (s + (n + 2))) ∨
  (p'.k = p.k ∧ (∀ i u, U i p.l u → U i p'.l u ∨ u ≤ s) ∧ (p'.data = p.data ∨ ∀ u, U 5 p.l u → u ≤ s) ∧ (p'.is = p.is ∨ ∀ u, U 9 p.l u → u ≤ s)) ∨
  p'.k = []
theorem did {p : PlaceR14} (h : Pl0 p) {a : ActR14} (ha : 0 ≤ a.do_ ∧ a.do_ < 256) (hb : 0 ≤ a.long ∧ a.long < 256) {s c : Int} (hs : 0 ≤ s) (hs1 : s ≤ 100000) (hc : 0 ≤ c) (hc1 : c ≤ 100000) :
    ∃ p', top_didR14_f p a s c = some p' ∧ Pl0 p' ∧ Acted p p' s c := by
  obtain ⟨n, hn⟩ : ∃ n, IntKind.wrap .i64 (1 + (Int.tmod (IntKind.wrap .i64 a.long) 64)) = n := ⟨_, rfl⟩
  have hn12 : 1 ≤ n ∧ n ≤ 64 := by
    rw [← hn, w64 (x := a.long) (by omega) (by omega), Int.tmod_eq_emod_of_nonneg hb.1, w64 (by omega) (by omega)]
    omega
  have hl := h.L.len
  unfold top_didR14_f
  rw [hn]
  have wc : IntKind.wrap .i64 (c + n) = c + n := w64 (by omega) (by omega)
  have wd : IntKind.wrap .u8 p.data = p.data := by
    have := h.d0
    have := h.d1
    show p.data % 256 = p.data
    omega
  rw [wc, wd]
  cases (Int.tmod a.do_ 5 == 0) with
  | true =>
    rw [cond_true]
    obtain ⟨L1, e1, hL1, u1, _⟩ := share h.L (i := 5) (.inl rfl) hn12.1 hn12.2 hs hs1
    obtain ⟨L2, e2, hL2, u2, k2⟩ := share hL1 (i := 9) (.inr rfl) hn12.1 hn12.2 hs hs1
    rw [e1, Option.bind_some]
    simp only
    rw [e2, Option.bind_some, cond_true]
    have fin : ∀ k0 k1 : List Kept, cache_Page_f p.k 5 0 [p.data] (c + n) = some k0 → cache_Name_f k0 9 nmX p.is (c + n) = some [k5 p.data (c + n), k9 p.is (c + n)] →
        ∃ p', ((cache_Page_f p.k 5 0 [p.data] (c + n)).bind fun r4 => top_didR14_J2 (L2, true, []) p c r4 n) = some p' ∧ Pl0 p' ∧ Acted p p' s c := by
      intro k0 k1 hp hq
      rw [hp, Option.bind_some]
      unfold top_didR14_J2 top_didR14_J3 top_didR14_J1
      rw [wc]
      simp only [cond_true]
      change ∃ p', ((cache_Name_f k0 9 nmX p.is (c + n)).bind fun r3 => some (⟨L2, p.data, p.is, r3⟩ : PlaceR14)) = some p' ∧ _
      rw [hq, Option.bind_some]
      refine ⟨_, rfl, ⟨hL2, h.d0, h.d1, h.is, .inr ⟨_, _, _, _, rfl⟩⟩, .inl ⟨n, hn12.1, hn12.2, rfl, rfl, rfl, ?_, u2⟩⟩
      exact k2 5 _ (by decide) u1 (by omega)
    rcases h.K with hk | ⟨d, u, e, v, hk⟩
    · exact fin [k5 p.data (c + n)] [] (by rw [hk]; exact page_nil _ _) (name_one _ _ _ _)
    · exact fin [k5 p.data (c + n), k9 e v] [] (by rw [hk]; exact page_two _ _ _ _ _ _) (name_two _ _ _ _ _ _)
  | false =>
    rw [cond_false]
    cases (Int.tmod a.do_ 5 == 1) with
    | true =>
      rw [cond_true]
      rcases own h.L (i := 5) (.inl rfl) hn12.1 hn12.2 hs hs1 with ⟨L1, e1, e2, e3⟩ | ⟨r, e1⟩
      · rw [e1, Option.bind_some]
        simp only [cond_true]
        rw [e2, Option.bind_some]
        unfold top_didR14_J4 top_didR14_J1
        have hd0 := h.d0
        have hd1 := h.d1
        have wd1 : IntKind.wrap .i64 (p.data + 1) = p.data + 1 := w64 (by omega) (by omega)
        rw [wd1, Int.tmod_eq_emod_of_nonneg (by omega)]
        refine ⟨_, rfl, ⟨h.L.filter _, ?_, ?_, h.is, h.K⟩, .inr (.inl ⟨rfl, filter_U, .inr e3, .inl rfl⟩)⟩
        · show 0 ≤ (p.data + 1) % 200; omega
        · show (p.data + 1) % 200 < 200; omega
      · rw [e1, Option.bind_some]
        simp only [cond_false]
        unfold top_didR14_J4 top_didR14_J1
        exact ⟨_, rfl, ⟨h.L.filter _, h.d0, h.d1, h.is, h.K⟩, .inr (.inl ⟨rfl, filter_U, .inl rfl, .inl rfl⟩)⟩
    | false =>
      rw [cond_false]
      cases (Int.tmod a.do_ 5 == 2) with
      | true =>
        rw [cond_true]
        rcases own h.L (i := 9) (.inr rfl) hn12.1 hn12.2 hs hs1 with ⟨L1, e1, e2, e3⟩ | ⟨r, e1⟩
        · rw [e1, Option.bind_some]
          simp only [cond_true]
          rw [e2, Option.bind_some]
          unfold top_didR14_J5 top_didR14_J1
          have his := h.is
          have wd1 : IntKind.wrap .i64 (7 - p.is) = 7 - p.is := w64 (by omega) (by omega)
          rw [wd1]
          refine ⟨_, rfl, ⟨h.L.filter _, h.d0, h.d1, ?_, h.K⟩, .inr (.inl ⟨rfl, filter_U, .inl rfl, .inr e3⟩)⟩
          show 7 - p.is = 0 ∨ 7 - p.is = 7
          omega
        · rw [e1, Option.bind_some]
          simp only [cond_false]
          unfold top_didR14_J5 top_didR14_J1
          exact ⟨_, rfl, ⟨h.L.filter _, h.d0, h.d1, h.is, h.K⟩, .inr (.inl ⟨rfl, filter_U, .inl rfl, .inl rfl⟩)⟩
      | false =>
        rw [cond_false]
        cases (Int.tmod a.do_ 5 == 3) with
        | true =>
          rw [cond_true, Back_eq (by omega), Option.bind_some, Back_eq (by have := (h.L.filter (notOf 1 5)).len; omega), Option.bind_some]
          have hk : ∃ k1, cache_Forget_f p.k 5 = some k1 ∧ cache_Forget_f k1 9 = some [] := by
            rcases h.K with hk | ⟨d, u, e, v, hk⟩
            · rw [hk]; exact ⟨[], forget_nil 5, forget_nil 9⟩
            · rw [hk]; exact ⟨[k9 e v], forget_two _ _ _ _, forget_one _ _⟩
          obtain ⟨k1, e1, e2⟩ := hk
          rw [e1, Option.bind_some, e2, Option.bind_some]
          unfold top_didR14_J1
          exact ⟨_, rfl, ⟨(h.L.filter _).filter _, h.d0, h.d1, h.is, .inl rfl⟩, .inr (.inr rfl)⟩
        | false =>
          rw [cond_false]
          unfold top_didR14_J1
          exact ⟨_, rfl, h, .inr (.inl ⟨rfl, fun i u hu => .inl hu, .inl rfl, .inl rfl⟩)⟩
end Go.Proofs.Ytogickapcbibbaa
