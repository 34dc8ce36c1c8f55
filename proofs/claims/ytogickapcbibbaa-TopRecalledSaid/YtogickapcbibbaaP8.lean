/- TopRecalled as a plain law. -/
import Derived.Test.YtogickapcbibbaaP7
import Derived.Test.YtogickapcbibbaaP0
import Derived.Test.YtogickapcbibbaaG4
import Derived.Test.YtogickapcbibbaaW
import Derived.Test.YtogickapcbibbaaB8
set_option linter.unusedSimpArgs false
set_option linter.unusedVariables false
namespace Go.Proofs.Ytogickapcbibbaa
open Go.Ab Go.RowKit
/-! ## what clients keep -/
def p5 (n : Int) : Kept := ⟨5, ByteArray.empty, 3, 0, [1, 2], n⟩
def p6 (b n : Int) : Kept := ⟨6, ByteArray.empty, 3, 0, [b], n⟩
theorem clone2 (a b : Int) : slices_Clone_f [a, b] = some [a, b] := by
  unfold slices_Clone_f
  exact nilq_of (fun h => by cases h) (by rw [chk_pos (by simp)]; rfl)
theorem page_a (n : Int) : cache_Page_f [] 5 3 [1, 2] n = some [p5 n] := by
  unfold cache_Page_f cache_put_f
  rw [clone2, Option.bind_some, bs_nil, Option.bind_some, cloneK (by simp), Option.bind_some]
  simp only [cond_false]
  have := insert_end (l := []) (by simp) (p5 n)
  change (((slices_Insert_f [] (([] : List Kept).length : Int) [p5 n]).bind fun r3 => some r3).bind fun r2 => some r2) = _
  rw [this]; rfl
theorem page_b (b n : Int) : cache_Page_f [p5 n] 6 3 [b] n = some [p5 n, p6 b n] := by
  unfold cache_Page_f cache_put_f
  have o : cache_order_f (p5 n) ⟨6, ByteArray.empty, 3, 0, [b], n⟩ = some (-1) := order_lt (by show (5 : Int) < 6; decide)
  rw [clone1, Option.bind_some, bs_one o, Option.bind_some, cloneK (by simp), Option.bind_some]
  have := insert_end (l := [p5 n]) (by simp) (p6 b n)
  change (((slices_Insert_f [p5 n] (([p5 n] : List Kept).length : Int) [p6 b n]).bind fun r3 => some r3).bind fun r2 => some r2) = _
  rw [this]; rfl
theorem forget_ab {a b : Kept} {i : Int} (ha : a.ino = i) (hb : b.ino ≠ i) : cache_Forget_f [a, b] i = some [b] := by
  unfold cache_Forget_f cache_but_f slices_DeleteFunc_f
  rw [cloneK (by simp), Option.bind_some]
  obtain ⟨m, hm⟩ := big_add 4 (by omega)
  have i0 : idx [a, b] 0 = some a := rfl
  have i1 : idx [a, b] 1 = some b := rfl
  have l2 : (([a, b].length : Nat) : Int) = 2 := rfl
  have f5 : cache_Forget_1_f a i = some true := by unfold cache_Forget_1_f; rw [ha]; simp
  have f9 : cache_Forget_1_f b i = some false := by unfold cache_Forget_1_f; have : (b.ino == i) = false := by simpa using hb
                                                    rw [this]
  have w0 : IntKind.wrap .i64 (0 + 1) = 1 := by decide
  have w1 : IntKind.wrap .i64 (1 + 1) = 2 := by decide
  have e1 : slices_IndexFunc_59_f [a, b] (fun y0_ => cache_Forget_1_f y0_ i) = some 0 := by
    unfold slices_IndexFunc_59_f
    rw [hm]
    simp only [slices_IndexFunc_59_L1, l2, i0, f5, Option.bind_some, show decide ((0 : Int) < 2) = true by decide, cond_true]
  rw [e1, Option.bind_some, show ((0 : Int) == -1) = false by decide, cond_false, hm]
  have s0 : ([a, b].set (Int.toNat 0) b) = [b, b] := rfl
  have l2' : (([b, b].length : Nat) : Int) = 2 := rfl
  simp only [slices_DeleteFunc_L1, slices_DeleteFunc_J2, slices_DeleteFunc_J1, l2, l2', w0, w1, i0, i1, f9, s0, Option.bind_some, Bool.not_false, show decide ((1 : Int) < 2) = true by decide, show decide ((2 : Int) < 2) = false by decide, cond_true, cond_false]
  rfl
theorem gone (b n : Int) : cache_GetPage_f [p6 b n] 5 3 0 = some ([], false) := by
  unfold cache_GetPage_f cache_get_f
  have o : cache_order_f (p6 b n) ⟨5, ByteArray.empty, 3, 0, [], 0⟩ = some 1 := order_gt (by show (5 : Int) < 6; decide)
  rw [bs_one o]; rfl
theorem still (b n c : Int) (hc : c < n) : cache_GetPage_f [p6 b n] 6 3 c = some ([b], true) := by
  unfold cache_GetPage_f cache_get_f
  have o : cache_order_f (p6 b n) ⟨6, ByteArray.empty, 3, 0, [], 0⟩ = some 0 := order_same rfl rfl rfl
  rw [bs_one o, Option.bind_some]
  have i0 : idx [p6 b n] 0 = some (p6 b n) := rfl
  simp only [if_false, show ¬ ((0 : Int) < 0) by decide, show ((0 : Int) == 0) = true by decide, Bool.not_true, cond_false, i0, Option.bind_some]
  unfold cache_get_J1
  rw [cond_d, if_neg (show ¬ (p6 b n).until_ ≤ c from (by show ¬ n ≤ c; omega))]
  change ((idx [p6 b n] 0).bind fun x1 => (cache_GetPage_1_f x1).bind fun r2 => some (r2, true)).bind (fun r1 => some (r1.1, r1.2)) = _
  rw [i0, Option.bind_some]
  unfold cache_GetPage_1_f
  change (((slices_Clone_f [b]).bind fun r1 => some r1).bind fun r2 => some (r2, true)).bind (fun r1 => some (r1.1, r1.2)) = _
  rw [clone1]; rfl
theorem ints_L {a : List Int} (ha : a.length ≤ 1000) : ∀ m k, a.length < m + k → k ≤ a.length → ref02_Ints_L1 a a m (k : Int) = some true := by
  intro m
  induction m with
  | zero => intro k h1 h2; omega
  | succ m ih =>
    intro k h1 h2
    rw [ref02_Ints_L1, cond_d]
    by_cases hk : k < a.length
    · rw [if_pos (by omega), idx_nat hk, Option.bind_some, Option.bind_some, bne_self_eq_false, cond_false, w64_succ (by omega)]
      exact ih (k + 1) (by omega) (by omega)
    · rw [if_neg (by omega)]; rfl
theorem ints_same {a : List Int} (ha : a.length ≤ 1000) : ref02_Ints_f a a = some true := by
  unfold ref02_Ints_f
  rw [bne_self_eq_false, cond_false]
  exact ints_L ha BIG 0 (by rw [BIG_eq]; omega) (by omega)
/-! ## leases of many -/
structure Many (u : Int) (L : List Lease) : Prop where
  all : ∀ x ∈ L, 1 ≤ x.client ∧ x.client ≤ 15 ∧ x.ino = 5 ∧ x.kind = 1 ∧ x.span = whole ∧ x.until_ = u
  nod : (L.map (·.client)).Nodup
theorem Many.over {u at_ : Int} {L : List Lease} (h : Many u L) (hu : at_ < u) : L.filter (isOver at_) = L := by
  rw [List.filter_eq_self]
  intro x hx
  unfold isOver
  rw [(h.all x hx).2.2.2.2.2]; exact decide_eq_true hu
theorem many_share {at_ n k : Int} {L : List Lease} (h : Many (at_ + (n + 2)) L) (hl : L.length ≤ 30) (hn : 1 ≤ n) (hn2 : n ≤ 64) (h0 : 0 ≤ at_) (h1 : at_ ≤ 100000) (hk : 1 ≤ k) (hk2 : k ≤ 15) :
    ∃ L', top_askR14_f L at_ k 5 1 n = some (L', true, []) ∧ Many (at_ + (n + 2)) L' ∧ L'.length ≤ L.length + 1 ∧ ∀ c, c ∈ L'.map (·.client) ↔ (c = k ∨ c ∈ L.map (·.client)) := by
  have ho := h.over (at_ := at_) (by omega)
  have hns : ∀ x ∈ L, nsB k 5 1 x = (x.client != k) := fun x hx => by
    unfold nsB
    rw [(h.all x hx).2.2.1, (h.all x hx).2.2.2.1]; simp
  refine ⟨_, ask_had (by omega) (fun x hx => (h.all x hx).2.2.2.2.1) (by omega) (by omega) (by decide) (.inl rfl) hn hn2 h0 (by omega) ?_, ⟨fun x hx => ?_, ?_⟩, ?_, fun c => ?_⟩
  · rw [ho, List.filter_eq_nil_iff]
    intro x hx
    unfold clB
    rw [(h.all x hx).2.2.2.1]; simp
  · rw [ho] at hx
    rcases List.mem_append.1 hx with hx | hx
    · exact h.all x (List.mem_filter.1 hx).1
    · simp only [List.mem_singleton] at hx
      subst hx
      exact ⟨hk, hk2, rfl, rfl, rfl, rfl⟩
  · rw [ho, List.map_append, List.nodup_append]
    refine ⟨(h.nod.sublist (List.filter_sublist.map _)), by simp, fun a ha b hb => ?_⟩
    obtain ⟨x, hx, rfl⟩ := List.mem_map.1 ha
    simp only [List.map_singleton, List.mem_singleton] at hb
    subst hb
    obtain ⟨hx1, hx2⟩ := List.mem_filter.1 hx
    rw [hns x hx1] at hx2
    simpa [wants] using hx2
  · rw [ho]
    have := List.length_filter_le (nsB k 5 1) L
    simp; omega
  · rw [ho, List.map_append]
    simp only [List.mem_append, List.map_singleton, List.mem_singleton]
    constructor
    · rintro (hc | hc)
      · obtain ⟨x, hx, rfl⟩ := List.mem_map.1 hc
        exact .inr (List.mem_map.2 ⟨x, (List.mem_filter.1 hx).1, rfl⟩)
      · exact .inl hc
    · rintro (hc | hc)
      · exact .inr hc
      · by_cases e : c = k
        · exact .inr e
        · obtain ⟨x, hx, rfl⟩ := List.mem_map.1 hc
          exact .inl (List.mem_map.2 ⟨x, List.mem_filter.2 ⟨hx, by rw [hns x hx]; simpa using e⟩, rfl⟩)
/-- what each client keeps -/
def KeptAs (K : List (List Kept)) (C : Int → Prop) (n : Int) : Prop := K.length = 16 ∧ ∀ (j : Nat) (hj : j < K.length), (C (j : Int) ∧ K[j] = [p5 n, p6 (j : Int) n]) ∨ (¬ C (j : Int) ∧ K[j] = [])
theorem who_L3 {K : List (List Kept)} {C : Int → Prop} {n : Int} (hK : KeptAs K C n) {L : List Lease} {at_ n1 oth : Int} {r : Bool} : ∀ m (who : List Int) k, 16 < m + k → k ≤ 16 → 1 ≤ k → who.length ≤ k →
    ∃ w, top_TopRecalled_L3 K L at_ n1 oth r m who (k : Int) = top_TopRecalled_J2 L at_ n1 oth r K (who ++ w) ∧ w.Pairwise (· < ·) ∧ w.length ≤ 16 - k ∧ ∀ x, x ∈ w ↔ ((k : Int) ≤ x ∧ x ≤ 15 ∧ C x) := by
  intro m
  induction m with
  | zero => intro who k h1 h2; omega
  | succ m ih =>
    intro who k h1 h2 h3 h4
    rw [top_TopRecalled_L3, cond_d]
    by_cases hk : k < 16
    · have hlen := hK.1
      rw [if_pos (by omega), idx_nat (show k < K.length by omega), Option.bind_some]
      rcases hK.2 k (by omega) with ⟨hc, e⟩ | ⟨hc, e⟩
      · rw [e, show decide ((0 : Int) < (([p5 n, p6 (k : Int) n].length : Nat) : Int)) = true by simp, cond_true, chk_pos (by omega)]
        unfold top_TopRecalled_J8
        rw [w64_succ (by omega)]
        obtain ⟨w, e2, hs, hl, hm⟩ := ih (who ++ [(k : Int)]) (k + 1) (by omega) (by omega) (by omega) (by simp; omega)
        refine ⟨(k : Int) :: w, by rw [e2]; simp, ?_, by simp; omega, fun x => ?_⟩
        · rw [List.pairwise_cons]
          exact ⟨fun x hx => by have := (hm x).1 hx; omega, hs⟩
        · rw [List.mem_cons, hm]
          constructor
          · rintro (rfl | h)
            · exact ⟨by omega, by omega, hc⟩
            · exact ⟨by omega, h.2.1, h.2.2⟩
          · rintro ⟨h5, h6, h7⟩
            by_cases e : x = (k : Int)
            · exact .inl e
            · exact .inr ⟨by omega, h6, h7⟩
      · rw [e, show decide ((0 : Int) < (([] : List Kept).length : Int)) = false by simp, cond_false]
        unfold top_TopRecalled_J8
        rw [w64_succ (by omega)]
        obtain ⟨w, e2, hs, hl, hm⟩ := ih who (k + 1) (by omega) (by omega) (by omega) (by omega)
        refine ⟨w, e2, hs, by omega, fun x => ?_⟩
        rw [hm]
        constructor
        · rintro ⟨h5, h6, h7⟩; exact ⟨by omega, h6, h7⟩
        · rintro ⟨h5, h6, h7⟩
          refine ⟨?_, h6, h7⟩
          rcases Int.lt_or_le (k : Int) x with hlt | hle
          · omega
          · obtain rfl : x = (k : Int) := by omega
            exact absurd h7 hc
    · rw [if_neg (by omega)]
      exact ⟨[], by simp [top_TopRecalled_J1], List.Pairwise.nil, by simp, fun x => ⟨(fun h => by cases h), (fun h => by omega)⟩⟩
/-- behind all: nothing of the node, the rest as it was -/
theorem last_L1 {K : List (List Kept)} {who : List Int} {n oth : Int} (hK : K.length = 16) (hw : who.length ≤ 100) (hn : 1 ≤ n) (hn2 : n ≤ 64) (ho : 0 ≤ oth ∧ oth < 256) (h : ∀ x ∈ who, ∃ (j : Nat) (hj : j < K.length), x = (j : Int) ∧ K[j] = [p6 (j : Int) n]) :
    ∀ m k, who.length < m + k → k ≤ who.length → top_TopRecalled_L1 who K n oth true m (k : Int) = some true := by
  intro m
  induction m with
  | zero => intro k h1 h2; omega
  | succ m ih =>
    intro k h1 h2
    rw [top_TopRecalled_L1, cond_d]
    by_cases hk : k < who.length
    · obtain ⟨j, hj, e, e2⟩ := h _ (List.getElem_mem hk)
      have hmod : Int.tmod (IntKind.wrap .i64 oth) n < n := by
        rw [w64 (by omega) (by omega), Int.tmod_eq_emod_of_nonneg ho.1]
        exact Int.emod_lt_of_pos _ (by omega)
      have wj : IntKind.wrap .u8 (j : Int) = j := by show (j : Int) % 256 = j; omega
      rw [if_pos (by omega), idx_nat hk, Option.bind_some, e, idx_nat hj, Option.bind_some, e2, gone, Option.bind_some, chk_pos (by omega), still _ _ _ hmod, Option.bind_some]
      simp only [cond_false, Bool.not_true]
      rw [wj, bytes_one, Option.bind_some]
      unfold top_TopRecalled_J7
      simp only [beq_self_eq_true, Bool.not_true, cond_false]
      rw [w64_succ (by omega)]
      exact ih (k + 1) (by omega) (by omega)
    · rw [if_neg (by omega)]; rfl
theorem own_J4 {K : List (List Kept)} {who : List Int} {n oth at_ : Int} {M : List Lease} (hM : M = [] ∨ M = [wants 0 5 2 (at_ + (n + 2))]) (h0 : 0 ≤ at_) (h1 : at_ ≤ 100000) (hK : K.length = 16) (hw : who.length ≤ 100) (hn : 1 ≤ n) (hn2 : n ≤ 64) (ho : 0 ≤ oth ∧ oth < 256)
    (h : ∀ x ∈ who, ∃ (j : Nat) (hj : j < K.length), x = (j : Int) ∧ K[j] = [p6 (j : Int) n]) : top_TopRecalled_J4 at_ n who oth true K M = some true := by
  unfold top_TopRecalled_J4
  have e : top_askR14_f M at_ 0 5 2 n = some ([wants 0 5 2 (at_ + (n + 2))], true, []) := by
    rcases hM with rfl | rfl
    · exact ask_had (by simp) (by simp) (by decide) (by decide) (by decide) (.inr rfl) hn hn2 h0 (by omega) rfl
    · have hf : ([wants 0 5 2 (at_ + (n + 2))] : List Lease).filter (isOver at_) = [wants 0 5 2 (at_ + (n + 2))] := by
        rw [List.filter_eq_self]
        intro x hx
        simp only [List.mem_singleton] at hx
        subst hx
        unfold isOver wants; exact decide_eq_true (by show at_ < at_ + (n + 2); omega)
      have := ask_had (L := [wants 0 5 2 (at_ + (n + 2))]) (now := at_) (c := 0) (ino := 5) (kind := 2) (n := n) (by simp) (fun x hx => by simp only [List.mem_singleton] at hx; subst hx; rfl) (by decide) (by decide) (by decide) (.inr rfl) hn hn2 h0 (by omega) (by rw [hf]; rfl)
      rw [this, hf]; rfl
  rw [e, Option.bind_some]
  simp only [Bool.not_true, cond_false, List.length_nil]
  rw [show decide ((0 : Int) < ((0 : Nat) : Int)) = false by decide, cond_false]
  unfold top_wholeR14_f
  rw [Option.bind_some, show (⟨0, 4096⟩ : Span) = whole from rfl]
  unfold wants
  rw [has_own, Option.bind_some]
  unfold top_TopRecalled_J5
  rw [Bool.not_true, cond_false]
  exact last_L1 hK hw hn hn2 ho h BIG 0 (by rw [BIG_eq]; omega) (by omega)
theorem back_L2 {who : List Int} {n oth at_ : Int} {M0 : List Lease} (h0 : 0 ≤ at_) (h1 : at_ ≤ 100000) (hw : who.length ≤ 100) (hs : who.Pairwise (· < ·)) (hwr : ∀ x ∈ who, 1 ≤ x ∧ x ≤ 15) (hn : 1 ≤ n) (hn2 : n ≤ 64) (ho : 0 ≤ oth ∧ oth < 256)
    (hM : (who = [] ∧ M0 = [wants 0 5 2 (at_ + (n + 2))]) ∨ (∀ x ∈ M0, x.ino = 5 ∧ x.client ∈ who)) :
    ∀ m (K : List (List Kept)) (M : List Lease) i, who.length < m + i → i ≤ who.length → M.length ≤ 60 → K.length = 16 →
      (∀ x ∈ M, x ∈ M0 ∧ ¬ (x.ino = 5 ∧ x.client ∈ who.take i)) → (who = [] → M = M0) →
      (∀ (q : Nat) (hq : q < who.length), ∃ (j : Nat) (hj : j < K.length), who[q] = (j : Int) ∧ K[j] = if q < i then [p6 (j : Int) n] else [p5 n, p6 (j : Int) n]) →
      top_TopRecalled_L2 who at_ n oth true m K M (i : Int) = some true := by
  intro m
  induction m with
  | zero => intro K M i h1 h2; omega
  | succ m ih =>
    intro K M i g1 g2 g3 g4 g5 g6 g7
    rw [top_TopRecalled_L2, cond_d]
    by_cases hi : i < who.length
    · obtain ⟨j, hj, e, e2⟩ := g7 i hi
      rw [if_neg (Nat.lt_irrefl i)] at e2
      rw [if_pos (by omega), idx_nat hi, Option.bind_some, e, idx_nat hj, Option.bind_some, e2, forget_ab (a := p5 n) (b := p6 (j : Int) n) (i := 5) rfl (by exact (by decide : (6 : Int) ≠ 5)), Option.bind_some, Back_eq (by omega), Option.bind_some, w64_succ (by omega), Int.toNat_natCast]
      refine ih _ _ (i + 1) (by omega) (by omega) (Nat.le_trans (List.length_filter_le _ _) g3) (by simp [g4]) ?_ ?_ ?_
      · intro x hx
        obtain ⟨hx1, hx2⟩ := List.mem_filter.1 hx
        obtain ⟨a1, a2⟩ := g5 x hx1
        refine ⟨a1, fun ⟨b1, b2⟩ => ?_⟩
        rw [List.take_succ_eq_append_getElem hi, List.mem_append] at b2
        rcases b2 with b2 | b2
        · exact a2 ⟨b1, b2⟩
        · simp only [List.mem_singleton] at b2
          rw [e] at b2
          unfold notOf at hx2
          rw [b1, b2] at hx2
          simp at hx2
      · intro hnil; rw [hnil] at hi; simp at hi
      · intro q hq
        obtain ⟨jq, hjq, f1, f2⟩ := g7 q hq
        refine ⟨jq, by simpa using hjq, f1, ?_⟩
        by_cases hqi : q = i
        · subst hqi
          have : jq = j := by rw [e] at f1; omega
          subst this
          rw [if_pos (by omega)]; simp
        · have hne : jq ≠ j := by
            intro he
            rw [he, ← e] at f1
            rcases Nat.lt_or_ge q i with hlt | hge
            · have := List.pairwise_iff_getElem.1 hs q i hq hi hlt
              omega
            · have := List.pairwise_iff_getElem.1 hs i q hi hq (by omega)
              omega
          rw [List.getElem_set_ne (by omega), f2]
          by_cases hlt : q < i
          · rw [if_pos hlt, if_pos (by omega)]
          · rw [if_neg hlt, if_neg (by omega)]
    · rw [if_neg (by omega)]
      obtain rfl : i = who.length := by omega
      refine own_J4 ?_ h0 h1 g4 hw hn hn2 ho fun x hx => ?_
      · rcases hM with ⟨w1, w2⟩ | hM
        · right; rw [g6 w1, w2]
        · left
          cases M with
          | nil => rfl
          | cons x M =>
            obtain ⟨a1, a2⟩ := g5 x (by simp)
            rw [List.take_length] at a2
            exact absurd (hM x a1) a2
      · obtain ⟨q, hq, rfl⟩ := List.mem_iff_getElem.1 hx
        obtain ⟨j, hj, f1, f2⟩ := g7 q hq
        rw [if_pos hq] at f2
        exact ⟨j, hj, f1, f2⟩
theorem rec_J1 {L : List Lease} {K : List (List Kept)} {at_ n oth : Int} (h0 : 0 ≤ at_) (h1 : at_ ≤ 100000) (hn : 1 ≤ n) (hn2 : n ≤ 64) (ho : 0 ≤ oth ∧ oth < 256) (hL : Many (at_ + (n + 2)) L) (hl : L.length ≤ 10) (hK : KeptAs K (fun c => c ∈ L.map (·.client)) n) :
    top_TopRecalled_J1 oth true n at_ L K = some true := by
  unfold top_TopRecalled_J1
  obtain ⟨w, e, hs, hwl, hm⟩ := who_L3 hK (L := L) (at_ := at_) (n1 := n) (oth := oth) (r := true) BIG [] 1 (by rw [BIG_eq]; omega) (by omega) (by omega) (by simp)
  have e' : top_TopRecalled_L3 K L at_ n oth true BIG [] 1 = top_TopRecalled_J2 L at_ n oth true K w := e
  rw [e']
  unfold top_TopRecalled_J2
  have hover := hL.over (at_ := at_) (by omega)
  have hclash : L.filter (clB 0 5 2) = L := by
    rw [List.filter_eq_self]
    intro x hx
    obtain ⟨a1, a2, a3, a4, _⟩ := hL.all x hx
    unfold clB
    have c0 : (x.client != 0) = true := by rw [bne_iff_ne]; omega
    rw [c0, a3]; simp
  have hmem : ∀ x, x ∈ w ↔ x ∈ L.map (·.client) := fun x => by
    rw [hm]
    constructor
    · exact fun h => h.2.2
    · intro h
      obtain ⟨y, hy, rfl⟩ := List.mem_map.1 h
      obtain ⟨a1, a2, _⟩ := hL.all y hy
      exact ⟨by omega, by omega, h⟩
  have hwr : ∀ x ∈ w, 1 ≤ x ∧ x ≤ 15 := fun x hx => by have := (hm x).1 hx; omega
  have hkq : ∀ (q : Nat) (hq : q < w.length), ∃ (j : Nat) (hj : j < K.length), w[q] = (j : Int) ∧ K[j] = if q < 0 then [p6 (j : Int) n] else [p5 n, p6 (j : Int) n] := fun q hq => by
    have hin := List.getElem_mem hq
    have hr := hwr _ hin
    obtain ⟨j, hj⟩ : ∃ j : Nat, w[q] = (j : Int) := ⟨w[q].toNat, by omega⟩
    have hjl : j < K.length := by rw [hK.1]; omega
    refine ⟨j, hjl, hj, ?_⟩
    rw [if_neg (by omega)]
    rcases hK.2 j hjl with ⟨_, e⟩ | ⟨hc, _⟩
    · exact e
    · exact absurd (by rw [← hj]; exact (hmem _).1 hin) hc
  cases L with
  | nil =>
    have hw0 : w = [] := by
      cases w with
      | nil => rfl
      | cons x w => have := (hmem x).1 (by simp); simp at this
    subst hw0
    have e2 : top_askR14_f [] at_ 0 5 2 n = some ([wants 0 5 2 (at_ + (n + 2))], true, []) := ask_had (by simp) (by simp) (by decide) (by decide) (by decide) (.inr rfl) hn hn2 h0 (by omega) rfl
    rw [e2, Option.bind_some]
    simp only [List.length_nil]
    rw [show (!(true == (((0 : Nat) : Int) == 0))) = false by decide, cond_false, ints_same (by simp), Option.bind_some]
    unfold top_TopRecalled_J3
    rw [Bool.not_true, cond_false]
    exact back_L2 h0 h1 (by simp) List.Pairwise.nil (by simp) hn hn2 ho (.inl ⟨rfl, rfl⟩) BIG K _ 0 (by rw [BIG_eq]; simp) (by omega) (by simp) hK.1 (fun x hx => ⟨hx, by simp⟩) (fun _ => rfl) hkq
  | cons x0 L0 =>
    have e2 : top_askR14_f (x0 :: L0) at_ 0 5 2 n = some ((x0 :: L0), false, w) := by
      have := ask_not (L := x0 :: L0) (now := at_) (c := 0) (ino := 5) (kind := 2) (n := n) (r := w) (by omega) (fun x hx => (hL.all x hx).2.2.2.2.1) (by decide) (by decide) (by decide) (.inr rfl) hn hn2 (by rw [hover, hclash]; simp) (by
        rw [hover, hclash]
        exact once_eq (by simp at hl ⊢; omega) hL.nod hs hmem)
      rw [this, hover]
    rw [e2, Option.bind_some]
    have hwne : w ≠ [] := fun hw0 => by
      have := (hmem x0.client).2 (by simp)
      rw [hw0] at this; cases this
    have hwp : 0 < w.length := List.length_pos_iff.2 hwne
    have c1 : (((w.length : Nat) : Int) == 0) = false := by rw [beq_eq_false_iff_ne]; omega
    simp only
    rw [c1, show (!(false == false)) = false by decide, cond_false, ints_same (by omega), Option.bind_some]
    unfold top_TopRecalled_J3
    rw [Bool.not_true, cond_false]
    exact back_L2 h0 h1 (by omega) hs hwr hn hn2 ho (.inr fun x hx => ⟨(hL.all x hx).2.2.1, (hmem _).2 (List.mem_map.2 ⟨x, hx, rfl⟩)⟩) BIG K _ 0 (by rw [BIG_eq]; omega) (by omega) (by simp only [List.length_cons] at hl ⊢; omega) hK.1 (fun x hx => ⟨hx, by simp⟩) (fun _ => rfl) hkq
theorem rec_L4 {cl : List Int} {at_ n oth : Int} (h0 : 0 ≤ at_) (h1 : at_ ≤ 100000) (hn : 1 ≤ n) (hn2 : n ≤ 64) (ho : 0 ≤ oth ∧ oth < 256) (hc : ∀ x ∈ cl, okI .u8 x) (hcl : cl.length ≤ 6) :
    ∀ m (L : List Lease) (K : List (List Kept)) i, cl.length < m + i → i ≤ cl.length → Many (at_ + (n + 2)) L → L.length ≤ i → KeptAs K (fun c => c ∈ L.map (·.client)) n → top_TopRecalled_L4 cl oth true m n at_ L K (i : Int) = some true := by
  intro m
  induction m with
  | zero => intro L K i g1 g2; omega
  | succ m ih =>
    intro L K i g1 g2 hL hl hK
    rw [top_TopRecalled_L4, cond_d]
    by_cases hi : i < cl.length
    · have hx : 0 ≤ cl[i] ∧ cl[i] < 256 := hc _ (List.getElem_mem hi)
      rw [if_pos (by omega), idx_nat hi, Option.bind_some, w64 (x := cl[i]) (by omega) (by omega), Int.tmod_eq_emod_of_nonneg hx.1, w64 (x := 1 + cl[i] % 15) (by omega) (by omega)]
      obtain ⟨k, hk⟩ : ∃ k : Nat, 1 + cl[i] % 15 = (k : Int) := ⟨(1 + cl[i] % 15).toNat, by omega⟩
      have hk1 : 1 ≤ k ∧ k ≤ 15 := by omega
      rw [hk]
      obtain ⟨L', e, hL', hl', hm'⟩ := many_share hL (k := (k : Int)) (by omega) hn hn2 h0 h1 (by omega) (by omega)
      have wk : IntKind.wrap .u8 (k : Int) = k := by show (k : Int) % 256 = k; omega
      have hlen := hK.1
      rw [e, Option.bind_some]
      simp only [Bool.not_true, cond_false]
      rw [page_a, Option.bind_some, wk, page_b, Option.bind_some, idx_nat (show k < K.length by omega), Option.bind_some, Int.toNat_natCast, w64_succ (by omega)]
      refine ih L' _ (i + 1) (by omega) (by omega) hL' (by omega) ⟨by simp [hlen], fun j hj => ?_⟩
      simp at hj
      by_cases ejk : j = k
      · subst ejk
        exact .inl ⟨(hm' _).2 (.inl rfl), by simp⟩
      · rw [List.getElem_set_ne (by omega)]
        rcases hK.2 j hj with ⟨c1, c2⟩ | ⟨c1, c2⟩
        · exact .inl ⟨(hm' _).2 (.inr c1), c2⟩
        · refine .inr ⟨fun h => ?_, c2⟩
          rcases (hm' _).1 h with h | h
          · omega
          · exact c1 h
    · rw [if_neg (by omega)]
      exact rec_J1 h0 h1 hn hn2 ho hL (by omega) hK
theorem TopRecalled_true (y0 : List Int) (o0 : ∀ y26 ∈ y0, okI .u8 y26) (y1 : Int) (o1 : okI .u16 y1) (y2 : Int) (o2 : okI .u8 y2) (y3 : Int) (o3 : okI .u8 y3) : top_TopRecalled_f y0 y1 y2 y3 = some true := by
  unfold top_TopRecalled_f
  rw [head_true, Option.bind_some, cond_d]
  by_cases h : (6 : Int) < (y0.length : Int)
  · rw [if_pos h]
  · have h1 : 0 ≤ y1 ∧ y1 < 65536 := o1
    have h2 : 0 ≤ y2 ∧ y2 < 256 := o2
    have h3 : 0 ≤ y3 ∧ y3 < 256 := o3
    rw [if_neg h, chk_pos (by omega), w64 (x := y2) (by omega) (by omega), Int.tmod_eq_emod_of_nonneg h2.1, w64 (x := 1 + y2 % 64) (by omega) (by omega), w64 (x := y1) (by omega) (by omega)]
    refine rec_L4 h1.1 (by omega) (by omega) (by omega) h3 o0 (by omega) BIG [] (List.replicate 16 []) 0 (by rw [BIG_eq]; omega) (by omega) ⟨(fun x hx => absurd hx (by simp)), by simp⟩ (by simp) ⟨List.length_replicate, fun j hj => .inr ⟨by simp, List.getElem_replicate _⟩⟩
end Go.Proofs.Ytogickapcbibbaa
