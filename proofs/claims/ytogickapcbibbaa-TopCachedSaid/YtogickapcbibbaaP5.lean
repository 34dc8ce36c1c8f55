/- TopCached as a plain law. -/
import Derived.Test.YtogickapcbibbaaP4
import Derived.Test.YtogickapcbibbaaG3
import Derived.Test.YtogickapcbibbaaW
set_option linter.unusedSimpArgs false
set_option linter.unusedVariables false
namespace Go.Proofs.Ytogickapcbibbaa
open Go.Ab Go.RowKit
/-! ## leases that are right -/
theorem ixl_L {l : List Lease} {f : Lease → Option Bool} (hf : ∀ x ∈ l, f x = some false) (hl : l.length ≤ 1000) : ∀ m k, l.length < m + k → k ≤ l.length → slices_IndexFunc_L1 l f m (k : Int) = some (-1) := by
  intro m
  induction m with
  | zero => intro k h1 h2; omega
  | succ m ih =>
    intro k h1 h2
    rw [slices_IndexFunc_L1, cond_d]
    by_cases hk : k < l.length
    · rw [if_pos (by omega), idx_nat hk, Option.bind_some, hf _ (List.getElem_mem hk), Option.bind_some, cond_false, w64_succ (by omega)]
      exact ih (k + 1) (by omega) (by omega)
    · rw [if_neg (by omega)]; rfl
theorem one_of {x : Lease} (h0 : 0 ≤ x.client) (h1 : x.client < 16) (h2 : 1 ≤ x.ino) (h3 : x.kind = 1 ∨ x.kind = 2) (h4 : x.span = whole) (h5 : 0 ≤ x.until_) (h6 : x.until_ ≤ 4398046511104) (h7 : x.epoch = 0) : lease_one_f x = some true := by
  obtain ⟨c, i, k, s, u, e⟩ := x
  simp only at h0 h1 h2 h3 h4 h5 h6 h7
  subst h4; subst h7
  exact one_eq h0 h1 h2 h3 h5 h6
theorem rightL_L {L : List Lease} (h : ∀ x ∈ L, lease_one_f x = some true ∧ x.span = whole) (hl : L.length ≤ 60) (hc : ∀ x ∈ L, ∀ y ∈ L, clB x.client x.ino x.kind y = false) : ∀ m k, L.length < m + k → k ≤ L.length → lease_Right_L1 L m (k : Int) = some true := by
  intro m
  induction m with
  | zero => intro k h1 h2; omega
  | succ m ih =>
    intro k h1 h2
    rw [lease_Right_L1, cond_d]
    by_cases hk : k < L.length
    · have hm := List.getElem_mem hk
      rw [if_pos (by omega), idx_nat hk, Option.bind_some, (h _ hm).1, Option.bind_some, Bool.not_true, cond_false, chk_pos ⟨by omega, by omega, by omega⟩]
      unfold slices_ContainsFunc_f slices_IndexFunc_f
      have hlen : ((L.take (k : Int).toNat).drop 0).length ≤ 1000 := by simp; omega
      have e := ixl_L (l := (L.take (k : Int).toNat).drop 0) (f := fun y0_ => lease_Right_1_f y0_ L[k]) (fun x hx => by
        have hx' : x ∈ L := List.mem_of_mem_take (List.mem_of_mem_drop hx)
        unfold lease_Right_1_f
        rw [clash_eq (h _ hm).2 (h _ hx').2, hc _ hx' _ hm, Option.bind_some]) hlen BIG 0 (by rw [BIG_eq]; omega) (by omega)
      have e' : slices_IndexFunc_L1 ((L.take (k : Int).toNat).drop 0) (fun y0_ => lease_Right_1_f y0_ L[k]) BIG 0 = some (-1) := e
      rw [e', Option.bind_some, show decide ((0 : Int) ≤ -1) = false by decide, Option.bind_some]
      unfold lease_Right_J2
      rw [cond_false, w64_succ (by omega)]
      exact ih (k + 1) (by omega) (by omega)
    · rw [if_neg (by omega)]; rfl
theorem rightL {L : List Lease} (h : LInv L) : lease_Right_f L = some true := by
  have hl := h.len
  unfold lease_Right_f
  rw [cond_d, if_neg (by omega)]
  refine rightL_L (fun x hx => ?_) (by omega) (fun x hx y hy => ?_) BIG 0 (by rw [BIG_eq]; omega) (by omega)
  · obtain ⟨h1, h2, h3, h4, h5, h6, h7⟩ := h.all x hx
    exact ⟨one_of (by omega) (by omega) (by omega) (.inl h2) h3 h5 (by omega) h7, h3⟩
  · unfold clB
    rw [(h.all x hx).1, (h.all y hy).1]; rfl
/-! ## the head -/
theorem ints_one (a b : Int) : ref02_Ints_f [a] [b] = some (a == b) := by
  unfold ref02_Ints_f
  obtain ⟨m, hm⟩ := big_add 2 (by omega)
  have i0 : idx [a] 0 = some a := rfl
  have j0 : idx [b] 0 = some b := rfl
  have w0 : IntKind.wrap .i64 (0 + 1) = 1 := by decide
  have l1 : (([a].length : Nat) : Int) = 1 := rfl
  have l2 : (([b].length : Nat) : Int) = 1 := rfl
  rw [hm]
  simp only [l1, l2, ref02_Ints_L1, ref02_Ints_J1, i0, j0, w0, Option.bind_some, show ((1 : Int) != 1) = false by decide, show decide ((0 : Int) < 1) = true by decide, show decide ((1 : Int) < 1) = false by decide, cond_true, cond_false]
  by_cases h : a = b
  · subst h; simp
  · have e : (a == b) = false := by simpa using h
    have e2 : (a != b) = true := by simpa using h
    rw [e, e2]; rfl
theorem head_true : top_head23_f = some true := by
  unfold top_head23_f
  have a1 : top_askR14_f [] 10 1 5 1 1 = some ([wants 1 5 1 13], true, []) := ask_had (by simp) (by simp) (by decide) (by decide) (by decide) (.inl rfl) (by decide) (by decide) (by decide) (by decide) rfl
  have w1 : ∀ x ∈ [wants 1 5 1 13], x.span = whole := fun x hx => by simp only [List.mem_singleton] at hx; subst hx; rfl
  have a2 : top_askR14_f [wants 1 5 1 13] 12 2 5 2 1 = some ([wants 1 5 1 13], false, [1]) :=
    ask_not (r := [1]) (L := [wants 1 5 1 13]) (now := 12) (c := 2) (ino := 5) (kind := 2) (n := 1) (by simp) w1 (by decide) (by decide) (by decide) (.inr rfl) (by decide) (by decide) (by decide) (once_one 1)
  have a3 : top_askR14_f [wants 1 5 1 13] 13 2 5 2 1 = some ([wants 2 5 2 16], true, []) :=
    ask_had (L := [wants 1 5 1 13]) (now := 13) (c := 2) (ino := 5) (kind := 2) (n := 1) (by simp) w1 (by decide) (by decide) (by decide) (.inr rfl) (by decide) (by decide) (by decide) (by decide) rfl
  rw [a1, Option.bind_some]
  simp only
  rw [a2, Option.bind_some, a3, Option.bind_some, page_nil, Option.bind_some, getp_one, Option.bind_some, getp_one, Option.bind_some]
  simp only [show ¬ ((1 : Int) ≤ 0) by decide, show ((1 : Int) ≤ 1) by decide, if_true, if_false, cond_true, Bool.not_false]
  rw [ints_one, Option.bind_some, bytes_one, Option.bind_some, Wait_eq (by decide) (by decide)]
  rfl
/-! ## the law -/
section
variable (R s c : Nat → Int)
def TT (i : Int) (L : List Lease) (u : Int) (fr : Prop) (j : Nat) : Prop := ∃ (k : Nat) (n : Int), k ≤ j ∧ 1 ≤ n ∧ n ≤ 64 ∧ u = c k + n ∧ ((U i L (s k + (n + 2)) ∧ fr) ∨ n + 1 ≤ R j - R k)
structure Inv (j : Nat) (p : PlaceR14) : Prop where
  P : Pl0 p
  K : p.k = [] ∨ ∃ d u e v, p.k = [k5 d u, k9 e v] ∧ TT R s c 5 p.l u (d = p.data) j ∧ TT R s c 9 p.l v (e = p.is) j
variable {R s c}
theorem TT.next {i : Int} {L : List Lease} {u : Int} {fr : Prop} {j : Nat} (h : TT R s c i L u fr j) (hR : R j ≤ R (j + 1)) : TT R s c i L u fr (j + 1) := by
  obtain ⟨k, n, h1, h2, h3, h4, h5⟩ := h
  exact ⟨k, n, by omega, h2, h3, h4, h5.imp_right fun h => by omega⟩
theorem Inv.next {j : Nat} {p : PlaceR14} (h : Inv R s c j p) (hR : R j ≤ R (j + 1)) : Inv R s c (j + 1) p := by
  refine ⟨h.P, h.K.imp_right ?_⟩
  rintro ⟨d, u, e, v, h1, h2, h3⟩
  exact ⟨d, u, e, v, h1, h2.next hR, h3.next hR⟩
theorem Inv.act {j : Nat} {p p' : PlaceR14} (h : Inv R s c j p) (hp : Pl0 p') (ha : Acted p p' (s j) (c j)) (hF : ∀ k, k < j → s j - s k ≤ mst (R j - R k)) : Inv R s c j p' := by
  refine ⟨hp, ?_⟩
  rcases ha with ⟨n, h1, h2, h3, h4, h5, h6, h7⟩ | ⟨h1, h2, h3, h4⟩ | h1
  · right
    exact ⟨_, _, _, _, h3, ⟨j, n, Nat.le_refl _, h1, h2, rfl, .inl ⟨h6, h4.symm⟩⟩, ⟨j, n, Nat.le_refl _, h1, h2, rfl, .inl ⟨h7, h5.symm⟩⟩⟩
  · rw [h1]
    refine h.K.imp_right ?_
    have key : ∀ (i u : Int) (fr fr' : Prop), TT R s c i p.l u fr j → (fr → fr' ∨ ∀ u, U i p.l u → u ≤ s j) → TT R s c i p'.l u fr' j := by
      rintro i u fr fr' ⟨k, n, g1, g2, g3, g4, g5⟩ hfr
      refine ⟨k, n, g1, g2, g3, g4, ?_⟩
      rcases g5 with ⟨g5, g6⟩ | g5
      · have late : s k + (n + 2) ≤ s j → n + 1 ≤ R j - R k := fun hle => by
          rcases Nat.lt_or_ge k j with hk | hk
          · exact waited (b := 0) g2 g3 (a := s j - s k) (by omega) (hF k hk)
          · obtain rfl : k = j := by omega
            omega
        rcases h2 i _ g5 with h5 | h5
        · rcases hfr g6 with h6 | h6
          · exact .inl ⟨h5, h6⟩
          · exact .inr (late (h6 _ g5))
        · exact .inr (late h5)
      · exact .inr g5
    rintro ⟨d, u, e, v, k1, k2, k3⟩
    refine ⟨d, u, e, v, k1, key _ _ _ _ k2 fun hd => ?_, key _ _ _ _ k3 fun he => ?_⟩
    · exact h3.imp_left fun h => by rw [h]; exact hd
    · exact h4.imp_left fun h => by rw [h]; exact he
  · exact .inl h1
theorem TT.told {i : Int} {L : List Lease} {u : Int} {fr : Prop} {j : Nat} (h : TT R s c i L u fr j) (hF : ∀ k, k < j → lst (R j - R k) ≤ c j - c k) (hu : ¬ u ≤ c j) : fr := by
  obtain ⟨k, n, h1, h2, h3, h4, ⟨_, h5⟩ | h5⟩ := h
  · exact h5
  · exfalso
    rcases Nat.lt_or_ge k j with hk | hk
    · have := hF k hk
      have := passed h2 h3 h5
      omega
    · obtain rfl : k = j := by omega
      omega
end
/-- what is asked of the cache behind an act -/
theorem told {R s c : Nat → Int} {j : Nat} {p : PlaceR14} (h : Inv R s c j p) (hF : ∀ k, k < j → lst (R j - R k) ≤ c j - c k) {cl : List Int} (hj : j < cl.length) (hcl : cl[j] = c j) {kk : PlaceR14 → Int → Option Bool}
    (hj2 : j < 100) (hk : kk p ((j + 1 : Nat) : Int) = some true) : top_TopCached_J5 kk cl (j : Int) p = some true := by
  unfold top_TopCached_J5
  rw [idx_nat hj, Option.bind_some, hcl]
  have hfin : top_TopCached_J6 kk p (j : Int) false = some true := by
    unfold top_TopCached_J6
    rw [cond_false, w64_succ (by omega)]; exact hk
  have d0 := h.P.d0
  have d1 := h.P.d1
  have wd : IntKind.wrap .u8 p.data = p.data := by show p.data % 256 = p.data; omega
  rw [rightL h.P.L, wd]
  simp only [Option.bind_some, Bool.not_true, cond_false]
  change ((cache_GetPage_f p.k 5 0 (c j)).bind fun r4 => (cache_GetName_f p.k 9 nmX (c j)).bind fun r5 => _) = _
  rcases h.K with hK | ⟨d, u, e, v, hK, t1, t2⟩
  · rw [hK, getp_nil, Option.bind_some, getn_nil, Option.bind_some, cright_nil]
    simp only [cond_false, Option.bind_some, Bool.not_true, hfin]
  · rw [hK, getp_two, Option.bind_some, getn_two, Option.bind_some, cright_two]
    simp only [Option.bind_some, Bool.not_true]
    by_cases hu : u ≤ c j
    · rw [if_pos hu]
      simp only [cond_false]
      by_cases hv : v ≤ c j
      · rw [if_pos hv]; simp only [cond_false, hfin]
      · rw [if_neg hv]
        have he := t2.told hF hv
        subst he
        simp only [cond_true, bne_self_eq_false, cond_false, hfin]
    · rw [if_neg hu]
      have hd := t1.told hF hu
      subst hd
      simp only [cond_true]
      rw [bytes_one, Option.bind_some]
      simp only [beq_self_eq_true, Bool.not_true, cond_false]
      by_cases hv : v ≤ c j
      · rw [if_pos hv]; simp only [cond_false, hfin]
      · rw [if_neg hv]
        have he := t2.told hF hv
        subst he
        simp only [cond_true, bne_self_eq_false, cond_false, hfin]
theorem loop {R s c : List Int} (hR : Reals R) (hs : Out s) (hc : Out c) (hsl : s.length = R.length) (hcl : c.length = R.length) (fs : Fit R s) (fc : Fit R c) {acts : List ActR14} (ha : ∀ a ∈ acts, ActR14.ok a) :
    ∀ m (p : PlaceR14) i, R.length < m + i → i ≤ R.length → (i < R.length → Inv (R.getD · 0) (s.getD · 0) (c.getD · 0) i p) → top_TopCached_L1 R acts s c true m p (i : Int) = some true := by
  have hb15 := hR.1
  have gR : ∀ k (hk : k < R.length), R.getD k 0 = R[k] := fun k hk => by rw [List.getD_eq_getElem?_getD, List.getElem?_eq_getElem hk]; rfl
  have gs : ∀ k (hk : k < s.length), s.getD k 0 = s[k] := fun k hk => by rw [List.getD_eq_getElem?_getD, List.getElem?_eq_getElem hk]; rfl
  have gc : ∀ k (hk : k < c.length), c.getD k 0 = c[k] := fun k hk => by rw [List.getD_eq_getElem?_getD, List.getElem?_eq_getElem hk]; rfl
  intro m
  induction m with
  | zero => intro p i h1 h2; omega
  | succ m ih =>
    intro p i h1 h2 hI
    rw [top_TopCached_L1, cond_d]
    by_cases hi : i < R.length
    · have hI := hI hi
      rw [if_pos (by omega), cond_d]
      have FS : ∀ k, k < i → s.getD i 0 - s.getD k 0 ≤ mst (R.getD i 0 - R.getD k 0) := fun k hk => by
        rw [gs i (by omega), gs k (by omega), gR i hi, gR k (by omega)]
        exact (fs k i (by omega) hi (by omega) (by omega) hk).2
      have FC : ∀ k, k < i → lst (R.getD i 0 - R.getD k 0) ≤ c.getD i 0 - c.getD k 0 := fun k hk => by
        rw [gc i (by omega), gc k (by omega), gR i hi, gR k (by omega)]
        exact (fc k i (by omega) hi (by omega) (by omega) hk).1
      have fin : ∀ q, Inv (R.getD · 0) (s.getD · 0) (c.getD · 0) i q → top_TopCached_J5 (top_TopCached_L1 R acts s c true m) c (i : Int) q = some true := fun q hq =>
        told hq FC (show i < c.length by omega) (gc i (by omega)).symm (by omega) (ih q (i + 1) (by omega) (by omega) fun hi1 => hq.next (by
          show R.getD i 0 ≤ R.getD (i + 1) 0
          rw [gR i hi, gR (i + 1) hi1]
          exact hR.2.2 i (i + 1) hi hi1 (by omega)))
      by_cases hia : i < acts.length
      · have hok := ha _ (List.getElem_mem hia)
        have h3 := hs i (by omega)
        have h4 := hc i (by omega)
        rw [if_pos (by omega), idx_nat hia, Option.bind_some, idx_nat (show i < s.length by omega), Option.bind_some, idx_nat (show i < c.length by omega), Option.bind_some]
        obtain ⟨p', e, hp, hact⟩ := did hI.P (a := acts[i]) hok.1 hok.2 (s := s[i]) (c := c[i]) (by omega) (by omega) (by omega) (by omega)
        rw [e, Option.bind_some]
        refine fin p' (hI.act hp ?_ FS)
        rw [gs i (by omega), gc i (by omega)]; exact hact
      · rw [if_neg (by omega)]
        exact fin p hI
    · rw [if_neg (by omega)]; rfl
theorem place0 : Pl0 ⟨[], 0, 0, []⟩ := ⟨⟨(fun x hx => absurd hx (by simp)), List.Pairwise.nil⟩, by decide, by decide, .inl rfl, .inl rfl⟩
theorem cached_J2 {R P Q : List Int} (hR : Reals R) (hP : ∀ x ∈ P, okI .u16 x) (hQ : ∀ x ∈ Q, okI .u16 x) {acts : List ActR14} (ha : ∀ a ∈ acts, ActR14.ok a) : top_TopCached_J2 P Q true acts R = some true := by
  unfold top_TopCached_J2
  obtain ⟨s, e1, hsl, hs⟩ := shows_eq hR hP
  obtain ⟨c, e2, hcl, hc⟩ := shows_eq hR hQ
  rw [e1, Option.bind_some, e2, Option.bind_some]
  obtain ⟨b1, e3, f1⟩ := right_eq hR hs hsl
  obtain ⟨b2, e4, f2⟩ := right_eq hR hc hcl
  rw [e3, Option.bind_some]
  cases b1 with
  | false =>
    rw [Bool.not_false, cond_true]
    unfold top_TopCached_J3; rfl
  | true =>
    rw [Bool.not_true, cond_false, e4, Option.bind_some]
    cases b2 with
    | false => unfold top_TopCached_J3; rfl
    | true =>
      have x1 : ((s.length : Int) != (R.length : Int)) = false := by rw [hsl]; simp
      have x2 : ((c.length : Int) != (R.length : Int)) = false := by rw [hcl]; simp
      rw [x1, x2]
      unfold top_TopCached_J3
      simp only [Bool.not_true, Bool.or_self, cond_false]
      exact loop hR hs hc hsl hcl (f1 rfl) (f2 rfl) ha BIG _ 0 (by have := hR.1; rw [BIG_eq]; omega) (by omega) fun _ => ⟨place0, .inl rfl⟩
/-- times as gaps make them -/
def Good (l : List Int) : Prop := (∀ (i : Nat) (hi : i < l.length), 0 ≤ l[i] ∧ l[i] ≤ 100 * (i : Int)) ∧ ∀ (i j : Nat) (hi : i < l.length) (hj : j < l.length), i ≤ j → l[i] ≤ l[j]
theorem Good.snoc {l : List Int} (h : Good l) {k : Nat} (hk : l.length = k + 1) {g : Int} (h0 : 0 ≤ g) (h1 : g ≤ 100) : Good (l ++ [l[k] + g]) := by
  have hkk := h.1 k (by omega)
  refine ⟨fun i hi => ?_, fun i j hi hj hij => ?_⟩
  · simp at hi
    by_cases e : i < l.length
    · rw [List.getElem_append_left e]; exact h.1 i e
    · have : i = l.length := by omega
      subst this
      simp; omega
  · simp at hi hj
    by_cases e : j < l.length
    · rw [List.getElem_append_left e, List.getElem_append_left (by omega)]; exact h.2 i j (by omega) e hij
    · have : j = l.length := by omega
      subst this
      by_cases e2 : i < l.length
      · rw [List.getElem_append_left e2]
        have := h.2 i k e2 (by omega) (by omega)
        simp; omega
      · have : i = l.length := by omega
        subst this
        exact Int.le_refl _
theorem cached_L2 {G P Q : List Int} (hG : ∀ x ∈ G, okI .u16 x) (hGl : G.length ≤ 14) (hP : ∀ x ∈ P, okI .u16 x) (hQ : ∀ x ∈ Q, okI .u16 x) {acts : List ActR14} (ha : ∀ a ∈ acts, ActR14.ok a) :
    ∀ m (R : List Int) k, G.length < m + k → k ≤ G.length → R.length = k + 1 → Good R → top_TopCached_L2 G P Q true acts m R (k : Int) = some true := by
  intro m
  induction m with
  | zero => intro R k h1 h2; omega
  | succ m ih =>
    intro R k h1 h2 h3 h4
    rw [top_TopCached_L2, cond_d]
    by_cases hk : k < G.length
    · have hg : 0 ≤ G[k] ∧ G[k] < 65536 := hG _ (List.getElem_mem hk)
      have hr := h4.1 k (by omega)
      rw [if_pos (by omega), idx_nat (show k < R.length by omega), Option.bind_some, idx_nat hk, Option.bind_some, chk_pos (by omega), w64 (x := G[k]) (by omega) (by omega),
        Int.tmod_eq_emod_of_nonneg hg.1, w64 (by omega) (by omega), w64_succ (by omega)]
      exact ih _ (k + 1) (by omega) (by omega) (by simp; omega) (h4.snoc h3 (by omega) (by omega))
    · rw [if_neg (by omega)]
      refine cached_J2 ⟨by omega, fun x hx => ?_, h4.2⟩ hP hQ ha
      obtain ⟨i, hi, rfl⟩ := List.mem_iff_getElem.1 hx
      have := h4.1 i hi
      omega
theorem TopCached_true (y0 : List Int) (o0 : ∀ y22 ∈ y0, okI .u16 y22) (y1 : List Int) (o1 : ∀ y22 ∈ y1, okI .u16 y22) (y2 : List Int) (o2 : ∀ y22 ∈ y2, okI .u16 y22) (y3 : List ActR14) (o3 : ∀ y23 ∈ y3, ActR14.ok y23) : top_TopCached_f y0 y1 y2 y3 = some true := by
  unfold top_TopCached_f
  rw [head_true, Option.bind_some]
  unfold top_TopCached_J1
  by_cases h : ((y0.length : Int) == 0 || decide (14 < (y0.length : Int))) = true
  · rw [h]; rfl
  · rw [Bool.not_eq_true] at h
    rw [h, cond_false]
    simp only [Bool.or_eq_false_iff, beq_eq_false_iff_ne, decide_eq_false_iff_not] at h
    refine cached_L2 o0 (by omega) o1 o2 o3 BIG [0] 0 (by rw [BIG_eq]; omega) (by omega) rfl ⟨fun i hi => ?_, fun i j hi hj _ => ?_⟩
    · simp at hi; subst hi; simp
    · simp at hi hj; subst hi; subst hj; exact Int.le_refl _
end Go.Proofs.Ytogickapcbibbaa
