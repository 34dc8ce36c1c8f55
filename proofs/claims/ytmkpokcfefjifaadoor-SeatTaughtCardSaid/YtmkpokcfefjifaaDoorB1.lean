import Derived.Test.YtmkpokcfefjifaaDoorA2
set_option linter.unusedSectionVars false
/- Descriptions of a state may be turned: other numbers for its blocks, some of them frozen, what is dead forgotten. No program here. -/
namespace Go.Ab
open Go.RowKit
variable [Lay]

/-- what a value's description becomes; ren: a new number's old one; vt: new numbers of empty blocks without memory; fr: blocks (by old numbers) frozen from here on -/
inductive RN (h : Nat → Option Blk) (ren : Nat → Option Nat) (vt fr : Nat → Prop) : Dat → Dat → Prop
  | bool (b : Bool) : RN h ren vt fr (.bool b) (.bool b)
  | int (k : IntKind) (n : Int) : RN h ren vt fr (.int k n) (.int k n)
  | str (s : ByteArray) : RN h ren vt fr (.str s) (.str s)
  | oth (v : Value) : RN h ren vt fr (.oth v) (.oth v)
  | agg (cs ds : List Dat) (hl : cs.length = ds.length) (H : ∀ (i : Nat) c d, cs[i]? = some c → ds[i]? = some d → RN h ren vt fr c d) : RN h ren vt fr (.agg cs) (.agg ds)
  | tup (cs ds : List Dat) (hl : cs.length = ds.length) (H : ∀ (i : Nat) c d, cs[i]? = some c → ds[i]? = some d → RN h ren vt fr c d) : RN h ren vt fr (.tup cs) (.tup ds)
  | nil (st : Nat) : RN h ren vt fr .nil (.list st [])
  | nil' : RN h ren vt fr .nil .nil
  | nilv (j st : Nat) (hr : ren j = none) (hv : vt j) : RN h ren vt fr .nil (.ref j 0 0 st)
  | list (st : Nat) (es fs : List (List Dat)) (hl : es.length = fs.length) (hll : ∀ (i : Nat) e f, es[i]? = some e → fs[i]? = some f → e.length = f.length)
      (H : ∀ (i : Nat) e f, es[i]? = some e → fs[i]? = some f → ∀ (j : Nat) c d, e[j]? = some c → f[j]? = some d → RN h ren vt fr c d) : RN h ren vt fr (.list st es) (.list st fs)
  | ref (i j off len st : Nat) (hr : ren j = some i) : RN h ren vt fr (.ref i off len st) (.ref j off len st)
  | frz (i off len st : Nat) (B : Blk) (fs : List (List Dat)) (hB : h i = some B) (hz : fr i) (hst : B.st = st) (hle : off + len ≤ B.es.length) (hl : fs.length = len)
      (hll : ∀ (k : Nat) e f, B.es[off + k]? = some e → fs[k]? = some f → e.length = f.length)
      (H : ∀ (k : Nat) e f, B.es[off + k]? = some e → fs[k]? = some f → ∀ (j : Nat) c d, e[j]? = some c → f[j]? = some d → RN h ren vt fr c d) : RN h ren vt fr (.ref i off len st) (.list st fs)
  | ptr (i j k o st : Nat) (hr : ren j = some i) : RN h ren vt fr (.ptr i k o st) (.ptr j k o st)
  | rop (cs ds : List Dat) (j st : Nat) (hl : cs.length = ds.length) (H : ∀ (i : Nat) c d, cs[i]? = some c → ds[i]? = some d → RN h ren vt fr c d) : RN h ren vt fr (.rop cs j st) (.rop ds j st)
  | pbox (i k j st : Nat) (B : Blk) (ds : List Dat) (hB : h i = some B) (hz : fr i) (hst : B.st = st) (hk : k < B.es.length) (hl : (B.es.getD k []).length = ds.length)
      (H : ∀ (q : Nat) c d, (B.es.getD k [])[q]? = some c → ds[q]? = some d → RN h ren vt fr c d) : RN h ren vt fr (.ptr i k j st) (.rop ds j st)
  | fn (f : Fn) (a b a' b' : List Dat) (h1 : a.length = a'.length) (h2 : b.length = b'.length) (H1 : ∀ (i : Nat) c d, a[i]? = some c → a'[i]? = some d → RN h ren vt fr c d)
      (H2 : ∀ (i : Nat) c d, b[i]? = some c → b'[i]? = some d → RN h ren vt fr c d) : RN h ren vt fr (.fn f a b) (.fn f a' b')
def RNs (h : Nat → Option Blk) (ren : Nat → Option Nat) (vt fr : Nat → Prop) (cs ds : List Dat) : Prop := cs.length = ds.length ∧ ∀ (i : Nat) c d, cs[i]? = some c → ds[i]? = some d → RN h ren vt fr c d

theorem RN.rv {h : Nat → Option Blk} {ren : Nat → Option Nat} {vt fr : Nat → Prop} {d r : Dat} (hp : RN h ren vt fr d r) {X : Cx} {S : Nat → Prop} {n : Nat} {w : World} {φ φ' : Pl} {D D2 : Nat → Prop} (H : HS X S h n w φ D) (hD : ∀ b, D b → D2 b)
    (hr : ∀ j i, ren j = some i → φ' j = φ i) (hvt : ∀ j, ren j = none → vt j → φ' j = some none)
    (hL : ∀ i B g, h i = some B → fr i → φ i = some (some g) → D2 g) : ∀ {v : Value}, RV φ D w v d → RV φ' D2 w v r := by
  induction hp with
  | bool b => intro v hv; rw [hv.bool_inv]; exact .bool b
  | int k n => intro v hv; rw [hv.int_inv]; exact .int k n
  | str s => intro v hv; rw [hv.str_inv]; exact .str s
  | oth u => intro v hv; rw [hv.oth_inv]; exact .oth u
  | agg cs ds hl _ ih =>
    intro v hv
    obtain ⟨vs, rfl, hvs⟩ := hv.agg_inv
    refine .agg vs ds (hvs.1.trans hl) fun i c d hc hd => ?_
    have hi : i < cs.length := by rw [hl]; exact (List.getElem?_eq_some_iff.1 hd).1
    exact ih i _ d (List.getElem?_eq_getElem hi) hd (hvs.2 i c _ hc (List.getElem?_eq_getElem hi))
  | tup cs ds hl _ ih =>
    intro v hv
    obtain ⟨vs, rfl, hvs⟩ := hv.tup_inv
    refine .tup vs ds (hvs.1.trans hl) fun i c d hc hd => ?_
    have hi : i < cs.length := by rw [hl]; exact (List.getElem?_eq_some_iff.1 hd).1
    exact ih i _ d (List.getElem?_eq_getElem hi) hd (hvs.2 i c _ hc (List.getElem?_eq_getElem hi))
  | nil st => intro v hv; rw [hv.nil_inv]; exact .list0 none 0 st (Nat.zero_le _)
  | nil' => intro v hv; rw [hv.nil_inv]; exact .nil
  | nilv j st hj hv' => intro v hv; rw [hv.nil_inv]; exact .refv j st (hvt j hj hv')
  | list st es fs hl hll _ ih =>
    intro v hv
    obtain ⟨A, c, rfl, h1, h2, h3⟩ := hv.list_inv
    refine RV.list_mk hl (by omega) h2 fun i f hf => ?_
    have hi : i < es.length := by rw [hl]; exact (List.getElem?_eq_some_iff.1 hf).1
    obtain ⟨b, o, cs, rfl, q1, q2, q3, q4, q5, q6⟩ := h3 i _ (List.getElem?_eq_getElem hi)
    refine ⟨b, o, cs, rfl, hD b q1, q2, q3, q4, q5, ?_, fun j c d hc hd => ?_⟩
    · rw [q6.1]; exact hll i _ f (List.getElem?_eq_getElem hi) hf
    · have hj : j < (es[i]).length := by rw [← q6.1]; exact (List.getElem?_eq_some_iff.1 hc).1
      exact ih i _ f (List.getElem?_eq_getElem hi) hf j _ d (List.getElem?_eq_getElem hj) hd (q6.2 j c _ hc (List.getElem?_eq_getElem hj))
  | ref i j off len st hj =>
    intro v hv
    cases hv with
    | ref0 _ _ _ A h0 => exact .ref0 j off st A h0
    | refv _ _ hφ => exact .refv j st (by rw [hr j i hj, hφ])
    | ref _ g _ _ c _ hφ hlc hc hsz => exact .ref j g off len c st (by rw [hr j i hj, hφ]) hlc hc hsz
  | frz i off len st B fs hB hz hst hle hl hll _ ih =>
    intro v hv
    cases hv with
    | ref0 _ _ _ A h0 =>
      have : fs = [] := List.eq_nil_of_length_eq_zero hl
      subst this
      exact .list0 A 0 st (Nat.zero_le _)
    | refv _ _ hφ =>
      have : fs = [] := List.eq_nil_of_length_eq_zero hl
      subst this
      exact .list0 none 0 st (Nat.zero_le _)
    | ref _ g _ _ c _ hφ hlc hc hsz =>
      have hlies : Lies φ D w g B := by
        rcases H.live i B hB with ⟨q, _⟩ | ⟨g', q, q2, _⟩
        · rw [hφ] at q; cases q
        · rw [hφ] at q; injection q with q; injection q with q; subst q; exact q2
      refine RV.list_mk hl.symm (by omega) hc fun k f hf => ?_
      have hk : k < fs.length := (List.getElem?_eq_some_iff.1 hf).1
      have hok : off + k < B.es.length := by omega
      obtain ⟨cs, q1, q2, q3, q4⟩ := hlies.el hok
      have he : B.es[off + k]? = some (B.es.getD (off + k) []) := by rw [List.getD_eq_getElem?_getD, List.getElem?_eq_getElem hok]; rfl
      refine ⟨g, off * st, cs, rfl, hL i B g hB hz hφ, hlies.lt, ?_, by rw [q2, hst], q3, ?_, fun j c d hc hd => ?_⟩
      · rw [hst, Nat.add_mul] at q1; exact q1
      · rw [q4.1]; exact hll k _ f he hf
      · have hj : j < (B.es.getD (off + k) []).length := by rw [← q4.1]; exact (List.getElem?_eq_some_iff.1 hc).1
        exact ih k _ f he hf j _ d (List.getElem?_eq_getElem hj) hd (q4.2 j c _ hc (List.getElem?_eq_getElem hj))
  | ptr i j k o st hj =>
    intro v hv
    cases hv with
    | ptr _ g _ _ _ hφ => exact .ptr j g k o st (by rw [hr j i hj, hφ])
  | rop cs ds j st hl _ ih =>
    intro v hv
    obtain ⟨b, o, vs, rfl, q1, q2, q3, q4, q5, q6⟩ := hv.rop_inv
    refine .rop b o j st ds vs (q6.1.trans hl) q1 (hD b q2) q3 q4 q5 fun i c d hc hd => ?_
    have hi : i < cs.length := by rw [hl]; exact (List.getElem?_eq_some_iff.1 hd).1
    exact ih i _ d (List.getElem?_eq_getElem hi) hd (q6.2 i c _ hc (List.getElem?_eq_getElem hi))
  | pbox i k j st B ds hB hz hst hk hl _ ih =>
    intro v hv
    obtain ⟨g, hφ, rfl⟩ := hv.ptr_inv
    have hlies : Lies φ D w g B := by
      rcases H.live i B hB with ⟨q, _⟩ | ⟨g', q, q2, _⟩
      · rw [hφ] at q; cases q
      · rw [hφ] at q; injection q with q; injection q with q; subst q; exact q2
    obtain ⟨vs, q1, q2, q3, q4⟩ := hlies.el hk
    rw [hst] at q1
    refine .rop g (k * st) j st ds vs (q4.1.trans hl) (q2.trans hst) (hL i B g hB hz hφ) hlies.lt q1 q3 fun q c d hc hd => ?_
    have hq : q < (B.es.getD k []).length := by rw [hl]; exact (List.getElem?_eq_some_iff.1 hd).1
    exact ih q _ d (List.getElem?_eq_getElem hq) hd (q4.2 q c _ hc (List.getElem?_eq_getElem hq))
  | fn f a b a' b' h1 h2 _ _ ih1 ih2 =>
    intro v hv
    obtain ⟨c1, c2, rfl, k1, k2⟩ := hv.fn_inv
    refine .fn f c1 c2 a' b' (k1.1.trans h1) (k2.1.trans h2) (fun i c d hc hd => ?_) (fun i c d hc hd => ?_)
    · have hi : i < a.length := by rw [h1]; exact (List.getElem?_eq_some_iff.1 hd).1
      exact ih1 i _ d (List.getElem?_eq_getElem hi) hd (k1.2 i c _ hc (List.getElem?_eq_getElem hi))
    · have hi : i < b.length := by rw [h2]; exact (List.getElem?_eq_some_iff.1 hd).1
      exact ih2 i _ d (List.getElem?_eq_getElem hi) hd (k2.2 i c _ hc (List.getElem?_eq_getElem hi))

/-- what is asked of a new heap -/
structure Re (h : Nat → Option Blk) (ren : Nat → Option Nat) (vt fr : Nat → Prop) (h' : Nat → Option Blk) (n0 n' : Nat) : Prop where
  blk : ∀ j B', h' j = some B' → (ren j = none ∧ vt j ∧ B'.es = []) ∨ ∃ i B, ren j = some i ∧ h i = some B ∧ B'.e = B.e ∧ B'.st = B.st ∧ B'.fz = B.fz ∧ ¬ fr i ∧
      B'.es.length = B.es.length ∧ ∀ (k : Nat) e f, B.es[k]? = some e → B'.es[k]? = some f → RNs h ren vt fr e f
  inj : ∀ j k i, ren j = some i → ren k = some i → j = k

  low : ∀ i, i < n0 → ren i = some i
  top : ∀ j, n' ≤ j → ren j = none ∧ ¬ vt j

/-- from the one description of a state to any of those of R -/
def WkS (n0 : Nat) (σ : St) (R : St → Prop) : Prop :=
  ∀ (X : Cx), (∀ i, n0 ≤ i → X.p0 i = none) → ∀ a w φ D, Sim X S0 σ a w φ D → ∃ σ' φ' D', R σ' ∧ Sim X S0 σ' a w φ' D'

theorem wk_mk {n0 n n' nt : Nat} {t : Nat → Dat} {h h' : Nat → Option Blk} {ren : Nat → Option Nat} {vt fr : Nat → Prop} {R : St → Prop} (L : List (Nat × Dat)) (hnd : (L.map (·.1)).Nodup) (re : Re h ren vt fr h' n0 n')
    (hL : ∀ p ∈ L, RN h ren vt fr (t p.1) p.2) (hR : ∀ t', (∀ p ∈ L, t' p.1 = p.2) → R ⟨t', h', n', nt⟩) : WkS n0 ⟨t, h, n, nt⟩ R := by
  classical
  intro X hX a w φ D hs
  have H := hs.hs
  let φ' : Pl := fun j => match ren j with | some i => φ i | none => if vt j then some none else none
  let D' : Nat → Prop := fun b => D b ∨ ∃ i B, h i = some B ∧ fr i ∧ φ i = some (some b)
  have hr : ∀ j i, ren j = some i → φ' j = φ i := fun j i e => by simp only [φ', e]
  have hvt : ∀ j, ren j = none → vt j → φ' j = some none := fun j e hv => by simp only [φ', e, hv, if_true]
  have hD : ∀ b, D b → D' b := fun b h => .inl h
  have hfr : ∀ i B g, h i = some B → fr i → φ i = some (some g) → D' g := fun i B g h1 h2 h3 => .inr ⟨i, B, h1, h2, h3⟩
  have rv : ∀ {v d d'}, RN h ren vt fr d d' → RV φ D w v d → RV φ' D' w v d' := fun hp hv => hp.rv H hD hr hvt hfr hv
  -- the new number of a dead one's value is not told
  let t' : Nat → Dat := fun i => match L.find? (fun p => p.1 == i) with | some p => p.2 | none => .oth (a.tmps.getD i undef)
  have hnew : ∀ b, D' b → ¬ D b → (X.L0 b ∨ X.w0.heap.size ≤ b) ∧ b < w.heap.size := fun b hb hn => by
    rcases hb with hb | ⟨i, B, h1, h2, h3⟩
    · exact absurd hb hn
    · rcases H.live i B h1 with ⟨q, _⟩ | ⟨g, q, q2, q3, q4⟩
      · rw [h3] at q; cases q
      · rw [h3] at q; injection q with q; injection q with q; subst q
        cases hfz : B.fz with
        | true => exact absurd (q3 hfz) hn
        | false => exact ⟨(q4 hfz).2, q2.lt⟩
  have uniq : ∀ i B g, h i = some B → B.fz = false → φ i = some (some g) → ¬ fr i → ¬ D' g := fun i B g h1 h2 h3 h4 hd => by
    rcases hd with hd | ⟨k, C, k1, k2, k3⟩
    · rcases H.live i B h1 with ⟨q, _⟩ | ⟨g', q, _, _, q4⟩
      · rw [h3] at q; cases q
      · rw [h3] at q; injection q with q; injection q with q; subst q; exact (q4 h2).1 hd
    · have := H.inj i k B C g h1 k1 h3 k3 h2
      subst this; exact h4 k2
  have hs' : HS X S0 h' n' w φ' D' := {
    live := fun j B' hj => by
      rcases re.blk j B' hj with ⟨e, hv, he⟩ | ⟨i, B, e, hi, e1, e2, e3, hnf, hlen, hel⟩
      · exact .inl ⟨hvt j e hv, he⟩
      · rcases H.live i B hi with ⟨q, q2⟩ | ⟨g, q, q2, q3, q4⟩
        · refine .inl ⟨by rw [hr j i e, q], ?_⟩
          rw [q2] at hlen
          exact List.eq_nil_of_length_eq_zero hlen
        · refine .inr ⟨g, by rw [hr j i e, q], ?_, fun hf => hD g (q3 (by rw [← e3]; exact hf)), fun hf => ?_⟩
          · obtain ⟨arr, a1, a2, a3⟩ := q2
            refine ⟨arr, by rw [e1]; exact a1, by rw [hlen, e2]; exact a2, fun k f hf => ?_⟩
            have hk : k < B.es.length := by rw [← hlen]; exact (List.getElem?_eq_some_iff.1 hf).1
            have he := List.getElem?_eq_getElem hk
            have hrn := hel k _ f he hf
            obtain ⟨b1, b2⟩ := a3 k _ he
            refine ⟨by rw [← hrn.1, b1, e2], fun q d hd => ?_⟩
            have hq : q < (B.es[k]).length := by rw [hrn.1]; exact (List.getElem?_eq_some_iff.1 hd).1
            obtain ⟨v, v1, v2, v3⟩ := b2 q _ (List.getElem?_eq_getElem hq)
            exact ⟨v, by rw [e2]; exact v1, v2, rv (hrn.2 q _ d (List.getElem?_eq_getElem hq) hd) v3⟩
          · rw [e3] at hf
            exact ⟨uniq i B g hi hf q hnf, (q4 hf).2⟩
    inj := fun j k B C g hj hk pj pk hf => by
      rcases re.blk j B hj with ⟨e, hv, he⟩ | ⟨i, B0, e, hi, e1, e2, e3, hnf, _⟩
      · rw [hvt j e hv] at pj; cases pj
      · rcases re.blk k C hk with ⟨e', hv', he'⟩ | ⟨i', B1, e', hi', _⟩
        · rw [hvt k e' hv'] at pk; cases pk
        · rw [hr j i e] at pj; rw [hr k i' e'] at pk
          have := H.inj i i' B0 B1 g hi hi' pj pk (by rw [← e3]; exact hf)
          subst this
          exact re.inj j k i e e'
    fresh := fun j hj _ => by
      obtain ⟨e, hv⟩ := re.top j hj
      simp only [φ', e, if_neg hv]
    Dlt := fun b hb => by
      by_cases hd : D b
      · exact H.Dlt b hd
      · exact (hnew b hb hd).2
    Dsub := fun b hb => by
      by_cases hd : D b
      · exact H.Dsub b hd
      · exact .inr (hnew b hb hd).1
    Dsup := fun b hb => hD b (H.Dsup b hb)
    psup := fun i x hx => by
      have hi : i < n0 := by
        rcases Nat.lt_or_ge i n0 with h1 | h1
        · exact h1
        · rw [hX i h1] at hx; cases hx
      rw [hr i i (re.low i hi)]
      exact H.psup i x hx
    fr := H.fr
    fin := ⟨n', fun k hk => by obtain ⟨e, hv⟩ := re.top k hk; simp only [φ', e, if_neg hv]⟩
    gp := Lay.gpk H.gp (Ext.refl _ _) (fun b h _ => hD b h) }
  have key : ∀ t' : Nat → Dat, (∀ i, RV φ' D' w (a.tmps.getD i undef) (t' i)) → Sim X S0 ⟨t', h', n', nt⟩ a w φ' D' := fun t' ht => { nt := hs.nt, df := hs.df, tm := ht, hs := hs' }
  have hfind : ∀ (L : List (Nat × Dat)), (L.map (·.1)).Nodup → ∀ p ∈ L, L.find? (fun q => q.1 == p.1) = some p := by
    intro L
    induction L with
    | nil => intro _ p hp; cases hp
    | cons q L ih =>
      intro hn p hp
      simp only [List.map_cons, List.nodup_cons] at hn
      rcases List.mem_cons.1 hp with e | hp
      · subst e; simp
      · have hne : q.1 ≠ p.1 := fun e => hn.1 (by rw [e]; exact List.mem_map_of_mem hp)
        rw [List.find?_cons_of_neg (by simpa using hne)]
        exact ih hn.2 p hp
  have hcons : ∀ p ∈ L, t' p.1 = p.2 := fun p hp => by simp only [t', hfind L hnd p hp]
  refine ⟨_, φ', D', hR t' hcons, key t' fun i => ?_⟩
  show RV φ' D' w (a.tmps.getD i undef) (t' i)
  simp only [t']
  cases hq : L.find? (fun p => p.1 == i) with
  | none => exact .oth _
  | some p =>
    have h1 : p.1 = i := by simpa using List.find?_some hq
    have h2 := List.mem_of_find?_eq_some hq
    rw [← h1]
    exact rv (hL p h2) (hs.tm p.1)
end Go.Ab
