/- DERIVED. A call's contract in plain values, its use, and its proof out of the body. No program here. -/
import Derived.Test.YtogickapcbibbaaA11
namespace Go.Ab
open Go.RowKit

/-- what a value is, its blocks read as plain rows (fz: frozen blocks alone) -/
inductive PurR (h : Nat → Option Blk) (fz : Bool) : Dat → Dat → Prop where
  | bool (b : Bool) : PurR h fz (.bool b) (.bool b)
  | int (k : IntKind) (n : Int) : PurR h fz (.int k n) (.int k n)
  | str (s : ByteArray) : PurR h fz (.str s) (.str s)
  | oth (v : Value) : PurR h fz (.oth v) (.oth v)
  | agg (cs ds : List Dat) (hl : cs.length = ds.length) (H : ∀ (i : Nat) c d, cs[i]? = some c → ds[i]? = some d → PurR h fz c d) : PurR h fz (.agg cs) (.agg ds)
  | tup (cs ds : List Dat) (hl : cs.length = ds.length) (H : ∀ (i : Nat) c d, cs[i]? = some c → ds[i]? = some d → PurR h fz c d) : PurR h fz (.tup cs) (.tup ds)
  | nil (st : Nat) : PurR h fz .nil (.list st [])
  | nil' : PurR h fz .nil .nil
  | list (st : Nat) (es fs : List (List Dat)) (hl : es.length = fs.length) (hll : ∀ (i : Nat) e f, es[i]? = some e → fs[i]? = some f → e.length = f.length)
      (H : ∀ (i : Nat) e f, es[i]? = some e → fs[i]? = some f → ∀ (j : Nat) c d, e[j]? = some c → f[j]? = some d → PurR h fz c d) : PurR h fz (.list st es) (.list st fs)
  | ref (i off len st : Nat) (B : Blk) (fs : List (List Dat)) (hB : h i = some B) (hz : fz = true → B.fz = true) (hst : B.st = st) (hle : off + len ≤ B.es.length) (hl : fs.length = len)
      (hll : ∀ (k : Nat) e f, B.es[off + k]? = some e → fs[k]? = some f → e.length = f.length)
      (H : ∀ (k : Nat) e f, B.es[off + k]? = some e → fs[k]? = some f → ∀ (j : Nat) c d, e[j]? = some c → f[j]? = some d → PurR h fz c d) : PurR h fz (.ref i off len st) (.list st fs)
  | rop (cs ds : List Dat) (j st : Nat) (hl : cs.length = ds.length) (H : ∀ (i : Nat) c d, cs[i]? = some c → ds[i]? = some d → PurR h fz c d) : PurR h fz (.rop cs j st) (.rop ds j st)
  | ptr (i k j st : Nat) (B : Blk) (ds : List Dat) (hB : h i = some B) (hz : fz = true → B.fz = true) (hst : B.st = st) (hk : k < B.es.length) (hl : (B.es.getD k []).length = ds.length)
      (H : ∀ (q : Nat) c d, (B.es.getD k [])[q]? = some c → ds[q]? = some d → PurR h fz c d) : PurR h fz (.ptr i k j st) (.rop ds j st)
  | fn (f : Fn) (a b a' b' : List Dat) (h1 : a.length = a'.length) (h2 : b.length = b'.length) (H1 : ∀ (i : Nat) c d, a[i]? = some c → a'[i]? = some d → PurR h fz c d)
      (H2 : ∀ (i : Nat) c d, b[i]? = some c → b'[i]? = some d → PurR h fz c d) : PurR h fz (.fn f a b) (.fn f a' b')

def PurRs (h : Nat → Option Blk) (fz : Bool) (cs ds : List Dat) : Prop := cs.length = ds.length ∧ ∀ (i : Nat) c d, cs[i]? = some c → ds[i]? = some d → PurR h fz c d

abbrev NP : Pl := fun _ => none
theorem NP_le (φ : Pl) : PlLe NP φ := fun _ _ h => by cases h

theorem PurR.rv {h : Nat → Option Blk} {fz : Bool} {d r : Dat} (hp : PurR h fz d r) {X : Cx} {S : Nat → Prop} {n : Nat} {w : World} {φ : Pl} {D D2 : Nat → Prop} (H : HS X S h n w φ D) (hD : ∀ b, D b → D2 b)
    (hL : ∀ i B g, h i = some B → (fz = true → B.fz = true) → φ i = some (some g) → D2 g) : ∀ {v : Value}, RV φ D w v d → RV NP D2 w v r := by
  induction hp with
  | bool b => intro v hv; rw [hv.bool_inv]; exact .bool b
  | int k n => intro v hv; rw [hv.int_inv]; exact .int k n
  | str s => intro v hv; rw [hv.str_inv]; exact .str s
  | oth u => intro v hv; rw [hv.oth_inv]; exact .oth u
  | agg cs ds hl _ ih =>
    intro v hv
    obtain ⟨vs, rfl, hvs⟩ := hv.agg_inv
    refine .agg vs ds (hvs.1.trans hl) fun i c d hc hd => ?_
    have hi : i < cs.length := by rw [hl]; exact (List.getElem?_eq_some_iff.1 hd).1
    exact ih i _ d (List.getElem?_eq_getElem hi) hd (hvs.2 i c _ hc (List.getElem?_eq_getElem hi))
  | tup cs ds hl _ ih =>
    intro v hv
    obtain ⟨vs, rfl, hvs⟩ := hv.tup_inv
    refine .tup vs ds (hvs.1.trans hl) fun i c d hc hd => ?_
    have hi : i < cs.length := by rw [hl]; exact (List.getElem?_eq_some_iff.1 hd).1
    exact ih i _ d (List.getElem?_eq_getElem hi) hd (hvs.2 i c _ hc (List.getElem?_eq_getElem hi))
  | nil st => intro v hv; rw [hv.nil_inv]; exact .list0 none 0 st (Nat.zero_le _)
  | nil' => intro v hv; rw [hv.nil_inv]; exact .nil
  | list st es fs hl hll _ ih =>
    intro v hv
    obtain ⟨A, c, rfl, h1, h2, h3⟩ := hv.list_inv
    refine RV.list_mk hl (by omega) h2 fun i f hf => ?_
    have hi : i < es.length := by rw [hl]; exact (List.getElem?_eq_some_iff.1 hf).1
    obtain ⟨b, o, cs, rfl, q1, q2, q3, q4, q5, q6⟩ := h3 i _ (List.getElem?_eq_getElem hi)
    refine ⟨b, o, cs, rfl, hD b q1, q2, q3, q4, q5, ?_, fun j c d hc hd => ?_⟩
    · rw [q6.1]; exact hll i _ f (List.getElem?_eq_getElem hi) hf
    · have hj : j < (es[i]).length := by rw [← q6.1]; exact (List.getElem?_eq_some_iff.1 hc).1
      exact ih i _ f (List.getElem?_eq_getElem hi) hf j _ d (List.getElem?_eq_getElem hj) hd (q6.2 j c _ hc (List.getElem?_eq_getElem hj))
  | ref i off len st B fs hB hz hst hle hl hll _ ih =>
    intro v hv
    cases hv with
    | ref0 _ _ _ A h0 =>
      have : fs = [] := List.eq_nil_of_length_eq_zero hl
      subst this
      exact .list0 A 0 st (Nat.zero_le _)
    | refv _ _ hφ =>
      have : fs = [] := List.eq_nil_of_length_eq_zero hl
      subst this
      exact .list0 none 0 st (Nat.zero_le _)
    | ref _ g _ _ c _ hφ hlc hc hsz =>
      have hlies : Lies φ D w g B := by
        rcases H.live i B hB with ⟨q, _⟩ | ⟨g', q, q2, _⟩
        · rw [hφ] at q; cases q
        · rw [hφ] at q; injection q with q; injection q with q; subst q; exact q2
      refine RV.list_mk hl.symm (by omega) hc fun k f hf => ?_
      have hk : k < fs.length := (List.getElem?_eq_some_iff.1 hf).1
      have hok : off + k < B.es.length := by omega
      obtain ⟨cs, q1, q2, q3, q4⟩ := hlies.el hok
      have he : B.es[off + k]? = some (B.es.getD (off + k) []) := by rw [List.getD_eq_getElem?_getD, List.getElem?_eq_getElem hok]; rfl
      refine ⟨g, off * st, cs, rfl, hL i B g hB hz hφ, hlies.lt, ?_, by rw [q2, hst], q3, ?_, fun j c d hc hd => ?_⟩
      · rw [hst, Nat.add_mul] at q1; exact q1
      · rw [q4.1]; exact hll k _ f he hf
      · have hj : j < (B.es.getD (off + k) []).length := by rw [← q4.1]; exact (List.getElem?_eq_some_iff.1 hc).1
        exact ih k _ f he hf j _ d (List.getElem?_eq_getElem hj) hd (q4.2 j c _ hc (List.getElem?_eq_getElem hj))
  | rop cs ds j st hl _ ih =>
    intro v hv
    obtain ⟨b, o, vs, rfl, q1, q2, q3, q4, q5, q6⟩ := hv.rop_inv
    refine .rop b o j st ds vs (q6.1.trans hl) q1 (hD b q2) q3 q4 q5 fun i c d hc hd => ?_
    have hi : i < cs.length := by rw [hl]; exact (List.getElem?_eq_some_iff.1 hd).1
    exact ih i _ d (List.getElem?_eq_getElem hi) hd (q6.2 i c _ hc (List.getElem?_eq_getElem hi))
  | ptr i k j st B ds hB hz hst hk hl _ ih =>
    intro v hv
    obtain ⟨g, hφ, rfl⟩ := hv.ptr_inv
    have hlies : Lies φ D w g B := by
      rcases H.live i B hB with ⟨q, _⟩ | ⟨g', q, q2, _⟩
      · rw [hφ] at q; cases q
      · rw [hφ] at q; injection q with q; injection q with q; subst q; exact q2
    obtain ⟨vs, q1, q2, q3, q4⟩ := hlies.el hk
    rw [hst] at q1
    refine .rop g (k * st) j st ds vs (q4.1.trans hl) (q2.trans hst) (hL i B g hB hz hφ) hlies.lt q1 q3 fun q c d hc hd => ?_
    have hq : q < (B.es.getD k []).length := by rw [hl]; exact (List.getElem?_eq_some_iff.1 hd).1
    exact ih q _ d (List.getElem?_eq_getElem hq) hd (q4.2 q c _ hc (List.getElem?_eq_getElem hq))
  | fn f a b a' b' h1 h2 _ _ ih1 ih2 =>
    intro v hv
    obtain ⟨c1, c2, rfl, k1, k2⟩ := hv.fn_inv
    refine .fn f c1 c2 a' b' (k1.1.trans h1) (k2.1.trans h2) (fun i c d hc hd => ?_) (fun i c d hc hd => ?_)
    · have hi : i < a.length := by rw [h1]; exact (List.getElem?_eq_some_iff.1 hd).1
      exact ih1 i _ d (List.getElem?_eq_getElem hi) hd (k1.2 i c _ hc (List.getElem?_eq_getElem hi))
    · have hi : i < b.length := by rw [h2]; exact (List.getElem?_eq_some_iff.1 hd).1
      exact ih2 i _ d (List.getElem?_eq_getElem hi) hd (k2.2 i c _ hc (List.getElem?_eq_getElem hi))

theorem PurRs.rvs {h : Nat → Option Blk} {fz : Bool} {ds rs : List Dat} (hp : PurRs h fz ds rs) {X : Cx} {S : Nat → Prop} {n : Nat} {w : World} {φ : Pl} {D D2 : Nat → Prop} (H : HS X S h n w φ D) (hD : ∀ b, D b → D2 b)
    (hL : ∀ i B g, h i = some B → (fz = true → B.fz = true) → φ i = some (some g) → D2 g) {vs : List Value} (hv : RVs φ D w vs ds) : RVs NP D2 w vs rs :=
  ⟨hv.1.trans hp.1, fun i c d hc hd => by
    have hi : i < ds.length := by rw [hp.1]; exact (List.getElem?_eq_some_iff.1 hd).1
    exact (hp.2 i _ d (List.getElem?_eq_getElem hi) hd).rv H hD hL (hv.2 i c _ hc (List.getElem?_eq_getElem hi))⟩

/-- no addresses at all -/
inductive Scal : Dat → Prop where
  | bool (b : Bool) : Scal (.bool b)
  | int (k : IntKind) (n : Int) : Scal (.int k n)
  | str (s : ByteArray) : Scal (.str s)
  | agg (cs : List Dat) (H : ∀ (i : Nat) c, cs[i]? = some c → Scal c) : Scal (.agg cs)
  | tup (cs : List Dat) (H : ∀ (i : Nat) c, cs[i]? = some c → Scal c) : Scal (.tup cs)
  | nil (st : Nat) : Scal (.list st [])
theorem Scal.rv {d : Dat} (h : Scal d) {φ φ' : Pl} {D D' : Nat → Prop} {w w' : World} : ∀ {v : Value}, RV φ D w v d → RV φ' D' w' v d := by
  induction h with
  | bool b => intro v hv; rw [hv.bool_inv]; exact .bool b
  | int k n => intro v hv; rw [hv.int_inv]; exact .int k n
  | str s => intro v hv; rw [hv.str_inv]; exact .str s
  | agg cs _ ih =>
    intro v hv
    obtain ⟨vs, rfl, hvs⟩ := hv.agg_inv
    exact .agg vs cs hvs.1 fun i c d hc hd => ih i d hd (hvs.2 i c d hc hd)
  | tup cs _ ih =>
    intro v hv
    obtain ⟨vs, rfl, hvs⟩ := hv.tup_inv
    exact .tup vs cs hvs.1 fun i c d hc hd => ih i d hd (hvs.2 i c d hc hd)
  | nil st =>
    intro v hv
    obtain ⟨A, c, rfl, h1, h2, _⟩ := hv.list_inv
    exact .list0 A c st h2

/-- THE CONTRACT: with arguments that read so the call answers what reads so; all that was is as it was -/
structure PC (P : Program) (F : FuncId) (ds : List Dat) (r : Dat) : Prop where
  enter : ∃ fn c, P.funcs[F]? = some fn ∧ fn.body = some c ∧ (fn.name == "runtime.NumGoroutine") = false
  run : ∀ (w : World) (D : Nat → Prop) (vs : List Value), (∀ b, D b → b < w.heap.size) → RVs NP D w vs ds →
    Calls P F vs.toArray w fun e w' => ∃ v, e = .returned v ∧ RV NP (fun b => D b ∨ w.heap.size ≤ b) w' v r ∧ Below w.heap.size w w'

/-! its proof -/
def resR (P : Program) (σ : St) : List ResultVar → (List Dat → Prop) → Prop
  | [], K => K []
  | .tmp t :: r, K => resR P σ r fun ds => K (σ.t t :: ds)
  | .cell a t :: r, K => match ti P t with
    | some x => match evLoad σ x (σ.t a) with
      | some e => e.side ∧ resR P σ r fun ds => K (e.val :: ds)
      | none => False
    | none => False
def single : List Dat → Dat
  | [d] => d
  | ds => .tup ds
def retP (P : Program) (fn : Func) (Q : Dat → St → Prop) : Exit → St → Prop
  | .normal, σ | .ret, σ => resR P σ fn.results.toList fun ds => Q (single ds) σ
  | _, _ => False

theorem load_ok {P : Program} {X : Cx} {S : Nat → Prop} {σ : St} {t : TypeId} {x : TI} (ht : ti P t = some x) {d : Dat} {e : Ef} (he : evLoad σ x d = some e) (hs : e.side) {A : Act} {w : World} {φ : Pl} {D : Nat → Prop} (hsim : Sim X S σ A w φ D) {va : Value} (hv : RV φ D w va d) :
    ∃ ad v, va = .pointer (some ad) ∧ (loadVar t ad).run P w = .ok v w ∧ RV φ D w v e.val := by
  unfold evLoad at he
  split at he
  · rename_i i k j st
    split at he
    · rename_i B hB
      injection he with he
      subst he
      obtain ⟨h1, h2, h3, h4⟩ := hs
      obtain ⟨g, hp, hA⟩ := hv.ptr_inv
      have hl := hsim.lies hB hp
      obtain ⟨cs, c1, c2, c3, c4⟩ := hl.el h1
      obtain ⟨v, hr, hrv⟩ := read_cut c1 c2 c4 (j := j) (n := x.sz) (by omega) x.agg h4 ht rfl rfl
      refine ⟨_, v, hA, by rw [← h3]; exact hr, ?_⟩
      show RV φ D w v (cut _ j x.sz x.agg st)
      rw [← h3]; exact hrv
    · cases he
  · rename_i cs j st
    injection he with he
    subst he
    obtain ⟨h2, h4⟩ := hs
    obtain ⟨b, o', vs, hA, hl, hD, hb, hr, h1, hvs⟩ := hv.rop_inv
    obtain ⟨v, hr, hrv⟩ := read_cut hr hl hvs (j := j) (n := x.sz) (by omega) x.agg h4 ht rfl rfl
    exact ⟨_, v, hA, hr, hrv⟩
  · cases he

def resF (tmps : Array Value) : ResultVar → Sem Value
  | .tmp t => pure (tmps.getD t undef)
  | .cell a t => do loadVar t (← asAddr (tmps.getD a undef))
theorem results_eq (fn : Func) (tmps : Array Value) : results fn tmps = (do let vs ← fn.results.mapM (resF tmps); pure (if h : vs.size = 1 then vs[0] else .tuple vs)) := by
  unfold results
  congr 2
theorem resR_sound {P : Program} {X : Cx} {σ : St} {A : Act} {w : World} {φ : Pl} {D : Nat → Prop} (hsim : Sim X S0 σ A w φ D) : ∀ (l : List ResultVar) (K : List Dat → Prop), resR P σ l K →
    ∃ vs ds, (l.mapM (resF A.tmps)).run P w = .ok vs w ∧ K ds ∧ RVs φ D w vs ds
  | [], K, h => ⟨[], [], by simp, h, .nil⟩
  | .tmp t :: r, K, h => by
    obtain ⟨vs, ds, h1, h2, h3⟩ := resR_sound hsim r _ h
    refine ⟨_ :: vs, _ :: ds, ?_, h2, .cons (hsim.tm t) h3⟩
    rw [List.mapM_cons]
    simp only [Sem.run_bind, resF, Sem.run_pure, Result.andThen_ok, h1]
  | .cell a t :: r, K, h => by
    unfold resR at h
    split at h
    · rename_i x ht
      split at h
      · rename_i e he
        obtain ⟨hs, h⟩ := h
        obtain ⟨vs, ds, h1, h2, h3⟩ := resR_sound hsim r _ h
        obtain ⟨ad, v, hva, hr, hrv⟩ := load_ok ht he hs hsim (hsim.tm a)
        refine ⟨v :: vs, _ :: ds, ?_, h2, .cons hrv h3⟩
        rw [List.mapM_cons]
        simp only [Sem.run_bind, resF, Sem.run_pure, Result.andThen_ok, h1, hva, asAddr, hr]
      · exact h.elim
    · exact h.elim

theorem retP_sound {P : Program} {fn : Func} {X : Cx} {Q : Dat → St → Prop} {R : Ending → World → Prop} (hR : ∀ σ a w φ D d v, Sim X S0 σ a w φ D → Q d σ → RV φ D w v d → R (.returned v) w) : ∀ ex a w, Con X (retP P fn Q) ex a w → bodyPost P fn R ex a w := by
  intro ex a w hc
  obtain ⟨σ, φ, D, hq, hs⟩ := hc
  have key : resR P σ fn.results.toList (fun ds => Q (single ds) σ) → a.defers = [] ∧ ∃ v, (results fn a.tmps).run P w = .ok v w ∧ R (.returned v) w := fun h => by
    obtain ⟨vs, ds, h1, h2, h3⟩ := resR_sound hs _ _ h
    refine ⟨hs.df, if h : vs.length = 1 then vs[0] else .tuple vs.toArray, ?_, hR σ a w φ D _ _ hs h2 ?_⟩
    · rw [results_eq, Array.mapM_eq_mapM_toList]
      simp [h1]
    · split
      · rename_i hl
        match vs, hl, h3 with
        | [v], _, h3 =>
          have hd := h3.1
          match ds, hd, h3 with
          | [d], _, h3 => exact h3.2 0 v d rfl rfl
      · rename_i hl
        have : single ds = .tup ds := by
          have hd := h3.1
          match ds, hd with
          | [], _ => rfl
          | [d], hd => simp at hd; exact absurd hd hl
          | _ :: _ :: _, _ => rfl
        rw [this]
        exact .tup vs ds h3.1 h3.2
  cases ex with
  | normal => exact key hq
  | ret => exact key hq
  | exit id => exact hq.elim
  | goto l => exact hq.elim
  | panic c => exact hq.elim
  | outgrown => exact hq.elim

def entry (fn : Func) (ds : List Dat) (n : Nat) : St := { t := fun i => ds.getD i (.oth undef), h := fun _ => none, n := n, nt := ds.length + (fn.ntmps - ds.length) }

theorem HS.start {w : World} {D : Nat → Prop} (hD : ∀ b, D b → b < w.heap.size) : HS ⟨w, fun _ => False, D, NP⟩ S0 (fun _ => none) 0 w NP D where
  live := fun i B h => by cases h
  inj := fun i j B C g h => by cases h
  fresh := fun _ _ _ => rfl
  Dlt := hD
  Dsub := fun b h => .inl h
  Dsup := fun b h => h
  psup := PlLe.refl _
  fr := ⟨rfl, rfl, rfl, Nat.le_refl _, fun _ _ => rfl, fun _ _ _ => rfl⟩
  fin := ⟨0, fun _ _ => rfl⟩

theorem Sim.entry {X : Cx} {fn : Func} {ds : List Dat} {vs : List Value} {w : World} {φ : Pl} {D : Nat → Prop} {n : Nat} (hv : RVs φ D w vs ds) (hs : HS X S0 (fun _ => none) n w φ D) :
    Sim X S0 (entry fn ds n) { tmps := vs.toArray ++ Array.replicate (fn.ntmps - vs.toArray.size) undef, defers := [] } w φ D where
  nt := by simp [Ab.entry, hv.1]
  df := rfl
  tm := fun i => by
    show RV φ D w _ (ds.getD i (.oth undef))
    rw [Array.getD_eq_getD_getElem?, List.getD_eq_getElem?_getD]
    by_cases hi : i < vs.length
    · have hi' : i < ds.length := by rw [← hv.1]; exact hi
      rw [Array.getElem?_append_left (by simpa using hi), List.getElem?_toArray, List.getElem?_eq_getElem hi, List.getElem?_eq_getElem hi']
      exact hv.2 i _ _ (List.getElem?_eq_getElem hi) (List.getElem?_eq_getElem hi')
    · rw [List.getElem?_eq_none (by rw [← hv.1]; omega)]
      have : ((vs.toArray ++ Array.replicate (fn.ntmps - vs.toArray.size) undef)[i]?).getD undef = undef := by
        rw [Array.getElem?_append_right (by simpa using hi), Array.getElem?_replicate]
        split <;> rfl
      rw [this]
      exact .oth undef
  hs := hs

theorem Fr.below {w w' : World} {D : Nat → Prop} (h : Fr ⟨w, fun _ => False, D, NP⟩ w') : Below w.heap.size w w' :=
  ⟨h.os, h.tape, h.output, h.size, fun k hk => h.old k hk (fun h => h)⟩

theorem pc_of {P : Program} {F : FuncId} {fn : Func} {c : Code} {ds : List Dat} {r : Dat} (hf : P.funcs[F]? = some fn) (hb : fn.body = some c) (hn : (fn.name == "runtime.NumGoroutine") = false)
    (h : awp P c (retP P fn fun d σ => PurR σ.h false d r) (entry fn ds 0)) : PC P F ds r where
  enter := ⟨fn, c, hf, hb, hn⟩
  run := fun w D vs hD hv => by
    refine calls_of_wp hf hb ?_
    have hs := Sim.entry (fn := fn) hv (HS.start hD)
    refine wp_mono (awp_sound _ c _ _ h _ _ _ _ hs) (retP_sound fun σ a w' φ D' d v hsim hp hrv => ?_)
    refine ⟨v, rfl, hp.rv hsim.hs (fun b hb => ?_) (fun i B g hi _ hφ => ?_) hrv, hsim.hs.fr.below⟩
    · rcases hsim.hs.Dsub b hb with h | h | h
      · exact .inl h
      · exact h.elim
      · exact .inr h
    · rcases hsim.hs.live i B hi with ⟨q, _⟩ | ⟨g', q, q2, q3, q4⟩
      · rw [hφ] at q; cases q
      · rw [hφ] at q; injection q with q; injection q with q; subst q
        cases hfz : B.fz with
        | true =>
          rcases hsim.hs.Dsub g (q3 hfz) with h | h | h
          · exact .inl h
          · exact h.elim
          · exact .inr h
        | false =>
          rcases (q4 hfz).2 with h | h
          · exact h.elim
          · exact .inr h

/-! its use -/
theorem HS.growD {X : Cx} {S : Nat → Prop} {h : Nat → Option Blk} {n : Nat} {w w' : World} {φ : Pl} {D : Nat → Prop} (H : HS X S h n w φ D) (c : Chg w w' none) : HS X S h n w' φ (fun b => D b ∨ (w.heap.size ≤ b ∧ b < w'.heap.size)) where
  live := fun i B hi => by
    rcases H.live i B hi with h1 | ⟨g, h1, h2, h3, h4⟩
    · exact .inl h1
    · refine .inr ⟨g, h1, h2.keep (PlLe.refl _) (fun _ h _ => .inl h) (c.ext (fun _ h => by cases h)) (c.block g h2.lt (by simp)), fun h => .inl (h3 h), fun h => ⟨fun hd => ?_, (h4 h).2⟩⟩
      rcases hd with hd | hd
      · exact (h4 h).1 hd
      · have := h2.lt; omega
  inj := H.inj
  fresh := H.fresh
  Dlt := fun b hb => by
    rcases hb with hb | hb
    · exact Nat.lt_of_lt_of_le (H.Dlt b hb) c.size
    · exact hb.2
  Dsub := fun b hb => by
    rcases hb with hb | hb
    · exact H.Dsub b hb
    · exact .inr (.inr (Nat.le_trans H.fr.size hb.1))
  Dsup := fun b hb => .inl (H.Dsup b hb)
  psup := H.psup
  fr := H.fr.chg c (fun _ h => by cases h)
  fin := H.fin

/-- some of one's own are frozen -/
def frz (h : Nat → Option Blk) : List Nat → List (Nat × Option Blk)
  | [] => []
  | i :: r => (i, (h i).map fun B => { B with fz := true }) :: frz h r
def thaw (h : Nat → Option Blk) (l : List Nat) : Nat → Option Blk := fun i => if l.contains i then (h i).map fun B => { B with fz := true } else h i
theorem wrs_frz (h : Nat → Option Blk) : ∀ (l : List Nat) (h' : Nat → Option Blk) (k : Nat), wrs h' (frz h l) k = if l.contains k then (h k).map (fun B => { B with fz := true }) else h' k
  | [], h', k => by simp [frz, wrs]
  | i :: r, h', k => by
    rw [frz, wrs, wrs_frz h r]
    by_cases e : r.contains k = true
    · have e' : k ∈ r := by simpa using e
      simp [e']
    · rw [if_neg e]
      by_cases e2 : k = i
      · subst e2; rw [upd_same]; simp
      · rw [upd_ne _ _ e2]
        have : (i :: r).contains k = false := by simp at e ⊢; exact ⟨e2, e⟩
        rw [this]; rfl
theorem HS.frz1 {X : Cx} {S : Nat → Prop} {h : Nat → Option Blk} {n : Nat} {w : World} {φ : Pl} {D : Nat → Prop} (H : HS X S h n w φ D) (i : Nat) : ∃ D', HS X S (upd h i ((h i).map fun B => { B with fz := true })) n w φ D' ∧ ∀ b, D b → D' b := by
  cases hi : h i with
  | none =>
    refine ⟨D, ?_, fun _ h => h⟩
    have := H.drop i
    simpa using this
  | some B =>
    simp only [Option.map_some]
    cases hf : B.fz with
    | true =>
      refine ⟨D, ?_, fun _ h => h⟩
      have e : upd h i (some { B with fz := true }) = h := by
        funext k
        by_cases e : k = i
        · subst e; rw [upd_same, hi]; congr 1; cases B; simp_all
        · rw [upd_ne _ _ e]
      rw [e]; exact H
    | false =>
      rcases H.live i B hi with ⟨q, _⟩ | ⟨g, q, _⟩
      · exact ⟨D, H.freeze_virt hi q, fun _ h => h⟩
      · exact ⟨_, H.freeze hi q hf, fun _ h => .inl h⟩
theorem HS.frzs {X : Cx} {S : Nat → Prop} {n : Nat} {w : World} {φ : Pl} : ∀ (l : List Nat) {h : Nat → Option Blk} {D : Nat → Prop}, HS X S h n w φ D → ∃ D', HS X S (wrs h (frz h l)) n w φ D' ∧ ∀ b, D b → D' b
  | [], h, D, H => ⟨D, H, fun _ h => h⟩
  | i :: r, h, D, H => by
    obtain ⟨D1, H1, hd1⟩ := H.frz1 i
    obtain ⟨D2, H2, hd2⟩ := HS.frzs r H1
    refine ⟨D2, ?_, fun b hb => hd2 b (hd1 b hb)⟩
    have e : wrs (upd h i ((h i).map fun B => { B with fz := true })) (frz (upd h i ((h i).map fun B => { B with fz := true })) r) = wrs h (frz h (i :: r)) := by
      funext k
      rw [wrs_frz, wrs_frz]
      by_cases e2 : k = i
      · subst e2
        rw [upd_same]
        cases h k <;> simp
      · rw [upd_ne _ _ e2]
        by_cases e : r.contains k = true
        · have e' : k ∈ r := by simpa using e
          simp [e']
        · have e' : (i :: r).contains k = false := by simp at e ⊢; exact ⟨e2, e⟩
          rw [if_neg e, e']; simp
    rw [← e]; exact H2

section
variable {P : Program} {σ : St} {i : Nat} {o : Oper} {F : FuncId} {first cap argsD ds : List Dat} {r : Dat} {K : St → Prop}

theorem call_run {f : Operand} {args : Array Operand} {ats : Array TypeId} (ho : o.op = .call { callee := .value f, args, argTypes := ats }) (pc : PC P F ds r) {a : Act} {w : World} {c1 c2 : List Value} (hf : a.eval f = .func (.func F) c1.toArray c2.toArray) :
    (execOp a.eval o).run P w = .ok (.enter F (c1 ++ args.toList.map a.eval ++ c2).toArray) w := by
  obtain ⟨fn, c, h1, h2, h3⟩ := pc.enter
  have e : (c1.toArray ++ Array.map a.eval args ++ c2.toArray) = (c1 ++ args.toList.map a.eval ++ c2).toArray := by
    apply Array.ext'; simp
  unfold execOp
  simp only [ho, resolve, hf, Deferred.ofValue, invoke, Sem.run_bind, Sem.run_pure, Result.andThen_ok]
  rw [e]
  have h3' : ¬ fn.name = "runtime.NumGoroutine" := by simpa using h3
  simp [callFunc, program, Sem.run, h1, h2, h3']

theorem callR_go {fr : List Nat} {fz : Bool} (pc : PC P F ds r) (hp : PurRs (wrs σ.h (frz σ.h fr)) fz (first ++ argsD ++ cap) ds) (hfr : fz = true ∨ Scal r) (hK : K (σ.app o.dst { val := r, wr := frz σ.h fr })) :
    CallR P σ i o (.fn (.func F) first cap) argsD K := by
  intro f args ats ho hf hargs
  refine ⟨_, ?_, hK⟩
  intro X S S' hn hS hS' a w φ D hsim K' Q' hK'
  have hfv := hsim.ev f
  rw [hf] at hfv
  obtain ⟨c1, c2, hfe, h1, h2⟩ := hfv.fn_inv
  have hav := hsim.evs args.toList
  rw [hargs] at hav
  have hall := (h1.append hav).append h2
  unfold Oper.wp
  rw [call_run ho pc hfe, Oper.upon_enter]
  obtain ⟨D1, H1, hd1⟩ := hsim.hs.frzs fr
  have hkeep : ∀ {v d}, RV φ D w v d → RV φ D1 w v d := fun h => RV.keep (PlLe.refl _) (fun b h _ => hd1 b h) (Ext.refl _ _) h
  have hall1 : RVs φ D1 w (c1 ++ args.toList.map a.eval ++ c2) (first ++ argsD ++ cap) := ⟨hall.1, fun i c d hc hd => hkeep (hall.2 i c d hc hd)⟩
  rcases hfr with hfz | hsc
  · -- nothing but frozen blocks
    subst hfz
    have hrs := hp.rvs H1 (D2 := D1) (fun b h => h) (fun i B g hi hz hφ => by
      rcases H1.live i B hi with ⟨q, _⟩ | ⟨g', q, _, q3, _⟩
      · rw [hφ] at q; cases q
      · rw [hφ] at q; injection q with q; injection q with q; subst q; exact q3 (hz rfl)) hall1
    refine (pc.run w D1 _ H1.Dlt hrs).mono fun e w' hR => ?_
    obtain ⟨v, rfl, hv, hb⟩ := hR
    have hc := Chg.of_below hb
    have H2 := (H1.growD hc).more hS
    have hstep := hsim.step (dst := o.dst) (d := r) (v := v) H2 (PlLe.refl _) (fun b hb _ => .inl (hd1 b hb)) (hc.ext fun _ h => by cases h)
      (RV.keep (NP_le φ) (fun b hb hlt => by
        rcases hb with hb | hb
        · exact .inl hb
        · exact .inr ⟨hb, hlt⟩) (Ext.refl _ _) hv)
    exact hK' _ _ _ _ hstep
  · -- whatever is borrowed; the answer holds none of it
    have hrs := hp.rvs H1 (D2 := fun b => b < w.heap.size) (fun b h => H1.Dlt b h) (fun i B g hi hz hφ => by
      rcases H1.live i B hi with ⟨q, _⟩ | ⟨g', q, q2, _⟩
      · rw [hφ] at q; cases q
      · rw [hφ] at q; injection q with q; injection q with q; subst q; exact q2.lt) hall1
    refine (pc.run w (fun b => b < w.heap.size) _ (fun b h => h) hrs).mono fun e w' hR => ?_
    obtain ⟨v, rfl, hv, hb⟩ := hR
    have hc := Chg.of_below hb
    have H2 := (H1.grow hc).more hS
    exact hK' _ _ _ _ (hsim.step (dst := o.dst) (d := r) (v := v) H2 (PlLe.refl _) (fun b hb _ => hd1 b hb) (hc.ext fun _ h => by cases h) (hsc.rv hv))
/-- an answer without addresses: all arguments are but borrowed -/
theorem callR_scal (pc : PC P F ds r) (hsc : Scal r) (hp : PurRs σ.h false (first ++ argsD ++ cap) ds) (hK : K (σ.app o.dst { val := r })) : CallR P σ i o (.fn (.func F) first cap) argsD K :=
  callR_go (fr := []) (fz := false) pc hp (.inr hsc) hK
/-- arguments that are frozen already -/
theorem callR_pure (pc : PC P F ds r) (hp : PurRs σ.h true (first ++ argsD ++ cap) ds) (hK : K (σ.app o.dst { val := r })) : CallR P σ i o (.fn (.func F) first cap) argsD K :=
  callR_go (fr := []) (fz := true) pc hp (.inl rfl) hK
end
end Go.Ab
