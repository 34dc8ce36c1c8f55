import Derived.Test.YtjflkcfafijhfaaGreatQ09
import Derived.RangeFuncLeaves
set_option linter.unusedSectionVars false
/- DERIVED. A call's contract in plain values, its use, and its proof out of the body. No program here. -/
namespace Go.Ab
open Go.RowKit
variable [Lay]
inductive PurR (h : Nat → Option Blk) (fz : Bool) : Dat → Dat → Prop where
 | bool (b : Bool) : PurR h fz (.bool b) (.bool b)
 | int (k : IntKind) (n : Int) : PurR h fz (.int k n) (.int k n)
 | str (s : ByteArray) : PurR h fz (.str s) (.str s)
 | oth (v : Value) : PurR h fz (.oth v) (.oth v)
 | agg (cs ds : List Dat) (hl : cs.length = ds.length) (H : ∀ (i : Nat) c d, cs[i]? = some c → ds[i]? = some d → PurR h fz c d) : PurR h fz (.agg cs) (.agg ds)
 | tup (cs ds : List Dat) (hl : cs.length = ds.length) (H : ∀ (i : Nat) c d, cs[i]? = some c → ds[i]? = some d → PurR h fz c d) : PurR h fz (.tup cs) (.tup ds)
 | nil (st : Nat) : PurR h fz .nil (.list st [])
 | nil' : PurR h fz .nil .nil
 | list (st : Nat) (es fs : List (List Dat)) (hl : es.length = fs.length) (hll : ∀ (i : Nat) e f, es[i]? = some e → fs[i]? = some f → e.length = f.length)
   (H : ∀ (i : Nat) e f, es[i]? = some e → fs[i]? = some f → ∀ (j : Nat) c d, e[j]? = some c → f[j]? = some d → PurR h fz c d) : PurR h fz (.list st es) (.list st fs)
 | ref (i off len st : Nat) (B : Blk) (fs : List (List Dat)) (hB : h i = some B) (hz : fz = true → B.fz = true) (hst : B.st = st) (hle : off + len ≤ B.es.length) (hl : fs.length = len)
   (hll : ∀ (k : Nat) e f, B.es[off + k]? = some e → fs[k]? = some f → e.length = f.length)
   (H : ∀ (k : Nat) e f, B.es[off + k]? = some e → fs[k]? = some f → ∀ (j : Nat) c d, e[j]? = some c → f[j]? = some d → PurR h fz c d) : PurR h fz (.ref i off len st) (.list st fs)
 | rop (cs ds : List Dat) (j st : Nat) (hl : cs.length = ds.length) (H : ∀ (i : Nat) c d, cs[i]? = some c → ds[i]? = some d → PurR h fz c d) : PurR h fz (.rop cs j st) (.rop ds j st)
 | ptr (i k j st : Nat) (B : Blk) (ds : List Dat) (hB : h i = some B) (hz : fz = true → B.fz = true) (hst : B.st = st) (hk : k < B.es.length) (hl : (B.es.getD k []).length = ds.length)
   (H : ∀ (q : Nat) c d, (B.es.getD k [])[q]? = some c → ds[q]? = some d → PurR h fz c d) : PurR h fz (.ptr i k j st) (.rop ds j st)
 | fn (f : Fn) (a b a' b' : List Dat) (h1 : a.length = a'.length) (h2 : b.length = b'.length) (H1 : ∀ (i : Nat) c d, a[i]? = some c → a'[i]? = some d → PurR h fz c d)
   (H2 : ∀ (i : Nat) c d, b[i]? = some c → b'[i]? = some d → PurR h fz c d) : PurR h fz (.fn f a b) (.fn f a' b')
def PurRs (h : Nat → Option Blk) (fz : Bool) (cs ds : List Dat) : Prop := cs.length = ds.length ∧ ∀ (i : Nat) c d, cs[i]? = some c → ds[i]? = some d → PurR h fz c d
abbrev NP : Pl := fun _ => none
theorem NP_le (φ : Pl) : PlLe NP φ := fun _ _ h => by cases h
theorem PurR.rv {h : Nat → Option Blk} {fz : Bool} {d r : Dat} (hp : PurR h fz d r) {X : Cx} {S : Nat → Prop} {n : Nat} {w : World} {φ : Pl} {D D2 : Nat → Prop} (H : HS X S h n w φ D) (hD : ∀ b, D b → D2 b)
  (hL : ∀ i B g, h i = some B → (fz = true → B.fz = true) → φ i = some (some g) → D2 g) : ∀ {v : Value}, RV φ D w v d → RV NP D2 w v r := by
 induction hp with
 | bool b => intro v hv; rw [hv.bool_inv]; exact .bool b
 | int k n => intro v hv; rw [hv.int_inv]; exact .int k n
 | str s => intro v hv; rw [hv.str_inv]; exact .str s
 | oth u => intro v hv; rw [hv.oth_inv]; exact .oth u
 | agg cs ds hl _ ih =>
  intro v hv
  obtain ⟨vs, rfl, hvs⟩ := hv.agg_inv
  refine .agg vs ds (hvs.1.trans hl) fun i c d hc hd => ?_
  have hi : i < cs.length := by rw [hl]; exact (List.getElem?_eq_some_iff.1 hd).1
  exact ih i _ d (List.getElem?_eq_getElem hi) hd (hvs.2 i c _ hc (List.getElem?_eq_getElem hi))
 | tup cs ds hl _ ih =>
  intro v hv
  obtain ⟨vs, rfl, hvs⟩ := hv.tup_inv
  refine .tup vs ds (hvs.1.trans hl) fun i c d hc hd => ?_
  have hi : i < cs.length := by rw [hl]; exact (List.getElem?_eq_some_iff.1 hd).1
  exact ih i _ d (List.getElem?_eq_getElem hi) hd (hvs.2 i c _ hc (List.getElem?_eq_getElem hi))
 | nil st => intro v hv; rw [hv.nil_inv]; exact .list0 none 0 st (Nat.zero_le _)
 | nil' => intro v hv; rw [hv.nil_inv]; exact .nil
 | list st es fs hl hll _ ih =>
  intro v hv
  obtain ⟨A, c, rfl, h1, h2, h3⟩ := hv.list_inv
  refine RV.list_mk hl (by omega) h2 fun i f hf => ?_
  have hi : i < es.length := by rw [hl]; exact (List.getElem?_eq_some_iff.1 hf).1
  obtain ⟨b, o, cs, rfl, q1, q2, q3, q4, q5, q6⟩ := h3 i _ (List.getElem?_eq_getElem hi)
  refine ⟨b, o, cs, rfl, hD b q1, q2, q3, q4, q5, ?_, fun j c d hc hd => ?_⟩
  ·rw [q6.1]; exact hll i _ f (List.getElem?_eq_getElem hi) hf
  ·have hj : j < (es[i]).length := by rw [← q6.1]; exact (List.getElem?_eq_some_iff.1 hc).1
   exact ih i _ f (List.getElem?_eq_getElem hi) hf j _ d (List.getElem?_eq_getElem hj) hd (q6.2 j c _ hc (List.getElem?_eq_getElem hj))
 | ref i off len st B fs hB hz hst hle hl hll _ ih =>
  intro v hv
  cases hv with
  | ref0 _ _ _ A h0 =>
   have : fs = [] := List.eq_nil_of_length_eq_zero hl
   subst this
   exact .list0 A 0 st (Nat.zero_le _)
  | refv _ _ hφ =>
   have : fs = [] := List.eq_nil_of_length_eq_zero hl
   subst this
   exact .list0 none 0 st (Nat.zero_le _)
  | ref _ g _ _ c _ hφ hlc hc hsz =>
   have hlies : Lies φ D w g B := by
    rcases H.live i B hB with ⟨q, _⟩ | ⟨g', q, q2, _⟩
    ·rw [hφ] at q; cases q
    ·rw [hφ] at q; injection q with q; injection q with q; subst q; exact q2
   refine RV.list_mk hl.symm (by omega) hc fun k f hf => ?_
   have hk : k < fs.length := (List.getElem?_eq_some_iff.1 hf).1
   have hok : off + k < B.es.length := by omega
   obtain ⟨cs, q1, q2, q3, q4⟩ := hlies.el hok
   have he : B.es[off + k]? = some (B.es.getD (off + k) []) := by rw [List.getD_eq_getElem?_getD, List.getElem?_eq_getElem hok]; rfl
   refine ⟨g, off * st, cs, rfl, hL i B g hB hz hφ, hlies.lt, ?_, by rw [q2, hst], q3, ?_, fun j c d hc hd => ?_⟩
   ·rw [hst, Nat.add_mul] at q1; exact q1
   ·rw [q4.1]; exact hll k _ f he hf
   ·have hj : j < (B.es.getD (off + k) []).length := by rw [← q4.1]; exact (List.getElem?_eq_some_iff.1 hc).1
    exact ih k _ f he hf j _ d (List.getElem?_eq_getElem hj) hd (q4.2 j c _ hc (List.getElem?_eq_getElem hj))
 | rop cs ds j st hl _ ih =>
  intro v hv
  obtain ⟨b, o, vs, rfl, q1, q2, q3, q4, q5, q6⟩ := hv.rop_inv
  refine .rop b o j st ds vs (q6.1.trans hl) q1 (hD b q2) q3 q4 q5 fun i c d hc hd => ?_
  have hi : i < cs.length := by rw [hl]; exact (List.getElem?_eq_some_iff.1 hd).1
  exact ih i _ d (List.getElem?_eq_getElem hi) hd (q6.2 i c _ hc (List.getElem?_eq_getElem hi))
 | ptr i k j st B ds hB hz hst hk hl _ ih =>
  intro v hv
  obtain ⟨g, hφ, rfl⟩ := hv.ptr_inv
  have hlies : Lies φ D w g B := by
   rcases H.live i B hB with ⟨q, _⟩ | ⟨g', q, q2, _⟩
   ·rw [hφ] at q; cases q
   ·rw [hφ] at q; injection q with q; injection q with q; subst q; exact q2
  obtain ⟨vs, q1, q2, q3, q4⟩ := hlies.el hk
  rw [hst] at q1
  refine .rop g (k * st) j st ds vs (q4.1.trans hl) (q2.trans hst) (hL i B g hB hz hφ) hlies.lt q1 q3 fun q c d hc hd => ?_
  have hq : q < (B.es.getD k []).length := by rw [hl]; exact (List.getElem?_eq_some_iff.1 hd).1
  exact ih q _ d (List.getElem?_eq_getElem hq) hd (q4.2 q c _ hc (List.getElem?_eq_getElem hq))
 | fn f a b a' b' h1 h2 _ _ ih1 ih2 =>
  intro v hv
  obtain ⟨c1, c2, rfl, k1, k2⟩ := hv.fn_inv
  refine .fn f c1 c2 a' b' (k1.1.trans h1) (k2.1.trans h2) (fun i c d hc hd => ?_) (fun i c d hc hd => ?_)
  ·have hi : i < a.length := by rw [h1]; exact (List.getElem?_eq_some_iff.1 hd).1
   exact ih1 i _ d (List.getElem?_eq_getElem hi) hd (k1.2 i c _ hc (List.getElem?_eq_getElem hi))
  ·have hi : i < b.length := by rw [h2]; exact (List.getElem?_eq_some_iff.1 hd).1
   exact ih2 i _ d (List.getElem?_eq_getElem hi) hd (k2.2 i c _ hc (List.getElem?_eq_getElem hi))
theorem PurRs.rvs {h : Nat → Option Blk} {fz : Bool} {ds rs : List Dat} (hp : PurRs h fz ds rs) {X : Cx} {S : Nat → Prop} {n : Nat} {w : World} {φ : Pl} {D D2 : Nat → Prop} (H : HS X S h n w φ D) (hD : ∀ b, D b → D2 b)
  (hL : ∀ i B g, h i = some B → (fz = true → B.fz = true) → φ i = some (some g) → D2 g) {vs : List Value} (hv : RVs φ D w vs ds) : RVs NP D2 w vs rs :=
 ⟨hv.1.trans hp.1, fun i c d hc hd => by
  have hi : i < ds.length := by rw [hp.1]; exact (List.getElem?_eq_some_iff.1 hd).1
  exact (hp.2 i _ d (List.getElem?_eq_getElem hi) hd).rv H hD hL (hv.2 i c _ hc (List.getElem?_eq_getElem hi))⟩
inductive Scal : Dat → Prop where
 | bool (b : Bool) : Scal (.bool b)
 | int (k : IntKind) (n : Int) : Scal (.int k n)
 | str (s : ByteArray) : Scal (.str s)
 | agg (cs : List Dat) (H : ∀ (i : Nat) c, cs[i]? = some c → Scal c) : Scal (.agg cs)
 | tup (cs : List Dat) (H : ∀ (i : Nat) c, cs[i]? = some c → Scal c) : Scal (.tup cs)
 | nil (st : Nat) : Scal (.list st [])
theorem Scal.rv {d : Dat} (h : Scal d) {φ φ' : Pl} {D D' : Nat → Prop} {w w' : World} : ∀ {v : Value}, RV φ D w v d → RV φ' D' w' v d := by
 induction h with
 | bool b => intro v hv; rw [hv.bool_inv]; exact .bool b
 | int k n => intro v hv; rw [hv.int_inv]; exact .int k n
 | str s => intro v hv; rw [hv.str_inv]; exact .str s
 | agg cs _ ih =>
  intro v hv
  obtain ⟨vs, rfl, hvs⟩ := hv.agg_inv
  exact .agg vs cs hvs.1 fun i c d hc hd => ih i d hd (hvs.2 i c d hc hd)
 | tup cs _ ih =>
  intro v hv
  obtain ⟨vs, rfl, hvs⟩ := hv.tup_inv
  exact .tup vs cs hvs.1 fun i c d hc hd => ih i d hd (hvs.2 i c d hc hd)
 | nil st =>
  intro v hv
  obtain ⟨A, c, rfl, h1, h2, _⟩ := hv.list_inv
  exact .list0 A c st h2
structure PC (P : Program) (F : FuncId) (ds : List Dat) (r : Dat) : Prop where
 enter : ∃ fn c, P.funcs[F]? = some fn ∧ fn.body = some c ∧ (fn.name == "runtime.NumGoroutine") = false
 run : ∀ (w : World) (D : Nat → Prop) (vs : List Value), (∀ b, D b → b < w.heap.size) → Lay.gp w D → RVs NP D w vs ds →
  Calls P F vs.toArray w fun e w' => ∃ v, e = .returned v ∧ RV NP (fun b => D b ∨ w.heap.size ≤ b) w' v r ∧ Below w.heap.size w w'
def resR (P : Program) (σ : St) : List ResultVar → (List Dat → Prop) → Prop
 | [], K => K []
 | .tmp t :: r, K => resR P σ r fun ds => K (σ.t t :: ds)
 | .cell a t :: r, K => match ti P t with
  | some x => match evLoad σ x (σ.t a) with
   | some e => e.side ∧ resR P σ r fun ds => K (e.val :: ds)
   | none => False
  | none => False
def single : List Dat → Dat
 | [d] => d
 | ds => .tup ds
def retP (P : Program) (fn : Func) (Q : Dat → St → Prop) : Exit → St → Prop
 | .normal, σ | .ret, σ => resR P σ fn.results.toList fun ds => Q (single ds) σ
 | _, _ => False
theorem load_ok {P : Program} {X : Cx} {S : Nat → Prop} {σ : St} {t : TypeId} {x : TI} (ht : ti P t = some x) {d : Dat} {e : Ef} (he : evLoad σ x d = some e) (hs : e.side) {A : Act} {w : World} {φ : Pl} {D : Nat → Prop} (hsim : Sim X S σ A w φ D) {va : Value} (hv : RV φ D w va d) :
  ∃ ad v, va = .pointer (some ad) ∧ (loadVar t ad).run P w = .ok v w ∧ RV φ D w v e.val := by
 unfold evLoad at he
 split at he
 ·rename_i i k j st
  split at he
  ·rename_i B hB
   injection he with he
   subst he
   obtain ⟨h1, h2, h3, h4⟩ := hs
   obtain ⟨g, hp, hA⟩ := hv.ptr_inv
   have hl := hsim.lies hB hp
   obtain ⟨cs, c1, c2, c3, c4⟩ := hl.el h1
   obtain ⟨v, hr, hrv⟩ := read_cut c1 c2 c4 (j := j) (n := x.sz) (by omega) x.agg h4 ht rfl rfl
   refine ⟨_, v, hA, by rw [← h3]; exact hr, ?_⟩
   show RV φ D w v (cut _ j x.sz x.agg st)
   rw [← h3]; exact hrv
  ·cases he
 ·rename_i cs j st
  injection he with he
  subst he
  obtain ⟨h2, h4⟩ := hs
  obtain ⟨b, o', vs, hA, hl, hD, hb, hr, h1, hvs⟩ := hv.rop_inv
  obtain ⟨v, hr, hrv⟩ := read_cut hr hl hvs (j := j) (n := x.sz) (by omega) x.agg h4 ht rfl rfl
  exact ⟨_, v, hA, hr, hrv⟩
 ·cases he
def resF (tmps : Array Value) : ResultVar → Sem Value
 | .tmp t => pure (tmps.getD t undef)
 | .cell a t => do loadVar t (← asAddr (tmps.getD a undef))
theorem results_eq (fn : Func) (tmps : Array Value) : results fn tmps = (do let vs ← fn.results.mapM (resF tmps); pure (if h : vs.size = 1 then vs[0] else .tuple vs)) := by
 unfold results
 congr 2
theorem resR_sound {P : Program} {X : Cx} {σ : St} {A : Act} {w : World} {φ : Pl} {D : Nat → Prop} (hsim : Sim X S0 σ A w φ D) : ∀ (l : List ResultVar) (K : List Dat → Prop), resR P σ l K →
  ∃ vs ds, (l.mapM (resF A.tmps)).run P w = .ok vs w ∧ K ds ∧ RVs φ D w vs ds
 | [], K, h => ⟨[], [], by simp, h, .nil⟩
 | .tmp t :: r, K, h => by
  obtain ⟨vs, ds, h1, h2, h3⟩ := resR_sound hsim r _ h
  refine ⟨_ :: vs, _ :: ds, ?_, h2, .cons (hsim.tm t) h3⟩
  rw [List.mapM_cons]
  simp only [Sem.run_bind, resF, Sem.run_pure, Result.andThen_ok, h1]
 | .cell a t :: r, K, h => by
  unfold resR at h
  split at h
  ·rename_i x ht
   split at h
   ·rename_i e he
    obtain ⟨hs, h⟩ := h
    obtain ⟨vs, ds, h1, h2, h3⟩ := resR_sound hsim r _ h
    obtain ⟨ad, v, hva, hr, hrv⟩ := load_ok ht he hs hsim (hsim.tm a)
    refine ⟨v :: vs, _ :: ds, ?_, h2, .cons hrv h3⟩
    rw [List.mapM_cons]
    simp only [Sem.run_bind, resF, Sem.run_pure, Result.andThen_ok, h1, hva, asAddr, hr]
   ·exact h.elim
  ·exact h.elim
theorem results_at {P : Program} {fn : Func} {X : Cx} {σ : St} {a : Act} {w : World} {φ : Pl} {D : Nat → Prop} {K : List Dat → Prop} (hs : Sim X S0 σ a w φ D) (h : resR P σ fn.results.toList K) :
  ∃ v d, (results fn a.tmps).run P w = .ok v w ∧ RV φ D w v d ∧ ∃ ds, K ds ∧ d = single ds := by
 obtain ⟨vs, ds, h1, h2, h3⟩ := resR_sound hs _ _ h
 refine ⟨if h : vs.length = 1 then vs[0] else .tuple vs.toArray, single ds, ?_, ?_, ds, h2, rfl⟩
 ·rw [results_eq, Array.mapM_eq_mapM_toList]
  simp [h1]
 ·split
  ·rename_i hl
   match vs, hl, h3 with
   | [v], _, h3 =>
    have hd := h3.1
    match ds, hd, h3 with
    | [d], _, h3 => exact h3.2 0 v d rfl rfl
  ·rename_i hl
   have : single ds = .tup ds := by
    have hd := h3.1
    match ds, hd with
    | [], _ => rfl
    | [d], hd => simp at hd; exact absurd hd hl
    | _ :: _ :: _, _ => rfl
   rw [this]
   exact .tup vs ds h3.1 h3.2
theorem Sim.putd {X : Cx} {S : Nat → Prop} {σ : St} {a : Act} {w : World} {φ : Pl} {D : Nat → Prop} (H : Sim X S σ a w φ D) {d : Nat} {x y : Option (List Deferred)} (hd : w.heap[d]? = some (.deferred x)) (hn : X.w0.heap.size ≤ d) :
  Sim X S σ { a with defers := [] } (w.putObj d (.deferred y)) φ D :=
 ⟨H.nt, .nil rfl, fun i => (H.tm i).putd hd, H.hs.putd hd hn⟩
theorem retP_sound {P : Program} {fn : Func} {X : Cx} {Q : Dat → St → Prop} {R : Ending → World → Prop} (hR : ∀ σ w φ D d v, HS X S0 σ.h σ.n w φ D → Q d σ → RV φ D w v d → R (.returned v) w) (hm : X.w0.heap.size ≤ X.m0 := by exact Nat.le_refl _) : ∀ ex a w, Con X (retP P fn Q) ex a w → bodyPostM Fence.wide 0 P fn R ex a w := by
 intro ex a w hc
 obtain ⟨σ, φ, D, hq, hs⟩ := hc
 have gen : ∀ (l : List Nat) (a : Act) (w : World), l.Nodup → a.defers = l.map mk → (∀ d ∈ l, w.heap[d]? = some (.deferred (some [])) ∧ X.w0.heap.size ≤ d) → Sim X S0 σ { a with defers := [] } w φ D →
   resR P σ fn.results.toList (fun ds => Q (single ds) σ) → LeavesInM Fence.wide 0 P fn a.tmps R a.defers .returning w := by
  intro l
  induction l with
  | nil =>
   intro a w _ e _ hs h
   rw [e]
   obtain ⟨v, x, h1, h2, ds, h3, rfl⟩ := results_at hs h
   exact ⟨v, h1, hR σ w φ D _ _ hs.hs h3 h2⟩
  | cons d l ih =>
   intro a w hn e hd hs h
   obtain ⟨q1, q2⟩ := hd d (List.mem_cons_self ..)
   rw [e]
   have := ih { a with defers := l.map mk } (w.putObj d (.deferred none)) (List.nodup_cons.1 hn).2 rfl (fun k hk => by
    obtain ⟨p1, p2⟩ := hd k (List.mem_cons_of_mem _ hk)
    have hne : k ≠ d := fun e => (List.nodup_cons.1 hn).1 (e ▸ hk)
    exact ⟨by rw [World.putObj_heap_other hne]; exact p1, p2⟩) (hs.putd q1 q2) h
   exact ⟨by simp, .inl ⟨d, _, rfl, run_takeDeferred q1, this⟩⟩
 have key : resR P σ fn.results.toList (fun ds => Q (single ds) σ) → LeavesInM Fence.wide 0 P fn a.tmps R a.defers .returning w := fun h => by
  obtain ⟨l, l1, l2, l3⟩ := hs.df
  exact gen l a w l1 l2 (fun d hd => ⟨(l3 d hd).1, Nat.le_trans hm (l3 d hd).2.2⟩) ⟨hs.nt, .nil rfl, hs.tm, hs.hs⟩ h
 cases ex with
 | normal => exact key hq
 | ret => exact key hq
 | exit id => exact hq.elim
 | goto l => exact hq.elim
 | panic c => exact hq.elim
 | outgrown => exact hq.elim
theorem calls_of_fen {P : Program} {F : FuncId} {fn : Func} {c : Code} {vs : Array Value} {w : World} {R : Ending → World → Prop} (hf : P.funcs[F]? = some fn) (hb : fn.body = some c)
  (h : c.wpIn Fen.top.F Fen.top.n P (bodyPostM Fence.wide 0 P fn R) { tmps := vs ++ Array.replicate (fn.ntmps - vs.size) undef, defers := [] } w) : Calls P F vs w R :=
 callsIn_wide.1 (callsIn_of_wp_marks (F := Fence.wide) (n := 0) hf hb trivial h rfl)
def entry (fn : Func) (ds : List Dat) (n : Nat) : St := { t := fun i => ds.getD i (.oth undef), h := fun _ => none, n := n, nt := ds.length + (fn.ntmps - ds.length) }
theorem HS.start {w : World} {D : Nat → Prop} (hD : ∀ b, D b → b < w.heap.size) (hG : Lay.gp w D) : HS (cx w (fun _ => False) D NP) S0 (fun _ => none) 0 w NP D where
 live := fun i B h => by cases h
 inj := fun i j B C g h => by cases h
 fresh := fun _ _ _ => rfl
 Dlt := hD
 Dsub := fun b h => .inl h
 Dsup := fun b h => h
 psup := PlLe.refl _
 fr := ⟨rfl, rfl, rfl, Nat.le_refl _, fun _ _ => rfl, fun _ _ _ => rfl⟩
 fin := ⟨0, fun _ _ => rfl⟩
 gp := hG
theorem Sim.entry {X : Cx} {fn : Func} {ds : List Dat} {vs : List Value} {w : World} {φ : Pl} {D : Nat → Prop} {n : Nat} (hv : RVs φ D w vs ds) (hs : HS X S0 (fun _ => none) n w φ D) :
  Sim X S0 (entry fn ds n) { tmps := vs.toArray ++ Array.replicate (fn.ntmps - vs.toArray.size) undef, defers := [] } w φ D where
 nt := by simp [Ab.entry, hv.1]
 df := .nil rfl
 tm := fun i => by
  show RV φ D w _ (ds.getD i (.oth undef))
  rw [Array.getD_eq_getD_getElem?, List.getD_eq_getElem?_getD]
  by_cases hi : i < vs.length
  ·have hi' : i < ds.length := by rw [← hv.1]; exact hi
   rw [Array.getElem?_append_left (by simpa using hi), List.getElem?_toArray, List.getElem?_eq_getElem hi, List.getElem?_eq_getElem hi']
   exact hv.2 i _ _ (List.getElem?_eq_getElem hi) (List.getElem?_eq_getElem hi')
  ·rw [List.getElem?_eq_none (by rw [← hv.1]; omega)]
   have : ((vs.toArray ++ Array.replicate (fn.ntmps - vs.toArray.size) undef)[i]?).getD undef = undef := by
    rw [Array.getElem?_append_right (by simpa using hi), Array.getElem?_replicate]
    split <;> rfl
   rw [this]
   exact .oth undef
 hs := hs
theorem Fr.below {w w' : World} {D : Nat → Prop} (h : Fr (cx w (fun _ => False) D NP) w') : Below w.heap.size w w' :=
 ⟨h.os, h.tape, h.output, h.size, fun k hk => h.old k hk (fun h => h)⟩
theorem HS.growD {X : Cx} {S : Nat → Prop} {h : Nat → Option Blk} {n : Nat} {w w' : World} {φ : Pl} {D : Nat → Prop} (H : HS X S h n w φ D) (c : Chg w w' none) : HS X S h n w' φ (fun b => D b ∨ (w.heap.size ≤ b ∧ b < w'.heap.size)) where
 live := fun i B hi => by
  rcases H.live i B hi with h1 | ⟨g, h1, h2, h3, h4⟩
  ·exact .inl h1
  ·refine .inr ⟨g, h1, h2.keep (PlLe.refl _) (fun _ h _ => .inl h) (c.ext (fun _ h => by cases h)) (c.block g h2.lt (by simp)), fun h => .inl (h3 h), fun h => ⟨fun hd => ?_, (h4 h).2⟩⟩
   rcases hd with hd | hd
   ·exact (h4 h).1 hd
   ·have := h2.lt; omega
 inj := H.inj
 fresh := H.fresh
 Dlt := fun b hb => by
  rcases hb with hb | hb
  ·exact Nat.lt_of_lt_of_le (H.Dlt b hb) c.size
  ·exact hb.2
 Dsub := fun b hb => by
  rcases hb with hb | hb
  ·exact H.Dsub b hb
  ·exact .inr (.inr (Nat.le_trans H.fr.size hb.1))
 Dsup := fun b hb => .inl (H.Dsup b hb)
 psup := H.psup
 fr := H.fr.chg c (fun _ h => by cases h)
 fin := H.fin
 gp := Lay.gpk H.gp (c.ext (fun _ h => by cases h)) (fun _ h _ => .inl h)
def frz (h : Nat → Option Blk) : List Nat → List (Nat × Option Blk)
 | [] => []
 | i :: r => (i, (h i).map fun B => { B with fz := true }) :: frz h r
theorem wrs_frz (h : Nat → Option Blk) : ∀ (l : List Nat) (h' : Nat → Option Blk) (k : Nat), wrs h' (frz h l) k = if l.contains k then (h k).map (fun B => { B with fz := true }) else h' k
 | [], h', k => by simp [frz, wrs]
 | i :: r, h', k => by
  rw [frz, wrs, wrs_frz h r]
  by_cases e : r.contains k = true
  ·have e' : k ∈ r := by simpa using e
   simp [e']
  ·rw [if_neg e]
   by_cases e2 : k = i
   ·subst e2; rw [upd_same]; simp
   ·rw [upd_ne _ _ e2]
    have : (i :: r).contains k = false := by simp at e ⊢; exact ⟨e2, e⟩
    rw [this]; rfl
theorem HS.frz1 {X : Cx} {S : Nat → Prop} {h : Nat → Option Blk} {n : Nat} {w : World} {φ : Pl} {D : Nat → Prop} (H : HS X S h n w φ D) (i : Nat) : ∃ D', HS X S (upd h i ((h i).map fun B => { B with fz := true })) n w φ D' ∧ ∀ b, D b → D' b := by
 cases hi : h i with
 | none =>
  refine ⟨D, ?_, fun _ h => h⟩
  have := H.drop i
  simpa using this
 | some B =>
  simp only [Option.map_some]
  cases hf : B.fz with
  | true =>
   refine ⟨D, ?_, fun _ h => h⟩
   have e : upd h i (some { B with fz := true }) = h := by
    funext k
    by_cases e : k = i
    ·subst e; rw [upd_same, hi]; congr 1; cases B; simp_all
    ·rw [upd_ne _ _ e]
   rw [e]; exact H
  | false =>
   rcases H.live i B hi with ⟨q, _⟩ | ⟨g, q, _⟩
   ·exact ⟨D, H.freeze_virt hi q, fun _ h => h⟩
   ·exact ⟨_, H.freeze hi q hf, fun _ h => .inl h⟩
theorem HS.frzs {X : Cx} {S : Nat → Prop} {n : Nat} {w : World} {φ : Pl} : ∀ (l : List Nat) {h : Nat → Option Blk} {D : Nat → Prop}, HS X S h n w φ D → ∃ D', HS X S (wrs h (frz h l)) n w φ D' ∧ ∀ b, D b → D' b
 | [], h, D, H => ⟨D, H, fun _ h => h⟩
 | i :: r, h, D, H => by
  obtain ⟨D1, H1, hd1⟩ := H.frz1 i
  obtain ⟨D2, H2, hd2⟩ := HS.frzs r H1
  refine ⟨D2, ?_, fun b hb => hd2 b (hd1 b hb)⟩
  have e : wrs (upd h i ((h i).map fun B => { B with fz := true })) (frz (upd h i ((h i).map fun B => { B with fz := true })) r) = wrs h (frz h (i :: r)) := by
   funext k
   rw [wrs_frz, wrs_frz]
   by_cases e2 : k = i
   ·subst e2
    rw [upd_same]
    cases h k <;> simp
   ·rw [upd_ne _ _ e2]
    by_cases e : r.contains k = true
    ·have e' : k ∈ r := by simpa using e
     simp [e']
    ·have e' : (i :: r).contains k = false := by simp at e ⊢; exact ⟨e2, e⟩
     rw [if_neg e, e']; simp
  rw [← e]; exact H2
section
variable {P : Program} {σ : St} {i : Nat} {o : Oper} {F : FuncId} {first cap argsD ds : List Dat} {r : Dat} {K : St → Prop}
theorem call_run {f : Operand} {args : Array Operand} {ats : Array TypeId} (ho : o.op = .call { callee := .value f, args, argTypes := ats }) (pc : PC P F ds r) {a : Act} {w : World} {c1 c2 : List Value} (hf : a.eval f = .func (.func F) c1.toArray c2.toArray) :
  (execOp a.eval o).run P w = .ok (.enter F (c1 ++ args.toList.map a.eval ++ c2).toArray) w := by
 obtain ⟨fn, c, h1, h2, h3⟩ := pc.enter
 have e : (c1.toArray ++ Array.map a.eval args ++ c2.toArray) = (c1 ++ args.toList.map a.eval ++ c2).toArray := by
  apply Array.ext'; simp
 unfold execOp
 simp only [ho, resolve, hf, Deferred.ofValue, invoke, Sem.run_bind, Sem.run_pure, Result.andThen_ok]
 rw [e]
 have h3' : ¬ fn.name = "runtime.NumGoroutine" := by simpa using h3
 simp [callFunc, program, Sem.run, h1, h2, h3']
theorem callR_go {fr : List Nat} {fz : Bool} (pc : PC P F ds r) (hp : PurRs (wrs σ.h (frz σ.h fr)) fz (first ++ argsD ++ cap) ds) (hfr : fz = true ∨ Scal r) (hK : K (σ.app o.dst { val := r, wr := frz σ.h fr })) :
  CallR P σ i o (.fn (.func F) first cap) argsD K := by
 intro f args ats ho hf hargs
 refine ⟨_, ?_, hK⟩
 intro X S S' hn hS hS' a w φ D hsim K' Q' hK'
 have hfv := hsim.ev f
 rw [hf] at hfv
 obtain ⟨c1, c2, hfe, h1, h2⟩ := hfv.fn_inv
 have hav := hsim.evs args.toList
 rw [hargs] at hav
 have hall := (h1.append hav).append h2
 unfold Oper.wp
 rw [call_run ho pc hfe, Oper.upon_enter]
 obtain ⟨D1, H1, hd1⟩ := hsim.hs.frzs fr
 have hkeep : ∀ {v d}, RV φ D w v d → RV φ D1 w v d := fun h => RV.keep (PlLe.refl _) (fun b h _ => hd1 b h) (Ext.refl _ _) h
 have hall1 : RVs φ D1 w (c1 ++ args.toList.map a.eval ++ c2) (first ++ argsD ++ cap) := ⟨hall.1, fun i c d hc hd => hkeep (hall.2 i c d hc hd)⟩
 rcases hfr with hfz | hsc
 ·-- nothing but frozen blocks
  subst hfz
  have hrs := hp.rvs H1 (D2 := D1) (fun b h => h) (fun i B g hi hz hφ => by
   rcases H1.live i B hi with ⟨q, _⟩ | ⟨g', q, _, q3, _⟩
   ·rw [hφ] at q; cases q
   ·rw [hφ] at q; injection q with q; injection q with q; subst q; exact q3 (hz rfl)) hall1
  refine (pc.run w D1 _ H1.Dlt H1.gp hrs).mono fun e w' hR => ?_
  obtain ⟨v, rfl, hv, hb⟩ := hR
  have hc := Chg.of_below hb
  have H2 := (H1.growD hc).more hS
  have hstep := hsim.step (dst := o.dst) (d := r) (v := v) H2 (PlLe.refl _) (fun b hb _ => .inl (hd1 b hb)) (hc.ext fun _ h => by cases h)
   (RV.keep (NP_le φ) (fun b hb hlt => by
    rcases hb with hb | hb
    ·exact .inl hb
    ·exact .inr ⟨hb, hlt⟩) (Ext.refl _ _) hv)
  exact hK' _ _ _ _ hstep
 ·-- whatever is borrowed; the answer holds none of it
  have hrs := hp.rvs H1 (D2 := fun b => b < w.heap.size) (fun b h => H1.Dlt b h) (fun i B g hi hz hφ => by
   rcases H1.live i B hi with ⟨q, _⟩ | ⟨g', q, q2, _⟩
   ·rw [hφ] at q; cases q
   ·rw [hφ] at q; injection q with q; injection q with q; subst q; exact q2.lt) hall1
  refine (pc.run w (fun b => b < w.heap.size) _ (fun b h => h) (Lay.gpk H1.gp (Ext.refl _ _) (fun b _ h => h)) hrs).mono fun e w' hR => ?_
  obtain ⟨v, rfl, hv, hb⟩ := hR
  have hc := Chg.of_below hb
  have H2 := (H1.grow hc).more hS
  exact hK' _ _ _ _ (hsim.step (dst := o.dst) (d := r) (v := v) H2 (PlLe.refl _) (fun b hb _ => hd1 b hb) (hc.ext fun _ h => by cases h) (hsc.rv hv))
theorem callR_scal (pc : PC P F ds r) (hsc : Scal r) (hp : PurRs σ.h false (first ++ argsD ++ cap) ds) (hK : K (σ.app o.dst { val := r })) : CallR P σ i o (.fn (.func F) first cap) argsD K :=
 callR_go (fr := []) (fz := false) pc hp (.inr hsc) hK
theorem callR_pure (pc : PC P F ds r) (hp : PurRs σ.h true (first ++ argsD ++ cap) ds) (hK : K (σ.app o.dst { val := r })) : CallR P σ i o (.fn (.func F) first cap) argsD K :=
 callR_go (fr := []) (fz := true) pc hp (.inl rfl) hK
end
end Go.Ab
/- DERIVED. The rules of a walk over abstract states. No program here. -/
namespace Go.Ab
open Go.RowKit
variable [Lay]
variable {fe : Fen}
section
variable {P : Program} {Q : Exit → St → Prop} {σ : St}
theorem awp_skip (h : Q .normal σ) : awp fe P .skip Q σ := by unfold awp; exact h
theorem awp_ret (h : Q .ret σ) : awp fe P .ret Q σ := by unfold awp; exact h
theorem awp_exit {id : Nat} (h : Q (.exit id) σ) : awp fe P (.exit id) Q σ := by unfold awp; exact h
theorem awp_region {id : Nat} {ops : Array Oper} (l : List Oper) (hl : ops.toList = l) (h : AR P l l 0 σ (Q .normal)) : awp fe P (.region id ops false) Q σ := by
 subst hl; unfold awp; exact .inl h
theorem awp_draw {id : Nat} {ops : Array Oper} (l : List Oper) (hl : ops.toList = l) (h : DrawR fe P l σ (Q .normal)) : awp fe P (.region id ops true) Q σ := by
 subst hl; unfold awp; exact h
end
def ent (ds : List Dat) (nt : Nat) : St := { t := fun i => ds.getD i (.oth undef), h := fun _ => none, n := 0, nt := nt }
theorem getD_map {α β : Type} (f : α → β) (l : List α) (k : Nat) (d : β) (d' : α) (h : k < l.length) : (l.map f).getD k d = f (l.getD k d') := by
 simp [List.getD_eq_getElem?_getD, h]
end Go.Ab
namespace Go.Ab
open Go.RowKit
variable [Lay]
variable {fe : Fen}
theorem upd_apply {β : Type} (f : Nat → β) (a : Nat) (b : β) (x : Nat) : upd f a b x = if x = a then b else f x := rfl
theorem AR_nil {P : Program} {ops : List Oper} {i : Nat} {t : Nat → Dat} {h : Nat → Option Blk} {n nt : Nat} {Q : St → Prop} : AR P ops [] i ⟨t, h, n, nt⟩ Q = Q ⟨t, h, n + 8 * ops.length, nt⟩ := rfl
theorem awp_reg {P : Program} {Q : Exit → St → Prop} {σ s : St} {id : Nat} {ops : Array Oper} (l : List Oper) (hl : ops.toList = l) (h : AR P l l 0 σ (fun s' => s' = s)) (k : Q .normal s) : awp fe P (.region id ops false) Q σ := by
 refine awp_region l hl ?_
 have key : ∀ (ops l : List Oper) (i : Nat) (σ : St) (K1 K2 : St → Prop), (∀ σ, K1 σ → K2 σ) → AR P ops l i σ K1 → AR P ops l i σ K2 := by
  intro ops l
  induction l with
  | nil => intro i σ K1 K2 hk h; unfold AR at h ⊢; exact hk _ h
  | cons o l ih =>
   intro i σ K1 K2 hk h
   have st : ∀ {σ : St}, stepR P σ i o (fun σ' => AR P ops l (i + 1) σ' K1) → stepR P σ i o (fun σ' => AR P ops l (i + 1) σ' K2) := by
    intro σ h
    unfold stepR at h ⊢
    split at h
    ·intro f args ats ho hf ha
     obtain ⟨e, he, hk'⟩ := h f args ats ho hf ha
     exact ⟨e, he, ih _ _ _ _ hk hk'⟩
    ·split at h
     ·exact ⟨h.1, ih _ _ _ _ hk h.2⟩
     ·exact h.mono fun s hs => ih _ _ _ _ hk hs
   unfold AR at h ⊢
   split at h
   ·exact st h
   ·split at h
    ·split at h
     ·rename_i e; simp only [if_pos e]; exact st h
     ·rename_i e; simp only [if_neg e]; exact ih _ _ _ _ hk h
    ·exact ih _ _ _ _ hk h
    ·exact h.elim
 exact key _ _ _ _ _ _ (fun σ h => by rw [h]; exact k) h
end Go.Ab
namespace Go.Ab
open Go.RowKit
variable [Lay]
variable {fe : Fen}
def endC (P : Program) (rl : List ResultVar) (r : Dat) : Exit → St → Prop := fun ex σ => match ex with
   | .normal | .ret => resR P σ rl fun ds => PurR σ.h false (single ds) r
   | _ => False
section
variable {P : Program} {Q : Exit → St → Prop} {σ : St} {x y : Code} {id id' : Nat} {I : Nat → (Nat → Dat) → (Nat → Option Blk) → Nat → Prop} {m nt : Nat} {rl : List ResultVar} {r : Dat}
theorem e_r (h : resR P σ rl fun ds => PurR σ.h false (single ds) r) : endC P rl r .ret σ := h
end
theorem PurRs.nil {h : Nat → Option Blk} {fz : Bool} : PurRs h fz [] [] := ⟨rfl, fun i c d h => by simp at h⟩
theorem PurRs.cons {h : Nat → Option Blk} {fz : Bool} {c d : Dat} {cs ds : List Dat} (h1 : PurR h fz c d) (h2 : PurRs h fz cs ds) : PurRs h fz (c :: cs) (d :: ds) :=
 ⟨by simp [h2.1], fun i a b ha hb => by
  cases i with
  | zero => simp at ha hb; subst ha; subst hb; exact h1
  | succ i => simp at ha hb; exact h2.2 i a b ha hb⟩
theorem PurR.agg' {h : Nat → Option Blk} {fz : Bool} {cs ds : List Dat} (h1 : PurRs h fz cs ds) : PurR h fz (.agg cs) (.agg ds) := .agg cs ds h1.1 h1.2
theorem PurR.tup' {h : Nat → Option Blk} {fz : Bool} {cs ds : List Dat} (h1 : PurRs h fz cs ds) : PurR h fz (.tup cs) (.tup ds) := .tup cs ds h1.1 h1.2
theorem PurR.list' {h : Nat → Option Blk} {fz : Bool} {st : Nat} {es fs : List (List Dat)} (hl : es.length = fs.length) (H : ∀ (i : Nat) e f, es[i]? = some e → fs[i]? = some f → PurRs h fz e f) : PurR h fz (.list st es) (.list st fs) :=
 .list st es fs hl (fun i e f he hf => (H i e f he hf).1) fun i e f he hf => (H i e f he hf).2
theorem PurR.listMap {h : Nat → Option Blk} {fz : Bool} {α : Type} {st : Nat} (f : α → List Dat) (l : List α) (H : ∀ x, PurRs h fz (f x) (f x)) : PurR h fz (.list st (l.map f)) (.list st (l.map f)) :=
 .list' rfl fun i e g he hg => by
  rw [he] at hg
  injection hg with hg
  subst hg
  rw [List.getElem?_map] at he
  cases hx : l[i]? with
  | none => simp [hx] at he
  | some x => simp [hx] at he; subst he; exact H x
theorem PurR.own {h : Nat → Option Blk} {fz : Bool} {i len st : Nat} {B : Blk} {fs : List (List Dat)} (hB : h i = some B) (hz : fz = true → B.fz = true) (hst : B.st = st) (hlen : len = B.es.length) (hl : fs.length = len)
  (H : ∀ (k : Nat) e f, B.es[k]? = some e → fs[k]? = some f → PurRs h fz e f) : PurR h fz (.ref i 0 len st) (.list st fs) :=
 .ref i 0 len st B fs hB hz hst (by omega) hl (fun k e f he hf => (H k e f (by simpa using he) hf).1) fun k e f he hf => (H k e f (by simpa using he) hf).2
theorem wrap64 {x : Int} (h1 : -9223372036854775808 ≤ x) (h2 : x ≤ 9223372036854775807) : IntKind.i64.wrap x = x := by
 rw [IntKind.wrap_i64]; omega
end Go.Ab
namespace Go.Ab
variable [Lay]
variable {fe : Fen}
theorem upd_upd {β : Type} (f : Nat → β) (a : Nat) (b c : β) : upd (upd f a b) a c = upd f a c := by
 funext x; simp only [upd]; split <;> rfl
end Go.Ab
namespace Go.Ab
variable [Lay]
variable {fe : Fen}
section
variable (b : Bool) (k : IntKind) (n i j o l st : Nat) (z : Int) (s : ByteArray) (cs c2 : List Dat) (es : List (List Dat)) (f : Fn) (v : Value)
theorem cells_bool : (Dat.bool b).cells = [.bool b] := rfl
theorem cells_int : (Dat.int k z).cells = [.int k z] := rfl
theorem cells_str : (Dat.str s).cells = [.str s] := rfl
theorem cells_agg : (Dat.agg cs).cells = cs := rfl
theorem cells_nil : Dat.nil.cells = [.nil] := rfl
theorem cells_list : (Dat.list st es).cells = [.list st es] := rfl
theorem cells_ref : (Dat.ref i o l st).cells = [.ref i o l st] := rfl
theorem cells_ptr : (Dat.ptr i j o st).cells = [.ptr i j o st] := rfl
theorem cells_fn : (Dat.fn f cs c2).cells = [.fn f cs c2] := rfl
theorem cells_oth : (Dat.oth v).cells = v.cells.toList.map Dat.oth := rfl
theorem one_bool : (Dat.bool b).one = true := rfl
theorem one_int : (Dat.int k z).one = true := rfl
theorem one_str : (Dat.str s).one = true := rfl
theorem one_nil : Dat.nil.one = true := rfl
theorem one_list : (Dat.list st es).one = true := rfl
theorem one_ref : (Dat.ref i o l st).one = true := rfl
theorem one_ptr : (Dat.ptr i j o st).one = true := rfl
theorem one_fn : (Dat.fn f cs c2).one = true := rfl
theorem one_oth : (Dat.oth v).one = v.oneCell' := rfl
end
end Go.Ab
