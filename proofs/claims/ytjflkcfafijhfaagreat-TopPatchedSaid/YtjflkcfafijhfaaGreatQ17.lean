import Derived.Test.YtjflkcfafijhfaaGreatQ16
import Derived.RangeFuncIn
import Derived.RangeFuncSeq
set_option linter.unusedSectionVars false
/- A range over a function: the contract of an iterator, and the rule of the loop. No program here. -/
set_option linter.unusedSectionVars false
namespace Go.Ab
open Go.RowKit
variable [Lay]
def LLh (h : Nat → Option Blk) (φ : Pl) : Nat → Prop := fun g => ∃ i B, h i = some B ∧ B.fz = false ∧ φ i = some (some g)
abbrev Xh (w : World) (m : Nat) (hm : m ≤ w.heap.size) (h : Nat → Option Blk) (np : Nat) (φ : Pl) (D : Nat → Prop) : Cx := { w0 := w, L0 := LLh h φ, D0 := D, p0 := pin np φ, m0 := m, hm := hm }
theorem Chg.refl (w : World) (row : Option Nat) : Chg w w row := ⟨rfl, rfl, rfl, Nat.le_refl _, fun _ _ => rfl, fun _ _ _ => rfl⟩
section
variable {m : Nat} {X : Cx} {S S' : Nat → Prop} {h h' : Nat → Option Blk} {n n' np : Nat} {w w' : World} {hm : m ≤ w'.heap.size} {hm0 : m ≤ w.heap.size} {φ φ' : Pl} {D D' D2 : Nat → Prop} {row : Option Nat}
theorem HS.side (H : HS X S h n w φ D) (c : Chg w w' row) (hr : ∀ r, row = some r → ¬ D r ∧ (∀ i B, h i = some B → φ i ≠ some (some r)) ∧ X.w0.heap.size ≤ r) : HS X S h n w' φ D where
 live := fun i B hi => by
  rcases H.live i B hi with h1 | ⟨g, h1, h2, h3, h4⟩
  ·exact .inl h1
  ·exact .inr ⟨g, h1, h2.keep (PlLe.refl _) (fun _ h _ => h) (c.ext (fun r e => (hr r e).1)) (c.block g h2.lt fun e => (hr g e.symm).2.1 i B hi h1), h3, h4⟩
 inj := H.inj
 fresh := H.fresh
 Dlt := fun b hb => Nat.lt_of_lt_of_le (H.Dlt b hb) c.size
 Dsub := H.Dsub
 Dsup := H.Dsup
 psup := H.psup
 fr := H.fr.chg c (fun r e => .inr (hr r e).2.2)
 fin := H.fin
 gp := Lay.gpk H.gp (c.ext (fun r e => (hr r e).1)) (fun _ h _ => h)
theorem HS.root (H : HS X S h n w φ D) (c : Chg w w' row) (hr : ∀ r, row = some r → ¬ D r ∧ (∀ i B, h i = some B → φ i ≠ some (some r))) (hD : ∀ b, D b → D2 b) (hlt : ∀ b, D2 b → b < w'.heap.size)
  (hown : ∀ g, LLh h φ g → ¬ D2 g) : HS (Xh w' m hm h np φ D2) S h n w' φ D2 where
 live := fun i B hi => by
  rcases H.live i B hi with h1 | ⟨g, h1, h2, h3, h4⟩
  ·exact .inl h1
  ·exact .inr ⟨g, h1, h2.keep (PlLe.refl _) (fun b h _ => hD b h) (c.ext (fun r e => (hr r e).1)) (c.block g h2.lt fun e => (hr g e.symm).2 i B hi h1), fun hf => hD g (h3 hf), fun hf => ⟨hown g ⟨i, B, hi, hf, h1⟩, .inl ⟨i, B, hi, hf, h1⟩⟩⟩
 inj := H.inj
 fresh := H.fresh
 Dlt := hlt
 Dsub := fun b hb => .inl hb
 Dsup := fun b hb => hb
 psup := fun i x hx => by
  have hx : pin np φ i = some x := hx
  unfold pin at hx
  split at hx
  ·exact hx
  ·cases hx
 fr := ⟨rfl, rfl, rfl, Nat.le_refl _, fun _ _ => rfl, fun _ _ _ => rfl⟩
 fin := H.fin
 gp := Lay.gpk H.gp (c.ext (fun r e => (hr r e).1)) (fun b h _ => hD b h)
theorem HS.own (H : HS X S h n w φ D) {g : Nat} (hg : LLh h φ g) : ¬ D g ∧ (X.L0 g ∨ X.w0.heap.size ≤ g) ∧ g < w.heap.size := by
 obtain ⟨i, B, hi, hf, hp⟩ := hg
 rcases H.live i B hi with ⟨h1, _⟩ | ⟨g', h1, h2, _, h4⟩
 ·rw [hp] at h1; cases h1
 ·rw [hp] at h1; injection h1 with h1; injection h1 with h1; subst h1
  exact ⟨(h4 hf).1, (h4 hf).2, h2.lt⟩
theorem HS.unroot (H : HS X S h n w φ D) (H' : HS (Xh w m hm0 h np φ D2) S' h' n' w' φ' D') (hX : ∀ i, np ≤ i → X.p0 i = none) (hD : ∀ b, D b → D2 b) (hsub : ∀ b, D2 b → X.D0 b ∨ X.L0 b ∨ X.w0.heap.size ≤ b) : HS X S' h' n' w' φ' D' where
 live := fun i B hi => by
  rcases H'.live i B hi with h1 | ⟨g, h1, h2, h3, h4⟩
  ·exact .inl h1
  ·refine .inr ⟨g, h1, h2, h3, fun hf => ⟨(h4 hf).1, ?_⟩⟩
   rcases (h4 hf).2 with h5 | h5
   ·exact (H.own h5).2.1
   ·exact .inr (Nat.le_trans H.fr.size h5)
 inj := H'.inj
 fresh := H'.fresh
 Dlt := H'.Dlt
 Dsub := fun b hb => by
  rcases H'.Dsub b hb with h1 | h1 | h1
  ·exact hsub b h1
  ·exact .inr (H.own h1).2.1
  ·exact .inr (.inr (Nat.le_trans H.fr.size h1))
 Dsup := fun b hb => H'.Dsup b (hD b (H.Dsup b hb))
 psup := fun i x hx => by
  have hi : i < np := by
   rcases Nat.lt_or_ge i np with h1 | h1
   ·exact h1
   ·rw [hX i h1] at hx; cases hx
  refine H'.psup i x ?_
  show pin np φ i = some x
  unfold pin
  rw [if_pos hi]
  exact H.psup i x hx
 fr := ⟨H'.fr.os.trans H.fr.os, H'.fr.tape.trans H.fr.tape, H'.fr.output.trans H.fr.output, Nat.le_trans H.fr.size H'.fr.size,
  fun b hb => (H'.fr.shape b (Nat.lt_of_lt_of_le hb H.fr.size)).trans (H.fr.shape b hb), fun b hb hl => by
   refine (H'.fr.old b (Nat.lt_of_lt_of_le hb H.fr.size) fun hll => ?_).trans (H.fr.old b hb hl)
   rcases (H.own hll).2.1 with h1 | h1
   ·exact hl h1
   ·omega⟩
 fin := H'.fin
 gp := H'.gp
theorem HS.keptAt (H' : HS (Xh w m hm0 h np φ D2) S' h' n' w' φ' D') {b : Nat} (hb : b < w.heap.size) (hn : ¬ LLh h φ b) : w'.heap[b]? = w.heap[b]? := H'.fr.old b hb hn
theorem HS.cameOf (H' : HS (Xh w m hm0 h np φ D2) S' h' n' w' φ' D') {b : Nat} (hb : D' b ∨ LLh h' φ' b) : D2 b ∨ LLh h φ b ∨ w.heap.size ≤ b := by
 rcases hb with hb | hb
 ·exact H'.Dsub b hb
 ·exact .inr (H'.own hb).2.1
theorem HS.placed (H : HS X S h n w φ D) {g i : Nat} {B : Blk} (hi : h i = some B) (hp : φ i = some (some g)) : D g ∨ LLh h φ g := by
 cases hf : B.fz with
 | true =>
  rcases H.live i B hi with ⟨h1, _⟩ | ⟨g', h1, _, h3, _⟩
  ·rw [hp] at h1; cases h1
  ·rw [hp] at h1; injection h1 with h1; injection h1 with h1; subst h1; exact .inl (h3 hf)
 | false => exact .inr ⟨i, B, hi, hf, hp⟩
end
theorem HS.addD {X : Cx} {S : Nat → Prop} {h : Nat → Option Blk} {n : Nat} {w : World} {φ : Pl} {D : Nat → Prop} (H : HS X S h n w φ D) {d : Nat} (hd : d < w.heap.size) (hn : ¬ LLh h φ d) (hx : X.w0.heap.size ≤ d) : HS X S h n w φ (fun x => D x ∨ x = d) where
 live := fun i B hi => by
  rcases H.live i B hi with h1 | ⟨g, h1, h2, h3, h4⟩
  ·exact .inl h1
  ·refine .inr ⟨g, h1, h2.keep (PlLe.refl _) (fun _ h _ => .inl h) (Ext.refl _ _) rfl, fun hf => .inl (h3 hf), fun hf => ⟨fun hg => ?_, (h4 hf).2⟩⟩
   rcases hg with hg | hg
   ·exact (h4 hf).1 hg
   ·subst hg; exact hn ⟨i, B, hi, hf, h1⟩
 inj := H.inj
 fresh := H.fresh
 Dlt := fun b hb => by
  rcases hb with hb | hb
  ·exact H.Dlt b hb
  ·rw [hb]; exact hd
 Dsub := fun b hb => by
  rcases hb with hb | hb
  ·exact H.Dsub b hb
  ·rw [hb]; exact .inr (.inr hx)
 Dsup := fun b hb => .inl (H.Dsup b hb)
 psup := H.psup
 fr := H.fr
 fin := H.fin
 gp := Lay.gpk H.gp (Ext.refl _ _) (fun b h _ => .inl h)
structure Kept (D U : Nat → Prop) (n : Nat) (A B : World) : Prop where
 os : B.os = A.os
 tape : B.tape = A.tape
 output : B.output = A.output
 size : A.heap.size ≤ B.heap.size
 shape : ∀ b, b < A.heap.size → B.shape? b = A.shape? b
 same : ∀ b, b < A.heap.size → (D b ∨ (n ≤ b ∧ ¬ U b)) → B.heap[b]? = A.heap[b]?
structure IterC (P : Program) (gf : FuncId) (ds : List Dat) (ys : List (List Dat)) : Prop where
 enter : ∃ fn c, P.funcs[gf]? = some fn ∧ fn.body = some c ∧ (fn.name == "runtime.NumGoroutine") = false
 run : ∀ (w : World) (D : Nat → Prop) (vs : List Value), (∀ b, D b → b < w.heap.size) → Lay.gp w D → RVs NP D w vs ds →
  ∀ (l : Nat) (J : (Nat → Prop) → Nat → World → Prop) (Jx : (Nat → Prop) → World → Prop) (U0 : Nat → Prop),
   (∀ U k A B row, J U k A → Chg A B row → (∀ r, row = some r → w.heap.size ≤ r ∧ ¬ U r) → J U k B) →
   (∀ U A B row, Jx U A → Chg A B row → (∀ r, row = some r → w.heap.size ≤ r ∧ ¬ U r) → Jx U B) →
   (∀ m U k e A D' args, ys[k]? = some e → J U k A → RVs NP D' A args e → (∀ b, D' b → b < A.heap.size ∧ (D b ∨ (w.heap.size ≤ b ∧ ¬ U b))) → Lay.gp A D' →
    YieldAt Fence.wide m P l args.toArray A fun v B => ∃ U', (∀ b, U' b → b < B.heap.size ∧ (U b ∨ D' b ∨ A.heap.size ≤ b)) ∧ Kept D U w.heap.size A B ∧
     ((v = .returned (.bool true) ∧ J U' (k + 1) B) ∨ (v = .returned (.bool false) ∧ Jx U' B))) →
   (∀ b, U0 b → b < w.heap.size) → J U0 0 w →
   ∀ m, CallsIn Fence.wide m P gf (#[.func (.yield l) #[] #[]] ++ vs.toArray) w fun v B => (∃ x, v = .returned x) ∧ ∃ U, J U ys.length B ∨ Jx U B
def renP (np : Nat) : Nat → Option Nat := fun i => if i < np then some i else none
def setps : List Nat → List Dat → (Nat → Dat) → Nat → Dat
 | p :: ps, d :: ds, t => setps ps ds (upd t p d)
 | _, _, t => t
theorem tl_get (L : List (Nat × Dat)) (i : Nat) : (∃ p ∈ L, p.1 = i ∧ ∀ t0, tl t0 L i = p.2) ∨ ∀ t0, tl t0 L i = t0 i := by
 induction L with
 | nil => exact .inr fun _ => rfl
 | cons p L ih =>
  obtain ⟨a, d⟩ := p
  by_cases e : i = a
  ·subst e; exact .inl ⟨(i, d), List.mem_cons_self .., rfl, fun t0 => by rw [tl_cons, upd_same]⟩
  ·rcases ih with ⟨q, h1, h2, h3⟩ | h
   ·exact .inl ⟨q, List.mem_cons_of_mem _ h1, h2, fun t0 => by rw [tl_cons, upd_ne _ _ e]; exact h3 t0⟩
   ·exact .inr fun t0 => by rw [tl_cons, upd_ne _ _ e]; exact h t0
theorem setps_rv {φ : Pl} {D : Nat → Prop} {w : World} : ∀ (ps : List Nat) (vs : List Value) (ds : List Dat) (tm : Array Value) (t : Nat → Dat), (∀ p ∈ ps, p < tm.size) → RVs φ D w vs ds → ds.length = ps.length → (∀ i, RV φ D w (tm.getD i undef) (t i)) →
  ((ps.zip vs).foldl (fun t (x : Nat × Value) => t.setIfInBounds x.1 x.2) tm).size = tm.size ∧ ∀ i, RV φ D w (((ps.zip vs).foldl (fun t (x : Nat × Value) => t.setIfInBounds x.1 x.2) tm).getD i undef) (setps ps ds t i)
 | [], vs, ds, tm, t, hp, hv, hl, ht => ⟨by simp, fun i => by
   match ds, hl with
   | [], _ => simpa [setps] using ht i⟩
 | p :: ps, vs, [], tm, t, hp, hv, hl, ht => by cases hl
 | p :: ps, [], d :: ds, tm, t, hp, hv, hl, ht => by cases hv.1
 | p :: ps, v :: vs, d :: ds, tm, t, hp, hv, hl, ht => by
  have h1 := setps_rv ps vs ds (tm.setIfInBounds p v) (upd t p d) (fun q hq => by simpa using hp q (List.mem_cons_of_mem _ hq)) ⟨by simpa using hv.1, fun i c d hc hd => hv.2 (i + 1) c d hc hd⟩ (by simpa using hl) fun i => by
   have hpt : p < tm.size := hp p (List.mem_cons_self ..)
   by_cases e : i = p
   ·subst e
    rw [upd_same, Array.getD_eq_getD_getElem?]
    simp [hpt]
    exact hv.2 0 v d rfl rfl
   ·rw [upd_ne _ _ e, Array.getD_eq_getD_getElem?, Array.getElem?_setIfInBounds_ne (Ne.symm e), ← Array.getD_eq_getD_getElem?]
    exact ht i
  exact ⟨by simpa using h1.1, fun i => by simpa [setps] using h1.2 i⟩
def rfA (fe : Fen) (np : Nat) (P : Program) (body : Code) (Q : Exit → St → Prop) : Exit → St → Prop := fun ex σ => match ex with | .normal => aw fe np P body Q σ | _ => False
def rfQ (np : Nat) (J : List Blk → Prop) (Jx : Code → List Blk → Prop) : Exit → St → Prop := fun ex σ => match ex with
 | .normal => WkS np σ fun s => ∃ b, J b ∧ s.h = hl b ∧ s.n = b.length
 | .ret => WkS np σ fun s => ∃ b, Jx .ret b ∧ s.h = hl b ∧ s.n = b.length
 | .exit id => WkS np σ fun s => ∃ b, Jx (.exit id) b ∧ s.h = hl b ∧ s.n = b.length
 | .goto t => WkS np σ fun s => ∃ b, Jx (.goto t) b ∧ s.h = hl b ∧ s.n = b.length
 | _ => False
theorem RNs.rv {h : Nat → Option Blk} {ren : Nat → Option Nat} {vt fr : Nat → Prop} {ds rs : List Dat} (hp : RNs h ren vt fr ds rs) {X : Cx} {S : Nat → Prop} {n : Nat} {w : World} {φ φ' : Pl} {D D2 : Nat → Prop} (H : HS X S h n w φ D) (hD : ∀ b, D b → D2 b)
  (hr : ∀ j i, ren j = some i → φ' j = φ i) (hvt : ∀ j, ren j = none → vt j → φ' j = some none)
  (hL : ∀ i B g, h i = some B → fr i → φ i = some (some g) → D2 g) {vs : List Value} (hv : RVs φ D w vs ds) : RVs φ' D2 w vs rs :=
 ⟨hv.1.trans hp.1, fun i c d hc hd => by
  have hi : i < ds.length := by rw [hp.1]; exact (List.getElem?_eq_some_iff.1 hd).1
  exact (hp.2 i _ d (List.getElem?_eq_getElem hi) hd).rv H hD hr hvt hL (hv.2 i c _ hc (List.getElem?_eq_getElem hi))⟩
theorem Chg.loop {w : World} {l : Nat} {r r' : Loop} (h : w.heap[l]? = some (.loop r)) : Chg w (w.putObj l (.loop r')) (some l) := by
 have hl : l < w.heap.size := (Array.getElem?_eq_some_iff.1 h).1
 refine ⟨rfl, rfl, rfl, by simp, fun k _ => ?_, fun k _ hne => World.putObj_heap_other (fun e => hne (by rw [e]))⟩
 by_cases e : k = l
 ·subst e; simp [World.shape?, h, World.putObj_heap_same hl]
 ·exact shape_of_heap (World.putObj_heap_other e)
theorem enters {P : Program} {gf : FuncId} (h : ∃ fn c, P.funcs[gf]? = some fn ∧ fn.body = some c ∧ (fn.name == "runtime.NumGoroutine") = false) (args : Array Value) (w : World) : (callFunc gf args).run P w = .ok (.enter gf args) w := by
 obtain ⟨fn, c, h1, h2, h3⟩ := h
 have h3' : ¬ fn.name = "runtime.NumGoroutine" := by simpa using h3
 simp [callFunc, program, Sem.run, h1, h2, h3']
section
variable {np : Nat} {P : Program} {Q : Exit → St → Prop} {g : Operand} {ps : Array Tmp} {as body : Code} {nt : Nat} {t0 : Nat → Dat} {hb : List Blk} {gf : FuncId} {lb : List Dat} {ys : List (List Dat)}
theorem a_rf (np' : Nat) (L : List (Nat × Dat)) (it : IterC P gf lb ys) (pl : List Nat) (I : Nat → List Blk → Prop) (Ix : Code → List Blk → Prop) (hnp : np ≤ np') (hpl : ps.toList = pl) (hps : ∀ e ∈ ys, e.length = pl.length) (hpn : ∀ p ∈ pl, p < nt)
  (hg : (⟨tl t0 L, hl hb, hb.length, nt⟩ : St).ev g = .fn (.func gf) [] lb) (hlb : RNs (fun _ => none) (renP 0) noV noV lb lb) (hL : ∀ p ∈ L, RN (fun _ => none) (renP np') noV noV p.2 p.2)
  (h0 : I 0 hb)
  (hr : ∀ (fe : Fen) k e b t0, ys[k]? = some e → I k b → aw fe np' P as (rfA fe np' P body (rfQ np' (I (k + 1)) Ix)) ⟨setps pl e (tl t0 L), hl b, b.length, nt⟩)
  (hd : ∀ b t0, I ys.length b → Q .normal ⟨tl t0 L, hl b, b.length, nt⟩)
  (hx : ∀ c b t0, Ix c b → aw Fen.top np P c Q ⟨tl t0 L, hl b, b.length, nt⟩) :
  aw Fen.top np P (.rangeFunc g ps as body) Q ⟨tl t0 L, hl hb, hb.length, nt⟩ := fun X hX a w φ D hs => by
 have H := hs.hs
 have hgv := hs.ev g
 rw [hg] at hgv
 obtain ⟨c1, lv, hge, hc1, hlv⟩ := hgv.fn_inv
 obtain rfl : c1 = [] := List.eq_nil_of_length_eq_zero hc1.1
 have He : HS X S0 (fun _ => none) hb.length w φ D := H.sub (fun j B h => by cases h)
 have hX' : ∀ i, np' ≤ i → X.p0 i = none := fun i hi => hX i (Nat.le_trans hnp hi)
 -- the frame's values
 have hT : ∀ i, (∃ d, (∀ t, tl t L i = d) ∧ RV (pin np' φ) D w (a.tmps.getD i undef) d) ∨ ∀ t, tl t L i = t i := fun i => by
  rcases tl_get L i with ⟨p, hp, rfl, h⟩ | h
  ·refine .inl ⟨p.2, h, (hL p hp).rv He (fun _ h => h) (fun j i e => ?_) (fun _ _ h => h.elim) (fun _ _ _ h => by cases h) (by rw [← h t0]; exact hs.tm p.1)⟩
   unfold renP at e
   split at e
   ·rename_i hj; injection e with e; subst e; show pin np' φ j = φ j; unfold pin; rw [if_pos hj]
   ·cases e
  ·exact .inr h
 obtain ⟨t1, ht1⟩ : ∃ t1 : Nat → Dat, t1 = fun i => .oth (a.tmps.getD i undef) := ⟨_, rfl⟩
 have tmv : ∀ {φ2 : Pl} {D2 : Nat → Prop} {W : World}, PlLe (pin np' φ) φ2 → (∀ b, D b → D2 b) → Ext D w W → ∀ i, RV φ2 D2 W (a.tmps.getD i undef) (tl t1 L i) := fun h1 h2 h3 i => by
  rcases hT i with ⟨d, hd, hv⟩ | h
  ·rw [hd t1]; exact hv.keep h1 (fun b h _ => h2 b h) h3
  ·rw [h t1, ht1]; exact .oth _
 have hlvN : RVs NP D w lv lb := hlb.rv He (fun _ h => h) (fun j i e => by simp [renP] at e) (fun _ _ h => h.elim) (fun _ _ _ h => by cases h) hlv
 refine wpIn_rangeFunc fun fn hfn => ?_
 obtain ⟨rec, hrec⟩ : ∃ rec : LoopState → Option Code → Loop, rec = fun st pe => { state := st, pending := pe, fn, tmps := a.tmps, params := ps, assign := as, body, defers := w.heap.size } := ⟨_, rfl⟩
 obtain ⟨W1, hW1⟩ : ∃ W1, (w.alloc (.deferred (some []))).alloc (.loop (rec .ready none)) = W1 := ⟨_, rfl⟩
 have cW : Chg w W1 none := by rw [← hW1]; exact (Chg.alloc w _).trans (Chg.alloc _ _)
 have hsz : W1.heap.size = w.heap.size + 2 := by rw [← hW1]; simp
 have hL1 : W1.heap[w.heap.size + 1]? = some (.loop (rec .ready none)) := by
  rw [← hW1]; have := World.alloc_heap_new (w.alloc (.deferred (some []))) (.loop (rec .ready none)); rwa [World.size_alloc] at this
 have hK1 : W1.heap[w.heap.size]? = some (.deferred (some [])) := by
  rw [← hW1]; exact (Below.heap_alloc _ _ _ (by simp)).trans (World.alloc_heap_new w _)
 have eD : Ext D w W1 := cW.ext (fun _ h => by cases h)
 have HW := H.grow cW
 -- what the caller's state is between rounds
 obtain ⟨C, hC⟩ : ∃ C : (Nat → Prop) → List Blk → World → LoopState → Option Code → Prop, C = fun U b A st pe => ∃ φk Dk, HS X S0 (hl b) b.length A φk Dk ∧ PlLe (pin np' φ) φk ∧ (∀ x, D x → Dk x) ∧ Ext D w A ∧
   A.heap[w.heap.size]? = some (.deferred (some [])) ∧ A.heap[w.heap.size + 1]? = some (.loop (rec st pe)) ∧ (∀ x, (x = w.heap.size ∨ x = w.heap.size + 1) → ¬ Dk x ∧ ¬ LLh (hl b) φk x) ∧ U = fun x => Dk x ∨ LLh (hl b) φk x := ⟨_, rfl⟩
 have Cst : ∀ {U b A B row st pe}, C U b A st pe → Chg A B row → (∀ r, row = some r → W1.heap.size ≤ r ∧ ¬ U r) → C U b B st pe := fun {U b A B row st pe} hc c hr => by
  rw [hC] at hc ⊢
  obtain ⟨φk, Dk, h1, h2, h3, h4, h5, h6, h7, rfl⟩ := hc
  have hDr : ∀ r, row = some r → ¬ Dk r := fun r e h => (hr r e).2 (.inl h)
  refine ⟨φk, Dk, h1.side c (fun r e => ⟨hDr r e, fun i B hi hp => (hr r e).2 (h1.placed hi hp), ?_⟩), h2, h3, h4.trans ((c.ext hDr).mono fun b hb _ => h3 b hb), ?_, ?_, h7, rfl⟩
  ·have := (hr r e).1; have := H.fr.size; omega
  ·rw [c.block _ (Array.getElem?_eq_some_iff.1 h5).1 (fun e => by have := (hr _ e.symm).1; omega)]; exact h5
  ·rw [c.block _ (Array.getElem?_eq_some_iff.1 h6).1 (fun e => by have := (hr _ e.symm).1; omega)]; exact h6
 have Cend : ∀ {U b A st pe st' pe'}, C U b A st pe → C U b (A.putObj (w.heap.size + 1) (.loop (rec st' pe'))) st' pe' := fun {U b A st pe st' pe'} hc => by
  rw [hC] at hc ⊢
  obtain ⟨φk, Dk, h1, h2, h3, h4, h5, h6, h7, rfl⟩ := hc
  have c := Chg.loop (r' := rec st' pe') h6
  have hDr : ∀ r, some (w.heap.size + 1) = some r → ¬ Dk r := fun r e => by injection e with e; subst e; exact (h7 _ (.inr rfl)).1
  refine ⟨φk, Dk, h1.side c (fun r e => ⟨hDr r e, fun i B hi hp => ?_, ?_⟩), h2, h3, h4.trans ((c.ext hDr).mono fun b hb _ => h3 b hb), ?_, ?_, h7, rfl⟩
  ·injection e with e; subst e
   rcases h1.placed hi hp with h | h
   ·exact (h7 _ (.inr rfl)).1 h
   ·exact (h7 _ (.inr rfl)).2 h
  ·injection e with e; subst e; have := H.fr.size; omega
  ·rw [World.putObj_heap_other (by omega)]; exact h5
  ·exact World.putObj_heap_same (Array.getElem?_eq_some_iff.1 h6).1
 refine ⟨w.heap.size + 1, [{ target := .collected w.heap.size, args := #[] }], W1, { target := .fn (.func gf) lv.toArray, args := #[.func (.yield (w.heap.size + 1)) #[] #[]] }, W1, gf,
  #[.func (.yield (w.heap.size + 1)) #[] #[]] ++ lv.toArray, W1, ?_, ?_, ?_, ?_, ?_, ?_⟩
 ·rw [← hW1, hrec]; exact run_enterLoop_outer _ _ _ _ _
 ·simp only [resolve, hge]
  simp [go_sem]
 ·intro f' hf'; exact trivial
 ·simp [invoke, go_sem, enters it.enter]
 ·intro h; cases h
 refine (it.run W1 D lv (fun b hb => Nat.lt_of_lt_of_le (H.Dlt b hb) cW.size) (Lay.gpk H.gp eD (fun _ h _ => h)) (hlvN.keep (PlLe.refl _) (fun _ h _ => h) eD) (w.heap.size + 1)
  (fun U k A => ∃ b, I k b ∧ C U b A .ready none) (fun U A => ∃ c b, Ix c b ∧ C U b A .done (some c)) (fun x => D x ∨ LLh (hl hb) φ x) ?_ ?_ ?_ ?_ ?_ _).mono ?_
 ·rintro U k A B row ⟨b, hI, hc⟩ c hr; exact ⟨b, hI, Cst hc c hr⟩
 ·rintro U A B row ⟨c, b, hI, hc⟩ c' hr; exact ⟨c, b, hI, Cst hc c' hr⟩
 ·-- one round
  rintro m U k e A D' args hy ⟨b, hI, hc⟩ hargs hD' hG'
  rw [hC] at hc
  obtain ⟨φk, Dk, Hk, hpin, hDk, hext, hkd, hkl, hcl, rfl⟩ := hc
  have hlA : w.heap.size + 1 < A.heap.size := (Array.getElem?_eq_some_iff.1 hkl).1
  have hel : e.length = pl.length := hps e (List.mem_of_getElem? hy)
  have hyld := run_yield (P := P) (args := args.toArray) hkl (by rw [hrec]; simp only [List.size_toArray]; rw [hargs.1, hel, ← hpl, Array.length_toList])
  obtain ⟨T, hT1⟩ : ∃ T : Array Value, T = (pl.zip args).foldl (fun t (x : Nat × Value) => t.setIfInBounds x.1 x.2) a.tmps := ⟨_, rfl⟩
  have hT2 : (((rec .ready none).params.zip args.toArray).foldl (fun tmps (t, a) => tmps.setIfInBounds t a) (rec .ready none).tmps) = T := by
   rw [hT1, hrec, ← hpl, ← Array.foldl_toList, Array.toList_zip]
  rw [hT2] at hyld
  have hfn1 : (rec .ready none).fn = fn ∧ (rec .ready none).assign = as ∧ (rec .ready none).body = body := by rw [hrec]; exact ⟨rfl, rfl, rfl⟩
  rw [hfn1.1, hfn1.2.1, hfn1.2.2] at hyld
  refine ⟨fn, T, as, body, hyld, roundIn_of_wpIn trivial ?_⟩
  have hmA : X.m0 ≤ A.heap.size := by have := X.hm; have := H.fr.size; omega
  let Dm : Nat → Prop := fun x => Dk x ∨ D' x
  have hown : ∀ g, LLh (hl b) φk g → ¬ Dm g := fun g hg hd => by
   rcases hd with hd | hd
   ·exact (Hk.own hg).1 hd
   ·rcases (hD' g hd).2 with h | ⟨_, h⟩
    ·exact (Hk.own hg).1 (hDk g h)
    ·exact h (.inr hg)
  have Hr : HS (Xh A X.m0 hmA (hl b) np' φk Dm) S0 (hl b) b.length A φk Dm := Hk.root (Chg.refl A none) (fun r e => by cases e) (fun b h => .inl h) (fun b hb => by
   rcases hb with hb | hb
   ·exact Hk.Dlt b hb
   ·exact (hD' b hb).1) hown
  have hpX : ∀ (ψ : Pl) i, np' ≤ i → pin np' ψ i = none := fun ψ i hi => by unfold pin; rw [if_neg (by omega)]
  have hset := setps_rv (φ := φk) (D := Dm) (w := A) pl args e a.tmps (tl t1 L) (fun p hp => by rw [hs.nt]; exact hpn p hp) (hargs.keep (NP_le _) (fun b h _ => .inr h) (Ext.refl _ _)) hel (tmv hpin (fun b h => .inl (hDk b h)) hext)
  rw [← hT1] at hset
  have hsim : Sim (Xh A X.m0 hmA (hl b) np' φk Dm) S0 ⟨setps pl e (tl t1 L), hl b, b.length, nt⟩ { tmps := T, defers := [] } A φk Dm := ⟨hset.1.trans hs.nt, .nil rfl, hset.2, Hr⟩
  refine wpIn_mono (hr ⟨some (w.heap.size + 1), m⟩ k e b t1 hy hI (Xh A X.m0 hmA (hl b) np' φk Dm) (hpX φk) _ A φk Dm hsim) fun ex a1 w1 hc1 => ?_
  obtain ⟨σ1, φ1, D1, hq, hs1⟩ := hc1
  cases ex with
  | normal =>
   have hl1 : w1.heap[w.heap.size + 1]? = some (.loop (rec .ready none)) := (hs1.hs.keptAt hlA (hcl _ (.inr rfl)).2).trans hkl
   have cl1 : ∀ x, (x = w.heap.size ∨ x = w.heap.size + 1) → ¬ D1 x ∧ ¬ LLh σ1.h φ1 x := fun x hx => by
    have key : ¬ (D1 x ∨ LLh σ1.h φ1 x) := fun h => by
     rcases hs1.hs.cameOf h with (h1 | h1) | h1 | h1
     ·exact (hcl x hx).1 h1
     ·rcases (hD' x h1).2 with h2 | ⟨h2, _⟩
      ·exact (hcl x hx).1 (hDk x h2)
      ·omega
     ·exact (hcl x hx).2 h1
     ·omega
    exact ⟨fun h => key (.inl h), fun h => key (.inr h)⟩
   have c2 := Chg.loop (r' := { rec .ready none with state := .busy }) hl1
   obtain ⟨w2, hw2⟩ : ∃ w2, w1.putObj (w.heap.size + 1) (.loop { rec .ready none with state := .busy }) = w2 := ⟨_, rfl⟩
   rw [hw2] at c2
   have hsz2 : w2.heap.size = w1.heap.size := by rw [← hw2]; simp
   have hl2 : w2.heap[w.heap.size + 1]? = some (.loop { rec .ready none with state := .busy }) := by rw [← hw2]; exact World.putObj_heap_same (Array.getElem?_eq_some_iff.1 hl1).1
   have hm2 : X.m0 ≤ w2.heap.size := by rw [hsz2]; exact Nat.le_trans hmA hs1.hs.fr.size
   have hside1 : ∀ r, some (w.heap.size + 1) = some r → ¬ D1 r ∧ (∀ i B, σ1.h i = some B → φ1 i ≠ some (some r)) := fun r e => by
    injection e with e; subst e
    refine ⟨(cl1 _ (.inr rfl)).1, fun i B hi hp => ?_⟩
    rcases hs1.hs.placed hi hp with h | h
    ·exact (cl1 _ (.inr rfl)).1 h
    ·exact (cl1 _ (.inr rfl)).2 h
   have Hr2 : HS (Xh w2 X.m0 hm2 σ1.h np' φ1 D1) S0 σ1.h σ1.n w2 φ1 D1 := hs1.hs.root c2 hside1 (fun _ h => h) (fun b hb => by rw [hsz2]; exact hs1.hs.Dlt b hb) (fun g hg => (hs1.hs.own hg).1)
   have e2 : Ext D1 w1 w2 := c2.ext fun r e => (hside1 r e).1
   have hs2 : Sim (Xh w2 X.m0 hm2 σ1.h np' φ1 D1) S0 σ1 a1 w2 φ1 D1 := by
    refine ⟨hs1.nt, ?_, fun i => (hs1.tm i).keep (PlLe.refl _) (fun _ h _ => h) e2, Hr2⟩
    obtain ⟨ls, l1, l2, l3⟩ := hs1.df
    refine ⟨ls, l1, l2, fun d hd => ?_⟩
    obtain ⟨q1, q2, q3⟩ := l3 d hd
    exact ⟨(e2.same d q2 (hs1.hs.Dlt d q2)).trans q1, q2, q3⟩
   refine ⟨w2, by rw [← hw2]; exact run_beginRound hl1 (by rw [hrec]), ?_⟩
   refine wpIn_mono (hq (Xh w2 X.m0 hm2 σ1.h np' φ1 D1) (hpX φ1) a1 w2 φ1 D1 hs2) fun ex3 a3 w3 hc3 => ?_
   obtain ⟨σ2, φ2, D2, hq2, hs3⟩ := hc3
   have Hx1 : HS X S0 σ1.h σ1.n w1 φ1 D1 := Hk.unroot hs1.hs hX' (fun _ h => .inl h) fun b hb => by
    rcases hb with hb | hb
    ·exact Hk.Dsub b hb
    ·rcases (hD' b hb).2 with h | ⟨h, _⟩
     ·exact H.Dsub b h
     ·have := H.fr.size; exact .inr (.inr (by omega))
   have Hx2 : HS X S0 σ1.h σ1.n w2 φ1 D1 := Hx1.side c2 fun r e => ⟨(hside1 r e).1, (hside1 r e).2, by injection e with e; subst e; have := H.fr.size; omega⟩
   -- whatever way the body ends
   have fin : ∀ (K : List Blk → Prop) (pe : Option Code) (st : LoopState), WkS np' σ2 (fun s => ∃ b, K b ∧ s.h = hl b ∧ s.n = b.length) →
     ∃ b' U', K b' ∧ w3.heap[w.heap.size + 1]? = some (.loop { rec .ready none with state := .busy }) ∧ C U' b' (w3.putObj (w.heap.size + 1) (.loop (rec st pe))) st pe ∧
      (∀ x, U' x → x < (w3.putObj (w.heap.size + 1) (.loop (rec st pe))).heap.size ∧ ((Dk x ∨ LLh (hl b) φk x) ∨ D' x ∨ A.heap.size ≤ x)) ∧
      Kept D (fun x => Dk x ∨ LLh (hl b) φk x) W1.heap.size A (w3.putObj (w.heap.size + 1) (.loop (rec st pe))) := fun K pe st hK => by
    obtain ⟨s, φ3, D3, ⟨b', hKb, hsh, hsn⟩, hs4⟩ := hK (Xh w2 X.m0 hm2 σ1.h np' φ1 D1) (hpX φ1) a3 w3 φ2 D2 hs3
    have H4 := hs4.hs
    rw [hsh, hsn] at H4
    have cl3 : ∀ x, (x = w.heap.size ∨ x = w.heap.size + 1) → ¬ D3 x ∧ ¬ LLh (hl b') φ3 x := fun x hx => by
     have key : ¬ (D3 x ∨ LLh (hl b') φ3 x) := fun h => by
      rcases H4.cameOf h with h1 | h1 | h1
      ·exact (cl1 x hx).1 h1
      ·exact (cl1 x hx).2 h1
      ·have := hs1.hs.fr.size
       have e1 : (Xh A X.m0 hmA (hl b) np' φk Dm).w0.heap.size = A.heap.size := rfl
       rw [e1] at this; omega
     exact ⟨fun h => key (.inl h), fun h => key (.inr h)⟩
    have hA1 : A.heap.size ≤ w1.heap.size := hs1.hs.fr.size
    have h23 : w2.heap.size ≤ w3.heap.size := H4.fr.size
    have kept : ∀ x, x < A.heap.size → (x ≠ w.heap.size + 1) → ¬ LLh (hl b) φk x → w3.heap[x]? = A.heap[x]? := fun x hx hne hn => by
     have q1 := hs1.hs.keptAt hx hn
     have q2 : w2.heap[x]? = w1.heap[x]? := c2.block x (by omega) (fun e => hne (by injection e))
     have q3 := H4.keptAt (b := x) (by omega) fun hl => by
      rcases hs1.hs.cameOf (.inr hl) with h | h | h
      ·rcases h with h | h
       ·exact (hs1.hs.own hl).1 (hs1.hs.Dsup x (.inl h))
       ·exact (hs1.hs.own hl).1 (hs1.hs.Dsup x (.inr h))
      ·exact hn h
      ·omega
     exact q3.trans (q2.trans q1)
    have hl3 : w3.heap[w.heap.size + 1]? = some (.loop { rec .ready none with state := .busy }) := (H4.keptAt (by omega) (cl1 _ (.inr rfl)).2).trans hl2
    have hd3 : w3.heap[w.heap.size]? = some (.deferred (some [])) := (kept _ (by omega) (by omega) (hcl _ (.inl rfl)).2).trans hkd
    have Hx3 : HS X S0 (hl b') b'.length w3 φ3 D3 := Hx2.unroot H4 hX' (fun _ h => h) fun b hb => Hx2.Dsub b hb
    have c4 : Chg w3 (w3.putObj (w.heap.size + 1) (.loop (rec st pe))) (some (w.heap.size + 1)) := Chg.loop hl3
    have hside3 : ∀ r, some (w.heap.size + 1) = some r → ¬ D3 r ∧ (∀ i B, hl b' i = some B → φ3 i ≠ some (some r)) ∧ X.w0.heap.size ≤ r := fun r e => by
     injection e with e; subst e
     refine ⟨(cl3 _ (.inr rfl)).1, fun i B hi hp => ?_, by have := H.fr.size; omega⟩
     rcases H4.placed hi hp with h | h
     ·exact (cl3 _ (.inr rfl)).1 h
     ·exact (cl3 _ (.inr rfl)).2 h
    have hDD : ∀ x, Dm x → D3 x := fun x hx => H4.Dsup x (hs1.hs.Dsup x hx)
    refine ⟨b', fun x => D3 x ∨ LLh (hl b') φ3 x, hKb, hl3, ?_, fun x hx => ⟨?_, ?_⟩, ?_⟩
    ·rw [hC]
     refine ⟨φ3, D3, Hx3.side c4 hside3, fun i x hx => ?_, fun x hx => hDD x (.inl (hDk x hx)), ?_, ?_, ?_, cl3, rfl⟩
     ·have hi : i < np' := by
       rcases Nat.lt_or_ge i np' with h1 | h1
       ·exact h1
       ·rw [hpX φ i h1] at hx; cases hx
      have pe : ∀ ψ : Pl, pin np' ψ i = ψ i := fun ψ => by unfold pin; rw [if_pos hi]
      have q1 := hpin i x hx
      have q2 := hs1.hs.psup i x (by show pin np' φk i = some x; rw [pe]; exact q1)
      exact H4.psup i x (by show pin np' φ1 i = some x; rw [pe]; exact q2)
     ·refine hext.trans ⟨by rw [World.putObj_size]; exact Nat.le_trans hA1 (hsz2 ▸ h23), fun x hx => ?_, fun x hd hx => ?_⟩
      ·rw [c4.shape x (by omega)]
       exact (H4.fr.shape x (show x < w2.heap.size by omega)).trans ((c2.shape x (by omega)).trans (hs1.hs.fr.shape x hx))
      ·have hne : x ≠ w.heap.size + 1 := fun e => by have := H.Dlt x hd; omega
       rw [World.putObj_heap_other hne]
       exact kept x hx hne fun h => (Hk.own h).1 (hDk x hd)
     ·rw [World.putObj_heap_other (by omega)]; exact hd3
     ·exact World.putObj_heap_same (by omega)
    ·have : x < w3.heap.size := by
      rcases hx with h | h
      ·exact H4.Dlt x h
      ·exact (H4.own h).2.2
     simpa using this
    ·rcases H4.cameOf hx with h | h | h
     ·rcases hs1.hs.cameOf (.inl h) with (h | h) | h | h
      ·exact .inl (.inl h)
      ·exact .inr (.inl h)
      ·exact .inl (.inr h)
      ·exact .inr (.inr h)
     ·rcases hs1.hs.cameOf (.inr h) with (h | h) | h | h
      ·exact .inl (.inl h)
      ·exact .inr (.inl h)
      ·exact .inl (.inr h)
      ·exact .inr (.inr h)
     ·exact .inr (.inr (by omega))
    ·refine ⟨?_, ?_, ?_, by rw [World.putObj_size]; exact Nat.le_trans hA1 (hsz2 ▸ h23), fun x hx => ?_, fun x hx hn => ?_⟩
     ·exact H4.fr.os.trans (c2.os.trans hs1.hs.fr.os)
     ·exact H4.fr.tape.trans (c2.tape.trans hs1.hs.fr.tape)
     ·exact H4.fr.output.trans (c2.output.trans hs1.hs.fr.output)
     ·rw [c4.shape x (by omega)]
      exact (H4.fr.shape x (show x < w2.heap.size by omega)).trans ((c2.shape x (by omega)).trans (hs1.hs.fr.shape x hx))
     ·have hne : x ≠ w.heap.size + 1 := fun e => by
       rcases hn with h | ⟨h, _⟩
       ·have := H.Dlt x h; omega
       ·omega
      rw [World.putObj_heap_other hne]
      refine kept x hx hne fun h => ?_
      rcases hn with h1 | ⟨_, h1⟩
      ·exact (Hk.own h).1 (hDk x h1)
      ·exact h1 (.inr h)
   cases ex3 with
   | normal =>
    obtain ⟨b', U', hK, hl3, hC3, hU, hkept⟩ := fin (I (k + 1)) none .ready hq2
    have := run_endRound (P := P) none hl3
    rw [hrec] at this hC3 hU hkept
    exact ⟨_, _, this, U', hU, hkept, .inl ⟨rfl, b', hK, hC3⟩⟩
   | ret =>
    obtain ⟨b', U', hK, hl3, hC3, hU, hkept⟩ := fin (Ix .ret) (some .ret) .done hq2
    have := run_endRound (P := P) (some .ret) hl3
    rw [hrec] at this hC3 hU hkept
    exact ⟨_, _, this, U', hU, hkept, .inr ⟨rfl, .ret, b', hK, hC3⟩⟩
   | exit id =>
    obtain ⟨b', U', hK, hl3, hC3, hU, hkept⟩ := fin (Ix (.exit id)) (some (.exit id)) .done hq2
    have := run_endRound (P := P) (some (.exit id)) hl3
    rw [hrec] at this hC3 hU hkept
    exact ⟨_, _, this, U', hU, hkept, .inr ⟨rfl, .exit id, b', hK, hC3⟩⟩
   | goto t =>
    obtain ⟨b', U', hK, hl3, hC3, hU, hkept⟩ := fin (Ix (.goto t)) (some (.goto t)) .done hq2
    have := run_endRound (P := P) (some (.goto t)) hl3
    rw [hrec] at this hC3 hU hkept
    exact ⟨_, _, this, U', hU, hkept, .inr ⟨rfl, .goto t, b', hK, hC3⟩⟩
   | panic c => exact hq2.elim
   | outgrown => exact hq2.elim
  | exit id => exact hq.elim
  | goto t => exact hq.elim
  | ret => exact hq.elim
  | panic c => exact hq.elim
  | outgrown => exact hq.elim
 ·rintro b (hb | hb)
  ·exact Nat.lt_of_lt_of_le (H.Dlt b hb) cW.size
  ·exact Nat.lt_of_lt_of_le (H.own hb).2.2 cW.size
 ·refine ⟨hb, h0, ?_⟩
  rw [hC]
  refine ⟨φ, D, HW, fun i x hx => ?_, fun _ h => h, eD, hK1, hL1, fun x hx => ⟨fun h => ?_, fun h => ?_⟩, rfl⟩
  ·unfold pin at hx
   split at hx
   ·exact hx
   ·cases hx
  ·have := H.Dlt x h; omega
  ·have := (H.own h).2.2; omega
 ·-- behind it
  have fin : ∀ {U b B st pe}, C U b B st pe → ∃ φk Dk, Sim X S0 ⟨tl t1 L, hl b, b.length, nt⟩ { a with defers := { target := .collected w.heap.size, args := #[] } :: a.defers } B φk Dk := fun {U b B st pe} hc => by
   rw [hC] at hc
   obtain ⟨φk, Dk, h1, h2, h3, h4, h5, h6, h7, rfl⟩ := hc
   have hlt : w.heap.size < B.heap.size := (Array.getElem?_eq_some_iff.1 h5).1
   refine ⟨φk, fun x => Dk x ∨ x = w.heap.size, hs.nt, ?_, tmv h2 (fun b h => .inl (h3 b h)) h4, h1.addD hlt (h7 _ (.inl rfl)).2 H.fr.size⟩
   obtain ⟨ls, l1, l2, l3⟩ := hs.df
   have old : ∀ d ∈ ls, d < w.heap.size := fun d hd => (Array.getElem?_eq_some_iff.1 (l3 d hd).1).1
   refine ⟨w.heap.size :: ls, List.nodup_cons.2 ⟨fun h => absurd (old _ h) (Nat.lt_irrefl _), l1⟩, by rw [List.map_cons, ← l2]; rfl, fun d hd => ?_⟩
   rcases List.mem_cons.1 hd with e | hd
   ·subst e; exact ⟨h5, .inr rfl, Nat.le_trans X.hm H.fr.size⟩
   ·obtain ⟨q1, q2, q3⟩ := l3 d hd
    exact ⟨(h4.same d q2 (old d hd)).trans q1, .inl (h3 d q2), q3⟩
  have hrecAt : ∀ {U b B st pe}, C U b B st pe → B.heap[w.heap.size + 1]? = some (.loop (rec st pe)) := fun {U b B st pe} hc => by
   rw [hC] at hc
   obtain ⟨φk, Dk, h1, h2, h3, h4, h5, h6, h7, rfl⟩ := hc
   exact h6
  rintro v B ⟨⟨x, rfl⟩, U, ⟨b, hI, hc⟩ | ⟨c, b, hI, hc⟩⟩
  ·have hl := hrecAt hc
   refine ⟨none, _, by have := run_endLoop (P := P) hl (by rw [hrec]; simp); rw [hrec] at this; exact this, ?_⟩
   have hc2 := Cend (st' := .exhausted) (pe' := none) hc
   rw [hrec] at hc2
   obtain ⟨φk, Dk, hsim⟩ := fin hc2
   exact ⟨_, φk, Dk, hd b t1 hI, hsim⟩
  ·have hl := hrecAt hc
   refine ⟨some c, _, by have := run_endLoop (P := P) hl (by rw [hrec]; simp); rw [hrec] at this; exact this, ?_⟩
   have hc2 := Cend (st' := .exhausted) (pe' := some c) hc
   rw [hrec] at hc2
   obtain ⟨φk, Dk, hsim⟩ := fin hc2
   exact hx c b t1 hI X hX _ _ φk Dk hsim
end
end Go.Ab
/- The rule of a range over a function, over a list of the iterator's elements. No program here. -/
set_option linter.unusedSectionVars false
namespace Go.Ab
open Go.RowKit
variable [Lay]
def AllD (np : Nat) : List (Nat × Dat) → Prop
 | [] => True
 | (_, d) :: l => RN (fun _ => none) (renP np) noV noV d d ∧ AllD np l
theorem AllD.at {np : Nat} : ∀ {L : List (Nat × Dat)}, AllD np L → ∀ p ∈ L, RN (fun _ => none) (renP np) noV noV p.2 p.2
 | [], _, p, hp => by cases hp
 | (a, d) :: l, h, p, hp => by
  rcases List.mem_cons.1 hp with e | hp
  ·rw [e]; exact h.1
  ·exact AllD.at h.2 p hp
section
variable {np : Nat} {P : Program} {Q : Exit → St → Prop} {g : Operand} {ps : Array Tmp} {as body : Code} {nt : Nat} {t0 : Nat → Dat} {hb : List Blk} {gf : FuncId} {lb : List Dat} {E : Type} {ys : List E}
theorem a_rfT (np' : Nat) (L : List (Nat × Dat)) (pl : List Nat) (en : E → List Dat) (it : IterC P gf lb (ys.map en)) (I : List E → List Blk → Prop) (Ix : Code → List Blk → Prop) (hnp : np ≤ np') (hpl : ps.toList = pl) (hps : ∀ y, (en y).length = pl.length) (hpn : ∀ p ∈ pl, p < nt)
  (hg : (⟨tl t0 L, hl hb, hb.length, nt⟩ : St).ev g = .fn (.func gf) [] lb) (hlb : RNs (fun _ => none) (renP 0) noV noV lb lb) (hL : AllD np' L)
  (h0 : I ys hb)
  (hr : ∀ (fe : Fen) y rest b t0, I (y :: rest) b → aw fe np' P as (rfA fe np' P body (rfQ np' (I rest) Ix)) ⟨setps pl (en y) (tl t0 L), hl b, b.length, nt⟩)
  (hd : ∀ b t0, I [] b → Q .normal ⟨tl t0 L, hl b, b.length, nt⟩)
  (hx : ∀ c b t0, Ix c b → aw Fen.top np P c Q ⟨tl t0 L, hl b, b.length, nt⟩) :
  aw Fen.top np P (.rangeFunc g ps as body) Q ⟨tl t0 L, hl hb, hb.length, nt⟩ :=
 a_rf np' L it pl (fun k b => I (ys.drop k) b) Ix hnp hpl (fun e he => by
   obtain ⟨y, _, rfl⟩ := List.mem_map.1 he
   exact hps y) hpn hg hlb hL.at h0 (fun fe k e b t0 hk hI => by
   rw [List.getElem?_map] at hk
   cases hy : ys[k]? with
   | none => rw [hy] at hk; cases hk
   | some y =>
    rw [hy] at hk
    injection hk with hk
    subst hk
    obtain ⟨hlt, e⟩ := List.getElem?_eq_some_iff.1 hy
    have hI : I (ys.drop k) b := hI
    rw [List.drop_eq_getElem_cons hlt, e] at hI
    exact hr fe y _ b t0 hI) (fun b t0 hI => hd b t0 (by
   have hI : I (ys.drop (ys.map en).length) b := hI
   rw [List.length_map, List.drop_length] at hI
   exact hI)) hx
theorem rfA_n {fe : Fen} {Q : Exit → St → Prop} {σ : St} (h : aw fe np P body Q σ) : rfA fe np P body Q .normal σ := h
theorem rf_n {J : List Blk → Prop} {Jx : Code → List Blk → Prop} {σ : St} (h : WkS np σ fun s => ∃ b, J b ∧ s.h = hl b ∧ s.n = b.length) : rfQ np J Jx .normal σ := h
theorem rf_r {J : List Blk → Prop} {Jx : Code → List Blk → Prop} {σ : St} (h : WkS np σ fun s => ∃ b, Jx .ret b ∧ s.h = hl b ∧ s.n = b.length) : rfQ np J Jx .ret σ := h
end
end Go.Ab
namespace Go.Ab
theorem PurRs.fst [Lay] {f as cap ds : List Dat} {hp : Nat → Option Blk} {fz : Bool} (hf : Pus f) (h : PurRs hp fz (as ++ cap) ds) : PurRs hp fz (f ++ as ++ cap) (f ++ ds) := by
 rw [List.append_assoc]
 refine ⟨by simp [h.1], fun i c d hc hd => ?_⟩
 rcases Nat.lt_or_ge i f.length with hi | hi
 ·rw [List.getElem?_append_left hi] at hc hd
  exact (hf.purRs).2 i c d hc hd
 ·rw [List.getElem?_append_right hi] at hc hd
  exact h.2 _ c d hc hd
end Go.Ab
namespace Go.Ab
open Go.RowKit
def NewRow [Lay] (w w' : World) (D : Nat → Prop) (v : Value) (e st : Nat) (es : List (List Dat)) : Prop :=
 (v = .slice none 0 0 ∧ es = []) ∨ ∃ g c arr, v = .slice (some ⟨g, 0, none⟩) es.length c ∧ w.heap.size ≤ g ∧ w'.heap[g]? = some (.cells arr e (0, 0)) ∧ es.length ≤ c ∧ c ≤ maxLen ∧ arr.size = c * st ∧
  ∀ (k : Nat) el, es[k]? = some el → el.length = st ∧ ∀ (j : Nat) d, el[j]? = some d → ∃ u, arr[k * st + j]? = some u ∧ u.oneCell' = true ∧ RV NP D w' u d
theorem rc_new [Lay] {P : Program} {F : FuncId} {ds : List Dat} {e st : Nat} {es : List (List Dat)} (en : ∃ fn c, P.funcs[F]? = some fn ∧ fn.body = some c ∧ (fn.name == "runtime.NumGoroutine") = false)
  (h : ∀ (w : World) (D : Nat → Prop) (vs : List Value), (∀ b, D b → b < w.heap.size) → Lay.gp w D → RVs NP D w vs ds → Calls P F vs.toArray w fun r w' => ∃ v, r = .returned v ∧ NewRow w w' D v e st es ∧ Below w.heap.size w w') :
  RC P F ds [] 0 (.ref 0 0 es.length st) [some ⟨e, st, false, es⟩] where
 enter := en
 run := fun w φ D vs H hv => by
  have hφ : φ = NP := by
   funext i
   exact H.fresh i (Nat.zero_le _) (fun h => h)
  subst hφ
  refine (h w D vs (fun b hb => H.Dlt b hb) H.gp hv).mono fun r w' hR => ?_
  obtain ⟨v, rfl, hrow, hb⟩ := hR
  have base : ∀ (x : Option (Option Nat)), (∀ g, x = some (some g) → w.heap.size ≤ g ∧ Lies (upd NP 0 x) D w' g ⟨e, st, false, es⟩) → (x = some none ∧ es = [] ∨ ∃ g, x = some (some g)) → HS (XC w [] 0 NP D) S0 (hh [some ⟨e, st, false, es⟩]) 1 w' (upd NP 0 x) D := fun x hx hx2 => {
   live := fun j B hj => by
    rcases j with _ | j
    ·change some _ = some B at hj
     injection hj with hj; subst hj
     rw [upd_same]
     rcases hx2 with ⟨e1, e2⟩ | ⟨g, e1⟩
     ·exact .inl ⟨e1, e2⟩
     ·refine .inr ⟨g, e1, (hx g e1).2, (by intro h; cases h), fun _ => ⟨fun hd => ?_, .inr (hx g e1).1⟩⟩
      have := H.Dlt g hd
      have := (hx g e1).1
      omega
    ·simp [hh] at hj
   inj := fun i j B C g hi hj pi pj _ => by
    have z : ∀ (i : Nat) B, hh [some (⟨e, st, false, es⟩ : Blk)] i = some B → i = 0 := fun i B hi => by
     rcases i with _ | i
     ·rfl
     ·simp [hh] at hi
    rw [z i B hi, z j C hj]
   fresh := fun i hi _ => by rw [upd_ne _ _ (by omega)]
   Dlt := fun b hd => Nat.lt_of_lt_of_le (H.Dlt b hd) hb.size
   Dsub := fun b hd => .inl hd
   Dsup := fun b hd => hd
   psup := fun i x hx => by simp [pin] at hx
   fr := ⟨hb.os, hb.tape, hb.output, hb.size, fun b hl => shape_of_heap (hb.block b hl), fun b hl _ => hb.block b hl⟩
   fin := ⟨1, fun k hk => by rw [upd_ne _ _ (by omega)]⟩
   gp := Lay.gpk H.gp (Ext.of_below hb) (fun _ h _ => h) }
  rcases hrow with ⟨rfl, rfl⟩ | ⟨g, c, arr, rfl, hg, hgb, hk, hm, hcs, ht⟩
  ·exact ⟨_, upd NP 0 (some none), D, 1, rfl, .refv 0 st (upd_same _ _ _), base _ (fun g e => by cases e) (.inl ⟨rfl, rfl⟩)⟩
  ·refine ⟨_, upd NP 0 (some (some g)), D, 1, rfl, ?_, base _ (fun g' e' => ?_) (.inr ⟨g, rfl⟩)⟩
   ·have := RV.ref (φ := upd NP 0 (some (some g))) (D := D) (w := w') 0 g 0 es.length c st (upd_same _ _ _) hk hm ⟨e, by simp [World.shape?, hgb, hcs]⟩
    simpa using this
   ·injection e' with e'; injection e' with e'; subst e'
    refine ⟨hg, arr, hgb, by rw [hcs]; exact Nat.mul_le_mul_right _ hk, fun k f hf => ⟨(ht k f hf).1, fun j d hd => ?_⟩⟩
    obtain ⟨u, u1, u2, u3⟩ := (ht k f hf).2 j d hd
    exact ⟨u, u1, u2, u3.keep (NP_le _) (fun _ h _ => h) (Ext.refl _ _)⟩
end Go.Ab
namespace Go.Ab
theorem getD_dropm {α β : Type} (f : α → β) (l : List α) (o i : Nat) (d : β) : ((l.drop o).map f).getD i d = (l.map f).getD (o + i) d := by
 rw [List.map_drop, List.getD_eq_getElem?_getD, List.getD_eq_getElem?_getD, List.getElem?_drop]
end Go.Ab
namespace Go.Ab
theorem PurR.ownO [Lay] {h : Nat → Option Blk} {fz : Bool} {i off len st : Nat} {B : Blk} {fs : List (List Dat)} (hB : h i = some B) (hz : fz = true → B.fz = true) (hst : B.st = st) (hle : off + len ≤ B.es.length) (hl : fs.length = len) (k : PL h fz ((B.es.drop off).take len) fs) : PurR h fz (.ref i off len st) (.list st fs) := by
 have key : ∀ (q : Nat) e f, B.es[off + q]? = some e → fs[q]? = some f → PurRs h fz e f := fun q e f he hf => by
  have hq : q < len := by rw [← hl]; exact (List.getElem?_eq_some_iff.1 hf).1
  refine k.2 q e f ?_ hf
  rw [List.getElem?_take, if_pos hq, List.getElem?_drop]; exact he
 exact .ref i off len st B fs hB hz hst hle hl (fun q e f he hf => (key q e f he hf).1) fun q e f he hf => (key q e f he hf).2
end Go.Ab
/- Nothing is laid. -/
namespace Go.Proofs.YtjflkcfafijhfaaGreat
open Go.Ab
instance : Lay where
 gp := fun _ _ => True
 gv := fun _ _ _ _ => False
 gpk := fun _ _ _ => trivial
 gvk := fun h _ _ => h
 gv1 := fun h => h.elim
 gpd := fun _ _ => trivial
 gvd := fun h _ => h
end Go.Proofs.YtjflkcfafijhfaaGreat
