import Derived.Test.YtjflkcfafijhfaaGreatQ12
import Derived.Scope
set_option linter.unusedSectionVars false
/- Contracts of calls that are handed blocks of the caller's own, to keep or to change, and answer some. No program here. -/
namespace Go.Ab
open Go.RowKit
variable [Lay]
def pin (np : Nat) (φ : Pl) : Pl := fun i => if i < np then φ i else none
def LL (hb : List Blk) (φ : Pl) : Nat → Prop := fun g => ∃ i B, hb[i]? = some B ∧ φ i = some (some g)
def hh (l : List (Option Blk)) : Nat → Option Blk := fun j => match l[j]? with | some x => x | none => none
abbrev XC (w : World) (hb : List Blk) (np : Nat) (φ : Pl) (D : Nat → Prop) : Cx := cx w (LL hb φ) D (pin np φ)
structure RC (P : Program) (F : FuncId) (ds : List Dat) (hb : List Blk) (np : Nat) (r : Dat) (hb' : List (Option Blk)) : Prop where
 enter : ∃ fn c, P.funcs[F]? = some fn ∧ fn.body = some c ∧ (fn.name == "runtime.NumGoroutine") = false
 run : ∀ (w : World) (φ : Pl) (D : Nat → Prop) (vs : List Value), HS (XC w hb np φ D) S0 (hl hb) hb.length w φ D → RVs φ D w vs ds →
  Calls P F vs.toArray w fun e w' => ∃ v φ' D' n', e = .returned v ∧ RV φ' D' w' v r ∧ HS (XC w hb np φ D) S0 (hh hb') n' w' φ' D'
def endRC (np : Nat) (P : Program) (rl : List ResultVar) (r : Dat) (hb' : List (Option Blk)) : Exit → St → Prop := fun ex σ => match ex with
 | .normal | .ret => WkS np σ (fun s => resR P s rl (fun ds => single ds = r) ∧ ∀ j B, hh hb' j = some B → s.h j = some B)
 | _ => False
theorem eR_r {np : Nat} {P : Program} {rl : List ResultVar} {r : Dat} {hb' : List (Option Blk)} {σ : St} (h : WkS np σ (fun s => resR P s rl (fun ds => single ds = r) ∧ ∀ j B, hh hb' j = some B → s.h j = some B)) : endRC np P rl r hb' .ret σ := h
theorem eR_n {np : Nat} {P : Program} {rl : List ResultVar} {r : Dat} {hb' : List (Option Blk)} {σ : St} (h : WkS np σ (fun s => resR P s rl (fun ds => single ds = r) ∧ ∀ j B, hh hb' j = some B → s.h j = some B)) : endRC np P rl r hb' .normal σ := h
theorem HS.sub {X : Cx} {S : Nat → Prop} {h h' : Nat → Option Blk} {n : Nat} {w : World} {φ : Pl} {D : Nat → Prop} (H : HS X S h n w φ D) (hs : ∀ j B, h' j = some B → h j = some B) : HS X S h' n w φ D :=
 { H with live := fun i B hi => H.live i B (hs i B hi), inj := fun i j B C g hi hj => H.inj i j B C g (hs i B hi) (hs j C hj) }
theorem rcA_of {P : Program} {F : FuncId} {fn : Func} {c : Code} {ds : List Dat} {r : Dat} {hb : List Blk} {np : Nat} {hb' : List (Option Blk)} (hf : P.funcs[F]? = some fn) (hbd : fn.body = some c) (hn : (fn.name == "runtime.NumGoroutine") = false) (nt : Nat) (hnt : ds.length + (fn.ntmps - ds.length) = nt)
  (rl : List ResultVar) (hrl : fn.results.toList = rl) (h : aw Fen.top np P c (endRC np P rl r hb') (hent ds (hl hb) hb.length nt)) : RC P F ds hb np r hb' where
 enter := ⟨fn, c, hf, hbd, hn⟩
 run := fun w φ D vs hs hv => by
  subst hnt; subst hrl
  refine calls_of_fen hf hbd ?_
  have hsim := Sim.hent (fn := fn) hv hs
  have hX : ∀ i, np ≤ i → (XC w hb np φ D).p0 i = none := fun i hi => by show pin np φ i = none; unfold pin; rw [if_neg (by omega)]
  refine wpIn_mono (h _ hX _ _ _ _ hsim) fun ex a w' hc => ?_
  have hc2 : Con (XC w hb np φ D) (retP P fn (fun d s => d = r ∧ ∀ j B, hh hb' j = some B → s.h j = some B)) ex a w' := by
   obtain ⟨σ, φ1, D1, hq, hs1⟩ := hc
   have key : ∀ s : St, (resR P s fn.results.toList (fun ds => single ds = r) ∧ ∀ j B, hh hb' j = some B → s.h j = some B) → resR P s fn.results.toList (fun ds => single ds = r ∧ ∀ j B, hh hb' j = some B → s.h j = some B) := by
    intro s hk
    have gen : ∀ (l : List ResultVar) (K : List Dat → Prop), resR P s l K → resR P s l (fun ds => K ds ∧ ∀ j B, hh hb' j = some B → s.h j = some B) := by
     intro l
     induction l with
     | nil => intro K hk'; exact ⟨hk', hk.2⟩
     | cons x l ih =>
      intro K hk'
      cases x with
      | tmp t => exact ih _ hk'
      | cell a t =>
       unfold resR at hk' ⊢
       split at hk'
       ·split at hk'
        ·exact ⟨hk'.1, ih _ hk'.2⟩
        ·exact hk'.elim
       ·exact hk'.elim
    exact gen _ _ hk.1
   cases ex with
   | normal =>
    obtain ⟨s, φ2, D2, hR, hs2⟩ := hq _ hX a w' φ1 D1 hs1
    exact ⟨s, φ2, D2, key s hR, hs2⟩
   | ret =>
    obtain ⟨s, φ2, D2, hR, hs2⟩ := hq _ hX a w' φ1 D1 hs1
    exact ⟨s, φ2, D2, key s hR, hs2⟩
   | exit id => exact hq.elim
   | goto l => exact hq.elim
   | panic c => exact hq.elim
   | outgrown => exact hq.elim
  refine retP_sound (R := fun e w' => ∃ v φ' D' n', e = .returned v ∧ RV φ' D' w' v r ∧ HS (XC w hb np φ D) S0 (hh hb') n' w' φ' D') (fun σ w' φ' D' d v hsim hp hrv => ?_) (Nat.le_refl _) ex a w' hc2
  obtain ⟨rfl, hh'⟩ := hp
  refine ⟨v, φ', D', σ.n, rfl, hrv, ?_⟩
  exact hsim.sub hh'
theorem wrs_app (a b : List (Nat × Option Blk)) (h : Nat → Option Blk) : wrs h (a ++ b) = wrs (wrs h a) b := by
 induction a generalizing h with
 | nil => rfl
 | cons x a ih => obtain ⟨i, y⟩ := x; exact ih _
def backW (σ : St) (fr : List Nat) (bl : List (Option Nat × Blk)) (bk : List (Nat × Nat × Blk)) : List (Nat × Option Blk) :=
 frz σ.h fr ++ ((bl.filterMap (·.1)).map (fun i => (i, none)) ++ bk.map (fun q => (q.1, some q.2.2)))
def renB (bk : List (Nat × Nat × Blk)) : Nat → Option Nat := fun c => (bk.find? (fun q => q.1 == c)).map (·.2.1)
def noV : Nat → Prop := fun _ => False
def AllK (hp : Nat → Option Blk) (bl : List (Option Nat × Blk)) (np : Nat) (fresh : Nat) (rb : Nat → Option Nat) : List (Nat × Nat × Blk) → Prop
 | [] => True
 | (c, j, B) :: l => ((j < np ∧ renL bl j = some c) ∨ (c = fresh ∧ np ≤ j)) ∧ (∃ B', hp j = some B' ∧ (B.e = B'.e ∧ B.st = B'.st ∧ B.fz = false ∧ B'.fz = false) ∧ RNL hp rb noV noV B'.es B.es) ∧ AllK hp bl np fresh rb l
theorem AllK.at {hp : Nat → Option Blk} {bl : List (Option Nat × Blk)} {np fresh : Nat} {rb : Nat → Option Nat} : ∀ {bk : List (Nat × Nat × Blk)}, AllK hp bl np fresh rb bk → ∀ q ∈ bk,
  ((q.2.1 < np ∧ renL bl q.2.1 = some q.1) ∨ (q.1 = fresh ∧ np ≤ q.2.1)) ∧ ∃ B', hp q.2.1 = some B' ∧ (q.2.2.e = B'.e ∧ q.2.2.st = B'.st ∧ q.2.2.fz = false ∧ B'.fz = false) ∧ RNL hp rb noV noV B'.es q.2.2.es
 | [], _, q, hq => by cases hq
 | (c, j, B) :: l, h, q, hq => by
  rcases List.mem_cons.1 hq with e | hq
  ·rw [e]; exact ⟨h.1, h.2.1⟩
  ·exact AllK.at h.2.2 q hq
theorem renL_at {bl : List (Option Nat × Blk)} {j i : Nat} (e : renL bl j = some i) : ∃ B, bl[j]? = some (some i, B) := by
 unfold renL at e
 split at e
 ·rename_i p hp; obtain ⟨o, B⟩ := p; simp only at e; subst e; exact ⟨B, hp⟩
 ·cases e
theorem renL_mem {bl : List (Option Nat × Blk)} {j i : Nat} (e : renL bl j = some i) : i ∈ bl.filterMap (·.1) := by
 obtain ⟨B, hB⟩ := renL_at e
 exact List.mem_filterMap.2 ⟨_, List.mem_of_getElem? hB, rfl⟩
theorem renL_inj : ∀ {bl : List (Option Nat × Blk)}, (bl.filterMap (·.1)).Nodup → ∀ {j k i : Nat}, renL bl j = some i → renL bl k = some i → j = k := by
 intro bl hn j k i hj hk
 obtain ⟨B, hb⟩ := renL_at hj
 obtain ⟨C, hc⟩ := renL_at hk
 have gen : ∀ (bl : List (Option Nat × Blk)), (bl.filterMap (·.1)).Nodup → ∀ (j k : Nat) B C, bl[j]? = some (some i, B) → bl[k]? = some (some i, C) → j = k := by
  intro bl
  induction bl with
  | nil => intro _ j k B C h; simp at h
  | cons p l ih =>
   intro hn j k B C hj hk
   have hmem : ∀ (q : Nat) E, l[q]? = some (some i, E) → i ∈ l.filterMap (·.1) := fun q E hq => List.mem_filterMap.2 ⟨_, List.mem_of_getElem? hq, rfl⟩
   obtain ⟨o, E⟩ := p
   have hn' : (l.filterMap (·.1)).Nodup := by
    cases o with
    | none => simpa using hn
    | some x => simp only [List.filterMap_cons, List.nodup_cons] at hn; exact hn.2
   cases j with
   | zero =>
    cases k with
    | zero => rfl
    | succ k =>
     simp at hj hk
     obtain ⟨rfl, _⟩ := hj
     simp only [List.filterMap_cons, List.nodup_cons] at hn
     exact absurd (hmem k C hk) hn.1
   | succ j =>
    cases k with
    | zero =>
     simp at hj hk
     obtain ⟨rfl, _⟩ := hk
     simp only [List.filterMap_cons, List.nodup_cons] at hn
     exact absurd (hmem j B hj) hn.1
    | succ k => simp at hj hk; rw [ih hn' j k B C hj hk]
 exact gen bl hn j k B C hb hc
theorem renB_at {bk : List (Nat × Nat × Blk)} {c j : Nat} (e : renB bk c = some j) : ∃ q ∈ bk, q.1 = c ∧ q.2.1 = j := by
 unfold renB at e
 cases hq : bk.find? (fun q => q.1 == c) with
 | none => rw [hq] at e; cases e
 | some q =>
  rw [hq] at e
  have h1 : q.1 = c := by simpa using List.find?_some hq
  exact ⟨q, List.mem_of_find?_eq_some hq, h1, by simpa using e⟩
theorem renB_none {bk : List (Nat × Nat × Blk)} {c : Nat} (h : c ∉ bk.map (·.1)) : renB bk c = none := by
 cases e : renB bk c with
 | none => rfl
 | some j => obtain ⟨q, hq, h1, _⟩ := renB_at e; exact absurd (List.mem_map.2 ⟨q, hq, h1⟩) h
theorem renB_some : ∀ {bk : List (Nat × Nat × Blk)}, (bk.map (·.1)).Nodup → ∀ {q}, q ∈ bk → renB bk q.1 = some q.2.1
 | [], _, q, hq => by cases hq
 | x :: bk, hn, q, hq => by
  simp only [List.map_cons, List.nodup_cons] at hn
  unfold renB
  rcases List.mem_cons.1 hq with e | hq
  ·subst e; simp
  ·have hne : (x.1 == q.1) = false := by
    simp only [beq_eq_false_iff_ne]
    exact fun e => hn.1 (by rw [e]; exact List.mem_map_of_mem hq)
   rw [List.find?_cons_of_neg (by simp [hne])]
   exact renB_some hn.2 hq
theorem bound_ex : ∀ l : List Nat, ∃ M, ∀ c ∈ l, c < M
 | [] => ⟨0, fun c h => by cases h⟩
 | x :: l => by
  obtain ⟨M, hM⟩ := bound_ex l
  refine ⟨M + x + 1, fun c hc => ?_⟩
  rcases List.mem_cons.1 hc with e | hc
  ·omega
  ·have := hM c hc; omega
theorem wrs_bk : ∀ {bk : List (Nat × Nat × Blk)}, (bk.map (·.1)).Nodup → ∀ {q}, q ∈ bk → ∀ h, wrs h (bk.map (fun q => (q.1, some q.2.2))) q.1 = some q.2.2
 | [], _, q, hq, h => by cases hq
 | x :: bk, hn, q, hq, h => by
  simp only [List.map_cons, List.nodup_cons] at hn
  show wrs (upd h x.1 (some x.2.2)) (bk.map _) q.1 = _
  rcases List.mem_cons.1 hq with e | hq
  ·subst e
   rw [wrs_not _ _ (by rw [List.map_map]; exact hn.1), upd_same]
  ·exact wrs_bk hn.2 hq _
theorem wrs_drop : ∀ (l : List Nat) (h : Nat → Option Blk) {c : Nat}, c ∈ l → wrs h (l.map (fun i => (i, none))) c = none
 | [], h, c, hc => by cases hc
 | x :: l, h, c, hc => by
  show wrs (upd h x none) (l.map _) c = none
  by_cases hl : c ∈ l
  ·exact wrs_drop l _ hl
  ·rcases List.mem_cons.1 hc with e | hc
   ·subst e; rw [wrs_not _ _ (by rw [List.map_map]; simpa using hl), upd_same]
   ·exact absurd hc hl
section
variable {P : Program} {σ : St} {i : Nat} {o : Oper} {F : FuncId} {first cap argsD ds : List Dat} {r r' : Dat} {K : St → Prop} {np : Nat} {hb' : List (Option Blk)}
theorem call_run2 {f : Operand} {args : Array Operand} {ats : Array TypeId} (ho : o.op = .call { callee := .value f, args, argTypes := ats }) (pc : ∃ fn c, P.funcs[F]? = some fn ∧ fn.body = some c ∧ (fn.name == "runtime.NumGoroutine") = false) {a : Act} {w : World} {c1 c2 : List Value} (hf : a.eval f = .func (.func F) c1.toArray c2.toArray) :
  (execOp a.eval o).run P w = .ok (.enter F (c1 ++ args.toList.map a.eval ++ c2).toArray) w := call_enter ho pc hf
theorem callR_rc (bl : List (Option Nat × Blk)) (fr : List Nat) (bk : List (Nat × Nat × Blk)) (rc : RC P F ds (bl.map (·.2)) np r hb') (hfz : ∀ p ∈ bl, p.2.fz = false) (hinj : (bl.filterMap (·.1)).Nodup)
  (hB : AllB σ.h (renL bl) (vtL bl) fr bl) (hA : RNs σ.h (renL bl) (vtL bl) (fun i => i ∈ fr) (first ++ argsD ++ cap) ds)
  (hcs : (bk.map (·.1)).Nodup) (hjs : (bk.map (·.2.1)).Nodup) (hbk : AllK (hh hb') bl np (σ.n + i) (renB bk) bk) (hr : RN (hh hb') (renB bk) noV noV r r')
  (hK : K (σ.app o.dst { val := r', wr := backW σ fr bl bk })) : CallR P σ i o (.fn (.func F) first cap) argsD K := by
 intro f args ats ho hf hargs
 refine ⟨_, ?_, hK⟩
 classical
 intro X S S' hn hS hS' a w φ D hsim K' Q' hK'
 have hfv := hsim.ev f
 rw [hf] at hfv
 obtain ⟨c1, c2, hfe, h1, h2⟩ := hfv.fn_inv
 have hav := hsim.evs args.toList
 rw [hargs] at hav
 have hall := (h1.append hav).append h2
 unfold Oper.wp
 rw [call_run2 ho rc.enter hfe, Oper.upon_enter]
 have H := hsim.hs
 obtain ⟨D1, H1, hd1⟩ := H.frzs fr
 have hfrD : ∀ i B g, σ.h i = some B → i ∈ fr → φ i = some (some g) → D1 g := fun i B g e1 e2 e3 => by
  have e4 : wrs σ.h (frz σ.h fr) i = some { B with fz := true } := by rw [wrs_frz, if_pos (by simpa using e2), e1]; rfl
  rcases H1.live i _ e4 with ⟨q, _⟩ | ⟨g', q, _, q3, _⟩
  ·rw [e3] at q; cases q
  ·rw [e3] at q; injection q with q; injection q with q; subst q; exact q3 rfl
 have hnf : ∀ i B, σ.h i = some B → i ∉ fr → wrs σ.h (frz σ.h fr) i = some B := fun i B e1 e2 => by rw [wrs_frz, if_neg (by simpa using e2), e1]
 let φ0 : Pl := fun j => match renL bl j with | some i => φ i | none => if vtL bl j then some none else none
 have r0 : ∀ j i, renL bl j = some i → φ0 j = φ i := fun j i e => by simp only [φ0, e]
 have v0 : ∀ j, renL bl j = none → vtL bl j → φ0 j = some none := fun j e hv => by simp only [φ0, e, hv, if_true]
 have cv : ∀ {v d d'}, RN σ.h (renL bl) (vtL bl) (fun i => i ∈ fr) d d' → RV φ D w v d → RV φ0 D1 w v d' := fun hp hv => hp.rv H hd1 r0 v0 hfrD hv
 have hargs0 : RVs φ0 D1 w (c1 ++ args.toList.map a.eval ++ c2) ds := ⟨hall.1.trans hA.1, fun q c d hc hd => by
  have hq : q < (first ++ argsD ++ cap).length := by rw [hA.1]; exact (List.getElem?_eq_some_iff.1 hd).1
  exact cv (hA.2 q _ d (List.getElem?_eq_getElem hq) hd) (hall.2 q c _ hc (List.getElem?_eq_getElem hq))⟩
 have blAt : ∀ j B', hl (bl.map (·.2)) j = some B' → ∃ p, bl[j]? = some p ∧ p.2 = B' := fun j B' e => by
  unfold hl at e
  rw [List.getElem?_map] at e
  cases hp : bl[j]? with
  | none => rw [hp] at e; cases e
  | some p => rw [hp] at e; exact ⟨p, rfl, by simpa using e⟩
 have old : ∀ j i, renL bl j = some i → ∃ B, σ.h i = some B ∧ i ∉ fr ∧ B.fz = false := fun j i e => by
  obtain ⟨B, hb⟩ := renL_at e
  rcases hB.at hb with ⟨q, _⟩ | ⟨i', B0, q1, q2, q3, q4, _⟩
  ·cases q
  ·simp only [Option.some.injEq] at q1; subst q1
   exact ⟨B0, q2, q4, by rw [← q3.2.2]; exact hfz _ (List.mem_of_getElem? hb)⟩
 have Hc : HS (XC w (bl.map (·.2)) np φ0 D1) S0 (hl (bl.map (·.2))) (bl.map (·.2)).length w φ0 D1 := {
  live := fun j B' hj => by
   obtain ⟨p, hp, rfl⟩ := blAt j B' hj
   rcases hB.at hp with ⟨q1, q2⟩ | ⟨i0, B0, q1, q2, q3, q4, q5⟩
   ·exact .inl ⟨v0 j (by simp only [renL, hp]; exact q1) (by simp only [vtL, hp]; exact q1), q2⟩
   ·have hrl : renL bl j = some i0 := by simp only [renL, hp]; exact q1
    rcases H.live i0 B0 q2 with ⟨e1, e2⟩ | ⟨g, e1, e2, e3, e4⟩
    ·refine .inl ⟨by rw [r0 j i0 hrl, e1], ?_⟩
     have := q5.1; rw [e2] at this; exact List.eq_nil_of_length_eq_zero this.symm
    ·refine .inr ⟨g, by rw [r0 j i0 hrl, e1], ?_, fun hf => absurd (hf.symm.trans (hfz p (List.mem_of_getElem? hp))) (by decide), fun _ => ?_⟩
     ·obtain ⟨arr, a1, a2, a3⟩ := e2
      refine ⟨arr, by rw [q3.1]; exact a1, by rw [← q5.1, q3.2.1]; exact a2, fun k f hf => ?_⟩
      have hk : k < B0.es.length := by rw [q5.1]; exact (List.getElem?_eq_some_iff.1 hf).1
      have hrn := q5.2 k _ f (List.getElem?_eq_getElem hk) hf
      obtain ⟨b1, b2⟩ := a3 k _ (List.getElem?_eq_getElem hk)
      refine ⟨by rw [← hrn.1, b1, q3.2.1], fun q d hd => ?_⟩
      have hq : q < (B0.es[k]).length := by rw [hrn.1]; exact (List.getElem?_eq_some_iff.1 hd).1
      obtain ⟨v, v1, v2, v3⟩ := b2 q _ (List.getElem?_eq_getElem hq)
      exact ⟨v, by rw [q3.2.1]; exact v1, v2, cv (hrn.2 q _ d (List.getElem?_eq_getElem hq) hd) v3⟩
     ·have hB0 : B0.fz = false := by rw [← q3.2.2]; exact hfz p (List.mem_of_getElem? hp)
      rcases H1.live i0 B0 (hnf i0 B0 q2 q4) with ⟨u1, _⟩ | ⟨g', u1, _, _, u4⟩
      ·rw [e1] at u1; cases u1
      ·rw [e1] at u1; injection u1 with u1; injection u1 with u1; subst u1
       exact ⟨(u4 hB0).1, .inl ⟨j, p.2, by rw [List.getElem?_map, hp]; rfl, by rw [r0 j i0 hrl, e1]⟩⟩
  inj := fun j k B C g hj hk pj pk _ => by
   have get : ∀ j B, hl (bl.map (·.2)) j = some B → φ0 j = some (some g) → ∃ i, renL bl j = some i ∧ φ i = some (some g) := fun j B hj pj => by
    cases e : renL bl j with
    | some i => exact ⟨i, rfl, by rw [← r0 j i e]; exact pj⟩
    | none =>
     simp only [φ0, e] at pj
     split at pj <;> cases pj
   obtain ⟨i1, e1, p1⟩ := get j B hj pj
   obtain ⟨i2, e2, p2⟩ := get k C hk pk
   obtain ⟨B1, b1, _, f1⟩ := old j i1 e1
   obtain ⟨B2, b2, _, _⟩ := old k i2 e2
   have := H.inj i1 i2 B1 B2 g b1 b2 p1 p2 f1
   subst this
   exact renL_inj hinj e1 e2
  fresh := fun j hj _ => by
   have hn : bl[j]? = none := List.getElem?_eq_none (by simpa using hj)
   simp only [φ0, renL, vtL, hn, if_false]
  Dlt := fun b hb => H1.Dlt b hb
  Dsub := fun b hb => .inl hb
  Dsup := fun b hb => hb
  psup := fun j x hx => by
   change pin np φ0 j = some x at hx
   unfold pin at hx
   split at hx
   ·exact hx
   ·cases hx
  fr := ⟨rfl, rfl, rfl, Nat.le_refl _, fun _ _ => rfl, fun _ _ _ => rfl⟩
  fin := ⟨bl.length, fun k hk => by
   have hn : bl[k]? = none := List.getElem?_eq_none hk
   simp only [φ0, renL, vtL, hn, if_false]⟩
  gp := H1.gp }
 have llD : ∀ g, LL (bl.map (·.2)) φ0 g → ¬ D1 g ∧ (X.L0 g ∨ X.w0.heap.size ≤ g) ∧ ∃ i B, i ∈ bl.filterMap (·.1) ∧ σ.h i = some B ∧ i ∉ fr ∧ B.fz = false ∧ φ i = some (some g) := fun g hg => by
  obtain ⟨j, B', hj, pj⟩ := hg
  have get : ∃ i, renL bl j = some i ∧ φ i = some (some g) := by
   cases e : renL bl j with
   | some i => exact ⟨i, rfl, by rw [← r0 j i e]; exact pj⟩
   | none =>
    simp only [φ0, e] at pj
    split at pj <;> cases pj
  obtain ⟨i0, e1, p1⟩ := get
  obtain ⟨B0, b1, b2, b3⟩ := old j i0 e1
  rcases H1.live i0 B0 (hnf i0 B0 b1 b2) with ⟨u1, _⟩ | ⟨g', u1, _, _, u4⟩
  ·rw [p1] at u1; cases u1
  ·rw [p1] at u1; injection u1 with u1; injection u1 with u1; subst u1
   exact ⟨(u4 b3).1, (u4 b3).2, i0, B0, renL_mem e1, b1, b2, b3, p1⟩
 refine (rc.run w φ0 D1 _ Hc hargs0).mono fun e w' hR => ?_
 obtain ⟨v, φ', D', n', rfl, hv, H'⟩ := hR
 let φ2 : Pl := fun c => match renB bk c with | some j => φ' j | none => φ c
 have r2 : ∀ c j, renB bk c = some j → φ2 c = φ' j := fun c j e => by simp only [φ2, e]
 have r2n : ∀ c, renB bk c = none → φ2 c = φ c := fun c e => by simp only [φ2, e]
 have hφfresh : φ (σ.n + i) = none := H.fresh (σ.n + i) (by omega) (by rw [Nat.add_sub_cancel_left]; exact hn)
 have hle : PlLe φ φ2 := fun c x hx => by
  cases e : renB bk c with
  | none => rw [r2n c e]; exact hx
  | some j =>
   rw [r2 c j e]
   obtain ⟨q, hq, rfl, rfl⟩ := renB_at e
   rcases (hbk.at q hq).1 with ⟨h3, h4⟩ | ⟨h3, _⟩
   ·refine H'.psup q.2.1 x ?_
    show pin np φ0 q.2.1 = some x
    unfold pin
    rw [if_pos h3, r0 _ _ h4]; exact hx
   ·rw [h3, hφfresh] at hx; cases hx
 have hDD : ∀ b, D1 b → D' b := fun b hb => H'.Dsup b hb
 have hext : Ext D1 w w' := ⟨H'.fr.size, H'.fr.shape, fun b hb hl => H'.fr.old b hl (fun hll => (llD b hll).1 hb)⟩
 have cv2 : ∀ {v d d'}, RN (hh hb') (renB bk) noV noV d d' → RV φ' D' w' v d → RV φ2 D' w' v d' := fun hp hv => hp.rv H' (fun b h => h) r2 (fun _ _ h => h.elim) (fun _ _ _ _ h => h.elim) hv
 -- the heap behind it
 have hF : ∀ c B, wrs σ.h (backW σ fr bl bk) c = some B → (∃ q ∈ bk, q.1 = c ∧ q.2.2 = B) ∨ (renB bk c = none ∧ c ∉ bl.filterMap (·.1) ∧ wrs σ.h (frz σ.h fr) c = some B) := fun c B e => by
  unfold backW at e
  rw [wrs_app, wrs_app] at e
  by_cases hc : c ∈ bk.map (·.1)
  ·obtain ⟨q, hq, rfl⟩ := List.mem_map.1 hc
   rw [wrs_bk hcs hq] at e
   exact .inl ⟨q, hq, rfl, by simpa using e⟩
  ·rw [wrs_not _ _ (by rw [List.map_map]; exact hc)] at e
   by_cases hc2 : c ∈ bl.filterMap (·.1)
   ·rw [wrs_drop _ _ hc2] at e; cases e
   ·rw [wrs_not _ _ (by rw [List.map_map]; simpa using hc2)] at e
    exact .inr ⟨renB_none hc, hc2, e⟩
 have bkl : ∀ q ∈ bk, (φ2 q.1 = some none ∧ q.2.2.es = []) ∨ ∃ g, φ2 q.1 = some (some g) ∧ φ' q.2.1 = some (some g) ∧ Lies φ2 D' w' g q.2.2 ∧ ¬ D' g ∧ (LL (bl.map (·.2)) φ0 g ∨ w.heap.size ≤ g) := fun q hq => by
  obtain ⟨_, B', b1, b2, b3⟩ := hbk.at q hq
  have e := r2 _ _ (renB_some hcs hq)
  rcases H'.live q.2.1 B' b1 with ⟨u1, u2⟩ | ⟨g, u1, u2, _, u4⟩
  ·refine .inl ⟨by rw [e, u1], ?_⟩
   have := b3.1; rw [u2] at this; exact List.eq_nil_of_length_eq_zero this.symm
  ·refine .inr ⟨g, by rw [e, u1], u1, ?_, (u4 b2.2.2.2).1, (u4 b2.2.2.2).2⟩
   obtain ⟨arr, a1, a2, a3⟩ := u2
   refine ⟨arr, by rw [b2.1]; exact a1, by rw [← b3.1, b2.2.1]; exact a2, fun k f hf => ?_⟩
   have hk : k < B'.es.length := by rw [b3.1]; exact (List.getElem?_eq_some_iff.1 hf).1
   have hrn := b3.2 k _ f (List.getElem?_eq_getElem hk) hf
   obtain ⟨x1, x2⟩ := a3 k _ (List.getElem?_eq_getElem hk)
   refine ⟨by rw [← hrn.1, x1, b2.2.1], fun z d hd => ?_⟩
   have hz : z < (B'.es[k]).length := by rw [hrn.1]; exact (List.getElem?_eq_some_iff.1 hd).1
   obtain ⟨v, v1, v2, v3⟩ := x2 z _ (List.getElem?_eq_getElem hz)
   exact ⟨v, by rw [b2.2.1]; exact v1, v2, cv2 (hrn.2 z _ d (List.getElem?_eq_getElem hz) hd) v3⟩
 have othr : ∀ c B g, c ∉ bl.filterMap (·.1) → wrs σ.h (frz σ.h fr) c = some B → φ c = some (some g) → g < w.heap.size → ¬ LL (bl.map (·.2)) φ0 g := fun c B g hc hcb hcg hlt hll => by
  obtain ⟨_, _, i0, B0, m1, b1, b2, b3, p1⟩ := llD g hll
  have := H1.inj i0 c B0 B g (hnf i0 B0 b1 b2) hcb p1 hcg b3
  subst this; exact hc m1
 have H2 : HS X S' (wrs σ.h (backW σ fr bl bk)) σ.n w' φ2 D' := {
  live := fun c B hcB => by
   rcases hF c B hcB with ⟨q, hq, rfl, rfl⟩ | ⟨hcn, hc2, hc3⟩
   ·rcases bkl q hq with h3 | ⟨g, g1, _, g2, g3, g4⟩
    ·exact .inl h3
    ·obtain ⟨_, B', _, b2, _⟩ := hbk.at q hq
     refine .inr ⟨g, g1, g2, fun hf => absurd (hf.symm.trans b2.2.2.1) (by decide), fun _ => ⟨g3, ?_⟩⟩
     rcases g4 with g4 | g4
     ·exact (llD g g4).2.1
     ·exact .inr (Nat.le_trans H.fr.size g4)
   ·rcases H1.live c B hc3 with ⟨u1, u2⟩ | ⟨g, u1, u2, u3, u4⟩
    ·exact .inl ⟨by rw [r2n c hcn, u1], u2⟩
    ·have hlt := u2.lt
     have hnl := othr c B g hc2 hc3 u1 hlt
     refine .inr ⟨g, by rw [r2n c hcn, u1], u2.keep hle (fun b hb _ => hDD b hb) hext (H'.fr.old g hlt hnl), fun hf => hDD g (u3 hf), fun hf => ⟨fun hd => ?_, (u4 hf).2⟩⟩
     rcases H'.Dsub g hd with h3 | h3 | h3
     ·exact (u4 hf).1 h3
     ·exact hnl h3
     ·have h3 : w.heap.size ≤ g := h3; omega
  inj := fun c1' c2' B C g h1' h2' p1 p2 hf => by
   rcases hF c1' B h1' with ⟨q, hq, rfl, rfl⟩ | ⟨hcn, hc2, hc3⟩
   ·rcases bkl q hq with ⟨g1, _⟩ | ⟨g', g1, g1', _, g3, g4⟩
    ·rw [p1] at g1; cases g1
    ·rw [p1] at g1; injection g1 with g1; injection g1 with g1; subst g1
     rcases hF c2' C h2' with ⟨q', hq', rfl, rfl⟩ | ⟨hcn', hc2', hc3'⟩
     ·rcases bkl q' hq' with ⟨k1, _⟩ | ⟨g', k1, k1', _, _, _⟩
      ·rw [p2] at k1; cases k1
      ·rw [p2] at k1; injection k1 with k1; injection k1 with k1; subst k1
       obtain ⟨_, B1, b1, b2, _⟩ := hbk.at q hq
       obtain ⟨_, B2, d1, _, _⟩ := hbk.at q' hq'
       have hj := H'.inj q.2.1 q'.2.1 B1 B2 g b1 d1 g1' k1' b2.2.2.2
       have gen : ∀ (l : List (Nat × Nat × Blk)), (l.map (·.2.1)).Nodup → q ∈ l → q' ∈ l → q = q' := by
        intro l
        induction l with
        | nil => intro _ h; cases h
        | cons x l ih =>
         intro hn hq hq'
         simp only [List.map_cons, List.nodup_cons] at hn
         rcases List.mem_cons.1 hq with e | hq
         ·rcases List.mem_cons.1 hq' with e' | hq'
          ·rw [e, e']
          ·exact absurd (List.mem_map.2 ⟨q', hq', by rw [← hj, e]⟩) hn.1
         ·rcases List.mem_cons.1 hq' with e' | hq'
          ·exact absurd (List.mem_map.2 ⟨q, hq, by rw [hj, e']⟩) hn.1
          ·exact ih hn.2 hq hq'
       rw [gen bk hjs hq hq']
     ·rw [r2n c2' hcn'] at p2
      rcases H1.live c2' C hc3' with ⟨u1, _⟩ | ⟨g', u1, u2, _, _⟩
      ·rw [p2] at u1; cases u1
      ·rw [p2] at u1; injection u1 with u1; injection u1 with u1; subst u1
       rcases g4 with g4 | g4
       ·exact absurd g4 (othr c2' C g hc2' hc3' p2 u2.lt)
       ·have := u2.lt; omega
   ·rw [r2n c1' hcn] at p1
    rcases H1.live c1' B hc3 with ⟨u1, _⟩ | ⟨g', u1, u2, _, _⟩
    ·rw [p1] at u1; cases u1
    ·rw [p1] at u1; injection u1 with u1; injection u1 with u1; subst u1
     rcases hF c2' C h2' with ⟨q', hq', rfl, rfl⟩ | ⟨hcn', hc2', hc3'⟩
     ·rcases bkl q' hq' with ⟨k1, _⟩ | ⟨g', k1, k1', _, _, k4⟩
      ·rw [p2] at k1; cases k1
      ·rw [p2] at k1; injection k1 with k1; injection k1 with k1; subst k1
       rcases k4 with k4 | k4
       ·exact absurd k4 (othr c1' B g hc2 hc3 p1 u2.lt)
       ·have := u2.lt; omega
     ·rw [r2n c2' hcn'] at p2
      exact H1.inj c1' c2' B C g hc3 hc3' p1 p2 hf
  fresh := fun c hc hns => by
   have hns' : ¬ S (c - σ.n) := fun h => hns (hS _ h)
   have hφc := H.fresh c hc hns'
   cases e : renB bk c with
   | none => rw [r2n c e]; exact hφc
   | some j =>
    obtain ⟨q, hq, rfl, rfl⟩ := renB_at e
    rcases (hbk.at q hq).1 with ⟨h3, h4⟩ | ⟨h3, _⟩
    ·obtain ⟨B0, b1, _, _⟩ := old _ _ h4
     exact absurd hφc (H.dom b1)
    ·rw [h3, Nat.add_sub_cancel_left] at hns; exact absurd hS' hns
  Dlt := H'.Dlt
  Dsub := fun b hb => by
   rcases H'.Dsub b hb with h3 | h3 | h3
   ·exact H1.Dsub b h3
   ·exact .inr (llD b h3).2.1
   ·exact .inr (.inr (Nat.le_trans H.fr.size h3))
  Dsup := fun b hb => hDD b (H1.Dsup b hb)
  psup := H.psup.trans hle
  fr := ⟨H'.fr.os.trans H.fr.os, H'.fr.tape.trans H.fr.tape, H'.fr.output.trans H.fr.output, Nat.le_trans H.fr.size H'.fr.size,
   fun b hb => (H'.fr.shape b (Nat.lt_of_lt_of_le hb H.fr.size)).trans (H.fr.shape b hb), fun b hb hl => by
    have hnl : ¬ LL (bl.map (·.2)) φ0 b := fun h => by
     rcases (llD b h).2.1 with h3 | h3
     ·exact hl h3
     ·omega
    exact (H'.fr.old b (Nat.lt_of_lt_of_le hb H.fr.size) hnl).trans (H.fr.old b hb hl)⟩
  fin := by
   obtain ⟨N, hN⟩ := H.fin
   obtain ⟨M, hM⟩ := bound_ex (bk.map (·.1))
   refine ⟨N + M, fun k hk => ?_⟩
   have hk' : k ∉ bk.map (·.1) := fun hm => by
    have := hM k hm; omega
   rw [r2n k (renB_none hk')]; exact hN k (by omega)
  gp := H'.gp }
 have hstep := hsim.step (dst := o.dst) (d := r') (v := v) H2 hle (fun b hb _ => hDD b (hd1 b hb)) ⟨hext.size, hext.shape, fun b hb hl => hext.same b (hd1 b hb) hl⟩ (cv2 hr hv)
 exact hK' _ _ _ _ hstep
theorem callR_rcw (wr : List (Nat × Option Blk)) (bl : List (Option Nat × Blk)) (fr : List Nat) (bk : List (Nat × Nat × Blk)) (hwr : backW σ fr bl bk = wr) (rc : RC P F ds (bl.map (·.2)) np r hb') (hfz : ∀ p ∈ bl, p.2.fz = false) (hinj : (bl.filterMap (·.1)).Nodup)
  (hB : AllB σ.h (renL bl) (vtL bl) fr bl) (hA : RNs σ.h (renL bl) (vtL bl) (fun i => i ∈ fr) (first ++ argsD ++ cap) ds)
  (hcs : (bk.map (·.1)).Nodup) (hjs : (bk.map (·.2.1)).Nodup) (hbk : AllK (hh hb') bl np (σ.n + i) (renB bk) bk) (hr : RN (hh hb') (renB bk) noV noV r r')
  (hK : K (σ.app o.dst { val := r', wr := wr })) : CallR P σ i o (.fn (.func F) first cap) argsD K := by
 subst hwr
 exact callR_rc bl fr bk rc hfz hinj hB hA hcs hjs hbk hr hK
theorem frz_congr {h h2 : Nat → Option Blk} : ∀ {l : List Nat}, (∀ k ∈ l, h2 k = h k) → frz h2 l = frz h l
 | [], _ => rfl
 | a :: l, hl => by
  have ih := frz_congr (l := l) (fun k hk => hl k (List.mem_cons_of_mem _ hk))
  simp only [frz] at ih ⊢
  rw [hl a (List.mem_cons_self ..), ih]
theorem callW_rcw {K : Ef → Prop} (rd : List Nat) (wr : List (Nat × Option Blk)) (bl : List (Option Nat × Blk)) (fr : List Nat) (bk : List (Nat × Nat × Blk)) (hwr : backW σ fr bl bk = wr) (hfrd : ∀ k ∈ fr, k ∈ rd) (rc : RC P F ds (bl.map (·.2)) np r hb') (hfz : ∀ p ∈ bl, p.2.fz = false) (hinj : (bl.filterMap (·.1)).Nodup)
  (hB : ∀ h2 : Nat → Option Blk, (∀ k ∈ rd, h2 k = σ.h k) → AllB h2 (renL bl) (vtL bl) fr bl) (hA : ∀ h2 : Nat → Option Blk, (∀ k ∈ rd, h2 k = σ.h k) → RNs h2 (renL bl) (vtL bl) (fun i => i ∈ fr) (first ++ argsD ++ cap) ds)
  (hcs : (bk.map (·.1)).Nodup) (hjs : (bk.map (·.2.1)).Nodup) (hbk : AllK (hh hb') bl np (σ.n + i) (renB bk) bk) (hr : RN (hh hb') (renB bk) noV noV r r')
  (hK : K { val := r', rd := rd, wr := wr }) : CallW P σ i o (.fn (.func F) first cap) argsD K := by
 intro f args ats ho hf hargs
 refine ⟨_, fun σ2 h1 h2 h3 => ?_, hK⟩
 have e1 : σ2.ev f = .fn (.func F) first cap := by rw [h1 f (by rw [ho]; simp [Op.operands, Call.operands]), hf]
 have e2 : args.toList.map σ2.ev = argsD := by
  rw [← hargs]
  exact List.map_congr_left fun x hx => h1 x (by rw [ho]; simp [Op.operands, Call.operands]; exact .inr (by simpa using hx))
 have e3 : backW σ2 fr bl bk = wr := by
  rw [← hwr]; unfold backW; rw [frz_congr (fun k hk => h2 k (hfrd k hk))]
 have h := callR_rcw (P := P) (σ := σ2) (i := i) (o := o) (F := F) (K := fun s => s = σ2.app o.dst { val := r', rd := rd, wr := wr }) wr bl fr bk e3 rc hfz hinj (hB σ2.h h2) (hA σ2.h h2) hcs hjs (by rw [h3]; exact hbk) hr rfl
 obtain ⟨e', he', hk⟩ := h f args ats ho e1 e2
 intro X S S' q1 q2 q3
 have := he' X S S' q1 q2 q3
 rw [hk] at this
 exact this
end
theorem wk_ln (n0 : Nat) {nt n : Nat} {t : Nat → Dat} {h : Nat → Option Blk} {R : St → Prop} (bl : List (Option Nat × Blk)) (fr : List Nat) (L : List (Nat × Dat)) (hlow : ∀ i, i < n0 → renL bl i = some i) (hnd : (L.map (·.1)).Nodup) (hinj : (bl.filterMap (·.1)).Nodup)
  (hB : AllB h (renL bl) (vtL bl) fr bl) (hT : AllT h (renL bl) (vtL bl) fr t L) (hR : ∀ t0, R ⟨tl t0 L, hl (bl.map (·.2)), bl.length, nt⟩) : WkS n0 ⟨t, h, n, nt⟩ R := by
 refine wk_mk (n' := bl.length) (h' := hl (bl.map (·.2))) (ren := renL bl) (vt := vtL bl) (fr := fun i => i ∈ fr) L hnd
  { blk := fun j B' hj => ?_, inj := fun j k i hj hk => renL_inj hinj hj hk, low := hlow, top := fun j hj => ?_ } (AllT.at hT) fun t' ht => ?_
 ·unfold hl at hj
  rw [List.getElem?_map] at hj
  cases hp : bl[j]? with
  | none => rw [hp] at hj; cases hj
  | some p =>
   rw [hp] at hj
   simp only [Option.map_some, Option.some.injEq] at hj
   subst hj
   rcases hB.at hp with ⟨h1, h2⟩ | ⟨i, B, h1, h2, h3, h4, h5⟩
   ·exact .inl ⟨by simp only [renL, hp]; exact h1, by simp only [vtL, hp]; exact h1, h2⟩
   ·exact .inr ⟨i, B, by simp only [renL, hp]; exact h1, h2, h3.1, h3.2.1, h3.2.2, h4, h5.1.symm, h5.2⟩
 ·have hn : bl[j]? = none := List.getElem?_eq_none hj
  simp only [renL, vtL, hn]
  exact ⟨trivial, fun h => h⟩
 ·have := hR t'
  rwa [tl_at ht] at this
def scA (Q : Exit → St → Prop) : Exit → St → Prop := fun ex σ => match ex with | .goto _ => False | e => Q e σ
theorem a_scope {n0 : Nat} {P : Program} {Q : Exit → St → Prop} {σ : St} {x : Code} (h : aw Fen.top n0 P x (scA Q) σ) : aw Fen.top n0 P (.scope x) Q σ := fun X hX a w φ D hs => by
 refine fen_top.2 (wp_scope_straight (wp_mono (fen_top.1 (h X hX a w φ D hs)) fun ex a' w' hc => ?_))
 obtain ⟨σ', φ', D', hq, hs'⟩ := hc
 cases ex with
 | normal => exact ⟨σ', φ', D', hq, hs'⟩
 | exit id => exact ⟨σ', φ', D', hq, hs'⟩
 | goto l => exact hq.elim
 | ret => exact ⟨σ', φ', D', hq, hs'⟩
 | panic c => exact ⟨σ', φ', D', hq, hs'⟩
 | outgrown => exact ⟨σ', φ', D', hq, hs'⟩
theorem a_label {fe : Fen} {n0 : Nat} {P : Program} {Q : Exit → St → Prop} {σ : St} {l : Nat} (h : Q .normal σ)   : aw fe n0 P (.label l) Q σ := aw_of (by unfold awp; exact h)
section
variable {Q : Exit → St → Prop} {σ : St} {id : Nat}
theorem gA_r (h : Q .ret σ) : scA Q .ret σ := h
end
theorem sl_if0 {α : Type} {es : List α} {b : Int} {n k : Nat} (h1 : es.length = n) (h2 : b.toNat = k) : (if b = (n : Int) then es else es.take k) = es.take k := by
 split
 ·rw [List.take_of_length_le (by omega)]
 ·rfl
theorem sl_if1 {α : Type} {es : List α} {b : Int} {n k a : Nat} (h1 : es.length = n) (h2 : b.toNat = k) : (if b = (n : Int) then es.drop a else (es.take k).drop a) = (es.take k).drop a := by
 split
 ·rw [List.take_of_length_le (by omega)]
 ·rfl
theorem sl_if2 {α β : Type} {l : List α} {f : α → β} {b : Int} {n k : Nat} (h1 : l.length = n) (h2 : b.toNat = k) : (if b = (n : Int) then l.map f else (l.take k).map f) = (l.take k).map f := by
 split
 ·rw [List.take_of_length_le (by omega)]
 ·rfl
theorem sl_if3 {α β : Type} {l : List α} {f : α → β} {b : Int} {n k a : Nat} (h1 : l.length = n) (h2 : b.toNat = k) : (if b = (n : Int) then (l.drop a).map f else ((l.take k).drop a).map f) = ((l.take k).drop a).map f := by
 split
 ·rw [List.take_of_length_le (by omega)]
 ·rfl
theorem tk_map {α β : Type} (f : α → β) (l : List α) (n : Nat) : (l.map f).take n = (l.take n).map f := List.map_take.symm
theorem dp_map {α β : Type} (f : α → β) (l : List α) (n : Nat) : (l.map f).drop n = (l.drop n).map f := List.map_drop.symm
end Go.Ab
