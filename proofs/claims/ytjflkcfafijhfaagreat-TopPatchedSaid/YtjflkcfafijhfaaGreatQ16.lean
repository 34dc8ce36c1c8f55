import Derived.Test.YtjflkcfafijhfaaGreatQ15
import Derived.Laws.StructEq
set_option linter.unusedSectionVars false
/- A call that answers a slice of its own, of cells without addresses: what it was lent is as it was. And == of two rows. No program here. -/
namespace Go.Ab
open Go.RowKit
variable [Lay]
section
variable {P : Program} {σ : St} {i : Nat} {o : Oper} {F : FuncId} {first cap argsD ds : List Dat} {K : St → Prop} {B : Blk} {st : Nat}
theorem callR_own (fr : List Nat) (rc : RC P F ds [] 0 (.ref 0 0 B.es.length st) [some B]) (hfz : B.fz = false) (hsc : ∀ e ∈ B.es, ∀ d ∈ e, Scal d)
  (hA : RNs σ.h (fun _ => none) noV (fun i => i ∈ fr) (first ++ argsD ++ cap) ds)
  (hK : K (σ.app o.dst { val := .ref (σ.n + i) 0 B.es.length st, wr := [(σ.n + i, some B)] })) : CallR P σ i o (.fn (.func F) first cap) argsD K := by
 intro f args ats ho hf hargs
 refine ⟨_, ?_, hK⟩
 classical
 intro X S S' hn hS hS' a w φ D hsim K' Q' hK'
 have hfv := hsim.ev f
 rw [hf] at hfv
 obtain ⟨c1, c2, hfe, h1, h2⟩ := hfv.fn_inv
 have hav := hsim.evs args.toList
 rw [hargs] at hav
 have hall := (h1.append hav).append h2
 unfold Oper.wp
 rw [call_run2 ho rc.enter hfe, Oper.upon_enter]
 have H := hsim.hs
 obtain ⟨D1, H1, hd1⟩ := H.frzs fr
 have hfrD : ∀ i B g, σ.h i = some B → i ∈ fr → φ i = some (some g) → D1 g := fun i B g e1 e2 e3 => by
  have e4 : wrs σ.h (frz σ.h fr) i = some { B with fz := true } := by rw [wrs_frz, if_pos (by simpa using e2), e1]; rfl
  rcases H1.live i _ e4 with ⟨q, _⟩ | ⟨g', q, _, q3, _⟩
  ·rw [e3] at q; cases q
  ·rw [e3] at q; injection q with q; injection q with q; subst q; exact q3 rfl
 let φ0 : Pl := fun _ => none
 have cv : ∀ {v d d'}, RN σ.h (fun _ => none) noV (fun i => i ∈ fr) d d' → RV φ D w v d → RV φ0 D1 w v d' := fun hp hv => hp.rv H hd1 (fun _ _ e => by cases e) (fun _ _ hv => hv.elim) hfrD hv
 have hargs0 : RVs φ0 D1 w (c1 ++ args.toList.map a.eval ++ c2) ds := ⟨hall.1.trans hA.1, fun q c d hc hd => by
  have hq : q < (first ++ argsD ++ cap).length := by rw [hA.1]; exact (List.getElem?_eq_some_iff.1 hd).1
  exact cv (hA.2 q _ d (List.getElem?_eq_getElem hq) hd) (hall.2 q c _ hc (List.getElem?_eq_getElem hq))⟩
 have Hc : HS (XC w [] 0 φ0 D1) S0 (hl []) ([] : List Blk).length w φ0 D1 := {
  live := fun j B' hj => by simp [hl] at hj
  inj := fun j k B C g hj => by simp [hl] at hj
  fresh := fun _ _ _ => rfl
  Dlt := fun b hb => H1.Dlt b hb
  Dsub := fun b hb => .inl hb
  Dsup := fun b hb => hb
  psup := fun j x hx => by
   change pin 0 φ0 j = some x at hx
   simp [pin] at hx
  fr := ⟨rfl, rfl, rfl, Nat.le_refl _, fun _ _ => rfl, fun _ _ _ => rfl⟩
  fin := ⟨0, fun _ _ => rfl⟩
  gp := H1.gp }
 refine (rc.run w φ0 D1 _ Hc hargs0).mono fun e w' hR => ?_
 obtain ⟨v, φ', D', n', rfl, hv, H'⟩ := hR
 have noLL : ∀ g, ¬ LL ([] : List Blk) φ0 g := fun g hg => by
  obtain ⟨j, B', hj, _⟩ := hg
  simp at hj
 have hφfresh : φ (σ.n + i) = none := H.fresh (σ.n + i) (by omega) (by rw [Nat.add_sub_cancel_left]; exact hn)
 let φ2 : Pl := upd φ (σ.n + i) (φ' 0)
 have hle : PlLe φ φ2 := fun c x hx => by
  by_cases e : c = σ.n + i
  ·subst e; rw [hφfresh] at hx; cases hx
  ·simp only [φ2]; rw [upd_ne _ _ e]; exact hx
 have hDD : ∀ b, D b → D' b := fun b hb => H'.Dsup b (hd1 b hb)
 have hold : ∀ g, g < w.heap.size → w'.heap[g]? = w.heap[g]? := fun g hg => H'.fr.old g hg (noLL g)
 have hext : Ext D w w' := ⟨H'.fr.size, H'.fr.shape, fun b _ hl => hold b hl⟩
 have h0 : (hh [some B]) 0 = some B := rfl
 have hnew : (φ' 0 = some none ∧ B.es = []) ∨ ∃ g, φ' 0 = some (some g) ∧ Lies φ2 D w' g B ∧ ¬ D' g ∧ w.heap.size ≤ g := by
  rcases H'.live 0 B h0 with h3 | ⟨g, u1, u2, _, u4⟩
  ·exact .inl h3
  ·refine .inr ⟨g, u1, ?_, (u4 hfz).1, ?_⟩
   ·obtain ⟨arr, a1, a2, a3⟩ := u2
    refine ⟨arr, a1, a2, fun k e he => ⟨(a3 k e he).1, fun j d hd => ?_⟩⟩
    obtain ⟨v, v1, v2, v3⟩ := (a3 k e he).2 j d hd
    exact ⟨v, v1, v2, (hsc e (List.mem_of_getElem? he) d (List.mem_of_getElem? hd)).rv v3⟩
   ·rcases (u4 hfz).2 with h3 | h3
    ·exact absurd h3 (noLL g)
    ·exact h3
 have hF : ∀ c B', wrs σ.h [(σ.n + i, some B)] c = some B' → (c = σ.n + i ∧ B' = B) ∨ (c ≠ σ.n + i ∧ σ.h c = some B') := fun c B' e => by
  change upd σ.h (σ.n + i) (some B) c = some B' at e
  by_cases hc : c = σ.n + i
  ·subst hc; rw [upd_same] at e; exact .inl ⟨rfl, by simpa using e.symm⟩
  ·rw [upd_ne _ _ hc] at e; exact .inr ⟨hc, e⟩
 have s2 : φ2 (σ.n + i) = φ' 0 := upd_same _ _ _
 have n2 : ∀ c, c ≠ σ.n + i → φ2 c = φ c := fun c hc => upd_ne _ _ hc
 have oldlt : ∀ c B' g, σ.h c = some B' → φ c = some (some g) → g < w.heap.size := fun c B' g e1 e2 => by
  rcases H.live c B' e1 with ⟨u1, _⟩ | ⟨g', u1, u2, _⟩
  ·rw [e2] at u1; cases u1
  ·rw [e2] at u1; injection u1 with u1; injection u1 with u1; subst u1; exact u2.lt
 have H2 : HS X S' (wrs σ.h [(σ.n + i, some B)]) σ.n w' φ2 D := {
  live := fun c B' hc => by
   rcases hF c B' hc with ⟨rfl, rfl⟩ | ⟨hc1, hc2⟩
   ·rw [s2]
    rcases hnew with h3 | ⟨g, g1, g2, g3, g4⟩
    ·exact .inl h3
    ·refine .inr ⟨g, g1, g2, ?_, ?_⟩
     ·intro hf; rw [hfz] at hf; cases hf
     ·exact fun _ => ⟨fun hd => g3 (hDD g hd), .inr (Nat.le_trans H.fr.size g4)⟩
   ·rw [n2 c hc1]
    rcases H.live c B' hc2 with h3 | ⟨g, u1, u2, u3, u4⟩
    ·exact .inl h3
    ·exact .inr ⟨g, u1, u2.keep hle (fun b hb _ => hb) hext (hold g u2.lt), u3, u4⟩
  inj := fun c1' c2' B' C g hc1 hc2 p1 p2 hf => by
   rcases hF c1' B' hc1 with ⟨rfl, rfl⟩ | ⟨hn1, ho1⟩ <;> rcases hF c2' C hc2 with ⟨rfl, rfl⟩ | ⟨hn2, ho2⟩
   ·rfl
   ·rw [n2 c2' hn2] at p2; rw [s2] at p1
    have hlt := oldlt c2' C g ho2 p2
    rcases hnew with ⟨h3, _⟩ | ⟨g', g1, _, _, g4⟩
    ·rw [p1] at h3; cases h3
    ·rw [p1] at g1; injection g1 with g1; injection g1 with g1; subst g1; omega
   ·rw [n2 c1' hn1] at p1; rw [s2] at p2
    have hlt := oldlt c1' B' g ho1 p1
    rcases hnew with ⟨h3, _⟩ | ⟨g', g1, _, _, g4⟩
    ·rw [p2] at h3; cases h3
    ·rw [p2] at g1; injection g1 with g1; injection g1 with g1; subst g1; omega
   ·rw [n2 c1' hn1] at p1; rw [n2 c2' hn2] at p2
    exact H.inj c1' c2' B' C g ho1 ho2 p1 p2 hf
  fresh := fun c hc hns => by
   have hns' : ¬ S (c - σ.n) := fun h => hns (hS _ h)
   by_cases e : c = σ.n + i
   ·subst e; rw [Nat.add_sub_cancel_left] at hns; exact absurd hS' hns
   ·rw [n2 c e]; exact H.fresh c hc hns'
  Dlt := fun b hb => Nat.lt_of_lt_of_le (H.Dlt b hb) H'.fr.size
  Dsub := H.Dsub
  Dsup := H.Dsup
  psup := H.psup.trans hle
  fr := ⟨H'.fr.os.trans H.fr.os, H'.fr.tape.trans H.fr.tape, H'.fr.output.trans H.fr.output, Nat.le_trans H.fr.size H'.fr.size,
   fun b hb => (H'.fr.shape b (Nat.lt_of_lt_of_le hb H.fr.size)).trans (H.fr.shape b hb), fun b hb hl => (hold b (Nat.lt_of_lt_of_le hb H.fr.size)).trans (H.fr.old b hb hl)⟩
  fin := by
   obtain ⟨N, hN⟩ := H.fin
   exact ⟨N + (σ.n + i) + 1, fun k hk => by rw [n2 k (by omega)]; exact hN k (by omega)⟩
  gp := Lay.gpk H.gp hext (fun _ h _ => h) }
 have hrv : RV φ2 D w' v (.ref (σ.n + i) 0 B.es.length st) := by
  generalize B.es.length = m at hv ⊢
  cases hv with
  | ref _ g _ _ c _ hφ hlc hc hsz => exact .ref (σ.n + i) g 0 _ c st (by rw [s2]; exact hφ) hlc hc hsz
  | ref0 _ _ _ A h0 => exact absurd h0 (Nat.lt_irrefl 0)
  | refv _ _ hφ => exact .refv (σ.n + i) st (by rw [s2]; exact hφ)
 have hstep := hsim.step (dst := o.dst) (d := .ref (σ.n + i) 0 B.es.length st) (v := v) H2 hle (fun b hb _ => hb) hext hrv
 exact hK' _ _ _ _ hstep
end
theorem callR_ownm {P : Program} {σ : St} {i : Nat} {o : Oper} {F : FuncId} {first cap argsD ds : List Dat} {K : St → Prop} {α : Type} {l : List α} {c : α → List Dat} {e st : Nat} (fr : List Nat)
  (rc : RC P F ds [] 0 (.ref 0 0 l.length st) [some ⟨e, st, false, l.map c⟩]) (hsc : ∀ x, ∀ d ∈ c x, Scal d)
  (hA : RNs σ.h (fun _ => none) noV (fun i => i ∈ fr) (first ++ argsD ++ cap) ds)
  (hK : K (σ.app o.dst { val := .ref (σ.n + i) 0 l.length st, wr := [(σ.n + i, some ⟨e, st, false, l.map c⟩)] })) : CallR P σ i o (.fn (.func F) first cap) argsD K := by
 have hl : (l.map c).length = l.length := List.length_map ..
 refine callR_own (B := ⟨e, st, false, l.map c⟩) (st := st) fr (by simpa only [hl] using rc) rfl (fun e he d hd => ?_) hA (by simpa only [hl] using hK)
 obtain ⟨x, _, rfl⟩ := List.mem_map.1 he
 exact hsc x d hd
theorem ci_sc (k : IntKind) (x : Int) (d : Dat) (h : d ∈ ci k x) : Scal d := by
 rw [ci_eq, List.mem_singleton] at h
 subst h; constructor
theorem rows_eff {P : Program} {σ : St} {i : Nat} {o : Oper} {op : BinOp} {t t' : TypeId} {x y : Operand} {us vs : List (IntKind × Int)} {r : Bool} (ho : o.op = .binOp op t x y t')
  (hx : σ.ev x = .agg (us.map fun p => .int p.1 p.2)) (hy : σ.ev y = .agg (vs.map fun p => .int p.1 p.2)) (hg : P.eqGuardType P.depth t = false)
  (hr : ∀ w, (binOp op t (.agg (us.map fun p => Value.int p.1 p.2).toArray) (.agg (vs.map fun p => Value.int p.1 p.2).toArray)).run P w = .ok (.bool r) w) : CallEff P σ i o { val := .bool r } := by
 intro X S S' hn hS hS'
 have inv : ∀ {φ : Pl} {D : Nat → Prop} {w : World} {v : Value} {us : List (IntKind × Int)}, RV φ D w v (.agg (us.map fun p => .int p.1 p.2)) → v = .agg (us.map fun p => Value.int p.1 p.2).toArray := by
  intro φ D w v us h
  obtain ⟨vs, rfl, hl, h⟩ := h.agg_inv
  congr 2
  refine List.ext_getElem? fun j => ?_
  rw [List.getElem?_map]
  cases hj : us[j]? with
  | none => 
   rw [List.getElem?_eq_none (by rw [hl, List.length_map]; exact List.getElem?_eq_none_iff.1 hj)]; rfl
  | some p =>
   have hjl : j < vs.length := by rw [hl, List.length_map]; exact (List.getElem?_eq_some_iff.1 hj).1
   have := h j _ (.int p.1 p.2) (List.getElem?_eq_getElem hjl) (by rw [List.getElem?_map, hj]; rfl)
   rw [List.getElem?_eq_getElem hjl, this.int_inv]; rfl
 have := goes_val (P := P) (X := X) (o := o) (σ := σ) (d := .bool r) hS fun a w φ D hs => by
  have h1 := hs.ev x
  rw [hx] at h1
  have h2 := hs.ev y
  rw [hy] at h2
  refine ⟨.bool r, ?_, .bool _⟩
  simp only [execOp, ho, inv h1, inv h2, Sem.run_bind, run_eqGuard_agg w op t x y _ _ hg, Result.andThen_ok, hr w, Sem.run_pure]
 exact goes_ofv this
theorem oth_rowsW {P : Program} {σ : St} {i : Nat} {o : Oper} {K : Ef → Prop} {op : BinOp} {t t' : TypeId} {x y : Operand} {us vs : List (IntKind × Int)} {r : Bool} (ho : o.op = .binOp op t x y t')
  (hx : σ.ev x = .agg (us.map fun p => .int p.1 p.2)) (hy : σ.ev y = .agg (vs.map fun p => .int p.1 p.2)) (hg : P.eqGuardType P.depth t = false)
  (hr : ∀ w, (binOp op t (.agg (us.map fun p => Value.int p.1 p.2).toArray) (.agg (vs.map fun p => Value.int p.1 p.2).toArray)).run P w = .ok (.bool r) w)
  (hK : K { val := .bool r }) : OthW P σ i o K :=
 ⟨_, fun σ2 h1 _ _ => rows_eff ho (by rw [h1 x (by rw [ho]; simp [Op.operands]), hx]) (by rw [h1 y (by rw [ho]; simp [Op.operands]), hy]) hg hr, hK⟩
theorem rc_ints {P : Program} {F : FuncId} {ds : List Dat} {l : List Int} {e : Nat} (en : ∃ fn c, P.funcs[F]? = some fn ∧ fn.body = some c ∧ (fn.name == "runtime.NumGoroutine") = false)
  (h : ∀ (w : World) (D : Nat → Prop) (vs : List Value), (∀ b, D b → b < w.heap.size) → Lay.gp w D → RVs NP D w vs ds → Calls P F vs.toArray w fun r w' => ∃ v, r = .returned v ∧ w'.ownsRow w.heap.size e 1 v l.length (l.map (Value.int .i64)) ∧ Below w.heap.size w w') :
  RC P F ds [] 0 (.ref 0 0 l.length 1) [some ⟨e, 1, false, l.map (ci .i64)⟩] where
 enter := en
 run := fun w φ D vs H hv => by
  have hφ : φ = NP := by
   funext i
   exact H.fresh i (Nat.zero_le _) (fun h => h)
  subst hφ
  refine (h w D vs (fun b hb => H.Dlt b hb) H.gp hv).mono fun r w' hR => ?_
  obtain ⟨v, rfl, hrow, hb⟩ := hR
  have noLL : ∀ g, ¬ LL ([] : List Blk) NP g := fun g hg => by
   obtain ⟨j, B', hj, _⟩ := hg
   simp at hj
  have base : ∀ (x : Option (Option Nat)), (∀ g, x = some (some g) → w.heap.size ≤ g ∧ Lies (upd NP 0 x) D w' g ⟨e, 1, false, l.map (ci .i64)⟩) → (x = some none ∧ l = [] ∨ ∃ g, x = some (some g)) → HS (XC w [] 0 NP D) S0 (hh [some ⟨e, 1, false, l.map (ci .i64)⟩]) 1 w' (upd NP 0 x) D := fun x hx hx2 => {
   live := fun j B hj => by
    rcases j with _ | j
    ·change some _ = some B at hj
     injection hj with hj; subst hj
     rw [upd_same]
     rcases hx2 with ⟨e1, e2⟩ | ⟨g, e1⟩
     ·exact .inl ⟨e1, by rw [e2]; rfl⟩
     ·refine .inr ⟨g, e1, (hx g e1).2, (by intro h; cases h), fun _ => ⟨fun hd => ?_, .inr (hx g e1).1⟩⟩
      have := H.Dlt g hd
      have := (hx g e1).1
      omega
    ·simp [hh] at hj
   inj := fun i j B C g hi hj pi pj _ => by
    have z : ∀ (i : Nat) B, hh [some (⟨e, 1, false, l.map (ci .i64)⟩ : Blk)] i = some B → i = 0 := fun i B hi => by
     rcases i with _ | i
     ·rfl
     ·simp [hh] at hi
    rw [z i B hi, z j C hj]
   fresh := fun i hi _ => by rw [upd_ne _ _ (by omega)]
   Dlt := fun b hd => Nat.lt_of_lt_of_le (H.Dlt b hd) hb.size
   Dsub := fun b hd => .inl hd
   Dsup := fun b hd => hd
   psup := fun i x hx => by simp [pin] at hx
   fr := ⟨hb.os, hb.tape, hb.output, hb.size, fun b hl => shape_of_heap (hb.block b hl), fun b hl _ => hb.block b hl⟩
   fin := ⟨1, fun k hk => by rw [upd_ne _ _ (by omega)]⟩
   gp := Lay.gpk H.gp (Ext.of_below hb) (fun _ h _ => h) }
  rcases hrow with ⟨hl, ⟨rfl, h0⟩ | ⟨g, cap, cur, rfl, hg, hgb, hk, hm, hcs, ht⟩⟩
  ·have hl0 : l = [] := List.eq_nil_of_length_eq_zero h0
   refine ⟨_, upd NP 0 (some none), D, 1, rfl, ?_, base _ (fun g e => by cases e) (.inl ⟨rfl, hl0⟩)⟩
   rw [h0]
   exact .refv 0 1 (upd_same _ _ _)
  ·refine ⟨_, upd NP 0 (some (some g)), D, 1, rfl, .ref 0 g 0 _ cap 1 (upd_same _ _ _) hk hm ⟨e, ?_⟩, base _ (fun g' e' => ?_) (.inr ⟨g, rfl⟩)⟩
   ·simp [World.shape?, hgb, hcs]
   ·injection e' with e'; injection e' with e'; subst e'
    refine ⟨hg, cur, hgb, by simp [hcs]; omega, fun k f hf => ?_⟩
    rw [List.getElem?_map] at hf
    obtain ⟨z, hz, rfl⟩ := Option.map_eq_some_iff.1 hf
    refine ⟨rfl, fun j d hd => ?_⟩
    rcases j with _ | j
    ·change some _ = some d at hd
     injection hd with hd; subst hd
     refine ⟨.int .i64 z, ?_, rfl, .int _ _⟩
     have hkl : k < l.length := (List.getElem?_eq_some_iff.1 hz).1
     have h1 : (cur.toList.take (l.length * 1))[k]? = some (.int .i64 z) := by rw [ht, List.getElem?_map, hz]; rfl
     rw [List.getElem?_take, if_pos (by omega)] at h1
     simpa using h1
    ·simp [ci_eq] at hd
def two {β : Type} (n : Int) (a b : Option β) : Option β := if n = 0 then a else if n = 1 then b else none
theorem RNL.repl {h : Nat → Option Blk} {ren : Nat → Option Nat} {vt fr : Nat → Prop} (n st : Nat) : RNL h ren vt fr (List.replicate n [.nil]) (List.replicate n [.list st []]) := by
 refine ⟨by simp, fun k e f he hf => ?_⟩
 obtain ⟨_, rfl⟩ := List.mem_replicate.1 (List.mem_of_getElem? he)
 obtain ⟨_, rfl⟩ := List.mem_replicate.1 (List.mem_of_getElem? hf)
 exact RNs.cons (.nil st) .nil
end Go.Ab
