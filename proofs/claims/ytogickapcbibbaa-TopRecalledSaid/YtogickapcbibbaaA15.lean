/- DERIVED. Calls that are handed addresses of the caller's own, and only read there. No program here. -/
import Derived.Test.YtogickapcbibbaaA14
namespace Go.Ab
open Go.RowKit

/-- block number i is told of, and reads so -/
def Rd (φ : Pl) (D : Nat → Prop) (w : World) (i : Nat) (B : Blk) : Prop := (φ i = some none ∧ B.es = []) ∨ ∃ g, φ i = some (some g) ∧ Lies φ D w g B

def fzh (h : Nat → Option Blk) : Nat → Option Blk := fun i => (h i).map fun B => { B with fz := true }

theorem fzh_apply (h : Nat → Option Blk) (i : Nat) : fzh h i = (h i).map fun B => { B with fz := true } := rfl
structure QC (P : Program) (F : FuncId) (ds : List Dat) (h : Nat → Option Blk) (r : Dat) : Prop where
  enter : ∃ fn c, P.funcs[F]? = some fn ∧ fn.body = some c ∧ (fn.name == "runtime.NumGoroutine") = false
  scal : Scal r
  run : ∀ (w : World) (φ : Pl) (D : Nat → Prop) (vs : List Value), (∀ b, D b → b < w.heap.size) → (∀ i B, h i = some B → Rd φ D w i B) → (∃ N, ∀ i, N ≤ i → φ i = none) → RVs φ D w vs ds →
    Calls P F vs.toArray w fun e w' => ∃ v, e = .returned v ∧ RV NP D w' v r ∧ Below w.heap.size w w'

def hent (ds : List Dat) (h : Nat → Option Blk) (n nt : Nat) : St := { t := fun i => ds.getD i (.oth undef), h := h, n := n, nt := nt }

theorem Rd.lies_mono {φ : Pl} {D D' : Nat → Prop} {w : World} {g : Nat} {B : Blk} (h : Lies φ D w g B) (hD : ∀ b, D b → D' b) : Lies φ D' w g B :=
  h.keep (PlLe.refl _) (fun b h _ => hD b h) (Ext.refl _ _) rfl

theorem Sim.hent {X : Cx} {fn : Func} {ds : List Dat} {vs : List Value} {w : World} {φ : Pl} {D : Nat → Prop} {n : Nat} {h : Nat → Option Blk} (hv : RVs φ D w vs ds) (hs : HS X S0 h n w φ D) :
    Sim X S0 (Ab.hent ds h n (ds.length + (fn.ntmps - ds.length))) { tmps := vs.toArray ++ Array.replicate (fn.ntmps - vs.toArray.size) undef, defers := [] } w φ D where
  nt := by simp [Ab.hent, hv.1]
  df := rfl
  tm := fun i => by
    show RV φ D w _ (ds.getD i (.oth undef))
    rw [Array.getD_eq_getD_getElem?, List.getD_eq_getElem?_getD]
    by_cases hi : i < vs.length
    · have hi' : i < ds.length := by rw [← hv.1]; exact hi
      rw [Array.getElem?_append_left (by simpa using hi), List.getElem?_toArray, List.getElem?_eq_getElem hi, List.getElem?_eq_getElem hi']
      exact hv.2 i _ _ (List.getElem?_eq_getElem hi) (List.getElem?_eq_getElem hi')
    · rw [List.getElem?_eq_none (by rw [← hv.1]; omega)]
      have : ((vs.toArray ++ Array.replicate (fn.ntmps - vs.toArray.size) undef)[i]?).getD undef = undef := by
        rw [Array.getElem?_append_right (by simpa using hi), Array.getElem?_replicate]
        split <;> rfl
      rw [this]
      exact .oth undef
  hs := hs

theorem qc_of {P : Program} {F : FuncId} {fn : Func} {c : Code} {ds : List Dat} {h : Nat → Option Blk} {r : Dat} (hf : P.funcs[F]? = some fn) (hb : fn.body = some c) (hn : (fn.name == "runtime.NumGoroutine") = false) (hsc : Scal r)
    (H : ∀ N, (∀ i, N ≤ i → h i = none) → awp P c (retP P fn fun d σ => PurR σ.h false d r) (hent ds (fzh h) N (ds.length + (fn.ntmps - ds.length)))) : QC P F ds h r where
  enter := ⟨fn, c, hf, hb, hn⟩
  scal := hsc
  run := fun w φ D vs hD hR hN hv => by
    obtain ⟨N, hN⟩ := hN
    refine calls_of_wp hf hb ?_
    have hh : ∀ i, N ≤ i → h i = none := fun i hi => by
      cases hq : h i with
      | none => rfl
      | some B => rcases hR i B hq with ⟨q, _⟩ | ⟨g, q, _⟩ <;> rw [hN i hi] at q <;> cases q
    let D1 : Nat → Prop := fun b => b < w.heap.size
    have hs : HS ⟨w, fun _ => False, D1, φ⟩ S0 (fzh h) N w φ D1 := {
      live := fun i B hi => by
        unfold fzh at hi
        cases hq : h i with
        | none => rw [hq] at hi; cases hi
        | some C =>
          rw [hq] at hi
          simp only [Option.map_some, Option.some.injEq] at hi
          subst hi
          rcases hR i C hq with ⟨q, q2⟩ | ⟨g, q, q2⟩
          · exact .inl ⟨q, q2⟩
          · exact .inr ⟨g, q, Rd.lies_mono q2 hD, fun _ => q2.lt, fun h => by cases h⟩
      inj := fun i j B C g hi _ _ _ hfz => by
        unfold fzh at hi
        cases hq : h i with
        | none => rw [hq] at hi; cases hi
        | some E => rw [hq] at hi; simp only [Option.map_some, Option.some.injEq] at hi; subst hi; cases hfz
      fresh := fun i hi _ => hN i hi
      Dlt := fun b h => h
      Dsub := fun b h => .inl h
      Dsup := fun b h => h
      psup := PlLe.refl _
      fr := ⟨rfl, rfl, rfl, Nat.le_refl _, fun _ _ => rfl, fun _ _ _ => rfl⟩
      fin := ⟨N, hN⟩ }
    have hv1 : RVs φ D1 w vs ds := ⟨hv.1, fun i c d hc hd => RV.keep (PlLe.refl _) (fun b h _ => hD b h) (Ext.refl _ _) (hv.2 i c d hc hd)⟩
    have hsim := Sim.hent (fn := fn) hv1 hs
    refine wp_mono (awp_sound _ c _ _ (H N hh) _ _ _ _ hsim) (retP_sound fun σ a w' φ' D' d v hs' hp hrv => ?_)
    refine ⟨v, rfl, ?_, ⟨hs'.hs.fr.os, hs'.hs.fr.tape, hs'.hs.fr.output, hs'.hs.fr.size, fun k hk => hs'.hs.fr.old k hk (fun h => h)⟩⟩
    have := hp.rv hs'.hs (D2 := fun b => b < w'.heap.size) (fun b hb => hs'.hs.Dlt b hb) (fun i B g hi _ hφ => by
      rcases hs'.hs.live i B hi with ⟨q, _⟩ | ⟨g', q, q2, _⟩
      · rw [hφ] at q; cases q
      · rw [hφ] at q; injection q with q; injection q with q; subst q; exact q2.lt) hrv
    exact hsc.rv this

theorem qc_go {P : Program} {F : FuncId} {fn : Func} {c : Code} {ds : List Dat} {h : Nat → Option Blk} {r : Dat} (hf : P.funcs[F]? = some fn) (hb : fn.body = some c) (hn : (fn.name == "runtime.NumGoroutine") = false) (nt : Nat) (hnt : ds.length + (fn.ntmps - ds.length) = nt)
    (rl : List ResultVar) (hrl : fn.results.toList = rl) (hsc : Scal r) (H : ∀ N, (∀ i, N ≤ i → h i = none) → awp P c (endC P rl r) (hent ds (fzh h) N nt)) : QC P F ds h r := by
  subst hnt; subst hrl
  refine qc_of hf hb hn hsc fun N hN => ?_
  have e : (retP P fn fun d σ => PurR σ.h false d r) = endC P fn.results.toList r := by
    funext ex σ
    cases ex <;> rfl
  rw [e]
  exact H N hN

section
variable {P : Program} {σ : St} {i : Nat} {o : Oper} {F : FuncId} {first cap argsD ds : List Dat} {h : Nat → Option Blk} {r : Dat}
theorem call_enter {f : Operand} {args : Array Operand} {ats : Array TypeId} (ho : o.op = .call { callee := .value f, args, argTypes := ats }) (pc : ∃ fn c, P.funcs[F]? = some fn ∧ fn.body = some c ∧ (fn.name == "runtime.NumGoroutine") = false) {a : Act} {w : World} {c1 c2 : List Value} (hf : a.eval f = .func (.func F) c1.toArray c2.toArray) :
    (execOp a.eval o).run P w = .ok (.enter F (c1 ++ args.toList.map a.eval ++ c2).toArray) w := by
  obtain ⟨fn, c, h1, h2, h3⟩ := pc
  have e : (c1.toArray ++ Array.map a.eval args ++ c2.toArray) = (c1 ++ args.toList.map a.eval ++ c2).toArray := by
    apply Array.ext'; simp
  unfold execOp
  simp only [ho, resolve, hf, Deferred.ofValue, invoke, Sem.run_bind, Sem.run_pure, Result.andThen_ok]
  rw [e]
  have h3' : ¬ fn.name = "runtime.NumGoroutine" := by simpa using h3
  simp [callFunc, program, Sem.run, h1, h2, h3']

theorem qc_eff {f : Operand} {args : Array Operand} {ats : Array TypeId} (qc : QC P F ds h r) (hsub : ∀ i B, h i = some B → ∃ C, σ.h i = some C ∧ C.e = B.e ∧ C.st = B.st ∧ C.es = B.es) (hds : first ++ argsD ++ cap = ds)
    (ho : o.op = .call { callee := .value f, args := args, argTypes := ats }) (hf : σ.ev f = .fn (.func F) first cap) (hargs : args.toList.map σ.ev = argsD) : CallEff P σ i o { val := r } := by
  intro X S S' hn hS hS' a w φ D hsim K' Q' hK'
  have hfv := hsim.ev f
  rw [hf] at hfv
  obtain ⟨c1, c2, hfe, h1, h2⟩ := hfv.fn_inv
  have hav := hsim.evs args.toList
  rw [hargs] at hav
  have hall := (h1.append hav).append h2
  rw [hds] at hall
  unfold Oper.wp
  rw [call_enter ho qc.enter hfe, Oper.upon_enter]
  have hfin := hsim.hs.fin
  refine (qc.run w φ D _ hsim.hs.Dlt (fun j B hj => ?_) hfin hall).mono fun e w' hR => ?_
  · obtain ⟨C, hC, q1, q2, q3⟩ := hsub j B hj
    rcases hsim.hs.live j C hC with ⟨p1, p2⟩ | ⟨g, p1, p2, _⟩
    · exact .inl ⟨p1, by rw [← q3]; exact p2⟩
    · refine .inr ⟨g, p1, ?_⟩
      obtain ⟨arr, a1, a2, a3⟩ := p2
      exact ⟨arr, by rw [← q1]; exact a1, by rw [← q2, ← q3]; exact a2, by rw [← q2, ← q3]; exact a3⟩
  · obtain ⟨v, rfl, hv, hb⟩ := hR
    have hc := Chg.of_below hb
    have H2 := (hsim.hs.grow hc).more hS
    exact hK' _ _ _ _ (hsim.step (dst := o.dst) (d := r) (v := v) H2 (PlLe.refl _) (fun b hb _ => hb) (hc.ext fun _ h => by cases h) (qc.scal.rv hv))
theorem callR_qc {K : St → Prop} (qc : QC P F ds h r) (hsub : ∀ i B, h i = some B → ∃ C, σ.h i = some C ∧ C.e = B.e ∧ C.st = B.st ∧ C.es = B.es) (hds : first ++ argsD ++ cap = ds) (hK : K (σ.app o.dst { val := r })) : CallR P σ i o (.fn (.func F) first cap) argsD K :=
  fun _ _ _ ho hf hargs => ⟨_, qc_eff qc hsub hds ho hf hargs, hK⟩
theorem callQ_qc {K : Dat → Prop} (qc : QC P F ds h r) (hsub : ∀ i B, h i = some B → ∃ C, σ.h i = some C ∧ C.e = B.e ∧ C.st = B.st ∧ C.es = B.es) (hds : first ++ argsD ++ cap = ds) (hK : K r) : CallQ P σ i o (.fn (.func F) first cap) argsD K :=
  fun f args ats ho hf hargs => ⟨r, fun σ2 h1 h2 _ => qc_eff (σ := σ2) qc (fun j B hj => by rw [h2]; exact hsub j B hj) hds ho (by rw [h1 f (by rw [ho]; simp [Op.operands, Call.operands]), hf])
    (by rw [← hargs]; exact List.map_congr_left fun x hx => h1 x (by rw [ho]; simp [Op.operands, Call.operands]; exact .inr (by simpa using hx))), hK⟩
end
end Go.Ab
namespace Go.Ab
theorem hsub_nil {h : Nat → Option Blk} : ∀ i B, (fun _ => none : Nat → Option Blk) i = some B → ∃ C, h i = some C ∧ C.e = B.e ∧ C.st = B.st ∧ C.es = B.es := fun i B h => by cases h
theorem hsub_cons {h k : Nat → Option Blk} {j : Nat} {E : Blk} (h1 : ∃ C, h j = some C ∧ C.e = E.e ∧ C.st = E.st ∧ C.es = E.es) (h2 : ∀ i B, k i = some B → ∃ C, h i = some C ∧ C.e = B.e ∧ C.st = B.st ∧ C.es = B.es) :
    ∀ i B, upd k j (some E) i = some B → ∃ C, h i = some C ∧ C.e = B.e ∧ C.st = B.st ∧ C.es = B.es := fun i B hi => by
  by_cases e : i = j
  · subst e; rw [upd_same] at hi; injection hi with hi; subst hi; exact h1
  · rw [upd_ne _ _ e] at hi; exact h2 i B hi
end Go.Ab
namespace Go.Ab
theorem fzh_sub {H : Nat → Option Blk} : ∀ i B, H i = some B → ∃ C, fzh H i = some C ∧ C.e = B.e ∧ C.st = B.st ∧ C.es = B.es := fun i B h => ⟨{ B with fz := true }, by rw [fzh_apply, h]; rfl, rfl, rfl, rfl⟩
end Go.Ab
namespace Go.Ab
/-! the same rules, the arguments' reading first: for 'apply' -/
section
variable {P : Program} {σ : St} {i : Nat} {o : Oper} {F : FuncId} {first cap argsD ds : List Dat} {h : Nat → Option Blk} {r : Dat}
theorem cR_s {K : St → Prop} (pc : PC P F ds r) (hp : PurRs σ.h false (first ++ argsD ++ cap) ds) (hsc : Scal r) (hK : K (σ.app o.dst { val := r })) : CallR P σ i o (.fn (.func F) first cap) argsD K := callR_scal pc hsc hp hK
theorem cQ_s {K : Dat → Prop} (pc : PC P F ds r) (hp : PurRs σ.h false (first ++ argsD ++ cap) ds) (hsc : Scal r) (hK : K r) : CallQ P σ i o (.fn (.func F) first cap) argsD K := callQ_scal pc hsc hp hK
theorem cR_p {K : St → Prop} (pc : PC P F ds r) (hp : PurRs σ.h true (first ++ argsD ++ cap) ds) (hK : K (σ.app o.dst { val := r })) : CallR P σ i o (.fn (.func F) first cap) argsD K := callR_pure pc hp hK
theorem cQ_p {K : Dat → Prop} (pc : PC P F ds r) (hp : PurRs σ.h true (first ++ argsD ++ cap) ds) (hK : K r) : CallQ P σ i o (.fn (.func F) first cap) argsD K := callQ_pure pc hp hK
theorem cR_f {K : St → Prop} (fr : List Nat) (pc : PC P F ds r) (hp : PurRs (wrs σ.h (frz σ.h fr)) true (first ++ argsD ++ cap) ds) (hK : K (σ.app o.dst { val := r, wr := frz σ.h fr })) : CallR P σ i o (.fn (.func F) first cap) argsD K := callR_go pc hp (.inl rfl) hK
theorem cR_q {K : St → Prop} (qc : QC P F ds h r) (hds : first ++ argsD ++ cap = ds) (hsub : ∀ i B, h i = some B → ∃ C, σ.h i = some C ∧ C.e = B.e ∧ C.st = B.st ∧ C.es = B.es) (hK : K (σ.app o.dst { val := r })) : CallR P σ i o (.fn (.func F) first cap) argsD K := callR_qc qc hsub hds hK
theorem cQ_q {K : Dat → Prop} (qc : QC P F ds h r) (hds : first ++ argsD ++ cap = ds) (hsub : ∀ i B, h i = some B → ∃ C, σ.h i = some C ∧ C.e = B.e ∧ C.st = B.st ∧ C.es = B.es) (hK : K r) : CallQ P σ i o (.fn (.func F) first cap) argsD K := callQ_qc qc hsub hds hK
end
end Go.Ab
