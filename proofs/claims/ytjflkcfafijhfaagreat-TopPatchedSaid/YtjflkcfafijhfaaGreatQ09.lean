import Derived.Test.YtjflkcfafijhfaaGreatQ08
import Derived.RangeFuncCalls
import Derived.LoopNIn
import Derived.OrdersIn
import Derived.Laws.Cover3
set_option linter.unusedSectionVars false
/- DERIVED. A frame of a call, or of a round of a range over a function: one word for both. No program here. -/
namespace Go.Ab
open Go.RowKit
structure Fen where
 rd : Option Nat
 n : Nat
def Fen.F (fe : Fen) : Fence := { Fence.wide with round := fe.rd }
def Fen.top : Fen := ⟨none, 0⟩
theorem fen_top {P : Program} {c : Code} {Q : Exit → Act → World → Prop} {a : Act} {w : World} : c.wpIn Fen.top.F Fen.top.n P Q a w ↔ c.wp P Q a w := wpIn_wide
theorem callsF {fe : Fen} {n : Nat} {P : Program} {f : FuncId} {args : Array Value} {w : World} {R : Ending → World → Prop} (h : Calls P f args w R) : CallsIn fe.F n P f args w R := (callsIn_wide (n := n)).2 h
theorem rowsF {fe : Fen} {n : Nat} {P : Program} {row : String} {args : Array Value} {w : World} {R : Value → World → Prop} (h : Rows P row args w R) : RowsIn fe.F n P row args w R :=
 fun c cs _ => let ⟨v, w', r, s⟩ := h c cs; ⟨v, w', r, stepsIn_wide.2 s⟩
theorem oper_in {fe : Fen} {n : Nat} {P : Program} {o : Oper} {a : Act} {w : World} {K : Act → World → Prop} {Q : Exit → Act → World → Prop} (hd : ∀ c, o.op ≠ .defer c) (h : o.wp P a w K Q) : o.wpIn fe.F n P a w K Q := by
 refine ⟨fun _ _ => trivial, ?_⟩
 rw [Oper.semAt_eq _ _ _ hd]
 unfold Oper.wp at h
 revert h
 cases (execOp a.eval o).run P w with
 | ok x w' =>
  cases x with
  | enter f args => exact fun h => ⟨fun h => (by cases h), callsF h⟩
  | row r args => exact fun h => ⟨fun h => (by cases h), rowsF h⟩
  | round _ _ _ _ _ => exact fun h => h.elim
  | _ => exact fun h => h
 | halt x w' =>
  cases x with
  | _ => exact fun h => h
end Go.Ab
/- DERIVED. Regions of one order, code, and a call's body, abstractly. No program here. -/
namespace Go.Ab
open Go.RowKit
variable [Lay]
def gd (ops : List Oper) (σ : St) (j : Nat) : Option (Option Bool) :=
 match ops[j]? with
 | some ⟨some d, _, _, _, _, _⟩ => match σ.t d with
  | .bool b => some (some b)
  | .oth (.tuple _) => some none
  | _ => none
 | _ => none
def CallEff (P : Program) (σ : St) (i : Nat) (o : Oper) (e : Ef) : Prop :=
 ∀ (X : Cx) (S S' : Nat → Prop), ¬ S i → (∀ j, S j → S' j) → S' i → Goes P X S S' o σ (σ.app o.dst e)
def CallR (P : Program) (σ : St) (i : Nat) (o : Oper) (fD : Dat) (argsD : List Dat) (K : St → Prop) : Prop :=
 ∀ f args ats, o.op = .call { callee := .value f, args := args, argTypes := ats } → σ.ev f = fD → args.toList.map σ.ev = argsD → ∃ e, CallEff P σ i o e ∧ K (σ.app o.dst e)
def nilOk : Dat → Bool → Prop
 | .list _ es, b => b = true → es = []
 | .ref _ _ len _, b => b = true → len = 0
 | _, _ => True
def isSl : Dat → Bool
 | .list _ _ | .ref _ _ _ _ => true
 | _ => false
def NilQ (P : Program) (σ : St) (o : Oper) (K : St → Prop) : Prop :=
 ∃ t x t' e, o.op = .binOp .eql t x (.const (.slice none 0 0)) t' ∧ P.underlying t = some (.slice e) ∧ isSl (σ.ev x) = true ∧ ∀ b, nilOk (σ.ev x) b → K (σ.put o.dst (.bool b))
theorem NilQ.mono {P : Program} {σ : St} {o : Oper} {K1 K2 : St → Prop} (hk : ∀ s, K1 s → K2 s) (h : NilQ P σ o K1) : NilQ P σ o K2 := by
 obtain ⟨t, x, t', e, h1, h2, h3, h4⟩ := h
 exact ⟨t, x, t', e, h1, h2, h3, fun b hb => hk _ (h4 b hb)⟩
def OthR (P : Program) (σ : St) (i : Nat) (o : Oper) (K : St → Prop) : Prop := NilQ P σ o K ∨ ∃ e, ((∀ c, o.op ≠ .defer c) ∧ CallEff P σ i o e) ∧ K (σ.app o.dst e)
theorem OthR.mono {P : Program} {σ : St} {i : Nat} {o : Oper} {K1 K2 : St → Prop} (hk : ∀ s, K1 s → K2 s) (h : OthR P σ i o K1) : OthR P σ i o K2 := by
 rcases h with h | ⟨e, he, hk'⟩
 ·exact .inl (h.mono hk)
 ·exact .inr ⟨e, he, hk _ hk'⟩
def stepR (P : Program) (σ : St) (i : Nat) (o : Oper) (K : St → Prop) : Prop :=
 match o.op with
 | .call { callee := .value f, args, .. } => CallR P σ i o (σ.ev f) (args.toList.map σ.ev) K
 | op => match evOp P σ i op with
  | some e => e.side ∧ K (σ.app o.dst e)
  | none => OthR P σ i o K
def AR (P : Program) (ops : List Oper) : List Oper → Nat → St → (St → Prop) → Prop
 | [], _, σ, Q => Q { σ with n := σ.n + 8 * ops.length }
 | o :: l, i, σ, Q => match o.guard with
  | none => stepR P σ i o fun σ' => AR P ops l (i + 1) σ' Q
  | some (j, want) => match gd ops σ j with
   | some (some b) => if b = want then stepR P σ i o fun σ' => AR P ops l (i + 1) σ' Q else AR P ops l (i + 1) (σ.put o.dst (.oth undef)) Q
   | some none => AR P ops l (i + 1) (σ.put o.dst (.oth undef)) Q
   | none => False
abbrev S0 : Nat → Prop := fun _ => False
def Con (X : Cx) (Q : Exit → St → Prop) : Exit → Act → World → Prop := fun ex a w => ∃ σ φ D, Q ex σ ∧ Sim X S0 σ a w φ D
variable {fe : Fen}
def AW (fe : Fen) (P : Program) (X : Cx) (c : Code) (Q : Exit → St → Prop) (σ : St) : Prop :=
 ∀ a w φ D, Sim X S0 σ a w φ D → c.wpIn fe.F fe.n P (Con X Q) a w
theorem HS.bump {X : Cx} {S : Nat → Prop} {h : Nat → Option Blk} {n m : Nat} {w : World} {φ : Pl} {D : Nat → Prop} (H : HS X S h n w φ D) (hS : ∀ j, S j → j < m) : HS X S0 h (n + m) w φ D :=
 { H with fresh := fun i hi _ => H.fresh i (by omega) (fun hs => by have := hS _ hs; omega) }
theorem Sim.bump {X : Cx} {S : Nat → Prop} {σ : St} {m : Nat} {a : Act} {w : World} {φ : Pl} {D : Nat → Prop} (H : Sim X S σ a w φ D) (hS : ∀ j, S j → j < m) : Sim X S0 { σ with n := σ.n + m } a w φ D :=
 { H with hs := H.hs.bump hS }
section
variable {P : Program} {X : Cx} {S S' : Nat → Prop} {σ : St} {i : Nat} {a : Act} {w : World} {φ : Pl} {D : Nat → Prop}
theorem gd_sound {ops : Array Oper} {o : Oper} {j : Nat} {want : Bool} {x : Option Bool} (hg : o.guard = some (j, want)) (hs : Sim X S σ a w φ D) (h : gd ops.toList σ j = some x) : Region.wanted o (yielded ops a.tmps) = decide (x = some want) := by
 unfold gd at h
 split at h
 ·rename_i d op ty pos af gu hj
  have hj' : ops[j]? = some ⟨some d, op, ty, pos, af, gu⟩ := by simpa using hj
  have ht := hs.tm d
  have key : ∀ v, a.tmps.getD d undef = v → yielded ops a.tmps j = (match v with | .bool b => some b | _ => none) := by
   intro v hv
   unfold yielded
   rw [hj']
   simp only [Option.bind_some]
   cases hq : a.tmps[d]? with
   | none =>
    have : v = undef := by rw [← hv, Array.getD_eq_getD_getElem?, hq]; rfl
    rw [this]; rfl
   | some u =>
    have : v = u := by rw [← hv, Array.getD_eq_getD_getElem?, hq]; rfl
    rw [this]
    cases u <;> rfl
  unfold Region.wanted
  rw [hg]
  simp only
  split at h
  ·rename_i b' hb
   rw [hb] at ht
   have e := key _ ht.bool_inv
   simp only at e
   rw [Option.some.injEq] at h
   rw [e, ← h]
   cases b' <;> cases want <;> rfl
  ·rename_i vs hb
   rw [hb] at ht
   have e := key _ ht.oth_inv
   simp only at e
   rw [Option.some.injEq] at h
   rw [e, ← h]
   cases want <;> rfl
  ·cases h
 ·cases h
theorem stepR_sound {o : Oper} {K : St → Prop} (h : stepR P σ i o K) (hn : ¬ S i) (hS : ∀ j, S j → S' j) (hS' : S' i) (hs : Sim X S σ a w φ D) {K' : Act → World → Prop} {Q' : Exit → Act → World → Prop}
  (hk : ∀ σ' a' w' φ' D', K σ' → Sim X S' σ' a' w' φ' D' → K' a' w') : o.wp P a w K' Q' := by
 unfold stepR at h
 split at h
 ·rename_i f args ats ho
  obtain ⟨e, he, hk'⟩ := h _ _ _ ho rfl rfl
  exact he X S S' hn hS hS' a w φ D hs _ _ fun a' w' φ' D' hs' => hk _ a' w' φ' D' hk' hs'
 ·split at h
  ·rename_i e he
   exact evOp_sound he h.1 hn hS hS' a w φ D hs _ _ fun a' w' φ' D' hs' => hk _ a' w' φ' D' h.2 hs'
  ·rcases h with h | ⟨e, he, hk'⟩
   case inr => exact he.2 X S S' hn hS hS' a w φ D hs _ _ fun a' w' φ' D' hs' => hk _ a' w' φ' D' hk' hs'
   obtain ⟨t, x, t', e, ho, ht, hsl, hb⟩ := h
   have hv := hs.ev x
   have key : ∃ A n c, a.eval x = .slice A n c ∧ nilOk (σ.ev x) A.isNone := by
    generalize a.eval x = va at hv
    cases hx : σ.ev x <;> rw [hx] at hsl hv <;> simp only [isSl, Bool.false_eq_true] at hsl
    ·cases hv with
     | list0 A c _ _ => exact ⟨A, 0, c, rfl, fun _ => rfl⟩
     | list b o' c _ _ cs _ _ _ _ _ _ _ _ _ _ => exact ⟨_, _, c, rfl, fun h => by cases h⟩
    ·cases hv with
     | ref _ _ _ _ c _ _ _ _ _ => exact ⟨_, _, c, rfl, fun h => by cases h⟩
     | ref0 _ _ _ A _ => exact ⟨A, 0, 0, rfl, fun _ => rfl⟩
     | refv _ _ _ => exact ⟨none, 0, 0, rfl, fun _ => rfl⟩
   obtain ⟨A, n, c, hA, hok⟩ := key
   unfold Oper.wp
   have hr : (execOp a.eval o).run P w = .ok (.value (.bool A.isNone)) w := by
    have h1 : (binOp .eql t (.slice A n c) (.slice none 0 0)).run P w = .ok (.bool A.isNone) w := by
     unfold binOp
     simp [Sem.run_bind, run_equal_slice_nil (P := P) w t e A n c ht]
    have hc : a.eval (.const (.slice none 0 0)) = .slice none 0 0 := rfl
    have hg : (eqGuard .eql t x (.const (.slice none 0 0)) (.slice A n c) (.slice none 0 0)).run P w = .ok () w := by simp [eqGuard, Sem.run_pure]
    simp only [execOp, ho, hA, hc, Sem.run_bind, hg, h1, Result.andThen_ok, Sem.run_pure]
   rw [hr, Oper.upon_value]
   exact hk _ _ _ φ D (hb _ hok) ((hs.val (.bool _)).more hS)
theorem evOp_nd {P : Program} {σ : St} {i : Nat} {op : Op} {e : Ef} (h : evOp P σ i op = some e) : ∀ c, op ≠ .defer c := fun c hc => by
 subst hc; simp [evOp] at h
theorem stepR_nd {o : Oper} {K : St → Prop} (h : stepR P σ i o K) : ∀ c, o.op ≠ .defer c := by
 unfold stepR at h
 split at h
 ·rename_i ho; intro c hc; rw [ho] at hc; cases hc
 ·split at h
  ·rename_i e he; exact evOp_nd he
  ·rcases h with ⟨t, x, t', e, ho, _⟩ | ⟨e, he, _⟩
   ·intro c hc; rw [ho] at hc; cases hc
   ·exact he.1
theorem AR_sound {ops : Array Oper} {Q : Exit → St → Prop} : ∀ (l : List Oper) (i : Nat) (σ : St) (a : Act) (w : World) (φ : Pl) (D : Nat → Prop), l = ops.toList.drop i → i ≤ ops.size → Sim X (fun j => j < i) σ a w φ D → AR P ops.toList l i σ (Q .normal) →
  wpOpsIn fe.F fe.n P ops (Con X Q) (List.range' i l.length) a w
 | [], i, σ, a, w, φ, D, hl, hi, hs, h => by
  simp only [List.length_nil, List.range'_zero, wpOpsIn]
  exact ⟨_, φ, D, h, hs.bump (m := 8 * ops.toList.length) (fun j hj => by
   have h1 := congrArg List.length hl
   simp at h1
   simp
   omega)⟩
 | o :: l, i, σ, a, w, φ, D, hl, hi, hs, h => by
  have hlt : i < ops.size := by
   have h1 := congrArg List.length hl
   simp at h1
   omega
  have ho : ops[i]? = some o := by
   have h1 : (ops.toList.drop i)[0]? = some o := by rw [← hl]; rfl
   rw [List.getElem?_drop] at h1
   simpa using h1
  have hl' : l = ops.toList.drop (i + 1) := by
   have h1 := congrArg List.tail hl
   simpa [List.tail_drop] using h1
  rw [List.length_cons, List.range'_succ]
  unfold wpOpsIn
  simp only [ho]
  unfold AR at h
  have stp : ∀ {K : St → Prop}, stepR P σ i o K → (∀ σ' a' w' φ' D', K σ' → Sim X (fun j => j < i + 1) σ' a' w' φ' D' → wpOpsIn fe.F fe.n P ops (Con X Q) (List.range' (i + 1) l.length) a' w') →
    o.wpIn fe.F fe.n P a w (wpOpsIn fe.F fe.n P ops (Con X Q) (List.range' (i + 1) l.length)) (Con X Q) := fun {K} hst hk => by
   refine oper_in (stepR_nd hst) ?_
   exact stepR_sound (X := X) (S := fun j => j < i) (S' := fun j => j < i + 1) hst (by omega) (fun j hj => by omega) (by omega) hs hk
  have ih : ∀ σ' a' w' φ' D', AR P ops.toList l (i + 1) σ' (Q .normal) → Sim X (fun j => j < i + 1) σ' a' w' φ' D' → wpOpsIn fe.F fe.n P ops (Con X Q) (List.range' (i + 1) l.length) a' w' :=
   fun σ' a' w' φ' D' hA hS => AR_sound l (i + 1) σ' a' w' φ' D' hl' hlt hS hA
  split at h
  ·rename_i hg
   have hw : Region.wanted o (yielded ops a.tmps) = true := by simp [Region.wanted, hg]
   rw [if_pos hw]
   exact stp h ih
  ·rename_i j want hg
   split at h
   ·rename_i b hd
    have hw := gd_sound hg hs hd
    split at h
    ·rename_i hbw
     rw [if_pos (by rw [hw]; simp [hbw])]
     exact stp h ih
    ·rename_i hbw
     rw [if_neg (by rw [hw]; simp [hbw])]
     exact ⟨fun _ _ => trivial, ih _ _ _ φ D h ((hs.val (.oth undef)).more fun j hj => by omega)⟩
   ·rename_i hd
    have hw := gd_sound hg hs hd
    rw [if_neg (by rw [hw]; simp)]
    exact ⟨fun _ _ => trivial, ih _ _ _ φ D h ((hs.val (.oth undef)).more fun j hj => by omega)⟩
   ·exact h.elim
def DrawR (fe : Fen) (P : Program) (ops : List Oper) (σ : St) (Q : St → Prop) : Prop :=
 ∀ (X : Cx) (id : Nat) (Q' : Exit → St → Prop), (∀ σ', Q σ' → Q' .normal σ') → AW fe P X (.region id ops.toArray true) Q' σ
def RegR (fe : Fen) (P : Program) (ops : List Oper) (σ : St) (Q : St → Prop) : Prop :=
 ∀ (X : Cx) (id : Nat) (Q' : Exit → St → Prop), (∀ σ', Q σ' → Q' .normal σ') → AW fe P X (.region id ops.toArray false) Q' σ
def awp (fe : Fen) (P : Program) : Code → (Exit → St → Prop) → St → Prop
 | .skip, Q, σ => Q .normal σ
 | .label _, Q, σ => Q .normal σ
 | .region _ ops draw, Q, σ => if draw then DrawR fe P ops.toList σ (Q .normal) else (AR P ops.toList ops.toList 0 σ (Q .normal) ∨ RegR fe P ops.toList σ (Q .normal))
 | .seq x y, Q, σ => awp fe P x (fun ex σ' => match ex with | .normal => awp fe P y Q σ' | e => Q e σ') σ
 | .cond c x y, Q, σ => match σ.ev c with
  | .bool b => (b = true → awp fe P x Q σ) ∧ (b = false → awp fe P y Q σ)
  | _ => False
 | .block id x, Q, σ => awp fe P x (fun ex σ' => match ex with | .exit id' => if id' = id then Q .normal σ' else Q (.exit id') σ' | e => Q e σ') σ
 | .loop x, Q, σ => ∃ (I : Nat → St → Prop) (m : Nat), I m σ ∧ ∀ m σ, I m σ → awp fe P x (fun ex σ' => match ex with | .normal => ∃ m', m' < m ∧ I m' σ' | e => Q e σ') σ
 | .exit id, Q, σ => Q (.exit id) σ
 | .ret, Q, σ => Q .ret σ
 | _, _, _ => False
theorem Con.mono {Q Q' : Exit → St → Prop} (h : ∀ ex σ, Q ex σ → Q' ex σ) : ∀ ex a w, Con X Q ex a w → Con X Q' ex a w :=
 fun ex a w ⟨σ, φ, D, hq, hs⟩ => ⟨σ, φ, D, h ex σ hq, hs⟩
theorem awp_sound (X : Cx) : ∀ (c : Code) (Q : Exit → St → Prop) (σ : St), awp fe P c Q σ → AW fe P X c Q σ
 | .skip, Q, σ, h => fun a w φ D hs => wpIn_skip ⟨σ, φ, D, h, hs⟩
 | .label _, Q, σ, h => fun a w φ D hs => wpIn_label ⟨σ, φ, D, h, hs⟩
 | .region id ops draw, Q, σ, h => by
  unfold awp at h
  split at h
  ·rename_i hd
   subst hd
   have := h X id Q (fun σ' h => h)
   simpa using this
  ·rename_i hd
   have hd' : draw = false := by simpa using hd
   subst hd'
   rcases h with h | h
   case inr =>
    have := h X id Q (fun σ' h => h)
    simpa using this
   intro a w φ D hs
   refine wpIn_region ?_
   have := AR_sound (fe := fe) (P := P) (X := X) (ops := ops) (Q := Q) ops.toList 0 σ a w φ D (by simp) (Nat.zero_le _) (hs.more fun j hj => hj.elim) h
   rw [List.range_eq_range']
   simpa using this
 | .seq x y, Q, σ, h => fun a w φ D hs => by
  unfold awp at h
  refine wpIn_seq (wpIn_mono (awp_sound X x _ σ h a w φ D hs) fun ex a' w' hc => ?_)
  obtain ⟨σ', φ', D', hq, hs'⟩ := hc
  cases ex with
  | normal => exact awp_sound X y Q σ' hq a' w' φ' D' hs'
  | exit id => exact ⟨σ', φ', D', hq, hs'⟩
  | goto l => exact ⟨σ', φ', D', hq, hs'⟩
  | ret => exact ⟨σ', φ', D', hq, hs'⟩
  | panic c => exact ⟨σ', φ', D', hq, hs'⟩
  | outgrown => exact ⟨σ', φ', D', hq, hs'⟩
 | .cond c x y, Q, σ, h => fun a w φ D hs => by
  unfold awp at h
  split at h
  ·rename_i b hb
   have hv := hs.ev c
   rw [hb] at hv
   exact wpIn_cond_split hv.bool_inv (fun ht => awp_sound X x Q σ (h.1 ht) a w φ D hs) (fun hf => awp_sound X y Q σ (h.2 hf) a w φ D hs)
  ·exact h.elim
 | .block id x, Q, σ, h => fun a w φ D hs => by
  unfold awp at h
  refine wpIn_block (wpIn_mono (awp_sound X x _ σ h a w φ D hs) fun ex a' w' hc => ?_)
  obtain ⟨σ', φ', D', hq, hs'⟩ := hc
  cases ex with
  | exit id' =>
   simp only [Exit.inBlock]
   simp only at hq
   split
   ·rename_i e; rw [if_pos e] at hq; exact ⟨σ', φ', D', hq, hs'⟩
   ·rename_i e; rw [if_neg e] at hq; exact ⟨σ', φ', D', hq, hs'⟩
  | normal => exact ⟨σ', φ', D', hq, hs'⟩
  | goto l => exact ⟨σ', φ', D', hq, hs'⟩
  | ret => exact ⟨σ', φ', D', hq, hs'⟩
  | panic c => exact ⟨σ', φ', D', hq, hs'⟩
  | outgrown => exact ⟨σ', φ', D', hq, hs'⟩
 | .loop x, Q, σ, h => fun a w φ D hs => by
  unfold awp at h
  obtain ⟨I, m, h0, hr⟩ := h
  classical
  let J : Act → World → Nat → Prop := fun a w m => ∃ σ φ D, I m σ ∧ Sim X S0 σ a w φ D
  have least : ∀ a w, (∃ m, J a w m) → ∃ m, J a w m ∧ ∀ k, J a w k → m ≤ k := fun a w hex => by
   have : ∀ n, ∀ m, m ≤ n → J a w m → ∃ m, J a w m ∧ ∀ k, J a w k → m ≤ k := by
    intro n
    induction n with
    | zero => intro m hm hj; exact ⟨m, hj, fun k _ => by omega⟩
    | succ n ih =>
     intro m hm hj
     by_cases hk : ∃ k, k < m ∧ J a w k
     ·obtain ⟨k, hk, hjk⟩ := hk
      exact ih k (by omega) hjk
     ·exact ⟨m, hj, fun k hjk => by
       rcases Nat.lt_or_ge k m with h | h
       ·exact absurd ⟨k, h, hjk⟩ hk
       ·exact h⟩
   obtain ⟨m, hm⟩ := hex
   exact this m m (Nat.le_refl _) hm
  let μ : Act → World → Nat := fun a w => if hex : ∃ m, J a w m then (least a w hex).choose else 0
  have hμ : ∀ a w, (∃ m, J a w m) → J a w (μ a w) ∧ ∀ k, J a w k → μ a w ≤ k := fun a w hex => by
   simp only [μ, dif_pos hex]
   exact (least a w hex).choose_spec
  refine wpIn_loop (fun a w => ∃ m, J a w m) μ ⟨m, σ, φ, D, h0, hs⟩ fun a w hex => ?_
  obtain ⟨⟨σ1, φ1, D1, hI, hs1⟩, hmin⟩ := hμ a w hex
  refine wpIn_mono (awp_sound X x _ σ1 (hr _ σ1 hI) a w φ1 D1 hs1) fun ex a' w' hc => ?_
  obtain ⟨σ', φ', D', hq, hs'⟩ := hc
  cases ex with
  | normal =>
   obtain ⟨m', hlt, hI'⟩ := hq
   have hex' : ∃ m, J a' w' m := ⟨m', σ', φ', D', hI', hs'⟩
   exact ⟨hex', Nat.lt_of_le_of_lt ((hμ a' w' hex').2 m' ⟨σ', φ', D', hI', hs'⟩) hlt⟩
  | exit id => exact ⟨σ', φ', D', hq, hs'⟩
  | goto l => exact ⟨σ', φ', D', hq, hs'⟩
  | ret => exact ⟨σ', φ', D', hq, hs'⟩
  | panic c => exact ⟨σ', φ', D', hq, hs'⟩
  | outgrown => exact ⟨σ', φ', D', hq, hs'⟩
 | .exit id, Q, σ, h => fun a w φ D hs => wpIn_exit ⟨σ, φ, D, h, hs⟩
 | .ret, Q, σ, h => fun a w φ D hs => wpIn_ret ⟨σ, φ, D, h, hs⟩
 | .rangeFunc _ _ _ _, _, _, h => by unfold awp at h; exact h.elim
 | .scope _, _, _, h => by unfold awp at h; exact h.elim
 | .goto _, _, _, h => by unfold awp at h; exact h.elim
 | .refuse _, _, _, h => by unfold awp at h; exact h.elim
end
end Go.Ab
