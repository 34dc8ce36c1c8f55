import Derived.Test.YtmkpokcfefjifaaDoorTy
set_option linter.unusedSectionVars false
/- What is laid, in walks. -/
namespace Go.Proofs.YtmkpokcfefjifaaDoor
open Go.Ab
theorem getD_dropm {α β : Type} (f : α → β) (l : List α) (o i : Nat) (d : β) : ((l.drop o).map f).getD i d = (l.map f).getD (o + i) d := by
  rw [List.map_drop, List.getD_eq_getElem?_getD, List.getD_eq_getElem?_getD, List.getElem?_drop]
theorem oth_gload {σ : St} {i : Nat} {o : Oper} {K : St → Prop} (ho : o.op = .load 81 (.global 0)) (hK : K (σ.app o.dst { val := .gl 0 })) : OthR Tryd.prog σ i o K := by
  refine .inr ⟨_, ?_, hK⟩
  intro X S S' hn hS hS'
  refine goes_ofv (goes_val hS fun a w φ D hs => ?_)
  obtain ⟨h0, v, hv, hg⟩ := hs.hs.gp
  refine ⟨v, ?_, .gl 0 v hg⟩
  obtain ⟨b, rfl, _⟩ := hg
  have : ∀ w, (isAgg 81).run Tryd.prog w = .ok false w := fun w => by kernel_rfl
  simp [execOp, ho, Act.eval, Instr.loadAt, Instr.sureAddr, Sem.run_bind, loadVar, this, hv]
theorem oth_lookup {σ : St} {i : Nat} {o : Oper} {K : St → Prop} {x k : Operand} {n : Int} (ho : o.op = .lookup 81 x k true) (hx : σ.ev x = .gl 0) (hk : σ.ev k = .int .i64 n)
    (hw : -9223372036854775808 ≤ n ∧ n ≤ 9223372036854775807) (hK : K (σ.app o.dst { val := .tup [.int .i64 (numOf n), .bool (isKind n)] })) : OthR Tryd.prog σ i o K := by
  refine .inr ⟨_, ?_, hK⟩
  intro X S S' hn hS hS'
  refine goes_ofv (goes_val hS fun a w φ D hs => ?_)
  have h1 := hs.ev x
  rw [hx] at h1
  have h2 := (hs.ev k)
  rw [hk] at h2
  have h2 := h2.int_inv
  have hg : gvD 0 w D (a.eval x) := by
    generalize a.eval x = v at h1
    cases h1; assumption
  obtain ⟨b, hb, _, _, ht⟩ := hg
  refine ⟨.tuple #[.int .i64 (numOf n), .bool (isKind n)], ?_, ?_⟩
  · have := ht w rfl n (by have e1 : IntKind.i64.min = -9223372036854775808 := rfl; have e2 : IntKind.i64.max = 9223372036854775807 := rfl; simp [Lit.wf, e1, e2]; omega)
    simp [execOp, ho, hb, h2, this]
  · exact .tup [_, _] [_, _] rfl (by intro i c d h1 h2; match i with | 0 => cases h1; cases h2; exact .int _ _ | 1 => cases h1; cases h2; exact .bool _ | n + 2 => cases h1)

theorem oth_hear {σ : St} {i : Nat} {o : Oper} {K : St → Prop} {x k : Operand} {n : Int} {j F : Nat} (hF : F = 38 + j) (hj : 1 ≤ j ∧ j ≤ 4) (ho : o.op = .lookup 65 x k false) (hx : σ.ev x = .gl 1) (hk : σ.ev k = .int .i64 n)
    (hn : n = j) (hK : K (σ.app o.dst { val := .fn (.func F) [] [] })) : OthR Tryd.prog σ i o K := by
  subst hF hn
  refine .inr ⟨_, ?_, hK⟩
  intro X S S' hn hS hS'
  refine goes_ofv (goes_val hS fun a w φ D hs => ?_)
  have h1 := hs.ev x
  rw [hx] at h1
  have h2 := (hs.ev k)
  rw [hk] at h2
  have h2 := h2.int_inv
  have hg : gvD 1 w D (a.eval x) := by
    generalize a.eval x = v at h1
    cases h1; assumption
  obtain ⟨b, hb, _, _, ht⟩ := hg
  refine ⟨.func (.func (38 + j)) #[] #[], ?_, ?_⟩
  · have := ht w rfl j hj.1 hj.2
    simp [execOp, ho, hb, h2, this]
  · exact .fn _ [] [] [] [] rfl rfl (by intro i c d h; cases h) (by intro i c d h; cases h)
def four {β : Type} (n : Int) (a b c d : Option β) : Option β := if n = 1 then a else if n = 2 then b else if n = 3 then c else if n = 4 then d else none
theorem four_some {β : Type} {n : Int} {a b c d : Option β} {r : β} (h : four n a b c d = some r) : (n = 1 ∧ a = some r) ∨ (n = 2 ∧ b = some r) ∨ (n = 3 ∧ c = some r) ∨ (n = 4 ∧ d = some r) := by
  unfold four at h
  split at h
  · exact .inl ⟨‹_›, h⟩
  · split at h
    · exact .inr (.inl ⟨‹_›, h⟩)
    · split at h
      · exact .inr (.inr (.inl ⟨‹_›, h⟩))
      · split at h
        · exact .inr (.inr (.inr ⟨‹_›, h⟩))
        · cases h
theorem alloc_set (w : World) (o o' : Obj) : { w.alloc o with heap := (w.alloc o).heap.setIfInBounds w.heap.size o' } = w.alloc o' := by
  have : (w.heap.push o).setIfInBounds w.heap.size o' = w.heap.push o' := by
    apply Array.ext
    · simp
    · intro i h1 h2
      simp only [Array.size_setIfInBounds, Array.size_push] at h1 h2
      by_cases e : i = w.heap.size
      · subst e; simp
      · rw [Array.getElem_setIfInBounds_ne (by simpa using h1) (by omega)]
        rw [Array.getElem_push_lt (by omega), Array.getElem_push_lt (by omega)]
  show ({ heap := (w.heap.push o).setIfInBounds w.heap.size o', tape := w.tape, drawn := w.drawn, os := w.os, output := w.output } : World) = { heap := w.heap.push o', tape := w.tape, drawn := w.drawn, os := w.os, output := w.output }
  rw [this]
theorem lt_alloc (w : World) (o : Obj) : w.heap.size < (w.alloc o).heap.size := by
  show _ < (w.heap.push o).size
  rw [Array.size_push]; omega
theorem alloc_at (w : World) (o : Obj) : (w.alloc o).heap[w.heap.size]? = some o := (MapKept.heap_alloc w o).1
theorem ins_run (w : World) (es : Array MapEntry) (c : Nat) (k : Int) (v : Value) (hf : Instr.findNow (.int .i64) (.int .i64 k) es.toList 0 = some none) :
    (Instr.mapUpdate 65 (.map (some w.heap.size)) (.int .i64 k) v).run Tryd.prog (w.alloc (.map es c)) = .ok () (w.alloc (.map (es.push ⟨.int .i64 k, v, c⟩) (c + 1))) := by
  have e1 := alloc_at w (.map es c)
  have hc : (Instr.checkKey false 10000 3 (.int .i64 k)).run Tryd.prog (w.alloc (.map es c)) = .ok () (w.alloc (.map es c)) := MapKept.run_checkKey (k := .int .i64 k) Tryd.underlying3 (by simp [MapKept.IsKey]) false 9999
  have := alloc_set w (.map es c) (.map (es.push ⟨.int .i64 k, v, c⟩) (c + 1))
  simp only [Instr.mapUpdate, Sem.run_bind, run_underlying Tryd.underlying65, MapKept.run_getObj_map e1, hc, MapKept.run_findKey Tryd.underlying3 hf, MapKept.run_setObj_map _ e1, Result.andThen, this]
theorem hs_lay {X : Cx} {S : Nat → Prop} {h : Nat → Option Blk} {n : Nat} {w w' : World} {φ : Pl} {D : Nat → Prop} (H : HS X S h n w φ D) (c : Chg w w' none) {g : Nat} (hg : w.heap.size ≤ g) (hg' : g < w'.heap.size) : HS X S h n w' φ (fun b => D b ∨ b = g) where
  live := fun i B hi => by
    rcases H.live i B hi with h1 | ⟨g', h1, h2, h3, h4⟩
    · exact .inl h1
    · have hl := h2.lt
      exact .inr ⟨g', h1, h2.keep (PlLe.refl _) (fun _ h _ => .inl h) (c.ext (fun _ h => by cases h)) (c.block g' h2.lt (by simp)), fun e => .inl (h3 e), fun e => ⟨fun hh => by rcases hh with hh | hh; exact (h4 e).1 hh; omega, (h4 e).2⟩⟩
  inj := H.inj
  fresh := H.fresh
  Dlt := fun b hb => by
    rcases hb with hb | hb
    · exact Nat.lt_of_lt_of_le (H.Dlt b hb) c.size
    · omega
  Dsub := fun b hb => by
    rcases hb with hb | hb
    · exact H.Dsub b hb
    · have := H.fr.size; exact .inr (.inr (by omega))
  Dsup := fun b hb => .inl (H.Dsup b hb)
  psup := H.psup
  fr := H.fr.chg c (fun _ h => by cases h)
  fin := H.fin
  gp := Lay.gpk H.gp (c.ext (fun _ h => by cases h)) (fun _ h _ => .inl h)
def hearsE : Array MapEntry := #[⟨.int .i64 1, .func (.func 39) #[] #[], 0⟩, ⟨.int .i64 2, .func (.func 40) #[] #[], 1⟩, ⟨.int .i64 3, .func (.func 41) #[] #[], 2⟩, ⟨.int .i64 4, .func (.func 42) #[] #[], 3⟩]
theorem hears_tells (w : World) (b : Nat) (hb : w.heap[b]? = some (.map hearsE 4)) : Tells w b 1 := by
  intro w' hw k h1 h4
  have e1 : w'.heap[b]? = some (.map hearsE 4) := hw.trans hb
  have hc : ∀ k : Int, (Instr.checkKey false 10000 3 (.int .i64 k)).run Tryd.prog w' = .ok () w' := fun k => MapKept.run_checkKey (k := .int .i64 k) Tryd.underlying3 (by simp [MapKept.IsKey]) false 9999
  have hf : Instr.findNow (.int .i64) (.int .i64 (k : Int)) hearsE.toList 0 = some (some (k - 1, .func (.func (38 + k)) #[] #[])) := by
    match k, h1, h4 with
    | 1, _, _ => rfl
    | 2, _, _ => rfl
    | 3, _, _ => rfl
    | 4, _, _ => rfl
    | n + 5, _, h => omega
  have hE : hearsE.isEmpty = false := rfl
  unfold Instr.lookup
  simp [run_underlying Tryd.underlying65, MapKept.run_getObj_map e1, hE, hc, MapKept.run_findKey Tryd.underlying3 hf, Result.andThen]

theorem wp_one {P : Program} {ops : Array Oper} {Q : Exit → Act → World → Prop} {i : Nat} {rest : List Nat} {o : Oper} {a : Act} {w : World} (ho : ops[i]? = some o) (hg : o.guard = none) (h : o.wp P a w (wpOps P ops Q rest) Q) : wpOps P ops Q (i :: rest) a w := by
  unfold wpOps
  simp only [ho]
  rw [if_pos (by simp [Region.wanted, hg])]
  exact .inl h
theorem ex_val {P : Program} {o : Oper} {a : Act} {w w' : World} {v : Value} {K : Act → World → Prop} {Q : Exit → Act → World → Prop} (h : (execOp a.eval o).run P w = .ok (.value v) w') (hk : K (a.put o.dst v) w') : o.wp P a w K Q := by
  unfold Oper.wp; rw [h, Oper.upon_value]; exact hk
theorem ex_skip {P : Program} {o : Oper} {a : Act} {w w' : World} {K : Act → World → Prop} {Q : Exit → Act → World → Prop} (h : (execOp a.eval o).run P w = .ok .skip w') (hk : K (a.put o.dst undef) w') : o.wp P a w K Q := by
  unfold Oper.wp; rw [h, Oper.upon_skip]; exact hk
theorem ex_ins {o : Oper} {a : Act} {w : World} {es : Array MapEntry} {c : Nat} {k : Int} {f : Nat} {K : Act → World → Prop} {Q : Exit → Act → World → Prop} (hd : o.dst = none) (ho : o.op = .insert 65 (.tmp 43) (.const (.int .i64 k)) (.func f))
    (h43 : a.eval (.tmp 43) = .map (some w.heap.size)) (hf : Instr.findNow (.int .i64) (.int .i64 k) es.toList 0 = some none) (hk : K a (w.alloc (.map (es.push ⟨.int .i64 k, .func (.func f) #[] #[], c⟩) (c + 1)))) : o.wp Tryd.prog a (w.alloc (.map es c)) K Q := by
  refine ex_skip (w' := w.alloc (.map (es.push ⟨.int .i64 k, .func (.func f) #[] #[], c⟩) (c + 1))) ?_ (by rw [hd]; exact hk)
  have := ins_run w es c k (.func (.func f) #[] #[]) hf
  have e1 : a.eval (.const (.int .i64 k)) = .int .i64 k := rfl
  have e2 : a.eval (.func f) = .func (.func f) #[] #[] := rfl
  simp [execOp, ho, h43, e1, e2, this, Result.andThen]
set_option maxRecDepth 4000 in
theorem hears_reg {t : Nat → Dat} {h : Nat → Option Blk} {n nt : Nat} {o1 o2 o3 o4 o5 o6 o7 : Oper}
    (e : [o1, o2, o3, o4, o5, o6, o7].map (fun o => (o.dst, o.op, o.guard)) = [(some 43, .makeMap 65 none, none), (none, .insert 65 (.tmp 43) (.const (.int .i64 1)) (.func 39), none), (none, .insert 65 (.tmp 43) (.const (.int .i64 2)) (.func 40), none), (none, .insert 65 (.tmp 43) (.const (.int .i64 3)) (.func 41), none), (none, .insert 65 (.tmp 43) (.const (.int .i64 4)) (.func 42), none), (some 44, .move (.tmp 43), none), (some 7, .assign (.tmp 44), none)])
    (hnt : nt = 60) : RegR Tryd.prog [o1, o2, o3, o4, o5, o6, o7] ⟨t, h, n, nt⟩ (fun s => s = ⟨upd (upd (upd t 43 (.gl 1)) 44 (.gl 1)) 7 (.gl 1), h, n + 56, nt⟩) := by
  subst hnt
  simp only [List.map_cons, List.map_nil, List.cons.injEq, Prod.mk.injEq, and_true] at e
  obtain ⟨⟨d1, p1, g1⟩, ⟨d2, p2, g2⟩, ⟨d3, p3, g3⟩, ⟨d4, p4, g4⟩, ⟨d5, p5, g5⟩, ⟨d6, p6, g6⟩, d7, p7, g7⟩ := e
  intro X id Q' hQ a w φ D hs
  refine wp_region ?_
  have hsz : a.tmps.size = 60 := by rw [hs.nt]
  show wpOps Tryd.prog _ _ [0, 1, 2, 3, 4, 5, 6] a w
  have G : ∀ (a : Act) (x : Nat) (v : Value), x < a.tmps.size → (a.put (some x) v).eval (.tmp x) = v := fun a x v hx => by simp [Act.put, Act.eval, Array.getD, hx]
  have mm : (Instr.makeMap 65 none).run Tryd.prog w = .ok (.map (some w.heap.size)) (w.alloc (.map #[] 0)) := rfl
  have h43 := G a 43 (.map (some w.heap.size)) (by omega)
  refine wp_one (o := o1) rfl g1 (ex_val (v := .map (some w.heap.size)) (w' := w.alloc (.map #[] 0)) (by simp [execOp, p1, mm, Result.andThen]) ?_)
  rw [d1]
  refine wp_one (o := o2) rfl g2 (ex_ins d2 p2 h43 rfl ?_)
  refine wp_one (o := o3) rfl g3 (ex_ins d3 p3 h43 rfl ?_)
  refine wp_one (o := o4) rfl g4 (ex_ins d4 p4 h43 rfl ?_)
  refine wp_one (o := o5) rfl g5 (ex_ins d5 p5 h43 rfl ?_)
  refine wp_one (o := o6) rfl g6 (ex_val (v := .map (some w.heap.size)) (by simp only [execOp, p6, Sem.run_pure, h43]; rfl) ?_)
  rw [d6]
  refine wp_one (o := o7) rfl g7 (ex_val (v := .map (some w.heap.size)) (by simp only [execOp, p7, Sem.run_pure]; rw [G _ _ _ (by rw [Act.put_size]; omega)]) ?_)
  rw [d7]
  show Con X Q' Exit.normal _ (w.alloc (.map hearsE 4))
  have hg : RV φ (fun b => D b ∨ b = w.heap.size) (w.alloc (.map hearsE 4)) (.map (some w.heap.size)) (.gl 1) := .gl 1 _ ⟨_, rfl, .inr rfl, lt_alloc _ _, hears_tells _ _ (alloc_at _ _)⟩
  have hS := hs.step (dst := some 43) (v := .map (some w.heap.size)) (d := .gl 1) (hs_lay hs.hs (Chg.alloc w (.map hearsE 4)) (Nat.le_refl _) (lt_alloc _ _)) (PlLe.refl _) (fun _ h _ => .inl h) ((Chg.alloc w _).ext (fun _ h => by cases h))
    hg
  have hS := hS.val (dst := some 44) (v := .map (some w.heap.size)) (d := .gl 1) hg
  have hS := hS.val (dst := some 7) (v := .map (some w.heap.size)) (d := .gl 1) hg
  exact ⟨_, _, _, hQ _ rfl, hS.bump (m := 56) (fun j hj => hj.elim)⟩
end Go.Proofs.YtmkpokcfefjifaaDoor
