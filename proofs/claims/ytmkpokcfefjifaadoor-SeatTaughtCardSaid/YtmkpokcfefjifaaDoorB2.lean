import Derived.Test.YtmkpokcfefjifaaDoorB1
set_option linter.unusedSectionVars false
/- The rules of walks whose states may be described anew at heads of loops and at joints. No program here. -/
namespace Go.Ab
open Go.RowKit
variable [Lay]

def aw (n0 : Nat) (P : Program) (c : Code) (Q : Exit → St → Prop) (σ : St) : Prop := ∀ X : Cx, (∀ i, n0 ≤ i → X.p0 i = none) → AW P X c Q σ
/-- behind x comes y -/
def sqA (n0 : Nat) (P : Program) (y : Code) (Q : Exit → St → Prop) : Exit → St → Prop := fun ex σ' => match ex with | .normal => aw n0 P y Q σ' | e => Q e σ'
def bkA (id : Nat) (Q : Exit → St → Prop) : Exit → St → Prop := fun ex σ' => match ex with | .exit id' => if id' = id then Q .normal σ' else Q (.exit id') σ' | e => Q e σ'
/-- at the end of a loop's body: a description of one round less -/
def lpA (n0 : Nat) (I : Nat → St → Prop) (m : Nat) (Q : Exit → St → Prop) : Exit → St → Prop :=
  fun ex σ' => match ex with | .normal => WkS n0 σ' (fun s => ∃ m', m' < m ∧ I m' s) | e => Q e σ'
/-- at a joint -/
def ctA (n0 : Nat) (R : St → Prop) (Q : Exit → St → Prop) : Exit → St → Prop :=
  fun ex σ' => match ex with | .normal => WkS n0 σ' R | e => Q e σ'

section
variable {n0 : Nat} {P : Program} {Q : Exit → St → Prop} {σ : St} {x y : Code} {id id' : Nat}

theorem aw_of {c : Code} (h : awp P c Q σ) : aw n0 P c Q σ := fun X _ => awp_sound X c Q σ h
theorem AW.mono {c : Code} {X : Cx} {Q Q' : Exit → St → Prop} (hq : ∀ ex a w, Con X Q ex a w → Con X Q' ex a w) (h : AW P X c Q σ) : AW P X c Q' σ :=
  fun a w φ D hs => wp_mono (h a w φ D hs) hq

theorem a_seq (h : aw n0 P x (sqA n0 P y Q) σ) : aw n0 P (.seq x y) Q σ := fun X hX a w φ D hs => by
  refine wp_seq (wp_mono (h X hX a w φ D hs) fun ex a' w' hc => ?_)
  obtain ⟨σ', φ', D', hq, hs'⟩ := hc
  cases ex with
  | normal => exact hq X hX a' w' φ' D' hs'
  | exit id => exact ⟨σ', φ', D', hq, hs'⟩
  | goto l => exact ⟨σ', φ', D', hq, hs'⟩
  | ret => exact ⟨σ', φ', D', hq, hs'⟩
  | panic c => exact ⟨σ', φ', D', hq, hs'⟩
  | outgrown => exact ⟨σ', φ', D', hq, hs'⟩
/-- a joint: R tells of the state there -/
theorem a_cut (R : St → Prop) (h1 : aw n0 P x (ctA n0 R Q) σ) (h2 : ∀ s, R s → aw n0 P y Q s) : aw n0 P (.seq x y) Q σ := fun X hX a w φ D hs => by
  refine wp_seq (wp_mono (h1 X hX a w φ D hs) fun ex a' w' hc => ?_)
  obtain ⟨σ', φ', D', hq, hs'⟩ := hc
  cases ex with
  | normal =>
    obtain ⟨s, φ2, D2, hR, hs2⟩ := hq X hX a' w' φ' D' hs'
    exact h2 s hR X hX a' w' φ2 D2 hs2
  | exit id => exact ⟨σ', φ', D', hq, hs'⟩
  | goto l => exact ⟨σ', φ', D', hq, hs'⟩
  | ret => exact ⟨σ', φ', D', hq, hs'⟩
  | panic c => exact ⟨σ', φ', D', hq, hs'⟩
  | outgrown => exact ⟨σ', φ', D', hq, hs'⟩
theorem a_blk (h : aw n0 P x (bkA id Q) σ) : aw n0 P (.block id x) Q σ := fun X hX a w φ D hs => by
  refine wp_block (wp_mono (h X hX a w φ D hs) fun ex a' w' hc => ?_)
  obtain ⟨σ', φ', D', hq, hs'⟩ := hc
  cases ex with
  | exit id' =>
    simp only [Exit.inBlock]
    simp only [bkA] at hq
    split
    · rename_i e; rw [if_pos e] at hq; exact ⟨σ', φ', D', hq, hs'⟩
    · rename_i e; rw [if_neg e] at hq; exact ⟨σ', φ', D', hq, hs'⟩
  | normal => exact ⟨σ', φ', D', hq, hs'⟩
  | goto l => exact ⟨σ', φ', D', hq, hs'⟩
  | ret => exact ⟨σ', φ', D', hq, hs'⟩
  | panic c => exact ⟨σ', φ', D', hq, hs'⟩
  | outgrown => exact ⟨σ', φ', D', hq, hs'⟩
theorem a_loop (I : Nat → St → Prop) (m : Nat) (h0 : WkS n0 σ (I m)) (hr : ∀ m s, I m s → aw n0 P x (lpA n0 I m Q) s) : aw n0 P (.loop x) Q σ := fun X hX a w φ D hs => by
  obtain ⟨s, φ2, D2, hI, hs2⟩ := h0 X hX a w φ D hs
  classical
  let J : Act → World → Nat → Prop := fun a w m => ∃ σ φ D, I m σ ∧ Sim X S0 σ a w φ D
  have least : ∀ a w, (∃ m, J a w m) → ∃ m, J a w m ∧ ∀ k, J a w k → m ≤ k := fun a w hex => by
    have : ∀ n, ∀ m, m ≤ n → J a w m → ∃ m, J a w m ∧ ∀ k, J a w k → m ≤ k := by
      intro n
      induction n with
      | zero => intro m hm hj; exact ⟨m, hj, fun k _ => by omega⟩
      | succ n ih =>
        intro m hm hj
        by_cases hk : ∃ k, k < m ∧ J a w k
        · obtain ⟨k, hk, hjk⟩ := hk
          exact ih k (by omega) hjk
        · exact ⟨m, hj, fun k hjk => by
            rcases Nat.lt_or_ge k m with h | h
            · exact absurd ⟨k, h, hjk⟩ hk
            · exact h⟩
    obtain ⟨m, hm⟩ := hex
    exact this m m (Nat.le_refl _) hm
  let μ : Act → World → Nat := fun a w => if hex : ∃ m, J a w m then (least a w hex).choose else 0
  have hμ : ∀ a w, (∃ m, J a w m) → J a w (μ a w) ∧ ∀ k, J a w k → μ a w ≤ k := fun a w hex => by
    simp only [μ, dif_pos hex]
    exact (least a w hex).choose_spec
  refine wp_loop (fun a w => ∃ m, J a w m) μ ⟨m, s, φ2, D2, hI, hs2⟩ fun a w hex => ?_
  obtain ⟨⟨σ1, φ1, D1, hI, hs1⟩, hmin⟩ := hμ a w hex
  refine wp_mono (hr _ σ1 hI X hX a w φ1 D1 hs1) fun ex a' w' hc => ?_
  obtain ⟨σ', φ', D', hq, hs'⟩ := hc
  cases ex with
  | normal =>
    obtain ⟨s3, φ3, D3, ⟨m', hlt, hI'⟩, hs3⟩ := hq X hX a' w' φ' D' hs'
    have hex' : ∃ m, J a' w' m := ⟨m', s3, φ3, D3, hI', hs3⟩
    exact ⟨hex', Nat.lt_of_le_of_lt ((hμ a' w' hex').2 m' ⟨s3, φ3, D3, hI', hs3⟩) hlt⟩
  | exit id => exact ⟨σ', φ', D', hq, hs'⟩
  | goto l => exact ⟨σ', φ', D', hq, hs'⟩
  | ret => exact ⟨σ', φ', D', hq, hs'⟩
  | panic c => exact ⟨σ', φ', D', hq, hs'⟩
  | outgrown => exact ⟨σ', φ', D', hq, hs'⟩
theorem a_cond {c : Operand} {d : Dat} {b : Bool} (hc : σ.ev c = d) (hd : d = .bool b) (ht : b = true → aw n0 P x Q σ) (hf : b = false → aw n0 P y Q σ) : aw n0 P (.cond c x y) Q σ := fun X hX a w φ D hs => by
  have hv := hs.ev c
  rw [hc, hd] at hv
  exact wp_cond_split hv.bool_inv (fun h => ht h X hX a w φ D hs) (fun h => hf h X hX a w φ D hs)
theorem a_skip (h : Q .normal σ) : aw n0 P .skip Q σ := aw_of (awp_skip h)
theorem a_ret (h : Q .ret σ) : aw n0 P .ret Q σ := aw_of (awp_ret h)
theorem a_exit {id : Nat} (h : Q (.exit id) σ) : aw n0 P (.exit id) Q σ := aw_of (awp_exit h)
theorem a_regR {s : St} {id : Nat} {ops : Array Oper} (l : List Oper) (hl : ops.toList = l) (h : RegR P l σ (fun s' => s' = s)) (k : Q .normal s) : aw n0 P (.region id ops false) Q σ :=
  aw_of (awp_regR l hl fun X id Q' hQ' => h X id Q' fun σ' e => hQ' σ' (e ▸ k))
theorem a_reg {s : St} {id : Nat} {ops : Array Oper} (l : List Oper) (hl : ops.toList = l) (h : AR P l l 0 σ (fun s' => s' = s)) (k : Q .normal s) : aw n0 P (.region id ops false) Q σ := aw_of (awp_reg l hl h k)
theorem sA_n (h : aw n0 P y Q σ) : sqA n0 P y Q .normal σ := h
theorem sA_r (h : Q .ret σ) : sqA n0 P y Q .ret σ := h
theorem sA_e (h : Q (.exit id) σ) : sqA n0 P y Q (.exit id) σ := h
theorem bA_n (h : Q .normal σ) : bkA id Q .normal σ := h
theorem bA_r (h : Q .ret σ) : bkA id Q .ret σ := h
theorem bA_hit (h : Q .normal σ) : bkA id Q (.exit id) σ := by simp only [bkA, if_true]; exact h
theorem bA_e (hne : id' ≠ id) (h : Q (.exit id') σ) : bkA id Q (.exit id') σ := by simp only [bkA, if_neg hne]; exact h
theorem lA_n {I : Nat → St → Prop} {m : Nat} (h : WkS n0 σ (fun s => ∃ m', m' < m ∧ I m' s)) : lpA n0 I m Q .normal σ := h
theorem lA_r {I : Nat → St → Prop} {m : Nat} (h : Q .ret σ) : lpA n0 I m Q .ret σ := h
theorem lA_e {I : Nat → St → Prop} {m : Nat} (h : Q (.exit id) σ) : lpA n0 I m Q (.exit id) σ := h
theorem cA_n {R : St → Prop} (h : WkS n0 σ R) : ctA n0 R Q .normal σ := h
theorem cA_r {R : St → Prop} (h : Q .ret σ) : ctA n0 R Q .ret σ := h
theorem cA_e {R : St → Prop} (h : Q (.exit id) σ) : ctA n0 R Q (.exit id) σ := h
end

theorem pcA_of {P : Program} {F : FuncId} {fn : Func} {c : Code} {ds : List Dat} {r : Dat} (hf : P.funcs[F]? = some fn) (hb : fn.body = some c) (hn : (fn.name == "runtime.NumGoroutine") = false) (nt : Nat) (hnt : ds.length + (fn.ntmps - ds.length) = nt)
    (rl : List ResultVar) (hrl : fn.results.toList = rl) (h : aw 0 P c (endC P rl r) (ent ds nt)) : PC P F ds r where
  enter := ⟨fn, c, hf, hb, hn⟩
  run := fun w D vs hD hG hv => by
    subst hnt; subst hrl
    have e : (retP P fn fun d σ => PurR σ.h false d r) = endC P fn.results.toList r := by
      funext ex σ
      cases ex <;> rfl
    rw [← e] at h
    refine calls_of_wp hf hb ?_
    have hs := Sim.entry (fn := fn) hv (HS.start hD hG)
    refine wp_mono (h _ (fun _ _ => rfl) _ _ _ _ hs) (retP_sound fun σ a w' φ D' d v hsim hp hrv => ?_)
    refine ⟨v, rfl, hp.rv hsim.hs (fun b hb => ?_) (fun i B g hi _ hφ => ?_) hrv, hsim.hs.fr.below⟩
    · rcases hsim.hs.Dsub b hb with h | h | h
      · exact .inl h
      · exact h.elim
      · exact .inr h
    · rcases hsim.hs.live i B hi with ⟨q, _⟩ | ⟨g', q, q2, q3, q4⟩
      · rw [hφ] at q; cases q
      · rw [hφ] at q; injection q with q; injection q with q; subst q
        cases hfz : B.fz with
        | true =>
          rcases hsim.hs.Dsub g (q3 hfz) with h | h | h
          · exact .inl h
          · exact h.elim
          · exact .inr h
        | false =>
          rcases (q4 hfz).2 with h | h
          · exact h.elim
          · exact .inr h
end Go.Ab
