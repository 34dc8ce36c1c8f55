import Derived.Test.YtmkpokcfefjifaaDoorB3
import Derived.Test.YtmkpokcfefjifaaDoorA2
import Derived.LoopN
set_option linter.unusedSectionVars false
/- Cells of plain values; relations of lists; small rules for printed walks. No program here. -/
namespace Go.Ab
open Go.RowKit
variable [Lay]
def ci (k : IntKind) (n : Int) : List Dat := [.int k n]
def cb (b : Bool) : List Dat := [.bool b]
def cs (s : ByteArray) : List Dat := [.str s]
def cl {α : Type} (st : Nat) (f : α → List Dat) (l : List α) : List Dat := [.list st (l.map f)]
theorem ci_pu (k : IntKind) (n : Int) : Pus (ci k n) := .cons (.int _ _) .nil
theorem cb_pu (b : Bool) : Pus (cb b) := .cons (.bool _) .nil
theorem cs_pu (b : ByteArray) : Pus (cs b) := .cons (.str _) .nil
theorem cl_pu {α : Type} {st : Nat} {f : α → List Dat} (H : ∀ x, Pus (f x)) (l : List α) : Pus (cl st f l) := .cons (.listMap f l H) .nil
theorem ci_eq (k : IntKind) (n : Int) : ci k n = [.int k n] := rfl
theorem cb_eq (n : Bool) : cb n = [.bool n] := rfl
theorem cs_eq (n : ByteArray) : cs n = [.str n] := rfl
theorem cl_eq {α : Type} (st : Nat) (f : α → List Dat) (l : List α) : cl st f l = [.list st (l.map f)] := rfl
theorem tl_nil (t0 : Nat → Dat) : tl t0 [] = t0 := rfl
theorem tl_cons (t0 : Nat → Dat) (a : Nat) (d : Dat) (l : List (Nat × Dat)) : tl t0 ((a, d) :: l) = upd (tl t0 l) a d := rfl
theorem hl_apply (l : List Blk) (i : Nat) : hl l i = l[i]? := rfl
theorem bool_split {b : Bool} {G : Prop} (h1 : b = true → G) (h2 : b = false → G) : G := by cases b; exact h2 rfl; exact h1 rfl
theorem a_condb {n0 : Nat} {P : Program} {Q : Exit → St → Prop} {σ : St} {x y : Code} {c : Operand} (b : Bool) (hc : σ.ev c = .bool b) (ht : b = true → aw n0 P x Q σ) (hf : b = false → aw n0 P y Q σ) : aw n0 P (.cond c x y) Q σ := a_cond hc rfl ht hf
/-- so many rounds of a loop, one by one -/
def aR (n0 : Nat) (P : Program) (x : Code) (Q : Exit → St → Prop) : Nat → St → Prop
  | 0, _ => False
  | n + 1, σ => aw n0 P x (fun ex σ' => match ex with | .normal => aR n0 P x Q n σ' | e => Q e σ') σ
def rnA (n0 : Nat) (P : Program) (x : Code) (Q : Exit → St → Prop) (n : Nat) : Exit → St → Prop := fun ex σ' => match ex with | .normal => aR n0 P x Q n σ' | e => Q e σ'
section
variable {n0 : Nat} {P : Program} {x : Code} {Q : Exit → St → Prop} {n id : Nat} {σ : St}
theorem rA_s (h : aw n0 P x (rnA n0 P x Q n) σ) : aR n0 P x Q (n + 1) σ := h
theorem rA_n (h : aR n0 P x Q n σ) : rnA n0 P x Q n .normal σ := h
theorem rA_r (h : Q .ret σ) : rnA n0 P x Q n .ret σ := h
theorem rA_e (h : Q (.exit id) σ) : rnA n0 P x Q n (.exit id) σ := h
theorem a_loopN (n : Nat) (h : aR n0 P x Q n σ) : aw n0 P (.loop x) Q σ := fun X hX a w φ D hs => by
  refine wp_loop_rounds n ?_
  have key : ∀ n σ a w φ D, aR n0 P x Q n σ → Sim X S0 σ a w φ D → Code.rounds P x (Con X Q) n a w := by
    intro n
    induction n with
    | zero => intro σ a w φ D h; exact h.elim
    | succ n ih =>
      intro σ a w φ D h hs
      rw [rounds_succ]
      refine wp_mono (h X hX a w φ D hs) fun ex a' w' hc => ?_
      obtain ⟨σ', φ', D', hq, hs'⟩ := hc
      cases ex with
      | normal => exact ih σ' a' w' φ' D' hq hs'
      | exit id => exact ⟨σ', φ', D', hq, hs'⟩
      | goto l => exact ⟨σ', φ', D', hq, hs'⟩
      | ret => exact ⟨σ', φ', D', hq, hs'⟩
      | panic c => exact ⟨σ', φ', D', hq, hs'⟩
      | outgrown => exact ⟨σ', φ', D', hq, hs'⟩
  exact key n σ a w φ D h hs
end
section
variable {h : Nat → Option Blk} {fz : Bool}
theorem PurR.int' {k : IntKind} {a b : Int} (e : a = b) : PurR h fz (.int k a) (.int k b) := by rw [e]; exact .int k b
theorem PurR.bool' {a b : Bool} (e : a = b) : PurR h fz (.bool a) (.bool b) := by rw [e]; exact .bool b
theorem PurR.str' {a b : ByteArray} (e : a = b) : PurR h fz (.str a) (.str b) := by rw [e]; exact .str b
theorem PurR.lst {α : Type} {st : Nat} (f : α → List Dat) (l m : List α) (H : ∀ x, Pus (f x)) (e : l = m) : PurR h fz (.list st (l.map f)) (.list st (m.map f)) := by rw [e]; exact (Pu.listMap f m H).purR
theorem RN.box' {ren : Nat → Option Nat} {vt fr : Nat → Prop} {i j st : Nat} {B : Blk} {e ds : List Dat} (hB : h i = some B) (hz : fr i) (hst : B.st = st) (he : B.es = [e]) (k : RNs h ren vt fr e ds) : RN h ren vt fr (.ptr i 0 j st) (.rop ds j st) :=
  .pbox i 0 j st B ds hB hz hst (by rw [he]; exact Nat.one_pos) (by rw [he]; exact k.1) (fun q c d hc hd => by rw [he] at hc; exact k.2 q c d hc hd)
theorem RN.lst {ren : Nat → Option Nat} {vt fr : Nat → Prop} {α : Type} {st : Nat} (f : α → List Dat) (l m : List α) (H : ∀ x, Pus (f x)) (e : l = m) : RN h ren vt fr (.list st (l.map f)) (.list st (m.map f)) := by rw [e]; exact (Pu.listMap f m H).rn
theorem RN.refl' {ren : Nat → Option Nat} {vt fr : Nat → Prop} {i j off len len' st : Nat} (e : len = len') (hr : ren j = some i) : RN h ren vt fr (.ref i off len st) (.ref j off len' st) := by rw [e]; exact .ref i j off len' st hr
theorem PurR.rop' {cs ds : List Dat} {j st : Nat} (k : PurRs h fz cs ds) : PurR h fz (.rop cs j st) (.rop ds j st) := .rop cs ds j st k.1 k.2
theorem PurR.fn' {f : Fn} {a b a' b' : List Dat} (k1 : PurRs h fz a a') (k2 : PurRs h fz b b') : PurR h fz (.fn f a b) (.fn f a' b') := .fn f a b a' b' k1.1 k2.1 k1.2 k2.2
theorem PurR.box {i j st : Nat} {B : Blk} {e ds : List Dat} (hB : h i = some B) (hz : fz = true → B.fz = true) (hst : B.st = st) (he : B.es = [e]) (k : PurRs h fz e ds) : PurR h fz (.ptr i 0 j st) (.rop ds j st) :=
  .ptr i 0 j st B ds hB hz hst (by rw [he]; exact Nat.zero_lt_one) (by rw [he]; exact k.1) (by rw [he]; exact k.2)
def PL (h : Nat → Option Blk) (fz : Bool) (es fs : List (List Dat)) : Prop := es.length = fs.length ∧ ∀ (k : Nat) e f, es[k]? = some e → fs[k]? = some f → PurRs h fz e f
theorem PL.nil : PL h fz [] [] := ⟨rfl, fun i c d h => by simp at h⟩
theorem PL.cons {e f : List Dat} {es fs : List (List Dat)} (h1 : PurRs h fz e f) (h2 : PL h fz es fs) : PL h fz (e :: es) (f :: fs) :=
  ⟨by simp [h2.1], fun i a b ha hb => by
    cases i with
    | zero => simp at ha hb; subst ha; subst hb; exact h1
    | succ i => simp at ha hb; exact h2.2 i a b ha hb⟩
theorem PL.app {a b c d : List (List Dat)} (h1 : PL h fz a c) (h2 : PL h fz b d) : PL h fz (a ++ b) (c ++ d) :=
  ⟨by simp [h1.1, h2.1], fun i e f he hf => by
    rcases Nat.lt_or_ge i a.length with hi | hi
    · rw [List.getElem?_append_left hi] at he
      rw [List.getElem?_append_left (by rw [← h1.1]; exact hi)] at hf
      exact h1.2 i e f he hf
    · rw [List.getElem?_append_right hi] at he
      rw [List.getElem?_append_right (by rw [← h1.1]; exact hi)] at hf
      exact h2.2 _ e f he (by rw [h1.1]; exact hf)⟩
theorem PL.same {α : Type} (f : α → List Dat) (l : List α) (H : ∀ x, Pus (f x)) {es : List (List Dat)} (he : es = l.map f) : PL h fz es (l.map f) := by
  subst he
  refine ⟨rfl, fun k e g he hg => ?_⟩
  rw [he] at hg; injection hg with hg; subst hg
  obtain ⟨x, _, rfl⟩ := List.mem_map.1 (List.mem_of_getElem? he)
  exact (H x).purRs
theorem PurR.ownL {i len st : Nat} {B : Blk} {fs : List (List Dat)} (hB : h i = some B) (hz : fz = true → B.fz = true) (hst : B.st = st) (hlen : len = B.es.length) (k : PL h fz B.es fs) : PurR h fz (.ref i 0 len st) (.list st fs) :=
  .own hB hz hst hlen (by rw [← k.1, hlen]) k.2
end
theorem resR_mono {P : Program} {σ : St} : ∀ {rl : List ResultVar} {K1 K2 : List Dat → Prop}, (∀ ds, K1 ds → K2 ds) → resR P σ rl K1 → resR P σ rl K2
  | [], K1, K2, hk, h => hk _ h
  | .tmp t :: rl, K1, K2, hk, h => resR_mono (rl := rl) (fun ds hd => hk _ hd) h
  | .cell a t :: rl, K1, K2, hk, h => by
    unfold resR at h ⊢
    split at h
    · split at h
      · exact ⟨h.1, resR_mono (rl := rl) (fun ds hd => hk _ hd) h.2⟩
      · exact h.elim
    · exact h.elim
theorem e_r2 {P : Program} {σ : St} {rl : List ResultVar} {r d : Dat} (h1 : resR P σ rl fun ds => single ds = d) (h2 : PurR σ.h false d r) : endC P rl r .ret σ := e_r (resR_mono (fun ds hd => by rw [hd]; exact h2) h1)
theorem PL.set {h : Nat → Option Blk} {fz : Bool} {k : Nat} {e f : List Dat} {es fs : List (List Dat)} (h2 : PL h fz es fs) (h1 : PurRs h fz e f) : PL h fz (es.set k e) (fs.set k f) :=
  ⟨by simp [h2.1], fun i a b ha hb => by
    rw [List.getElem?_set] at ha hb
    by_cases hk : k = i
    · subst hk
      by_cases hl : k < es.length
      · rw [if_pos rfl, if_pos hl] at ha
        rw [if_pos rfl, if_pos (by rw [← h2.1]; exact hl)] at hb
        injection ha with ha; injection hb with hb
        subst ha; subst hb; exact h1
      · rw [if_pos rfl, if_neg hl] at ha; cases ha
    · rw [if_neg hk] at ha hb; exact h2.2 i a b ha hb⟩
theorem RNL.set {h : Nat → Option Blk} {ren : Nat → Option Nat} {vt fr : Nat → Prop} {k : Nat} {e f : List Dat} {es fs : List (List Dat)} (h2 : RNL h ren vt fr es fs) (h1 : RNs h ren vt fr e f) : RNL h ren vt fr (es.set k e) (fs.set k f) :=
  ⟨by simp [h2.1], fun i a b ha hb => by
    rw [List.getElem?_set] at ha hb
    by_cases hk : k = i
    · subst hk
      by_cases hl : k < es.length
      · rw [if_pos rfl, if_pos hl] at ha
        rw [if_pos rfl, if_pos (by rw [← h2.1]; exact hl)] at hb
        injection ha with ha; injection hb with hb
        subst ha; subst hb; exact h1
      · rw [if_pos rfl, if_neg hl] at ha; cases ha
    · rw [if_neg hk] at ha hb; exact h2.2 i a b ha hb⟩
theorem bytesD_map (l : List Int) : bytesD (l.map (ci .u8)) = some l := by
  induction l with
  | nil => rfl
  | cons a l ih => simp only [List.map_cons, ci, bytesD, ih]
theorem bytesD_app (l : List Int) (r : List (List Dat)) : bytesD (l.map (ci .u8) ++ r) = match bytesD r with | some x => some (l ++ x) | none => none := by
  induction l with
  | nil => simp; cases bytesD r <;> rfl
  | cons a l ih =>
    simp only [List.map_cons, List.cons_append, ci, bytesD] at ih ⊢
    rw [ih]
    cases bytesD r <;> rfl
theorem bytesD_cons (n : Int) (r : List (List Dat)) : bytesD ([.int .u8 n] :: r) = match bytesD r with | some x => some (n :: x) | none => none := rfl
theorem bytesD_nil : bytesD [] = some [] := rfl
theorem nilq_list {P : Program} {σ : St} {i : Nat} {o : Oper} {K : St → Prop} {t : TypeId} {x : Operand} {t' e : TypeId} {st : Nat} {es : List (List Dat)} (h1 : o.op = .binOp .eql t x (.const (.slice none 0 0)) t') (h2 : P.underlying t = some (.slice e)) (h3 : σ.ev x = .list st es)
    (ht : es = [] → K (σ.put o.dst (.bool true))) (hf : K (σ.put o.dst (.bool false))) : OthR P σ i o K :=
  .inl ⟨t, x, t', e, h1, h2, by rw [h3]; rfl, fun b hb => by rw [h3] at hb; cases b; exact hf; exact ht (hb rfl)⟩
theorem a_reg2 {n0 : Nat} {P : Program} {Q : Exit → St → Prop} {σ s1 s2 : St} {id : Nat} {ops : Array Oper} (l : List Oper) (hl : ops.toList = l) (c : Prop) (h : AR P l l 0 σ (fun s' => (c ∧ s' = s1) ∨ s' = s2)) (k1 : c → Q .normal s1) (k2 : Q .normal s2) : aw n0 P (.region id ops false) Q σ := by
  refine aw_of (awp_region l hl ?_)
  have key : ∀ (ops l : List Oper) (i : Nat) (σ : St) (K1 K2 : St → Prop), (∀ σ, K1 σ → K2 σ) → AR P ops l i σ K1 → AR P ops l i σ K2 := by
    intro ops l
    induction l with
    | nil => intro i σ K1 K2 hk h; unfold AR at h ⊢; exact hk _ h
    | cons o l ih =>
      intro i σ K1 K2 hk h
      have st : ∀ {σ : St}, stepR P σ i o (fun σ' => AR P ops l (i + 1) σ' K1) → stepR P σ i o (fun σ' => AR P ops l (i + 1) σ' K2) := by
        intro σ h
        unfold stepR at h ⊢
        split at h
        · intro f args ats ho hf ha
          obtain ⟨e, he, hk'⟩ := h f args ats ho hf ha
          exact ⟨e, he, ih _ _ _ _ hk hk'⟩
        · split at h
          · exact ⟨h.1, ih _ _ _ _ hk h.2⟩
          · exact h.mono fun s hs => ih _ _ _ _ hk hs
      unfold AR at h ⊢
      split at h
      · exact st h
      · split at h
        · split at h
          · rename_i e; simp only [if_pos e]; exact st h
          · rename_i e; simp only [if_neg e]; exact ih _ _ _ _ hk h
        · exact ih _ _ _ _ hk h
        · exact h.elim
  refine key _ _ _ _ _ _ (fun s hs => ?_) h
  rcases hs with ⟨hc, rfl⟩ | rfl
  · exact k1 hc
  · exact k2
theorem allB_none {h : Nat → Option Blk} {ren : Nat → Option Nat} {vt : Nat → Prop} {fr : List Nat} {B : Blk} {l : List (Option Nat × Blk)} (h1 : B.es = []) (h2 : AllB h ren vt fr l) : AllB h ren vt fr ((none, B) :: l) := ⟨h1, h2⟩
theorem allB_some {h : Nat → Option Blk} {ren : Nat → Option Nat} {vt : Nat → Prop} {fr : List Nat} {i e st : Nat} {fz : Bool} {es es' : List (List Dat)} {l : List (Option Nat × Blk)} (h1 : h i = some ⟨e, st, fz, es⟩) (h2 : fr.contains i = false) (h3 : RNL h ren vt (fun i => i ∈ fr) es es')
    (h4 : AllB h ren vt fr l) : AllB h ren vt fr ((some i, ⟨e, st, fz, es'⟩) :: l) := ⟨⟨_, h1, ⟨rfl, rfl, rfl⟩, h2, h3⟩, h4⟩
end Go.Ab
