/- DERIVED. The rules of a walk over abstract states. No program here. -/
import Derived.Test.YtogickapcbibbaaA12
namespace Go.Ab
open Go.RowKit

theorem awp_mono0 {P : Program} : ∀ (Q1 Q2 : Exit → St → Prop), (∀ ex σ, Q1 ex σ → Q2 ex σ) → ∀ (c : Code) σ, awp P c Q1 σ → awp P c Q2 σ := by
  intro Q1 Q2 hq c
  induction c generalizing Q1 Q2 with
  | skip => intro σ h; unfold awp at h ⊢; exact hq _ _ h
  | label l => intro σ h; unfold awp at h ⊢; exact hq _ _ h
  | region id ops draw =>
    intro σ h
    have arm : ∀ (l : List Oper) (i : Nat) (σ : St) (K1 K2 : St → Prop), (∀ σ, K1 σ → K2 σ) → AR P ops.toList l i σ K1 → AR P ops.toList l i σ K2 := by
      intro l
      induction l with
      | nil => intro i σ K1 K2 hk h; unfold AR at h ⊢; exact hk _ h
      | cons o l ih =>
        intro i σ K1 K2 hk h
        have st : ∀ {σ : St}, stepR P σ i o (fun σ' => AR P ops.toList l (i + 1) σ' K1) → stepR P σ i o (fun σ' => AR P ops.toList l (i + 1) σ' K2) := by
          intro σ h
          unfold stepR at h ⊢
          split at h
          · intro f args ats ho hf ha
            obtain ⟨e, he, hk'⟩ := h f args ats ho hf ha
            exact ⟨e, he, ih _ _ _ _ hk hk'⟩
          · split at h
            · exact ⟨h.1, ih _ _ _ _ hk h.2⟩
            · exact h.mono fun s hs => ih _ _ _ _ hk hs
        unfold AR at h ⊢
        split at h
        · exact st h
        · split at h
          · split at h
            · rename_i e; simp only [if_pos e]; exact st h
            · rename_i e; simp only [if_neg e]; exact ih _ _ _ _ hk h
          · exact ih _ _ _ _ hk h
          · exact h.elim
    unfold awp at h ⊢
    split
    · rename_i hd
      rw [if_pos hd] at h
      intro X id Q' hQ'
      exact h X id Q' fun σ' h => hQ' σ' (hq _ _ h)
    · rename_i hd
      rw [if_neg hd] at h
      exact arm _ _ _ _ _ (fun σ h => hq _ _ h) h
  | seq a b iha ihb =>
    intro σ h
    unfold awp at h ⊢
    refine iha _ _ (fun ex σ h => ?_) σ h
    cases ex with
    | normal => exact ihb _ _ hq σ h
    | _ => exact hq _ _ h
  | cond c a b iha ihb =>
    intro σ h
    unfold awp at h ⊢
    split
    · rename_i b' hb
      rw [hb] at h
      exact ⟨fun ht => iha _ _ hq σ (h.1 ht), fun hf => ihb _ _ hq σ (h.2 hf)⟩
    · rename_i hn
      split at h
      · rename_i b' hb; exact absurd hb (hn b')
      · exact h
  | block id b ih =>
    intro σ h
    unfold awp at h ⊢
    refine ih _ _ (fun ex σ h => ?_) σ h
    cases ex with
    | exit id' =>
      simp only at h ⊢
      split
      · rename_i e; rw [if_pos e] at h; exact hq _ _ h
      · rename_i e; rw [if_neg e] at h; exact hq _ _ h
    | _ => exact hq _ _ h
  | loop b ih =>
    intro σ h
    unfold awp at h ⊢
    obtain ⟨I, m, h0, hr⟩ := h
    refine ⟨I, m, h0, fun m σ hI => ih _ _ (fun ex σ h => ?_) σ (hr m σ hI)⟩
    cases ex with
    | normal => exact h
    | _ => exact hq _ _ h
  | exit id => intro σ h; unfold awp at h ⊢; exact hq _ _ h
  | ret => intro σ h; unfold awp at h ⊢; exact hq _ _ h
  | _ => intro σ h; unfold awp at h; exact h.elim

theorem awp_mono {P : Program} {Q1 Q2 : Exit → St → Prop} (h : ∀ ex σ, Q1 ex σ → Q2 ex σ) (c : Code) (σ : St) (k : awp P c Q1 σ) : awp P c Q2 σ := awp_mono0 Q1 Q2 h c σ k
section
variable {P : Program} {Q : Exit → St → Prop} {σ : St}
theorem awp_skip (h : Q .normal σ) : awp P .skip Q σ := by unfold awp; exact h
theorem awp_ret (h : Q .ret σ) : awp P .ret Q σ := by unfold awp; exact h
theorem awp_exit {id : Nat} (h : Q (.exit id) σ) : awp P (.exit id) Q σ := by unfold awp; exact h
theorem awp_seq {x y : Code} (h : awp P x (fun ex σ' => match ex with | .normal => awp P y Q σ' | e => Q e σ') σ) : awp P (.seq x y) Q σ := by unfold awp; exact h
theorem awp_block {id : Nat} {x : Code} (h : awp P x (fun ex σ' => match ex with | .exit id' => if id' = id then Q .normal σ' else Q (.exit id') σ' | e => Q e σ') σ) : awp P (.block id x) Q σ := by unfold awp; exact h
theorem awp_region {id : Nat} {ops : Array Oper} (l : List Oper) (hl : ops.toList = l) (h : AR P l l 0 σ (Q .normal)) : awp P (.region id ops false) Q σ := by
  subst hl; unfold awp; exact h
theorem awp_draw {id : Nat} {ops : Array Oper} (l : List Oper) (hl : ops.toList = l) (h : DrawR P l σ (Q .normal)) : awp P (.region id ops true) Q σ := by
  subst hl; unfold awp; exact h
theorem awp_cond {c : Operand} {x y : Code} {d : Dat} {b : Bool} (hc : σ.ev c = d) (hd : d = .bool b) (ht : b = true → awp P x Q σ) (hf : b = false → awp P y Q σ) : awp P (.cond c x y) Q σ := by
  unfold awp; rw [hc, hd]; exact ⟨ht, hf⟩
theorem awp_cond_t {c : Operand} {x y : Code} (hc : σ.ev c = .bool true) (h : awp P x Q σ) : awp P (.cond c x y) Q σ := by
  unfold awp; rw [hc]; exact ⟨fun _ => h, fun h => by cases h⟩
theorem awp_cond_f {c : Operand} {x y : Code} (hc : σ.ev c = .bool false) (h : awp P y Q σ) : awp P (.cond c x y) Q σ := by
  unfold awp; rw [hc]; exact ⟨(fun h => by cases h), fun _ => h⟩
/-- a loop: I tells of its head; the number falls -/
theorem awp_loop {x : Code} {t : Nat → Dat} {h : Nat → Option Blk} {n nt : Nat} (I : Nat → (Nat → Dat) → (Nat → Option Blk) → Nat → Prop) (m : Nat) (h0 : I m t h n)
    (hr : ∀ m t h n, I m t h n → awp P x (fun ex σ' => match ex with | .normal => σ'.nt = nt ∧ ∃ m', m' < m ∧ I m' σ'.t σ'.h σ'.n | e => Q e σ') ⟨t, h, n, nt⟩) : awp P (.loop x) Q ⟨t, h, n, nt⟩ := by
  unfold awp
  refine ⟨fun m σ => σ.nt = nt ∧ I m σ.t σ.h σ.n, m, ⟨rfl, h0⟩, fun m σ hI => ?_⟩
  obtain ⟨t, h, n, nt'⟩ := σ
  obtain ⟨h1, h2⟩ := hI
  simp only at h1 h2
  subst h1
  have := hr m t h n h2
  refine awp_mono (fun ex σ h => ?_) x _ this
  cases ex with
  | normal => obtain ⟨h1, m', h2, h3⟩ := h; exact ⟨m', h2, h1, h3⟩
  | _ => exact h
end

def ent (ds : List Dat) (nt : Nat) : St := { t := fun i => ds.getD i (.oth undef), h := fun _ => none, n := 0, nt := nt }
theorem pc_start {P : Program} {F : FuncId} {fn : Func} {c : Code} {ds : List Dat} {r : Dat} (hf : P.funcs[F]? = some fn) (hb : fn.body = some c) (hn : (fn.name == "runtime.NumGoroutine") = false) (nt : Nat) (hnt : ds.length + (fn.ntmps - ds.length) = nt)
    (rl : List ResultVar) (hrl : fn.results.toList = rl)
    (h : awp P c (fun ex σ => match ex with
      | .normal | .ret => resR P σ rl fun ds => PurR σ.h false (single ds) r
      | _ => False) (ent ds nt)) : PC P F ds r := by
  subst hnt; subst hrl
  refine pc_of hf hb hn ?_
  have e : (retP P fn fun d σ => PurR σ.h false d r) = (fun ex σ => match ex with
      | .normal | .ret => resR P σ fn.results.toList fun ds => PurR σ.h false (single ds) r
      | _ => False) := by
    funext ex σ
    cases ex <;> rfl
  rw [e]
  exact h

theorem getD_map {α β : Type} (f : α → β) (l : List α) (k : Nat) (d : β) (d' : α) (h : k < l.length) : (l.map f).getD k d = f (l.getD k d') := by
  simp [List.getD_eq_getElem?_getD, h]
end Go.Ab
namespace Go.Ab
open Go.RowKit
theorem upd_apply {β : Type} (f : Nat → β) (a : Nat) (b : β) (x : Nat) : upd f a b x = if x = a then b else f x := rfl
theorem AR_nil {P : Program} {ops : List Oper} {i : Nat} {t : Nat → Dat} {h : Nat → Option Blk} {n nt : Nat} {Q : St → Prop} : AR P ops [] i ⟨t, h, n, nt⟩ Q = Q ⟨t, h, n + 8 * ops.length, nt⟩ := rfl
theorem AR_cons {P : Program} {ops l : List Oper} {o : Oper} {i : Nat} {t : Nat → Dat} {h : Nat → Option Blk} {n nt : Nat} {Q : St → Prop} : AR P ops (o :: l) i ⟨t, h, n, nt⟩ Q = match o.guard with
    | none => stepR P ⟨t, h, n, nt⟩ i o fun σ' => AR P ops l (i + 1) σ' Q
    | some (j, want) => match gd ops ⟨t, h, n, nt⟩ j with
      | some (some b) => if b = want then stepR P ⟨t, h, n, nt⟩ i o fun σ' => AR P ops l (i + 1) σ' Q else AR P ops l (i + 1) ((⟨t, h, n, nt⟩ : St).put o.dst (.oth undef)) Q
      | some none => AR P ops l (i + 1) ((⟨t, h, n, nt⟩ : St).put o.dst (.oth undef)) Q
      | none => False := rfl
theorem awp_reg {P : Program} {Q : Exit → St → Prop} {σ s : St} {id : Nat} {ops : Array Oper} (l : List Oper) (hl : ops.toList = l) (h : AR P l l 0 σ (fun s' => s' = s)) (k : Q .normal s) : awp P (.region id ops false) Q σ := by
  refine awp_region l hl ?_
  have key : ∀ (ops l : List Oper) (i : Nat) (σ : St) (K1 K2 : St → Prop), (∀ σ, K1 σ → K2 σ) → AR P ops l i σ K1 → AR P ops l i σ K2 := by
    intro ops l
    induction l with
    | nil => intro i σ K1 K2 hk h; unfold AR at h ⊢; exact hk _ h
    | cons o l ih =>
      intro i σ K1 K2 hk h
      have st : ∀ {σ : St}, stepR P σ i o (fun σ' => AR P ops l (i + 1) σ' K1) → stepR P σ i o (fun σ' => AR P ops l (i + 1) σ' K2) := by
        intro σ h
        unfold stepR at h ⊢
        split at h
        · intro f args ats ho hf ha
          obtain ⟨e, he, hk'⟩ := h f args ats ho hf ha
          exact ⟨e, he, ih _ _ _ _ hk hk'⟩
        · split at h
          · exact ⟨h.1, ih _ _ _ _ hk h.2⟩
          · exact h.mono fun s hs => ih _ _ _ _ hk hs
      unfold AR at h ⊢
      split at h
      · exact st h
      · split at h
        · split at h
          · rename_i e; simp only [if_pos e]; exact st h
          · rename_i e; simp only [if_neg e]; exact ih _ _ _ _ hk h
        · exact ih _ _ _ _ hk h
        · exact h.elim
  exact key _ _ _ _ _ _ (fun σ h => by rw [h]; exact k) h
end Go.Ab

namespace Go.Ab
open Go.RowKit
/-! continuations, folded -/
def seqC (P : Program) (y : Code) (Q : Exit → St → Prop) : Exit → St → Prop := fun ex σ' => match ex with | .normal => awp P y Q σ' | e => Q e σ'
def blkC (id : Nat) (Q : Exit → St → Prop) : Exit → St → Prop := fun ex σ' => match ex with | .exit id' => if id' = id then Q .normal σ' else Q (.exit id') σ' | e => Q e σ'
def lopC (I : Nat → (Nat → Dat) → (Nat → Option Blk) → Nat → Prop) (m nt : Nat) (Q : Exit → St → Prop) : Exit → St → Prop :=
  fun ex σ' => match ex with | .normal => σ'.nt = nt ∧ ∃ m', m' < m ∧ I m' σ'.t σ'.h σ'.n | e => Q e σ'
def endC (P : Program) (rl : List ResultVar) (r : Dat) : Exit → St → Prop := fun ex σ => match ex with
      | .normal | .ret => resR P σ rl fun ds => PurR σ.h false (single ds) r
      | _ => False
section
variable {P : Program} {Q : Exit → St → Prop} {σ : St} {x y : Code} {id id' : Nat} {I : Nat → (Nat → Dat) → (Nat → Option Blk) → Nat → Prop} {m nt : Nat} {rl : List ResultVar} {r : Dat}
theorem w_seq (h : awp P x (seqC P y Q) σ) : awp P (.seq x y) Q σ := awp_seq h
theorem w_blk (h : awp P x (blkC id Q) σ) : awp P (.block id x) Q σ := awp_block h
theorem w_loop {t : Nat → Dat} {h : Nat → Option Blk} {n nt : Nat} (I : Nat → (Nat → Dat) → (Nat → Option Blk) → Nat → Prop) (m : Nat) (h0 : I m t h n)
    (hr : ∀ m t h n, I m t h n → awp P x (lopC I m nt Q) ⟨t, h, n, nt⟩) : awp P (.loop x) Q ⟨t, h, n, nt⟩ := awp_loop I m h0 hr
theorem s_n (h : awp P y Q σ) : seqC P y Q .normal σ := h
theorem s_r (h : Q .ret σ) : seqC P y Q .ret σ := h
theorem s_e (h : Q (.exit id) σ) : seqC P y Q (.exit id) σ := h
theorem b_n (h : Q .normal σ) : blkC id Q .normal σ := h
theorem b_r (h : Q .ret σ) : blkC id Q .ret σ := h
theorem b_hit (h : Q .normal σ) : blkC id Q (.exit id) σ := by simp only [blkC, if_true]; exact h
theorem b_e (hne : id' ≠ id) (h : Q (.exit id') σ) : blkC id Q (.exit id') σ := by simp only [blkC, if_neg hne]; exact h
theorem l_n {t : Nat → Dat} {h : Nat → Option Blk} {n nt : Nat} (k : ∃ m', m' < m ∧ I m' t h n) : lopC I m nt Q .normal ⟨t, h, n, nt⟩ := ⟨rfl, k⟩
theorem l_r (h : Q .ret σ) : lopC I m nt Q .ret σ := h
theorem l_e (h : Q (.exit id) σ) : lopC I m nt Q (.exit id) σ := h
theorem e_r (h : resR P σ rl fun ds => PurR σ.h false (single ds) r) : endC P rl r .ret σ := h
theorem e_n (h : resR P σ rl fun ds => PurR σ.h false (single ds) r) : endC P rl r .normal σ := h
/-- a joint: what is told of the state there -/
theorem w_cut (R : (Nat → Dat) → (Nat → Option Blk) → Nat → Prop) {t : Nat → Dat} {h : Nat → Option Blk} {n nt : Nat}
    (h1 : awp P x (fun ex σ' => match ex with | .normal => σ'.nt = nt ∧ R σ'.t σ'.h σ'.n | e => Q e σ') ⟨t, h, n, nt⟩)
    (h2 : ∀ t h n, R t h n → awp P y Q ⟨t, h, n, nt⟩) : awp P (.seq x y) Q ⟨t, h, n, nt⟩ := by
  refine awp_seq ?_
  refine awp_mono (fun ex σ hq => ?_) x _ h1
  cases ex with
  | normal =>
    obtain ⟨t, h, n, nt'⟩ := σ
    obtain ⟨e, hR⟩ := hq
    simp only at e hR
    subst e
    exact h2 t h n hR
  | _ => exact hq
end
theorem pc_go {P : Program} {F : FuncId} {fn : Func} {c : Code} {ds : List Dat} {r : Dat} (hf : P.funcs[F]? = some fn) (hb : fn.body = some c) (hn : (fn.name == "runtime.NumGoroutine") = false) (nt : Nat) (hnt : ds.length + (fn.ntmps - ds.length) = nt)
    (rl : List ResultVar) (hrl : fn.results.toList = rl) (h : awp P c (endC P rl r) (ent ds nt)) : PC P F ds r := pc_start hf hb hn nt hnt rl hrl h

theorem PurRs.nil {h : Nat → Option Blk} {fz : Bool} : PurRs h fz [] [] := ⟨rfl, fun i c d h => by simp at h⟩
theorem PurRs.cons {h : Nat → Option Blk} {fz : Bool} {c d : Dat} {cs ds : List Dat} (h1 : PurR h fz c d) (h2 : PurRs h fz cs ds) : PurRs h fz (c :: cs) (d :: ds) :=
  ⟨by simp [h2.1], fun i a b ha hb => by
    cases i with
    | zero => simp at ha hb; subst ha; subst hb; exact h1
    | succ i => simp at ha hb; exact h2.2 i a b ha hb⟩
theorem PurR.agg' {h : Nat → Option Blk} {fz : Bool} {cs ds : List Dat} (h1 : PurRs h fz cs ds) : PurR h fz (.agg cs) (.agg ds) := .agg cs ds h1.1 h1.2
theorem PurR.tup' {h : Nat → Option Blk} {fz : Bool} {cs ds : List Dat} (h1 : PurRs h fz cs ds) : PurR h fz (.tup cs) (.tup ds) := .tup cs ds h1.1 h1.2
theorem PurR.list' {h : Nat → Option Blk} {fz : Bool} {st : Nat} {es fs : List (List Dat)} (hl : es.length = fs.length) (H : ∀ (i : Nat) e f, es[i]? = some e → fs[i]? = some f → PurRs h fz e f) : PurR h fz (.list st es) (.list st fs) :=
  .list st es fs hl (fun i e f he hf => (H i e f he hf).1) fun i e f he hf => (H i e f he hf).2
theorem PurR.listMap {h : Nat → Option Blk} {fz : Bool} {α : Type} {st : Nat} (f : α → List Dat) (l : List α) (H : ∀ x, PurRs h fz (f x) (f x)) : PurR h fz (.list st (l.map f)) (.list st (l.map f)) :=
  .list' rfl fun i e g he hg => by
    rw [he] at hg
    injection hg with hg
    subst hg
    rw [List.getElem?_map] at he
    cases hx : l[i]? with
    | none => simp [hx] at he
    | some x => simp [hx] at he; subst he; exact H x
/-- a slice of the call's own, as a plain one -/
theorem PurR.own {h : Nat → Option Blk} {fz : Bool} {i len st : Nat} {B : Blk} {fs : List (List Dat)} (hB : h i = some B) (hz : fz = true → B.fz = true) (hst : B.st = st) (hlen : len = B.es.length) (hl : fs.length = len)
    (H : ∀ (k : Nat) e f, B.es[k]? = some e → fs[k]? = some f → PurRs h fz e f) : PurR h fz (.ref i 0 len st) (.list st fs) :=
  .ref i 0 len st B fs hB hz hst (by omega) hl (fun k e f he hf => (H k e f (by simpa using he) hf).1) fun k e f he hf => (H k e f (by simpa using he) hf).2
theorem PurR.ownMap {h : Nat → Option Blk} {fz : Bool} {α : Type} {i len st : Nat} {B : Blk} (f : α → List Dat) (l : List α) (hB : h i = some B) (hz : fz = true → B.fz = true) (hst : B.st = st) (hes : B.es = l.map f) (hlen : len = l.length) (H : ∀ x, PurRs h fz (f x) (f x)) :
    PurR h fz (.ref i 0 len st) (.list st (l.map f)) :=
  .own hB hz hst (by rw [hes]; simpa using hlen) (by simp [hlen]) fun k e g he hg => by
    rw [hes, hg] at he
    injection he with he
    subst he
    rw [List.getElem?_map] at hg
    cases hx : l[k]? with
    | none => simp [hx] at hg
    | some x => simp [hx] at hg; subst hg; exact H x
theorem fzh_at (h : Nat → Option Blk) (i : Nat) : (fun i => (h i).map fun B => { B with fz := true } : Nat → Option Blk) i = (h i).map fun B => { B with fz := true } := rfl
theorem wrap64 {x : Int} (h1 : -9223372036854775808 ≤ x) (h2 : x ≤ 9223372036854775807) : IntKind.i64.wrap x = x := by
  rw [IntKind.wrap_i64]; omega
end Go.Ab
namespace Go.Ab
theorem upd_upd {β : Type} (f : Nat → β) (a : Nat) (b c : β) : upd (upd f a b) a c = upd f a c := by
  funext x; simp only [upd]; split <;> rfl
end Go.Ab
namespace Go.Ab
section
variable (b : Bool) (k : IntKind) (n i j o l st : Nat) (z : Int) (s : ByteArray) (cs c2 : List Dat) (es : List (List Dat)) (f : Fn) (v : Value)
theorem cells_bool : (Dat.bool b).cells = [.bool b] := rfl
theorem cells_int : (Dat.int k z).cells = [.int k z] := rfl
theorem cells_str : (Dat.str s).cells = [.str s] := rfl
theorem cells_agg : (Dat.agg cs).cells = cs := rfl
theorem cells_nil : Dat.nil.cells = [.nil] := rfl
theorem cells_list : (Dat.list st es).cells = [.list st es] := rfl
theorem cells_ref : (Dat.ref i o l st).cells = [.ref i o l st] := rfl
theorem cells_ptr : (Dat.ptr i j o st).cells = [.ptr i j o st] := rfl
theorem cells_fn : (Dat.fn f cs c2).cells = [.fn f cs c2] := rfl
theorem cells_oth : (Dat.oth v).cells = v.cells.toList.map Dat.oth := rfl
theorem one_bool : (Dat.bool b).one = true := rfl
theorem one_int : (Dat.int k z).one = true := rfl
theorem one_str : (Dat.str s).one = true := rfl
theorem one_nil : Dat.nil.one = true := rfl
theorem one_list : (Dat.list st es).one = true := rfl
theorem one_ref : (Dat.ref i o l st).one = true := rfl
theorem one_ptr : (Dat.ptr i j o st).one = true := rfl
theorem one_fn : (Dat.fn f cs c2).one = true := rfl
theorem one_oth : (Dat.oth v).one = v.oneCell' := rfl
end
end Go.Ab
