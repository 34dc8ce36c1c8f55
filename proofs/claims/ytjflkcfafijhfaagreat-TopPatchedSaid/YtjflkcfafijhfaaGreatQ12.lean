import Derived.Test.YtjflkcfafijhfaaGreatQ11
import Derived.LoopN
set_option linter.unusedSectionVars false
/- Cells of plain values; relations of lists; small rules for printed walks. No program here. -/
namespace Go.Ab
open Go.RowKit
variable [Lay]
variable {fe : Fen}
def ci (k : IntKind) (n : Int) : List Dat := [.int k n]
def cb (b : Bool) : List Dat := [.bool b]
def cs (s : ByteArray) : List Dat := [.str s]
def cl {α : Type} (st : Nat) (f : α → List Dat) (l : List α) : List Dat := [.list st (l.map f)]
theorem ci_pu (k : IntKind) (n : Int) : Pus (ci k n) := .cons (.int _ _) .nil
theorem cb_pu (b : Bool) : Pus (cb b) := .cons (.bool _) .nil
theorem cs_pu (b : ByteArray) : Pus (cs b) := .cons (.str _) .nil
theorem cl_pu {α : Type} {st : Nat} {f : α → List Dat} (H : ∀ x, Pus (f x)) (l : List α) : Pus (cl st f l) := .cons (.listMap f l H) .nil
theorem ci_eq (k : IntKind) (n : Int) : ci k n = [.int k n] := rfl
theorem cb_eq (n : Bool) : cb n = [.bool n] := rfl
theorem cs_eq (n : ByteArray) : cs n = [.str n] := rfl
theorem cl_eq {α : Type} (st : Nat) (f : α → List Dat) (l : List α) : cl st f l = [.list st (l.map f)] := rfl
theorem tl_nil (t0 : Nat → Dat) : tl t0 [] = t0 := rfl
theorem tl_cons (t0 : Nat → Dat) (a : Nat) (d : Dat) (l : List (Nat × Dat)) : tl t0 ((a, d) :: l) = upd (tl t0 l) a d := rfl
theorem hl_apply (l : List Blk) (i : Nat) : hl l i = l[i]? := rfl
theorem bool_split {b : Bool} {G : Prop} (h1 : b = true → G) (h2 : b = false → G) : G := by cases b; exact h2 rfl; exact h1 rfl
theorem a_condb {n0 : Nat} {P : Program} {Q : Exit → St → Prop} {σ : St} {x y : Code} {c : Operand} (b : Bool) (hc : σ.ev c = .bool b) (ht : b = true → aw fe n0 P x Q σ) (hf : b = false → aw fe n0 P y Q σ) : aw fe n0 P (.cond c x y) Q σ := a_cond hc rfl ht hf
section
variable {n0 : Nat} {P : Program} {x : Code} {Q : Exit → St → Prop} {n id : Nat} {σ : St}
end
section
variable {h : Nat → Option Blk} {fz : Bool}
theorem PurR.int' {k : IntKind} {a b : Int} (e : a = b) : PurR h fz (.int k a) (.int k b) := by rw [e]; exact .int k b
theorem PurR.bool' {a b : Bool} (e : a = b) : PurR h fz (.bool a) (.bool b) := by rw [e]; exact .bool b
theorem PurR.str' {a b : ByteArray} (e : a = b) : PurR h fz (.str a) (.str b) := by rw [e]; exact .str b
theorem PurR.lst {α : Type} {st : Nat} (f : α → List Dat) (l m : List α) (H : ∀ x, Pus (f x)) (e : l = m) : PurR h fz (.list st (l.map f)) (.list st (m.map f)) := by rw [e]; exact (Pu.listMap f m H).purR
theorem RN.box' {ren : Nat → Option Nat} {vt fr : Nat → Prop} {i j st : Nat} {B : Blk} {e ds : List Dat} (hB : h i = some B) (hz : fr i) (hst : B.st = st) (he : B.es = [e]) (k : RNs h ren vt fr e ds) : RN h ren vt fr (.ptr i 0 j st) (.rop ds j st) :=
 .pbox i 0 j st B ds hB hz hst (by rw [he]; exact Nat.one_pos) (by rw [he]; exact k.1) (fun q c d hc hd => by rw [he] at hc; exact k.2 q c d hc hd)
theorem RN.lst {ren : Nat → Option Nat} {vt fr : Nat → Prop} {α : Type} {st : Nat} (f : α → List Dat) (l m : List α) (H : ∀ x, Pus (f x)) (e : l = m) : RN h ren vt fr (.list st (l.map f)) (.list st (m.map f)) := by rw [e]; exact (Pu.listMap f m H).rn
theorem RN.refl' {ren : Nat → Option Nat} {vt fr : Nat → Prop} {i j off len len' st : Nat} (e : len = len') (hr : ren j = some i) : RN h ren vt fr (.ref i off len st) (.ref j off len' st) := by rw [e]; exact .ref i j off len' st hr
theorem PurR.rop' {cs ds : List Dat} {j st : Nat} (k : PurRs h fz cs ds) : PurR h fz (.rop cs j st) (.rop ds j st) := .rop cs ds j st k.1 k.2
theorem PurR.fn' {f : Fn} {a b a' b' : List Dat} (k1 : PurRs h fz a a') (k2 : PurRs h fz b b') : PurR h fz (.fn f a b) (.fn f a' b') := .fn f a b a' b' k1.1 k2.1 k1.2 k2.2
theorem PurR.box {i j st : Nat} {B : Blk} {e ds : List Dat} (hB : h i = some B) (hz : fz = true → B.fz = true) (hst : B.st = st) (he : B.es = [e]) (k : PurRs h fz e ds) : PurR h fz (.ptr i 0 j st) (.rop ds j st) :=
 .ptr i 0 j st B ds hB hz hst (by rw [he]; exact Nat.zero_lt_one) (by rw [he]; exact k.1) (by rw [he]; exact k.2)
def PL (h : Nat → Option Blk) (fz : Bool) (es fs : List (List Dat)) : Prop := es.length = fs.length ∧ ∀ (k : Nat) e f, es[k]? = some e → fs[k]? = some f → PurRs h fz e f
theorem PL.nil : PL h fz [] [] := ⟨rfl, fun i c d h => by simp at h⟩
theorem PL.cons {e f : List Dat} {es fs : List (List Dat)} (h1 : PurRs h fz e f) (h2 : PL h fz es fs) : PL h fz (e :: es) (f :: fs) :=
 ⟨by simp [h2.1], fun i a b ha hb => by
  cases i with
  | zero => simp at ha hb; subst ha; subst hb; exact h1
  | succ i => simp at ha hb; exact h2.2 i a b ha hb⟩
theorem PL.app {a b c d : List (List Dat)} (h1 : PL h fz a c) (h2 : PL h fz b d) : PL h fz (a ++ b) (c ++ d) :=
 ⟨by simp [h1.1, h2.1], fun i e f he hf => by
  rcases Nat.lt_or_ge i a.length with hi | hi
  ·rw [List.getElem?_append_left hi] at he
   rw [List.getElem?_append_left (by rw [← h1.1]; exact hi)] at hf
   exact h1.2 i e f he hf
  ·rw [List.getElem?_append_right hi] at he
   rw [List.getElem?_append_right (by rw [← h1.1]; exact hi)] at hf
   exact h2.2 _ e f he (by rw [h1.1]; exact hf)⟩
theorem PL.same {α : Type} (f : α → List Dat) (l : List α) (H : ∀ x, Pus (f x)) {es : List (List Dat)} (he : es = l.map f) : PL h fz es (l.map f) := by
 subst he
 refine ⟨rfl, fun k e g he hg => ?_⟩
 rw [he] at hg; injection hg with hg; subst hg
 obtain ⟨x, _, rfl⟩ := List.mem_map.1 (List.mem_of_getElem? he)
 exact (H x).purRs
theorem PurR.ownL {i len st : Nat} {B : Blk} {fs : List (List Dat)} (hB : h i = some B) (hz : fz = true → B.fz = true) (hst : B.st = st) (hlen : len = B.es.length) (k : PL h fz B.es fs) : PurR h fz (.ref i 0 len st) (.list st fs) :=
 .own hB hz hst hlen (by rw [← k.1, hlen]) k.2
end
theorem resR_mono {P : Program} {σ : St} : ∀ {rl : List ResultVar} {K1 K2 : List Dat → Prop}, (∀ ds, K1 ds → K2 ds) → resR P σ rl K1 → resR P σ rl K2
 | [], K1, K2, hk, h => hk _ h
 | .tmp t :: rl, K1, K2, hk, h => resR_mono (rl := rl) (fun ds hd => hk _ hd) h
 | .cell a t :: rl, K1, K2, hk, h => by
  unfold resR at h ⊢
  split at h
  ·split at h
   ·exact ⟨h.1, resR_mono (rl := rl) (fun ds hd => hk _ hd) h.2⟩
   ·exact h.elim
  ·exact h.elim
theorem e_r2 {P : Program} {σ : St} {rl : List ResultVar} {r d : Dat} (h1 : resR P σ rl fun ds => single ds = d) (h2 : PurR σ.h false d r) : endC P rl r .ret σ := e_r (resR_mono (fun ds hd => by rw [hd]; exact h2) h1)
theorem PL.set {h : Nat → Option Blk} {fz : Bool} {k : Nat} {e f : List Dat} {es fs : List (List Dat)} (h2 : PL h fz es fs) (h1 : PurRs h fz e f) : PL h fz (es.set k e) (fs.set k f) :=
 ⟨by simp [h2.1], fun i a b ha hb => by
  rw [List.getElem?_set] at ha hb
  by_cases hk : k = i
  ·subst hk
   by_cases hl : k < es.length
   ·rw [if_pos rfl, if_pos hl] at ha
    rw [if_pos rfl, if_pos (by rw [← h2.1]; exact hl)] at hb
    injection ha with ha; injection hb with hb
    subst ha; subst hb; exact h1
   ·rw [if_pos rfl, if_neg hl] at ha; cases ha
  ·rw [if_neg hk] at ha hb; exact h2.2 i a b ha hb⟩
theorem RNL.set {h : Nat → Option Blk} {ren : Nat → Option Nat} {vt fr : Nat → Prop} {k : Nat} {e f : List Dat} {es fs : List (List Dat)} (h2 : RNL h ren vt fr es fs) (h1 : RNs h ren vt fr e f) : RNL h ren vt fr (es.set k e) (fs.set k f) :=
 ⟨by simp [h2.1], fun i a b ha hb => by
  rw [List.getElem?_set] at ha hb
  by_cases hk : k = i
  ·subst hk
   by_cases hl : k < es.length
   ·rw [if_pos rfl, if_pos hl] at ha
    rw [if_pos rfl, if_pos (by rw [← h2.1]; exact hl)] at hb
    injection ha with ha; injection hb with hb
    subst ha; subst hb; exact h1
   ·rw [if_pos rfl, if_neg hl] at ha; cases ha
  ·rw [if_neg hk] at ha hb; exact h2.2 i a b ha hb⟩
theorem bytesD_map (l : List Int) : bytesD (l.map (ci .u8)) = some l := by
 induction l with
 | nil => rfl
 | cons a l ih => simp only [List.map_cons, ci, bytesD, ih]
theorem bytesD_app (l : List Int) (r : List (List Dat)) : bytesD (l.map (ci .u8) ++ r) = match bytesD r with | some x => some (l ++ x) | none => none := by
 induction l with
 | nil => simp; cases bytesD r <;> rfl
 | cons a l ih =>
  simp only [List.map_cons, List.cons_append, ci, bytesD] at ih ⊢
  rw [ih]
  cases bytesD r <;> rfl
theorem bytesD_cons (n : Int) (r : List (List Dat)) : bytesD ([.int .u8 n] :: r) = match bytesD r with | some x => some (n :: x) | none => none := rfl
theorem bytesD_nil : bytesD [] = some [] := rfl
theorem nilq_list {P : Program} {σ : St} {i : Nat} {o : Oper} {K : St → Prop} {t : TypeId} {x : Operand} {t' e : TypeId} {st : Nat} {es : List (List Dat)} (h1 : o.op = .binOp .eql t x (.const (.slice none 0 0)) t') (h2 : P.underlying t = some (.slice e)) (h3 : σ.ev x = .list st es)
  (ht : es = [] → K (σ.put o.dst (.bool true))) (hf : K (σ.put o.dst (.bool false))) : OthR P σ i o K :=
 .inl ⟨t, x, t', e, h1, h2, by rw [h3]; rfl, fun b hb => by rw [h3] at hb; cases b; exact hf; exact ht (hb rfl)⟩
theorem a_reg2 {n0 : Nat} {P : Program} {Q : Exit → St → Prop} {σ s1 s2 : St} {id : Nat} {ops : Array Oper} (l : List Oper) (hl : ops.toList = l) (c : Prop) (h : AR P l l 0 σ (fun s' => (c ∧ s' = s1) ∨ s' = s2)) (k1 : c → Q .normal s1) (k2 : Q .normal s2) : aw fe n0 P (.region id ops false) Q σ := by
 refine aw_of (awp_region l hl ?_)
 have key : ∀ (ops l : List Oper) (i : Nat) (σ : St) (K1 K2 : St → Prop), (∀ σ, K1 σ → K2 σ) → AR P ops l i σ K1 → AR P ops l i σ K2 := by
  intro ops l
  induction l with
  | nil => intro i σ K1 K2 hk h; unfold AR at h ⊢; exact hk _ h
  | cons o l ih =>
   intro i σ K1 K2 hk h
   have st : ∀ {σ : St}, stepR P σ i o (fun σ' => AR P ops l (i + 1) σ' K1) → stepR P σ i o (fun σ' => AR P ops l (i + 1) σ' K2) := by
    intro σ h
    unfold stepR at h ⊢
    split at h
    ·intro f args ats ho hf ha
     obtain ⟨e, he, hk'⟩ := h f args ats ho hf ha
     exact ⟨e, he, ih _ _ _ _ hk hk'⟩
    ·split at h
     ·exact ⟨h.1, ih _ _ _ _ hk h.2⟩
     ·exact h.mono fun s hs => ih _ _ _ _ hk hs
   unfold AR at h ⊢
   split at h
   ·exact st h
   ·split at h
    ·split at h
     ·rename_i e; simp only [if_pos e]; exact st h
     ·rename_i e; simp only [if_neg e]; exact ih _ _ _ _ hk h
    ·exact ih _ _ _ _ hk h
    ·exact h.elim
 refine key _ _ _ _ _ _ (fun s hs => ?_) h
 rcases hs with ⟨hc, rfl⟩ | rfl
 ·exact k1 hc
 ·exact k2
theorem allB_none {h : Nat → Option Blk} {ren : Nat → Option Nat} {vt : Nat → Prop} {fr : List Nat} {B : Blk} {l : List (Option Nat × Blk)} (h1 : B.es = []) (h2 : AllB h ren vt fr l) : AllB h ren vt fr ((none, B) :: l) := ⟨h1, h2⟩
theorem allB_some {h : Nat → Option Blk} {ren : Nat → Option Nat} {vt : Nat → Prop} {fr : List Nat} {i e st : Nat} {fz : Bool} {es es' : List (List Dat)} {l : List (Option Nat × Blk)} (h1 : h i = some ⟨e, st, fz, es⟩) (h2 : fr.contains i = false) (h3 : RNL h ren vt (fun i => i ∈ fr) es es')
  (h4 : AllB h ren vt fr l) : AllB h ren vt fr ((some i, ⟨e, st, fz, es'⟩) :: l) := ⟨⟨_, h1, ⟨rfl, rfl, rfl⟩, h2, h3⟩, h4⟩
end Go.Ab
/- Regions that draw their order, with writes: any order leads to the same, if what is not ordered does not meet. No program here. -/
namespace Go.Ab
open Go.RowKit
variable [Lay]
variable {fe : Fen}
theorem wrs_not {x : Nat} : ∀ (l : List (Nat × Option Blk)) (h : Nat → Option Blk), x ∉ l.map (·.1) → wrs h l x = h x
 | [], h, _ => rfl
 | (a, b) :: l, h, hx => by
  simp only [List.map_cons, List.mem_cons, not_or] at hx
  rw [wrs, wrs_not l _ hx.2, upd_ne _ _ hx.1]
theorem wrs_in {x : Nat} : ∀ (l : List (Nat × Option Blk)) (h h2 : Nat → Option Blk), x ∈ l.map (·.1) → wrs h l x = wrs h2 l x
 | [], h, h2, hx => by cases hx
 | (a, b) :: l, h, h2, hx => by
  rw [wrs, wrs]
  by_cases hl : x ∈ l.map (·.1)
  ·exact wrs_in l _ _ hl
  ·simp only [List.map_cons, List.mem_cons] at hx
   rcases hx with e | hx
   ·rw [wrs_not l _ hl, wrs_not l _ hl, e, upd_same, upd_same]
   ·exact absurd hx hl
theorem wrs_congr {x : Nat} (l : List (Nat × Option Blk)) {h h2 : Nat → Option Blk} (e : h x = h2 x) : wrs h l x = wrs h2 l x := by
 by_cases hl : x ∈ l.map (·.1)
 ·exact wrs_in l _ _ hl
 ·rw [wrs_not l _ hl, wrs_not l _ hl, e]
theorem wrs_comm (a b : List (Nat × Option Blk)) (h : Nat → Option Blk) (hd : ∀ x ∈ a.map (·.1), x ∉ b.map (·.1)) : wrs (wrs h a) b = wrs (wrs h b) a := by
 funext x
 by_cases ha : x ∈ a.map (·.1)
 ·rw [wrs_not b _ (hd x ha)]; exact wrs_in a _ _ ha
 ·rw [wrs_not a _ ha]; exact wrs_congr b (wrs_not a _ ha)
def runH (S : Nat → Bool) : List Ef → Nat → (Nat → Option Blk) → Nat → Option Blk
 | e :: l, i, h => runH S l (i + 1) (if S i then wrs h e.wr else h)
 | [], _, h => h
theorem runH_ext {S S2 : Nat → Bool} {x : Nat} : ∀ (l : List Ef) (i : Nat) (h h2 : Nat → Option Blk), h x = h2 x → (∀ k e, l[k]? = some e → S (i + k) ≠ S2 (i + k) → x ∉ e.wr.map (·.1)) → runH S l i h x = runH S2 l i h2 x
 | [], i, h, h2, e, _ => e
 | f :: l, i, h, h2, e, hd => by
  rw [runH, runH]
  refine runH_ext l (i + 1) _ _ ?_ (fun k e' he hne => hd (k + 1) e' (by simpa using he) (by rw [show i + (k + 1) = i + 1 + k by omega]; exact hne))
  have h0 := hd 0 f rfl
  simp only [Nat.add_zero] at h0
  by_cases q : S i = S2 i
  ·rw [q]; split
   ·exact wrs_congr _ e
   ·exact e
  ·have hn := h0 q
   have p1 := wrs_not (x := x) f.wr h hn
   have p2 := wrs_not (x := x) f.wr h2 hn
   split <;> split <;> simp only [p1, p2, e]
theorem runH_add {S S2 : Nat → Bool} {j : Nat} {ej : Ef} (hS2 : ∀ k, S2 k = (S k || k == j)) (hj : S j = false) : ∀ (l : List Ef) (i : Nat) (h : Nat → Option Blk), i ≤ j → l[j - i]? = some ej →
  (∀ k e, l[k]? = some e → j < i + k → S (i + k) = true → ∀ x ∈ e.wr.map (·.1), x ∉ ej.wr.map (·.1)) → runH S2 l i h = wrs (runH S l i h) ej.wr
 | [], i, h, _, ho, _ => by simp at ho
 | f :: l, i, h, hij, ho, hd => by
  rw [runH, runH]
  rcases Nat.lt_or_ge i j with hlt | hge
  ·have hne : (i == j) = false := by simp; omega
   rw [hS2 i, hne, Bool.or_false]
   refine runH_add hS2 hj l (i + 1) _ (by omega) ?_ (fun k e he hlt' hs => hd (k + 1) e (by simpa using he) (by omega) (by rw [show i + (k + 1) = i + 1 + k by omega]; exact hs))
   rw [show j - i = (j - (i + 1)) + 1 by omega] at ho; simpa using ho
  ·have e : i = j := by omega
   subst e
   rw [Nat.sub_self] at ho
   simp at ho
   subst ho
   rw [hS2 i, hj]
   simp only [beq_self_eq_true, Bool.or_true, if_true, Bool.false_eq_true, if_false]
   have key : ∀ (l : List Ef) (q : Nat) (h : Nat → Option Blk), i < q → (∀ k e, l[k]? = some e → S (q + k) = true → ∀ x ∈ e.wr.map (·.1), x ∉ f.wr.map (·.1)) →
     runH S2 l q (wrs h f.wr) = wrs (runH S l q h) f.wr := by
    intro l
    induction l with
    | nil => intro q h _ _; rfl
    | cons p l ih =>
     intro q h hq hd'
     rw [runH, runH, hS2 q]
     have hqi : (q == i) = false := by simp; omega
     rw [hqi, Bool.or_false]
     have h0 := hd' 0 p rfl
     simp only [Nat.add_zero] at h0
     have e : (if S q then wrs (wrs h f.wr) p.wr else wrs h f.wr) = wrs (if S q then wrs h p.wr else h) f.wr := by
      cases hs : S q with
      | false => rfl
      | true => simp only [if_true]; exact (wrs_comm p.wr f.wr h (h0 hs)).symm
     rw [e]
     exact ih (q + 1) _ (by omega) (fun k e he hs => hd' (k + 1) e (by simpa using he) (by rw [show q + (k + 1) = q + 1 + k by omega]; exact hs))
   exact key l (i + 1) h (by omega) (fun k e he hs => hd (k + 1) e (by simpa using he) (by omega) (by rw [show i + (k + 1) = i + 1 + k by omega]; exact hs))
def fpO (e : Ef) : List Nat × List Nat := (e.rd, e.wr.map (·.1))
def CallW (P : Program) (σ : St) (i : Nat) (o : Oper) (fD : Dat) (argsD : List Dat) (K : Ef → Prop) : Prop :=
 ∀ f args ats, o.op = .call { callee := .value f, args := args, argTypes := ats } → σ.ev f = fD → args.toList.map σ.ev = argsD →
  ∃ e : Ef, (∀ σ2 : St, (∀ x ∈ o.op.operands, σ2.ev x = σ.ev x) → (∀ k ∈ e.rd, σ2.h k = σ.h k) → σ2.n = σ.n → CallEff P σ2 i o e) ∧ K e
def OthW (P : Program) (σ : St) (i : Nat) (o : Oper) (K : Ef → Prop) : Prop :=
 ∃ e : Ef, (∀ σ2 : St, (∀ x ∈ o.op.operands, σ2.ev x = σ.ev x) → (∀ k ∈ e.rd, σ2.h k = σ.h k) → σ2.n = σ.n → CallEff P σ2 i o e) ∧ K e
def stepW (P : Program) (σ : St) (i : Nat) (o : Oper) (K : Ef → Prop) : Prop :=
 match o.op with
 | .call { callee := .value f, args, .. } => CallW P σ i o (σ.ev f) (args.toList.map σ.ev) K
 | op => match evOp P σ i op with
  | some e => e.side ∧ K e
  | none => OthW P σ i o K
def DW (P : Program) (ops : List Oper) : List Oper → Nat → St → List (List Nat × List Nat) → (St → List (List Nat × List Nat) → Prop) → Prop
 | [], _, σ, acc, Q => Q { σ with n := σ.n + 8 * ops.length } acc
 | o :: l, i, σ, acc, Q => match o.guard with
  | none => stepW P σ i o fun e => DW P ops l (i + 1) (σ.app o.dst e) (acc ++ [fpO e]) Q
  | some (j, want) => match gd ops σ j with
   | some (some b) => if b = want then stepW P σ i o fun e => DW P ops l (i + 1) (σ.app o.dst e) (acc ++ [fpO e]) Q else DW P ops l (i + 1) (σ.app o.dst { val := .oth undef }) (acc ++ [([], [])]) Q
   | some none => DW P ops l (i + 1) (σ.app o.dst { val := .oth undef }) (acc ++ [([], [])]) Q
   | none => False
theorem evSlice_rd {h1 h2 : Nat → Option Blk} {d : TK} {x : Dat} {lo hi : Option Dat} {e : Ef} (he : evSlice h1 d x lo hi = some e) (hh : ∀ k ∈ e.rd, h2 k = h1 k) : evSlice h2 d x lo hi = some e := by
 cases d <;> cases x <;> first | exact he | skip
 case slice.ref el i off len st =>
  have hrd : e.rd = [i] := by
   unfold evSlice at he
   simp only at he
   split at he
   ·injection he with he; subst he; rfl
   ·cases he
  have hi' : h2 i = h1 i := hh i (by rw [hrd]; simp)
  unfold evSlice at he ⊢
  simp only [hi'] at he ⊢
  exact he
theorem evOp_rd {P : Program} {σ σ2 : St} {i : Nat} {op : Op} {e : Ef} (h : evOp P σ i op = some e) (hn : σ2.n = σ.n) (hh : ∀ k ∈ e.rd, σ2.h k = σ.h k) (he : ∀ x ∈ op.operands, σ2.ev x = σ.ev x) (hs : ∀ cs b, op ≠ .select cs b) : evOp P σ2 i op = some e := by
 -- a state between: its heap is the other's, all else is as here
 let σ3 : St := ⟨σ.t, σ2.h, σ.n, σ.nt⟩
 have h3 : evOp P σ2 i op = evOp P σ3 i op := evOp_congr (σ := σ3) hn rfl (fun x hx => by
  have := he x hx
  rw [this]
  cases x <;> rfl) hs
 rw [h3]
 have ev3 : ∀ x, σ3.ev x = σ.ev x := fun x => by cases x <;> rfl
 have ev3' : σ3.ev = σ.ev := funext ev3
 have hel : ∀ sz d xs r p, elems σ sz d = some (xs, r, p) → (∀ k ∈ r, σ2.h k = σ.h k) → elems σ3 sz d = some (xs, r, p) := by
  intro sz d xs r p h1 h2
  unfold elems at h1 ⊢
  cases d with
  | ref i off len st =>
   simp only at h1 ⊢
   cases hq : σ.h i with
   | none => rw [hq] at h1; cases h1
   | some B =>
    rw [hq] at h1
    simp only [Option.some.injEq, Prod.mk.injEq] at h1
    obtain ⟨rfl, rfl, rfl⟩ := h1
    have : σ3.h i = some B := by rw [← hq]; exact h2 i (by simp)
    rw [this]
  | _ => exact h1
 cases op
 case load t a =>
  simp only [evOp, ev3] at h ⊢
  split at h
  ·rename_i x hx
   unfold evLoad at h ⊢
   split at h
   ·rename_i i' k j st hp
    cases hq : σ.h i' with
    | none => rw [hq] at h; cases h
    | some B =>
     rw [hq] at h
     simp only [Option.some.injEq] at h
     subst h
     have : σ3.h i' = some B := by rw [← hq]; exact hh i' (by simp)
     simp only [this]
   ·exact h
   ·cases h
  ·cases h
 case store t a v =>
  simp only [evOp, ev3] at h ⊢
  split at h
  ·rename_i x hx
   unfold evStore at h ⊢
   split at h
   ·rename_i i' k j st hp
    cases hq : σ.h i' with
    | none => rw [hq] at h; cases h
    | some B =>
     rw [hq] at h
     simp only [Option.some.injEq] at h
     subst h
     have : σ3.h i' = some B := by rw [← hq]; exact hh i' (by simp)
     simp only [this]
   ·cases h
  ·cases h
 case call c =>
  obtain ⟨callee, args, ats⟩ := c
  cases callee with
  | builtin b =>
   simp only [evOp, ev3'] at h ⊢
   unfold evBuiltin at h ⊢
   split at h
   ·exact h
   ·unfold evAppend at h ⊢
    split at h
    ·split at h
     ·rename_i xs r p hel1
      split at h
      ·rename_i y _ _ _ _
       simp only [Option.some.injEq] at h
       subst h
       have := hel _ _ _ _ _ hel1 (fun k hk => hh k (by simpa using hk))
       simp_all
       rfl
      ·rename_i j off len st _
       cases hq : σ.h j with
       | none => rw [hq] at h; cases h
       | some B =>
        rw [hq] at h
        simp only at h
        split at h
        ·rename_i hal
         simp only [Option.some.injEq] at h
         subst h
         have h4 := hel _ _ _ _ _ hel1 (fun k hk => hh k (by simp [hk]))
         have h5 : σ3.h j = some B := by rw [← hq]; exact hh j (by simp)
         simp_all
        ·rename_i hal
         simp only [Option.some.injEq] at h
         subst h
         have h4 := hel _ _ _ _ _ hel1 (fun k hk => hh k (by simp [hk]))
         have h5 : σ3.h j = some B := by rw [← hq]; exact hh j (by simp)
         simp_all
         rfl
      ·cases h
     ·cases h
    ·cases h
   ·unfold evClear at h ⊢
    split at h
    ·split at h
     ·exact h
     ·rename_i j off len st _ _
      cases hq : σ.h j with
      | none => rw [hq] at h; cases h
      | some B =>
       rw [hq] at h
       simp only [Option.some.injEq] at h
       subst h
       have h5 : σ3.h j = some B := by rw [← hq]; exact hh j (by simp)
       simp_all
     ·cases h
    ·cases h
   ·exact h
   ·exact h
   ·cases h
  | value f => exact h
  | invoke r m => exact h
 case convert src dst x =>
  simp only [evOp, ev3] at h ⊢
  split at h
  ·split at h
   ·unfold evToStr at h ⊢
    split at h
    ·exact h
    ·split at h
     ·split at h
      ·rename_i hel1
       split at h
       ·injection h with h
        subst h
        have := hel _ _ _ _ _ hel1 (fun k hk => hh k hk)
        simp_all
       ·cases h
      ·cases h
     ·cases h
   ·exact h
   ·cases h
  ·cases h
 case slice t x lo hi mx =>
  cases mx with
  | some m => exact h
  | none =>
   simp only [evOp] at h ⊢
   have ev4 : ∀ o : Option Operand, o.map σ3.ev = o.map σ.ev := fun o => by cases o with | none => rfl | some y => simp [ev3]
   rw [ev4, ev4]
   simp only [ev3] at h ⊢
   split at h
   ·split at h
    ·rename_i e' he'
     injection h with h
     subst h
     rw [evSlice_rd he' (fun k hk => hh k hk)]
    ·cases h
   ·cases h
 all_goals exact h
def Fact2 (P : Program) (ops : List Oper) (σ : St) (i : Nat) (o : Oper) (e : Ef) : Prop :=
 ((∀ σ2 : St, (∀ x ∈ o.op.operands, σ2.ev x = σ.ev x) → (∀ k ∈ e.rd, σ2.h k = σ.h k) → σ2.n = σ.n → CallEff P σ2 i o e) ∧ (match o.guard with | none => True | some (j, want) => gd ops σ j = some (some want))) ∨
 (e.val = .oth undef ∧ e.wr = [] ∧ match o.guard with | none => False | some (j, want) => ∃ x, gd ops σ j = some x ∧ x ≠ some want)
theorem stepW_fact {P : Program} {ops : List Oper} {σ : St} {i : Nat} {o : Oper} {K : Ef → Prop} (hsel : ∀ cs b, o.op ≠ .select cs b) (hg : match o.guard with | none => True | some (j, want) => gd ops σ j = some (some want)) (h : stepW P σ i o K) : ∃ e, Fact2 P ops σ i o e ∧ K e := by
 unfold stepW at h
 split at h
 ·rename_i f args ats ho
  obtain ⟨e, hr, hk⟩ := h _ _ _ ho rfl rfl
  exact ⟨e, .inl ⟨hr, hg⟩, hk⟩
 ·split at h
  ·rename_i e he
   obtain ⟨hs, hk⟩ := h
   refine ⟨e, .inl ⟨fun σ2 h1 h2 h3 => ?_, hg⟩, hk⟩
   intro X S S' hn hS hS'
   exact evOp_sound (X := X) (evOp_rd he h3 h2 h1 hsel) hs hn hS hS'
  ·obtain ⟨e, he, hk⟩ := h
   exact ⟨e, .inl ⟨he, hg⟩, hk⟩
def vals (es : List Ef) : List Dat := es.map (·.val)
theorem app_eq (t : Nat → Dat) (h : Nat → Option Blk) (n nt : Nat) (dst : Option Tmp) (e : Ef) : (⟨t, h, n, nt⟩ : St).app dst e = ⟨putT nt t dst e.val, wrs h e.wr, n, nt⟩ := by
 unfold St.app
 rw [put_eq]
theorem DW_facts {P : Program} {ops : List Oper} {Q : St → List (List Nat × List Nat) → Prop} : ∀ (l : List Oper) (i : Nat) (t : Nat → Dat) (h : Nat → Option Blk) (n nt : Nat) (acc : List (List Nat × List Nat)), (∀ o ∈ l, ∀ cs b, o.op ≠ .select cs b) → DW P ops l i ⟨t, h, n, nt⟩ acc Q →
  ∃ es : List Ef, es.length = l.length ∧ (∀ j o e, l[j]? = some o → es[j]? = some e → Fact2 P ops ⟨runT nt (fun k => decide (k < i + j)) l (vals es) i t, runH (fun k => decide (k < i + j)) es i h, n, nt⟩ (i + j) o e) ∧ Q ⟨runT nt (fun _ => true) l (vals es) i t, runH (fun _ => true) es i h, n + 8 * ops.length, nt⟩ (acc ++ es.map fpO)
 | [], i, t, h, n, nt, acc, _, hd => ⟨[], rfl, fun j o v ho => by simp at ho, by simpa [DW, vals, runT, runH] using hd⟩
 | o :: l, i, t, h, n, nt, acc, hsel, hd => by
  have fin : ∀ e : Ef, Fact2 P ops ⟨t, h, n, nt⟩ i o e → DW P ops l (i + 1) ((⟨t, h, n, nt⟩ : St).app o.dst e) (acc ++ [fpO e]) Q → ∃ es : List Ef, es.length = (o :: l).length ∧
    (∀ j o' e, (o :: l)[j]? = some o' → es[j]? = some e → Fact2 P ops ⟨runT nt (fun k => decide (k < i + j)) (o :: l) (vals es) i t, runH (fun k => decide (k < i + j)) es i h, n, nt⟩ (i + j) o' e) ∧ Q ⟨runT nt (fun _ => true) (o :: l) (vals es) i t, runH (fun _ => true) es i h, n + 8 * ops.length, nt⟩ (acc ++ es.map fpO) := fun e hf hq => by
   rw [app_eq] at hq
   obtain ⟨es, h1, h2, h3⟩ := DW_facts l (i + 1) _ _ n nt _ (fun o ho => hsel o (by simp [ho])) hq
   refine ⟨e :: es, by simp [h1], fun j o' e' ho' he' => ?_, ?_⟩
   ·cases j with
    | zero =>
     simp at ho' he'
     subst ho'; subst he'
     have : runT nt (fun k => decide (k < i + 0)) (o :: l) (vals (e :: es)) i t = t := by
      have none : ∀ (l : List Oper) (vs : List Dat) (q : Nat) (t : Nat → Dat), i ≤ q → runT nt (fun k => decide (k < i + 0)) l vs q t = t := by
       intro l
       induction l with
       | nil => intro vs q t _; cases vs <;> rfl
       | cons p l ih =>
        intro vs q t hq
        cases vs with
        | nil => rfl
        | cons u vs =>
         rw [runT]
         have : decide (q < i + 0) = false := by simp; omega
         rw [this]
         exact ih vs (q + 1) t (by omega)
      exact none _ _ _ _ (Nat.le_refl _)
     have h0 : runH (fun k => decide (k < i + 0)) (e :: es) i h = h := by
      have none : ∀ (l : List Ef) (q : Nat) (h : Nat → Option Blk), i ≤ q → runH (fun k => decide (k < i + 0)) l q h = h := by
       intro l
       induction l with
       | nil => intro q h _; rfl
       | cons p l ih =>
        intro q h hq
        rw [runH]
        have : decide (q < i + 0) = false := by simp; omega
        rw [this]
        exact ih (q + 1) h (by omega)
      exact none _ _ _ (Nat.le_refl _)
     rw [this, h0]
     exact hf
    | succ j =>
     have := h2 j o' e' (by simpa using ho') (by simpa using he')
     rw [show i + 1 + j = i + (j + 1) by omega] at this
     show Fact2 P ops ⟨runT nt (fun k => decide (k < i + (j + 1))) (o :: l) (e.val :: vals es) i t, _, n, nt⟩ _ _ _
     rw [runT, runH]
     have q : decide (i < i + (j + 1)) = true := by simp
     simp only [q, if_true]
     exact this
   ·show Q ⟨runT nt (fun _ => true) (o :: l) (e.val :: vals es) i t, _, _, _⟩ _
    rw [runT, runH]
    have e3 : acc ++ (e :: es).map fpO = acc ++ [fpO e] ++ es.map fpO := by simp
    rw [e3]; exact h3
  unfold DW at hd
  split at hd
  ·rename_i hg
   obtain ⟨v, hf, hk⟩ := stepW_fact (ops := ops) (hsel o (by simp)) (by rw [hg]; trivial) hd
   exact fin v hf hk
  ·rename_i j want hg
   split at hd
   ·rename_i b hgd
    split at hd
    ·rename_i hbw
     subst hbw
     obtain ⟨v, hf, hk⟩ := stepW_fact (ops := ops) (hsel o (by simp)) (by rw [hg]; exact hgd) hd
     exact fin v hf hk
    ·rename_i hbw
     exact fin { val := .oth undef } (.inr ⟨rfl, rfl, by rw [hg]; exact ⟨_, hgd, fun e => hbw (by injection e)⟩⟩) hd
   ·rename_i hgd
    exact fin { val := .oth undef } (.inr ⟨rfl, rfl, by rw [hg]; exact ⟨_, hgd, fun e => by cases e⟩⟩) hd
   ·exact hd.elim
def okW (b : List (List Nat)) (fp : List (List Nat × List Nat)) : Bool :=
 (List.range fp.length).all fun j => (List.range j).all fun i => (b.getD j []).contains i ||
  ((fp.getD i ([], [])).2.all (fun a => !(fp.getD j ([], [])).1.contains a && !(fp.getD j ([], [])).2.contains a) && (fp.getD j ([], [])).2.all (fun a => !(fp.getD i ([], [])).1.contains a))
theorem okW_at {b : List (List Nat)} {es : List Ef} (h : okW b (es.map fpO) = true) {i j : Nat} (hij : i < j) {x y : Ef} (hx : es[i]? = some x) (hy : es[j]? = some y) (hb : i ∉ b.getD j []) :
  (∀ a ∈ x.wr.map (·.1), a ∉ y.rd ∧ a ∉ y.wr.map (·.1)) ∧ ∀ a ∈ y.wr.map (·.1), a ∉ x.rd := by
 have hj : j < (es.map fpO).length := by simpa using (List.getElem?_eq_some_iff.1 hy).1
 have h1 := List.all_eq_true.1 (List.all_eq_true.1 h j (List.mem_range.2 hj)) i (List.mem_range.2 hij)
 have e1 : (es.map fpO).getD i ([], []) = fpO x := by simp [List.getD_eq_getElem?_getD, hx]
 have e2 : (es.map fpO).getD j ([], []) = fpO y := by simp [List.getD_eq_getElem?_getD, hy]
 rw [e1, e2] at h1
 have hc : (b.getD j []).contains i = false := by simpa using hb
 rw [hc, Bool.false_or, Bool.and_eq_true] at h1
 constructor
 ·intro a ha
  have := List.all_eq_true.1 h1.1 a ha
  simp only [fpO, Bool.and_eq_true, Bool.not_eq_true', List.contains_eq_mem, decide_eq_false_iff_not] at this
  exact this
 ·intro a ha
  have := List.all_eq_true.1 h1.2 a ha
  simp only [fpO, Bool.not_eq_true', List.contains_eq_mem, decide_eq_false_iff_not] at this
  exact this
theorem drawW_of {P : Program} (hm : P.follows .mixedOrders = true) {l : List Oper} {σ : St} {Q : St → Prop} (hst : stat l.toArray = true) (hsel : l.all (fun o => match o.op with | .select .. | .defer _ => false | _ => true) = true) {fp : List (List Nat × List Nat)} (hfp : okW (befs l []) fp = true) (h : DW P l l 0 σ [] (fun s q => Q s ∧ q = fp)) : DrawR fe P l σ Q := by
 intro X id Q' hQ' a w φ D hs
 obtain ⟨t, hp, n, nt⟩ := σ
 have hsel' : ∀ o ∈ l, ∀ cs b, o.op ≠ .select cs b := fun o ho cs b e => by
  have := List.all_eq_true.1 hsel o ho
  rw [e] at this
  cases this
 have hnd : ∀ o ∈ l, ∀ c, o.op ≠ .defer c := fun o ho c e => by
  have := List.all_eq_true.1 hsel o ho
  rw [e] at this
  cases this
 obtain ⟨es, hlenE, hfacts, hq, hfpe⟩ := DW_facts l 0 t hp n nt [] hsel' h
 rw [List.nil_append] at hfpe
 subst hfpe
 obtain ⟨vs, hvs⟩ : ∃ vs, vals es = vs := ⟨_, rfl⟩
 have hlen : vs.length = l.length := by rw [← hvs, ← hlenE]; simp [vals]
 rw [hvs] at hfacts hq
 have hops : l.toArray.toList = l := by simp
 -- any order: a set S has been done
 have main : ∀ (fuel : Nat) (listed : Array Bool) (S : Nat → Bool) (a : Act) (w : World) (φ : Pl) (D : Nat → Prop), listed.size = l.length → (∀ k, S k = listed.getD k false) →
   (∀ k y, S k = true → l[k]? = some y → ∀ m ∈ ons y, S m = true) → fuel = ((List.range l.length).filter fun k => !S k).length → Sim X (fun k => S k = true) ⟨runT nt S l vs 0 t, runH S es 0 hp, n, nt⟩ a w φ D →
   wpAnyIn fe.F fe.n P .any l.toArray (Con X Q') fuel listed a w := by
  intro fuel
  induction fuel with
  | zero =>
   intro listed S a w φ D hsz hS hcl hf hsim
   have hall : ∀ k, k < l.length → S k = true := fun k hk => by
    have : ((List.range l.length).filter fun k => !S k) = [] := List.eq_nil_of_length_eq_zero hf.symm
    have := List.filter_eq_nil_iff.1 this k (List.mem_range.2 hk)
    simpa using this
   refine ⟨?_, ?_⟩
   ·unfold Region.ready
    refine List.filter_eq_nil_iff.2 fun k hk => ?_
    have hk' : k < l.length := by simpa using hk
    have := hall k hk'
    rw [hS k] at this
    have hb : k < listed.size := by omega
    simp only [Array.getD_eq_getD_getElem?, Array.getElem?_eq_getElem hb, Option.getD_some] at this ⊢
    simp [this]
   ·have e : runT nt S l vs 0 t = runT nt (fun _ => true) l vs 0 t := by
     funext x
     refine runT_ext nt l vs 0 t t rfl (fun k o ho hne => ?_)
     exact absurd (hall (0 + k) (by rw [Nat.zero_add]; exact (List.getElem?_eq_some_iff.1 ho).1)) hne
    have e' : runH S es 0 hp = runH (fun _ => true) es 0 hp := by
     funext x
     refine runH_ext es 0 hp hp rfl (fun k e he hne => ?_)
     exact absurd (hall (0 + k) (by rw [Nat.zero_add, ← hlenE]; exact (List.getElem?_eq_some_iff.1 he).1)) hne
    rw [e, e'] at hsim
    refine ⟨_, φ, D, hQ' _ hq, hsim.bump (m := 8 * l.length) (fun j hj => ?_)⟩
    rw [hS j] at hj
    have : j < listed.size := by
     rcases Nat.lt_or_ge j listed.size with h | h
     ·exact h
     ·simp [Array.getD_eq_getD_getElem?, Array.getElem?_eq_none h] at hj
    omega
  | succ fuel ih =>
   intro listed S a w φ D hsz hS hcl hf hsim
   have hex : ∃ k, k < l.length ∧ S k = false := by
    have : ((List.range l.length).filter fun k => !S k) ≠ [] := fun e => by rw [e] at hf; cases hf
    obtain ⟨k, hk⟩ := List.exists_mem_of_ne_nil _ this
    have := List.mem_filter.1 hk
    exact ⟨k, List.mem_range.1 this.1, by simpa using this.2⟩
   refine ⟨fun hr => ?_, fun j hj => ?_⟩
   ·-- the least that is not done is ready
    exfalso
    have least : ∀ k, k < l.length → S k = false → ∃ k, k < l.length ∧ S k = false ∧ ∀ m, m < k → S m = true := by
     intro k
     induction k using Nat.strongRecOn with
     | _ k ihk =>
      intro hk hsk
      by_cases hmm : ∃ m, m < k ∧ S m = false
      ·obtain ⟨m, hmk, hsm⟩ := hmm
       exact ihk m hmk (by omega) hsm
      ·exact ⟨k, hk, hsk, fun m hmk => by cases hsm : S m with | true => rfl | false => exact absurd ⟨m, hmk, hsm⟩ hmm⟩
    obtain ⟨k0, hk0, hs0⟩ := hex
    obtain ⟨k, hk, hsk, hmin⟩ := least k0 hk0 hs0
    have hmem : k ∈ Region.ready .any l.toArray listed := by
     unfold Region.ready
     refine List.mem_filter.2 ⟨by simpa using hk, ?_⟩
     have hb : k < listed.size := by omega
     have h1 : listed[k] = false := by
      have := hS k
      rw [hsk] at this
      simpa [Array.getD_eq_getD_getElem?, Array.getElem?_eq_getElem hb] using this.symm
     have h2 : l[k]? = some l[k] := List.getElem?_eq_getElem hk
     simp only [Array.getD_eq_getD_getElem?, Array.getElem?_eq_getElem hb, Option.getD_some, h1, Bool.not_false, Bool.true_and, List.getElem?_toArray, h2, Option.map_some]
     rw [Array.all_eq_true_iff_forall_mem]
     intro e he
     cases hbd : Region.binds .any e with
     | false => rfl
     | true =>
      simp only [Bool.not_true, Bool.false_or]
      have hon : e.on ∈ ons l[k] := List.mem_map.2 ⟨e, List.mem_filter.2 ⟨by simpa using he, hbd⟩, rfl⟩
      have hlt := stat_on hst (j := k) (by simp [hk]) e.on hon
      have := hmin e.on hlt
      rw [hS e.on, Array.getD_eq_getD_getElem?] at this
      exact this
    rw [hr] at hmem
    cases hmem
   ·have hj' := List.mem_filter.1 hj
    have hjl : j < l.length := by simpa using hj'.1
    have hjb : j < listed.size := by omega
    have h2 : l[j]? = some l[j] := List.getElem?_eq_getElem hjl
    have hready := hj'.2
    simp only [Array.getD_eq_getD_getElem?, Array.getElem?_eq_getElem hjb, Option.getD_some, List.getElem?_toArray, h2, Option.map_some, Bool.and_eq_true, Bool.not_eq_true'] at hready
    obtain ⟨hlj, hafter⟩ := hready
    have hSj : S j = false := by rw [hS j, Array.getD_eq_getD_getElem?, Array.getElem?_eq_getElem hjb]; simpa using hlj
    have hons : ∀ m ∈ ons l[j], S m = true := fun m hm => by
     obtain ⟨e, he, rfl⟩ := List.mem_map.1 hm
     obtain ⟨he1, he2⟩ := List.mem_filter.1 he
     have := Array.all_eq_true_iff_forall_mem.1 hafter e (by simpa using he1)
     rw [he2] at this
     simp only [Bool.not_true, Bool.false_or] at this
     rw [hS e.on, Array.getD_eq_getD_getElem?]; exact this
    have hopj : l.toArray[j]? = some l[j] := by simp [hjl]
    have hbef := bef_in hst (S := fun k => S k = true) (fun k y hk hy => hcl k y hk (by simpa using hy)) j l[j] hopj hons
    have hlater : ∀ k y, l[k]? = some y → j < k → S k = true → ∀ (hm : meets l.toArray l[j] y = true), False := fun k y hy hjk hsk hm => by
     have h3 := stat_meets hst hjk hopj (by simpa using hy) hm
     have := bef_in hst (S := fun k => S k = true) (fun k y hk hy => hcl k y hk (by simpa using hy)) k y (by simpa using hy) (hcl k y hsk hy) j h3
     rw [hSj] at this
     cases this
    obtain ⟨ej, hej⟩ : ∃ e, es[j]? = some e := ⟨es[j]'(by omega), List.getElem?_eq_getElem (by omega)⟩
    have hvj : vs[j]? = some ej.val := by rw [← hvs]; simp [vals, hej]
    have hfact := hfacts j l[j] ej h2 hej
    rw [Nat.zero_add] at hfact
    -- what it looks at is as in the written order
    have hagree : ∀ x, x ∈ l[j].looksAt l.toArray → runT nt S l vs 0 t x = runT nt (fun k => decide (k < j)) l vs 0 t x := fun x hx => by
     refine runT_ext nt l vs 0 t t rfl (fun k o ho hne hd => ?_)
     rw [Nat.zero_add] at hne
     rcases Nat.lt_trichotomy k j with hkj | hkj | hkj
     ·have hm : meets l.toArray o l[j] = true := by
       unfold meets
       rw [hd]
       simp [hx]
      have := hbef k (stat_meets hst hkj (by simpa using ho) hopj hm)
      simp only [this, hkj, decide_true, ne_eq, not_true_eq_false] at hne
     ·subst hkj; simp [hSj] at hne
     ·have hsk : S k = true := by
       cases hsk : S k with
       | true => rfl
       | false => simp [hsk] at hne; omega
      refine hlater k o ho hkj hsk ?_
      unfold meets
      rw [hd]
      simp [hx]
    have hev : ∀ x ∈ l[j].op.operands, (⟨runT nt S l vs 0 t, runH S es 0 hp, n, nt⟩ : St).ev x = (⟨runT nt (fun k => decide (k < j)) l vs 0 t, runH (fun k => decide (k < j)) es 0 hp, n, nt⟩ : St).ev x := fun x hx => by
     cases x with
     | tmp y =>
      show runT nt S l vs 0 t y = _
      exact hagree y (List.mem_append.2 (.inl (List.mem_filterMap.2 ⟨.tmp y, by simpa using hx, rfl⟩)))
     | const v => rfl
     | global g => rfl
     | func f => rfl
    -- its guard too
    have hgd : ∀ g want, l[j].guard = some (g, want) → gd l ⟨runT nt S l vs 0 t, runH S es 0 hp, n, nt⟩ g = gd l ⟨runT nt (fun k => decide (k < j)) l vs 0 t, runH (fun k => decide (k < j)) es 0 hp, n, nt⟩ g := fun g want hg => by
     unfold gd
     split
     ·rename_i d op ty pos af gu hd
      have : runT nt S l vs 0 t d = runT nt (fun k => decide (k < j)) l vs 0 t d := hagree d (List.mem_append.2 (.inr (by
       rw [hg]
       simp [hd])))
      simp only [this]
     ·rfl
    let S2 : Nat → Bool := fun k => S k || k == j
    -- unordered ones do not meet
    have hapartB : ∀ k e, es[k]? = some e → k < j → S k = false → (∀ a ∈ e.wr.map (·.1), a ∉ ej.rd ∧ a ∉ ej.wr.map (·.1)) ∧ ∀ a ∈ ej.wr.map (·.1), a ∉ e.rd := fun k e he hkj hsk =>
     okW_at hfp hkj he hej (fun hmem => by rw [hbef k hmem] at hsk; cases hsk)
    have hapartA : ∀ k e, es[k]? = some e → j < k → S k = true → (∀ a ∈ ej.wr.map (·.1), a ∉ e.rd ∧ a ∉ e.wr.map (·.1)) ∧ ∀ a ∈ e.wr.map (·.1), a ∉ ej.rd := fun k e he hkj hsk =>
     okW_at hfp hkj hej he (fun hmem => by
      have hkl : k < l.length := by rw [← hlenE]; exact (List.getElem?_eq_some_iff.1 he).1
      have := bef_in hst (S := fun k => S k = true) (fun k y hk hy => hcl k y hk (by simpa using hy)) k l[k] (by simp [hkl]) (hcl k l[k] hsk (List.getElem?_eq_getElem hkl)) j hmem
      rw [hSj] at this
      cases this)
    have hheap : ∀ x ∈ ej.rd, runH S es 0 hp x = runH (fun k => decide (k < j)) es 0 hp x := fun x hx => by
     refine runH_ext es 0 hp hp rfl (fun k e he hne hmem => ?_)
     rw [Nat.zero_add] at hne
     rcases Nat.lt_trichotomy k j with hkj | hkj | hkj
     ·have hsk : S k = false := by
       cases hsk : S k with
       | false => rfl
       | true => simp [hsk, hkj] at hne
      exact ((hapartB k e he hkj hsk).1 x hmem).1 hx
     ·subst hkj; simp [hSj] at hne
     ·have hsk : S k = true := by
       cases hsk : S k with
       | true => rfl
       | false => simp [hsk] at hne; omega
      exact (hapartA k e he hkj hsk).2 x hmem hx
    have hrunH : runH S2 es 0 hp = wrs (runH S es 0 hp) ej.wr :=
     runH_add (fun k => rfl) hSj es 0 hp (Nat.zero_le _) (by simpa using hej) (fun k e he hjk hsk x hx hmem => by
      rw [Nat.zero_add] at hjk hsk
      exact ((hapartA k e he hjk hsk).1 x hmem).2 hx)
    have hrun : runT nt S2 l vs 0 t = putT nt (runT nt S l vs 0 t) l[j].dst ej.val :=
     runT_add nt (fun k => rfl) hSj l vs 0 t (Nat.zero_le _) (by simp) (by simpa using hvj) hlen (fun k o ho hjk hsk d hd e => by
      rw [Nat.zero_add] at hjk hsk
      refine hlater k o ho hjk hsk ?_
      unfold meets
      rw [hd, e]
      simp)
    have next : ∀ a' w' φ' D', Sim X (fun k => S2 k = true) ((⟨runT nt S l vs 0 t, runH S es 0 hp, n, nt⟩ : St).app l[j].dst ej) a' w' φ' D' → wpAnyIn fe.F fe.n P .any l.toArray (Con X Q') fuel (listed.setIfInBounds j true) a' w' := fun a' w' φ' D' hs' => by
     rw [app_eq] at hs'
     rw [← hrun, ← hrunH] at hs'
     refine ih (listed.setIfInBounds j true) S2 a' w' φ' D' (by simpa using hsz) (fun k => ?_) (fun k y hk hy m hm => ?_) ?_ hs'
     ·show (S k || k == j) = _
      rw [Array.getD_eq_getD_getElem?, Array.getElem?_setIfInBounds]
      by_cases e : j = k
      ·subst e; simp [hjb]
      ·rw [if_neg e, hS k, Array.getD_eq_getD_getElem?]
       have : (k == j) = false := by simp; exact fun h => e h.symm
       rw [this, Bool.or_false]
     ·show (S m || m == j) = true
      have hk' : (S k || k == j) = true := hk
      rcases Bool.or_eq_true_iff.1 hk' with h3 | h3
      ·rw [hcl k y h3 hy m hm]; rfl
      ·have : k = j := by simpa using h3
       subst this
       rw [h2] at hy
       injection hy with hy
       subst hy
       rw [hons m hm]; rfl
     ·have hcount : ((List.range l.length).filter fun k => !S k).length = ((List.range l.length).filter fun k => !S2 k).length + 1 := by
       have gen : ∀ L : List Nat, L.Nodup → j ∈ L → (L.filter fun k => !S k).length = (L.filter fun k => !S2 k).length + 1 := by
        intro L
        induction L with
        | nil => intro _ h; cases h
        | cons x L ihL =>
         intro hnd hmem
         obtain ⟨hx, hnd'⟩ := List.nodup_cons.1 hnd
         by_cases e : x = j
         ·subst e
          have h1 : (!S x) = true := by rw [hSj]; rfl
          have h2 : (!S2 x) = false := by show (!(S x || x == x)) = false; simp
          have same : (L.filter fun k => !S k) = L.filter fun k => !S2 k := List.filter_congr fun k hk => by
           have : (k == x) = false := by simp; exact fun e => hx (e ▸ hk)
           show (!S k) = !(S k || k == x)
           rw [this, Bool.or_false]
          rw [List.filter_cons, List.filter_cons, h1, h2, same]
          simp
         ·have hm' : j ∈ L := by
           rcases List.mem_cons.1 hmem with h | h
           ·exact absurd h.symm e
           ·exact h
          have : (x == j) = false := by simpa using e
          have h2 : (!S2 x) = !S x := by show (!(S x || x == j)) = !S x; rw [this, Bool.or_false]
          rw [List.filter_cons, List.filter_cons, h2]
          split
          ·simp [ihL hnd' hm']
          ·exact ihL hnd' hm'
       exact gen _ List.nodup_range (List.mem_range.2 hjl)
      omega
    unfold wpOpIn
    simp only [hopj]
    rcases hfact with ⟨hgo, hwant⟩ | ⟨hv, hw0, hwant⟩
    ·have hw : Region.wanted l[j] (yielded l.toArray a.tmps) = true := by
      cases hg : l[j].guard with
      | none => simp [Region.wanted, hg]
      | some p =>
       obtain ⟨g, want⟩ := p
       rw [hg] at hwant
       simp only at hwant
       rw [← hgd g want hg] at hwant
       rw [gd_sound (ops := l.toArray) hg hsim (by rw [hops]; exact hwant)]
       simp
     rw [if_pos hw]
     refine oper_in (hnd _ (List.getElem_mem hjl)) ?_
     have := hgo ⟨runT nt S l vs 0 t, runH S es 0 hp, n, nt⟩ hev hheap rfl X (fun k => S k = true) (fun k => S2 k = true) (by rw [hSj]; simp) (fun k hk => by show (S k || k == j) = true; rw [hk]; rfl) (by show (S j || j == j) = true; simp)
     exact this a w φ D hsim _ _ next
    ·cases hg : l[j].guard with
     | none => rw [hg] at hwant; exact hwant.elim
     | some p =>
      obtain ⟨g, want⟩ := p
      rw [hg] at hwant
      obtain ⟨x, hwant, hne⟩ := hwant
      rw [← hgd g want hg] at hwant
      have hw := gd_sound (ops := l.toArray) hg hsim (by rw [hops]; exact hwant)
      rw [if_neg (by rw [hw]; simp [hne])]
      refine ⟨fun _ _ => trivial, next _ _ φ D ?_⟩
      rw [St.app_nil hw0, hv]
      exact (hsim.val (.oth undef)).more fun k hk => by show (S k || k == j) = true; rw [hk]; rfl
 refine wpIn_region_any hm ?_
 have hdrew : Sim X S0 ⟨t, hp, n, nt⟩ a { w with drawn := w.drawn + 1 } φ D := by
  have hc : Chg w { w with drawn := w.drawn + 1 } none := ⟨rfl, rfl, rfl, Nat.le_refl _, fun _ _ => rfl, fun _ _ _ => rfl⟩
  exact { nt := hs.nt, df := hs.df.keep rfl (fun _ h _ => h) (hc.ext fun _ h => by cases h), tm := fun i => RV.keep (PlLe.refl _) (fun _ h _ => h) (hc.ext fun _ h => by cases h) (hs.tm i), hs := hs.hs.grow hc }
 have hnone : ∀ (l : List Oper) (vs : List Dat) (q : Nat) (t : Nat → Dat), runT nt (fun _ => false) l vs q t = t := by
  intro l
  induction l with
  | nil => intro vs q t; cases vs <;> rfl
  | cons p l ih =>
   intro vs q t
   cases vs with
   | nil => rfl
   | cons u vs => rw [runT]; exact ih vs _ _
 refine main l.toArray.size (Array.replicate l.toArray.size false) (fun _ => false) a _ φ D (by simp) (fun k => ?_) (fun k y h => by cases h) (by simp only [Bool.not_false]; rw [List.filter_eq_self.2 (fun _ _ => rfl)]; simp) ?_
 ·rw [Array.getD_eq_getD_getElem?, Array.getElem?_replicate]
  split <;> rfl
 ·rw [hnone]
  have hnoneH : ∀ (l : List Ef) (q : Nat) (h : Nat → Option Blk), runH (fun _ => false) l q h = h := by
   intro l
   induction l with
   | nil => intro q h; rfl
   | cons p l ih => intro q h; rw [runH]; exact ih _ _
  rw [hnoneH]
  exact hdrew.more fun j hj => hj.elim
theorem a_drW {n0 : Nat} {P : Program} {Q : Exit → St → Prop} {σ s : St} {id : Nat} {ops : Array Oper} (hm : P.follows .mixedOrders = true) (l : List Oper) (hl : ops.toList = l) (hst : stat l.toArray = true) (hsel : l.all (fun o => match o.op with | .select .. | .defer _ => false | _ => true) = true)
  (fp : List (List Nat × List Nat)) (h : DW P l l 0 σ [] (fun s' q => s' = s ∧ q = fp)) (hfp : okW (befs l []) fp = true) (k : Q .normal s) : aw fe n0 P (.region id ops true) Q σ := by
 refine aw_of (awp_draw l hl ?_)
 intro X id' Q' hQ'
 exact drawW_of hm hst hsel (Q := fun s' => s' = s) hfp h X id' Q' fun σ' e => by rw [e]; exact hQ' s k
section
variable {P : Program} {σ : St} {i : Nat} {o : Oper} {F : FuncId} {first cap argsD ds : List Dat} {r : Dat} {K : Ef → Prop}
theorem callW_go {fz : Bool} (rd fr : List Nat) (pc : PC P F ds r) (hp : ∀ h2 : Nat → Option Blk, (∀ k ∈ rd, h2 k = σ.h k) → PurRs (wrs h2 (frz h2 fr)) fz (first ++ argsD ++ cap) ds) (hfr : fz = true ∨ Scal r) (hsub : ∀ k ∈ fr, k ∈ rd) (hK : K { val := r, rd := rd, wr := frz σ.h fr }) :
  CallW P σ i o (.fn (.func F) first cap) argsD K := by
 intro f args ats ho hf hargs
 refine ⟨_, fun σ2 h1 h2 h3 => ?_, hK⟩
 have e1 : σ2.ev f = .fn (.func F) first cap := by rw [h1 f (by rw [ho]; simp [Op.operands, Call.operands]), hf]
 have e2 : args.toList.map σ2.ev = argsD := by
  rw [← hargs]
  exact List.map_congr_left fun x hx => h1 x (by rw [ho]; simp [Op.operands, Call.operands]; exact .inr (by simpa using hx))
 have e3 : frz σ2.h fr = frz σ.h fr := by
  have : ∀ l : List Nat, (∀ k ∈ l, k ∈ rd) → frz σ2.h l = frz σ.h l := by
   intro l
   induction l with
   | nil => intro _; rfl
   | cons a l ih => intro hl; simp only [frz, List.map_cons] at ih ⊢; rw [h2 a (hl a (List.mem_cons_self ..))]; simp only [List.cons.injEq, true_and]; exact ih (fun k hk => hl k (List.mem_cons_of_mem _ hk))
  exact this fr hsub
 have h := callR_go (P := P) (σ := σ2) (i := i) (o := o) (F := F) (K := fun s => s = σ2.app o.dst { val := r, rd := rd, wr := frz σ.h fr }) (fr := fr) (fz := fz) pc (hp σ2.h h2) hfr (by rw [e3]; rfl)
 obtain ⟨e', he', hk⟩ := h f args ats ho e1 e2
 intro X S S' q1 q2 q3
 have := he' X S S' q1 q2 q3
 rw [hk] at this
 exact this
theorem cW_s (rd : List Nat) (pc : PC P F ds r) (hp : ∀ h2 : Nat → Option Blk, (∀ k ∈ rd, h2 k = σ.h k) → PurRs h2 false (first ++ argsD ++ cap) ds) (hsc : Scal r) (hK : K { val := r, rd := rd }) : CallW P σ i o (.fn (.func F) first cap) argsD K :=
 callW_go (fz := false) rd [] pc (fun h2 e => hp h2 e) (.inr hsc) (fun k hk => by cases hk) hK
theorem cW_p (rd : List Nat) (pc : PC P F ds r) (hp : ∀ h2 : Nat → Option Blk, (∀ k ∈ rd, h2 k = σ.h k) → PurRs h2 true (first ++ argsD ++ cap) ds) (hK : K { val := r, rd := rd }) : CallW P σ i o (.fn (.func F) first cap) argsD K :=
 callW_go (fz := true) rd [] pc (fun h2 e => hp h2 e) (.inl rfl) (fun k hk => by cases hk) hK
theorem cW_f (fr : List Nat) (rd : List Nat) (hsub : ∀ k ∈ fr, k ∈ rd) (pc : PC P F ds r) (hp : ∀ h2 : Nat → Option Blk, (∀ k ∈ rd, h2 k = σ.h k) → PurRs (wrs h2 (frz h2 fr)) true (first ++ argsD ++ cap) ds) (hK : K { val := r, rd := rd, wr := frz σ.h fr }) : CallW P σ i o (.fn (.func F) first cap) argsD K :=
 callW_go (fz := true) rd fr pc hp (.inl rfl) hsub hK
end
def GRW (b : Bool) (P : Program) (ops l : List Oper) (i : Nat) (σ : St) (o : Oper) (acc : List (List Nat × List Nat)) (Q : St → List (List Nat × List Nat) → Prop) : Prop :=
 if b = true then stepW P σ i o (fun e => DW P ops l (i + 1) (σ.app o.dst e) (acc ++ [fpO e]) Q) else DW P ops l (i + 1) (σ.app o.dst { val := .oth undef }) (acc ++ [([], [])]) Q
section
variable {P : Program} {ops l : List Oper} {i : Nat} {σ : St} {o : Oper} {Q : St → List (List Nat × List Nat) → Prop} {b : Bool} {acc : List (List Nat × List Nat)} {dst : Option Tmp} {op : Op} {ty : TypeId} {pos : String} {af : Array Edge} {j : Nat} {want : Bool} {t : Nat → Dat} {h : Nat → Option Blk} {n nt : Nat}
theorem GRW_t : GRW true P ops l i σ o acc Q = stepW P σ i o (fun e => DW P ops l (i + 1) (σ.app o.dst e) (acc ++ [fpO e]) Q) := by simp [GRW]
theorem GRW_f : GRW false P ops l i σ o acc Q = DW P ops l (i + 1) (σ.app o.dst { val := .oth undef }) (acc ++ [([], [])]) Q := by simp [GRW]
theorem DW_nil : DW P ops [] i ⟨t, h, n, nt⟩ acc Q = Q ⟨t, h, n + 8 * ops.length, nt⟩ acc := rfl
theorem DW_u : DW P ops (⟨dst, op, ty, pos, af, none⟩ :: l) i ⟨t, h, n, nt⟩ acc Q = stepW P ⟨t, h, n, nt⟩ i ⟨dst, op, ty, pos, af, none⟩ fun e => DW P ops l (i + 1) ((⟨t, h, n, nt⟩ : St).app dst e) (acc ++ [fpO e]) Q := Eq.trans rfl rfl
theorem DW_g : DW P ops (⟨dst, op, ty, pos, af, some (j, want)⟩ :: l) i ⟨t, h, n, nt⟩ acc Q = match gdA ops t j with
   | some (some b) => GRW (b == want) P ops l i ⟨t, h, n, nt⟩ ⟨dst, op, ty, pos, af, some (j, want)⟩ acc Q
   | some none => DW P ops l (i + 1) ((⟨t, h, n, nt⟩ : St).app dst { val := .oth undef }) (acc ++ [([], [])]) Q
   | none => False := by
 rw [← gd_A ops ⟨t, h, n, nt⟩ j]
 show (match gd ops ⟨t, h, n, nt⟩ j with | some (some b) => (if b = want then _ else _) | some none => _ | none => _) = _
 cases gd ops ⟨t, h, n, nt⟩ j with
 | none => rfl
 | some x => cases x with
  | none => rfl
  | some b => cases b <;> cases want <;> simp [GRW]
theorem fpO_eq (v : Dat) (rd : List Nat) (wr : List (Nat × Option Blk)) (sd : Prop) : fpO ⟨v, rd, wr, sd⟩ = (rd, wr.map (·.1)) := rfl
end
end Go.Ab
/- The rules of the walks, all in one. No program here. -/
namespace Go.Ab
theorem EVT : ((((((((type_of% @List.toList_toArray.{0}) ∧ (type_of% @AR_u)) ∧ ((type_of% @AR_g) ∧ (type_of% @List.append_eq.{0}))) ∧ (((type_of% @List.cons_append.{0}) ∧ (type_of% @gdA_eq)) ∧ ((type_of% @gdT_b) ∧ (type_of% @gdT_u)))) ∧ ((((type_of% @GRD_t) ∧ (type_of% @GRD_f)) ∧ ((type_of% @GRQ_t) ∧ (type_of% @GRQ_f))) ∧ (((type_of% @beq_true) ∧ (type_of% @beq_false)) ∧ ((type_of% @AR_nil) ∧ ((type_of% @DQ_u) ∧ (type_of% @DQ_g)))))) ∧ (((((type_of% @DQ_nil) ∧ (type_of% @St.put_nt)) ∧ ((type_of% @cells_bool) ∧ (type_of% @cells_int))) ∧ (((type_of% @cells_str) ∧ (type_of% @cells_agg)) ∧ ((type_of% @cells_nil) ∧ ((type_of% @cells_list) ∧ (type_of% @cells_ref))))) ∧ ((((type_of% @cells_ptr) ∧ (type_of% @cells_fn)) ∧ ((type_of% @cells_oth) ∧ (type_of% @one_bool))) ∧ (((type_of% @one_int) ∧ (type_of% @one_str)) ∧ ((type_of% @one_nil) ∧ ((type_of% @one_list) ∧ (type_of% @one_ref))))))) ∧ ((((((type_of% @one_ptr) ∧ (type_of% @one_fn)) ∧ ((type_of% @one_oth) ∧ (type_of% @fzh_apply))) ∧ (((type_of% @upd_apply) ∧ (type_of% @List.map_cons.{0,0})) ∧ ((type_of% @List.map_nil.{0,0}) ∧ ((type_of% @List.foldl_cons.{0,0}) ∧ (type_of% @List.foldl_nil.{0,0}))))) ∧ ((((type_of% @List.zipIdx_cons.{0}) ∧ (type_of% @List.zipIdx_nil.{0})) ∧ ((type_of% @List.set_cons_zero.{0}) ∧ (type_of% @List.set_cons_succ.{0}))) ∧ (((type_of% @List.getD_cons_zero.{0}) ∧ (type_of% @List.getD_cons_succ.{0})) ∧ ((type_of% @List.getElem?_cons_zero.{0}) ∧ ((type_of% @List.getElem?_cons_succ.{0}) ∧ (type_of% @List.getElem?_nil.{0})))))) ∧ (((((type_of% @List.length_cons.{0}) ∧ (type_of% @List.length_nil.{0})) ∧ ((type_of% @List.length_map.{0,0}) ∧ (type_of% @List.length_append.{0}))) ∧ (((type_of% @List.length_set.{0}) ∧ (type_of% @List.all_cons.{0})) ∧ ((type_of% @List.all_nil.{0}) ∧ ((type_of% @List.drop_zero.{0}) ∧ (type_of% @List.drop_succ_cons.{0}))))) ∧ ((((type_of% @List.take_succ_cons.{0}) ∧ (type_of% @List.take_zero.{0})) ∧ ((type_of% @List.nil_append.{0}) ∧ (type_of% @List.append_nil.{0}))) ∧ (((type_of% @List.range_zero) ∧ (type_of% @List.range_succ)) ∧ ((type_of% @Option.map_some.{0,0}) ∧ ((type_of% @Option.map_none.{0,0}) ∧ (type_of% @ne_eq.{1})))))))) ∧ (((((((type_of% @not_false_eq_true) ∧ (type_of% @not_true_eq_false)) ∧ ((type_of% @ite_true.{1}) ∧ (type_of% @ite_false.{1}))) ∧ (((type_of% @and_true) ∧ (type_of% @true_and)) ∧ ((type_of% @and_self) ∧ ((type_of% @Nat.add_zero) ∧ (type_of% @Nat.zero_add))))) ∧ ((((type_of% @Nat.zero_le) ∧ (type_of% @Nat.le_refl)) ∧ ((type_of% @Nat.add_eq_zero_iff) ∧ (type_of% @Nat.succ_ne_self))) ∧ (((type_of% @Nat.one_ne_zero) ∧ (type_of% @Nat.zero_ne_one)) ∧ ((type_of% @Int.toNat_natCast) ∧ ((type_of% @Int.toNat_zero) ∧ (type_of% @Int.toNat_one)))))) ∧ (((((type_of% @Int.natCast_nonneg) ∧ (type_of% @beq_self_eq_true.{0})) ∧ ((type_of% @BEq.rfl.{0}) ∧ (type_of% @Bool.and_true))) ∧ (((type_of% @Bool.and_self) ∧ (type_of% @Bool.true_and)) ∧ ((type_of% @Bool.and_false) ∧ ((type_of% @Bool.false_and) ∧ (type_of% @Bool.not_true))))) ∧ ((((type_of% @Bool.not_false) ∧ (type_of% @Bool.true_beq)) ∧ ((type_of% @Bool.false_beq) ∧ (type_of% @eq_self_iff_true.{1}))) ∧ (((type_of% @Option.some.injEq.{0}) ∧ (type_of% @forall_eq.{1})) ∧ ((type_of% @if_true.{1}) ∧ ((type_of% @if_false.{1}) ∧ (type_of% @false_and))))))) ∧ ((((((type_of% @and_false) ∧ (type_of% @true_implies)) ∧ ((type_of% @false_implies) ∧ (type_of% @implies_true.{0}))) ∧ (((type_of% @imp_self) ∧ (type_of% @upd_upd)) ∧ ((type_of% @false_or) ∧ ((type_of% @or_false) ∧ (type_of% @or_self))))) ∧ ((((type_of% @or_true) ∧ (type_of% @true_or)) ∧ ((type_of% @Nat.not_lt_zero) ∧ (type_of% @List.forall_mem_cons.{0}))) ∧ (((type_of% @List.not_mem_nil.{0}) ∧ (type_of% @Option.isSome_some.{0})) ∧ ((type_of% @List.replicate_zero.{0}) ∧ ((type_of% @List.replicate_succ.{0}) ∧ (type_of% @tl_cons)))))) ∧ (((((type_of% @tl_nil) ∧ (type_of% @hl_apply)) ∧ ((type_of% @ci_eq) ∧ (type_of% @cb_eq))) ∧ (((type_of% @cs_eq) ∧ (type_of% @cl_eq)) ∧ ((type_of% @Bool.false_eq_true) ∧ ((type_of% @DW_u) ∧ (type_of% @DW_g))))) ∧ ((((type_of% @DW_nil) ∧ (type_of% @GRW_t)) ∧ ((type_of% @GRW_f) ∧ (type_of% @fpO_eq))) ∧ (((type_of% @bytesD_map) ∧ (type_of% @bytesD_app)) ∧ ((type_of% @bytesD_cons) ∧ ((type_of% @bytesD_nil) ∧ (type_of% @Nat.sub_zero))))))))) :=
 ⟨⟨⟨⟨⟨⟨⟨@List.toList_toArray.{0}, @AR_u⟩, ⟨@AR_g, @List.append_eq.{0}⟩⟩, ⟨⟨@List.cons_append.{0}, @gdA_eq⟩, ⟨@gdT_b, @gdT_u⟩⟩⟩, ⟨⟨⟨@GRD_t, @GRD_f⟩, ⟨@GRQ_t, @GRQ_f⟩⟩, ⟨⟨@beq_true, @beq_false⟩, ⟨@AR_nil, ⟨@DQ_u, @DQ_g⟩⟩⟩⟩⟩, ⟨⟨⟨⟨@DQ_nil, @St.put_nt⟩, ⟨@cells_bool, @cells_int⟩⟩, ⟨⟨@cells_str, @cells_agg⟩, ⟨@cells_nil, ⟨@cells_list, @cells_ref⟩⟩⟩⟩, ⟨⟨⟨@cells_ptr, @cells_fn⟩, ⟨@cells_oth, @one_bool⟩⟩, ⟨⟨@one_int, @one_str⟩, ⟨@one_nil, ⟨@one_list, @one_ref⟩⟩⟩⟩⟩⟩, ⟨⟨⟨⟨⟨@one_ptr, @one_fn⟩, ⟨@one_oth, @fzh_apply⟩⟩, ⟨⟨@upd_apply, @List.map_cons.{0,0}⟩, ⟨@List.map_nil.{0,0}, ⟨@List.foldl_cons.{0,0}, @List.foldl_nil.{0,0}⟩⟩⟩⟩, ⟨⟨⟨@List.zipIdx_cons.{0}, @List.zipIdx_nil.{0}⟩, ⟨@List.set_cons_zero.{0}, @List.set_cons_succ.{0}⟩⟩, ⟨⟨@List.getD_cons_zero.{0}, @List.getD_cons_succ.{0}⟩, ⟨@List.getElem?_cons_zero.{0}, ⟨@List.getElem?_cons_succ.{0}, @List.getElem?_nil.{0}⟩⟩⟩⟩⟩, ⟨⟨⟨⟨@List.length_cons.{0}, @List.length_nil.{0}⟩, ⟨@List.length_map.{0,0}, @List.length_append.{0}⟩⟩, ⟨⟨@List.length_set.{0}, @List.all_cons.{0}⟩, ⟨@List.all_nil.{0}, ⟨@List.drop_zero.{0}, @List.drop_succ_cons.{0}⟩⟩⟩⟩, ⟨⟨⟨@List.take_succ_cons.{0}, @List.take_zero.{0}⟩, ⟨@List.nil_append.{0}, @List.append_nil.{0}⟩⟩, ⟨⟨@List.range_zero, @List.range_succ⟩, ⟨@Option.map_some.{0,0}, ⟨@Option.map_none.{0,0}, @ne_eq.{1}⟩⟩⟩⟩⟩⟩⟩, ⟨⟨⟨⟨⟨⟨@not_false_eq_true, @not_true_eq_false⟩, ⟨@ite_true.{1}, @ite_false.{1}⟩⟩, ⟨⟨@and_true, @true_and⟩, ⟨@and_self, ⟨@Nat.add_zero, @Nat.zero_add⟩⟩⟩⟩, ⟨⟨⟨@Nat.zero_le, @Nat.le_refl⟩, ⟨@Nat.add_eq_zero_iff, @Nat.succ_ne_self⟩⟩, ⟨⟨@Nat.one_ne_zero, @Nat.zero_ne_one⟩, ⟨@Int.toNat_natCast, ⟨@Int.toNat_zero, @Int.toNat_one⟩⟩⟩⟩⟩, ⟨⟨⟨⟨@Int.natCast_nonneg, @beq_self_eq_true.{0}⟩, ⟨@BEq.rfl.{0}, @Bool.and_true⟩⟩, ⟨⟨@Bool.and_self, @Bool.true_and⟩, ⟨@Bool.and_false, ⟨@Bool.false_and, @Bool.not_true⟩⟩⟩⟩, ⟨⟨⟨@Bool.not_false, @Bool.true_beq⟩, ⟨@Bool.false_beq, @eq_self_iff_true.{1}⟩⟩, ⟨⟨@Option.some.injEq.{0}, @forall_eq.{1}⟩, ⟨@if_true.{1}, ⟨@if_false.{1}, @false_and⟩⟩⟩⟩⟩⟩, ⟨⟨⟨⟨⟨@and_false, @true_implies⟩, ⟨@false_implies, @implies_true.{0}⟩⟩, ⟨⟨@imp_self, @upd_upd⟩, ⟨@false_or, ⟨@or_false, @or_self⟩⟩⟩⟩, ⟨⟨⟨@or_true, @true_or⟩, ⟨@Nat.not_lt_zero, @List.forall_mem_cons.{0}⟩⟩, ⟨⟨@List.not_mem_nil.{0}, @Option.isSome_some.{0}⟩, ⟨@List.replicate_zero.{0}, ⟨@List.replicate_succ.{0}, @tl_cons⟩⟩⟩⟩⟩, ⟨⟨⟨⟨@tl_nil, @hl_apply⟩, ⟨@ci_eq, @cb_eq⟩⟩, ⟨⟨@cs_eq, @cl_eq⟩, ⟨@Bool.false_eq_true, ⟨@DW_u, @DW_g⟩⟩⟩⟩, ⟨⟨⟨@DW_nil, @GRW_t⟩, ⟨@GRW_f, @fpO_eq⟩⟩, ⟨⟨@bytesD_map, @bytesD_app⟩, ⟨@bytesD_cons, ⟨@bytesD_nil, @Nat.sub_zero⟩⟩⟩⟩⟩⟩⟩⟩
end Go.Ab
/- Plain lemmas for functional forms: indices, wrap-round, loops over lists. No program here. -/
namespace Go.Ab
variable [Lay]
theorem idx_nat {β : Type} [Inhabited β] {l : List β} {k : Nat} (h : k < l.length) : idx l (k : Int) = some (l[k]) := by
 unfold idx
 rw [if_pos ⟨by omega, by omega⟩]
 simp [List.getD_eq_getElem?_getD, h]
theorem w64_succ {k : Nat} (h : k < 9000000000000000000) : IntKind.wrap .i64 ((k : Int) + 1) = ((k + 1 : Nat) : Int) := by rw [wrap64 (by omega) (by omega)]; omega
theorem w64 {x : Int} (h1 : -9223372036854775808 ≤ x) (h2 : x ≤ 9223372036854775807) : IntKind.wrap .i64 x = x := wrap64 h1 h2
theorem cond_d {β : Type} {p : Prop} [Decidable p] {x y : β} : cond (decide p) x y = if p then x else y := by
 by_cases h : p <;> simp [h]
theorem drop_cons {β : Type} {l : List β} {k : Nat} (h : k < l.length) : l.drop k = l[k] :: l.drop (k + 1) := List.drop_eq_getElem_cons h
theorem take_snoc {β : Type} {l : List β} {k : Nat} (h : k < l.length) : l.take (k + 1) = l.take k ++ [l[k]] := List.take_succ_eq_append_getElem h
end Go.Ab
