import Derived.Test.YtjflkcfafijhfaaGreatQ10
import Derived.KernelRfl
set_option linter.unusedSectionVars false
/- DERIVED. Regions that draw their order, where no operation writes: any order leads to the same. No program here. -/
namespace Go.Ab
open Go.RowKit
variable [Lay]
variable {fe : Fen}
def CallQ (P : Program) (σ : St) (i : Nat) (o : Oper) (fD : Dat) (argsD : List Dat) (K : Dat → Prop) : Prop :=
 ∀ f args ats, o.op = .call { callee := .value f, args := args, argTypes := ats } → σ.ev f = fD → args.toList.map σ.ev = argsD →
  ∃ r, (∀ σ2 : St, (∀ x ∈ o.op.operands, σ2.ev x = σ.ev x) → σ2.h = σ.h → σ2.n = σ.n → CallEff P σ2 i o { val := r }) ∧ K r
def stepQ (P : Program) (σ : St) (i : Nat) (o : Oper) (K : Dat → Prop) : Prop :=
 match o.op with
 | .call { callee := .value f, args, .. } => CallQ P σ i o (σ.ev f) (args.toList.map σ.ev) K
 | op => match evOp P σ i op with
  | some e => e.wr = [] ∧ e.side ∧ K e.val
  | none => False
def DQ (P : Program) (ops : List Oper) : List Oper → Nat → St → (St → Prop) → Prop
 | [], _, σ, Q => Q { σ with n := σ.n + 8 * ops.length }
 | o :: l, i, σ, Q => match o.guard with
  | none => stepQ P σ i o fun v => DQ P ops l (i + 1) (σ.put o.dst v) Q
  | some (j, want) => match gd ops σ j with
   | some (some b) => if b = want then stepQ P σ i o fun v => DQ P ops l (i + 1) (σ.put o.dst v) Q else DQ P ops l (i + 1) (σ.put o.dst (.oth undef)) Q
   | some none => DQ P ops l (i + 1) (σ.put o.dst (.oth undef)) Q
   | none => False
theorem DQ_nil {P : Program} {ops : List Oper} {i : Nat} {t : Nat → Dat} {h : Nat → Option Blk} {n nt : Nat} {Q : St → Prop} : DQ P ops [] i ⟨t, h, n, nt⟩ Q = Q ⟨t, h, n + 8 * ops.length, nt⟩ := rfl
def ons (o : Oper) : List Nat := (o.after.toList.filter fun e => Region.binds .any e).map (·.on)
def befs : List Oper → List (List Nat) → List (List Nat)
 | [], acc => acc
 | o :: l, acc => befs l (acc ++ [((ons o).flatMap fun k => k :: acc.getD k []).eraseDups])
def meets (ops : Array Oper) (x y : Oper) : Bool :=
 (match x.dst with | some d => (y.looksAt ops).contains d || y.dst == some d | none => false) || (match y.dst with | some d => (x.looksAt ops).contains d | none => false)
def stat (ops : Array Oper) : Bool :=
 let l := ops.toList
 let b := befs l []
 (List.range l.length).all fun j => match l[j]? with
  | some y => (ons y).all (fun k => decide (k < j)) && (List.range j).all fun i => match l[i]? with
   | some x => !meets ops x y || (b.getD j []).contains i
   | none => true
  | none => true
theorem befs_old : ∀ (l : List Oper) (acc : List (List Nat)) (j : Nat), j < acc.length → (befs l acc).getD j [] = acc.getD j []
 | [], acc, j, _ => rfl
 | o :: l, acc, j, h => by
  rw [befs, befs_old l _ j (by simp; omega)]
  simp [List.getD_eq_getElem?_getD, List.getElem?_append_left h]
theorem befs_at : ∀ (l : List Oper) (acc : List (List Nat)) (j : Nat) (o : Oper), l[j]? = some o → (∀ o ∈ l.mapIdx (fun i o => (i, o)), ∀ k ∈ ons o.2, k < acc.length + o.1) →
  (befs l acc).getD (acc.length + j) [] = ((ons o).flatMap fun k => k :: (befs l acc).getD k []).eraseDups
 | [], acc, j, o, h, _ => by simp at h
 | o' :: l, acc, 0, o, h, hk => by
  simp at h; subst h
  have hko : ∀ k ∈ ons o', k < acc.length := fun k hk' => by
   have := hk (0, o') (by simp) k hk'
   simpa using this
  rw [befs, befs_old l _ _ (by simp)]
  simp only [Nat.add_zero, List.getD_eq_getElem?_getD, List.getElem?_append_right (Nat.le_refl _), Nat.sub_self, List.getElem?_cons_zero, Option.getD_some]
  congr 1
  have : ∀ L : List Nat, (∀ k ∈ L, k < acc.length) → (L.flatMap fun k => k :: acc[k]?.getD []) = L.flatMap fun k => k :: (befs l (acc ++ [((ons o').flatMap fun k => k :: acc[k]?.getD []).eraseDups]))[k]?.getD [] := by
   intro L
   induction L with
   | nil => intro _; rfl
   | cons a L ih =>
    intro hL
    rw [List.flatMap_cons, List.flatMap_cons, ih (fun k hk => hL k (by simp [hk]))]
    have h1 := befs_old l (acc ++ [((ons o').flatMap fun k => k :: acc[k]?.getD []).eraseDups]) a (by have := hL a (by simp); simp; omega)
    simp only [List.getD_eq_getElem?_getD] at h1
    rw [h1, List.getElem?_append_left (hL a (by simp))]
  exact this _ hko
 | o' :: l, acc, j + 1, o, h, hk => by
  have := befs_at l (acc ++ [((ons o').flatMap fun k => k :: acc.getD k []).eraseDups]) j o (by simpa using h) (fun p hp k hk' => by
   have := hk (p.1 + 1, p.2) (by
    rw [List.mapIdx_cons]
    refine List.mem_cons_of_mem _ ?_
    obtain ⟨i, hi, rfl⟩ := List.mem_iff_getElem.1 hp
    simp at hi
    refine List.mem_iff_getElem.2 ⟨i, by simpa using hi, by simp⟩) k hk'
   simp at this ⊢
   omega)
  rw [befs]
  rw [List.length_append, List.length_singleton] at this
  rw [show acc.length + (j + 1) = acc.length + 1 + j by omega]
  exact this
section
variable {ops : Array Oper}
theorem stat_on (h : stat ops = true) {j : Nat} {y : Oper} (hy : ops[j]? = some y) : ∀ k ∈ ons y, k < j := by
 intro k hk
 have hj : j < ops.toList.length := by have := (Array.getElem?_eq_some_iff.1 hy).1; simpa using this
 have h1 := List.all_eq_true.1 h j (List.mem_range.2 hj)
 have hy' : ops.toList[j]? = some y := by simpa using hy
 rw [hy'] at h1
 simp only [Bool.and_eq_true] at h1
 have := List.all_eq_true.1 h1.1 k hk
 simpa using this
theorem stat_meets (h : stat ops = true) {i j : Nat} {x y : Oper} (hij : i < j) (hx : ops[i]? = some x) (hy : ops[j]? = some y) (hm : meets ops x y = true) : i ∈ (befs ops.toList []).getD j [] := by
 have hj : j < ops.toList.length := by have := (Array.getElem?_eq_some_iff.1 hy).1; simpa using this
 have h1 := List.all_eq_true.1 h j (List.mem_range.2 hj)
 have hy' : ops.toList[j]? = some y := by simpa using hy
 have hx' : ops.toList[i]? = some x := by simpa using hx
 rw [hy'] at h1
 simp only [Bool.and_eq_true] at h1
 have := List.all_eq_true.1 h1.2 i (List.mem_range.2 hij)
 rw [hx'] at this
 simp only [hm, Bool.not_true, Bool.false_or] at this
 simpa using this
theorem bef_in (h : stat ops = true) {S : Nat → Prop} (hS : ∀ k y, S k → ops[k]? = some y → ∀ m ∈ ons y, S m) : ∀ (j : Nat) (y : Oper), ops[j]? = some y → (∀ m ∈ ons y, S m) → ∀ i ∈ (befs ops.toList []).getD j [], S i := by
 intro j
 induction j using Nat.strongRecOn with
 | _ j ih =>
  intro y hy hm i hi
  have hat := befs_at ops.toList [] j y (by simpa using hy) (fun p hp k hk => by
   obtain ⟨q, hq, rfl⟩ := List.mem_iff_getElem.1 hp
   simp at hq hk ⊢
   exact stat_on h (j := q) (by simp [hq]) k hk)
  simp only [List.length_nil, Nat.zero_add] at hat
  rw [hat] at hi
  have hi' : i ∈ (ons y).flatMap fun k => k :: (befs ops.toList []).getD k [] := List.mem_eraseDups.1 hi
  obtain ⟨k, hk, hik⟩ := List.mem_flatMap.1 hi'
  have hkj := stat_on h hy k hk
  have hSk := hm k hk
  rcases List.mem_cons.1 hik with e | e
  ·rw [e]; exact hSk
  ·have hkl : k < ops.size := Nat.lt_trans hkj (Array.getElem?_eq_some_iff.1 hy).1
   exact ih k hkj ops[k] (by simp [hkl]) (hS k _ hSk (by simp [hkl])) i e
end
def runT (nt : Nat) (S : Nat → Bool) : List Oper → List Dat → Nat → (Nat → Dat) → Nat → Dat
 | o :: l, v :: vs, i, t => runT nt S l vs (i + 1) (if S i then ((⟨t, fun _ => none, 0, nt⟩ : St).put o.dst v).t else t)
 | _, _, _, t => t
def putT (nt : Nat) (t : Nat → Dat) (dst : Option Tmp) (v : Dat) : Nat → Dat := ((⟨t, fun _ => none, 0, nt⟩ : St).put dst v).t
theorem putT_at (nt : Nat) (t : Nat → Dat) (dst : Option Tmp) (v : Dat) (x : Nat) : putT nt t dst v x = if dst = some x ∧ x < nt then v else t x := St.put_t _ _ _ _
theorem put_eq (σ : St) (dst : Option Tmp) (v : Dat) : σ.put dst v = ⟨putT σ.nt σ.t dst v, σ.h, σ.n, σ.nt⟩ := by
 unfold putT St.put
 cases dst with
 | none => rfl
 | some d => simp only []; split <;> rfl
theorem runT_ext (nt : Nat) {S S2 : Nat → Bool} {x : Nat} : ∀ (l : List Oper) (vs : List Dat) (i : Nat) (t t2 : Nat → Dat), t x = t2 x → (∀ k o, l[k]? = some o → S (i + k) ≠ S2 (i + k) → o.dst ≠ some x) → runT nt S l vs i t x = runT nt S2 l vs i t2 x
 | [], vs, i, t, t2, h, _ => by cases vs <;> exact h
 | o :: l, [], i, t, t2, h, _ => h
 | o :: l, v :: vs, i, t, t2, h, hd => by
  rw [runT, runT]
  refine runT_ext nt l vs (i + 1) _ _ ?_ (fun k o' ho' hne => hd (k + 1) o' (by simpa using ho') (by rw [show i + (k + 1) = i + 1 + k by omega]; exact hne))
  have h0 := hd 0 o rfl
  simp only [Nat.add_zero] at h0
  by_cases e : S i = S2 i
  ·rw [e]
   split
   ·show putT nt t o.dst v x = putT nt t2 o.dst v x
    rw [putT_at, putT_at, h]
   ·exact h
  ·have hne := h0 e
   have p1 : putT nt t o.dst v x = t x := by rw [putT_at, if_neg (fun hh => hne hh.1)]
   have p2 : putT nt t2 o.dst v x = t2 x := by rw [putT_at, if_neg (fun hh => hne hh.1)]
   show (if S i then putT nt t o.dst v else t) x = (if S2 i then putT nt t2 o.dst v else t2) x
   split <;> split <;> simp only [p1, p2, h]
theorem runT_add (nt : Nat) {S S2 : Nat → Bool} {j : Nat} {oj : Oper} {vj : Dat} (hS2 : ∀ k, S2 k = (S k || k == j)) (hj : S j = false) : ∀ (l : List Oper) (vs : List Dat) (i : Nat) (t : Nat → Dat), i ≤ j → l[j - i]? = some oj → vs[j - i]? = some vj → vs.length = l.length →
  (∀ k o, l[k]? = some o → j < i + k → S (i + k) = true → ∀ d, oj.dst = some d → o.dst ≠ some d) → runT nt S2 l vs i t = putT nt (runT nt S l vs i t) oj.dst vj
 | [], vs, i, t, _, h, _, _, _ => by simp at h
 | o :: l, [], i, t, _, _, h, _, _ => by simp at h
 | o :: l, v :: vs, i, t, hij, ho, hv, hlen, hd => by
  rw [runT, runT]
  rcases Nat.lt_or_ge i j with hlt | hge
  ·have hne : (i == j) = false := by simp; omega
   rw [hS2 i, hne, Bool.or_false]
   refine runT_add nt hS2 hj l vs (i + 1) _ (by omega) ?_ ?_ (by simpa using hlen) (fun k o' ho' hlt' hs => hd (k + 1) o' (by simpa using ho') (by omega) (by rw [show i + (k + 1) = i + 1 + k by omega]; exact hs))
   ·rw [show j - i = (j - (i + 1)) + 1 by omega] at ho; simpa using ho
   ·rw [show j - i = (j - (i + 1)) + 1 by omega] at hv; simpa using hv
  ·have e : i = j := by omega
   subst e
   rw [Nat.sub_self] at ho hv
   simp at ho hv
   subst ho; subst hv
   rw [hS2 i, hj]
   simp only [beq_self_eq_true, Bool.or_true, if_true]
   -- the rest is the same in both, and does not write there
   have key : ∀ (l : List Oper) (vs : List Dat) (q : Nat) (t : Nat → Dat), i < q → (∀ k o', l[k]? = some o' → S (q + k) = true → ∀ d, o.dst = some d → o'.dst ≠ some d) →
     runT nt S2 l vs q (putT nt t o.dst v) = putT nt (runT nt S l vs q t) o.dst v := by
    intro l
    induction l with
    | nil => intro vs q t _ _; cases vs <;> rfl
    | cons p l ih =>
     intro vs q t hq hd'
     cases vs with
     | nil => rfl
     | cons u vs =>
      rw [runT, runT, hS2 q]
      have hqi : (q == i) = false := by simp; omega
      rw [hqi, Bool.or_false]
      have h0 := hd' 0 p rfl
      simp only [Nat.add_zero] at h0
      have e : (if S q then ((⟨putT nt t o.dst v, fun _ => none, 0, nt⟩ : St).put p.dst u).t else putT nt t o.dst v) = putT nt (if S q then ((⟨t, fun _ => none, 0, nt⟩ : St).put p.dst u).t else t) o.dst v := by
       cases hs : S q with
       | false => rfl
       | true =>
        simp only [if_true]
        funext x
        show putT nt (putT nt t o.dst v) p.dst u x = putT nt (putT nt t p.dst u) o.dst v x
        simp only [putT_at]
        by_cases e1 : p.dst = some x ∧ x < nt
        ·rw [if_pos e1, if_neg (fun e2 => h0 hs x e2.1 e1.1), if_pos e1]
        ·by_cases e2 : o.dst = some x ∧ x < nt
         ·rw [if_neg e1, if_pos e2, if_pos e2]
         ·rw [if_neg e1, if_neg e2, if_neg e2, if_neg e1]
      rw [e]
      exact ih vs (q + 1) _ (by omega) (fun k o' ho' hs => hd' (k + 1) o' (by simpa using ho') (by rw [show q + (k + 1) = q + 1 + k by omega]; exact hs))
   exact key l vs (i + 1) t (by omega) (fun k o' ho' hs => hd (k + 1) o' (by simpa using ho') (by omega) (by rw [show i + (k + 1) = i + 1 + k by omega]; exact hs))
theorem evOp_congr {P : Program} {σ σ2 : St} {i : Nat} {op : Op} (hn : σ2.n = σ.n) (hh : σ2.h = σ.h) (he : ∀ x ∈ op.operands, σ2.ev x = σ.ev x) (hs : ∀ cs b, op ≠ .select cs b) : evOp P σ2 i op = evOp P σ i op := by
 have hmap : ∀ l : List Operand, (∀ x ∈ l, σ2.ev x = σ.ev x) → l.map σ2.ev = l.map σ.ev := fun l hl => List.map_congr_left hl
 have hel : ∀ sz d, elems σ2 sz d = elems σ sz d := fun sz d => by unfold elems; rw [hh]
 cases op <;> simp only [Op.operands] at he <;> simp only [evOp]
 case move x => rw [he x (by simp)]
 case assign x => rw [he x (by simp)]
 case pick c a b => rw [he c (by simp), he a (by simp), he b (by simp)]
 case alloc e => rw [hn]
 case box e v => rw [he v (by simp), hn]
 case build t parts =>
  have : parts.toList.map (fun p => (p.1, σ2.ev p.2)) = parts.toList.map (fun p => (p.1, σ.ev p.2)) := List.map_congr_left fun p hp => by rw [he p.2 (by simp; exact ⟨p.1, by simpa using hp⟩)]
  rw [this]
 case buildSlice t len parts =>
  have h1 : ∀ p ∈ parts.toList, σ2.ev p.2 = σ.ev p.2 := fun p hp => he p.2 (by simp; exact ⟨p.1, by simpa using hp⟩)
  have : parts.toList.map (fun p => (σ2.ev p.2).cells) = parts.toList.map (fun p => (σ.ev p.2).cells) := List.map_congr_left fun p hp => by rw [h1 p hp]
  have h2 : (∀ p ∈ parts.toList, (σ2.ev p.2).cells.length = 0 ∨ True) := fun _ _ => .inr trivial
  rw [this, hn]
  have h3 : ∀ y : Nat, (∀ p ∈ parts.toList, (σ2.ev p.2).cells.length = y ∧ allOne (σ2.ev p.2).cells = true) = (∀ p ∈ parts.toList, (σ.ev p.2).cells.length = y ∧ allOne (σ.ev p.2).cells = true) := fun y => by
   apply propext
   constructor
   ·intro h p hp; have := h p hp; rwa [h1 p hp] at this
   ·intro h p hp; have := h p hp; rwa [← h1 p hp] at this
  simp only [h3]
 case load t a => rw [he a (by simp)]; simp only [evLoad, hh]
 case store t a v => rw [he a (by simp), he v (by simp)]; simp only [evStore, hh]
 case nilCheck x => rw [he x (by simp)]
 case binOp op t x y t' => rw [he x (by simp), he y (by simp)]
 case unOp op t x => rw [he x (by simp)]
 case convert s d x => rw [he x (by simp)]; simp only [evToStr, hel]
 case makeFunc f a b => rw [hmap a.toList (fun x hx => he x (by simp at hx ⊢; exact .inl hx)), hmap b.toList (fun x hx => he x (by simp at hx ⊢; exact .inr hx))]
 case makeSlice t l c => rw [he l (by simp), he c (by simp), hn]
 case slice t x lo hi mx =>
  cases mx with
  | none =>
   have h1 : lo.map σ2.ev = lo.map σ.ev := by cases lo with | none => rfl | some y => simp [he y (by simp)]
   have h2 : hi.map σ2.ev = hi.map σ.ev := by cases hi with | none => rfl | some y => simp [he y (by simp)]
   simp only [he x (by simp), h1, h2, hh]
  | some m => rfl
 case fieldAddr t x f => rw [he x (by simp)]
 case field t x f => rw [he x (by simp)]
 case indexAddr t x ix => rw [he x (by simp), he ix (by simp)]; simp only [evIndexAddr]
 case index t x ix => rw [he x (by simp), he ix (by simp)]
 case extract x k => rw [he x (by simp)]
 case call c =>
  obtain ⟨callee, args, ats⟩ := c
  cases callee with
  | builtin b =>
   simp only []
   rw [hmap args.toList (fun x hx => he x (by simp [Call.operands] at hx ⊢; exact hx))]
   unfold evBuiltin
   simp only [evAppend, evClear, hel, hh, hn]
  | value f => rfl
  | invoke r m => rfl
section
variable {P : Program} {σ : St} {i : Nat} {o : Oper} {F : FuncId} {first cap argsD ds : List Dat} {r : Dat} {K : Dat → Prop}
end
end Go.Ab
/- DERIVED. Calls that are handed addresses of the caller's own, and only read there. No program here. -/
namespace Go.Ab
open Go.RowKit
variable [Lay]
def Rd (φ : Pl) (D : Nat → Prop) (w : World) (i : Nat) (B : Blk) : Prop := (φ i = some none ∧ B.es = []) ∨ ∃ g, φ i = some (some g) ∧ Lies φ D w g B
def fzh (h : Nat → Option Blk) : Nat → Option Blk := fun i => (h i).map fun B => { B with fz := true }
theorem fzh_apply (h : Nat → Option Blk) (i : Nat) : fzh h i = (h i).map fun B => { B with fz := true } := rfl
structure QC (P : Program) (F : FuncId) (ds : List Dat) (h : Nat → Option Blk) (r : Dat) : Prop where
 enter : ∃ fn c, P.funcs[F]? = some fn ∧ fn.body = some c ∧ (fn.name == "runtime.NumGoroutine") = false
 scal : Scal r
 run : ∀ (w : World) (φ : Pl) (D : Nat → Prop) (vs : List Value), (∀ b, D b → b < w.heap.size) → Lay.gp w D → (∀ i B, h i = some B → Rd φ D w i B) → (∃ N, ∀ i, N ≤ i → φ i = none) → RVs φ D w vs ds →
  Calls P F vs.toArray w fun e w' => ∃ v, e = .returned v ∧ RV NP D w' v r ∧ Below w.heap.size w w'
def hent (ds : List Dat) (h : Nat → Option Blk) (n nt : Nat) : St := { t := fun i => ds.getD i (.oth undef), h := h, n := n, nt := nt }
theorem Sim.hent {X : Cx} {fn : Func} {ds : List Dat} {vs : List Value} {w : World} {φ : Pl} {D : Nat → Prop} {n : Nat} {h : Nat → Option Blk} (hv : RVs φ D w vs ds) (hs : HS X S0 h n w φ D) :
  Sim X S0 (Ab.hent ds h n (ds.length + (fn.ntmps - ds.length))) { tmps := vs.toArray ++ Array.replicate (fn.ntmps - vs.toArray.size) undef, defers := [] } w φ D where
 nt := by simp [Ab.hent, hv.1]
 df := .nil rfl
 tm := fun i => by
  show RV φ D w _ (ds.getD i (.oth undef))
  rw [Array.getD_eq_getD_getElem?, List.getD_eq_getElem?_getD]
  by_cases hi : i < vs.length
  ·have hi' : i < ds.length := by rw [← hv.1]; exact hi
   rw [Array.getElem?_append_left (by simpa using hi), List.getElem?_toArray, List.getElem?_eq_getElem hi, List.getElem?_eq_getElem hi']
   exact hv.2 i _ _ (List.getElem?_eq_getElem hi) (List.getElem?_eq_getElem hi')
  ·rw [List.getElem?_eq_none (by rw [← hv.1]; omega)]
   have : ((vs.toArray ++ Array.replicate (fn.ntmps - vs.toArray.size) undef)[i]?).getD undef = undef := by
    rw [Array.getElem?_append_right (by simpa using hi), Array.getElem?_replicate]
    split <;> rfl
   rw [this]
   exact .oth undef
 hs := hs
section
variable {P : Program} {σ : St} {i : Nat} {o : Oper} {F : FuncId} {first cap argsD ds : List Dat} {h : Nat → Option Blk} {r : Dat}
theorem call_enter {f : Operand} {args : Array Operand} {ats : Array TypeId} (ho : o.op = .call { callee := .value f, args, argTypes := ats }) (pc : ∃ fn c, P.funcs[F]? = some fn ∧ fn.body = some c ∧ (fn.name == "runtime.NumGoroutine") = false) {a : Act} {w : World} {c1 c2 : List Value} (hf : a.eval f = .func (.func F) c1.toArray c2.toArray) :
  (execOp a.eval o).run P w = .ok (.enter F (c1 ++ args.toList.map a.eval ++ c2).toArray) w := by
 obtain ⟨fn, c, h1, h2, h3⟩ := pc
 have e : (c1.toArray ++ Array.map a.eval args ++ c2.toArray) = (c1 ++ args.toList.map a.eval ++ c2).toArray := by
  apply Array.ext'; simp
 unfold execOp
 simp only [ho, resolve, hf, Deferred.ofValue, invoke, Sem.run_bind, Sem.run_pure, Result.andThen_ok]
 rw [e]
 have h3' : ¬ fn.name = "runtime.NumGoroutine" := by simpa using h3
 simp [callFunc, program, Sem.run, h1, h2, h3']
end
end Go.Ab
namespace Go.Ab
variable [Lay]
end Go.Ab
namespace Go.Ab
variable [Lay]
end Go.Ab
namespace Go.Ab
variable [Lay]
section
variable {P : Program} {σ : St} {i : Nat} {o : Oper} {F : FuncId} {first cap argsD ds : List Dat} {h : Nat → Option Blk} {r : Dat}
theorem cR_s {K : St → Prop} (pc : PC P F ds r) (hp : PurRs σ.h false (first ++ argsD ++ cap) ds) (hsc : Scal r) (hK : K (σ.app o.dst { val := r })) : CallR P σ i o (.fn (.func F) first cap) argsD K := callR_scal pc hsc hp hK
theorem cR_p {K : St → Prop} (pc : PC P F ds r) (hp : PurRs σ.h true (first ++ argsD ++ cap) ds) (hK : K (σ.app o.dst { val := r })) : CallR P σ i o (.fn (.func F) first cap) argsD K := callR_pure pc hp hK
theorem cR_f {K : St → Prop} (fr : List Nat) (pc : PC P F ds r) (hp : PurRs (wrs σ.h (frz σ.h fr)) true (first ++ argsD ++ cap) ds) (hK : K (σ.app o.dst { val := r, wr := frz σ.h fr })) : CallR P σ i o (.fn (.func F) first cap) argsD K := callR_go pc hp (.inl rfl) hK
end
end Go.Ab
/- DERIVED. A guard that is not known: two ways, and simp goes into neither. No program here. -/
namespace Go.Ab
variable [Lay]
def GRD (b : Bool) (P : Program) (ops l : List Oper) (i : Nat) (σ : St) (o : Oper) (Q : St → Prop) : Prop :=
 if b = true then stepR P σ i o (fun σ' => AR P ops l (i + 1) σ' Q) else AR P ops l (i + 1) (σ.put o.dst (.oth undef)) Q
def GRQ (b : Bool) (P : Program) (ops l : List Oper) (i : Nat) (σ : St) (o : Oper) (Q : St → Prop) : Prop :=
 if b = true then stepQ P σ i o (fun v => DQ P ops l (i + 1) (σ.put o.dst v) Q) else DQ P ops l (i + 1) (σ.put o.dst (.oth undef)) Q
section
variable {P : Program} {ops l : List Oper} {i : Nat} {σ : St} {o : Oper} {Q : St → Prop} {b : Bool}
theorem GRD_t : GRD true P ops l i σ o Q = stepR P σ i o (fun σ' => AR P ops l (i + 1) σ' Q) := by simp [GRD]
theorem GRD_f : GRD false P ops l i σ o Q = AR P ops l (i + 1) (σ.put o.dst (.oth undef)) Q := by simp [GRD]
theorem GRQ_t : GRQ true P ops l i σ o Q = stepQ P σ i o (fun v => DQ P ops l (i + 1) (σ.put o.dst v) Q) := by simp [GRQ]
theorem GRQ_f : GRQ false P ops l i σ o Q = DQ P ops l (i + 1) (σ.put o.dst (.oth undef)) Q := by simp [GRQ]
end
def gdT (d : Dat) : Option (Option Bool) := match d with
 | .bool b => some (some b)
 | .oth (.tuple _) => some none
 | _ => none
theorem gdT_b (b : Bool) : gdT (.bool b) = some (some b) := rfl
theorem gdT_u : gdT (.oth undef) = some none := rfl
def gdA (ops : List Oper) (t : Nat → Dat) (j : Nat) : Option (Option Bool) :=
 match (List.toArray ops)[j]? with
 | some ⟨some d, _, _, _, _, _⟩ => gdT (t d)
 | _ => none
section
variable {P : Program} {ops l : List Oper} {dst : Option Tmp} {op : Op} {ty : TypeId} {pos : String} {af : Array Edge} {i j : Nat} {want : Bool} {t : Nat → Dat} {h : Nat → Option Blk} {n nt : Nat} {Q : St → Prop}
theorem gd_A (ops : List Oper) (σ : St) (j : Nat) : gd ops σ j = gdA ops σ.t j := by
 unfold gd gdA
 rw [List.getElem?_toArray]
 rfl
theorem gdA_eq (t : Nat → Dat) : gdA ops t j = match (List.toArray ops)[j]? with
 | some ⟨some d, _, _, _, _, _⟩ => gdT (t d)
 | _ => none := rfl
theorem AR_u : AR P ops (⟨dst, op, ty, pos, af, none⟩ :: l) i ⟨t, h, n, nt⟩ Q = stepR P ⟨t, h, n, nt⟩ i ⟨dst, op, ty, pos, af, none⟩ fun σ' => AR P ops l (i + 1) σ' Q := Eq.trans rfl rfl
theorem AR_g : AR P ops (⟨dst, op, ty, pos, af, some (j, want)⟩ :: l) i ⟨t, h, n, nt⟩ Q = match gdA ops t j with
   | some (some b) => GRD (b == want) P ops l i ⟨t, h, n, nt⟩ ⟨dst, op, ty, pos, af, some (j, want)⟩ Q
   | some none => AR P ops l (i + 1) ((⟨t, h, n, nt⟩ : St).put dst (.oth undef)) Q
   | none => False := by
 rw [← gd_A ops ⟨t, h, n, nt⟩ j]
 show (match gd ops ⟨t, h, n, nt⟩ j with | some (some b) => (if b = want then _ else _) | some none => _ | none => _) = _
 cases gd ops ⟨t, h, n, nt⟩ j with
 | none => rfl
 | some x => cases x with
  | none => rfl
  | some b => cases b <;> cases want <;> simp [GRD, GRQ]
theorem DQ_u : DQ P ops (⟨dst, op, ty, pos, af, none⟩ :: l) i ⟨t, h, n, nt⟩ Q = stepQ P ⟨t, h, n, nt⟩ i ⟨dst, op, ty, pos, af, none⟩ fun v => DQ P ops l (i + 1) ((⟨t, h, n, nt⟩ : St).put dst v) Q := Eq.trans rfl rfl
theorem DQ_g : DQ P ops (⟨dst, op, ty, pos, af, some (j, want)⟩ :: l) i ⟨t, h, n, nt⟩ Q = match gdA ops t j with
   | some (some b) => GRQ (b == want) P ops l i ⟨t, h, n, nt⟩ ⟨dst, op, ty, pos, af, some (j, want)⟩ Q
   | some none => DQ P ops l (i + 1) ((⟨t, h, n, nt⟩ : St).put dst (.oth undef)) Q
   | none => False := by
 rw [← gd_A ops ⟨t, h, n, nt⟩ j]
 show (match gd ops ⟨t, h, n, nt⟩ j with | some (some b) => (if b = want then _ else _) | some none => _ | none => _) = _
 cases gd ops ⟨t, h, n, nt⟩ j with
 | none => rfl
 | some x => cases x with
  | none => rfl
  | some b => cases b <;> cases want <;> simp [GRD, GRQ]
end
end Go.Ab
/- Descriptions of a state may be turned: other numbers for its blocks, some of them frozen, what is dead forgotten. No program here. -/
namespace Go.Ab
open Go.RowKit
variable [Lay]
inductive RN (h : Nat → Option Blk) (ren : Nat → Option Nat) (vt fr : Nat → Prop) : Dat → Dat → Prop
 | bool (b : Bool) : RN h ren vt fr (.bool b) (.bool b)
 | int (k : IntKind) (n : Int) : RN h ren vt fr (.int k n) (.int k n)
 | str (s : ByteArray) : RN h ren vt fr (.str s) (.str s)
 | oth (v : Value) : RN h ren vt fr (.oth v) (.oth v)
 | agg (cs ds : List Dat) (hl : cs.length = ds.length) (H : ∀ (i : Nat) c d, cs[i]? = some c → ds[i]? = some d → RN h ren vt fr c d) : RN h ren vt fr (.agg cs) (.agg ds)
 | tup (cs ds : List Dat) (hl : cs.length = ds.length) (H : ∀ (i : Nat) c d, cs[i]? = some c → ds[i]? = some d → RN h ren vt fr c d) : RN h ren vt fr (.tup cs) (.tup ds)
 | nil (st : Nat) : RN h ren vt fr .nil (.list st [])
 | nil' : RN h ren vt fr .nil .nil
 | nilv (j st : Nat) (hr : ren j = none) (hv : vt j) : RN h ren vt fr .nil (.ref j 0 0 st)
 | list (st : Nat) (es fs : List (List Dat)) (hl : es.length = fs.length) (hll : ∀ (i : Nat) e f, es[i]? = some e → fs[i]? = some f → e.length = f.length)
   (H : ∀ (i : Nat) e f, es[i]? = some e → fs[i]? = some f → ∀ (j : Nat) c d, e[j]? = some c → f[j]? = some d → RN h ren vt fr c d) : RN h ren vt fr (.list st es) (.list st fs)
 | ref (i j off len st : Nat) (hr : ren j = some i) : RN h ren vt fr (.ref i off len st) (.ref j off len st)
 | frz (i off len st : Nat) (B : Blk) (fs : List (List Dat)) (hB : h i = some B) (hz : fr i) (hst : B.st = st) (hle : off + len ≤ B.es.length) (hl : fs.length = len)
   (hll : ∀ (k : Nat) e f, B.es[off + k]? = some e → fs[k]? = some f → e.length = f.length)
   (H : ∀ (k : Nat) e f, B.es[off + k]? = some e → fs[k]? = some f → ∀ (j : Nat) c d, e[j]? = some c → f[j]? = some d → RN h ren vt fr c d) : RN h ren vt fr (.ref i off len st) (.list st fs)
 | ptr (i j k o st : Nat) (hr : ren j = some i) : RN h ren vt fr (.ptr i k o st) (.ptr j k o st)
 | rop (cs ds : List Dat) (j st : Nat) (hl : cs.length = ds.length) (H : ∀ (i : Nat) c d, cs[i]? = some c → ds[i]? = some d → RN h ren vt fr c d) : RN h ren vt fr (.rop cs j st) (.rop ds j st)
 | pbox (i k j st : Nat) (B : Blk) (ds : List Dat) (hB : h i = some B) (hz : fr i) (hst : B.st = st) (hk : k < B.es.length) (hl : (B.es.getD k []).length = ds.length)
   (H : ∀ (q : Nat) c d, (B.es.getD k [])[q]? = some c → ds[q]? = some d → RN h ren vt fr c d) : RN h ren vt fr (.ptr i k j st) (.rop ds j st)
 | fn (f : Fn) (a b a' b' : List Dat) (h1 : a.length = a'.length) (h2 : b.length = b'.length) (H1 : ∀ (i : Nat) c d, a[i]? = some c → a'[i]? = some d → RN h ren vt fr c d)
   (H2 : ∀ (i : Nat) c d, b[i]? = some c → b'[i]? = some d → RN h ren vt fr c d) : RN h ren vt fr (.fn f a b) (.fn f a' b')
def RNs (h : Nat → Option Blk) (ren : Nat → Option Nat) (vt fr : Nat → Prop) (cs ds : List Dat) : Prop := cs.length = ds.length ∧ ∀ (i : Nat) c d, cs[i]? = some c → ds[i]? = some d → RN h ren vt fr c d
theorem RN.rv {h : Nat → Option Blk} {ren : Nat → Option Nat} {vt fr : Nat → Prop} {d r : Dat} (hp : RN h ren vt fr d r) {X : Cx} {S : Nat → Prop} {n : Nat} {w : World} {φ φ' : Pl} {D D2 : Nat → Prop} (H : HS X S h n w φ D) (hD : ∀ b, D b → D2 b)
  (hr : ∀ j i, ren j = some i → φ' j = φ i) (hvt : ∀ j, ren j = none → vt j → φ' j = some none)
  (hL : ∀ i B g, h i = some B → fr i → φ i = some (some g) → D2 g) : ∀ {v : Value}, RV φ D w v d → RV φ' D2 w v r := by
 induction hp with
 | bool b => intro v hv; rw [hv.bool_inv]; exact .bool b
 | int k n => intro v hv; rw [hv.int_inv]; exact .int k n
 | str s => intro v hv; rw [hv.str_inv]; exact .str s
 | oth u => intro v hv; rw [hv.oth_inv]; exact .oth u
 | agg cs ds hl _ ih =>
  intro v hv
  obtain ⟨vs, rfl, hvs⟩ := hv.agg_inv
  refine .agg vs ds (hvs.1.trans hl) fun i c d hc hd => ?_
  have hi : i < cs.length := by rw [hl]; exact (List.getElem?_eq_some_iff.1 hd).1
  exact ih i _ d (List.getElem?_eq_getElem hi) hd (hvs.2 i c _ hc (List.getElem?_eq_getElem hi))
 | tup cs ds hl _ ih =>
  intro v hv
  obtain ⟨vs, rfl, hvs⟩ := hv.tup_inv
  refine .tup vs ds (hvs.1.trans hl) fun i c d hc hd => ?_
  have hi : i < cs.length := by rw [hl]; exact (List.getElem?_eq_some_iff.1 hd).1
  exact ih i _ d (List.getElem?_eq_getElem hi) hd (hvs.2 i c _ hc (List.getElem?_eq_getElem hi))
 | nil st => intro v hv; rw [hv.nil_inv]; exact .list0 none 0 st (Nat.zero_le _)
 | nil' => intro v hv; rw [hv.nil_inv]; exact .nil
 | nilv j st hj hv' => intro v hv; rw [hv.nil_inv]; exact .refv j st (hvt j hj hv')
 | list st es fs hl hll _ ih =>
  intro v hv
  obtain ⟨A, c, rfl, h1, h2, h3⟩ := hv.list_inv
  refine RV.list_mk hl (by omega) h2 fun i f hf => ?_
  have hi : i < es.length := by rw [hl]; exact (List.getElem?_eq_some_iff.1 hf).1
  obtain ⟨b, o, cs, rfl, q1, q2, q3, q4, q5, q6⟩ := h3 i _ (List.getElem?_eq_getElem hi)
  refine ⟨b, o, cs, rfl, hD b q1, q2, q3, q4, q5, ?_, fun j c d hc hd => ?_⟩
  ·rw [q6.1]; exact hll i _ f (List.getElem?_eq_getElem hi) hf
  ·have hj : j < (es[i]).length := by rw [← q6.1]; exact (List.getElem?_eq_some_iff.1 hc).1
   exact ih i _ f (List.getElem?_eq_getElem hi) hf j _ d (List.getElem?_eq_getElem hj) hd (q6.2 j c _ hc (List.getElem?_eq_getElem hj))
 | ref i j off len st hj =>
  intro v hv
  cases hv with
  | ref0 _ _ _ A h0 => exact .ref0 j off st A h0
  | refv _ _ hφ => exact .refv j st (by rw [hr j i hj, hφ])
  | ref _ g _ _ c _ hφ hlc hc hsz => exact .ref j g off len c st (by rw [hr j i hj, hφ]) hlc hc hsz
 | frz i off len st B fs hB hz hst hle hl hll _ ih =>
  intro v hv
  cases hv with
  | ref0 _ _ _ A h0 =>
   have : fs = [] := List.eq_nil_of_length_eq_zero hl
   subst this
   exact .list0 A 0 st (Nat.zero_le _)
  | refv _ _ hφ =>
   have : fs = [] := List.eq_nil_of_length_eq_zero hl
   subst this
   exact .list0 none 0 st (Nat.zero_le _)
  | ref _ g _ _ c _ hφ hlc hc hsz =>
   have hlies : Lies φ D w g B := by
    rcases H.live i B hB with ⟨q, _⟩ | ⟨g', q, q2, _⟩
    ·rw [hφ] at q; cases q
    ·rw [hφ] at q; injection q with q; injection q with q; subst q; exact q2
   refine RV.list_mk hl.symm (by omega) hc fun k f hf => ?_
   have hk : k < fs.length := (List.getElem?_eq_some_iff.1 hf).1
   have hok : off + k < B.es.length := by omega
   obtain ⟨cs, q1, q2, q3, q4⟩ := hlies.el hok
   have he : B.es[off + k]? = some (B.es.getD (off + k) []) := by rw [List.getD_eq_getElem?_getD, List.getElem?_eq_getElem hok]; rfl
   refine ⟨g, off * st, cs, rfl, hL i B g hB hz hφ, hlies.lt, ?_, by rw [q2, hst], q3, ?_, fun j c d hc hd => ?_⟩
   ·rw [hst, Nat.add_mul] at q1; exact q1
   ·rw [q4.1]; exact hll k _ f he hf
   ·have hj : j < (B.es.getD (off + k) []).length := by rw [← q4.1]; exact (List.getElem?_eq_some_iff.1 hc).1
    exact ih k _ f he hf j _ d (List.getElem?_eq_getElem hj) hd (q4.2 j c _ hc (List.getElem?_eq_getElem hj))
 | ptr i j k o st hj =>
  intro v hv
  cases hv with
  | ptr _ g _ _ _ hφ => exact .ptr j g k o st (by rw [hr j i hj, hφ])
 | rop cs ds j st hl _ ih =>
  intro v hv
  obtain ⟨b, o, vs, rfl, q1, q2, q3, q4, q5, q6⟩ := hv.rop_inv
  refine .rop b o j st ds vs (q6.1.trans hl) q1 (hD b q2) q3 q4 q5 fun i c d hc hd => ?_
  have hi : i < cs.length := by rw [hl]; exact (List.getElem?_eq_some_iff.1 hd).1
  exact ih i _ d (List.getElem?_eq_getElem hi) hd (q6.2 i c _ hc (List.getElem?_eq_getElem hi))
 | pbox i k j st B ds hB hz hst hk hl _ ih =>
  intro v hv
  obtain ⟨g, hφ, rfl⟩ := hv.ptr_inv
  have hlies : Lies φ D w g B := by
   rcases H.live i B hB with ⟨q, _⟩ | ⟨g', q, q2, _⟩
   ·rw [hφ] at q; cases q
   ·rw [hφ] at q; injection q with q; injection q with q; subst q; exact q2
  obtain ⟨vs, q1, q2, q3, q4⟩ := hlies.el hk
  rw [hst] at q1
  refine .rop g (k * st) j st ds vs (q4.1.trans hl) (q2.trans hst) (hL i B g hB hz hφ) hlies.lt q1 q3 fun q c d hc hd => ?_
  have hq : q < (B.es.getD k []).length := by rw [hl]; exact (List.getElem?_eq_some_iff.1 hd).1
  exact ih q _ d (List.getElem?_eq_getElem hq) hd (q4.2 q c _ hc (List.getElem?_eq_getElem hq))
 | fn f a b a' b' h1 h2 _ _ ih1 ih2 =>
  intro v hv
  obtain ⟨c1, c2, rfl, k1, k2⟩ := hv.fn_inv
  refine .fn f c1 c2 a' b' (k1.1.trans h1) (k2.1.trans h2) (fun i c d hc hd => ?_) (fun i c d hc hd => ?_)
  ·have hi : i < a.length := by rw [h1]; exact (List.getElem?_eq_some_iff.1 hd).1
   exact ih1 i _ d (List.getElem?_eq_getElem hi) hd (k1.2 i c _ hc (List.getElem?_eq_getElem hi))
  ·have hi : i < b.length := by rw [h2]; exact (List.getElem?_eq_some_iff.1 hd).1
   exact ih2 i _ d (List.getElem?_eq_getElem hi) hd (k2.2 i c _ hc (List.getElem?_eq_getElem hi))
structure Re (h : Nat → Option Blk) (ren : Nat → Option Nat) (vt fr : Nat → Prop) (h' : Nat → Option Blk) (n0 n' : Nat) : Prop where
 blk : ∀ j B', h' j = some B' → (ren j = none ∧ vt j ∧ B'.es = []) ∨ ∃ i B, ren j = some i ∧ h i = some B ∧ B'.e = B.e ∧ B'.st = B.st ∧ B'.fz = B.fz ∧ ¬ fr i ∧
   B'.es.length = B.es.length ∧ ∀ (k : Nat) e f, B.es[k]? = some e → B'.es[k]? = some f → RNs h ren vt fr e f
 inj : ∀ j k i, ren j = some i → ren k = some i → j = k
 low : ∀ i, i < n0 → ren i = some i
 top : ∀ j, n' ≤ j → ren j = none ∧ ¬ vt j
def WkS (n0 : Nat) (σ : St) (R : St → Prop) : Prop :=
 ∀ (X : Cx), (∀ i, n0 ≤ i → X.p0 i = none) → ∀ a w φ D, Sim X S0 σ a w φ D → ∃ σ' φ' D', R σ' ∧ Sim X S0 σ' a w φ' D'
theorem wk_mk {n0 n n' nt : Nat} {t : Nat → Dat} {h h' : Nat → Option Blk} {ren : Nat → Option Nat} {vt fr : Nat → Prop} {R : St → Prop} (L : List (Nat × Dat)) (hnd : (L.map (·.1)).Nodup) (re : Re h ren vt fr h' n0 n')
  (hL : ∀ p ∈ L, RN h ren vt fr (t p.1) p.2) (hR : ∀ t', (∀ p ∈ L, t' p.1 = p.2) → R ⟨t', h', n', nt⟩) : WkS n0 ⟨t, h, n, nt⟩ R := by
 classical
 intro X hX a w φ D hs
 have H := hs.hs
 let φ' : Pl := fun j => match ren j with | some i => φ i | none => if vt j then some none else none
 let D' : Nat → Prop := fun b => D b ∨ ∃ i B, h i = some B ∧ fr i ∧ φ i = some (some b)
 have hr : ∀ j i, ren j = some i → φ' j = φ i := fun j i e => by simp only [φ', e]
 have hvt : ∀ j, ren j = none → vt j → φ' j = some none := fun j e hv => by simp only [φ', e, hv, if_true]
 have hD : ∀ b, D b → D' b := fun b h => .inl h
 have hfr : ∀ i B g, h i = some B → fr i → φ i = some (some g) → D' g := fun i B g h1 h2 h3 => .inr ⟨i, B, h1, h2, h3⟩
 have rv : ∀ {v d d'}, RN h ren vt fr d d' → RV φ D w v d → RV φ' D' w v d' := fun hp hv => hp.rv H hD hr hvt hfr hv
 -- the new number of a dead one's value is not told
 let t' : Nat → Dat := fun i => match L.find? (fun p => p.1 == i) with | some p => p.2 | none => .oth (a.tmps.getD i undef)
 have hnew : ∀ b, D' b → ¬ D b → (X.L0 b ∨ X.w0.heap.size ≤ b) ∧ b < w.heap.size := fun b hb hn => by
  rcases hb with hb | ⟨i, B, h1, h2, h3⟩
  ·exact absurd hb hn
  ·rcases H.live i B h1 with ⟨q, _⟩ | ⟨g, q, q2, q3, q4⟩
   ·rw [h3] at q; cases q
   ·rw [h3] at q; injection q with q; injection q with q; subst q
    cases hfz : B.fz with
    | true => exact absurd (q3 hfz) hn
    | false => exact ⟨(q4 hfz).2, q2.lt⟩
 have uniq : ∀ i B g, h i = some B → B.fz = false → φ i = some (some g) → ¬ fr i → ¬ D' g := fun i B g h1 h2 h3 h4 hd => by
  rcases hd with hd | ⟨k, C, k1, k2, k3⟩
  ·rcases H.live i B h1 with ⟨q, _⟩ | ⟨g', q, _, _, q4⟩
   ·rw [h3] at q; cases q
   ·rw [h3] at q; injection q with q; injection q with q; subst q; exact (q4 h2).1 hd
  ·have := H.inj i k B C g h1 k1 h3 k3 h2
   subst this; exact h4 k2
 have hs' : HS X S0 h' n' w φ' D' := {
  live := fun j B' hj => by
   rcases re.blk j B' hj with ⟨e, hv, he⟩ | ⟨i, B, e, hi, e1, e2, e3, hnf, hlen, hel⟩
   ·exact .inl ⟨hvt j e hv, he⟩
   ·rcases H.live i B hi with ⟨q, q2⟩ | ⟨g, q, q2, q3, q4⟩
    ·refine .inl ⟨by rw [hr j i e, q], ?_⟩
     rw [q2] at hlen
     exact List.eq_nil_of_length_eq_zero hlen
    ·refine .inr ⟨g, by rw [hr j i e, q], ?_, fun hf => hD g (q3 (by rw [← e3]; exact hf)), fun hf => ?_⟩
     ·obtain ⟨arr, a1, a2, a3⟩ := q2
      refine ⟨arr, by rw [e1]; exact a1, by rw [hlen, e2]; exact a2, fun k f hf => ?_⟩
      have hk : k < B.es.length := by rw [← hlen]; exact (List.getElem?_eq_some_iff.1 hf).1
      have he := List.getElem?_eq_getElem hk
      have hrn := hel k _ f he hf
      obtain ⟨b1, b2⟩ := a3 k _ he
      refine ⟨by rw [← hrn.1, b1, e2], fun q d hd => ?_⟩
      have hq : q < (B.es[k]).length := by rw [hrn.1]; exact (List.getElem?_eq_some_iff.1 hd).1
      obtain ⟨v, v1, v2, v3⟩ := b2 q _ (List.getElem?_eq_getElem hq)
      exact ⟨v, by rw [e2]; exact v1, v2, rv (hrn.2 q _ d (List.getElem?_eq_getElem hq) hd) v3⟩
     ·rw [e3] at hf
      exact ⟨uniq i B g hi hf q hnf, (q4 hf).2⟩
  inj := fun j k B C g hj hk pj pk hf => by
   rcases re.blk j B hj with ⟨e, hv, he⟩ | ⟨i, B0, e, hi, e1, e2, e3, hnf, _⟩
   ·rw [hvt j e hv] at pj; cases pj
   ·rcases re.blk k C hk with ⟨e', hv', he'⟩ | ⟨i', B1, e', hi', _⟩
    ·rw [hvt k e' hv'] at pk; cases pk
    ·rw [hr j i e] at pj; rw [hr k i' e'] at pk
     have := H.inj i i' B0 B1 g hi hi' pj pk (by rw [← e3]; exact hf)
     subst this
     exact re.inj j k i e e'
  fresh := fun j hj _ => by
   obtain ⟨e, hv⟩ := re.top j hj
   simp only [φ', e, if_neg hv]
  Dlt := fun b hb => by
   by_cases hd : D b
   ·exact H.Dlt b hd
   ·exact (hnew b hb hd).2
  Dsub := fun b hb => by
   by_cases hd : D b
   ·exact H.Dsub b hd
   ·exact .inr (hnew b hb hd).1
  Dsup := fun b hb => hD b (H.Dsup b hb)
  psup := fun i x hx => by
   have hi : i < n0 := by
    rcases Nat.lt_or_ge i n0 with h1 | h1
    ·exact h1
    ·rw [hX i h1] at hx; cases hx
   rw [hr i i (re.low i hi)]
   exact H.psup i x hx
  fr := H.fr
  fin := ⟨n', fun k hk => by obtain ⟨e, hv⟩ := re.top k hk; simp only [φ', e, if_neg hv]⟩
  gp := Lay.gpk H.gp (Ext.refl _ _) (fun b h _ => hD b h) }
 have key : ∀ t' : Nat → Dat, (∀ i, RV φ' D' w (a.tmps.getD i undef) (t' i)) → Sim X S0 ⟨t', h', n', nt⟩ a w φ' D' := fun t' ht => { nt := hs.nt, df := hs.df.keep rfl (fun b h _ => hD b h) (Ext.refl _ _), tm := ht, hs := hs' }
 have hfind : ∀ (L : List (Nat × Dat)), (L.map (·.1)).Nodup → ∀ p ∈ L, L.find? (fun q => q.1 == p.1) = some p := by
  intro L
  induction L with
  | nil => intro _ p hp; cases hp
  | cons q L ih =>
   intro hn p hp
   simp only [List.map_cons, List.nodup_cons] at hn
   rcases List.mem_cons.1 hp with e | hp
   ·subst e; simp
   ·have hne : q.1 ≠ p.1 := fun e => hn.1 (by rw [e]; exact List.mem_map_of_mem hp)
    rw [List.find?_cons_of_neg (by simpa using hne)]
    exact ih hn.2 p hp
 have hcons : ∀ p ∈ L, t' p.1 = p.2 := fun p hp => by simp only [t', hfind L hnd p hp]
 refine ⟨_, φ', D', hR t' hcons, key t' fun i => ?_⟩
 show RV φ' D' w (a.tmps.getD i undef) (t' i)
 simp only [t']
 cases hq : L.find? (fun p => p.1 == i) with
 | none => exact .oth _
 | some p =>
  have h1 : p.1 = i := by simpa using List.find?_some hq
  have h2 := List.mem_of_find?_eq_some hq
  rw [← h1]
  exact rv (hL p h2) (hs.tm p.1)
end Go.Ab
/- The rules of walks whose states may be described anew at heads of loops and at joints. No program here. -/
namespace Go.Ab
open Go.RowKit
variable [Lay]
variable {fe : Fen}
def aw (fe : Fen) (n0 : Nat) (P : Program) (c : Code) (Q : Exit → St → Prop) (σ : St) : Prop := ∀ X : Cx, (∀ i, n0 ≤ i → X.p0 i = none) → AW fe P X c Q σ
def sqA (fe : Fen) (n0 : Nat) (P : Program) (y : Code) (Q : Exit → St → Prop) : Exit → St → Prop := fun ex σ' => match ex with | .normal => aw fe n0 P y Q σ' | e => Q e σ'
def bkA (id : Nat) (Q : Exit → St → Prop) : Exit → St → Prop := fun ex σ' => match ex with | .exit id' => if id' = id then Q .normal σ' else Q (.exit id') σ' | e => Q e σ'
def lpA (n0 : Nat) (I : Nat → St → Prop) (m : Nat) (Q : Exit → St → Prop) : Exit → St → Prop :=
 fun ex σ' => match ex with | .normal => WkS n0 σ' (fun s => ∃ m', m' < m ∧ I m' s) | e => Q e σ'
def ctA (n0 : Nat) (R : St → Prop) (Q : Exit → St → Prop) : Exit → St → Prop :=
 fun ex σ' => match ex with | .normal => WkS n0 σ' R | e => Q e σ'
section
variable {n0 : Nat} {P : Program} {Q : Exit → St → Prop} {σ : St} {x y : Code} {id id' : Nat}
theorem aw_of {c : Code} (h : awp fe P c Q σ) : aw fe n0 P c Q σ := fun X _ => awp_sound X c Q σ h
theorem AW.mono {c : Code} {X : Cx} {Q Q' : Exit → St → Prop} (hq : ∀ ex a w, Con X Q ex a w → Con X Q' ex a w) (h : AW fe P X c Q σ) : AW fe P X c Q' σ :=
 fun a w φ D hs => wpIn_mono (h a w φ D hs) hq
theorem a_seq (h : aw fe n0 P x (sqA fe n0 P y Q) σ) : aw fe n0 P (.seq x y) Q σ := fun X hX a w φ D hs => by
 refine wpIn_seq (wpIn_mono (h X hX a w φ D hs) fun ex a' w' hc => ?_)
 obtain ⟨σ', φ', D', hq, hs'⟩ := hc
 cases ex with
 | normal => exact hq X hX a' w' φ' D' hs'
 | exit id => exact ⟨σ', φ', D', hq, hs'⟩
 | goto l => exact ⟨σ', φ', D', hq, hs'⟩
 | ret => exact ⟨σ', φ', D', hq, hs'⟩
 | panic c => exact ⟨σ', φ', D', hq, hs'⟩
 | outgrown => exact ⟨σ', φ', D', hq, hs'⟩
theorem a_cut (R : St → Prop) (h1 : aw fe n0 P x (ctA n0 R Q) σ) (h2 : ∀ s, R s → aw fe n0 P y Q s) : aw fe n0 P (.seq x y) Q σ := fun X hX a w φ D hs => by
 refine wpIn_seq (wpIn_mono (h1 X hX a w φ D hs) fun ex a' w' hc => ?_)
 obtain ⟨σ', φ', D', hq, hs'⟩ := hc
 cases ex with
 | normal =>
  obtain ⟨s, φ2, D2, hR, hs2⟩ := hq X hX a' w' φ' D' hs'
  exact h2 s hR X hX a' w' φ2 D2 hs2
 | exit id => exact ⟨σ', φ', D', hq, hs'⟩
 | goto l => exact ⟨σ', φ', D', hq, hs'⟩
 | ret => exact ⟨σ', φ', D', hq, hs'⟩
 | panic c => exact ⟨σ', φ', D', hq, hs'⟩
 | outgrown => exact ⟨σ', φ', D', hq, hs'⟩
theorem a_weak {c : Code} (R : St → Prop) (h1 : WkS n0 σ R) (h2 : ∀ s, R s → aw fe n0 P c Q s) : aw fe n0 P c Q σ := fun X hX a w φ D hs => by
 obtain ⟨s, φ2, D2, hR, hs2⟩ := h1 X hX a w φ D hs
 exact h2 s hR X hX a w φ2 D2 hs2
theorem a_blk (h : aw fe n0 P x (bkA id Q) σ) : aw fe n0 P (.block id x) Q σ := fun X hX a w φ D hs => by
 refine wpIn_block (wpIn_mono (h X hX a w φ D hs) fun ex a' w' hc => ?_)
 obtain ⟨σ', φ', D', hq, hs'⟩ := hc
 cases ex with
 | exit id' =>
  simp only [Exit.inBlock]
  simp only [bkA] at hq
  split
  ·rename_i e; rw [if_pos e] at hq; exact ⟨σ', φ', D', hq, hs'⟩
  ·rename_i e; rw [if_neg e] at hq; exact ⟨σ', φ', D', hq, hs'⟩
 | normal => exact ⟨σ', φ', D', hq, hs'⟩
 | goto l => exact ⟨σ', φ', D', hq, hs'⟩
 | ret => exact ⟨σ', φ', D', hq, hs'⟩
 | panic c => exact ⟨σ', φ', D', hq, hs'⟩
 | outgrown => exact ⟨σ', φ', D', hq, hs'⟩
theorem a_loop (I : Nat → St → Prop) (m : Nat) (h0 : WkS n0 σ (I m)) (hr : ∀ m s, I m s → aw fe n0 P x (lpA n0 I m Q) s) : aw fe n0 P (.loop x) Q σ := fun X hX a w φ D hs => by
 obtain ⟨s, φ2, D2, hI, hs2⟩ := h0 X hX a w φ D hs
 classical
 let J : Act → World → Nat → Prop := fun a w m => ∃ σ φ D, I m σ ∧ Sim X S0 σ a w φ D
 have least : ∀ a w, (∃ m, J a w m) → ∃ m, J a w m ∧ ∀ k, J a w k → m ≤ k := fun a w hex => by
  have : ∀ n, ∀ m, m ≤ n → J a w m → ∃ m, J a w m ∧ ∀ k, J a w k → m ≤ k := by
   intro n
   induction n with
   | zero => intro m hm hj; exact ⟨m, hj, fun k _ => by omega⟩
   | succ n ih =>
    intro m hm hj
    by_cases hk : ∃ k, k < m ∧ J a w k
    ·obtain ⟨k, hk, hjk⟩ := hk
     exact ih k (by omega) hjk
    ·exact ⟨m, hj, fun k hjk => by
      rcases Nat.lt_or_ge k m with h | h
      ·exact absurd ⟨k, h, hjk⟩ hk
      ·exact h⟩
  obtain ⟨m, hm⟩ := hex
  exact this m m (Nat.le_refl _) hm
 let μ : Act → World → Nat := fun a w => if hex : ∃ m, J a w m then (least a w hex).choose else 0
 have hμ : ∀ a w, (∃ m, J a w m) → J a w (μ a w) ∧ ∀ k, J a w k → μ a w ≤ k := fun a w hex => by
  simp only [μ, dif_pos hex]
  exact (least a w hex).choose_spec
 refine wpIn_loop (fun a w => ∃ m, J a w m) μ ⟨m, s, φ2, D2, hI, hs2⟩ fun a w hex => ?_
 obtain ⟨⟨σ1, φ1, D1, hI, hs1⟩, hmin⟩ := hμ a w hex
 refine wpIn_mono (hr _ σ1 hI X hX a w φ1 D1 hs1) fun ex a' w' hc => ?_
 obtain ⟨σ', φ', D', hq, hs'⟩ := hc
 cases ex with
 | normal =>
  obtain ⟨s3, φ3, D3, ⟨m', hlt, hI'⟩, hs3⟩ := hq X hX a' w' φ' D' hs'
  have hex' : ∃ m, J a' w' m := ⟨m', s3, φ3, D3, hI', hs3⟩
  exact ⟨hex', Nat.lt_of_le_of_lt ((hμ a' w' hex').2 m' ⟨s3, φ3, D3, hI', hs3⟩) hlt⟩
 | exit id => exact ⟨σ', φ', D', hq, hs'⟩
 | goto l => exact ⟨σ', φ', D', hq, hs'⟩
 | ret => exact ⟨σ', φ', D', hq, hs'⟩
 | panic c => exact ⟨σ', φ', D', hq, hs'⟩
 | outgrown => exact ⟨σ', φ', D', hq, hs'⟩
theorem a_cond {c : Operand} {d : Dat} {b : Bool} (hc : σ.ev c = d) (hd : d = .bool b) (ht : b = true → aw fe n0 P x Q σ) (hf : b = false → aw fe n0 P y Q σ) : aw fe n0 P (.cond c x y) Q σ := fun X hX a w φ D hs => by
 have hv := hs.ev c
 rw [hc, hd] at hv
 exact wpIn_cond_split hv.bool_inv (fun h => ht h X hX a w φ D hs) (fun h => hf h X hX a w φ D hs)
theorem a_skip (h : Q .normal σ) : aw fe n0 P .skip Q σ := aw_of (awp_skip h)
theorem a_ret (h : Q .ret σ) : aw fe n0 P .ret Q σ := aw_of (awp_ret h)
theorem a_exit {id : Nat} (h : Q (.exit id) σ) : aw fe n0 P (.exit id) Q σ := aw_of (awp_exit h)
theorem a_reg {s : St} {id : Nat} {ops : Array Oper} (l : List Oper) (hl : ops.toList = l) (h : AR P l l 0 σ (fun s' => s' = s)) (k : Q .normal s) : aw fe n0 P (.region id ops false) Q σ := aw_of (awp_reg l hl h k)
theorem sA_n (h : aw fe n0 P y Q σ) : sqA fe n0 P y Q .normal σ := h
theorem sA_r (h : Q .ret σ) : sqA fe n0 P y Q .ret σ := h
theorem sA_e (h : Q (.exit id) σ) : sqA fe n0 P y Q (.exit id) σ := h
theorem bA_n (h : Q .normal σ) : bkA id Q .normal σ := h
theorem bA_r (h : Q .ret σ) : bkA id Q .ret σ := h
theorem bA_hit (h : Q .normal σ) : bkA id Q (.exit id) σ := by simp only [bkA, if_true]; exact h
theorem bA_e (hne : id' ≠ id) (h : Q (.exit id') σ) : bkA id Q (.exit id') σ := by simp only [bkA, if_neg hne]; exact h
theorem lA_n {I : Nat → St → Prop} {m : Nat} (h : WkS n0 σ (fun s => ∃ m', m' < m ∧ I m' s)) : lpA n0 I m Q .normal σ := h
theorem lA_r {I : Nat → St → Prop} {m : Nat} (h : Q .ret σ) : lpA n0 I m Q .ret σ := h
theorem lA_e {I : Nat → St → Prop} {m : Nat} (h : Q (.exit id) σ) : lpA n0 I m Q (.exit id) σ := h
theorem cA_n {R : St → Prop} (h : WkS n0 σ R) : ctA n0 R Q .normal σ := h
theorem cA_r {R : St → Prop} (h : Q .ret σ) : ctA n0 R Q .ret σ := h
end
theorem pcA_of {P : Program} {F : FuncId} {fn : Func} {c : Code} {ds : List Dat} {r : Dat} (hf : P.funcs[F]? = some fn) (hb : fn.body = some c) (hn : (fn.name == "runtime.NumGoroutine") = false) (nt : Nat) (hnt : ds.length + (fn.ntmps - ds.length) = nt)
  (rl : List ResultVar) (hrl : fn.results.toList = rl) (h : aw Fen.top 0 P c (endC P rl r) (ent ds nt)) : PC P F ds r where
 enter := ⟨fn, c, hf, hb, hn⟩
 run := fun w D vs hD hG hv => by
  subst hnt; subst hrl
  have e : (retP P fn fun d σ => PurR σ.h false d r) = endC P fn.results.toList r := by
   funext ex σ
   cases ex <;> rfl
  rw [← e] at h
  refine calls_of_fen hf hb ?_
  have hs := Sim.entry (fn := fn) hv (HS.start hD hG)
  refine wpIn_mono (h _ (fun _ _ => rfl) _ _ _ _ hs) (retP_sound fun σ w' φ D' d v hsim hp hrv => ?_)
  refine ⟨v, rfl, hp.rv hsim (fun b hb => ?_) (fun i B g hi _ hφ => ?_) hrv, hsim.fr.below⟩
  ·rcases hsim.Dsub b hb with h | h | h
   ·exact .inl h
   ·exact h.elim
   ·exact .inr h
  ·rcases hsim.live i B hi with ⟨q, _⟩ | ⟨g', q, q2, q3, q4⟩
   ·rw [hφ] at q; cases q
   ·rw [hφ] at q; injection q with q; injection q with q; subst q
    cases hfz : B.fz with
    | true =>
     rcases hsim.Dsub g (q3 hfz) with h | h | h
     ·exact .inl h
     ·exact h.elim
     ·exact .inr h
    | false =>
     rcases (q4 hfz).2 with h | h
     ·exact h.elim
     ·exact .inr h
end Go.Ab
/- Pure data; lists of descriptions; the joint's rule with lists; the words of the functional forms. No program here. -/
namespace Go.Ab
open Go.RowKit
variable [Lay]
inductive Pu : Dat → Prop
 | bool (b : Bool) : Pu (.bool b)
 | int (k : IntKind) (n : Int) : Pu (.int k n)
 | str (s : ByteArray) : Pu (.str s)
 | oth (v : Value) : Pu (.oth v)
 | nil : Pu .nil
 | agg (cs : List Dat) (H : ∀ c ∈ cs, Pu c) : Pu (.agg cs)
 | tup (cs : List Dat) (H : ∀ c ∈ cs, Pu c) : Pu (.tup cs)
 | list (st : Nat) (es : List (List Dat)) (H : ∀ e ∈ es, ∀ c ∈ e, Pu c) : Pu (.list st es)
 | rop (cs : List Dat) (j st : Nat) (H : ∀ c ∈ cs, Pu c) : Pu (.rop cs j st)
 | fn (f : Fn) (a b : List Dat) (H1 : ∀ c ∈ a, Pu c) (H2 : ∀ c ∈ b, Pu c) : Pu (.fn f a b)
def Pus (l : List Dat) : Prop := ∀ c ∈ l, Pu c
theorem Pus.nil : Pus [] := fun c h => by cases h
theorem Pus.cons {a : Dat} {l : List Dat} (h1 : Pu a) (h2 : Pus l) : Pus (a :: l) := fun c h => by
 rcases List.mem_cons.1 h with e | h
 ·rw [e]; exact h1
 ·exact h2 c h
theorem Pus.app {a b : List Dat} (h1 : Pus a) (h2 : Pus b) : Pus (a ++ b) := fun c h => by
 rcases List.mem_append.1 h with h | h
 ·exact h1 c h
 ·exact h2 c h
theorem Pu.listMap {α : Type} {st : Nat} (f : α → List Dat) (l : List α) (H : ∀ x, Pus (f x)) : Pu (.list st (l.map f)) :=
 .list st _ fun e he c hc => by
  obtain ⟨x, _, rfl⟩ := List.mem_map.1 he
  exact H x c hc
theorem Pu.purR {d : Dat} (h : Pu d) {hp : Nat → Option Blk} {fz : Bool} : PurR hp fz d d := by
 induction h with
 | bool b => exact .bool b
 | int k n => exact .int k n
 | str s => exact .str s
 | oth v => exact .oth v
 | nil => exact .nil'
 | agg cs _ ih => exact .agg cs cs rfl fun i c d hc hd => by rw [hc] at hd; injection hd with hd; subst hd; exact ih c (List.mem_of_getElem? hc)
 | tup cs _ ih => exact .tup cs cs rfl fun i c d hc hd => by rw [hc] at hd; injection hd with hd; subst hd; exact ih c (List.mem_of_getElem? hc)
 | list st es _ ih =>
  refine .list st es es rfl (fun i e f he hf => by rw [he] at hf; injection hf with hf; rw [hf]) fun i e f he hf j c d hc hd => ?_
  rw [he] at hf; injection hf with hf; subst hf
  rw [hc] at hd; injection hd with hd; subst hd
  exact ih e (List.mem_of_getElem? he) c (List.mem_of_getElem? hc)
 | rop cs j st _ ih => exact .rop cs cs j st rfl fun i c d hc hd => by rw [hc] at hd; injection hd with hd; subst hd; exact ih c (List.mem_of_getElem? hc)
 | fn f a b _ _ ih1 ih2 => exact .fn f a b a b rfl rfl (fun i c d hc hd => by rw [hc] at hd; injection hd with hd; subst hd; exact ih1 c (List.mem_of_getElem? hc)) (fun i c d hc hd => by rw [hc] at hd; injection hd with hd; subst hd; exact ih2 c (List.mem_of_getElem? hc))
theorem Pu.rn {d : Dat} (h : Pu d) {hp : Nat → Option Blk} {ren : Nat → Option Nat} {vt fr : Nat → Prop} : RN hp ren vt fr d d := by
 induction h with
 | bool b => exact .bool b
 | int k n => exact .int k n
 | str s => exact .str s
 | oth v => exact .oth v
 | nil => exact .nil'
 | agg cs _ ih => exact .agg cs cs rfl fun i c d hc hd => by rw [hc] at hd; injection hd with hd; subst hd; exact ih c (List.mem_of_getElem? hc)
 | tup cs _ ih => exact .tup cs cs rfl fun i c d hc hd => by rw [hc] at hd; injection hd with hd; subst hd; exact ih c (List.mem_of_getElem? hc)
 | list st es _ ih =>
  refine .list st es es rfl (fun i e f he hf => by rw [he] at hf; injection hf with hf; rw [hf]) fun i e f he hf j c d hc hd => ?_
  rw [he] at hf; injection hf with hf; subst hf
  rw [hc] at hd; injection hd with hd; subst hd
  exact ih e (List.mem_of_getElem? he) c (List.mem_of_getElem? hc)
 | rop cs j st _ ih => exact .rop cs cs j st rfl fun i c d hc hd => by rw [hc] at hd; injection hd with hd; subst hd; exact ih c (List.mem_of_getElem? hc)
 | fn f a b _ _ ih1 ih2 => exact .fn f a b a b rfl rfl (fun i c d hc hd => by rw [hc] at hd; injection hd with hd; subst hd; exact ih1 c (List.mem_of_getElem? hc)) (fun i c d hc hd => by rw [hc] at hd; injection hd with hd; subst hd; exact ih2 c (List.mem_of_getElem? hc))
theorem Pus.purRs {l : List Dat} (h : Pus l) {hp : Nat → Option Blk} {fz : Bool} : PurRs hp fz l l :=
 ⟨rfl, fun i c d hc hd => by rw [hc] at hd; injection hd with hd; subst hd; exact (h c (List.mem_of_getElem? hc)).purR⟩
section
variable {h : Nat → Option Blk} {ren : Nat → Option Nat} {vt fr : Nat → Prop}
theorem RNs.nil : RNs h ren vt fr [] [] := ⟨rfl, fun i c d h => by simp at h⟩
theorem RNs.cons {c d : Dat} {cs ds : List Dat} (h1 : RN h ren vt fr c d) (h2 : RNs h ren vt fr cs ds) : RNs h ren vt fr (c :: cs) (d :: ds) :=
 ⟨by simp [h2.1], fun i a b ha hb => by
  cases i with
  | zero => simp at ha hb; subst ha; subst hb; exact h1
  | succ i => simp at ha hb; exact h2.2 i a b ha hb⟩
theorem RNs.pu {l : List Dat} (hl : Pus l) : RNs h ren vt fr l l :=
 ⟨rfl, fun i c d hc hd => by rw [hc] at hd; injection hd with hd; subst hd; exact (hl c (List.mem_of_getElem? hc)).rn⟩
theorem RN.agg' {cs ds : List Dat} (k : RNs h ren vt fr cs ds) : RN h ren vt fr (.agg cs) (.agg ds) := .agg cs ds k.1 k.2
theorem RN.tup' {cs ds : List Dat} (k : RNs h ren vt fr cs ds) : RN h ren vt fr (.tup cs) (.tup ds) := .tup cs ds k.1 k.2
theorem RN.rop' {cs ds : List Dat} {j st : Nat} (k : RNs h ren vt fr cs ds) : RN h ren vt fr (.rop cs j st) (.rop ds j st) := .rop cs ds j st k.1 k.2
theorem RN.fn' {f : Fn} {a b a' b' : List Dat} (k1 : RNs h ren vt fr a a') (k2 : RNs h ren vt fr b b') : RN h ren vt fr (.fn f a b) (.fn f a' b') := .fn f a b a' b' k1.1 k2.1 k1.2 k2.2
theorem RN.int' {k : IntKind} {a b : Int} (e : a = b) : RN h ren vt fr (.int k a) (.int k b) := by rw [e]; exact .int k b
theorem RN.bool' {a b : Bool} (e : a = b) : RN h ren vt fr (.bool a) (.bool b) := by rw [e]; exact .bool b
theorem RN.str' {a b : ByteArray} (e : a = b) : RN h ren vt fr (.str a) (.str b) := by rw [e]; exact .str b
def RNL (h : Nat → Option Blk) (ren : Nat → Option Nat) (vt fr : Nat → Prop) (es fs : List (List Dat)) : Prop :=
 es.length = fs.length ∧ ∀ (k : Nat) e f, es[k]? = some e → fs[k]? = some f → RNs h ren vt fr e f
theorem RNL.nil : RNL h ren vt fr [] [] := ⟨rfl, fun i c d h => by simp at h⟩
theorem RNL.cons {e f : List Dat} {es fs : List (List Dat)} (h1 : RNs h ren vt fr e f) (h2 : RNL h ren vt fr es fs) : RNL h ren vt fr (e :: es) (f :: fs) :=
 ⟨by simp [h2.1], fun i a b ha hb => by
  cases i with
  | zero => simp at ha hb; subst ha; subst hb; exact h1
  | succ i => simp at ha hb; exact h2.2 i a b ha hb⟩
theorem RNL.app {a b c d : List (List Dat)} (h1 : RNL h ren vt fr a c) (h2 : RNL h ren vt fr b d) : RNL h ren vt fr (a ++ b) (c ++ d) :=
 ⟨by simp [h1.1, h2.1], fun i e f he hf => by
  rcases Nat.lt_or_ge i a.length with hi | hi
  ·rw [List.getElem?_append_left hi] at he
   rw [List.getElem?_append_left (by rw [← h1.1]; exact hi)] at hf
   exact h1.2 i e f he hf
  ·rw [List.getElem?_append_right hi] at he
   rw [List.getElem?_append_right (by rw [← h1.1]; exact hi)] at hf
   exact h2.2 _ e f he (by rw [h1.1]; exact hf)⟩
theorem RNL.same {α : Type} (f : α → List Dat) (l : List α) (H : ∀ x, Pus (f x)) {es : List (List Dat)} (he : es = l.map f) : RNL h ren vt fr es (l.map f) := by
 subst he
 refine ⟨rfl, fun k e g he hg => ?_⟩
 rw [he] at hg; injection hg with hg; subst hg
 obtain ⟨x, _, rfl⟩ := List.mem_map.1 (List.mem_of_getElem? he)
 exact RNs.pu (H x)
theorem RN.list' {st : Nat} {es fs : List (List Dat)} (k : RNL h ren vt fr es fs) : RN h ren vt fr (.list st es) (.list st fs) :=
 .list st es fs k.1 (fun i e f he hf => (k.2 i e f he hf).1) fun i e f he hf => (k.2 i e f he hf).2
theorem RN.frz' {i len st : Nat} {B : Blk} {fs : List (List Dat)} (hB : h i = some B) (hz : fr i) (hst : B.st = st) (hlen : len = B.es.length) (k : RNL h ren vt fr B.es fs) : RN h ren vt fr (.ref i 0 len st) (.list st fs) :=
 .frz i 0 len st B fs hB hz hst (by omega) (by rw [← k.1, hlen]) (fun q e f he hf => by rw [Nat.zero_add] at he; exact (k.2 q e f he hf).1) (fun q e f he hf => by rw [Nat.zero_add] at he; exact (k.2 q e f he hf).2)
theorem RN.frzs {i off len st : Nat} {B : Blk} {fs : List (List Dat)} (hB : h i = some B) (hz : fr i) (hst : B.st = st) (hle : off + len ≤ B.es.length) (hl : fs.length = len) (k : RNL h ren vt fr ((B.es.drop off).take len) fs) : RN h ren vt fr (.ref i off len st) (.list st fs) := by
 have key : ∀ (q : Nat) e f, B.es[off + q]? = some e → fs[q]? = some f → RNs h ren vt fr e f := fun q e f he hf => by
  have hq : q < len := by rw [← hl]; exact (List.getElem?_eq_some_iff.1 hf).1
  refine k.2 q e f ?_ hf
  rw [List.getElem?_take, if_pos hq, List.getElem?_drop]; exact he
 exact .frz i off len st B fs hB hz hst hle hl (fun q e f he hf => (key q e f he hf).1) fun q e f he hf => (key q e f he hf).2
end
def hl (l : List Blk) : Nat → Option Blk := fun j => l[j]?
def tl (t0 : Nat → Dat) : List (Nat × Dat) → Nat → Dat
 | [] => t0
 | p :: l => upd (tl t0 l) p.1 p.2
def renL (bl : List (Option Nat × Blk)) : Nat → Option Nat := fun j => match bl[j]? with | some p => p.1 | none => none
def vtL (bl : List (Option Nat × Blk)) : Nat → Prop := fun j => match bl[j]? with | some p => p.1 = none | none => False
def AllB (h : Nat → Option Blk) (ren : Nat → Option Nat) (vt : Nat → Prop) (fr : List Nat) : List (Option Nat × Blk) → Prop
 | [] => True
 | (none, B) :: l => B.es = [] ∧ AllB h ren vt fr l
 | (some i, B') :: l => (∃ B, h i = some B ∧ (B'.e = B.e ∧ B'.st = B.st ∧ B'.fz = B.fz) ∧ fr.contains i = false ∧ RNL h ren vt (fun i => i ∈ fr) B.es B'.es) ∧ AllB h ren vt fr l
def AllT (h : Nat → Option Blk) (ren : Nat → Option Nat) (vt : Nat → Prop) (fr : List Nat) (t : Nat → Dat) : List (Nat × Dat) → Prop
 | [] => True
 | p :: l => RN h ren vt (fun i => i ∈ fr) (t p.1) p.2 ∧ AllT h ren vt fr t l
theorem AllB.at {h : Nat → Option Blk} {ren : Nat → Option Nat} {vt : Nat → Prop} {fr : List Nat} : ∀ {bl : List (Option Nat × Blk)} {j : Nat} {p : Option Nat × Blk}, AllB h ren vt fr bl → bl[j]? = some p →
  (p.1 = none ∧ p.2.es = []) ∨ ∃ i B, p.1 = some i ∧ h i = some B ∧ (p.2.e = B.e ∧ p.2.st = B.st ∧ p.2.fz = B.fz) ∧ i ∉ fr ∧ RNL h ren vt (fun i => i ∈ fr) B.es p.2.es
 | [], j, p, _, hj => by simp at hj
 | (none, B) :: l, 0, p, H, hj => by simp at hj; subst hj; exact .inl ⟨rfl, H.1⟩
 | (some i, B') :: l, 0, p, H, hj => by
  simp at hj; subst hj
  obtain ⟨⟨B, h1, h2, h3, h4⟩, _⟩ := H
  exact .inr ⟨i, B, rfl, h1, h2, by simpa using h3, h4⟩
 | (none, B) :: l, j + 1, p, H, hj => AllB.at (bl := l) (j := j) H.2 (by simpa using hj)
 | (some i, B') :: l, j + 1, p, H, hj => AllB.at (bl := l) (j := j) H.2 (by simpa using hj)
theorem AllT.at {h : Nat → Option Blk} {ren : Nat → Option Nat} {vt : Nat → Prop} {fr : List Nat} {t : Nat → Dat} : ∀ {L : List (Nat × Dat)}, AllT h ren vt fr t L → ∀ p ∈ L, RN h ren vt (fun i => i ∈ fr) (t p.1) p.2
 | [], _, p, hp => by cases hp
 | q :: L, H, p, hp => by
  rcases List.mem_cons.1 hp with e | hp
  ·rw [e]; exact H.1
  ·exact AllT.at H.2 p hp
theorem tl_at {t' : Nat → Dat} : ∀ {L : List (Nat × Dat)}, (∀ p ∈ L, t' p.1 = p.2) → tl t' L = t'
 | [], _ => rfl
 | p :: L, H => by
  show upd (tl t' L) p.1 p.2 = t'
  rw [tl_at (fun q hq => H q (List.mem_cons_of_mem _ hq))]
  funext x
  unfold upd
  split
  ·rename_i e; rw [e, H p (List.mem_cons_self ..)]
  ·rfl
theorem wk_l {nt n : Nat} {t : Nat → Dat} {h : Nat → Option Blk} {R : St → Prop} (bl : List (Option Nat × Blk)) (fr : List Nat) (L : List (Nat × Dat)) (hnd : (L.map (·.1)).Nodup) (hinj : (bl.filterMap (·.1)).Nodup)
  (hB : AllB h (renL bl) (vtL bl) fr bl) (hT : AllT h (renL bl) (vtL bl) fr t L) (hR : ∀ t0, R ⟨tl t0 L, hl (bl.map (·.2)), bl.length, nt⟩) : WkS 0 ⟨t, h, n, nt⟩ R := by
 have hren : ∀ j i, renL bl j = some i → ∃ B, bl[j]? = some (some i, B) := fun j i e => by
  unfold renL at e
  split at e
  ·rename_i p hp; obtain ⟨o, B⟩ := p; simp only at e; subst e; exact ⟨B, hp⟩
  ·cases e
 refine wk_mk (n' := bl.length) (h' := hl (bl.map (·.2))) (ren := renL bl) (vt := vtL bl) (fr := fun i => i ∈ fr) L hnd
  { blk := fun j B' hj => ?_, inj := fun j k i hj hk => ?_, low := fun i hi => absurd hi (Nat.not_lt_zero _), top := fun j hj => ?_ } (AllT.at hT) fun t' ht => ?_
 ·unfold hl at hj
  rw [List.getElem?_map] at hj
  cases hp : bl[j]? with
  | none => rw [hp] at hj; cases hj
  | some p =>
   rw [hp] at hj
   simp only [Option.map_some, Option.some.injEq] at hj
   subst hj
   rcases hB.at hp with ⟨h1, h2⟩ | ⟨i, B, h1, h2, h3, h4, h5⟩
   ·exact .inl ⟨by simp only [renL, hp]; exact h1, by simp only [vtL, hp]; exact h1, h2⟩
   ·exact .inr ⟨i, B, by simp only [renL, hp]; exact h1, h2, h3.1, h3.2.1, h3.2.2, h4, h5.1.symm, h5.2⟩
 ·obtain ⟨B, hb⟩ := hren j i hj
  obtain ⟨C, hc⟩ := hren k i hk
  have gen : ∀ (bl : List (Option Nat × Blk)), (bl.filterMap (·.1)).Nodup → ∀ (j k : Nat) B C, bl[j]? = some (some i, B) → bl[k]? = some (some i, C) → j = k := by
   intro bl
   induction bl with
   | nil => intro _ j k B C h; simp at h
   | cons p l ih =>
    intro hn j k B C hj hk
    have hmem : ∀ (q : Nat) E, l[q]? = some (some i, E) → i ∈ l.filterMap (·.1) := fun q E hq => List.mem_filterMap.2 ⟨_, List.mem_of_getElem? hq, rfl⟩
    obtain ⟨o, E⟩ := p
    have hn' : (l.filterMap (·.1)).Nodup := by
     cases o with
     | none => simpa using hn
     | some x => simp only [List.filterMap_cons, List.nodup_cons] at hn; exact hn.2
    cases j with
    | zero =>
     cases k with
     | zero => rfl
     | succ k =>
      simp at hj hk
      obtain ⟨rfl, _⟩ := hj
      simp only [List.filterMap_cons, List.nodup_cons] at hn
      exact absurd (hmem k C hk) hn.1
    | succ j =>
     cases k with
     | zero =>
      simp at hj hk
      obtain ⟨rfl, _⟩ := hk
      simp only [List.filterMap_cons, List.nodup_cons] at hn
      exact absurd (hmem j B hj) hn.1
     | succ k => simp at hj hk; rw [ih hn' j k B C hj hk]
  exact gen bl hinj j k B C hb hc
 ·have hn : bl[j]? = none := List.getElem?_eq_none hj
  simp only [renL, vtL, hn]
  exact ⟨trivial, fun h => h⟩
 ·have := hR t'
  rwa [tl_at ht] at this
def chk {β : Type} (p : Prop) [Decidable p] (e : Option β) : Option β := if p then e else none
theorem chk_some {β : Type} {p : Prop} [Decidable p] {e : Option β} {r : β} (h : chk p e = some r) : p ∧ e = some r := by
 unfold chk at h
 split at h
 ·rename_i hp; exact ⟨hp, h⟩
 ·cases h
theorem chk_pos {β : Type} {p : Prop} [Decidable p] {e : Option β} (h : p) : chk p e = e := if_pos h
def idx {β : Type} [Inhabited β] (l : List β) (n : Int) : Option β := if 0 ≤ n ∧ n < l.length then some (l.getD n.toNat default) else none
theorem idx_some {β : Type} [Inhabited β] {l : List β} {n : Int} {x : β} (h : idx l n = some x) : 0 ≤ n ∧ n < l.length ∧ l.getD n.toNat default = x := by
 unfold idx at h
 split at h
 ·rename_i hp; injection h with h; exact ⟨hp.1, hp.2, h⟩
 ·cases h
theorem idx_map {β : Type} [Inhabited β] {l : List β} {n : Int} {x : β} (h : idx l n = some x) (f : β → List Dat) : (l.map f).getD n.toNat [] = f x := by
 obtain ⟨h1, h2, h3⟩ := idx_some h
 rw [getD_map f l _ _ default (by omega), h3]
theorem bind_some {α β : Type} {a : Option α} {f : α → Option β} {r : β} (h : a.bind f = some r) : ∃ x, a = some x ∧ f x = some r := Option.bind_eq_some_iff.1 h
theorem cond_t {β : Type} {b : Bool} {x y : Option β} {r : β} (c : b = true) (h : cond b x y = some r) : x = some r := by rw [c] at h; exact h
theorem cond_f {β : Type} {b : Bool} {x y : Option β} {r : β} (c : b = false) (h : cond b x y = some r) : y = some r := by rw [c] at h; exact h
open Classical in
noncomputable def nilq {α β : Type} (l : List α) (e1 e2 : Option β) : Option β := if l = [] then (if e1 = e2 then e1 else none) else e2
theorem nilq_some {α β : Type} {l : List α} {e1 e2 : Option β} {r : β} (h : nilq l e1 e2 = some r) : (l = [] → e1 = some r) ∧ e2 = some r := by
 unfold nilq at h
 split at h
 ·split at h
  ·rename_i h2; rw [← h2]; exact ⟨fun _ => h, h⟩
  ·cases h
 ·rename_i hl; exact ⟨fun e => absurd e hl, h⟩
theorem nilq_of {α β : Type} {l : List α} {e1 e2 : Option β} {r : β} (h1 : l = [] → e1 = some r) (h2 : e2 = some r) : nilq l e1 e2 = some r := by
 unfold nilq
 split
 ·rename_i h; rw [h1 h, h2, if_pos rfl]
 ·exact h2
theorem big_ex : ∃ n : Nat, n = 1000000000000000000 := ⟨_, rfl⟩
noncomputable def BIG : Nat := big_ex.choose
theorem BIG_eq : BIG = 1000000000000000000 := big_ex.choose_spec
end Go.Ab
