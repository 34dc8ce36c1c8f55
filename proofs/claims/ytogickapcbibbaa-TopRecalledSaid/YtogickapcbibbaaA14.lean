/- DERIVED. Regions that draw their order, where no operation writes: any order leads to the same. No program here. -/
import Derived.Test.YtogickapcbibbaaA13
import Derived.KernelRfl
namespace Go.Ab
open Go.RowKit

/-- values of quiet operations -/
def CallQ (P : Program) (σ : St) (i : Nat) (o : Oper) (fD : Dat) (argsD : List Dat) (K : Dat → Prop) : Prop :=
  ∀ f args ats, o.op = .call { callee := .value f, args := args, argTypes := ats } → σ.ev f = fD → args.toList.map σ.ev = argsD →
    ∃ r, (∀ σ2 : St, (∀ x ∈ o.op.operands, σ2.ev x = σ.ev x) → σ2.h = σ.h → σ2.n = σ.n → CallEff P σ2 i o { val := r }) ∧ K r
def stepQ (P : Program) (σ : St) (i : Nat) (o : Oper) (K : Dat → Prop) : Prop :=
  match o.op with
  | .call { callee := .value f, args, .. } => CallQ P σ i o (σ.ev f) (args.toList.map σ.ev) K
  | op => match evOp P σ i op with
    | some e => e.wr = [] ∧ e.side ∧ K e.val
    | none => False
def DQ (P : Program) (ops : List Oper) : List Oper → Nat → St → (St → Prop) → Prop
  | [], _, σ, Q => Q { σ with n := σ.n + 8 * ops.length }
  | o :: l, i, σ, Q => match o.guard with
    | none => stepQ P σ i o fun v => DQ P ops l (i + 1) (σ.put o.dst v) Q
    | some (j, want) => match gd ops σ j with
      | some (some b) => if b = want then stepQ P σ i o fun v => DQ P ops l (i + 1) (σ.put o.dst v) Q else DQ P ops l (i + 1) (σ.put o.dst (.oth undef)) Q
      | some none => DQ P ops l (i + 1) (σ.put o.dst (.oth undef)) Q
      | none => False

theorem DQ_nil {P : Program} {ops : List Oper} {i : Nat} {t : Nat → Dat} {h : Nat → Option Blk} {n nt : Nat} {Q : St → Prop} : DQ P ops [] i ⟨t, h, n, nt⟩ Q = Q ⟨t, h, n + 8 * ops.length, nt⟩ := rfl
theorem DQ_cons {P : Program} {ops l : List Oper} {o : Oper} {i : Nat} {t : Nat → Dat} {h : Nat → Option Blk} {n nt : Nat} {Q : St → Prop} : DQ P ops (o :: l) i ⟨t, h, n, nt⟩ Q = match o.guard with
    | none => stepQ P ⟨t, h, n, nt⟩ i o fun v => DQ P ops l (i + 1) ((⟨t, h, n, nt⟩ : St).put o.dst v) Q
    | some (j, want) => match gd ops ⟨t, h, n, nt⟩ j with
      | some (some b) => if b = want then stepQ P ⟨t, h, n, nt⟩ i o fun v => DQ P ops l (i + 1) ((⟨t, h, n, nt⟩ : St).put o.dst v) Q else DQ P ops l (i + 1) ((⟨t, h, n, nt⟩ : St).put o.dst (.oth undef)) Q
      | some none => DQ P ops l (i + 1) ((⟨t, h, n, nt⟩ : St).put o.dst (.oth undef)) Q
      | none => False := rfl

/-! what the order leaves open -/
def ons (o : Oper) : List Nat := (o.after.toList.filter fun e => Region.binds .any e).map (·.on)
def befs : List Oper → List (List Nat) → List (List Nat)
  | [], acc => acc
  | o :: l, acc => befs l (acc ++ [((ons o).flatMap fun k => k :: acc.getD k []).eraseDups])
def meets (ops : Array Oper) (x y : Oper) : Bool :=
  (match x.dst with | some d => (y.looksAt ops).contains d || y.dst == some d | none => false) || (match y.dst with | some d => (x.looksAt ops).contains d | none => false)
def stat (ops : Array Oper) : Bool :=
  let l := ops.toList
  let b := befs l []
  (List.range l.length).all fun j => match l[j]? with
    | some y => (ons y).all (fun k => decide (k < j)) && (List.range j).all fun i => match l[i]? with
      | some x => !meets ops x y || (b.getD j []).contains i
      | none => true
    | none => true

theorem befs_len : ∀ (l : List Oper) (acc : List (List Nat)), (befs l acc).length = acc.length + l.length
  | [], acc => by simp [befs]
  | o :: l, acc => by rw [befs, befs_len]; simp; omega
theorem befs_old : ∀ (l : List Oper) (acc : List (List Nat)) (j : Nat), j < acc.length → (befs l acc).getD j [] = acc.getD j []
  | [], acc, j, _ => rfl
  | o :: l, acc, j, h => by
    rw [befs, befs_old l _ j (by simp; omega)]
    simp [List.getD_eq_getElem?_getD, List.getElem?_append_left h]
theorem befs_at : ∀ (l : List Oper) (acc : List (List Nat)) (j : Nat) (o : Oper), l[j]? = some o → (∀ o ∈ l.mapIdx (fun i o => (i, o)), ∀ k ∈ ons o.2, k < acc.length + o.1) →
    (befs l acc).getD (acc.length + j) [] = ((ons o).flatMap fun k => k :: (befs l acc).getD k []).eraseDups
  | [], acc, j, o, h, _ => by simp at h
  | o' :: l, acc, 0, o, h, hk => by
    simp at h; subst h
    have hko : ∀ k ∈ ons o', k < acc.length := fun k hk' => by
      have := hk (0, o') (by simp) k hk'
      simpa using this
    rw [befs, befs_old l _ _ (by simp)]
    simp only [Nat.add_zero, List.getD_eq_getElem?_getD, List.getElem?_append_right (Nat.le_refl _), Nat.sub_self, List.getElem?_cons_zero, Option.getD_some]
    congr 1
    have : ∀ L : List Nat, (∀ k ∈ L, k < acc.length) → (L.flatMap fun k => k :: acc[k]?.getD []) = L.flatMap fun k => k :: (befs l (acc ++ [((ons o').flatMap fun k => k :: acc[k]?.getD []).eraseDups]))[k]?.getD [] := by
      intro L
      induction L with
      | nil => intro _; rfl
      | cons a L ih =>
        intro hL
        rw [List.flatMap_cons, List.flatMap_cons, ih (fun k hk => hL k (by simp [hk]))]
        have h1 := befs_old l (acc ++ [((ons o').flatMap fun k => k :: acc[k]?.getD []).eraseDups]) a (by have := hL a (by simp); simp; omega)
        simp only [List.getD_eq_getElem?_getD] at h1
        rw [h1, List.getElem?_append_left (hL a (by simp))]
    exact this _ hko
  | o' :: l, acc, j + 1, o, h, hk => by
    have := befs_at l (acc ++ [((ons o').flatMap fun k => k :: acc.getD k []).eraseDups]) j o (by simpa using h) (fun p hp k hk' => by
      have := hk (p.1 + 1, p.2) (by
        rw [List.mapIdx_cons]
        refine List.mem_cons_of_mem _ ?_
        obtain ⟨i, hi, rfl⟩ := List.mem_iff_getElem.1 hp
        simp at hi
        refine List.mem_iff_getElem.2 ⟨i, by simpa using hi, by simp⟩) k hk'
      simp at this ⊢
      omega)
    rw [befs]
    rw [List.length_append, List.length_singleton] at this
    rw [show acc.length + (j + 1) = acc.length + 1 + j by omega]
    exact this

section
variable {ops : Array Oper}
theorem stat_on (h : stat ops = true) {j : Nat} {y : Oper} (hy : ops[j]? = some y) : ∀ k ∈ ons y, k < j := by
  intro k hk
  have hj : j < ops.toList.length := by have := (Array.getElem?_eq_some_iff.1 hy).1; simpa using this
  have h1 := List.all_eq_true.1 h j (List.mem_range.2 hj)
  have hy' : ops.toList[j]? = some y := by simpa using hy
  rw [hy'] at h1
  simp only [Bool.and_eq_true] at h1
  have := List.all_eq_true.1 h1.1 k hk
  simpa using this
theorem stat_meets (h : stat ops = true) {i j : Nat} {x y : Oper} (hij : i < j) (hx : ops[i]? = some x) (hy : ops[j]? = some y) (hm : meets ops x y = true) : i ∈ (befs ops.toList []).getD j [] := by
  have hj : j < ops.toList.length := by have := (Array.getElem?_eq_some_iff.1 hy).1; simpa using this
  have h1 := List.all_eq_true.1 h j (List.mem_range.2 hj)
  have hy' : ops.toList[j]? = some y := by simpa using hy
  have hx' : ops.toList[i]? = some x := by simpa using hx
  rw [hy'] at h1
  simp only [Bool.and_eq_true] at h1
  have := List.all_eq_true.1 h1.2 i (List.mem_range.2 hij)
  rw [hx'] at this
  simp only [hm, Bool.not_true, Bool.false_or] at this
  simpa using this
/-- what is ahead of an operation, in a set that is closed -/
theorem bef_in (h : stat ops = true) {S : Nat → Prop} (hS : ∀ k y, S k → ops[k]? = some y → ∀ m ∈ ons y, S m) : ∀ (j : Nat) (y : Oper), ops[j]? = some y → (∀ m ∈ ons y, S m) → ∀ i ∈ (befs ops.toList []).getD j [], S i := by
  intro j
  induction j using Nat.strongRecOn with
  | _ j ih =>
    intro y hy hm i hi
    have hat := befs_at ops.toList [] j y (by simpa using hy) (fun p hp k hk => by
      obtain ⟨q, hq, rfl⟩ := List.mem_iff_getElem.1 hp
      simp at hq hk ⊢
      exact stat_on h (j := q) (by simp [hq]) k hk)
    simp only [List.length_nil, Nat.zero_add] at hat
    rw [hat] at hi
    have hi' : i ∈ (ons y).flatMap fun k => k :: (befs ops.toList []).getD k [] := List.mem_eraseDups.1 hi
    obtain ⟨k, hk, hik⟩ := List.mem_flatMap.1 hi'
    have hkj := stat_on h hy k hk
    have hSk := hm k hk
    rcases List.mem_cons.1 hik with e | e
    · rw [e]; exact hSk
    · have hkl : k < ops.size := Nat.lt_trans hkj (Array.getElem?_eq_some_iff.1 hy).1
      exact ih k hkj ops[k] (by simp [hkl]) (hS k _ hSk (by simp [hkl])) i e
end

/-- the operations of a set, done in their order -/
def runT (nt : Nat) (S : Nat → Bool) : List Oper → List Dat → Nat → (Nat → Dat) → Nat → Dat
  | o :: l, v :: vs, i, t => runT nt S l vs (i + 1) (if S i then ((⟨t, fun _ => none, 0, nt⟩ : St).put o.dst v).t else t)
  | _, _, _, t => t

def putT (nt : Nat) (t : Nat → Dat) (dst : Option Tmp) (v : Dat) : Nat → Dat := ((⟨t, fun _ => none, 0, nt⟩ : St).put dst v).t
theorem putT_at (nt : Nat) (t : Nat → Dat) (dst : Option Tmp) (v : Dat) (x : Nat) : putT nt t dst v x = if dst = some x ∧ x < nt then v else t x := St.put_t _ _ _ _
theorem put_eq (σ : St) (dst : Option Tmp) (v : Dat) : σ.put dst v = ⟨putT σ.nt σ.t dst v, σ.h, σ.n, σ.nt⟩ := by
  unfold putT St.put
  cases dst with
  | none => rfl
  | some d => simp only []; split <;> rfl

theorem runT_ext (nt : Nat) {S S2 : Nat → Bool} {x : Nat} : ∀ (l : List Oper) (vs : List Dat) (i : Nat) (t t2 : Nat → Dat), t x = t2 x → (∀ k o, l[k]? = some o → S (i + k) ≠ S2 (i + k) → o.dst ≠ some x) → runT nt S l vs i t x = runT nt S2 l vs i t2 x
  | [], vs, i, t, t2, h, _ => by cases vs <;> exact h
  | o :: l, [], i, t, t2, h, _ => h
  | o :: l, v :: vs, i, t, t2, h, hd => by
    rw [runT, runT]
    refine runT_ext nt l vs (i + 1) _ _ ?_ (fun k o' ho' hne => hd (k + 1) o' (by simpa using ho') (by rw [show i + (k + 1) = i + 1 + k by omega]; exact hne))
    have h0 := hd 0 o rfl
    simp only [Nat.add_zero] at h0
    by_cases e : S i = S2 i
    · rw [e]
      split
      · show putT nt t o.dst v x = putT nt t2 o.dst v x
        rw [putT_at, putT_at, h]
      · exact h
    · have hne := h0 e
      have p1 : putT nt t o.dst v x = t x := by rw [putT_at, if_neg (fun hh => hne hh.1)]
      have p2 : putT nt t2 o.dst v x = t2 x := by rw [putT_at, if_neg (fun hh => hne hh.1)]
      show (if S i then putT nt t o.dst v else t) x = (if S2 i then putT nt t2 o.dst v else t2) x
      split <;> split <;> simp only [p1, p2, h]
theorem runT_add (nt : Nat) {S S2 : Nat → Bool} {j : Nat} {oj : Oper} {vj : Dat} (hS2 : ∀ k, S2 k = (S k || k == j)) (hj : S j = false) : ∀ (l : List Oper) (vs : List Dat) (i : Nat) (t : Nat → Dat), i ≤ j → l[j - i]? = some oj → vs[j - i]? = some vj → vs.length = l.length →
    (∀ k o, l[k]? = some o → j < i + k → S (i + k) = true → ∀ d, oj.dst = some d → o.dst ≠ some d) → runT nt S2 l vs i t = putT nt (runT nt S l vs i t) oj.dst vj
  | [], vs, i, t, _, h, _, _, _ => by simp at h
  | o :: l, [], i, t, _, _, h, _, _ => by simp at h
  | o :: l, v :: vs, i, t, hij, ho, hv, hlen, hd => by
    rw [runT, runT]
    rcases Nat.lt_or_ge i j with hlt | hge
    · have hne : (i == j) = false := by simp; omega
      rw [hS2 i, hne, Bool.or_false]
      refine runT_add nt hS2 hj l vs (i + 1) _ (by omega) ?_ ?_ (by simpa using hlen) (fun k o' ho' hlt' hs => hd (k + 1) o' (by simpa using ho') (by omega) (by rw [show i + (k + 1) = i + 1 + k by omega]; exact hs))
      · rw [show j - i = (j - (i + 1)) + 1 by omega] at ho; simpa using ho
      · rw [show j - i = (j - (i + 1)) + 1 by omega] at hv; simpa using hv
    · have e : i = j := by omega
      subst e
      rw [Nat.sub_self] at ho hv
      simp at ho hv
      subst ho; subst hv
      rw [hS2 i, hj]
      simp only [beq_self_eq_true, Bool.or_true, if_true]
      -- the rest is the same in both, and does not write there
      have key : ∀ (l : List Oper) (vs : List Dat) (q : Nat) (t : Nat → Dat), i < q → (∀ k o', l[k]? = some o' → S (q + k) = true → ∀ d, o.dst = some d → o'.dst ≠ some d) →
          runT nt S2 l vs q (putT nt t o.dst v) = putT nt (runT nt S l vs q t) o.dst v := by
        intro l
        induction l with
        | nil => intro vs q t _ _; cases vs <;> rfl
        | cons p l ih =>
          intro vs q t hq hd'
          cases vs with
          | nil => rfl
          | cons u vs =>
            rw [runT, runT, hS2 q]
            have hqi : (q == i) = false := by simp; omega
            rw [hqi, Bool.or_false]
            have h0 := hd' 0 p rfl
            simp only [Nat.add_zero] at h0
            have e : (if S q then ((⟨putT nt t o.dst v, fun _ => none, 0, nt⟩ : St).put p.dst u).t else putT nt t o.dst v) = putT nt (if S q then ((⟨t, fun _ => none, 0, nt⟩ : St).put p.dst u).t else t) o.dst v := by
              cases hs : S q with
              | false => rfl
              | true =>
                simp only [if_true]
                funext x
                show putT nt (putT nt t o.dst v) p.dst u x = putT nt (putT nt t p.dst u) o.dst v x
                simp only [putT_at]
                by_cases e1 : p.dst = some x ∧ x < nt
                · rw [if_pos e1, if_neg (fun e2 => h0 hs x e2.1 e1.1), if_pos e1]
                · by_cases e2 : o.dst = some x ∧ x < nt
                  · rw [if_neg e1, if_pos e2, if_pos e2]
                  · rw [if_neg e1, if_neg e2, if_neg e2, if_neg e1]
            rw [e]
            exact ih vs (q + 1) _ (by omega) (fun k o' ho' hs => hd' (k + 1) o' (by simpa using ho') (by rw [show q + (k + 1) = q + 1 + k by omega]; exact hs))
      exact key l vs (i + 1) t (by omega) (fun k o' ho' hs => hd (k + 1) o' (by simpa using ho') (by omega) (by rw [show i + (k + 1) = i + 1 + k by omega]; exact hs))

theorem evOp_congr {P : Program} {σ σ2 : St} {i : Nat} {op : Op} (hn : σ2.n = σ.n) (hh : σ2.h = σ.h) (he : ∀ x ∈ op.operands, σ2.ev x = σ.ev x) (hs : ∀ cs b, op ≠ .select cs b) : evOp P σ2 i op = evOp P σ i op := by
  have hmap : ∀ l : List Operand, (∀ x ∈ l, σ2.ev x = σ.ev x) → l.map σ2.ev = l.map σ.ev := fun l hl => List.map_congr_left hl
  have hel : ∀ sz d, elems σ2 sz d = elems σ sz d := fun sz d => by unfold elems; rw [hh]
  cases op <;> simp only [Op.operands] at he <;> simp only [evOp]
  case move x => rw [he x (by simp)]
  case assign x => rw [he x (by simp)]
  case pick c a b => rw [he c (by simp), he a (by simp), he b (by simp)]
  case alloc e => rw [hn]
  case box e v => rw [he v (by simp), hn]
  case build t parts =>
    have : parts.toList.map (fun p => (p.1, σ2.ev p.2)) = parts.toList.map (fun p => (p.1, σ.ev p.2)) := List.map_congr_left fun p hp => by rw [he p.2 (by simp; exact ⟨p.1, by simpa using hp⟩)]
    rw [this]
  case buildSlice t len parts =>
    have h1 : ∀ p ∈ parts.toList, σ2.ev p.2 = σ.ev p.2 := fun p hp => he p.2 (by simp; exact ⟨p.1, by simpa using hp⟩)
    have : parts.toList.map (fun p => (σ2.ev p.2).cells) = parts.toList.map (fun p => (σ.ev p.2).cells) := List.map_congr_left fun p hp => by rw [h1 p hp]
    have h2 : (∀ p ∈ parts.toList, (σ2.ev p.2).cells.length = 0 ∨ True) := fun _ _ => .inr trivial
    rw [this, hn]
    have h3 : ∀ y : Nat, (∀ p ∈ parts.toList, (σ2.ev p.2).cells.length = y ∧ allOne (σ2.ev p.2).cells = true) = (∀ p ∈ parts.toList, (σ.ev p.2).cells.length = y ∧ allOne (σ.ev p.2).cells = true) := fun y => by
      apply propext
      constructor
      · intro h p hp; have := h p hp; rwa [h1 p hp] at this
      · intro h p hp; have := h p hp; rwa [← h1 p hp] at this
    simp only [h3]
  case load t a => rw [he a (by simp)]; simp only [evLoad, hh]
  case store t a v => rw [he a (by simp), he v (by simp)]; simp only [evStore, hh]
  case nilCheck x => rw [he x (by simp)]
  case binOp op t x y t' => rw [he x (by simp), he y (by simp)]
  case unOp op t x => rw [he x (by simp)]
  case convert s d x => rw [he x (by simp)]; simp only [evToStr, hel]
  case makeFunc f a b => rw [hmap a.toList (fun x hx => he x (by simp at hx ⊢; exact .inl hx)), hmap b.toList (fun x hx => he x (by simp at hx ⊢; exact .inr hx))]
  case makeSlice t l c => rw [he l (by simp), he c (by simp), hn]
  case slice t x lo hi mx =>
    cases mx with
    | none =>
      have h1 : lo.map σ2.ev = lo.map σ.ev := by cases lo with | none => rfl | some y => simp [he y (by simp)]
      have h2 : hi.map σ2.ev = hi.map σ.ev := by cases hi with | none => rfl | some y => simp [he y (by simp)]
      simp only [he x (by simp), h1, h2, hh]
    | some m => rfl
  case fieldAddr t x f => rw [he x (by simp)]
  case field t x f => rw [he x (by simp)]
  case indexAddr t x ix => rw [he x (by simp), he ix (by simp)]; simp only [evIndexAddr]
  case index t x ix => rw [he x (by simp), he ix (by simp)]
  case extract x k => rw [he x (by simp)]
  case call c =>
    obtain ⟨callee, args, ats⟩ := c
    cases callee with
    | builtin b =>
      simp only []
      rw [hmap args.toList (fun x hx => he x (by simp [Call.operands] at hx ⊢; exact hx))]
      unfold evBuiltin
      simp only [evAppend, evClear, hel, hh, hn]
    | value f => rfl
    | invoke r m => rfl

/-- what an operation is known to yield -/
def Fact (P : Program) (ops : List Oper) (σ : St) (i : Nat) (o : Oper) (v : Dat) : Prop :=
  (∃ w, (∀ σ2 : St, (∀ x ∈ o.op.operands, σ2.ev x = σ.ev x) → σ2.h = σ.h → σ2.n = σ.n → CallEff P σ2 i o { val := v }) ∧ w = true ∧ (match o.guard with | none => True | some (j, want) => gd ops σ j = some (some want))) ∨
  (v = .oth undef ∧ match o.guard with | none => False | some (j, want) => ∃ x, gd ops σ j = some x ∧ x ≠ some want)

theorem stepQ_fact {P : Program} {ops : List Oper} {σ : St} {i : Nat} {o : Oper} {K : Dat → Prop} (hsel : ∀ cs b, o.op ≠ .select cs b) (hg : match o.guard with | none => True | some (j, want) => gd ops σ j = some (some want)) (h : stepQ P σ i o K) : ∃ v, Fact P ops σ i o v ∧ K v := by
  unfold stepQ at h
  split at h
  · rename_i f args ats ho
    obtain ⟨r, hr, hk⟩ := h _ _ _ ho rfl rfl
    exact ⟨r, .inl ⟨true, hr, rfl, hg⟩, hk⟩
  · split at h
    · rename_i e he
      obtain ⟨hw, hs, hk⟩ := h
      refine ⟨e.val, .inl ⟨true, fun σ2 h1 h2 h3 => ?_, rfl, hg⟩, hk⟩
      intro X S S' hn hS hS'
      have he2 : evOp P σ2 i o.op = some e := by rw [evOp_congr h3 h2 h1 hsel]; exact he
      have := evOp_sound (X := X) he2 hs hn hS hS'
      rw [St.app_nil hw] at this
      rw [St.app_nil rfl]
      exact this
    · exact h.elim

theorem DQ_facts {P : Program} {ops : List Oper} {Q : St → Prop} : ∀ (l : List Oper) (i : Nat) (t : Nat → Dat) (h : Nat → Option Blk) (n nt : Nat), (∀ o ∈ l, ∀ cs b, o.op ≠ .select cs b) → DQ P ops l i ⟨t, h, n, nt⟩ Q →
    ∃ vs : List Dat, vs.length = l.length ∧ (∀ j o v, l[j]? = some o → vs[j]? = some v → Fact P ops ⟨runT nt (fun k => decide (k < i + j)) l vs i t, h, n, nt⟩ (i + j) o v) ∧ Q ⟨runT nt (fun _ => true) l vs i t, h, n + 8 * ops.length, nt⟩
  | [], i, t, h, n, nt, _, hd => ⟨[], rfl, fun j o v ho => by simp at ho, hd⟩
  | o :: l, i, t, h, n, nt, hsel, hd => by
    have fin : ∀ v, Fact P ops ⟨t, h, n, nt⟩ i o v → DQ P ops l (i + 1) ((⟨t, h, n, nt⟩ : St).put o.dst v) Q → ∃ vs : List Dat, vs.length = (o :: l).length ∧
        (∀ j o' v, (o :: l)[j]? = some o' → vs[j]? = some v → Fact P ops ⟨runT nt (fun k => decide (k < i + j)) (o :: l) vs i t, h, n, nt⟩ (i + j) o' v) ∧ Q ⟨runT nt (fun _ => true) (o :: l) vs i t, h, n + 8 * ops.length, nt⟩ := fun v hf hq => by
      rw [put_eq] at hq
      obtain ⟨vs, h1, h2, h3⟩ := DQ_facts l (i + 1) _ h n nt (fun o ho => hsel o (by simp [ho])) hq
      refine ⟨v :: vs, by simp [h1], fun j o' v' ho' hv' => ?_, ?_⟩
      · cases j with
        | zero =>
          simp at ho' hv'
          subst ho'; subst hv'
          have : runT nt (fun k => decide (k < i + 0)) (o :: l) (v :: vs) i t = t := by
            have none : ∀ (l : List Oper) (vs : List Dat) (q : Nat) (t : Nat → Dat), i ≤ q → runT nt (fun k => decide (k < i + 0)) l vs q t = t := by
              intro l
              induction l with
              | nil => intro vs q t _; cases vs <;> rfl
              | cons p l ih =>
                intro vs q t hq
                cases vs with
                | nil => rfl
                | cons u vs =>
                  rw [runT]
                  have : decide (q < i + 0) = false := by simp; omega
                  rw [this]
                  exact ih vs (q + 1) t (by omega)
            exact none _ _ _ _ (Nat.le_refl _)
          rw [this]
          exact hf
        | succ j =>
          have := h2 j o' v' (by simpa using ho') (by simpa using hv')
          rw [show i + 1 + j = i + (j + 1) by omega] at this
          rw [runT]
          have e : decide (i < i + (j + 1)) = true := by simp
          simp only [e, if_true]
          exact this
      · rw [runT]; exact h3
    unfold DQ at hd
    split at hd
    · rename_i hg
      obtain ⟨v, hf, hk⟩ := stepQ_fact (ops := ops) (hsel o (by simp)) (by rw [hg]; trivial) hd
      exact fin v hf hk
    · rename_i j want hg
      split at hd
      · rename_i b hgd
        split at hd
        · rename_i hbw
          subst hbw
          obtain ⟨v, hf, hk⟩ := stepQ_fact (ops := ops) (hsel o (by simp)) (by rw [hg]; exact hgd) hd
          exact fin v hf hk
        · rename_i hbw
          exact fin _ (.inr ⟨rfl, by rw [hg]; exact ⟨_, hgd, fun e => hbw (by injection e)⟩⟩) hd
      · rename_i hgd
        exact fin _ (.inr ⟨rfl, by rw [hg]; exact ⟨_, hgd, fun e => by cases e⟩⟩) hd
      · exact hd.elim

theorem drawR_of {P : Program} (hm : P.follows .mixedOrders = true) {l : List Oper} {σ : St} {Q : St → Prop} (hst : stat l.toArray = true) (hsel : l.all (fun o => match o.op with | .select .. => false | _ => true) = true) (h : DQ P l l 0 σ Q) : DrawR P l σ Q := by
  intro X id Q' hQ' a w φ D hs
  obtain ⟨t, hp, n, nt⟩ := σ
  have hsel' : ∀ o ∈ l, ∀ cs b, o.op ≠ .select cs b := fun o ho cs b e => by
    have := List.all_eq_true.1 hsel o ho
    rw [e] at this
    cases this
  obtain ⟨vs, hlen, hfacts, hq⟩ := DQ_facts l 0 t hp n nt hsel' h
  have hops : l.toArray.toList = l := by simp
  -- any order: a set S has been done
  have main : ∀ (fuel : Nat) (listed : Array Bool) (S : Nat → Bool) (a : Act) (w : World) (φ : Pl) (D : Nat → Prop), listed.size = l.length → (∀ k, S k = listed.getD k false) →
      (∀ k y, S k = true → l[k]? = some y → ∀ m ∈ ons y, S m = true) → fuel = ((List.range l.length).filter fun k => !S k).length → Sim X (fun k => S k = true) ⟨runT nt S l vs 0 t, hp, n, nt⟩ a w φ D →
      wpAny P .any l.toArray (Con X Q') fuel listed a w := by
    intro fuel
    induction fuel with
    | zero =>
      intro listed S a w φ D hsz hS hcl hf hsim
      have hall : ∀ k, k < l.length → S k = true := fun k hk => by
        have : ((List.range l.length).filter fun k => !S k) = [] := List.eq_nil_of_length_eq_zero hf.symm
        have := List.filter_eq_nil_iff.1 this k (List.mem_range.2 hk)
        simpa using this
      refine ⟨?_, ?_⟩
      · unfold Region.ready
        refine List.filter_eq_nil_iff.2 fun k hk => ?_
        have hk' : k < l.length := by simpa using hk
        have := hall k hk'
        rw [hS k] at this
        have hb : k < listed.size := by omega
        simp only [Array.getD_eq_getD_getElem?, Array.getElem?_eq_getElem hb, Option.getD_some] at this ⊢
        simp [this]
      · have e : runT nt S l vs 0 t = runT nt (fun _ => true) l vs 0 t := by
          funext x
          refine runT_ext nt l vs 0 t t rfl (fun k o ho hne => ?_)
          exact absurd (hall (0 + k) (by rw [Nat.zero_add]; exact (List.getElem?_eq_some_iff.1 ho).1)) hne
        rw [e] at hsim
        refine ⟨_, φ, D, hQ' _ hq, hsim.bump (m := 8 * l.length) (fun j hj => ?_)⟩
        rw [hS j] at hj
        have : j < listed.size := by
          rcases Nat.lt_or_ge j listed.size with h | h
          · exact h
          · simp [Array.getD_eq_getD_getElem?, Array.getElem?_eq_none h] at hj
        omega
    | succ fuel ih =>
      intro listed S a w φ D hsz hS hcl hf hsim
      have hex : ∃ k, k < l.length ∧ S k = false := by
        have : ((List.range l.length).filter fun k => !S k) ≠ [] := fun e => by rw [e] at hf; cases hf
        obtain ⟨k, hk⟩ := List.exists_mem_of_ne_nil _ this
        have := List.mem_filter.1 hk
        exact ⟨k, List.mem_range.1 this.1, by simpa using this.2⟩
      refine ⟨fun hr => ?_, fun j hj => ?_⟩
      · -- the least that is not done is ready
        exfalso
        have least : ∀ k, k < l.length → S k = false → ∃ k, k < l.length ∧ S k = false ∧ ∀ m, m < k → S m = true := by
          intro k
          induction k using Nat.strongRecOn with
          | _ k ihk =>
            intro hk hsk
            by_cases hmm : ∃ m, m < k ∧ S m = false
            · obtain ⟨m, hmk, hsm⟩ := hmm
              exact ihk m hmk (by omega) hsm
            · exact ⟨k, hk, hsk, fun m hmk => by cases hsm : S m with | true => rfl | false => exact absurd ⟨m, hmk, hsm⟩ hmm⟩
        obtain ⟨k0, hk0, hs0⟩ := hex
        obtain ⟨k, hk, hsk, hmin⟩ := least k0 hk0 hs0
        have hmem : k ∈ Region.ready .any l.toArray listed := by
          unfold Region.ready
          refine List.mem_filter.2 ⟨by simpa using hk, ?_⟩
          have hb : k < listed.size := by omega
          have h1 : listed[k] = false := by
            have := hS k
            rw [hsk] at this
            simpa [Array.getD_eq_getD_getElem?, Array.getElem?_eq_getElem hb] using this.symm
          have h2 : l[k]? = some l[k] := List.getElem?_eq_getElem hk
          simp only [Array.getD_eq_getD_getElem?, Array.getElem?_eq_getElem hb, Option.getD_some, h1, Bool.not_false, Bool.true_and, List.getElem?_toArray, h2, Option.map_some]
          rw [Array.all_eq_true_iff_forall_mem]
          intro e he
          cases hbd : Region.binds .any e with
          | false => rfl
          | true =>
            simp only [Bool.not_true, Bool.false_or]
            have hon : e.on ∈ ons l[k] := List.mem_map.2 ⟨e, List.mem_filter.2 ⟨by simpa using he, hbd⟩, rfl⟩
            have hlt := stat_on hst (j := k) (by simp [hk]) e.on hon
            have := hmin e.on hlt
            rw [hS e.on, Array.getD_eq_getD_getElem?] at this
            exact this
        rw [hr] at hmem
        cases hmem
      · have hj' := List.mem_filter.1 hj
        have hjl : j < l.length := by simpa using hj'.1
        have hjb : j < listed.size := by omega
        have h2 : l[j]? = some l[j] := List.getElem?_eq_getElem hjl
        have hready := hj'.2
        simp only [Array.getD_eq_getD_getElem?, Array.getElem?_eq_getElem hjb, Option.getD_some, List.getElem?_toArray, h2, Option.map_some, Bool.and_eq_true, Bool.not_eq_true'] at hready
        obtain ⟨hlj, hafter⟩ := hready
        have hSj : S j = false := by rw [hS j, Array.getD_eq_getD_getElem?, Array.getElem?_eq_getElem hjb]; simpa using hlj
        have hons : ∀ m ∈ ons l[j], S m = true := fun m hm => by
          obtain ⟨e, he, rfl⟩ := List.mem_map.1 hm
          obtain ⟨he1, he2⟩ := List.mem_filter.1 he
          have := Array.all_eq_true_iff_forall_mem.1 hafter e (by simpa using he1)
          rw [he2] at this
          simp only [Bool.not_true, Bool.false_or] at this
          rw [hS e.on, Array.getD_eq_getD_getElem?]; exact this
        have hopj : l.toArray[j]? = some l[j] := by simp [hjl]
        have hbef := bef_in hst (S := fun k => S k = true) (fun k y hk hy => hcl k y hk (by simpa using hy)) j l[j] hopj hons
        have hlater : ∀ k y, l[k]? = some y → j < k → S k = true → ∀ (hm : meets l.toArray l[j] y = true), False := fun k y hy hjk hsk hm => by
          have h3 := stat_meets hst hjk hopj (by simpa using hy) hm
          have := bef_in hst (S := fun k => S k = true) (fun k y hk hy => hcl k y hk (by simpa using hy)) k y (by simpa using hy) (hcl k y hsk hy) j h3
          rw [hSj] at this
          cases this
        obtain ⟨vj, hvj⟩ : ∃ v, vs[j]? = some v := ⟨vs[j]'(by omega), List.getElem?_eq_getElem (by omega)⟩
        have hfact := hfacts j l[j] vj h2 hvj
        rw [Nat.zero_add] at hfact
        -- what it looks at is as in the written order
        have hagree : ∀ x, x ∈ l[j].looksAt l.toArray → runT nt S l vs 0 t x = runT nt (fun k => decide (k < j)) l vs 0 t x := fun x hx => by
          refine runT_ext nt l vs 0 t t rfl (fun k o ho hne hd => ?_)
          rw [Nat.zero_add] at hne
          rcases Nat.lt_trichotomy k j with hkj | hkj | hkj
          · have hm : meets l.toArray o l[j] = true := by
              unfold meets
              rw [hd]
              simp [hx]
            have := hbef k (stat_meets hst hkj (by simpa using ho) hopj hm)
            simp only [this, hkj, decide_true, ne_eq, not_true_eq_false] at hne
          · subst hkj; simp [hSj] at hne
          · have hsk : S k = true := by
              cases hsk : S k with
              | true => rfl
              | false => simp [hsk] at hne; omega
            refine hlater k o ho hkj hsk ?_
            unfold meets
            rw [hd]
            simp [hx]
        have hev : ∀ x ∈ l[j].op.operands, (⟨runT nt S l vs 0 t, hp, n, nt⟩ : St).ev x = (⟨runT nt (fun k => decide (k < j)) l vs 0 t, hp, n, nt⟩ : St).ev x := fun x hx => by
          cases x with
          | tmp y =>
            show runT nt S l vs 0 t y = _
            exact hagree y (List.mem_append.2 (.inl (List.mem_filterMap.2 ⟨.tmp y, by simpa using hx, rfl⟩)))
          | const v => rfl
          | global g => rfl
          | func f => rfl
        -- its guard too
        have hgd : ∀ g want, l[j].guard = some (g, want) → gd l ⟨runT nt S l vs 0 t, hp, n, nt⟩ g = gd l ⟨runT nt (fun k => decide (k < j)) l vs 0 t, hp, n, nt⟩ g := fun g want hg => by
          unfold gd
          split
          · rename_i d op ty pos af gu hd
            have : runT nt S l vs 0 t d = runT nt (fun k => decide (k < j)) l vs 0 t d := hagree d (List.mem_append.2 (.inr (by
              rw [hg]
              simp [hd])))
            simp only [this]
          · rfl
        let S2 : Nat → Bool := fun k => S k || k == j
        have hrun : runT nt S2 l vs 0 t = putT nt (runT nt S l vs 0 t) l[j].dst vj :=
          runT_add nt (fun k => rfl) hSj l vs 0 t (Nat.zero_le _) (by simp) (by simpa using hvj) hlen (fun k o ho hjk hsk d hd e => by
            rw [Nat.zero_add] at hjk hsk
            refine hlater k o ho hjk hsk ?_
            unfold meets
            rw [hd, e]
            simp)
        have next : ∀ a' w' φ' D', Sim X (fun k => S2 k = true) ((⟨runT nt S l vs 0 t, hp, n, nt⟩ : St).put l[j].dst vj) a' w' φ' D' → wpAny P .any l.toArray (Con X Q') fuel (listed.setIfInBounds j true) a' w' := fun a' w' φ' D' hs' => by
          rw [put_eq] at hs'
          simp only at hs'
          rw [← hrun] at hs'
          refine ih (listed.setIfInBounds j true) S2 a' w' φ' D' (by simpa using hsz) (fun k => ?_) (fun k y hk hy m hm => ?_) ?_ hs'
          · show (S k || k == j) = _
            rw [Array.getD_eq_getD_getElem?, Array.getElem?_setIfInBounds]
            by_cases e : j = k
            · subst e; simp [hjb]
            · rw [if_neg e, hS k, Array.getD_eq_getD_getElem?]
              have : (k == j) = false := by simp; exact fun h => e h.symm
              rw [this, Bool.or_false]
          · show (S m || m == j) = true
            have hk' : (S k || k == j) = true := hk
            rcases Bool.or_eq_true_iff.1 hk' with h3 | h3
            · rw [hcl k y h3 hy m hm]; rfl
            · have : k = j := by simpa using h3
              subst this
              rw [h2] at hy
              injection hy with hy
              subst hy
              rw [hons m hm]; rfl
          · have hcount : ((List.range l.length).filter fun k => !S k).length = ((List.range l.length).filter fun k => !S2 k).length + 1 := by
              have gen : ∀ L : List Nat, L.Nodup → j ∈ L → (L.filter fun k => !S k).length = (L.filter fun k => !S2 k).length + 1 := by
                intro L
                induction L with
                | nil => intro _ h; cases h
                | cons x L ihL =>
                  intro hnd hmem
                  obtain ⟨hx, hnd'⟩ := List.nodup_cons.1 hnd
                  by_cases e : x = j
                  · subst e
                    have h1 : (!S x) = true := by rw [hSj]; rfl
                    have h2 : (!S2 x) = false := by show (!(S x || x == x)) = false; simp
                    have same : (L.filter fun k => !S k) = L.filter fun k => !S2 k := List.filter_congr fun k hk => by
                      have : (k == x) = false := by simp; exact fun e => hx (e ▸ hk)
                      show (!S k) = !(S k || k == x)
                      rw [this, Bool.or_false]
                    rw [List.filter_cons, List.filter_cons, h1, h2, same]
                    simp
                  · have hm' : j ∈ L := by
                      rcases List.mem_cons.1 hmem with h | h
                      · exact absurd h.symm e
                      · exact h
                    have : (x == j) = false := by simpa using e
                    have h2 : (!S2 x) = !S x := by show (!(S x || x == j)) = !S x; rw [this, Bool.or_false]
                    rw [List.filter_cons, List.filter_cons, h2]
                    split
                    · simp [ihL hnd' hm']
                    · exact ihL hnd' hm'
              exact gen _ List.nodup_range (List.mem_range.2 hjl)
            omega
        unfold wpOp
        simp only [hopj]
        rcases hfact with ⟨_, hgo, _, hwant⟩ | ⟨hv, hwant⟩
        · have hw : Region.wanted l[j] (yielded l.toArray a.tmps) = true := by
            cases hg : l[j].guard with
            | none => simp [Region.wanted, hg]
            | some p =>
              obtain ⟨g, want⟩ := p
              rw [hg] at hwant
              simp only at hwant
              rw [← hgd g want hg] at hwant
              rw [gd_sound (ops := l.toArray) hg hsim (by rw [hops]; exact hwant)]
              simp
          rw [if_pos hw]
          left
          have := hgo ⟨runT nt S l vs 0 t, hp, n, nt⟩ hev rfl rfl X (fun k => S k = true) (fun k => S2 k = true) (by rw [hSj]; simp) (fun k hk => by show (S k || k == j) = true; rw [hk]; rfl) (by show (S j || j == j) = true; simp)
          rw [St.app_nil rfl] at this
          exact this a w φ D hsim _ _ next
        · cases hg : l[j].guard with
          | none => rw [hg] at hwant; exact hwant.elim
          | some p =>
            obtain ⟨g, want⟩ := p
            rw [hg] at hwant
            obtain ⟨x, hwant, hne⟩ := hwant
            rw [← hgd g want hg] at hwant
            have hw := gd_sound (ops := l.toArray) hg hsim (by rw [hops]; exact hwant)
            rw [if_neg (by rw [hw]; simp [hne])]
            refine next _ _ φ D ?_
            rw [hv]
            exact (hsim.val (.oth undef)).more fun k hk => by show (S k || k == j) = true; rw [hk]; rfl
  refine wp_region_any hm ?_
  have hdrew : Sim X S0 ⟨t, hp, n, nt⟩ a { w with drawn := w.drawn + 1 } φ D := by
    have hc : Chg w { w with drawn := w.drawn + 1 } none := ⟨rfl, rfl, rfl, Nat.le_refl _, fun _ _ => rfl, fun _ _ _ => rfl⟩
    exact { nt := hs.nt, df := hs.df, tm := fun i => RV.keep (PlLe.refl _) (fun _ h _ => h) (hc.ext fun _ h => by cases h) (hs.tm i), hs := hs.hs.grow hc }
  have hnone : ∀ (l : List Oper) (vs : List Dat) (q : Nat) (t : Nat → Dat), runT nt (fun _ => false) l vs q t = t := by
    intro l
    induction l with
    | nil => intro vs q t; cases vs <;> rfl
    | cons p l ih =>
      intro vs q t
      cases vs with
      | nil => rfl
      | cons u vs => rw [runT]; exact ih vs _ _
  refine main l.toArray.size (Array.replicate l.toArray.size false) (fun _ => false) a _ φ D (by simp) (fun k => ?_) (fun k y h => by cases h) (by simp only [Bool.not_false]; rw [List.filter_eq_self.2 (fun _ _ => rfl)]; simp) ?_
  · rw [Array.getD_eq_getD_getElem?, Array.getElem?_replicate]
    split <;> rfl
  · rw [hnone]
    exact hdrew.more fun j hj => hj.elim

theorem awp_drw {P : Program} {Q : Exit → St → Prop} {σ s : St} {id : Nat} {ops : Array Oper} (hm : P.follows .mixedOrders = true) (l : List Oper) (hl : ops.toList = l) (hst : stat l.toArray = true) (hsel : l.all (fun o => match o.op with | .select .. => false | _ => true) = true)
    (h : DQ P l l 0 σ (fun s' => s' = s)) (k : Q .normal s) : awp P (.region id ops true) Q σ := by
  refine awp_draw l hl ?_
  intro X id' Q' hQ'
  exact drawR_of hm hst hsel h X id' Q' fun σ' e => by rw [e]; exact hQ' s k

section
variable {P : Program} {σ : St} {i : Nat} {o : Oper} {F : FuncId} {first cap argsD ds : List Dat} {r : Dat} {K : Dat → Prop}
theorem callQ_go {fz : Bool} (pc : PC P F ds r) (hp : PurRs σ.h fz (first ++ argsD ++ cap) ds) (hfr : fz = true ∨ Scal r) (hK : K r) : CallQ P σ i o (.fn (.func F) first cap) argsD K := by
  intro f args ats ho hf hargs
  refine ⟨r, fun σ2 h1 h2 h3 => ?_, hK⟩
  have e1 : σ2.ev f = .fn (.func F) first cap := by rw [h1 f (by rw [ho]; simp [Op.operands, Call.operands]), hf]
  have e2 : args.toList.map σ2.ev = argsD := by
    rw [← hargs]
    exact List.map_congr_left fun x hx => h1 x (by rw [ho]; simp [Op.operands, Call.operands]; exact .inr (by simpa using hx))
  have := callR_go (P := P) (σ := σ2) (i := i) (o := o) (F := F) (K := fun _ => True) (fr := []) (fz := fz) pc (by simpa [frz, wrs, h2] using hp) hfr trivial
  obtain ⟨e, he, _⟩ := this f args ats ho e1 e2
  -- the effect is that value
  intro X S S' hn hS hS' 
  have key : CallEff P σ2 i o { val := r, wr := frz σ2.h [] } := by
    have h := callR_go (P := P) (σ := σ2) (i := i) (o := o) (F := F) (K := fun s => s = σ2.app o.dst { val := r, wr := frz σ2.h [] }) (fr := []) (fz := fz) pc (by simpa [frz, wrs, h2] using hp) hfr rfl
    obtain ⟨e', he', hk⟩ := h f args ats ho e1 e2
    intro X S S' q1 q2 q3
    have := he' X S S' q1 q2 q3
    rw [hk] at this
    exact this
  exact key X S S' hn hS hS'
theorem callQ_scal (pc : PC P F ds r) (hsc : Scal r) (hp : PurRs σ.h false (first ++ argsD ++ cap) ds) (hK : K r) : CallQ P σ i o (.fn (.func F) first cap) argsD K := callQ_go pc hp (.inr hsc) hK
theorem callQ_pure (pc : PC P F ds r) (hp : PurRs σ.h true (first ++ argsD ++ cap) ds) (hK : K r) : CallQ P σ i o (.fn (.func F) first cap) argsD K := callQ_go pc hp (.inl rfl) hK
end
end Go.Ab
