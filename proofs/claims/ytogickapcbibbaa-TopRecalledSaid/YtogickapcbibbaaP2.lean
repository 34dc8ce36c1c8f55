/- Leases, and what a cache keeps, as plain laws. -/
import Derived.Test.YtogickapcbibbaaP1
import Derived.Laws.StructEq
set_option linter.unusedSimpArgs false
set_option linter.unusedVariables false
namespace Go.Proofs.Ytogickapcbibbaa
open Go.Ab Go.RowKit
theorem big_add (k : Nat) (hk : k ≤ 1000) : ∃ m, BIG = m + k := ⟨BIG - k, by rw [BIG_eq]; omega⟩
/-! ## leases -/
theorem kept_L {l : List Lease} {so : Lease → Option Bool} {p : Lease → Bool} (hso : ∀ x ∈ l, so x = some (p x)) (hl : l.length ≤ 1000) : ∀ m (out : List Lease) k, l.length < m + k → k ≤ l.length → out.length ≤ k →
    lease_kept_L1 l so m out (k : Int) = some (out ++ (l.drop k).filter p) := by
  intro m
  induction m with
  | zero => intro out k h1 h2; omega
  | succ m ih =>
    intro out k h1 h2 h3
    rw [lease_kept_L1, cond_d]
    by_cases hk : k < l.length
    · rw [if_pos (by omega), idx_nat hk, Option.bind_some, hso _ (List.getElem_mem hk), Option.bind_some, drop_cons hk, chk_pos (by omega)]
      unfold lease_kept_J2
      rw [w64_succ (by omega)]
      cases hp : p l[k] with
      | true => rw [cond_true, ih _ (k + 1) (by omega) (by omega) (by simp; omega), List.filter_cons_of_pos hp, List.append_assoc]; rfl
      | false => rw [cond_false, ih _ (k + 1) (by omega) (by omega) (by omega), List.filter_cons_of_neg (by simp [hp])]
    · rw [if_neg (by omega), List.drop_of_length_le (by omega)]
      simp [lease_kept_J1]
theorem kept_eq {l : List Lease} {so : Lease → Option Bool} {p : Lease → Bool} (hso : ∀ x ∈ l, so x = some (p x)) (hl : l.length ≤ 1000) : lease_kept_f l so = some (l.filter p) := by
  unfold lease_kept_f
  exact kept_L hso hl BIG [] 0 (by rw [BIG_eq]; omega) (by omega) (by simp)
def isOver (now : Int) (x : Lease) : Bool := decide (now < x.until_)
theorem Over_eq {l : List Lease} {now : Int} (hl : l.length ≤ 1000) : lease_Over_f l now = some (l.filter (isOver now)) := by
  unfold lease_Over_f
  rw [kept_eq (so := fun y0_ => lease_Over_1_f y0_ now) (p := isOver now) (fun x _ => rfl) hl, Option.bind_some]
def notOf (c i : Int) (x : Lease) : Bool := (x.client != c) || (x.ino != i)
theorem Back_eq {l : List Lease} {c i : Int} (hl : l.length ≤ 1000) : lease_Back_f l c i = some (l.filter (notOf c i)) := by
  unfold lease_Back_f
  rw [kept_eq (so := fun y0_ => lease_Back_1_f y0_ c i) (p := notOf c i) (fun x _ => rfl) hl, Option.bind_some]
def whole : Span := ⟨0, 4096⟩
def clB (c ino kind : Int) (x : Lease) : Bool := (x.client != c) && ((x.ino == ino) && ((x.kind == 2) || (kind == 2)))
theorem clash_eq {x q : Lease} (hx : x.span = whole) (hq : q.span = whole) : lease_clash_f x q = some (clB q.client q.ino q.kind x) := by
  unfold lease_clash_f clB
  rw [hx, hq]
  have e : decide ((if whole.from_ > whole.from_ then whole.from_ else whole.from_) < (if whole.to_ < whole.to_ then whole.to_ else whole.to_)) = true := by decide
  rw [e]
  cases (x.kind == 2) <;> simp
def nsB (c ino kind : Int) (x : Lease) : Bool := (x.client != c) || ((x.ino != ino) || (x.kind != kind))
theorem ask2_eq {x q : Lease} (hx : x.span = whole) (hq : q.span = whole) : lease_Ask_2_f x q = some (nsB q.client q.ino q.kind x) := by
  unfold lease_Ask_2_f nsB
  rw [hx, hq]; simp
theorem one_eq {c ino kind u : Int} (h0 : 0 ≤ c) (h1 : c < 16) (h2 : 1 ≤ ino) (h3 : kind = 1 ∨ kind = 2) (h4 : 0 ≤ u) (h5 : u ≤ 4398046511104) : lease_one_f ⟨c, ino, kind, whole, u, 0⟩ = some true := by
  unfold lease_one_f lease_kinded_f lease_spanned_f whole
  have e : ((kind == 1) || (kind == 2)) = true := by rcases h3 with rfl | rfl <;> rfl
  simp [h0, h1, h2, h4, h5, e]
theorem who_L {r5 r1 : List Lease} {q : Lease} {many now : Int} (hl : r5.length ≤ 1000) : ∀ m (w : List Int) k, r5.length < m + k → k ≤ r5.length → w.length ≤ k →
    lease_Ask_L1 r5 r1 q many now m w (r5.length : Int) (k : Int) = lease_Ask_J2 r1 q many now (w ++ (r5.drop k).map (·.client)) := by
  intro m
  induction m with
  | zero => intro w k h1 h2; omega
  | succ m ih =>
    intro w k h1 h2 h3
    rw [lease_Ask_L1, cond_d]
    by_cases hk : k < r5.length
    · rw [if_pos (by omega), idx_nat hk, Option.bind_some, chk_pos (by omega), w64_succ (by omega), ih _ (k + 1) (by omega) (by omega) (by simp; omega), drop_cons hk, List.map_cons, List.append_assoc]; rfl
    · rw [if_neg (by omega), List.drop_of_length_le (by omega)]
      simp
def wants (c ino kind u : Int) : Lease := ⟨c, ino, kind, whole, u, 0⟩
/-- what is asked, where nobody clashes -/
theorem ask_had {L : List Lease} {now c ino kind n : Int} (hL : L.length ≤ 60) (hw : ∀ x ∈ L, x.span = whole) (h0 : 0 ≤ c) (h1 : c < 16) (h2 : 1 ≤ ino) (h3 : kind = 1 ∨ kind = 2) (hn : 1 ≤ n) (hn2 : n ≤ 64) (hw0 : 0 ≤ now) (hw1 : now ≤ 1000000000)
    (hc : (L.filter (isOver now)).filter (clB c ino kind) = []) :
    top_askR14_f L now c ino kind n = some ((L.filter (isOver now)).filter (nsB c ino kind) ++ [wants c ino kind (now + (n + 2))], true, []) := by
  have hO : (L.filter (isOver now)).length ≤ 60 := Nat.le_trans (List.length_filter_le _ _) hL
  have hwO : ∀ x ∈ L.filter (isOver now), x.span = whole := fun x hx => hw x (List.mem_filter.1 hx).1
  unfold top_askR14_f top_wholeR14_f
  rw [Option.bind_some]
  unfold lease_Ask_f
  simp only
  rw [show (⟨0, 4096⟩ : Span) = whole from rfl, one_eq h0 h1 h2 h3 (by omega) (by omega), Option.bind_some]
  unfold lease_Ask_J1
  have e : ((!true) || ((decide (n < 1)) || (decide (64 < n)))) = false := by simp; omega
  rw [e, cond_false, Over_eq (by omega), Option.bind_some, kept_eq (p := clB c ino kind) (fun x hx => by unfold lease_Ask_1_f; rw [clash_eq (hwO x hx) rfl, Option.bind_some]) (by omega), hc, Option.bind_some]
  have hwho : lease_Ask_L1 [] (L.filter (isOver now)) ⟨c, ino, kind, whole, 0, 0⟩ n now BIG [] ((([] : List Lease).length : Nat) : Int) 0 = lease_Ask_J2 (L.filter (isOver now)) ⟨c, ino, kind, whole, 0, 0⟩ n now [] :=
    who_L (r5 := []) (r1 := L.filter (isOver now)) (q := ⟨c, ino, kind, whole, 0, 0⟩) (many := n) (now := now) (by simp) BIG [] 0 (by rw [BIG_eq]; simp) (by simp) (by simp)
  rw [hwho]
  unfold lease_Ask_J2
  rw [show decide ((0 : Int) < ((([] : List Int).length : Nat) : Int)) = false by decide, cond_false]
  rw [kept_eq (p := nsB c ino kind) (fun x hx => ask2_eq (hwO x hx) rfl) (by omega), Option.bind_some]
  have hF : ((L.filter (isOver now)).filter (nsB c ino kind)).length ≤ 60 := Nat.le_trans (List.length_filter_le _ _) hO
  rw [cond_d, if_neg (by omega), Wait_eq hn hn2, Option.bind_some, chk_pos (by omega), w64 (by omega) (by omega), Option.bind_some]
  rfl
/-- what is asked, where some clash -/
theorem ask_not {L : List Lease} {now c ino kind n : Int} (hL : L.length ≤ 60) (hw : ∀ x ∈ L, x.span = whole) (h0 : 0 ≤ c) (h1 : c < 16) (h2 : 1 ≤ ino) (h3 : kind = 1 ∨ kind = 2) (hn : 1 ≤ n) (hn2 : n ≤ 64)
    {r : List Int} (hc : (L.filter (isOver now)).filter (clB c ino kind) ≠ []) (hr : lease_once_f (((L.filter (isOver now)).filter (clB c ino kind)).map (·.client)) = some r) :
    top_askR14_f L now c ino kind n = some (L.filter (isOver now), false, r) := by
  have hO : (L.filter (isOver now)).length ≤ 60 := Nat.le_trans (List.length_filter_le _ _) hL
  have hwO : ∀ x ∈ L.filter (isOver now), x.span = whole := fun x hx => hw x (List.mem_filter.1 hx).1
  unfold top_askR14_f top_wholeR14_f
  rw [Option.bind_some]
  unfold lease_Ask_f
  simp only
  rw [show (⟨0, 4096⟩ : Span) = whole from rfl, one_eq h0 h1 h2 h3 (by omega) (by omega), Option.bind_some]
  unfold lease_Ask_J1
  have e : ((!true) || ((decide (n < 1)) || (decide (64 < n)))) = false := by simp; omega
  rw [e, cond_false, Over_eq (by omega), Option.bind_some, kept_eq (p := clB c ino kind) (fun x hx => by unfold lease_Ask_1_f; rw [clash_eq (hwO x hx) rfl, Option.bind_some]) (by omega), Option.bind_some]
  generalize hC : (L.filter (isOver now)).filter (clB c ino kind) = C at hc hr ⊢
  have hCl : C.length ≤ 60 := by rw [← hC]; exact Nat.le_trans (List.length_filter_le _ _) hO
  have hwho : lease_Ask_L1 C (L.filter (isOver now)) ⟨c, ino, kind, whole, 0, 0⟩ n now BIG [] (C.length : Int) 0 = lease_Ask_J2 (L.filter (isOver now)) ⟨c, ino, kind, whole, 0, 0⟩ n now (C.map (·.client)) :=
    who_L (r5 := C) (r1 := L.filter (isOver now)) (q := ⟨c, ino, kind, whole, 0, 0⟩) (many := n) (now := now) (by omega) BIG [] 0 (by rw [BIG_eq]; omega) (by omega) (by simp)
  rw [hwho]
  unfold lease_Ask_J2
  have hp : 0 < C.length := List.length_pos_iff.2 hc
  rw [cond_d, if_pos (by simp; omega), hr, Option.bind_some, Option.bind_some]
/-! ## what is in order -/
theorem Compare_eq (x y : Int) : cmp_Compare_f x y = some (if x < y then -1 else if y < x then 1 else 0) := by
  unfold cmp_Compare_f cmp_isNaN_f
  simp only [Option.bind_some, bne_self_eq_false, cond_false, cond_d]
  split
  · rfl
  · split <;> rfl
theorem CompareS_same (x : ByteArray) : cmp_Compare_58_f x x = some 0 := by
  have h : ∀ l : List UInt8, Op.bytesLess l l = false := by
    intro l
    induction l with
    | nil => rfl
    | cons a l ih => simp [Op.bytesLess, ih]
  unfold cmp_Compare_58_f cmp_isNaN_71_f
  simp [h]
theorem CompareS_ex (x y : ByteArray) : ∃ r, cmp_Compare_58_f x y = some r := by
  unfold cmp_Compare_58_f cmp_isNaN_71_f
  simp only [Option.bind_some, cond_false]
  cases Op.bytesLess x.toList y.toList
  · cases (!(false || x.toList == y.toList)) <;> simp
  · simp
theorem or3 (a b c : Int) : cmp_Or_f [a, b, c] = some (if a ≠ 0 then a else if b ≠ 0 then b else c) := by
  unfold cmp_Or_f
  obtain ⟨m, hm⟩ := big_add 4 (by omega)
  rw [hm]
  have i0 : idx [a, b, c] 0 = some a := rfl
  have i1 : idx [a, b, c] 1 = some b := rfl
  have i2 : idx [a, b, c] 2 = some c := rfl
  have w0 : IntKind.wrap .i64 (0 + 1) = 1 := by decide
  have w1 : IntKind.wrap .i64 (1 + 1) = 2 := by decide
  have w2 : IntKind.wrap .i64 (2 + 1) = 3 := by decide
  have l3 : (([a, b, c].length : Nat) : Int) = 3 := rfl
  simp only [cmp_Or_L1, l3, i0, i1, i2, w0, w1, w2, Option.bind_some]
  simp only [show decide ((0 : Int) < 3) = true by decide, show decide ((1 : Int) < 3) = true by decide, show decide ((2 : Int) < 3) = true by decide, show decide ((3 : Int) < 3) = false by decide, cond_true, cond_false, cmp_Or_J1]
  by_cases ha : a = 0
  · subst ha
    by_cases hb : b = 0
    · subst hb
      by_cases hc : c = 0
      · subst hc; simp
      · have e : (c != 0) = true := by simpa using hc
        simp [e]
    · have e : (b != 0) = true := by simpa using hb
      simp [e, hb]
  · have e : (a != 0) = true := by simpa using ha
    simp [e, ha]
theorem order_eq (a b : Kept) : ∃ r, cmp_Compare_58_f a.name b.name = some r ∧ cache_order_f a b = some (if a.ino < b.ino then -1 else if b.ino < a.ino then 1 else if r ≠ 0 then r else if a.page < b.page then -1 else if b.page < a.page then 1 else 0) := by
  obtain ⟨r, hr⟩ := CompareS_ex a.name b.name
  refine ⟨r, hr, ?_⟩
  unfold cache_order_f
  rw [Compare_eq, hr, Compare_eq]
  simp only [Option.bind_some]
  rw [or3, Option.bind_some]
  congr 1
  by_cases h1 : a.ino < b.ino
  · simp [h1]
  · by_cases h2 : b.ino < a.ino
    · simp [h1, h2]
    · simp [h1, h2]
theorem order_lt {a b : Kept} (h : a.ino < b.ino) : cache_order_f a b = some (-1) := by
  obtain ⟨r, _, e⟩ := order_eq a b
  rw [e, if_pos h]
theorem order_gt {a b : Kept} (h : b.ino < a.ino) : cache_order_f a b = some 1 := by
  obtain ⟨r, _, e⟩ := order_eq a b
  rw [e, if_neg (by omega), if_pos h]
theorem order_same {a b : Kept} (h : a.ino = b.ino) (h2 : a.name = b.name) (h3 : a.page = b.page) : cache_order_f a b = some 0 := by
  obtain ⟨r, hr, e⟩ := order_eq a b
  rw [h2, CompareS_same] at hr
  injection hr with hr
  rw [e, if_neg (by omega), if_neg (by omega), if_neg (by omega), if_neg (by omega), if_neg (by omega)]
/-! ## a search in short rows -/
theorem bs_nil (t : Kept) (cmp : Kept → Kept → Option Int) : slices_BinarySearchFunc_f [] t cmp = some (0, false) := by
  unfold slices_BinarySearchFunc_f
  obtain ⟨m, hm⟩ := big_add 1 (by omega)
  rw [hm]
  simp [slices_BinarySearchFunc_L1, slices_BinarySearchFunc_J1]
def mid (a b : Int) : Int := IntKind.wrap .i64 (Int.fdiv (IntKind.wrap .u64 (IntKind.wrap .i64 (a + b))) (2 ^ (min 1 (IntKind.bits .u64))))
theorem bs_one {a t : Kept} {cmp : Kept → Kept → Option Int} {r : Int} (hr : cmp a t = some r) : slices_BinarySearchFunc_f [a] t cmp = some (if r < 0 then (1, false) else (0, r == 0)) := by
  unfold slices_BinarySearchFunc_f
  obtain ⟨m, hm⟩ := big_add 2 (by omega)
  rw [hm]
  have i0 : idx [a] 0 = some a := rfl
  have l1 : (([a].length : Nat) : Int) = 1 := rfl
  have m0 : (IntKind.wrap .i64 (Int.fdiv (IntKind.wrap .u64 (IntKind.wrap .i64 (0 + 1))) (2 ^ (min 1 (IntKind.bits .u64))))) = 0 := by decide
  have w0 : IntKind.wrap .i64 (0 + 1) = 1 := by decide
  have m0' : (IntKind.wrap .i64 (Int.fdiv (IntKind.wrap .u64 1) (2 ^ (min 1 (IntKind.bits .u64))))) = 0 := by decide
  simp only [slices_BinarySearchFunc_L1, slices_BinarySearchFunc_J1, l1, m0, m0', w0, i0, hr, Option.bind_some]
  simp only [show decide ((0 : Int) < 1) = true by decide, show decide ((1 : Int) < 1) = false by decide, show decide ((0 : Int) < 0) = false by decide, cond_true, cond_false, cond_d]
  split <;> rfl
theorem bs_two {a b t : Kept} {cmp : Kept → Kept → Option Int} {r s : Int} (hr : cmp a t = some r) (hs : cmp b t = some s) : slices_BinarySearchFunc_f [a, b] t cmp = some (if s < 0 then (2, false) else if r < 0 then (1, s == 0) else (0, r == 0)) := by
  unfold slices_BinarySearchFunc_f
  obtain ⟨m, hm⟩ := big_add 3 (by omega)
  rw [hm]
  have i0 : idx [a, b] 0 = some a := rfl
  have i1 : idx [a, b] 1 = some b := rfl
  have l1 : (([a, b].length : Nat) : Int) = 2 := rfl
  have m0 : (IntKind.wrap .i64 (Int.fdiv (IntKind.wrap .u64 (IntKind.wrap .i64 (0 + 2))) (2 ^ (min 1 (IntKind.bits .u64))))) = 1 := by decide
  have m1 : (IntKind.wrap .i64 (Int.fdiv (IntKind.wrap .u64 (IntKind.wrap .i64 (0 + 1))) (2 ^ (min 1 (IntKind.bits .u64))))) = 0 := by decide
  have m1' : (IntKind.wrap .i64 (Int.fdiv (IntKind.wrap .u64 1) (2 ^ (min 1 (IntKind.bits .u64))))) = 0 := by decide
  have w1 : IntKind.wrap .i64 (1 + 1) = 2 := by decide
  have w0 : IntKind.wrap .i64 (0 + 1) = 1 := by decide
  simp only [slices_BinarySearchFunc_L1, slices_BinarySearchFunc_J1, l1, m0, m1, m1', w0, w1, i0, i1, hr, hs, Option.bind_some]
  simp only [show decide ((0 : Int) < 2) = true by decide, show decide ((0 : Int) < 1) = true by decide, show decide ((1 : Int) < 2) = true by decide, show decide ((1 : Int) < 1) = false by decide, show decide ((2 : Int) < 2) = false by decide, show decide ((0 : Int) < 0) = false by decide, cond_true, cond_false, cond_d]
  split
  · rfl
  · split <;> rfl
end Go.Proofs.Ytogickapcbibbaa
