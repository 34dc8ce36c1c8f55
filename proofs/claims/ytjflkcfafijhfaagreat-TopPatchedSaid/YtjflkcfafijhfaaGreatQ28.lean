import Derived.Test.YtjflkcfafijhfaaGreatQ26
import Derived.Test.YtjflkcfafijhfaaGreatQ27
set_option linter.unusedSectionVars false
/- Pages laid over others, as a plain law. -/
set_option linter.unusedSimpArgs false
set_option linter.unusedVariables false
namespace Go.Proofs.YtjflkcfafijhfaaGreat
open Go.Ab Go.RowKit
def lastP (l : List Page) (x : Int) : Option Page := l.foldl (fun o p => if p.at_ = x then some p else o) none
def insP (p : Page) : List Page → List Page
 | [] => [p]
 | q :: l => if p.at_ < q.at_ then p :: q :: l else if p.at_ = q.at_ then p :: l else q :: insP p l
def laidP (all : List Page) : List Page := all.foldl (fun a p => insP p a) []
theorem insP_at (p : Page) (x : Int) : ∀ l : List Page, x ∈ (insP p l).map Page.at_ ↔ x = p.at_ ∨ x ∈ l.map Page.at_
 | [] => by simp [insP]
 | q :: l => by
  unfold insP
  split
  ·simp
  ·split
   ·rename_i h; simp [h]
   ·rw [List.map_cons, List.mem_cons, insP_at p x l, List.map_cons, List.mem_cons]
    exact ⟨fun h => by rcases h with h | h | h <;> simp [h], fun h => by rcases h with h | h | h <;> simp [h]⟩
theorem insP_rise (p : Page) : ∀ l : List Page, (l.map Page.at_).Pairwise (· < ·) → ((insP p l).map Page.at_).Pairwise (· < ·)
 | [], _ => by simp [insP]
 | q :: l, h => by
  have h' := h
  rw [List.map_cons, List.pairwise_cons] at h'
  unfold insP
  split
  ·rename_i hlt
   rw [List.map_cons, List.pairwise_cons]
   refine ⟨fun y hy => ?_, h⟩
   rw [List.map_cons, List.mem_cons] at hy
   rcases hy with rfl | hy
   ·exact hlt
   ·have := h'.1 y hy; omega
  ·split
   ·rename_i he
    rw [List.map_cons, List.pairwise_cons, he]
    exact h'
   ·rw [List.map_cons, List.pairwise_cons]
    refine ⟨fun y hy => ?_, insP_rise p l h'.2⟩
    rcases (insP_at p y l).1 hy with rfl | hy
    ·omega
    ·exact h'.1 y hy
theorem insP_mem (p : Page) : ∀ l : List Page, (l.map Page.at_).Pairwise (· < ·) → ∀ q ∈ insP p l, q = p ∨ (q ∈ l ∧ q.at_ ≠ p.at_)
 | [], _, q, hq => by simp [insP] at hq; exact .inl hq
 | r :: l, h, q, hq => by
  have h' := h
  rw [List.map_cons, List.pairwise_cons] at h'
  unfold insP at hq
  split at hq
  ·rename_i hlt
   rcases List.mem_cons.1 hq with rfl | hq
   ·exact .inl rfl
   ·refine .inr ⟨hq, ?_⟩
    rcases List.mem_cons.1 hq with rfl | hq
    ·omega
    ·have := h'.1 q.at_ (List.mem_map_of_mem hq); omega
  ·split at hq
   ·rename_i he
    rcases List.mem_cons.1 hq with rfl | hq
    ·exact .inl rfl
    ·exact .inr ⟨List.mem_cons_of_mem _ hq, by have := h'.1 q.at_ (List.mem_map_of_mem hq); omega⟩
   ·rcases List.mem_cons.1 hq with rfl | hq
    ·exact .inr ⟨List.mem_cons_self .., by omega⟩
    ·rcases insP_mem p l h'.2 q hq with h | h
     ·exact .inl h
     ·exact .inr ⟨List.mem_cons_of_mem _ h.1, h.2⟩
structure LaidInv (acc : List Page) (f : Int → Option Page) : Prop where
 rise : (acc.map Page.at_).Pairwise (· < ·)
 keys : ∀ x, x ∈ acc.map Page.at_ ↔ (f x).isSome = true
 val : ∀ q ∈ acc, f q.at_ = some q
theorem LaidInv.step {acc : List Page} {f : Int → Option Page} (h : LaidInv acc f) (p : Page) : LaidInv (insP p acc) (fun x => if p.at_ = x then some p else f x) where
 rise := insP_rise p acc h.rise
 keys := fun x => by
  rw [insP_at, h.keys]
  by_cases e : p.at_ = x
  ·simp [e]
  ·rw [if_neg e]; exact ⟨fun h => h.resolve_left fun k => e k.symm, .inr⟩
 val := fun q hq => by
  rcases insP_mem p acc h.rise q hq with rfl | ⟨h1, h2⟩
  ·rw [if_pos rfl]
  ·rw [if_neg fun e => h2 e.symm]; exact h.val q h1
theorem LaidInv.fold : ∀ (l : List Page) {acc : List Page} {f : Int → Option Page}, LaidInv acc f → LaidInv (l.foldl (fun a p => insP p a) acc) (fun x => l.foldl (fun o p => if p.at_ = x then some p else o) (f x))
 | [], _, _, h => h
 | p :: l, _, _, h => LaidInv.fold l (h.step p)
theorem laid_inv (all : List Page) : LaidInv (laidP all) (lastP all) := LaidInv.fold all ⟨List.Pairwise.nil, by simp, by simp⟩
theorem lastP_snoc (l : List Page) (p : Page) (x : Int) : lastP (l ++ [p]) x = if p.at_ = x then some p else lastP l x := by
 unfold lastP; rw [List.foldl_append]; rfl
theorem lastP_take {l : List Page} {k : Nat} {p : Page} (h : l[k]? = some p) (x : Int) : lastP (l.take (k + 1)) x = if p.at_ = x then some p else lastP (l.take k) x := by
 rw [List.take_add_one, h]; exact lastP_snoc _ _ _
theorem insP_len (p : Page) : ∀ l : List Page, (insP p l).length ≤ l.length + 1
 | [] => by simp [insP]
 | q :: l => by
  unfold insP
  split
  ·simp
  ·split
   ·simp
   ·have := insP_len p l; simp; omega
theorem laid_fold_len : ∀ (l acc : List Page), (l.foldl (fun a p => insP p a) acc).length ≤ acc.length + l.length
 | [], acc => by simp
 | p :: l, acc => by
  have := laid_fold_len l (insP p acc)
  have := insP_len p acc
  simp only [List.foldl_cons, List.length_cons]; omega
theorem laidP_len (all : List Page) : (laidP all).length ≤ all.length := by have := laid_fold_len all []; simpa [laidP] using this
theorem sort_perm {zs rs : List Int} (h : zs.Perm rs) (hr : rs.Pairwise (· < ·)) (hl : rs.length ≤ 12) : slices_Sort_f zs = some rs ∧ rs.length = zs.length := by
 have e : zs.length = rs.length := h.length_eq
 refine ⟨?_, e.symm⟩
 rw [sort_int zs (by omega)]
 congr 1
 have hp : (isort (fun a b : Int => decide (a < b)) [] zs).Perm rs := (isort_perm _ [] zs).trans h
 refine List.Perm.eq_of_pairwise (le := (· ≤ ·)) (fun a b _ _ h1 h2 => Int.le_antisymm h1 h2) (isort_sorted [] zs List.Pairwise.nil) (hr.imp fun h => Int.le_of_lt h) hp
end Go.Proofs.YtjflkcfafijhfaaGreat
