import Derived.Test.YtmkpokcfefjifaaDoorProg
import Derived.Test.YtmkpokcfefjifaaDoorA1
set_option linter.unusedSectionVars false
/- What is laid: the package variable numbers, and the map of who hears what. -/
namespace Go.Proofs.YtmkpokcfefjifaaDoor
open Go.Ab
/-- how many numbers a message of a kind has, and whether it is a kind -/
def numOf (k : Int) : Int := if k = 1 then 3 else if k = 2 then 2 else if k = 3 then 4 else if k = 4 then 3 else 0
def isKind (k : Int) : Bool := k == 1 || k == 2 || k == 3 || k == 4
/-- a block of maps answers so, in whatever world holds it -/
def Tells (w : World) (b : Nat) : Nat → Prop
  | 0 => ∀ w' : World, w'.heap[b]? = w.heap[b]? → ∀ k : Int, (Lit.int .i64 k).wf = true → (Instr.lookup 81 (.map (some b)) (.int .i64 k) true).run Tryd.prog w' = .ok (.tuple #[.int .i64 (numOf k), .bool (isKind k)]) w'
  | 1 => ∀ w' : World, w'.heap[b]? = w.heap[b]? → ∀ k : Nat, 1 ≤ k → k ≤ 4 → (Instr.lookup 65 (.map (some b)) (.int .i64 (k : Int)) false).run Tryd.prog w' = .ok (.func (.func (38 + k)) #[] #[]) w'
  | _ => False
def gvD (n : Nat) (w : World) (D : Nat → Prop) (v : Value) : Prop := ∃ b, v = .map (some b) ∧ D b ∧ b < w.heap.size ∧ Tells w b n
theorem Tells.keep {w w' : World} {b n : Nat} (h : Tells w b n) (e : w'.heap[b]? = w.heap[b]?) : Tells w' b n := by
  match n, h with
  | 0, h => exact fun w2 e2 => h w2 (e2.trans e)
  | 1, h => exact fun w2 e2 => h w2 (e2.trans e)
  | n + 2, h => exact h.elim
theorem gvD.keep {n : Nat} {w w' : World} {D D' : Nat → Prop} {v : Value} (h : gvD n w D v) (he : Ext D w w') (hD : ∀ b, D b → b < w.heap.size → D' b) : gvD n w' D' v := by
  obtain ⟨b, rfl, h1, h2, h3⟩ := h
  exact ⟨b, rfl, hD b h1 h2, Nat.lt_of_lt_of_le h2 he.size, h3.keep (he.same b h1 h2)⟩
instance : Lay where
  gp w D := D 0 ∧ ∃ v, w.cell? ⟨0, 0, none⟩ = some v ∧ gvD 0 w D v
  gv := gvD
  gpk := fun {w w' D D'} h he hD => by
    obtain ⟨h0, v, hv, hg⟩ := h
    have hl : 0 < w.heap.size := World.block_lt_of_cell? w _ hv
    exact ⟨hD 0 h0 hl, v, he.cell h0 hv, hg.keep he hD⟩
  gvk := fun h he hD => h.keep he hD
  gv1 := fun {n w D v} h => by
    obtain ⟨b, rfl, _⟩ := h
    exact ⟨rfl, rfl⟩
end Go.Proofs.YtmkpokcfefjifaaDoor
