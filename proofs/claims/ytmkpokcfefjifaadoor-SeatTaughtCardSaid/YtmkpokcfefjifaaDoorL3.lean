import Derived.Test.YtmkpokcfefjifaaDoorL2
import Derived.Test.YtmkpokcfefjifaaDoorRows
import Derived.Maps.Keyed
import Derived.ProofKit
import Derived.LaidMore
import Derived.OpenShut
import Derived.Stop.Joined
set_option linter.unusedSectionVars false
/- What the listed variable gives. -/
namespace Go.Proofs.YtmkpokcfefjifaaDoor
open Go.ChangeShapes Go.WideShapes Go.ChangeAt Go.WideMaps Go.WideElems Go.RowKit Go.Ab
theorem gNumbers : Tryd.prog.globalNamed "catacomb/seat.numbers" = some 0 := by kernel_rfl
theorem tNumbers : (Tryd.prog.globals[0]?).map (·.type) = some 81 := by kernel_rfl
theorem numbers_at (k : Int) (zd : DataW Unit) : (Rows.laid_catacomb_seat_numbers (H := Unit)).atKey (.int .i64 k) zd = if k = 1 then .lit (.int .i64 3) else if k = 2 then .lit (.int .i64 2) else if k = 3 then .lit (.int .i64 4) else if k = 4 then .lit (.int .i64 3) else zd := by
  unfold Rows.laid_catacomb_seat_numbers DataW.atKey
  by_cases h1 : k = 1
  · subst h1; rfl
  by_cases h2 : k = 2
  · subst h2; rfl
  by_cases h3 : k = 3
  · subst h3; rfl
  by_cases h4 : k = 4
  · subst h4; rfl
  simp [List.find?, Lit.sameKey, h1, h2, h3, h4, Ne.symm h1, Ne.symm h2, Ne.symm h3, Ne.symm h4]
set_option maxRecDepth 100000 in
theorem gp_of_laid {W : World} (h : laidMetH Tryd.prog [("catacomb/seat.numbers", Rows.laid_catacomb_seat_numbers)] W) : Lay.gp W (fun b => b < W.heap.size) := by
  rw [MakeChecks.laidMetH_plain _ _ _ (by kernel_rfl)] at h
  obtain ⟨ps, ⟨g0, t0, cs0, f0, p0, q0, hg0, ht0, hv0, hd0, _⟩, _⟩ := h
  obtain rfl := Option.some.inj (gNumbers.symm.trans hg0)
  obtain rfl := Option.some.inj (tNumbers.symm.trans ht0)
  generalize hD : (Rows.laid_catacomb_seat_numbers : DataW Unit) = dD at hd0
  rcases open_map Tryd.underlying81 hd0 with ⟨_, hx⟩ | ⟨bm, es, clock, m, rfl, hcs, hb, _, F, hx⟩
  · rw [← hD] at hx
    simp [Rows.laid_catacomb_seat_numbers] at hx
  simp only [Prod.mk.injEq] at hx
  have hcell : W.cell? ⟨0, 0, none⟩ = some (.map (some bm)) := by
    have := World.var?_cell hg0 hv0 0
    rw [Array.eq_one_of_toList hcs] at this
    simpa using this
  have hlt : 0 < W.heap.size := World.block_lt_of_cell? W _ hcell
  have hbl : bm < W.heap.size := by
    rcases Nat.lt_or_ge bm W.heap.size with h | h
    · exact h
    · rw [Array.getElem?_eq_none h] at hb; cases hb
  refine ⟨hlt, _, hcell, bm, rfl, hbl, hbl, ?_⟩
  intro w' hw' k hk
  have hb' : w'.heap[bm]? = some (.map es clock) := hw'.trans hb
  have zero : (zeroValue 3).run Tryd.prog w' = .ok (.int .i64 0) w' := by kernel_rfl
  rcases Maps.fit_look true (Maps.int_keyed Tryd.underlying3) Tryd.underlying81 zero hb' F (Maps.keyOf_int_mk Tryd.underlying3 hk) with ⟨hrun, _, hat⟩ | ⟨e0, y, _, _, hrun, hR, hat, _⟩
  · have := hat .nil
    rw [← hx.1, ← hD, numbers_at] at this
    rw [hrun]
    have e : numOf k = 0 ∧ isKind k = false := by
      unfold numOf isKind
      by_cases h1 : k = 1 <;> by_cases h2 : k = 2 <;> by_cases h3 : k = 3 <;> by_cases h4 : k = 4 <;> simp_all
    rw [e.1, e.2]; rfl
  · obtain ⟨r, hv, rfl, _⟩ := elemAt_int Tryd.underlying3 hR
    have := hat .nil
    rw [← hx.1, ← hD, numbers_at] at this
    rw [hrun, hv]
    have e : numOf k = r ∧ isKind k = true := by
      unfold numOf isKind
      by_cases h1 : k = 1 <;> by_cases h2 : k = 2 <;> by_cases h3 : k = 3 <;> by_cases h4 : k = 4 <;> simp_all
    rw [e.1, e.2]; rfl
end Go.Proofs.YtmkpokcfefjifaaDoor
