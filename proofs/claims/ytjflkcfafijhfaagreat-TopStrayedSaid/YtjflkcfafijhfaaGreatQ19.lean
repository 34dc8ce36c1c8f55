import Derived.RangeFuncCalls
import Derived.Shelf.Abstract
import Derived.Shelf.RegionOpen
import Derived.OwnWalkIn
import Derived.TacticsInMore
import Derived.LoopIn
import Derived.Test.YtjflkcfafijhfaaGreatQ18
import Derived.Test.YtjflkcfafijhfaaGreatQ17
set_option linter.unusedSectionVars false
/- slices.Values: its iterator, by hand. -/
set_option linter.unusedSimpArgs false
set_option linter.unusedVariables false
namespace Go.Proofs.YtjflkcfafijhfaaGreat
open Go.Ab Go.RowKit Go.Shelf Go.Proofs
attribute [local go_sem] Oper.semAt_some
theorem kept_ext {D U : Nat → Prop} {n : Nat} {A B : World} (h : Kept D U n A B) : Ext D A B := ⟨h.size, h.shape, fun b hd hl => h.same b hl (.inl hd)⟩
theorem YieldAt.mono' {F : Fence} {m : Nat} {P : Program} {l : Nat} {args : Array Value} {W : World} {R R' : Ending → World → Prop} (h : YieldAt F m P l args W R) (hr : ∀ e w, R e w → R' e w) : YieldAt F m P l args W R' := by
 obtain ⟨fn, tmps, assign, body, hy, hR⟩ := h
 exact ⟨fn, tmps, assign, body, hy, hR.mono hr⟩
end Go.Proofs.YtjflkcfafijhfaaGreat
