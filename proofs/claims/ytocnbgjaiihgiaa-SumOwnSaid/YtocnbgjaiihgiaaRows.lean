/-
  No cell of these rows narrows 'for every input' (looked for: loops, veiled, ifaces, maps, wideKeys, modest, calm, conditions, laid).
  DERIVED. THE GIVEN ROWS OF THIS SEAT. 6 by the template 'for every input the law returns true; each argument reads behind the call as it read before'; 0 by the template 'total and deterministic' (their statements: YtocnbgjaiihgiaaTotals.lean).
  GIVEN WITH THE SEED: the statements are not yours to turn. If you find one false, say at which input.
  Laid BY PROGRAM, IN A SANDBOX (cutbox-rows.mjs): the forced cells as the released guide's own fill.sh prints them over the translation 29a3c4c586b08cfc… (all of the seat's roots in one cut). By AI agents, Wed Nov 11 2026. No macro, syntax, notation, axiom, sorry.
-/
import Derived.Test.YtocnbgjaiihgiaaChecked
import GoSem.Claim
import GoSem.ClaimJoined
import GoSem.ClaimMapViews
import Derived.JoinedTies
import Derived.KernelRfl
namespace Go.Proofs.Ytocnbgjaiihgiaa
/- THE CELL 'sum', in the pinned program and in every row, IS THE sha256 OF THE DUMP (.gsa) THAT YtocnbgjaiihgiaaProg.lean LOADS. Nothing in Lean hashes anything: it is a label: what it is worth is what the hold of that sum in a sandbox is worth. -/
noncomputable def Try.pinned : Pinned := { name := "ytocnbgjaiihgiaa", sum := "29a3c4c586b08cfcebc8b3f47b2e73d09b3b11ff59fb4e395d8e89a0169f0b6c", checked := Try.checked }
namespace Rows
def none {H : Type} : Left H := { results := [], args := [] }

/-- 'catacomblaw02.SumTells': WHATEVER THE INPUT: true; the input reads as it did. -/
def sumTellsSpec : ChangeSpec := { name := "sumTells", fn := fun _ => fun
  | [d1, d2] => { results := [.lit (.bool true)], args := [d1, d2] }
  | _ => none }
def sumTellsRow : OpenClaim := { program := "ytocnbgjaiihgiaa", sum := "29a3c4c586b08cfcebc8b3f47b2e73d09b3b11ff59fb4e395d8e89a0169f0b6c", func := "catacomb/catacomblaw02.SumTells", spec := "sumTells", unfollowed := true, recurses := true, apart := false }
def SumTellsSaid : Prop := sumTellsRow.holds Try.pinned (OpenSpec.ofChange sumTellsSpec)

/-- ITS FALSE NEIGHBOUR: 'it returns false'. Refute it at one input. -/
def sumTellsWrong : ChangeSpec := { name := "sumTells", fn := fun _ => fun
  | [d1, d2] => { results := [.lit (.bool false)], args := [d1, d2] }
  | _ => none }
def SumTellsWrongFalsely : Prop := sumTellsRow.holds Try.pinned (OpenSpec.ofChange sumTellsWrong)

/-- 'catacomblaw02.SumBursts': WHATEVER THE INPUT: true; the input reads as it did. -/
def sumBurstsSpec : ChangeSpec := { name := "sumBursts", fn := fun _ => fun
  | [d1, d2, d3] => { results := [.lit (.bool true)], args := [d1, d2, d3] }
  | _ => none }
def sumBurstsRow : OpenClaim := { program := "ytocnbgjaiihgiaa", sum := "29a3c4c586b08cfcebc8b3f47b2e73d09b3b11ff59fb4e395d8e89a0169f0b6c", func := "catacomb/catacomblaw02.SumBursts", spec := "sumBursts", unfollowed := true, recurses := true, apart := false }
def SumBurstsSaid : Prop := sumBurstsRow.holds Try.pinned (OpenSpec.ofChange sumBurstsSpec)

/-- ITS FALSE NEIGHBOUR: 'it returns false'. Refute it at one input. -/
def sumBurstsWrong : ChangeSpec := { name := "sumBursts", fn := fun _ => fun
  | [d1, d2, d3] => { results := [.lit (.bool false)], args := [d1, d2, d3] }
  | _ => none }
def SumBurstsWrongFalsely : Prop := sumBurstsRow.holds Try.pinned (OpenSpec.ofChange sumBurstsWrong)

/-- 'catacomblaw02.SumEven': WHATEVER THE INPUT: true; the input reads as it did. -/
def sumEvenSpec : ChangeSpec := { name := "sumEven", fn := fun _ => fun
  | [d1, d2, d3] => { results := [.lit (.bool true)], args := [d1, d2, d3] }
  | _ => none }
def sumEvenRow : OpenClaim := { program := "ytocnbgjaiihgiaa", sum := "29a3c4c586b08cfcebc8b3f47b2e73d09b3b11ff59fb4e395d8e89a0169f0b6c", func := "catacomb/catacomblaw02.SumEven", spec := "sumEven", unfollowed := true, recurses := true, apart := false }
def SumEvenSaid : Prop := sumEvenRow.holds Try.pinned (OpenSpec.ofChange sumEvenSpec)

/-- ITS FALSE NEIGHBOUR: 'it returns false'. Refute it at one input. -/
def sumEvenWrong : ChangeSpec := { name := "sumEven", fn := fun _ => fun
  | [d1, d2, d3] => { results := [.lit (.bool false)], args := [d1, d2, d3] }
  | _ => none }
def SumEvenWrongFalsely : Prop := sumEvenRow.holds Try.pinned (OpenSpec.ofChange sumEvenWrong)

/-- 'catacomblaw02.SumFits': WHATEVER THE INPUT: true; the input reads as it did. -/
def sumFitsSpec : ChangeSpec := { name := "sumFits", fn := fun _ => fun
  | [d1, d2, d3] => { results := [.lit (.bool true)], args := [d1, d2, d3] }
  | _ => none }
def sumFitsRow : OpenClaim := { program := "ytocnbgjaiihgiaa", sum := "29a3c4c586b08cfcebc8b3f47b2e73d09b3b11ff59fb4e395d8e89a0169f0b6c", func := "catacomb/catacomblaw02.SumFits", spec := "sumFits", unfollowed := true, recurses := true, apart := false }
def SumFitsSaid : Prop := sumFitsRow.holds Try.pinned (OpenSpec.ofChange sumFitsSpec)

/-- ITS FALSE NEIGHBOUR: 'it returns false'. Refute it at one input. -/
def sumFitsWrong : ChangeSpec := { name := "sumFits", fn := fun _ => fun
  | [d1, d2, d3] => { results := [.lit (.bool false)], args := [d1, d2, d3] }
  | _ => none }
def SumFitsWrongFalsely : Prop := sumFitsRow.holds Try.pinned (OpenSpec.ofChange sumFitsWrong)

/-- 'catacomblaw02.SumParts': WHATEVER THE INPUT: true; the input reads as it did. -/
def sumPartsSpec : ChangeSpec := { name := "sumParts", fn := fun _ => fun
  | [d1, d2] => { results := [.lit (.bool true)], args := [d1, d2] }
  | _ => none }
def sumPartsRow : OpenClaim := { program := "ytocnbgjaiihgiaa", sum := "29a3c4c586b08cfcebc8b3f47b2e73d09b3b11ff59fb4e395d8e89a0169f0b6c", func := "catacomb/catacomblaw02.SumParts", spec := "sumParts", unfollowed := true, recurses := true, apart := false }
def SumPartsSaid : Prop := sumPartsRow.holds Try.pinned (OpenSpec.ofChange sumPartsSpec)

/-- ITS FALSE NEIGHBOUR: 'it returns false'. Refute it at one input. -/
def sumPartsWrong : ChangeSpec := { name := "sumParts", fn := fun _ => fun
  | [d1, d2] => { results := [.lit (.bool false)], args := [d1, d2] }
  | _ => none }
def SumPartsWrongFalsely : Prop := sumPartsRow.holds Try.pinned (OpenSpec.ofChange sumPartsWrong)

/-- 'catacomblaw02.SumOwn': WHATEVER THE INPUT: true; the input reads as it did. -/
def sumOwnSpec : ChangeSpec := { name := "sumOwn", fn := fun _ => fun
  | [d1, d2] => { results := [.lit (.bool true)], args := [d1, d2] }
  | _ => none }
def sumOwnRow : OpenClaim := { program := "ytocnbgjaiihgiaa", sum := "29a3c4c586b08cfcebc8b3f47b2e73d09b3b11ff59fb4e395d8e89a0169f0b6c", func := "catacomb/catacomblaw02.SumOwn", spec := "sumOwn", unfollowed := true, recurses := true, apart := false }
def SumOwnSaid : Prop := sumOwnRow.holds Try.pinned (OpenSpec.ofChange sumOwnSpec)

/-- ITS FALSE NEIGHBOUR: 'it returns false'. Refute it at one input. -/
def sumOwnWrong : ChangeSpec := { name := "sumOwn", fn := fun _ => fun
  | [d1, d2] => { results := [.lit (.bool false)], args := [d1, d2] }
  | _ => none }
def SumOwnWrongFalsely : Prop := sumOwnRow.holds Try.pinned (OpenSpec.ofChange sumOwnWrong)

/- THE SECOND FORM. 'bulk': how many values and letters a reading holds, each counted each time it is reached (what is shared counts as often as it is met; a slice's spare places count too). A statement '..UptoSaid' is the law's where the arguments, and the package variables that the reading takes, are together of bulk at most 1048576: NARROWER than '..Said'. Prove '..Said' where nothing that the law and all that it calls make is longer than what came in: it says more and counts as full. Else prove '..UptoSaid'. A law counts once. -/
mutual
def uptoBulk {H : Type} : DataW H → Nat
  | .lit (.string bytes) => bytes.length + 1
  | .lit _ => 1
  | .nil => 1
  | .ptr d => uptoBulk d + 1
  | .slice elems spare => uptoBulkAll elems + uptoBulkAll spare + 1
  | .agg parts => uptoBulkAll parts + 1
  | .iface _ d => uptoBulk d + 1
  | .map entries => uptoBulkEntries entries + 1
  | .held _ => 1
def uptoBulkAll {H : Type} : List (DataW H) → Nat
  | [] => 0
  | d :: r => uptoBulk d + uptoBulkAll r
def uptoBulkEntries {H : Type} : List (Lit × DataW H) → Nat
  | [] => 0
  | x :: r => uptoBulkEntry x + uptoBulkEntries r
def uptoBulkEntry {H : Type} : Lit × DataW H → Nat
  | (.string bytes, d) => bytes.length + uptoBulk d + 1
  | (_, d) => uptoBulk d + 1
 end
def uptoSmall : (H : Type) → List (DataW H) → Bool := fun _ ds => decide (uptoBulkAll ds ≤ 1048576)
def OpenSpec.upto (s : _root_.Go.ChangeSpec) : _root_.Go.OpenSpec := { _root_.Go.OpenSpec.ofChange s with cond := some uptoSmall }

/-- 'catacomblaw02.SumTells', WHERE WHAT IT READS IS OF BULK AT MOST 1048576: true; the input reads as it did. -/
def sumTellsUptoRow : OpenClaim := { program := "ytocnbgjaiihgiaa", sum := "29a3c4c586b08cfcebc8b3f47b2e73d09b3b11ff59fb4e395d8e89a0169f0b6c", func := "catacomb/catacomblaw02.SumTells", spec := "sumTells", unfollowed := true, recurses := true, apart := false, narrowed := true }
def SumTellsUptoSaid : Prop := sumTellsUptoRow.holds Try.pinned (OpenSpec.upto sumTellsSpec)

/-- 'catacomblaw02.SumBursts', WHERE WHAT IT READS IS OF BULK AT MOST 1048576: true; the input reads as it did. -/
def sumBurstsUptoRow : OpenClaim := { program := "ytocnbgjaiihgiaa", sum := "29a3c4c586b08cfcebc8b3f47b2e73d09b3b11ff59fb4e395d8e89a0169f0b6c", func := "catacomb/catacomblaw02.SumBursts", spec := "sumBursts", unfollowed := true, recurses := true, apart := false, narrowed := true }
def SumBurstsUptoSaid : Prop := sumBurstsUptoRow.holds Try.pinned (OpenSpec.upto sumBurstsSpec)

/-- 'catacomblaw02.SumEven', WHERE WHAT IT READS IS OF BULK AT MOST 1048576: true; the input reads as it did. -/
def sumEvenUptoRow : OpenClaim := { program := "ytocnbgjaiihgiaa", sum := "29a3c4c586b08cfcebc8b3f47b2e73d09b3b11ff59fb4e395d8e89a0169f0b6c", func := "catacomb/catacomblaw02.SumEven", spec := "sumEven", unfollowed := true, recurses := true, apart := false, narrowed := true }
def SumEvenUptoSaid : Prop := sumEvenUptoRow.holds Try.pinned (OpenSpec.upto sumEvenSpec)

/-- 'catacomblaw02.SumFits', WHERE WHAT IT READS IS OF BULK AT MOST 1048576: true; the input reads as it did. -/
def sumFitsUptoRow : OpenClaim := { program := "ytocnbgjaiihgiaa", sum := "29a3c4c586b08cfcebc8b3f47b2e73d09b3b11ff59fb4e395d8e89a0169f0b6c", func := "catacomb/catacomblaw02.SumFits", spec := "sumFits", unfollowed := true, recurses := true, apart := false, narrowed := true }
def SumFitsUptoSaid : Prop := sumFitsUptoRow.holds Try.pinned (OpenSpec.upto sumFitsSpec)

/-- 'catacomblaw02.SumParts', WHERE WHAT IT READS IS OF BULK AT MOST 1048576: true; the input reads as it did. -/
def sumPartsUptoRow : OpenClaim := { program := "ytocnbgjaiihgiaa", sum := "29a3c4c586b08cfcebc8b3f47b2e73d09b3b11ff59fb4e395d8e89a0169f0b6c", func := "catacomb/catacomblaw02.SumParts", spec := "sumParts", unfollowed := true, recurses := true, apart := false, narrowed := true }
def SumPartsUptoSaid : Prop := sumPartsUptoRow.holds Try.pinned (OpenSpec.upto sumPartsSpec)

/-- 'catacomblaw02.SumOwn', WHERE WHAT IT READS IS OF BULK AT MOST 1048576: true; the input reads as it did. -/
def sumOwnUptoRow : OpenClaim := { program := "ytocnbgjaiihgiaa", sum := "29a3c4c586b08cfcebc8b3f47b2e73d09b3b11ff59fb4e395d8e89a0169f0b6c", func := "catacomb/catacomblaw02.SumOwn", spec := "sumOwn", unfollowed := true, recurses := true, apart := false, narrowed := true }
def SumOwnUptoSaid : Prop := sumOwnUptoRow.holds Try.pinned (OpenSpec.upto sumOwnSpec)

end Rows
end Go.Proofs.Ytocnbgjaiihgiaa
