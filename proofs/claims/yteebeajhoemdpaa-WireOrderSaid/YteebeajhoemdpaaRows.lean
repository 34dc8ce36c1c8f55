/-
  No cell of these rows narrows 'for every input' (looked for: loops, veiled, ifaces, maps, wideKeys, modest, calm, conditions, laid).
  DERIVED. THE GIVEN ROWS OF THIS SEAT. 6 by the template 'for every input the law returns true; each argument reads behind the call as it read before'; 0 by the template 'total and deterministic' (their statements: YteebeajhoemdpaaTotals.lean).
  GIVEN WITH THE SEED: the statements are not yours to turn. If you find one false, say at which input.
  Laid BY PROGRAM, IN A SANDBOX (cutbox-rows.mjs): the forced cells as the released guide's own fill.sh prints them over the translation 1806bf21122473ed… (all of the seat's roots in one cut). By AI agents, Wed Nov 11 2026. No macro, syntax, notation, axiom, sorry.
-/
import Derived.Test.YteebeajhoemdpaaChecked
import GoSem.Claim
import GoSem.ClaimJoined
import GoSem.ClaimMapViews
import Derived.JoinedTies
import Derived.KernelRfl
namespace Go.Proofs.Yteebeajhoemdpaa
/- THE CELL 'sum', in the pinned program and in every row, IS THE sha256 OF THE DUMP (.gsa) THAT YteebeajhoemdpaaProg.lean LOADS. Nothing in Lean hashes anything: it is a label: what it is worth is what the hold of that sum in a sandbox is worth. -/
noncomputable def Try.pinned : Pinned := { name := "yteebeajhoemdpaa", sum := "1806bf21122473ed5d17428c24824718cd6f55ed725b5fee1ac24792ac3b417d", checked := Try.checked }
namespace Rows
def none {H : Type} : Left H := { results := [], args := [] }

/-- 'catacomblaw05.WireTells': WHATEVER THE INPUT: true; the input reads as it did. -/
def wireTellsSpec : ChangeSpec := { name := "wireTells", fn := fun _ => fun
  | [d1, d2, d3, d4, d5] => { results := [.lit (.bool true)], args := [d1, d2, d3, d4, d5] }
  | _ => none }
def wireTellsRow : OpenClaim := { program := "yteebeajhoemdpaa", sum := "1806bf21122473ed5d17428c24824718cd6f55ed725b5fee1ac24792ac3b417d", func := "catacomb/catacomblaw05.WireTells", spec := "wireTells", unfollowed := true, recurses := true, apart := false }
def WireTellsSaid : Prop := wireTellsRow.holds Try.pinned (OpenSpec.ofChange wireTellsSpec)

/-- ITS FALSE NEIGHBOUR: 'it returns false'. Refute it at one input. -/
def wireTellsWrong : ChangeSpec := { name := "wireTells", fn := fun _ => fun
  | [d1, d2, d3, d4, d5] => { results := [.lit (.bool false)], args := [d1, d2, d3, d4, d5] }
  | _ => none }
def WireTellsWrongFalsely : Prop := wireTellsRow.holds Try.pinned (OpenSpec.ofChange wireTellsWrong)

/-- 'catacomblaw05.WireCounts': WHATEVER THE INPUT: true; the input reads as it did. -/
def wireCountsSpec : ChangeSpec := { name := "wireCounts", fn := fun _ => fun
  | [d1, d2] => { results := [.lit (.bool true)], args := [d1, d2] }
  | _ => none }
def wireCountsRow : OpenClaim := { program := "yteebeajhoemdpaa", sum := "1806bf21122473ed5d17428c24824718cd6f55ed725b5fee1ac24792ac3b417d", func := "catacomb/catacomblaw05.WireCounts", spec := "wireCounts", unfollowed := true, recurses := true, apart := false }
def WireCountsSaid : Prop := wireCountsRow.holds Try.pinned (OpenSpec.ofChange wireCountsSpec)

/-- ITS FALSE NEIGHBOUR: 'it returns false'. Refute it at one input. -/
def wireCountsWrong : ChangeSpec := { name := "wireCounts", fn := fun _ => fun
  | [d1, d2] => { results := [.lit (.bool false)], args := [d1, d2] }
  | _ => none }
def WireCountsWrongFalsely : Prop := wireCountsRow.holds Try.pinned (OpenSpec.ofChange wireCountsWrong)

/-- 'catacomblaw05.WireOrder': WHATEVER THE INPUT: true; the input reads as it did. -/
def wireOrderSpec : ChangeSpec := { name := "wireOrder", fn := fun _ => fun
  | [d1, d2, d3] => { results := [.lit (.bool true)], args := [d1, d2, d3] }
  | _ => none }
def wireOrderRow : OpenClaim := { program := "yteebeajhoemdpaa", sum := "1806bf21122473ed5d17428c24824718cd6f55ed725b5fee1ac24792ac3b417d", func := "catacomb/catacomblaw05.WireOrder", spec := "wireOrder", unfollowed := true, recurses := true, apart := false }
def WireOrderSaid : Prop := wireOrderRow.holds Try.pinned (OpenSpec.ofChange wireOrderSpec)

/-- ITS FALSE NEIGHBOUR: 'it returns false'. Refute it at one input. -/
def wireOrderWrong : ChangeSpec := { name := "wireOrder", fn := fun _ => fun
  | [d1, d2, d3] => { results := [.lit (.bool false)], args := [d1, d2, d3] }
  | _ => none }
def WireOrderWrongFalsely : Prop := wireOrderRow.holds Try.pinned (OpenSpec.ofChange wireOrderWrong)

/-- 'catacomblaw05.WireBack': WHATEVER THE INPUT: true; the input reads as it did. -/
def wireBackSpec : ChangeSpec := { name := "wireBack", fn := fun _ => fun
  | [d1, d2] => { results := [.lit (.bool true)], args := [d1, d2] }
  | _ => none }
def wireBackRow : OpenClaim := { program := "yteebeajhoemdpaa", sum := "1806bf21122473ed5d17428c24824718cd6f55ed725b5fee1ac24792ac3b417d", func := "catacomb/catacomblaw05.WireBack", spec := "wireBack", unfollowed := true, recurses := true, apart := false }
def WireBackSaid : Prop := wireBackRow.holds Try.pinned (OpenSpec.ofChange wireBackSpec)

/-- ITS FALSE NEIGHBOUR: 'it returns false'. Refute it at one input. -/
def wireBackWrong : ChangeSpec := { name := "wireBack", fn := fun _ => fun
  | [d1, d2] => { results := [.lit (.bool false)], args := [d1, d2] }
  | _ => none }
def WireBackWrongFalsely : Prop := wireBackRow.holds Try.pinned (OpenSpec.ofChange wireBackWrong)

/-- 'catacomblaw05.WireSides': WHATEVER THE INPUT: true; the input reads as it did. -/
def wireSidesSpec : ChangeSpec := { name := "wireSides", fn := fun _ => fun
  | [d1, d2] => { results := [.lit (.bool true)], args := [d1, d2] }
  | _ => none }
def wireSidesRow : OpenClaim := { program := "yteebeajhoemdpaa", sum := "1806bf21122473ed5d17428c24824718cd6f55ed725b5fee1ac24792ac3b417d", func := "catacomb/catacomblaw05.WireSides", spec := "wireSides", unfollowed := true, recurses := true, apart := false }
def WireSidesSaid : Prop := wireSidesRow.holds Try.pinned (OpenSpec.ofChange wireSidesSpec)

/-- ITS FALSE NEIGHBOUR: 'it returns false'. Refute it at one input. -/
def wireSidesWrong : ChangeSpec := { name := "wireSides", fn := fun _ => fun
  | [d1, d2] => { results := [.lit (.bool false)], args := [d1, d2] }
  | _ => none }
def WireSidesWrongFalsely : Prop := wireSidesRow.holds Try.pinned (OpenSpec.ofChange wireSidesWrong)

/-- 'catacomblaw05.WireTo': WHATEVER THE INPUT: true; the input reads as it did. -/
def wireToSpec : ChangeSpec := { name := "wireTo", fn := fun _ => fun
  | [d1, d2] => { results := [.lit (.bool true)], args := [d1, d2] }
  | _ => none }
def wireToRow : OpenClaim := { program := "yteebeajhoemdpaa", sum := "1806bf21122473ed5d17428c24824718cd6f55ed725b5fee1ac24792ac3b417d", func := "catacomb/catacomblaw05.WireTo", spec := "wireTo", unfollowed := true, recurses := true, apart := false }
def WireToSaid : Prop := wireToRow.holds Try.pinned (OpenSpec.ofChange wireToSpec)

/-- ITS FALSE NEIGHBOUR: 'it returns false'. Refute it at one input. -/
def wireToWrong : ChangeSpec := { name := "wireTo", fn := fun _ => fun
  | [d1, d2] => { results := [.lit (.bool false)], args := [d1, d2] }
  | _ => none }
def WireToWrongFalsely : Prop := wireToRow.holds Try.pinned (OpenSpec.ofChange wireToWrong)

/- THE SECOND FORM. 'bulk': how many values and letters a reading holds, each counted each time it is reached (what is shared counts as often as it is met; a slice's spare places count too). A statement '..UptoSaid' is the law's where the arguments, and the package variables that the reading takes, are together of bulk at most 1048576: NARROWER than '..Said'. Prove '..Said' where nothing that the law and all that it calls make is longer than what came in: it says more and counts as full. Else prove '..UptoSaid'. A law counts once. -/
mutual
def uptoBulk {H : Type} : DataW H → Nat
  | .lit (.string bytes) => bytes.length + 1
  | .lit _ => 1
  | .nil => 1
  | .ptr d => uptoBulk d + 1
  | .slice elems spare => uptoBulkAll elems + uptoBulkAll spare + 1
  | .agg parts => uptoBulkAll parts + 1
  | .iface _ d => uptoBulk d + 1
  | .map entries => uptoBulkEntries entries + 1
  | .held _ => 1
def uptoBulkAll {H : Type} : List (DataW H) → Nat
  | [] => 0
  | d :: r => uptoBulk d + uptoBulkAll r
def uptoBulkEntries {H : Type} : List (Lit × DataW H) → Nat
  | [] => 0
  | x :: r => uptoBulkEntry x + uptoBulkEntries r
def uptoBulkEntry {H : Type} : Lit × DataW H → Nat
  | (.string bytes, d) => bytes.length + uptoBulk d + 1
  | (_, d) => uptoBulk d + 1
 end
def uptoSmall : (H : Type) → List (DataW H) → Bool := fun _ ds => decide (uptoBulkAll ds ≤ 1048576)
def OpenSpec.upto (s : _root_.Go.ChangeSpec) : _root_.Go.OpenSpec := { _root_.Go.OpenSpec.ofChange s with cond := some uptoSmall }

/-- 'catacomblaw05.WireTells', WHERE WHAT IT READS IS OF BULK AT MOST 1048576: true; the input reads as it did. -/
def wireTellsUptoRow : OpenClaim := { program := "yteebeajhoemdpaa", sum := "1806bf21122473ed5d17428c24824718cd6f55ed725b5fee1ac24792ac3b417d", func := "catacomb/catacomblaw05.WireTells", spec := "wireTells", unfollowed := true, recurses := true, apart := false, narrowed := true }
def WireTellsUptoSaid : Prop := wireTellsUptoRow.holds Try.pinned (OpenSpec.upto wireTellsSpec)

/-- 'catacomblaw05.WireCounts', WHERE WHAT IT READS IS OF BULK AT MOST 1048576: true; the input reads as it did. -/
def wireCountsUptoRow : OpenClaim := { program := "yteebeajhoemdpaa", sum := "1806bf21122473ed5d17428c24824718cd6f55ed725b5fee1ac24792ac3b417d", func := "catacomb/catacomblaw05.WireCounts", spec := "wireCounts", unfollowed := true, recurses := true, apart := false, narrowed := true }
def WireCountsUptoSaid : Prop := wireCountsUptoRow.holds Try.pinned (OpenSpec.upto wireCountsSpec)

/-- 'catacomblaw05.WireOrder', WHERE WHAT IT READS IS OF BULK AT MOST 1048576: true; the input reads as it did. -/
def wireOrderUptoRow : OpenClaim := { program := "yteebeajhoemdpaa", sum := "1806bf21122473ed5d17428c24824718cd6f55ed725b5fee1ac24792ac3b417d", func := "catacomb/catacomblaw05.WireOrder", spec := "wireOrder", unfollowed := true, recurses := true, apart := false, narrowed := true }
def WireOrderUptoSaid : Prop := wireOrderUptoRow.holds Try.pinned (OpenSpec.upto wireOrderSpec)

/-- 'catacomblaw05.WireBack', WHERE WHAT IT READS IS OF BULK AT MOST 1048576: true; the input reads as it did. -/
def wireBackUptoRow : OpenClaim := { program := "yteebeajhoemdpaa", sum := "1806bf21122473ed5d17428c24824718cd6f55ed725b5fee1ac24792ac3b417d", func := "catacomb/catacomblaw05.WireBack", spec := "wireBack", unfollowed := true, recurses := true, apart := false, narrowed := true }
def WireBackUptoSaid : Prop := wireBackUptoRow.holds Try.pinned (OpenSpec.upto wireBackSpec)

/-- 'catacomblaw05.WireSides', WHERE WHAT IT READS IS OF BULK AT MOST 1048576: true; the input reads as it did. -/
def wireSidesUptoRow : OpenClaim := { program := "yteebeajhoemdpaa", sum := "1806bf21122473ed5d17428c24824718cd6f55ed725b5fee1ac24792ac3b417d", func := "catacomb/catacomblaw05.WireSides", spec := "wireSides", unfollowed := true, recurses := true, apart := false, narrowed := true }
def WireSidesUptoSaid : Prop := wireSidesUptoRow.holds Try.pinned (OpenSpec.upto wireSidesSpec)

/-- 'catacomblaw05.WireTo', WHERE WHAT IT READS IS OF BULK AT MOST 1048576: true; the input reads as it did. -/
def wireToUptoRow : OpenClaim := { program := "yteebeajhoemdpaa", sum := "1806bf21122473ed5d17428c24824718cd6f55ed725b5fee1ac24792ac3b417d", func := "catacomb/catacomblaw05.WireTo", spec := "wireTo", unfollowed := true, recurses := true, apart := false, narrowed := true }
def WireToUptoSaid : Prop := wireToUptoRow.holds Try.pinned (OpenSpec.upto wireToSpec)

end Rows
end Go.Proofs.Yteebeajhoemdpaa
