/-
  No cell of these rows narrows 'for every input' (looked for: loops, veiled, ifaces, maps, wideKeys, modest, calm, conditions, laid).
  DERIVED. THE GIVEN ROWS OF THIS SEAT. 6 by the template 'for every input the law returns true; each argument reads behind the call as it read before'; 0 by the template 'total and deterministic' (their statements: YtecdonbjabjaeaaTotals.lean).
  GIVEN WITH THE SEED: the statements are not yours to turn. If you find one false, say at which input.
  Laid BY PROGRAM, IN A SANDBOX (cutbox-rows.mjs): the forced cells as the released guide's own fill.sh prints them over the translation 277489df9afcf10a… (all of the seat's roots in one cut). By AI agents, Wed Nov 11 2026. No macro, syntax, notation, axiom, sorry.
-/
import Derived.Test.YtecdonbjabjaeaaChecked
import GoSem.Claim
import GoSem.ClaimJoined
import GoSem.ClaimMapViews
import Derived.JoinedTies
import Derived.KernelRfl
namespace Go.Proofs.Ytecdonbjabjaeaa
/- THE CELL 'sum', in the pinned program and in every row, IS THE sha256 OF THE DUMP (.gsa) THAT YtecdonbjabjaeaaProg.lean LOADS. Nothing in Lean hashes anything: it is a label: what it is worth is what the hold of that sum in a sandbox is worth. -/
noncomputable def Try.pinned : Pinned := { name := "ytecdonbjabjaeaa", sum := "277489df9afcf10a83bb946ff3e530f94f1bc8fec3bea8205aa03e969c8bf594", checked := Try.checked }
namespace Rows
def none {H : Type} : Left H := { results := [], args := [] }

/-- 'catacomblaw14.VoteTells': WHATEVER THE INPUT: true; the input reads as it did. -/
def voteTellsSpec : ChangeSpec := { name := "voteTells", fn := fun _ => fun
  | [d1, d2, d3] => { results := [.lit (.bool true)], args := [d1, d2, d3] }
  | _ => none }
def voteTellsRow : OpenClaim := { program := "ytecdonbjabjaeaa", sum := "277489df9afcf10a83bb946ff3e530f94f1bc8fec3bea8205aa03e969c8bf594", func := "catacomb/catacomblaw14.VoteTells", spec := "voteTells", unfollowed := true, recurses := true, apart := false }
def VoteTellsSaid : Prop := voteTellsRow.holds Try.pinned (OpenSpec.ofChange voteTellsSpec)

/-- ITS FALSE NEIGHBOUR: 'it returns false'. Refute it at one input. -/
def voteTellsWrong : ChangeSpec := { name := "voteTells", fn := fun _ => fun
  | [d1, d2, d3] => { results := [.lit (.bool false)], args := [d1, d2, d3] }
  | _ => none }
def VoteTellsWrongFalsely : Prop := voteTellsRow.holds Try.pinned (OpenSpec.ofChange voteTellsWrong)

/-- 'catacomblaw14.VoteOnce': WHATEVER THE INPUT: true; the input reads as it did. -/
def voteOnceSpec : ChangeSpec := { name := "voteOnce", fn := fun _ => fun
  | [d1, d2] => { results := [.lit (.bool true)], args := [d1, d2] }
  | _ => none }
def voteOnceRow : OpenClaim := { program := "ytecdonbjabjaeaa", sum := "277489df9afcf10a83bb946ff3e530f94f1bc8fec3bea8205aa03e969c8bf594", func := "catacomb/catacomblaw14.VoteOnce", spec := "voteOnce", unfollowed := true, recurses := true, apart := false }
def VoteOnceSaid : Prop := voteOnceRow.holds Try.pinned (OpenSpec.ofChange voteOnceSpec)

/-- ITS FALSE NEIGHBOUR: 'it returns false'. Refute it at one input. -/
def voteOnceWrong : ChangeSpec := { name := "voteOnce", fn := fun _ => fun
  | [d1, d2] => { results := [.lit (.bool false)], args := [d1, d2] }
  | _ => none }
def VoteOnceWrongFalsely : Prop := voteOnceRow.holds Try.pinned (OpenSpec.ofChange voteOnceWrong)

/-- 'catacomblaw14.VoteMeets': WHATEVER THE INPUT: true; the input reads as it did. -/
def voteMeetsSpec : ChangeSpec := { name := "voteMeets", fn := fun _ => fun
  | [d1, d2, d3] => { results := [.lit (.bool true)], args := [d1, d2, d3] }
  | _ => none }
def voteMeetsRow : OpenClaim := { program := "ytecdonbjabjaeaa", sum := "277489df9afcf10a83bb946ff3e530f94f1bc8fec3bea8205aa03e969c8bf594", func := "catacomb/catacomblaw14.VoteMeets", spec := "voteMeets", unfollowed := true, recurses := true, apart := false }
def VoteMeetsSaid : Prop := voteMeetsRow.holds Try.pinned (OpenSpec.ofChange voteMeetsSpec)

/-- ITS FALSE NEIGHBOUR: 'it returns false'. Refute it at one input. -/
def voteMeetsWrong : ChangeSpec := { name := "voteMeets", fn := fun _ => fun
  | [d1, d2, d3] => { results := [.lit (.bool false)], args := [d1, d2, d3] }
  | _ => none }
def VoteMeetsWrongFalsely : Prop := voteMeetsRow.holds Try.pinned (OpenSpec.ofChange voteMeetsWrong)

/-- 'catacomblaw14.VoteWinner': WHATEVER THE INPUT: true; the input reads as it did. -/
def voteWinnerSpec : ChangeSpec := { name := "voteWinner", fn := fun _ => fun
  | [d1, d2] => { results := [.lit (.bool true)], args := [d1, d2] }
  | _ => none }
def voteWinnerRow : OpenClaim := { program := "ytecdonbjabjaeaa", sum := "277489df9afcf10a83bb946ff3e530f94f1bc8fec3bea8205aa03e969c8bf594", func := "catacomb/catacomblaw14.VoteWinner", spec := "voteWinner", unfollowed := true, recurses := true, apart := false }
def VoteWinnerSaid : Prop := voteWinnerRow.holds Try.pinned (OpenSpec.ofChange voteWinnerSpec)

/-- ITS FALSE NEIGHBOUR: 'it returns false'. Refute it at one input. -/
def voteWinnerWrong : ChangeSpec := { name := "voteWinner", fn := fun _ => fun
  | [d1, d2] => { results := [.lit (.bool false)], args := [d1, d2] }
  | _ => none }
def VoteWinnerWrongFalsely : Prop := voteWinnerRow.holds Try.pinned (OpenSpec.ofChange voteWinnerWrong)

/-- 'catacomblaw14.VoteStands': WHATEVER THE INPUT: true; the input reads as it did. -/
def voteStandsSpec : ChangeSpec := { name := "voteStands", fn := fun _ => fun
  | [d1, d2] => { results := [.lit (.bool true)], args := [d1, d2] }
  | _ => none }
def voteStandsRow : OpenClaim := { program := "ytecdonbjabjaeaa", sum := "277489df9afcf10a83bb946ff3e530f94f1bc8fec3bea8205aa03e969c8bf594", func := "catacomb/catacomblaw14.VoteStands", spec := "voteStands", unfollowed := true, recurses := true, apart := false }
def VoteStandsSaid : Prop := voteStandsRow.holds Try.pinned (OpenSpec.ofChange voteStandsSpec)

/-- ITS FALSE NEIGHBOUR: 'it returns false'. Refute it at one input. -/
def voteStandsWrong : ChangeSpec := { name := "voteStands", fn := fun _ => fun
  | [d1, d2] => { results := [.lit (.bool false)], args := [d1, d2] }
  | _ => none }
def VoteStandsWrongFalsely : Prop := voteStandsRow.holds Try.pinned (OpenSpec.ofChange voteStandsWrong)

/-- 'catacomblaw14.VoteAlone': WHATEVER THE INPUT: true; the input reads as it did. -/
def voteAloneSpec : ChangeSpec := { name := "voteAlone", fn := fun _ => fun
  | [d1, d2] => { results := [.lit (.bool true)], args := [d1, d2] }
  | _ => none }
def voteAloneRow : OpenClaim := { program := "ytecdonbjabjaeaa", sum := "277489df9afcf10a83bb946ff3e530f94f1bc8fec3bea8205aa03e969c8bf594", func := "catacomb/catacomblaw14.VoteAlone", spec := "voteAlone", unfollowed := true, recurses := true, apart := false }
def VoteAloneSaid : Prop := voteAloneRow.holds Try.pinned (OpenSpec.ofChange voteAloneSpec)

/-- ITS FALSE NEIGHBOUR: 'it returns false'. Refute it at one input. -/
def voteAloneWrong : ChangeSpec := { name := "voteAlone", fn := fun _ => fun
  | [d1, d2] => { results := [.lit (.bool false)], args := [d1, d2] }
  | _ => none }
def VoteAloneWrongFalsely : Prop := voteAloneRow.holds Try.pinned (OpenSpec.ofChange voteAloneWrong)

/- THE SECOND FORM. 'bulk': how many values and letters a reading holds, each counted each time it is reached (what is shared counts as often as it is met; a slice's spare places count too). A statement '..UptoSaid' is the law's where the arguments, and the package variables that the reading takes, are together of bulk at most 1048576: NARROWER than '..Said'. Prove '..Said' where nothing that the law and all that it calls make is longer than what came in: it says more and counts as full. Else prove '..UptoSaid'. A law counts once. -/
mutual
def uptoBulk {H : Type} : DataW H → Nat
  | .lit (.string bytes) => bytes.length + 1
  | .lit _ => 1
  | .nil => 1
  | .ptr d => uptoBulk d + 1
  | .slice elems spare => uptoBulkAll elems + uptoBulkAll spare + 1
  | .agg parts => uptoBulkAll parts + 1
  | .iface _ d => uptoBulk d + 1
  | .map entries => uptoBulkEntries entries + 1
  | .held _ => 1
def uptoBulkAll {H : Type} : List (DataW H) → Nat
  | [] => 0
  | d :: r => uptoBulk d + uptoBulkAll r
def uptoBulkEntries {H : Type} : List (Lit × DataW H) → Nat
  | [] => 0
  | x :: r => uptoBulkEntry x + uptoBulkEntries r
def uptoBulkEntry {H : Type} : Lit × DataW H → Nat
  | (.string bytes, d) => bytes.length + uptoBulk d + 1
  | (_, d) => uptoBulk d + 1
 end
def uptoSmall : (H : Type) → List (DataW H) → Bool := fun _ ds => decide (uptoBulkAll ds ≤ 1048576)
def OpenSpec.upto (s : _root_.Go.ChangeSpec) : _root_.Go.OpenSpec := { _root_.Go.OpenSpec.ofChange s with cond := some uptoSmall }

/-- 'catacomblaw14.VoteTells', WHERE WHAT IT READS IS OF BULK AT MOST 1048576: true; the input reads as it did. -/
def voteTellsUptoRow : OpenClaim := { program := "ytecdonbjabjaeaa", sum := "277489df9afcf10a83bb946ff3e530f94f1bc8fec3bea8205aa03e969c8bf594", func := "catacomb/catacomblaw14.VoteTells", spec := "voteTells", unfollowed := true, recurses := true, apart := false, narrowed := true }
def VoteTellsUptoSaid : Prop := voteTellsUptoRow.holds Try.pinned (OpenSpec.upto voteTellsSpec)

/-- 'catacomblaw14.VoteOnce', WHERE WHAT IT READS IS OF BULK AT MOST 1048576: true; the input reads as it did. -/
def voteOnceUptoRow : OpenClaim := { program := "ytecdonbjabjaeaa", sum := "277489df9afcf10a83bb946ff3e530f94f1bc8fec3bea8205aa03e969c8bf594", func := "catacomb/catacomblaw14.VoteOnce", spec := "voteOnce", unfollowed := true, recurses := true, apart := false, narrowed := true }
def VoteOnceUptoSaid : Prop := voteOnceUptoRow.holds Try.pinned (OpenSpec.upto voteOnceSpec)

/-- 'catacomblaw14.VoteMeets', WHERE WHAT IT READS IS OF BULK AT MOST 1048576: true; the input reads as it did. -/
def voteMeetsUptoRow : OpenClaim := { program := "ytecdonbjabjaeaa", sum := "277489df9afcf10a83bb946ff3e530f94f1bc8fec3bea8205aa03e969c8bf594", func := "catacomb/catacomblaw14.VoteMeets", spec := "voteMeets", unfollowed := true, recurses := true, apart := false, narrowed := true }
def VoteMeetsUptoSaid : Prop := voteMeetsUptoRow.holds Try.pinned (OpenSpec.upto voteMeetsSpec)

/-- 'catacomblaw14.VoteWinner', WHERE WHAT IT READS IS OF BULK AT MOST 1048576: true; the input reads as it did. -/
def voteWinnerUptoRow : OpenClaim := { program := "ytecdonbjabjaeaa", sum := "277489df9afcf10a83bb946ff3e530f94f1bc8fec3bea8205aa03e969c8bf594", func := "catacomb/catacomblaw14.VoteWinner", spec := "voteWinner", unfollowed := true, recurses := true, apart := false, narrowed := true }
def VoteWinnerUptoSaid : Prop := voteWinnerUptoRow.holds Try.pinned (OpenSpec.upto voteWinnerSpec)

/-- 'catacomblaw14.VoteStands', WHERE WHAT IT READS IS OF BULK AT MOST 1048576: true; the input reads as it did. -/
def voteStandsUptoRow : OpenClaim := { program := "ytecdonbjabjaeaa", sum := "277489df9afcf10a83bb946ff3e530f94f1bc8fec3bea8205aa03e969c8bf594", func := "catacomb/catacomblaw14.VoteStands", spec := "voteStands", unfollowed := true, recurses := true, apart := false, narrowed := true }
def VoteStandsUptoSaid : Prop := voteStandsUptoRow.holds Try.pinned (OpenSpec.upto voteStandsSpec)

/-- 'catacomblaw14.VoteAlone', WHERE WHAT IT READS IS OF BULK AT MOST 1048576: true; the input reads as it did. -/
def voteAloneUptoRow : OpenClaim := { program := "ytecdonbjabjaeaa", sum := "277489df9afcf10a83bb946ff3e530f94f1bc8fec3bea8205aa03e969c8bf594", func := "catacomb/catacomblaw14.VoteAlone", spec := "voteAlone", unfollowed := true, recurses := true, apart := false, narrowed := true }
def VoteAloneUptoSaid : Prop := voteAloneUptoRow.holds Try.pinned (OpenSpec.upto voteAloneSpec)

end Rows
end Go.Proofs.Ytecdonbjabjaeaa
