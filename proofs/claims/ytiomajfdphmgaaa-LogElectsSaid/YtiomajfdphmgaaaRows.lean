/-
  No cell of these rows narrows 'for every input' (looked for: loops, veiled, ifaces, maps, wideKeys, modest, calm, conditions, laid).
  DERIVED. THE GIVEN ROWS OF THIS SEAT. 7 by the template 'for every input the law returns true; each argument reads behind the call as it read before'; 0 by the template 'total and deterministic' (their statements: YtiomajfdphmgaaaTotals.lean).
  GIVEN WITH THE SEED: the statements are not yours to turn. If you find one false, say at which input.
  Laid BY PROGRAM, IN A SANDBOX (cutbox-rows.mjs): the forced cells as the released guide's own fill.sh prints them over the translation 863a3fab48ddaf0f… (all of the seat's roots in one cut). By AI agents, Wed Nov 11 2026. No macro, syntax, notation, axiom, sorry.
-/
import Derived.Test.YtiomajfdphmgaaaChecked
import GoSem.Claim
import GoSem.ClaimJoined
import GoSem.ClaimMapViews
import Derived.JoinedTies
import Derived.KernelRfl
namespace Go.Proofs.Ytiomajfdphmgaaa
/- THE CELL 'sum', in the pinned program and in every row, IS THE sha256 OF THE DUMP (.gsa) THAT YtiomajfdphmgaaaProg.lean LOADS. Nothing in Lean hashes anything: it is a label: what it is worth is what the hold of that sum in a sandbox is worth. -/
noncomputable def Try.pinned : Pinned := { name := "ytiomajfdphmgaaa", sum := "863a3fab48ddaf0f0ad66c13cbd0da2c5e6f4896146f21a6675a68551080fabc", checked := Try.checked }
namespace Rows
def none {H : Type} : Left H := { results := [], args := [] }

/-- 'catacomblaw13.LogTells': WHATEVER THE INPUT: true; the input reads as it did. -/
def logTellsSpec : ChangeSpec := { name := "logTells", fn := fun _ => fun
  | [d1, d2, d3, d4, d5, d6] => { results := [.lit (.bool true)], args := [d1, d2, d3, d4, d5, d6] }
  | _ => none }
def logTellsRow : OpenClaim := { program := "ytiomajfdphmgaaa", sum := "863a3fab48ddaf0f0ad66c13cbd0da2c5e6f4896146f21a6675a68551080fabc", func := "catacomb/catacomblaw13.LogTells", spec := "logTells", unfollowed := true, recurses := true, apart := false }
def LogTellsSaid : Prop := logTellsRow.holds Try.pinned (OpenSpec.ofChange logTellsSpec)

/-- ITS FALSE NEIGHBOUR: 'it returns false'. Refute it at one input. -/
def logTellsWrong : ChangeSpec := { name := "logTells", fn := fun _ => fun
  | [d1, d2, d3, d4, d5, d6] => { results := [.lit (.bool false)], args := [d1, d2, d3, d4, d5, d6] }
  | _ => none }
def LogTellsWrongFalsely : Prop := logTellsRow.holds Try.pinned (OpenSpec.ofChange logTellsWrong)

/-- 'catacomblaw13.LogLong': WHATEVER THE INPUT: true; the input reads as it did. -/
def logLongSpec : ChangeSpec := { name := "logLong", fn := fun _ => fun
  | [d1, d2] => { results := [.lit (.bool true)], args := [d1, d2] }
  | _ => none }
def logLongRow : OpenClaim := { program := "ytiomajfdphmgaaa", sum := "863a3fab48ddaf0f0ad66c13cbd0da2c5e6f4896146f21a6675a68551080fabc", func := "catacomb/catacomblaw13.LogLong", spec := "logLong", unfollowed := true, recurses := true, apart := false }
def LogLongSaid : Prop := logLongRow.holds Try.pinned (OpenSpec.ofChange logLongSpec)

/-- ITS FALSE NEIGHBOUR: 'it returns false'. Refute it at one input. -/
def logLongWrong : ChangeSpec := { name := "logLong", fn := fun _ => fun
  | [d1, d2] => { results := [.lit (.bool false)], args := [d1, d2] }
  | _ => none }
def LogLongWrongFalsely : Prop := logLongRow.holds Try.pinned (OpenSpec.ofChange logLongWrong)

/-- 'catacomblaw13.LogPut': WHATEVER THE INPUT: true; the input reads as it did. -/
def logPutSpec : ChangeSpec := { name := "logPut", fn := fun _ => fun
  | [d1, d2, d3, d4] => { results := [.lit (.bool true)], args := [d1, d2, d3, d4] }
  | _ => none }
def logPutRow : OpenClaim := { program := "ytiomajfdphmgaaa", sum := "863a3fab48ddaf0f0ad66c13cbd0da2c5e6f4896146f21a6675a68551080fabc", func := "catacomb/catacomblaw13.LogPut", spec := "logPut", unfollowed := true, recurses := true, apart := false }
def LogPutSaid : Prop := logPutRow.holds Try.pinned (OpenSpec.ofChange logPutSpec)

/-- ITS FALSE NEIGHBOUR: 'it returns false'. Refute it at one input. -/
def logPutWrong : ChangeSpec := { name := "logPut", fn := fun _ => fun
  | [d1, d2, d3, d4] => { results := [.lit (.bool false)], args := [d1, d2, d3, d4] }
  | _ => none }
def LogPutWrongFalsely : Prop := logPutRow.holds Try.pinned (OpenSpec.ofChange logPutWrong)

/-- 'catacomblaw13.LogMeets': WHATEVER THE INPUT: true; the input reads as it did. -/
def logMeetsSpec : ChangeSpec := { name := "logMeets", fn := fun _ => fun
  | [d1, d2, d3, d4] => { results := [.lit (.bool true)], args := [d1, d2, d3, d4] }
  | _ => none }
def logMeetsRow : OpenClaim := { program := "ytiomajfdphmgaaa", sum := "863a3fab48ddaf0f0ad66c13cbd0da2c5e6f4896146f21a6675a68551080fabc", func := "catacomb/catacomblaw13.LogMeets", spec := "logMeets", unfollowed := true, recurses := true, apart := false }
def LogMeetsSaid : Prop := logMeetsRow.holds Try.pinned (OpenSpec.ofChange logMeetsSpec)

/-- ITS FALSE NEIGHBOUR: 'it returns false'. Refute it at one input. -/
def logMeetsWrong : ChangeSpec := { name := "logMeets", fn := fun _ => fun
  | [d1, d2, d3, d4] => { results := [.lit (.bool false)], args := [d1, d2, d3, d4] }
  | _ => none }
def LogMeetsWrongFalsely : Prop := logMeetsRow.holds Try.pinned (OpenSpec.ofChange logMeetsWrong)

/-- 'catacomblaw13.LogNewer': WHATEVER THE INPUT: true; the input reads as it did. -/
def logNewerSpec : ChangeSpec := { name := "logNewer", fn := fun _ => fun
  | [d1, d2, d3] => { results := [.lit (.bool true)], args := [d1, d2, d3] }
  | _ => none }
def logNewerRow : OpenClaim := { program := "ytiomajfdphmgaaa", sum := "863a3fab48ddaf0f0ad66c13cbd0da2c5e6f4896146f21a6675a68551080fabc", func := "catacomb/catacomblaw13.LogNewer", spec := "logNewer", unfollowed := true, recurses := true, apart := false }
def LogNewerSaid : Prop := logNewerRow.holds Try.pinned (OpenSpec.ofChange logNewerSpec)

/-- ITS FALSE NEIGHBOUR: 'it returns false'. Refute it at one input. -/
def logNewerWrong : ChangeSpec := { name := "logNewer", fn := fun _ => fun
  | [d1, d2, d3] => { results := [.lit (.bool false)], args := [d1, d2, d3] }
  | _ => none }
def LogNewerWrongFalsely : Prop := logNewerRow.holds Try.pinned (OpenSpec.ofChange logNewerWrong)

/-- 'catacomblaw13.LogCommits': WHATEVER THE INPUT: true; the input reads as it did. -/
def logCommitsSpec : ChangeSpec := { name := "logCommits", fn := fun _ => fun
  | [d1, d2, d3, d4, d5] => { results := [.lit (.bool true)], args := [d1, d2, d3, d4, d5] }
  | _ => none }
def logCommitsRow : OpenClaim := { program := "ytiomajfdphmgaaa", sum := "863a3fab48ddaf0f0ad66c13cbd0da2c5e6f4896146f21a6675a68551080fabc", func := "catacomb/catacomblaw13.LogCommits", spec := "logCommits", unfollowed := true, recurses := true, apart := false }
def LogCommitsSaid : Prop := logCommitsRow.holds Try.pinned (OpenSpec.ofChange logCommitsSpec)

/-- ITS FALSE NEIGHBOUR: 'it returns false'. Refute it at one input. -/
def logCommitsWrong : ChangeSpec := { name := "logCommits", fn := fun _ => fun
  | [d1, d2, d3, d4, d5] => { results := [.lit (.bool false)], args := [d1, d2, d3, d4, d5] }
  | _ => none }
def LogCommitsWrongFalsely : Prop := logCommitsRow.holds Try.pinned (OpenSpec.ofChange logCommitsWrong)

/-- 'catacomblaw13.LogElects': WHATEVER THE INPUT: true; the input reads as it did. -/
def logElectsSpec : ChangeSpec := { name := "logElects", fn := fun _ => fun
  | [d1, d2, d3, d4] => { results := [.lit (.bool true)], args := [d1, d2, d3, d4] }
  | _ => none }
def logElectsRow : OpenClaim := { program := "ytiomajfdphmgaaa", sum := "863a3fab48ddaf0f0ad66c13cbd0da2c5e6f4896146f21a6675a68551080fabc", func := "catacomb/catacomblaw13.LogElects", spec := "logElects", unfollowed := true, recurses := true, apart := false }
def LogElectsSaid : Prop := logElectsRow.holds Try.pinned (OpenSpec.ofChange logElectsSpec)

/-- ITS FALSE NEIGHBOUR: 'it returns false'. Refute it at one input. -/
def logElectsWrong : ChangeSpec := { name := "logElects", fn := fun _ => fun
  | [d1, d2, d3, d4] => { results := [.lit (.bool false)], args := [d1, d2, d3, d4] }
  | _ => none }
def LogElectsWrongFalsely : Prop := logElectsRow.holds Try.pinned (OpenSpec.ofChange logElectsWrong)

/- THE SECOND FORM. 'bulk': how many values and letters a reading holds, each counted each time it is reached (what is shared counts as often as it is met; a slice's spare places count too). A statement '..UptoSaid' is the law's where the arguments, and the package variables that the reading takes, are together of bulk at most 1048576: NARROWER than '..Said'. Prove '..Said' where nothing that the law and all that it calls make is longer than what came in: it says more and counts as full. Else prove '..UptoSaid'. A law counts once. -/
mutual
def uptoBulk {H : Type} : DataW H → Nat
  | .lit (.string bytes) => bytes.length + 1
  | .lit _ => 1
  | .nil => 1
  | .ptr d => uptoBulk d + 1
  | .slice elems spare => uptoBulkAll elems + uptoBulkAll spare + 1
  | .agg parts => uptoBulkAll parts + 1
  | .iface _ d => uptoBulk d + 1
  | .map entries => uptoBulkEntries entries + 1
  | .held _ => 1
def uptoBulkAll {H : Type} : List (DataW H) → Nat
  | [] => 0
  | d :: r => uptoBulk d + uptoBulkAll r
def uptoBulkEntries {H : Type} : List (Lit × DataW H) → Nat
  | [] => 0
  | x :: r => uptoBulkEntry x + uptoBulkEntries r
def uptoBulkEntry {H : Type} : Lit × DataW H → Nat
  | (.string bytes, d) => bytes.length + uptoBulk d + 1
  | (_, d) => uptoBulk d + 1
 end
def uptoSmall : (H : Type) → List (DataW H) → Bool := fun _ ds => decide (uptoBulkAll ds ≤ 1048576)
def OpenSpec.upto (s : _root_.Go.ChangeSpec) : _root_.Go.OpenSpec := { _root_.Go.OpenSpec.ofChange s with cond := some uptoSmall }

/-- 'catacomblaw13.LogTells', WHERE WHAT IT READS IS OF BULK AT MOST 1048576: true; the input reads as it did. -/
def logTellsUptoRow : OpenClaim := { program := "ytiomajfdphmgaaa", sum := "863a3fab48ddaf0f0ad66c13cbd0da2c5e6f4896146f21a6675a68551080fabc", func := "catacomb/catacomblaw13.LogTells", spec := "logTells", unfollowed := true, recurses := true, apart := false, narrowed := true }
def LogTellsUptoSaid : Prop := logTellsUptoRow.holds Try.pinned (OpenSpec.upto logTellsSpec)

/-- 'catacomblaw13.LogLong', WHERE WHAT IT READS IS OF BULK AT MOST 1048576: true; the input reads as it did. -/
def logLongUptoRow : OpenClaim := { program := "ytiomajfdphmgaaa", sum := "863a3fab48ddaf0f0ad66c13cbd0da2c5e6f4896146f21a6675a68551080fabc", func := "catacomb/catacomblaw13.LogLong", spec := "logLong", unfollowed := true, recurses := true, apart := false, narrowed := true }
def LogLongUptoSaid : Prop := logLongUptoRow.holds Try.pinned (OpenSpec.upto logLongSpec)

/-- 'catacomblaw13.LogPut', WHERE WHAT IT READS IS OF BULK AT MOST 1048576: true; the input reads as it did. -/
def logPutUptoRow : OpenClaim := { program := "ytiomajfdphmgaaa", sum := "863a3fab48ddaf0f0ad66c13cbd0da2c5e6f4896146f21a6675a68551080fabc", func := "catacomb/catacomblaw13.LogPut", spec := "logPut", unfollowed := true, recurses := true, apart := false, narrowed := true }
def LogPutUptoSaid : Prop := logPutUptoRow.holds Try.pinned (OpenSpec.upto logPutSpec)

/-- 'catacomblaw13.LogMeets', WHERE WHAT IT READS IS OF BULK AT MOST 1048576: true; the input reads as it did. -/
def logMeetsUptoRow : OpenClaim := { program := "ytiomajfdphmgaaa", sum := "863a3fab48ddaf0f0ad66c13cbd0da2c5e6f4896146f21a6675a68551080fabc", func := "catacomb/catacomblaw13.LogMeets", spec := "logMeets", unfollowed := true, recurses := true, apart := false, narrowed := true }
def LogMeetsUptoSaid : Prop := logMeetsUptoRow.holds Try.pinned (OpenSpec.upto logMeetsSpec)

/-- 'catacomblaw13.LogNewer', WHERE WHAT IT READS IS OF BULK AT MOST 1048576: true; the input reads as it did. -/
def logNewerUptoRow : OpenClaim := { program := "ytiomajfdphmgaaa", sum := "863a3fab48ddaf0f0ad66c13cbd0da2c5e6f4896146f21a6675a68551080fabc", func := "catacomb/catacomblaw13.LogNewer", spec := "logNewer", unfollowed := true, recurses := true, apart := false, narrowed := true }
def LogNewerUptoSaid : Prop := logNewerUptoRow.holds Try.pinned (OpenSpec.upto logNewerSpec)

/-- 'catacomblaw13.LogCommits', WHERE WHAT IT READS IS OF BULK AT MOST 1048576: true; the input reads as it did. -/
def logCommitsUptoRow : OpenClaim := { program := "ytiomajfdphmgaaa", sum := "863a3fab48ddaf0f0ad66c13cbd0da2c5e6f4896146f21a6675a68551080fabc", func := "catacomb/catacomblaw13.LogCommits", spec := "logCommits", unfollowed := true, recurses := true, apart := false, narrowed := true }
def LogCommitsUptoSaid : Prop := logCommitsUptoRow.holds Try.pinned (OpenSpec.upto logCommitsSpec)

/-- 'catacomblaw13.LogElects', WHERE WHAT IT READS IS OF BULK AT MOST 1048576: true; the input reads as it did. -/
def logElectsUptoRow : OpenClaim := { program := "ytiomajfdphmgaaa", sum := "863a3fab48ddaf0f0ad66c13cbd0da2c5e6f4896146f21a6675a68551080fabc", func := "catacomb/catacomblaw13.LogElects", spec := "logElects", unfollowed := true, recurses := true, apart := false, narrowed := true }
def LogElectsUptoSaid : Prop := logElectsUptoRow.holds Try.pinned (OpenSpec.upto logElectsSpec)

end Rows
end Go.Proofs.Ytiomajfdphmgaaa
