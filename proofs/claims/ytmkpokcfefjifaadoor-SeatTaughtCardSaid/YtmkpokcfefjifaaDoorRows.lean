/-
  NARROWER THAN 'FOR EVERY INPUT', by the rows' own cells (each row's printed sentence says how): SeatTwice: laid · SeatWins: laid · SeatDeaf: laid · SeatTerms: laid · SeatTaught: laid.
  DERIVED. THE GIVEN ROWS OF THIS SEAT. 5 by the template 'for every input the law returns true; each argument reads behind the call as it read before'; 0 by the template 'total and deterministic' (their statements: YtmkpokcfefjifaaDoorTotals.lean).
  GIVEN WITH THE SEED: the statements are not yours to turn. If you find one false, say at which input.
  Laid BY PROGRAM, IN A SANDBOX (cutbox-rows.mjs): the forced cells as the released guide's own fill.sh prints them over the translation 4bb2e82aa3a3a524… (all of the seat's roots in one cut). By AI agents, Wed Nov 11 2026. No macro, syntax, notation, axiom, sorry.
-/
import Derived.Test.YtmkpokcfefjifaaDoorChecked
import GoSem.Claim
import GoSem.ClaimJoined
import GoSem.ClaimMapViews
import Derived.JoinedTies
import Derived.KernelRfl
namespace Go.Proofs.YtmkpokcfefjifaaDoor
/- THE CELL 'sum', in the pinned program and in every row, IS THE sha256 OF THE DUMP (.gsa) THAT YtmkpokcfefjifaaDoorProg.lean LOADS. Nothing in Lean hashes anything: it is a label: what it is worth is what the hold of that sum in a sandbox is worth. -/
noncomputable def Tryd.pinned : Pinned := { name := "ytmkpokcfefjifaadoor", sum := "4bb2e82aa3a3a5244794432d27e830d908f4cfbdb71440e1fe5bde7129a4c6a0", checked := Tryd.checked }
namespace Rows
def none {H : Type} : Left H := { results := [], args := [] }

/- WHAT THE LISTED PACKAGE-LEVEL VARIABLES READ AS WHEN THE CALL BEGINS. Each datum BY PROGRAM (the guide's laid-datum.mjs) off the statement by which the dump's own 'gosem.cut.vars' lays the variable. In a bare row this is a premise. The card (YtmkpokcfefjifaaDoorCards.lean) ties it to the program's text. -/
def laid_catacomb_seat_numbers {H : Type} : DataW H := .map [(.int .i64 1, .lit (.int .i64 3)), (.int .i64 2, .lit (.int .i64 2)), (.int .i64 3, .lit (.int .i64 4)), (.int .i64 4, .lit (.int .i64 3))]

/-- 'catacomblaw15.SeatTwice': WHATEVER THE INPUT: true; the input reads as it did. -/
def seatTwiceSpec : ChangeSpec := { name := "seatTwice", fn := fun _ => fun
  | [d1, d2] => { results := [.lit (.bool true)], args := [d1, d2] }
  | _ => none }
def seatTwiceRow : OpenClaim := { program := "ytmkpokcfefjifaadoor", sum := "4bb2e82aa3a3a5244794432d27e830d908f4cfbdb71440e1fe5bde7129a4c6a0", func := "catacomb/catacomblaw15.SeatTwice", spec := "seatTwice", unfollowed := true, recurses := true, named := ["catacomb/seat.numbers"], apart := false, laid := [("catacomb/seat.numbers", laid_catacomb_seat_numbers)] }
def SeatTwiceSaid : Prop := seatTwiceRow.holds Tryd.pinned (OpenSpec.ofChange seatTwiceSpec)

/-- ITS FALSE NEIGHBOUR: 'it returns false'. Refute it at one input. -/
def seatTwiceWrong : ChangeSpec := { name := "seatTwice", fn := fun _ => fun
  | [d1, d2] => { results := [.lit (.bool false)], args := [d1, d2] }
  | _ => none }
def SeatTwiceWrongFalsely : Prop := seatTwiceRow.holds Tryd.pinned (OpenSpec.ofChange seatTwiceWrong)

/-- 'catacomblaw15.SeatWins': WHATEVER THE INPUT: true; the input reads as it did. -/
def seatWinsSpec : ChangeSpec := { name := "seatWins", fn := fun _ => fun
  | [d1, d2, d3, d4] => { results := [.lit (.bool true)], args := [d1, d2, d3, d4] }
  | _ => none }
def seatWinsRow : OpenClaim := { program := "ytmkpokcfefjifaadoor", sum := "4bb2e82aa3a3a5244794432d27e830d908f4cfbdb71440e1fe5bde7129a4c6a0", func := "catacomb/catacomblaw15.SeatWins", spec := "seatWins", unfollowed := true, recurses := true, named := ["catacomb/seat.numbers"], apart := false, laid := [("catacomb/seat.numbers", laid_catacomb_seat_numbers)] }
def SeatWinsSaid : Prop := seatWinsRow.holds Tryd.pinned (OpenSpec.ofChange seatWinsSpec)

/-- ITS FALSE NEIGHBOUR: 'it returns false'. Refute it at one input. -/
def seatWinsWrong : ChangeSpec := { name := "seatWins", fn := fun _ => fun
  | [d1, d2, d3, d4] => { results := [.lit (.bool false)], args := [d1, d2, d3, d4] }
  | _ => none }
def SeatWinsWrongFalsely : Prop := seatWinsRow.holds Tryd.pinned (OpenSpec.ofChange seatWinsWrong)

/-- 'catacomblaw15.SeatDeaf': WHATEVER THE INPUT: true; the input reads as it did. -/
def seatDeafSpec : ChangeSpec := { name := "seatDeaf", fn := fun _ => fun
  | [d1, d2] => { results := [.lit (.bool true)], args := [d1, d2] }
  | _ => none }
def seatDeafRow : OpenClaim := { program := "ytmkpokcfefjifaadoor", sum := "4bb2e82aa3a3a5244794432d27e830d908f4cfbdb71440e1fe5bde7129a4c6a0", func := "catacomb/catacomblaw15.SeatDeaf", spec := "seatDeaf", unfollowed := true, recurses := true, named := ["catacomb/seat.numbers"], apart := false, laid := [("catacomb/seat.numbers", laid_catacomb_seat_numbers)] }
def SeatDeafSaid : Prop := seatDeafRow.holds Tryd.pinned (OpenSpec.ofChange seatDeafSpec)

/-- ITS FALSE NEIGHBOUR: 'it returns false'. Refute it at one input. -/
def seatDeafWrong : ChangeSpec := { name := "seatDeaf", fn := fun _ => fun
  | [d1, d2] => { results := [.lit (.bool false)], args := [d1, d2] }
  | _ => none }
def SeatDeafWrongFalsely : Prop := seatDeafRow.holds Tryd.pinned (OpenSpec.ofChange seatDeafWrong)

/-- 'catacomblaw15.SeatTerms': WHATEVER THE INPUT: true; the input reads as it did. -/
def seatTermsSpec : ChangeSpec := { name := "seatTerms", fn := fun _ => fun
  | [d1, d2] => { results := [.lit (.bool true)], args := [d1, d2] }
  | _ => none }
def seatTermsRow : OpenClaim := { program := "ytmkpokcfefjifaadoor", sum := "4bb2e82aa3a3a5244794432d27e830d908f4cfbdb71440e1fe5bde7129a4c6a0", func := "catacomb/catacomblaw15.SeatTerms", spec := "seatTerms", unfollowed := true, recurses := true, named := ["catacomb/seat.numbers"], apart := false, laid := [("catacomb/seat.numbers", laid_catacomb_seat_numbers)] }
def SeatTermsSaid : Prop := seatTermsRow.holds Tryd.pinned (OpenSpec.ofChange seatTermsSpec)

/-- ITS FALSE NEIGHBOUR: 'it returns false'. Refute it at one input. -/
def seatTermsWrong : ChangeSpec := { name := "seatTerms", fn := fun _ => fun
  | [d1, d2] => { results := [.lit (.bool false)], args := [d1, d2] }
  | _ => none }
def SeatTermsWrongFalsely : Prop := seatTermsRow.holds Tryd.pinned (OpenSpec.ofChange seatTermsWrong)

/-- 'catacomblaw15.SeatTaught': WHATEVER THE INPUT: true; the input reads as it did. -/
def seatTaughtSpec : ChangeSpec := { name := "seatTaught", fn := fun _ => fun
  | [d1, d2] => { results := [.lit (.bool true)], args := [d1, d2] }
  | _ => none }
def seatTaughtRow : OpenClaim := { program := "ytmkpokcfefjifaadoor", sum := "4bb2e82aa3a3a5244794432d27e830d908f4cfbdb71440e1fe5bde7129a4c6a0", func := "catacomb/catacomblaw15.SeatTaught", spec := "seatTaught", unfollowed := true, recurses := true, named := ["catacomb/seat.numbers"], apart := false, laid := [("catacomb/seat.numbers", laid_catacomb_seat_numbers)] }
def SeatTaughtSaid : Prop := seatTaughtRow.holds Tryd.pinned (OpenSpec.ofChange seatTaughtSpec)

/-- ITS FALSE NEIGHBOUR: 'it returns false'. Refute it at one input. -/
def seatTaughtWrong : ChangeSpec := { name := "seatTaught", fn := fun _ => fun
  | [d1, d2] => { results := [.lit (.bool false)], args := [d1, d2] }
  | _ => none }
def SeatTaughtWrongFalsely : Prop := seatTaughtRow.holds Tryd.pinned (OpenSpec.ofChange seatTaughtWrong)

/- THE SECOND FORM. 'bulk': how many values and letters a reading holds, each counted each time it is reached (what is shared counts as often as it is met; a slice's spare places count too). A statement '..UptoSaid' is the law's where the arguments, and the package variables that the reading takes, are together of bulk at most 1048576: NARROWER than '..Said'. Prove '..Said' where nothing that the law and all that it calls make is longer than what came in: it says more and counts as full. Else prove '..UptoSaid'. A law counts once. -/
mutual
def uptoBulk {H : Type} : DataW H → Nat
  | .lit (.string bytes) => bytes.length + 1
  | .lit _ => 1
  | .nil => 1
  | .ptr d => uptoBulk d + 1
  | .slice elems spare => uptoBulkAll elems + uptoBulkAll spare + 1
  | .agg parts => uptoBulkAll parts + 1
  | .iface _ d => uptoBulk d + 1
  | .map entries => uptoBulkEntries entries + 1
  | .held _ => 1
def uptoBulkAll {H : Type} : List (DataW H) → Nat
  | [] => 0
  | d :: r => uptoBulk d + uptoBulkAll r
def uptoBulkEntries {H : Type} : List (Lit × DataW H) → Nat
  | [] => 0
  | x :: r => uptoBulkEntry x + uptoBulkEntries r
def uptoBulkEntry {H : Type} : Lit × DataW H → Nat
  | (.string bytes, d) => bytes.length + uptoBulk d + 1
  | (_, d) => uptoBulk d + 1
 end
def uptoSmall : (H : Type) → List (DataW H) → Bool := fun _ ds => decide (uptoBulkAll ds ≤ 1048576)
def OpenSpec.upto (s : _root_.Go.ChangeSpec) : _root_.Go.OpenSpec := { _root_.Go.OpenSpec.ofChange s with cond := some uptoSmall }

/-- 'catacomblaw15.SeatTwice', WHERE WHAT IT READS IS OF BULK AT MOST 1048576: true; the input reads as it did. -/
def seatTwiceUptoRow : OpenClaim := { program := "ytmkpokcfefjifaadoor", sum := "4bb2e82aa3a3a5244794432d27e830d908f4cfbdb71440e1fe5bde7129a4c6a0", func := "catacomb/catacomblaw15.SeatTwice", spec := "seatTwice", unfollowed := true, recurses := true, named := ["catacomb/seat.numbers"], apart := false, laid := [("catacomb/seat.numbers", laid_catacomb_seat_numbers)], narrowed := true }
def SeatTwiceUptoSaid : Prop := seatTwiceUptoRow.holds Tryd.pinned (OpenSpec.upto seatTwiceSpec)

/-- 'catacomblaw15.SeatWins', WHERE WHAT IT READS IS OF BULK AT MOST 1048576: true; the input reads as it did. -/
def seatWinsUptoRow : OpenClaim := { program := "ytmkpokcfefjifaadoor", sum := "4bb2e82aa3a3a5244794432d27e830d908f4cfbdb71440e1fe5bde7129a4c6a0", func := "catacomb/catacomblaw15.SeatWins", spec := "seatWins", unfollowed := true, recurses := true, named := ["catacomb/seat.numbers"], apart := false, laid := [("catacomb/seat.numbers", laid_catacomb_seat_numbers)], narrowed := true }
def SeatWinsUptoSaid : Prop := seatWinsUptoRow.holds Tryd.pinned (OpenSpec.upto seatWinsSpec)

/-- 'catacomblaw15.SeatDeaf', WHERE WHAT IT READS IS OF BULK AT MOST 1048576: true; the input reads as it did. -/
def seatDeafUptoRow : OpenClaim := { program := "ytmkpokcfefjifaadoor", sum := "4bb2e82aa3a3a5244794432d27e830d908f4cfbdb71440e1fe5bde7129a4c6a0", func := "catacomb/catacomblaw15.SeatDeaf", spec := "seatDeaf", unfollowed := true, recurses := true, named := ["catacomb/seat.numbers"], apart := false, laid := [("catacomb/seat.numbers", laid_catacomb_seat_numbers)], narrowed := true }
def SeatDeafUptoSaid : Prop := seatDeafUptoRow.holds Tryd.pinned (OpenSpec.upto seatDeafSpec)

/-- 'catacomblaw15.SeatTerms', WHERE WHAT IT READS IS OF BULK AT MOST 1048576: true; the input reads as it did. -/
def seatTermsUptoRow : OpenClaim := { program := "ytmkpokcfefjifaadoor", sum := "4bb2e82aa3a3a5244794432d27e830d908f4cfbdb71440e1fe5bde7129a4c6a0", func := "catacomb/catacomblaw15.SeatTerms", spec := "seatTerms", unfollowed := true, recurses := true, named := ["catacomb/seat.numbers"], apart := false, laid := [("catacomb/seat.numbers", laid_catacomb_seat_numbers)], narrowed := true }
def SeatTermsUptoSaid : Prop := seatTermsUptoRow.holds Tryd.pinned (OpenSpec.upto seatTermsSpec)

/-- 'catacomblaw15.SeatTaught', WHERE WHAT IT READS IS OF BULK AT MOST 1048576: true; the input reads as it did. -/
def seatTaughtUptoRow : OpenClaim := { program := "ytmkpokcfefjifaadoor", sum := "4bb2e82aa3a3a5244794432d27e830d908f4cfbdb71440e1fe5bde7129a4c6a0", func := "catacomb/catacomblaw15.SeatTaught", spec := "seatTaught", unfollowed := true, recurses := true, named := ["catacomb/seat.numbers"], apart := false, laid := [("catacomb/seat.numbers", laid_catacomb_seat_numbers)], narrowed := true }
def SeatTaughtUptoSaid : Prop := seatTaughtUptoRow.holds Tryd.pinned (OpenSpec.upto seatTaughtSpec)

end Rows
end Go.Proofs.YtmkpokcfefjifaaDoor
