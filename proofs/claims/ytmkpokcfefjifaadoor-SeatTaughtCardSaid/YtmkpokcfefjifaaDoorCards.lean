/-
  DERIVED. GIVEN WITH THE SEED: THE CARDS: each row of YtmkpokcfefjifaaDoorRows.lean that lists a variable, with what it lists TIED to the program's text (the seventh form; the later family's looks); each row that meets fmt, with fmt's text TOLD by the authors' own Lean function (tested against real Go, not proved from fmt's source: count such statements apart). THE CARD IS WHAT COUNTS. Prove the row's statement (the work); the ties are given (YtmkpokcfefjifaaDoorTie.lean); close each card by the builder's one call (the guide's Derived/Test/ToyasCard.lean, 'card_holds'). Laid BY PROGRAM, IN A SANDBOX (cutbox-door.mjs). By AI agents, Wed Nov 11 2026. No macro, syntax, notation, axiom, sorry.
-/
import Derived.Test.YtmkpokcfefjifaaDoorRows
import GoSem.ClaimSeven
namespace Go.Proofs.YtmkpokcfefjifaaDoor
namespace Rows

/-- THE TIED CARD OF 'catacomblaw15.SeatTwice'. -/
def seatTwiceCard : Claim7 := { stood := { row := seatTwiceRow, standIns := [], harness := (true, "521c3ea362416355c4c123bc5cfd87747f924b8525d7f0a23595f6124e37ffc2"), looks := false }, kinds := [], alts := [], laidByText := true, laidKinds := [.mapped], laidTests := true, laidLooks := .later }
def SeatTwiceCardSaid : Prop := Claim7.holds Tryd.pinned (.plain (OpenSpec.ofChange seatTwiceSpec)) seatTwiceCard

/-- THE TIED CARD OF 'catacomblaw15.SeatWins'. -/
def seatWinsCard : Claim7 := { stood := { row := seatWinsRow, standIns := [], harness := (true, "521c3ea362416355c4c123bc5cfd87747f924b8525d7f0a23595f6124e37ffc2"), looks := false }, kinds := [], alts := [], laidByText := true, laidKinds := [.mapped], laidTests := true, laidLooks := .later }
def SeatWinsCardSaid : Prop := Claim7.holds Tryd.pinned (.plain (OpenSpec.ofChange seatWinsSpec)) seatWinsCard

/-- THE TIED CARD OF 'catacomblaw15.SeatDeaf'. -/
def seatDeafCard : Claim7 := { stood := { row := seatDeafRow, standIns := [], harness := (true, "521c3ea362416355c4c123bc5cfd87747f924b8525d7f0a23595f6124e37ffc2"), looks := false }, kinds := [], alts := [], laidByText := true, laidKinds := [.mapped], laidTests := true, laidLooks := .later }
def SeatDeafCardSaid : Prop := Claim7.holds Tryd.pinned (.plain (OpenSpec.ofChange seatDeafSpec)) seatDeafCard

/-- THE TIED CARD OF 'catacomblaw15.SeatTerms'. -/
def seatTermsCard : Claim7 := { stood := { row := seatTermsRow, standIns := [], harness := (true, "521c3ea362416355c4c123bc5cfd87747f924b8525d7f0a23595f6124e37ffc2"), looks := false }, kinds := [], alts := [], laidByText := true, laidKinds := [.mapped], laidTests := true, laidLooks := .later }
def SeatTermsCardSaid : Prop := Claim7.holds Tryd.pinned (.plain (OpenSpec.ofChange seatTermsSpec)) seatTermsCard

/-- THE TIED CARD OF 'catacomblaw15.SeatTaught'. -/
def seatTaughtCard : Claim7 := { stood := { row := seatTaughtRow, standIns := [], harness := (true, "521c3ea362416355c4c123bc5cfd87747f924b8525d7f0a23595f6124e37ffc2"), looks := false }, kinds := [], alts := [], laidByText := true, laidKinds := [.mapped], laidTests := true, laidLooks := .later }
def SeatTaughtCardSaid : Prop := Claim7.holds Tryd.pinned (.plain (OpenSpec.ofChange seatTaughtSpec)) seatTaughtCard

/-- THE SECOND FORM's CARD OF 'catacomblaw15.SeatTwice'. -/
def seatTwiceUptoCard : Claim7 := { stood := { row := seatTwiceUptoRow, standIns := [], harness := (true, "521c3ea362416355c4c123bc5cfd87747f924b8525d7f0a23595f6124e37ffc2"), looks := false }, kinds := [], alts := [], laidByText := true, laidKinds := [.mapped], laidTests := true, laidLooks := .later }
def SeatTwiceUptoCardSaid : Prop := Claim7.holds Tryd.pinned (.plain (OpenSpec.upto seatTwiceSpec)) seatTwiceUptoCard

/-- THE SECOND FORM's CARD OF 'catacomblaw15.SeatWins'. -/
def seatWinsUptoCard : Claim7 := { stood := { row := seatWinsUptoRow, standIns := [], harness := (true, "521c3ea362416355c4c123bc5cfd87747f924b8525d7f0a23595f6124e37ffc2"), looks := false }, kinds := [], alts := [], laidByText := true, laidKinds := [.mapped], laidTests := true, laidLooks := .later }
def SeatWinsUptoCardSaid : Prop := Claim7.holds Tryd.pinned (.plain (OpenSpec.upto seatWinsSpec)) seatWinsUptoCard

/-- THE SECOND FORM's CARD OF 'catacomblaw15.SeatDeaf'. -/
def seatDeafUptoCard : Claim7 := { stood := { row := seatDeafUptoRow, standIns := [], harness := (true, "521c3ea362416355c4c123bc5cfd87747f924b8525d7f0a23595f6124e37ffc2"), looks := false }, kinds := [], alts := [], laidByText := true, laidKinds := [.mapped], laidTests := true, laidLooks := .later }
def SeatDeafUptoCardSaid : Prop := Claim7.holds Tryd.pinned (.plain (OpenSpec.upto seatDeafSpec)) seatDeafUptoCard

/-- THE SECOND FORM's CARD OF 'catacomblaw15.SeatTerms'. -/
def seatTermsUptoCard : Claim7 := { stood := { row := seatTermsUptoRow, standIns := [], harness := (true, "521c3ea362416355c4c123bc5cfd87747f924b8525d7f0a23595f6124e37ffc2"), looks := false }, kinds := [], alts := [], laidByText := true, laidKinds := [.mapped], laidTests := true, laidLooks := .later }
def SeatTermsUptoCardSaid : Prop := Claim7.holds Tryd.pinned (.plain (OpenSpec.upto seatTermsSpec)) seatTermsUptoCard

/-- THE SECOND FORM's CARD OF 'catacomblaw15.SeatTaught'. -/
def seatTaughtUptoCard : Claim7 := { stood := { row := seatTaughtUptoRow, standIns := [], harness := (true, "521c3ea362416355c4c123bc5cfd87747f924b8525d7f0a23595f6124e37ffc2"), looks := false }, kinds := [], alts := [], laidByText := true, laidKinds := [.mapped], laidTests := true, laidLooks := .later }
def SeatTaughtUptoCardSaid : Prop := Claim7.holds Tryd.pinned (.plain (OpenSpec.upto seatTaughtSpec)) seatTaughtUptoCard
end Rows
end Go.Proofs.YtmkpokcfefjifaaDoor
