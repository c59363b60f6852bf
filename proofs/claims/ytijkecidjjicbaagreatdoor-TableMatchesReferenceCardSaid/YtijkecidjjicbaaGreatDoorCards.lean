/-
  DERIVED. GIVEN WITH THE SEED: THE CARDS: each row of YtijkecidjjicbaaGreatDoorRows.lean that lists a variable, with what it lists TIED to the program's text (the seventh form; the later family's looks); each row that meets fmt, with fmt's text TOLD by the authors' own Lean function (tested against real Go, not proved from fmt's source: count such statements apart). THE CARD IS WHAT COUNTS. Prove the row's statement (the work); the ties are given (YtijkecidjjicbaaGreatDoorTie.lean); close each card by the builder's one call (the guide's Derived/Test/ToyasCard.lean, 'card_holds'). Laid BY PROGRAM, IN A SANDBOX (cutbox-door.mjs). By AI agents, Wed Nov 11 2026. No macro, syntax, notation, axiom, sorry.
-/
import Derived.Test.YtijkecidjjicbaaGreatDoorRows
import GoSem.ClaimSeven
namespace Go.Proofs.YtijkecidjjicbaaGreatDoor
namespace Rows

/-- THE TIED CARD OF 'armaturelaw34.TableMatchesReference'. -/
def tableMatchesReferenceCard : Claim7 := { stood := { row := tableMatchesReferenceRow, standIns := [], harness := (true, "0ece976bdfb03ccaad2ced6d24e0ca89ff43059ee33ad792ea19b17f3b6203ec"), looks := true }, kinds := [], alts := [], laidByText := true, laidKinds := [.data, .data, .data, .sentinel, .sentinel], laidTests := true, laidLooks := .later }
def TableMatchesReferenceCardSaid : Prop := Claim7.holds Tryz.pinned (.plain (OpenSpec.ofChange tableMatchesReferenceSpec)) tableMatchesReferenceCard

/-- THE TIED CARD OF 'armaturelaw34.TableRoundTrip'. -/
def tableRoundTripCard : Claim7 := { stood := { row := tableRoundTripRow, standIns := [], harness := (true, "0ece976bdfb03ccaad2ced6d24e0ca89ff43059ee33ad792ea19b17f3b6203ec"), looks := true }, kinds := [], alts := [], laidByText := true, laidKinds := [.data, .data, .data, .sentinel, .sentinel], laidTests := true, laidLooks := .later }
def TableRoundTripCardSaid : Prop := Claim7.holds Tryz.pinned (.plain (OpenSpec.ofChange tableRoundTripSpec)) tableRoundTripCard

/-- THE TIED CARD OF 'armaturelaw34.TableInjective'. -/
def tableInjectiveCard : Claim7 := { stood := { row := tableInjectiveRow, standIns := [], harness := (true, "0ece976bdfb03ccaad2ced6d24e0ca89ff43059ee33ad792ea19b17f3b6203ec"), looks := true }, kinds := [], alts := [], laidByText := true, laidKinds := [.data, .data, .data, .sentinel, .sentinel], laidTests := true, laidLooks := .later }
def TableInjectiveCardSaid : Prop := Claim7.holds Tryz.pinned (.plain (OpenSpec.ofChange tableInjectiveSpec)) tableInjectiveCard

/-- THE TIED CARD OF 'armaturelaw34.TableSymmetry'. -/
def tableSymmetryCard : Claim7 := { stood := { row := tableSymmetryRow, standIns := [], harness := (true, "0ece976bdfb03ccaad2ced6d24e0ca89ff43059ee33ad792ea19b17f3b6203ec"), looks := true }, kinds := [], alts := [], laidByText := true, laidKinds := [.data, .data, .data, .sentinel, .sentinel], laidTests := true, laidLooks := .later }
def TableSymmetryCardSaid : Prop := Claim7.holds Tryz.pinned (.plain (OpenSpec.ofChange tableSymmetrySpec)) tableSymmetryCard

/-- THE SECOND FORM's CARD OF 'armaturelaw34.TableMatchesReference'. -/
def tableMatchesReferenceUptoCard : Claim7 := { stood := { row := tableMatchesReferenceUptoRow, standIns := [], harness := (true, "0ece976bdfb03ccaad2ced6d24e0ca89ff43059ee33ad792ea19b17f3b6203ec"), looks := true }, kinds := [], alts := [], laidByText := true, laidKinds := [.data, .data, .data, .sentinel, .sentinel], laidTests := true, laidLooks := .later }
def TableMatchesReferenceUptoCardSaid : Prop := Claim7.holds Tryz.pinned (.plain (OpenSpec.upto tableMatchesReferenceSpec)) tableMatchesReferenceUptoCard

/-- THE SECOND FORM's CARD OF 'armaturelaw34.TableRoundTrip'. -/
def tableRoundTripUptoCard : Claim7 := { stood := { row := tableRoundTripUptoRow, standIns := [], harness := (true, "0ece976bdfb03ccaad2ced6d24e0ca89ff43059ee33ad792ea19b17f3b6203ec"), looks := true }, kinds := [], alts := [], laidByText := true, laidKinds := [.data, .data, .data, .sentinel, .sentinel], laidTests := true, laidLooks := .later }
def TableRoundTripUptoCardSaid : Prop := Claim7.holds Tryz.pinned (.plain (OpenSpec.upto tableRoundTripSpec)) tableRoundTripUptoCard

/-- THE SECOND FORM's CARD OF 'armaturelaw34.TableInjective'. -/
def tableInjectiveUptoCard : Claim7 := { stood := { row := tableInjectiveUptoRow, standIns := [], harness := (true, "0ece976bdfb03ccaad2ced6d24e0ca89ff43059ee33ad792ea19b17f3b6203ec"), looks := true }, kinds := [], alts := [], laidByText := true, laidKinds := [.data, .data, .data, .sentinel, .sentinel], laidTests := true, laidLooks := .later }
def TableInjectiveUptoCardSaid : Prop := Claim7.holds Tryz.pinned (.plain (OpenSpec.upto tableInjectiveSpec)) tableInjectiveUptoCard

/-- THE SECOND FORM's CARD OF 'armaturelaw34.TableSymmetry'. -/
def tableSymmetryUptoCard : Claim7 := { stood := { row := tableSymmetryUptoRow, standIns := [], harness := (true, "0ece976bdfb03ccaad2ced6d24e0ca89ff43059ee33ad792ea19b17f3b6203ec"), looks := true }, kinds := [], alts := [], laidByText := true, laidKinds := [.data, .data, .data, .sentinel, .sentinel], laidTests := true, laidLooks := .later }
def TableSymmetryUptoCardSaid : Prop := Claim7.holds Tryz.pinned (.plain (OpenSpec.upto tableSymmetrySpec)) tableSymmetryUptoCard
end Rows
end Go.Proofs.YtijkecidjjicbaaGreatDoor
