/-
  DERIVED. GIVEN WITH THE SEED: THE CARDS: each row of YtjglejfhbehfbaaDoorRows.lean that lists a variable, with what it lists TIED to the program's text (the seventh form; the later family's looks); each row that meets fmt, with fmt's text TOLD by the authors' own Lean function (tested against real Go, not proved from fmt's source: count such statements apart). THE CARD IS WHAT COUNTS. Prove the row's statement (the work); the ties are given (YtjglejfhbehfbaaDoorTie.lean); close each card by the builder's one call (the guide's Derived/Test/ToyasCard.lean, 'card_holds'). Laid BY PROGRAM, IN A SANDBOX (cutbox-door.mjs). By AI agents, Wed Nov 11 2026. No macro, syntax, notation, axiom, sorry.
-/
import Derived.Test.YtjglejfhbehfbaaDoorRows
import GoSem.ClaimSeven
namespace Go.Proofs.YtjglejfhbehfbaaDoor
namespace Rows

/-- THE TIED CARD OF 'armaturelaw05.UniverseMatchesReference'. -/
def universeMatchesReferenceCard : Claim7 := { stood := { row := universeMatchesReferenceRow, standIns := [], harness := (true, "22433573aed3e55d4af1f8b3fd94c2b9787e547caf0dfe29cae16adbb9191b6a"), looks := false }, kinds := [], alts := [], laidByText := true, laidKinds := [.data, .data, .data], laidTests := true, laidLooks := .later }
def UniverseMatchesReferenceCardSaid : Prop := Claim7.holds Tryd.pinned (.plain (OpenSpec.ofChange universeMatchesReferenceSpec)) universeMatchesReferenceCard

/-- THE TIED CARD OF 'armaturelaw05.UniverseNumbering'. -/
def universeNumberingCard : Claim7 := { stood := { row := universeNumberingRow, standIns := [], harness := (true, "22433573aed3e55d4af1f8b3fd94c2b9787e547caf0dfe29cae16adbb9191b6a"), looks := false }, kinds := [], alts := [], laidByText := true, laidKinds := [.data, .data, .data], laidTests := true, laidLooks := .later }
def UniverseNumberingCardSaid : Prop := Claim7.holds Tryd.pinned (.plain (OpenSpec.ofChange universeNumberingSpec)) universeNumberingCard

/-- THE TIED CARD OF 'armaturelaw05.UniverseRanks'. -/
def universeRanksCard : Claim7 := { stood := { row := universeRanksRow, standIns := [], harness := (true, "22433573aed3e55d4af1f8b3fd94c2b9787e547caf0dfe29cae16adbb9191b6a"), looks := false }, kinds := [], alts := [], laidByText := true, laidKinds := [.data, .data, .data], laidTests := true, laidLooks := .later }
def UniverseRanksCardSaid : Prop := Claim7.holds Tryd.pinned (.plain (OpenSpec.ofChange universeRanksSpec)) universeRanksCard

/-- THE TIED CARD OF 'armaturelaw05.UniverseTuples'. -/
def universeTuplesCard : Claim7 := { stood := { row := universeTuplesRow, standIns := [], harness := (true, "22433573aed3e55d4af1f8b3fd94c2b9787e547caf0dfe29cae16adbb9191b6a"), looks := false }, kinds := [], alts := [], laidByText := true, laidKinds := [.data, .data, .data], laidTests := true, laidLooks := .later }
def UniverseTuplesCardSaid : Prop := Claim7.holds Tryd.pinned (.plain (OpenSpec.ofChange universeTuplesSpec)) universeTuplesCard

/-- THE TIED CARD OF 'armaturelaw05.UniverseFull'. -/
def universeFullCard : Claim7 := { stood := { row := universeFullRow, standIns := [], harness := (true, "22433573aed3e55d4af1f8b3fd94c2b9787e547caf0dfe29cae16adbb9191b6a"), looks := false }, kinds := [], alts := [], laidByText := true, laidKinds := [.data, .data, .data], laidTests := true, laidLooks := .later }
def UniverseFullCardSaid : Prop := Claim7.holds Tryd.pinned (.plain (OpenSpec.ofChange universeFullSpec)) universeFullCard

/-- THE TIED CARD OF 'armaturelaw05.UniverseNames'. -/
def universeNamesCard : Claim7 := { stood := { row := universeNamesRow, standIns := [], harness := (true, "22433573aed3e55d4af1f8b3fd94c2b9787e547caf0dfe29cae16adbb9191b6a"), looks := false }, kinds := [], alts := [], laidByText := true, laidKinds := [.data, .data, .data], laidTests := true, laidLooks := .later }
def UniverseNamesCardSaid : Prop := Claim7.holds Tryd.pinned (.plain (OpenSpec.ofChange universeNamesSpec)) universeNamesCard

/-- THE SECOND FORM's CARD OF 'armaturelaw05.UniverseMatchesReference'. -/
def universeMatchesReferenceUptoCard : Claim7 := { stood := { row := universeMatchesReferenceUptoRow, standIns := [], harness := (true, "22433573aed3e55d4af1f8b3fd94c2b9787e547caf0dfe29cae16adbb9191b6a"), looks := false }, kinds := [], alts := [], laidByText := true, laidKinds := [.data, .data, .data], laidTests := true, laidLooks := .later }
def UniverseMatchesReferenceUptoCardSaid : Prop := Claim7.holds Tryd.pinned (.plain (OpenSpec.upto universeMatchesReferenceSpec)) universeMatchesReferenceUptoCard

/-- THE SECOND FORM's CARD OF 'armaturelaw05.UniverseNumbering'. -/
def universeNumberingUptoCard : Claim7 := { stood := { row := universeNumberingUptoRow, standIns := [], harness := (true, "22433573aed3e55d4af1f8b3fd94c2b9787e547caf0dfe29cae16adbb9191b6a"), looks := false }, kinds := [], alts := [], laidByText := true, laidKinds := [.data, .data, .data], laidTests := true, laidLooks := .later }
def UniverseNumberingUptoCardSaid : Prop := Claim7.holds Tryd.pinned (.plain (OpenSpec.upto universeNumberingSpec)) universeNumberingUptoCard

/-- THE SECOND FORM's CARD OF 'armaturelaw05.UniverseRanks'. -/
def universeRanksUptoCard : Claim7 := { stood := { row := universeRanksUptoRow, standIns := [], harness := (true, "22433573aed3e55d4af1f8b3fd94c2b9787e547caf0dfe29cae16adbb9191b6a"), looks := false }, kinds := [], alts := [], laidByText := true, laidKinds := [.data, .data, .data], laidTests := true, laidLooks := .later }
def UniverseRanksUptoCardSaid : Prop := Claim7.holds Tryd.pinned (.plain (OpenSpec.upto universeRanksSpec)) universeRanksUptoCard

/-- THE SECOND FORM's CARD OF 'armaturelaw05.UniverseTuples'. -/
def universeTuplesUptoCard : Claim7 := { stood := { row := universeTuplesUptoRow, standIns := [], harness := (true, "22433573aed3e55d4af1f8b3fd94c2b9787e547caf0dfe29cae16adbb9191b6a"), looks := false }, kinds := [], alts := [], laidByText := true, laidKinds := [.data, .data, .data], laidTests := true, laidLooks := .later }
def UniverseTuplesUptoCardSaid : Prop := Claim7.holds Tryd.pinned (.plain (OpenSpec.upto universeTuplesSpec)) universeTuplesUptoCard

/-- THE SECOND FORM's CARD OF 'armaturelaw05.UniverseFull'. -/
def universeFullUptoCard : Claim7 := { stood := { row := universeFullUptoRow, standIns := [], harness := (true, "22433573aed3e55d4af1f8b3fd94c2b9787e547caf0dfe29cae16adbb9191b6a"), looks := false }, kinds := [], alts := [], laidByText := true, laidKinds := [.data, .data, .data], laidTests := true, laidLooks := .later }
def UniverseFullUptoCardSaid : Prop := Claim7.holds Tryd.pinned (.plain (OpenSpec.upto universeFullSpec)) universeFullUptoCard

/-- THE SECOND FORM's CARD OF 'armaturelaw05.UniverseNames'. -/
def universeNamesUptoCard : Claim7 := { stood := { row := universeNamesUptoRow, standIns := [], harness := (true, "22433573aed3e55d4af1f8b3fd94c2b9787e547caf0dfe29cae16adbb9191b6a"), looks := false }, kinds := [], alts := [], laidByText := true, laidKinds := [.data, .data, .data], laidTests := true, laidLooks := .later }
def UniverseNamesUptoCardSaid : Prop := Claim7.holds Tryd.pinned (.plain (OpenSpec.upto universeNamesSpec)) universeNamesUptoCard
end Rows
end Go.Proofs.YtjglejfhbehfbaaDoor
