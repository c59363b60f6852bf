/-
  DERIVED. GIVEN WITH THE SEED: THE CARDS: each row of YtigjjjpcjnifhaaGreatDoorRows.lean that lists a variable, with what it lists TIED to the program's text (the seventh form; the later family's looks); each row that meets fmt, with fmt's text TOLD by the authors' own Lean function (tested against real Go, not proved from fmt's source: count such statements apart). THE CARD IS WHAT COUNTS. Prove the row's statement (the work); the ties are given (YtigjjjpcjnifhaaGreatDoorTie.lean); close each card by the builder's one call (the guide's Derived/Test/ToyasCard.lean, 'card_holds'). Laid BY PROGRAM, IN A SANDBOX (cutbox-door.mjs). By AI agents, Wed Nov 11 2026. No macro, syntax, notation, axiom, sorry.
-/
import Derived.Test.YtigjjjpcjnifhaaGreatDoorRows
import GoSem.ClaimSeven
namespace Go.Proofs.YtigjjjpcjnifhaaGreatDoor
namespace Rows

/-- THE TIED CARD OF 'armaturetop.TopSimplifiedSolved'. -/
def topSimplifiedSolvedCard : Claim7 := { stood := { row := topSimplifiedSolvedRow, standIns := [], harness := (true, "413c5763cc29fa9ea638aeb67ac9107812e75eb4da15ed2fc118058f24398f9c"), looks := true }, kinds := [], alts := [], laidByText := true, laidKinds := [.data, .data, .data], laidTests := true, laidLooks := .later }
def TopSimplifiedSolvedCardSaid : Prop := Claim7.holds Tryz.pinned (.plain (OpenSpec.ofChange topSimplifiedSolvedSpec)) topSimplifiedSolvedCard

/-- THE TIED CARD OF 'armaturetop.TopProofText'. -/
def topProofTextCard : Claim7 := { stood := { row := topProofTextRow, standIns := [], harness := (true, "413c5763cc29fa9ea638aeb67ac9107812e75eb4da15ed2fc118058f24398f9c"), looks := true }, kinds := [], alts := [], laidByText := true, laidKinds := [.data, .data, .data, .data, .sentinel, .sentinel, .pinned], laidTests := true, laidLooks := .later }
def TopProofTextCardSaid : Prop := Claim7.holds Tryz.pinned (.plain (OpenSpec.ofChange topProofTextSpec)) topProofTextCard

/-- THE SECOND FORM's CARD OF 'armaturetop.TopSimplifiedSolved'. -/
def topSimplifiedSolvedUptoCard : Claim7 := { stood := { row := topSimplifiedSolvedUptoRow, standIns := [], harness := (true, "413c5763cc29fa9ea638aeb67ac9107812e75eb4da15ed2fc118058f24398f9c"), looks := true }, kinds := [], alts := [], laidByText := true, laidKinds := [.data, .data, .data], laidTests := true, laidLooks := .later }
def TopSimplifiedSolvedUptoCardSaid : Prop := Claim7.holds Tryz.pinned (.plain (OpenSpec.upto topSimplifiedSolvedSpec)) topSimplifiedSolvedUptoCard

/-- THE SECOND FORM's CARD OF 'armaturetop.TopProofText'. -/
def topProofTextUptoCard : Claim7 := { stood := { row := topProofTextUptoRow, standIns := [], harness := (true, "413c5763cc29fa9ea638aeb67ac9107812e75eb4da15ed2fc118058f24398f9c"), looks := true }, kinds := [], alts := [], laidByText := true, laidKinds := [.data, .data, .data, .data, .sentinel, .sentinel, .pinned], laidTests := true, laidLooks := .later }
def TopProofTextUptoCardSaid : Prop := Claim7.holds Tryz.pinned (.plain (OpenSpec.upto topProofTextSpec)) topProofTextUptoCard
end Rows
end Go.Proofs.YtigjjjpcjnifhaaGreatDoor
