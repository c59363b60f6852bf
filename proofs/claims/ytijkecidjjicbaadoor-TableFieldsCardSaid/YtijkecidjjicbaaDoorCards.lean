/-
  DERIVED. GIVEN WITH THE SEED: THE CARDS: each row of YtijkecidjjicbaaDoorRows.lean that lists a variable, with what it lists TIED to the program's text (the seventh form; the later family's looks); each row that meets fmt, with fmt's text TOLD by the authors' own Lean function (tested against real Go, not proved from fmt's source: count such statements apart). THE CARD IS WHAT COUNTS. Prove the row's statement (the work); the ties are given (YtijkecidjjicbaaDoorTie.lean); close each card by the builder's one call (the guide's Derived/Test/ToyasCard.lean, 'card_holds'). Laid BY PROGRAM, IN A SANDBOX (cutbox-door.mjs). By AI agents, Wed Nov 11 2026. No macro, syntax, notation, axiom, sorry.
-/
import Derived.Test.YtijkecidjjicbaaDoorRows
import GoSem.ClaimSeven
namespace Go.Proofs.YtijkecidjjicbaaDoor
namespace Rows

/-- THE TIED CARD OF 'armaturelaw34.TableStructure'. -/
def tableStructureCard : Claim7 := { stood := { row := tableStructureRow, standIns := [], harness := (true, "fa1a8414c4da7e74f30a3831072d43b46568d0a7ef8c76b01015ebc3481cdabc"), looks := true }, kinds := [], alts := [], laidByText := true, laidKinds := [.data, .data, .data, .sentinel, .sentinel], laidTests := true, laidLooks := .later }
def TableStructureCardSaid : Prop := Claim7.holds Tryd.pinned (.plain (OpenSpec.ofChange tableStructureSpec)) tableStructureCard

/-- THE TIED CARD OF 'armaturelaw34.TableFields'. -/
def tableFieldsCard : Claim7 := { stood := { row := tableFieldsRow, standIns := [], harness := (true, "fa1a8414c4da7e74f30a3831072d43b46568d0a7ef8c76b01015ebc3481cdabc"), looks := true }, kinds := [], alts := [], laidByText := true, laidKinds := [.data, .data, .data, .sentinel, .sentinel], laidTests := true, laidLooks := .later }
def TableFieldsCardSaid : Prop := Claim7.holds Tryd.pinned (.plain (OpenSpec.ofChange tableFieldsSpec)) tableFieldsCard

/-- THE SECOND FORM's CARD OF 'armaturelaw34.TableStructure'. -/
def tableStructureUptoCard : Claim7 := { stood := { row := tableStructureUptoRow, standIns := [], harness := (true, "fa1a8414c4da7e74f30a3831072d43b46568d0a7ef8c76b01015ebc3481cdabc"), looks := true }, kinds := [], alts := [], laidByText := true, laidKinds := [.data, .data, .data, .sentinel, .sentinel], laidTests := true, laidLooks := .later }
def TableStructureUptoCardSaid : Prop := Claim7.holds Tryd.pinned (.plain (OpenSpec.upto tableStructureSpec)) tableStructureUptoCard

/-- THE SECOND FORM's CARD OF 'armaturelaw34.TableFields'. -/
def tableFieldsUptoCard : Claim7 := { stood := { row := tableFieldsUptoRow, standIns := [], harness := (true, "fa1a8414c4da7e74f30a3831072d43b46568d0a7ef8c76b01015ebc3481cdabc"), looks := true }, kinds := [], alts := [], laidByText := true, laidKinds := [.data, .data, .data, .sentinel, .sentinel], laidTests := true, laidLooks := .later }
def TableFieldsUptoCardSaid : Prop := Claim7.holds Tryd.pinned (.plain (OpenSpec.upto tableFieldsSpec)) tableFieldsUptoCard
end Rows
end Go.Proofs.YtijkecidjjicbaaDoor
