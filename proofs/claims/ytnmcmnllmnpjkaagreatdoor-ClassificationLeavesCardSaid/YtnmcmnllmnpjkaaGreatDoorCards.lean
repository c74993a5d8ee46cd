/-
  DERIVED. GIVEN WITH THE SEED: THE CARDS: each row of YtnmcmnllmnpjkaaGreatDoorRows.lean that lists a variable, with what it lists TIED to the program's text (the seventh form; the later family's looks); each row that meets fmt, with fmt's text TOLD by the authors' own Lean function (tested against real Go, not proved from fmt's source: count such statements apart). THE CARD IS WHAT COUNTS. Prove the row's statement (the work); the ties are given (YtnmcmnllmnpjkaaGreatDoorTie.lean); close each card by the builder's one call (the guide's Derived/Test/ToyasCard.lean, 'card_holds'). Laid BY PROGRAM, IN A SANDBOX (cutbox-door.mjs). By AI agents, Wed Nov 11 2026. No macro, syntax, notation, axiom, sorry.
-/
import Derived.Test.YtnmcmnllmnpjkaaGreatDoorRows
import GoSem.ClaimSeven
namespace Go.Proofs.YtnmcmnllmnpjkaaGreatDoor
namespace Rows

/-- THE TIED CARD OF 'priceofficelaw06.ClassificationLeaves'. -/
def classificationLeavesCard : Claim7 := { stood := { row := classificationLeavesRow, standIns := [], harness := (true, "1a35cfebf291bbb959b44da1244a7c47a1ef3d02b656809e07d9b42f045b0f50"), looks := true }, kinds := [], alts := [], laidByText := true, laidKinds := [.data, .data, .data, .data, .sentinel, .sentinel, .pinned], laidTests := true, laidLooks := .later }
def ClassificationLeavesCardSaid : Prop := Claim7.holds Tryz.pinned (.plain (OpenSpec.ofChange classificationLeavesSpec)) classificationLeavesCard

/-- THE SECOND FORM's CARD OF 'priceofficelaw06.ClassificationLeaves'. -/
def classificationLeavesUptoCard : Claim7 := { stood := { row := classificationLeavesUptoRow, standIns := [], harness := (true, "1a35cfebf291bbb959b44da1244a7c47a1ef3d02b656809e07d9b42f045b0f50"), looks := true }, kinds := [], alts := [], laidByText := true, laidKinds := [.data, .data, .data, .data, .sentinel, .sentinel, .pinned], laidTests := true, laidLooks := .later }
def ClassificationLeavesUptoCardSaid : Prop := Claim7.holds Tryz.pinned (.plain (OpenSpec.upto classificationLeavesSpec)) classificationLeavesUptoCard
end Rows
end Go.Proofs.YtnmcmnllmnpjkaaGreatDoor
