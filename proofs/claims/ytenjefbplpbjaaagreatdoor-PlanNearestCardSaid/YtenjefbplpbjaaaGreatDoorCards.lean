/-
  DERIVED. GIVEN WITH THE SEED: THE CARDS: each row of YtenjefbplpbjaaaGreatDoorRows.lean that lists a variable, with what it lists TIED to the program's text (the seventh form; the later family's looks); each row that meets fmt, with fmt's text TOLD by the authors' own Lean function (tested against real Go, not proved from fmt's source: count such statements apart). THE CARD IS WHAT COUNTS. Prove the row's statement (the work); the ties are given (YtenjefbplpbjaaaGreatDoorTie.lean); close each card by the builder's one call (the guide's Derived/Test/ToyasCard.lean, 'card_holds'). Laid BY PROGRAM, IN A SANDBOX (cutbox-door.mjs). By AI agents, Wed Nov 11 2026. No macro, syntax, notation, axiom, sorry.
-/
import Derived.Test.YtenjefbplpbjaaaGreatDoorRows
import GoSem.ClaimSeven
namespace Go.Proofs.YtenjefbplpbjaaaGreatDoor
namespace Rows

/-- THE TIED CARD OF 'priceofficelaw36.PlanLong'. -/
def planLongCard : Claim7 := { stood := { row := planLongRow, standIns := [], harness := (true, "0fdf54ef32d9b661a405a5444921c03fb58737673593b67f275fb3244924b0cd"), looks := true }, kinds := [], alts := [], laidByText := true, laidKinds := [.data, .data, .data, .data, .sentinel, .sentinel, .pinned], laidTests := true, laidLooks := .later }
def PlanLongCardSaid : Prop := Claim7.holds Tryz.pinned (.plain (OpenSpec.ofChange planLongSpec)) planLongCard

/-- THE TIED CARD OF 'priceofficelaw36.PlanNearest'. -/
def planNearestCard : Claim7 := { stood := { row := planNearestRow, standIns := [], harness := (true, "0fdf54ef32d9b661a405a5444921c03fb58737673593b67f275fb3244924b0cd"), looks := true }, kinds := [], alts := [], laidByText := true, laidKinds := [.data, .data, .data, .data, .sentinel, .sentinel, .pinned], laidTests := true, laidLooks := .later }
def PlanNearestCardSaid : Prop := Claim7.holds Tryz.pinned (.plain (OpenSpec.ofChange planNearestSpec)) planNearestCard

/-- THE SECOND FORM's CARD OF 'priceofficelaw36.PlanLong'. -/
def planLongUptoCard : Claim7 := { stood := { row := planLongUptoRow, standIns := [], harness := (true, "0fdf54ef32d9b661a405a5444921c03fb58737673593b67f275fb3244924b0cd"), looks := true }, kinds := [], alts := [], laidByText := true, laidKinds := [.data, .data, .data, .data, .sentinel, .sentinel, .pinned], laidTests := true, laidLooks := .later }
def PlanLongUptoCardSaid : Prop := Claim7.holds Tryz.pinned (.plain (OpenSpec.upto planLongSpec)) planLongUptoCard

/-- THE SECOND FORM's CARD OF 'priceofficelaw36.PlanNearest'. -/
def planNearestUptoCard : Claim7 := { stood := { row := planNearestUptoRow, standIns := [], harness := (true, "0fdf54ef32d9b661a405a5444921c03fb58737673593b67f275fb3244924b0cd"), looks := true }, kinds := [], alts := [], laidByText := true, laidKinds := [.data, .data, .data, .data, .sentinel, .sentinel, .pinned], laidTests := true, laidLooks := .later }
def PlanNearestUptoCardSaid : Prop := Claim7.holds Tryz.pinned (.plain (OpenSpec.upto planNearestSpec)) planNearestUptoCard
end Rows
end Go.Proofs.YtenjefbplpbjaaaGreatDoor
