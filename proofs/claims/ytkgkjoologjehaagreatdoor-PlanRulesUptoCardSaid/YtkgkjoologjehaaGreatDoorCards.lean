/-
  DERIVED. GIVEN WITH THE SEED: THE CARDS: each row of YtkgkjoologjehaaGreatDoorRows.lean that lists a variable, with what it lists TIED to the program's text (the seventh form; the later family's looks); each row that meets fmt, with fmt's text TOLD by the authors' own Lean function (tested against real Go, not proved from fmt's source: count such statements apart). THE CARD IS WHAT COUNTS. Prove the row's statement (the work); the ties are given (YtkgkjoologjehaaGreatDoorTie.lean); close each card by the builder's one call (the guide's Derived/Test/ToyasCard.lean, 'card_holds'). Laid BY PROGRAM, IN A SANDBOX (cutbox-door.mjs). By AI agents, Wed Nov 11 2026. No macro, syntax, notation, axiom, sorry.
-/
import Derived.Test.YtkgkjoologjehaaGreatDoorRows
import GoSem.ClaimSeven
namespace Go.Proofs.YtkgkjoologjehaaGreatDoor
namespace Rows

/-- THE TIED CARD OF 'priceofficelaw36.PlanReads'. -/
def planReadsCard : Claim7 := { stood := { row := planReadsRow, standIns := [], harness := (true, "f07a140107f02eac60aa25d4e485676e610d41e7afcd50e6e13af605cd9dad80"), looks := true }, kinds := [], alts := [], laidByText := true, laidKinds := [.data, .data, .data, .data, .sentinel, .sentinel, .pinned], laidTests := true, laidLooks := .later }
def PlanReadsCardSaid : Prop := Claim7.holds Tryz.pinned (.plain (OpenSpec.ofChange planReadsSpec)) planReadsCard

/-- THE TIED CARD OF 'priceofficelaw36.PlanRules'. -/
def planRulesCard : Claim7 := { stood := { row := planRulesRow, standIns := [], harness := (true, "f07a140107f02eac60aa25d4e485676e610d41e7afcd50e6e13af605cd9dad80"), looks := true }, kinds := [], alts := [], laidByText := true, laidKinds := [.data, .data, .data, .data, .sentinel, .sentinel, .pinned], laidTests := true, laidLooks := .later }
def PlanRulesCardSaid : Prop := Claim7.holds Tryz.pinned (.plain (OpenSpec.ofChange planRulesSpec)) planRulesCard

/-- THE TIED CARD OF 'priceofficelaw36.PlanNearest'. -/
def planNearestCard : Claim7 := { stood := { row := planNearestRow, standIns := [], harness := (true, "f07a140107f02eac60aa25d4e485676e610d41e7afcd50e6e13af605cd9dad80"), looks := true }, kinds := [], alts := [], laidByText := true, laidKinds := [.data, .data, .data, .data, .sentinel, .sentinel, .pinned], laidTests := true, laidLooks := .later }
def PlanNearestCardSaid : Prop := Claim7.holds Tryz.pinned (.plain (OpenSpec.ofChange planNearestSpec)) planNearestCard

/-- THE SECOND FORM's CARD OF 'priceofficelaw36.PlanReads'. -/
def planReadsUptoCard : Claim7 := { stood := { row := planReadsUptoRow, standIns := [], harness := (true, "f07a140107f02eac60aa25d4e485676e610d41e7afcd50e6e13af605cd9dad80"), looks := true }, kinds := [], alts := [], laidByText := true, laidKinds := [.data, .data, .data, .data, .sentinel, .sentinel, .pinned], laidTests := true, laidLooks := .later }
def PlanReadsUptoCardSaid : Prop := Claim7.holds Tryz.pinned (.plain (OpenSpec.upto planReadsSpec)) planReadsUptoCard

/-- THE SECOND FORM's CARD OF 'priceofficelaw36.PlanRules'. -/
def planRulesUptoCard : Claim7 := { stood := { row := planRulesUptoRow, standIns := [], harness := (true, "f07a140107f02eac60aa25d4e485676e610d41e7afcd50e6e13af605cd9dad80"), looks := true }, kinds := [], alts := [], laidByText := true, laidKinds := [.data, .data, .data, .data, .sentinel, .sentinel, .pinned], laidTests := true, laidLooks := .later }
def PlanRulesUptoCardSaid : Prop := Claim7.holds Tryz.pinned (.plain (OpenSpec.upto planRulesSpec)) planRulesUptoCard

/-- THE SECOND FORM's CARD OF 'priceofficelaw36.PlanNearest'. -/
def planNearestUptoCard : Claim7 := { stood := { row := planNearestUptoRow, standIns := [], harness := (true, "f07a140107f02eac60aa25d4e485676e610d41e7afcd50e6e13af605cd9dad80"), looks := true }, kinds := [], alts := [], laidByText := true, laidKinds := [.data, .data, .data, .data, .sentinel, .sentinel, .pinned], laidTests := true, laidLooks := .later }
def PlanNearestUptoCardSaid : Prop := Claim7.holds Tryz.pinned (.plain (OpenSpec.upto planNearestSpec)) planNearestUptoCard
end Rows
end Go.Proofs.YtkgkjoologjehaaGreatDoor
