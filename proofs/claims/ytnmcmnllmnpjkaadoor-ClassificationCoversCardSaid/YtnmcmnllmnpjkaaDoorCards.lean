/-
  DERIVED. GIVEN WITH THE SEED: THE CARDS: each row of YtnmcmnllmnpjkaaDoorRows.lean that lists a variable, with what it lists TIED to the program's text (the seventh form; the later family's looks); each row that meets fmt, with fmt's text TOLD by the authors' own Lean function (tested against real Go, not proved from fmt's source: count such statements apart). THE CARD IS WHAT COUNTS. Prove the row's statement (the work); the ties are given (YtnmcmnllmnpjkaaDoorTie.lean); close each card by the builder's one call (the guide's Derived/Test/ToyasCard.lean, 'card_holds'). Laid BY PROGRAM, IN A SANDBOX (cutbox-door.mjs). By AI agents, Wed Nov 11 2026. No macro, syntax, notation, axiom, sorry.
-/
import Derived.Test.YtnmcmnllmnpjkaaDoorRows
import GoSem.ClaimSeven
namespace Go.Proofs.YtnmcmnllmnpjkaaDoor
namespace Rows

/-- THE TIED CARD OF 'priceofficelaw06.ClassificationParses'. -/
def classificationParsesCard : Claim7 := { stood := { row := classificationParsesRow, standIns := [], harness := (true, "630d2e66afa47191747b947eebecdecc9b6a064691544cc16ed82bda02d66a22"), looks := true }, kinds := [], alts := [], laidByText := true, laidKinds := [.data, .data, .data, .data, .sentinel, .sentinel, .pinned], laidTests := true, laidLooks := .later }
def ClassificationParsesCardSaid : Prop := Claim7.holds Tryd.pinned (.plain (OpenSpec.ofChange classificationParsesSpec)) classificationParsesCard

/-- THE TIED CARD OF 'priceofficelaw06.ClassificationTotal'. -/
def classificationTotalCard : Claim7 := { stood := { row := classificationTotalRow, standIns := [], harness := (true, "630d2e66afa47191747b947eebecdecc9b6a064691544cc16ed82bda02d66a22"), looks := true }, kinds := [], alts := [], laidByText := true, laidKinds := [.data, .data, .data, .data, .sentinel, .sentinel, .pinned], laidTests := true, laidLooks := .later }
def ClassificationTotalCardSaid : Prop := Claim7.holds Tryd.pinned (.plain (OpenSpec.ofChange classificationTotalSpec)) classificationTotalCard

/-- THE TIED CARD OF 'priceofficelaw06.ClassificationParts'. -/
def classificationPartsCard : Claim7 := { stood := { row := classificationPartsRow, standIns := [], harness := (true, "630d2e66afa47191747b947eebecdecc9b6a064691544cc16ed82bda02d66a22"), looks := true }, kinds := [], alts := [], laidByText := true, laidKinds := [.data, .data, .data, .data, .sentinel, .sentinel, .pinned], laidTests := true, laidLooks := .later }
def ClassificationPartsCardSaid : Prop := Claim7.holds Tryd.pinned (.plain (OpenSpec.ofChange classificationPartsSpec)) classificationPartsCard

/-- THE TIED CARD OF 'priceofficelaw06.ClassificationLevels'. -/
def classificationLevelsCard : Claim7 := { stood := { row := classificationLevelsRow, standIns := [], harness := (true, "630d2e66afa47191747b947eebecdecc9b6a064691544cc16ed82bda02d66a22"), looks := true }, kinds := [], alts := [], laidByText := true, laidKinds := [.data, .data, .data, .data, .sentinel, .sentinel, .pinned], laidTests := true, laidLooks := .later }
def ClassificationLevelsCardSaid : Prop := Claim7.holds Tryd.pinned (.plain (OpenSpec.ofChange classificationLevelsSpec)) classificationLevelsCard

/-- THE TIED CARD OF 'priceofficelaw06.ClassificationValid'. -/
def classificationValidCard : Claim7 := { stood := { row := classificationValidRow, standIns := [], harness := (true, "630d2e66afa47191747b947eebecdecc9b6a064691544cc16ed82bda02d66a22"), looks := true }, kinds := [], alts := [], laidByText := true, laidKinds := [.data, .data, .data, .data, .sentinel, .sentinel, .pinned], laidTests := true, laidLooks := .later }
def ClassificationValidCardSaid : Prop := Claim7.holds Tryd.pinned (.plain (OpenSpec.ofChange classificationValidSpec)) classificationValidCard

/-- THE TIED CARD OF 'priceofficelaw06.ClassificationMany'. -/
def classificationManyCard : Claim7 := { stood := { row := classificationManyRow, standIns := [], harness := (true, "630d2e66afa47191747b947eebecdecc9b6a064691544cc16ed82bda02d66a22"), looks := true }, kinds := [], alts := [], laidByText := true, laidKinds := [.data, .data, .data, .data, .sentinel, .sentinel, .pinned], laidTests := true, laidLooks := .later }
def ClassificationManyCardSaid : Prop := Claim7.holds Tryd.pinned (.plain (OpenSpec.ofChange classificationManySpec)) classificationManyCard

/-- THE TIED CARD OF 'priceofficelaw06.ClassificationOrders'. -/
def classificationOrdersCard : Claim7 := { stood := { row := classificationOrdersRow, standIns := [], harness := (true, "630d2e66afa47191747b947eebecdecc9b6a064691544cc16ed82bda02d66a22"), looks := true }, kinds := [], alts := [], laidByText := true, laidKinds := [.data, .data, .data, .data, .sentinel, .sentinel, .pinned], laidTests := true, laidLooks := .later }
def ClassificationOrdersCardSaid : Prop := Claim7.holds Tryd.pinned (.plain (OpenSpec.ofChange classificationOrdersSpec)) classificationOrdersCard

/-- THE TIED CARD OF 'priceofficelaw06.ClassificationMeets'. -/
def classificationMeetsCard : Claim7 := { stood := { row := classificationMeetsRow, standIns := [], harness := (true, "630d2e66afa47191747b947eebecdecc9b6a064691544cc16ed82bda02d66a22"), looks := true }, kinds := [], alts := [], laidByText := true, laidKinds := [.data, .data, .data, .data, .sentinel, .sentinel, .pinned], laidTests := true, laidLooks := .later }
def ClassificationMeetsCardSaid : Prop := Claim7.holds Tryd.pinned (.plain (OpenSpec.ofChange classificationMeetsSpec)) classificationMeetsCard

/-- THE TIED CARD OF 'priceofficelaw06.ClassificationDivides'. -/
def classificationDividesCard : Claim7 := { stood := { row := classificationDividesRow, standIns := [], harness := (true, "630d2e66afa47191747b947eebecdecc9b6a064691544cc16ed82bda02d66a22"), looks := true }, kinds := [], alts := [], laidByText := true, laidKinds := [.data, .data, .data, .data, .sentinel, .sentinel, .pinned], laidTests := true, laidLooks := .later }
def ClassificationDividesCardSaid : Prop := Claim7.holds Tryd.pinned (.plain (OpenSpec.ofChange classificationDividesSpec)) classificationDividesCard

/-- THE TIED CARD OF 'priceofficelaw06.ClassificationCovers'. -/
def classificationCoversCard : Claim7 := { stood := { row := classificationCoversRow, standIns := [], harness := (true, "630d2e66afa47191747b947eebecdecc9b6a064691544cc16ed82bda02d66a22"), looks := true }, kinds := [], alts := [], laidByText := true, laidKinds := [.data, .data, .data, .data, .sentinel, .sentinel, .pinned], laidTests := true, laidLooks := .later }
def ClassificationCoversCardSaid : Prop := Claim7.holds Tryd.pinned (.plain (OpenSpec.ofChange classificationCoversSpec)) classificationCoversCard

/-- THE SECOND FORM's CARD OF 'priceofficelaw06.ClassificationParses'. -/
def classificationParsesUptoCard : Claim7 := { stood := { row := classificationParsesUptoRow, standIns := [], harness := (true, "630d2e66afa47191747b947eebecdecc9b6a064691544cc16ed82bda02d66a22"), looks := true }, kinds := [], alts := [], laidByText := true, laidKinds := [.data, .data, .data, .data, .sentinel, .sentinel, .pinned], laidTests := true, laidLooks := .later }
def ClassificationParsesUptoCardSaid : Prop := Claim7.holds Tryd.pinned (.plain (OpenSpec.upto classificationParsesSpec)) classificationParsesUptoCard

/-- THE SECOND FORM's CARD OF 'priceofficelaw06.ClassificationTotal'. -/
def classificationTotalUptoCard : Claim7 := { stood := { row := classificationTotalUptoRow, standIns := [], harness := (true, "630d2e66afa47191747b947eebecdecc9b6a064691544cc16ed82bda02d66a22"), looks := true }, kinds := [], alts := [], laidByText := true, laidKinds := [.data, .data, .data, .data, .sentinel, .sentinel, .pinned], laidTests := true, laidLooks := .later }
def ClassificationTotalUptoCardSaid : Prop := Claim7.holds Tryd.pinned (.plain (OpenSpec.upto classificationTotalSpec)) classificationTotalUptoCard

/-- THE SECOND FORM's CARD OF 'priceofficelaw06.ClassificationParts'. -/
def classificationPartsUptoCard : Claim7 := { stood := { row := classificationPartsUptoRow, standIns := [], harness := (true, "630d2e66afa47191747b947eebecdecc9b6a064691544cc16ed82bda02d66a22"), looks := true }, kinds := [], alts := [], laidByText := true, laidKinds := [.data, .data, .data, .data, .sentinel, .sentinel, .pinned], laidTests := true, laidLooks := .later }
def ClassificationPartsUptoCardSaid : Prop := Claim7.holds Tryd.pinned (.plain (OpenSpec.upto classificationPartsSpec)) classificationPartsUptoCard

/-- THE SECOND FORM's CARD OF 'priceofficelaw06.ClassificationLevels'. -/
def classificationLevelsUptoCard : Claim7 := { stood := { row := classificationLevelsUptoRow, standIns := [], harness := (true, "630d2e66afa47191747b947eebecdecc9b6a064691544cc16ed82bda02d66a22"), looks := true }, kinds := [], alts := [], laidByText := true, laidKinds := [.data, .data, .data, .data, .sentinel, .sentinel, .pinned], laidTests := true, laidLooks := .later }
def ClassificationLevelsUptoCardSaid : Prop := Claim7.holds Tryd.pinned (.plain (OpenSpec.upto classificationLevelsSpec)) classificationLevelsUptoCard

/-- THE SECOND FORM's CARD OF 'priceofficelaw06.ClassificationValid'. -/
def classificationValidUptoCard : Claim7 := { stood := { row := classificationValidUptoRow, standIns := [], harness := (true, "630d2e66afa47191747b947eebecdecc9b6a064691544cc16ed82bda02d66a22"), looks := true }, kinds := [], alts := [], laidByText := true, laidKinds := [.data, .data, .data, .data, .sentinel, .sentinel, .pinned], laidTests := true, laidLooks := .later }
def ClassificationValidUptoCardSaid : Prop := Claim7.holds Tryd.pinned (.plain (OpenSpec.upto classificationValidSpec)) classificationValidUptoCard

/-- THE SECOND FORM's CARD OF 'priceofficelaw06.ClassificationMany'. -/
def classificationManyUptoCard : Claim7 := { stood := { row := classificationManyUptoRow, standIns := [], harness := (true, "630d2e66afa47191747b947eebecdecc9b6a064691544cc16ed82bda02d66a22"), looks := true }, kinds := [], alts := [], laidByText := true, laidKinds := [.data, .data, .data, .data, .sentinel, .sentinel, .pinned], laidTests := true, laidLooks := .later }
def ClassificationManyUptoCardSaid : Prop := Claim7.holds Tryd.pinned (.plain (OpenSpec.upto classificationManySpec)) classificationManyUptoCard

/-- THE SECOND FORM's CARD OF 'priceofficelaw06.ClassificationOrders'. -/
def classificationOrdersUptoCard : Claim7 := { stood := { row := classificationOrdersUptoRow, standIns := [], harness := (true, "630d2e66afa47191747b947eebecdecc9b6a064691544cc16ed82bda02d66a22"), looks := true }, kinds := [], alts := [], laidByText := true, laidKinds := [.data, .data, .data, .data, .sentinel, .sentinel, .pinned], laidTests := true, laidLooks := .later }
def ClassificationOrdersUptoCardSaid : Prop := Claim7.holds Tryd.pinned (.plain (OpenSpec.upto classificationOrdersSpec)) classificationOrdersUptoCard

/-- THE SECOND FORM's CARD OF 'priceofficelaw06.ClassificationMeets'. -/
def classificationMeetsUptoCard : Claim7 := { stood := { row := classificationMeetsUptoRow, standIns := [], harness := (true, "630d2e66afa47191747b947eebecdecc9b6a064691544cc16ed82bda02d66a22"), looks := true }, kinds := [], alts := [], laidByText := true, laidKinds := [.data, .data, .data, .data, .sentinel, .sentinel, .pinned], laidTests := true, laidLooks := .later }
def ClassificationMeetsUptoCardSaid : Prop := Claim7.holds Tryd.pinned (.plain (OpenSpec.upto classificationMeetsSpec)) classificationMeetsUptoCard

/-- THE SECOND FORM's CARD OF 'priceofficelaw06.ClassificationDivides'. -/
def classificationDividesUptoCard : Claim7 := { stood := { row := classificationDividesUptoRow, standIns := [], harness := (true, "630d2e66afa47191747b947eebecdecc9b6a064691544cc16ed82bda02d66a22"), looks := true }, kinds := [], alts := [], laidByText := true, laidKinds := [.data, .data, .data, .data, .sentinel, .sentinel, .pinned], laidTests := true, laidLooks := .later }
def ClassificationDividesUptoCardSaid : Prop := Claim7.holds Tryd.pinned (.plain (OpenSpec.upto classificationDividesSpec)) classificationDividesUptoCard

/-- THE SECOND FORM's CARD OF 'priceofficelaw06.ClassificationCovers'. -/
def classificationCoversUptoCard : Claim7 := { stood := { row := classificationCoversUptoRow, standIns := [], harness := (true, "630d2e66afa47191747b947eebecdecc9b6a064691544cc16ed82bda02d66a22"), looks := true }, kinds := [], alts := [], laidByText := true, laidKinds := [.data, .data, .data, .data, .sentinel, .sentinel, .pinned], laidTests := true, laidLooks := .later }
def ClassificationCoversUptoCardSaid : Prop := Claim7.holds Tryd.pinned (.plain (OpenSpec.upto classificationCoversSpec)) classificationCoversUptoCard
end Rows
end Go.Proofs.YtnmcmnllmnpjkaaDoor
