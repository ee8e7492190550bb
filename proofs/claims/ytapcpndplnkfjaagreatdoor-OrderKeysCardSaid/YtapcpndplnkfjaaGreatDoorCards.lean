/-
  DERIVED. GIVEN WITH THE SEED: THE CARDS: each row of YtapcpndplnkfjaaGreatDoorRows.lean that lists a variable, with what it lists TIED to the program's text (the seventh form; the later family's looks); each row that meets fmt, with fmt's text TOLD by the authors' own Lean function (tested against real Go, not proved from fmt's source: count such statements apart). THE CARD IS WHAT COUNTS. Prove the row's statement (the work); the ties are given (YtapcpndplnkfjaaGreatDoorTie.lean); close each card by the builder's one call (the guide's Derived/Test/ToyasCard.lean, 'card_holds'). Laid BY PROGRAM, IN A SANDBOX (cutbox-door.mjs). By AI agents, Wed Nov 11 2026. No macro, syntax, notation, axiom, sorry.
-/
import Derived.Test.YtapcpndplnkfjaaGreatDoorRows
import GoSem.ClaimSeven
namespace Go.Proofs.YtapcpndplnkfjaaGreatDoor
namespace Rows

/-- THE TIED CARD OF 'rubricatorlaw17.OrderKeys'. -/
def orderKeysCard : Claim7 := { stood := { row := orderKeysRow, standIns := [], harness := (true, "aba281d57290ddeb60780b2bd097f3ec1eb88c897dcbc15e2080315b103f62dd"), looks := false }, kinds := [], alts := [], laidByText := true, laidKinds := [.data, .data, .pinned, .pinned], laidTests := true, laidLooks := .later }
def OrderKeysCardSaid : Prop := Claim7.holds Tryz.pinned (.plain (OpenSpec.ofChange orderKeysSpec)) orderKeysCard

/-- THE TIED CARD OF 'rubricatorlaw17.OrderKinds'. -/
def orderKindsCard : Claim7 := { stood := { row := orderKindsRow, standIns := [], harness := (true, "aba281d57290ddeb60780b2bd097f3ec1eb88c897dcbc15e2080315b103f62dd"), looks := false }, kinds := [], alts := [], laidByText := true, laidKinds := [.data, .data, .pinned, .pinned], laidTests := true, laidLooks := .later }
def OrderKindsCardSaid : Prop := Claim7.holds Tryz.pinned (.plain (OpenSpec.ofChange orderKindsSpec)) orderKindsCard

/-- THE TIED CARD OF 'rubricatorlaw20.PlanBounds'. -/
def planBoundsCard : Claim7 := { stood := { row := planBoundsRow, standIns := [], harness := (true, "aba281d57290ddeb60780b2bd097f3ec1eb88c897dcbc15e2080315b103f62dd"), looks := false }, kinds := [], alts := [], laidByText := true, laidKinds := [.data, .data, .pinned, .pinned], laidTests := true, laidLooks := .later }
def PlanBoundsCardSaid : Prop := Claim7.holds Tryz.pinned (.plain (OpenSpec.ofChange planBoundsSpec)) planBoundsCard

/-- THE TIED CARD OF 'rubricatorlaw20.PlanChooses'. -/
def planChoosesCard : Claim7 := { stood := { row := planChoosesRow, standIns := [], harness := (true, "aba281d57290ddeb60780b2bd097f3ec1eb88c897dcbc15e2080315b103f62dd"), looks := false }, kinds := [], alts := [], laidByText := true, laidKinds := [.data, .data, .pinned, .pinned], laidTests := true, laidLooks := .later }
def PlanChoosesCardSaid : Prop := Claim7.holds Tryz.pinned (.plain (OpenSpec.ofChange planChoosesSpec)) planChoosesCard

/-- THE TIED CARD OF 'rubricatorlaw20.PlanBehind'. -/
def planBehindCard : Claim7 := { stood := { row := planBehindRow, standIns := [], harness := (true, "aba281d57290ddeb60780b2bd097f3ec1eb88c897dcbc15e2080315b103f62dd"), looks := false }, kinds := [], alts := [], laidByText := true, laidKinds := [.data, .data, .pinned, .pinned], laidTests := true, laidLooks := .later }
def PlanBehindCardSaid : Prop := Claim7.holds Tryz.pinned (.plain (OpenSpec.ofChange planBehindSpec)) planBehindCard

/-- THE TIED CARD OF 'rubricatorlaw17.OrderStands'. -/
def orderStandsCard : Claim7 := { stood := { row := orderStandsRow, standIns := [], harness := (true, "aba281d57290ddeb60780b2bd097f3ec1eb88c897dcbc15e2080315b103f62dd"), looks := false }, kinds := [], alts := [], laidByText := true, laidKinds := [.data, .data, .pinned, .pinned], laidTests := true, laidLooks := .later }
def OrderStandsCardSaid : Prop := Claim7.holds Tryz.pinned (.plain (OpenSpec.ofChange orderStandsSpec)) orderStandsCard

/-- THE TIED CARD OF 'rubricatorlaw15.JsonParses'. -/
def jsonParsesCard : Claim7 := { stood := { row := jsonParsesRow, standIns := [], harness := (true, "aba281d57290ddeb60780b2bd097f3ec1eb88c897dcbc15e2080315b103f62dd"), looks := false }, kinds := [], alts := [], laidByText := true, laidKinds := [.data, .data, .data, .data, .pinned, .pinned], laidTests := true, laidLooks := .later }
def JsonParsesCardSaid : Prop := Claim7.holds Tryz.pinned (.plain (OpenSpec.ofChange jsonParsesSpec)) jsonParsesCard

/-- THE TIED CARD OF 'rubricatorlaw15.JsonCompares'. -/
def jsonComparesCard : Claim7 := { stood := { row := jsonComparesRow, standIns := [], harness := (true, "aba281d57290ddeb60780b2bd097f3ec1eb88c897dcbc15e2080315b103f62dd"), looks := false }, kinds := [], alts := [], laidByText := true, laidKinds := [.data, .data, .data, .data, .pinned, .pinned], laidTests := true, laidLooks := .later }
def JsonComparesCardSaid : Prop := Claim7.holds Tryz.pinned (.plain (OpenSpec.ofChange jsonComparesSpec)) jsonComparesCard

/-- THE TIED CARD OF 'rubricatorlaw15.JsonBack'. -/
def jsonBackCard : Claim7 := { stood := { row := jsonBackRow, standIns := [], harness := (true, "aba281d57290ddeb60780b2bd097f3ec1eb88c897dcbc15e2080315b103f62dd"), looks := false }, kinds := [], alts := [], laidByText := true, laidKinds := [.data, .data, .data, .data, .pinned, .pinned], laidTests := true, laidLooks := .later }
def JsonBackCardSaid : Prop := Claim7.holds Tryz.pinned (.plain (OpenSpec.ofChange jsonBackSpec)) jsonBackCard

/-- THE TIED CARD OF 'rubricatorlaw15.JsonDeep'. -/
def jsonDeepCard : Claim7 := { stood := { row := jsonDeepRow, standIns := [], harness := (true, "aba281d57290ddeb60780b2bd097f3ec1eb88c897dcbc15e2080315b103f62dd"), looks := false }, kinds := [], alts := [], laidByText := true, laidKinds := [.data, .data, .data, .data, .pinned, .pinned], laidTests := true, laidLooks := .later }
def JsonDeepCardSaid : Prop := Claim7.holds Tryz.pinned (.plain (OpenSpec.ofChange jsonDeepSpec)) jsonDeepCard

/-- THE TIED CARD OF 'rubricatorlaw15.JsonBlanks'. -/
def jsonBlanksCard : Claim7 := { stood := { row := jsonBlanksRow, standIns := [], harness := (true, "aba281d57290ddeb60780b2bd097f3ec1eb88c897dcbc15e2080315b103f62dd"), looks := false }, kinds := [], alts := [], laidByText := true, laidKinds := [.data, .data, .data, .data, .pinned, .pinned], laidTests := true, laidLooks := .later }
def JsonBlanksCardSaid : Prop := Claim7.holds Tryz.pinned (.plain (OpenSpec.ofChange jsonBlanksSpec)) jsonBlanksCard

/-- THE TIED CARD OF 'rubricatorlaw15.JsonOrders'. -/
def jsonOrdersCard : Claim7 := { stood := { row := jsonOrdersRow, standIns := [], harness := (true, "aba281d57290ddeb60780b2bd097f3ec1eb88c897dcbc15e2080315b103f62dd"), looks := false }, kinds := [], alts := [], laidByText := true, laidKinds := [.data, .data, .data, .data, .pinned, .pinned], laidTests := true, laidLooks := .later }
def JsonOrdersCardSaid : Prop := Claim7.holds Tryz.pinned (.plain (OpenSpec.ofChange jsonOrdersSpec)) jsonOrdersCard

/-- THE SECOND FORM's CARD OF 'rubricatorlaw17.OrderKeys'. -/
def orderKeysUptoCard : Claim7 := { stood := { row := orderKeysUptoRow, standIns := [], harness := (true, "aba281d57290ddeb60780b2bd097f3ec1eb88c897dcbc15e2080315b103f62dd"), looks := false }, kinds := [], alts := [], laidByText := true, laidKinds := [.data, .data, .pinned, .pinned], laidTests := true, laidLooks := .later }
def OrderKeysUptoCardSaid : Prop := Claim7.holds Tryz.pinned (.plain (OpenSpec.upto orderKeysSpec)) orderKeysUptoCard

/-- THE SECOND FORM's CARD OF 'rubricatorlaw17.OrderKinds'. -/
def orderKindsUptoCard : Claim7 := { stood := { row := orderKindsUptoRow, standIns := [], harness := (true, "aba281d57290ddeb60780b2bd097f3ec1eb88c897dcbc15e2080315b103f62dd"), looks := false }, kinds := [], alts := [], laidByText := true, laidKinds := [.data, .data, .pinned, .pinned], laidTests := true, laidLooks := .later }
def OrderKindsUptoCardSaid : Prop := Claim7.holds Tryz.pinned (.plain (OpenSpec.upto orderKindsSpec)) orderKindsUptoCard

/-- THE SECOND FORM's CARD OF 'rubricatorlaw20.PlanBounds'. -/
def planBoundsUptoCard : Claim7 := { stood := { row := planBoundsUptoRow, standIns := [], harness := (true, "aba281d57290ddeb60780b2bd097f3ec1eb88c897dcbc15e2080315b103f62dd"), looks := false }, kinds := [], alts := [], laidByText := true, laidKinds := [.data, .data, .pinned, .pinned], laidTests := true, laidLooks := .later }
def PlanBoundsUptoCardSaid : Prop := Claim7.holds Tryz.pinned (.plain (OpenSpec.upto planBoundsSpec)) planBoundsUptoCard

/-- THE SECOND FORM's CARD OF 'rubricatorlaw20.PlanChooses'. -/
def planChoosesUptoCard : Claim7 := { stood := { row := planChoosesUptoRow, standIns := [], harness := (true, "aba281d57290ddeb60780b2bd097f3ec1eb88c897dcbc15e2080315b103f62dd"), looks := false }, kinds := [], alts := [], laidByText := true, laidKinds := [.data, .data, .pinned, .pinned], laidTests := true, laidLooks := .later }
def PlanChoosesUptoCardSaid : Prop := Claim7.holds Tryz.pinned (.plain (OpenSpec.upto planChoosesSpec)) planChoosesUptoCard

/-- THE SECOND FORM's CARD OF 'rubricatorlaw20.PlanBehind'. -/
def planBehindUptoCard : Claim7 := { stood := { row := planBehindUptoRow, standIns := [], harness := (true, "aba281d57290ddeb60780b2bd097f3ec1eb88c897dcbc15e2080315b103f62dd"), looks := false }, kinds := [], alts := [], laidByText := true, laidKinds := [.data, .data, .pinned, .pinned], laidTests := true, laidLooks := .later }
def PlanBehindUptoCardSaid : Prop := Claim7.holds Tryz.pinned (.plain (OpenSpec.upto planBehindSpec)) planBehindUptoCard

/-- THE SECOND FORM's CARD OF 'rubricatorlaw17.OrderStands'. -/
def orderStandsUptoCard : Claim7 := { stood := { row := orderStandsUptoRow, standIns := [], harness := (true, "aba281d57290ddeb60780b2bd097f3ec1eb88c897dcbc15e2080315b103f62dd"), looks := false }, kinds := [], alts := [], laidByText := true, laidKinds := [.data, .data, .pinned, .pinned], laidTests := true, laidLooks := .later }
def OrderStandsUptoCardSaid : Prop := Claim7.holds Tryz.pinned (.plain (OpenSpec.upto orderStandsSpec)) orderStandsUptoCard

/-- THE SECOND FORM's CARD OF 'rubricatorlaw15.JsonParses'. -/
def jsonParsesUptoCard : Claim7 := { stood := { row := jsonParsesUptoRow, standIns := [], harness := (true, "aba281d57290ddeb60780b2bd097f3ec1eb88c897dcbc15e2080315b103f62dd"), looks := false }, kinds := [], alts := [], laidByText := true, laidKinds := [.data, .data, .data, .data, .pinned, .pinned], laidTests := true, laidLooks := .later }
def JsonParsesUptoCardSaid : Prop := Claim7.holds Tryz.pinned (.plain (OpenSpec.upto jsonParsesSpec)) jsonParsesUptoCard

/-- THE SECOND FORM's CARD OF 'rubricatorlaw15.JsonCompares'. -/
def jsonComparesUptoCard : Claim7 := { stood := { row := jsonComparesUptoRow, standIns := [], harness := (true, "aba281d57290ddeb60780b2bd097f3ec1eb88c897dcbc15e2080315b103f62dd"), looks := false }, kinds := [], alts := [], laidByText := true, laidKinds := [.data, .data, .data, .data, .pinned, .pinned], laidTests := true, laidLooks := .later }
def JsonComparesUptoCardSaid : Prop := Claim7.holds Tryz.pinned (.plain (OpenSpec.upto jsonComparesSpec)) jsonComparesUptoCard

/-- THE SECOND FORM's CARD OF 'rubricatorlaw15.JsonBack'. -/
def jsonBackUptoCard : Claim7 := { stood := { row := jsonBackUptoRow, standIns := [], harness := (true, "aba281d57290ddeb60780b2bd097f3ec1eb88c897dcbc15e2080315b103f62dd"), looks := false }, kinds := [], alts := [], laidByText := true, laidKinds := [.data, .data, .data, .data, .pinned, .pinned], laidTests := true, laidLooks := .later }
def JsonBackUptoCardSaid : Prop := Claim7.holds Tryz.pinned (.plain (OpenSpec.upto jsonBackSpec)) jsonBackUptoCard

/-- THE SECOND FORM's CARD OF 'rubricatorlaw15.JsonDeep'. -/
def jsonDeepUptoCard : Claim7 := { stood := { row := jsonDeepUptoRow, standIns := [], harness := (true, "aba281d57290ddeb60780b2bd097f3ec1eb88c897dcbc15e2080315b103f62dd"), looks := false }, kinds := [], alts := [], laidByText := true, laidKinds := [.data, .data, .data, .data, .pinned, .pinned], laidTests := true, laidLooks := .later }
def JsonDeepUptoCardSaid : Prop := Claim7.holds Tryz.pinned (.plain (OpenSpec.upto jsonDeepSpec)) jsonDeepUptoCard

/-- THE SECOND FORM's CARD OF 'rubricatorlaw15.JsonBlanks'. -/
def jsonBlanksUptoCard : Claim7 := { stood := { row := jsonBlanksUptoRow, standIns := [], harness := (true, "aba281d57290ddeb60780b2bd097f3ec1eb88c897dcbc15e2080315b103f62dd"), looks := false }, kinds := [], alts := [], laidByText := true, laidKinds := [.data, .data, .data, .data, .pinned, .pinned], laidTests := true, laidLooks := .later }
def JsonBlanksUptoCardSaid : Prop := Claim7.holds Tryz.pinned (.plain (OpenSpec.upto jsonBlanksSpec)) jsonBlanksUptoCard

/-- THE SECOND FORM's CARD OF 'rubricatorlaw15.JsonOrders'. -/
def jsonOrdersUptoCard : Claim7 := { stood := { row := jsonOrdersUptoRow, standIns := [], harness := (true, "aba281d57290ddeb60780b2bd097f3ec1eb88c897dcbc15e2080315b103f62dd"), looks := false }, kinds := [], alts := [], laidByText := true, laidKinds := [.data, .data, .data, .data, .pinned, .pinned], laidTests := true, laidLooks := .later }
def JsonOrdersUptoCardSaid : Prop := Claim7.holds Tryz.pinned (.plain (OpenSpec.upto jsonOrdersSpec)) jsonOrdersUptoCard
end Rows
end Go.Proofs.YtapcpndplnkfjaaGreatDoor
