/-
  DERIVED. GIVEN WITH THE SEED: THE CARDS: each row of YtbgigckmehgcpaaDoorRows.lean that lists a variable, with what it lists TIED to the program's text (the seventh form; the later family's looks); each row that meets fmt, with fmt's text TOLD by the authors' own Lean function (tested against real Go, not proved from fmt's source: count such statements apart). THE CARD IS WHAT COUNTS. Prove the row's statement (the work); the ties are given (YtbgigckmehgcpaaDoorTie.lean); close each card by the builder's one call (the guide's Derived/Test/ToyasCard.lean, 'card_holds'). Laid BY PROGRAM, IN A SANDBOX (cutbox-door.mjs). By AI agents, Wed Nov 11 2026. No macro, syntax, notation, axiom, sorry.
-/
import Derived.Test.YtbgigckmehgcpaaDoorRows
import GoSem.ClaimSeven
namespace Go.Proofs.YtbgigckmehgcpaaDoor
namespace Rows

/-- THE TIED CARD OF 'rubricatorlaw14.NumParses'. -/
def numParsesCard : Claim7 := { stood := { row := numParsesRow, standIns := [], harness := (true, "8d99e9b1e2bba7038c3a2e5e40de976364e94258c0400284a07d2ca7c76e8e0d"), looks := false }, kinds := [], alts := [], laidByText := true, laidKinds := [.data, .data, .data, .data, .pinned], laidTests := true, laidLooks := .later }
def NumParsesCardSaid : Prop := Claim7.holds Tryd.pinned (.plain (OpenSpec.ofChange numParsesSpec)) numParsesCard

/-- THE TIED CARD OF 'rubricatorlaw14.NumCompares'. -/
def numComparesCard : Claim7 := { stood := { row := numComparesRow, standIns := [], harness := (true, "8d99e9b1e2bba7038c3a2e5e40de976364e94258c0400284a07d2ca7c76e8e0d"), looks := false }, kinds := [], alts := [], laidByText := true, laidKinds := [.data, .data, .data, .data, .pinned], laidTests := true, laidLooks := .later }
def NumComparesCardSaid : Prop := Claim7.holds Tryd.pinned (.plain (OpenSpec.ofChange numComparesSpec)) numComparesCard

/-- THE TIED CARD OF 'rubricatorlaw14.NumBack'. -/
def numBackCard : Claim7 := { stood := { row := numBackRow, standIns := [], harness := (true, "8d99e9b1e2bba7038c3a2e5e40de976364e94258c0400284a07d2ca7c76e8e0d"), looks := false }, kinds := [], alts := [], laidByText := true, laidKinds := [.data, .data, .data, .data, .pinned], laidTests := true, laidLooks := .later }
def NumBackCardSaid : Prop := Claim7.holds Tryd.pinned (.plain (OpenSpec.ofChange numBackSpec)) numBackCard

/-- THE TIED CARD OF 'rubricatorlaw14.NumOrders'. -/
def numOrdersCard : Claim7 := { stood := { row := numOrdersRow, standIns := [], harness := (true, "8d99e9b1e2bba7038c3a2e5e40de976364e94258c0400284a07d2ca7c76e8e0d"), looks := false }, kinds := [], alts := [], laidByText := true, laidKinds := [.data, .data, .data, .data, .pinned], laidTests := true, laidLooks := .later }
def NumOrdersCardSaid : Prop := Claim7.holds Tryd.pinned (.plain (OpenSpec.ofChange numOrdersSpec)) numOrdersCard

/-- THE TIED CARD OF 'rubricatorlaw14.NumShifts'. -/
def numShiftsCard : Claim7 := { stood := { row := numShiftsRow, standIns := [], harness := (true, "8d99e9b1e2bba7038c3a2e5e40de976364e94258c0400284a07d2ca7c76e8e0d"), looks := false }, kinds := [], alts := [], laidByText := true, laidKinds := [.data, .data, .data, .data, .pinned], laidTests := true, laidLooks := .later }
def NumShiftsCardSaid : Prop := Claim7.holds Tryd.pinned (.plain (OpenSpec.ofChange numShiftsSpec)) numShiftsCard

/-- THE TIED CARD OF 'rubricatorlaw14.NumGrammar'. -/
def numGrammarCard : Claim7 := { stood := { row := numGrammarRow, standIns := [], harness := (true, "8d99e9b1e2bba7038c3a2e5e40de976364e94258c0400284a07d2ca7c76e8e0d"), looks := false }, kinds := [], alts := [], laidByText := true, laidKinds := [.data, .data, .data, .data, .pinned], laidTests := true, laidLooks := .later }
def NumGrammarCardSaid : Prop := Claim7.holds Tryd.pinned (.plain (OpenSpec.ofChange numGrammarSpec)) numGrammarCard

/-- THE TIED CARD OF 'rubricatorlaw14.NumLong'. -/
def numLongCard : Claim7 := { stood := { row := numLongRow, standIns := [], harness := (true, "8d99e9b1e2bba7038c3a2e5e40de976364e94258c0400284a07d2ca7c76e8e0d"), looks := false }, kinds := [], alts := [], laidByText := true, laidKinds := [.data, .data, .data, .data, .pinned], laidTests := true, laidLooks := .later }
def NumLongCardSaid : Prop := Claim7.holds Tryd.pinned (.plain (OpenSpec.ofChange numLongSpec)) numLongCard

/-- THE SECOND FORM's CARD OF 'rubricatorlaw14.NumParses'. -/
def numParsesUptoCard : Claim7 := { stood := { row := numParsesUptoRow, standIns := [], harness := (true, "8d99e9b1e2bba7038c3a2e5e40de976364e94258c0400284a07d2ca7c76e8e0d"), looks := false }, kinds := [], alts := [], laidByText := true, laidKinds := [.data, .data, .data, .data, .pinned], laidTests := true, laidLooks := .later }
def NumParsesUptoCardSaid : Prop := Claim7.holds Tryd.pinned (.plain (OpenSpec.upto numParsesSpec)) numParsesUptoCard

/-- THE SECOND FORM's CARD OF 'rubricatorlaw14.NumCompares'. -/
def numComparesUptoCard : Claim7 := { stood := { row := numComparesUptoRow, standIns := [], harness := (true, "8d99e9b1e2bba7038c3a2e5e40de976364e94258c0400284a07d2ca7c76e8e0d"), looks := false }, kinds := [], alts := [], laidByText := true, laidKinds := [.data, .data, .data, .data, .pinned], laidTests := true, laidLooks := .later }
def NumComparesUptoCardSaid : Prop := Claim7.holds Tryd.pinned (.plain (OpenSpec.upto numComparesSpec)) numComparesUptoCard

/-- THE SECOND FORM's CARD OF 'rubricatorlaw14.NumBack'. -/
def numBackUptoCard : Claim7 := { stood := { row := numBackUptoRow, standIns := [], harness := (true, "8d99e9b1e2bba7038c3a2e5e40de976364e94258c0400284a07d2ca7c76e8e0d"), looks := false }, kinds := [], alts := [], laidByText := true, laidKinds := [.data, .data, .data, .data, .pinned], laidTests := true, laidLooks := .later }
def NumBackUptoCardSaid : Prop := Claim7.holds Tryd.pinned (.plain (OpenSpec.upto numBackSpec)) numBackUptoCard

/-- THE SECOND FORM's CARD OF 'rubricatorlaw14.NumOrders'. -/
def numOrdersUptoCard : Claim7 := { stood := { row := numOrdersUptoRow, standIns := [], harness := (true, "8d99e9b1e2bba7038c3a2e5e40de976364e94258c0400284a07d2ca7c76e8e0d"), looks := false }, kinds := [], alts := [], laidByText := true, laidKinds := [.data, .data, .data, .data, .pinned], laidTests := true, laidLooks := .later }
def NumOrdersUptoCardSaid : Prop := Claim7.holds Tryd.pinned (.plain (OpenSpec.upto numOrdersSpec)) numOrdersUptoCard

/-- THE SECOND FORM's CARD OF 'rubricatorlaw14.NumShifts'. -/
def numShiftsUptoCard : Claim7 := { stood := { row := numShiftsUptoRow, standIns := [], harness := (true, "8d99e9b1e2bba7038c3a2e5e40de976364e94258c0400284a07d2ca7c76e8e0d"), looks := false }, kinds := [], alts := [], laidByText := true, laidKinds := [.data, .data, .data, .data, .pinned], laidTests := true, laidLooks := .later }
def NumShiftsUptoCardSaid : Prop := Claim7.holds Tryd.pinned (.plain (OpenSpec.upto numShiftsSpec)) numShiftsUptoCard

/-- THE SECOND FORM's CARD OF 'rubricatorlaw14.NumGrammar'. -/
def numGrammarUptoCard : Claim7 := { stood := { row := numGrammarUptoRow, standIns := [], harness := (true, "8d99e9b1e2bba7038c3a2e5e40de976364e94258c0400284a07d2ca7c76e8e0d"), looks := false }, kinds := [], alts := [], laidByText := true, laidKinds := [.data, .data, .data, .data, .pinned], laidTests := true, laidLooks := .later }
def NumGrammarUptoCardSaid : Prop := Claim7.holds Tryd.pinned (.plain (OpenSpec.upto numGrammarSpec)) numGrammarUptoCard

/-- THE SECOND FORM's CARD OF 'rubricatorlaw14.NumLong'. -/
def numLongUptoCard : Claim7 := { stood := { row := numLongUptoRow, standIns := [], harness := (true, "8d99e9b1e2bba7038c3a2e5e40de976364e94258c0400284a07d2ca7c76e8e0d"), looks := false }, kinds := [], alts := [], laidByText := true, laidKinds := [.data, .data, .data, .data, .pinned], laidTests := true, laidLooks := .later }
def NumLongUptoCardSaid : Prop := Claim7.holds Tryd.pinned (.plain (OpenSpec.upto numLongSpec)) numLongUptoCard
end Rows
end Go.Proofs.YtbgigckmehgcpaaDoor
