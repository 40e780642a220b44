/-
  DERIVED. GIVEN WITH THE SEED: THE CARDS: each row of YtldkiddoajlohaaGreatDoorRows.lean that lists a variable, with what it lists TIED to the program's text (the seventh form; the later family's looks); each row that meets fmt, with fmt's text TOLD by the authors' own Lean function (tested against real Go, not proved from fmt's source: count such statements apart). THE CARD IS WHAT COUNTS. Prove the row's statement (the work); the ties are given (YtldkiddoajlohaaGreatDoorTie.lean); close each card by the builder's one call (the guide's Derived/Test/ToyasCard.lean, 'card_holds'). Laid BY PROGRAM, IN A SANDBOX (cutbox-door.mjs). By AI agents, Wed Nov 11 2026. No macro, syntax, notation, axiom, sorry.
-/
import Derived.Test.YtldkiddoajlohaaGreatDoorRows
import GoSem.ClaimSeven
namespace Go.Proofs.YtldkiddoajlohaaGreatDoor
namespace Rows

/-- THE TIED CARD OF 'zigguratlaw12.MulProducts'. -/
def mulProductsCard : Claim7 := { stood := { row := mulProductsRow, standIns := [], harness := (true, "fb02bdba65e5924d94288d606bf0e4032120bc43eb9ab3b20bdbeaa2500bf049"), looks := false }, kinds := [], alts := [], laidByText := true, laidKinds := [.data], laidTests := true, laidLooks := .later }
def MulProductsCardSaid : Prop := Claim7.holds Tryz.pinned (.plain (OpenSpec.ofChange mulProductsSpec)) mulProductsCard

/-- THE TIED CARD OF 'zigguratlaw12.MulMuls'. -/
def mulMulsCard : Claim7 := { stood := { row := mulMulsRow, standIns := [], harness := (true, "fb02bdba65e5924d94288d606bf0e4032120bc43eb9ab3b20bdbeaa2500bf049"), looks := false }, kinds := [], alts := [], laidByText := true, laidKinds := [.data], laidTests := true, laidLooks := .later }
def MulMulsCardSaid : Prop := Claim7.holds Tryz.pinned (.plain (OpenSpec.ofChange mulMulsSpec)) mulMulsCard

/-- THE TIED CARD OF 'zigguratlaw12.MulRoutes'. -/
def mulRoutesCard : Claim7 := { stood := { row := mulRoutesRow, standIns := [], harness := (true, "fb02bdba65e5924d94288d606bf0e4032120bc43eb9ab3b20bdbeaa2500bf049"), looks := false }, kinds := [], alts := [], laidByText := true, laidKinds := [.data], laidTests := true, laidLooks := .later }
def MulRoutesCardSaid : Prop := Claim7.holds Tryz.pinned (.plain (OpenSpec.ofChange mulRoutesSpec)) mulRoutesCard

/-- THE TIED CARD OF 'zigguratlaw12.MulLaws'. -/
def mulLawsCard : Claim7 := { stood := { row := mulLawsRow, standIns := [], harness := (true, "fb02bdba65e5924d94288d606bf0e4032120bc43eb9ab3b20bdbeaa2500bf049"), looks := false }, kinds := [], alts := [], laidByText := true, laidKinds := [.data], laidTests := true, laidLooks := .later }
def MulLawsCardSaid : Prop := Claim7.holds Tryz.pinned (.plain (OpenSpec.ofChange mulLawsSpec)) mulLawsCard

/-- THE TIED CARD OF 'zigguratlaw12.MulTables'. -/
def mulTablesCard : Claim7 := { stood := { row := mulTablesRow, standIns := [], harness := (true, "fb02bdba65e5924d94288d606bf0e4032120bc43eb9ab3b20bdbeaa2500bf049"), looks := false }, kinds := [], alts := [], laidByText := true, laidKinds := [.data], laidTests := true, laidLooks := .later }
def MulTablesCardSaid : Prop := Claim7.holds Tryz.pinned (.plain (OpenSpec.ofChange mulTablesSpec)) mulTablesCard

/-- THE TIED CARD OF 'zigguratlaw12.MulNoughts'. -/
def mulNoughtsCard : Claim7 := { stood := { row := mulNoughtsRow, standIns := [], harness := (true, "fb02bdba65e5924d94288d606bf0e4032120bc43eb9ab3b20bdbeaa2500bf049"), looks := false }, kinds := [], alts := [], laidByText := true, laidKinds := [.data], laidTests := true, laidLooks := .later }
def MulNoughtsCardSaid : Prop := Claim7.holds Tryz.pinned (.plain (OpenSpec.ofChange mulNoughtsSpec)) mulNoughtsCard

/-- THE TIED CARD OF 'zigguratlaw12.MulSquares'. -/
def mulSquaresCard : Claim7 := { stood := { row := mulSquaresRow, standIns := [], harness := (true, "fb02bdba65e5924d94288d606bf0e4032120bc43eb9ab3b20bdbeaa2500bf049"), looks := false }, kinds := [], alts := [], laidByText := true, laidKinds := [.data], laidTests := true, laidLooks := .later }
def MulSquaresCardSaid : Prop := Claim7.holds Tryz.pinned (.plain (OpenSpec.ofChange mulSquaresSpec)) mulSquaresCard

/-- THE TIED CARD OF 'zigguratlaw12.MulGreat'. -/
def mulGreatCard : Claim7 := { stood := { row := mulGreatRow, standIns := [], harness := (true, "fb02bdba65e5924d94288d606bf0e4032120bc43eb9ab3b20bdbeaa2500bf049"), looks := false }, kinds := [], alts := [], laidByText := true, laidKinds := [.data], laidTests := true, laidLooks := .later }
def MulGreatCardSaid : Prop := Claim7.holds Tryz.pinned (.plain (OpenSpec.ofChange mulGreatSpec)) mulGreatCard

/-- THE SECOND FORM's CARD OF 'zigguratlaw12.MulProducts'. -/
def mulProductsUptoCard : Claim7 := { stood := { row := mulProductsUptoRow, standIns := [], harness := (true, "fb02bdba65e5924d94288d606bf0e4032120bc43eb9ab3b20bdbeaa2500bf049"), looks := false }, kinds := [], alts := [], laidByText := true, laidKinds := [.data], laidTests := true, laidLooks := .later }
def MulProductsUptoCardSaid : Prop := Claim7.holds Tryz.pinned (.plain (OpenSpec.upto mulProductsSpec)) mulProductsUptoCard

/-- THE SECOND FORM's CARD OF 'zigguratlaw12.MulMuls'. -/
def mulMulsUptoCard : Claim7 := { stood := { row := mulMulsUptoRow, standIns := [], harness := (true, "fb02bdba65e5924d94288d606bf0e4032120bc43eb9ab3b20bdbeaa2500bf049"), looks := false }, kinds := [], alts := [], laidByText := true, laidKinds := [.data], laidTests := true, laidLooks := .later }
def MulMulsUptoCardSaid : Prop := Claim7.holds Tryz.pinned (.plain (OpenSpec.upto mulMulsSpec)) mulMulsUptoCard

/-- THE SECOND FORM's CARD OF 'zigguratlaw12.MulRoutes'. -/
def mulRoutesUptoCard : Claim7 := { stood := { row := mulRoutesUptoRow, standIns := [], harness := (true, "fb02bdba65e5924d94288d606bf0e4032120bc43eb9ab3b20bdbeaa2500bf049"), looks := false }, kinds := [], alts := [], laidByText := true, laidKinds := [.data], laidTests := true, laidLooks := .later }
def MulRoutesUptoCardSaid : Prop := Claim7.holds Tryz.pinned (.plain (OpenSpec.upto mulRoutesSpec)) mulRoutesUptoCard

/-- THE SECOND FORM's CARD OF 'zigguratlaw12.MulLaws'. -/
def mulLawsUptoCard : Claim7 := { stood := { row := mulLawsUptoRow, standIns := [], harness := (true, "fb02bdba65e5924d94288d606bf0e4032120bc43eb9ab3b20bdbeaa2500bf049"), looks := false }, kinds := [], alts := [], laidByText := true, laidKinds := [.data], laidTests := true, laidLooks := .later }
def MulLawsUptoCardSaid : Prop := Claim7.holds Tryz.pinned (.plain (OpenSpec.upto mulLawsSpec)) mulLawsUptoCard

/-- THE SECOND FORM's CARD OF 'zigguratlaw12.MulTables'. -/
def mulTablesUptoCard : Claim7 := { stood := { row := mulTablesUptoRow, standIns := [], harness := (true, "fb02bdba65e5924d94288d606bf0e4032120bc43eb9ab3b20bdbeaa2500bf049"), looks := false }, kinds := [], alts := [], laidByText := true, laidKinds := [.data], laidTests := true, laidLooks := .later }
def MulTablesUptoCardSaid : Prop := Claim7.holds Tryz.pinned (.plain (OpenSpec.upto mulTablesSpec)) mulTablesUptoCard

/-- THE SECOND FORM's CARD OF 'zigguratlaw12.MulNoughts'. -/
def mulNoughtsUptoCard : Claim7 := { stood := { row := mulNoughtsUptoRow, standIns := [], harness := (true, "fb02bdba65e5924d94288d606bf0e4032120bc43eb9ab3b20bdbeaa2500bf049"), looks := false }, kinds := [], alts := [], laidByText := true, laidKinds := [.data], laidTests := true, laidLooks := .later }
def MulNoughtsUptoCardSaid : Prop := Claim7.holds Tryz.pinned (.plain (OpenSpec.upto mulNoughtsSpec)) mulNoughtsUptoCard

/-- THE SECOND FORM's CARD OF 'zigguratlaw12.MulSquares'. -/
def mulSquaresUptoCard : Claim7 := { stood := { row := mulSquaresUptoRow, standIns := [], harness := (true, "fb02bdba65e5924d94288d606bf0e4032120bc43eb9ab3b20bdbeaa2500bf049"), looks := false }, kinds := [], alts := [], laidByText := true, laidKinds := [.data], laidTests := true, laidLooks := .later }
def MulSquaresUptoCardSaid : Prop := Claim7.holds Tryz.pinned (.plain (OpenSpec.upto mulSquaresSpec)) mulSquaresUptoCard

/-- THE SECOND FORM's CARD OF 'zigguratlaw12.MulGreat'. -/
def mulGreatUptoCard : Claim7 := { stood := { row := mulGreatUptoRow, standIns := [], harness := (true, "fb02bdba65e5924d94288d606bf0e4032120bc43eb9ab3b20bdbeaa2500bf049"), looks := false }, kinds := [], alts := [], laidByText := true, laidKinds := [.data], laidTests := true, laidLooks := .later }
def MulGreatUptoCardSaid : Prop := Claim7.holds Tryz.pinned (.plain (OpenSpec.upto mulGreatSpec)) mulGreatUptoCard
end Rows
end Go.Proofs.YtldkiddoajlohaaGreatDoor
