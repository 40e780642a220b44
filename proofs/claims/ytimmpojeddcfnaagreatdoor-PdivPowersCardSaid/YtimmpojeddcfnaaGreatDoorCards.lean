/-
  DERIVED. GIVEN WITH THE SEED: THE CARDS: each row of YtimmpojeddcfnaaGreatDoorRows.lean that lists a variable, with what it lists TIED to the program's text (the seventh form; the later family's looks); each row that meets fmt, with fmt's text TOLD by the authors' own Lean function (tested against real Go, not proved from fmt's source: count such statements apart). THE CARD IS WHAT COUNTS. Prove the row's statement (the work); the ties are given (YtimmpojeddcfnaaGreatDoorTie.lean); close each card by the builder's one call (the guide's Derived/Test/ToyasCard.lean, 'card_holds'). Laid BY PROGRAM, IN A SANDBOX (cutbox-door.mjs). By AI agents, Wed Nov 11 2026. No macro, syntax, notation, axiom, sorry.
-/
import Derived.Test.YtimmpojeddcfnaaGreatDoorRows
import GoSem.ClaimSeven
namespace Go.Proofs.YtimmpojeddcfnaaGreatDoor
namespace Rows

/-- THE TIED CARD OF 'zigguratlaw12.MulTables'. -/
def mulTablesCard : Claim7 := { stood := { row := mulTablesRow, standIns := [], harness := (true, "53342bb7da15589fef4cc7e389ef6d0906d6431575a24544d927239c57b83082"), looks := false }, kinds := [], alts := [], laidByText := true, laidKinds := [.data], laidTests := true, laidLooks := .later }
def MulTablesCardSaid : Prop := Claim7.holds Tryz.pinned (.plain (OpenSpec.ofChange mulTablesSpec)) mulTablesCard

/-- THE TIED CARD OF 'zigguratlaw24.PmulNews'. -/
def pmulNewsCard : Claim7 := { stood := { row := pmulNewsRow, standIns := [], harness := (true, "53342bb7da15589fef4cc7e389ef6d0906d6431575a24544d927239c57b83082"), looks := false }, kinds := [], alts := [], laidByText := true, laidKinds := [.data], laidTests := true, laidLooks := .later }
def PmulNewsCardSaid : Prop := Claim7.holds Tryz.pinned (.plain (OpenSpec.ofChange pmulNewsSpec)) pmulNewsCard

/-- THE TIED CARD OF 'zigguratlaw24.PmulTables'. -/
def pmulTablesCard : Claim7 := { stood := { row := pmulTablesRow, standIns := [], harness := (true, "53342bb7da15589fef4cc7e389ef6d0906d6431575a24544d927239c57b83082"), looks := false }, kinds := [], alts := [], laidByText := true, laidKinds := [.data], laidTests := true, laidLooks := .later }
def PmulTablesCardSaid : Prop := Claim7.holds Tryz.pinned (.plain (OpenSpec.ofChange pmulTablesSpec)) pmulTablesCard

/-- THE TIED CARD OF 'zigguratlaw24.PmulGreat'. -/
def pmulGreatCard : Claim7 := { stood := { row := pmulGreatRow, standIns := [], harness := (true, "53342bb7da15589fef4cc7e389ef6d0906d6431575a24544d927239c57b83082"), looks := false }, kinds := [], alts := [], laidByText := true, laidKinds := [.data], laidTests := true, laidLooks := .later }
def PmulGreatCardSaid : Prop := Claim7.holds Tryz.pinned (.plain (OpenSpec.ofChange pmulGreatSpec)) pmulGreatCard

/-- THE TIED CARD OF 'zigguratlaw24.PmulWays'. -/
def pmulWaysCard : Claim7 := { stood := { row := pmulWaysRow, standIns := [], harness := (true, "53342bb7da15589fef4cc7e389ef6d0906d6431575a24544d927239c57b83082"), looks := false }, kinds := [], alts := [], laidByText := true, laidKinds := [.data], laidTests := true, laidLooks := .later }
def PmulWaysCardSaid : Prop := Claim7.holds Tryz.pinned (.plain (OpenSpec.ofChange pmulWaysSpec)) pmulWaysCard

/-- THE TIED CARD OF 'zigguratlaw24.PmulAlls'. -/
def pmulAllsCard : Claim7 := { stood := { row := pmulAllsRow, standIns := [], harness := (true, "53342bb7da15589fef4cc7e389ef6d0906d6431575a24544d927239c57b83082"), looks := false }, kinds := [], alts := [], laidByText := true, laidKinds := [.data], laidTests := true, laidLooks := .later }
def PmulAllsCardSaid : Prop := Claim7.holds Tryz.pinned (.plain (OpenSpec.ofChange pmulAllsSpec)) pmulAllsCard

/-- THE TIED CARD OF 'zigguratlaw24.PmulSquares'. -/
def pmulSquaresCard : Claim7 := { stood := { row := pmulSquaresRow, standIns := [], harness := (true, "53342bb7da15589fef4cc7e389ef6d0906d6431575a24544d927239c57b83082"), looks := false }, kinds := [], alts := [], laidByText := true, laidKinds := [.data], laidTests := true, laidLooks := .later }
def PmulSquaresCardSaid : Prop := Claim7.holds Tryz.pinned (.plain (OpenSpec.ofChange pmulSquaresSpec)) pmulSquaresCard

/-- THE TIED CARD OF 'zigguratlaw25.PdivMods'. -/
def pdivModsCard : Claim7 := { stood := { row := pdivModsRow, standIns := [], harness := (true, "53342bb7da15589fef4cc7e389ef6d0906d6431575a24544d927239c57b83082"), looks := false }, kinds := [], alts := [], laidByText := true, laidKinds := [.data], laidTests := true, laidLooks := .later }
def PdivModsCardSaid : Prop := Claim7.holds Tryz.pinned (.plain (OpenSpec.ofChange pdivModsSpec)) pdivModsCard

/-- THE TIED CARD OF 'zigguratlaw25.PdivSeries'. -/
def pdivSeriesCard : Claim7 := { stood := { row := pdivSeriesRow, standIns := [], harness := (true, "53342bb7da15589fef4cc7e389ef6d0906d6431575a24544d927239c57b83082"), looks := false }, kinds := [], alts := [], laidByText := true, laidKinds := [.data], laidTests := true, laidLooks := .later }
def PdivSeriesCardSaid : Prop := Claim7.holds Tryz.pinned (.plain (OpenSpec.ofChange pdivSeriesSpec)) pdivSeriesCard

/-- THE TIED CARD OF 'zigguratlaw25.PdivTables'. -/
def pdivTablesCard : Claim7 := { stood := { row := pdivTablesRow, standIns := [], harness := (true, "53342bb7da15589fef4cc7e389ef6d0906d6431575a24544d927239c57b83082"), looks := false }, kinds := [], alts := [], laidByText := true, laidKinds := [.data], laidTests := true, laidLooks := .later }
def PdivTablesCardSaid : Prop := Claim7.holds Tryz.pinned (.plain (OpenSpec.ofChange pdivTablesSpec)) pdivTablesCard

/-- THE TIED CARD OF 'zigguratlaw25.PdivBack'. -/
def pdivBackCard : Claim7 := { stood := { row := pdivBackRow, standIns := [], harness := (true, "53342bb7da15589fef4cc7e389ef6d0906d6431575a24544d927239c57b83082"), looks := false }, kinds := [], alts := [], laidByText := true, laidKinds := [.data], laidTests := true, laidLooks := .later }
def PdivBackCardSaid : Prop := Claim7.holds Tryz.pinned (.plain (OpenSpec.ofChange pdivBackSpec)) pdivBackCard

/-- THE TIED CARD OF 'zigguratlaw25.PdivPowers'. -/
def pdivPowersCard : Claim7 := { stood := { row := pdivPowersRow, standIns := [], harness := (true, "53342bb7da15589fef4cc7e389ef6d0906d6431575a24544d927239c57b83082"), looks := false }, kinds := [], alts := [], laidByText := true, laidKinds := [.data], laidTests := true, laidLooks := .later }
def PdivPowersCardSaid : Prop := Claim7.holds Tryz.pinned (.plain (OpenSpec.ofChange pdivPowersSpec)) pdivPowersCard

/-- THE SECOND FORM's CARD OF 'zigguratlaw12.MulTables'. -/
def mulTablesUptoCard : Claim7 := { stood := { row := mulTablesUptoRow, standIns := [], harness := (true, "53342bb7da15589fef4cc7e389ef6d0906d6431575a24544d927239c57b83082"), looks := false }, kinds := [], alts := [], laidByText := true, laidKinds := [.data], laidTests := true, laidLooks := .later }
def MulTablesUptoCardSaid : Prop := Claim7.holds Tryz.pinned (.plain (OpenSpec.upto mulTablesSpec)) mulTablesUptoCard

/-- THE SECOND FORM's CARD OF 'zigguratlaw24.PmulNews'. -/
def pmulNewsUptoCard : Claim7 := { stood := { row := pmulNewsUptoRow, standIns := [], harness := (true, "53342bb7da15589fef4cc7e389ef6d0906d6431575a24544d927239c57b83082"), looks := false }, kinds := [], alts := [], laidByText := true, laidKinds := [.data], laidTests := true, laidLooks := .later }
def PmulNewsUptoCardSaid : Prop := Claim7.holds Tryz.pinned (.plain (OpenSpec.upto pmulNewsSpec)) pmulNewsUptoCard

/-- THE SECOND FORM's CARD OF 'zigguratlaw24.PmulTables'. -/
def pmulTablesUptoCard : Claim7 := { stood := { row := pmulTablesUptoRow, standIns := [], harness := (true, "53342bb7da15589fef4cc7e389ef6d0906d6431575a24544d927239c57b83082"), looks := false }, kinds := [], alts := [], laidByText := true, laidKinds := [.data], laidTests := true, laidLooks := .later }
def PmulTablesUptoCardSaid : Prop := Claim7.holds Tryz.pinned (.plain (OpenSpec.upto pmulTablesSpec)) pmulTablesUptoCard

/-- THE SECOND FORM's CARD OF 'zigguratlaw24.PmulGreat'. -/
def pmulGreatUptoCard : Claim7 := { stood := { row := pmulGreatUptoRow, standIns := [], harness := (true, "53342bb7da15589fef4cc7e389ef6d0906d6431575a24544d927239c57b83082"), looks := false }, kinds := [], alts := [], laidByText := true, laidKinds := [.data], laidTests := true, laidLooks := .later }
def PmulGreatUptoCardSaid : Prop := Claim7.holds Tryz.pinned (.plain (OpenSpec.upto pmulGreatSpec)) pmulGreatUptoCard

/-- THE SECOND FORM's CARD OF 'zigguratlaw24.PmulWays'. -/
def pmulWaysUptoCard : Claim7 := { stood := { row := pmulWaysUptoRow, standIns := [], harness := (true, "53342bb7da15589fef4cc7e389ef6d0906d6431575a24544d927239c57b83082"), looks := false }, kinds := [], alts := [], laidByText := true, laidKinds := [.data], laidTests := true, laidLooks := .later }
def PmulWaysUptoCardSaid : Prop := Claim7.holds Tryz.pinned (.plain (OpenSpec.upto pmulWaysSpec)) pmulWaysUptoCard

/-- THE SECOND FORM's CARD OF 'zigguratlaw24.PmulAlls'. -/
def pmulAllsUptoCard : Claim7 := { stood := { row := pmulAllsUptoRow, standIns := [], harness := (true, "53342bb7da15589fef4cc7e389ef6d0906d6431575a24544d927239c57b83082"), looks := false }, kinds := [], alts := [], laidByText := true, laidKinds := [.data], laidTests := true, laidLooks := .later }
def PmulAllsUptoCardSaid : Prop := Claim7.holds Tryz.pinned (.plain (OpenSpec.upto pmulAllsSpec)) pmulAllsUptoCard

/-- THE SECOND FORM's CARD OF 'zigguratlaw24.PmulSquares'. -/
def pmulSquaresUptoCard : Claim7 := { stood := { row := pmulSquaresUptoRow, standIns := [], harness := (true, "53342bb7da15589fef4cc7e389ef6d0906d6431575a24544d927239c57b83082"), looks := false }, kinds := [], alts := [], laidByText := true, laidKinds := [.data], laidTests := true, laidLooks := .later }
def PmulSquaresUptoCardSaid : Prop := Claim7.holds Tryz.pinned (.plain (OpenSpec.upto pmulSquaresSpec)) pmulSquaresUptoCard

/-- THE SECOND FORM's CARD OF 'zigguratlaw25.PdivMods'. -/
def pdivModsUptoCard : Claim7 := { stood := { row := pdivModsUptoRow, standIns := [], harness := (true, "53342bb7da15589fef4cc7e389ef6d0906d6431575a24544d927239c57b83082"), looks := false }, kinds := [], alts := [], laidByText := true, laidKinds := [.data], laidTests := true, laidLooks := .later }
def PdivModsUptoCardSaid : Prop := Claim7.holds Tryz.pinned (.plain (OpenSpec.upto pdivModsSpec)) pdivModsUptoCard

/-- THE SECOND FORM's CARD OF 'zigguratlaw25.PdivSeries'. -/
def pdivSeriesUptoCard : Claim7 := { stood := { row := pdivSeriesUptoRow, standIns := [], harness := (true, "53342bb7da15589fef4cc7e389ef6d0906d6431575a24544d927239c57b83082"), looks := false }, kinds := [], alts := [], laidByText := true, laidKinds := [.data], laidTests := true, laidLooks := .later }
def PdivSeriesUptoCardSaid : Prop := Claim7.holds Tryz.pinned (.plain (OpenSpec.upto pdivSeriesSpec)) pdivSeriesUptoCard

/-- THE SECOND FORM's CARD OF 'zigguratlaw25.PdivTables'. -/
def pdivTablesUptoCard : Claim7 := { stood := { row := pdivTablesUptoRow, standIns := [], harness := (true, "53342bb7da15589fef4cc7e389ef6d0906d6431575a24544d927239c57b83082"), looks := false }, kinds := [], alts := [], laidByText := true, laidKinds := [.data], laidTests := true, laidLooks := .later }
def PdivTablesUptoCardSaid : Prop := Claim7.holds Tryz.pinned (.plain (OpenSpec.upto pdivTablesSpec)) pdivTablesUptoCard

/-- THE SECOND FORM's CARD OF 'zigguratlaw25.PdivBack'. -/
def pdivBackUptoCard : Claim7 := { stood := { row := pdivBackUptoRow, standIns := [], harness := (true, "53342bb7da15589fef4cc7e389ef6d0906d6431575a24544d927239c57b83082"), looks := false }, kinds := [], alts := [], laidByText := true, laidKinds := [.data], laidTests := true, laidLooks := .later }
def PdivBackUptoCardSaid : Prop := Claim7.holds Tryz.pinned (.plain (OpenSpec.upto pdivBackSpec)) pdivBackUptoCard

/-- THE SECOND FORM's CARD OF 'zigguratlaw25.PdivPowers'. -/
def pdivPowersUptoCard : Claim7 := { stood := { row := pdivPowersUptoRow, standIns := [], harness := (true, "53342bb7da15589fef4cc7e389ef6d0906d6431575a24544d927239c57b83082"), looks := false }, kinds := [], alts := [], laidByText := true, laidKinds := [.data], laidTests := true, laidLooks := .later }
def PdivPowersUptoCardSaid : Prop := Claim7.holds Tryz.pinned (.plain (OpenSpec.upto pdivPowersSpec)) pdivPowersUptoCard
end Rows
end Go.Proofs.YtimmpojeddcfnaaGreatDoor
