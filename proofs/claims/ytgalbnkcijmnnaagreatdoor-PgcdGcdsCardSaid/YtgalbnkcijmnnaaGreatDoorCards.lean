/-
  DERIVED. GIVEN WITH THE SEED: THE CARDS: each row of YtgalbnkcijmnnaaGreatDoorRows.lean that lists a variable, with what it lists TIED to the program's text (the seventh form; the later family's looks); each row that meets fmt, with fmt's text TOLD by the authors' own Lean function (tested against real Go, not proved from fmt's source: count such statements apart). THE CARD IS WHAT COUNTS. Prove the row's statement (the work); the ties are given (YtgalbnkcijmnnaaGreatDoorTie.lean); close each card by the builder's one call (the guide's Derived/Test/ToyasCard.lean, 'card_holds'). Laid BY PROGRAM, IN A SANDBOX (cutbox-door.mjs). By AI agents, Wed Nov 11 2026. No macro, syntax, notation, axiom, sorry.
-/
import Derived.Test.YtgalbnkcijmnnaaGreatDoorRows
import GoSem.ClaimSeven
namespace Go.Proofs.YtgalbnkcijmnnaaGreatDoor
namespace Rows

/-- THE TIED CARD OF 'zigguratlaw25.PdivRems'. -/
def pdivRemsCard : Claim7 := { stood := { row := pdivRemsRow, standIns := [], harness := (true, "f7b56455f7a7aa5374078aa32557c677d7b1971dd78fd891c239629db00226a2"), looks := false }, kinds := [], alts := [], laidByText := true, laidKinds := [.data], laidTests := true, laidLooks := .later }
def PdivRemsCardSaid : Prop := Claim7.holds Tryz.pinned (.plain (OpenSpec.ofChange pdivRemsSpec)) pdivRemsCard

/-- THE TIED CARD OF 'zigguratlaw26.PgcdGcds'. -/
def pgcdGcdsCard : Claim7 := { stood := { row := pgcdGcdsRow, standIns := [], harness := (true, "f7b56455f7a7aa5374078aa32557c677d7b1971dd78fd891c239629db00226a2"), looks := false }, kinds := [], alts := [], laidByText := true, laidKinds := [.data], laidTests := true, laidLooks := .later }
def PgcdGcdsCardSaid : Prop := Claim7.holds Tryz.pinned (.plain (OpenSpec.ofChange pgcdGcdsSpec)) pgcdGcdsCard

/-- THE TIED CARD OF 'zigguratlaw26.PgcdSteps'. -/
def pgcdStepsCard : Claim7 := { stood := { row := pgcdStepsRow, standIns := [], harness := (true, "f7b56455f7a7aa5374078aa32557c677d7b1971dd78fd891c239629db00226a2"), looks := false }, kinds := [], alts := [], laidByText := true, laidKinds := [.data], laidTests := true, laidLooks := .later }
def PgcdStepsCardSaid : Prop := Claim7.holds Tryz.pinned (.plain (OpenSpec.ofChange pgcdStepsSpec)) pgcdStepsCard

/-- THE TIED CARD OF 'zigguratlaw26.PgcdXgcds'. -/
def pgcdXgcdsCard : Claim7 := { stood := { row := pgcdXgcdsRow, standIns := [], harness := (true, "f7b56455f7a7aa5374078aa32557c677d7b1971dd78fd891c239629db00226a2"), looks := false }, kinds := [], alts := [], laidByText := true, laidKinds := [.data], laidTests := true, laidLooks := .later }
def PgcdXgcdsCardSaid : Prop := Claim7.holds Tryz.pinned (.plain (OpenSpec.ofChange pgcdXgcdsSpec)) pgcdXgcdsCard

/-- THE TIED CARD OF 'zigguratlaw26.PgcdBack'. -/
def pgcdBackCard : Claim7 := { stood := { row := pgcdBackRow, standIns := [], harness := (true, "f7b56455f7a7aa5374078aa32557c677d7b1971dd78fd891c239629db00226a2"), looks := false }, kinds := [], alts := [], laidByText := true, laidKinds := [.data], laidTests := true, laidLooks := .later }
def PgcdBackCardSaid : Prop := Claim7.holds Tryz.pinned (.plain (OpenSpec.ofChange pgcdBackSpec)) pgcdBackCard

/-- THE TIED CARD OF 'zigguratlaw26.PgcdInverses'. -/
def pgcdInversesCard : Claim7 := { stood := { row := pgcdInversesRow, standIns := [], harness := (true, "f7b56455f7a7aa5374078aa32557c677d7b1971dd78fd891c239629db00226a2"), looks := false }, kinds := [], alts := [], laidByText := true, laidKinds := [.data], laidTests := true, laidLooks := .later }
def PgcdInversesCardSaid : Prop := Claim7.holds Tryz.pinned (.plain (OpenSpec.ofChange pgcdInversesSpec)) pgcdInversesCard

/-- THE TIED CARD OF 'zigguratlaw26.PgcdTables'. -/
def pgcdTablesCard : Claim7 := { stood := { row := pgcdTablesRow, standIns := [], harness := (true, "f7b56455f7a7aa5374078aa32557c677d7b1971dd78fd891c239629db00226a2"), looks := false }, kinds := [], alts := [], laidByText := true, laidKinds := [.data], laidTests := true, laidLooks := .later }
def PgcdTablesCardSaid : Prop := Claim7.holds Tryz.pinned (.plain (OpenSpec.ofChange pgcdTablesSpec)) pgcdTablesCard

/-- THE TIED CARD OF 'zigguratlaw27.PtreeTrees'. -/
def ptreeTreesCard : Claim7 := { stood := { row := ptreeTreesRow, standIns := [], harness := (true, "f7b56455f7a7aa5374078aa32557c677d7b1971dd78fd891c239629db00226a2"), looks := false }, kinds := [], alts := [], laidByText := true, laidKinds := [.data], laidTests := true, laidLooks := .later }
def PtreeTreesCardSaid : Prop := Claim7.holds Tryz.pinned (.plain (OpenSpec.ofChange ptreeTreesSpec)) ptreeTreesCard

/-- THE TIED CARD OF 'zigguratlaw27.PtreeEvals'. -/
def ptreeEvalsCard : Claim7 := { stood := { row := ptreeEvalsRow, standIns := [], harness := (true, "f7b56455f7a7aa5374078aa32557c677d7b1971dd78fd891c239629db00226a2"), looks := false }, kinds := [], alts := [], laidByText := true, laidKinds := [.data], laidTests := true, laidLooks := .later }
def PtreeEvalsCardSaid : Prop := Claim7.holds Tryz.pinned (.plain (OpenSpec.ofChange ptreeEvalsSpec)) ptreeEvalsCard

/-- THE TIED CARD OF 'zigguratlaw27.PtreeInterpolates'. -/
def ptreeInterpolatesCard : Claim7 := { stood := { row := ptreeInterpolatesRow, standIns := [], harness := (true, "f7b56455f7a7aa5374078aa32557c677d7b1971dd78fd891c239629db00226a2"), looks := false }, kinds := [], alts := [], laidByText := true, laidKinds := [.data], laidTests := true, laidLooks := .later }
def PtreeInterpolatesCardSaid : Prop := Claim7.holds Tryz.pinned (.plain (OpenSpec.ofChange ptreeInterpolatesSpec)) ptreeInterpolatesCard

/-- THE TIED CARD OF 'zigguratlaw27.PtreeBack'. -/
def ptreeBackCard : Claim7 := { stood := { row := ptreeBackRow, standIns := [], harness := (true, "f7b56455f7a7aa5374078aa32557c677d7b1971dd78fd891c239629db00226a2"), looks := false }, kinds := [], alts := [], laidByText := true, laidKinds := [.data], laidTests := true, laidLooks := .later }
def PtreeBackCardSaid : Prop := Claim7.holds Tryz.pinned (.plain (OpenSpec.ofChange ptreeBackSpec)) ptreeBackCard

/-- THE TIED CARD OF 'zigguratlaw27.PtreeComposes'. -/
def ptreeComposesCard : Claim7 := { stood := { row := ptreeComposesRow, standIns := [], harness := (true, "f7b56455f7a7aa5374078aa32557c677d7b1971dd78fd891c239629db00226a2"), looks := false }, kinds := [], alts := [], laidByText := true, laidKinds := [.data], laidTests := true, laidLooks := .later }
def PtreeComposesCardSaid : Prop := Claim7.holds Tryz.pinned (.plain (OpenSpec.ofChange ptreeComposesSpec)) ptreeComposesCard

/-- THE SECOND FORM's CARD OF 'zigguratlaw25.PdivRems'. -/
def pdivRemsUptoCard : Claim7 := { stood := { row := pdivRemsUptoRow, standIns := [], harness := (true, "f7b56455f7a7aa5374078aa32557c677d7b1971dd78fd891c239629db00226a2"), looks := false }, kinds := [], alts := [], laidByText := true, laidKinds := [.data], laidTests := true, laidLooks := .later }
def PdivRemsUptoCardSaid : Prop := Claim7.holds Tryz.pinned (.plain (OpenSpec.upto pdivRemsSpec)) pdivRemsUptoCard

/-- THE SECOND FORM's CARD OF 'zigguratlaw26.PgcdGcds'. -/
def pgcdGcdsUptoCard : Claim7 := { stood := { row := pgcdGcdsUptoRow, standIns := [], harness := (true, "f7b56455f7a7aa5374078aa32557c677d7b1971dd78fd891c239629db00226a2"), looks := false }, kinds := [], alts := [], laidByText := true, laidKinds := [.data], laidTests := true, laidLooks := .later }
def PgcdGcdsUptoCardSaid : Prop := Claim7.holds Tryz.pinned (.plain (OpenSpec.upto pgcdGcdsSpec)) pgcdGcdsUptoCard

/-- THE SECOND FORM's CARD OF 'zigguratlaw26.PgcdSteps'. -/
def pgcdStepsUptoCard : Claim7 := { stood := { row := pgcdStepsUptoRow, standIns := [], harness := (true, "f7b56455f7a7aa5374078aa32557c677d7b1971dd78fd891c239629db00226a2"), looks := false }, kinds := [], alts := [], laidByText := true, laidKinds := [.data], laidTests := true, laidLooks := .later }
def PgcdStepsUptoCardSaid : Prop := Claim7.holds Tryz.pinned (.plain (OpenSpec.upto pgcdStepsSpec)) pgcdStepsUptoCard

/-- THE SECOND FORM's CARD OF 'zigguratlaw26.PgcdXgcds'. -/
def pgcdXgcdsUptoCard : Claim7 := { stood := { row := pgcdXgcdsUptoRow, standIns := [], harness := (true, "f7b56455f7a7aa5374078aa32557c677d7b1971dd78fd891c239629db00226a2"), looks := false }, kinds := [], alts := [], laidByText := true, laidKinds := [.data], laidTests := true, laidLooks := .later }
def PgcdXgcdsUptoCardSaid : Prop := Claim7.holds Tryz.pinned (.plain (OpenSpec.upto pgcdXgcdsSpec)) pgcdXgcdsUptoCard

/-- THE SECOND FORM's CARD OF 'zigguratlaw26.PgcdBack'. -/
def pgcdBackUptoCard : Claim7 := { stood := { row := pgcdBackUptoRow, standIns := [], harness := (true, "f7b56455f7a7aa5374078aa32557c677d7b1971dd78fd891c239629db00226a2"), looks := false }, kinds := [], alts := [], laidByText := true, laidKinds := [.data], laidTests := true, laidLooks := .later }
def PgcdBackUptoCardSaid : Prop := Claim7.holds Tryz.pinned (.plain (OpenSpec.upto pgcdBackSpec)) pgcdBackUptoCard

/-- THE SECOND FORM's CARD OF 'zigguratlaw26.PgcdInverses'. -/
def pgcdInversesUptoCard : Claim7 := { stood := { row := pgcdInversesUptoRow, standIns := [], harness := (true, "f7b56455f7a7aa5374078aa32557c677d7b1971dd78fd891c239629db00226a2"), looks := false }, kinds := [], alts := [], laidByText := true, laidKinds := [.data], laidTests := true, laidLooks := .later }
def PgcdInversesUptoCardSaid : Prop := Claim7.holds Tryz.pinned (.plain (OpenSpec.upto pgcdInversesSpec)) pgcdInversesUptoCard

/-- THE SECOND FORM's CARD OF 'zigguratlaw26.PgcdTables'. -/
def pgcdTablesUptoCard : Claim7 := { stood := { row := pgcdTablesUptoRow, standIns := [], harness := (true, "f7b56455f7a7aa5374078aa32557c677d7b1971dd78fd891c239629db00226a2"), looks := false }, kinds := [], alts := [], laidByText := true, laidKinds := [.data], laidTests := true, laidLooks := .later }
def PgcdTablesUptoCardSaid : Prop := Claim7.holds Tryz.pinned (.plain (OpenSpec.upto pgcdTablesSpec)) pgcdTablesUptoCard

/-- THE SECOND FORM's CARD OF 'zigguratlaw27.PtreeTrees'. -/
def ptreeTreesUptoCard : Claim7 := { stood := { row := ptreeTreesUptoRow, standIns := [], harness := (true, "f7b56455f7a7aa5374078aa32557c677d7b1971dd78fd891c239629db00226a2"), looks := false }, kinds := [], alts := [], laidByText := true, laidKinds := [.data], laidTests := true, laidLooks := .later }
def PtreeTreesUptoCardSaid : Prop := Claim7.holds Tryz.pinned (.plain (OpenSpec.upto ptreeTreesSpec)) ptreeTreesUptoCard

/-- THE SECOND FORM's CARD OF 'zigguratlaw27.PtreeEvals'. -/
def ptreeEvalsUptoCard : Claim7 := { stood := { row := ptreeEvalsUptoRow, standIns := [], harness := (true, "f7b56455f7a7aa5374078aa32557c677d7b1971dd78fd891c239629db00226a2"), looks := false }, kinds := [], alts := [], laidByText := true, laidKinds := [.data], laidTests := true, laidLooks := .later }
def PtreeEvalsUptoCardSaid : Prop := Claim7.holds Tryz.pinned (.plain (OpenSpec.upto ptreeEvalsSpec)) ptreeEvalsUptoCard

/-- THE SECOND FORM's CARD OF 'zigguratlaw27.PtreeInterpolates'. -/
def ptreeInterpolatesUptoCard : Claim7 := { stood := { row := ptreeInterpolatesUptoRow, standIns := [], harness := (true, "f7b56455f7a7aa5374078aa32557c677d7b1971dd78fd891c239629db00226a2"), looks := false }, kinds := [], alts := [], laidByText := true, laidKinds := [.data], laidTests := true, laidLooks := .later }
def PtreeInterpolatesUptoCardSaid : Prop := Claim7.holds Tryz.pinned (.plain (OpenSpec.upto ptreeInterpolatesSpec)) ptreeInterpolatesUptoCard

/-- THE SECOND FORM's CARD OF 'zigguratlaw27.PtreeBack'. -/
def ptreeBackUptoCard : Claim7 := { stood := { row := ptreeBackUptoRow, standIns := [], harness := (true, "f7b56455f7a7aa5374078aa32557c677d7b1971dd78fd891c239629db00226a2"), looks := false }, kinds := [], alts := [], laidByText := true, laidKinds := [.data], laidTests := true, laidLooks := .later }
def PtreeBackUptoCardSaid : Prop := Claim7.holds Tryz.pinned (.plain (OpenSpec.upto ptreeBackSpec)) ptreeBackUptoCard

/-- THE SECOND FORM's CARD OF 'zigguratlaw27.PtreeComposes'. -/
def ptreeComposesUptoCard : Claim7 := { stood := { row := ptreeComposesUptoRow, standIns := [], harness := (true, "f7b56455f7a7aa5374078aa32557c677d7b1971dd78fd891c239629db00226a2"), looks := false }, kinds := [], alts := [], laidByText := true, laidKinds := [.data], laidTests := true, laidLooks := .later }
def PtreeComposesUptoCardSaid : Prop := Claim7.holds Tryz.pinned (.plain (OpenSpec.upto ptreeComposesSpec)) ptreeComposesUptoCard
end Rows
end Go.Proofs.YtgalbnkcijmnnaaGreatDoor
