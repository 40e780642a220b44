/-
  DERIVED. GIVEN WITH THE SEED: THE CARDS: each row of YtoiclkaecgpbbaaDoorRows.lean that lists a variable, with what it lists TIED to the program's text (the seventh form; the later family's looks); each row that meets fmt, with fmt's text TOLD by the authors' own Lean function (tested against real Go, not proved from fmt's source: count such statements apart). THE CARD IS WHAT COUNTS. Prove the row's statement (the work); the ties are given (YtoiclkaecgpbbaaDoorTie.lean); close each card by the builder's one call (the guide's Derived/Test/ToyasCard.lean, 'card_holds'). Laid BY PROGRAM, IN A SANDBOX (cutbox-door.mjs). By AI agents, Wed Nov 11 2026. No macro, syntax, notation, axiom, sorry.
-/
import Derived.Test.YtoiclkaecgpbbaaDoorRows
import GoSem.ClaimSeven
namespace Go.Proofs.YtoiclkaecgpbbaaDoor
namespace Rows

/-- THE TIED CARD OF 'zigguratlaw07.PrimeSmall'. -/
def primeSmallCard : Claim7 := { stood := { row := primeSmallRow, standIns := [], harness := (true, "df375bb3bd3ccb77da962fd45b4de8ebafc44a6841df51e4ab8c5a29369582ac"), looks := false }, kinds := [], alts := [], laidByText := true, laidKinds := [.data], laidTests := true, laidLooks := .later }
def PrimeSmallCardSaid : Prop := Claim7.holds Tryd.pinned (.plain (OpenSpec.ofChange primeSmallSpec)) primeSmallCard

/-- THE TIED CARD OF 'zigguratlaw07.PrimeWords'. -/
def primeWordsCard : Claim7 := { stood := { row := primeWordsRow, standIns := [], harness := (true, "df375bb3bd3ccb77da962fd45b4de8ebafc44a6841df51e4ab8c5a29369582ac"), looks := false }, kinds := [], alts := [], laidByText := true, laidKinds := [.data], laidTests := true, laidLooks := .later }
def PrimeWordsCardSaid : Prop := Claim7.holds Tryd.pinned (.plain (OpenSpec.ofChange primeWordsSpec)) primeWordsCard

/-- THE TIED CARD OF 'zigguratlaw07.PrimeMods'. -/
def primeModsCard : Claim7 := { stood := { row := primeModsRow, standIns := [], harness := (true, "df375bb3bd3ccb77da962fd45b4de8ebafc44a6841df51e4ab8c5a29369582ac"), looks := false }, kinds := [], alts := [], laidByText := true, laidKinds := [.data], laidTests := true, laidLooks := .later }
def PrimeModsCardSaid : Prop := Claim7.holds Tryd.pinned (.plain (OpenSpec.ofChange primeModsSpec)) primeModsCard

/-- THE TIED CARD OF 'zigguratlaw07.PrimeThree'. -/
def primeThreeCard : Claim7 := { stood := { row := primeThreeRow, standIns := [], harness := (true, "df375bb3bd3ccb77da962fd45b4de8ebafc44a6841df51e4ab8c5a29369582ac"), looks := false }, kinds := [], alts := [], laidByText := true, laidKinds := [.data], laidTests := true, laidLooks := .later }
def PrimeThreeCardSaid : Prop := Claim7.holds Tryd.pinned (.plain (OpenSpec.ofChange primeThreeSpec)) primeThreeCard

/-- THE TIED CARD OF 'zigguratlaw08.NttForwards'. -/
def nttForwardsCard : Claim7 := { stood := { row := nttForwardsRow, standIns := [], harness := (true, "df375bb3bd3ccb77da962fd45b4de8ebafc44a6841df51e4ab8c5a29369582ac"), looks := false }, kinds := [], alts := [], laidByText := true, laidKinds := [.data], laidTests := true, laidLooks := .later }
def NttForwardsCardSaid : Prop := Claim7.holds Tryd.pinned (.plain (OpenSpec.ofChange nttForwardsSpec)) nttForwardsCard

/-- THE TIED CARD OF 'zigguratlaw08.NttLaws'. -/
def nttLawsCard : Claim7 := { stood := { row := nttLawsRow, standIns := [], harness := (true, "df375bb3bd3ccb77da962fd45b4de8ebafc44a6841df51e4ab8c5a29369582ac"), looks := false }, kinds := [], alts := [], laidByText := true, laidKinds := [.data], laidTests := true, laidLooks := .later }
def NttLawsCardSaid : Prop := Claim7.holds Tryd.pinned (.plain (OpenSpec.ofChange nttLawsSpec)) nttLawsCard

/-- THE TIED CARD OF 'zigguratlaw08.NttBack'. -/
def nttBackCard : Claim7 := { stood := { row := nttBackRow, standIns := [], harness := (true, "df375bb3bd3ccb77da962fd45b4de8ebafc44a6841df51e4ab8c5a29369582ac"), looks := false }, kinds := [], alts := [], laidByText := true, laidKinds := [.data], laidTests := true, laidLooks := .later }
def NttBackCardSaid : Prop := Claim7.holds Tryd.pinned (.plain (OpenSpec.ofChange nttBackSpec)) nttBackCard

/-- THE TIED CARD OF 'zigguratlaw09.ConvWords'. -/
def convWordsCard : Claim7 := { stood := { row := convWordsRow, standIns := [], harness := (true, "df375bb3bd3ccb77da962fd45b4de8ebafc44a6841df51e4ab8c5a29369582ac"), looks := false }, kinds := [], alts := [], laidByText := true, laidKinds := [.data], laidTests := true, laidLooks := .later }
def ConvWordsCardSaid : Prop := Claim7.holds Tryd.pinned (.plain (OpenSpec.ofChange convWordsSpec)) convWordsCard

/-- THE TIED CARD OF 'zigguratlaw09.ConvMuls'. -/
def convMulsCard : Claim7 := { stood := { row := convMulsRow, standIns := [], harness := (true, "df375bb3bd3ccb77da962fd45b4de8ebafc44a6841df51e4ab8c5a29369582ac"), looks := false }, kinds := [], alts := [], laidByText := true, laidKinds := [.data], laidTests := true, laidLooks := .later }
def ConvMulsCardSaid : Prop := Claim7.holds Tryd.pinned (.plain (OpenSpec.ofChange convMulsSpec)) convMulsCard

/-- THE TIED CARD OF 'zigguratlaw09.ConvSquares'. -/
def convSquaresCard : Claim7 := { stood := { row := convSquaresRow, standIns := [], harness := (true, "df375bb3bd3ccb77da962fd45b4de8ebafc44a6841df51e4ab8c5a29369582ac"), looks := false }, kinds := [], alts := [], laidByText := true, laidKinds := [.data], laidTests := true, laidLooks := .later }
def ConvSquaresCardSaid : Prop := Claim7.holds Tryd.pinned (.plain (OpenSpec.ofChange convSquaresSpec)) convSquaresCard

/-- THE TIED CARD OF 'zigguratlaw09.ConvGreat'. -/
def convGreatCard : Claim7 := { stood := { row := convGreatRow, standIns := [], harness := (true, "df375bb3bd3ccb77da962fd45b4de8ebafc44a6841df51e4ab8c5a29369582ac"), looks := false }, kinds := [], alts := [], laidByText := true, laidKinds := [.data], laidTests := true, laidLooks := .later }
def ConvGreatCardSaid : Prop := Claim7.holds Tryd.pinned (.plain (OpenSpec.ofChange convGreatSpec)) convGreatCard

/-- THE SECOND FORM's CARD OF 'zigguratlaw07.PrimeSmall'. -/
def primeSmallUptoCard : Claim7 := { stood := { row := primeSmallUptoRow, standIns := [], harness := (true, "df375bb3bd3ccb77da962fd45b4de8ebafc44a6841df51e4ab8c5a29369582ac"), looks := false }, kinds := [], alts := [], laidByText := true, laidKinds := [.data], laidTests := true, laidLooks := .later }
def PrimeSmallUptoCardSaid : Prop := Claim7.holds Tryd.pinned (.plain (OpenSpec.upto primeSmallSpec)) primeSmallUptoCard

/-- THE SECOND FORM's CARD OF 'zigguratlaw07.PrimeWords'. -/
def primeWordsUptoCard : Claim7 := { stood := { row := primeWordsUptoRow, standIns := [], harness := (true, "df375bb3bd3ccb77da962fd45b4de8ebafc44a6841df51e4ab8c5a29369582ac"), looks := false }, kinds := [], alts := [], laidByText := true, laidKinds := [.data], laidTests := true, laidLooks := .later }
def PrimeWordsUptoCardSaid : Prop := Claim7.holds Tryd.pinned (.plain (OpenSpec.upto primeWordsSpec)) primeWordsUptoCard

/-- THE SECOND FORM's CARD OF 'zigguratlaw07.PrimeMods'. -/
def primeModsUptoCard : Claim7 := { stood := { row := primeModsUptoRow, standIns := [], harness := (true, "df375bb3bd3ccb77da962fd45b4de8ebafc44a6841df51e4ab8c5a29369582ac"), looks := false }, kinds := [], alts := [], laidByText := true, laidKinds := [.data], laidTests := true, laidLooks := .later }
def PrimeModsUptoCardSaid : Prop := Claim7.holds Tryd.pinned (.plain (OpenSpec.upto primeModsSpec)) primeModsUptoCard

/-- THE SECOND FORM's CARD OF 'zigguratlaw07.PrimeThree'. -/
def primeThreeUptoCard : Claim7 := { stood := { row := primeThreeUptoRow, standIns := [], harness := (true, "df375bb3bd3ccb77da962fd45b4de8ebafc44a6841df51e4ab8c5a29369582ac"), looks := false }, kinds := [], alts := [], laidByText := true, laidKinds := [.data], laidTests := true, laidLooks := .later }
def PrimeThreeUptoCardSaid : Prop := Claim7.holds Tryd.pinned (.plain (OpenSpec.upto primeThreeSpec)) primeThreeUptoCard

/-- THE SECOND FORM's CARD OF 'zigguratlaw08.NttForwards'. -/
def nttForwardsUptoCard : Claim7 := { stood := { row := nttForwardsUptoRow, standIns := [], harness := (true, "df375bb3bd3ccb77da962fd45b4de8ebafc44a6841df51e4ab8c5a29369582ac"), looks := false }, kinds := [], alts := [], laidByText := true, laidKinds := [.data], laidTests := true, laidLooks := .later }
def NttForwardsUptoCardSaid : Prop := Claim7.holds Tryd.pinned (.plain (OpenSpec.upto nttForwardsSpec)) nttForwardsUptoCard

/-- THE SECOND FORM's CARD OF 'zigguratlaw08.NttLaws'. -/
def nttLawsUptoCard : Claim7 := { stood := { row := nttLawsUptoRow, standIns := [], harness := (true, "df375bb3bd3ccb77da962fd45b4de8ebafc44a6841df51e4ab8c5a29369582ac"), looks := false }, kinds := [], alts := [], laidByText := true, laidKinds := [.data], laidTests := true, laidLooks := .later }
def NttLawsUptoCardSaid : Prop := Claim7.holds Tryd.pinned (.plain (OpenSpec.upto nttLawsSpec)) nttLawsUptoCard

/-- THE SECOND FORM's CARD OF 'zigguratlaw08.NttBack'. -/
def nttBackUptoCard : Claim7 := { stood := { row := nttBackUptoRow, standIns := [], harness := (true, "df375bb3bd3ccb77da962fd45b4de8ebafc44a6841df51e4ab8c5a29369582ac"), looks := false }, kinds := [], alts := [], laidByText := true, laidKinds := [.data], laidTests := true, laidLooks := .later }
def NttBackUptoCardSaid : Prop := Claim7.holds Tryd.pinned (.plain (OpenSpec.upto nttBackSpec)) nttBackUptoCard

/-- THE SECOND FORM's CARD OF 'zigguratlaw09.ConvWords'. -/
def convWordsUptoCard : Claim7 := { stood := { row := convWordsUptoRow, standIns := [], harness := (true, "df375bb3bd3ccb77da962fd45b4de8ebafc44a6841df51e4ab8c5a29369582ac"), looks := false }, kinds := [], alts := [], laidByText := true, laidKinds := [.data], laidTests := true, laidLooks := .later }
def ConvWordsUptoCardSaid : Prop := Claim7.holds Tryd.pinned (.plain (OpenSpec.upto convWordsSpec)) convWordsUptoCard

/-- THE SECOND FORM's CARD OF 'zigguratlaw09.ConvMuls'. -/
def convMulsUptoCard : Claim7 := { stood := { row := convMulsUptoRow, standIns := [], harness := (true, "df375bb3bd3ccb77da962fd45b4de8ebafc44a6841df51e4ab8c5a29369582ac"), looks := false }, kinds := [], alts := [], laidByText := true, laidKinds := [.data], laidTests := true, laidLooks := .later }
def ConvMulsUptoCardSaid : Prop := Claim7.holds Tryd.pinned (.plain (OpenSpec.upto convMulsSpec)) convMulsUptoCard

/-- THE SECOND FORM's CARD OF 'zigguratlaw09.ConvSquares'. -/
def convSquaresUptoCard : Claim7 := { stood := { row := convSquaresUptoRow, standIns := [], harness := (true, "df375bb3bd3ccb77da962fd45b4de8ebafc44a6841df51e4ab8c5a29369582ac"), looks := false }, kinds := [], alts := [], laidByText := true, laidKinds := [.data], laidTests := true, laidLooks := .later }
def ConvSquaresUptoCardSaid : Prop := Claim7.holds Tryd.pinned (.plain (OpenSpec.upto convSquaresSpec)) convSquaresUptoCard

/-- THE SECOND FORM's CARD OF 'zigguratlaw09.ConvGreat'. -/
def convGreatUptoCard : Claim7 := { stood := { row := convGreatUptoRow, standIns := [], harness := (true, "df375bb3bd3ccb77da962fd45b4de8ebafc44a6841df51e4ab8c5a29369582ac"), looks := false }, kinds := [], alts := [], laidByText := true, laidKinds := [.data], laidTests := true, laidLooks := .later }
def ConvGreatUptoCardSaid : Prop := Claim7.holds Tryd.pinned (.plain (OpenSpec.upto convGreatSpec)) convGreatUptoCard
end Rows
end Go.Proofs.YtoiclkaecgpbbaaDoor
