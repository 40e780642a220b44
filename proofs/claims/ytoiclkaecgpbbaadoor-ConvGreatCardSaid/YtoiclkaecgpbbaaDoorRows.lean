/-
  NARROWER THAN 'FOR EVERY INPUT', by the rows' own cells (each row's printed sentence says how): PrimeSmall: laid · PrimeWords: laid · PrimeMods: laid · PrimeThree: laid · NttForwards: laid · NttLaws: laid · NttBack: laid · ConvWords: laid · ConvMuls: laid · ConvSquares: laid · ConvGreat: laid.
  DERIVED. THE GIVEN ROWS OF THIS SEAT. 11 by the template 'for every input the law returns true; each argument reads behind the call as it read before'; 0 by the template 'total and deterministic' (their statements: YtoiclkaecgpbbaaDoorTotals.lean).
  GIVEN WITH THE SEED: the statements are not yours to turn. If you find one false, say at which input.
  Laid BY PROGRAM, IN A SANDBOX (cutbox-rows.mjs): the forced cells as the released guide's own fill.sh prints them over the translation b83eb28d96a4f86a… (all of the seat's roots in one cut). By AI agents, Wed Nov 11 2026. No macro, syntax, notation, axiom, sorry.
-/
import Derived.Test.YtoiclkaecgpbbaaDoorChecked
import GoSem.Claim
import GoSem.ClaimJoined
import GoSem.ClaimMapViews
import Derived.JoinedTies
import Derived.KernelRfl
namespace Go.Proofs.YtoiclkaecgpbbaaDoor
/- THE CELL 'sum', in the pinned program and in every row, IS THE sha256 OF THE DUMP (.gsa) THAT YtoiclkaecgpbbaaDoorProg.lean LOADS. Nothing in Lean hashes anything: it is a label: what it is worth is what the hold of that sum in a sandbox is worth. -/
noncomputable def Tryd.pinned : Pinned := { name := "ytoiclkaecgpbbaadoor", sum := "b83eb28d96a4f86a4c23cfa9d35ca60c16e292a6f5b5083f18f2888468a05ba8", checked := Tryd.checked }
namespace Rows
def none {H : Type} : Left H := { results := [], args := [] }

/- WHAT THE LISTED PACKAGE-LEVEL VARIABLES READ AS WHEN THE CALL BEGINS. Each datum BY PROGRAM (the guide's laid-datum.mjs) off the statement by which the dump's own 'gosem.cut.vars' lays the variable. In a bare row this is a premise. The card (YtoiclkaecgpbbaaDoorCards.lean) ties it to the program's text. -/
def laid_math_bits_deBruijn64tab {H : Type} : DataW H := .agg [.lit (.int .u8 0), .lit (.int .u8 1), .lit (.int .u8 56), .lit (.int .u8 2), .lit (.int .u8 57), .lit (.int .u8 49), .lit (.int .u8 28), .lit (.int .u8 3), .lit (.int .u8 61), .lit (.int .u8 58), .lit (.int .u8 42), .lit (.int .u8 50), .lit (.int .u8 38), .lit (.int .u8 29), .lit (.int .u8 17), .lit (.int .u8 4), .lit (.int .u8 62), .lit (.int .u8 47), .lit (.int .u8 59), .lit (.int .u8 36), .lit (.int .u8 45), .lit (.int .u8 43), .lit (.int .u8 51), .lit (.int .u8 22), .lit (.int .u8 53), .lit (.int .u8 39), .lit (.int .u8 33), .lit (.int .u8 30), .lit (.int .u8 24), .lit (.int .u8 18), .lit (.int .u8 12), .lit (.int .u8 5), .lit (.int .u8 63), .lit (.int .u8 55), .lit (.int .u8 48), .lit (.int .u8 27), .lit (.int .u8 60), .lit (.int .u8 41), .lit (.int .u8 37), .lit (.int .u8 16), .lit (.int .u8 46), .lit (.int .u8 35), .lit (.int .u8 44), .lit (.int .u8 21), .lit (.int .u8 52), .lit (.int .u8 32), .lit (.int .u8 23), .lit (.int .u8 11), .lit (.int .u8 54), .lit (.int .u8 26), .lit (.int .u8 40), .lit (.int .u8 15), .lit (.int .u8 34), .lit (.int .u8 20), .lit (.int .u8 31), .lit (.int .u8 10), .lit (.int .u8 25), .lit (.int .u8 14), .lit (.int .u8 19), .lit (.int .u8 9), .lit (.int .u8 13), .lit (.int .u8 8), .lit (.int .u8 7), .lit (.int .u8 6)]

/-- 'zigguratlaw07.PrimeSmall': WHATEVER THE INPUT: true; the input reads as it did. -/
def primeSmallSpec : ChangeSpec := { name := "primeSmall", fn := fun _ => fun
  | [d] => { results := [.lit (.bool true)], args := [d] }
  | _ => none }
def primeSmallRow : OpenClaim := { program := "ytoiclkaecgpbbaadoor", sum := "b83eb28d96a4f86a4c23cfa9d35ca60c16e292a6f5b5083f18f2888468a05ba8", func := "ziggurat/zigguratlaw07.PrimeSmall", spec := "primeSmall", inPlace := ["math/bits.Add64"], named := ["math/bits.deBruijn64tab", "math/bits.divideError", "math/bits.overflowError"], apart := false, laid := [("math/bits.deBruijn64tab", laid_math_bits_deBruijn64tab)] }
def PrimeSmallSaid : Prop := primeSmallRow.holds Tryd.pinned (OpenSpec.ofChange primeSmallSpec)

/-- ITS FALSE NEIGHBOUR: 'it returns false'. Refute it at one input. -/
def primeSmallWrong : ChangeSpec := { name := "primeSmall", fn := fun _ => fun
  | [d] => { results := [.lit (.bool false)], args := [d] }
  | _ => none }
def PrimeSmallWrongFalsely : Prop := primeSmallRow.holds Tryd.pinned (OpenSpec.ofChange primeSmallWrong)

/-- 'zigguratlaw07.PrimeWords': WHATEVER THE INPUT: true; the input reads as it did. -/
def primeWordsSpec : ChangeSpec := { name := "primeWords", fn := fun _ => fun
  | [d] => { results := [.lit (.bool true)], args := [d] }
  | _ => none }
def primeWordsRow : OpenClaim := { program := "ytoiclkaecgpbbaadoor", sum := "b83eb28d96a4f86a4c23cfa9d35ca60c16e292a6f5b5083f18f2888468a05ba8", func := "ziggurat/zigguratlaw07.PrimeWords", spec := "primeWords", inPlace := ["math/bits.Add64"], named := ["math/bits.deBruijn64tab", "math/bits.divideError", "math/bits.overflowError"], apart := false, laid := [("math/bits.deBruijn64tab", laid_math_bits_deBruijn64tab)] }
def PrimeWordsSaid : Prop := primeWordsRow.holds Tryd.pinned (OpenSpec.ofChange primeWordsSpec)

/-- ITS FALSE NEIGHBOUR: 'it returns false'. Refute it at one input. -/
def primeWordsWrong : ChangeSpec := { name := "primeWords", fn := fun _ => fun
  | [d] => { results := [.lit (.bool false)], args := [d] }
  | _ => none }
def PrimeWordsWrongFalsely : Prop := primeWordsRow.holds Tryd.pinned (OpenSpec.ofChange primeWordsWrong)

/-- 'zigguratlaw07.PrimeMods': WHATEVER THE INPUT: true; the input reads as it did. -/
def primeModsSpec : ChangeSpec := { name := "primeMods", fn := fun _ => fun
  | [d] => { results := [.lit (.bool true)], args := [d] }
  | _ => none }
def primeModsRow : OpenClaim := { program := "ytoiclkaecgpbbaadoor", sum := "b83eb28d96a4f86a4c23cfa9d35ca60c16e292a6f5b5083f18f2888468a05ba8", func := "ziggurat/zigguratlaw07.PrimeMods", spec := "primeMods", inPlace := ["math/bits.Add64"], named := ["math/bits.deBruijn64tab", "math/bits.divideError", "math/bits.overflowError"], apart := false, laid := [("math/bits.deBruijn64tab", laid_math_bits_deBruijn64tab)] }
def PrimeModsSaid : Prop := primeModsRow.holds Tryd.pinned (OpenSpec.ofChange primeModsSpec)

/-- ITS FALSE NEIGHBOUR: 'it returns false'. Refute it at one input. -/
def primeModsWrong : ChangeSpec := { name := "primeMods", fn := fun _ => fun
  | [d] => { results := [.lit (.bool false)], args := [d] }
  | _ => none }
def PrimeModsWrongFalsely : Prop := primeModsRow.holds Tryd.pinned (OpenSpec.ofChange primeModsWrong)

/-- 'zigguratlaw07.PrimeThree': WHATEVER THE INPUT: true; the input reads as it did. -/
def primeThreeSpec : ChangeSpec := { name := "primeThree", fn := fun _ => fun
  | [d] => { results := [.lit (.bool true)], args := [d] }
  | _ => none }
def primeThreeRow : OpenClaim := { program := "ytoiclkaecgpbbaadoor", sum := "b83eb28d96a4f86a4c23cfa9d35ca60c16e292a6f5b5083f18f2888468a05ba8", func := "ziggurat/zigguratlaw07.PrimeThree", spec := "primeThree", inPlace := ["math/bits.Add64"], named := ["math/bits.divideError", "math/bits.overflowError", "math/bits.deBruijn64tab"], apart := false, laid := [("math/bits.deBruijn64tab", laid_math_bits_deBruijn64tab)] }
def PrimeThreeSaid : Prop := primeThreeRow.holds Tryd.pinned (OpenSpec.ofChange primeThreeSpec)

/-- ITS FALSE NEIGHBOUR: 'it returns false'. Refute it at one input. -/
def primeThreeWrong : ChangeSpec := { name := "primeThree", fn := fun _ => fun
  | [d] => { results := [.lit (.bool false)], args := [d] }
  | _ => none }
def PrimeThreeWrongFalsely : Prop := primeThreeRow.holds Tryd.pinned (OpenSpec.ofChange primeThreeWrong)

/-- 'zigguratlaw08.NttForwards': WHATEVER THE INPUT: true; the input reads as it did. -/
def nttForwardsSpec : ChangeSpec := { name := "nttForwards", fn := fun _ => fun
  | [d1, d2, d3, d4] => { results := [.lit (.bool true)], args := [d1, d2, d3, d4] }
  | _ => none }
def nttForwardsRow : OpenClaim := { program := "ytoiclkaecgpbbaadoor", sum := "b83eb28d96a4f86a4c23cfa9d35ca60c16e292a6f5b5083f18f2888468a05ba8", func := "ziggurat/zigguratlaw08.NttForwards", spec := "nttForwards", inPlace := ["math/bits.Add64"], named := ["math/bits.deBruijn64tab", "math/bits.divideError", "math/bits.overflowError"], apart := false, laid := [("math/bits.deBruijn64tab", laid_math_bits_deBruijn64tab)] }
def NttForwardsSaid : Prop := nttForwardsRow.holds Tryd.pinned (OpenSpec.ofChange nttForwardsSpec)

/-- ITS FALSE NEIGHBOUR: 'it returns false'. Refute it at one input. -/
def nttForwardsWrong : ChangeSpec := { name := "nttForwards", fn := fun _ => fun
  | [d1, d2, d3, d4] => { results := [.lit (.bool false)], args := [d1, d2, d3, d4] }
  | _ => none }
def NttForwardsWrongFalsely : Prop := nttForwardsRow.holds Tryd.pinned (OpenSpec.ofChange nttForwardsWrong)

/-- 'zigguratlaw08.NttLaws': WHATEVER THE INPUT: true; the input reads as it did. -/
def nttLawsSpec : ChangeSpec := { name := "nttLaws", fn := fun _ => fun
  | [d1, d2, d3, d4] => { results := [.lit (.bool true)], args := [d1, d2, d3, d4] }
  | _ => none }
def nttLawsRow : OpenClaim := { program := "ytoiclkaecgpbbaadoor", sum := "b83eb28d96a4f86a4c23cfa9d35ca60c16e292a6f5b5083f18f2888468a05ba8", func := "ziggurat/zigguratlaw08.NttLaws", spec := "nttLaws", inPlace := ["math/bits.Add64"], named := ["math/bits.deBruijn64tab", "math/bits.divideError", "math/bits.overflowError"], apart := false, laid := [("math/bits.deBruijn64tab", laid_math_bits_deBruijn64tab)] }
def NttLawsSaid : Prop := nttLawsRow.holds Tryd.pinned (OpenSpec.ofChange nttLawsSpec)

/-- ITS FALSE NEIGHBOUR: 'it returns false'. Refute it at one input. -/
def nttLawsWrong : ChangeSpec := { name := "nttLaws", fn := fun _ => fun
  | [d1, d2, d3, d4] => { results := [.lit (.bool false)], args := [d1, d2, d3, d4] }
  | _ => none }
def NttLawsWrongFalsely : Prop := nttLawsRow.holds Tryd.pinned (OpenSpec.ofChange nttLawsWrong)

/-- 'zigguratlaw08.NttBack': WHATEVER THE INPUT: true; the input reads as it did. -/
def nttBackSpec : ChangeSpec := { name := "nttBack", fn := fun _ => fun
  | [d1, d2, d3] => { results := [.lit (.bool true)], args := [d1, d2, d3] }
  | _ => none }
def nttBackRow : OpenClaim := { program := "ytoiclkaecgpbbaadoor", sum := "b83eb28d96a4f86a4c23cfa9d35ca60c16e292a6f5b5083f18f2888468a05ba8", func := "ziggurat/zigguratlaw08.NttBack", spec := "nttBack", inPlace := ["math/bits.Add64"], named := ["math/bits.deBruijn64tab", "math/bits.divideError", "math/bits.overflowError"], apart := false, laid := [("math/bits.deBruijn64tab", laid_math_bits_deBruijn64tab)] }
def NttBackSaid : Prop := nttBackRow.holds Tryd.pinned (OpenSpec.ofChange nttBackSpec)

/-- ITS FALSE NEIGHBOUR: 'it returns false'. Refute it at one input. -/
def nttBackWrong : ChangeSpec := { name := "nttBack", fn := fun _ => fun
  | [d1, d2, d3] => { results := [.lit (.bool false)], args := [d1, d2, d3] }
  | _ => none }
def NttBackWrongFalsely : Prop := nttBackRow.holds Tryd.pinned (OpenSpec.ofChange nttBackWrong)

/-- 'zigguratlaw09.ConvWords': WHATEVER THE INPUT: true; the input reads as it did. -/
def convWordsSpec : ChangeSpec := { name := "convWords", fn := fun _ => fun
  | [d1, d2] => { results := [.lit (.bool true)], args := [d1, d2] }
  | _ => none }
def convWordsRow : OpenClaim := { program := "ytoiclkaecgpbbaadoor", sum := "b83eb28d96a4f86a4c23cfa9d35ca60c16e292a6f5b5083f18f2888468a05ba8", func := "ziggurat/zigguratlaw09.ConvWords", spec := "convWords", inPlace := ["math/bits.Add64"], unfollowed := true, recurses := true, named := ["math/bits.divideError", "math/bits.overflowError", "math/bits.deBruijn64tab"], apart := false, laid := [("math/bits.deBruijn64tab", laid_math_bits_deBruijn64tab)] }
def ConvWordsSaid : Prop := convWordsRow.holds Tryd.pinned (OpenSpec.ofChange convWordsSpec)

/-- ITS FALSE NEIGHBOUR: 'it returns false'. Refute it at one input. -/
def convWordsWrong : ChangeSpec := { name := "convWords", fn := fun _ => fun
  | [d1, d2] => { results := [.lit (.bool false)], args := [d1, d2] }
  | _ => none }
def ConvWordsWrongFalsely : Prop := convWordsRow.holds Tryd.pinned (OpenSpec.ofChange convWordsWrong)

/-- 'zigguratlaw09.ConvMuls': WHATEVER THE INPUT: true; the input reads as it did. -/
def convMulsSpec : ChangeSpec := { name := "convMuls", fn := fun _ => fun
  | [d1, d2] => { results := [.lit (.bool true)], args := [d1, d2] }
  | _ => none }
def convMulsRow : OpenClaim := { program := "ytoiclkaecgpbbaadoor", sum := "b83eb28d96a4f86a4c23cfa9d35ca60c16e292a6f5b5083f18f2888468a05ba8", func := "ziggurat/zigguratlaw09.ConvMuls", spec := "convMuls", inPlace := ["math/bits.Add64"], unfollowed := true, recurses := true, named := ["math/bits.divideError", "math/bits.overflowError", "math/bits.deBruijn64tab"], apart := false, laid := [("math/bits.deBruijn64tab", laid_math_bits_deBruijn64tab)] }
def ConvMulsSaid : Prop := convMulsRow.holds Tryd.pinned (OpenSpec.ofChange convMulsSpec)

/-- ITS FALSE NEIGHBOUR: 'it returns false'. Refute it at one input. -/
def convMulsWrong : ChangeSpec := { name := "convMuls", fn := fun _ => fun
  | [d1, d2] => { results := [.lit (.bool false)], args := [d1, d2] }
  | _ => none }
def ConvMulsWrongFalsely : Prop := convMulsRow.holds Tryd.pinned (OpenSpec.ofChange convMulsWrong)

/-- 'zigguratlaw09.ConvSquares': WHATEVER THE INPUT: true; the input reads as it did. -/
def convSquaresSpec : ChangeSpec := { name := "convSquares", fn := fun _ => fun
  | [d] => { results := [.lit (.bool true)], args := [d] }
  | _ => none }
def convSquaresRow : OpenClaim := { program := "ytoiclkaecgpbbaadoor", sum := "b83eb28d96a4f86a4c23cfa9d35ca60c16e292a6f5b5083f18f2888468a05ba8", func := "ziggurat/zigguratlaw09.ConvSquares", spec := "convSquares", inPlace := ["math/bits.Add64"], unfollowed := true, recurses := true, named := ["math/bits.divideError", "math/bits.overflowError", "math/bits.deBruijn64tab"], apart := false, laid := [("math/bits.deBruijn64tab", laid_math_bits_deBruijn64tab)] }
def ConvSquaresSaid : Prop := convSquaresRow.holds Tryd.pinned (OpenSpec.ofChange convSquaresSpec)

/-- ITS FALSE NEIGHBOUR: 'it returns false'. Refute it at one input. -/
def convSquaresWrong : ChangeSpec := { name := "convSquares", fn := fun _ => fun
  | [d] => { results := [.lit (.bool false)], args := [d] }
  | _ => none }
def ConvSquaresWrongFalsely : Prop := convSquaresRow.holds Tryd.pinned (OpenSpec.ofChange convSquaresWrong)

/-- 'zigguratlaw09.ConvGreat': WHATEVER THE INPUT: true; the input reads as it did. -/
def convGreatSpec : ChangeSpec := { name := "convGreat", fn := fun _ => fun
  | [d1, d2] => { results := [.lit (.bool true)], args := [d1, d2] }
  | _ => none }
def convGreatRow : OpenClaim := { program := "ytoiclkaecgpbbaadoor", sum := "b83eb28d96a4f86a4c23cfa9d35ca60c16e292a6f5b5083f18f2888468a05ba8", func := "ziggurat/zigguratlaw09.ConvGreat", spec := "convGreat", inPlace := ["math/bits.Add64"], unfollowed := true, recurses := true, named := ["math/bits.divideError", "math/bits.overflowError", "math/bits.deBruijn64tab"], apart := false, laid := [("math/bits.deBruijn64tab", laid_math_bits_deBruijn64tab)] }
def ConvGreatSaid : Prop := convGreatRow.holds Tryd.pinned (OpenSpec.ofChange convGreatSpec)

/-- ITS FALSE NEIGHBOUR: 'it returns false'. Refute it at one input. -/
def convGreatWrong : ChangeSpec := { name := "convGreat", fn := fun _ => fun
  | [d1, d2] => { results := [.lit (.bool false)], args := [d1, d2] }
  | _ => none }
def ConvGreatWrongFalsely : Prop := convGreatRow.holds Tryd.pinned (OpenSpec.ofChange convGreatWrong)

/- THE SECOND FORM. 'bulk': how many values and letters a reading holds, each counted each time it is reached (what is shared counts as often as it is met; a slice's spare places count too). A statement '..UptoSaid' is the law's where the arguments, and the package variables that the reading takes, are together of bulk at most 1048576: NARROWER than '..Said'. Prove '..Said' where nothing that the law and all that it calls make is longer than what came in: it says more and counts as full. Else prove '..UptoSaid'. A law counts once. -/
mutual
def uptoBulk {H : Type} : DataW H → Nat
  | .lit (.string bytes) => bytes.length + 1
  | .lit _ => 1
  | .nil => 1
  | .ptr d => uptoBulk d + 1
  | .slice elems spare => uptoBulkAll elems + uptoBulkAll spare + 1
  | .agg parts => uptoBulkAll parts + 1
  | .iface _ d => uptoBulk d + 1
  | .map entries => uptoBulkEntries entries + 1
  | .held _ => 1
def uptoBulkAll {H : Type} : List (DataW H) → Nat
  | [] => 0
  | d :: r => uptoBulk d + uptoBulkAll r
def uptoBulkEntries {H : Type} : List (Lit × DataW H) → Nat
  | [] => 0
  | x :: r => uptoBulkEntry x + uptoBulkEntries r
def uptoBulkEntry {H : Type} : Lit × DataW H → Nat
  | (.string bytes, d) => bytes.length + uptoBulk d + 1
  | (_, d) => uptoBulk d + 1
 end
def uptoSmall : (H : Type) → List (DataW H) → Bool := fun _ ds => decide (uptoBulkAll ds ≤ 1048576)
def OpenSpec.upto (s : _root_.Go.ChangeSpec) : _root_.Go.OpenSpec := { _root_.Go.OpenSpec.ofChange s with cond := some uptoSmall }

/-- 'zigguratlaw07.PrimeSmall', WHERE WHAT IT READS IS OF BULK AT MOST 1048576: true; the input reads as it did. -/
def primeSmallUptoRow : OpenClaim := { program := "ytoiclkaecgpbbaadoor", sum := "b83eb28d96a4f86a4c23cfa9d35ca60c16e292a6f5b5083f18f2888468a05ba8", func := "ziggurat/zigguratlaw07.PrimeSmall", spec := "primeSmall", inPlace := ["math/bits.Add64"], named := ["math/bits.deBruijn64tab", "math/bits.divideError", "math/bits.overflowError"], apart := false, laid := [("math/bits.deBruijn64tab", laid_math_bits_deBruijn64tab)], narrowed := true }
def PrimeSmallUptoSaid : Prop := primeSmallUptoRow.holds Tryd.pinned (OpenSpec.upto primeSmallSpec)

/-- 'zigguratlaw07.PrimeWords', WHERE WHAT IT READS IS OF BULK AT MOST 1048576: true; the input reads as it did. -/
def primeWordsUptoRow : OpenClaim := { program := "ytoiclkaecgpbbaadoor", sum := "b83eb28d96a4f86a4c23cfa9d35ca60c16e292a6f5b5083f18f2888468a05ba8", func := "ziggurat/zigguratlaw07.PrimeWords", spec := "primeWords", inPlace := ["math/bits.Add64"], named := ["math/bits.deBruijn64tab", "math/bits.divideError", "math/bits.overflowError"], apart := false, laid := [("math/bits.deBruijn64tab", laid_math_bits_deBruijn64tab)], narrowed := true }
def PrimeWordsUptoSaid : Prop := primeWordsUptoRow.holds Tryd.pinned (OpenSpec.upto primeWordsSpec)

/-- 'zigguratlaw07.PrimeMods', WHERE WHAT IT READS IS OF BULK AT MOST 1048576: true; the input reads as it did. -/
def primeModsUptoRow : OpenClaim := { program := "ytoiclkaecgpbbaadoor", sum := "b83eb28d96a4f86a4c23cfa9d35ca60c16e292a6f5b5083f18f2888468a05ba8", func := "ziggurat/zigguratlaw07.PrimeMods", spec := "primeMods", inPlace := ["math/bits.Add64"], named := ["math/bits.deBruijn64tab", "math/bits.divideError", "math/bits.overflowError"], apart := false, laid := [("math/bits.deBruijn64tab", laid_math_bits_deBruijn64tab)], narrowed := true }
def PrimeModsUptoSaid : Prop := primeModsUptoRow.holds Tryd.pinned (OpenSpec.upto primeModsSpec)

/-- 'zigguratlaw07.PrimeThree', WHERE WHAT IT READS IS OF BULK AT MOST 1048576: true; the input reads as it did. -/
def primeThreeUptoRow : OpenClaim := { program := "ytoiclkaecgpbbaadoor", sum := "b83eb28d96a4f86a4c23cfa9d35ca60c16e292a6f5b5083f18f2888468a05ba8", func := "ziggurat/zigguratlaw07.PrimeThree", spec := "primeThree", inPlace := ["math/bits.Add64"], named := ["math/bits.divideError", "math/bits.overflowError", "math/bits.deBruijn64tab"], apart := false, laid := [("math/bits.deBruijn64tab", laid_math_bits_deBruijn64tab)], narrowed := true }
def PrimeThreeUptoSaid : Prop := primeThreeUptoRow.holds Tryd.pinned (OpenSpec.upto primeThreeSpec)

/-- 'zigguratlaw08.NttForwards', WHERE WHAT IT READS IS OF BULK AT MOST 1048576: true; the input reads as it did. -/
def nttForwardsUptoRow : OpenClaim := { program := "ytoiclkaecgpbbaadoor", sum := "b83eb28d96a4f86a4c23cfa9d35ca60c16e292a6f5b5083f18f2888468a05ba8", func := "ziggurat/zigguratlaw08.NttForwards", spec := "nttForwards", inPlace := ["math/bits.Add64"], named := ["math/bits.deBruijn64tab", "math/bits.divideError", "math/bits.overflowError"], apart := false, laid := [("math/bits.deBruijn64tab", laid_math_bits_deBruijn64tab)], narrowed := true }
def NttForwardsUptoSaid : Prop := nttForwardsUptoRow.holds Tryd.pinned (OpenSpec.upto nttForwardsSpec)

/-- 'zigguratlaw08.NttLaws', WHERE WHAT IT READS IS OF BULK AT MOST 1048576: true; the input reads as it did. -/
def nttLawsUptoRow : OpenClaim := { program := "ytoiclkaecgpbbaadoor", sum := "b83eb28d96a4f86a4c23cfa9d35ca60c16e292a6f5b5083f18f2888468a05ba8", func := "ziggurat/zigguratlaw08.NttLaws", spec := "nttLaws", inPlace := ["math/bits.Add64"], named := ["math/bits.deBruijn64tab", "math/bits.divideError", "math/bits.overflowError"], apart := false, laid := [("math/bits.deBruijn64tab", laid_math_bits_deBruijn64tab)], narrowed := true }
def NttLawsUptoSaid : Prop := nttLawsUptoRow.holds Tryd.pinned (OpenSpec.upto nttLawsSpec)

/-- 'zigguratlaw08.NttBack', WHERE WHAT IT READS IS OF BULK AT MOST 1048576: true; the input reads as it did. -/
def nttBackUptoRow : OpenClaim := { program := "ytoiclkaecgpbbaadoor", sum := "b83eb28d96a4f86a4c23cfa9d35ca60c16e292a6f5b5083f18f2888468a05ba8", func := "ziggurat/zigguratlaw08.NttBack", spec := "nttBack", inPlace := ["math/bits.Add64"], named := ["math/bits.deBruijn64tab", "math/bits.divideError", "math/bits.overflowError"], apart := false, laid := [("math/bits.deBruijn64tab", laid_math_bits_deBruijn64tab)], narrowed := true }
def NttBackUptoSaid : Prop := nttBackUptoRow.holds Tryd.pinned (OpenSpec.upto nttBackSpec)

/-- 'zigguratlaw09.ConvWords', WHERE WHAT IT READS IS OF BULK AT MOST 1048576: true; the input reads as it did. -/
def convWordsUptoRow : OpenClaim := { program := "ytoiclkaecgpbbaadoor", sum := "b83eb28d96a4f86a4c23cfa9d35ca60c16e292a6f5b5083f18f2888468a05ba8", func := "ziggurat/zigguratlaw09.ConvWords", spec := "convWords", inPlace := ["math/bits.Add64"], unfollowed := true, recurses := true, named := ["math/bits.divideError", "math/bits.overflowError", "math/bits.deBruijn64tab"], apart := false, laid := [("math/bits.deBruijn64tab", laid_math_bits_deBruijn64tab)], narrowed := true }
def ConvWordsUptoSaid : Prop := convWordsUptoRow.holds Tryd.pinned (OpenSpec.upto convWordsSpec)

/-- 'zigguratlaw09.ConvMuls', WHERE WHAT IT READS IS OF BULK AT MOST 1048576: true; the input reads as it did. -/
def convMulsUptoRow : OpenClaim := { program := "ytoiclkaecgpbbaadoor", sum := "b83eb28d96a4f86a4c23cfa9d35ca60c16e292a6f5b5083f18f2888468a05ba8", func := "ziggurat/zigguratlaw09.ConvMuls", spec := "convMuls", inPlace := ["math/bits.Add64"], unfollowed := true, recurses := true, named := ["math/bits.divideError", "math/bits.overflowError", "math/bits.deBruijn64tab"], apart := false, laid := [("math/bits.deBruijn64tab", laid_math_bits_deBruijn64tab)], narrowed := true }
def ConvMulsUptoSaid : Prop := convMulsUptoRow.holds Tryd.pinned (OpenSpec.upto convMulsSpec)

/-- 'zigguratlaw09.ConvSquares', WHERE WHAT IT READS IS OF BULK AT MOST 1048576: true; the input reads as it did. -/
def convSquaresUptoRow : OpenClaim := { program := "ytoiclkaecgpbbaadoor", sum := "b83eb28d96a4f86a4c23cfa9d35ca60c16e292a6f5b5083f18f2888468a05ba8", func := "ziggurat/zigguratlaw09.ConvSquares", spec := "convSquares", inPlace := ["math/bits.Add64"], unfollowed := true, recurses := true, named := ["math/bits.divideError", "math/bits.overflowError", "math/bits.deBruijn64tab"], apart := false, laid := [("math/bits.deBruijn64tab", laid_math_bits_deBruijn64tab)], narrowed := true }
def ConvSquaresUptoSaid : Prop := convSquaresUptoRow.holds Tryd.pinned (OpenSpec.upto convSquaresSpec)

/-- 'zigguratlaw09.ConvGreat', WHERE WHAT IT READS IS OF BULK AT MOST 1048576: true; the input reads as it did. -/
def convGreatUptoRow : OpenClaim := { program := "ytoiclkaecgpbbaadoor", sum := "b83eb28d96a4f86a4c23cfa9d35ca60c16e292a6f5b5083f18f2888468a05ba8", func := "ziggurat/zigguratlaw09.ConvGreat", spec := "convGreat", inPlace := ["math/bits.Add64"], unfollowed := true, recurses := true, named := ["math/bits.divideError", "math/bits.overflowError", "math/bits.deBruijn64tab"], apart := false, laid := [("math/bits.deBruijn64tab", laid_math_bits_deBruijn64tab)], narrowed := true }
def ConvGreatUptoSaid : Prop := convGreatUptoRow.holds Tryd.pinned (OpenSpec.upto convGreatSpec)

end Rows
end Go.Proofs.YtoiclkaecgpbbaaDoor
