/-
  NARROWER THAN 'FOR EVERY INPUT', by the rows' own cells (each row's printed sentence says how): MulProducts: laid · MulMuls: laid · MulRoutes: laid · MulLaws: laid · MulTables: laid · MulNoughts: laid · MulSquares: laid · MulGreat: laid.
  DERIVED. THE GIVEN ROWS OF THIS SEAT. 8 by the template 'for every input the law returns true; each argument reads behind the call as it read before'; 0 by the template 'total and deterministic' (their statements: YtldkiddoajlohaaGreatDoorTotals.lean).
  GIVEN WITH THE SEED: the statements are not yours to turn. If you find one false, say at which input.
  Laid BY PROGRAM, IN A SANDBOX (cutbox-rows.mjs): the forced cells as the released guide's own fill.sh prints them over the translation dd05bda3ac621cf8… (all of the seat's roots in one cut). By AI agents, Wed Nov 11 2026. No macro, syntax, notation, axiom, sorry.
-/
import Derived.Test.YtldkiddoajlohaaGreatDoorChecked
import GoSem.Claim
import GoSem.ClaimJoined
import GoSem.ClaimMapViews
import Derived.JoinedTies
import Derived.KernelRfl
namespace Go.Proofs.YtldkiddoajlohaaGreatDoor
/- THE CELL 'sum', in the pinned program and in every row, IS THE sha256 OF THE DUMP (.gsa) THAT YtldkiddoajlohaaGreatDoorProg.lean LOADS. Nothing in Lean hashes anything: it is a label: what it is worth is what the hold of that sum in a sandbox is worth. -/
noncomputable def Tryz.pinned : Pinned := { name := "ytldkiddoajlohaagreatdoor", sum := "dd05bda3ac621cf852925131040f9e4c7dd79df7de3c449ae4428e24c2e03f72", checked := Tryz.checked }
namespace Rows
def none {H : Type} : Left H := { results := [], args := [] }

/- WHAT THE LISTED PACKAGE-LEVEL VARIABLES READ AS WHEN THE CALL BEGINS. Each datum BY PROGRAM (the guide's laid-datum.mjs) off the statement by which the dump's own 'gosem.cut.vars' lays the variable. In a bare row this is a premise. The card (YtldkiddoajlohaaGreatDoorCards.lean) ties it to the program's text. -/
def laid_math_bits_deBruijn64tab {H : Type} : DataW H := .agg [.lit (.int .u8 0), .lit (.int .u8 1), .lit (.int .u8 56), .lit (.int .u8 2), .lit (.int .u8 57), .lit (.int .u8 49), .lit (.int .u8 28), .lit (.int .u8 3), .lit (.int .u8 61), .lit (.int .u8 58), .lit (.int .u8 42), .lit (.int .u8 50), .lit (.int .u8 38), .lit (.int .u8 29), .lit (.int .u8 17), .lit (.int .u8 4), .lit (.int .u8 62), .lit (.int .u8 47), .lit (.int .u8 59), .lit (.int .u8 36), .lit (.int .u8 45), .lit (.int .u8 43), .lit (.int .u8 51), .lit (.int .u8 22), .lit (.int .u8 53), .lit (.int .u8 39), .lit (.int .u8 33), .lit (.int .u8 30), .lit (.int .u8 24), .lit (.int .u8 18), .lit (.int .u8 12), .lit (.int .u8 5), .lit (.int .u8 63), .lit (.int .u8 55), .lit (.int .u8 48), .lit (.int .u8 27), .lit (.int .u8 60), .lit (.int .u8 41), .lit (.int .u8 37), .lit (.int .u8 16), .lit (.int .u8 46), .lit (.int .u8 35), .lit (.int .u8 44), .lit (.int .u8 21), .lit (.int .u8 52), .lit (.int .u8 32), .lit (.int .u8 23), .lit (.int .u8 11), .lit (.int .u8 54), .lit (.int .u8 26), .lit (.int .u8 40), .lit (.int .u8 15), .lit (.int .u8 34), .lit (.int .u8 20), .lit (.int .u8 31), .lit (.int .u8 10), .lit (.int .u8 25), .lit (.int .u8 14), .lit (.int .u8 19), .lit (.int .u8 9), .lit (.int .u8 13), .lit (.int .u8 8), .lit (.int .u8 7), .lit (.int .u8 6)]

/-- 'zigguratlaw12.MulProducts': WHATEVER THE INPUT: true; the input reads as it did. -/
def mulProductsSpec : ChangeSpec := { name := "mulProducts", fn := fun _ => fun
  | [d1, d2] => { results := [.lit (.bool true)], args := [d1, d2] }
  | _ => none }
def mulProductsRow : OpenClaim := { program := "ytldkiddoajlohaagreatdoor", sum := "dd05bda3ac621cf852925131040f9e4c7dd79df7de3c449ae4428e24c2e03f72", func := "ziggurat/zigguratlaw12.MulProducts", spec := "mulProducts", inPlace := ["math/bits.Add64", "math/bits.Sub64"], unfollowed := true, recurses := true, named := ["math/bits.divideError", "math/bits.overflowError", "math/bits.deBruijn64tab"], apart := false, laid := [("math/bits.deBruijn64tab", laid_math_bits_deBruijn64tab)] }
def MulProductsSaid : Prop := mulProductsRow.holds Tryz.pinned (OpenSpec.ofChange mulProductsSpec)

/-- ITS FALSE NEIGHBOUR: 'it returns false'. Refute it at one input. -/
def mulProductsWrong : ChangeSpec := { name := "mulProducts", fn := fun _ => fun
  | [d1, d2] => { results := [.lit (.bool false)], args := [d1, d2] }
  | _ => none }
def MulProductsWrongFalsely : Prop := mulProductsRow.holds Tryz.pinned (OpenSpec.ofChange mulProductsWrong)

/-- 'zigguratlaw12.MulMuls': WHATEVER THE INPUT: true; the input reads as it did. -/
def mulMulsSpec : ChangeSpec := { name := "mulMuls", fn := fun _ => fun
  | [d1, d2, d3] => { results := [.lit (.bool true)], args := [d1, d2, d3] }
  | _ => none }
def mulMulsRow : OpenClaim := { program := "ytldkiddoajlohaagreatdoor", sum := "dd05bda3ac621cf852925131040f9e4c7dd79df7de3c449ae4428e24c2e03f72", func := "ziggurat/zigguratlaw12.MulMuls", spec := "mulMuls", inPlace := ["math/bits.Add64", "math/bits.Sub64"], unfollowed := true, recurses := true, named := ["math/bits.divideError", "math/bits.overflowError", "math/bits.deBruijn64tab"], apart := false, laid := [("math/bits.deBruijn64tab", laid_math_bits_deBruijn64tab)] }
def MulMulsSaid : Prop := mulMulsRow.holds Tryz.pinned (OpenSpec.ofChange mulMulsSpec)

/-- ITS FALSE NEIGHBOUR: 'it returns false'. Refute it at one input. -/
def mulMulsWrong : ChangeSpec := { name := "mulMuls", fn := fun _ => fun
  | [d1, d2, d3] => { results := [.lit (.bool false)], args := [d1, d2, d3] }
  | _ => none }
def MulMulsWrongFalsely : Prop := mulMulsRow.holds Tryz.pinned (OpenSpec.ofChange mulMulsWrong)

/-- 'zigguratlaw12.MulRoutes': WHATEVER THE INPUT: true; the input reads as it did. -/
def mulRoutesSpec : ChangeSpec := { name := "mulRoutes", fn := fun _ => fun
  | [d1, d2, d3, d4] => { results := [.lit (.bool true)], args := [d1, d2, d3, d4] }
  | _ => none }
def mulRoutesRow : OpenClaim := { program := "ytldkiddoajlohaagreatdoor", sum := "dd05bda3ac621cf852925131040f9e4c7dd79df7de3c449ae4428e24c2e03f72", func := "ziggurat/zigguratlaw12.MulRoutes", spec := "mulRoutes", inPlace := ["math/bits.Add64", "math/bits.Sub64"], unfollowed := true, recurses := true, named := ["math/bits.divideError", "math/bits.overflowError", "math/bits.deBruijn64tab"], apart := false, laid := [("math/bits.deBruijn64tab", laid_math_bits_deBruijn64tab)] }
def MulRoutesSaid : Prop := mulRoutesRow.holds Tryz.pinned (OpenSpec.ofChange mulRoutesSpec)

/-- ITS FALSE NEIGHBOUR: 'it returns false'. Refute it at one input. -/
def mulRoutesWrong : ChangeSpec := { name := "mulRoutes", fn := fun _ => fun
  | [d1, d2, d3, d4] => { results := [.lit (.bool false)], args := [d1, d2, d3, d4] }
  | _ => none }
def MulRoutesWrongFalsely : Prop := mulRoutesRow.holds Tryz.pinned (OpenSpec.ofChange mulRoutesWrong)

/-- 'zigguratlaw12.MulLaws': WHATEVER THE INPUT: true; the input reads as it did. -/
def mulLawsSpec : ChangeSpec := { name := "mulLaws", fn := fun _ => fun
  | [d1, d2, d3, d4] => { results := [.lit (.bool true)], args := [d1, d2, d3, d4] }
  | _ => none }
def mulLawsRow : OpenClaim := { program := "ytldkiddoajlohaagreatdoor", sum := "dd05bda3ac621cf852925131040f9e4c7dd79df7de3c449ae4428e24c2e03f72", func := "ziggurat/zigguratlaw12.MulLaws", spec := "mulLaws", inPlace := ["math/bits.Add64", "math/bits.Sub64"], unfollowed := true, recurses := true, named := ["math/bits.divideError", "math/bits.overflowError", "math/bits.deBruijn64tab"], apart := false, laid := [("math/bits.deBruijn64tab", laid_math_bits_deBruijn64tab)] }
def MulLawsSaid : Prop := mulLawsRow.holds Tryz.pinned (OpenSpec.ofChange mulLawsSpec)

/-- ITS FALSE NEIGHBOUR: 'it returns false'. Refute it at one input. -/
def mulLawsWrong : ChangeSpec := { name := "mulLaws", fn := fun _ => fun
  | [d1, d2, d3, d4] => { results := [.lit (.bool false)], args := [d1, d2, d3, d4] }
  | _ => none }
def MulLawsWrongFalsely : Prop := mulLawsRow.holds Tryz.pinned (OpenSpec.ofChange mulLawsWrong)

/-- 'zigguratlaw12.MulTables': WHATEVER THE INPUT: true; the input reads as it did. -/
def mulTablesSpec : ChangeSpec := { name := "mulTables", fn := fun _ => fun
  | [d1, d2, d3, d4] => { results := [.lit (.bool true)], args := [d1, d2, d3, d4] }
  | _ => none }
def mulTablesRow : OpenClaim := { program := "ytldkiddoajlohaagreatdoor", sum := "dd05bda3ac621cf852925131040f9e4c7dd79df7de3c449ae4428e24c2e03f72", func := "ziggurat/zigguratlaw12.MulTables", spec := "mulTables", inPlace := ["math/bits.Add64", "math/bits.Sub64"], unfollowed := true, recurses := true, named := ["math/bits.divideError", "math/bits.overflowError", "math/bits.deBruijn64tab"], apart := false, laid := [("math/bits.deBruijn64tab", laid_math_bits_deBruijn64tab)] }
def MulTablesSaid : Prop := mulTablesRow.holds Tryz.pinned (OpenSpec.ofChange mulTablesSpec)

/-- ITS FALSE NEIGHBOUR: 'it returns false'. Refute it at one input. -/
def mulTablesWrong : ChangeSpec := { name := "mulTables", fn := fun _ => fun
  | [d1, d2, d3, d4] => { results := [.lit (.bool false)], args := [d1, d2, d3, d4] }
  | _ => none }
def MulTablesWrongFalsely : Prop := mulTablesRow.holds Tryz.pinned (OpenSpec.ofChange mulTablesWrong)

/-- 'zigguratlaw12.MulNoughts': WHATEVER THE INPUT: true; the input reads as it did. -/
def mulNoughtsSpec : ChangeSpec := { name := "mulNoughts", fn := fun _ => fun
  | [d1, d2, d3, d4, d5] => { results := [.lit (.bool true)], args := [d1, d2, d3, d4, d5] }
  | _ => none }
def mulNoughtsRow : OpenClaim := { program := "ytldkiddoajlohaagreatdoor", sum := "dd05bda3ac621cf852925131040f9e4c7dd79df7de3c449ae4428e24c2e03f72", func := "ziggurat/zigguratlaw12.MulNoughts", spec := "mulNoughts", inPlace := ["math/bits.Add64", "math/bits.Sub64"], unfollowed := true, recurses := true, named := ["math/bits.divideError", "math/bits.overflowError", "math/bits.deBruijn64tab"], apart := false, laid := [("math/bits.deBruijn64tab", laid_math_bits_deBruijn64tab)] }
def MulNoughtsSaid : Prop := mulNoughtsRow.holds Tryz.pinned (OpenSpec.ofChange mulNoughtsSpec)

/-- ITS FALSE NEIGHBOUR: 'it returns false'. Refute it at one input. -/
def mulNoughtsWrong : ChangeSpec := { name := "mulNoughts", fn := fun _ => fun
  | [d1, d2, d3, d4, d5] => { results := [.lit (.bool false)], args := [d1, d2, d3, d4, d5] }
  | _ => none }
def MulNoughtsWrongFalsely : Prop := mulNoughtsRow.holds Tryz.pinned (OpenSpec.ofChange mulNoughtsWrong)

/-- 'zigguratlaw12.MulSquares': WHATEVER THE INPUT: true; the input reads as it did. -/
def mulSquaresSpec : ChangeSpec := { name := "mulSquares", fn := fun _ => fun
  | [d1, d2] => { results := [.lit (.bool true)], args := [d1, d2] }
  | _ => none }
def mulSquaresRow : OpenClaim := { program := "ytldkiddoajlohaagreatdoor", sum := "dd05bda3ac621cf852925131040f9e4c7dd79df7de3c449ae4428e24c2e03f72", func := "ziggurat/zigguratlaw12.MulSquares", spec := "mulSquares", inPlace := ["math/bits.Add64", "math/bits.Sub64"], unfollowed := true, recurses := true, named := ["math/bits.divideError", "math/bits.overflowError", "math/bits.deBruijn64tab"], apart := false, laid := [("math/bits.deBruijn64tab", laid_math_bits_deBruijn64tab)] }
def MulSquaresSaid : Prop := mulSquaresRow.holds Tryz.pinned (OpenSpec.ofChange mulSquaresSpec)

/-- ITS FALSE NEIGHBOUR: 'it returns false'. Refute it at one input. -/
def mulSquaresWrong : ChangeSpec := { name := "mulSquares", fn := fun _ => fun
  | [d1, d2] => { results := [.lit (.bool false)], args := [d1, d2] }
  | _ => none }
def MulSquaresWrongFalsely : Prop := mulSquaresRow.holds Tryz.pinned (OpenSpec.ofChange mulSquaresWrong)

/-- 'zigguratlaw12.MulGreat': WHATEVER THE INPUT: true; the input reads as it did. -/
def mulGreatSpec : ChangeSpec := { name := "mulGreat", fn := fun _ => fun
  | [d1, d2, d3] => { results := [.lit (.bool true)], args := [d1, d2, d3] }
  | _ => none }
def mulGreatRow : OpenClaim := { program := "ytldkiddoajlohaagreatdoor", sum := "dd05bda3ac621cf852925131040f9e4c7dd79df7de3c449ae4428e24c2e03f72", func := "ziggurat/zigguratlaw12.MulGreat", spec := "mulGreat", inPlace := ["math/bits.Add64", "math/bits.Sub64"], unfollowed := true, recurses := true, named := ["math/bits.divideError", "math/bits.overflowError", "math/bits.deBruijn64tab"], apart := false, laid := [("math/bits.deBruijn64tab", laid_math_bits_deBruijn64tab)] }
def MulGreatSaid : Prop := mulGreatRow.holds Tryz.pinned (OpenSpec.ofChange mulGreatSpec)

/-- ITS FALSE NEIGHBOUR: 'it returns false'. Refute it at one input. -/
def mulGreatWrong : ChangeSpec := { name := "mulGreat", fn := fun _ => fun
  | [d1, d2, d3] => { results := [.lit (.bool false)], args := [d1, d2, d3] }
  | _ => none }
def MulGreatWrongFalsely : Prop := mulGreatRow.holds Tryz.pinned (OpenSpec.ofChange mulGreatWrong)

/- THE SECOND FORM. 'bulk': how many values and letters a reading holds, each counted each time it is reached (what is shared counts as often as it is met; a slice's spare places count too). A statement '..UptoSaid' is the law's where the arguments, and the package variables that the reading takes, are together of bulk at most 1048576: NARROWER than '..Said'. Prove '..Said' where nothing that the law and all that it calls make is longer than what came in: it says more and counts as full. Else prove '..UptoSaid'. A law counts once. -/
mutual
def uptoBulk {H : Type} : DataW H → Nat
  | .lit (.string bytes) => bytes.length + 1
  | .lit _ => 1
  | .nil => 1
  | .ptr d => uptoBulk d + 1
  | .slice elems spare => uptoBulkAll elems + uptoBulkAll spare + 1
  | .agg parts => uptoBulkAll parts + 1
  | .iface _ d => uptoBulk d + 1
  | .map entries => uptoBulkEntries entries + 1
  | .held _ => 1
def uptoBulkAll {H : Type} : List (DataW H) → Nat
  | [] => 0
  | d :: r => uptoBulk d + uptoBulkAll r
def uptoBulkEntries {H : Type} : List (Lit × DataW H) → Nat
  | [] => 0
  | x :: r => uptoBulkEntry x + uptoBulkEntries r
def uptoBulkEntry {H : Type} : Lit × DataW H → Nat
  | (.string bytes, d) => bytes.length + uptoBulk d + 1
  | (_, d) => uptoBulk d + 1
 end
def uptoSmall : (H : Type) → List (DataW H) → Bool := fun _ ds => decide (uptoBulkAll ds ≤ 1048576)
def OpenSpec.upto (s : _root_.Go.ChangeSpec) : _root_.Go.OpenSpec := { _root_.Go.OpenSpec.ofChange s with cond := some uptoSmall }

/-- 'zigguratlaw12.MulProducts', WHERE WHAT IT READS IS OF BULK AT MOST 1048576: true; the input reads as it did. -/
def mulProductsUptoRow : OpenClaim := { program := "ytldkiddoajlohaagreatdoor", sum := "dd05bda3ac621cf852925131040f9e4c7dd79df7de3c449ae4428e24c2e03f72", func := "ziggurat/zigguratlaw12.MulProducts", spec := "mulProducts", inPlace := ["math/bits.Add64", "math/bits.Sub64"], unfollowed := true, recurses := true, named := ["math/bits.divideError", "math/bits.overflowError", "math/bits.deBruijn64tab"], apart := false, laid := [("math/bits.deBruijn64tab", laid_math_bits_deBruijn64tab)], narrowed := true }
def MulProductsUptoSaid : Prop := mulProductsUptoRow.holds Tryz.pinned (OpenSpec.upto mulProductsSpec)

/-- 'zigguratlaw12.MulMuls', WHERE WHAT IT READS IS OF BULK AT MOST 1048576: true; the input reads as it did. -/
def mulMulsUptoRow : OpenClaim := { program := "ytldkiddoajlohaagreatdoor", sum := "dd05bda3ac621cf852925131040f9e4c7dd79df7de3c449ae4428e24c2e03f72", func := "ziggurat/zigguratlaw12.MulMuls", spec := "mulMuls", inPlace := ["math/bits.Add64", "math/bits.Sub64"], unfollowed := true, recurses := true, named := ["math/bits.divideError", "math/bits.overflowError", "math/bits.deBruijn64tab"], apart := false, laid := [("math/bits.deBruijn64tab", laid_math_bits_deBruijn64tab)], narrowed := true }
def MulMulsUptoSaid : Prop := mulMulsUptoRow.holds Tryz.pinned (OpenSpec.upto mulMulsSpec)

/-- 'zigguratlaw12.MulRoutes', WHERE WHAT IT READS IS OF BULK AT MOST 1048576: true; the input reads as it did. -/
def mulRoutesUptoRow : OpenClaim := { program := "ytldkiddoajlohaagreatdoor", sum := "dd05bda3ac621cf852925131040f9e4c7dd79df7de3c449ae4428e24c2e03f72", func := "ziggurat/zigguratlaw12.MulRoutes", spec := "mulRoutes", inPlace := ["math/bits.Add64", "math/bits.Sub64"], unfollowed := true, recurses := true, named := ["math/bits.divideError", "math/bits.overflowError", "math/bits.deBruijn64tab"], apart := false, laid := [("math/bits.deBruijn64tab", laid_math_bits_deBruijn64tab)], narrowed := true }
def MulRoutesUptoSaid : Prop := mulRoutesUptoRow.holds Tryz.pinned (OpenSpec.upto mulRoutesSpec)

/-- 'zigguratlaw12.MulLaws', WHERE WHAT IT READS IS OF BULK AT MOST 1048576: true; the input reads as it did. -/
def mulLawsUptoRow : OpenClaim := { program := "ytldkiddoajlohaagreatdoor", sum := "dd05bda3ac621cf852925131040f9e4c7dd79df7de3c449ae4428e24c2e03f72", func := "ziggurat/zigguratlaw12.MulLaws", spec := "mulLaws", inPlace := ["math/bits.Add64", "math/bits.Sub64"], unfollowed := true, recurses := true, named := ["math/bits.divideError", "math/bits.overflowError", "math/bits.deBruijn64tab"], apart := false, laid := [("math/bits.deBruijn64tab", laid_math_bits_deBruijn64tab)], narrowed := true }
def MulLawsUptoSaid : Prop := mulLawsUptoRow.holds Tryz.pinned (OpenSpec.upto mulLawsSpec)

/-- 'zigguratlaw12.MulTables', WHERE WHAT IT READS IS OF BULK AT MOST 1048576: true; the input reads as it did. -/
def mulTablesUptoRow : OpenClaim := { program := "ytldkiddoajlohaagreatdoor", sum := "dd05bda3ac621cf852925131040f9e4c7dd79df7de3c449ae4428e24c2e03f72", func := "ziggurat/zigguratlaw12.MulTables", spec := "mulTables", inPlace := ["math/bits.Add64", "math/bits.Sub64"], unfollowed := true, recurses := true, named := ["math/bits.divideError", "math/bits.overflowError", "math/bits.deBruijn64tab"], apart := false, laid := [("math/bits.deBruijn64tab", laid_math_bits_deBruijn64tab)], narrowed := true }
def MulTablesUptoSaid : Prop := mulTablesUptoRow.holds Tryz.pinned (OpenSpec.upto mulTablesSpec)

/-- 'zigguratlaw12.MulNoughts', WHERE WHAT IT READS IS OF BULK AT MOST 1048576: true; the input reads as it did. -/
def mulNoughtsUptoRow : OpenClaim := { program := "ytldkiddoajlohaagreatdoor", sum := "dd05bda3ac621cf852925131040f9e4c7dd79df7de3c449ae4428e24c2e03f72", func := "ziggurat/zigguratlaw12.MulNoughts", spec := "mulNoughts", inPlace := ["math/bits.Add64", "math/bits.Sub64"], unfollowed := true, recurses := true, named := ["math/bits.divideError", "math/bits.overflowError", "math/bits.deBruijn64tab"], apart := false, laid := [("math/bits.deBruijn64tab", laid_math_bits_deBruijn64tab)], narrowed := true }
def MulNoughtsUptoSaid : Prop := mulNoughtsUptoRow.holds Tryz.pinned (OpenSpec.upto mulNoughtsSpec)

/-- 'zigguratlaw12.MulSquares', WHERE WHAT IT READS IS OF BULK AT MOST 1048576: true; the input reads as it did. -/
def mulSquaresUptoRow : OpenClaim := { program := "ytldkiddoajlohaagreatdoor", sum := "dd05bda3ac621cf852925131040f9e4c7dd79df7de3c449ae4428e24c2e03f72", func := "ziggurat/zigguratlaw12.MulSquares", spec := "mulSquares", inPlace := ["math/bits.Add64", "math/bits.Sub64"], unfollowed := true, recurses := true, named := ["math/bits.divideError", "math/bits.overflowError", "math/bits.deBruijn64tab"], apart := false, laid := [("math/bits.deBruijn64tab", laid_math_bits_deBruijn64tab)], narrowed := true }
def MulSquaresUptoSaid : Prop := mulSquaresUptoRow.holds Tryz.pinned (OpenSpec.upto mulSquaresSpec)

/-- 'zigguratlaw12.MulGreat', WHERE WHAT IT READS IS OF BULK AT MOST 1048576: true; the input reads as it did. -/
def mulGreatUptoRow : OpenClaim := { program := "ytldkiddoajlohaagreatdoor", sum := "dd05bda3ac621cf852925131040f9e4c7dd79df7de3c449ae4428e24c2e03f72", func := "ziggurat/zigguratlaw12.MulGreat", spec := "mulGreat", inPlace := ["math/bits.Add64", "math/bits.Sub64"], unfollowed := true, recurses := true, named := ["math/bits.divideError", "math/bits.overflowError", "math/bits.deBruijn64tab"], apart := false, laid := [("math/bits.deBruijn64tab", laid_math_bits_deBruijn64tab)], narrowed := true }
def MulGreatUptoSaid : Prop := mulGreatUptoRow.holds Tryz.pinned (OpenSpec.upto mulGreatSpec)

end Rows
end Go.Proofs.YtldkiddoajlohaaGreatDoor
