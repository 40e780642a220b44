/-
  NARROWER THAN 'FOR EVERY INPUT', by the rows' own cells (each row's printed sentence says how): MulTables: laid · PmulNews: laid · PmulTables: laid · PmulGreat: laid · PmulWays: laid · PmulAlls: laid · PmulSquares: laid · PdivMods: laid · PdivSeries: laid · PdivTables: laid · PdivBack: laid · PdivPowers: laid.
  DERIVED. THE GIVEN ROWS OF THIS SEAT. 12 by the template 'for every input the law returns true; each argument reads behind the call as it read before'; 0 by the template 'total and deterministic' (their statements: YtimmpojeddcfnaaGreatDoorTotals.lean).
  GIVEN WITH THE SEED: the statements are not yours to turn. If you find one false, say at which input.
  Laid BY PROGRAM, IN A SANDBOX (cutbox-rows.mjs): the forced cells as the released guide's own fill.sh prints them over the translation fac41d754e25af8d… (all of the seat's roots in one cut). By AI agents, Wed Nov 11 2026. No macro, syntax, notation, axiom, sorry.
-/
import Derived.Test.YtimmpojeddcfnaaGreatDoorChecked
import GoSem.Claim
import GoSem.ClaimJoined
import GoSem.ClaimMapViews
import Derived.JoinedTies
import Derived.KernelRfl
namespace Go.Proofs.YtimmpojeddcfnaaGreatDoor
/- THE CELL 'sum', in the pinned program and in every row, IS THE sha256 OF THE DUMP (.gsa) THAT YtimmpojeddcfnaaGreatDoorProg.lean LOADS. Nothing in Lean hashes anything: it is a label: what it is worth is what the hold of that sum in a sandbox is worth. -/
noncomputable def Tryz.pinned : Pinned := { name := "ytimmpojeddcfnaagreatdoor", sum := "fac41d754e25af8da2b0ced7c0f938db200a9f07af57beed23ed751af494e757", checked := Tryz.checked }
namespace Rows
def none {H : Type} : Left H := { results := [], args := [] }

/- WHAT THE LISTED PACKAGE-LEVEL VARIABLES READ AS WHEN THE CALL BEGINS. Each datum BY PROGRAM (the guide's laid-datum.mjs) off the statement by which the dump's own 'gosem.cut.vars' lays the variable. In a bare row this is a premise. The card (YtimmpojeddcfnaaGreatDoorCards.lean) ties it to the program's text. -/
def laid_math_bits_deBruijn64tab {H : Type} : DataW H := .agg [.lit (.int .u8 0), .lit (.int .u8 1), .lit (.int .u8 56), .lit (.int .u8 2), .lit (.int .u8 57), .lit (.int .u8 49), .lit (.int .u8 28), .lit (.int .u8 3), .lit (.int .u8 61), .lit (.int .u8 58), .lit (.int .u8 42), .lit (.int .u8 50), .lit (.int .u8 38), .lit (.int .u8 29), .lit (.int .u8 17), .lit (.int .u8 4), .lit (.int .u8 62), .lit (.int .u8 47), .lit (.int .u8 59), .lit (.int .u8 36), .lit (.int .u8 45), .lit (.int .u8 43), .lit (.int .u8 51), .lit (.int .u8 22), .lit (.int .u8 53), .lit (.int .u8 39), .lit (.int .u8 33), .lit (.int .u8 30), .lit (.int .u8 24), .lit (.int .u8 18), .lit (.int .u8 12), .lit (.int .u8 5), .lit (.int .u8 63), .lit (.int .u8 55), .lit (.int .u8 48), .lit (.int .u8 27), .lit (.int .u8 60), .lit (.int .u8 41), .lit (.int .u8 37), .lit (.int .u8 16), .lit (.int .u8 46), .lit (.int .u8 35), .lit (.int .u8 44), .lit (.int .u8 21), .lit (.int .u8 52), .lit (.int .u8 32), .lit (.int .u8 23), .lit (.int .u8 11), .lit (.int .u8 54), .lit (.int .u8 26), .lit (.int .u8 40), .lit (.int .u8 15), .lit (.int .u8 34), .lit (.int .u8 20), .lit (.int .u8 31), .lit (.int .u8 10), .lit (.int .u8 25), .lit (.int .u8 14), .lit (.int .u8 19), .lit (.int .u8 9), .lit (.int .u8 13), .lit (.int .u8 8), .lit (.int .u8 7), .lit (.int .u8 6)]

/-- 'zigguratlaw12.MulTables': WHATEVER THE INPUT: true; the input reads as it did. -/
def mulTablesSpec : ChangeSpec := { name := "mulTables", fn := fun _ => fun
  | [d1, d2, d3, d4] => { results := [.lit (.bool true)], args := [d1, d2, d3, d4] }
  | _ => none }
def mulTablesRow : OpenClaim := { program := "ytimmpojeddcfnaagreatdoor", sum := "fac41d754e25af8da2b0ced7c0f938db200a9f07af57beed23ed751af494e757", func := "ziggurat/zigguratlaw12.MulTables", spec := "mulTables", inPlace := ["math/bits.Add64", "math/bits.Sub64"], unfollowed := true, recurses := true, named := ["math/bits.divideError", "math/bits.overflowError", "math/bits.deBruijn64tab"], apart := false, laid := [("math/bits.deBruijn64tab", laid_math_bits_deBruijn64tab)] }
def MulTablesSaid : Prop := mulTablesRow.holds Tryz.pinned (OpenSpec.ofChange mulTablesSpec)

/-- ITS FALSE NEIGHBOUR: 'it returns false'. Refute it at one input. -/
def mulTablesWrong : ChangeSpec := { name := "mulTables", fn := fun _ => fun
  | [d1, d2, d3, d4] => { results := [.lit (.bool false)], args := [d1, d2, d3, d4] }
  | _ => none }
def MulTablesWrongFalsely : Prop := mulTablesRow.holds Tryz.pinned (OpenSpec.ofChange mulTablesWrong)

/-- 'zigguratlaw24.PmulNews': WHATEVER THE INPUT: true; the input reads as it did. -/
def pmulNewsSpec : ChangeSpec := { name := "pmulNews", fn := fun _ => fun
  | [d1, d2] => { results := [.lit (.bool true)], args := [d1, d2] }
  | _ => none }
def pmulNewsRow : OpenClaim := { program := "ytimmpojeddcfnaagreatdoor", sum := "fac41d754e25af8da2b0ced7c0f938db200a9f07af57beed23ed751af494e757", func := "ziggurat/zigguratlaw24.PmulNews", spec := "pmulNews", inPlace := ["math/bits.Add64", "math/bits.Sub64"], unfollowed := true, recurses := true, named := ["math/bits.deBruijn64tab", "math/bits.divideError", "math/bits.overflowError"], apart := false, laid := [("math/bits.deBruijn64tab", laid_math_bits_deBruijn64tab)] }
def PmulNewsSaid : Prop := pmulNewsRow.holds Tryz.pinned (OpenSpec.ofChange pmulNewsSpec)

/-- ITS FALSE NEIGHBOUR: 'it returns false'. Refute it at one input. -/
def pmulNewsWrong : ChangeSpec := { name := "pmulNews", fn := fun _ => fun
  | [d1, d2] => { results := [.lit (.bool false)], args := [d1, d2] }
  | _ => none }
def PmulNewsWrongFalsely : Prop := pmulNewsRow.holds Tryz.pinned (OpenSpec.ofChange pmulNewsWrong)

/-- 'zigguratlaw24.PmulTables': WHATEVER THE INPUT: true; the input reads as it did. -/
def pmulTablesSpec : ChangeSpec := { name := "pmulTables", fn := fun _ => fun
  | [d1, d2, d3, d4, d5] => { results := [.lit (.bool true)], args := [d1, d2, d3, d4, d5] }
  | _ => none }
def pmulTablesRow : OpenClaim := { program := "ytimmpojeddcfnaagreatdoor", sum := "fac41d754e25af8da2b0ced7c0f938db200a9f07af57beed23ed751af494e757", func := "ziggurat/zigguratlaw24.PmulTables", spec := "pmulTables", inPlace := ["math/bits.Add64", "math/bits.Sub64"], unfollowed := true, recurses := true, named := ["math/bits.deBruijn64tab", "math/bits.divideError", "math/bits.overflowError"], apart := false, laid := [("math/bits.deBruijn64tab", laid_math_bits_deBruijn64tab)] }
def PmulTablesSaid : Prop := pmulTablesRow.holds Tryz.pinned (OpenSpec.ofChange pmulTablesSpec)

/-- ITS FALSE NEIGHBOUR: 'it returns false'. Refute it at one input. -/
def pmulTablesWrong : ChangeSpec := { name := "pmulTables", fn := fun _ => fun
  | [d1, d2, d3, d4, d5] => { results := [.lit (.bool false)], args := [d1, d2, d3, d4, d5] }
  | _ => none }
def PmulTablesWrongFalsely : Prop := pmulTablesRow.holds Tryz.pinned (OpenSpec.ofChange pmulTablesWrong)

/-- 'zigguratlaw24.PmulGreat': WHATEVER THE INPUT: true; the input reads as it did. -/
def pmulGreatSpec : ChangeSpec := { name := "pmulGreat", fn := fun _ => fun
  | [d1, d2, d3, d4] => { results := [.lit (.bool true)], args := [d1, d2, d3, d4] }
  | _ => none }
def pmulGreatRow : OpenClaim := { program := "ytimmpojeddcfnaagreatdoor", sum := "fac41d754e25af8da2b0ced7c0f938db200a9f07af57beed23ed751af494e757", func := "ziggurat/zigguratlaw24.PmulGreat", spec := "pmulGreat", inPlace := ["math/bits.Add64", "math/bits.Sub64"], unfollowed := true, recurses := true, named := ["math/bits.deBruijn64tab", "math/bits.divideError", "math/bits.overflowError"], apart := false, laid := [("math/bits.deBruijn64tab", laid_math_bits_deBruijn64tab)] }
def PmulGreatSaid : Prop := pmulGreatRow.holds Tryz.pinned (OpenSpec.ofChange pmulGreatSpec)

/-- ITS FALSE NEIGHBOUR: 'it returns false'. Refute it at one input. -/
def pmulGreatWrong : ChangeSpec := { name := "pmulGreat", fn := fun _ => fun
  | [d1, d2, d3, d4] => { results := [.lit (.bool false)], args := [d1, d2, d3, d4] }
  | _ => none }
def PmulGreatWrongFalsely : Prop := pmulGreatRow.holds Tryz.pinned (OpenSpec.ofChange pmulGreatWrong)

/-- 'zigguratlaw24.PmulWays': WHATEVER THE INPUT: true; the input reads as it did. -/
def pmulWaysSpec : ChangeSpec := { name := "pmulWays", fn := fun _ => fun
  | [d1, d2, d3, d4] => { results := [.lit (.bool true)], args := [d1, d2, d3, d4] }
  | _ => none }
def pmulWaysRow : OpenClaim := { program := "ytimmpojeddcfnaagreatdoor", sum := "fac41d754e25af8da2b0ced7c0f938db200a9f07af57beed23ed751af494e757", func := "ziggurat/zigguratlaw24.PmulWays", spec := "pmulWays", inPlace := ["math/bits.Add64", "math/bits.Sub64"], unfollowed := true, recurses := true, named := ["math/bits.deBruijn64tab", "math/bits.divideError", "math/bits.overflowError"], apart := false, laid := [("math/bits.deBruijn64tab", laid_math_bits_deBruijn64tab)] }
def PmulWaysSaid : Prop := pmulWaysRow.holds Tryz.pinned (OpenSpec.ofChange pmulWaysSpec)

/-- ITS FALSE NEIGHBOUR: 'it returns false'. Refute it at one input. -/
def pmulWaysWrong : ChangeSpec := { name := "pmulWays", fn := fun _ => fun
  | [d1, d2, d3, d4] => { results := [.lit (.bool false)], args := [d1, d2, d3, d4] }
  | _ => none }
def PmulWaysWrongFalsely : Prop := pmulWaysRow.holds Tryz.pinned (OpenSpec.ofChange pmulWaysWrong)

/-- 'zigguratlaw24.PmulAlls': WHATEVER THE INPUT: true; the input reads as it did. -/
def pmulAllsSpec : ChangeSpec := { name := "pmulAlls", fn := fun _ => fun
  | [d1, d2, d3] => { results := [.lit (.bool true)], args := [d1, d2, d3] }
  | _ => none }
def pmulAllsRow : OpenClaim := { program := "ytimmpojeddcfnaagreatdoor", sum := "fac41d754e25af8da2b0ced7c0f938db200a9f07af57beed23ed751af494e757", func := "ziggurat/zigguratlaw24.PmulAlls", spec := "pmulAlls", inPlace := ["math/bits.Add64", "math/bits.Sub64"], unfollowed := true, recurses := true, named := ["math/bits.deBruijn64tab", "math/bits.divideError", "math/bits.overflowError"], apart := false, laid := [("math/bits.deBruijn64tab", laid_math_bits_deBruijn64tab)] }
def PmulAllsSaid : Prop := pmulAllsRow.holds Tryz.pinned (OpenSpec.ofChange pmulAllsSpec)

/-- ITS FALSE NEIGHBOUR: 'it returns false'. Refute it at one input. -/
def pmulAllsWrong : ChangeSpec := { name := "pmulAlls", fn := fun _ => fun
  | [d1, d2, d3] => { results := [.lit (.bool false)], args := [d1, d2, d3] }
  | _ => none }
def PmulAllsWrongFalsely : Prop := pmulAllsRow.holds Tryz.pinned (OpenSpec.ofChange pmulAllsWrong)

/-- 'zigguratlaw24.PmulSquares': WHATEVER THE INPUT: true; the input reads as it did. -/
def pmulSquaresSpec : ChangeSpec := { name := "pmulSquares", fn := fun _ => fun
  | [d1, d2, d3, d4] => { results := [.lit (.bool true)], args := [d1, d2, d3, d4] }
  | _ => none }
def pmulSquaresRow : OpenClaim := { program := "ytimmpojeddcfnaagreatdoor", sum := "fac41d754e25af8da2b0ced7c0f938db200a9f07af57beed23ed751af494e757", func := "ziggurat/zigguratlaw24.PmulSquares", spec := "pmulSquares", inPlace := ["math/bits.Add64", "math/bits.Sub64"], unfollowed := true, recurses := true, named := ["math/bits.deBruijn64tab", "math/bits.divideError", "math/bits.overflowError"], apart := false, laid := [("math/bits.deBruijn64tab", laid_math_bits_deBruijn64tab)] }
def PmulSquaresSaid : Prop := pmulSquaresRow.holds Tryz.pinned (OpenSpec.ofChange pmulSquaresSpec)

/-- ITS FALSE NEIGHBOUR: 'it returns false'. Refute it at one input. -/
def pmulSquaresWrong : ChangeSpec := { name := "pmulSquares", fn := fun _ => fun
  | [d1, d2, d3, d4] => { results := [.lit (.bool false)], args := [d1, d2, d3, d4] }
  | _ => none }
def PmulSquaresWrongFalsely : Prop := pmulSquaresRow.holds Tryz.pinned (OpenSpec.ofChange pmulSquaresWrong)

/-- 'zigguratlaw25.PdivMods': WHATEVER THE INPUT: true; the input reads as it did. -/
def pdivModsSpec : ChangeSpec := { name := "pdivMods", fn := fun _ => fun
  | [d1, d2, d3, d4] => { results := [.lit (.bool true)], args := [d1, d2, d3, d4] }
  | _ => none }
def pdivModsRow : OpenClaim := { program := "ytimmpojeddcfnaagreatdoor", sum := "fac41d754e25af8da2b0ced7c0f938db200a9f07af57beed23ed751af494e757", func := "ziggurat/zigguratlaw25.PdivMods", spec := "pdivMods", inPlace := ["math/bits.Add64", "math/bits.Sub64"], unfollowed := true, recurses := true, named := ["math/bits.deBruijn64tab", "math/bits.divideError", "math/bits.overflowError"], apart := false, laid := [("math/bits.deBruijn64tab", laid_math_bits_deBruijn64tab)] }
def PdivModsSaid : Prop := pdivModsRow.holds Tryz.pinned (OpenSpec.ofChange pdivModsSpec)

/-- ITS FALSE NEIGHBOUR: 'it returns false'. Refute it at one input. -/
def pdivModsWrong : ChangeSpec := { name := "pdivMods", fn := fun _ => fun
  | [d1, d2, d3, d4] => { results := [.lit (.bool false)], args := [d1, d2, d3, d4] }
  | _ => none }
def PdivModsWrongFalsely : Prop := pdivModsRow.holds Tryz.pinned (OpenSpec.ofChange pdivModsWrong)

/-- 'zigguratlaw25.PdivSeries': WHATEVER THE INPUT: true; the input reads as it did. -/
def pdivSeriesSpec : ChangeSpec := { name := "pdivSeries", fn := fun _ => fun
  | [d1, d2, d3, d4] => { results := [.lit (.bool true)], args := [d1, d2, d3, d4] }
  | _ => none }
def pdivSeriesRow : OpenClaim := { program := "ytimmpojeddcfnaagreatdoor", sum := "fac41d754e25af8da2b0ced7c0f938db200a9f07af57beed23ed751af494e757", func := "ziggurat/zigguratlaw25.PdivSeries", spec := "pdivSeries", inPlace := ["math/bits.Add64", "math/bits.Sub64"], unfollowed := true, recurses := true, named := ["math/bits.deBruijn64tab", "math/bits.divideError", "math/bits.overflowError"], apart := false, laid := [("math/bits.deBruijn64tab", laid_math_bits_deBruijn64tab)] }
def PdivSeriesSaid : Prop := pdivSeriesRow.holds Tryz.pinned (OpenSpec.ofChange pdivSeriesSpec)

/-- ITS FALSE NEIGHBOUR: 'it returns false'. Refute it at one input. -/
def pdivSeriesWrong : ChangeSpec := { name := "pdivSeries", fn := fun _ => fun
  | [d1, d2, d3, d4] => { results := [.lit (.bool false)], args := [d1, d2, d3, d4] }
  | _ => none }
def PdivSeriesWrongFalsely : Prop := pdivSeriesRow.holds Tryz.pinned (OpenSpec.ofChange pdivSeriesWrong)

/-- 'zigguratlaw25.PdivTables': WHATEVER THE INPUT: true; the input reads as it did. -/
def pdivTablesSpec : ChangeSpec := { name := "pdivTables", fn := fun _ => fun
  | [d1, d2, d3, d4, d5, d6] => { results := [.lit (.bool true)], args := [d1, d2, d3, d4, d5, d6] }
  | _ => none }
def pdivTablesRow : OpenClaim := { program := "ytimmpojeddcfnaagreatdoor", sum := "fac41d754e25af8da2b0ced7c0f938db200a9f07af57beed23ed751af494e757", func := "ziggurat/zigguratlaw25.PdivTables", spec := "pdivTables", inPlace := ["math/bits.Add64", "math/bits.Sub64"], unfollowed := true, recurses := true, named := ["math/bits.deBruijn64tab", "math/bits.divideError", "math/bits.overflowError"], apart := false, laid := [("math/bits.deBruijn64tab", laid_math_bits_deBruijn64tab)] }
def PdivTablesSaid : Prop := pdivTablesRow.holds Tryz.pinned (OpenSpec.ofChange pdivTablesSpec)

/-- ITS FALSE NEIGHBOUR: 'it returns false'. Refute it at one input. -/
def pdivTablesWrong : ChangeSpec := { name := "pdivTables", fn := fun _ => fun
  | [d1, d2, d3, d4, d5, d6] => { results := [.lit (.bool false)], args := [d1, d2, d3, d4, d5, d6] }
  | _ => none }
def PdivTablesWrongFalsely : Prop := pdivTablesRow.holds Tryz.pinned (OpenSpec.ofChange pdivTablesWrong)

/-- 'zigguratlaw25.PdivBack': WHATEVER THE INPUT: true; the input reads as it did. -/
def pdivBackSpec : ChangeSpec := { name := "pdivBack", fn := fun _ => fun
  | [d1, d2, d3, d4, d5] => { results := [.lit (.bool true)], args := [d1, d2, d3, d4, d5] }
  | _ => none }
def pdivBackRow : OpenClaim := { program := "ytimmpojeddcfnaagreatdoor", sum := "fac41d754e25af8da2b0ced7c0f938db200a9f07af57beed23ed751af494e757", func := "ziggurat/zigguratlaw25.PdivBack", spec := "pdivBack", inPlace := ["math/bits.Add64", "math/bits.Sub64"], unfollowed := true, recurses := true, named := ["math/bits.deBruijn64tab", "math/bits.divideError", "math/bits.overflowError"], apart := false, laid := [("math/bits.deBruijn64tab", laid_math_bits_deBruijn64tab)] }
def PdivBackSaid : Prop := pdivBackRow.holds Tryz.pinned (OpenSpec.ofChange pdivBackSpec)

/-- ITS FALSE NEIGHBOUR: 'it returns false'. Refute it at one input. -/
def pdivBackWrong : ChangeSpec := { name := "pdivBack", fn := fun _ => fun
  | [d1, d2, d3, d4, d5] => { results := [.lit (.bool false)], args := [d1, d2, d3, d4, d5] }
  | _ => none }
def PdivBackWrongFalsely : Prop := pdivBackRow.holds Tryz.pinned (OpenSpec.ofChange pdivBackWrong)

/-- 'zigguratlaw25.PdivPowers': WHATEVER THE INPUT: true; the input reads as it did. -/
def pdivPowersSpec : ChangeSpec := { name := "pdivPowers", fn := fun _ => fun
  | [d1, d2, d3, d4, d5] => { results := [.lit (.bool true)], args := [d1, d2, d3, d4, d5] }
  | _ => none }
def pdivPowersRow : OpenClaim := { program := "ytimmpojeddcfnaagreatdoor", sum := "fac41d754e25af8da2b0ced7c0f938db200a9f07af57beed23ed751af494e757", func := "ziggurat/zigguratlaw25.PdivPowers", spec := "pdivPowers", inPlace := ["math/bits.Add64", "math/bits.Sub64"], unfollowed := true, recurses := true, named := ["math/bits.deBruijn64tab", "math/bits.divideError", "math/bits.overflowError"], apart := false, laid := [("math/bits.deBruijn64tab", laid_math_bits_deBruijn64tab)] }
def PdivPowersSaid : Prop := pdivPowersRow.holds Tryz.pinned (OpenSpec.ofChange pdivPowersSpec)

/-- ITS FALSE NEIGHBOUR: 'it returns false'. Refute it at one input. -/
def pdivPowersWrong : ChangeSpec := { name := "pdivPowers", fn := fun _ => fun
  | [d1, d2, d3, d4, d5] => { results := [.lit (.bool false)], args := [d1, d2, d3, d4, d5] }
  | _ => none }
def PdivPowersWrongFalsely : Prop := pdivPowersRow.holds Tryz.pinned (OpenSpec.ofChange pdivPowersWrong)

/- THE SECOND FORM. 'bulk': how many values and letters a reading holds, each counted each time it is reached (what is shared counts as often as it is met; a slice's spare places count too). A statement '..UptoSaid' is the law's where the arguments, and the package variables that the reading takes, are together of bulk at most 1048576: NARROWER than '..Said'. Prove '..Said' where nothing that the law and all that it calls make is longer than what came in: it says more and counts as full. Else prove '..UptoSaid'. A law counts once. -/
mutual
def uptoBulk {H : Type} : DataW H → Nat
  | .lit (.string bytes) => bytes.length + 1
  | .lit _ => 1
  | .nil => 1
  | .ptr d => uptoBulk d + 1
  | .slice elems spare => uptoBulkAll elems + uptoBulkAll spare + 1
  | .agg parts => uptoBulkAll parts + 1
  | .iface _ d => uptoBulk d + 1
  | .map entries => uptoBulkEntries entries + 1
  | .held _ => 1
def uptoBulkAll {H : Type} : List (DataW H) → Nat
  | [] => 0
  | d :: r => uptoBulk d + uptoBulkAll r
def uptoBulkEntries {H : Type} : List (Lit × DataW H) → Nat
  | [] => 0
  | x :: r => uptoBulkEntry x + uptoBulkEntries r
def uptoBulkEntry {H : Type} : Lit × DataW H → Nat
  | (.string bytes, d) => bytes.length + uptoBulk d + 1
  | (_, d) => uptoBulk d + 1
 end
def uptoSmall : (H : Type) → List (DataW H) → Bool := fun _ ds => decide (uptoBulkAll ds ≤ 1048576)
def OpenSpec.upto (s : _root_.Go.ChangeSpec) : _root_.Go.OpenSpec := { _root_.Go.OpenSpec.ofChange s with cond := some uptoSmall }

/-- 'zigguratlaw12.MulTables', WHERE WHAT IT READS IS OF BULK AT MOST 1048576: true; the input reads as it did. -/
def mulTablesUptoRow : OpenClaim := { program := "ytimmpojeddcfnaagreatdoor", sum := "fac41d754e25af8da2b0ced7c0f938db200a9f07af57beed23ed751af494e757", func := "ziggurat/zigguratlaw12.MulTables", spec := "mulTables", inPlace := ["math/bits.Add64", "math/bits.Sub64"], unfollowed := true, recurses := true, named := ["math/bits.divideError", "math/bits.overflowError", "math/bits.deBruijn64tab"], apart := false, laid := [("math/bits.deBruijn64tab", laid_math_bits_deBruijn64tab)], narrowed := true }
def MulTablesUptoSaid : Prop := mulTablesUptoRow.holds Tryz.pinned (OpenSpec.upto mulTablesSpec)

/-- 'zigguratlaw24.PmulNews', WHERE WHAT IT READS IS OF BULK AT MOST 1048576: true; the input reads as it did. -/
def pmulNewsUptoRow : OpenClaim := { program := "ytimmpojeddcfnaagreatdoor", sum := "fac41d754e25af8da2b0ced7c0f938db200a9f07af57beed23ed751af494e757", func := "ziggurat/zigguratlaw24.PmulNews", spec := "pmulNews", inPlace := ["math/bits.Add64", "math/bits.Sub64"], unfollowed := true, recurses := true, named := ["math/bits.deBruijn64tab", "math/bits.divideError", "math/bits.overflowError"], apart := false, laid := [("math/bits.deBruijn64tab", laid_math_bits_deBruijn64tab)], narrowed := true }
def PmulNewsUptoSaid : Prop := pmulNewsUptoRow.holds Tryz.pinned (OpenSpec.upto pmulNewsSpec)

/-- 'zigguratlaw24.PmulTables', WHERE WHAT IT READS IS OF BULK AT MOST 1048576: true; the input reads as it did. -/
def pmulTablesUptoRow : OpenClaim := { program := "ytimmpojeddcfnaagreatdoor", sum := "fac41d754e25af8da2b0ced7c0f938db200a9f07af57beed23ed751af494e757", func := "ziggurat/zigguratlaw24.PmulTables", spec := "pmulTables", inPlace := ["math/bits.Add64", "math/bits.Sub64"], unfollowed := true, recurses := true, named := ["math/bits.deBruijn64tab", "math/bits.divideError", "math/bits.overflowError"], apart := false, laid := [("math/bits.deBruijn64tab", laid_math_bits_deBruijn64tab)], narrowed := true }
def PmulTablesUptoSaid : Prop := pmulTablesUptoRow.holds Tryz.pinned (OpenSpec.upto pmulTablesSpec)

/-- 'zigguratlaw24.PmulGreat', WHERE WHAT IT READS IS OF BULK AT MOST 1048576: true; the input reads as it did. -/
def pmulGreatUptoRow : OpenClaim := { program := "ytimmpojeddcfnaagreatdoor", sum := "fac41d754e25af8da2b0ced7c0f938db200a9f07af57beed23ed751af494e757", func := "ziggurat/zigguratlaw24.PmulGreat", spec := "pmulGreat", inPlace := ["math/bits.Add64", "math/bits.Sub64"], unfollowed := true, recurses := true, named := ["math/bits.deBruijn64tab", "math/bits.divideError", "math/bits.overflowError"], apart := false, laid := [("math/bits.deBruijn64tab", laid_math_bits_deBruijn64tab)], narrowed := true }
def PmulGreatUptoSaid : Prop := pmulGreatUptoRow.holds Tryz.pinned (OpenSpec.upto pmulGreatSpec)

/-- 'zigguratlaw24.PmulWays', WHERE WHAT IT READS IS OF BULK AT MOST 1048576: true; the input reads as it did. -/
def pmulWaysUptoRow : OpenClaim := { program := "ytimmpojeddcfnaagreatdoor", sum := "fac41d754e25af8da2b0ced7c0f938db200a9f07af57beed23ed751af494e757", func := "ziggurat/zigguratlaw24.PmulWays", spec := "pmulWays", inPlace := ["math/bits.Add64", "math/bits.Sub64"], unfollowed := true, recurses := true, named := ["math/bits.deBruijn64tab", "math/bits.divideError", "math/bits.overflowError"], apart := false, laid := [("math/bits.deBruijn64tab", laid_math_bits_deBruijn64tab)], narrowed := true }
def PmulWaysUptoSaid : Prop := pmulWaysUptoRow.holds Tryz.pinned (OpenSpec.upto pmulWaysSpec)

/-- 'zigguratlaw24.PmulAlls', WHERE WHAT IT READS IS OF BULK AT MOST 1048576: true; the input reads as it did. -/
def pmulAllsUptoRow : OpenClaim := { program := "ytimmpojeddcfnaagreatdoor", sum := "fac41d754e25af8da2b0ced7c0f938db200a9f07af57beed23ed751af494e757", func := "ziggurat/zigguratlaw24.PmulAlls", spec := "pmulAlls", inPlace := ["math/bits.Add64", "math/bits.Sub64"], unfollowed := true, recurses := true, named := ["math/bits.deBruijn64tab", "math/bits.divideError", "math/bits.overflowError"], apart := false, laid := [("math/bits.deBruijn64tab", laid_math_bits_deBruijn64tab)], narrowed := true }
def PmulAllsUptoSaid : Prop := pmulAllsUptoRow.holds Tryz.pinned (OpenSpec.upto pmulAllsSpec)

/-- 'zigguratlaw24.PmulSquares', WHERE WHAT IT READS IS OF BULK AT MOST 1048576: true; the input reads as it did. -/
def pmulSquaresUptoRow : OpenClaim := { program := "ytimmpojeddcfnaagreatdoor", sum := "fac41d754e25af8da2b0ced7c0f938db200a9f07af57beed23ed751af494e757", func := "ziggurat/zigguratlaw24.PmulSquares", spec := "pmulSquares", inPlace := ["math/bits.Add64", "math/bits.Sub64"], unfollowed := true, recurses := true, named := ["math/bits.deBruijn64tab", "math/bits.divideError", "math/bits.overflowError"], apart := false, laid := [("math/bits.deBruijn64tab", laid_math_bits_deBruijn64tab)], narrowed := true }
def PmulSquaresUptoSaid : Prop := pmulSquaresUptoRow.holds Tryz.pinned (OpenSpec.upto pmulSquaresSpec)

/-- 'zigguratlaw25.PdivMods', WHERE WHAT IT READS IS OF BULK AT MOST 1048576: true; the input reads as it did. -/
def pdivModsUptoRow : OpenClaim := { program := "ytimmpojeddcfnaagreatdoor", sum := "fac41d754e25af8da2b0ced7c0f938db200a9f07af57beed23ed751af494e757", func := "ziggurat/zigguratlaw25.PdivMods", spec := "pdivMods", inPlace := ["math/bits.Add64", "math/bits.Sub64"], unfollowed := true, recurses := true, named := ["math/bits.deBruijn64tab", "math/bits.divideError", "math/bits.overflowError"], apart := false, laid := [("math/bits.deBruijn64tab", laid_math_bits_deBruijn64tab)], narrowed := true }
def PdivModsUptoSaid : Prop := pdivModsUptoRow.holds Tryz.pinned (OpenSpec.upto pdivModsSpec)

/-- 'zigguratlaw25.PdivSeries', WHERE WHAT IT READS IS OF BULK AT MOST 1048576: true; the input reads as it did. -/
def pdivSeriesUptoRow : OpenClaim := { program := "ytimmpojeddcfnaagreatdoor", sum := "fac41d754e25af8da2b0ced7c0f938db200a9f07af57beed23ed751af494e757", func := "ziggurat/zigguratlaw25.PdivSeries", spec := "pdivSeries", inPlace := ["math/bits.Add64", "math/bits.Sub64"], unfollowed := true, recurses := true, named := ["math/bits.deBruijn64tab", "math/bits.divideError", "math/bits.overflowError"], apart := false, laid := [("math/bits.deBruijn64tab", laid_math_bits_deBruijn64tab)], narrowed := true }
def PdivSeriesUptoSaid : Prop := pdivSeriesUptoRow.holds Tryz.pinned (OpenSpec.upto pdivSeriesSpec)

/-- 'zigguratlaw25.PdivTables', WHERE WHAT IT READS IS OF BULK AT MOST 1048576: true; the input reads as it did. -/
def pdivTablesUptoRow : OpenClaim := { program := "ytimmpojeddcfnaagreatdoor", sum := "fac41d754e25af8da2b0ced7c0f938db200a9f07af57beed23ed751af494e757", func := "ziggurat/zigguratlaw25.PdivTables", spec := "pdivTables", inPlace := ["math/bits.Add64", "math/bits.Sub64"], unfollowed := true, recurses := true, named := ["math/bits.deBruijn64tab", "math/bits.divideError", "math/bits.overflowError"], apart := false, laid := [("math/bits.deBruijn64tab", laid_math_bits_deBruijn64tab)], narrowed := true }
def PdivTablesUptoSaid : Prop := pdivTablesUptoRow.holds Tryz.pinned (OpenSpec.upto pdivTablesSpec)

/-- 'zigguratlaw25.PdivBack', WHERE WHAT IT READS IS OF BULK AT MOST 1048576: true; the input reads as it did. -/
def pdivBackUptoRow : OpenClaim := { program := "ytimmpojeddcfnaagreatdoor", sum := "fac41d754e25af8da2b0ced7c0f938db200a9f07af57beed23ed751af494e757", func := "ziggurat/zigguratlaw25.PdivBack", spec := "pdivBack", inPlace := ["math/bits.Add64", "math/bits.Sub64"], unfollowed := true, recurses := true, named := ["math/bits.deBruijn64tab", "math/bits.divideError", "math/bits.overflowError"], apart := false, laid := [("math/bits.deBruijn64tab", laid_math_bits_deBruijn64tab)], narrowed := true }
def PdivBackUptoSaid : Prop := pdivBackUptoRow.holds Tryz.pinned (OpenSpec.upto pdivBackSpec)

/-- 'zigguratlaw25.PdivPowers', WHERE WHAT IT READS IS OF BULK AT MOST 1048576: true; the input reads as it did. -/
def pdivPowersUptoRow : OpenClaim := { program := "ytimmpojeddcfnaagreatdoor", sum := "fac41d754e25af8da2b0ced7c0f938db200a9f07af57beed23ed751af494e757", func := "ziggurat/zigguratlaw25.PdivPowers", spec := "pdivPowers", inPlace := ["math/bits.Add64", "math/bits.Sub64"], unfollowed := true, recurses := true, named := ["math/bits.deBruijn64tab", "math/bits.divideError", "math/bits.overflowError"], apart := false, laid := [("math/bits.deBruijn64tab", laid_math_bits_deBruijn64tab)], narrowed := true }
def PdivPowersUptoSaid : Prop := pdivPowersUptoRow.holds Tryz.pinned (OpenSpec.upto pdivPowersSpec)

end Rows
end Go.Proofs.YtimmpojeddcfnaaGreatDoor
