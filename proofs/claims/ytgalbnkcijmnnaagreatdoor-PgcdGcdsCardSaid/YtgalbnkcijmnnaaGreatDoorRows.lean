/-
  NARROWER THAN 'FOR EVERY INPUT', by the rows' own cells (each row's printed sentence says how): PdivRems: laid · PgcdGcds: laid · PgcdSteps: laid · PgcdXgcds: laid · PgcdBack: laid · PgcdInverses: laid · PgcdTables: laid · PtreeTrees: laid · PtreeEvals: laid · PtreeInterpolates: laid · PtreeBack: laid · PtreeComposes: laid.
  DERIVED. THE GIVEN ROWS OF THIS SEAT. 12 by the template 'for every input the law returns true; each argument reads behind the call as it read before'; 0 by the template 'total and deterministic' (their statements: YtgalbnkcijmnnaaGreatDoorTotals.lean).
  GIVEN WITH THE SEED: the statements are not yours to turn. If you find one false, say at which input.
  Laid BY PROGRAM, IN A SANDBOX (cutbox-rows.mjs): the forced cells as the released guide's own fill.sh prints them over the translation 510545d96363a973… (all of the seat's roots in one cut). By AI agents, Wed Nov 11 2026. No macro, syntax, notation, axiom, sorry.
-/
import Derived.Test.YtgalbnkcijmnnaaGreatDoorChecked
import GoSem.Claim
import GoSem.ClaimJoined
import GoSem.ClaimMapViews
import Derived.JoinedTies
import Derived.KernelRfl
namespace Go.Proofs.YtgalbnkcijmnnaaGreatDoor
/- THE CELL 'sum', in the pinned program and in every row, IS THE sha256 OF THE DUMP (.gsa) THAT YtgalbnkcijmnnaaGreatDoorProg.lean LOADS. Nothing in Lean hashes anything: it is a label: what it is worth is what the hold of that sum in a sandbox is worth. -/
noncomputable def Tryz.pinned : Pinned := { name := "ytgalbnkcijmnnaagreatdoor", sum := "510545d96363a973d95bed4f449d6a201eb094e5eb8f06ffade058d49a40e139", checked := Tryz.checked }
namespace Rows
def none {H : Type} : Left H := { results := [], args := [] }

/- WHAT THE LISTED PACKAGE-LEVEL VARIABLES READ AS WHEN THE CALL BEGINS. Each datum BY PROGRAM (the guide's laid-datum.mjs) off the statement by which the dump's own 'gosem.cut.vars' lays the variable. In a bare row this is a premise. The card (YtgalbnkcijmnnaaGreatDoorCards.lean) ties it to the program's text. -/
def laid_math_bits_deBruijn64tab {H : Type} : DataW H := .agg [.lit (.int .u8 0), .lit (.int .u8 1), .lit (.int .u8 56), .lit (.int .u8 2), .lit (.int .u8 57), .lit (.int .u8 49), .lit (.int .u8 28), .lit (.int .u8 3), .lit (.int .u8 61), .lit (.int .u8 58), .lit (.int .u8 42), .lit (.int .u8 50), .lit (.int .u8 38), .lit (.int .u8 29), .lit (.int .u8 17), .lit (.int .u8 4), .lit (.int .u8 62), .lit (.int .u8 47), .lit (.int .u8 59), .lit (.int .u8 36), .lit (.int .u8 45), .lit (.int .u8 43), .lit (.int .u8 51), .lit (.int .u8 22), .lit (.int .u8 53), .lit (.int .u8 39), .lit (.int .u8 33), .lit (.int .u8 30), .lit (.int .u8 24), .lit (.int .u8 18), .lit (.int .u8 12), .lit (.int .u8 5), .lit (.int .u8 63), .lit (.int .u8 55), .lit (.int .u8 48), .lit (.int .u8 27), .lit (.int .u8 60), .lit (.int .u8 41), .lit (.int .u8 37), .lit (.int .u8 16), .lit (.int .u8 46), .lit (.int .u8 35), .lit (.int .u8 44), .lit (.int .u8 21), .lit (.int .u8 52), .lit (.int .u8 32), .lit (.int .u8 23), .lit (.int .u8 11), .lit (.int .u8 54), .lit (.int .u8 26), .lit (.int .u8 40), .lit (.int .u8 15), .lit (.int .u8 34), .lit (.int .u8 20), .lit (.int .u8 31), .lit (.int .u8 10), .lit (.int .u8 25), .lit (.int .u8 14), .lit (.int .u8 19), .lit (.int .u8 9), .lit (.int .u8 13), .lit (.int .u8 8), .lit (.int .u8 7), .lit (.int .u8 6)]

/-- 'zigguratlaw25.PdivRems': WHATEVER THE INPUT: true; the input reads as it did. -/
def pdivRemsSpec : ChangeSpec := { name := "pdivRems", fn := fun _ => fun
  | [d1, d2, d3, d4, d5, d6] => { results := [.lit (.bool true)], args := [d1, d2, d3, d4, d5, d6] }
  | _ => none }
def pdivRemsRow : OpenClaim := { program := "ytgalbnkcijmnnaagreatdoor", sum := "510545d96363a973d95bed4f449d6a201eb094e5eb8f06ffade058d49a40e139", func := "ziggurat/zigguratlaw25.PdivRems", spec := "pdivRems", inPlace := ["math/bits.Add64", "math/bits.Sub64"], unfollowed := true, recurses := true, named := ["math/bits.deBruijn64tab", "math/bits.divideError", "math/bits.overflowError"], apart := false, laid := [("math/bits.deBruijn64tab", laid_math_bits_deBruijn64tab)] }
def PdivRemsSaid : Prop := pdivRemsRow.holds Tryz.pinned (OpenSpec.ofChange pdivRemsSpec)

/-- ITS FALSE NEIGHBOUR: 'it returns false'. Refute it at one input. -/
def pdivRemsWrong : ChangeSpec := { name := "pdivRems", fn := fun _ => fun
  | [d1, d2, d3, d4, d5, d6] => { results := [.lit (.bool false)], args := [d1, d2, d3, d4, d5, d6] }
  | _ => none }
def PdivRemsWrongFalsely : Prop := pdivRemsRow.holds Tryz.pinned (OpenSpec.ofChange pdivRemsWrong)

/-- 'zigguratlaw26.PgcdGcds': WHATEVER THE INPUT: true; the input reads as it did. -/
def pgcdGcdsSpec : ChangeSpec := { name := "pgcdGcds", fn := fun _ => fun
  | [d1, d2, d3, d4, d5, d6] => { results := [.lit (.bool true)], args := [d1, d2, d3, d4, d5, d6] }
  | _ => none }
def pgcdGcdsRow : OpenClaim := { program := "ytgalbnkcijmnnaagreatdoor", sum := "510545d96363a973d95bed4f449d6a201eb094e5eb8f06ffade058d49a40e139", func := "ziggurat/zigguratlaw26.PgcdGcds", spec := "pgcdGcds", inPlace := ["math/bits.Add64", "math/bits.Sub64"], unfollowed := true, recurses := true, named := ["math/bits.deBruijn64tab", "math/bits.divideError", "math/bits.overflowError"], apart := false, laid := [("math/bits.deBruijn64tab", laid_math_bits_deBruijn64tab)] }
def PgcdGcdsSaid : Prop := pgcdGcdsRow.holds Tryz.pinned (OpenSpec.ofChange pgcdGcdsSpec)

/-- ITS FALSE NEIGHBOUR: 'it returns false'. Refute it at one input. -/
def pgcdGcdsWrong : ChangeSpec := { name := "pgcdGcds", fn := fun _ => fun
  | [d1, d2, d3, d4, d5, d6] => { results := [.lit (.bool false)], args := [d1, d2, d3, d4, d5, d6] }
  | _ => none }
def PgcdGcdsWrongFalsely : Prop := pgcdGcdsRow.holds Tryz.pinned (OpenSpec.ofChange pgcdGcdsWrong)

/-- 'zigguratlaw26.PgcdSteps': WHATEVER THE INPUT: true; the input reads as it did. -/
def pgcdStepsSpec : ChangeSpec := { name := "pgcdSteps", fn := fun _ => fun
  | [d1, d2, d3, d4, d5] => { results := [.lit (.bool true)], args := [d1, d2, d3, d4, d5] }
  | _ => none }
def pgcdStepsRow : OpenClaim := { program := "ytgalbnkcijmnnaagreatdoor", sum := "510545d96363a973d95bed4f449d6a201eb094e5eb8f06ffade058d49a40e139", func := "ziggurat/zigguratlaw26.PgcdSteps", spec := "pgcdSteps", inPlace := ["math/bits.Add64", "math/bits.Sub64"], unfollowed := true, recurses := true, named := ["math/bits.deBruijn64tab", "math/bits.divideError", "math/bits.overflowError"], apart := false, laid := [("math/bits.deBruijn64tab", laid_math_bits_deBruijn64tab)] }
def PgcdStepsSaid : Prop := pgcdStepsRow.holds Tryz.pinned (OpenSpec.ofChange pgcdStepsSpec)

/-- ITS FALSE NEIGHBOUR: 'it returns false'. Refute it at one input. -/
def pgcdStepsWrong : ChangeSpec := { name := "pgcdSteps", fn := fun _ => fun
  | [d1, d2, d3, d4, d5] => { results := [.lit (.bool false)], args := [d1, d2, d3, d4, d5] }
  | _ => none }
def PgcdStepsWrongFalsely : Prop := pgcdStepsRow.holds Tryz.pinned (OpenSpec.ofChange pgcdStepsWrong)

/-- 'zigguratlaw26.PgcdXgcds': WHATEVER THE INPUT: true; the input reads as it did. -/
def pgcdXgcdsSpec : ChangeSpec := { name := "pgcdXgcds", fn := fun _ => fun
  | [d1, d2, d3, d4, d5] => { results := [.lit (.bool true)], args := [d1, d2, d3, d4, d5] }
  | _ => none }
def pgcdXgcdsRow : OpenClaim := { program := "ytgalbnkcijmnnaagreatdoor", sum := "510545d96363a973d95bed4f449d6a201eb094e5eb8f06ffade058d49a40e139", func := "ziggurat/zigguratlaw26.PgcdXgcds", spec := "pgcdXgcds", inPlace := ["math/bits.Add64", "math/bits.Sub64"], unfollowed := true, recurses := true, named := ["math/bits.deBruijn64tab", "math/bits.divideError", "math/bits.overflowError"], apart := false, laid := [("math/bits.deBruijn64tab", laid_math_bits_deBruijn64tab)] }
def PgcdXgcdsSaid : Prop := pgcdXgcdsRow.holds Tryz.pinned (OpenSpec.ofChange pgcdXgcdsSpec)

/-- ITS FALSE NEIGHBOUR: 'it returns false'. Refute it at one input. -/
def pgcdXgcdsWrong : ChangeSpec := { name := "pgcdXgcds", fn := fun _ => fun
  | [d1, d2, d3, d4, d5] => { results := [.lit (.bool false)], args := [d1, d2, d3, d4, d5] }
  | _ => none }
def PgcdXgcdsWrongFalsely : Prop := pgcdXgcdsRow.holds Tryz.pinned (OpenSpec.ofChange pgcdXgcdsWrong)

/-- 'zigguratlaw26.PgcdBack': WHATEVER THE INPUT: true; the input reads as it did. -/
def pgcdBackSpec : ChangeSpec := { name := "pgcdBack", fn := fun _ => fun
  | [d1, d2, d3, d4, d5] => { results := [.lit (.bool true)], args := [d1, d2, d3, d4, d5] }
  | _ => none }
def pgcdBackRow : OpenClaim := { program := "ytgalbnkcijmnnaagreatdoor", sum := "510545d96363a973d95bed4f449d6a201eb094e5eb8f06ffade058d49a40e139", func := "ziggurat/zigguratlaw26.PgcdBack", spec := "pgcdBack", inPlace := ["math/bits.Add64", "math/bits.Sub64"], unfollowed := true, recurses := true, named := ["math/bits.deBruijn64tab", "math/bits.divideError", "math/bits.overflowError"], apart := false, laid := [("math/bits.deBruijn64tab", laid_math_bits_deBruijn64tab)] }
def PgcdBackSaid : Prop := pgcdBackRow.holds Tryz.pinned (OpenSpec.ofChange pgcdBackSpec)

/-- ITS FALSE NEIGHBOUR: 'it returns false'. Refute it at one input. -/
def pgcdBackWrong : ChangeSpec := { name := "pgcdBack", fn := fun _ => fun
  | [d1, d2, d3, d4, d5] => { results := [.lit (.bool false)], args := [d1, d2, d3, d4, d5] }
  | _ => none }
def PgcdBackWrongFalsely : Prop := pgcdBackRow.holds Tryz.pinned (OpenSpec.ofChange pgcdBackWrong)

/-- 'zigguratlaw26.PgcdInverses': WHATEVER THE INPUT: true; the input reads as it did. -/
def pgcdInversesSpec : ChangeSpec := { name := "pgcdInverses", fn := fun _ => fun
  | [d1, d2, d3, d4] => { results := [.lit (.bool true)], args := [d1, d2, d3, d4] }
  | _ => none }
def pgcdInversesRow : OpenClaim := { program := "ytgalbnkcijmnnaagreatdoor", sum := "510545d96363a973d95bed4f449d6a201eb094e5eb8f06ffade058d49a40e139", func := "ziggurat/zigguratlaw26.PgcdInverses", spec := "pgcdInverses", inPlace := ["math/bits.Add64", "math/bits.Sub64"], unfollowed := true, recurses := true, named := ["math/bits.deBruijn64tab", "math/bits.divideError", "math/bits.overflowError"], apart := false, laid := [("math/bits.deBruijn64tab", laid_math_bits_deBruijn64tab)] }
def PgcdInversesSaid : Prop := pgcdInversesRow.holds Tryz.pinned (OpenSpec.ofChange pgcdInversesSpec)

/-- ITS FALSE NEIGHBOUR: 'it returns false'. Refute it at one input. -/
def pgcdInversesWrong : ChangeSpec := { name := "pgcdInverses", fn := fun _ => fun
  | [d1, d2, d3, d4] => { results := [.lit (.bool false)], args := [d1, d2, d3, d4] }
  | _ => none }
def PgcdInversesWrongFalsely : Prop := pgcdInversesRow.holds Tryz.pinned (OpenSpec.ofChange pgcdInversesWrong)

/-- 'zigguratlaw26.PgcdTables': WHATEVER THE INPUT: true; the input reads as it did. -/
def pgcdTablesSpec : ChangeSpec := { name := "pgcdTables", fn := fun _ => fun
  | [d1, d2, d3, d4, d5] => { results := [.lit (.bool true)], args := [d1, d2, d3, d4, d5] }
  | _ => none }
def pgcdTablesRow : OpenClaim := { program := "ytgalbnkcijmnnaagreatdoor", sum := "510545d96363a973d95bed4f449d6a201eb094e5eb8f06ffade058d49a40e139", func := "ziggurat/zigguratlaw26.PgcdTables", spec := "pgcdTables", inPlace := ["math/bits.Add64", "math/bits.Sub64"], unfollowed := true, recurses := true, named := ["math/bits.deBruijn64tab", "math/bits.divideError", "math/bits.overflowError"], apart := false, laid := [("math/bits.deBruijn64tab", laid_math_bits_deBruijn64tab)] }
def PgcdTablesSaid : Prop := pgcdTablesRow.holds Tryz.pinned (OpenSpec.ofChange pgcdTablesSpec)

/-- ITS FALSE NEIGHBOUR: 'it returns false'. Refute it at one input. -/
def pgcdTablesWrong : ChangeSpec := { name := "pgcdTables", fn := fun _ => fun
  | [d1, d2, d3, d4, d5] => { results := [.lit (.bool false)], args := [d1, d2, d3, d4, d5] }
  | _ => none }
def PgcdTablesWrongFalsely : Prop := pgcdTablesRow.holds Tryz.pinned (OpenSpec.ofChange pgcdTablesWrong)

/-- 'zigguratlaw27.PtreeTrees': WHATEVER THE INPUT: true; the input reads as it did. -/
def ptreeTreesSpec : ChangeSpec := { name := "ptreeTrees", fn := fun _ => fun
  | [d1, d2, d3] => { results := [.lit (.bool true)], args := [d1, d2, d3] }
  | _ => none }
def ptreeTreesRow : OpenClaim := { program := "ytgalbnkcijmnnaagreatdoor", sum := "510545d96363a973d95bed4f449d6a201eb094e5eb8f06ffade058d49a40e139", func := "ziggurat/zigguratlaw27.PtreeTrees", spec := "ptreeTrees", inPlace := ["math/bits.Add64", "math/bits.Sub64"], unfollowed := true, recurses := true, named := ["math/bits.deBruijn64tab", "math/bits.divideError", "math/bits.overflowError"], apart := false, laid := [("math/bits.deBruijn64tab", laid_math_bits_deBruijn64tab)] }
def PtreeTreesSaid : Prop := ptreeTreesRow.holds Tryz.pinned (OpenSpec.ofChange ptreeTreesSpec)

/-- ITS FALSE NEIGHBOUR: 'it returns false'. Refute it at one input. -/
def ptreeTreesWrong : ChangeSpec := { name := "ptreeTrees", fn := fun _ => fun
  | [d1, d2, d3] => { results := [.lit (.bool false)], args := [d1, d2, d3] }
  | _ => none }
def PtreeTreesWrongFalsely : Prop := ptreeTreesRow.holds Tryz.pinned (OpenSpec.ofChange ptreeTreesWrong)

/-- 'zigguratlaw27.PtreeEvals': WHATEVER THE INPUT: true; the input reads as it did. -/
def ptreeEvalsSpec : ChangeSpec := { name := "ptreeEvals", fn := fun _ => fun
  | [d1, d2, d3, d4] => { results := [.lit (.bool true)], args := [d1, d2, d3, d4] }
  | _ => none }
def ptreeEvalsRow : OpenClaim := { program := "ytgalbnkcijmnnaagreatdoor", sum := "510545d96363a973d95bed4f449d6a201eb094e5eb8f06ffade058d49a40e139", func := "ziggurat/zigguratlaw27.PtreeEvals", spec := "ptreeEvals", inPlace := ["math/bits.Add64", "math/bits.Sub64"], unfollowed := true, recurses := true, named := ["math/bits.deBruijn64tab", "math/bits.divideError", "math/bits.overflowError"], apart := false, laid := [("math/bits.deBruijn64tab", laid_math_bits_deBruijn64tab)] }
def PtreeEvalsSaid : Prop := ptreeEvalsRow.holds Tryz.pinned (OpenSpec.ofChange ptreeEvalsSpec)

/-- ITS FALSE NEIGHBOUR: 'it returns false'. Refute it at one input. -/
def ptreeEvalsWrong : ChangeSpec := { name := "ptreeEvals", fn := fun _ => fun
  | [d1, d2, d3, d4] => { results := [.lit (.bool false)], args := [d1, d2, d3, d4] }
  | _ => none }
def PtreeEvalsWrongFalsely : Prop := ptreeEvalsRow.holds Tryz.pinned (OpenSpec.ofChange ptreeEvalsWrong)

/-- 'zigguratlaw27.PtreeInterpolates': WHATEVER THE INPUT: true; the input reads as it did. -/
def ptreeInterpolatesSpec : ChangeSpec := { name := "ptreeInterpolates", fn := fun _ => fun
  | [d1, d2, d3, d4, d5] => { results := [.lit (.bool true)], args := [d1, d2, d3, d4, d5] }
  | _ => none }
def ptreeInterpolatesRow : OpenClaim := { program := "ytgalbnkcijmnnaagreatdoor", sum := "510545d96363a973d95bed4f449d6a201eb094e5eb8f06ffade058d49a40e139", func := "ziggurat/zigguratlaw27.PtreeInterpolates", spec := "ptreeInterpolates", inPlace := ["math/bits.Add64", "math/bits.Sub64"], unfollowed := true, recurses := true, named := ["math/bits.deBruijn64tab", "math/bits.divideError", "math/bits.overflowError"], apart := false, laid := [("math/bits.deBruijn64tab", laid_math_bits_deBruijn64tab)] }
def PtreeInterpolatesSaid : Prop := ptreeInterpolatesRow.holds Tryz.pinned (OpenSpec.ofChange ptreeInterpolatesSpec)

/-- ITS FALSE NEIGHBOUR: 'it returns false'. Refute it at one input. -/
def ptreeInterpolatesWrong : ChangeSpec := { name := "ptreeInterpolates", fn := fun _ => fun
  | [d1, d2, d3, d4, d5] => { results := [.lit (.bool false)], args := [d1, d2, d3, d4, d5] }
  | _ => none }
def PtreeInterpolatesWrongFalsely : Prop := ptreeInterpolatesRow.holds Tryz.pinned (OpenSpec.ofChange ptreeInterpolatesWrong)

/-- 'zigguratlaw27.PtreeBack': WHATEVER THE INPUT: true; the input reads as it did. -/
def ptreeBackSpec : ChangeSpec := { name := "ptreeBack", fn := fun _ => fun
  | [d1, d2, d3, d4, d5] => { results := [.lit (.bool true)], args := [d1, d2, d3, d4, d5] }
  | _ => none }
def ptreeBackRow : OpenClaim := { program := "ytgalbnkcijmnnaagreatdoor", sum := "510545d96363a973d95bed4f449d6a201eb094e5eb8f06ffade058d49a40e139", func := "ziggurat/zigguratlaw27.PtreeBack", spec := "ptreeBack", inPlace := ["math/bits.Add64", "math/bits.Sub64"], unfollowed := true, recurses := true, named := ["math/bits.deBruijn64tab", "math/bits.divideError", "math/bits.overflowError"], apart := false, laid := [("math/bits.deBruijn64tab", laid_math_bits_deBruijn64tab)] }
def PtreeBackSaid : Prop := ptreeBackRow.holds Tryz.pinned (OpenSpec.ofChange ptreeBackSpec)

/-- ITS FALSE NEIGHBOUR: 'it returns false'. Refute it at one input. -/
def ptreeBackWrong : ChangeSpec := { name := "ptreeBack", fn := fun _ => fun
  | [d1, d2, d3, d4, d5] => { results := [.lit (.bool false)], args := [d1, d2, d3, d4, d5] }
  | _ => none }
def PtreeBackWrongFalsely : Prop := ptreeBackRow.holds Tryz.pinned (OpenSpec.ofChange ptreeBackWrong)

/-- 'zigguratlaw27.PtreeComposes': WHATEVER THE INPUT: true; the input reads as it did. -/
def ptreeComposesSpec : ChangeSpec := { name := "ptreeComposes", fn := fun _ => fun
  | [d1, d2, d3, d4, d5] => { results := [.lit (.bool true)], args := [d1, d2, d3, d4, d5] }
  | _ => none }
def ptreeComposesRow : OpenClaim := { program := "ytgalbnkcijmnnaagreatdoor", sum := "510545d96363a973d95bed4f449d6a201eb094e5eb8f06ffade058d49a40e139", func := "ziggurat/zigguratlaw27.PtreeComposes", spec := "ptreeComposes", inPlace := ["math/bits.Add64", "math/bits.Sub64"], unfollowed := true, recurses := true, named := ["math/bits.deBruijn64tab", "math/bits.divideError", "math/bits.overflowError"], apart := false, laid := [("math/bits.deBruijn64tab", laid_math_bits_deBruijn64tab)] }
def PtreeComposesSaid : Prop := ptreeComposesRow.holds Tryz.pinned (OpenSpec.ofChange ptreeComposesSpec)

/-- ITS FALSE NEIGHBOUR: 'it returns false'. Refute it at one input. -/
def ptreeComposesWrong : ChangeSpec := { name := "ptreeComposes", fn := fun _ => fun
  | [d1, d2, d3, d4, d5] => { results := [.lit (.bool false)], args := [d1, d2, d3, d4, d5] }
  | _ => none }
def PtreeComposesWrongFalsely : Prop := ptreeComposesRow.holds Tryz.pinned (OpenSpec.ofChange ptreeComposesWrong)

/- THE SECOND FORM. 'bulk': how many values and letters a reading holds, each counted each time it is reached (what is shared counts as often as it is met; a slice's spare places count too). A statement '..UptoSaid' is the law's where the arguments, and the package variables that the reading takes, are together of bulk at most 1048576: NARROWER than '..Said'. Prove '..Said' where nothing that the law and all that it calls make is longer than what came in: it says more and counts as full. Else prove '..UptoSaid'. A law counts once. -/
mutual
def uptoBulk {H : Type} : DataW H → Nat
  | .lit (.string bytes) => bytes.length + 1
  | .lit _ => 1
  | .nil => 1
  | .ptr d => uptoBulk d + 1
  | .slice elems spare => uptoBulkAll elems + uptoBulkAll spare + 1
  | .agg parts => uptoBulkAll parts + 1
  | .iface _ d => uptoBulk d + 1
  | .map entries => uptoBulkEntries entries + 1
  | .held _ => 1
def uptoBulkAll {H : Type} : List (DataW H) → Nat
  | [] => 0
  | d :: r => uptoBulk d + uptoBulkAll r
def uptoBulkEntries {H : Type} : List (Lit × DataW H) → Nat
  | [] => 0
  | x :: r => uptoBulkEntry x + uptoBulkEntries r
def uptoBulkEntry {H : Type} : Lit × DataW H → Nat
  | (.string bytes, d) => bytes.length + uptoBulk d + 1
  | (_, d) => uptoBulk d + 1
 end
def uptoSmall : (H : Type) → List (DataW H) → Bool := fun _ ds => decide (uptoBulkAll ds ≤ 1048576)
def OpenSpec.upto (s : _root_.Go.ChangeSpec) : _root_.Go.OpenSpec := { _root_.Go.OpenSpec.ofChange s with cond := some uptoSmall }

/-- 'zigguratlaw25.PdivRems', WHERE WHAT IT READS IS OF BULK AT MOST 1048576: true; the input reads as it did. -/
def pdivRemsUptoRow : OpenClaim := { program := "ytgalbnkcijmnnaagreatdoor", sum := "510545d96363a973d95bed4f449d6a201eb094e5eb8f06ffade058d49a40e139", func := "ziggurat/zigguratlaw25.PdivRems", spec := "pdivRems", inPlace := ["math/bits.Add64", "math/bits.Sub64"], unfollowed := true, recurses := true, named := ["math/bits.deBruijn64tab", "math/bits.divideError", "math/bits.overflowError"], apart := false, laid := [("math/bits.deBruijn64tab", laid_math_bits_deBruijn64tab)], narrowed := true }
def PdivRemsUptoSaid : Prop := pdivRemsUptoRow.holds Tryz.pinned (OpenSpec.upto pdivRemsSpec)

/-- 'zigguratlaw26.PgcdGcds', WHERE WHAT IT READS IS OF BULK AT MOST 1048576: true; the input reads as it did. -/
def pgcdGcdsUptoRow : OpenClaim := { program := "ytgalbnkcijmnnaagreatdoor", sum := "510545d96363a973d95bed4f449d6a201eb094e5eb8f06ffade058d49a40e139", func := "ziggurat/zigguratlaw26.PgcdGcds", spec := "pgcdGcds", inPlace := ["math/bits.Add64", "math/bits.Sub64"], unfollowed := true, recurses := true, named := ["math/bits.deBruijn64tab", "math/bits.divideError", "math/bits.overflowError"], apart := false, laid := [("math/bits.deBruijn64tab", laid_math_bits_deBruijn64tab)], narrowed := true }
def PgcdGcdsUptoSaid : Prop := pgcdGcdsUptoRow.holds Tryz.pinned (OpenSpec.upto pgcdGcdsSpec)

/-- 'zigguratlaw26.PgcdSteps', WHERE WHAT IT READS IS OF BULK AT MOST 1048576: true; the input reads as it did. -/
def pgcdStepsUptoRow : OpenClaim := { program := "ytgalbnkcijmnnaagreatdoor", sum := "510545d96363a973d95bed4f449d6a201eb094e5eb8f06ffade058d49a40e139", func := "ziggurat/zigguratlaw26.PgcdSteps", spec := "pgcdSteps", inPlace := ["math/bits.Add64", "math/bits.Sub64"], unfollowed := true, recurses := true, named := ["math/bits.deBruijn64tab", "math/bits.divideError", "math/bits.overflowError"], apart := false, laid := [("math/bits.deBruijn64tab", laid_math_bits_deBruijn64tab)], narrowed := true }
def PgcdStepsUptoSaid : Prop := pgcdStepsUptoRow.holds Tryz.pinned (OpenSpec.upto pgcdStepsSpec)

/-- 'zigguratlaw26.PgcdXgcds', WHERE WHAT IT READS IS OF BULK AT MOST 1048576: true; the input reads as it did. -/
def pgcdXgcdsUptoRow : OpenClaim := { program := "ytgalbnkcijmnnaagreatdoor", sum := "510545d96363a973d95bed4f449d6a201eb094e5eb8f06ffade058d49a40e139", func := "ziggurat/zigguratlaw26.PgcdXgcds", spec := "pgcdXgcds", inPlace := ["math/bits.Add64", "math/bits.Sub64"], unfollowed := true, recurses := true, named := ["math/bits.deBruijn64tab", "math/bits.divideError", "math/bits.overflowError"], apart := false, laid := [("math/bits.deBruijn64tab", laid_math_bits_deBruijn64tab)], narrowed := true }
def PgcdXgcdsUptoSaid : Prop := pgcdXgcdsUptoRow.holds Tryz.pinned (OpenSpec.upto pgcdXgcdsSpec)

/-- 'zigguratlaw26.PgcdBack', WHERE WHAT IT READS IS OF BULK AT MOST 1048576: true; the input reads as it did. -/
def pgcdBackUptoRow : OpenClaim := { program := "ytgalbnkcijmnnaagreatdoor", sum := "510545d96363a973d95bed4f449d6a201eb094e5eb8f06ffade058d49a40e139", func := "ziggurat/zigguratlaw26.PgcdBack", spec := "pgcdBack", inPlace := ["math/bits.Add64", "math/bits.Sub64"], unfollowed := true, recurses := true, named := ["math/bits.deBruijn64tab", "math/bits.divideError", "math/bits.overflowError"], apart := false, laid := [("math/bits.deBruijn64tab", laid_math_bits_deBruijn64tab)], narrowed := true }
def PgcdBackUptoSaid : Prop := pgcdBackUptoRow.holds Tryz.pinned (OpenSpec.upto pgcdBackSpec)

/-- 'zigguratlaw26.PgcdInverses', WHERE WHAT IT READS IS OF BULK AT MOST 1048576: true; the input reads as it did. -/
def pgcdInversesUptoRow : OpenClaim := { program := "ytgalbnkcijmnnaagreatdoor", sum := "510545d96363a973d95bed4f449d6a201eb094e5eb8f06ffade058d49a40e139", func := "ziggurat/zigguratlaw26.PgcdInverses", spec := "pgcdInverses", inPlace := ["math/bits.Add64", "math/bits.Sub64"], unfollowed := true, recurses := true, named := ["math/bits.deBruijn64tab", "math/bits.divideError", "math/bits.overflowError"], apart := false, laid := [("math/bits.deBruijn64tab", laid_math_bits_deBruijn64tab)], narrowed := true }
def PgcdInversesUptoSaid : Prop := pgcdInversesUptoRow.holds Tryz.pinned (OpenSpec.upto pgcdInversesSpec)

/-- 'zigguratlaw26.PgcdTables', WHERE WHAT IT READS IS OF BULK AT MOST 1048576: true; the input reads as it did. -/
def pgcdTablesUptoRow : OpenClaim := { program := "ytgalbnkcijmnnaagreatdoor", sum := "510545d96363a973d95bed4f449d6a201eb094e5eb8f06ffade058d49a40e139", func := "ziggurat/zigguratlaw26.PgcdTables", spec := "pgcdTables", inPlace := ["math/bits.Add64", "math/bits.Sub64"], unfollowed := true, recurses := true, named := ["math/bits.deBruijn64tab", "math/bits.divideError", "math/bits.overflowError"], apart := false, laid := [("math/bits.deBruijn64tab", laid_math_bits_deBruijn64tab)], narrowed := true }
def PgcdTablesUptoSaid : Prop := pgcdTablesUptoRow.holds Tryz.pinned (OpenSpec.upto pgcdTablesSpec)

/-- 'zigguratlaw27.PtreeTrees', WHERE WHAT IT READS IS OF BULK AT MOST 1048576: true; the input reads as it did. -/
def ptreeTreesUptoRow : OpenClaim := { program := "ytgalbnkcijmnnaagreatdoor", sum := "510545d96363a973d95bed4f449d6a201eb094e5eb8f06ffade058d49a40e139", func := "ziggurat/zigguratlaw27.PtreeTrees", spec := "ptreeTrees", inPlace := ["math/bits.Add64", "math/bits.Sub64"], unfollowed := true, recurses := true, named := ["math/bits.deBruijn64tab", "math/bits.divideError", "math/bits.overflowError"], apart := false, laid := [("math/bits.deBruijn64tab", laid_math_bits_deBruijn64tab)], narrowed := true }
def PtreeTreesUptoSaid : Prop := ptreeTreesUptoRow.holds Tryz.pinned (OpenSpec.upto ptreeTreesSpec)

/-- 'zigguratlaw27.PtreeEvals', WHERE WHAT IT READS IS OF BULK AT MOST 1048576: true; the input reads as it did. -/
def ptreeEvalsUptoRow : OpenClaim := { program := "ytgalbnkcijmnnaagreatdoor", sum := "510545d96363a973d95bed4f449d6a201eb094e5eb8f06ffade058d49a40e139", func := "ziggurat/zigguratlaw27.PtreeEvals", spec := "ptreeEvals", inPlace := ["math/bits.Add64", "math/bits.Sub64"], unfollowed := true, recurses := true, named := ["math/bits.deBruijn64tab", "math/bits.divideError", "math/bits.overflowError"], apart := false, laid := [("math/bits.deBruijn64tab", laid_math_bits_deBruijn64tab)], narrowed := true }
def PtreeEvalsUptoSaid : Prop := ptreeEvalsUptoRow.holds Tryz.pinned (OpenSpec.upto ptreeEvalsSpec)

/-- 'zigguratlaw27.PtreeInterpolates', WHERE WHAT IT READS IS OF BULK AT MOST 1048576: true; the input reads as it did. -/
def ptreeInterpolatesUptoRow : OpenClaim := { program := "ytgalbnkcijmnnaagreatdoor", sum := "510545d96363a973d95bed4f449d6a201eb094e5eb8f06ffade058d49a40e139", func := "ziggurat/zigguratlaw27.PtreeInterpolates", spec := "ptreeInterpolates", inPlace := ["math/bits.Add64", "math/bits.Sub64"], unfollowed := true, recurses := true, named := ["math/bits.deBruijn64tab", "math/bits.divideError", "math/bits.overflowError"], apart := false, laid := [("math/bits.deBruijn64tab", laid_math_bits_deBruijn64tab)], narrowed := true }
def PtreeInterpolatesUptoSaid : Prop := ptreeInterpolatesUptoRow.holds Tryz.pinned (OpenSpec.upto ptreeInterpolatesSpec)

/-- 'zigguratlaw27.PtreeBack', WHERE WHAT IT READS IS OF BULK AT MOST 1048576: true; the input reads as it did. -/
def ptreeBackUptoRow : OpenClaim := { program := "ytgalbnkcijmnnaagreatdoor", sum := "510545d96363a973d95bed4f449d6a201eb094e5eb8f06ffade058d49a40e139", func := "ziggurat/zigguratlaw27.PtreeBack", spec := "ptreeBack", inPlace := ["math/bits.Add64", "math/bits.Sub64"], unfollowed := true, recurses := true, named := ["math/bits.deBruijn64tab", "math/bits.divideError", "math/bits.overflowError"], apart := false, laid := [("math/bits.deBruijn64tab", laid_math_bits_deBruijn64tab)], narrowed := true }
def PtreeBackUptoSaid : Prop := ptreeBackUptoRow.holds Tryz.pinned (OpenSpec.upto ptreeBackSpec)

/-- 'zigguratlaw27.PtreeComposes', WHERE WHAT IT READS IS OF BULK AT MOST 1048576: true; the input reads as it did. -/
def ptreeComposesUptoRow : OpenClaim := { program := "ytgalbnkcijmnnaagreatdoor", sum := "510545d96363a973d95bed4f449d6a201eb094e5eb8f06ffade058d49a40e139", func := "ziggurat/zigguratlaw27.PtreeComposes", spec := "ptreeComposes", inPlace := ["math/bits.Add64", "math/bits.Sub64"], unfollowed := true, recurses := true, named := ["math/bits.deBruijn64tab", "math/bits.divideError", "math/bits.overflowError"], apart := false, laid := [("math/bits.deBruijn64tab", laid_math_bits_deBruijn64tab)], narrowed := true }
def PtreeComposesUptoSaid : Prop := ptreeComposesUptoRow.holds Tryz.pinned (OpenSpec.upto ptreeComposesSpec)

end Rows
end Go.Proofs.YtgalbnkcijmnnaaGreatDoor
