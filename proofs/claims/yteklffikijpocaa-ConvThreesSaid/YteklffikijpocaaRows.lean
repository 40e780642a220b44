/-
  No cell of these rows narrows 'for every input' (looked for: loops, veiled, ifaces, maps, wideKeys, modest, calm, conditions, laid).
  DERIVED. THE GIVEN ROWS OF THIS SEAT. 12 by the template 'for every input the law returns true; each argument reads behind the call as it read before'; 0 by the template 'total and deterministic' (their statements: YteklffikijpocaaTotals.lean).
  GIVEN WITH THE SEED: the statements are not yours to turn. If you find one false, say at which input.
  Laid BY PROGRAM, IN A SANDBOX (cutbox-rows.mjs): the forced cells as the released guide's own fill.sh prints them over the translation a907b0472cd4d9a0… (all of the seat's roots in one cut). By AI agents, Wed Nov 11 2026. No macro, syntax, notation, axiom, sorry.
-/
import Derived.Test.YteklffikijpocaaChecked
import GoSem.Claim
import GoSem.ClaimJoined
import GoSem.ClaimMapViews
import Derived.JoinedTies
import Derived.KernelRfl
namespace Go.Proofs.Yteklffikijpocaa
/- THE CELL 'sum', in the pinned program and in every row, IS THE sha256 OF THE DUMP (.gsa) THAT YteklffikijpocaaProg.lean LOADS. Nothing in Lean hashes anything: it is a label: what it is worth is what the hold of that sum in a sandbox is worth. -/
noncomputable def Try.pinned : Pinned := { name := "yteklffikijpocaa", sum := "a907b0472cd4d9a03340dd861df1b93d66272830319232dd0aa8a6e92dc3bb6a", checked := Try.checked }
namespace Rows
def none {H : Type} : Left H := { results := [], args := [] }

/-- 'zigguratlaw03.MeterDeep': WHATEVER THE INPUT: true; the input reads as it did. -/
def meterDeepSpec : ChangeSpec := { name := "meterDeep", fn := fun _ => fun
  | [d1, d2] => { results := [.lit (.bool true)], args := [d1, d2] }
  | _ => none }
def meterDeepRow : OpenClaim := { program := "yteklffikijpocaa", sum := "a907b0472cd4d9a03340dd861df1b93d66272830319232dd0aa8a6e92dc3bb6a", func := "ziggurat/zigguratlaw03.MeterDeep", spec := "meterDeep", apart := false }
def MeterDeepSaid : Prop := meterDeepRow.holds Try.pinned (OpenSpec.ofChange meterDeepSpec)

/-- ITS FALSE NEIGHBOUR: 'it returns false'. Refute it at one input. -/
def meterDeepWrong : ChangeSpec := { name := "meterDeep", fn := fun _ => fun
  | [d1, d2] => { results := [.lit (.bool false)], args := [d1, d2] }
  | _ => none }
def MeterDeepWrongFalsely : Prop := meterDeepRow.holds Try.pinned (OpenSpec.ofChange meterDeepWrong)

/-- 'zigguratlaw03.MeterEmbeds': WHATEVER THE INPUT: true; the input reads as it did. -/
def meterEmbedsSpec : ChangeSpec := { name := "meterEmbeds", fn := fun _ => fun
  | [d] => { results := [.lit (.bool true)], args := [d] }
  | _ => none }
def meterEmbedsRow : OpenClaim := { program := "yteklffikijpocaa", sum := "a907b0472cd4d9a03340dd861df1b93d66272830319232dd0aa8a6e92dc3bb6a", func := "ziggurat/zigguratlaw03.MeterEmbeds", spec := "meterEmbeds", apart := false }
def MeterEmbedsSaid : Prop := meterEmbedsRow.holds Try.pinned (OpenSpec.ofChange meterEmbedsSpec)

/-- ITS FALSE NEIGHBOUR: 'it returns false'. Refute it at one input. -/
def meterEmbedsWrong : ChangeSpec := { name := "meterEmbeds", fn := fun _ => fun
  | [d] => { results := [.lit (.bool false)], args := [d] }
  | _ => none }
def MeterEmbedsWrongFalsely : Prop := meterEmbedsRow.holds Try.pinned (OpenSpec.ofChange meterEmbedsWrong)

/-- 'zigguratlaw03.MeterPlays': WHATEVER THE INPUT: true; the input reads as it did. -/
def meterPlaysSpec : ChangeSpec := { name := "meterPlays", fn := fun _ => fun
  | [d] => { results := [.lit (.bool true)], args := [d] }
  | _ => none }
def meterPlaysRow : OpenClaim := { program := "yteklffikijpocaa", sum := "a907b0472cd4d9a03340dd861df1b93d66272830319232dd0aa8a6e92dc3bb6a", func := "ziggurat/zigguratlaw03.MeterPlays", spec := "meterPlays", apart := false }
def MeterPlaysSaid : Prop := meterPlaysRow.holds Try.pinned (OpenSpec.ofChange meterPlaysSpec)

/-- ITS FALSE NEIGHBOUR: 'it returns false'. Refute it at one input. -/
def meterPlaysWrong : ChangeSpec := { name := "meterPlays", fn := fun _ => fun
  | [d] => { results := [.lit (.bool false)], args := [d] }
  | _ => none }
def MeterPlaysWrongFalsely : Prop := meterPlaysRow.holds Try.pinned (OpenSpec.ofChange meterPlaysWrong)

/-- 'zigguratlaw09.ConvCarries': WHATEVER THE INPUT: true; the input reads as it did. -/
def convCarriesSpec : ChangeSpec := { name := "convCarries", fn := fun _ => fun
  | [d1, d2, d3] => { results := [.lit (.bool true)], args := [d1, d2, d3] }
  | _ => none }
def convCarriesRow : OpenClaim := { program := "yteklffikijpocaa", sum := "a907b0472cd4d9a03340dd861df1b93d66272830319232dd0aa8a6e92dc3bb6a", func := "ziggurat/zigguratlaw09.ConvCarries", spec := "convCarries", inPlace := ["math/bits.Add64"], apart := false }
def ConvCarriesSaid : Prop := convCarriesRow.holds Try.pinned (OpenSpec.ofChange convCarriesSpec)

/-- ITS FALSE NEIGHBOUR: 'it returns false'. Refute it at one input. -/
def convCarriesWrong : ChangeSpec := { name := "convCarries", fn := fun _ => fun
  | [d1, d2, d3] => { results := [.lit (.bool false)], args := [d1, d2, d3] }
  | _ => none }
def ConvCarriesWrongFalsely : Prop := convCarriesRow.holds Try.pinned (OpenSpec.ofChange convCarriesWrong)

/-- 'zigguratlaw06.ModwNews': WHATEVER THE INPUT: true; the input reads as it did. -/
def modwNewsSpec : ChangeSpec := { name := "modwNews", fn := fun _ => fun
  | [d] => { results := [.lit (.bool true)], args := [d] }
  | _ => none }
def modwNewsRow : OpenClaim := { program := "yteklffikijpocaa", sum := "a907b0472cd4d9a03340dd861df1b93d66272830319232dd0aa8a6e92dc3bb6a", func := "ziggurat/zigguratlaw06.ModwNews", spec := "modwNews", named := ["math/bits.divideError", "math/bits.overflowError"], apart := false }
def ModwNewsSaid : Prop := modwNewsRow.holds Try.pinned (OpenSpec.ofChange modwNewsSpec)

/-- ITS FALSE NEIGHBOUR: 'it returns false'. Refute it at one input. -/
def modwNewsWrong : ChangeSpec := { name := "modwNews", fn := fun _ => fun
  | [d] => { results := [.lit (.bool false)], args := [d] }
  | _ => none }
def ModwNewsWrongFalsely : Prop := modwNewsRow.holds Try.pinned (OpenSpec.ofChange modwNewsWrong)

/-- 'zigguratlaw06.ModwInverses': WHATEVER THE INPUT: true; the input reads as it did. -/
def modwInversesSpec : ChangeSpec := { name := "modwInverses", fn := fun _ => fun
  | [d1, d2] => { results := [.lit (.bool true)], args := [d1, d2] }
  | _ => none }
def modwInversesRow : OpenClaim := { program := "yteklffikijpocaa", sum := "a907b0472cd4d9a03340dd861df1b93d66272830319232dd0aa8a6e92dc3bb6a", func := "ziggurat/zigguratlaw06.ModwInverses", spec := "modwInverses", named := ["math/bits.divideError", "math/bits.overflowError"], apart := false }
def ModwInversesSaid : Prop := modwInversesRow.holds Try.pinned (OpenSpec.ofChange modwInversesSpec)

/-- ITS FALSE NEIGHBOUR: 'it returns false'. Refute it at one input. -/
def modwInversesWrong : ChangeSpec := { name := "modwInverses", fn := fun _ => fun
  | [d1, d2] => { results := [.lit (.bool false)], args := [d1, d2] }
  | _ => none }
def ModwInversesWrongFalsely : Prop := modwInversesRow.holds Try.pinned (OpenSpec.ofChange modwInversesWrong)

/-- 'zigguratlaw06.ModwShoups': WHATEVER THE INPUT: true; the input reads as it did. -/
def modwShoupsSpec : ChangeSpec := { name := "modwShoups", fn := fun _ => fun
  | [d1, d2, d3] => { results := [.lit (.bool true)], args := [d1, d2, d3] }
  | _ => none }
def modwShoupsRow : OpenClaim := { program := "yteklffikijpocaa", sum := "a907b0472cd4d9a03340dd861df1b93d66272830319232dd0aa8a6e92dc3bb6a", func := "ziggurat/zigguratlaw06.ModwShoups", spec := "modwShoups", named := ["math/bits.divideError", "math/bits.overflowError"], apart := false }
def ModwShoupsSaid : Prop := modwShoupsRow.holds Try.pinned (OpenSpec.ofChange modwShoupsSpec)

/-- ITS FALSE NEIGHBOUR: 'it returns false'. Refute it at one input. -/
def modwShoupsWrong : ChangeSpec := { name := "modwShoups", fn := fun _ => fun
  | [d1, d2, d3] => { results := [.lit (.bool false)], args := [d1, d2, d3] }
  | _ => none }
def ModwShoupsWrongFalsely : Prop := modwShoupsRow.holds Try.pinned (OpenSpec.ofChange modwShoupsWrong)

/-- 'zigguratlaw06.ModwSums': WHATEVER THE INPUT: true; the input reads as it did. -/
def modwSumsSpec : ChangeSpec := { name := "modwSums", fn := fun _ => fun
  | [d1, d2, d3, d4] => { results := [.lit (.bool true)], args := [d1, d2, d3, d4] }
  | _ => none }
def modwSumsRow : OpenClaim := { program := "yteklffikijpocaa", sum := "a907b0472cd4d9a03340dd861df1b93d66272830319232dd0aa8a6e92dc3bb6a", func := "ziggurat/zigguratlaw06.ModwSums", spec := "modwSums", named := ["math/bits.divideError", "math/bits.overflowError"], apart := false }
def ModwSumsSaid : Prop := modwSumsRow.holds Try.pinned (OpenSpec.ofChange modwSumsSpec)

/-- ITS FALSE NEIGHBOUR: 'it returns false'. Refute it at one input. -/
def modwSumsWrong : ChangeSpec := { name := "modwSums", fn := fun _ => fun
  | [d1, d2, d3, d4] => { results := [.lit (.bool false)], args := [d1, d2, d3, d4] }
  | _ => none }
def ModwSumsWrongFalsely : Prop := modwSumsRow.holds Try.pinned (OpenSpec.ofChange modwSumsWrong)

/-- 'zigguratlaw06.ModwMonts': WHATEVER THE INPUT: true; the input reads as it did. -/
def modwMontsSpec : ChangeSpec := { name := "modwMonts", fn := fun _ => fun
  | [d1, d2, d3] => { results := [.lit (.bool true)], args := [d1, d2, d3] }
  | _ => none }
def modwMontsRow : OpenClaim := { program := "yteklffikijpocaa", sum := "a907b0472cd4d9a03340dd861df1b93d66272830319232dd0aa8a6e92dc3bb6a", func := "ziggurat/zigguratlaw06.ModwMonts", spec := "modwMonts", inPlace := ["math/bits.Add64"], named := ["math/bits.divideError", "math/bits.overflowError"], apart := false }
def ModwMontsSaid : Prop := modwMontsRow.holds Try.pinned (OpenSpec.ofChange modwMontsSpec)

/-- ITS FALSE NEIGHBOUR: 'it returns false'. Refute it at one input. -/
def modwMontsWrong : ChangeSpec := { name := "modwMonts", fn := fun _ => fun
  | [d1, d2, d3] => { results := [.lit (.bool false)], args := [d1, d2, d3] }
  | _ => none }
def ModwMontsWrongFalsely : Prop := modwMontsRow.holds Try.pinned (OpenSpec.ofChange modwMontsWrong)

/-- 'zigguratlaw06.ModwMuls': WHATEVER THE INPUT: true; the input reads as it did. -/
def modwMulsSpec : ChangeSpec := { name := "modwMuls", fn := fun _ => fun
  | [d1, d2, d3, d4, d5] => { results := [.lit (.bool true)], args := [d1, d2, d3, d4, d5] }
  | _ => none }
def modwMulsRow : OpenClaim := { program := "yteklffikijpocaa", sum := "a907b0472cd4d9a03340dd861df1b93d66272830319232dd0aa8a6e92dc3bb6a", func := "ziggurat/zigguratlaw06.ModwMuls", spec := "modwMuls", inPlace := ["math/bits.Add64"], named := ["math/bits.divideError", "math/bits.overflowError"], apart := false }
def ModwMulsSaid : Prop := modwMulsRow.holds Try.pinned (OpenSpec.ofChange modwMulsSpec)

/-- ITS FALSE NEIGHBOUR: 'it returns false'. Refute it at one input. -/
def modwMulsWrong : ChangeSpec := { name := "modwMuls", fn := fun _ => fun
  | [d1, d2, d3, d4, d5] => { results := [.lit (.bool false)], args := [d1, d2, d3, d4, d5] }
  | _ => none }
def ModwMulsWrongFalsely : Prop := modwMulsRow.holds Try.pinned (OpenSpec.ofChange modwMulsWrong)

/-- 'zigguratlaw06.ModwLaws': WHATEVER THE INPUT: true; the input reads as it did. -/
def modwLawsSpec : ChangeSpec := { name := "modwLaws", fn := fun _ => fun
  | [d1, d2, d3, d4, d5] => { results := [.lit (.bool true)], args := [d1, d2, d3, d4, d5] }
  | _ => none }
def modwLawsRow : OpenClaim := { program := "yteklffikijpocaa", sum := "a907b0472cd4d9a03340dd861df1b93d66272830319232dd0aa8a6e92dc3bb6a", func := "ziggurat/zigguratlaw06.ModwLaws", spec := "modwLaws", inPlace := ["math/bits.Add64"], named := ["math/bits.divideError", "math/bits.overflowError"], apart := false }
def ModwLawsSaid : Prop := modwLawsRow.holds Try.pinned (OpenSpec.ofChange modwLawsSpec)

/-- ITS FALSE NEIGHBOUR: 'it returns false'. Refute it at one input. -/
def modwLawsWrong : ChangeSpec := { name := "modwLaws", fn := fun _ => fun
  | [d1, d2, d3, d4, d5] => { results := [.lit (.bool false)], args := [d1, d2, d3, d4, d5] }
  | _ => none }
def ModwLawsWrongFalsely : Prop := modwLawsRow.holds Try.pinned (OpenSpec.ofChange modwLawsWrong)

/-- 'zigguratlaw09.ConvThrees': WHATEVER THE INPUT: true; the input reads as it did. -/
def convThreesSpec : ChangeSpec := { name := "convThrees", fn := fun _ => fun
  | [d1, d2, d3] => { results := [.lit (.bool true)], args := [d1, d2, d3] }
  | _ => none }
def convThreesRow : OpenClaim := { program := "yteklffikijpocaa", sum := "a907b0472cd4d9a03340dd861df1b93d66272830319232dd0aa8a6e92dc3bb6a", func := "ziggurat/zigguratlaw09.ConvThrees", spec := "convThrees", inPlace := ["math/bits.Add64"], named := ["math/bits.divideError", "math/bits.overflowError"], apart := false }
def ConvThreesSaid : Prop := convThreesRow.holds Try.pinned (OpenSpec.ofChange convThreesSpec)

/-- ITS FALSE NEIGHBOUR: 'it returns false'. Refute it at one input. -/
def convThreesWrong : ChangeSpec := { name := "convThrees", fn := fun _ => fun
  | [d1, d2, d3] => { results := [.lit (.bool false)], args := [d1, d2, d3] }
  | _ => none }
def ConvThreesWrongFalsely : Prop := convThreesRow.holds Try.pinned (OpenSpec.ofChange convThreesWrong)

/- THE SECOND FORM. 'bulk': how many values and letters a reading holds, each counted each time it is reached (what is shared counts as often as it is met; a slice's spare places count too). A statement '..UptoSaid' is the law's where the arguments, and the package variables that the reading takes, are together of bulk at most 1048576: NARROWER than '..Said'. Prove '..Said' where nothing that the law and all that it calls make is longer than what came in: it says more and counts as full. Else prove '..UptoSaid'. A law counts once. -/
mutual
def uptoBulk {H : Type} : DataW H → Nat
  | .lit (.string bytes) => bytes.length + 1
  | .lit _ => 1
  | .nil => 1
  | .ptr d => uptoBulk d + 1
  | .slice elems spare => uptoBulkAll elems + uptoBulkAll spare + 1
  | .agg parts => uptoBulkAll parts + 1
  | .iface _ d => uptoBulk d + 1
  | .map entries => uptoBulkEntries entries + 1
  | .held _ => 1
def uptoBulkAll {H : Type} : List (DataW H) → Nat
  | [] => 0
  | d :: r => uptoBulk d + uptoBulkAll r
def uptoBulkEntries {H : Type} : List (Lit × DataW H) → Nat
  | [] => 0
  | x :: r => uptoBulkEntry x + uptoBulkEntries r
def uptoBulkEntry {H : Type} : Lit × DataW H → Nat
  | (.string bytes, d) => bytes.length + uptoBulk d + 1
  | (_, d) => uptoBulk d + 1
 end
def uptoSmall : (H : Type) → List (DataW H) → Bool := fun _ ds => decide (uptoBulkAll ds ≤ 1048576)
def OpenSpec.upto (s : _root_.Go.ChangeSpec) : _root_.Go.OpenSpec := { _root_.Go.OpenSpec.ofChange s with cond := some uptoSmall }

/-- 'zigguratlaw03.MeterDeep', WHERE WHAT IT READS IS OF BULK AT MOST 1048576: true; the input reads as it did. -/
def meterDeepUptoRow : OpenClaim := { program := "yteklffikijpocaa", sum := "a907b0472cd4d9a03340dd861df1b93d66272830319232dd0aa8a6e92dc3bb6a", func := "ziggurat/zigguratlaw03.MeterDeep", spec := "meterDeep", apart := false, narrowed := true }
def MeterDeepUptoSaid : Prop := meterDeepUptoRow.holds Try.pinned (OpenSpec.upto meterDeepSpec)

/-- 'zigguratlaw03.MeterEmbeds', WHERE WHAT IT READS IS OF BULK AT MOST 1048576: true; the input reads as it did. -/
def meterEmbedsUptoRow : OpenClaim := { program := "yteklffikijpocaa", sum := "a907b0472cd4d9a03340dd861df1b93d66272830319232dd0aa8a6e92dc3bb6a", func := "ziggurat/zigguratlaw03.MeterEmbeds", spec := "meterEmbeds", apart := false, narrowed := true }
def MeterEmbedsUptoSaid : Prop := meterEmbedsUptoRow.holds Try.pinned (OpenSpec.upto meterEmbedsSpec)

/-- 'zigguratlaw03.MeterPlays', WHERE WHAT IT READS IS OF BULK AT MOST 1048576: true; the input reads as it did. -/
def meterPlaysUptoRow : OpenClaim := { program := "yteklffikijpocaa", sum := "a907b0472cd4d9a03340dd861df1b93d66272830319232dd0aa8a6e92dc3bb6a", func := "ziggurat/zigguratlaw03.MeterPlays", spec := "meterPlays", apart := false, narrowed := true }
def MeterPlaysUptoSaid : Prop := meterPlaysUptoRow.holds Try.pinned (OpenSpec.upto meterPlaysSpec)

/-- 'zigguratlaw09.ConvCarries', WHERE WHAT IT READS IS OF BULK AT MOST 1048576: true; the input reads as it did. -/
def convCarriesUptoRow : OpenClaim := { program := "yteklffikijpocaa", sum := "a907b0472cd4d9a03340dd861df1b93d66272830319232dd0aa8a6e92dc3bb6a", func := "ziggurat/zigguratlaw09.ConvCarries", spec := "convCarries", inPlace := ["math/bits.Add64"], apart := false, narrowed := true }
def ConvCarriesUptoSaid : Prop := convCarriesUptoRow.holds Try.pinned (OpenSpec.upto convCarriesSpec)

/-- 'zigguratlaw06.ModwNews', WHERE WHAT IT READS IS OF BULK AT MOST 1048576: true; the input reads as it did. -/
def modwNewsUptoRow : OpenClaim := { program := "yteklffikijpocaa", sum := "a907b0472cd4d9a03340dd861df1b93d66272830319232dd0aa8a6e92dc3bb6a", func := "ziggurat/zigguratlaw06.ModwNews", spec := "modwNews", named := ["math/bits.divideError", "math/bits.overflowError"], apart := false, narrowed := true }
def ModwNewsUptoSaid : Prop := modwNewsUptoRow.holds Try.pinned (OpenSpec.upto modwNewsSpec)

/-- 'zigguratlaw06.ModwInverses', WHERE WHAT IT READS IS OF BULK AT MOST 1048576: true; the input reads as it did. -/
def modwInversesUptoRow : OpenClaim := { program := "yteklffikijpocaa", sum := "a907b0472cd4d9a03340dd861df1b93d66272830319232dd0aa8a6e92dc3bb6a", func := "ziggurat/zigguratlaw06.ModwInverses", spec := "modwInverses", named := ["math/bits.divideError", "math/bits.overflowError"], apart := false, narrowed := true }
def ModwInversesUptoSaid : Prop := modwInversesUptoRow.holds Try.pinned (OpenSpec.upto modwInversesSpec)

/-- 'zigguratlaw06.ModwShoups', WHERE WHAT IT READS IS OF BULK AT MOST 1048576: true; the input reads as it did. -/
def modwShoupsUptoRow : OpenClaim := { program := "yteklffikijpocaa", sum := "a907b0472cd4d9a03340dd861df1b93d66272830319232dd0aa8a6e92dc3bb6a", func := "ziggurat/zigguratlaw06.ModwShoups", spec := "modwShoups", named := ["math/bits.divideError", "math/bits.overflowError"], apart := false, narrowed := true }
def ModwShoupsUptoSaid : Prop := modwShoupsUptoRow.holds Try.pinned (OpenSpec.upto modwShoupsSpec)

/-- 'zigguratlaw06.ModwSums', WHERE WHAT IT READS IS OF BULK AT MOST 1048576: true; the input reads as it did. -/
def modwSumsUptoRow : OpenClaim := { program := "yteklffikijpocaa", sum := "a907b0472cd4d9a03340dd861df1b93d66272830319232dd0aa8a6e92dc3bb6a", func := "ziggurat/zigguratlaw06.ModwSums", spec := "modwSums", named := ["math/bits.divideError", "math/bits.overflowError"], apart := false, narrowed := true }
def ModwSumsUptoSaid : Prop := modwSumsUptoRow.holds Try.pinned (OpenSpec.upto modwSumsSpec)

/-- 'zigguratlaw06.ModwMonts', WHERE WHAT IT READS IS OF BULK AT MOST 1048576: true; the input reads as it did. -/
def modwMontsUptoRow : OpenClaim := { program := "yteklffikijpocaa", sum := "a907b0472cd4d9a03340dd861df1b93d66272830319232dd0aa8a6e92dc3bb6a", func := "ziggurat/zigguratlaw06.ModwMonts", spec := "modwMonts", inPlace := ["math/bits.Add64"], named := ["math/bits.divideError", "math/bits.overflowError"], apart := false, narrowed := true }
def ModwMontsUptoSaid : Prop := modwMontsUptoRow.holds Try.pinned (OpenSpec.upto modwMontsSpec)

/-- 'zigguratlaw06.ModwMuls', WHERE WHAT IT READS IS OF BULK AT MOST 1048576: true; the input reads as it did. -/
def modwMulsUptoRow : OpenClaim := { program := "yteklffikijpocaa", sum := "a907b0472cd4d9a03340dd861df1b93d66272830319232dd0aa8a6e92dc3bb6a", func := "ziggurat/zigguratlaw06.ModwMuls", spec := "modwMuls", inPlace := ["math/bits.Add64"], named := ["math/bits.divideError", "math/bits.overflowError"], apart := false, narrowed := true }
def ModwMulsUptoSaid : Prop := modwMulsUptoRow.holds Try.pinned (OpenSpec.upto modwMulsSpec)

/-- 'zigguratlaw06.ModwLaws', WHERE WHAT IT READS IS OF BULK AT MOST 1048576: true; the input reads as it did. -/
def modwLawsUptoRow : OpenClaim := { program := "yteklffikijpocaa", sum := "a907b0472cd4d9a03340dd861df1b93d66272830319232dd0aa8a6e92dc3bb6a", func := "ziggurat/zigguratlaw06.ModwLaws", spec := "modwLaws", inPlace := ["math/bits.Add64"], named := ["math/bits.divideError", "math/bits.overflowError"], apart := false, narrowed := true }
def ModwLawsUptoSaid : Prop := modwLawsUptoRow.holds Try.pinned (OpenSpec.upto modwLawsSpec)

/-- 'zigguratlaw09.ConvThrees', WHERE WHAT IT READS IS OF BULK AT MOST 1048576: true; the input reads as it did. -/
def convThreesUptoRow : OpenClaim := { program := "yteklffikijpocaa", sum := "a907b0472cd4d9a03340dd861df1b93d66272830319232dd0aa8a6e92dc3bb6a", func := "ziggurat/zigguratlaw09.ConvThrees", spec := "convThrees", inPlace := ["math/bits.Add64"], named := ["math/bits.divideError", "math/bits.overflowError"], apart := false, narrowed := true }
def ConvThreesUptoSaid : Prop := convThreesUptoRow.holds Try.pinned (OpenSpec.upto convThreesSpec)

end Rows
end Go.Proofs.Yteklffikijpocaa
