/- The table that the rows list: what a walk reads of it; a world that has it. -/
import Derived.Test.YtoiclkaecgpbbaaDoorRows
import Derived.Test.YtoiclkaecgpbbaaDoorPri2
import Derived.ProofKit
import Derived.LaidMore
import Derived.OpenShut
import Derived.Stop.Joined
import Derived.Lib.LaidTab
namespace Go.Proofs.YtoiclkaecgpbbaaDoor
open Go.ChangeShapes Go.WideShapes Go.ChangeAt Go.RowKit

theorem gTab : Tryd.prog.globalNamed "math/bits.deBruijn64tab" = some 0 := by kernel_rfl
theorem gTabType : (Tryd.prog.globals[0]?).map (·.type) = some 98 := by kernel_rfl
def tabZ : List Int := db.map fun (n : Nat) => (n : Int)
def laidL : List (String × DataW Unit) := [("math/bits.deBruijn64tab", Rows.laid_math_bits_deBruijn64tab)]
theorem laidL_tab : laidL = [("math/bits.deBruijn64tab", Lib.tabData .u8 tabZ)] := rfl
theorem db_of_laid {W : World} (h : laidMetH Tryd.prog laidL W) : Db W := by
  rw [MakeChecks.laidMetH_plain _ _ _ (by kernel_rfl), laidL_tab] at h
  have ht : Lib.TabIs Tryd.prog W "math/bits.deBruijn64tab" .u8 tabZ := Lib.tabIs_of_head gTab gTabType Tryd.underlying98 Tryd.underlying5 (by kernel_rfl) (by kernel_rfl) h
  intro i hi
  have := ht.cell gTab i (by show i < 64; exact hi)
  rw [this]
  have e : tabZ.getD i 0 = ((db.getD i 0 : Nat) : Int) := by
    unfold tabZ
    rw [List.getD_eq_getElem?_getD, List.getElem?_map, List.getD_eq_getElem?_getD, List.getElem?_eq_getElem (show i < db.length from hi)]; rfl
  rw [e]
theorem door_met (os : Os) (args : Array Value) : laidMetH Tryd.prog laidL ((World.doorLaid Tryd.prog 400 os).forCall (fun _ _ => 0) ⟨#[], args, []⟩).memory :=
  laidMetH_of_parts3 (fuel := 8) (laidMet_of_run' 8 (by kernel_rfl) (by kernel_rfl)) (by kernel_rfl) (by kernel_rfl)
end Go.Proofs.YtoiclkaecgpbbaaDoor
