/- A slice of pairs of numbers that came in, cell by cell. -/
import Derived.Test.YteklffikijpocaaMem
import Derived.Deep.SlicePairs
import Derived.ChangeArms
namespace Go.Proofs.Yteklffikijpocaa
open Go.RowKit
theorem acts_cells {P : Program} {H : Type} {enc : TypeId × Value → H} {W : World} {base : Nat} {spare : Nat → Bool} {held : Bool} {n : Nat} {t0 : TypeId} (ht : P.underlying t0 = some (.int .i64)) {x : Addr} {len cap m : Nat}
    {V0 V1 : Nat → Value} {D0 D1 : Nat → DataW H} {P0 P1 : Nat → List MemPlace} (hl : len ≤ cap) (hm : cap ≤ maxLen) (hlm : len ≤ m)
    (hall : ∀ i, i < m → W.cell? (x.add (i * 2)) = some (V0 i) ∧ W.cell? (x.add (i * 2 + 1)) = some (V1 i) ∧
        DataW.trod enc P W base spare held n t0 [V0 i] = some (D0 i, P0 i) ∧ DataW.trod enc P W base spare held n t0 [V1 i] = some (D1 i, P1 i)) :
    ∃ zD zN : Nat → Int, Cells W (.slice (some x) len cap) len 2 (fun j => .int .i64 (if j % 2 = 0 then zD (j / 2) else zN (j / 2))) := by
  have each : ∀ i, ∃ q : Int × Int, i < m → V0 i = .int .i64 q.1 ∧ V1 i = .int .i64 q.2 := by
    intro i
    by_cases hi : i < m
    · obtain ⟨_, _, h0, h1⟩ := hall i hi
      obtain ⟨a, ha, _⟩ := DataW.trod_int ht h0
      obtain ⟨b, hb, _⟩ := DataW.trod_int ht h1
      exact ⟨(a, b), fun _ => ⟨by simpa using ha, by simpa using hb⟩⟩
    · exact ⟨(0, 0), fun h => absurd h hi⟩
  refine ⟨fun i => (Classical.choose (each i)).1, fun i => (Classical.choose (each i)).2, cells_of hl hm (by decide) fun j hj => ?_⟩
  have hjm : j / 2 < m := by omega
  obtain ⟨h0, h1⟩ := Classical.choose_spec (each (j / 2)) hjm
  obtain ⟨c0, c1, _⟩ := hall (j / 2) hjm
  by_cases hp : j % 2 = 0
  · rw [if_pos hp, ← h0, ← c0, show j / 2 * 2 = j by omega]
  · rw [if_neg hp, ← h1, ← c1, show j / 2 * 2 + 1 = j by omega]
end Go.Proofs.Yteklffikijpocaa
