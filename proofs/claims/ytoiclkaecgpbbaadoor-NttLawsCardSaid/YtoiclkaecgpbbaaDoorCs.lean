/- A block's cells, one by one. -/
import Derived.Test.YtoiclkaecgpbbaaDoorMem
namespace Go.Proofs.YtoiclkaecgpbbaaDoor
open Go.RowKit

/-- Block g begins with these cells, and none of them is frozen. -/
def Cs (w : World) (g : Nat) (l : List Value) : Prop := ∀ j v, l[j]? = some v → w.cell? ⟨g, j, none⟩ = some v ∧ w.frozen? ⟨g, j, none⟩ = false
theorem Cs.cell {w : World} {g : Nat} {l : List Value} (h : Cs w g l) (j : Nat) {v : Value} (hv : l[j]? = some v) : w.cell? ⟨g, j, none⟩ = some v := (h j v hv).1
theorem Cs.free {w : World} {g : Nat} {l : List Value} (h : Cs w g l) (j : Nat) {v : Value} (hv : l[j]? = some v) : w.frozen? ⟨g, j, none⟩ = false := (h j v hv).2
theorem Cs.drew {w : World} {g : Nat} {l : List Value} (h : Cs w g l) : Cs w.drew g l := h
theorem Cs.set {w : World} {g : Nat} {l : List Value} (h : Cs w g l) (k : Nat) (u : Value) : Cs (w.setCell ⟨g, k, none⟩ u) g (l.set k u) := fun j v hv => by
  rw [World.frozen?_setCell]
  by_cases hjk : k = j
  · subst hjk
    have hk : k < l.length := by
      have := (List.getElem?_eq_some_iff.1 hv).1
      rw [List.length_set] at this; exact this
    rw [List.getElem?_set_self hk] at hv
    obtain rfl := Option.some.inj hv
    have := h k _ (List.getElem?_eq_getElem hk)
    exact ⟨World.cell?_setCell_same _ _ _ this.1, this.2⟩
  · rw [List.getElem?_set_ne hjk] at hv
    have := h j v hv
    exact ⟨(World.cell?_setCell_other _ _ _ _ (fun e => by simp only [Addr.mk.injEq] at e; exact hjk e.2.1)).trans this.1, this.2⟩
theorem Cs.grown {w w' : World} {g : Nat} {l : List Value} {row : Option Nat} (h : Cs w g l) (o : w.grownBy w' row) (hr : some g ≠ row) : Cs w' g l := fun j v hv => by
  have k := h j v hv
  have hb := o.block g (World.block_lt_of_cell? w _ k.1) hr
  exact ⟨(World.cell?_of_block hb).trans k.1, (World.frozen?_of_block hb).trans k.2⟩
theorem Cs.grown0 {w w' : World} {g : Nat} {l : List Value} (h : Cs w g l) (o : w.grownBy w' none) : Cs w' g l := h.grown o (by simp)
theorem cs_new (w : World) (cs : Array Value) (t : TypeId) : Cs (w.alloc (.cells cs t)) w.heap.size cs.toList := fun j v hv => by
  have hn : (w.alloc (.cells cs t)).heap[w.heap.size]? = some (.cells cs t (0, 0)) := heap_alloc_new w _
  constructor
  · unfold World.cell?
    rw [hn]
    rw [Array.getElem?_toList] at hv
    exact hv
  · unfold World.frozen?
    rw [hn]; simp
end Go.Proofs.YtoiclkaecgpbbaaDoor
