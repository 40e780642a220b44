/- Appending to a row of the call's own; built rows. -/
import Derived.Test.YtoiclkaecgpbbaaDoorKeep
import Derived.Test.YtoiclkaecgpbbaaDoorDig
import Derived.Laws.AppendOwn
namespace Go.Proofs.YtoiclkaecgpbbaaDoor
open Go.RowKit

theorem nums_append (xs ys : List Int) : nums (xs ++ ys) = nums xs ++ nums ys := by simp [nums]
theorem Own.lt {w : World} {base : Nat} {v : Value} {xs : List Int} (h : Own w base v xs) : ∀ k, v.ownBlock = some k → base ≤ k ∧ k < w.heap.size := h.1.lt
theorem Own.gb {w w0 w' : World} {v : Value} {xs : List Int} (h : Own w w0.heap.size v xs) (g : w0.grownBy w none) (k : w.grownBy w' v.ownBlock) : w0.grownBy w' none :=
  gb_new g k (fun i hi => (h.lt i hi).1)
theorem own_append {w : World} {base : Nat} {ops : Array Oper} {rest : List Oper} {o : Oper} {a : Act} {Q : Exit → Act → World → Prop} (t : TypeId) (ht : Tryd.prog.underlying t = some (.slice 22))
    (s x : Operand) (hgd : o.guard = none) (ho : o.op = .call { callee := .builtin .append, args := #[s, x], argTypes := #[t, t] })
    (v : Value) (xs : List Int) (hs : a.eval s = v) (hown : Own w base v xs)
    (ad : Addr) (m c : Nat) (ys : List Int) (hx : a.eval x = .slice (some ad) m c) (hl : ys.length = m) (hy : Ws ys)
    (hc : ∀ j, j < ys.length → w.cell? (ad.add j) = some (.int .u64 (rd ys j))) (hb : xs.length + ys.length ≤ 1000000000000) (hbase : base ≤ w.heap.size)
    (h : ∀ v' w', Own w' base v' (xs ++ ys) → w.grownBy w' v.ownBlock → wpList Tryd.prog ops Q rest (a.put o.dst v') w') : wpList Tryd.prog ops Q (o :: rest) a w := by
  obtain ⟨i, hi, he⟩ := Option.map_eq_some_iff.1 info_u64
  simp only [Prod.mk.injEq] at he
  refine wpList_append_own w hgd s x t ho base 22 i (.int .u64 0) 1 8 ht hi he.1 he.2.1 he.2.2 rfl (by decide) v xs.length (nums xs) hs hown.1 ad m c (nums ys) hx (by rw [nums_length, hl, Nat.mul_one]) (fun j u hu => ?_) (fun u hu => ?_) (by unfold maxLen; omega) (by omega) hbase ?_
  · have hj : j < ys.length := by
      have := (List.getElem?_eq_some_iff.1 hu).1
      rwa [nums_length] at this
    rw [nums_get hj] at hu
    rw [hc j hj]; exact hu
  · unfold nums at hu
    obtain ⟨z, _, rfl⟩ := List.mem_map.1 hu
    rfl
  · intro v' w' h2 h3 _
    refine h v' w' ⟨?_, ws_append hown.2 hy⟩ h3
    rw [List.length_append, nums_append, hl]
    exact h2
theorem make64 (t : TypeId) (ht : Tryd.prog.underlying t = some (.slice 22)) (l c : Nat) (l' c' : Int) (hl : l' = l) (hc : c' = c) (hlc : l ≤ c) (hcm : c ≤ 35184372088832) (W : World) :
    (Instr.makeSlice t (.int .i64 l') (.int .i64 c')).run Tryd.prog W = .ok (.slice (some ⟨W.heap.size, 0, none⟩) l c) (W.alloc (.cells (madeCells #[.int .u64 0] c) 22)) := by
  subst hl hc
  have := run_make64 t ht l c (by omega) (by omega) (by omega) W
  rw [Int.toNat_natCast, Int.toNat_natCast] at this
  exact this
theorem built1 (w : World) (t : TypeId) (x : Int) : ∀ j, j < [x].length → (w.alloc (.cells #[.int .u64 x] t)).cell? ((⟨w.heap.size, 0, none⟩ : Addr).add j) = some (.int .u64 (rd [x] j)) := fun j hj => by
  obtain rfl : j = 0 := by simpa using hj
  exact (cs_new w #[.int .u64 x] t).cell 0 rfl
theorem built2 (w : World) (t : TypeId) (x y : Int) : ∀ j, j < [x, y].length → (w.alloc (.cells #[.int .u64 x, .int .u64 y] t)).cell? ((⟨w.heap.size, 0, none⟩ : Addr).add j) = some (.int .u64 (rd [x, y] j)) := fun j hj => by
  have hj : j < 2 := hj
  rcases j with _ | _ | j
  · exact (cs_new w #[.int .u64 x, .int .u64 y] t).cell 0 rfl
  · exact (cs_new w #[.int .u64 x, .int .u64 y] t).cell 1 rfl
  · omega
theorem Own.alloc {w : World} {base : Nat} {v : Value} {xs : List Int} (h : Own w base v xs) (o : Obj) : Own (w.alloc o) base v xs := h.grown0 (gb_alloc (gb_refl w none) o)
end Go.Proofs.YtoiclkaecgpbbaaDoor
