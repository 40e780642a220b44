/- Memory: rows of words that are read, rows of the call's own. -/
import Derived.Test.YtoiclkaecgpbbaaDoorCanon3
import Derived.WalkKit
import Derived.Below
import Derived.RowKit
import Derived.OwnWalk
import Derived.Laws.OwnMore
import Derived.Laws.MakeOwn
import Derived.Deep.OwnRows
import Derived.Deep.Draws
import Derived.Lib.Hide
import Derived.Outline
namespace Go.Proofs.YtoiclkaecgpbbaaDoor
open Go.RowKit

/-! ### Words -/
def Ws (xs : List Int) : Prop := ∀ x ∈ xs, 0 ≤ x ∧ x < 18446744073709551616
def rd (xs : List Int) (i : Nat) : Int := xs.getD i 0
def nums (xs : List Int) : List Value := xs.map fun x => .int .u64 x
theorem rd_w {xs : List Int} (h : Ws xs) (i : Nat) : 0 ≤ rd xs i ∧ rd xs i < 18446744073709551616 := by
  unfold rd
  by_cases hi : i < xs.length
  · rw [List.getD_eq_getElem?_getD, List.getElem?_eq_getElem hi]; exact h _ (List.getElem_mem hi)
  · rw [List.getD_eq_getElem?_getD, List.getElem?_eq_none (by omega)]; exact ⟨by decide, by decide⟩
theorem ws_nil : Ws [] := fun _ h => by cases h
theorem ws_append {xs ys : List Int} (h : Ws xs) (k : Ws ys) : Ws (xs ++ ys) := fun x hx => (List.mem_append.1 hx).elim (h x) (k x)
theorem ws_one {x : Int} (h0 : 0 ≤ x) (h1 : x < 18446744073709551616) : Ws [x] := fun y hy => by obtain rfl := List.mem_singleton.1 hy; exact ⟨h0, h1⟩
theorem ws_take {xs : List Int} (h : Ws xs) (k : Nat) : Ws (xs.take k) := fun x hx => h x (List.mem_of_mem_take hx)
theorem ws_drop {xs : List Int} (h : Ws xs) (k : Nat) : Ws (xs.drop k) := fun x hx => h x (List.mem_of_mem_drop hx)
theorem ws_set {xs : List Int} (h : Ws xs) (k : Nat) {y : Int} (h0 : 0 ≤ y) (h1 : y < 18446744073709551616) : Ws (xs.set k y) := fun x hx => by
  rcases List.mem_or_eq_of_mem_set hx with hx | rfl
  · exact h x hx
  · exact ⟨h0, h1⟩
theorem ws_replicate (n : Nat) : Ws (List.replicate n 0) := fun x hx => by rw [List.eq_of_mem_replicate hx]; exact ⟨by decide, by decide⟩
theorem nums_length (xs : List Int) : (nums xs).length = xs.length := by simp [nums]
theorem nums_get {xs : List Int} {j : Nat} (hj : j < xs.length) : (nums xs)[j]? = some (.int .u64 (rd xs j)) := by
  simp [nums, rd, List.getD_eq_getElem?_getD, List.getElem?_eq_getElem hj]

/-! ### Worlds -/
theorem gb_refl (w : World) (row : Option Nat) : w.grownBy w row := ⟨rfl, rfl, rfl, Nat.le_refl _, fun _ _ _ => rfl⟩
theorem gb_trans {a b c : World} {row : Option Nat} (h : a.grownBy b row) (k : b.grownBy c row) : a.grownBy c row :=
  ⟨k.os.trans h.os, k.tape.trans h.tape, k.output.trans h.output, Nat.le_trans h.size k.size, fun i hi hr => (k.block i (Nat.lt_of_lt_of_le hi h.size) hr).trans (h.block i hi hr)⟩
theorem gb_none {a b : World} (h : a.grownBy b none) (row : Option Nat) : a.grownBy b row := ⟨h.os, h.tape, h.output, h.size, fun i hi _ => h.block i hi (by simp)⟩
theorem gb_drew {a b : World} {row : Option Nat} (h : a.grownBy b row) : a.grownBy b.drew row := ⟨h.os, h.tape, h.output, h.size, h.block⟩
theorem gb_alloc {a b : World} {row : Option Nat} (h : a.grownBy b row) (o : Obj) : a.grownBy (b.alloc o) row :=
  gb_trans h ⟨rfl, rfl, rfl, by simp, fun k hk _ => Below.heap_alloc _ _ _ hk⟩
/-- A row written that is not among the old ones. -/
theorem gb_new {a b c : World} {row row' : Option Nat} (h : a.grownBy b row) (k : b.grownBy c row') (hn : ∀ i, row' = some i → a.heap.size ≤ i) : a.grownBy c row :=
  ⟨k.os.trans h.os, k.tape.trans h.tape, k.output.trans h.output, Nat.le_trans h.size k.size, fun i hi hr =>
    (k.block i (Nat.lt_of_lt_of_le hi h.size) (fun e => by have := hn i e.symm; omega)).trans (h.block i hi hr)⟩
theorem gb_set {a b : World} {row : Option Nat} (h : a.grownBy b row) {p : Addr} (hp : a.heap.size ≤ p.block) (u : Value) : a.grownBy (b.setCell p u) row :=
  gb_new (row' := some p.block) h ⟨rfl, rfl, rfl, by simp [World.setCell], fun k _ hk => Below.heap_setCell _ _ _ _ (fun e => hk (by rw [e]))⟩ (fun i hi => by cases hi; exact hp)
theorem gb_below {a b : World} (h : a.grownBy b none) : Below a.heap.size a b := ⟨h.os, h.tape, h.output, h.size, fun i hi => h.block i hi (by simp)⟩
theorem gb_cell {a b : World} {row : Option Nat} (h : a.grownBy b row) {p : Addr} {v : Value} (hc : a.cell? p = some v) (hr : some p.block ≠ row) : b.cell? p = some v := by
  rw [← hc]; exact World.cell?_of_block (h.block p.block (World.block_lt_of_cell? a _ hc) hr)
theorem gb_cell0 {a b : World} (h : a.grownBy b none) {p : Addr} {v : Value} (hc : a.cell? p = some v) : b.cell? p = some v := gb_cell h hc (by simp)
theorem gb_block {a b : World} {row : Option Nat} (h : a.grownBy b row) {k : Nat} {o : Obj} (hc : a.heap[k]? = some o) (hr : some k ≠ row) : b.heap[k]? = some o := by
  rw [← hc]; exact h.block k (Array.getElem?_eq_some_iff.1 hc).1 hr

/-! ### A row that is read -/
def Sl (w : World) (v : Value) (xs : List Int) : Prop :=
  ∃ A c, v = .slice A xs.length c ∧ xs.length ≤ c ∧ c ≤ 9223372036854775807 ∧ Ws xs ∧
    (0 < xs.length → ∃ b o, A = some ⟨b, o, none⟩ ∧ ∀ j, j < xs.length → w.cell? ⟨b, o + j, none⟩ = some (.int .u64 (rd xs j)))
theorem Sl.ws {w : World} {v : Value} {xs : List Int} (h : Sl w v xs) : Ws xs := by obtain ⟨A, c, _, _, _, hw, _⟩ := h; exact hw
theorem Sl.grown {w w' : World} {v : Value} {xs : List Int} {row : Option Nat} (h : Sl w v xs) (hg : w.grownBy w' row) (hr : ∀ b, v.ownBlock = some b → some b ≠ row) : Sl w' v xs := by
  obtain ⟨A, c, rfl, h1, h2, h3, h4⟩ := h
  refine ⟨A, c, rfl, h1, h2, h3, fun hn => ?_⟩
  obtain ⟨b, o, rfl, hc⟩ := h4 hn
  exact ⟨b, o, rfl, fun j hj => gb_cell hg (hc j hj) (hr b rfl)⟩
theorem Sl.grown0 {w w' : World} {v : Value} {xs : List Int} (h : Sl w v xs) (hg : w.grownBy w' none) : Sl w' v xs := h.grown hg (fun _ _ => by simp)
/-- The row lies in memory that is there. -/
theorem Sl.lt {w : World} {v : Value} {xs : List Int} (h : Sl w v xs) (hn : 0 < xs.length) : ∃ b, v.ownBlock = some b ∧ b < w.heap.size := by
  obtain ⟨A, c, rfl, h1, h2, h3, h4⟩ := h
  obtain ⟨b, o, rfl, hc⟩ := h4 hn
  exact ⟨b, rfl, World.block_lt_of_cell? w _ (hc 0 hn)⟩

/-! ### A row of the call's own -/
def Own (w : World) (base : Nat) (v : Value) (xs : List Int) : Prop := w.ownsRow base 22 1 v xs.length (nums xs) ∧ Ws xs
theorem Own.ws {w : World} {base : Nat} {v : Value} {xs : List Int} (h : Own w base v xs) : Ws xs := h.2
theorem own_nil (w : World) (base : Nat) : Own w base (.slice none 0 0) [] := ⟨⟨by simp [nums], .inl ⟨rfl, rfl⟩⟩, ws_nil⟩
theorem Own.grown {w w' : World} {base : Nat} {v : Value} {xs : List Int} {row : Option Nat} (h : Own w base v xs) (hg : w.grownBy w' row) (hr : v.ownBlock = none ∨ v.ownBlock ≠ row) : Own w' base v xs := ⟨h.1.kept hg hr, h.2⟩
theorem Own.grown0 {w w' : World} {base : Nat} {v : Value} {xs : List Int} (h : Own w base v xs) (hg : w.grownBy w' none) : Own w' base v xs :=
  h.grown hg (by cases v.ownBlock <;> simp)
theorem Own.mono {w : World} {base base' : Nat} {v : Value} {xs : List Int} (h : Own w base v xs) (hb : base' ≤ base) : Own w base' v xs := by
  refine ⟨⟨h.1.1, ?_⟩, h.2⟩
  rcases h.1.2 with h1 | ⟨g, cap, cur, hv, hg, r⟩
  · exact .inl h1
  · exact .inr ⟨g, cap, cur, hv, Nat.le_trans hb hg, r⟩
theorem Own.drew {w : World} {base : Nat} {v : Value} {xs : List Int} (h : Own w base v xs) : Own w.drew base v xs := h
/-- Of which form the value is. -/
theorem Own.form {w : World} {base : Nat} {v : Value} {xs : List Int} (h : Own w base v xs) :
    (v = .slice none 0 0 ∧ xs = []) ∨ ∃ g c, v = .slice (some ⟨g, 0, none⟩) xs.length c ∧ base ≤ g ∧ g < w.heap.size ∧ xs.length ≤ c ∧ c ≤ 9223372036854775807 := by
  rcases h.1.2 with ⟨h1, h2⟩ | ⟨g, cap, cur, hv, hg, hh, h1, h2, _⟩
  · exact .inl ⟨h1, List.eq_nil_of_length_eq_zero h2⟩
  · exact .inr ⟨g, cap, hv, hg, (Array.getElem?_eq_some_iff.1 hh).1, h1, by simpa [maxLen] using h2⟩
theorem Own.cell {w : World} {base g c : Nat} {n : Nat} {xs : List Int} (h : Own w base (.slice (some ⟨g, 0, none⟩) n c) xs) (j : Nat) (hj : j < xs.length) : w.cell? ⟨g, j, none⟩ = some (.int .u64 (rd xs j)) := by
  have hn : n = xs.length := by
    rcases h.1.2 with ⟨h1, _⟩ | ⟨g, cap, cur, hv, _⟩
    · simp at h1
    · simp only [Value.slice.injEq] at hv; exact hv.2.1
  subst hn
  have := World.ownsRow.cellAt h.1 j (by omega)
  rw [this, nums_get hj]
theorem Own.free {w : World} {base g c : Nat} {n : Nat} {xs : List Int} (h : Own w base (.slice (some ⟨g, 0, none⟩) n c) xs) (j : Nat) : w.frozen? ⟨g, j, none⟩ = false := by
  have hn : n = xs.length := by
    rcases h.1.2 with ⟨h1, _⟩ | ⟨g, cap, cur, hv, _⟩
    · simp at h1
    · simp only [Value.slice.injEq] at hv; exact hv.2.1
  subst hn
  exact World.ownsRow.frozenAt h.1 j
theorem Own.store {w : World} {base g c : Nat} {n : Nat} {xs : List Int} (h : Own w base (.slice (some ⟨g, 0, none⟩) n c) xs) (j : Nat) {x : Int} (h0 : 0 ≤ x) (h1 : x < 18446744073709551616) :
    Own (w.setCell ⟨g, j, none⟩ (.int .u64 x)) base (.slice (some ⟨g, 0, none⟩) n c) (xs.set j x) := by
  have hn : n = xs.length := by
    rcases h.1.2 with ⟨h1, _⟩ | ⟨g, cap, cur, hv, _⟩
    · simp at h1
    · simp only [Value.slice.injEq] at hv; exact hv.2.1
  subst hn
  refine ⟨?_, ws_set h.2 j h0 h1⟩
  have := (World.ownsRow.stored h.1 j (.int .u64 x)).1
  have e : (nums xs).set j (.int .u64 x) = nums (xs.set j x) := by simp [nums, List.map_set]
  rw [e] at this
  simpa using this
theorem Own.base_le {w : World} {base g c : Nat} {n : Nat} {xs : List Int} (h : Own w base (.slice (some ⟨g, 0, none⟩) n c) xs) : base ≤ g ∧ g < w.heap.size := by
  rcases h.form with ⟨h1, _⟩ | ⟨g', c', hv, h1, h2, _⟩
  · simp at h1
  · simp only [Value.slice.injEq, Option.some.injEq, Addr.mk.injEq, and_true] at hv
    rw [hv.1]; exact ⟨h1, h2⟩
theorem Own.sl {w : World} {base : Nat} {v : Value} {xs : List Int} (h : Own w base v xs) : Sl w v xs := by
  rcases h.form with ⟨rfl, rfl⟩ | ⟨g, c, rfl, h1, h2, h3, h4⟩
  · exact ⟨none, 0, rfl, by simp, by omega, ws_nil, fun h => by simp at h⟩
  · exact ⟨_, c, rfl, h3, h4, h.2, fun _ => ⟨g, 0, rfl, fun j hj => by rw [Nat.zero_add]; exact h.cell j hj⟩⟩
/-- A piece of it from its head on. -/
theorem Own.take {w : World} {base : Nat} {A : Option Addr} {n c : Nat} {xs : List Int} (h : Own w base (.slice A n c) xs) (k : Nat) (hk : k ≤ xs.length) : Own w base (.slice A k c) (xs.take k) := by
  refine ⟨⟨by simp [nums, hk], ?_⟩, ws_take h.2 k⟩
  have e : (xs.take k).length = k := by simp [hk]
  rw [e]
  rcases h.1.2 with ⟨h1, h2⟩ | ⟨g, cap, cur, hv, hg, hh, h1, h2, h3, h4⟩
  · have : k = 0 := by omega
    subst this
    simp only [Value.slice.injEq] at h1
    exact .inl ⟨by rw [h1.1, h1.2.2], rfl⟩
  · simp only [Value.slice.injEq] at hv
    refine .inr ⟨g, cap, cur, by rw [hv.1, hv.2.2], hg, hh, by omega, h2, h3, ?_⟩
    have : (cur.toList.take (xs.length * 1)).take k = (nums xs).take k := by rw [h4]
    rw [List.take_take] at this
    rw [show min k (xs.length * 1) = k * 1 by omega] at this
    rw [this]; simp [nums, List.map_take]
theorem Own.len {w : World} {base : Nat} {A : Option Addr} {n c : Nat} {xs : List Int} (h : Own w base (.slice A n c) xs) : n = xs.length := by
  rcases h.form with ⟨h1, rfl⟩ | ⟨g, c, h1, _⟩ <;> simp only [Value.slice.injEq] at h1 <;> simp [h1.2.1]
theorem own_made (w : World) (base n c : Nat) (hb : base ≤ w.heap.size) (hnc : n ≤ c) (hn : c ≤ 9223372036854775807) :
    Own (w.alloc (.cells (madeCells #[.int .u64 0] c) 22)) base (.slice (some ⟨w.heap.size, 0, none⟩) n c) (List.replicate n 0) := by
  have := World.ownsRow_lit (base := base) (e := 22) (size := 1) w (madeCells #[.int .u64 0] c) c hb (by simpa [maxLen] using hn) (by simp [madeCells])
  have e : (madeCells #[.int .u64 0] c).toList = nums (List.replicate c 0) := by
    rw [toList_madeCells_one]; simp [nums]
  rw [e] at this
  have h : Own (w.alloc (.cells (madeCells #[.int .u64 0] c) 22)) base (.slice (some ⟨w.heap.size, 0, none⟩) c c) (List.replicate c 0) := ⟨by simpa using this, ws_replicate c⟩
  have h2 := h.take n (by simpa using hnc)
  rw [List.take_replicate, Nat.min_eq_left hnc] at h2
  exact h2
theorem info_u64 : (Tryd.prog.info? 22).map (fun i => (i.zero, i.size, i.bytes)) = some (some (.int .u64 0), 1, 8) := by kernel_rfl
/-- 'make([]uint64, l, c)': laid ahead of go_enter. -/
theorem run_make64 (t : TypeId) (ht : Tryd.prog.underlying t = some (.slice 22)) (l c : Int) (h0 : 0 ≤ l) (hlc : l ≤ c) (hc : c ≤ 35184372088832) (W : World) :
    (Instr.makeSlice t (.int .i64 l) (.int .i64 c)).run Tryd.prog W = .ok (.slice (some ⟨W.heap.size, 0, none⟩) l.toNat c.toNat) (W.alloc (.cells (madeCells #[.int .u64 0] c.toNat) 22)) := by
  obtain ⟨i, hi, hzz⟩ := Option.map_eq_some_iff.1 info_u64
  simp only [Prod.mk.injEq] at hzz
  obtain ⟨hz, hs, hb⟩ := hzz
  have := run_make (P := Tryd.prog) (w := W) t 22 i (.int .u64 0) ht hi hz .i64 .i64 l c h0 hlc (by rw [hb]; omega) (by omega)
  rw [hs, Nat.mul_one] at this
  exact this
/-! ### What comes in -/
theorem wf_u64 {n : Int} (h : (Lit.int .u64 n).wf = true) : 0 ≤ n ∧ n < 18446744073709551616 := by
  simp [Lit.wf, IntKind.min, IntKind.max, IntKind.bits, IntKind.signed] at h
  omega
theorem wf_i64 {n : Int} (h : (Lit.int .i64 n).wf = true) : -9223372036854775808 ≤ n ∧ n ≤ 9223372036854775807 := by
  simp [Lit.wf, IntKind.min, IntKind.max, IntKind.bits, IntKind.signed] at h
  omega
theorem sl_none (W : World) : Sl W (.slice none 0 0) [] := ⟨none, 0, rfl, by simp, by omega, ws_nil, fun h => by simp at h⟩
theorem sl_of_cells {W : World} {x : Addr} {len cap : Nat} {zs : List Int} (hl : len ≤ cap) (hm : cap ≤ maxLen) (hz : zs.length = cap)
    (hc : ∀ i, i < zs.length → W.cell? (x.add i) = some (.int .u64 (zs.getD i 0))) (hw : ∀ n ∈ zs, (Lit.int .u64 n).wf = true) : Sl W (.slice (some x) len cap) (zs.take len) := by
  have e : (zs.take len).length = len := by simp; omega
  refine ⟨some x, cap, by rw [e], by omega, by simpa [maxLen] using hm, fun y hy => wf_u64 (hw y (List.mem_of_mem_take hy)), fun hn => ?_⟩
  have h0 : x.spot = none := by
    have := hc 0 (by omega)
    unfold World.cell? at this
    simp only [Addr.add, if_true] at this
    split at this
    · split at this
      · cases this
      · rename_i h; cases hs : x.spot with
        | none => rfl
        | some q => rw [hs] at h; simp at h
    · cases this
  obtain ⟨b, o, sp⟩ := x
  simp only at h0
  subst h0
  refine ⟨b, o, rfl, fun j hj => ?_⟩
  have := hc j (by omega)
  have e2 : (⟨b, o, none⟩ : Addr).add j = ⟨b, o + j, none⟩ := by unfold Addr.add; split <;> simp_all
  rw [e2] at this
  rw [this]
  have : zs.getD j 0 = rd (zs.take len) j := by
    unfold rd
    rw [List.getD_eq_getElem?_getD, List.getD_eq_getElem?_getD, List.getElem?_take, if_pos (by omega)]
  rw [this]
/-- A slice of n elements of s cells each: the j-th cell is f j. -/
def Cells (w : World) (v : Value) (n s : Nat) (f : Nat → Value) : Prop :=
  ∃ A c, v = .slice A n c ∧ n ≤ c ∧ c ≤ 9223372036854775807 ∧ (0 < n → ∃ b o, A = some ⟨b, o, none⟩ ∧ ∀ j, j < n * s → w.cell? ⟨b, o + j, none⟩ = some (f j))
theorem Cells.grown0 {w w' : World} {v : Value} {n s : Nat} {f : Nat → Value} (h : Cells w v n s f) (hg : w.grownBy w' none) : Cells w' v n s f := by
  obtain ⟨A, c, rfl, h1, h2, h4⟩ := h
  refine ⟨A, c, rfl, h1, h2, fun hn => ?_⟩
  obtain ⟨b, o, rfl, hc⟩ := h4 hn
  exact ⟨b, o, rfl, fun j hj => gb_cell0 hg (hc j hj)⟩
theorem cells_none (W : World) (s : Nat) (f : Nat → Value) : Cells W (.slice none 0 0) 0 s f := ⟨none, 0, rfl, by simp, by omega, fun h => by simp at h⟩
theorem spot_of_cell {W : World} {x : Addr} {v : Value} (h : W.cell? (x.add 0) = some v) : x.spot = none := by
  unfold World.cell? at h
  simp only [Addr.add, if_true] at h
  split at h
  · split at h
    · cases h
    · rename_i h2; cases hs : x.spot with
      | none => rfl
      | some q => rw [hs] at h2; simp at h2
  · cases h
theorem cells_of {W : World} {x : Addr} {len cap s : Nat} {f : Nat → Value} (hl : len ≤ cap) (hm : cap ≤ maxLen) (hs : 0 < s)
    (hc : ∀ j, j < len * s → W.cell? (x.add j) = some (f j)) : Cells W (.slice (some x) len cap) len s f := by
  refine ⟨some x, cap, rfl, hl, by simpa [maxLen] using hm, fun hn => ?_⟩
  have h0 := spot_of_cell (hc 0 (Nat.mul_pos hn hs))
  obtain ⟨b, o, sp⟩ := x
  simp only at h0
  subst h0
  refine ⟨b, o, rfl, fun j hj => ?_⟩
  have := hc j hj
  have e2 : (⟨b, o, none⟩ : Addr).add j = ⟨b, o + j, none⟩ := by unfold Addr.add; split <;> simp_all
  rw [e2] at this
  exact this
end Go.Proofs.YtoiclkaecgpbbaaDoor
