/- Chapter 9: carried sums. -/
import Derived.Test.YteklffikijpocaaConv1
import Derived.Test.YteklffikijpocaaNum7
import Derived.Test.YteklffikijpocaaNum5
import Derived.Test.YteklffikijpocaaNum4
import Derived.Test.YteklffikijpocaaKeep
namespace Go.Proofs.Yteklffikijpocaa
open Go.RowKit

theorem sl_lit (w : World) (t : TypeId) (cs : Array Value) (xs : List Int) (n : Nat) (hc : cs.toList = nums xs) (hw : Ws xs) (hl : xs.length = n) (hn : n ≤ 1000000) :
    Sl (w.alloc (.cells cs t)) (.slice (some ⟨w.heap.size, 0, none⟩) n n) xs := by
  subst hl
  refine ⟨_, xs.length, rfl, Nat.le_refl _, by omega, hw, fun _ => ⟨_, 0, rfl, fun j hj => ?_⟩⟩
  rw [Nat.zero_add]
  exact (cs_new w cs t).cell j (by rw [hc]; exact nums_get hj)
theorem ws_three {a b c : Int} (ha : 0 ≤ a ∧ a < 18446744073709551616) (hb : 0 ≤ b ∧ b < 18446744073709551616) (hc : 0 ≤ c ∧ c < 18446744073709551616) : Ws [a, b, c] := fun x hx => by
  simp at hx; rcases hx with rfl | rfl | rfl <;> assumption
theorem cells3_lit (w : World) (t : TypeId) (cs : Array Value) (xs : List Int) (n : Nat) (hc : cs.toList = nums xs) (hl : xs.length = n * 3) (hn : n ≤ 1000000) :
    Cells (w.alloc (.cells cs t)) (.slice (some ⟨w.heap.size, 0, none⟩) n n) n 3 (fun j => .int .u64 (rd xs j)) :=
  ⟨_, n, rfl, Nat.le_refl _, by omega, fun _ => ⟨_, 0, rfl, fun j hj => by
    rw [Nat.zero_add]
    exact (cs_new w cs t).cell j (by rw [hc]; exact nums_get (by omega))⟩⟩
/-- A row of threes of the call's own. -/
def Own3 (w : World) (base : Nat) (v : Value) (n : Nat) (xs : List Int) : Prop := w.ownsRow base 42 3 v n (nums xs) ∧ Ws xs ∧ xs.length = n * 3
theorem own3_nil (w : World) (base : Nat) : Own3 w base (.slice none 0 0) 0 [] := ⟨⟨by simp [nums], .inl ⟨rfl, rfl⟩⟩, ws_nil, rfl⟩
theorem Own3.grown0 {w w' : World} {base n : Nat} {v : Value} {xs : List Int} (h : Own3 w base v n xs) (hg : w.grownBy w' none) : Own3 w' base v n xs :=
  ⟨h.1.kept hg (by cases v.ownBlock <;> simp), h.2⟩
theorem Own3.gb {w w0 w' : World} {n : Nat} {v : Value} {xs : List Int} (h : Own3 w w0.heap.size v n xs) (g : w0.grownBy w none) (k : w.grownBy w' v.ownBlock) : w0.grownBy w' none :=
  gb_new g k (fun i hi => (h.1.lt i hi).1)
theorem Own3.cells {w : World} {base n : Nat} {v : Value} {xs : List Int} (h : Own3 w base v n xs) : Cells w v n 3 (fun j => .int .u64 (rd xs j)) := by
  rcases h.1.2 with ⟨rfl, rfl⟩ | ⟨g, cap, cur, rfl, hg, hh, h1, h2, _⟩
  · exact cells_none _ _ _
  · refine ⟨_, cap, rfl, h1, by simpa [maxLen] using h2, fun _ => ⟨g, 0, rfl, fun j hj => ?_⟩⟩
    rw [Nat.zero_add]
    have := World.ownsRow.cellAt h.1 j hj
    rw [this, nums_get (by rw [h.2.2]; exact hj)]
theorem info_three : (Try.prog.info? 42).map (fun i => (i.zero, i.size, i.bytes)) = some (some (.agg #[.int .u64 0, .int .u64 0, .int .u64 0]), 3, 24) := by kernel_rfl
theorem own3_append {w : World} {base : Nat} {ops : Array Oper} {rest : List Oper} {o : Oper} {a : Act} {Q : Exit → Act → World → Prop} (t : TypeId) (ht : Try.prog.underlying t = some (.slice 42))
    (s x : Operand) (hgd : o.guard = none) (ho : o.op = .call { callee := .builtin .append, args := #[s, x], argTypes := #[t, t] })
    (v : Value) (n : Nat) (xs : List Int) (hs : a.eval s = v) (hown : Own3 w base v n xs)
    (ad : Addr) (m c : Nat) (ys : List Int) (hx : a.eval x = .slice (some ad) m c) (hl : ys.length = m * 3) (hy : Ws ys)
    (hc : ∀ j, j < ys.length → w.cell? (ad.add j) = some (.int .u64 (rd ys j))) (hb : n + m ≤ 100000000000) (hbase : base ≤ w.heap.size)
    (h : ∀ v' w', Own3 w' base v' (n + m) (xs ++ ys) → w.grownBy w' v.ownBlock → wpList Try.prog ops Q rest (a.put o.dst v') w') : wpList Try.prog ops Q (o :: rest) a w := by
  obtain ⟨i, hi, he⟩ := Option.map_eq_some_iff.1 info_three
  simp only [Prod.mk.injEq] at he
  refine wpList_append_own w hgd s x t ho base 42 i (.agg #[.int .u64 0, .int .u64 0, .int .u64 0]) 3 24 ht hi he.1 he.2.1 he.2.2 rfl (by decide) v n (nums xs) hs hown.1 ad m c (nums ys) hx (by rw [nums_length, hl]) (fun j u hu => ?_) (fun u hu => ?_) (by unfold maxLen; omega) (by omega) hbase ?_
  · have hj : j < ys.length := by
      have := (List.getElem?_eq_some_iff.1 hu).1
      rwa [nums_length] at this
    rw [nums_get hj] at hu
    rw [hc j hj]; exact hu
  · unfold nums at hu
    obtain ⟨z, _, rfl⟩ := List.mem_map.1 hu
    rfl
  · intro v' w' h2 h3 _
    refine h v' w' ⟨?_, ws_append hown.2.1 hy, by rw [List.length_append, hown.2.2, hl, Nat.add_mul]⟩ h3
    rw [nums_append]
    exact h2
theorem sl_three2 (w : World) (o : Obj) (t : TypeId) {a b c : Int} (hw : Ws [a, b, c]) :
    Sl ((w.alloc o).alloc (.cells #[.int .u64 a, .int .u64 b, .int .u64 c] t)) (.slice (some ⟨w.heap.size + 1, 0, none⟩) 3 3) [a, b, c] := by
  have h := sl_lit (w.alloc o) t #[.int .u64 a, .int .u64 b, .int .u64 c] [a, b, c] 3 rfl hw rfl (by decide)
  have e : (w.alloc o).heap.size = w.heap.size + 1 := by simp
  rw [e] at h
  exact h
set_option maxRecDepth 100000 in
theorem three_c (w : World) (a b c : Int) (ha : 0 ≤ a ∧ a < 18446744073709551616) (hb : 0 ≤ b ∧ b < 18446744073709551616) (hc : 0 ≤ c ∧ c < 18446744073709551616) :
    Calls Try.prog 27 #[.agg #[.int .u64 a, .int .u64 b, .int .u64 c]] w fun e w' => ∃ u, e = .returned u ∧ Nm w' u (val B64 [a, b, c]) 6 ∧ w.grownBy w' none := by
  have hw := ws_three ha hb hc
  have HW := Lib.hid hw
  clear hw
  go_enter Try.func27, Try.ntmps27
  go_wp2_with fail
  refine (from_c _ _ [a, b, c] 3 (sl_three2 _ _ _ HW.out) (Nat.le_refl 3) (by decide)).mono ?_
  rintro e w1 ⟨u, rfl, N, g⟩
  go_wp2
  go_ret
  exact ⟨u, rfl, N, gb_trans (gb_alloc (gb_alloc (gb_refl _ _) _) _) g⟩
set_option maxRecDepth 100000 in
theorem wakes09_c (w : World) : Calls Try.prog 30 #[] w fun e w' => e = .returned (.bool true) ∧ w.grownBy w' none := by
  have hw : Ws [5, 1, 0, 7, 0, 0] := fun x hx => by
    simp at hx; omega
  have hw2 : Ws [5, 8] := fun x hx => by
    simp at hx; omega
  have hv : ∀ zs, Ws zs → Nz zs → val B64 zs = sumT (t3 [5, 1, 0, 7, 0, 0]) 2 → zs = [5, 8] := fun zs h1 h2 h3 =>
    dg_ext (B := B64) (by decide) h1.dg hw2.dg h2 rfl (by rw [h3]; decide)
  have HV := Lib.hid hv
  have HW := Lib.hid hw
  have HW2 := Lib.hid hw2
  clear hv hw hw2
  go_enter Try.func30, Try.ntmps30
  go_wp2_with fail
  refine (carry_c _ _ [5, 1, 0, 7, 0, 0] 2 (cells3_lit _ _ _ _ _ rfl rfl (by decide)) HW.out (by decide)).mono ?_
  rintro e w1 ⟨x, rfl, ⟨zs, ow, nz, hz⟩, g⟩
  obtain rfl := HV.out zs ow.ws nz hz
  have OW := Lib.hid ow.sl
  clear ow nz hz
  go_wp2_with fail
  refine (same_c _ _ _ _ _ (OW.out.grown0 (gb_alloc (gb_refl _ _) _)) (sl_lit _ _ _ [5, 8] 2 rfl HW2.out rfl (by decide))).mono ?_
  rintro e w2 ⟨rfl, g2⟩
  go_wp2
  go_ret
  exact ⟨rfl, gb_trans (gb_alloc (gb_trans (gb_alloc (gb_refl _ _) _) g) _) g2⟩
end Go.Proofs.Yteklffikijpocaa
