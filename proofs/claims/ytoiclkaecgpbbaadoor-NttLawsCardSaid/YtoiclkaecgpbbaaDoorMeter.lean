/- The meter's methods. -/
import Derived.Test.YtoiclkaecgpbbaaDoorMem
namespace Go.Proofs.YtoiclkaecgpbbaaDoor
open Go.RowKit

/-- Block g begins with a meter. -/
structure Mt (w : World) (g : Nat) (a b c : Int) : Prop where
  c0 : w.cell? ⟨g, 0, none⟩ = some (.int .i64 a)
  c1 : w.cell? ⟨g, 1, none⟩ = some (.int .i64 b)
  c2 : w.cell? ⟨g, 2, none⟩ = some (.int .i64 c)
  f0 : w.frozen? ⟨g, 0, none⟩ = false
  f1 : w.frozen? ⟨g, 1, none⟩ = false
  f2 : w.frozen? ⟨g, 2, none⟩ = false
  a0 : 0 ≤ a
  b0 : 0 ≤ b
  c0' : 0 ≤ c
/-- Only the meter of block g may have changed. -/
structure MtOnly (w w' : World) (g : Nat) : Prop where
  gb : w.grownBy w' (some g)
  size : w'.heap.size = w.heap.size
  rest : ∀ j, 3 ≤ j → w'.cell? ⟨g, j, none⟩ = w.cell? ⟨g, j, none⟩
theorem MtOnly.refl (w : World) (g : Nat) : MtOnly w w g := ⟨gb_refl _ _, rfl, fun _ _ => rfl⟩
theorem MtOnly.trans {a b c : World} {g : Nat} (h : MtOnly a b g) (k : MtOnly b c g) : MtOnly a c g :=
  ⟨gb_trans h.gb k.gb, k.size.trans h.size, fun j hj => (k.rest j hj).trans (h.rest j hj)⟩
theorem MtOnly.drew {a b : World} {g : Nat} (h : MtOnly a b g) : MtOnly a b.drew g := ⟨gb_drew h.gb, h.size, h.rest⟩
theorem MtOnly.set {a b : World} {g : Nat} (h : MtOnly a b g) (j : Nat) (hj : j < 3) (u : Value) : MtOnly a (b.setCell ⟨g, j, none⟩ u) g := by
  refine h.trans ⟨⟨rfl, rfl, rfl, by simp [World.setCell], fun k _ hk => Below.heap_setCell _ _ _ _ (fun e => hk (by rw [e]))⟩, by simp [World.setCell], fun i hi => ?_⟩
  exact World.cell?_setCell_other _ _ _ _ (fun e => by simp only [Addr.mk.injEq] at e; omega)
theorem cell_ne (w : World) (g i j : Nat) (u : Value) (h : i ≠ j) : (w.setCell ⟨g, i, none⟩ u).cell? ⟨g, j, none⟩ = w.cell? ⟨g, j, none⟩ :=
  World.cell?_setCell_other _ _ _ _ (fun e => by simp only [Addr.mk.injEq] at e; exact h e.2.1)
theorem Mt.set0 {w : World} {g : Nat} {a b c x : Int} (h : Mt w g a b c) (hx : 0 ≤ x) : Mt (w.setCell ⟨g, 0, none⟩ (.int .i64 x)) g x b c :=
  ⟨World.cell?_setCell_same _ _ _ h.c0, (cell_ne _ _ _ _ _ (by decide)).trans h.c1, (cell_ne _ _ _ _ _ (by decide)).trans h.c2, by rw [World.frozen?_setCell]; exact h.f0, by rw [World.frozen?_setCell]; exact h.f1, by rw [World.frozen?_setCell]; exact h.f2, hx, h.b0, h.c0'⟩
theorem Mt.set1 {w : World} {g : Nat} {a b c x : Int} (h : Mt w g a b c) (hx : 0 ≤ x) : Mt (w.setCell ⟨g, 1, none⟩ (.int .i64 x)) g a x c :=
  ⟨(cell_ne _ _ _ _ _ (by decide)).trans h.c0, World.cell?_setCell_same _ _ _ h.c1, (cell_ne _ _ _ _ _ (by decide)).trans h.c2, by rw [World.frozen?_setCell]; exact h.f0, by rw [World.frozen?_setCell]; exact h.f1, by rw [World.frozen?_setCell]; exact h.f2, h.a0, hx, h.c0'⟩
theorem Mt.set2 {w : World} {g : Nat} {a b c x : Int} (h : Mt w g a b c) (hx : 0 ≤ x) : Mt (w.setCell ⟨g, 2, none⟩ (.int .i64 x)) g a b x :=
  ⟨(cell_ne _ _ _ _ _ (by decide)).trans h.c0, (cell_ne _ _ _ _ _ (by decide)).trans h.c1, World.cell?_setCell_same _ _ _ h.c2, by rw [World.frozen?_setCell]; exact h.f0, by rw [World.frozen?_setCell]; exact h.f1, by rw [World.frozen?_setCell]; exact h.f2, h.a0, h.b0, hx⟩
theorem Mt.other {w w' : World} {g h : Nat} {a b c : Int} (m : Mt w g a b c) (o : MtOnly w w' h) (hne : g ≠ h) : Mt w' g a b c := by
  have hb := o.gb.block g (World.block_lt_of_cell? w _ m.c0) (fun e => hne (Option.some.inj e))
  have e : ∀ j, w'.cell? ⟨g, j, none⟩ = w.cell? ⟨g, j, none⟩ := fun j => World.cell?_of_block hb
  have f : ∀ j, w'.frozen? ⟨g, j, none⟩ = w.frozen? ⟨g, j, none⟩ := fun j => World.frozen?_of_block hb
  exact ⟨(e 0).trans m.c0, (e 1).trans m.c1, (e 2).trans m.c2, (f 0).trans m.f0, (f 1).trans m.f1, (f 2).trans m.f2, m.a0, m.b0, m.c0'⟩
theorem Mt.grown {w w' : World} {g : Nat} {a b c : Int} (m : Mt w g a b c) (o : w.grownBy w' none) : Mt w' g a b c := by
  have hb := o.block g (World.block_lt_of_cell? w _ m.c0) (by simp)
  have e : ∀ j, w'.cell? ⟨g, j, none⟩ = w.cell? ⟨g, j, none⟩ := fun j => World.cell?_of_block hb
  have f : ∀ j, w'.frozen? ⟨g, j, none⟩ = w.frozen? ⟨g, j, none⟩ := fun j => World.frozen?_of_block hb
  exact ⟨(e 0).trans m.c0, (e 1).trans m.c1, (e 2).trans m.c2, (f 0).trans m.f0, (f 1).trans m.f1, (f 2).trans m.f2, m.a0, m.b0, m.c0'⟩
theorem Mt.drew {w : World} {g : Nat} {a b c : Int} (h : Mt w g a b c) : Mt w.drew g a b c := ⟨h.c0, h.c1, h.c2, h.f0, h.f1, h.f2, h.a0, h.b0, h.c0'⟩

theorem muls_c (w : World) (g : Nat) (a b c : Int) (h : Mt w g a b c) :
    Calls Tryd.prog 31 #[.pointer (some ⟨g, 0, none⟩)] w fun e w' => e = .returned (.int .i64 a) ∧ w' = w := by
  have h0 := h.c0
  go_enter Tryd.func31, Tryd.ntmps31
  go_wp2
  go_ret
  exact ⟨rfl, rfl⟩
theorem spend_c (w : World) (g : Nat) (a b c n : Int) (h : Mt w g a b c) (ha : a ≤ 4000000000000000000) (hn : n ≤ 4000000000000000000) :
    Calls Tryd.prog 83 #[.pointer (some ⟨g, 0, none⟩), .int .i64 n] w fun e w' => e = .returned (.int .i64 (if n > 0 then a + n else a)) ∧ Mt w' g (if n > 0 then a + n else a) b c ∧ MtOnly w w' g := by
  have h0 := h.a0
  have k1 := h.c0
  have f1 := h.f0
  by_cases hc : 0 < n
  · rw [if_pos hc]
    go_enter Tryd.func83, Tryd.ntmps83
    go_wp2
    go_ret
    exact ⟨rfl, h.set0 (by omega), (MtOnly.refl w g).set 0 (by decide) _⟩
  · rw [if_neg hc]
    have hc' : n ≤ 0 := by omega
    clear hc
    go_enter Tryd.func83, Tryd.ntmps83
    go_wp2
    go_ret
    exact ⟨rfl, h, MtOnly.refl w g⟩
theorem tmod_gt (v n : Int) (h : 0 < n) : -n < v.tmod n := by
  rcases Int.lt_or_le v 0 with hv | hv
  · have := Int.tmod_lt_of_pos (-v) h
    rw [Int.neg_tmod] at this; omega
  · have := Int.tmod_nonneg n hv; omega
theorem within_c (v n : Int) (h1 : 1 ≤ n) (hn : n ≤ 4000000000000000000) (w : World) :
    Calls Tryd.prog 23 #[.int .i64 v, .int .i64 n] w fun e w' => e = .returned (.int .i64 (v % n)) ∧ w' = w := by
  have e1 : v % n = if v.tmod n < 0 then v.tmod n + n else v.tmod n := by
    have ht := Int.tmod_add_mul_tdiv v n
    have hl := Int.tmod_lt_of_pos v (show 0 < n by omega)
    have hg : -n < v.tmod n := tmod_gt v n (by omega)
    have hdiv : ∀ r : Int, r = v.tmod n → (v % n = (r + n * v.tdiv n) % n) := fun r hr => by rw [hr, ht]
    rw [hdiv _ rfl, Int.add_mul_emod_self_left]
    split
    · rename_i h
      rw [← Int.add_emod_right, Int.emod_eq_of_lt (by omega) (by omega)]
    · exact Int.emod_eq_of_lt (by omega) hl
  have hl := Int.tmod_lt_of_pos v (show 0 < n by omega)
  have hg : -n < v.tmod n := tmod_gt v n (by omega)
  rw [e1]
  by_cases hc : v.tmod n < 0
  · rw [if_pos hc]
    clear e1
    go_enter Tryd.func23, Tryd.ntmps23
    go_wp2
    go_ret
    exact ⟨rfl, rfl⟩
  · rw [if_neg hc]
    have hc' : 0 ≤ v.tmod n := by omega
    clear hc e1
    go_enter Tryd.func23, Tryd.ntmps23
    go_wp2
    go_ret
    exact ⟨rfl, rfl⟩
end Go.Proofs.YtoiclkaecgpbbaaDoor
