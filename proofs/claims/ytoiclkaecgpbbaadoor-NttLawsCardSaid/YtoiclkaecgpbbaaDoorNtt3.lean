/- Transforms: the plan. -/
import Derived.Test.YtoiclkaecgpbbaaDoorNtt2
import Derived.Test.YtoiclkaecgpbbaaDoorModw7
import Derived.Test.YtoiclkaecgpbbaaDoorMeter
import Derived.Test.YtoiclkaecgpbbaaDoorRows3
import Derived.Deep.CutBlock
namespace Go.Proofs.YtoiclkaecgpbbaaDoor
open Go.RowKit

/-- The powers of r, and what Shoup says of each. -/
def Pws (w : World) (gm : Nat) (v vs : Value) (p r : Int) (n : Nat) : Prop := ∃ b bs, v = .slice (some ⟨b, 0, none⟩) n n ∧ vs = .slice (some ⟨bs, 0, none⟩) n n ∧ b ≠ gm ∧ bs ≠ gm ∧
  (∀ i, i < n → w.cell? ⟨b, i, none⟩ = some (.int .u64 (r ^ i % p))) ∧ (∀ i, i < n → w.cell? ⟨bs, i, none⟩ = some (.int .u64 (r ^ i % p * 18446744073709551616 / p)))
theorem Pws.grown {w w' : World} {gm : Nat} {v vs : Value} {p r : Int} {n : Nat} (h : Pws w gm v vs p r n) (g : w.grownBy w' (some gm)) : Pws w' gm v vs p r n := by
  obtain ⟨b, bs, h1, h2, h3, h4, h5, h6⟩ := h
  exact ⟨b, bs, h1, h2, h3, h4, fun i hi => gb_cell g (h5 i hi) (by simpa using h3), fun i hi => gb_cell g (h6 i hi) (by simpa using h4)⟩
theorem Pws.two {w w' : World} {gm t : Nat} {v vs : Value} {p r : Int} {n : Nat} (h : Pws w gm v vs p r n) (h2 : Pws w t v vs p r n) (g : w.grownBy w' (some t)) : Pws w' gm v vs p r n := by
  obtain ⟨b, bs, rfl, rfl, h3, h4, h5, h6⟩ := h
  obtain ⟨b', bs', e1, e2, k3, k4, _⟩ := h2
  simp only [Value.slice.injEq, Option.some.injEq, Addr.mk.injEq, and_true] at e1 e2
  subst e1 e2
  exact ⟨b, bs, rfl, rfl, h3, h4, fun i hi => gb_cell g (h5 i hi) (by simpa using k3), fun i hi => gb_cell g (h6 i hi) (by simpa using k4)⟩
theorem Pws.grown0 {w w' : World} {gm : Nat} {v vs : Value} {p r : Int} {n : Nat} (h : Pws w gm v vs p r n) (g : w.grownBy w' none) : Pws w' gm v vs p r n := h.grown (gb_none g _)
/-- Block t is a plan. -/
structure Pl (w : World) (t gm : Nat) (p r z : Int) (L : Nat) : Prop where
  gd : ∃ g, w.cell? ⟨t, 0, none⟩ = some (.pointer (some ⟨g, 0, none⟩)) ∧ Md w g p ∧ g ≠ gm
  c1 : w.cell? ⟨t, 1, none⟩ = some (.pointer (some ⟨gm, 0, none⟩))
  c2 : w.cell? ⟨t, 2, none⟩ = some (.int .i64 L)
  up : ∃ v vs, w.cell? ⟨t, 3, none⟩ = some v ∧ w.cell? ⟨t, 5, none⟩ = some vs ∧ Pws w gm v vs p r (2 ^ L / 2)
  dn : ∃ v vs, w.cell? ⟨t, 4, none⟩ = some v ∧ w.cell? ⟨t, 6, none⟩ = some vs ∧ Pws w gm v vs p z (2 ^ L / 2)
  c7 : ∃ u, w.cell? ⟨t, 7, none⟩ = some (.int .u64 u) ∧ 0 ≤ u ∧ u < p ∧ Cg p (u * ((2 ^ L : Nat) : Int)) 1
  tm : t ≠ gm
  L10 : L ≤ 10
  r0 : 0 ≤ r ∧ r < p
  z0 : 0 ≤ z ∧ z < p
  inv : Cg p (z * r) 1
  neg : L ≠ 0 → Cg p (r ^ 2 ^ (L - 1)) (-1)
theorem Pl.grown {w w' : World} {t gm : Nat} {p r z : Int} {L : Nat} (h : Pl w t gm p r z L) (k : w.grownBy w' (some gm)) : Pl w' t gm p r z L := by
  obtain ⟨⟨g, h1, h2, h3⟩, c1, c2, ⟨v, vs, u1, u2, u3⟩, ⟨y, ys, d1, d2, d3⟩, ⟨u, s1, s2⟩, tm, l, r0, z0, i, n⟩ := h
  have ht : some t ≠ some gm := by simpa using tm
  exact ⟨⟨g, gb_cell k h1 ht, h2.grown k (by simpa using h3), h3⟩, gb_cell k c1 ht, gb_cell k c2 ht, ⟨v, vs, gb_cell k u1 ht, gb_cell k u2 ht, u3.grown k⟩, ⟨y, ys, gb_cell k d1 ht, gb_cell k d2 ht, d3.grown k⟩, ⟨u, gb_cell k s1 ht, s2⟩, tm, l, r0, z0, i, n⟩
theorem size_c (w : World) (t gm : Nat) (p r z : Int) (L : Nat) (h : Pl w t gm p r z L) :
    Calls Tryd.prog 37 #[.pointer (some ⟨t, 0, none⟩)] w fun e w' => e = .returned (.int .i64 ((2 ^ L : Nat) : Int)) ∧ w' = w := by
  have c2 := h.c2
  have hL := h.L10
  obtain ⟨q, hq⟩ : ∃ q, q = 2 ^ L := ⟨_, rfl⟩
  have hq10 : q ≤ 2 ^ 10 := by rw [hq]; exact Nat.pow_le_pow_right (by decide) hL
  have eq : (2 : Int) ^ L = (q : Int) := by rw [hq, Int.natCast_pow]; rfl
  have hw : IntKind.i64.wrap (2 ^ L) = (q : Int) := by rw [eq, IntKind.wrap_i64]; omega
  have hw2 : IntKind.i64.wrap (1 * 2 ^ L) = (q : Int) := by rw [Int.one_mul]; exact hw
  rw [← hq]
  clear hq eq hq10 h
  go_enter Tryd.func37, Tryd.ntmps37
  go_wp2
  go_ret
  exact ⟨rfl, rfl⟩
end Go.Proofs.YtoiclkaecgpbbaaDoor
