/- Inverses modulo a word; the modulus made. -/
import Derived.Test.YtoiclkaecgpbbaaDoorModw5
namespace Go.Proofs.YtoiclkaecgpbbaaDoor
open Go.RowKit

theorem gcd_step (r s : Int) (hr : 0 ≤ r) (hs : 0 ≤ s) : Int.gcd s (r % s) = Int.gcd r s := by
  obtain ⟨x, rfl⟩ := nat_of hr
  obtain ⟨y, rfl⟩ := nat_of hs
  rw [modN, Int.gcd_natCast_natCast, Int.gcd_natCast_natCast, Nat.gcd_comm y, ← Nat.gcd_rec y x, Nat.gcd_comm]
theorem sub_quot (r s : Int) : r - r / s * s = r % s := by rw [Int.emod_def, Int.mul_comm]
/-- Euclid's state: x a is r, y a is s. -/
structure Eu (p a r s x y : Int) : Prop where
  r0 : 0 < r
  s0 : 0 ≤ s
  r1 : r ≤ p
  s1 : s < p
  x0 : 0 ≤ x
  x1 : x < p
  y0 : 0 ≤ y
  y1 : y < p
  cx : Cg p (x * a) r
  cy : Cg p (y * a) s
  gc : Int.gcd r s = Int.gcd p a
theorem Eu.start {p a : Int} (hp : 1 < p) (ha : 0 ≤ a) (ha' : a < p) : Eu p a p a 0 1 :=
  ⟨by omega, ha, by omega, ha', by omega, by omega, by omega, by omega, (Cg.of_eq (Int.zero_mul a)).trans ((Cg.multiple p 1).symm.trans (Cg.of_eq (Int.mul_one p))), Cg.of_eq (Int.one_mul a), rfl⟩
theorem Eu.step {p a r s x y z : Int} (h : Eu p a r s x y) (hs : 0 < s) (z0 : 0 ≤ z) (z1 : z < p) (hz : Cg p z (x - r / s * y)) : Eu p a s (r % s) y z :=
  ⟨hs, Int.emod_nonneg _ (by omega), by have := h.s1; omega, by have := h.s1; have := Int.emod_lt_of_pos r hs; omega, h.y0, h.y1, z0, z1, h.cy,
   (hz.mulr a).trans ((Cg.of_eq (show (x - r / s * y) * a = x * a - r / s * (y * a) by grind)).trans ((h.cx.sub (h.cy.mull (r / s))).trans (Cg.of_eq (sub_quot r s)))),
   by rw [gcd_step r s (by have := h.r0; omega) h.s0, h.gc]⟩
theorem Eu.last {p a r x y : Int} (h : Eu p a r 0 x y) : r = (Int.gcd p a : Int) := by
  rw [← h.gc, Int.gcd_zero_right]; have := h.r0; omega
theorem gcd_mod (p b : Int) (hp : 0 ≤ p) (hb : 0 ≤ b) : Int.gcd p (b % p) = Int.gcd p b := by
  rw [gcd_step b p hb hp, Int.gcd_comm]

/-- What an inverse's two answers are. -/
structure InvOf (p a x : Int) (b : Bool) : Prop where
  is : Int.gcd p a = 1 → b = true ∧ 0 ≤ x ∧ x < p ∧ Cg p (x * a) 1
  no : Int.gcd p a ≠ 1 → b = false ∧ x = 0
def InvRet (p a : Int) (e : Ending) : Prop := ∃ x f, e = .returned (.tuple #[.int .u64 x, .bool f]) ∧ InvOf p a x f
theorem modInv_c (w : World) (g : Nat) (p b : Int) (h : Md w g p) (hb : 0 ≤ b) :
    Calls Tryd.prog 79 #[.pointer (some ⟨g, 0, none⟩), .int .u64 b] w fun e w' => InvRet p b e ∧ w.grownBy w' none := by
  have hp := h.neg0
  have hp3 := h.pm.lo
  have hp' := h.pm.hi
  have hc := h.c0
  have a0 := Int.emod_nonneg b (show p ≠ 0 by omega)
  have a1 := Int.emod_lt_of_pos b hp
  have e0 : Eu p (b % p) p (b % p) 0 1 := Eu.start (by omega) a0 a1
  have hg := gcd_mod p b (by omega) hb
  have hcg := Cg.mod p b
  obtain ⟨a, ha⟩ : ∃ a, a = b % p := ⟨_, rfl⟩
  rw [← ha] at e0 a0 a1 hg hcg
  have HA := Lib.hid ha
  have HE := Lib.hid e0
  have HC := Lib.hid hcg
  have HG := Lib.hid hg
  clear ha e0 hcg hg
  go_enter Tryd.func79, Tryd.ntmps79
  go_wp2
  refine Canon.region_canon (by kernel_rfl) (by kernel_rfl) ?_
  go_wp2
  rw [← HA.out]
  refine ⟨by kernel_rfl, ?_⟩
  go_wp2
  go_loopw [6, 7, 8, 9] (fun v6 v7 v8 v9 wr => ∃ r s x y : Int, v6 = .int .u64 r ∧ v7 = .int .u64 s ∧ v8 = .int .u64 x ∧ v9 = .int .u64 y ∧ Eu p a r s x y ∧ w.grownBy wr none) (fun _ v7 _ _ _ => (intOf v7).toNat)
  case atStart => exact ⟨p, a, 0, 1, rfl, rfl, rfl, rfl, HE.out, gb_drew (gb_refl _ _)⟩
  case round =>
    clear HE
    obtain ⟨r, s, x, y, rfl, rfl, rfl, rfl, E, GG⟩ := hrel
    have hc := (h.grown0 GG).c0
    have r0 := E.r0
    have s0 := E.s0
    have r1 := E.r1
    have s1 := E.s1
    have x0 := E.x0
    have x1 := E.x1
    have y0 := E.y0
    have y1 := E.y1
    have EE := Lib.hid E
    clear E
    by_cases hs : 0 < s
    · have q0 : 0 ≤ r / s := Int.ediv_nonneg (by omega) s0
      have q1 : r / s ≤ r := Int.ediv_le_self _ (by omega)
      have m0 : 0 ≤ r % s := Int.emod_nonneg _ (by omega)
      have m1 : r % s < s := Int.emod_lt_of_pos _ hs
      have hq := sub_quot r s
      have k0 : 0 ≤ r / s % p := Int.emod_nonneg _ (by omega)
      have k1 : r / s % p < p := Int.emod_lt_of_pos _ hp
      have n0 : 0 ≤ r / s % p * y % p := Int.emod_nonneg _ (by omega)
      have n1 : r / s % p * y % p < p := Int.emod_lt_of_pos _ hp
      have mm : r / s * s ≤ r := by omega
      have mn : 0 ≤ r / s * s := Int.mul_nonneg q0 s0
      go_wp2_with fail
      refine (mmul_c _ g p _ _ (h.grown0 GG) k0 k1 y0 (by omega)).mono ?_
      rintro e w1 ⟨rfl, g1⟩
      go_wp2_with fail
      refine (msub_c _ g p _ _ (h.grown0 (gb_trans GG g1)) x0 x1 n0 n1).mono ?_
      rintro e w2 ⟨rfl, rfl⟩
      go_wp2
      go_roundw
      case rel => exact ⟨s, r % s, y, (x - r / s % p * y) % p, rfl, by first | rfl | rw [hq], rfl, rfl, EE.out.step hs (Int.emod_nonneg _ (by omega)) (Int.emod_lt_of_pos _ hp) ((Cg.mod p _).trans ((Cg.refl p x).sub ((Cg.mod p _).mulr y))), gb_trans GG g1⟩
      case measure => simp [intOf]; omega
    · obtain rfl : s = 0 := by omega
      have hl := EE.out.last
      rw [HG.out] at hl
      by_cases h1 : Int.gcd p b = 1
      · obtain rfl : r = 1 := by rw [hl, h1]; rfl
        clear hl
        have fin : InvOf p b x true := ⟨fun _ => ⟨rfl, x0, x1, (HC.out.symm.mull x).trans EE.out.cx⟩, fun k => absurd h1 k⟩
        have FIN := Lib.hid fin
        clear fin h1
        go_wp2
        go_ret2
        exact ⟨⟨x, true, rfl, FIN.out⟩, GG⟩
      · have r2 : r ≠ 1 := by intro k; rw [k] at hl; exact h1 (by omega)
        have fin : InvOf p b 0 false := ⟨fun k => absurd k h1, fun _ => ⟨rfl, rfl⟩⟩
        have FIN := Lib.hid fin
        clear hl h1 fin
        go_wp2
        go_ret2
        exact ⟨⟨0, false, rfl, FIN.out⟩, GG⟩
end Go.Proofs.YtoiclkaecgpbbaaDoor
