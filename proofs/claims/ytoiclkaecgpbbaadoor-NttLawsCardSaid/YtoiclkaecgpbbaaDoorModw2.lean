/- Residues of a word: Montgomery's form, Shoup's quotient, sums and products, powers. -/
import Derived.Test.YtoiclkaecgpbbaaDoorModw
import Derived.Deep.RegionHeld3
namespace Go.Proofs.YtoiclkaecgpbbaaDoor
open Go.RowKit

theorem Md.neg0 {w : World} {g : Nat} {p : Int} (h : Md w g p) : 0 < p := by have := h.pm.lo; omega
/-- A word of the Montgomery kind, found. -/
theorem mont_found {p r x : Int} (hp : Pm p) (h0 : 0 ≤ r) (h1 : r < p) (h : Cg p (r * 18446744073709551616) (x * 18446744073709551616)) : r = x % p :=
  (Cg.cancel64 hp.odd (by have := hp.lo; omega) h).eq_mod h0 h1
theorem mont_c (w : World) (g : Nat) (p a : Int) (h : Md w g p) (ha : 0 ≤ a) (ha' : a < p) :
    Calls Tryd.prog 90 #[.pointer (some ⟨g, 0, none⟩), .int .u64 a] w fun e w' => e = .returned (.int .u64 (a * 18446744073709551616 % p)) ∧ w' = w := by
  have hc := h.two
  have hp := h.pm.lo
  have hp' := h.pm.hi
  have t0 := Int.emod_nonneg (18446744073709551616 * 18446744073709551616) (show p ≠ 0 by omega)
  have t1 := Int.emod_lt_of_pos (18446744073709551616 * 18446744073709551616) (show 0 < p by omega)
  obtain ⟨t, ht⟩ : ∃ t, t = 18446744073709551616 * 18446744073709551616 % p := ⟨_, rfl⟩
  rw [← ht] at hc t0 t1
  have kt : Cg p t (18446744073709551616 * 18446744073709551616) := by rw [ht]; exact Cg.mod _ _
  have m1 := hi_lt ha ha' t0 (show t < 18446744073709551616 by omega)
  have m0 : 0 ≤ a * t / 18446744073709551616 := Int.ediv_nonneg (Int.mul_nonneg ha t0) (by decide)
  have fin : ∀ r, 0 ≤ r → r < p → Cg p (r * 18446744073709551616) (a * t / 18446744073709551616 * 18446744073709551616 + a * t % 18446744073709551616) → r = a * 18446744073709551616 % p := fun r r0 r1 k => by
    rw [word_eq] at k
    refine mont_found h.pm r0 r1 (k.trans ((kt.mull a).trans (Cg.of_eq ?_)))
    grind
  have FIN := Lib.hid fin
  clear fin kt ht
  go_enter Tryd.func90, Tryd.ntmps90
  go_wp2_with fail
  refine (mul64_c a t ha (by omega) t0 (by omega) _).mono ?_
  rintro e w' ⟨rfl, rfl⟩
  go_wp2_with fail
  refine (redc_c _ g p _ _ h m0 m1 (by omega) (by omega)).mono ?_
  rintro e w' ⟨r, rfl, r0, r1, k, rfl⟩
  have := FIN.out r r0 r1 k
  subst this
  clear FIN k r0 r1
  go_wp2
  go_ret
  exact ⟨rfl, rfl⟩
theorem modShoup_c (w : World) (g : Nat) (p a : Int) (h : Md w g p) (ha : 0 ≤ a) :
    Calls Tryd.prog 94 #[.pointer (some ⟨g, 0, none⟩), .int .u64 a] w fun e w' => e = .returned (.int .u64 (a % p * 18446744073709551616 / p)) ∧ w.grownBy w' none := by
  have hc := h.c0
  have hp := h.neg0
  have hp' := h.pm.hi
  have a0 := Int.emod_nonneg a (show p ≠ 0 by omega)
  have a1 := Int.emod_lt_of_pos a hp
  go_enter Tryd.func94, Tryd.ntmps94
  go_wp2
  refine Canon.region_canon (by kernel_rfl) (by kernel_rfl) ?_
  go_wp2_with fail
  refine (div64_c _ 0 p a0 (by decide) (by decide) a1 (by omega) _).mono ?_
  rintro e w1 ⟨rfl, g1⟩
  rw [Int.add_zero]
  go_wp2
  refine ⟨by kernel_rfl, ?_⟩
  go_wp2
  go_ret
  exact ⟨rfl, gb_trans (gb_drew (gb_refl _ _)) g1⟩
/-- Shoup's product. -/
theorem shoup_words {p a v : Int} (hp : Pm p) (a0 : 0 ≤ a) (a1 : a < p) (v0 : 0 ≤ v) (v1 : v < p) :
    ∃ q, a * (v * 18446744073709551616 / p) / 18446744073709551616 = q ∧ 0 ≤ v * 18446744073709551616 / p ∧ v * 18446744073709551616 / p < 18446744073709551616 ∧ 0 ≤ a * v - q * p ∧ a * v - q * p < 2 * p := by
  have hp0 := hp.lo
  have hp1 := hp.hi
  have e1 := Int.mul_ediv_add_emod (v * 18446744073709551616) p
  have t0 := Int.emod_nonneg (v * 18446744073709551616) (show p ≠ 0 by omega)
  have t1 := Int.emod_lt_of_pos (v * 18446744073709551616) (show 0 < p by omega)
  have s0 : 0 ≤ v * 18446744073709551616 / p := Int.ediv_nonneg (by omega) (by omega)
  have s1 : v * 18446744073709551616 / p < 18446744073709551616 := Int.ediv_lt_of_lt_mul (by omega) (by omega)
  obtain ⟨s, hs⟩ : ∃ s, s = v * 18446744073709551616 / p := ⟨_, rfl⟩
  obtain ⟨t, ht⟩ : ∃ t, t = v * 18446744073709551616 % p := ⟨_, rfl⟩
  rw [← hs, ← ht] at e1
  rw [← ht] at t0 t1
  rw [← hs] at s0 s1 ⊢
  clear hs ht
  have e2 : a * s = a * s / 18446744073709551616 * 18446744073709551616 + a * s % 18446744073709551616 := (word_eq _).symm
  have u0 := Int.emod_nonneg (a * s) (show (18446744073709551616 : Int) ≠ 0 by decide)
  have u1 := Int.emod_lt_of_pos (a * s) (show (0 : Int) < 18446744073709551616 by decide)
  obtain ⟨q, hq⟩ : ∃ q, q = a * s / 18446744073709551616 := ⟨_, rfl⟩
  obtain ⟨u, hu⟩ : ∃ u, u = a * s % 18446744073709551616 := ⟨_, rfl⟩
  rw [← hq, ← hu] at e2
  rw [← hu] at u0 u1
  refine ⟨q, hq.symm, s0, s1, ?_⟩
  clear hq hu
  have key : (a * v - q * p) * 18446744073709551616 = u * p + a * t := by grind
  have k1 : u * p ≤ 18446744073709551615 * p := Int.mul_le_mul_of_nonneg_right (by omega) (by omega)
  have k0 : 0 ≤ u * p := Int.mul_nonneg u0 (by omega)
  have l0 : 0 ≤ a * t := Int.mul_nonneg a0 t0
  have l1 : a * t ≤ 4611686018427387904 * p := by
    have h1 := Int.mul_le_mul_of_nonneg_right (show a ≤ 4611686018427387904 by omega) t0
    have h2 : 4611686018427387904 * t ≤ 4611686018427387904 * p := by omega
    omega
  obtain ⟨d, hd⟩ : ∃ d, d = a * v - q * p := ⟨_, rfl⟩
  rw [← hd] at key ⊢
  obtain ⟨x, hx⟩ : ∃ x, x = u * p := ⟨_, rfl⟩
  obtain ⟨y, hy⟩ : ∃ y, y = a * t := ⟨_, rfl⟩
  rw [← hx] at key k0 k1
  rw [← hy] at key l0 l1
  omega
theorem wrap_sub (x y r : Int) (h : x - y = r) (h0 : 0 ≤ r) (h1 : r < 18446744073709551616) : IntKind.u64.wrap (IntKind.u64.wrap x - IntKind.u64.wrap y) = r := by
  simp only [IntKind.wrap_u64]; omega
theorem modShoupMul_c (w : World) (g : Nat) (p a v s : Int) (h : Md w g p) (ha : 0 ≤ a) (hv : 0 ≤ v) (hs : s = v % p * 18446744073709551616 / p) :
    Calls Tryd.prog 97 #[.pointer (some ⟨g, 0, none⟩), .int .u64 a, .int .u64 v, .int .u64 s] w fun e w' => e = .returned (.int .u64 (a * v % p)) ∧ w.grownBy w' none := by
  have hc := h.c0
  have hp := h.neg0
  have hp' := h.pm.hi
  have a0 := Int.emod_nonneg a (show p ≠ 0 by omega)
  have a1 := Int.emod_lt_of_pos a hp
  have v0 := Int.emod_nonneg v (show p ≠ 0 by omega)
  have v1 := Int.emod_lt_of_pos v hp
  have hk : Cg p (a % p * (v % p)) (a * v) := (Cg.mod p a).mul (Cg.mod p v)
  obtain ⟨q, hq, s0, s1, d0, d1⟩ := shoup_words h.pm a0 a1 v0 v1
  rw [← hs] at hq s0 s1
  obtain ⟨d, hd⟩ : ∃ d, d = a % p * (v % p) - q * p := ⟨_, rfl⟩
  rw [← hd] at d0 d1
  have e1 : IntKind.u64.wrap (IntKind.u64.wrap (a % p * (v % p)) - IntKind.u64.wrap (q * p)) = d := wrap_sub _ _ d hd.symm d0 (by omega)
  have e2 : d % p = a * v % p := by
    have : Cg p d (a % p * (v % p)) := by
      rw [hd, Int.sub_eq_add_neg, show -(q * p) = p * (-q) by grind]; exact Cg.add_mult p _ _
    exact this.trans hk
  have e3 : p ≤ d → d - p = a * v % p := fun hge => by
    rw [← e2, ← Int.sub_emod_right, Int.emod_eq_of_lt (by omega) (by omega)]
  have e4 : d < p → d = a * v % p := fun hlt => by rw [← e2, Int.emod_eq_of_lt d0 hlt]
  have m0 := Int.emod_nonneg (a * v) (show p ≠ 0 by omega)
  have m1 := Int.emod_lt_of_pos (a * v) hp
  obtain ⟨m, hm⟩ : ∃ m, m = a * v % p := ⟨_, rfl⟩
  rw [← hm] at e3 e4 m0 m1 ⊢
  have em : m % p = m := Int.emod_eq_of_lt m0 m1
  have HQ := Lib.hid hq
  clear hm e2 hk hd hq hs
  by_cases hge : p ≤ d
  · have e5 := e3 hge
    have e6 : (d - p) % p = m := by rw [e5]; exact em
    clear e3 e4
    go_enter Tryd.func97, Tryd.ntmps97
    go_wp2
    refine Canon.region_canon (by kernel_rfl) (by kernel_rfl) ?_
    go_wp2
    refine ⟨by kernel_rfl, ?_⟩
    go_wp2_with fail
    refine (mul64_c _ _ a0 (by omega) s0 s1 _).mono ?_
    rintro e w' ⟨rfl, rfl⟩
    rw [HQ.out]
    go_wp2
    go_ret
    refine ⟨?_, gb_drew (gb_refl _ _)⟩
    first | rfl | (show Ending.returned (.int .u64 (m % p)) = _; rw [em]) | (show Ending.returned (.int .u64 ((d - p) % p)) = _; rw [e6])
  · have hlt : d < p := by omega
    have e5 := e4 hlt
    subst e5
    clear e3 e4 hge
    go_enter Tryd.func97, Tryd.ntmps97
    go_wp2
    refine Canon.region_canon (by kernel_rfl) (by kernel_rfl) ?_
    go_wp2
    refine ⟨by kernel_rfl, ?_⟩
    go_wp2_with fail
    refine (mul64_c _ _ a0 (by omega) s0 s1 _).mono ?_
    rintro e w' ⟨rfl, rfl⟩
    rw [HQ.out]
    go_wp2
    go_ret
    refine ⟨?_, gb_drew (gb_refl _ _)⟩
    first | rfl | (show Ending.returned (.int .u64 (d % p)) = _; rw [em])
end Go.Proofs.YtoiclkaecgpbbaaDoor
