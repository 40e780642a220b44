/- Residues of a word: package modw. -/
import Derived.Test.YtoiclkaecgpbbaaDoorDiv64b
import Derived.Test.YtoiclkaecgpbbaaDoorArith
namespace Go.Proofs.YtoiclkaecgpbbaaDoor
open Go.RowKit

/-- A modulus that may be. -/
structure Pm (p : Int) : Prop where
  lo : 3 ≤ p
  hi : p < 4611686018427387904
  odd : p % 2 = 1
/-- Block g is the Mod of p. -/
structure Md (w : World) (g : Nat) (p : Int) : Prop where
  pm : Pm p
  c0 : w.cell? ⟨g, 0, none⟩ = some (.int .u64 p)
  neg : ∃ n : Int, w.cell? ⟨g, 1, none⟩ = some (.int .u64 n) ∧ 0 ≤ n ∧ n < 18446744073709551616 ∧ (p * n + 1) % 18446744073709551616 = 0
  one : w.cell? ⟨g, 2, none⟩ = some (.int .u64 (18446744073709551616 % p))
  two : w.cell? ⟨g, 3, none⟩ = some (.int .u64 (18446744073709551616 * 18446744073709551616 % p))
theorem Md.grown {w w' : World} {g : Nat} {p : Int} {row : Option Nat} (h : Md w g p) (hg : w.grownBy w' row) (hr : some g ≠ row) : Md w' g p := by
  obtain ⟨pm, c0, ⟨n, c1, hn⟩, c2, c3⟩ := h
  exact ⟨pm, gb_cell hg c0 hr, ⟨n, gb_cell hg c1 hr, hn⟩, gb_cell hg c2 hr, gb_cell hg c3 hr⟩
theorem Md.grown0 {w w' : World} {g : Nat} {p : Int} (h : Md w g p) (hg : w.grownBy w' none) : Md w' g p := h.grown hg (by simp)
theorem Md.drew {w : World} {g : Nat} {p : Int} (h : Md w g p) : Md w.drew g p := ⟨h.pm, h.c0, h.neg, h.one, h.two⟩

theorem modP_c (w : World) (g : Nat) (p : Int) (h : Md w g p) :
    Calls Tryd.prog 19 #[.pointer (some ⟨g, 0, none⟩)] w fun e w' => e = .returned (.int .u64 p) ∧ w' = w := by
  have h0 := h.c0
  go_enter Tryd.func19, Tryd.ntmps19
  go_wp2
  go_ret
  exact ⟨rfl, rfl⟩
theorem modRed_c (w : World) (g : Nat) (p a : Int) (h : Md w g p) (h0 : 0 ≤ a) :
    Calls Tryd.prog 95 #[.pointer (some ⟨g, 0, none⟩), .int .u64 a] w fun e w' => e = .returned (.int .u64 (a % p)) ∧ w' = w := by
  have hc := h.c0
  have hp := h.pm.lo
  go_enter Tryd.func95, Tryd.ntmps95
  go_wp2
  go_ret
  exact ⟨rfl, rfl⟩
/-- The small add, sub, mul: of numbers below p. -/
theorem madd_c (w : World) (g : Nat) (p x y : Int) (h : Md w g p) (hx : 0 ≤ x) (hx' : x < p) (hy : 0 ≤ y) (hy' : y < p) :
    Calls Tryd.prog 102 #[.pointer (some ⟨g, 0, none⟩), .int .u64 x, .int .u64 y] w fun e w' => e = .returned (.int .u64 ((x + y) % p)) ∧ w' = w := by
  have hc := h.c0
  have hp := h.pm.hi
  have e1 : p ≤ x + y → (x + y) % p = x + y - p := fun hge => by
    rw [← Int.sub_emod_right, Int.emod_eq_of_lt (by omega) (by omega)]
  have e2 : x + y < p → (x + y) % p = x + y := fun hlt => Int.emod_eq_of_lt (by omega) hlt
  by_cases hge : p ≤ x + y
  · rw [e1 hge]
    clear e1 e2
    go_enter Tryd.func102, Tryd.ntmps102
    go_wp2
    go_ret
    exact ⟨rfl, rfl⟩
  · have hlt : x + y < p := by omega
    rw [e2 hlt]
    clear e1 e2 hge
    go_enter Tryd.func102, Tryd.ntmps102
    go_wp2
    go_ret
    exact ⟨rfl, rfl⟩
theorem msub_c (w : World) (g : Nat) (p x y : Int) (h : Md w g p) (hx : 0 ≤ x) (hx' : x < p) (hy : 0 ≤ y) (hy' : y < p) :
    Calls Tryd.prog 93 #[.pointer (some ⟨g, 0, none⟩), .int .u64 x, .int .u64 y] w fun e w' => e = .returned (.int .u64 ((x - y) % p)) ∧ w' = w := by
  have hc := h.c0
  have hp := h.pm.hi
  have e1 : x < y → (x - y) % p = x + p - y := fun hge => by
    rw [← Int.add_emod_right, Int.emod_eq_of_lt (by omega) (by omega)]; omega
  have e2 : y ≤ x → (x - y) % p = x - y := fun hlt => Int.emod_eq_of_lt (by omega) (by omega)
  by_cases hge : x < y
  · rw [e1 hge]
    clear e1 e2
    go_enter Tryd.func93, Tryd.ntmps93
    go_wp2
    go_ret
    exact ⟨rfl, rfl⟩
  · have hlt : y ≤ x := by omega
    rw [e2 hlt]
    clear e1 e2 hge
    go_enter Tryd.func93, Tryd.ntmps93
    go_wp2
    go_ret
    exact ⟨rfl, rfl⟩
theorem hi_lt {x y p : Int} (hx : 0 ≤ x) (hx' : x < p) (hy : 0 ≤ y) (hy' : y < 18446744073709551616) : x * y / 18446744073709551616 < p := by
  refine Int.ediv_lt_of_lt_mul (by decide) ?_
  have h1 := Int.mul_le_mul (a := x) (b := y) (c := p - 1) (d := 18446744073709551615) (by omega) (by omega) hy (by omega)
  have : (p - 1) * 18446744073709551615 < p * 18446744073709551616 := by omega
  omega
theorem word_eq (x : Int) : x / 18446744073709551616 * 18446744073709551616 + x % 18446744073709551616 = x := by omega
theorem mmul_core (w : World) (g : Nat) (p x y : Int) (pm : Pm p) (hc : w.cell? ⟨g, 0, none⟩ = some (.int .u64 p)) (hx : 0 ≤ x) (hx' : x < p) (hy : 0 ≤ y) (hy' : y < 18446744073709551616) :
    Calls Tryd.prog 62 #[.pointer (some ⟨g, 0, none⟩), .int .u64 x, .int .u64 y] w fun e w' => e = .returned (.int .u64 (x * y % p)) ∧ w.grownBy w' none := by
  have hp := pm.hi
  have h1 := hi_lt hx hx' hy hy'
  have h2 := word_eq (x * y)
  have h3 : 0 ≤ x * y / 18446744073709551616 := Int.ediv_nonneg (Int.mul_nonneg hx hy) (by decide)
  go_enter Tryd.func62, Tryd.ntmps62
  go_wp2_with fail
  refine (mul64_c x y hx (by omega) hy hy' _).mono ?_
  rintro e w' ⟨rfl, rfl⟩
  go_wp2_with fail
  refine (div64_c _ _ p h3 (by omega) (by omega) h1 (by omega) _).mono ?_
  rintro e w1 ⟨rfl, g1⟩
  rw [h2]
  go_wp2
  go_ret
  exact ⟨rfl, g1⟩
theorem mmul_c (w : World) (g : Nat) (p x y : Int) (h : Md w g p) (hx : 0 ≤ x) (hx' : x < p) (hy : 0 ≤ y) (hy' : y < 18446744073709551616) :
    Calls Tryd.prog 62 #[.pointer (some ⟨g, 0, none⟩), .int .u64 x, .int .u64 y] w fun e w' => e = .returned (.int .u64 (x * y % p)) ∧ w.grownBy w' none :=
  mmul_core w g p x y h.pm h.c0 hx hx' hy hy'
theorem modAdd_c (w : World) (g : Nat) (p a b : Int) (h : Md w g p) (ha : 0 ≤ a) (hb : 0 ≤ b) :
    Calls Tryd.prog 99 #[.pointer (some ⟨g, 0, none⟩), .int .u64 a, .int .u64 b] w fun e w' => e = .returned (.int .u64 ((a + b) % p)) ∧ w.grownBy w' none := by
  have hc := h.c0
  have hp := h.pm.lo
  have hp' := h.pm.hi
  have a0 := Int.emod_nonneg a (show p ≠ 0 by omega)
  have a1 := Int.emod_lt_of_pos a (show 0 < p by omega)
  have b0 := Int.emod_nonneg b (show p ≠ 0 by omega)
  have b1 := Int.emod_lt_of_pos b (show 0 < p by omega)
  have hs : (a % p + b % p) % p = (a + b) % p := by
    rw [← Int.add_emod]
  have HS := Lib.hid hs
  clear hs
  go_enter Tryd.func99, Tryd.ntmps99
  go_wp2
  refine Canon.region_canon (by kernel_rfl) (by kernel_rfl) ?_
  go_wp2_with fail
  refine (madd_c _ g p _ _ h.drew a0 a1 b0 (by omega)).mono ?_
  rintro e w' ⟨rfl, gg⟩
  rw [HS.out]
  first | (obtain rfl := gg) | skip
  go_wp2
  refine ⟨by kernel_rfl, ?_⟩
  go_wp2
  go_ret
  exact ⟨rfl, by first | exact gb_drew (gb_refl _ _) | exact gb_trans (gb_drew (gb_refl _ _)) gg⟩
theorem modSub_c (w : World) (g : Nat) (p a b : Int) (h : Md w g p) (ha : 0 ≤ a) (hb : 0 ≤ b) :
    Calls Tryd.prog 98 #[.pointer (some ⟨g, 0, none⟩), .int .u64 a, .int .u64 b] w fun e w' => e = .returned (.int .u64 ((a - b) % p)) ∧ w.grownBy w' none := by
  have hc := h.c0
  have hp := h.pm.lo
  have hp' := h.pm.hi
  have a0 := Int.emod_nonneg a (show p ≠ 0 by omega)
  have a1 := Int.emod_lt_of_pos a (show 0 < p by omega)
  have b0 := Int.emod_nonneg b (show p ≠ 0 by omega)
  have b1 := Int.emod_lt_of_pos b (show 0 < p by omega)
  have hs : (a % p - b % p) % p = (a - b) % p := by
    rw [← Int.sub_emod]
  have HS := Lib.hid hs
  clear hs
  go_enter Tryd.func98, Tryd.ntmps98
  go_wp2
  refine Canon.region_canon (by kernel_rfl) (by kernel_rfl) ?_
  go_wp2_with fail
  refine (msub_c _ g p _ _ h.drew a0 a1 b0 (by omega)).mono ?_
  rintro e w' ⟨rfl, gg⟩
  rw [HS.out]
  first | (obtain rfl := gg) | skip
  go_wp2
  refine ⟨by kernel_rfl, ?_⟩
  go_wp2
  go_ret
  exact ⟨rfl, by first | exact gb_drew (gb_refl _ _) | exact gb_trans (gb_drew (gb_refl _ _)) gg⟩
theorem modMul_c (w : World) (g : Nat) (p a b : Int) (h : Md w g p) (ha : 0 ≤ a) (hb : 0 ≤ b) :
    Calls Tryd.prog 36 #[.pointer (some ⟨g, 0, none⟩), .int .u64 a, .int .u64 b] w fun e w' => e = .returned (.int .u64 (a * b % p)) ∧ w.grownBy w' none := by
  have hc := h.c0
  have hp := h.pm.lo
  have hp' := h.pm.hi
  have a0 := Int.emod_nonneg a (show p ≠ 0 by omega)
  have a1 := Int.emod_lt_of_pos a (show 0 < p by omega)
  have b0 := Int.emod_nonneg b (show p ≠ 0 by omega)
  have b1 := Int.emod_lt_of_pos b (show 0 < p by omega)
  have hs : a % p * (b % p) % p = a * b % p := by
    rw [← Int.mul_emod]
  have HS := Lib.hid hs
  clear hs
  go_enter Tryd.func36, Tryd.ntmps36
  go_wp2
  refine Canon.region_canon (by kernel_rfl) (by kernel_rfl) ?_
  go_wp2_with fail
  refine (mmul_c _ g p _ _ h.drew a0 a1 b0 (by omega)).mono ?_
  rintro e w' ⟨rfl, gg⟩
  rw [HS.out]
  first | (obtain rfl := gg) | skip
  go_wp2
  refine ⟨by kernel_rfl, ?_⟩
  go_wp2
  go_ret
  exact ⟨rfl, by first | exact gb_drew (gb_refl _ _) | exact gb_trans (gb_drew (gb_refl _ _)) gg⟩
/-- What redc does with its words. -/
theorem redc_words {p n hi lo : Int} (hpm : Pm p) (hn : (p * n + 1) % 18446744073709551616 = 0) (h0 : 0 ≤ hi) (h1 : hi < p) (l0 : 0 ≤ lo) (l1 : lo < 18446744073709551616) :
    ∃ q hh l c s, lo * n % 18446744073709551616 = q ∧ q * p / 18446744073709551616 = hh ∧ q * p % 18446744073709551616 = l ∧ (lo + l) % 18446744073709551616 = 0 ∧ (lo + l) / 18446744073709551616 = c ∧ hi + hh + c = s ∧
      0 ≤ q ∧ q < 18446744073709551616 ∧ 0 ≤ l ∧ l < 18446744073709551616 ∧ 0 ≤ hh ∧ hh < p ∧ 0 ≤ c ∧ c ≤ 1 ∧ 0 ≤ s ∧ s < 2 * p ∧ s * 18446744073709551616 = hi * 18446744073709551616 + lo + q * p := by
  have hp := hpm.lo
  have hp' := hpm.hi
  refine ⟨_, _, _, _, _, rfl, rfl, rfl, ?_, rfl, rfl, ?_⟩
  · have h2 : Cg 18446744073709551616 (lo + lo * n % 18446744073709551616 * p % 18446744073709551616) 0 := by
      refine ((Cg.refl _ lo).add ((Cg.mod _ _).trans ((Cg.mod _ _).mulr p))).trans ?_
      have e : lo + lo * n * p = lo * (p * n + 1) := by grind
      rw [e]
      have : Cg 18446744073709551616 (p * n + 1) 0 := by unfold Cg; rw [hn]; rfl
      have := this.mull lo
      rwa [Int.mul_zero] at this
    exact h2
  · have h2 : (lo + lo * n % 18446744073709551616 * p % 18446744073709551616) % 18446744073709551616 = 0 := by
      have h2 : Cg 18446744073709551616 (lo + lo * n % 18446744073709551616 * p % 18446744073709551616) 0 := by
        refine ((Cg.refl _ lo).add ((Cg.mod _ _).trans ((Cg.mod _ _).mulr p))).trans ?_
        have e : lo + lo * n * p = lo * (p * n + 1) := by grind
        rw [e]
        have : Cg 18446744073709551616 (p * n + 1) 0 := by unfold Cg; rw [hn]; rfl
        have := this.mull lo
        rwa [Int.mul_zero] at this
      exact h2
    have q0 := Int.emod_nonneg (lo * n) (show (18446744073709551616 : Int) ≠ 0 by decide)
    have q1 := Int.emod_lt_of_pos (lo * n) (show (0 : Int) < 18446744073709551616 by decide)
    obtain ⟨q, hq⟩ : ∃ q, q = lo * n % 18446744073709551616 := ⟨_, rfl⟩
    rw [← hq] at h2 q0 q1 ⊢
    clear hq hn
    have hlt := hi_lt (x := p - 1) (y := q) (p := p) (by omega) (by omega) q0 q1
    have hqp : 0 ≤ q * p := Int.mul_nonneg q0 (by omega)
    have hqp2 : q * p ≤ 18446744073709551615 * p := Int.mul_le_mul_of_nonneg_right (by omega) (by omega)
    obtain ⟨m, hm⟩ : ∃ m, m = q * p := ⟨_, rfl⟩
    rw [← hm] at h2 hqp hqp2 ⊢
    clear hm hlt
    refine ⟨q0, q1, by omega, by omega, by omega, by omega, by omega, by omega, by omega, by omega, by omega⟩
/-- redc: r below p with r 2^64 like the number modulo p. -/
theorem redc_c (w : World) (g : Nat) (p hi lo : Int) (h : Md w g p) (h0 : 0 ≤ hi) (h1 : hi < p) (l0 : 0 ≤ lo) (l1 : lo < 18446744073709551616) :
    Calls Tryd.prog 91 #[.pointer (some ⟨g, 0, none⟩), .int .u64 hi, .int .u64 lo] w fun e w' => ∃ r, e = .returned (.int .u64 r) ∧ 0 ≤ r ∧ r < p ∧ Cg p (r * 18446744073709551616) (hi * 18446744073709551616 + lo) ∧ w' = w := by
  have hc := h.c0
  obtain ⟨n, hc1, hn0, hn1, hn⟩ := h.neg
  have hp := h.pm.lo
  have hp' := h.pm.hi
  obtain ⟨q, hh, l, c, s, e1, e2, e3, e4, e5, e6, q0, q1, ll0, ll1, hh0, hh1, c0, c1, s0, s1, hs⟩ := redc_words h.pm hn h0 h1 l0 l1
  have w1 : IntKind.u64.wrap (lo * n) = q := by rw [IntKind.wrap_u64]; exact e1
  have a1 : ∀ w, (callFunc 88 #[.int .u64 lo, .int .u64 l, .int .u64 0]).run Tryd.prog w = .ok (.value (.tuple #[.int .u64 0, .int .u64 c])) w := fun w => by
    rw [add64_run lo l 0 l0 ll0 (by decide) (by decide), Int.add_zero, e4, e5]
  have a2 : ∀ w, (callFunc 88 #[.int .u64 hi, .int .u64 hh, .int .u64 c]).run Tryd.prog w = .ok (.value (.tuple #[.int .u64 s, .int .u64 0])) w := fun w => by
    rw [add64_run hi hh c h0 hh0 c0 c1, e6, Int.emod_eq_of_lt s0 (by omega), Int.ediv_eq_zero_of_lt s0 (by omega)]
  have k1 : Cg p (s * 18446744073709551616) (hi * 18446744073709551616 + lo) := by
    rw [hs, Int.mul_comm q p]; exact Cg.add_mult p _ q
  have k2 : Cg p ((s - p) * 18446744073709551616) (hi * 18446744073709551616 + lo) := by
    refine Cg.trans ?_ k1
    have := Cg.add_mult p (s * 18446744073709551616) (-18446744073709551616)
    refine Cg.trans (Cg.of_eq ?_) this
    grind
  have E2 := Lib.hid e2
  have E3 := Lib.hid e3
  have K1 := Lib.hid k1
  have K2 := Lib.hid k2
  clear e1 e2 e3 e4 e5 e6 hs k1 k2 hn
  by_cases hge : p ≤ s
  · go_enter Tryd.func91, Tryd.ntmps91
    go_wp2_with fail
    refine (mul64_c q p q0 q1 (by omega) (by omega) _).mono ?_
    rintro e w' ⟨rfl, rfl⟩
    rw [E2.out, E3.out]
    go_wp2
    go_ret
    exact ⟨s - p, rfl, by omega, by omega, K2.out, rfl⟩
  · have hlt : s < p := by omega
    clear hge
    go_enter Tryd.func91, Tryd.ntmps91
    go_wp2_with fail
    refine (mul64_c q p q0 q1 (by omega) (by omega) _).mono ?_
    rintro e w' ⟨rfl, rfl⟩
    rw [E2.out, E3.out]
    go_wp2
    go_ret
    exact ⟨s, rfl, s0, hlt, K1.out, rfl⟩
end Go.Proofs.YtoiclkaecgpbbaaDoor
