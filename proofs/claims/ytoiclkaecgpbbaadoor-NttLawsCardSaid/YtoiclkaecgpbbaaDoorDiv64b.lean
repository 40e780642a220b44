/- Div64: the quotient and the remainder. -/
import Derived.Test.YtoiclkaecgpbbaaDoorDiv64
namespace Go.Proofs.YtoiclkaecgpbbaaDoor
open Go.RowKit
/-- The two digits together. -/
theorem div64_two (M y Y u L L1 L0 s Q1 u2 Q0 r : Nat) (hy : 0 < y) (hYy : Y = y * 2 ^ s) (hL : L = L1 * 4294967296 + L0)
    (hN : M * 2 ^ s = u * 18446744073709551616 + L) (e1 : Q1 * Y + u2 = u * 4294967296 + L1) (e2 : Q0 * Y + r = u2 * 4294967296 + L0) (l2 : r < Y) :
    Q1 * 4294967296 + Q0 = M / y ∧ r / 2 ^ s = M % y := by
  have hs : 0 < 2 ^ s := Nat.two_pow_pos s
  obtain ⟨q, hq⟩ : ∃ q, q = Q1 * 4294967296 + Q0 := ⟨_, rfl⟩
  have e3 : M * 2 ^ s = q * y * 2 ^ s + r := by
    rw [hq, Nat.mul_assoc, ← hYy, Nat.add_mul, Nat.mul_right_comm Q1, hN, hL]
    omega
  have hle : q * y ≤ M := Nat.le_of_mul_le_mul_right (by omega) hs
  obtain ⟨d, hd⟩ : ∃ d, M = q * y + d := ⟨M - q * y, by omega⟩
  have e4 : r = d * 2 ^ s := by
    rw [hd, Nat.add_mul] at e3; omega
  have hlt : d < y := Nat.lt_of_mul_lt_mul_right (a := 2 ^ s) (by rw [← e4, ← hYy]; exact l2)
  have e5 : M = y * q + d := by rw [Nat.mul_comm y]; exact hd
  rw [← hq]
  refine ⟨?_, ?_⟩
  · rw [e5, Nat.mul_add_div hy, Nat.div_eq_of_lt hlt]; rfl
  · rw [e4, Nat.mul_div_cancel _ hs, e5, Nat.mul_add_mod, Nat.mod_eq_of_lt hlt]
theorem wrap_three (u c A r : Nat) (h : u * 4294967296 + c = A + r) (hr : r < 18446744073709551616) :
    IntKind.u64.wrap (IntKind.u64.wrap (IntKind.u64.wrap ((u : Int) * 4294967296) + (c : Int)) - IntKind.u64.wrap (A : Int)) = (r : Int) := by
  simp only [IntKind.wrap_u64]; omega
theorem wrap_quo (a b : Nat) (ha : a < 4294967296) (hb : b < 4294967296) : IntKind.u64.wrap (IntKind.u64.wrap ((a : Int) * 4294967296) + (b : Int)) = ((a * 4294967296 + b : Nat) : Int) := by
  simp only [IntKind.wrap_u64]; omega
theorem first_digit (u c Y1 Y0 : Nat) (hy1 : 2147483648 ≤ Y1) (hy1' : Y1 < 4294967296) (hy0 : Y0 < 4294967296) (hu : u < Y1 * 4294967296 + Y0) (hc : c < 4294967296) :
    IntKind.u64.wrap ((u : Int).tdiv (Y1 : Int)) = ((u / Y1 : Nat) : Int) ∧ IntKind.u64.wrap ((u : Int) - IntKind.u64.wrap (((u / Y1 : Nat) : Int) * (Y1 : Int))) = ((u % Y1 : Nat) : Int) ∧ KI u c Y1 Y0 (u / Y1) (u % Y1) := by
  have hq := k_bound u Y1 Y0 hy1 hy0 hu
  have hm := Nat.div_add_mod' u Y1
  have hr := Nat.mod_lt u (show 0 < Y1 by omega)
  have h1 := k_first u c Y1 Y0 hy1 hc
  refine ⟨?_, ?_, hm, h1, hq, by omega⟩
  · rw [Int.tdiv_eq_ediv_of_nonneg (by omega), divN, wrapN _ (by omega)]
  · rw [mulN]
    generalize u / Y1 * Y1 = A at *
    generalize u % Y1 = r at *
    simp only [IntKind.wrap_u64]; omega
theorem div64_nat (hi lo y : Nat) (hl : lo < 18446744073709551616) (hh : 0 < hi) (hy : hi < y) (hy' : y < 18446744073709551616) (w : World) :
    Calls Tryd.prog 77 #[.int .u64 hi, .int .u64 lo, .int .u64 y] w fun e w' => e = .returned (.tuple #[.int .u64 (((hi * 18446744073709551616 + lo) / y : Nat) : Int), .int .u64 (((hi * 18446744073709551616 + lo) % y : Nat) : Int)]) ∧ w.grownBy w' none := by
  obtain ⟨Y, Y1, Y0, u, L, L1, L0, s, N⟩ := norm64 hi lo y hl hy hy'
  have hYb : Y < 18446744073709551616 := by have := N.hY; have := N.hY0; have := N.hY1'; omega
  have hY0 : 0 < Y := by have := N.hY; have := N.hY1; omega
  have hu := N.hu
  have hu' : u < Y1 * 4294967296 + Y0 := by rw [← N.hY]; exact hu
  obtain ⟨a1, a2, a3⟩ := first_digit u L1 Y1 Y0 N.hY1 N.hY1' N.hY0 hu' N.hL1
  have hu2 := Nat.mod_lt (u * 4294967296 + L1) hY0
  have hu2' : (u * 4294967296 + L1) % Y < Y1 * 4294967296 + Y0 := by rw [← N.hY]; exact hu2
  obtain ⟨b1, b2, b3⟩ := first_digit _ L0 Y1 Y0 N.hY1 N.hY1' N.hY0 hu2' N.hL0
  obtain ⟨t1, t2⟩ := div64_two (hi * 18446744073709551616 + lo) y Y u L L1 L0 s _ _ _ _ (by omega) N.hyY N.hL N.hN (Nat.div_add_mod' (u * 4294967296 + L1) Y) (Nat.div_add_mod' _ Y) (Nat.mod_lt _ hY0)
  have d1 := dl_of u L1 Y1 Y0 hu' N.hL1 N.hY0 N.hY1' (by have := N.hY1; omega)
  have d2 := dl_of _ L0 Y1 Y0 hu2' N.hL0 N.hY0 N.hY1' (by have := N.hY1; omega)
  rw [← N.hY] at d1 d2
  have hQ1 : (u * 4294967296 + L1) / Y < 4294967296 := by
    rw [Nat.div_lt_iff_lt_mul hY0]; have := N.hL1; omega
  have hQ0 : ((u * 4294967296 + L1) % Y * 4294967296 + L0) / Y < 4294967296 := by
    rw [Nat.div_lt_iff_lt_mul hY0]; have := N.hL0; omega
  refine (div64_walk hi lo y hl hh hy hy' w Y Y1 Y0 u L L1 L0 _ _ _ _ _ _ (((hi * 18446744073709551616 + lo) % y : Nat) : Int) (((hi * 18446744073709551616 + lo) / y : Nat) : Int) _ _ N.r1 ?_ ?_ ?_ N.r5 N.r4 ?_ ?_ (by omega) a1 a2 d1 ⟨_, _, rfl, rfl, a3⟩ (u2 := (((u * 4294967296 + L1) % Y : Nat) : Int)) ?_ (by omega) b1 b2 d2 ⟨_, _, rfl, rfl, b3⟩ ?_ ?_)
  · have := N.hY; have := N.hY0; omega
  · have h1 := N.hY; have h2 := N.hY0
    rw [maskN Y hYb]; omega
  · have := N.hY1; omega
  · have := N.hL; have := N.hL0; omega
  · have h1 := N.hL; have h2 := N.hL0; have h3 := N.hL1
    rw [maskN L (by omega)]; omega
  · rw [mulN]
    exact wrap_three u L1 _ _ (Nat.div_add_mod' _ _).symm (by omega)
  · rw [← t1]; exact wrap_quo _ _ hQ1 hQ0
  · rw [mulN, wrap_three _ L0 _ _ (Nat.div_add_mod' _ _).symm (Nat.lt_trans (Nat.mod_lt _ hY0) hYb), ← t2, ← N.hs]
    rw [Int.natCast_ediv, Int.natCast_pow]; rfl
theorem div64_c (hi lo y : Int) (h0 : 0 ≤ hi) (hl : 0 ≤ lo) (hl' : lo < 18446744073709551616) (hy : hi < y) (hy' : y < 18446744073709551616) (w : World) :
    Calls Tryd.prog 77 #[.int .u64 hi, .int .u64 lo, .int .u64 y] w fun e w' => e = .returned (.tuple #[.int .u64 ((hi * 18446744073709551616 + lo) / y), .int .u64 ((hi * 18446744073709551616 + lo) % y)]) ∧ w.grownBy w' none := by
  by_cases hz : hi = 0
  · subst hz
    refine (div64_zero lo y hl hl' hy hy' w).mono fun e w' h => ⟨?_, h.2⟩
    rw [Int.zero_mul, Int.zero_add]; exact h.1
  · obtain ⟨a, rfl⟩ := nat_of h0
    obtain ⟨b, rfl⟩ := nat_of hl
    obtain ⟨c, rfl⟩ := nat_of (show 0 ≤ y by omega)
    refine (div64_nat a b c (by omega) (by omega) (by omega) (by omega) w).mono fun e w' h => ⟨?_, h.2⟩
    rw [h.1, Int.natCast_ediv, Int.natCast_emod, Int.natCast_add, Int.natCast_mul]; rfl
end Go.Proofs.YtoiclkaecgpbbaaDoor
