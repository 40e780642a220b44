/- The document's own residues of a word. -/
import Derived.Test.YtoiclkaecgpbbaaDoorModw4
namespace Go.Proofs.YtoiclkaecgpbbaaDoor
open Go.RowKit

theorem refAdd_c (w : World) (p a b : Int) (p0 : 0 < p) (p1 : p < 18446744073709551616) (ha : 0 ≤ a) (hb : 0 ≤ b) :
    Calls Tryd.prog 35 #[.int .u64 a, .int .u64 b, .int .u64 p] w fun e w' => e = .returned (.int .u64 ((a + b) % p)) ∧ w.grownBy w' none := by
  have a0 := Int.emod_nonneg a (show p ≠ 0 by omega)
  have a1 := Int.emod_lt_of_pos a p0
  have b0 := Int.emod_nonneg b (show p ≠ 0 by omega)
  have b1 := Int.emod_lt_of_pos b p0
  rw [Int.add_emod]
  obtain ⟨x, hx⟩ : ∃ x, x = a % p := ⟨_, rfl⟩
  obtain ⟨y, hy⟩ : ∃ y, y = b % p := ⟨_, rfl⟩
  rw [← hx, ← hy]
  rw [← hx] at a0 a1
  rw [← hy] at b0 b1
  have HX := Lib.hid hx
  have HY := Lib.hid hy
  clear hx hy
  by_cases hge : p - y ≤ x
  · have e : (x + y) % p = x - (p - y) := by
      rw [← Int.sub_emod_right, Int.emod_eq_of_lt (by omega) (by omega)]; omega
    rw [e]
    clear e
    go_enter Tryd.func35, Tryd.ntmps35
    go_wp2
    refine Canon.region_canon (by kernel_rfl) (by kernel_rfl) ?_
    go_wp2
    refine ⟨by kernel_rfl, ?_⟩
    rw [← HX.out, ← HY.out]
    go_wp2
    go_ret
    exact ⟨rfl, gb_drew (gb_refl _ _)⟩
  · have e : (x + y) % p = x + y := Int.emod_eq_of_lt (by omega) (by omega)
    rw [e]
    clear e
    go_enter Tryd.func35, Tryd.ntmps35
    go_wp2
    refine Canon.region_canon (by kernel_rfl) (by kernel_rfl) ?_
    go_wp2
    refine ⟨by kernel_rfl, ?_⟩
    rw [← HX.out, ← HY.out]
    go_wp2
    go_ret
    exact ⟨rfl, gb_drew (gb_refl _ _)⟩
theorem refMul_c (w : World) (p a b : Int) (p0 : 0 < p) (p1 : p < 18446744073709551616) (ha : 0 ≤ a) (hb : 0 ≤ b) :
    Calls Tryd.prog 58 #[.int .u64 a, .int .u64 b, .int .u64 p] w fun e w' => e = .returned (.int .u64 (a * b % p)) ∧ w.grownBy w' none := by
  have a0 := Int.emod_nonneg a (show p ≠ 0 by omega)
  have a1 := Int.emod_lt_of_pos a p0
  have b0 := Int.emod_nonneg b (show p ≠ 0 by omega)
  have b1 := Int.emod_lt_of_pos b p0
  rw [Int.mul_emod]
  obtain ⟨x, hx⟩ : ∃ x, x = a % p := ⟨_, rfl⟩
  obtain ⟨y, hy⟩ : ∃ y, y = b % p := ⟨_, rfl⟩
  rw [← hx, ← hy]
  rw [← hx] at a0 a1
  rw [← hy] at b0 b1
  have HX := Lib.hid hx
  have HY := Lib.hid hy
  clear hx hy
  have h1 := hi_lt a0 a1 b0 (show y < 18446744073709551616 by omega)
  have h2 := word_eq (x * y)
  have h3 : 0 ≤ x * y / 18446744073709551616 := Int.ediv_nonneg (Int.mul_nonneg a0 b0) (by decide)
  go_enter Tryd.func58, Tryd.ntmps58
  go_wp2
  refine Canon.region_canon (by kernel_rfl) (by kernel_rfl) ?_
  go_wp2_with fail
  rw [← HX.out, ← HY.out]
  refine (mul64_c x y a0 (by omega) b0 (by omega) _).mono ?_
  rintro e w' ⟨rfl, rfl⟩
  go_wp2
  refine ⟨by kernel_rfl, ?_⟩
  go_wp2_with fail
  refine (div64_c _ _ p h3 (by omega) (by omega) h1 (by omega) _).mono ?_
  rintro e w1 ⟨rfl, g1⟩
  rw [h2]
  go_wp2
  go_ret
  exact ⟨rfl, gb_trans (gb_drew (gb_refl _ _)) g1⟩
theorem pow_step (a : Int) (n j : Nat) : a ^ (n / 2 ^ j) = a ^ (n / 2 ^ (j + 1)) * a ^ (n / 2 ^ (j + 1)) * a ^ (n / 2 ^ j % 2) := by
  rw [← Int.pow_add, ← Int.pow_add]
  congr 1
  rw [Nat.pow_succ, ← Nat.div_div_eq_div_mul]; omega
theorem bit1N (n j : Nat) (hn : n < 18446744073709551616) : bits .and .u64 ((n : Int) / 2 ^ j) 1 = ((n / 2 ^ j % 2 : Nat) : Int) := by
  have e1 : (n : Int) / 2 ^ j = ((n / 2 ^ j : Nat) : Int) := by rw [Int.natCast_ediv, Int.natCast_pow]; rfl
  have h := bits_and_u64_nat (n / 2 ^ j) 1 (Nat.lt_of_le_of_lt (Nat.div_le_self ..) hn) (by omega)
  have e : (n / 2 ^ j) &&& 1 = n / 2 ^ j % 2 := Nat.and_two_pow_sub_one_eq_mod _ 1
  rw [e] at h
  rw [e1]
  exact h
theorem refPow_c (w : World) (p a : Int) (n : Nat) (p0 : 0 < p) (p1 : p < 18446744073709551616) (ha : 0 ≤ a) (hn : n < 2 ^ 64) :
    Calls Tryd.prog 22 #[.int .u64 a, .int .u64 n, .int .u64 p] w fun e w' => e = .returned (.int .u64 (a ^ n % p)) ∧ w.grownBy w' none := by
  have s0 : a ^ (n / 2 ^ 64) % p = 1 % p := by rw [Nat.div_eq_of_lt hn, Int.pow_zero]
  have S0 := Lib.hid s0
  clear s0
  have HN := Lib.hid hn
  clear hn
  go_enter Tryd.func22, Tryd.ntmps22
  go_wp2
  go_loopw [7, 8] (fun v7 v8 wr => ∃ k : Nat, v8 = .int .i64 ((k : Int) - 1) ∧ k ≤ 64 ∧ v7 = .int .u64 (a ^ (n / 2 ^ k) % p) ∧ w.grownBy wr none) (fun _ v8 _ => (intOf v8 + 1).toNat)
  case atStart => exact ⟨64, rfl, by omega, by rw [S0.out], gb_refl _ _⟩
  case round =>
    clear S0
    obtain ⟨k, rfl, hk, rfl, G⟩ := hrel
    by_cases hk0 : k = 0
    · subst hk0
      rw [Nat.pow_zero, Nat.div_one]
      go_wp2
      go_ret
      exact ⟨rfl, G⟩
    · obtain ⟨j, rfl⟩ : ∃ j, k = j + 1 := ⟨k - 1, by omega⟩
      have ej : ((j + 1 : Nat) : Int) - 1 = (j : Int) := by omega
      rw [ej]
      have hs := pow_step a n j
      have x0 := Int.emod_nonneg (a ^ (n / 2 ^ (j + 1))) (show p ≠ 0 by omega)
      obtain ⟨X, hX⟩ : ∃ X, X = a ^ (n / 2 ^ (j + 1)) := ⟨_, rfl⟩
      rw [← hX] at hs x0 ⊢
      have HS := Lib.hid hs
      clear hs hX
      have q0 := Int.emod_nonneg (X % p * (X % p)) (show p ≠ 0 by omega)
      have hb : n / 2 ^ j % 2 = 0 ∨ n / 2 ^ j % 2 = 1 := by omega
      go_wp2_with fail
      refine (refMul_c _ p _ _ p0 p1 x0 x0).mono ?_
      rintro e w1 ⟨rfl, g1⟩
      have bt := bit1N n j HN.out
      rcases hb with hb | hb
      · have ho : (bits .and .u64 ((n : Int) / 2 ^ j) 1 == 1) = false := by rw [bt, hb]; rfl
        have fin : X % p * (X % p) % p = a ^ (n / 2 ^ j) % p := by rw [HS.out, hb, Int.pow_zero, Int.mul_one, ← Int.mul_emod]
        rw [fin]
        have FIN := Lib.hid fin
        clear fin bt
        go_wp2
        go_roundw
        case rel => exact ⟨j, rfl, by omega, rfl, gb_trans G g1⟩
        case measure => simp [intOf]
      · have ho : (bits .and .u64 ((n : Int) / 2 ^ j) 1 == 1) = true := by rw [bt, hb]; rfl
        have fin : X % p * (X % p) % p * a % p = a ^ (n / 2 ^ j) % p := by rw [HS.out, hb, Int.pow_succ, Int.pow_zero, Int.one_mul]; exact ((Cg.mod p _).trans ((Cg.mod p X).mul (Cg.mod p X))).mulr a
        have FIN := Lib.hid fin
        clear fin bt
        go_wp2_with fail
        refine (refMul_c _ p _ _ p0 p1 q0 ha).mono ?_
        rintro e w2 ⟨rfl, g2⟩
        rw [FIN.out]
        go_wp2
        go_roundw
        case rel => exact ⟨j, rfl, by omega, rfl, gb_trans G (gb_trans g1 g2)⟩
        case measure => simp [intOf]
end Go.Proofs.YtoiclkaecgpbbaaDoor
