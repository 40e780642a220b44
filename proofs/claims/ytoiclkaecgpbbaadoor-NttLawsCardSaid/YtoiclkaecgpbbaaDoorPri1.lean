/- Primes: products, powers, witnesses. -/
import Derived.Test.YtoiclkaecgpbbaaDoorMr
import Derived.Test.YtoiclkaecgpbbaaDoorModw
namespace Go.Proofs.YtoiclkaecgpbbaaDoor
open Go.RowKit

theorem pmul_c (w : World) (a b n : Int) (a0 : 0 ≤ a) (a1 : a < n) (b0 : 0 ≤ b) (b1 : b < 18446744073709551616) (n1 : n < 18446744073709551616) :
    Calls Tryd.prog 75 #[.int .u64 a, .int .u64 b, .int .u64 n] w fun e w' => e = .returned (.int .u64 (a * b % n)) ∧ w.grownBy w' none := by
  have h1 := hi_lt a0 a1 b0 b1
  have h2 := word_eq (a * b)
  have h3 : 0 ≤ a * b / 18446744073709551616 := Int.ediv_nonneg (Int.mul_nonneg a0 b0) (by decide)
  go_enter Tryd.func75, Tryd.ntmps75
  go_wp2_with fail
  refine (mul64_c a b a0 (by omega) b0 b1 _).mono ?_
  rintro e w' ⟨rfl, rfl⟩
  go_wp2_with fail
  refine (div64_c _ _ n h3 (by omega) (by omega) h1 (by omega) _).mono ?_
  rintro e w1 ⟨rfl, g1⟩
  rw [h2]
  go_wp2
  go_ret
  exact ⟨rfl, g1⟩
theorem pow_odd {n out x T : Int} {m : Nat} (h : Cg n (out * x ^ m) T) (hm : m % 2 = 1) : Cg n (out * x % n * (x * x % n) ^ (m / 2)) T := by
  refine Cg.trans ?_ h
  refine (Cg.mul (Cg.mod n _) ((Cg.mod n _).pow _)).trans (Cg.of_eq ?_)
  have e : m = 2 * (m / 2) + 1 := by omega
  generalize m / 2 = k at *
  subst e
  rw [Int.pow_succ, Int.pow_mul, Int.pow_succ, Int.pow_succ, Int.pow_zero, Int.one_mul]
  grind
theorem pow_even {n out x T : Int} {m : Nat} (h : Cg n (out * x ^ m) T) (hm : m % 2 = 0) : Cg n (out * (x * x % n) ^ (m / 2)) T := by
  refine Cg.trans ?_ h
  refine (((Cg.mod n _).pow _).mull out).trans (Cg.of_eq ?_)
  have e : m = 2 * (m / 2) := by omega
  generalize m / 2 = k at *
  subst e
  rw [Int.pow_mul, Int.pow_succ, Int.pow_succ, Int.pow_zero, Int.one_mul]
set_option maxRecDepth 100000 in
theorem ppow_c (w : World) (a n : Int) (k : Nat) (a0 : 0 ≤ a) (a1 : a < n) (n1 : n < 18446744073709551616) (hk : k < 2 ^ 64) :
    Calls Tryd.prog 74 #[.int .u64 a, .int .u64 k, .int .u64 n] w fun e w' => e = .returned (.int .u64 (a ^ k % n)) ∧ w.grownBy w' none := by
  have i0 : Cg n (1 % n * a ^ k) (a ^ k) := ((Cg.mod n 1).mulr _).trans (Cg.of_eq (Int.one_mul _))
  have o0 := Int.emod_nonneg 1 (show n ≠ 0 by omega)
  have o1 := Int.emod_lt_of_pos 1 (show 0 < n by omega)
  have I0 := Lib.hid i0
  have hn0 : n ≠ 0 := by omega
  have HK := Lib.hid hk
  clear i0 hk
  go_enter Tryd.func74, Tryd.ntmps74
  go_wp2
  go_loopw [0, 1, 7] (fun v0 v1 v7 wr => ∃ (m : Nat) (x o : Int), v0 = .int .u64 x ∧ v1 = .int .u64 m ∧ v7 = .int .u64 o ∧ m < 2 ^ 64 ∧ 0 ≤ x ∧ x < n ∧ 0 ≤ o ∧ o < n ∧ Cg n (o * x ^ m) (a ^ k) ∧ w.grownBy wr none) (fun _ v1 _ _ => (intOf v1).toNat)
  case atStart => exact ⟨k, a, 1 % n, rfl, rfl, rfl, HK.out, a0, a1, o0, o1, I0.out, gb_refl _ _⟩
  case round =>
    clear I0 o0 o1 a0 a1
    obtain ⟨m, x, o, rfl, rfl, rfl, hm64, x0, x1, o0, o1, I, G⟩ := hrel
    have HI := Lib.hid I
    have hw : IntKind.u64.wrap ((m : Int) / 2) = ((m / 2 : Nat) : Int) := by rw [IntKind.wrap_u64]; omega
    have HM := Lib.hid hm64
    clear I hm64
    by_cases hm0 : 0 < m
    · have q0 := Int.emod_nonneg (x * x) hn0
      have q1 := Int.emod_lt_of_pos (x * x) (show 0 < n by omega)
      have r0 := Int.emod_nonneg (o * x) hn0
      have r1 := Int.emod_lt_of_pos (o * x) (show 0 < n by omega)
      by_cases hodd : m % 2 = 1
      · have ho : ((m : Int) % 2 == 1) = true := by simp; omega
        have ho2 : (m : Int) % 2 = 1 := by omega
        have st := pow_odd HI.out hodd
        have ST := Lib.hid st
        clear st
        go_wp2_with fail
        refine (pmul_c _ o x n o0 o1 x0 (by omega) n1).mono ?_
        rintro e w1 ⟨rfl, g1⟩
        go_wp2_with fail
        refine (pmul_c _ x x n x0 x1 x0 (by omega) n1).mono ?_
        rintro e w2 ⟨rfl, g2⟩
        go_wp2
        go_roundw
        case rel => exact ⟨m / 2, x * x % n, o * x % n, rfl, rfl, rfl, by have := HM.out; omega, q0, q1, r0, r1, ST.out, gb_trans (gb_trans G g1) g2⟩
        case measure => simp [intOf]; omega
      · have ho : ((m : Int) % 2 == 1) = false := by simp; omega
        have ho2 : (m : Int) % 2 = 0 := by omega
        have st := pow_even HI.out (by omega)
        have ST := Lib.hid st
        clear st
        go_wp2_with fail
        refine (pmul_c _ x x n x0 x1 x0 (by omega) n1).mono ?_
        rintro e w2 ⟨rfl, g2⟩
        go_wp2
        go_roundw
        case rel => exact ⟨m / 2, x * x % n, o, rfl, rfl, rfl, by have := HM.out; omega, q0, q1, o0, o1, ST.out, gb_trans G g2⟩
        case measure => simp [intOf]; omega
    · have fin : o = a ^ k % n := by
        have := HI.out
        rw [show m = 0 by omega, Int.pow_zero, Int.mul_one] at this
        exact this.eq_mod o0 o1
      have FIN := Lib.hid fin
      clear fin hw HM HI
      go_wp2
      go_ret
      exact ⟨by rw [← FIN.out]; rfl, G⟩
set_option maxRecDepth 100000 in
theorem witness_c (w : World) (a n : Int) (d s : Nat) (a0 : 0 ≤ a) (n0 : 1 < n) (n1 : n < 18446744073709551616) (hd : d < 2 ^ 64) (hs0 : 0 < s) (hs : s ≤ 64) :
    Calls Tryd.prog 54 #[.int .u64 a, .int .u64 n, .int .u64 d, .int .i64 s] w fun e w' => e = .returned (.bool (wit (a % n) n d s)) ∧ w.grownBy w' none := by
  have m0 := Int.emod_nonneg a (show n ≠ 0 by omega)
  have m1 := Int.emod_lt_of_pos a (show 0 < n by omega)
  obtain ⟨W, hW⟩ : ∃ W, W = wit (a % n) n d s := ⟨_, rfl⟩
  have x0 := Int.emod_nonneg ((a % n) ^ d) (show n ≠ 0 by omega)
  have x1 := Int.emod_lt_of_pos ((a % n) ^ d) (show 0 < n by omega)
  rw [← hW]
  unfold wit at hW
  have P := fun w => ppow_c w (a % n) n d m0 m1 n1 hd
  obtain ⟨x, hx⟩ : ∃ x, x = (a % n) ^ d % n := ⟨_, rfl⟩
  rw [← hx] at hW x0 x1 P
  have HP := Lib.hid P
  have hn0 : n ≠ 0 := by omega
  obtain ⟨t, ht⟩ : ∃ t, s = t + 1 := ⟨s - 1, by omega⟩
  rw [ht] at hW ⊢
  rw [Nat.add_sub_cancel] at hW
  have et : ((t + 1 : Nat) : Int) - 1 = (t : Int) := by omega
  have ht64 : t < 64 := by omega
  clear hx P hs hs0 ht
  by_cases h1 : x = 0
  · have fin : W = false := by rw [hW, if_pos (Or.inl h1)]
    subst h1
    subst fin
    clear hW
    go_enter Tryd.func54, Tryd.ntmps54
    go_wp2_with fail
    refine (HP.out _).mono ?_
    rintro e w1 ⟨rfl, g1⟩
    go_wp2
    go_ret
    exact ⟨rfl, g1⟩
  · by_cases h2 : x = 1
    · have fin : W = false := by rw [hW, if_pos (Or.inr (Or.inl h2))]
      subst h2
      subst fin
      clear hW
      go_enter Tryd.func54, Tryd.ntmps54
      go_wp2_with fail
      refine (HP.out _).mono ?_
      rintro e w1 ⟨rfl, g1⟩
      go_wp2
      go_ret
      exact ⟨rfl, g1⟩
    · by_cases h3 : x = n - 1
      · have fin : W = false := by rw [hW, if_pos (Or.inr (Or.inr h3))]
        subst fin
        have hb1 : (x == 0) = false := by simpa using h1
        have hb2 : (x == 1) = false := by simpa using h2
        have hb3 : (x == n - 1) = true := by simpa using h3
        clear hW h1 h2 h3
        go_enter Tryd.func54, Tryd.ntmps54
        go_wp2_with fail
        refine (HP.out _).mono ?_
        rintro e w1 ⟨rfl, g1⟩
        go_wp2
        go_ret
        exact ⟨rfl, g1⟩
      · rw [if_neg (by omega)] at hW
        have HW := Lib.hid hW
        have hb1 : (x == 0) = false := by simpa using h1
        have hb2 : (x == 1) = false := by simpa using h2
        have hb3 : (x == n - 1) = false := by simpa using h3
        clear hW m0 m1
        go_enter Tryd.func54, Tryd.ntmps54
        go_wp2_with fail
        refine (HP.out _).mono ?_
        rintro e w1 ⟨rfl, g1⟩
        clear HP
        go_wp2
        clear et
        clear hb1 hb2 hb3
        go_loopw [9, 30] (fun v9 v30 wr => ∃ (i : Nat) (y : Int), v9 = .int .u64 y ∧ v30 = .int .i64 i ∧ i ≤ t ∧ 0 ≤ y ∧ y < n ∧ W = mrL n (t - i) y ∧ w.grownBy wr none) (fun _ v30 _ => t - (intOf v30).toNat)
        case atStart => exact ⟨0, x, rfl, rfl, by omega, x0, x1, HW.out, g1⟩
        case round =>
          clear HW x0 x1 h1 h2 h3 g1
          obtain ⟨i, y, rfl, rfl, hi, y0, y1, hW, G⟩ := hrel
          by_cases hit : i < t
          · obtain ⟨c, hc⟩ : ∃ c, t - i = c + 1 := ⟨t - i - 1, by omega⟩
            rw [hc, mrL] at hW
            have hc2 : c = t - (i + 1) := by omega
            have HC := Lib.hid hc2
            have z0 := Int.emod_nonneg (y * y) hn0
            have z1 := Int.emod_lt_of_pos (y * y) (show 0 < n by omega)
            have P := fun w => pmul_c w y y n y0 y1 y0 (by omega) n1
            obtain ⟨z, hz⟩ : ∃ z, z = y * y % n := ⟨_, rfl⟩
            rw [← hz] at hW z0 z1 P
            have HP := Lib.hid P
            clear hz P hc hc2
            by_cases h3 : z = n - 1
            · rw [if_pos h3] at hW
              subst hW
              have hb3 : (z == n - 1) = true := by simpa using h3
              clear h3
              go_wp2_with fail
              refine (HP.out _).mono ?_
              rintro e w2 ⟨rfl, g2⟩
              go_wp2
              go_ret
              exact ⟨rfl, gb_trans G g2⟩
            · rw [if_neg h3] at hW
              have HW := Lib.hid hW
              have hb3 : (z == n - 1) = false := by simpa using h3
              clear h3 hW
              go_wp2_with fail
              refine (HP.out _).mono ?_
              rintro e w2 ⟨rfl, g2⟩
              go_wp2
              clear hb3
              go_roundw
              case rel => exact ⟨i + 1, z, rfl, by go_num, by omega, z0, z1, by rw [← HC.out]; exact HW.out, gb_trans G g2⟩
              case measure => simp [intOf]; omega
          · obtain rfl : i = t := by omega
            rw [Nat.sub_self, mrL] at hW
            subst hW
            go_wp2
            go_ret
            exact ⟨rfl, G⟩
end Go.Proofs.YtoiclkaecgpbbaaDoor
