/- Chapter 7: primes: the statements. -/
import Derived.Test.YtoiclkaecgpbbaaDoorPri4
namespace Go.Proofs.YtoiclkaecgpbbaaDoor
open Go.RowKit

theorem no17 : ∀ x : Nat, 2 ≤ x → x < 3 → (x : Int) ^ ((17 - 1) / 2) % ((17 : Nat) : Int) ≠ ((17 : Nat) : Int) - 1 := fun x h1 h2 => by
  obtain rfl : x = 2 := by omega
  decide
theorem pm_17 : Pm ((17 : Nat) : Int) := ⟨by decide, by decide, by decide⟩
set_option maxRecDepth 100000 in
theorem wakes07_c (w : World) (hd : Db w) : Calls Tryd.prog 15 #[] w fun e w' => e = .returned (.bool true) ∧ w.grownBy w' none := by
  have R := root_c w 17 2 3 pm_17 isP_17 (by decide) (by decide) (by decide) (by decide) (by decide) no17 hd
  have e13 : (if (2 : Nat) = 0 then (1 : Int) else ((3 : Nat) : Int) ^ ((17 - 1) / 2 ^ 2) % ((17 : Nat) : Int)) = 13 := by decide
  rw [e13] at R
  have i2 := fun w (h : Db w) => is_c w 2 (by decide) h
  have i1 := fun w (h : Db w) => is_c w 1 (by decide) h
  have ic := fun w (h : Db w) => is_c w 3215031751 (by decide) h
  rw [isP_2] at i2
  rw [isP_1] at i1
  rw [isP_c] at ic
  have HR := Lib.hid R
  have H2 := Lib.hid i2
  have H1 := Lib.hid i1
  have HC := Lib.hid ic
  have HD := Lib.hid hd
  clear R i2 i1 ic hd e13
  go_enter Tryd.func15, Tryd.ntmps15
  go_wp2_with fail
  refine (HR.out).mono ?_
  rintro e w1 ⟨rfl, g1⟩
  go_wp2_with fail
  refine (H2.out _ (HD.out.grown0 g1)).mono ?_
  rintro e w2 ⟨rfl, g2⟩
  go_wp2_with fail
  refine (HC.out _ ((HD.out.grown0 g1).grown0 g2)).mono ?_
  rintro e w3 ⟨rfl, g3⟩
  go_wp2_with fail
  refine (H1.out _ (((HD.out.grown0 g1).grown0 g2).grown0 g3)).mono ?_
  rintro e w4 ⟨rfl, g4⟩
  go_wp2
  go_ret
  exact ⟨rfl, gb_trans (gb_trans (gb_trans g1 g2) g3) g4⟩
theorem PrimeWords_walk (n : Int) (w : World) (h : 0 ≤ n ∧ n < 18446744073709551616) (hd : Db w) : Calls Tryd.prog 4 #[.int .u64 n] w fun e w' => e = .returned (.bool true) ∧ w.grownBy w' none := by
  obtain ⟨m, hm⟩ := nat_of h.1
  have m64 : m < 2 ^ 64 := by omega
  have I := fun w (h : Db w) => is_c w m m64 h
  have R := fun w => refPrime_c w m m64
  rw [← hm] at I R
  obtain ⟨b, hb⟩ : ∃ b, b = isP m := ⟨_, rfl⟩
  rw [← hb] at I R
  have HI := Lib.hid I
  have HR := Lib.hid R
  have HD := Lib.hid hd
  clear I R hd hm m64 hb h
  go_enter Tryd.func4, Tryd.ntmps4
  go_wp2_with fail
  refine (HI.out _ HD.out).mono ?_
  rintro e w1 ⟨rfl, g1⟩
  go_wp2_with fail
  refine (HR.out _).mono ?_
  rintro e w2 ⟨rfl, g2⟩
  cases b
  · go_wp2_with fail
    refine (wakes07_c _ ((HD.out.grown0 g1).grown0 g2)).mono ?_
    rintro e w3 ⟨rfl, g3⟩
    go_wp2
    go_ret
    exact ⟨rfl, gb_trans (gb_trans g1 g2) g3⟩
  · go_wp2_with fail
    refine (wakes07_c _ ((HD.out.grown0 g1).grown0 g2)).mono ?_
    rintro e w3 ⟨rfl, g3⟩
    go_wp2
    go_ret
    exact ⟨rfl, gb_trans (gb_trans g1 g2) g3⟩
theorem PrimeMods_walk (p : Int) (w : World) (h : 0 ≤ p ∧ p < 18446744073709551616) (hd : Db w) : Calls Tryd.prog 5 #[.int .u64 p] w fun e w' => e = .returned (.bool true) ∧ w.grownBy w' none := by
  obtain ⟨m, hm⟩ := nat_of h.1
  have m64 : m < 2 ^ 64 := by omega
  have R := fun w => refPrime_c w m m64
  have Y := fun w => may_c w p h.1
  by_cases hok : Pm (m : Int) ∧ isP m = true
  · have M := fun w (h : Db w) => pmod_ok w m hok.1 hok.2 h
    rw [← hm] at M R hok
    have Y2 : ∀ w, Calls Tryd.prog 18 #[.int .u64 p] w fun e w' => e = .returned (.bool true) ∧ w' = w := fun w => (Y w).mono fun e w' ⟨h1, _, h3⟩ => ⟨h1 hok.1, h3⟩
    rw [hok.2] at R
    have HM := Lib.hid M
    have HR := Lib.hid R
    have HY := Lib.hid Y2
    have HD := Lib.hid hd
    have p0 := h.1
    clear M R Y Y2 hd hm m64 h hok
    go_enter Tryd.func5, Tryd.ntmps5
    go_wp2_with fail
    refine (HM.out _ HD.out).mono ?_
    rintro e w1 ⟨g, rfl, MM, _, g1⟩
    go_wp2_with fail
    refine (HY.out _).mono ?_
    rintro e w2 ⟨rfl, rfl⟩
    go_wp2_with fail
    refine (HR.out _).mono ?_
    rintro e w3 ⟨rfl, g3⟩
    go_wp2_with fail
    refine (modP_c _ g p (MM.grown0 g3)).mono ?_
    rintro e w4 ⟨rfl, rfl⟩
    go_wp2_with fail
    refine (wakes07_c _ ((HD.out.grown0 g1).grown0 g3)).mono ?_
    rintro e w5 ⟨rfl, g5⟩
    go_wp2
    go_ret
    exact ⟨rfl, gb_trans (gb_trans g1 g3) g5⟩
  · have M := fun w (h : Db w) => pmod_no w m m64 hok h
    rw [← hm] at M R hok
    have p0 := h.1
    have HM := Lib.hid M
    have HD := Lib.hid hd
    by_cases hpm : Pm p
    · have hi : isP m = false := by
        cases e : isP m with
        | false => rfl
        | true => exact absurd ⟨hpm, e⟩ hok
      have Y2 : ∀ w, Calls Tryd.prog 18 #[.int .u64 p] w fun e w' => e = .returned (.bool true) ∧ w' = w := fun w => (Y w).mono fun e w' ⟨h1, _, h3⟩ => ⟨h1 hpm, h3⟩
      rw [hi] at R
      have HR := Lib.hid R
      have HY := Lib.hid Y2
      clear M R Y Y2 hd hm m64 h hok hpm hi
      go_enter Tryd.func5, Tryd.ntmps5
      go_wp2_with fail
      refine (HM.out _ HD.out).mono ?_
      rintro e w1 ⟨rfl, g1⟩
      go_wp2_with fail
      refine (HY.out _).mono ?_
      rintro e w2 ⟨rfl, rfl⟩
      go_wp2_with fail
      refine (HR.out _).mono ?_
      rintro e w3 ⟨rfl, g3⟩
      go_wp2_with fail
      refine (wakes07_c _ ((HD.out.grown0 g1).grown0 g3)).mono ?_
      rintro e w5 ⟨rfl, g5⟩
      go_wp2
      go_ret
      exact ⟨rfl, gb_trans (gb_trans g1 g3) g5⟩
    · have Y2 : ∀ w, Calls Tryd.prog 18 #[.int .u64 p] w fun e w' => e = .returned (.bool false) ∧ w' = w := fun w => (Y w).mono fun e w' ⟨_, h1, h3⟩ => ⟨h1 hpm, h3⟩
      have HY := Lib.hid Y2
      clear M R Y Y2 hd hm m64 h hok hpm
      go_enter Tryd.func5, Tryd.ntmps5
      go_wp2_with fail
      refine (HM.out _ HD.out).mono ?_
      rintro e w1 ⟨rfl, g1⟩
      go_wp2_with fail
      refine (HY.out _).mono ?_
      rintro e w2 ⟨rfl, rfl⟩
      go_wp2_with fail
      refine (wakes07_c _ (HD.out.grown0 g1)).mono ?_
      rintro e w5 ⟨rfl, g5⟩
      go_wp2
      go_ret
      exact ⟨rfl, gb_trans g1 g5⟩
end Go.Proofs.YtoiclkaecgpbbaaDoor
