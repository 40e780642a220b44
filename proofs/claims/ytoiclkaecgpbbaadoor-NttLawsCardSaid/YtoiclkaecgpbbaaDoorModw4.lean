/- Residues of a word: powers, inverses. -/
import Derived.Test.YtoiclkaecgpbbaaDoorModw3
namespace Go.Proofs.YtoiclkaecgpbbaaDoor
open Go.RowKit

/-- The state of the powers: x is X 2^64, out is O 2^64, and O X^n is the power. -/
def PowI (p a : Int) (n0 : Nat) (x out : Int) (n : Nat) : Prop :=
  ∃ X O : Int, Cg p x (X * 18446744073709551616) ∧ Cg p out (O * 18446744073709551616) ∧ Cg p (O * X ^ n) (a ^ n0)
theorem PowI.odd {p a x out r r' : Int} {n0 n : Nat} (hp : Pm p) (h : PowI p a n0 x out n) (hn : n % 2 = 1) (k : Cg p (r * 18446744073709551616) (out * x)) (k' : Cg p (r' * 18446744073709551616) (x * x)) : PowI p a n0 r' r (n / 2) := by
  obtain ⟨X, O, h1, h2, h3⟩ := h
  have hp0 : 0 < p := by have := hp.lo; omega
  refine ⟨X * X, O * X, Cg.cancel64 hp.odd hp0 (k'.trans ((h1.mul h1).trans (Cg.of_eq (by grind)))), Cg.cancel64 hp.odd hp0 (k.trans ((h2.mul h1).trans (Cg.of_eq (by grind)))), Cg.trans (Cg.of_eq ?_) h3⟩
  have e : n = 2 * (n / 2) + 1 := by omega
  generalize n / 2 = m at *
  subst e
  rw [Int.pow_succ, Int.pow_mul, Int.pow_succ, Int.pow_succ, Int.pow_zero, Int.one_mul]
  grind
theorem PowI.even {p a x out r' : Int} {n0 n : Nat} (hp : Pm p) (h : PowI p a n0 x out n) (hn : n % 2 = 0) (k' : Cg p (r' * 18446744073709551616) (x * x)) : PowI p a n0 r' out (n / 2) := by
  obtain ⟨X, O, h1, h2, h3⟩ := h
  have hp0 : 0 < p := by have := hp.lo; omega
  refine ⟨X * X, O, Cg.cancel64 hp.odd hp0 (k'.trans ((h1.mul h1).trans (Cg.of_eq (by grind)))), h2, Cg.trans (Cg.of_eq ?_) h3⟩
  have e : n = 2 * (n / 2) := by omega
  generalize n / 2 = m at *
  subst e
  rw [Int.pow_mul, Int.pow_succ, Int.pow_succ, Int.pow_zero, Int.one_mul]
theorem modPow_c (w : World) (g : Nat) (p a n : Int) (h : Md w g p) (ha : 0 ≤ a) (hn0 : 0 ≤ n) (hn1 : n < 18446744073709551616) :
    Calls Tryd.prog 76 #[.pointer (some ⟨g, 0, none⟩), .int .u64 a, .int .u64 n] w fun e w' => e = .returned (.int .u64 (a ^ n.toNat % p)) ∧ w.grownBy w' none := by
  have hc := h.c0
  have hc2 := h.one
  have hp := h.neg0
  have hp' := h.pm.hi
  have a0 := Int.emod_nonneg a (show p ≠ 0 by omega)
  have a1 := Int.emod_lt_of_pos a hp
  have x0 := Int.emod_nonneg (a % p * 18446744073709551616) (show p ≠ 0 by omega)
  have x1 := Int.emod_lt_of_pos (a % p * 18446744073709551616) hp
  have o0 := Int.emod_nonneg 18446744073709551616 (show p ≠ 0 by omega)
  have o1 := Int.emod_lt_of_pos 18446744073709551616 hp
  have i0 : PowI p a n.toNat (a % p * 18446744073709551616 % p) (18446744073709551616 % p) n.toNat :=
    ⟨a, 1, (Cg.mod _ _).trans ((Cg.mod p a).mulr _), (Cg.mod _ _).trans (Cg.of_eq (by omega)), Cg.of_eq (by rw [Int.one_mul])⟩
  obtain ⟨x, hx⟩ : ∃ x, x = a % p * 18446744073709551616 % p := ⟨_, rfl⟩
  obtain ⟨o, ho⟩ : ∃ o, o = 18446744073709551616 % p := ⟨_, rfl⟩
  rw [← ho] at hc2
  rw [← hx, ← ho] at i0
  rw [← hx] at x0 x1
  rw [← ho] at o0 o1
  have HX := Lib.hid hx
  obtain ⟨N, hN⟩ : ∃ N, N = n.toNat := ⟨_, rfl⟩
  rw [← hN] at i0 ⊢
  have hNn : n = (N : Int) := by omega
  subst hNn
  clear hN hx ho
  go_enter Tryd.func76, Tryd.ntmps76
  go_wp2
  have hF : Canon.SF [(⟨g, 2, none⟩, .int .u64 o)] w := Canon.sf_cons hc2 (Canon.sf_nil _)
  refine Canon.region_held [20] _ (by kernel_rfl) (by kernel_rfl) hF ?_
  refine Canon.segs_at 7 _ _ _ (by kernel_rfl) ?_
  simp only [List.take_succ_cons, List.take_zero, List.drop_succ_cons, List.drop_zero]
  go_wp2_with fail
  refine (mont_c _ g p _ h.drew a0 a1).mono ?_
  rintro e w' ⟨rfl, rfl⟩
  rw [← HX.out]
  go_wp2
  refine ⟨hF, ?_⟩
  refine Canon.segs_end _ _ _ (by kernel_rfl) ?_
  go_wp2
  refine ⟨by kernel_rfl, by kernel_rfl, by kernel_rfl, ?_⟩
  go_wp2
  clear hF
  go_loopw [2, 7, 8] (fun v2 v7 v8 wr => ∃ (m : Nat) (y z : Int), v2 = .int .u64 m ∧ v7 = .int .u64 y ∧ v8 = .int .u64 z ∧ m ≤ N ∧ 0 ≤ y ∧ y < p ∧ 0 ≤ z ∧ z < p ∧ PowI p a N y z m ∧ w.grownBy wr none) (fun v2 _ _ _ => (intOf v2).toNat)
  case atStart => exact ⟨N, x, o, rfl, rfl, rfl, Nat.le_refl _, x0, x1, o0, o1, i0, gb_drew (gb_refl _ _)⟩
  case round =>
    clear i0 x0 x1 o0 o1 HX
    obtain ⟨m, y, z, rfl, rfl, rfl, hm, y0, y1, z0, z1, I, GG⟩ := hrel
    have HI := Lib.hid I
    clear I
    have hc := (h.grown0 GG).c0
    by_cases hm0 : 0 < m
    · by_cases hodd : m % 2 = 1
      · have ho : ((m : Int) % 2 == 1) = true := by simp; omega
        have ho2 : (m : Int) % 2 = 1 := by omega
        go_wp2_with fail
        refine (mul64_c z y (by omega) (by omega) (by omega) (by omega) _).mono ?_
        rintro e w' ⟨rfl, rfl⟩
        go_wp2_with fail
        refine (redc_c _ g p _ _ (h.grown0 GG) (Int.ediv_nonneg (Int.mul_nonneg (by omega) (by omega)) (by decide)) (hi_lt (by omega) (by omega) (by omega) (by omega)) (by omega) (by omega)).mono ?_
        rintro e w' ⟨r, rfl, r0, r1, kr, rfl⟩
        rw [word_eq] at kr
        have Kr := Lib.hid kr
        clear kr
        go_wp2_with fail
        refine (mul64_c y y (by omega) (by omega) (by omega) (by omega) _).mono ?_
        rintro e w' ⟨rfl, rfl⟩
        go_wp2_with fail
        refine (redc_c _ g p _ _ (h.grown0 GG) (Int.ediv_nonneg (Int.mul_nonneg (by omega) (by omega)) (by decide)) (hi_lt (by omega) (by omega) (by omega) (by omega)) (by omega) (by omega)).mono ?_
        rintro e w' ⟨r', rfl, r'0, r'1, kr', rfl⟩
        rw [word_eq] at kr'
        have Kr' := Lib.hid kr'
        clear kr'
        go_wp2
        go_roundw
        case rel => exact ⟨m / 2, r', r, by go_num, rfl, rfl, by omega, r'0, r'1, r0, r1, HI.out.odd h.pm hodd Kr.out Kr'.out, GG⟩
        case measure => simp [intOf]; omega
      · have ho : ((m : Int) % 2 == 1) = false := by simp; omega
        have ho2 : (m : Int) % 2 = 0 := by omega
        go_wp2_with fail
        refine (mul64_c y y (by omega) (by omega) (by omega) (by omega) _).mono ?_
        rintro e w' ⟨rfl, rfl⟩
        go_wp2_with fail
        refine (redc_c _ g p _ _ (h.grown0 GG) (Int.ediv_nonneg (Int.mul_nonneg (by omega) (by omega)) (by decide)) (hi_lt (by omega) (by omega) (by omega) (by omega)) (by omega) (by omega)).mono ?_
        rintro e w' ⟨r', rfl, r'0, r'1, kr', rfl⟩
        rw [word_eq] at kr'
        have Kr' := Lib.hid kr'
        clear kr'
        go_wp2
        go_roundw
        case rel => exact ⟨m / 2, r', z, by go_num, rfl, rfl, by omega, r'0, r'1, z0, z1, HI.out.even h.pm (by omega) Kr'.out, GG⟩
        case measure => simp [intOf]; omega
    · obtain rfl : m = 0 := by omega
      go_wp2_with fail
      refine (redc_c _ g p _ _ (h.grown0 GG) (by decide) hp z0 (by omega)).mono ?_
      rintro e w' ⟨r, rfl, r0, r1, k, rfl⟩
      rw [Int.zero_mul, Int.zero_add] at k
      have fin : r = a ^ N % p := by
        obtain ⟨X, O, h1, h2, h3⟩ := HI.out
        rw [Int.pow_zero, Int.mul_one] at h3
        exact ((Cg.cancel64 h.pm.odd hp (k.trans h2)).trans h3).eq_mod r0 r1
      subst fin
      clear k r0 r1
      go_wp2
      go_ret
      exact ⟨rfl, GG⟩
end Go.Proofs.YtoiclkaecgpbbaaDoor
