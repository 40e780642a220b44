/- The test of primes; the lowest binary digit. Plain. -/
import Derived.Test.YtoiclkaecgpbbaaDoorArith
namespace Go.Proofs.YtoiclkaecgpbbaaDoor

theorem low_bit (s e : Nat) (h : 2 ^ s * (2 * e + 1) < 2 ^ 64) : (2 ^ s * (2 * e + 1)) &&& (2 ^ 64 - 2 ^ s * (2 * e + 1)) = 2 ^ s := by
  have hs : s < 64 := by
    by_cases k : s < 64
    · exact k
    · have h1 : 2 ^ 64 ≤ 2 ^ s := Nat.pow_le_pow_right (by decide) (by omega)
      have h2 : 2 ^ s * 1 ≤ 2 ^ s * (2 * e + 1) := Nat.mul_le_mul_left _ (by omega)
      omega
  obtain ⟨k, hk⟩ : ∃ k, k = 63 - s := ⟨_, rfl⟩
  have e64 : (2 : Nat) ^ 64 = 2 ^ s * (2 * 2 ^ k) := by
    rw [show (2 : Nat) * 2 ^ k = 2 ^ (k + 1) by rw [Nat.pow_succ, Nat.mul_comm], ← Nat.pow_add]
    congr 1
    omega
  rw [e64] at h ⊢
  have h1 : 2 * e + 1 < 2 * 2 ^ k := Nat.lt_of_mul_lt_mul_left h
  have h2 : e < 2 ^ k := by omega
  rw [← Nat.mul_sub, show 2 * 2 ^ k - (2 * e + 1) = 2 * (2 ^ k - (e + 1)) + 1 by omega]
  refine Nat.eq_of_testBit_eq fun j => ?_
  rw [Nat.testBit_and, Nat.testBit_two_pow_mul, Nat.testBit_two_pow_mul, Nat.testBit_two_pow]
  by_cases hj : s ≤ j
  · rw [decide_eq_true (show j ≥ s from hj), Bool.true_and, Bool.true_and]
    obtain ⟨i, rfl⟩ : ∃ i, j = s + i := ⟨j - s, by omega⟩
    rw [Nat.add_sub_cancel_left]
    cases i with
    | zero =>
      rw [Nat.testBit_zero, Nat.testBit_zero, decide_eq_true (by omega), decide_eq_true (by omega), Nat.add_zero, decide_eq_true rfl]; rfl
    | succ i =>
      rw [Nat.testBit_succ, Nat.testBit_succ, show (2 * e + 1) / 2 = e by omega, show (2 * (2 ^ k - (e + 1)) + 1) / 2 = 2 ^ k - (e + 1) by omega, Nat.testBit_two_pow_sub_succ h2, decide_eq_false (show ¬ s = s + (i + 1) by omega)]
      cases Nat.testBit e i <;> simp
  · rw [decide_eq_false (show ¬ j ≥ s from hj), Bool.false_and, Bool.false_and, decide_eq_false (by omega)]
/-- The table's entries. -/
def db : List Nat := [0, 1, 56, 2, 57, 49, 28, 3, 61, 58, 42, 50, 38, 29, 17, 4, 62, 47, 59, 36, 45, 43, 51, 22, 53, 39, 33, 30, 24, 18, 12, 5, 63, 55, 48, 27, 60, 41, 37, 16, 46, 35, 44, 21, 52, 32, 23, 11, 54, 26, 40, 15, 34, 20, 31, 10, 25, 14, 19, 9, 13, 8, 7, 6]
theorem db_at (s : Nat) (h : s < 64) : 2 ^ s * 285870213051353865 % 18446744073709551616 / 2 ^ 58 < 64 ∧ db.getD (2 ^ s * 285870213051353865 % 18446744073709551616 / 2 ^ 58) 0 = s := by
  have : ∀ s : Fin 64, 2 ^ s.1 * 285870213051353865 % 18446744073709551616 / 2 ^ 58 < 64 ∧ db.getD (2 ^ s.1 * 285870213051353865 % 18446744073709551616 / 2 ^ 58) 0 = s.1 := by decide +kernel
  exact this ⟨s, h⟩
/-! ### The test -/
def mrL (n : Int) : Nat → Int → Bool
  | 0, _ => true
  | c + 1, x => if x * x % n = n - 1 then false else mrL n c (x * x % n)
/-- Does a say that n is none? -/
def wit (a n : Int) (d s : Nat) : Bool := if a ^ d % n = 0 ∨ a ^ d % n = 1 ∨ a ^ d % n = n - 1 then false else mrL n (s - 1) (a ^ d % n)
def smallP : List Nat := [2, 3, 5, 7, 11, 13, 17, 19, 23, 29, 31, 37]
/-- n - 1 is 2 to the first times the second. -/
def tzF : Nat → Nat → Nat × Nat
  | 0, m => (0, m)
  | k + 1, m => if m % 2 = 1 then (0, m) else ((tzF k (m / 2)).1 + 1, (tzF k (m / 2)).2)
theorem tzF_spec : ∀ k m, 0 < m → m < 2 ^ k → m = 2 ^ (tzF k m).1 * (tzF k m).2 ∧ (tzF k m).2 % 2 = 1 ∧ (tzF k m).1 < k
  | 0, m, h0, h1 => by rw [Nat.pow_zero] at h1; omega
  | k + 1, m, h0, h1 => by
    unfold tzF
    by_cases h : m % 2 = 1
    · rw [if_pos h]; exact ⟨by rw [Nat.pow_zero, Nat.one_mul], h, by omega⟩
    · rw [if_neg h]
      rw [Nat.pow_succ] at h1
      obtain ⟨e, o, l⟩ := tzF_spec k (m / 2) (by omega) (by omega)
      refine ⟨?_, o, by omega⟩
      show m = 2 ^ ((tzF k (m / 2)).1 + 1) * _
      rw [Nat.pow_succ, Nat.mul_assoc, Nat.mul_left_comm, ← e]; omega
def tz (m : Nat) : Nat × Nat := tzF 64 m
def divB (n : Nat) : List Nat → Option Nat
  | [] => none
  | p :: l => if n % p = 0 then some p else divB n l
def isP (n : Nat) : Bool :=
  if n < 2 then false else
    match divB n smallP with
    | some p => n == p
    | none => smallP.all fun p => !wit p n (tz (n - 1)).2 (tz (n - 1)).1
end Go.Proofs.YtoiclkaecgpbbaaDoor
