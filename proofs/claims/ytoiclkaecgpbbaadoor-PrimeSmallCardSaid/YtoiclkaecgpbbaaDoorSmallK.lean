/- Numbers below 200000 that are no primes: the test says so, each by reckoning. -/
import Derived.Test.YtoiclkaecgpbbaaDoorMrF
namespace Go.Proofs.YtoiclkaecgpbbaaDoor

/-! ### Those that are none -/
def goB (a : Nat) : Nat → Nat → Bool
  | 0, _ => true
  | k + 1, b => if 200000 ≤ a * b then true else !isF (a * b) && goB a k (b + 2)
theorem goB_spec (a : Nat) : ∀ k b, goB a k b = true → ∀ j, j < k → a * (b + 2 * j) < 200000 → isF (a * (b + 2 * j)) = false
  | 0, _, _, j, hj, _ => by omega
  | k + 1, b, h, j, hj, hl => by
    have hb : a * b ≤ a * (b + 2 * j) := Nat.mul_le_mul_left _ (by omega)
    rw [goB, if_neg (by omega), Bool.and_eq_true] at h
    cases j with
    | zero => simpa using h.1
    | succ j =>
      have := goB_spec a k (b + 2) h.2 j (by omega) (by rw [show b + 2 + 2 * j = b + 2 * (j + 1) by omega]; exact hl)
      rw [show b + 2 + 2 * j = b + 2 * (j + 1) by omega] at this
      exact this
def odds : List Nat := (List.range 448).filter fun a => decide (41 ≤ a) && smallP.all fun p => decide (a % p ≠ 0)
def chkAll : Bool := odds.all fun a => goB a 2500 a
theorem chk_all : chkAll = true := by decide +kernel
end Go.Proofs.YtoiclkaecgpbbaaDoor
