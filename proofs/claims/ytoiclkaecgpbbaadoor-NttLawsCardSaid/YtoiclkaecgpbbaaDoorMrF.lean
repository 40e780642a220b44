/- The test of primes, reckoned fast. Plain. -/
import Derived.Test.YtoiclkaecgpbbaaDoorMr
namespace Go.Proofs.YtoiclkaecgpbbaaDoor

/-- a to the d modulo n, by squares. -/
def pmF : Nat → Nat → Nat → Nat → Nat
  | 0, _, _, n => 1 % n
  | k + 1, a, d, n => if d = 0 then 1 % n else if d % 2 = 1 then a * pmF k (a * a % n) (d / 2) n % n else pmF k (a * a % n) (d / 2) n
theorem pmF_spec : ∀ k a d n, d < 2 ^ k → pmF k a d n = a ^ d % n
  | 0, a, d, n, h => by
    rw [Nat.pow_zero] at h
    obtain rfl : d = 0 := by omega
    rw [pmF, Nat.pow_zero]
  | k + 1, a, d, n, h => by
    rw [pmF]
    rw [Nat.pow_succ] at h
    by_cases h0 : d = 0
    · rw [if_pos h0, h0, Nat.pow_zero]
    · have ih := pmF_spec k (a * a % n) (d / 2) n (by omega)
      rw [if_neg h0, ih, ← Nat.pow_mod]
      by_cases h1 : d % 2 = 1
      · rw [if_pos h1]
        have e : a ^ d = a * (a * a) ^ (d / 2) := by
          rw [← Nat.pow_two, ← Nat.pow_mul, Nat.mul_comm a, ← Nat.pow_succ]
          congr 1; omega
        rw [e, Nat.mul_mod, Nat.mod_mod, ← Nat.mul_mod]
      · rw [if_neg h1]
        have e : a ^ d = (a * a) ^ (d / 2) := by
          rw [← Nat.pow_two, ← Nat.pow_mul]
          congr 1; omega
        rw [e]
def mrF (n : Nat) : Nat → Nat → Bool
  | 0, _ => true
  | c + 1, x => let y := x * x % n; if y = n - 1 then false else mrF n c y
def witF (a n d s : Nat) : Bool := let x := pmF 64 a d n; if x = 0 ∨ x = 1 ∨ x = n - 1 then false else mrF n (s - 1) x
theorem mrF_eq {n : Nat} (hn : 0 < n) : ∀ c x : Nat, mrL n c x = mrF n c x
  | 0, _ => rfl
  | c + 1, x => by
    rw [mrL, mrF]
    have e : (x : Int) * x % n = ((x * x % n : Nat) : Int) := by rw [Int.natCast_emod, Int.natCast_mul]
    rw [e]
    have e2 : (((x * x % n : Nat) : Int) = (n : Int) - 1) = (x * x % n = n - 1) := by
      apply propext; omega
    simp only [e2, mrF_eq hn c]
theorem witF_eq {a n d s : Nat} (hn : 0 < n) (hd : d < 2 ^ 64) : wit a n d s = witF a n d s := by
  have e : (a : Int) ^ d % n = ((pmF 64 a d n : Nat) : Int) := by rw [pmF_spec 64 a d n hd, Int.natCast_emod, Int.natCast_pow]
  rw [wit, witF, e]
  have e0 : (((pmF 64 a d n : Nat) : Int) = 0) = (pmF 64 a d n = 0) := by apply propext; omega
  have e1 : (((pmF 64 a d n : Nat) : Int) = 1) = (pmF 64 a d n = 1) := by apply propext; omega
  have e2 : (((pmF 64 a d n : Nat) : Int) = (n : Int) - 1) = (pmF 64 a d n = n - 1) := by apply propext; omega
  simp only [e0, e1, e2, mrF_eq hn]
def isF (n : Nat) : Bool :=
  if n < 2 then false else
    match divB n smallP with
    | some p => n == p
    | none => let t := tz (n - 1); smallP.all fun p => !witF p n t.2 t.1
theorem tz_le {n : Nat} (h0 : 0 < n) (h : n < 2 ^ 64) : (tz n).2 < 2 ^ 64 := by
  obtain ⟨e1, e2, e3⟩ := tzF_spec 64 n h0 h
  have hp : 0 < 2 ^ (tzF 64 n).1 := Nat.pow_pos (by decide)
  have : (tzF 64 n).2 * 1 ≤ (tzF 64 n).2 * 2 ^ (tzF 64 n).1 := Nat.mul_le_mul_left _ hp
  rw [Nat.mul_comm _ (2 ^ _)] at this
  show (tzF 64 n).2 < 2 ^ 64
  omega
theorem isF_eq {n : Nat} (hn : n < 2 ^ 64) : isP n = isF n := by
  unfold isP isF
  by_cases h2 : n < 2
  · rw [if_pos h2, if_pos h2]
  · rw [if_neg h2, if_neg h2]
    cases divB n smallP with
    | some p => rfl
    | none =>
      have hd := tz_le (n := n - 1) (by omega) (by omega)
      show (smallP.all fun p => !wit p n (tz (n - 1)).2 (tz (n - 1)).1) = (smallP.all fun p => !witF p n (tz (n - 1)).2 (tz (n - 1)).1)
      congr 1
      funext p
      rw [witF_eq (by omega) hd]
theorem isP_17 : isP 17 = true := by rw [isF_eq (by decide)]; decide +kernel
theorem isP_2 : isP 2 = true := by rw [isF_eq (by decide)]; decide +kernel
theorem isP_1 : isP 1 = false := by rw [isF_eq (by decide)]; decide +kernel
theorem isP_c : isP 3215031751 = false := by rw [isF_eq (by decide)]; decide +kernel
end Go.Proofs.YtoiclkaecgpbbaaDoor
