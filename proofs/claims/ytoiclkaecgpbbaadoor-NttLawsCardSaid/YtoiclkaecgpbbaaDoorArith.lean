/- Plain facts on residues. -/
namespace Go.Proofs.YtoiclkaecgpbbaaDoor

/-- p is odd: what 2^64 times it is 0 modulo p is 0. -/
theorem odd_cancel {p : Int} (hp : p % 2 = 1) (h0 : 0 < p) {x : Int} (k : Nat) (h : x * 2 ^ k % p = 0) : x % p = 0 := by
  have hd : p ∣ x * 2 ^ k := Int.dvd_of_emod_eq_zero h
  have hc : Nat.Coprime p.natAbs ((2 : Int) ^ k).natAbs := by
    rw [Int.natAbs_pow]
    refine Nat.Coprime.pow_right k ?_
    have : p.natAbs % 2 = 1 := by omega
    show Nat.gcd _ 2 = 1
    rw [Nat.gcd_comm, Nat.gcd_rec, this]; rfl
  have h2 : p.natAbs ∣ x.natAbs * ((2 : Int) ^ k).natAbs := by
    rw [← Int.natAbs_mul]; exact Int.natAbs_dvd_natAbs.2 hd
  have := Nat.Coprime.dvd_of_dvd_mul_right hc h2
  exact Int.emod_eq_zero_of_dvd (Int.natAbs_dvd_natAbs.1 this)
theorem odd_cancel2 {p : Int} (hp : p % 2 = 1) (h0 : 0 < p) {x y : Int} (k : Nat) (h : x * 2 ^ k % p = y * 2 ^ k % p) : x % p = y % p := by
  have h1 : (x - y) * 2 ^ k % p = 0 := by
    rw [Int.sub_mul, Int.sub_emod, h, Int.sub_self]; rfl
  have h2 := odd_cancel hp h0 k h1
  exact Int.emod_eq_emod_iff_emod_sub_eq_zero.2 h2
/-- Alike modulo p. -/
def Cg (p x y : Int) : Prop := x % p = y % p
namespace Cg
variable {p x y z u v : Int}
theorem refl (p x : Int) : Cg p x x := rfl
theorem symm (h : Cg p x y) : Cg p y x := Eq.symm h
theorem trans (h : Cg p x y) (k : Cg p y z) : Cg p x z := Eq.trans h k
theorem of_eq (h : x = y) : Cg p x y := by rw [h]; rfl
theorem add (h : Cg p x y) (k : Cg p u v) : Cg p (x + u) (y + v) := by
  unfold Cg at *; rw [Int.add_emod, h, k, ← Int.add_emod]
theorem sub (h : Cg p x y) (k : Cg p u v) : Cg p (x - u) (y - v) := by
  unfold Cg at *; rw [Int.sub_emod, h, k, ← Int.sub_emod]
theorem mul (h : Cg p x y) (k : Cg p u v) : Cg p (x * u) (y * v) := by
  unfold Cg at *; rw [Int.mul_emod, h, k, ← Int.mul_emod]
theorem neg (h : Cg p x y) : Cg p (-x) (-y) := by
  have := (refl p 0).sub h
  simpa using this
theorem mulr (h : Cg p x y) (u : Int) : Cg p (x * u) (y * u) := h.mul (refl p u)
theorem mull (h : Cg p x y) (u : Int) : Cg p (u * x) (u * y) := (refl p u).mul h
theorem pow (h : Cg p x y) (n : Nat) : Cg p (x ^ n) (y ^ n) := by
  induction n with
  | zero => rw [Int.pow_zero, Int.pow_zero]; exact refl _ _
  | succ n ih => rw [Int.pow_succ, Int.pow_succ]; exact ih.mul h
theorem mod (p x : Int) : Cg p (x % p) x := Int.emod_emod x p
theorem multiple (p k : Int) : Cg p (p * k) 0 := by unfold Cg; rw [Int.mul_emod_right, Int.zero_emod]
theorem add_mult (p x k : Int) : Cg p (x + p * k) x := Int.add_mul_emod_self_left ..
theorem eq (h : Cg p x y) (hx : 0 ≤ x) (hx' : x < p) (hy : 0 ≤ y) (hy' : y < p) : x = y := by
  unfold Cg at h; rwa [Int.emod_eq_of_lt hx hx', Int.emod_eq_of_lt hy hy'] at h
theorem eq_mod (h : Cg p x y) (hx : 0 ≤ x) (hx' : x < p) : x = y % p := by
  unfold Cg at h; rwa [Int.emod_eq_of_lt hx hx'] at h
theorem cancel (hp : p % 2 = 1) (h0 : 0 < p) (k : Nat) (h : Cg p (x * 2 ^ k) (y * 2 ^ k)) : Cg p x y := odd_cancel2 hp h0 k h
theorem cancel64 (hp : p % 2 = 1) (h0 : 0 < p) (h : Cg p (x * 18446744073709551616) (y * 18446744073709551616)) : Cg p x y := cancel hp h0 64 h
end Cg
/-- Newton's step for the inverse modulo 2^64. -/
theorem newton (p x e : Int) (h : p * x = 1 + e) : p * (x * (2 - p * x)) = 1 - e * e := by
  grind
end Go.Proofs.YtoiclkaecgpbbaaDoor
