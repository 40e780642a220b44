/- Digits: sums of three words each, carried. Plain. -/
import Derived.Test.YteklffikijpocaaDig2
namespace Go.Proofs.Yteklffikijpocaa
open Go.RowKit

def W64 : Nat := 18446744073709551616
def sumT (t : Nat → Nat) : Nat → Nat
  | 0 => 0
  | i + 1 => sumT t i + 18446744073709551616 ^ i * t i
def horT (t : Nat → Nat) : Nat → Nat → Nat
  | 0, _ => 0
  | k + 1, i => t i + 18446744073709551616 * horT t k (i + 1)
theorem sumT_hor (t : Nat → Nat) : ∀ k i, sumT t (i + k) = sumT t i + 18446744073709551616 ^ i * horT t k i
  | 0, i => by simp [horT]
  | k + 1, i => by
    have h := sumT_hor t k (i + 1)
    rw [show i + (k + 1) = i + 1 + k by omega, h, sumT, horT, Nat.mul_add, Nat.pow_succ, Nat.mul_assoc, Nat.add_assoc]
theorem sumT_lt {t : Nat → Nat} (ht : ∀ i, t i < 18446744073709551616 ^ 3) : ∀ i, sumT t i < 2 * 18446744073709551616 ^ (i + 2)
  | 0 => by rw [sumT]; decide
  | i + 1 => by
    have h := sumT_lt ht i
    have h1 : 18446744073709551616 ^ i * t i < 18446744073709551616 ^ i * 18446744073709551616 ^ 3 := Nat.mul_lt_mul_of_pos_left (ht i) (Nat.pow_pos (by decide))
    rw [sumT]
    rw [← Nat.pow_add] at h1
    have e1 : (18446744073709551616 : Nat) ^ (i + 2 + 1) = 18446744073709551616 ^ (i + 2) * 18446744073709551616 := Nat.pow_succ ..
    rw [show i + 3 = i + 2 + 1 by omega] at h1
    rw [show i + 1 + 2 = i + 2 + 1 by omega]
    omega
/-- The i-th three words' value in a flat row. -/
def t3 (xs : List Int) (i : Nat) : Nat := val 18446744073709551616 [rd xs (3 * i), rd xs (3 * i + 1), rd xs (3 * i + 2)]
def ts3 (xs : List Int) (i : Nat) : List Int := [rd xs (3 * i), rd xs (3 * i + 1), rd xs (3 * i + 2)]
theorem ts3_ws {xs : List Int} (h : Ws xs) (i : Nat) : Ws (ts3 xs i) := fun y hy => by
  unfold ts3 at hy
  simp only [List.mem_cons, List.not_mem_nil, or_false] at hy
  rcases hy with rfl | rfl | rfl <;> exact rd_w h _
theorem t3_lt {xs : List Int} (h : Ws xs) (i : Nat) : t3 xs i < 18446744073709551616 ^ 3 := val_lt (ts3_ws h i).dg
structure CaO (xs : List Int) (n i : Nat) (os : List Int) : Prop where
  len : os.length = n + 4
  ws : Ws os
  v : val 18446744073709551616 os = sumT (t3 xs) i
structure CaI (xs : List Int) (n i j : Nat) (c : Int) (os : List Int) : Prop where
  c0 : 0 ≤ c
  c1 : c ≤ 1
  len : os.length = n + 4
  ws : Ws os
  v : val 18446744073709551616 os + 18446744073709551616 ^ (i + j) * c.toNat = sumT (t3 xs) i + 18446744073709551616 ^ i * val 18446744073709551616 ((ts3 xs i).take j)
theorem CaO.start (xs : List Int) (n : Nat) : CaO xs n 0 (List.replicate (n + 4) 0) :=
  ⟨List.length_replicate, ws_replicate _, by rw [val_replicate]; rfl⟩
theorem CaO.inner {xs os : List Int} {n i : Nat} (h : CaO xs n i os) : CaI xs n i 0 0 os :=
  ⟨by decide, by decide, h.len, h.ws, by rw [h.v]; simp [val]⟩
theorem ca_arith {V V' P q t o c x W Y : Nat} (hs : V' + P * o = V + P * q) (hv : V + P * c = W + Y) (k : q + 18446744073709551616 * t = o + x + c) : V' + P * 18446744073709551616 * t = W + (Y + P * x) := by
  have h := congrArg (P * ·) k
  simp only [Nat.mul_add] at h
  rw [Nat.mul_assoc P 18446744073709551616 t]
  omega
/-- A carry beyond the third word: it is the fourth's, at most. -/
theorem CaI.top {xs os : List Int} {n i j : Nat} {c : Int} (h : CaI xs n i j c os) (hx : Ws xs) (hc : 0 < c) : j < 4 := by
  have h1 := sumT_lt (t3_lt hx) i
  have h2 : val 18446744073709551616 ((ts3 xs i).take j) < 18446744073709551616 ^ 3 := by
    have := val_lt (B := 18446744073709551616) ((ts3_ws hx i).dg.take j)
    refine Nat.lt_of_lt_of_le this (Nat.pow_le_pow_right (by decide) ?_)
    rw [List.length_take]
    exact Nat.min_le_right _ _
  have h3 : 18446744073709551616 ^ i * val 18446744073709551616 ((ts3 xs i).take j) < 18446744073709551616 ^ i * 18446744073709551616 ^ 3 := Nat.mul_lt_mul_of_pos_left h2 (Nat.pow_pos (by decide))
  rw [← Nat.pow_add] at h3
  have hv := h.v
  have c1 := h.c1
  have e : c.toNat = 1 := by omega
  rw [e, Nat.mul_one] at hv
  by_cases k : j < 4
  · exact k
  · have h4 : (18446744073709551616 : Nat) ^ (i + 2 + 1 + 1) ≤ 18446744073709551616 ^ (i + j) := Nat.pow_le_pow_right (by decide) (by omega)
    have e1 : (18446744073709551616 : Nat) ^ (i + 2 + 1) = 18446744073709551616 ^ (i + 2) * 18446744073709551616 := Nat.pow_succ ..
    have e2 : (18446744073709551616 : Nat) ^ (i + 2 + 1 + 1) = 18446744073709551616 ^ (i + 2 + 1) * 18446744073709551616 := Nat.pow_succ ..
    rw [show i + 3 = i + 2 + 1 by omega] at h3
    omega
theorem CaI.step {xs os : List Int} {n i j : Nat} {c x s : Int} (h : CaI xs n i j c os) (hx : Ws xs) (hi : i < n) (hj : j < 4) (hxx : x = rd (ts3 xs i) j)
    (hs : s = rd os (i + j) + x + c) : CaI xs n i (j + 1) (s / 18446744073709551616) (os.set (i + j) (s % 18446744073709551616)) := by
  have x0 := rd_w (ts3_ws hx i) j
  rw [← hxx] at x0
  have o0 := rd_w h.ws (i + j)
  have c0 := h.c0
  have c1 := h.c1
  have hk : i + j < os.length := by rw [h.len]; omega
  refine ⟨by omega, by omega, by rw [List.length_set, h.len], ws_set h.ws _ (by omega) (by omega), ?_⟩
  have hv := val_set 18446744073709551616 hk (s % 18446744073709551616)
  have e := val_take_any 18446744073709551616 (ts3 xs i) j
  rw [e, ← hxx, Nat.mul_add, show i + (j + 1) = i + j + 1 by omega, Nat.pow_succ]
  have e2 : 18446744073709551616 ^ i * (18446744073709551616 ^ j * x.toNat) = 18446744073709551616 ^ (i + j) * x.toNat := by rw [Nat.pow_add, Nat.mul_assoc]
  rw [e2]
  exact ca_arith hv h.v (by omega)
theorem CaI.last {xs os : List Int} {n i j : Nat} (h : CaI xs n i j 0 os) (hj : 3 ≤ j) : CaO xs n (i + 1) os := by
  refine ⟨h.len, h.ws, ?_⟩
  have hv := h.v
  rw [List.take_of_length_le (by exact hj)] at hv
  have : (0 : Int).toNat = 0 := rfl
  rw [this, Nat.mul_zero, Nat.add_zero] at hv
  rw [hv]; rfl
end Go.Proofs.Yteklffikijpocaa
