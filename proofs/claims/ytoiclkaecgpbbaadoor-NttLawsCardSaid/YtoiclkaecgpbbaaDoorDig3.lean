/- Digits: the product by hand. Plain. -/
import Derived.Test.YtoiclkaecgpbbaaDoorDig2
namespace Go.Proofs.YtoiclkaecgpbbaaDoor
open Go.RowKit

structure MuO (xs ys : List Int) (i : Nat) (os : List Int) : Prop where
  len : os.length = xs.length + ys.length
  dg : Dg 4294967296 os
  top : ∀ k, i + ys.length ≤ k → rd os k = 0
  v : val 4294967296 os = val 4294967296 (xs.take i) * val 4294967296 ys
structure MuI (xs ys : List Int) (i j : Nat) (c : Int) (os : List Int) : Prop where
  c0 : 0 ≤ c
  c1 : c < 4294967296
  len : os.length = xs.length + ys.length
  dg : Dg 4294967296 os
  top : ∀ k, i + ys.length ≤ k → rd os k = 0
  v : val 4294967296 os + 4294967296 ^ (i + j) * c.toNat = val 4294967296 (xs.take i) * val 4294967296 ys + 4294967296 ^ i * ((rd xs i).toNat * val 4294967296 (ys.take j))
theorem rd_replicate (n k : Nat) : rd (List.replicate n 0) k = 0 := by
  have := rd_pad [] n k
  rw [List.nil_append] at this
  rw [this]; rfl
theorem MuO.start (xs ys : List Int) : MuO xs ys 0 (List.replicate (xs.length + ys.length) 0) :=
  ⟨List.length_replicate, Dg.replicate (by decide) _, fun _ _ => rd_replicate _ _, by rw [val_replicate]; simp [val]⟩
theorem MuO.inner {xs ys os : List Int} {i : Nat} (h : MuO xs ys i os) : MuI xs ys i 0 0 os :=
  ⟨by decide, by decide, h.len, h.dg, h.top, by rw [h.v]; simp [val]⟩
theorem mu_bound {a b c d : Int} (a0 : 0 ≤ a) (a1 : a < 4294967296) (b0 : 0 ≤ b) (b1 : b < 4294967296) (c0 : 0 ≤ c) (c1 : c < 4294967296) (d0 : 0 ≤ d) (d1 : d < 4294967296) :
    0 ≤ a * b ∧ a * b ≤ 18446744065119617025 ∧ 0 ≤ c + a * b + d ∧ c + a * b + d < 18446744073709551616 := by
  have h1 : 0 ≤ a * b := Int.mul_nonneg a0 b0
  have h2 : a * b ≤ 4294967295 * 4294967295 := Int.mul_le_mul (by omega) (by omega) b0 (by decide)
  omega
theorem mu_arith {V V' P q t o c x y W Y : Nat} (hs : V' + P * o = V + P * q) (hv : V + P * c = W + Y) (k : q + 4294967296 * t = o + x * y + c) : V' + P * 4294967296 * t = W + (Y + P * (x * y)) := by
  have h := congrArg (P * ·) k
  simp only [Nat.mul_add] at h
  rw [Nat.mul_assoc P 4294967296 t]
  omega
theorem MuI.step {xs ys os : List Int} {i j : Nat} {c s : Int} (h : MuI xs ys i j c os) (hx : Dg 4294967296 xs) (hy : Dg 4294967296 ys) (hi : i < xs.length) (hj : j < ys.length)
    (hs : s = rd os (i + j) + rd xs i * rd ys j + c) : MuI xs ys i (j + 1) (s / 4294967296) (os.set (i + j) (s % 4294967296)) := by
  have x0 := hx.at_ (by decide) i
  have y0 := hy.at_ (by decide) j
  have o0 := h.dg.at_ (by decide) (i + j)
  obtain ⟨p0, _, p2, p3⟩ := mu_bound x0.1 x0.2 y0.1 y0.2 o0.1 o0.2 h.c0 h.c1
  have hk : i + j < os.length := by rw [h.len]; omega
  refine ⟨by omega, by omega, by rw [List.length_set, h.len], h.dg.set _ (by omega) (by show _ < ((4294967296 : Nat) : Int); omega), fun k hk => by rw [rd_set_ne (by omega)]; exact h.top k hk, ?_⟩
  have hv := val_set 4294967296 hk (s % 4294967296)
  have e := val_take_any 4294967296 ys j
  rw [e, Nat.mul_add (rd xs i).toNat, Nat.mul_add (4294967296 ^ i), show i + (j + 1) = i + j + 1 by omega, Nat.pow_succ]
  have e2 : 4294967296 ^ i * ((rd xs i).toNat * (4294967296 ^ j * (rd ys j).toNat)) = 4294967296 ^ (i + j) * ((rd xs i).toNat * (rd ys j).toNat) := by rw [Nat.pow_add]; grind
  rw [e2]
  refine mu_arith hv h.v ?_
  have e3 : rd xs i * rd ys j = (((rd xs i).toNat * (rd ys j).toNat : Nat) : Int) := by
    rw [Int.natCast_mul, Int.toNat_of_nonneg x0.1, Int.toNat_of_nonneg y0.1]
  obtain ⟨q, hq⟩ : ∃ q, q = (rd xs i).toNat * (rd ys j).toNat := ⟨_, rfl⟩
  rw [← hq] at e3 ⊢
  rw [e3] at hs p2 p3
  obtain ⟨c0, c1⟩ := And.intro h.c0 h.c1
  omega
theorem MuI.last {xs ys os : List Int} {i : Nat} {c : Int} (h : MuI xs ys i ys.length c os) (hi : i < xs.length) : MuO xs ys (i + 1) (os.set (i + ys.length) c) := by
  have hk : i + ys.length < os.length := by rw [h.len]; omega
  have hv := val_set 4294967296 hk c
  rw [h.top _ (Nat.le_refl _)] at hv
  have hv2 := h.v
  rw [List.take_of_length_le (Nat.le_refl _)] at hv2
  refine ⟨by rw [List.length_set, h.len], h.dg.set _ h.c0 h.c1, fun k hk => by rw [rd_set_ne (by omega)]; exact h.top k (by omega), ?_⟩
  rw [val_take_any, Nat.add_mul, Nat.mul_assoc]
  have : (0 : Int).toNat = 0 := rfl
  rw [this] at hv
  omega
theorem MuO.last {xs ys os : List Int} {i : Nat} (h : MuO xs ys i os) (hi : xs.length ≤ i) : val 4294967296 os = val 4294967296 xs * val 4294967296 ys := by
  rw [h.v, List.take_of_length_le hi]
/-- Pairs of digits, k made. -/
structure Pr (xs : List Int) (k : Nat) (os : List Int) : Prop where
  len : os.length = k
  v : val 18446744073709551616 os = val 4294967296 (xs.take (2 * k))
theorem Pr.start (xs : List Int) : Pr xs 0 [] := ⟨rfl, by simp [val]⟩
theorem pr_pow (k : Nat) : (18446744073709551616 : Nat) ^ k = 4294967296 ^ (2 * k) := by
  rw [show (18446744073709551616 : Nat) = 4294967296 ^ 2 from rfl, ← Nat.pow_mul]
theorem Pr.step {xs os : List Int} {k : Nat} (h : Pr xs k os) (hx : Dg 4294967296 xs) {z : Int} (hz : z = rd xs (2 * k) + rd xs (2 * k + 1) * 4294967296) : Pr xs (k + 1) (os ++ [z]) := by
  have x0 := hx.at_ (by decide) (2 * k)
  have y0 := hx.at_ (by decide) (2 * k + 1)
  refine ⟨by rw [List.length_append, h.len]; rfl, ?_⟩
  rw [val_append, val_one, h.v, h.len, show 2 * (k + 1) = 2 * k + 1 + 1 by omega, val_take_any, val_take_any, pr_pow, Nat.pow_succ, Nat.mul_assoc, Nat.add_assoc, ← Nat.mul_add]
  have : z.toNat = (rd xs (2 * k)).toNat + 4294967296 * (rd xs (2 * k + 1)).toNat := by omega
  rw [this]
theorem Pr.last {xs os : List Int} {k : Nat} (h : Pr xs k os) (hk : xs.length ≤ 2 * k) : val 18446744073709551616 os = val 4294967296 xs := by
  rw [h.v, List.take_of_length_le hk]
end Go.Proofs.YtoiclkaecgpbbaaDoor
