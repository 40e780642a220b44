/- The test says of each prime that it is one. Plain. -/
import Derived.Test.YtoiclkaecgpbbaaDoorMrF
namespace Go.Proofs.YtoiclkaecgpbbaaDoor

def cho : Nat → Nat → Nat
  | _, 0 => 1
  | 0, _ + 1 => 0
  | n + 1, k + 1 => cho n k + cho n (k + 1)
theorem cho_zero (n : Nat) : cho n 0 = 1 := by cases n <;> rfl
theorem cho_succ (n k : Nat) : cho (n + 1) (k + 1) = cho n k + cho n (k + 1) := rfl
theorem cho_big : ∀ n k, n < k → cho n k = 0
  | 0, k + 1, _ => rfl
  | n + 1, k + 1, h => by rw [cho_succ, cho_big n k (by omega), cho_big n (k + 1) (by omega)]
theorem cho_self (n : Nat) : cho n n = 1 := by
  induction n with
  | zero => rfl
  | succ n ih => rw [cho_succ, ih, cho_big n (n + 1) (by omega)]
theorem cho_mul : ∀ n k, (k + 1) * cho (n + 1) (k + 1) = (n + 1) * cho n k
  | 0, 0 => rfl
  | 0, k + 1 => by rw [cho_succ, cho_big 0 (k + 1) (by omega), cho_big 0 (k + 1 + 1) (by omega)]; simp
  | n + 1, 0 => by
    have h := cho_mul n 0
    rw [cho_zero] at h ⊢
    rw [cho_succ, cho_zero]; omega
  | n + 1, k + 1 => by
    have h1 := cho_mul n k
    have h2 := cho_mul n (k + 1)
    have e : cho (n + 1) (k + 1) = cho n k + cho n (k + 1) := rfl
    rw [cho_succ (n + 1) (k + 1), Nat.mul_add, h2, show (k + 1 + 1) * cho (n + 1) (k + 1) = (k + 1) * cho (n + 1) (k + 1) + cho (n + 1) (k + 1) by rw [Nat.add_mul, Nat.one_mul], h1]
    rw [show (n + 1 + 1) * cho (n + 1) (k + 1) = (n + 1) * cho (n + 1) (k + 1) + cho (n + 1) (k + 1) by rw [Nat.add_mul, Nat.one_mul], e, Nat.mul_add]
    omega
def sumN (f : Nat → Nat) : Nat → Nat
  | 0 => 0
  | n + 1 => sumN f n + f n
theorem sumN_head (f : Nat → Nat) : ∀ n, sumN f (n + 1) = f 0 + sumN (fun k => f (k + 1)) n
  | 0 => by simp [sumN]
  | n + 1 => by
    have h := sumN_head f n
    rw [sumN, h, sumN]; omega
theorem sumN_congr {f g : Nat → Nat} : ∀ n, (∀ k, k < n → f k = g k) → sumN f n = sumN g n
  | 0, _ => rfl
  | n + 1, h => by rw [sumN, sumN, sumN_congr n (fun k hk => h k (by omega)), h n (by omega)]
theorem sumN_add (f g : Nat → Nat) : ∀ n, sumN (fun k => f k + g k) n = sumN f n + sumN g n
  | 0 => rfl
  | n + 1 => by rw [sumN, sumN, sumN, sumN_add f g n]; omega
theorem sumN_mul (c : Nat) (f : Nat → Nat) : ∀ n, sumN (fun k => c * f k) n = c * sumN f n
  | 0 => rfl
  | n + 1 => by rw [sumN, sumN, sumN_mul c f n, Nat.mul_add]
theorem sumN_dvd {p : Nat} {f : Nat → Nat} : ∀ n, (∀ k, k < n → p ∣ f k) → p ∣ sumN f n
  | 0, _ => ⟨0, rfl⟩
  | n + 1, h => Nat.dvd_add (sumN_dvd n fun k hk => h k (by omega)) (h n (by omega))
theorem binom (x : Nat) : ∀ n, (x + 1) ^ n = sumN (fun k => cho n k * x ^ k) (n + 1)
  | 0 => by simp [sumN, cho]
  | n + 1 => by
    have ih := binom x n
    rw [Nat.pow_succ, ih]
    have e1 : sumN (fun k => cho (n + 1) (k + 1) * x ^ (k + 1)) (n + 1) = sumN (fun k => x * (cho n k * x ^ k)) (n + 1) + sumN (fun k => cho n (k + 1) * x ^ (k + 1)) (n + 1) := by
      rw [← sumN_add]
      refine sumN_congr _ fun k _ => ?_
      rw [cho_succ, Nat.add_mul, Nat.pow_succ]
      congr 1
      rw [← Nat.mul_assoc, Nat.mul_comm]
    have e2 : sumN (fun k => cho n (k + 1) * x ^ (k + 1)) (n + 1) = sumN (fun k => cho n (k + 1) * x ^ (k + 1)) n := by
      rw [sumN, cho_big n (n + 1) (by omega)]; simp
    have e3 := sumN_head (fun k => cho n k * x ^ k) n
    rw [sumN_head (fun k => cho (n + 1) k * x ^ k) (n + 1), e1, e2, sumN_mul]
    simp only [cho_zero, Nat.pow_zero, Nat.mul_one] at e3 ⊢
    rw [Nat.mul_add, Nat.mul_one, Nat.mul_comm (sumN _ _) x]
    omega
def Pri (p : Nat) : Prop := 2 ≤ p ∧ ∀ d, d ∣ p → d = 1 ∨ d = p
theorem Pri.cop {p k : Nat} (h : Pri p) (hk : ¬ p ∣ k) : Nat.Coprime p k := by
  rcases h.2 _ (Nat.gcd_dvd_left p k) with e | e
  · exact e
  · exact absurd (by rw [← e]; exact Nat.gcd_dvd_right p k) hk
theorem Pri.chod {p k : Nat} (h : Pri p) (h0 : 0 < k) (h1 : k < p) : p ∣ cho p k := by
  obtain ⟨j, rfl⟩ : ∃ j, k = j + 1 := ⟨k - 1, by omega⟩
  obtain ⟨q, rfl⟩ : ∃ q, p = q + 1 := ⟨p - 1, by have := h.1; omega⟩
  have e := cho_mul q j
  have hc : Nat.Coprime (q + 1) (j + 1) := h.cop fun hd => by have := Nat.le_of_dvd (by omega) hd; omega
  exact Nat.Coprime.dvd_of_dvd_mul_left hc ⟨_, e⟩
theorem Pri.step {p : Nat} (h : Pri p) (x : Nat) : (x + 1) ^ p % p = (x ^ p + 1) % p := by
  obtain ⟨q, rfl⟩ : ∃ q, p = q + 1 := ⟨p - 1, by have := h.1; omega⟩
  have hb := binom x (q + 1)
  rw [sumN, sumN_head, cho_self, cho_zero] at hb
  have hd : q + 1 ∣ sumN (fun k => cho (q + 1) (k + 1) * x ^ (k + 1)) q := sumN_dvd q fun k hk => Nat.dvd_trans (h.chod (k := k + 1) (by omega) (by omega)) (Nat.dvd_mul_right _ _)
  obtain ⟨c, hc⟩ := hd
  rw [hc] at hb
  rw [hb, Nat.pow_zero, Nat.one_mul, Nat.one_mul, show 1 + (q + 1) * c + x ^ (q + 1) = x ^ (q + 1) + 1 + (q + 1) * c by omega, Nat.add_mul_mod_self_left]
theorem Pri.fermat {p : Nat} (h : Pri p) : ∀ a, a ^ p % p = a % p
  | 0 => by rw [Nat.zero_pow (by have := h.1; omega)]
  | a + 1 => by rw [h.step, Nat.add_mod, h.fermat a, ← Nat.add_mod]
theorem Pri.fermat1 {p a : Nat} (h : Pri p) (ha : ¬ p ∣ a) : a ^ (p - 1) % p = 1 := by
  have h2 := h.1
  have hf := h.fermat a
  have e : a ^ p = a * a ^ (p - 1) := by rw [Nat.mul_comm, ← Nat.pow_succ]; congr 1; omega
  have ha0 : 0 < a := by
    by_cases k : a = 0
    · rw [k] at ha; exact absurd ⟨0, rfl⟩ ha
    · omega
  have hp0 : 0 < a ^ (p - 1) := Nat.pow_pos ha0
  have hd : p ∣ a * (a ^ (p - 1) - 1) := by
    rw [Nat.mul_sub, Nat.mul_one, ← e]
    exact Nat.dvd_of_mod_eq_zero (Nat.sub_mod_eq_zero_of_mod_eq hf)
  have hd2 := Nat.Coprime.dvd_of_dvd_mul_left (h.cop ha) hd
  obtain ⟨c, hc⟩ := hd2
  rw [show a ^ (p - 1) = 1 + p * c by omega, Nat.add_mul_mod_self_left, Nat.mod_eq_of_lt (by omega)]
end Go.Proofs.YtoiclkaecgpbbaaDoor
