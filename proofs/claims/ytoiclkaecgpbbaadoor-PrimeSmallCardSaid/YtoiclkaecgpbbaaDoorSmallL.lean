/- Numbers below 200000: the test is right. Plain. -/
import Derived.Test.YtoiclkaecgpbbaaDoorSmall
import Derived.Test.YtoiclkaecgpbbaaDoorSmallK
namespace Go.Proofs.YtoiclkaecgpbbaaDoor

theorem odds_mem {a : Nat} (h1 : 41 ≤ a) (h2 : a < 448) (h : ∀ p ∈ smallP, a % p ≠ 0) : a ∈ odds := by
  unfold odds
  refine List.mem_filter.2 ⟨List.mem_range.2 h2, ?_⟩
  rw [decide_eq_true h1, Bool.true_and, List.all_eq_true]
  exact fun p hp => decide_eq_true (h p hp)
/-- By trying all divisors. -/
def Tri (n : Nat) : Prop := 2 ≤ n ∧ ∀ d, 2 ≤ d → d * d ≤ n → n % d ≠ 0
theorem Tri.pri {n : Nat} (h : Tri n) : Pri n := by
  refine ⟨h.1, fun d hd => ?_⟩
  obtain ⟨e, rfl⟩ := hd
  have h1 := h.1
  have h2 := h.2
  by_cases d1 : d = 1
  · exact Or.inl d1
  · by_cases e1 : e = 1
    · right; rw [e1, Nat.mul_one]
    · exfalso
      have d0 : d ≠ 0 := fun q => by rw [q, Nat.zero_mul] at h1; omega
      have e0 : e ≠ 0 := fun q => by rw [q, Nat.mul_zero] at h1; omega
      rcases Nat.le_total d e with k | k
      · exact h2 d (by omega) (Nat.mul_le_mul_left _ k) (Nat.mul_mod_right d e)
      · exact h2 e (by omega) (Nat.mul_le_mul_right _ k) (Nat.mul_mod_left d e)
theorem sq_lt {a : Nat} (h : a * a < 200000) : a < 448 := by
  by_cases k : a < 448
  · exact k
  · have := Nat.mul_le_mul (show 448 ≤ a by omega) (show 448 ≤ a by omega); omega
theorem isF_small {n : Nat} (hn : n < 200000) : isF n = true ↔ Tri n := by
  constructor
  · intro h
    have n2 : 2 ≤ n := by
      by_cases k : n < 2
      · unfold isF at h; rw [if_pos k] at h; cases h
      · omega
    refine ⟨n2, fun d hd hdd hz => ?_⟩
    have hdv := Nat.dvd_of_mod_eq_zero hz
    obtain ⟨b, hb⟩ := hdv
    have hbd : d ≤ b := by
      by_cases k : d ≤ b
      · exact k
      · have : d * b < d * d := Nat.mul_lt_mul_of_pos_left (by omega) (by omega)
        omega
    by_cases k : ∃ p ∈ smallP, n % p = 0
    · obtain ⟨p, h1, h2, h3⟩ := divB_yes k
      unfold isF at h
      rw [if_neg (by omega), h1] at h
      have hnp : n = p := by simpa using h
      have : ∀ p ∈ smallP, ∀ d : Fin 38, 2 ≤ d.1 → d.1 * d.1 ≤ p → p % d.1 ≠ 0 := by decide
      have hp37 : ∀ p ∈ smallP, p ≤ 37 := by decide
      have := hp37 p h2
      have hd38 : d < 38 := by
        have : d * 1 ≤ d * d := Nat.mul_le_mul_left _ (by omega)
        omega
      exact (by assumption : ∀ p ∈ smallP, ∀ d : Fin 38, 2 ≤ d.1 → d.1 * d.1 ≤ p → p % d.1 ≠ 0) p h2 ⟨d, hd38⟩ hd (by rw [← hnp]; exact hdd) (by rw [← hnp]; exact hz)
    · have hno : ∀ p ∈ smallP, n % p ≠ 0 := fun p hp e => k ⟨p, hp, e⟩
      have hdno : ∀ p ∈ smallP, d % p ≠ 0 := fun p hp e => hno p hp (Nat.mod_eq_zero_of_dvd (Nat.dvd_trans (Nat.dvd_of_mod_eq_zero e) ⟨b, hb⟩))
      have hbno : b % 2 ≠ 0 := fun e => hno 2 (by decide) (by rw [hb, Nat.mul_mod, e, Nat.mul_zero])
      have d448 := sq_lt (Nat.lt_of_le_of_lt hdd hn)
      have d41 : 41 ≤ d := by
        by_cases q : 41 ≤ d
        · exact q
        · have : ∀ d : Fin 41, 2 ≤ d.1 → ∃ p ∈ smallP, d.1 % p = 0 := by decide
          obtain ⟨p, hp, e⟩ := this ⟨d, by omega⟩ hd
          exact absurd e (hdno p hp)
      have hg : goB d 2500 d = true := List.all_eq_true.1 chk_all d (odds_mem d41 d448 hdno)
      have hd2 := hdno 2 (by decide)
      obtain ⟨j, hj⟩ : ∃ j, b = d + 2 * j := ⟨(b - d) / 2, by omega⟩
      have hbl : b < 5000 := by
        by_cases q : b < 5000
        · exact q
        · have := Nat.mul_le_mul d41 (show 5000 ≤ b by omega); omega
      have := goB_spec d 2500 d hg j (by omega) (by rw [← hj, ← hb]; exact hn)
      rw [← hj, ← hb, h] at this
      cases this
  · intro h
    exact h.pri.isF (by omega)
end Go.Proofs.YtoiclkaecgpbbaaDoor
