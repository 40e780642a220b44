/- Numbers below 200000: the test is right. Plain. -/
import Derived.Test.YtoiclkaecgpbbaaDoorFermat
namespace Go.Proofs.YtoiclkaecgpbbaaDoor

theorem Pri.unit {n x : Nat} (h : Pri n) (h1 : x < n) (h0 : 0 < x) (e : x * x % n = 1) : x = 1 ∨ x = n - 1 := by
  have h2 := h.1
  have hd : n ∣ (x - 1) * (x + 1) := by
    have e1 : (x - 1) * (x + 1) = x * x - 1 := by
      obtain ⟨y, rfl⟩ : ∃ y, x = y + 1 := ⟨x - 1, by omega⟩
      rw [Nat.add_sub_cancel, Nat.mul_add, Nat.mul_one, Nat.add_mul, Nat.one_mul, Nat.mul_add, Nat.mul_one]
      omega
    rw [e1]
    have : (x * x) % n = 1 % n := by rw [e, Nat.mod_eq_of_lt (by omega)]
    exact Nat.dvd_of_mod_eq_zero (Nat.sub_mod_eq_zero_of_mod_eq this)
  by_cases k : n ∣ x - 1
  · left
    by_cases q : x = 1
    · exact q
    · have := Nat.le_of_dvd (by omega) k; omega
  · right
    have := Nat.Coprime.dvd_of_dvd_mul_left (h.cop k) hd
    have := Nat.le_of_dvd (by omega) this
    omega
theorem Pri.mrFF {n : Nat} (h : Pri n) : ∀ c x, x < n → x ≠ 1 → x ≠ n - 1 → x ^ 2 ^ (c + 1) % n = 1 → mrF n c x = false
  | 0, x, hx, h1, h2, e => by
    have e2 : x * x % n = 1 := by rw [← Nat.pow_two]; exact e
    have x0 : 0 < x := by
      by_cases k : x = 0
      · rw [k] at e2; simp at e2
      · omega
    rcases h.unit hx x0 e2 with k | k
    · exact absurd k h1
    · exact absurd k h2
  | c + 1, x, hx, h1, h2, e => by
    have n2 := h.1
    have ey : (x * x % n) ^ 2 ^ (c + 1) % n = 1 := by
      rw [← Nat.pow_mod, ← Nat.pow_two, ← Nat.pow_mul, Nat.mul_comm, ← Nat.pow_succ]; exact e
    have yn : x * x % n < n := Nat.mod_lt _ (by omega)
    show (if x * x % n = n - 1 then false else mrF n c (x * x % n)) = false
    by_cases k : x * x % n = n - 1
    · rw [if_pos k]
    · rw [if_neg k]
      refine Pri.mrFF h c _ yn (fun e1 => ?_) k ey
      have x0 : 0 < x := by
        by_cases q : x = 0
        · rw [q] at e1; simp at e1
        · omega
      rcases h.unit hx x0 e1 with q | q
      · exact h1 q
      · exact h2 q
theorem Pri.witF {n a d s : Nat} (h : Pri n) (ha : ¬ n ∣ a) (hs : 0 < s) (e : n - 1 = 2 ^ s * d) (hd : d < 2 ^ 64) : witF a n d s = false := by
  have n2 := h.1
  have f := h.fermat1 ha
  unfold Go.Proofs.YtoiclkaecgpbbaaDoor.witF
  rw [pmF_spec 64 a d n hd]
  have hx : a ^ d % n < n := Nat.mod_lt _ (by omega)
  show (if a ^ d % n = 0 ∨ a ^ d % n = 1 ∨ a ^ d % n = n - 1 then false else mrF n (s - 1) (a ^ d % n)) = false
  by_cases k : a ^ d % n = 0 ∨ a ^ d % n = 1 ∨ a ^ d % n = n - 1
  · rw [if_pos k]
  · rw [if_neg k]
    refine h.mrFF (s - 1) _ hx (fun q => k (Or.inr (Or.inl q))) (fun q => k (Or.inr (Or.inr q))) ?_
    rw [← Nat.pow_mod, ← Nat.pow_mul, show s - 1 + 1 = s by omega, Nat.mul_comm, ← e]
    exact f
theorem divB_no {n : Nat} : ∀ {l : List Nat}, (∀ p ∈ l, n % p ≠ 0) → divB n l = none
  | [], _ => rfl
  | p :: l, h => by
    rw [divB, if_neg (h p (List.mem_cons_self ..))]
    exact divB_no fun q hq => h q (List.mem_cons_of_mem _ hq)
theorem divB_yes {n : Nat} : ∀ {l : List Nat}, (∃ p ∈ l, n % p = 0) → ∃ p, divB n l = some p ∧ p ∈ l ∧ n % p = 0
  | [], h => by obtain ⟨p, hp, _⟩ := h; cases hp
  | q :: l, h => by
    rw [divB]
    by_cases hq : n % q = 0
    · rw [if_pos hq]; exact ⟨q, rfl, List.mem_cons_self .., hq⟩
    · rw [if_neg hq]
      obtain ⟨p, hp, hn⟩ := h
      rcases List.mem_cons.1 hp with rfl | hp
      · exact absurd hn hq
      · obtain ⟨r, h1, h2, h3⟩ := divB_yes ⟨p, hp, hn⟩
        exact ⟨r, h1, List.mem_cons_of_mem _ h2, h3⟩
/-- Of each prime of a word it says so. -/
theorem Pri.isF {n : Nat} (h : Pri n) (hn : n < 2 ^ 64) : isF n = true := by
  have n2 := h.1
  unfold Go.Proofs.YtoiclkaecgpbbaaDoor.isF
  rw [if_neg (by omega)]
  by_cases k : ∃ p ∈ smallP, n % p = 0
  · obtain ⟨p, h1, h2, h3⟩ := divB_yes k
    rw [h1]
    have hp2 : ∀ p ∈ smallP, p ≠ 1 := by decide
    rcases h.2 p (Nat.dvd_of_mod_eq_zero h3) with e | e
    · exact absurd e (hp2 p h2)
    · rw [e]; simp
  · have hno : ∀ p ∈ smallP, n % p ≠ 0 := fun p hp e => k ⟨p, hp, e⟩
    rw [divB_no hno]
    obtain ⟨e1, e2, e3⟩ := tzF_spec 64 (n - 1) (by omega) (by omega)
    have hd := tz_le (n := n - 1) (by omega) (by omega)
    have h22 := hno 2 (by decide)
    have hs : 0 < (tz (n - 1)).1 := by
      by_cases q : 0 < (tz (n - 1)).1
      · exact q
      · have e1' : n - 1 = 2 ^ (tz (n - 1)).1 * (tz (n - 1)).2 := e1
        have e2' : (tz (n - 1)).2 % 2 = 1 := e2
        rw [show (tz (n - 1)).1 = 0 by omega, Nat.pow_zero, Nat.one_mul] at e1'
        omega
    refine List.all_eq_true.2 fun p hp => ?_
    have hpn : ¬ n ∣ p := fun hd2 => by
      have hpp : ∀ p ∈ smallP, 0 < p ∧ Pri p := by
        have : ∀ p ∈ smallP, 2 ≤ p ∧ ∀ d : Fin (p + 1), p % d.1 = 0 → d.1 = 1 ∨ d.1 = p := by decide
        exact fun p hp => ⟨by have := (this p hp).1; omega, (this p hp).1, fun d hd => by
          have hl := Nat.le_of_dvd (by have := (this p hp).1; omega) hd
          exact (this p hp).2 ⟨d, by omega⟩ (Nat.mod_eq_zero_of_dvd hd)⟩
      rcases (hpp p hp).2.2 n hd2 with e | e
      · omega
      · rw [e] at hno
        exact hno p hp (Nat.mod_self p)
    show (!Go.Proofs.YtoiclkaecgpbbaaDoor.witF p n (tz (n - 1)).2 (tz (n - 1)).1) = true
    have e1' : n - 1 = 2 ^ (tz (n - 1)).1 * (tz (n - 1)).2 := e1
    rw [h.witF hpn hs e1' hd]; rfl
end Go.Proofs.YtoiclkaecgpbbaaDoor
