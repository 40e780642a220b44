/- Transforms: turned places; there and back. Plain. -/
import Derived.Test.YtoiclkaecgpbbaaDoorNtt1
import Derived.Test.YtoiclkaecgpbbaaDoorDig3
namespace Go.Proofs.YtoiclkaecgpbbaaDoor
open Go.RowKit

theorem rv_top : ∀ m q b, q < 2 ^ m → b ≤ 1 → rv (m + 1) (q + b * 2 ^ m) = 2 * rv m q + b
  | 0, q, b, h, hb => by
    rw [Nat.pow_zero] at h
    obtain rfl : q = 0 := by omega
    rw [rv, rv, rv, Nat.pow_zero]; omega
  | m + 1, q, b, h, hb => by
    rw [Nat.pow_succ] at h
    have e1 : (q + b * 2 ^ (m + 1)) / 2 = q / 2 + b * 2 ^ m := by rw [Nat.pow_succ, ← Nat.mul_assoc, Nat.add_mul_div_right _ _ (by decide)]
    have e2 : (q + b * 2 ^ (m + 1)) % 2 = q % 2 := by rw [Nat.pow_succ, ← Nat.mul_assoc, Nat.add_mul_mod_self_right]
    rw [rv, e1, e2, rv_top m (q / 2) b (by omega) hb, rv, Nat.pow_succ, ← Nat.mul_assoc]
    omega
theorem rv_rv : ∀ m q, q < 2 ^ m → rv m (rv m q) = q
  | 0, q, h => by rw [Nat.pow_zero] at h; rw [rv]; omega
  | m + 1, q, h => by
    rw [Nat.pow_succ] at h
    have e : rv (m + 1) q = rv m (q / 2) + (q % 2) * 2 ^ m := rfl
    rw [e, rv_top m _ _ (rv_lt m (q / 2)) (by omega), rv_rv m (q / 2) (by omega)]
    omega
structure Tu (p : Int) (xs : List Int) (L i : Nat) (os : List Int) : Prop where
  len : os.length = 2 ^ L
  v : ∀ q, q < 2 ^ L → rd os q = if rv L q < i then rd xs (rv L q) % p else 0
theorem Tu.start (p : Int) (xs : List Int) (L : Nat) : Tu p xs L 0 (List.replicate (2 ^ L) 0) :=
  ⟨List.length_replicate, fun q _ => by rw [rd_replicate, if_neg (Nat.not_lt_zero _)]⟩
theorem Tu.step {p : Int} {xs os : List Int} {L i : Nat} (h : Tu p xs L i os) (hi : i < 2 ^ L) : Tu p xs L (i + 1) (os.set (rv L i) (rd xs i % p)) := by
  have hr := rv_lt L i
  refine ⟨by rw [List.length_set, h.len], fun q hq => ?_⟩
  by_cases e : rv L i = q
  · subst e
    rw [rd_set_self (by rw [h.len]; exact hr), rv_rv L i hi, if_pos (by omega)]
  · rw [rd_set_ne e, h.v q hq]
    have hne : rv L q ≠ i := fun k => e (by rw [← k, rv_rv L q hq])
    by_cases k : rv L q < i
    · rw [if_pos k, if_pos (by omega)]
    · rw [if_neg k, if_neg (by omega)]
theorem Tu.bd {p : Int} {xs os : List Int} {L i : Nat} (h : Tu p xs L i os) (hp : 0 < p) (q : Nat) : 0 ≤ rd os q ∧ rd os q < p := by
  by_cases hq : q < 2 ^ L
  · rw [h.v q hq]
    split
    · exact ⟨Int.emod_nonneg _ (by omega), Int.emod_lt_of_pos _ hp⟩
    · exact ⟨by decide, hp⟩
  · rw [rd_beyond (by rw [h.len]; omega)]; exact ⟨by decide, hp⟩
theorem Tu.lv {p : Int} {xs os : List Int} {L i : Nat} (h : Tu p xs L i os) (hp : 0 < p) (hi : 2 ^ L ≤ i) (w : Int) : Lv p (rd xs) w L 0 os := by
  refine ⟨h.len, fun q => h.bd hp q, fun q hq => ?_⟩
  have hr := rv_lt L q
  rw [h.v q hq, if_pos (by omega), Nat.pow_zero, Nat.div_one, Nat.sub_zero]
  refine (Cg.mod p _).trans (Cg.of_eq ?_)
  unfold dft
  simp [sumI]
/-- What a transform yields. -/
def ft (a : Nat → Int) (w : Int) (n k : Nat) : Int := sumI (fun t => a t * w ^ (k * t)) n
theorem Lv.ft {p : Int} {a : Nat → Int} {w : Int} {L : Nat} {xs : List Int} (h : Lv p a w L L xs) (k : Nat) (hk : k < 2 ^ L) : Cg p (rd xs k) (ft a w (2 ^ L) k) := by
  have := h.v k hk
  rw [Nat.sub_self, Nat.div_eq_of_lt hk, Nat.mod_eq_of_lt hk, Nat.pow_zero, rv] at this
  refine this.trans (Cg.of_eq ?_)
  unfold dft Go.Proofs.YtoiclkaecgpbbaaDoor.ft
  refine sumI_congr _ fun t _ => ?_
  rw [Nat.zero_add, Nat.one_mul, Nat.one_mul]
/-! ### Back -/
def geo (x : Int) (n : Nat) : Int := sumI (fun k => x ^ k) n
theorem geo_two (x : Int) (n : Nat) : geo x (2 * n) = (1 + x) * geo (x * x) n := by
  unfold geo
  rw [sumI_two, Int.add_mul, Int.one_mul, ← sumI_mul]
  have e : ∀ t : Nat, x ^ (2 * t) = (x * x) ^ t := fun t => by
    rw [Int.pow_mul, Int.pow_succ, Int.pow_succ, Int.pow_zero, Int.one_mul]
  congr 1
  · exact sumI_congr _ fun t _ => e t
  · exact sumI_congr _ fun t _ => by rw [Int.pow_succ, e t, Int.mul_comm]
theorem geo_zero {p : Int} : ∀ v L (x : Int), v < L → Cg p (x ^ 2 ^ v) (-1) → Cg p (geo x (2 ^ L)) 0
  | 0, 0, _, h, _ => by omega
  | 0, L + 1, x, _, hx => by
    rw [Nat.pow_zero, Int.pow_succ, Int.pow_zero, Int.one_mul] at hx
    rw [Nat.pow_succ, Nat.mul_comm, geo_two]
    have h1 : Cg p (1 + x) 0 := (Cg.refl p 1).add hx
    exact (h1.mulr _).trans (Cg.of_eq (Int.zero_mul _))
  | v + 1, 0, _, h, _ => by omega
  | v + 1, L + 1, x, h, hx => by
    rw [Nat.pow_succ 2 L, Nat.mul_comm, geo_two]
    have e : (x * x) ^ 2 ^ v = x ^ 2 ^ (v + 1) := by
      rw [Nat.pow_succ, Nat.mul_comm, Int.pow_mul, Int.pow_succ, Int.pow_succ, Int.pow_zero, Int.one_mul]
    have := geo_zero v L (x * x) (by omega) (by rw [e]; exact hx)
    exact (this.mull _).trans (Cg.of_eq (Int.mul_zero _))
theorem neg_odd {p x : Int} (h : Cg p x (-1)) (e : Nat) : Cg p (x ^ (2 * e + 1)) (-1) := by
  rw [Int.pow_succ]
  exact ((cg_pow_neg h e).mul h).trans (Cg.of_eq (by decide))
theorem root_pow {p : Int} : ∀ L (w : Int) e, Cg p (w ^ 2 ^ L) (-1) → 0 < e → e < 2 ^ (L + 1) → ∃ v, v < L + 1 ∧ Cg p ((w ^ e) ^ 2 ^ v) (-1)
  | L, w, e, hw, h0, h1 => by
    by_cases ho : e % 2 = 1
    · refine ⟨L, by omega, ?_⟩
      have := neg_odd hw (e / 2)
      rw [show 2 * (e / 2) + 1 = e by omega, ← Int.pow_mul, Nat.mul_comm, Int.pow_mul] at this
      exact this
    · cases L with
      | zero => rw [Nat.zero_add, Nat.pow_one] at h1; omega
      | succ L =>
        rw [Nat.pow_succ] at h1
        have e2 : (w * w) ^ 2 ^ L = w ^ 2 ^ (L + 1) := by
          rw [Nat.pow_succ, Nat.mul_comm, Int.pow_mul, Int.pow_succ, Int.pow_succ, Int.pow_zero, Int.one_mul]
        obtain ⟨v, hv, k⟩ := root_pow L (w * w) (e / 2) (by rw [e2]; exact hw) (by omega) (by omega)
        refine ⟨v, by omega, ?_⟩
        have e3 : (w * w) ^ (e / 2) = w ^ e := by
          have : w ^ (2 * (e / 2)) = (w * w) ^ (e / 2) := by rw [Int.pow_mul, Int.pow_succ, Int.pow_succ, Int.pow_zero, Int.one_mul]
          rw [← this]; congr 1; omega
        rw [e3] at k
        exact k
theorem inv_neg {p w z : Int} {n : Nat} (h : Cg p (w * z) 1) (hw : Cg p (w ^ n) (-1)) : Cg p (z ^ n) (-1) := by
  have h1 := h.pow n
  rw [Int.mul_pow, Int.one_pow] at h1
  have h2 := (hw.mulr (z ^ n)).symm.trans h1
  have h3 := h2.neg
  exact (Cg.of_eq (by rw [Int.neg_mul, Int.one_mul, Int.neg_neg])).trans h3
theorem geo_one {p x : Int} (h : Cg p x 1) (n : Nat) : Cg p (geo x n) n := by
  have : Cg p (geo x n) (sumI (fun _ => 1) n) := sumI_cg n fun k _ => (h.pow k).trans (Cg.of_eq (Int.one_pow))
  refine this.trans (Cg.of_eq ?_)
  clear this
  induction n with
  | zero => rfl
  | succ n ih => rw [sumI, ih]; omega
theorem geo_ne {p w z : Int} {L t i : Nat} (h : Cg p (w * z) 1) (hw : Cg p (w ^ 2 ^ L) (-1)) (ht : t < 2 ^ (L + 1)) (hi : i < 2 ^ (L + 1)) (hne : t ≠ i) : Cg p (geo (w ^ t * z ^ i) (2 ^ (L + 1))) 0 := by
  rcases Nat.lt_or_gt_of_ne hne with hlt | hgt
  · obtain ⟨v, hv, k⟩ := root_pow L z (i - t) (inv_neg h hw) (by omega) (by omega)
    have e : Cg p (w ^ t * z ^ i) (z ^ (i - t)) := by
      have h1 := (h.pow t).mulr (z ^ (i - t))
      rw [Int.mul_pow, Int.one_pow, Int.one_mul, Int.mul_assoc, ← Int.pow_add, show t + (i - t) = i by omega] at h1
      exact h1
    exact geo_zero v (L + 1) _ hv ((e.pow _).trans k)
  · obtain ⟨v, hv, k⟩ := root_pow L w (t - i) hw (by omega) (by omega)
    have e : Cg p (w ^ t * z ^ i) (w ^ (t - i)) := by
      have h1 := (h.pow i).mull (w ^ (t - i))
      rw [Int.mul_pow, Int.one_pow, Int.mul_one, ← Int.mul_assoc, ← Int.pow_add, show t - i + i = t by omega] at h1
      exact h1
    exact geo_zero v (L + 1) _ hv ((e.pow _).trans k)
theorem sumI_swap (f : Nat → Nat → Int) (m : Nat) : ∀ n, sumI (fun k => sumI (fun t => f k t) m) n = sumI (fun t => sumI (fun k => f k t) n) m
  | 0 => by simp only [sumI]; rw [sumI_zero]
  | n + 1 => by rw [sumI, sumI_swap f m n, ← sumI_add]; rfl
theorem sumI_pick {p : Int} {f : Nat → Int} {i : Nat} {c : Int} : ∀ n, (∀ t, t < n → t ≠ i → Cg p (f t) 0) → (i < n → Cg p (f i) c) → Cg p (sumI f n) (if i < n then c else 0)
  | 0, _, _ => Cg.refl _ _
  | n + 1, h, hi => by
    have ih := sumI_pick n (fun t ht hne => h t (by omega) hne) (fun k => hi (by omega))
    rw [sumI]
    by_cases e : i = n
    · subst e
      rw [if_neg (by omega)] at ih
      rw [if_pos (by omega)]
      exact (ih.add (hi (by omega))).trans (Cg.of_eq (Int.zero_add _))
    · have hz := h n (by omega) (fun k => e k.symm)
      by_cases k : i < n
      · rw [if_pos k] at ih
        rw [if_pos (by omega)]
        exact (ih.add hz).trans (Cg.of_eq (Int.add_zero _))
      · rw [if_neg k] at ih
        rw [if_neg (by omega)]
        exact (ih.add hz).trans (Cg.of_eq (Int.add_zero _))
/-- There and back: the number of places, times the row. -/
theorem ft_back {p : Int} (a b : Nat → Int) {w z : Int} {L : Nat} (h : Cg p (w * z) 1) (hw : L ≠ 0 → Cg p (w ^ 2 ^ (L - 1)) (-1)) (hb : ∀ k, k < 2 ^ L → Cg p (b k) (ft a w (2 ^ L) k)) (i : Nat) (hi : i < 2 ^ L) :
    Cg p (ft b z (2 ^ L) i) (((2 ^ L : Nat) : Int) * a i) := by
  have h1 : Cg p (ft b z (2 ^ L) i) (sumI (fun k => sumI (fun t => a t * (w ^ t * z ^ i) ^ k) (2 ^ L)) (2 ^ L)) := by
    unfold ft
    refine sumI_cg _ fun k hk => ?_
    refine ((hb k hk).mulr _).trans (Cg.of_eq ?_)
    unfold ft
    rw [Int.mul_comm, ← sumI_mul]
    refine sumI_congr _ fun t _ => ?_
    rw [Int.mul_pow, ← Int.pow_mul, ← Int.pow_mul, Nat.mul_comm k t]
    grind
  rw [sumI_swap] at h1
  have h2 : ∀ t, sumI (fun k => a t * (w ^ t * z ^ i) ^ k) (2 ^ L) = a t * geo (w ^ t * z ^ i) (2 ^ L) := fun t => sumI_mul _ _ _
  refine h1.trans ?_
  rw [sumI_congr _ fun t _ => h2 t]
  have h3 := sumI_pick (p := p) (f := fun t => a t * geo (w ^ t * z ^ i) (2 ^ L)) (i := i) (c := ((2 ^ L : Nat) : Int) * a i) (2 ^ L)
    (fun t ht hne => by
      cases L with
      | zero => rw [Nat.pow_zero] at ht hi; omega
      | succ L => exact ((geo_ne h (hw (by omega)) ht hi hne).mull (a t)).trans (Cg.of_eq (Int.mul_zero _)))
    (fun _ => by
      have h4 := (h.pow i)
      rw [Int.mul_pow, Int.one_pow] at h4
      exact ((geo_one h4 (2 ^ L)).mull (a i)).trans (Cg.of_eq (Int.mul_comm _ _)))
  rw [if_pos hi] at h3
  exact h3
end Go.Proofs.YtoiclkaecgpbbaaDoor
