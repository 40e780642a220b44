/- Three remainders: the number that has them. Plain. -/
import Derived.Test.YtoiclkaecgpbbaaDoorArith
namespace Go.Proofs.YtoiclkaecgpbbaaDoor

/-- x + p0 k has both remainders. -/
theorem crt_two {p0 p1 r0 r1 i k N : Int} (h0 : 0 < p0) (h1 : 0 < p1) (a0 : 0 ≤ r0) (a1 : r0 < p0) (hi : Cg p1 (i * p0) 1) (hk : k = (r1 - r0) % p1 * i % p1) (hN : N = p0 * k + r0) :
    0 ≤ k ∧ k < p1 ∧ 0 ≤ N ∧ N < p0 * p1 ∧ Cg p0 N r0 ∧ Cg p1 N r1 := by
  have k0 : 0 ≤ k := by rw [hk]; exact Int.emod_nonneg _ (by omega)
  have k1 : k < p1 := by rw [hk]; exact Int.emod_lt_of_pos _ h1
  have m0 : 0 ≤ p0 * k := Int.mul_nonneg (by omega) k0
  have m1 : p0 * k ≤ p0 * (p1 - 1) := Int.mul_le_mul_of_nonneg_left (by omega) (by omega)
  rw [Int.mul_sub, Int.mul_one] at m1
  refine ⟨k0, k1, by omega, by omega, ?_, ?_⟩
  · rw [hN, Int.add_comm]; exact Cg.add_mult p0 r0 k
  · have c1 : Cg p1 k ((r1 - r0) * i) := by
      rw [hk]; exact (Cg.mod p1 _).trans ((Cg.mod p1 (r1 - r0)).mulr i)
    have c2 : Cg p1 (p0 * k) (p0 * ((r1 - r0) * i)) := c1.mull p0
    have c3 : Cg p1 (p0 * ((r1 - r0) * i)) (r1 - r0) := by
      have := hi.mull (r1 - r0)
      rw [Int.mul_one] at this
      exact (Cg.of_eq (by grind)).trans this
    have c4 := (c2.trans c3).add (Cg.refl p1 r0)
    rw [hN]
    exact c4.trans (Cg.of_eq (by omega))
/-- And the third. -/
theorem crt_three {p0 p1 p2 r0 r1 r2 i k N M x j T : Int} (h0 : 0 < p0) (h1 : 0 < p1) (h2 : 0 < p2) (hM : M = p0 * p1) (n0 : 0 ≤ N) (n1 : N < M) (c0 : Cg p0 N r0) (c1 : Cg p1 N r1) (hx : Cg p2 x N)
    (hi : Cg p2 (i * M) 1) (hj : j = (r2 - x) % p2 * i % p2) (hT : T = M * j + N) (_hk : k = k) :
    0 ≤ j ∧ j < p2 ∧ 0 ≤ T ∧ T < M * p2 ∧ Cg p0 T r0 ∧ Cg p1 T r1 ∧ Cg p2 T r2 := by
  have j0 : 0 ≤ j := by rw [hj]; exact Int.emod_nonneg _ (by omega)
  have j1 : j < p2 := by rw [hj]; exact Int.emod_lt_of_pos _ h2
  have M0 : 0 < M := by rw [hM]; exact Int.mul_pos h0 h1
  have m0 : 0 ≤ M * j := Int.mul_nonneg (by omega) j0
  have m1 : M * j ≤ M * (p2 - 1) := Int.mul_le_mul_of_nonneg_left (by omega) (by omega)
  rw [Int.mul_sub, Int.mul_one] at m1
  refine ⟨j0, j1, by omega, by omega, ?_, ?_, ?_⟩
  · rw [hT, hM, Int.mul_assoc, Int.add_comm]; exact (Cg.add_mult p0 N _).trans c0
  · rw [hT, hM, Int.mul_comm p0, Int.mul_assoc, Int.add_comm]; exact (Cg.add_mult p1 N _).trans c1
  · have d1 : Cg p2 j ((r2 - N) * i) := by
      rw [hj]; exact (Cg.mod p2 _).trans (((Cg.mod p2 (r2 - x)).trans ((Cg.refl p2 r2).sub hx)).mulr i)
    have d2 : Cg p2 (M * j) (M * ((r2 - N) * i)) := d1.mull M
    have d3 : Cg p2 (M * ((r2 - N) * i)) (r2 - N) := by
      have := hi.mull (r2 - N)
      rw [Int.mul_one] at this
      exact (Cg.of_eq (by grind)).trans this
    have d4 := (d2.trans d3).add (Cg.refl p2 N)
    rw [hT]
    exact d4.trans (Cg.of_eq (by omega))
/-- The number of two words modulo the third. -/
theorem crt_x {p h l : Int} : Cg p ((h * 9223372036854775808 % p * 2 % p + l) % p) (h * 18446744073709551616 + l) := by
  refine (Cg.mod p _).trans (Cg.add ?_ (Cg.refl p l))
  refine (Cg.mod p _).trans (((Cg.mod p _).mulr 2).trans (Cg.of_eq ?_))
  omega
/-- The words of the sums. P: p0 k. A, C: the product's two words times j. -/
theorem crt_words {P r0 h l d hi lo A C a1 a0 b1 b0 o0 e0 mid e o1 e1 o2 T : Int} 
    (eh : hi = P / 18446744073709551616) (el : lo = P % 18446744073709551616) (e1l : l = (lo + r0) % 18446744073709551616) (ed : d = (lo + r0) / 18446744073709551616) (ehh : h = hi + d)
    (ea1 : a1 = A / 18446744073709551616) (ea0 : a0 = A % 18446744073709551616) (eb1 : b1 = C / 18446744073709551616) (eb0 : b0 = C % 18446744073709551616)
    (eo0 : o0 = (a0 + l) % 18446744073709551616) (ee0 : e0 = (a0 + l) / 18446744073709551616) (em : mid = (a1 + b0) % 18446744073709551616) (ee : e = (a1 + b0) / 18446744073709551616)
    (eo1 : o1 = (mid + h + e0) % 18446744073709551616) (ee1 : e1 = (mid + h + e0) / 18446744073709551616) (eo2 : o2 = b1 + e + e1) (hT : T = A + C * 18446744073709551616 + P + r0) :
    h * 18446744073709551616 + l = P + r0 ∧ o0 + 18446744073709551616 * (o1 + 18446744073709551616 * o2) = T := by
  constructor
  · omega
  · have f1 : h * 18446744073709551616 + l = P + r0 := by omega
    have f2 : A = a1 * 18446744073709551616 + a0 := by omega
    have f3 : C = b1 * 18446744073709551616 + b0 := by omega
    have f4 : a0 + l = e0 * 18446744073709551616 + o0 := by omega
    have f5 : a1 + b0 = e * 18446744073709551616 + mid := by omega
    have f6 : mid + h + e0 = e1 * 18446744073709551616 + o1 := by omega
    clear eh el e1l ed ea1 ea0 eb1 eb0 eo0 ee0 em ee eo1 ee1
    omega
/-- All the words. -/
structure CrtW (p0 p1 p2 i01 i2 hi lo r0 r1 r2 k P1 P0 l d h x j a1 a0 b1 b0 o0 e0 mid e o1 e1 be o2 : Int) : Prop where
  ek : (r1 - r0) % p1 * i01 % p1 = k
  eP1 : p0 * k / 18446744073709551616 = P1
  eP0 : p0 * k % 18446744073709551616 = P0
  el : (P0 + r0) % 18446744073709551616 = l
  ed : (P0 + r0) / 18446744073709551616 = d
  eh : P1 + d = h
  ex : (h * 9223372036854775808 % p2 * 2 % p2 + l) % p2 = x
  ej : (r2 - x) % p2 * i2 % p2 = j
  ea1 : lo * j / 18446744073709551616 = a1
  ea0 : lo * j % 18446744073709551616 = a0
  eb1 : hi * j / 18446744073709551616 = b1
  eb0 : hi * j % 18446744073709551616 = b0
  eo0 : (a0 + l) % 18446744073709551616 = o0
  ee0 : (a0 + l) / 18446744073709551616 = e0
  em : (a1 + b0) % 18446744073709551616 = mid
  ee : (a1 + b0) / 18446744073709551616 = e
  eo1 : (mid + h + e0) % 18446744073709551616 = o1
  ee1 : (mid + h + e0) / 18446744073709551616 = e1
  ebe : b1 + e = be
  eo2 : be + e1 = o2
  bk : 0 ≤ k ∧ k < p1
  bP1 : 0 ≤ P1 ∧ P1 < 18446744073709551616
  bP0 : 0 ≤ P0 ∧ P0 < 18446744073709551616
  bl : 0 ≤ l ∧ l < 18446744073709551616
  bd : 0 ≤ d ∧ d ≤ 1
  bh : 0 ≤ h ∧ h < 18446744073709551616
  bx : 0 ≤ x ∧ x < p2
  bj : 0 ≤ j ∧ j < p2
  ba1 : 0 ≤ a1 ∧ a1 < 18446744073709551616
  ba0 : 0 ≤ a0 ∧ a0 < 18446744073709551616
  bb1 : 0 ≤ b1 ∧ b1 < 18446744073709551616
  bb0 : 0 ≤ b0 ∧ b0 < 18446744073709551616
  bo0 : 0 ≤ o0 ∧ o0 < 18446744073709551616
  be0 : 0 ≤ e0 ∧ e0 ≤ 1
  bm : 0 ≤ mid ∧ mid < 18446744073709551616
  bee : 0 ≤ e ∧ e ≤ 1
  bo1 : 0 ≤ o1 ∧ o1 < 18446744073709551616
  be1 : 0 ≤ e1 ∧ e1 ≤ 1
  bbe : 0 ≤ be ∧ be < 18446744073709551616
  bo2 : 0 ≤ o2 ∧ o2 < 18446744073709551616
  vlt : o0 + 18446744073709551616 * (o1 + 18446744073709551616 * o2) < p0 * p1 * p2
  v0 : Cg p0 (o0 + 18446744073709551616 * (o1 + 18446744073709551616 * o2)) r0
  v1 : Cg p1 (o0 + 18446744073709551616 * (o1 + 18446744073709551616 * o2)) r1
  v2 : Cg p2 (o0 + 18446744073709551616 * (o1 + 18446744073709551616 * o2)) r2
theorem w_mod {A a : Int} (e : a = A % 18446744073709551616) : 0 ≤ a ∧ a < 18446744073709551616 := by omega
theorem w_div {A a M : Int} (e : a = A / 18446744073709551616) (h0 : 0 ≤ A) (h1 : A < 18446744073709551616 * M) : 0 ≤ a ∧ a < M := by omega
theorem w_le {a M : Int} (h : 0 ≤ a ∧ a < M) (k : M ≤ 18446744073709551616) : 0 ≤ a ∧ a < 18446744073709551616 := by omega
theorem w_car {A C a : Int} (e : a = (A + C) / 18446744073709551616) (h0 : 0 ≤ A ∧ A < 18446744073709551616) (h1 : 0 ≤ C ∧ C < 18446744073709551616) : 0 ≤ a ∧ a ≤ 1 := by omega
theorem w_car3 {A C D a : Int} (e : a = (A + C + D) / 18446744073709551616) (h0 : 0 ≤ A ∧ A < 18446744073709551616) (h1 : 0 ≤ C ∧ C < 18446744073709551616) (h2 : 0 ≤ D ∧ D ≤ 1) : 0 ≤ a ∧ a ≤ 1 := by omega
theorem om1 {N P r M : Int} (h : N = P + r) (h1 : N < M) (h2 : M ≤ 21267647932558653957237540927630737409) (h3 : 0 ≤ r) : P < 18446744073709551616 * 1152921504606846977 := by omega
theorem om2 {M : Int} (h2 : M ≤ 21267647932558653957237540927630737409) : M < 18446744073709551616 * 1152921504606846977 := by omega
theorem om3 {A lo : Int} (h : A ≤ lo * 4611686018427387904) (k : 0 ≤ lo ∧ lo < 18446744073709551616) : A < 18446744073709551616 * 18446744073709551616 := by omega
theorem om4 {C hi : Int} (h : C ≤ hi * 4611686018427387904) (k : 0 ≤ hi ∧ hi < 1152921504606846977) : C < 18446744073709551616 * 4611686018427387904 := by omega
theorem om5 {M hi lo : Int} (h : hi = M / 18446744073709551616) (k : lo = M % 18446744073709551616) : M = hi * 18446744073709551616 + lo := by omega
theorem om_add {a d h M : Int} (e : h = a + d) (k : 0 ≤ a ∧ a < M) (k2 : 0 ≤ d ∧ d ≤ 1) : 0 ≤ h ∧ h < M + 1 := by omega
theorem mul62 {a b : Int} (a0 : 0 ≤ a) (a1 : a < 4611686018427387904) (_b0 : 0 ≤ b) (b1 : b < 4611686018427387904) : a * b ≤ 21267647932558653957237540927630737409 := by
  have h2 : a * b ≤ 4611686018427387903 * 4611686018427387903 := Int.mul_le_mul (by omega) (by omega) _b0 (by decide)
  omega
theorem crt_all {p0 p1 p2 i01 i2 hi lo r0 r1 r2 : Int} (h0 : 3 ≤ p0) (h0' : p0 < 4611686018427387904) (h1 : 3 ≤ p1) (h1' : p1 < 4611686018427387904) (h2 : 3 ≤ p2) (h2' : p2 < 4611686018427387904)
    (ci : Cg p1 (i01 * p0) 1) (ci2 : Cg p2 (i2 * (p0 * p1)) 1) (ehi : hi = p0 * p1 / 18446744073709551616) (elo : lo = p0 * p1 % 18446744073709551616)
    (a0_ : 0 ≤ r0) (a1_ : r0 < p0) :
    ∃ k P1 P0 l d h x j a1 a0 b1 b0 o0 e0 mid e o1 e1 be o2, CrtW p0 p1 p2 i01 i2 hi lo r0 r1 r2 k P1 P0 l d h x j a1 a0 b1 b0 o0 e0 mid e o1 e1 be o2 := by
  obtain ⟨k, hk⟩ : ∃ k, k = (r1 - r0) % p1 * i01 % p1 := ⟨_, rfl⟩
  obtain ⟨N, hN⟩ : ∃ N, N = p0 * k + r0 := ⟨_, rfl⟩
  obtain ⟨k0, k1, n0, n1, c0, c1⟩ := crt_two (p0 := p0) (p1 := p1) (r0 := r0) (r1 := r1) (by omega) (by omega) a0_ a1_ ci hk hN
  have m0 : 0 ≤ p0 * k := Int.mul_nonneg (by omega) k0
  have m1 := mul62 (a := p0) (b := p1) (by omega) h0' (by omega) h1'
  have m2 : 0 ≤ p0 * p1 := Int.mul_nonneg (by omega) (by omega)
  obtain ⟨M, hM⟩ : ∃ M, M = p0 * p1 := ⟨_, rfl⟩
  rw [← hM] at ehi elo m1 m2 n1 ci2
  obtain ⟨P, hP⟩ : ∃ P, P = p0 * k := ⟨_, rfl⟩
  rw [← hP] at hN m0
  obtain ⟨P1, eP1⟩ : ∃ y, y = P / 18446744073709551616 := ⟨_, rfl⟩
  obtain ⟨P0, eP0⟩ : ∃ y, y = P % 18446744073709551616 := ⟨_, rfl⟩
  obtain ⟨l, el⟩ : ∃ y, y = (P0 + r0) % 18446744073709551616 := ⟨_, rfl⟩
  obtain ⟨d, ed⟩ : ∃ y, y = (P0 + r0) / 18446744073709551616 := ⟨_, rfl⟩
  obtain ⟨h, eh⟩ : ∃ y, y = P1 + d := ⟨_, rfl⟩
  obtain ⟨x, ex⟩ : ∃ y, y = (h * 9223372036854775808 % p2 * 2 % p2 + l) % p2 := ⟨_, rfl⟩
  obtain ⟨j, ej⟩ : ∃ y, y = (r2 - x) % p2 * i2 % p2 := ⟨_, rfl⟩
  have x0 : 0 ≤ x := by rw [ex]; exact Int.emod_nonneg _ (by omega)
  have x1 : x < p2 := by rw [ex]; exact Int.emod_lt_of_pos _ (by omega)
  have j0 : 0 ≤ j := by rw [ej]; exact Int.emod_nonneg _ (by omega)
  have j1 : j < p2 := by rw [ej]; exact Int.emod_lt_of_pos _ (by omega)
  obtain ⟨A, hA⟩ : ∃ y, y = lo * j := ⟨_, rfl⟩
  obtain ⟨C, hC⟩ : ∃ y, y = hi * j := ⟨_, rfl⟩
  have A0 : 0 ≤ A := by rw [hA]; exact Int.mul_nonneg (by omega) j0
  have C0 : 0 ≤ C := by rw [hC]; exact Int.mul_nonneg (by omega) j0
  have A1 : A ≤ lo * 4611686018427387904 := by rw [hA]; exact Int.mul_le_mul_of_nonneg_left (by omega) (by omega)
  have C1 : C ≤ hi * 4611686018427387904 := by rw [hC]; exact Int.mul_le_mul_of_nonneg_left (by omega) (by omega)
  obtain ⟨a1, ea1⟩ : ∃ y, y = A / 18446744073709551616 := ⟨_, rfl⟩
  obtain ⟨a0, ea0⟩ : ∃ y, y = A % 18446744073709551616 := ⟨_, rfl⟩
  obtain ⟨b1, eb1⟩ : ∃ y, y = C / 18446744073709551616 := ⟨_, rfl⟩
  obtain ⟨b0, eb0⟩ : ∃ y, y = C % 18446744073709551616 := ⟨_, rfl⟩
  obtain ⟨o0, eo0⟩ : ∃ y, y = (a0 + l) % 18446744073709551616 := ⟨_, rfl⟩
  obtain ⟨e0, ee0⟩ : ∃ y, y = (a0 + l) / 18446744073709551616 := ⟨_, rfl⟩
  obtain ⟨mid, em⟩ : ∃ y, y = (a1 + b0) % 18446744073709551616 := ⟨_, rfl⟩
  obtain ⟨e, ee⟩ : ∃ y, y = (a1 + b0) / 18446744073709551616 := ⟨_, rfl⟩
  obtain ⟨o1, eo1⟩ : ∃ y, y = (mid + h + e0) % 18446744073709551616 := ⟨_, rfl⟩
  obtain ⟨e1, ee1⟩ : ∃ y, y = (mid + h + e0) / 18446744073709551616 := ⟨_, rfl⟩
  obtain ⟨be, ebe⟩ : ∃ y, y = b1 + e := ⟨_, rfl⟩
  obtain ⟨o2, eo2⟩ : ∃ y, y = be + e1 := ⟨_, rfl⟩
  obtain ⟨T, hT⟩ : ∃ T, T = M * j + N := ⟨_, rfl⟩
  have hMl : M = hi * 18446744073709551616 + lo := om5 ehi elo
  have hT2 : T = A + C * 18446744073709551616 + P + r0 := by
    rw [hT, hMl, Int.add_mul, hN, hA, hC, Int.mul_assoc, Int.mul_comm 18446744073709551616 j, ← Int.mul_assoc]
    omega
  obtain ⟨w1, w2⟩ := crt_words (o2 := o2) eP1 eP0 el ed eh ea1 ea0 eb1 eb0 eo0 ee0 em ee eo1 ee1 (by rw [eo2, ebe]) hT2
  have cx : Cg p2 x N := by
    rw [hN, ← w1, ex]; exact crt_x
  obtain ⟨_, _, t0, t1, v0, v1, v2⟩ := crt_three (p0 := p0) (p1 := p1) (p2 := p2) (k := k) (by omega) (by omega) (by omega) hM n0 n1 c0 c1 cx ci2 ej hT rfl
  rw [← w2] at v0 v1 v2 t1
  have bP0 := w_mod eP0
  have bP1' := w_div (M := 1152921504606846977) eP1 m0 (om1 hN n1 m1 a0_)
  have bP1 := w_le bP1' (by decide)
  have bl := w_mod el
  have r0B : r0 < 18446744073709551616 := Int.lt_trans a1_ (Int.lt_trans h0' (by decide))
  have bd := w_car ed bP0 ⟨a0_, r0B⟩
  have bh := w_le (om_add eh bP1' bd) (by decide)
  have blo := w_mod elo
  have bhi := w_div (M := 1152921504606846977) ehi m2 (om2 m1)
  have ba1 := w_div (M := 18446744073709551616) ea1 A0 (om3 A1 blo)
  have ba0 := w_mod ea0
  have bb1' := w_div (M := 4611686018427387904) eb1 C0 (om4 C1 bhi)
  have bb1 := w_le bb1' (by decide)
  have bb0 := w_mod eb0
  have bo0 := w_mod eo0
  have be0 := w_car ee0 ba0 bl
  have bm := w_mod em
  have bee := w_car ee ba1 bb0
  have bo1 := w_mod eo1
  have be1 := w_car3 ee1 bm bh be0
  have bbe' := om_add ebe bb1' bee
  have bbe := w_le bbe' (by decide)
  have bo2 := w_le (om_add eo2 bbe' be1) (by decide)
  refine ⟨k, P1, P0, l, d, h, x, j, a1, a0, b1, b0, o0, e0, mid, e, o1, e1, be, o2, hk.symm, by rw [← hP, eP1], by rw [← hP, eP0], el.symm, ed.symm, eh.symm, ex.symm, ej.symm, by rw [← hA, ea1], by rw [← hA, ea0], by rw [← hC, eb1], by rw [← hC, eb0],
    eo0.symm, ee0.symm, em.symm, ee.symm, eo1.symm, ee1.symm, ebe.symm, eo2.symm, ⟨k0, k1⟩, bP1, bP0, bl, bd, bh, ⟨x0, x1⟩, ⟨j0, j1⟩, ba1, ba0, bb1, bb0, bo0, be0, bm, bee, bo1, be1, bbe, bo2, by rw [← hM]; exact t1, v0, v1, v2⟩
end Go.Proofs.YtoiclkaecgpbbaaDoor
