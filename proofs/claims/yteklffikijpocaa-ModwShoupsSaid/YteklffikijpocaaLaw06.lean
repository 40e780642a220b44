/- Chapter 6: the walks of the laws. -/
import Derived.Test.YteklffikijpocaaModw7
import Derived.Test.YteklffikijpocaaKeep
namespace Go.Proofs.Yteklffikijpocaa
open Go.RowKit

theorem ModwNews_walk (p : Int) (w : World) (h : 0 ≤ p ∧ p < 18446744073709551616) : Calls Try.prog 7 #[.int .u64 p] w fun e w' => e = .returned (.bool true) ∧ w.grownBy w' none := by
  have p0 := h.1
  by_cases hp : Pm p
  · go_enter Try.func7, Try.ntmps7
    go_wp2_with fail
    refine (modNew_ok _ p hp).mono ?_
    rintro e w1 ⟨g, rfl, M, _, g1⟩
    go_wp2_with fail
    refine (may_c _ p p0).mono ?_
    rintro e w' ⟨hy, _, rfl⟩
    obtain rfl := hy hp
    go_wp2_with fail
    refine (modP_c _ g p M).mono ?_
    rintro e w' ⟨rfl, rfl⟩
    go_wp2_with fail
    refine (wakes06_c _).mono ?_
    rintro e w2 ⟨rfl, g2⟩
    go_wp2
    go_ret
    exact ⟨rfl, gb_trans g1 g2⟩
  · go_enter Try.func7, Try.ntmps7
    go_wp2_with fail
    refine (modNew_no _ p p0 hp).mono ?_
    rintro e w1 ⟨rfl, g1⟩
    go_wp2_with fail
    refine (may_c _ p p0).mono ?_
    rintro e w' ⟨_, hy, rfl⟩
    obtain rfl := hy hp
    go_wp2_with fail
    refine (wakes06_c _).mono ?_
    rintro e w2 ⟨rfl, g2⟩
    go_wp2
    go_ret
    exact ⟨rfl, gb_trans g1 g2⟩
theorem refGcd_i (w : World) (a b : Int) (ha : 0 ≤ a) (hb : 0 ≤ b) :
    Calls Try.prog 37 #[.int .u64 a, .int .u64 b] w fun e w' => e = .returned (.int .u64 (Int.gcd b a : Nat)) ∧ w.grownBy w' none := by
  obtain ⟨x, rfl⟩ := nat_of ha
  obtain ⟨y, rfl⟩ := nat_of hb
  have h := refGcd_c w x y
  rw [Int.gcd_natCast_natCast, Nat.gcd_comm]
  exact h
theorem ModwInverses_walk (p0 a : Int) (w : World) (h0 : 0 ≤ p0 ∧ p0 < 18446744073709551616) (h1 : 0 ≤ a ∧ a < 18446744073709551616) : Calls Try.prog 8 #[.int .u64 p0, .int .u64 a] w fun e w' => e = .returned (.bool true) ∧ w.grownBy w' none := by
  have a0 := h1.1
  have a1 := h1.2
  go_enter Try.func8, Try.ntmps8
  go_wp2_with fail
  refine (odd_c _ p0 h0.1).mono ?_
  rintro e w' ⟨p, rfl, P, rfl⟩
  have p3 := P.lo
  have p4 := P.hi
  go_wp2_with fail
  refine (modNew_ok _ p P).mono ?_
  rintro e w1 ⟨g, rfl, M, _, g1⟩
  go_wp2_with fail
  refine (modInv_c _ g p a M a0).mono ?_
  rintro e w2 ⟨⟨x, b, rfl, I⟩, g2⟩
  go_wp2_with fail
  refine (refGcd_i _ a p a0 (by omega)).mono ?_
  rintro e w3 ⟨rfl, g3⟩
  have G := gb_trans (gb_trans g1 g2) g3
  clear g1 g2 g3 M h0 h1
  by_cases hg : Int.gcd p a = 1
  · obtain ⟨rfl, x0, x1, hx⟩ := I.is hg
    rw [hg]
    have hm : a * x % p = 1 := by
      have h2 : x * a % p = 1 % p := hx
      rw [Int.emod_eq_of_lt (show (0 : Int) ≤ 1 by decide) (by omega)] at h2
      rw [Int.mul_comm]; exact h2
    clear I hx hg
    go_wp2_with fail
    refine (refMul_c _ p a x (by omega) (by omega) a0 x0).mono ?_
    rintro e w4 ⟨rfl, g4⟩
    go_wp2_with fail
    refine (wakes06_c _).mono ?_
    rintro e w5 ⟨rfl, g5⟩
    go_wp2
    go_ret
    exact ⟨rfl, gb_trans G (gb_trans g4 g5)⟩
  · obtain ⟨rfl, rfl⟩ := I.no hg
    obtain ⟨d, hd⟩ : ∃ d, d = Int.gcd p a := ⟨_, rfl⟩
    rw [← hd] at hg ⊢
    have hd1 : ¬ (d : Int) = 1 := by omega
    clear I hd hg
    go_wp2_with fail
    refine (wakes06_c _).mono ?_
    rintro e w5 ⟨rfl, g5⟩
    go_wp2
    go_ret
    exact ⟨rfl, gb_trans G g5⟩
/-- r is X modulo p. -/
structure Rs (p r X : Int) : Prop where
  r0 : 0 ≤ r
  r1 : r < p
  cg : Cg p r X
theorem Rs.eq {p r s X Y : Int} (h : Rs p r X) (k : Rs p s Y) (e : Cg p X Y) : r = s := (h.cg.trans (e.trans k.cg.symm)).eq h.r0 h.r1 k.r0 k.r1
theorem Rs.mod {p X : Int} (hp : 0 < p) : Rs p (X % p) X := ⟨Int.emod_nonneg _ (by omega), Int.emod_lt_of_pos _ hp, Cg.mod _ _⟩
theorem abs_r {f : FuncId} {vs : Array Value} {w : World} {p X : Int} {R : World → Prop} (hp : 0 < p) (h : Calls Try.prog f vs w fun e w' => e = .returned (.int .u64 (X % p)) ∧ R w') :
    Calls Try.prog f vs w fun e w' => ∃ r, e = .returned (.int .u64 r) ∧ Rs p r X ∧ R w' :=
  h.mono fun _ _ ⟨he, hr⟩ => ⟨X % p, he, Rs.mod hp, hr⟩
theorem ModwSums_walk (p0 a b : Int) (A : Option Addr) (len cap : Nat) (z : List Int) (w : World) (h0 : 0 ≤ p0 ∧ p0 < 18446744073709551616) (h1 : 0 ≤ a ∧ a < 18446744073709551616) (h2 : 0 ≤ b ∧ b < 18446744073709551616) (h3 : Sl w (.slice A len cap) z) :
    Calls Try.prog 10 #[.int .u64 p0, .int .u64 a, .int .u64 b, .slice A len cap] w fun e w' => e = .returned (.bool true) ∧ w.grownBy w' none := by
  have a0 := h1.1
  have b0 := h2.1
  go_enter Try.func10, Try.ntmps10
  go_wp2_with fail
  refine (odd_c _ p0 h0.1).mono ?_
  rintro e w' ⟨p, rfl, P, rfl⟩
  go_wp2_with fail
  refine (cut_c _ _ z 40 (by decide) h3).mono ?_
  rintro e w' ⟨u, rfl, hu, rfl⟩
  go_wp2_with fail
  refine (modNew_ok _ p P).mono ?_
  rintro e w1 ⟨g, rfl, M, _, g1⟩
  have hu1 := hu.grown0 g1
  obtain ⟨ys, hys⟩ : ∃ ys, ys = z.take 40 := ⟨_, rfl⟩
  rw [← hys] at hu1
  clear hu hys h0 h1 h2
  have HU := Lib.hid hu1
  obtain ⟨B, c, rfl, k1, k2, k3, k4⟩ := hu1
  have hp3 := P.lo
  have hp := M.neg0
  have hp' := P.hi
  obtain ⟨n, hn⟩ : ∃ n, n = ys.length := ⟨_, rfl⟩
  rw [← hn] at k1 k4 HU ⊢
  have HN := Lib.hid hn
  have hn1 : n ≤ 9223372036854775807 := by omega
  have h00 : (sumTo (rd ys) 0 % p) = 0 := by
    show 0 % p = 0
    exact Int.emod_eq_of_lt (by omega) (by omega)
  have H00 := Lib.hid h00
  clear hn h00
  go_wp2
  go_loopw [11, 12] (fun v11 v12 wr => ∃ k : Nat, v12 = .int .i64 k ∧ k ≤ n ∧ v11 = .int .u64 (sumTo (rd ys) k % p) ∧ w1.grownBy wr none) (fun _ v12 _ => n - (intOf v12).toNat)
  case atStart => exact ⟨0, rfl, by omega, by rw [H00.out], gb_refl _ _⟩
  case round =>
    clear H00
    obtain ⟨k, rfl, hk, rfl, G⟩ := hrel
    by_cases hlt : k < n
    · obtain ⟨b', o, rfl, hc⟩ := k4 (by omega)
      have hci := gb_cell0 G (hc k hlt)
      have hr := rd_w k3 k
      have hs : (sumTo (rd ys) k % p + rd ys k) % p = sumTo (rd ys) (k + 1) % p := by rw [Int.emod_add_emod]; rfl
      have HS := Lib.hid hs
      obtain ⟨d, hd⟩ : ∃ d, d = rd ys k := ⟨_, rfl⟩
      rw [← hd] at hci hr HS
      have d0 := hr.1
      have s0 := Int.emod_nonneg (sumTo (rd ys) k) (show p ≠ 0 by omega)
      clear hc k4 hs hd hr
      go_wp2_with fail
      refine (refAdd_c _ p _ d hp (by omega) s0 d0).mono ?_
      rintro e w2 ⟨rfl, g2⟩
      rw [HS.out]
      go_wp2
      go_roundw
      case rel => exact ⟨k + 1, by go_num, by omega, rfl, gb_trans G g2⟩
      case measure => simp [intOf]; omega
    · obtain rfl : k = n := by omega
      clear k4
      have hl : sumTo (rd ys) k % p = sumTo (rd ys) ys.length % p := by rw [← HN.out]
      have R0 : Rs p (sumTo (rd ys) k % p) (sumTo (rd ys) ys.length) := by rw [hl]; exact Rs.mod hp
      obtain ⟨s, hs⟩ : ∃ s, s = sumTo (rd ys) k % p := ⟨_, rfl⟩
      rw [← hs] at R0 ⊢
      clear hl hs
      have G := gb_drew G
      go_wp2
      refine Canon.region_canon (by kernel_rfl) (by kernel_rfl) ?_
      go_wp2_with fail
      refine (modRed_c _ g p a (M.grown0 G) a0).mono ?_
      rintro e w' ⟨rfl, rfl⟩
      go_wp2_with fail
      refine (abs_r hp (modAdd_c _ g p a b (M.grown0 G) a0 b0)).mono ?_
      rintro e w2 ⟨r1, rfl, R1, g2⟩
      replace G := gb_trans G g2
      go_wp2_with fail
      refine (abs_r hp (refAdd_c _ p a b hp (by omega) a0 b0)).mono ?_
      rintro e w3 ⟨r2, rfl, R2, g3⟩
      replace G := gb_trans G g3
      obtain rfl : r1 = r2 := R1.eq R2 (Cg.refl _ _)
      go_wp2_with fail
      refine (abs_r hp (modSub_c _ g p a b (M.grown0 G) a0 b0)).mono ?_
      rintro e w4 ⟨r3, rfl, R3, g4⟩
      replace G := gb_trans G g4
      go_wp2_with fail
      refine (abs_r hp (refSub_c _ p a b hp (by omega) a0 b0)).mono ?_
      rintro e w5 ⟨r4, rfl, R4, g5⟩
      replace G := gb_trans G g5
      obtain rfl : r3 = r4 := R3.eq R4 (Cg.refl _ _)
      go_wp2_with fail
      refine (abs_r hp (modNeg_c _ g p a (M.grown0 G) a0)).mono ?_
      rintro e w6 ⟨r5, rfl, R5, g6⟩
      replace G := gb_trans G g6
      go_wp2_with fail
      refine (abs_r hp (refSub_c _ p 0 a hp (by omega) (by decide) a0)).mono ?_
      rintro e w7 ⟨r6, rfl, R6, g7⟩
      replace G := gb_trans G g7
      obtain rfl : r5 = r6 := R5.eq R6 (Cg.of_eq (Int.zero_sub a).symm)
      go_wp2_with fail
      refine (abs_r hp (modSum_c _ g p _ ys (M.grown0 G) (HU.out.grown0 G))).mono ?_
      rintro e w8 ⟨r7, rfl, R7, g8⟩
      replace G := gb_trans G g8
      obtain rfl : r7 = s := R7.eq R0 (Cg.refl _ _)
      go_wp2_with fail
      refine (wakes06_c _).mono ?_
      rintro e w9 ⟨rfl, g9⟩
      go_wp2
      refine ⟨by kernel_rfl, ?_⟩
      go_wp2
      go_ret
      exact ⟨rfl, gb_trans g1 (gb_trans G g9)⟩
theorem modPow_n (w : World) (g : Nat) (p a : Int) (n : Nat) (h : Md w g p) (ha : 0 ≤ a) (hn : n < 2 ^ 64) :
    Calls Try.prog 58 #[.pointer (some ⟨g, 0, none⟩), .int .u64 a, .int .u64 n] w fun e w' => e = .returned (.int .u64 (a ^ n % p)) ∧ w.grownBy w' none := by
  have := modPow_c w g p a n h ha (by omega) (by omega)
  rw [Int.toNat_natCast] at this
  exact this
theorem ModwMuls_walk (p0 a b n0 : Int) (A : Option Addr) (len cap : Nat) (z : List Int) (w : World) (h0 : 0 ≤ p0 ∧ p0 < 18446744073709551616) (h1 : 0 ≤ a ∧ a < 18446744073709551616) (h2 : 0 ≤ b ∧ b < 18446744073709551616) (hn0 : 0 ≤ n0 ∧ n0 < 18446744073709551616) (h3 : Sl w (.slice A len cap) z) :
    Calls Try.prog 12 #[.int .u64 p0, .int .u64 a, .int .u64 b, .int .u64 n0, .slice A len cap] w fun e w' => e = .returned (.bool true) ∧ w.grownBy w' none := by
  have a0 := h1.1
  have b0 := h2.1
  obtain ⟨N, rfl⟩ := nat_of hn0.1
  have hN : N < 2 ^ 64 := by have := hn0.2; omega
  have HN64 := Lib.hid hN
  clear hn0 hN
  go_enter Try.func12, Try.ntmps12
  go_wp2_with fail
  refine (odd_c _ p0 h0.1).mono ?_
  rintro e w' ⟨p, rfl, P, rfl⟩
  go_wp2_with fail
  refine (cut_c _ _ z 40 (by decide) h3).mono ?_
  rintro e w' ⟨u, rfl, hu, rfl⟩
  go_wp2_with fail
  refine (modNew_ok _ p P).mono ?_
  rintro e w1 ⟨g, rfl, M, _, g1⟩
  have hu1 := hu.grown0 g1
  obtain ⟨ys, hys⟩ : ∃ ys, ys = z.take 40 := ⟨_, rfl⟩
  rw [← hys] at hu1
  clear hu hys h0 h1 h2
  have HU := Lib.hid hu1
  obtain ⟨B, c, rfl, k1, k2, k3, k4⟩ := hu1
  have hp3 := P.lo
  have hp := M.neg0
  have hp' := P.hi
  obtain ⟨n, hn⟩ : ∃ n, n = ys.length := ⟨_, rfl⟩
  rw [← hn] at k1 k4 HU ⊢
  have HN := Lib.hid hn
  have hn1 : n ≤ 9223372036854775807 := by omega
  have h00 : (prodTo (rd ys) 0 % p) = 1 := by
    show 1 % p = 1
    exact Int.emod_eq_of_lt (by omega) (by omega)
  have H00 := Lib.hid h00
  clear hn h00
  go_wp2
  go_loopw [13, 14] (fun v13 v14 wr => ∃ k : Nat, v14 = .int .i64 k ∧ k ≤ n ∧ v13 = .int .u64 (prodTo (rd ys) k % p) ∧ w1.grownBy wr none) (fun _ v14 _ => n - (intOf v14).toNat)
  case atStart => exact ⟨0, rfl, by omega, by rw [H00.out], gb_refl _ _⟩
  case round =>
    clear H00
    obtain ⟨k, rfl, hk, rfl, G⟩ := hrel
    by_cases hlt : k < n
    · obtain ⟨b', o, rfl, hc⟩ := k4 (by omega)
      have hci := gb_cell0 G (hc k hlt)
      have hr := rd_w k3 k
      have hs : (prodTo (rd ys) k % p * rd ys k) % p = prodTo (rd ys) (k + 1) % p := (Cg.mod p _).mulr (rd ys k)
      have HS := Lib.hid hs
      obtain ⟨d, hd⟩ : ∃ d, d = rd ys k := ⟨_, rfl⟩
      rw [← hd] at hci hr HS
      have d0 := hr.1
      have s0 := Int.emod_nonneg (prodTo (rd ys) k) (show p ≠ 0 by omega)
      clear hc k4 hs hd hr
      go_wp2_with fail
      refine (refMul_c _ p _ d hp (by omega) s0 d0).mono ?_
      rintro e w2 ⟨rfl, g2⟩
      rw [HS.out]
      go_wp2
      go_roundw
      case rel => exact ⟨k + 1, by go_num, by omega, rfl, gb_trans G g2⟩
      case measure => simp [intOf]; omega
    · obtain rfl : k = n := by omega
      clear k4
      have hl : prodTo (rd ys) k % p = prodTo (rd ys) ys.length % p := by rw [← HN.out]
      have R0 : Rs p (prodTo (rd ys) k % p) (prodTo (rd ys) ys.length) := by rw [hl]; exact Rs.mod hp
      obtain ⟨s, hs⟩ : ∃ s, s = prodTo (rd ys) k % p := ⟨_, rfl⟩
      rw [← hs] at R0 ⊢
      clear hl hs
      go_wp2_with fail
      refine (abs_r hp (modMul_c _ g p a b (M.grown0 G) a0 b0)).mono ?_
      rintro e w2 ⟨r1, rfl, R1, g2⟩
      replace G := gb_trans G g2
      go_wp2_with fail
      refine (abs_r hp (refMul_c _ p a b hp (by omega) a0 b0)).mono ?_
      rintro e w3 ⟨r2, rfl, R2, g3⟩
      replace G := gb_trans G g3
      obtain rfl : r1 = r2 := R1.eq R2 (Cg.refl _ _)
      go_wp2_with fail
      refine (abs_r hp (modPow_n _ g p a N (M.grown0 G) a0 HN64.out)).mono ?_
      rintro e w4 ⟨r3, rfl, R3, g4⟩
      replace G := gb_trans G g4
      go_wp2_with fail
      refine (abs_r hp (refPow_c _ p a N hp (by omega) a0 HN64.out)).mono ?_
      rintro e w5 ⟨r4, rfl, R4, g5⟩
      replace G := gb_trans G g5
      obtain rfl : r3 = r4 := R3.eq R4 (Cg.refl _ _)
      go_wp2_with fail
      refine (abs_r hp (modProduct_c _ g p _ ys (M.grown0 G) (HU.out.grown0 G))).mono ?_
      rintro e w8 ⟨r7, rfl, R7, g8⟩
      replace G := gb_trans G g8
      obtain rfl : r7 = s := R7.eq R0 (Cg.refl _ _)
      go_wp2_with fail
      refine (abs_r hp (modPow_n _ g p a 0 (M.grown0 G) a0 (by decide))).mono ?_
      rintro e w6 ⟨r5, rfl, R5, g6⟩
      replace G := gb_trans G g6
      obtain rfl : r5 = 1 := R5.eq (⟨by decide, by omega, Cg.refl _ _⟩ : Rs p 1 1) (Cg.of_eq (Int.pow_zero a))
      go_wp2_with fail
      refine (wakes06_c _).mono ?_
      rintro e w9 ⟨rfl, g9⟩
      go_wp2
      go_ret
      exact ⟨rfl, gb_trans g1 (gb_trans G g9)⟩
theorem gcd_two {p : Int} (h : Pm p) : Int.gcd p (18446744073709551616 % p) = 1 := by
  have h0 := h.lo
  rw [gcd_mod p _ (by omega) (by decide)]
  obtain ⟨m, hm⟩ := nat_of (show 0 ≤ p by omega)
  have h1 := h.odd
  rw [hm] at h1 ⊢
  show Nat.gcd m (2 ^ 64) = 1
  have : Nat.Coprime m 2 := by
    show Nat.gcd m 2 = 1
    rw [Nat.gcd_comm, Nat.gcd_rec, show m % 2 = 1 by omega]
    rfl
  exact Nat.Coprime.pow_right 64 this
theorem ModwMonts_walk (p0 a b : Int) (w : World) (h0 : 0 ≤ p0 ∧ p0 < 18446744073709551616) (h1 : 0 ≤ a ∧ a < 18446744073709551616) (h2 : 0 ≤ b ∧ b < 18446744073709551616) :
    Calls Try.prog 11 #[.int .u64 p0, .int .u64 a, .int .u64 b] w fun e w' => e = .returned (.bool true) ∧ w.grownBy w' none := by
  have a0 := h1.1
  have b0 := h2.1
  go_enter Try.func11, Try.ntmps11
  go_wp2_with fail
  refine (odd_c _ p0 h0.1).mono ?_
  rintro e w' ⟨p, rfl, P, rfl⟩
  go_wp2_with fail
  refine (modNew_ok _ p P).mono ?_
  rintro e w1 ⟨g, rfl, M, _, G⟩
  clear h0 h1 h2
  have hp3 := P.lo
  have hp := M.neg0
  have hp' := P.hi
  have K := gb_refl w1 none
  go_wp2_with fail
  refine (abs_r hp (refB_c _ p hp (by omega))).mono ?_
  rintro e w2 ⟨β, rfl, RB, g2⟩
  replace K := gb_trans K g2
  have B0 := RB.r0
  go_wp2_with fail
  refine (refInv_c _ p β hp3 (by omega) B0).mono ?_
  rintro e w3 ⟨⟨x, f, rfl, I⟩, g3⟩
  replace K := gb_trans K g3
  have hgc : Int.gcd p β = 1 := by
    obtain rfl : β = 18446744073709551616 % p := RB.cg.eq_mod RB.r0 RB.r1
    exact gcd_two P
  obtain ⟨rfl, x0, x1, cx⟩ := I.is hgc
  have CX : Cg p (18446744073709551616 * x) 1 := (Cg.of_eq (Int.mul_comm _ _)).trans ((RB.cg.symm.mull x).trans cx)
  have HCX := Lib.hid CX
  clear CX cx I hgc
  go_wp2_with fail
  refine (abs_r hp (modMont_c _ g p a (M.grown0 K) a0)).mono ?_
  rintro e w' ⟨r1, rfl, R1, rfl⟩
  go_wp2_with fail
  refine (abs_r hp (refMul_c _ p a β hp (by omega) a0 B0)).mono ?_
  rintro e w4 ⟨r2, rfl, R2, g4⟩
  replace K := gb_trans K g4
  obtain rfl : r1 = r2 := R1.eq R2 (RB.cg.symm.mull a)
  go_wp2_with fail
  refine (modBack_c _ g p a (M.grown0 K) a0).mono ?_
  rintro e w' ⟨r3, rfl, r30, r31, c3, rfl⟩
  go_wp2_with fail
  refine (abs_r hp (refMul_c _ p a x hp (by omega) a0 x0)).mono ?_
  rintro e w5 ⟨r4, rfl, R4, g5⟩
  replace K := gb_trans K g5
  have e34 : r3 = r4 := (⟨r30, r31, (Cg.of_eq (Int.mul_one r3).symm).trans ((HCX.out.symm.mull r3).trans ((Cg.of_eq (Int.mul_assoc _ _ _).symm).trans (c3.mulr x)))⟩ : Rs p r3 (a * x)).eq R4 (Cg.refl _ _)
  subst e34
  go_wp2_with fail
  refine (modMontMul_c _ g p a b (M.grown0 K) a0 b0).mono ?_
  rintro e w6 ⟨r5, rfl, r50, r51, c5, g6⟩
  replace K := gb_trans K g6
  go_wp2_with fail
  refine (abs_r hp (refMul_c _ p a b hp (by omega) a0 b0)).mono ?_
  rintro e w7 ⟨r6, rfl, R6, g7⟩
  replace K := gb_trans K g7
  go_wp2_with fail
  refine (abs_r hp (refMul_c _ p r6 x hp (by omega) R6.r0 x0)).mono ?_
  rintro e w8 ⟨r7, rfl, R7, g8⟩
  replace K := gb_trans K g8
  have e57 : r5 = r7 := (⟨r50, r51, (Cg.of_eq (Int.mul_one r5).symm).trans ((HCX.out.symm.mull r5).trans ((Cg.of_eq (Int.mul_assoc _ _ _).symm).trans ((c5.trans R6.cg.symm).mulr x)))⟩ : Rs p r5 (r6 * x)).eq R7 (Cg.refl _ _)
  subst e57
  replace K := gb_drew K
  go_wp2
  refine Canon.region_canon (by kernel_rfl) (by kernel_rfl) ?_
  go_wp2_with fail
  refine (abs_r hp (modMont_c _ g p a (M.grown0 K) a0)).mono ?_
  rintro e w' ⟨s1, rfl, S1, rfl⟩
  go_wp2_with fail
  refine (abs_r hp (modMont_c _ g p b (M.grown0 K) b0)).mono ?_
  rintro e w' ⟨s2, rfl, S2, rfl⟩
  go_wp2_with fail
  refine (modMontMul_c _ g p s1 s2 (M.grown0 K) S1.r0 S2.r0).mono ?_
  rintro e w9 ⟨s3, rfl, s30, s31, c9, g9⟩
  replace K := gb_trans K g9
  go_wp2_with fail
  refine (abs_r hp (modMul_c _ g p a b (M.grown0 K) a0 b0)).mono ?_
  rintro e w10 ⟨s4, rfl, S4, g10⟩
  replace K := gb_trans K g10
  go_wp2_with fail
  refine (abs_r hp (modMont_c _ g p s4 (M.grown0 K) S4.r0)).mono ?_
  rintro e w' ⟨s5, rfl, S5, rfl⟩
  have e35 : s3 = s5 := by
    have c : Cg p s3 (s4 * 18446744073709551616) :=
      Cg.cancel64 P.odd hp (c9.trans ((S1.cg.mul S2.cg).trans ((Cg.of_eq (show a * 18446744073709551616 * (b * 18446744073709551616) = a * b * 18446744073709551616 * 18446744073709551616 by grind)).trans ((S4.cg.symm.mulr _).mulr _))))
    exact (⟨s30, s31, c⟩ : Rs p s3 (s4 * 18446744073709551616)).eq S5 (Cg.refl _ _)
  subst e35
  go_wp2_with fail
  refine (abs_r hp (modMont_c _ g p a (M.grown0 K) a0)).mono ?_
  rintro e w' ⟨s6, rfl, S6, rfl⟩
  go_wp2_with fail
  refine (modBack_c _ g p s6 (M.grown0 K) S6.r0).mono ?_
  rintro e w' ⟨s7, rfl, s70, s71, c7, rfl⟩
  have e7 : a % p = s7 := (Rs.mod hp : Rs p (a % p) a).eq (⟨s70, s71, Cg.cancel64 P.odd hp (c7.trans S6.cg)⟩ : Rs p s7 a) (Cg.refl _ _)
  go_wp2_with fail
  refine (wakes06_c _).mono ?_
  rintro e w11 ⟨rfl, g11⟩
  go_wp2
  refine ⟨by kernel_rfl, ?_⟩
  go_wp2
  go_ret
  exact ⟨rfl, gb_trans G (gb_trans K g11)⟩
theorem sl_three (w : World) (t : TypeId) {a b d : Int} (ha : 0 ≤ a ∧ a < 18446744073709551616) (hb : 0 ≤ b ∧ b < 18446744073709551616) (hd : 0 ≤ d ∧ d < 18446744073709551616) :
    Sl (w.alloc (.cells #[.int .u64 a, .int .u64 b, .int .u64 d] t)) (.slice (some ⟨w.heap.size, 0, none⟩) 3 3) [a, b, d] := by
  refine ⟨_, 3, rfl, Nat.le_refl 3, by decide, fun x hx => ?_, fun _ => ⟨_, 0, rfl, fun j hj => ?_⟩⟩
  · simp at hx; rcases hx with rfl | rfl | rfl <;> assumption
  · have C := cs_new w #[.int .u64 a, .int .u64 b, .int .u64 d] t
    have hj : j < 3 := hj
    rw [Nat.zero_add]
    rcases j with _ | _ | _ | j
    · exact C.cell 0 rfl
    · exact C.cell 1 rfl
    · exact C.cell 2 rfl
    · omega
set_option maxRecDepth 100000 in
set_option maxHeartbeats 4000000 in
theorem ModwLaws_walk (p0 a b d n0 : Int) (w : World) (h0 : 0 ≤ p0 ∧ p0 < 18446744073709551616) (h1 : 0 ≤ a ∧ a < 18446744073709551616) (h2 : 0 ≤ b ∧ b < 18446744073709551616) (h3 : 0 ≤ d ∧ d < 18446744073709551616) (h4 : 0 ≤ n0 ∧ n0 < 18446744073709551616) :
    Calls Try.prog 13 #[.int .u64 p0, .int .u64 a, .int .u64 b, .int .u64 d, .int .u64 n0] w fun e w' => e = .returned (.bool true) ∧ w.grownBy w' none := by
  have a0 := h1.1
  have b0 := h2.1
  have d0 := h3.1
  have H1 := Lib.hid h1
  have H2 := Lib.hid h2
  have H3 := Lib.hid h3
  have hn0 := h4.1
  have n0m : 0 ≤ n0 / 2 ∧ n0 / 2 < 9223372036854775808 := by omega
  obtain ⟨m, hm⟩ : ∃ m, n0 / 2 = m := ⟨_, rfl⟩
  rw [hm] at n0m
  have m0 := n0m.1
  have m1 := n0m.2
  go_enter Try.func13, Try.ntmps13
  go_wp2_with fail
  refine (odd_c _ p0 h0.1).mono ?_
  rintro e w' ⟨p, rfl, P, rfl⟩
  go_wp2_with fail
  refine (modNew_ok _ p P).mono ?_
  rintro e w1 ⟨g, rfl, M, _, G⟩
  clear h0 h1 h2 h3 h4 n0m
  have hp3 := P.lo
  have hp := M.neg0
  have hp' := P.hi
  have K := gb_refl w1 none
  go_wp2_with fail
  refine (abs_r hp (modAdd_c _ g p b d (M.grown0 K) b0 d0)).mono ?_
  rintro e w2 ⟨r1, rfl, R1, g2⟩
  replace K := gb_trans K g2
  go_wp2_with fail
  refine (abs_r hp (modMul_c _ g p a r1 (M.grown0 K) a0 R1.r0)).mono ?_
  rintro e w2 ⟨r2, rfl, R2, g2⟩
  replace K := gb_trans K g2
  go_wp2_with fail
  refine (abs_r hp (modMul_c _ g p a b (M.grown0 K) a0 b0)).mono ?_
  rintro e w2 ⟨r3, rfl, R3, g2⟩
  replace K := gb_trans K g2
  go_wp2_with fail
  refine (abs_r hp (modMul_c _ g p a d (M.grown0 K) a0 d0)).mono ?_
  rintro e w2 ⟨r4, rfl, R4, g2⟩
  replace K := gb_trans K g2
  go_wp2_with fail
  refine (abs_r hp (modAdd_c _ g p r3 r4 (M.grown0 K) R3.r0 R4.r0)).mono ?_
  rintro e w2 ⟨r5, rfl, R5, g2⟩
  replace K := gb_trans K g2
  obtain rfl : r2 = r5 := R2.eq R5 ((R1.cg.mull a).trans ((Cg.of_eq (Int.mul_add a b d)).trans (R3.cg.add R4.cg).symm))
  clear R5 R2
  go_wp2_with fail
  refine (abs_r hp (modMul_c _ g p a b (M.grown0 K) a0 b0)).mono ?_
  rintro e w2 ⟨r6, rfl, R6, g2⟩
  replace K := gb_trans K g2
  go_wp2_with fail
  refine (abs_r hp (modMul_c _ g p r6 d (M.grown0 K) R6.r0 d0)).mono ?_
  rintro e w2 ⟨r7, rfl, R7, g2⟩
  replace K := gb_trans K g2
  go_wp2_with fail
  refine (abs_r hp (modMul_c _ g p b d (M.grown0 K) b0 d0)).mono ?_
  rintro e w2 ⟨r8, rfl, R8, g2⟩
  replace K := gb_trans K g2
  go_wp2_with fail
  refine (abs_r hp (modMul_c _ g p a r8 (M.grown0 K) a0 R8.r0)).mono ?_
  rintro e w2 ⟨r9, rfl, R9, g2⟩
  replace K := gb_trans K g2
  obtain rfl : r7 = r9 := R7.eq R9 ((R6.cg.mulr d).trans ((Cg.of_eq (Int.mul_assoc a b d)).trans (R8.cg.mull a).symm))
  go_wp2_with fail
  refine (abs_r hp (modAdd_c _ g p a b (M.grown0 K) a0 b0)).mono ?_
  rintro e w2 ⟨s1, rfl, S1, g2⟩
  replace K := gb_trans K g2
  go_wp2_with fail
  refine (abs_r hp (modSub_c _ g p s1 b (M.grown0 K) S1.r0 b0)).mono ?_
  rintro e w2 ⟨s2, rfl, S2, g2⟩
  replace K := gb_trans K g2
  go_wp2_with fail
  refine (abs_r hp (modRed_c _ g p a (M.grown0 K) a0)).mono ?_
  rintro e w' ⟨s3, rfl, S3, rfl⟩
  obtain rfl : s2 = s3 := S2.eq S3 ((S1.cg.sub (Cg.refl p b)).trans (Cg.of_eq (by omega)))
  go_wp2_with fail
  refine (abs_r hp (modNeg_c _ g p a (M.grown0 K) a0)).mono ?_
  rintro e w2 ⟨s4, rfl, S4, g2⟩
  replace K := gb_trans K g2
  go_wp2_with fail
  refine (abs_r hp (modAdd_c _ g p a s4 (M.grown0 K) a0 S4.r0)).mono ?_
  rintro e w2 ⟨s5, rfl, S5, g2⟩
  replace K := gb_trans K g2
  obtain rfl : s5 = 0 := S5.eq (⟨by decide, by omega, Cg.refl _ _⟩ : Rs p 0 0) (((Cg.refl p a).add S4.cg).trans (Cg.of_eq (by omega)))
  go_wp2_with fail
  refine (abs_r hp (modPow_c _ g p a m (M.grown0 K) a0 m0 (by omega))).mono ?_
  rintro e w2 ⟨t1, rfl, T1, g2⟩
  replace K := gb_trans K g2
  go_wp2_with fail
  refine (abs_r hp (modPow_c _ g p a m (M.grown0 K) a0 m0 (by omega))).mono ?_
  rintro e w2 ⟨t2, rfl, T2, g2⟩
  replace K := gb_trans K g2
  go_wp2_with fail
  refine (abs_r hp (modMul_c _ g p t1 t2 (M.grown0 K) T1.r0 T2.r0)).mono ?_
  rintro e w2 ⟨t3, rfl, T3, g2⟩
  replace K := gb_trans K g2
  go_wp2_with fail
  refine (abs_r hp (modPow_c _ g p a (2 * m) (M.grown0 K) a0 (by omega) (by omega))).mono ?_
  rintro e w2 ⟨t4, rfl, T4, g2⟩
  replace K := gb_trans K g2
  obtain rfl : t3 = t4 := T3.eq T4 ((T1.cg.mul T2.cg).trans (Cg.of_eq (by rw [← Int.pow_add]; congr 1; omega)))
  go_wp2_with fail
  refine (abs_r hp (modPow_c _ g p a m (M.grown0 K) a0 m0 (by omega))).mono ?_
  rintro e w2 ⟨t5, rfl, T5, g2⟩
  replace K := gb_trans K g2
  go_wp2_with fail
  refine (abs_r hp (modMul_c _ g p t5 a (M.grown0 K) T5.r0 a0)).mono ?_
  rintro e w2 ⟨t6, rfl, T6, g2⟩
  replace K := gb_trans K g2
  go_wp2_with fail
  refine (abs_r hp (modPow_c _ g p a (m + 1) (M.grown0 K) a0 (by omega) (by omega))).mono ?_
  rintro e w2 ⟨t7, rfl, T7, g2⟩
  replace K := gb_trans K g2
  obtain rfl : t6 = t7 := T6.eq T7 ((T5.cg.mulr a).trans (Cg.of_eq (by rw [← Int.pow_succ]; congr 1; omega)))
  go_wp2_with fail
  replace K := gb_alloc K (.cells #[.int .u64 a, .int .u64 b, .int .u64 d] 41)
  refine (abs_r hp (modSum_c _ g p _ [a, b, d] (M.grown0 K) (sl_three _ _ H1.out H2.out H3.out))).mono ?_
  rintro e w2 ⟨u1, rfl, U1, g2⟩
  replace K := gb_trans K g2
  go_wp2_with fail
  refine (abs_r hp (modAdd_c _ g p b d (M.grown0 K) b0 d0)).mono ?_
  rintro e w2 ⟨u2, rfl, U2, g2⟩
  replace K := gb_trans K g2
  go_wp2_with fail
  refine (abs_r hp (modAdd_c _ g p a u2 (M.grown0 K) a0 U2.r0)).mono ?_
  rintro e w2 ⟨u3, rfl, U3, g2⟩
  replace K := gb_trans K g2
  obtain rfl : u1 = u3 := U1.eq U3 ((Cg.of_eq (show 0 + a + b + d = a + (b + d) by omega)).trans ((Cg.refl p a).add U2.cg.symm))
  go_wp2_with fail
  replace K := gb_alloc K (.cells #[.int .u64 a, .int .u64 b, .int .u64 d] 41)
  refine (abs_r hp (modProduct_c _ g p _ [a, b, d] (M.grown0 K) (sl_three _ _ H1.out H2.out H3.out))).mono ?_
  rintro e w2 ⟨u4, rfl, U4, g2⟩
  replace K := gb_trans K g2
  go_wp2_with fail
  refine (abs_r hp (modMul_c _ g p b d (M.grown0 K) b0 d0)).mono ?_
  rintro e w2 ⟨u5, rfl, U5, g2⟩
  replace K := gb_trans K g2
  go_wp2_with fail
  refine (abs_r hp (modMul_c _ g p a u5 (M.grown0 K) a0 U5.r0)).mono ?_
  rintro e w2 ⟨u6, rfl, U6, g2⟩
  replace K := gb_trans K g2
  obtain rfl : u4 = u6 := U4.eq U6 ((Cg.of_eq (show 1 * a * b * d = a * (b * d) by grind)).trans (U5.cg.symm.mull a))
  go_wp2_with fail
  refine (wakes06_c _).mono ?_
  rintro e w2 ⟨rfl, g2⟩
  go_wp2
  go_ret
  exact ⟨rfl, gb_trans G (gb_trans K g2)⟩
end Go.Proofs.Yteklffikijpocaa
