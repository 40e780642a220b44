/- Chapter 6: the walk of ModwShoups. -/
import Derived.Test.YteklffikijpocaaLaw06
import Derived.Test.YteklffikijpocaaNum3
namespace Go.Proofs.Yteklffikijpocaa
open Go.RowKit

theorem sl_two (w : World) (t : TypeId) {x y : Int} (hx : 0 ≤ x ∧ x < 18446744073709551616) (hy : 0 ≤ y ∧ y < 18446744073709551616) : Sl (w.alloc (.cells #[.int .u64 x, .int .u64 y] t)) (.slice (some ⟨w.heap.size, 0, none⟩) 2 2) [x, y] :=
  ⟨_, 2, rfl, Nat.le_refl 2, by decide, ws_append (ws_one hx.1 hx.2) (ws_one hy.1 hy.2), fun _ => ⟨_, 0, rfl, fun j hj => by
    have hj : j < 2 := hj
    rw [Nat.zero_add]
    rcases j with _ | _ | j
    · exact (cs_new w #[.int .u64 x, .int .u64 y] t).cell 0 rfl
    · exact (cs_new w #[.int .u64 x, .int .u64 y] t).cell 1 rfl
    · omega⟩⟩
theorem shoup_val {a p : Int} (a0 : 0 ≤ a) (p0 : 0 < p) : val B64 [0, a] / p.toNat = (a * 18446744073709551616 / p).toNat := by
  obtain ⟨x, rfl⟩ := nat_of a0
  obtain ⟨q, hq⟩ := nat_of (show 0 ≤ p by omega)
  rw [hq, Int.toNat_natCast]
  have e : val B64 [0, (x : Int)] = x * 18446744073709551616 := by
    simp only [val, Int.toNat_natCast]
    show (0 : Int).toNat + 18446744073709551616 * (x + 18446744073709551616 * 0) = _
    rw [show (0 : Int).toNat = 0 from rfl]; omega
  rw [e, show ((x : Int) * 18446744073709551616 / (q : Int)) = ((x * 18446744073709551616 / q : Nat) : Int) by rw [Int.natCast_ediv, Int.natCast_mul]; rfl, Int.toNat_natCast]
theorem cmpI_refl (m : Nat) : cmpI m m = 0 := by unfold cmpI; rw [if_neg (by omega), if_neg (by omega)]
theorem ModwShoups_walk (p0 a v : Int) (w : World) (h0 : 0 ≤ p0 ∧ p0 < 18446744073709551616) (h1 : 0 ≤ a ∧ a < 18446744073709551616) (h2 : 0 ≤ v ∧ v < 18446744073709551616) :
    Calls Try.prog 9 #[.int .u64 p0, .int .u64 a, .int .u64 v] w fun e w' => e = .returned (.bool true) ∧ w.grownBy w' none := by
  have a0 := h1.1
  have v0 := h2.1
  go_enter Try.func9, Try.ntmps9
  go_wp2_with fail
  refine (odd_c _ p0 h0.1).mono ?_
  rintro e w' ⟨p, rfl, P, rfl⟩
  go_wp2_with fail
  refine (modNew_ok _ p P).mono ?_
  rintro e w1 ⟨g, rfl, M, _, G⟩
  clear h0 h1 h2
  have hp3 := P.lo
  have hp := M.neg0
  have hp' := P.hi
  have K := gb_refl w1 none
  go_wp2_with fail
  refine (modShoup_c _ g p v (M.grown0 K) v0).mono ?_
  rintro e w2 ⟨rfl, g2⟩
  replace K := gb_trans K g2
  have x0 := Int.emod_nonneg v (show p ≠ 0 by omega)
  have x1 := Int.emod_lt_of_pos v hp
  have hsv := shoup_val x0 hp
  have s0 : 0 ≤ v % p * 18446744073709551616 / p := Int.ediv_nonneg (Int.mul_nonneg x0 (by decide)) (by omega)
  have s1 : v % p * 18446744073709551616 / p < 18446744073709551616 := by
    apply Int.ediv_lt_of_lt_mul hp
    have : v % p * 18446744073709551616 < p * 18446744073709551616 := Int.mul_lt_mul_of_pos_right x1 (by decide)
    omega
  have hss : v % p * 18446744073709551616 / p = v % p * 18446744073709551616 / p := rfl
  obtain ⟨s, hs⟩ : ∃ s, s = v % p * 18446744073709551616 / p := ⟨_, rfl⟩
  rw [← hs] at s0 s1 hsv ⊢
  have HS := Lib.hid hs
  have HSV := Lib.hid hsv
  clear hs hss hsv
  obtain ⟨x, hx⟩ : ∃ x, x = v % p := ⟨_, rfl⟩
  have X0 : 0 ≤ x := by omega
  have X1 : x < 18446744073709551616 := by omega
  rw [← hx] at HSV x0 x1
  replace hx := hx.symm
  have pn : 0 < p.toNat := by omega
  have PN := Lib.hid pn
  clear pn
  go_wp2_with fail
  replace K := gb_alloc K (.cells #[.int .u64 0, .int .u64 x] 41)
  refine (from_c _ _ [0, x] 2 (sl_two _ _ ⟨by decide, by decide⟩ ⟨X0, X1⟩) (Nat.le_refl 2) (by decide)).mono ?_
  rintro e w3 ⟨u1, rfl, N1, g3⟩
  replace K := gb_trans K g3
  go_wp2_with fail
  refine (small_c _ p (by omega) (by omega)).mono ?_
  rintro e w4 ⟨u2, rfl, N2, g4⟩
  replace K := gb_trans K g4
  go_wp2_with fail
  refine (divMod_c _ u1 u2 _ _ _ _ (N1.grown0 g4) N2 PN.out (by decide) (by decide)).mono ?_
  rintro e w5 ⟨u3, u4, rfl, N3, _, g5⟩
  replace K := gb_trans K g5
  rw [HSV.out] at N3
  go_wp2_with fail
  refine (small_c _ s s0 s1).mono ?_
  rintro e w6 ⟨u5, rfl, N5, g6⟩
  replace K := gb_trans K g6
  go_wp2_with fail
  refine (cmp_c _ u3 u5 _ _ _ _ (N3.grown0 g6) N5).mono ?_
  rintro e w7 ⟨rfl, g7⟩
  replace K := gb_trans K g7
  rw [cmpI_refl]
  go_wp2_with fail
  refine (abs_r hp (modShoupMul_c _ g p a v s (M.grown0 K) a0 v0 HS.out)).mono ?_
  rintro e w8 ⟨r1, rfl, R1, g8⟩
  replace K := gb_trans K g8
  go_wp2_with fail
  refine (abs_r hp (refMul_c _ p a v hp (by omega) a0 v0)).mono ?_
  rintro e w9 ⟨r2, rfl, R2, g9⟩
  replace K := gb_trans K g9
  obtain rfl : r1 = r2 := R1.eq R2 (Cg.refl _ _)
  go_wp2_with fail
  refine (wakes06_c _).mono ?_
  rintro e w10 ⟨rfl, g10⟩
  go_wp2
  go_ret
  exact ⟨rfl, gb_trans G (gb_trans K g10)⟩
end Go.Proofs.Yteklffikijpocaa
