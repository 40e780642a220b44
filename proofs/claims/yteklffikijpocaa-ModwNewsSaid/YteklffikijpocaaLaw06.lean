/- Chapter 6: the walks of the laws. -/
import Derived.Test.YteklffikijpocaaModw7
import Derived.Test.YteklffikijpocaaKeep
namespace Go.Proofs.Yteklffikijpocaa
open Go.RowKit

theorem ModwNews_walk (p : Int) (w : World) (h : 0 ≤ p ∧ p < 18446744073709551616) : Calls Try.prog 7 #[.int .u64 p] w fun e w' => e = .returned (.bool true) ∧ w.grownBy w' none := by
  have p0 := h.1
  by_cases hp : Pm p
  · go_enter Try.func7, Try.ntmps7
    cl (modNew_ok _ p hp) => e w1 ⟨g, rfl, M, _, g1⟩
    cl (may_c _ p p0) => e w' ⟨hy, _, rfl⟩
    obtain rfl := hy hp
    cl (modP_c _ g p M) => e w' ⟨rfl, rfl⟩
    cl (wakes06_c _) => e w2 ⟨rfl, g2⟩
    go_wp2
    go_ret
    exact ⟨rfl, gb_trans g1 g2⟩
  · go_enter Try.func7, Try.ntmps7
    cl (modNew_no _ p p0 hp) => e w1 ⟨rfl, g1⟩
    cl (may_c _ p p0) => e w' ⟨_, hy, rfl⟩
    obtain rfl := hy hp
    cl (wakes06_c _) => e w2 ⟨rfl, g2⟩
    go_wp2
    go_ret
    exact ⟨rfl, gb_trans g1 g2⟩
theorem refGcd_i (w : World) (a b : Int) (ha : 0 ≤ a) (hb : 0 ≤ b) :
    Calls Try.prog 37 #[.int .u64 a, .int .u64 b] w fun e w' => e = .returned (.int .u64 (Int.gcd b a : Nat)) ∧ w.grownBy w' none := by
  obtain ⟨x, rfl⟩ := nat_of ha
  obtain ⟨y, rfl⟩ := nat_of hb
  have h := refGcd_c w x y
  rw [Int.gcd_natCast_natCast, Nat.gcd_comm]
  exact h
theorem ModwInverses_walk (p0 a : Int) (w : World) (h0 : 0 ≤ p0 ∧ p0 < 18446744073709551616) (h1 : 0 ≤ a ∧ a < 18446744073709551616) : Calls Try.prog 8 #[.int .u64 p0, .int .u64 a] w fun e w' => e = .returned (.bool true) ∧ w.grownBy w' none := by
  have a0 := h1.1
  have a1 := h1.2
  go_enter Try.func8, Try.ntmps8
  cl (odd_c _ p0 h0.1) => e w' ⟨p, rfl, P, rfl⟩
  have p3 := P.lo
  have p4 := P.hi
  cl (modNew_ok _ p P) => e w1 ⟨g, rfl, M, _, g1⟩
  cl (modInv_c _ g p a M a0) => e w2 ⟨⟨x, b, rfl, I⟩, g2⟩
  cl (refGcd_i _ a p a0 (by omega)) => e w3 ⟨rfl, g3⟩
  have G := gb_trans (gb_trans g1 g2) g3
  clear g1 g2 g3 M h0 h1
  by_cases hg : Int.gcd p a = 1
  · obtain ⟨rfl, x0, x1, hx⟩ := I.is hg
    rw [hg]
    have hm : a * x % p = 1 := by
      have h2 : x * a % p = 1 % p := hx
      rw [Int.emod_eq_of_lt (show (0 : Int) ≤ 1 by decide) (by omega)] at h2
      rw [Int.mul_comm]; exact h2
    clear I hx hg
    cl (refMul_c _ p a x (by omega) (by omega) a0 x0) => e w4 ⟨rfl, g4⟩
    cl (wakes06_c _) => e w5 ⟨rfl, g5⟩
    go_wp2
    go_ret
    exact ⟨rfl, gb_trans G (gb_trans g4 g5)⟩
  · obtain ⟨rfl, rfl⟩ := I.no hg
    obtain ⟨d, hd⟩ : ∃ d, d = Int.gcd p a := ⟨_, rfl⟩
    rw [← hd] at hg ⊢
    have hd1 : ¬ (d : Int) = 1 := by omega
    clear I hd hg
    cl (wakes06_c _) => e w5 ⟨rfl, g5⟩
    go_wp2
    go_ret
    exact ⟨rfl, gb_trans G g5⟩
end Go.Proofs.Yteklffikijpocaa
