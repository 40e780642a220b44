/- Residues of a word: sums, products, powers, inverses, and how a modulus is made. -/
import Derived.Test.YteklffikijpocaaModw2
namespace Go.Proofs.Yteklffikijpocaa
open Go.RowKit

def sumTo (f : Nat → Int) : Nat → Int
  | 0 => 0
  | k + 1 => sumTo f k + f k
def prodTo (f : Nat → Int) : Nat → Int
  | 0 => 1
  | k + 1 => prodTo f k * f k
theorem modSum_c (w : World) (g : Nat) (p : Int) (v : Value) (xs : List Int) (h : Md w g p) (hv : Sl w v xs) :
    Calls Try.prog 51 #[.pointer (some ⟨g, 0, none⟩), v] w fun e w' => e = .returned (.int .u64 (sumTo (rd xs) xs.length % p)) ∧ w.grownBy w' none := by
  obtain ⟨A, c, rfl, hnc, hc, hws, hcell⟩ := hv
  have hp := h.neg0
  have hp3 := h.pm.lo
  have hp' := h.pm.hi
  obtain ⟨n, hn⟩ : ∃ n, n = xs.length := ⟨_, rfl⟩
  rw [← hn] at hnc hcell ⊢
  have hn1 : n ≤ 9223372036854775807 := by omega
  have h00 : (sumTo (rd xs) 0 % p) = 0 := by
    show 0 % p = 0
    exact Int.emod_eq_of_lt (by omega) (by omega)
  have H00 := Lib.hid h00
  clear hn h00
  go_enter Try.func51, Try.ntmps51
  go_wp2
  go_loopw [5, 10] (fun v5 v10 wr => ∃ k : Nat, v10 = .int .i64 k ∧ k ≤ n ∧ v5 = .int .u64 (sumTo (rd xs) k % p) ∧ w.grownBy wr none) (fun _ v10 _ => n - (intOf v10).toNat)
  case atStart => exact ⟨0, rfl, by omega, by rw [H00.out], gb_refl _ _⟩
  case round =>
    clear H00
    obtain ⟨k, rfl, hk, rfl, G⟩ := hrel
    by_cases hlt : k < n
    · obtain ⟨b, o, rfl, hc⟩ := hcell (by omega)
      have hci := gb_cell0 G (hc k hlt)
      have hr := rd_w hws k
      have hm := (h.grown0 G).c0
      have hs : (sumTo (rd xs) k % p + rd xs k % p) % p = sumTo (rd xs) (k + 1) % p := by first | (rw [← Int.add_emod]; rfl) | (rw [← Int.mul_emod]; rfl)
      have HS := Lib.hid hs
      obtain ⟨d, hd⟩ : ∃ d, d = rd xs k := ⟨_, rfl⟩
      rw [← hd] at hci hr HS
      have d0 := Int.emod_nonneg d (show p ≠ 0 by omega)
      have d1 := Int.emod_lt_of_pos d hp
      have s0 := Int.emod_nonneg (sumTo (rd xs) k) (show p ≠ 0 by omega)
      have s1 := Int.emod_lt_of_pos (sumTo (rd xs) k) hp
      clear hc hcell hs hd
      go_wp2_with fail
      refine (madd_c _ g p _ _ (h.grown0 G) s0 s1 d0 (by omega)).mono ?_
      rintro e w1 ⟨rfl, g1⟩
      subst g1
      rw [HS.out]
      go_wp2
      go_roundw
      case rel => exact ⟨k + 1, by go_num, by omega, rfl, G⟩
      case measure => simp [intOf]; omega
    · obtain rfl : k = n := by omega
      clear hcell
      go_wp2
      go_ret
      exact ⟨rfl, G⟩
theorem modProduct_c (w : World) (g : Nat) (p : Int) (v : Value) (xs : List Int) (h : Md w g p) (hv : Sl w v xs) :
    Calls Try.prog 60 #[.pointer (some ⟨g, 0, none⟩), v] w fun e w' => e = .returned (.int .u64 (prodTo (rd xs) xs.length % p)) ∧ w.grownBy w' none := by
  obtain ⟨A, c, rfl, hnc, hc, hws, hcell⟩ := hv
  have hp := h.neg0
  have hp3 := h.pm.lo
  have hp' := h.pm.hi
  obtain ⟨n, hn⟩ : ∃ n, n = xs.length := ⟨_, rfl⟩
  rw [← hn] at hnc hcell ⊢
  have hn1 : n ≤ 9223372036854775807 := by omega
  have h00 : (prodTo (rd xs) 0 % p) = 1 := by
    show 1 % p = 1
    exact Int.emod_eq_of_lt (by omega) (by omega)
  have H00 := Lib.hid h00
  clear hn h00
  go_enter Try.func60, Try.ntmps60
  go_wp2
  go_loopw [5, 10] (fun v5 v10 wr => ∃ k : Nat, v10 = .int .i64 k ∧ k ≤ n ∧ v5 = .int .u64 (prodTo (rd xs) k % p) ∧ w.grownBy wr none) (fun _ v10 _ => n - (intOf v10).toNat)
  case atStart => exact ⟨0, rfl, by omega, by rw [H00.out], gb_refl _ _⟩
  case round =>
    clear H00
    obtain ⟨k, rfl, hk, rfl, G⟩ := hrel
    by_cases hlt : k < n
    · obtain ⟨b, o, rfl, hc⟩ := hcell (by omega)
      have hci := gb_cell0 G (hc k hlt)
      have hr := rd_w hws k
      have hm := (h.grown0 G).c0
      have hs : prodTo (rd xs) k % p * (rd xs k % p) % p = prodTo (rd xs) (k + 1) % p := by first | (rw [← Int.add_emod]; rfl) | (rw [← Int.mul_emod]; rfl)
      have HS := Lib.hid hs
      obtain ⟨d, hd⟩ : ∃ d, d = rd xs k := ⟨_, rfl⟩
      rw [← hd] at hci hr HS
      have d0 := Int.emod_nonneg d (show p ≠ 0 by omega)
      have d1 := Int.emod_lt_of_pos d hp
      have s0 := Int.emod_nonneg (prodTo (rd xs) k) (show p ≠ 0 by omega)
      have s1 := Int.emod_lt_of_pos (prodTo (rd xs) k) hp
      clear hc hcell hs hd
      go_wp2_with fail
      refine (mmul_c _ g p _ _ (h.grown0 G) s0 s1 d0 (by omega)).mono ?_
      rintro e w1 ⟨rfl, g1⟩
      skip
      rw [HS.out]
      go_wp2
      go_roundw
      case rel => exact ⟨k + 1, by go_num, by omega, rfl, gb_trans G g1⟩
      case measure => simp [intOf]; omega
    · obtain rfl : k = n := by omega
      clear hcell
      go_wp2
      go_ret
      exact ⟨rfl, G⟩
end Go.Proofs.Yteklffikijpocaa
