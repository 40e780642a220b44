/- Digits turned round. -/
import Derived.Test.YtoiclkaecgpbbaaDoorBits
import Derived.Test.YtoiclkaecgpbbaaDoorNtt2
namespace Go.Proofs.YtoiclkaecgpbbaaDoor
open Go.RowKit

def swp (k m x : Nat) : Nat := ((x >>> k) &&& m) ||| (((x &&& m) <<< k) % 18446744073709551616)
def rby (x : Nat) : Nat :=
  let y := swp 8 71777214294589695 x
  let z := swp 16 281470681808895 y
  (z >>> 32) ||| ((z <<< 32) % 18446744073709551616)
def rev64 (x : Nat) : Nat := rby (swp 4 1085102592571150095 (swp 2 3689348814741910323 (swp 1 6148914691236517205 x)))
def revOk (n : Nat) : Bool := (List.range n).all fun i => (List.range 11).all fun L => decide (2 ^ L ≤ i) || decide (rev64 i / 2 ^ (64 - L) = rv L i)
theorem rev_ok : revOk 1024 = true := by decide +kernel
theorem rev64_rv {i L : Nat} (hL : L ≤ 10) (hi : i < 2 ^ L) : rev64 i / 2 ^ (64 - L) = rv L i := by
  have h10 : 2 ^ L ≤ 2 ^ 10 := Nat.pow_le_pow_right (by decide) hL
  have h1 := List.all_eq_true.1 rev_ok i (List.mem_range.2 (by omega))
  have h2 := List.all_eq_true.1 h1 L (List.mem_range.2 (by omega))
  simp only [Bool.or_eq_true, decide_eq_true_eq] at h2
  rcases h2 with h2 | h2
  · omega
  · exact h2
theorem swp_lt {k m x : Nat} (hm : m < 18446744073709551616) : swp k m x < 18446744073709551616 := by
  unfold swp
  have h1 : (x >>> k) &&& m < 2 ^ 64 := Nat.lt_of_le_of_lt Nat.and_le_right hm
  exact Nat.or_lt_two_pow h1 (Nat.mod_lt _ (by decide))
theorem rby_lt (x : Nat) : rby x < 18446744073709551616 := by
  unfold rby
  have h1 : swp 16 281470681808895 (swp 8 71777214294589695 x) < 2 ^ 64 := swp_lt (by decide)
  refine Nat.or_lt_two_pow (n := 64) ?_ (Nat.mod_lt _ (by decide))
  rw [Nat.shiftRight_eq_div_pow]
  exact Nat.lt_of_le_of_lt (Nat.div_le_self _ _) h1
/-- One swap, as the walk says it. -/
theorem swp_int (k m x : Nat) (hx : x < 18446744073709551616) (hm : m < 18446744073709551616) :
    bits .and .u64 ((x : Int) / 2 ^ k) m = ((((x >>> k) &&& m : Nat)) : Int) ∧ bits .and .u64 (x : Int) m = ((x &&& m : Nat) : Int) ∧ IntKind.u64.wrap (((x &&& m : Nat) : Int) * 2 ^ k) = ((((x &&& m) <<< k) % 18446744073709551616 : Nat) : Int) ∧
      bits .or .u64 ((((x >>> k) &&& m : Nat)) : Int) ((((x &&& m) <<< k) % 18446744073709551616 : Nat) : Int) = (swp k m x : Int) := by
  have e1 : (x : Int) / 2 ^ k = ((x >>> k : Nat) : Int) := by rw [Nat.shiftRight_eq_div_pow, Int.natCast_ediv, Int.natCast_pow]; rfl
  have h1 : x >>> k < 18446744073709551616 := by rw [Nat.shiftRight_eq_div_pow]; exact Nat.lt_of_le_of_lt (Nat.div_le_self _ _) hx
  refine ⟨?_, ?_, ?_, ?_⟩
  · rw [e1]; exact bits_and_u64_nat _ _ h1 hm
  · exact bits_and_u64_nat _ _ hx hm
  · have e2 : (((x &&& m : Nat) : Int) * 2 ^ k) = (((x &&& m) <<< k : Nat) : Int) := by rw [Nat.shiftLeft_eq, Int.natCast_mul, Int.natCast_pow]; rfl
    rw [e2, IntKind.wrap_u64]; omega
  · exact bits_or_u64_nat _ _ (Nat.lt_of_le_of_lt Nat.and_le_right hm) (Nat.mod_lt _ (by decide))
set_option maxRecDepth 100000 in
theorem rby_c (w : World) (x : Nat) (hx : x < 18446744073709551616) : Calls Tryd.prog 101 #[.int .u64 x] w fun e w' => e = .returned (.int .u64 (rby x : Nat)) ∧ w' = w := by
  obtain ⟨a1, a2, a3, a4⟩ := swp_int 8 71777214294589695 x hx (by decide)
  have hy : swp 8 71777214294589695 x < 18446744073709551616 := swp_lt (by decide)
  obtain ⟨Ax, eAx⟩ : ∃ A, A = (x >>> 8) &&& 71777214294589695 := ⟨_, rfl⟩
  obtain ⟨Bx, eBx⟩ : ∃ A, A = x &&& 71777214294589695 := ⟨_, rfl⟩
  rw [← eBx] at a2 a3 a4
  obtain ⟨Cx, eCx⟩ : ∃ A, A = (Bx <<< 8) % 18446744073709551616 := ⟨_, rfl⟩
  obtain ⟨y, ey⟩ : ∃ A, A = swp 8 71777214294589695 x := ⟨_, rfl⟩
  rw [← eAx] at a1 a4
  rw [← eCx] at a3 a4
  rw [← ey] at a4 hy
  have fx1 : bits .and .u64 ((x : Int) / 2 ^ 8) 71777214294589695 = (Ax : Int) := a1
  have fx2 : bits .and .u64 ((x : Int) / 256) 71777214294589695 = (Ax : Int) := a1
  have fx3 : bits .and .u64 (x : Int) 71777214294589695 = (Bx : Int) := a2
  have fx4 : IntKind.u64.wrap ((Bx : Int) * 2 ^ 8) = (Cx : Int) := a3
  have fx5 : IntKind.u64.wrap ((Bx : Int) * 256) = (Cx : Int) := a3
  have fx6 : bits .or .u64 (Ax : Int) (Cx : Int) = (y : Int) := a4
  clear a1 a2 a3 a4 eAx eBx eCx
  obtain ⟨a1, a2, a3, a4⟩ := swp_int 16 281470681808895 y hy (by decide)
  have hz : swp 16 281470681808895 y < 18446744073709551616 := swp_lt (by decide)
  obtain ⟨Ay, eAy⟩ : ∃ A, A = (y >>> 16) &&& 281470681808895 := ⟨_, rfl⟩
  obtain ⟨By, eBy⟩ : ∃ A, A = y &&& 281470681808895 := ⟨_, rfl⟩
  rw [← eBy] at a2 a3 a4
  obtain ⟨Cy, eCy⟩ : ∃ A, A = (By <<< 16) % 18446744073709551616 := ⟨_, rfl⟩
  obtain ⟨z, ez⟩ : ∃ A, A = swp 16 281470681808895 y := ⟨_, rfl⟩
  rw [← eAy] at a1 a4
  rw [← eCy] at a3 a4
  rw [← ez] at a4 hz
  have fy1 : bits .and .u64 ((y : Int) / 2 ^ 16) 281470681808895 = (Ay : Int) := a1
  have fy2 : bits .and .u64 ((y : Int) / 65536) 281470681808895 = (Ay : Int) := a1
  have fy3 : bits .and .u64 (y : Int) 281470681808895 = (By : Int) := a2
  have fy4 : IntKind.u64.wrap ((By : Int) * 2 ^ 16) = (Cy : Int) := a3
  have fy5 : IntKind.u64.wrap ((By : Int) * 65536) = (Cy : Int) := a3
  have fy6 : bits .or .u64 (Ay : Int) (Cy : Int) = (z : Int) := a4
  clear a1 a2 a3 a4 eAy eBy eCy
  have er : rby x = (z >>> 32) ||| ((z <<< 32) % 18446744073709551616) := by rw [ez, ey]; rfl
  rw [er]
  obtain ⟨A, eA⟩ : ∃ A, A = z >>> 32 := ⟨_, rfl⟩
  obtain ⟨C, eC⟩ : ∃ A, A = (z <<< 32) % 18446744073709551616 := ⟨_, rfl⟩
  rw [← eA, ← eC]
  have g1 : (z : Int) / 4294967296 = (A : Int) := by rw [eA, Nat.shiftRight_eq_div_pow]; omega
  have g1' : (z : Int) / 2 ^ 32 = (A : Int) := g1
  have g2 : IntKind.u64.wrap ((z : Int) * 4294967296) = (C : Int) := by rw [eC, Nat.shiftLeft_eq, IntKind.wrap_u64]; omega
  have g2' : IntKind.u64.wrap ((z : Int) * 2 ^ 32) = (C : Int) := g2
  have g3 : bits .or .u64 (A : Int) (C : Int) = ((A ||| C : Nat) : Int) := bits_or_u64_nat _ _ (by rw [eA, Nat.shiftRight_eq_div_pow]; exact Nat.lt_of_le_of_lt (Nat.div_le_self _ _) hz) (by rw [eC]; exact Nat.mod_lt _ (by decide))
  obtain ⟨R, eR⟩ : ∃ R, R = A ||| C := ⟨_, rfl⟩
  rw [← eR] at g3 ⊢
  clear er eA eC ey ez eR hx hy hz
  go_enter Tryd.func101, Tryd.ntmps101
  go_wp2
  go_ret
  exact ⟨rfl, rfl⟩
set_option maxRecDepth 100000 in
theorem rev64_c (w : World) (x : Nat) (hx : x < 18446744073709551616) : Calls Tryd.prog 96 #[.int .u64 x] w fun e w' => e = .returned (.int .u64 (rev64 x : Nat)) ∧ w' = w := by
  obtain ⟨a1, a2, a3, a4⟩ := swp_int 1 6148914691236517205 x hx (by decide)
  have hy : swp 1 6148914691236517205 x < 18446744073709551616 := swp_lt (by decide)
  obtain ⟨Ax, eAx⟩ : ∃ A, A = (x >>> 1) &&& 6148914691236517205 := ⟨_, rfl⟩
  obtain ⟨Bx, eBx⟩ : ∃ A, A = x &&& 6148914691236517205 := ⟨_, rfl⟩
  rw [← eBx] at a2 a3 a4
  obtain ⟨Cx, eCx⟩ : ∃ A, A = (Bx <<< 1) % 18446744073709551616 := ⟨_, rfl⟩
  obtain ⟨y, ey⟩ : ∃ A, A = swp 1 6148914691236517205 x := ⟨_, rfl⟩
  rw [← eAx] at a1 a4
  rw [← eCx] at a3 a4
  rw [← ey] at a4 hy
  have fx1 : bits .and .u64 ((x : Int) / 2 ^ 1) 6148914691236517205 = (Ax : Int) := a1
  have fx2 : bits .and .u64 ((x : Int) / 2) 6148914691236517205 = (Ax : Int) := a1
  have fx3 : bits .and .u64 (x : Int) 6148914691236517205 = (Bx : Int) := a2
  have fx4 : IntKind.u64.wrap ((Bx : Int) * 2 ^ 1) = (Cx : Int) := a3
  have fx5 : IntKind.u64.wrap ((Bx : Int) * 2) = (Cx : Int) := a3
  have fx6 : bits .or .u64 (Ax : Int) (Cx : Int) = (y : Int) := a4
  clear a1 a2 a3 a4 eAx eBx eCx
  obtain ⟨a1, a2, a3, a4⟩ := swp_int 2 3689348814741910323 y hy (by decide)
  have hz : swp 2 3689348814741910323 y < 18446744073709551616 := swp_lt (by decide)
  obtain ⟨Ay, eAy⟩ : ∃ A, A = (y >>> 2) &&& 3689348814741910323 := ⟨_, rfl⟩
  obtain ⟨By, eBy⟩ : ∃ A, A = y &&& 3689348814741910323 := ⟨_, rfl⟩
  rw [← eBy] at a2 a3 a4
  obtain ⟨Cy, eCy⟩ : ∃ A, A = (By <<< 2) % 18446744073709551616 := ⟨_, rfl⟩
  obtain ⟨z, ez⟩ : ∃ A, A = swp 2 3689348814741910323 y := ⟨_, rfl⟩
  rw [← eAy] at a1 a4
  rw [← eCy] at a3 a4
  rw [← ez] at a4 hz
  have fy1 : bits .and .u64 ((y : Int) / 2 ^ 2) 3689348814741910323 = (Ay : Int) := a1
  have fy2 : bits .and .u64 ((y : Int) / 4) 3689348814741910323 = (Ay : Int) := a1
  have fy3 : bits .and .u64 (y : Int) 3689348814741910323 = (By : Int) := a2
  have fy4 : IntKind.u64.wrap ((By : Int) * 2 ^ 2) = (Cy : Int) := a3
  have fy5 : IntKind.u64.wrap ((By : Int) * 4) = (Cy : Int) := a3
  have fy6 : bits .or .u64 (Ay : Int) (Cy : Int) = (z : Int) := a4
  clear a1 a2 a3 a4 eAy eBy eCy
  obtain ⟨a1, a2, a3, a4⟩ := swp_int 4 1085102592571150095 z hz (by decide)
  have hv : swp 4 1085102592571150095 z < 18446744073709551616 := swp_lt (by decide)
  obtain ⟨Az, eAz⟩ : ∃ A, A = (z >>> 4) &&& 1085102592571150095 := ⟨_, rfl⟩
  obtain ⟨Bz, eBz⟩ : ∃ A, A = z &&& 1085102592571150095 := ⟨_, rfl⟩
  rw [← eBz] at a2 a3 a4
  obtain ⟨Cz, eCz⟩ : ∃ A, A = (Bz <<< 4) % 18446744073709551616 := ⟨_, rfl⟩
  obtain ⟨v, ev⟩ : ∃ A, A = swp 4 1085102592571150095 z := ⟨_, rfl⟩
  rw [← eAz] at a1 a4
  rw [← eCz] at a3 a4
  rw [← ev] at a4 hv
  have fz1 : bits .and .u64 ((z : Int) / 2 ^ 4) 1085102592571150095 = (Az : Int) := a1
  have fz2 : bits .and .u64 ((z : Int) / 16) 1085102592571150095 = (Az : Int) := a1
  have fz3 : bits .and .u64 (z : Int) 1085102592571150095 = (Bz : Int) := a2
  have fz4 : IntKind.u64.wrap ((Bz : Int) * 2 ^ 4) = (Cz : Int) := a3
  have fz5 : IntKind.u64.wrap ((Bz : Int) * 16) = (Cz : Int) := a3
  have fz6 : bits .or .u64 (Az : Int) (Cz : Int) = (v : Int) := a4
  clear a1 a2 a3 a4 eAz eBz eCz
  have er : rev64 x = rby v := by rw [ev, ez, ey]; rfl
  have T := rby_c w v hv
  rw [er]
  have HT := Lib.hid T
  clear er ey ez ev hx hy hz hv T
  go_enter Tryd.func96, Tryd.ntmps96
  go_wp2_with fail
  refine (HT.out).mono ?_
  rintro e w' ⟨rfl, rfl⟩
  go_wp2
  go_ret
  exact ⟨rfl, rfl⟩
end Go.Proofs.YtoiclkaecgpbbaaDoor
