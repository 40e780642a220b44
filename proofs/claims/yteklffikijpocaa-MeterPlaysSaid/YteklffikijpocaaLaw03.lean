/- Chapter 3: the walks of the laws. -/
import Derived.Test.YteklffikijpocaaMeter
namespace Go.Proofs.Yteklffikijpocaa
open Go.RowKit

theorem mt_block {w : World} {g : Nat} {cs : Array Value} {t : TypeId} {a b c : Int} (h : w.heap[g]? = some (.cells cs t (0, 0))) (h0 : cs[0]? = some (.int .i64 a)) (h1 : cs[1]? = some (.int .i64 b)) (h2 : cs[2]? = some (.int .i64 c))
    (a0 : 0 ≤ a) (b0 : 0 ≤ b) (c0 : 0 ≤ c) : Mt w g a b c := by
  have hc : ∀ j v, cs[j]? = some v → w.cell? ⟨g, j, none⟩ = some v := fun j v hv => by
    unfold World.cell?
    rw [h]; exact hv
  have hf : ∀ j, w.frozen? ⟨g, j, none⟩ = false := fun j => by
    unfold World.frozen?
    rw [h]; simp
  exact ⟨hc 0 _ h0, hc 1 _ h1, hc 2 _ h2, hf 0, hf 1, hf 2, a0, b0, c0⟩
theorem mt_new (w : World) (cs : Array Value) (t : TypeId) (h0 : cs[0]? = some (.int .i64 0)) (h1 : cs[1]? = some (.int .i64 0)) (h2 : cs[2]? = some (.int .i64 0)) : Mt (w.alloc (.cells cs t)) w.heap.size 0 0 0 :=
  mt_block (heap_alloc_new w _) h0 h1 h2 (by decide) (by decide) (by decide)
theorem mo_new {w w1 w2 : World} {g : Nat} (h : w.grownBy w1 none) (k : MtOnly w1 w2 g) (hg : w.heap.size ≤ g) : w.grownBy w2 none :=
  gb_new h k.gb (fun i hi => by cases hi; exact hg)

theorem wakes03_c (w : World) : Calls Try.prog 20 #[] w fun e w' => e = .returned (.bool true) ∧ w.grownBy w' none := by
  go_enter Try.func20, Try.ntmps20
  go_wp2_with fail
  refine (enter_c _ _ 0 0 0 (mt_new _ _ _ rfl rfl rfl) (by decide)).mono ?_
  rintro e w1 ⟨rfl, m1, o1⟩
  have m1 : Mt w1 w.heap.size 0 1 1 := m1
  have g1 := mo_new (gb_alloc (gb_refl w none) _) o1 (Nat.le_refl _)
  clear o1
  go_wp2_with fail
  refine (enter_c _ _ 0 1 1 m1 (by decide)).mono ?_
  rintro e w2 ⟨rfl, m2, o2⟩
  have m2 : Mt w2 w.heap.size 0 2 2 := m2
  have g2 := mo_new g1 o2 (Nat.le_refl _)
  clear o2 g1 m1
  go_wp2_with fail
  refine (leave_c _ _ 0 2 2 m2 (by decide)).mono ?_
  rintro e w3 ⟨rfl, m3, o3⟩
  have m3 : Mt w3 w.heap.size 0 1 2 := m3
  have g3 := mo_new g2 o3 (Nat.le_refl _)
  clear o3 g2 m2
  go_wp2_with fail
  refine (now_c _ _ 0 1 2 m3).mono ?_
  rintro e w' ⟨rfl, rfl⟩
  go_wp2_with fail
  refine (deep_c _ _ 0 1 2 m3).mono ?_
  rintro e w' ⟨rfl, rfl⟩
  go_wp2_with fail
  refine (spend_c _ _ 0 1 2 3 m3 (by decide) (by decide)).mono ?_
  rintro e w4 ⟨rfl, m4, o4⟩
  have g4 := mo_new g3 o4 (Nat.le_refl _)
  go_wp2
  go_ret
  exact ⟨rfl, g4⟩
theorem mx_step (i d : Int) : (if i + 1 > (if i > d then i else d) then i + 1 else (if i > d then i else d)) = if i + 1 > d then i + 1 else d := by
  by_cases h : i > d
  · rw [if_pos h, if_pos (by omega), if_pos (by omega)]
  · rw [if_neg h]
/-- n rounds of Enter: the level, and the greatest one. -/
theorem MeterDeep_walk (n0 k0 : Int) (w : World) (_h0 : -9223372036854775808 ≤ n0 ∧ n0 ≤ 9223372036854775807) (_h1 : -9223372036854775808 ≤ k0 ∧ k0 ≤ 9223372036854775807) : Calls Try.prog 3 #[.int .i64 n0, .int .i64 k0] w fun e w' => e = .returned (.bool true) ∧ w.grownBy w' none := by
  have hn0 := Int.emod_nonneg n0 (show (40 : Int) ≠ 0 by decide)
  have hn1 := Int.emod_lt_of_pos n0 (show (0 : Int) < 40 by decide)
  have hk0 := Int.emod_nonneg k0 (show (6 : Int) ≠ 0 by decide)
  have hk1 := Int.emod_lt_of_pos k0 (show (0 : Int) < 6 by decide)
  go_enter Try.func3, Try.ntmps3
  go_wp2_with fail
  refine (within_c n0 40 (by decide) (by decide) _).mono ?_
  rintro e w' ⟨rfl, rfl⟩
  go_wp2_with fail
  refine (within_c k0 6 (by decide) (by decide) _).mono ?_
  rintro e w' ⟨rfl, rfl⟩
  generalize n0 % 40 = n at *
  generalize k0 % 6 = k at *
  go_wp2
  go_loopw [6] (fun v6 wr => ∃ j : Int, v6 = .int .i64 j ∧ 0 ≤ j ∧ j ≤ k + 1 ∧ Mt wr w.heap.size 0 0 (if j = 0 then 0 else n) ∧ w.grownBy wr none) (fun v6 _ => (k + 1 - intOf v6).toNat)
  case atStart => exact ⟨0, rfl, by omega, by omega, mt_new _ _ _ rfl rfl rfl, gb_alloc (gb_refl w none) _⟩
  case round =>
    obtain ⟨j, rfl, hj0, hj1, M, G⟩ := hrel
    by_cases hjk : j ≤ k
    · go_wp2
      obtain ⟨d, hd, hd0, hdn⟩ : ∃ d, d = (if j = 0 then 0 else n) ∧ 0 ≤ d ∧ d ≤ n := ⟨_, rfl, by split <;> omega, by split <;> omega⟩
      rw [← hd] at M
      clear hd
      obtain ⟨wo, rfl⟩ : ∃ wo : World, wo = wr := ⟨_, rfl⟩
      go_loopw [7] (fun v7 wr => ∃ i : Int, v7 = .int .i64 i ∧ 0 ≤ i ∧ i ≤ n ∧ Mt wr w.heap.size 0 i (if i > d then i else d) ∧ w.grownBy wr none) (fun v7 _ => (n - intOf v7).toNat)
      case atStart => exact ⟨0, rfl, by omega, by omega, by rw [if_neg (by omega)]; exact M, G⟩
      case round =>
        clear M G
        obtain ⟨i, rfl, hi0, hi1, M, G⟩ := hrel
        by_cases hin : i < n
        · go_wp2_with fail
          refine (enter_c _ _ _ _ _ M (by omega)).mono ?_
          rintro e w1 ⟨rfl, m1, o1⟩
          have g1 := mo_new G o1 (Nat.le_refl _)
          clear M G o1
          go_wp2
          go_roundw
          case rel => exact ⟨i + 1, rfl, by omega, by omega, by
            rw [mx_step] at m1; exact m1, g1⟩
          case measure => simp [intOf]; omega
        · obtain rfl : i = n := by omega
          have M' : Mt wr w.heap.size 0 i i := by
            have e : (if i > d then i else d) = i := by split <;> omega
            rw [e] at M; exact M
          clear M
          have hin' : decide (i < i) = false := by simp
          go_wp2
          obtain ⟨wp, rfl⟩ : ∃ wp : World, wp = wr := ⟨_, rfl⟩
          go_loopw [8] (fun v8 wr => ∃ m : Int, v8 = .int .i64 m ∧ 0 ≤ m ∧ m ≤ i ∧ Mt wr w.heap.size 0 (i - m) i ∧ w.grownBy wr none) (fun v8 _ => (i - intOf v8).toNat)
          case atStart => exact ⟨0, rfl, by omega, by omega, by rw [Int.sub_zero]; exact M', G⟩
          case round =>
            clear M' G
            obtain ⟨m, rfl, hm0, hm1, M, G⟩ := hrel
            by_cases hmn : m < i
            · go_wp2_with fail
              refine (leave_c _ _ _ _ _ M (by omega)).mono ?_
              rintro e w1 ⟨rfl, m1, o1⟩
              have g1 := mo_new G o1 (Nat.le_refl _)
              clear M G o1
              rw [if_pos (by omega)] at m1
              go_wp2
              go_roundw
              case rel => exact ⟨m + 1, rfl, by omega, by omega, by rw [show i - (m + 1) = i - m - 1 by omega]; exact m1, g1⟩
              case measure => simp [intOf]; omega
            · obtain rfl : m = i := by omega
              rw [Int.sub_self] at M
              go_wp2
              go_roundw
              case rel => exact ⟨j + 1, rfl, by omega, by omega, by rw [if_neg (by omega)]; exact M, G⟩
              case measure => simp [intOf]; omega
    · obtain rfl : j = k + 1 := by omega
      rw [if_neg (by omega)] at M
      clear hj0 hj1 hjk
      go_wp2_with fail
      refine (deep_c _ _ _ _ _ M).mono ?_
      rintro e w' ⟨rfl, rfl⟩
      go_wp2_with fail
      refine (now_c _ _ _ _ _ M).mono ?_
      rintro e w' ⟨rfl, rfl⟩
      go_wp2_with fail
      refine (leave_c _ _ _ _ _ M (by decide)).mono ?_
      rintro e w1 ⟨rfl, m1, o1⟩
      have m1 : Mt w1 w.heap.size 0 0 n := m1
      have g1 := mo_new G o1 (Nat.le_refl _)
      clear M G o1
      go_wp2_with fail
      refine (enter_c _ _ _ _ _ m1 (by decide)).mono ?_
      rintro e w2 ⟨rfl, m2, o2⟩
      have m2 : Mt w2 w.heap.size 0 1 (if 1 > n then 1 else n) := m2
      have g2 := mo_new g1 o2 (Nat.le_refl _)
      clear m1 g1 o2
      by_cases hn : 1 > n
      · rw [if_pos hn] at m2
        go_wp2_with fail
        refine (deep_c _ _ _ _ _ m2).mono ?_
        rintro e w' ⟨rfl, rfl⟩
        go_wp2_with fail
        refine (wakes03_c _).mono ?_
        rintro e w3 ⟨rfl, g3⟩
        go_wp2
        go_ret
        exact ⟨rfl, gb_trans g2 g3⟩
      · rw [if_neg hn] at m2
        have hn' : 1 ≤ n := by omega
        clear hn
        go_wp2_with fail
        refine (deep_c _ _ _ _ _ m2).mono ?_
        rintro e w' ⟨rfl, rfl⟩
        go_wp2_with fail
        refine (wakes03_c _).mono ?_
        rintro e w3 ⟨rfl, g3⟩
        go_wp2
        go_ret
        exact ⟨rfl, gb_trans g2 g3⟩
end Go.Proofs.Yteklffikijpocaa
