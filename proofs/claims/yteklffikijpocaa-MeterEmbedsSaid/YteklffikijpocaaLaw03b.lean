/- Chapter 3: embedded meters. -/
import Derived.Test.YteklffikijpocaaLaw03
namespace Go.Proofs.Yteklffikijpocaa
open Go.RowKit

theorem MeterEmbeds_walk (v : Value) (n : Nat) (f : Nat → Int) (w : World) (hv : Cells w v n 1 (fun j => .int .i64 (f j))) :
    Calls Try.prog 4 #[v] w fun e w' => e = .returned (.bool true) ∧ w.grownBy w' none := by
  obtain ⟨A, c, rfl, hnc, hc, hcell⟩ := hv
  have hn : n ≤ 9223372036854775807 := by omega
  go_enter Try.func4, Try.ntmps4
  go_wp2
  go_loopw [5, 6] (fun v5 v6 wr => ∃ i : Nat, ∃ s : Int, v5 = .int .i64 s ∧ v6 = .int .i64 i ∧ i ≤ n ∧ i ≤ 100 ∧ s ≤ 1000 * i ∧ Mt wr w.heap.size s i i ∧ Mt wr (w.heap.size + 1) 0 0 0 ∧ w.grownBy wr none) (fun _ v6 _ => (100 - intOf v6).toNat)
  case atStart => 
    refine ⟨0, 0, rfl, rfl, by omega, by omega, by omega, ?_, ?_, gb_alloc (gb_alloc (gb_refl w none) _) _⟩
    · exact (mt_new _ _ _ rfl rfl rfl).grown (gb_alloc (gb_refl _ none) _)
    · have := mt_new (w.alloc (.cells #[.int .i64 0, .int .i64 0, .int .i64 0, .string ⟨#[97]⟩] 31)) #[.int .i64 0, .int .i64 0, .int .i64 0, .string ⟨#[98]⟩] 31 rfl rfl rfl
      simpa using this
  case round =>
    obtain ⟨i, s, rfl, rfl, hin, hi1, hs, Ma, Mb, G⟩ := hrel
    have hs0 := Ma.a0
    by_cases hlt : i < n
    · by_cases h100 : i < 100
      · obtain ⟨b, o, rfl, hc⟩ := hcell (by omega)
        have hci := gb_cell0 G (hc i (by omega))
        have k0 := Int.emod_nonneg (f i) (show (1000 : Int) ≠ 0 by decide)
        have k1 := Int.emod_lt_of_pos (f i) (show (0 : Int) < 1000 by decide)
        clear hc hcell
        go_wp2_with fail
        refine (within_c _ 1000 (by decide) (by decide) _).mono ?_
        rintro e w' ⟨rfl, rfl⟩
        generalize f i % 1000 = d at *
        go_wp2_with fail
        refine (spend_c _ _ _ _ _ _ Ma (by omega) (by omega)).mono ?_
        rintro e w1 ⟨rfl, m1, o1⟩
        have e1 : (if d > 0 then s + d else s) = s + d := by split <;> omega
        rw [e1] at m1 ⊢
        have n1 := Mb.other o1 (by omega)
        have g1 := mo_new G o1 (Nat.le_refl _)
        clear Ma Mb G o1 hci
        go_wp2_with fail
        refine (enter_c _ _ _ _ _ m1 (by omega)).mono ?_
        rintro e w2 ⟨rfl, m2, o2⟩
        rw [if_pos (by omega)] at m2
        have n2 := n1.other o2 (by omega)
        have g2 := mo_new g1 o2 (Nat.le_refl _)
        clear m1 n1 g1 o2
        go_wp2_with fail
        refine (leave_c _ _ _ _ _ n2 (by decide)).mono ?_
        rintro e w3 ⟨rfl, n3, o3⟩
        have n3 : Mt w3 (w.heap.size + 1) 0 0 0 := n3
        have m3 := m2.other o3 (by omega)
        have g3 := mo_new g2 o3 (by omega)
        clear m2 n2 g2 o3
        go_wp2
        go_roundw
        case rel => exact ⟨i + 1, s + d, rfl, by go_num, by omega, by omega, by omega, by simpa using m3, n3, g3⟩
        case measure => simp [intOf]; omega
      · obtain rfl : i = 100 := by omega
        have hn100 : (100 : Int) < (n : Int) := by omega
        clear hcell h100 hlt hin hi1
        go_wp2_with fail
        refine (muls_c _ _ _ _ _ Ma).mono ?_
        rintro e w' ⟨rfl, rfl⟩
        go_wp2_with fail
        refine (muls_c _ _ _ _ _ Mb).mono ?_
        rintro e w' ⟨rfl, rfl⟩
        go_wp2_with fail
        refine (muls_c _ _ _ _ _ Ma).mono ?_
        rintro e w' ⟨rfl, rfl⟩
        go_wp2_with fail
        refine (deep_c _ _ _ _ _ Ma).mono ?_
        rintro e w' ⟨rfl, rfl⟩
        go_wp2_with fail
        refine (deep_c _ _ _ _ _ Mb).mono ?_
        rintro e w' ⟨rfl, rfl⟩
        go_wp2_with fail
        refine (wakes03_c _).mono ?_
        rintro e w3 ⟨rfl, g3⟩
        go_wp2
        go_ret
        exact ⟨rfl, gb_trans G g3⟩
    · obtain rfl : i = n := by omega
      have hn100 : (i : Int) ≤ 100 := by omega
      clear hcell hlt hin hi1
      go_wp2_with fail
      refine (muls_c _ _ _ _ _ Ma).mono ?_
      rintro e w' ⟨rfl, rfl⟩
      go_wp2_with fail
      refine (muls_c _ _ _ _ _ Mb).mono ?_
      rintro e w' ⟨rfl, rfl⟩
      go_wp2_with fail
      refine (muls_c _ _ _ _ _ Ma).mono ?_
      rintro e w' ⟨rfl, rfl⟩
      go_wp2_with fail
      refine (deep_c _ _ _ _ _ Ma).mono ?_
      rintro e w' ⟨rfl, rfl⟩
      go_wp2_with fail
      refine (deep_c _ _ _ _ _ Mb).mono ?_
      rintro e w' ⟨rfl, rfl⟩
      go_wp2_with fail
      refine (wakes03_c _).mono ?_
      rintro e w3 ⟨rfl, g3⟩
      go_wp2
      go_ret
      exact ⟨rfl, gb_trans G g3⟩
end Go.Proofs.Yteklffikijpocaa
