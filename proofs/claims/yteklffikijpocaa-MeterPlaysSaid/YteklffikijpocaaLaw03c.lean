/- Chapter 3: whatever is played. -/
import Derived.Test.YteklffikijpocaaLaw03
namespace Go.Proofs.Yteklffikijpocaa
open Go.RowKit

def Cap (a : Int) (i : Nat) : Prop := a ≤ 1073741824 * i
theorem Cap.le {a : Int} {i : Nat} (h : Cap a i) (hi : i ≤ 300) : a ≤ 400000000000 := by unfold Cap at h; omega
theorem Cap.step {a x : Int} {i : Nat} (h : Cap a i) (hx : x ≤ 1073741824) : Cap (a + x) (i + 1) := by unfold Cap at *; omega
theorem Cap.same {a : Int} {i : Nat} (h : Cap a i) : Cap a (i + 1) := by unfold Cap at *; omega
set_option maxRecDepth 100000 in
set_option maxHeartbeats 4000000 in
theorem MeterPlays_walk (v : Value) (n : Nat) (fD fN : Nat → Int) (w : World) (hv : Cells w v n 2 (fun j => .int .i64 (if j % 2 = 0 then fD (j / 2) else fN (j / 2)))) :
    Calls Try.prog 5 #[v] w fun e w' => e = .returned (.bool true) ∧ w.grownBy w' none := by
  obtain ⟨A, c, rfl, hnc, hc, hcell⟩ := hv
  have hn : n ≤ 9223372036854775807 := by omega
  go_enter Try.func5, Try.ntmps5
  go_wp2
  go_loopw [4, 5, 6, 7] (fun v4 v5 v6 v7 wr => ∃ (i : Nat) (a b c : Int), v4 = .int .i64 a ∧ v5 = .int .i64 b ∧ v6 = .int .i64 c ∧ v7 = .int .i64 i ∧ i ≤ n ∧ i ≤ 300 ∧ Cap a i ∧ b ≤ i ∧ c ≤ i ∧ Mt wr w.heap.size a b c ∧ w.grownBy wr none) (fun _ _ _ v7 _ => (300 - intOf v7).toNat)
  case atStart => exact ⟨0, 0, 0, 0, rfl, rfl, rfl, rfl, by omega, by omega, by unfold Cap; omega, by omega, by omega, mt_new _ _ _ rfl rfl rfl, gb_alloc (gb_refl w none) _⟩
  case round =>
    obtain ⟨i, a, b, c, rfl, rfl, rfl, rfl, hin, hi1, ha, hb, hcc, M, G⟩ := hrel
    have ha0 := M.a0
    have hale := ha.le hi1
    have HA := Lib.hid ha
    clear ha
    have hb0 := M.b0
    have hcc0 := M.c0'
    by_cases hlt : i < n
    · by_cases h300 : i < 300
      · obtain ⟨bl, o, rfl, hc⟩ := hcell (by omega)
        have hc0 : wr.cell? ⟨bl, o + i * 2, none⟩ = some (.int .i64 (fD i)) := by
          have := gb_cell0 G (hc (i * 2) (by omega))
          rw [if_pos (by omega), show i * 2 / 2 = i by omega] at this; exact this
        have hc1 : wr.cell? ⟨bl, o + i * 2 + 1, none⟩ = some (.int .i64 (fN i)) := by
          have := gb_cell0 G (hc (i * 2 + 1) (by omega))
          rw [if_neg (by omega), show (i * 2 + 1) / 2 = i by omega] at this; exact this
        have k0 := Int.emod_nonneg (fD i) (show (6 : Int) ≠ 0 by decide)
        have k1 := Int.emod_lt_of_pos (fD i) (show (0 : Int) < 6 by decide)
        clear hc hcell
        obtain ⟨dD, hdD⟩ : ∃ d, d = fD i := ⟨_, rfl⟩
        obtain ⟨fN, hdN⟩ : ∃ d, d = fN i := ⟨_, rfl⟩
        rw [← hdD] at hc0 k0 k1
        rw [← hdN] at hc1
        clear hdD hdN
        go_wp2_with fail
        refine (within_c _ 6 (by decide) (by decide) _).mono ?_
        rintro e w' ⟨rfl, rfl⟩
        generalize dD % 6 = d at *
        rcases (show d = 0 ∨ d = 1 ∨ d = 2 ∨ d = 3 ∨ d = 4 ∨ d = 5 by omega) with rfl | rfl | rfl | rfl | rfl | rfl
        · by_cases hN1 : 1073741824 < fN
          · go_wp2_with fail
            refine (spend_c _ _ _ _ _ 1073741824 M (by omega) (by omega)).mono ?_
            rintro e w1 ⟨rfl, m1, o1⟩
            have e1 : (if (1073741824 : Int) > 0 then a + 1073741824 else a) = (a + 1073741824) := by split <;> omega
            rw [e1] at m1 ⊢
            have g1 := mo_new G o1 (Nat.le_refl _)
            clear M G o1 hc0 hc1
            go_wp2_with fail
            refine (muls_c _ _ _ _ _ m1).mono ?_
            rintro e w' ⟨rfl, rfl⟩
            go_wp2_with fail
            refine (now_c _ _ _ _ _ m1).mono ?_
            rintro e w' ⟨rfl, rfl⟩
            go_wp2_with fail
            refine (deep_c _ _ _ _ _ m1).mono ?_
            rintro e w' ⟨rfl, rfl⟩
            go_wp2
            go_roundw
            case rel => exact ⟨i + 1, _, _, _, rfl, rfl, rfl, by go_num, by omega, by omega, by first | exact HA.out.step (by omega) | exact HA.out.same | (unfold Cap; omega), by omega, by omega, m1, g1⟩
            case measure => simp [intOf]; omega
          · by_cases hN0 : 0 < fN
            · have hN1' : fN ≤ 1073741824 := by omega
              clear hN1
              go_wp2_with fail
              refine (spend_c _ _ _ _ _ fN M (by omega) (by omega)).mono ?_
              rintro e w1 ⟨rfl, m1, o1⟩
              have e1 : (if fN > 0 then a + fN else a) = (a + fN) := by split <;> omega
              rw [e1] at m1 ⊢
              have g1 := mo_new G o1 (Nat.le_refl _)
              clear M G o1 hc0 hc1
              go_wp2_with fail
              refine (muls_c _ _ _ _ _ m1).mono ?_
              rintro e w' ⟨rfl, rfl⟩
              go_wp2_with fail
              refine (now_c _ _ _ _ _ m1).mono ?_
              rintro e w' ⟨rfl, rfl⟩
              go_wp2_with fail
              refine (deep_c _ _ _ _ _ m1).mono ?_
              rintro e w' ⟨rfl, rfl⟩
              go_wp2
              go_roundw
              case rel => exact ⟨i + 1, _, _, _, rfl, rfl, rfl, by go_num, by omega, by omega, by first | exact HA.out.step (by omega) | exact HA.out.same | (unfold Cap; omega), by omega, by omega, m1, g1⟩
              case measure => simp [intOf]; omega
            · by_cases hNz : fN = 0
              · subst hNz
                clear hN0 hN1
                go_wp2_with fail
                refine (spend_c _ _ _ _ _ (0 : Int) M (by omega) (by omega)).mono ?_
                rintro e w1 ⟨rfl, m1, o1⟩
                have e1 : (if (0 : Int) > 0 then a + (0 : Int) else a) = a := by split <;> omega
                rw [e1] at m1 ⊢
                have g1 := mo_new G o1 (Nat.le_refl _)
                clear M G o1 hc0 hc1
                go_wp2_with fail
                refine (muls_c _ _ _ _ _ m1).mono ?_
                rintro e w' ⟨rfl, rfl⟩
                go_wp2_with fail
                refine (now_c _ _ _ _ _ m1).mono ?_
                rintro e w' ⟨rfl, rfl⟩
                go_wp2_with fail
                refine (deep_c _ _ _ _ _ m1).mono ?_
                rintro e w' ⟨rfl, rfl⟩
                go_wp2
                go_roundw
                case rel => exact ⟨i + 1, _, _, _, rfl, rfl, rfl, by go_num, by omega, by omega, by first | exact HA.out.step (by omega) | exact HA.out.same | (unfold Cap; omega), by omega, by omega, m1, g1⟩
                case measure => simp [intOf]; omega
              · have hN0' : fN < 0 := by omega
                clear hN0 hN1 hNz
                go_wp2_with fail
                refine (spend_c _ _ _ _ _ fN M (by omega) (by omega)).mono ?_
                rintro e w1 ⟨rfl, m1, o1⟩
                have e1 : (if fN > 0 then a + fN else a) = a := by split <;> omega
                rw [e1] at m1 ⊢
                have g1 := mo_new G o1 (Nat.le_refl _)
                clear M G o1 hc0 hc1
                go_wp2_with fail
                refine (muls_c _ _ _ _ _ m1).mono ?_
                rintro e w' ⟨rfl, rfl⟩
                go_wp2_with fail
                refine (now_c _ _ _ _ _ m1).mono ?_
                rintro e w' ⟨rfl, rfl⟩
                go_wp2_with fail
                refine (deep_c _ _ _ _ _ m1).mono ?_
                rintro e w' ⟨rfl, rfl⟩
                go_wp2
                go_roundw
                case rel => exact ⟨i + 1, _, _, _, rfl, rfl, rfl, by go_num, by omega, by omega, by first | exact HA.out.step (by omega) | exact HA.out.same | (unfold Cap; omega), by omega, by omega, m1, g1⟩
                case measure => simp [intOf]; omega
        · by_cases hN1 : 1073741824 < fN
          · go_wp2_with fail
            refine (spend_c _ _ _ _ _ 1073741824 M (by omega) (by omega)).mono ?_
            rintro e w1 ⟨rfl, m1, o1⟩
            have e1 : (if (1073741824 : Int) > 0 then a + 1073741824 else a) = (a + 1073741824) := by split <;> omega
            rw [e1] at m1 ⊢
            have g1 := mo_new G o1 (Nat.le_refl _)
            clear M G o1 hc0 hc1
            go_wp2_with fail
            refine (muls_c _ _ _ _ _ m1).mono ?_
            rintro e w' ⟨rfl, rfl⟩
            go_wp2_with fail
            refine (now_c _ _ _ _ _ m1).mono ?_
            rintro e w' ⟨rfl, rfl⟩
            go_wp2_with fail
            refine (deep_c _ _ _ _ _ m1).mono ?_
            rintro e w' ⟨rfl, rfl⟩
            go_wp2
            go_roundw
            case rel => exact ⟨i + 1, _, _, _, rfl, rfl, rfl, by go_num, by omega, by omega, by first | exact HA.out.step (by omega) | exact HA.out.same | (unfold Cap; omega), by omega, by omega, m1, g1⟩
            case measure => simp [intOf]; omega
          · by_cases hN0 : 0 < fN
            · have hN1' : fN ≤ 1073741824 := by omega
              clear hN1
              go_wp2_with fail
              refine (spend_c _ _ _ _ _ fN M (by omega) (by omega)).mono ?_
              rintro e w1 ⟨rfl, m1, o1⟩
              have e1 : (if fN > 0 then a + fN else a) = (a + fN) := by split <;> omega
              rw [e1] at m1 ⊢
              have g1 := mo_new G o1 (Nat.le_refl _)
              clear M G o1 hc0 hc1
              go_wp2_with fail
              refine (muls_c _ _ _ _ _ m1).mono ?_
              rintro e w' ⟨rfl, rfl⟩
              go_wp2_with fail
              refine (now_c _ _ _ _ _ m1).mono ?_
              rintro e w' ⟨rfl, rfl⟩
              go_wp2_with fail
              refine (deep_c _ _ _ _ _ m1).mono ?_
              rintro e w' ⟨rfl, rfl⟩
              go_wp2
              go_roundw
              case rel => exact ⟨i + 1, _, _, _, rfl, rfl, rfl, by go_num, by omega, by omega, by first | exact HA.out.step (by omega) | exact HA.out.same | (unfold Cap; omega), by omega, by omega, m1, g1⟩
              case measure => simp [intOf]; omega
            · by_cases hNz : fN = 0
              · subst hNz
                clear hN0 hN1
                go_wp2_with fail
                refine (spend_c _ _ _ _ _ (0 : Int) M (by omega) (by omega)).mono ?_
                rintro e w1 ⟨rfl, m1, o1⟩
                have e1 : (if (0 : Int) > 0 then a + (0 : Int) else a) = a := by split <;> omega
                rw [e1] at m1 ⊢
                have g1 := mo_new G o1 (Nat.le_refl _)
                clear M G o1 hc0 hc1
                go_wp2_with fail
                refine (muls_c _ _ _ _ _ m1).mono ?_
                rintro e w' ⟨rfl, rfl⟩
                go_wp2_with fail
                refine (now_c _ _ _ _ _ m1).mono ?_
                rintro e w' ⟨rfl, rfl⟩
                go_wp2_with fail
                refine (deep_c _ _ _ _ _ m1).mono ?_
                rintro e w' ⟨rfl, rfl⟩
                go_wp2
                go_roundw
                case rel => exact ⟨i + 1, _, _, _, rfl, rfl, rfl, by go_num, by omega, by omega, by first | exact HA.out.step (by omega) | exact HA.out.same | (unfold Cap; omega), by omega, by omega, m1, g1⟩
                case measure => simp [intOf]; omega
              · have hN0' : fN < 0 := by omega
                clear hN0 hN1 hNz
                go_wp2_with fail
                refine (spend_c _ _ _ _ _ fN M (by omega) (by omega)).mono ?_
                rintro e w1 ⟨rfl, m1, o1⟩
                have e1 : (if fN > 0 then a + fN else a) = a := by split <;> omega
                rw [e1] at m1 ⊢
                have g1 := mo_new G o1 (Nat.le_refl _)
                clear M G o1 hc0 hc1
                go_wp2_with fail
                refine (muls_c _ _ _ _ _ m1).mono ?_
                rintro e w' ⟨rfl, rfl⟩
                go_wp2_with fail
                refine (now_c _ _ _ _ _ m1).mono ?_
                rintro e w' ⟨rfl, rfl⟩
                go_wp2_with fail
                refine (deep_c _ _ _ _ _ m1).mono ?_
                rintro e w' ⟨rfl, rfl⟩
                go_wp2
                go_roundw
                case rel => exact ⟨i + 1, _, _, _, rfl, rfl, rfl, by go_num, by omega, by omega, by first | exact HA.out.step (by omega) | exact HA.out.same | (unfold Cap; omega), by omega, by omega, m1, g1⟩
                case measure => simp [intOf]; omega
        · by_cases hbc : b + 1 > c
          · go_wp2_with fail
            refine (enter_c _ _ _ _ _ M (by omega)).mono ?_
            rintro e w1 ⟨rfl, m1, o1⟩
            rw [if_pos hbc] at m1
            have g1 := mo_new G o1 (Nat.le_refl _)
            clear M G o1 hc0 hc1
            go_wp2_with fail
            refine (muls_c _ _ _ _ _ m1).mono ?_
            rintro e w' ⟨rfl, rfl⟩
            go_wp2_with fail
            refine (now_c _ _ _ _ _ m1).mono ?_
            rintro e w' ⟨rfl, rfl⟩
            go_wp2_with fail
            refine (deep_c _ _ _ _ _ m1).mono ?_
            rintro e w' ⟨rfl, rfl⟩
            go_wp2
            go_roundw
            case rel => exact ⟨i + 1, _, _, _, rfl, rfl, rfl, by go_num, by omega, by omega, by first | exact HA.out.step (by omega) | exact HA.out.same | (unfold Cap; omega), by omega, by omega, m1, g1⟩
            case measure => simp [intOf]; omega
          · have hbc' : b + 1 ≤ c := by omega
            go_wp2_with fail
            refine (enter_c _ _ _ _ _ M (by omega)).mono ?_
            rintro e w1 ⟨rfl, m1, o1⟩
            rw [if_neg (by omega)] at m1
            have g1 := mo_new G o1 (Nat.le_refl _)
            clear M G o1 hc0 hc1 hbc
            go_wp2_with fail
            refine (muls_c _ _ _ _ _ m1).mono ?_
            rintro e w' ⟨rfl, rfl⟩
            go_wp2_with fail
            refine (now_c _ _ _ _ _ m1).mono ?_
            rintro e w' ⟨rfl, rfl⟩
            go_wp2_with fail
            refine (deep_c _ _ _ _ _ m1).mono ?_
            rintro e w' ⟨rfl, rfl⟩
            go_wp2
            go_roundw
            case rel => exact ⟨i + 1, _, _, _, rfl, rfl, rfl, by go_num, by omega, by omega, by first | exact HA.out.step (by omega) | exact HA.out.same | (unfold Cap; omega), by omega, by omega, m1, g1⟩
            case measure => simp [intOf]; omega
        · by_cases hbc : b + 1 > c
          · go_wp2_with fail
            refine (enter_c _ _ _ _ _ M (by omega)).mono ?_
            rintro e w1 ⟨rfl, m1, o1⟩
            rw [if_pos hbc] at m1
            have g1 := mo_new G o1 (Nat.le_refl _)
            clear M G o1 hc0 hc1
            go_wp2_with fail
            refine (muls_c _ _ _ _ _ m1).mono ?_
            rintro e w' ⟨rfl, rfl⟩
            go_wp2_with fail
            refine (now_c _ _ _ _ _ m1).mono ?_
            rintro e w' ⟨rfl, rfl⟩
            go_wp2_with fail
            refine (deep_c _ _ _ _ _ m1).mono ?_
            rintro e w' ⟨rfl, rfl⟩
            go_wp2
            go_roundw
            case rel => exact ⟨i + 1, _, _, _, rfl, rfl, rfl, by go_num, by omega, by omega, by first | exact HA.out.step (by omega) | exact HA.out.same | (unfold Cap; omega), by omega, by omega, m1, g1⟩
            case measure => simp [intOf]; omega
          · have hbc' : b + 1 ≤ c := by omega
            go_wp2_with fail
            refine (enter_c _ _ _ _ _ M (by omega)).mono ?_
            rintro e w1 ⟨rfl, m1, o1⟩
            rw [if_neg (by omega)] at m1
            have g1 := mo_new G o1 (Nat.le_refl _)
            clear M G o1 hc0 hc1 hbc
            go_wp2_with fail
            refine (muls_c _ _ _ _ _ m1).mono ?_
            rintro e w' ⟨rfl, rfl⟩
            go_wp2_with fail
            refine (now_c _ _ _ _ _ m1).mono ?_
            rintro e w' ⟨rfl, rfl⟩
            go_wp2_with fail
            refine (deep_c _ _ _ _ _ m1).mono ?_
            rintro e w' ⟨rfl, rfl⟩
            go_wp2
            go_roundw
            case rel => exact ⟨i + 1, _, _, _, rfl, rfl, rfl, by go_num, by omega, by omega, by first | exact HA.out.step (by omega) | exact HA.out.same | (unfold Cap; omega), by omega, by omega, m1, g1⟩
            case measure => simp [intOf]; omega
        · by_cases hb : b > 0
          · go_wp2_with fail
            refine (leave_c _ _ _ _ _ M (by omega)).mono ?_
            rintro e w1 ⟨rfl, m1, o1⟩
            rw [if_pos hb] at m1 ⊢
            have g1 := mo_new G o1 (Nat.le_refl _)
            clear M G o1 hc0 hc1
            go_wp2_with fail
            refine (muls_c _ _ _ _ _ m1).mono ?_
            rintro e w' ⟨rfl, rfl⟩
            go_wp2_with fail
            refine (now_c _ _ _ _ _ m1).mono ?_
            rintro e w' ⟨rfl, rfl⟩
            go_wp2_with fail
            refine (deep_c _ _ _ _ _ m1).mono ?_
            rintro e w' ⟨rfl, rfl⟩
            go_wp2
            go_roundw
            case rel => exact ⟨i + 1, _, _, _, rfl, rfl, rfl, by go_num, by omega, by omega, by first | exact HA.out.step (by omega) | exact HA.out.same | (unfold Cap; omega), by omega, by omega, m1, g1⟩
            case measure => simp [intOf]; omega
          · obtain rfl : b = 0 := by omega
            go_wp2_with fail
            refine (leave_c _ _ _ _ _ M (by omega)).mono ?_
            rintro e w1 ⟨rfl, m1, o1⟩
            have m1 : Mt w1 w.heap.size a 0 c := m1
            have g1 := mo_new G o1 (Nat.le_refl _)
            clear M G o1 hc0 hc1
            go_wp2_with fail
            refine (muls_c _ _ _ _ _ m1).mono ?_
            rintro e w' ⟨rfl, rfl⟩
            go_wp2_with fail
            refine (now_c _ _ _ _ _ m1).mono ?_
            rintro e w' ⟨rfl, rfl⟩
            go_wp2_with fail
            refine (deep_c _ _ _ _ _ m1).mono ?_
            rintro e w' ⟨rfl, rfl⟩
            go_wp2
            go_roundw
            case rel => exact ⟨i + 1, _, _, _, rfl, rfl, rfl, by go_num, by omega, by omega, by first | exact HA.out.step (by omega) | exact HA.out.same | (unfold Cap; omega), by omega, by omega, m1, g1⟩
            case measure => simp [intOf]; omega
        · go_wp2_with fail
          refine (reset_c _ _ _ _ _ M).mono ?_
          rintro e w1 ⟨rfl, m1, o1⟩
          have g1 := mo_new G o1 (Nat.le_refl _)
          clear M G o1 hc0 hc1
          go_wp2_with fail
          refine (muls_c _ _ _ _ _ m1).mono ?_
          rintro e w' ⟨rfl, rfl⟩
          go_wp2_with fail
          refine (now_c _ _ _ _ _ m1).mono ?_
          rintro e w' ⟨rfl, rfl⟩
          go_wp2_with fail
          refine (deep_c _ _ _ _ _ m1).mono ?_
          rintro e w' ⟨rfl, rfl⟩
          go_wp2
          go_roundw
          case rel => exact ⟨i + 1, _, _, _, rfl, rfl, rfl, by go_num, by omega, by omega, by first | exact HA.out.step (by omega) | exact HA.out.same | (unfold Cap; omega), by omega, by omega, m1, g1⟩
          case measure => simp [intOf]; omega
      · obtain rfl : i = 300 := by omega
        clear hcell h300
        go_wp2_with fail
        refine (wakes03_c _).mono ?_
        rintro e w3 ⟨rfl, g3⟩
        go_wp2
        go_ret
        exact ⟨rfl, gb_trans G g3⟩
    · obtain rfl : i = n := by omega
      clear hcell hlt
      go_wp2_with fail
      refine (wakes03_c _).mono ?_
      rintro e w3 ⟨rfl, g3⟩
      go_wp2
      go_ret
      exact ⟨rfl, gb_trans G g3⟩
end Go.Proofs.Yteklffikijpocaa
