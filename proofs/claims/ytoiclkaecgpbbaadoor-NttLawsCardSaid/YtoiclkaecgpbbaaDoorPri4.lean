/- Primes: the document's test. -/
import Derived.Test.YtoiclkaecgpbbaaDoorPri3
import Derived.Test.YtoiclkaecgpbbaaDoorModw5
namespace Go.Proofs.YtoiclkaecgpbbaaDoor
open Go.RowKit

set_option maxRecDepth 100000 in
theorem refWit_c (w : World) (a n : Int) (d s : Nat) (a0 : 0 ≤ a) (n0 : 1 < n) (n1 : n < 18446744073709551616) (hd : d < 2 ^ 64) (hs0 : 0 < s) (hs : s ≤ 64) (hx0 : a ^ d % n ≠ 0) :
    Calls Tryd.prog 56 #[.int .u64 a, .int .u64 d, .int .i64 s, .int .u64 n] w fun e w' => e = .returned (.bool (!wit a n d s)) ∧ w.grownBy w' none := by
  obtain ⟨W, hW⟩ : ∃ W, W = wit a n d s := ⟨_, rfl⟩
  have x0 := Int.emod_nonneg (a ^ d) (show n ≠ 0 by omega)
  have x1 := Int.emod_lt_of_pos (a ^ d) (show 0 < n by omega)
  rw [← hW]
  unfold wit at hW
  have P := fun w => refPow_c w n a d (by omega) n1 a0 hd
  obtain ⟨x, hx⟩ : ∃ x, x = a ^ d % n := ⟨_, rfl⟩
  rw [← hx] at hW x0 x1 P hx0
  have HP := Lib.hid P
  have hn0 : n ≠ 0 := by omega
  clear hx P
  by_cases h2 : x = 1
  · have fin : W = false := by rw [hW, if_pos (Or.inr (Or.inl h2))]
    subst h2
    subst fin
    clear hW
    go_enter Tryd.func56, Tryd.ntmps56
    go_wp2_with fail
    refine (HP.out _).mono ?_
    rintro e w1 ⟨rfl, g1⟩
    go_wp2
    go_ret
    exact ⟨rfl, g1⟩
  · by_cases h3 : x = n - 1
    · have fin : W = false := by rw [hW, if_pos (Or.inr (Or.inr h3))]
      subst fin
      have hb2 : (x == 1) = false := by simpa using h2
      have hb3 : (x == n - 1) = true := by simpa using h3
      clear hW h2 h3
      go_enter Tryd.func56, Tryd.ntmps56
      go_wp2_with fail
      refine (HP.out _).mono ?_
      rintro e w1 ⟨rfl, g1⟩
      go_wp2
      go_ret
      exact ⟨rfl, g1⟩
    · rw [if_neg (by omega)] at hW
      have HW := Lib.hid hW
      have hb2 : (x == 1) = false := by simpa using h2
      have hb3 : (x == n - 1) = false := by simpa using h3
      clear hW
      go_enter Tryd.func56, Tryd.ntmps56
      go_wp2_with fail
      refine (HP.out _).mono ?_
      rintro e w1 ⟨rfl, g1⟩
      clear HP
      go_wp2
      clear hb2 hb3
      go_loopw [9, 10] (fun v9 v10 wr => ∃ (i : Nat) (y : Int), v9 = .int .u64 y ∧ v10 = .int .i64 i ∧ 1 ≤ i ∧ i ≤ s ∧ 0 ≤ y ∧ y < n ∧ W = mrL n (s - i) y ∧ w.grownBy wr none) (fun _ v10 _ => s - (intOf v10).toNat)
      case atStart => exact ⟨1, x, rfl, rfl, by omega, by omega, x0, x1, HW.out, g1⟩
      case round =>
        clear HW x0 x1 h2 h3 g1 hx0
        obtain ⟨i, y, rfl, rfl, hi1, hi, y0, y1, hW, G⟩ := hrel
        by_cases hit : i < s
        · obtain ⟨c, hc⟩ : ∃ c, s - i = c + 1 := ⟨s - i - 1, by omega⟩
          rw [hc, mrL] at hW
          have hc2 : c = s - (i + 1) := by omega
          have HC := Lib.hid hc2
          have z0 := Int.emod_nonneg (y * y) hn0
          have z1 := Int.emod_lt_of_pos (y * y) (show 0 < n by omega)
          have P := fun w => refMul_c w n y y (by omega) n1 y0 y0
          obtain ⟨z, hz⟩ : ∃ z, z = y * y % n := ⟨_, rfl⟩
          rw [← hz] at hW z0 z1 P
          have HP := Lib.hid P
          clear hz P hc hc2
          by_cases h3 : z = n - 1
          · rw [if_pos h3] at hW
            subst hW
            have hb3 : (z == n - 1) = true := by simpa using h3
            clear h3
            go_wp2_with fail
            refine (HP.out _).mono ?_
            rintro e w2 ⟨rfl, g2⟩
            go_wp2
            go_ret
            exact ⟨rfl, gb_trans G g2⟩
          · rw [if_neg h3] at hW
            have HW := Lib.hid hW
            have hb3 : (z == n - 1) = false := by simpa using h3
            clear h3 hW
            go_wp2_with fail
            refine (HP.out _).mono ?_
            rintro e w2 ⟨rfl, g2⟩
            go_wp2
            clear hb3
            go_roundw
            case rel => exact ⟨i + 1, z, rfl, by go_num, by omega, by omega, z0, z1, by rw [← HC.out]; exact HW.out, gb_trans G g2⟩
            case measure => simp [intOf]; omega
        · obtain rfl : i = s := by omega
          rw [Nat.sub_self, mrL] at hW
          subst hW
          go_wp2
          go_ret
          exact ⟨rfl, G⟩
theorem small_cop : ∀ p ∈ smallP, ∀ r, r < p → r ≠ 0 → Nat.gcd r p = 1 := by decide
theorem small_pow {n p d : Nat} (hp : p ∈ smallP) (hn : 1 < n) (h : n % p ≠ 0) : (p : Int) ^ d % n ≠ 0 := by
  have hp0 : 0 < p := by
    have : ∀ p ∈ smallP, 0 < p := by decide
    exact this p hp
  have hc : Nat.Coprime p n := by
    show Nat.gcd p n = 1
    rw [Nat.gcd_rec, small_cop p hp _ (Nat.mod_lt _ hp0) h]
  have hc2 : Nat.Coprime (p ^ d) n := Nat.Coprime.pow_left d hc
  intro e
  have e2 : ((p ^ d % n : Nat) : Int) = 0 := by rw [Int.natCast_emod, Int.natCast_pow]; exact e
  have e3 : p ^ d % n = 0 := by omega
  have hdv := Nat.dvd_of_mod_eq_zero e3
  have h1 : Nat.gcd (p ^ d) n = n := Nat.gcd_eq_right hdv
  have h2 : Nat.gcd (p ^ d) n = 1 := hc2
  omega
theorem tzF_succ (k m : Nat) : tzF (k + 1) m = if m % 2 = 1 then (0, m) else ((tzF k (m / 2)).1 + 1, (tzF k (m / 2)).2) := rfl
def smallL : List Value := smallP.map fun p => .int .u64 (p : Nat)
theorem smallL_at (i : Nat) (hi : i < 12) : smallL[i]? = some (.int .u64 ((smallP.getD i 1 : Nat) : Int)) := by
  unfold smallL
  rw [List.getElem?_map, List.getD_eq_getElem?_getD, List.getElem?_eq_getElem (show i < smallP.length from hi)]; rfl
theorem smallP_mem (i : Nat) (hi : i < 12) : smallP.getD i 1 ∈ smallP := by
  rw [List.getD_eq_getElem?_getD, List.getElem?_eq_getElem (show i < smallP.length from hi)]
  exact List.getElem_mem _
set_option maxRecDepth 100000 in
set_option maxHeartbeats 2000000 in
theorem refPrime_c (w : World) (n : Nat) (hn : n < 2 ^ 64) :
    Calls Tryd.prog 16 #[.int .u64 n] w fun e w' => e = .returned (.bool (isP n)) ∧ w.grownBy w' none := by
  by_cases h2 : n < 2
  · have fin : isP n = false := by unfold isP; rw [if_pos h2]
    rw [fin]
    clear fin hn
    go_enter Tryd.func16, Tryd.ntmps16
    go_wp2
    go_ret
    exact ⟨rfl, gb_alloc (gb_refl _ _) _⟩
  · have hit : ∀ i, i < 12 → (∀ j, j < i → n % smallP.getD j 1 ≠ 0) → n % smallP.getD i 1 = 0 → isP n = (n == smallP.getD i 1) := fun i hi h k => by
      unfold isP; rw [if_neg h2, divB_hit hi h k]
    have non : (∀ j, j < 12 → n % smallP.getD j 1 ≠ 0) → isP n = smallP.all fun p => !wit p n (tz (n - 1)).2 (tz (n - 1)).1 := fun h => by
      unfold isP; rw [if_neg h2, divB_none h]
    have tf : (∀ j, j < 12 → n % smallP.getD j 1 ≠ 0) → 0 < (tz (n - 1)).1 ∧ (tz (n - 1)).1 ≤ 64 ∧ (tz (n - 1)).2 < 2 ^ 64 ∧ (n - 1) / 2 ^ (tz (n - 1)).1 = (tz (n - 1)).2 := fun h =>
      tz_facts (by have := h 0 (by decide); simp [smallP] at this; omega) hn (h 0 (by decide))
    have HIT := Lib.hid hit
    have NON := Lib.hid non
    have TF := Lib.hid tf
    have HN := Lib.hid hn
    clear hit non tf hn
    have h2' : ¬ (n : Int) < 2 := by omega
    go_enter Tryd.func16, Tryd.ntmps16
    go_wp2
    go_loopw [4] (fun v4 wr => ∃ i : Nat, v4 = .int .i64 i ∧ i ≤ 12 ∧ (∀ j, j < i → n % smallP.getD j 1 ≠ 0) ∧ Cs wr w.heap.size smallL ∧ w.grownBy wr none) (fun v4 _ => 12 - (intOf v4).toNat)
    case atStart => exact ⟨0, rfl, by omega, fun j hj => by omega, cs_new _ _ _, gb_alloc (gb_refl _ _) _⟩
    case round =>
      obtain ⟨i, rfl, hi, hs, C, G⟩ := hrel
      have HS := Lib.hid hs
      clear hs
      by_cases hi12 : i < 12
      · have ci := C.cell i (smallL_at i hi12)
        obtain ⟨p1, p2⟩ := smallP_at i hi12
        have ht := HIT.out i hi12 HS.out
        have hstep : n % smallP.getD i 1 ≠ 0 → ∀ j, j < i + 1 → n % smallP.getD j 1 ≠ 0 := fun h j hj => by
          by_cases e : j = i
          · rw [e]; exact h
          · exact HS.out j (by omega)
        obtain ⟨p, hp⟩ : ∃ p, p = smallP.getD i 1 := ⟨_, rfl⟩
        rw [← hp] at ci p1 p2 ht hstep
        have HST := Lib.hid hstep
        have HT := Lib.hid ht
        clear hp hstep ht
        have em : (n : Int) % (p : Int) = ((n % p : Nat) : Int) := by rw [Int.natCast_emod]
        by_cases hz : n % p = 0
        · have ht := HT.out hz
          rw [hz] at em
          have hb : (((n : Int) == (p : Int))) = isP n := by
            rw [ht]
            by_cases e : n = p
            · rw [e]; simp
            · have : ¬ (n : Int) = (p : Int) := by omega
              rw [beq_eq_false_iff_ne.2 this, beq_eq_false_iff_ne.2 e]
          obtain ⟨b, hbb⟩ : ∃ b, b = isP n := ⟨_, rfl⟩
          rw [← hbb] at hb
          have HB := Lib.hid hbb
          clear ht hbb
          go_wp2
          go_ret
          exact ⟨by rw [← HB.out]; rfl, G⟩
        · have em0 : ¬ (n : Int) % (p : Int) = 0 := by omega
          have hb : ((n : Int) % (p : Int) == 0) = false := by simpa using em0
          have nx := HST.out hz
          have NX := Lib.hid nx
          have CC := Lib.hid C
          clear nx em C
          go_wp2
          clear hb em0
          go_roundw
          case rel => exact ⟨i + 1, by go_num, by omega, NX.out, CC.out, G⟩
          case measure => simp [intOf]; omega
      · have e12 : (i : Int) = 12 := by omega
        have hs12 : ∀ j, j < 12 → n % smallP.getD j 1 ≠ 0 := fun j hj => HS.out j (by omega)
        rw [e12]
        replace HS := Lib.hid hs12
        clear e12 hs12 hi hi12
        have nn := NON.out HS.out
        obtain ⟨t0, t1, t2, t3⟩ := TF.out HS.out
        have n37 := big_of h2 HS.out
        obtain ⟨m, hm⟩ : ∃ m, m = n - 1 := ⟨_, rfl⟩
        rw [← hm] at nn t0 t1 t2 t3
        have m64 : m < 2 ^ 64 := by have := HN.out; omega
        have em : (n : Int) - 1 = (m : Int) := by omega
        have hm0 : 0 < m := by omega
        have hwm : IntKind.u64.wrap (m : Int) = (m : Int) := by rw [IntKind.wrap_u64]; omega
        obtain ⟨s, hs⟩ : ∃ s, s = (tz m).1 := ⟨_, rfl⟩
        obtain ⟨d, hd⟩ : ∃ d, d = (tz m).2 := ⟨_, rfl⟩
        rw [← hs, ← hd] at nn
        rw [← hs] at t0 t1 t3
        rw [← hd] at t2 t3
        have n64 : (n : Int) < 18446744073709551616 := by have := HN.out; omega
        have X : ∀ w (i : Nat), i < 12 → Calls Tryd.prog 56 #[.int .u64 (smallP.getD i 1 : Nat), .int .u64 d, .int .i64 s, .int .u64 n] w fun e w' => e = .returned (.bool (!wit (smallP.getD i 1 : Nat) n d s)) ∧ w.grownBy w' none := fun w i h =>
          refWit_c w _ n d s (by omega) (by omega) n64 t2 t0 t1 (small_pow (smallP_mem i h) (by omega) (HS.out i h))
        have HX := Lib.hid X
        have HNN := Lib.hid nn
        have HM := Lib.hid m64
        have CC := Lib.hid C
        have hsd : tzF 64 m = (s, d) := by rw [hs, hd]; rfl
        have HSD := Lib.hid hsd
        clear hs hd hm X nn t0 t1 t2 t3 n64 m64 C hsd
        go_wp2
        clear em hwm
        obtain ⟨wo, rfl⟩ : ∃ wo : World, wo = wr := ⟨_, rfl⟩
        go_loopw [5, 6] (fun v5 v6 wr => ∃ a k : Nat, v5 = .int .u64 a ∧ v6 = .int .i64 k ∧ k ≤ 63 ∧ 0 < a ∧ a < 2 ^ (64 - k) ∧ tzF 64 m = (k + (tzF (64 - k) a).1, (tzF (64 - k) a).2) ∧ wr = wo) (fun v5 _ _ => (intOf v5).toNat)
        case atStart => exact ⟨m, 0, rfl, rfl, by omega, hm0, HM.out, by rw [Nat.zero_add], rfl⟩
        case round =>
          obtain ⟨a, k, rfl, rfl, hk, ha0, hak, hT, rfl⟩ := hrel
          obtain ⟨j, hj⟩ : ∃ j, 64 - k = j + 1 := ⟨63 - k, by omega⟩
          have ha64 : a < 2 ^ 64 := Nat.lt_of_lt_of_le hak (Nat.pow_le_pow_right (by decide) (by omega))
          have hw : IntKind.u64.wrap ((a : Int) / 2) = ((a / 2 : Nat) : Int) := by rw [IntKind.wrap_u64]; omega
          rw [hj] at hT hak
          rw [tzF_succ j a] at hT
          by_cases hodd : a % 2 = 1
          · rw [if_pos hodd, HSD.out] at hT
            simp only [Prod.mk.injEq, Nat.add_zero] at hT
            obtain ⟨rfl, rfl⟩ := hT
            have hb : ((d : Int) % 2 == 0) = false := by
              have : ¬ (d : Int) % 2 = 0 := by omega
              simpa using this
            have hw3 : 0 < (d : Int) := by omega
            clear hak ha64 hj hk ha0 hodd hw
            go_wp2
            clear hb hw3
            obtain ⟨wp, rfl⟩ : ∃ wp : World, wp = wr := ⟨_, rfl⟩
            go_loopw [7] (fun v7 wr => ∃ i : Nat, v7 = .int .i64 i ∧ i ≤ 12 ∧ (∀ j, j < i → wit (smallP.getD j 1 : Nat) n d s = false) ∧ wp.grownBy wr none) (fun v7 _ => 12 - (intOf v7).toNat)
            case atStart => exact ⟨0, rfl, by omega, fun j hj => by omega, gb_refl _ _⟩
            case round =>
              obtain ⟨i, rfl, hi, hs, R⟩ := hrel
              have HS2 := Lib.hid hs
              clear hs
              by_cases hi12 : i < 12
              · have ci := (CC.out.grown0 R).cell i (smallL_at i hi12)
                obtain ⟨p1, p2⟩ := smallP_at i hi12
                have ht : wit (smallP.getD i 1 : Nat) n d s = true → isP n = false := fun h => by
                  rw [HNN.out]
                  exact all_hit (i := i) hi12 (by rw [h]; rfl)
                have hstep : wit (smallP.getD i 1 : Nat) n d s = false → ∀ j, j < i + 1 → wit (smallP.getD j 1 : Nat) n d s = false := fun h j hj => by
                  by_cases e : j = i
                  · rw [e]; exact h
                  · exact HS2.out j (by omega)
                have X := fun w => HX.out w i hi12
                obtain ⟨p, hp⟩ : ∃ p, p = smallP.getD i 1 := ⟨_, rfl⟩
                rw [← hp] at ci p1 p2 ht hstep X
                obtain ⟨b, hb⟩ : ∃ b, b = wit (p : Nat) n d s := ⟨_, rfl⟩
                rw [← hb] at ht hstep X
                have HST := Lib.hid hstep
                have HT2 := Lib.hid ht
                have HX2 := Lib.hid X
                clear hp hstep ht X hb
                go_wp2_with fail
                refine (HX2.out _).mono ?_
                rintro e w2 ⟨rfl, g2⟩
                cases b with
                | true =>
                  have fin := HT2.out rfl
                  have FIN := Lib.hid fin
                  clear fin
                  go_wp2
                  go_ret
                  exact ⟨by rw [FIN.out]; rfl, gb_trans (gb_trans G R) g2⟩
                | false =>
                  have nx := HST.out rfl
                  have NX := Lib.hid nx
                  clear nx
                  go_wp2
                  go_roundw
                  case rel => exact ⟨i + 1, by go_num, by omega, NX.out, gb_trans R g2⟩
                  case measure => simp [intOf]; omega
              · obtain rfl : i = 12 := by omega
                have fin : isP n = true := by
                  rw [HNN.out]
                  exact all_none (fun j hj => by rw [HS2.out j hj]; rfl)
                have FIN := Lib.hid fin
                clear fin
                go_wp2
                go_ret
                exact ⟨by rw [FIN.out]; rfl, gb_trans G R⟩
          · rw [if_neg hodd] at hT
            have hev : (a : Int) % 2 = 0 := by omega
            have hb : ((a : Int) % 2 == 0) = true := by simpa using hev
            have nx : tzF 64 m = (k + 1 + (tzF (64 - (k + 1)) (a / 2)).1, (tzF (64 - (k + 1)) (a / 2)).2) := by
              rw [hT, show 64 - (k + 1) = j by omega]
              congr 1; omega
            have hjl : a / 2 < 2 ^ (64 - (k + 1)) := by
              rw [show 64 - (k + 1) = j by omega]
              rw [Nat.pow_succ] at hak; omega
            have hk2 : k + 1 ≤ 63 := by
              by_cases q : k + 1 ≤ 63
              · exact q
              · rw [show j = 0 by omega] at hak; simp at hak; omega
            have NX := Lib.hid nx
            have HJ := Lib.hid hjl
            have HA := Lib.hid ha0
            clear nx hjl hT hak ha64 hev hj
            go_wp2
            clear hb
            go_roundw
            case rel => exact ⟨a / 2, k + 1, by rfl, by go_num, hk2, by omega, HJ.out, NX.out, by trivial⟩
            case measure => simp [intOf]; omega
end Go.Proofs.YtoiclkaecgpbbaaDoor
