/- Chapter 7: small numbers: the statement. -/
import Derived.Test.YtoiclkaecgpbbaaDoorLaw07
import Derived.Test.YtoiclkaecgpbbaaDoorSmallL
namespace Go.Proofs.YtoiclkaecgpbbaaDoor
open Go.RowKit

/-- What is known of n where all d below that one were tried. -/
def TriTo (n d : Nat) (b : Bool) : Prop := b = true ↔ 2 ≤ n ∧ ∀ e, 2 ≤ e → e < d → n % e ≠ 0
theorem TriTo.step {n d : Nat} {b : Bool} (h : TriTo n d b) (hd : 2 ≤ d) : TriTo n (d + 1) (b && decide (n % d ≠ 0)) := by
  unfold TriTo at *
  rw [Bool.and_eq_true, h, decide_eq_true_iff]
  constructor
  · rintro ⟨⟨h1, h2⟩, h3⟩
    refine ⟨h1, fun e a b => ?_⟩
    by_cases k : e = d
    · rw [k]; exact h3
    · exact h2 e a (by omega)
  · rintro ⟨h1, h2⟩
    exact ⟨⟨h1, fun e a b => h2 e a (by omega)⟩, h2 d hd (by omega)⟩
theorem TriTo.last {n d : Nat} {b : Bool} (h : TriTo n d b) (hn : n < 200000) (hd : n < d * d) (hall : ∀ e, 2 ≤ e → e < d → e * e ≤ n) : isP n = b := by
  rw [isF_eq (by omega)]
  have e : b = true ↔ Tri n := by
    unfold TriTo at h
    rw [h]
    constructor
    · rintro ⟨h1, h2⟩
      refine ⟨h1, fun e a c => h2 e a ?_⟩
      by_cases k : e < d
      · exact k
      · have := Nat.mul_le_mul (show d ≤ e by omega) (show d ≤ e by omega); omega
    · rintro ⟨h1, h2⟩
      exact ⟨h1, fun e a c => h2 e a (hall e a c)⟩
  have f := isF_small hn
  cases hb : b with
  | true => exact f.2 (e.1 hb)
  | false =>
    cases hf : isF n with
    | false => rfl
    | true => have := e.2 (f.1 hf); rw [hb] at this; cases this
set_option maxRecDepth 100000 in
theorem PrimeSmall_walk (m : Int) (w : World) (h : 0 ≤ m ∧ m < 18446744073709551616) (hd : Db w) : Calls Tryd.prog 3 #[.int .u64 m] w fun e w' => e = .returned (.bool true) ∧ w.grownBy w' none := by
  have m0 := h.1
  have q0 := Int.emod_nonneg m (show (200000 : Int) ≠ 0 by decide)
  have q1 := Int.emod_lt_of_pos m (show (0 : Int) < 200000 by decide)
  obtain ⟨n, hn⟩ := nat_of q0
  have n1 : n < 200000 := by omega
  have I := fun w (h : Db w) => is_c w n (by omega) h
  have ls : ∀ d b, TriTo n d b → n < d * d → (∀ e, 2 ≤ e → e < d → e * e ≤ n) → isP n = b := fun d b h h1 h2 => h.last n1 h1 h2
  have st : TriTo n 2 (decide (2 ≤ (n : Int))) := by
    unfold TriTo
    rw [decide_eq_true_iff]
    exact ⟨fun a => ⟨by omega, fun e a b => by omega⟩, fun a => by have := a.1; omega⟩
  obtain ⟨b0, hb0⟩ : ∃ b0, b0 = decide (2 ≤ (n : Int)) := ⟨_, rfl⟩
  rw [← hb0] at st
  have HB0 := hb0.symm
  obtain ⟨P, hP⟩ : ∃ P, P = isP n := ⟨_, rfl⟩
  rw [← hP] at I ls
  have HI := Lib.hid I
  have LS := Lib.hid ls
  have S0 := Lib.hid st
  have HD := Lib.hid hd
  clear I ls st hd hP h q0 q1 hb0
  go_enter Tryd.func3, Tryd.ntmps3
  go_wp2
  rw [hn]
  clear hn HB0
  go_loopw [3, 4] (fun v3 v4 wr => ∃ (b : Bool) (d : Nat), v3 = .bool b ∧ v4 = .int .u64 d ∧ 2 ≤ d ∧ d ≤ 500 ∧ TriTo n d b ∧ (∀ e, 2 ≤ e → e < d → e * e ≤ n) ∧ w.grownBy wr none) (fun _ v4 _ => 500 - (intOf v4).toNat)
  case atStart => exact ⟨b0, 2, rfl, rfl, by omega, by omega, S0.out, fun e h1 h2 => by omega, gb_refl _ _⟩
  case round =>
    clear S0
    obtain ⟨b, d, rfl, rfl, hd2, hd5, hT, hall, G⟩ := hrel
    obtain ⟨q, hq⟩ : ∃ q, q = d * d := ⟨_, rfl⟩
    have hq5 : q ≤ 250000 := by
      have := Nat.mul_le_mul hd5 hd5
      omega
    have hw : IntKind.u64.wrap ((d : Int) * (d : Int)) = (q : Int) := by
      have e : (d : Int) * (d : Int) = (q : Int) := by rw [hq, Int.natCast_mul]
      rw [e, IntKind.wrap_u64]; omega
    have TT := Lib.hid hT
    have AL := Lib.hid hall
    have HQ := Lib.hid hq
    clear hT hall hq
    by_cases hle : q ≤ n
    · have d448 : d < 448 := sq_lt (by rw [← HQ.out]; omega)
      have hal : ∀ e, 2 ≤ e → e < d + 1 → e * e ≤ n := fun e h1 h2 => by
        by_cases k : e = d
        · rw [k, ← HQ.out]; exact hle
        · exact AL.out e h1 (by omega)
      have nx := TT.out.step hd2
      have ALN := Lib.hid hal
      clear hal
      cases b with
      | false =>
        rw [Bool.false_and] at nx
        have NX := Lib.hid nx
        clear nx
        go_wp2
        go_roundw
        case rel => exact ⟨false, d + 1, rfl, by go_num, by omega, by omega, NX.out, ALN.out, G⟩
        case measure => simp [intOf]; omega
      | true =>
        rw [Bool.true_and] at nx
        obtain ⟨r, hr⟩ : ∃ r, r = n % d := ⟨_, rfl⟩
        have em : (n : Int) % (d : Int) = (r : Int) := by rw [hr, Int.natCast_emod]
        rw [← hr] at nx
        clear hr
        by_cases hz : r = 0
        · rw [decide_eq_false (by omega)] at nx
          subst hz
          have NX := Lib.hid nx
          clear nx
          go_wp2
          clear em hw
          go_roundw
          case rel => exact ⟨false, d + 1, rfl, by go_num, by omega, by omega, NX.out, ALN.out, G⟩
          case measure => simp [intOf]; omega
        · rw [decide_eq_true hz] at nx
          have hz2 : ¬ (r : Int) = 0 := by omega
          have hb : ((r : Int) == 0) = false := by simpa using hz2
          have hb2 : ((r : Int) != 0) = true := by simpa using hz2
          have NX := Lib.hid nx
          clear nx
          go_wp2
          clear em hw hb hb2
          go_roundw
          case rel => exact ⟨true, d + 1, rfl, by go_num, by omega, by omega, NX.out, ALN.out, G⟩
          case measure => simp [intOf]; omega
    · have fin := LS.out d b TT.out (by rw [← HQ.out]; omega) AL.out
      have FIN := Lib.hid fin
      clear fin
      go_wp2_with fail
      refine (HI.out _ (HD.out.grown0 G)).mono ?_
      rintro e w1 ⟨rfl, g1⟩
      rw [FIN.out]
      cases b
      · go_wp2_with fail
        refine (wakes07_c _ ((HD.out.grown0 G).grown0 g1)).mono ?_
        rintro e w2 ⟨rfl, g2⟩
        go_wp2
        go_ret
        exact ⟨rfl, gb_trans (gb_trans G g1) g2⟩
      · go_wp2_with fail
        refine (wakes07_c _ ((HD.out.grown0 G).grown0 g1)).mono ?_
        rintro e w2 ⟨rfl, g2⟩
        go_wp2
        go_ret
        exact ⟨rfl, gb_trans (gb_trans G g1) g2⟩
end Go.Proofs.YtoiclkaecgpbbaaDoor
