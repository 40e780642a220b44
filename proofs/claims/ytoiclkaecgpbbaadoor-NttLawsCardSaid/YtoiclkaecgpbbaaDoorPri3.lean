/- Primes: their residues, roots. -/
import Derived.Test.YtoiclkaecgpbbaaDoorPri2
import Derived.Test.YtoiclkaecgpbbaaDoorMrF
import Derived.Test.YtoiclkaecgpbbaaDoorModw7
namespace Go.Proofs.YtoiclkaecgpbbaaDoor
open Go.RowKit

theorem pmod_ok (w : World) (p : Nat) (hp : Pm p) (hi : isP p = true) (hd : Db w) :
    Calls Tryd.prog 17 #[.int .u64 p] w fun e w' => ∃ g, e = .returned (.tuple #[.pointer (some ⟨g, 0, none⟩), .int .i64 0]) ∧ Md w' g p ∧ w.heap.size ≤ g ∧ w.grownBy w' none := by
  have h1 := hp.lo
  have h2 := hp.hi
  have h3 := hp.odd
  have I := is_c w p (by omega) hd
  rw [hi] at I
  obtain ⟨P, hP⟩ : ∃ P : Int, P = (p : Int) := ⟨_, rfl⟩
  rw [← hP] at I hp h1 h2 h3 ⊢
  have HI := Lib.hid I
  have HP := Lib.hid hp
  clear I hd hi hp hP
  go_enter Tryd.func17, Tryd.ntmps17
  go_wp2_with fail
  refine (HI.out).mono ?_
  rintro e w1 ⟨rfl, g1⟩
  go_wp2_with fail
  refine (modNew_ok _ P HP.out).mono ?_
  rintro e w2 ⟨g, rfl, M, hg, g2⟩
  have hs := g1.size
  go_wp2
  go_ret2
  exact ⟨g, rfl, M, by omega, gb_trans g1 g2⟩
theorem pmod_no (w : World) (p : Nat) (p64 : p < 2 ^ 64) (h : ¬ (Pm p ∧ isP p = true)) (hd : Db w) :
    Calls Tryd.prog 17 #[.int .u64 p] w fun e w' => e = .returned (.tuple #[.pointer none, .int .i64 3]) ∧ w.grownBy w' none := by
  by_cases h2 : p % 2 = 0
  · have h3 : (p : Int) % 2 = 0 := by omega
    obtain ⟨P, hP⟩ : ∃ P : Int, P = (p : Int) := ⟨_, rfl⟩
    have P0 : 0 ≤ P := by omega
    rw [← hP] at h3 ⊢
    clear h hd h2 p64 hP
    go_enter Tryd.func17, Tryd.ntmps17
    go_wp2
    go_ret2
    exact ⟨rfl, gb_refl _ _⟩
  · have h3 : (p : Int) % 2 = 1 := by omega
    by_cases h4 : 4611686018427387904 ≤ (p : Int)
    · obtain ⟨P, hP⟩ : ∃ P : Int, P = (p : Int) := ⟨_, rfl⟩
      have P0 : 0 ≤ P := by omega
      rw [← hP] at h3 h4 ⊢
      clear h hd h2 p64 hP
      go_enter Tryd.func17, Tryd.ntmps17
      go_wp2
      go_ret2
      exact ⟨rfl, gb_refl _ _⟩
    · have I := is_c w p p64 hd
      have hi : isP p = false := by
        cases e : isP p with
        | false => rfl
        | true =>
          refine absurd ⟨⟨?_, by omega, h3⟩, e⟩ h
          by_cases k : p < 2
          · unfold isP at e; rw [if_pos k] at e; cases e
          · omega
      rw [hi] at I
      have h5 : (p : Int) < 4611686018427387904 := by omega
      obtain ⟨P, hP⟩ : ∃ P : Int, P = (p : Int) := ⟨_, rfl⟩
      have P0 : 0 ≤ P := by omega
      rw [← hP] at h3 h5 I ⊢
      have HI := Lib.hid I
      clear I hd hi h h4 h2 p64 hP
      go_enter Tryd.func17, Tryd.ntmps17
      go_wp2_with fail
      refine (HI.out).mono ?_
      rintro e w1 ⟨rfl, g1⟩
      go_wp2
      go_ret2
      exact ⟨rfl, g1⟩
set_option maxRecDepth 100000 in
set_option maxHeartbeats 1000000 in
theorem root_c (w : World) (p log x0 : Nat) (hp : Pm p) (hi : isP p = true) (hl : log ≤ 20) (hdiv : (p - 1) % 2 ^ log = 0) (hx2 : 2 ≤ x0) (hx64 : x0 < 2 ^ 63) (hx : (x0 : Int) ^ ((p - 1) / 2) % p = p - 1)
    (hno : ∀ x, 2 ≤ x → x < x0 → (x : Int) ^ ((p - 1) / 2) % p ≠ p - 1) (hd : Db w) :
    Calls Tryd.prog 55 #[.int .u64 p, .int .i64 log] w fun e w' => e = .returned (.tuple #[.int .u64 (if log = 0 then 1 else (x0 : Int) ^ ((p - 1) / 2 ^ log) % p), .int .i64 0]) ∧ w.grownBy w' none := by
  have h1 := hp.lo
  have h2 := hp.hi
  have I := fun w (h : Db w) => pmod_ok w p hp hi h
  obtain ⟨m, hm⟩ : ∃ m, m = p - 1 := ⟨_, rfl⟩
  rw [← hm] at hdiv hx hno ⊢
  obtain ⟨q, hq⟩ : ∃ q, q = 2 ^ log := ⟨_, rfl⟩
  have hq20 : q ≤ 2 ^ 20 := by rw [hq]; exact Nat.pow_le_pow_right (by decide) hl
  have hq0 : 0 < q := by rw [hq]; exact Nat.pow_pos (by decide)
  have eq : (2 : Int) ^ log = (q : Int) := by rw [hq, Int.natCast_pow]; rfl
  rw [← hq] at hdiv ⊢
  obtain ⟨h, hh⟩ : ∃ h, h = m / 2 := ⟨_, rfl⟩
  obtain ⟨d, hdd⟩ : ∃ d, d = m / q := ⟨_, rfl⟩
  rw [← hh] at hx hno
  rw [← hdd]
  obtain ⟨P, hP⟩ : ∃ P : Int, P = (p : Int) := ⟨_, rfl⟩
  obtain ⟨M, hM⟩ : ∃ M : Int, M = (m : Int) := ⟨_, rfl⟩
  obtain ⟨Q, hQ⟩ : ∃ Q : Int, Q = (q : Int) := ⟨_, rfl⟩
  obtain ⟨H, hH⟩ : ∃ H : Int, H = (h : Int) := ⟨_, rfl⟩
  obtain ⟨D, hD⟩ : ∃ D : Int, D = (d : Int) := ⟨_, rfl⟩
  have em : P - 1 = M := by omega
  have eh : M / 2 = H := by omega
  have ed : M / 2 ^ log = D := by rw [eq, hM, hD, hdd, Int.natCast_ediv]
  have ez : M % Q = 0 := by rw [hM, hQ, ← Int.natCast_emod, hdiv]; rfl
  have hw : IntKind.u64.wrap (2 ^ log) = Q := by rw [eq, hQ, IntKind.wrap_u64]; omega
  have hw2 : IntKind.u64.wrap (1 * 2 ^ log) = Q := by rw [Int.one_mul]; exact hw
  have Q0 : Q ≠ 0 := by omega
  have bM : 0 ≤ M ∧ M < 4611686018427387904 := by omega
  have bP : 0 ≤ P ∧ P < 4611686018427387904 := by omega
  have bH : 0 ≤ H ∧ H < 4611686018427387904 := by omega
  have bD : 0 ≤ D ∧ D < 4611686018427387904 := by
    have := Nat.div_le_self m q
    omega
  have pw : ∀ x : Int, x ^ h = x ^ H.toNat := fun x => by rw [hH, Int.toNat_natCast]
  have pd : ∀ x : Int, x ^ d = x ^ D.toNat := fun x => by rw [hD, Int.toNat_natCast]
  rw [← hP] at I hx hno ⊢
  rw [em] at hx hno
  rw [pd]
  have hx' : (x0 : Int) ^ H.toNat % P = M := by rw [← pw]; exact hx
  have hno' : ∀ x, 2 ≤ x → x < x0 → (x : Int) ^ H.toNat % P ≠ M := fun x a b => by rw [← pw]; exact hno x a b
  have HI := Lib.hid I
  have HD := Lib.hid hd
  have HX := Lib.hid hx'
  have HNO := Lib.hid hno'
  have H64 := Lib.hid hx64
  clear I hd hx hno pw pd hP hM hQ hH hD eq hq hh hdd hdiv hp hi h1 h2 hq20 hq0 hm hx' hno' hx64
  have hlb : decide ((log : Int) < 0) = false := decide_eq_false (by omega)
  have hlc : decide ((20 : Int) < (log : Int)) = false := decide_eq_false (by omega)
  by_cases hl0 : log = 0
  · subst hl0
    rw [if_pos rfl]
    go_enter Tryd.func55, Tryd.ntmps55
    go_wp2_with fail
    refine (HI.out _ HD.out).mono ?_
    rintro e w1 ⟨g, rfl, MM, _, g1⟩
    clear HI HD
    go_wp2
    go_ret2
    exact ⟨rfl, g1⟩
  · rw [if_neg hl0]
    have hl1 : ¬ (log : Int) = 0 := by omega
    have hld : ((log : Int) == 0) = false := by simpa using hl1
    go_enter Tryd.func55, Tryd.ntmps55
    go_wp2_with fail
    refine (HI.out _ HD.out).mono ?_
    rintro e w1 ⟨g, rfl, MM, _, g1⟩
    clear HI HD
    go_wp2
    have EM := Lib.hid em
    have EH := Lib.hid eh
    have ED := Lib.hid ed
    clear ez hw hw2 hlb hlc em eh ed hld
    go_loopw [8] (fun v8 wr => ∃ x : Nat, v8 = .int .u64 x ∧ 2 ≤ x ∧ x ≤ x0 ∧ w1.grownBy wr none) (fun v8 _ => x0 - (intOf v8).toNat)
    case atStart => exact ⟨2, rfl, by omega, hx2, gb_refl _ _⟩
    case round =>
      obtain ⟨x, rfl, hxa, hxb, R⟩ := hrel
      have hx63 : (x : Int) < 9223372036854775808 := by have := H64.out; omega
      obtain ⟨X, hXX⟩ : ∃ X : Int, X = (x : Int) := ⟨_, rfl⟩
      have X0 : 0 ≤ X := by omega
      have T := fun w (h : Md w g P) => modPow_c w g P X H h X0 bH.1 (by omega)
      have T2 := fun w (h : Md w g P) => modPow_c w g P X D h X0 bD.1 (by omega)
      have hX1 : X < 9223372036854775808 := by omega
      by_cases hex : x = x0
      · have e : X ^ H.toNat % P = M := by rw [hXX, hex]; exact HX.out
        have e0 : (x0 : Int) = X := by omega
        have HE0 := Lib.hid e0
        rw [← hXX]
        have HT := Lib.hid T
        have HT2 := Lib.hid T2
        have HE := Lib.hid e
        clear T T2 hex e e0 hx63 hXX
        have em := EM.out
        have eh := EH.out
        have ed := ED.out
        go_wp2_with fail
        refine (HT.out _ (MM.grown0 R)).mono ?_
        rintro e w2 ⟨rfl, g2⟩
        rw [HE.out]
        go_wp2_with fail
        refine (HT2.out _ ((MM.grown0 R).grown0 g2)).mono ?_
        rintro e w3 ⟨rfl, g3⟩
        go_wp2
        go_ret2
        exact ⟨by rw [HE0.out]; rfl, gb_trans (gb_trans (gb_trans g1 R) g2) g3⟩
      · have e : X ^ H.toNat % P ≠ M := by rw [hXX]; exact HNO.out x hxa (by omega)
        obtain ⟨Y, hY⟩ : ∃ Y, Y = X ^ H.toNat % P := ⟨_, rfl⟩
        rw [← hY] at e
        have HY := Lib.hid hY
        have hb : (Y == M) = false := by simpa using e
        have HT := Lib.hid T
        have HXX := Lib.hid hXX
        rw [← hXX]
        clear T T2 hY e hXX hx63
        have em := EM.out
        have eh := EH.out
        go_wp2_with fail
        refine (HT.out _ (MM.grown0 R)).mono ?_
        rintro e w2 ⟨rfl, g2⟩
        rw [← HY.out]
        go_wp2
        clear hb em eh
        go_roundw
        case rel => exact ⟨x + 1, by rw [HXX.out]; go_num, by omega, by omega, gb_trans R g2⟩
        case measure => rw [HXX.out]; simp [intOf]; omega
end Go.Proofs.YtoiclkaecgpbbaaDoor
