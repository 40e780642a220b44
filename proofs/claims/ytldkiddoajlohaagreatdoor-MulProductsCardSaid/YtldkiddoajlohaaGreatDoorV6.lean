/- Contracts of the program's functions, and plain laws (RCost, RSqr, Law12, Law12a, Tabs, Law12b, Law12c, Mul9, Num8, Law12e), for every input that their premises let in. -/
import Derived.Test.YtldkiddoajlohaaGreatDoorV5
import Derived.Test.YtldkiddoajlohaaGreatDoorV3
import Derived.Test.YtldkiddoajlohaaGreatDoorV4
import Derived.Test.YtldkiddoajlohaaGreatDoorV1
import Derived.WalkKit
import Derived.Deep.Fields
import Derived.Deep.Matrix
import Derived.Test.YtldkiddoajlohaaGreatDoorV2
/- The reference's costs. -/
namespace Go.Proofs.YtldkiddoajlohaaGreatDoor
open Go.RowKit

theorem blen_eq {x l : Nat} (h1 : x < 2 ^ l) (h2 : l = 0 ∨ 2 ^ (l - 1) ≤ x) : blen x = l := by
  have a := blen_le x l h1
  rcases h2 with rfl | h2
  · omega
  · rcases Nat.lt_or_ge (blen x) l with h | h
    · have b := blen_lt x
      have c := Nat.pow_le_pow_right (n := 2) (by decide) (show blen x ≤ l - 1 by omega)
      omega
    · omega
set_option maxRecDepth 100000 in
theorem rtransf_c (w : World) (n m k : Nat) (hn : 0 < n) (hm : 0 < m) (hk : k ≤ 3) (h : n + m ≤ 1024) : Calls Tryz.prog 50 #[.int .i64 n, .int .i64 m, .int .i64 k] w fun e w' => e = .returned (.int .i64 (transf n m k : Nat)) ∧ w.grownBy w' none := by
  obtain ⟨s, hs⟩ : ∃ s, s = n + m := ⟨_, rfl⟩
  have es : (n : Int) + (m : Int) = (s : Int) := by omega
  have p1 : ((n : Int) < 1) = False := by simp; omega
  have p2 : ((m : Int) < 1) = False := by simp; omega
  have p3 : ((16384 : Int) < (n : Int)) = False := by simp; omega
  have p4 : ((16384 : Int) < (m : Int)) = False := by simp; omega
  have p5 : ((3 : Int) < (k : Int)) = False := by simp; omega
  have HS := Lib.hid hs
  have hs2 : 2 ≤ s ∧ s ≤ 1024 := by omega
  obtain ⟨T, hT⟩ : ∃ T, T = transf n m k := ⟨_, rfl⟩
  rw [← hT]
  have HT := Lib.hid hT
  clear hs hT
  go_enter Tryz.func50, Tryz.ntmps50
  go_wp2
  go_loopw [7, 8] (fun v7 v8 wr => ∃ (S l : Nat), v7 = .int .i64 S ∧ v8 = .int .i64 l ∧ S = 2 ^ l ∧ (l = 0 ∨ 2 ^ (l - 1) < s) ∧ S ≤ 2048 ∧ l ≤ 11 ∧ 1 ≤ S ∧ w.grownBy wr none) (fun v7 _ _ => s - (intOf v7).toNat)
  case atStart => exact ⟨1, 0, rfl, rfl, rfl, .inl rfl, by decide, by decide, by decide, gb_refl _ _⟩
  case round =>
    obtain ⟨S, l, rfl, rfl, hS, hl, hS2, hl2, hS1, G⟩ := hrel
    have HP := Lib.hid (And.intro hS hl)
    have GG := Lib.hid G
    clear hS hl G
    by_cases hlt : S < s
    · obtain ⟨S2, h2⟩ : ∃ z, z = 2 * S := ⟨_, rfl⟩
      have e2 : 2 * (S : Int) = (S2 : Int) := by omega
      have HS2 := Lib.hid h2
      clear h2
      go_wp2
      go_roundw
      case rel =>
        have e1 := HP.out.1
        have e3 := HS2.out
        have l10 : l ≤ 10 := by
          rcases Nat.lt_or_ge l 11 with h | h
          · omega
          · have := Nat.pow_le_pow_right (n := 2) (by decide) h
            omega
        exact ⟨S2, l + 1, rfl, by go_num, by rw [Nat.pow_succ]; omega, .inr (by rw [Nat.add_sub_cancel]; omega), by omega, by omega, by omega, GG.out⟩
      case measure => have e3 := HS2.out; simp [intOf]; omega
    · have HL : Hid (blen (n + m - 1) = l) := Lib.hid (blen_eq (by have := HP.out.1; have := HS.out; omega) (by
        rcases HP.out.2 with h | h
        · exact .inl h
        · right; have := HS.out; omega))
      obtain ⟨H, hH⟩ : ∃ H : Nat, H = S / 2 := ⟨_, rfl⟩
      have eH : (S : Int) / 2 = (H : Int) := by omega
      have k1 : k * H ≤ 3 * 1024 := Nat.mul_le_mul hk (by omega)
      obtain ⟨P, hP⟩ : ∃ P : Nat, P = k * H := ⟨_, rfl⟩
      have eP : (k : Int) * (H : Int) = (P : Int) := by rw [hP, Int.natCast_mul]
      have k2 : P * l ≤ 3072 * 11 := Nat.mul_le_mul (by omega) hl2
      obtain ⟨Q, hQ⟩ : ∃ Q : Nat, Q = P * l := ⟨_, rfl⟩
      have eQ : (P : Int) * (l : Int) = (Q : Int) := by rw [hQ, Int.natCast_mul]
      have etr : (T : Int) = 3 * ((Q : Int) + 2 * (S : Int)) + 6 * (S : Int) := by
        rw [HT.out]
        unfold transf
        rw [HL.out, ← HP.out.1, ← hH, ← hP, ← hQ]; omega
      have bQ : Q ≤ 33792 := by omega
      have bP : P ≤ 3072 := by omega
      have HE := Lib.hid etr
      clear hH hP hQ etr k1 k2
      go_wp2
      go_ret
      exact ⟨by rw [HE.out]; rfl, GG.out⟩
set_option maxRecDepth 100000 in
set_option maxHeartbeats 8000000 in
theorem rcost_all (t : Tb) : ∀ (s n m : Nat), n + m ≤ s → s ≤ 1024 → ∀ (w : World), Calls Tryz.prog 25 #[t.v, .int .i64 n, .int .i64 m] w fun e w' => e = .returned (.int .i64 (cost t.clamp n m)) ∧ w.grownBy w' none := by
  intro s
  induction s using Nat.strongRecOn with
  | _ s ih =>
    intro n m hnm hs w
    have IH : ∀ p q, p + q < n + m → ∀ (w : World), Calls Tryz.prog 25 #[t.v, .int .i64 p, .int .i64 q] w fun e w' => e = .returned (.int .i64 (cost t.clamp p q)) ∧ w.grownBy w' none := fun p q h => ih (p + q) (by omega) p q (Nat.le_refl _) (by omega)
    clear ih
    rcases Nat.lt_or_ge n m with hlt | hMN
    · have hMN : n ≤ m := Nat.le_of_lt hlt
      rw [cost_comm]
      have HR := Lib.hid (fun w => rroute_c w t m n (by omega) (by omega))
      rw [Nat.max_eq_left hMN, Nat.min_eq_right hMN] at HR
      have hcase : rt t.clamp m n = 0 ∨ rt t.clamp m n = 1 ∨ rt t.clamp m n = 2 ∨ rt t.clamp m n = 3 ∨ rt t.clamp m n = 4 ∨ rt t.clamp m n = 5 := by have := rt_le t.clamp m n; omega
      obtain ⟨K, hK⟩ : ∃ K, K = cost t.clamp m n := ⟨_, rfl⟩
      have bK : K ≤ 10000000 := by rw [hK]; exact cost_lim t.clamp_ok (by omega)
      rw [← hK]
      rcases hcase with cc | cc | cc | cc | cc | cc
      · rw [cc] at HR
        rw [cost_0 hMN cc] at hK
        subst hK
        clear cc IH
        have C0 := cs_new w #[.int .i64 t.eb, .int .i64 t.et, .int .i64 t.en, .int .i64 t.ed, .int .i64 t.er, .int .i64 t.el, .int .i64 t.ex, .int .i64 t.ep, .int .i64 t.ek, .int .i64 t.es, .int .i64 t.ee] 23
        have hg := gb_alloc (gb_refl w none) (Obj.cells #[.int .i64 t.eb, .int .i64 t.et, .int .i64 t.en, .int .i64 t.ed, .int .i64 t.er, .int .i64 t.el, .int .i64 t.ex, .int .i64 t.ep, .int .i64 t.ek, .int .i64 t.es, .int .i64 t.ee] 23)
        have HG := Lib.hid hg
        have HC0 := Lib.hid C0
        clear C0 hg
        go_enter Tryz.func25, Tryz.ntmps25
        have c0 := HC0.out.cell 0 rfl
        have c1 := HC0.out.cell 1 rfl
        have c2 := HC0.out.cell 2 rfl
        have c3 := HC0.out.cell 3 rfl
        have c4 := HC0.out.cell 4 rfl
        have c5 := HC0.out.cell 5 rfl
        have c6 := HC0.out.cell 6 rfl
        have c7 := HC0.out.cell 7 rfl
        have c8 := HC0.out.cell 8 rfl
        have c9 := HC0.out.cell 9 rfl
        have c10 := HC0.out.cell 10 rfl
        go_wp2_with fail
        refine (HR.out _).mono ?_
        rintro e w2 ⟨rfl, g2⟩
        have HC2 := Lib.hid (HC0.out.grown0 g2)
        have G2 := Lib.hid (gb_trans HG.out g2)
        clear c0 c1 c2 c3 c4 c5 c6 c7 c8 c9 c10 HC0 g2 HG HR
        go_wp2
        go_ret
        exact ⟨rfl, G2.out⟩
      · rw [cc] at HR
        rw [cost_1 hMN cc] at hK
        have eK : (m : Int) * (n : Int) = (K : Int) := by rw [hK, Int.natCast_mul]
        clear cc IH hK
        have C0 := cs_new w #[.int .i64 t.eb, .int .i64 t.et, .int .i64 t.en, .int .i64 t.ed, .int .i64 t.er, .int .i64 t.el, .int .i64 t.ex, .int .i64 t.ep, .int .i64 t.ek, .int .i64 t.es, .int .i64 t.ee] 23
        have hg := gb_alloc (gb_refl w none) (Obj.cells #[.int .i64 t.eb, .int .i64 t.et, .int .i64 t.en, .int .i64 t.ed, .int .i64 t.er, .int .i64 t.el, .int .i64 t.ex, .int .i64 t.ep, .int .i64 t.ek, .int .i64 t.es, .int .i64 t.ee] 23)
        have HG := Lib.hid hg
        have HC0 := Lib.hid C0
        clear C0 hg
        go_enter Tryz.func25, Tryz.ntmps25
        have c0 := HC0.out.cell 0 rfl
        have c1 := HC0.out.cell 1 rfl
        have c2 := HC0.out.cell 2 rfl
        have c3 := HC0.out.cell 3 rfl
        have c4 := HC0.out.cell 4 rfl
        have c5 := HC0.out.cell 5 rfl
        have c6 := HC0.out.cell 6 rfl
        have c7 := HC0.out.cell 7 rfl
        have c8 := HC0.out.cell 8 rfl
        have c9 := HC0.out.cell 9 rfl
        have c10 := HC0.out.cell 10 rfl
        go_wp2_with fail
        refine (HR.out _).mono ?_
        rintro e w2 ⟨rfl, g2⟩
        have HC2 := Lib.hid (HC0.out.grown0 g2)
        have G2 := Lib.hid (gb_trans HG.out g2)
        clear c0 c1 c2 c3 c4 c5 c6 c7 c8 c9 c10 HC0 g2 HG HR
        go_wp2
        go_ret
        exact ⟨rfl, G2.out⟩
      · have q := rt_2 cc
        have b4 := t.clamp_ok.eb.1
        have lt := Nat.mod_lt m q.1
        rw [cc] at HR
        rw [cost_2 t.clamp_ok hMN cc] at hK
        have HI1 := Lib.hid (fun w => IH n n (by omega) w)
        have HI2 := Lib.hid (fun w => IH n (m % n) (by omega) w)
        rw [cost_comm t.clamp n (m % n)] at HI2
        obtain ⟨k1, hk1⟩ : ∃ k, k = cost t.clamp n n := ⟨_, rfl⟩
        obtain ⟨k2, hk2⟩ : ∃ k, k = cost t.clamp (m % n) n := ⟨_, rfl⟩
        rw [← hk1, ← hk2] at hK
        rw [← hk1] at HI1
        rw [← hk2] at HI2
        obtain ⟨D, hD⟩ : ∃ D, D = m / n := ⟨_, rfl⟩
        obtain ⟨R, hRR⟩ : ∃ D, D = m % n := ⟨_, rfl⟩
        obtain ⟨J, hJ⟩ : ∃ J, J = D * k1 := ⟨_, rfl⟩
        unfold pall at hK
        rw [← hD, ← hRR, ← hJ] at hK
        rw [← hRR] at HI2
        have eD : (m : Int) / (n : Int) = (D : Int) := by rw [hD]; exact (Int.natCast_ediv _ _).symm
        have eD2 : (m : Int).tdiv (n : Int) = (D : Int) := by rw [Int.tdiv_eq_ediv_of_nonneg (by omega)]; exact eD
        have eR : (m : Int) % (n : Int) = (R : Int) := by rw [hRR]; exact (Int.natCast_emod _ _).symm
        have eR2 : (m : Int).tmod (n : Int) = (R : Int) := by rw [Int.tmod_eq_emod_of_nonneg (by omega)]; exact eR
        have m0 : ((n : Int) == 0) = false := by
          have : ¬ (n : Int) = 0 := by omega
          simpa using this
        have eJ : (D : Int) * (k1 : Int) = (J : Int) := by rw [hJ, Int.natCast_mul]
        have bJ : J ≤ 10000000 := by omega
        have bD : D ≤ 1024 := by rw [hD]; exact Nat.le_trans (Nat.div_le_self _ _) (by omega)
        have bR : R ≤ 1024 := by omega
        have bk1 : k1 ≤ 10000000 := by rw [hk1]; exact cost_lim t.clamp_ok (by omega)
        have bk2 : k2 ≤ 10000000 := by rw [hk2]; exact cost_lim t.clamp_ok (by omega)
        clear cc IH hk1 hk2 hD hRR hJ lt
        by_cases hR0 : 0 < R
        · rw [if_pos hR0] at hK
          have eKK : (J : Int) + (k2 : Int) = (K : Int) := by omega
          clear hK
          have C0 := cs_new w #[.int .i64 t.eb, .int .i64 t.et, .int .i64 t.en, .int .i64 t.ed, .int .i64 t.er, .int .i64 t.el, .int .i64 t.ex, .int .i64 t.ep, .int .i64 t.ek, .int .i64 t.es, .int .i64 t.ee] 23
          have hg := gb_alloc (gb_refl w none) (Obj.cells #[.int .i64 t.eb, .int .i64 t.et, .int .i64 t.en, .int .i64 t.ed, .int .i64 t.er, .int .i64 t.el, .int .i64 t.ex, .int .i64 t.ep, .int .i64 t.ek, .int .i64 t.es, .int .i64 t.ee] 23)
          have HG := Lib.hid hg
          have HC0 := Lib.hid C0
          clear C0 hg
          go_enter Tryz.func25, Tryz.ntmps25
          have c0 := HC0.out.cell 0 rfl
          have c1 := HC0.out.cell 1 rfl
          have c2 := HC0.out.cell 2 rfl
          have c3 := HC0.out.cell 3 rfl
          have c4 := HC0.out.cell 4 rfl
          have c5 := HC0.out.cell 5 rfl
          have c6 := HC0.out.cell 6 rfl
          have c7 := HC0.out.cell 7 rfl
          have c8 := HC0.out.cell 8 rfl
          have c9 := HC0.out.cell 9 rfl
          have c10 := HC0.out.cell 10 rfl
          go_wp2_with fail
          refine (HR.out _).mono ?_
          rintro e w2 ⟨rfl, g2⟩
          have HC2 := Lib.hid (HC0.out.grown0 g2)
          have G2 := Lib.hid (gb_trans HG.out g2)
          clear c0 c1 c2 c3 c4 c5 c6 c7 c8 c9 c10 HC0 g2 HG HR
          go_wp2
          refine Canon.region_canon (by kernel_rfl) (by kernel_rfl) ?_
          have c0 := HC2.out.drew.cell 0 rfl
          have c1 := HC2.out.drew.cell 1 rfl
          have c2 := HC2.out.drew.cell 2 rfl
          have c3 := HC2.out.drew.cell 3 rfl
          have c4 := HC2.out.drew.cell 4 rfl
          have c5 := HC2.out.drew.cell 5 rfl
          have c6 := HC2.out.drew.cell 6 rfl
          have c7 := HC2.out.drew.cell 7 rfl
          have c8 := HC2.out.drew.cell 8 rfl
          have c9 := HC2.out.drew.cell 9 rfl
          have c10 := HC2.out.drew.cell 10 rfl
          go_wp2_with fail
          refine (HI1.out _).mono ?_
          rintro e w3 ⟨rfl, g3⟩
          have HC3 := Lib.hid (HC2.out.drew.grown0 g3)
          have G3 := Lib.hid (gb_trans (gb_drew G2.out) g3)
          clear c0 c1 c2 c3 c4 c5 c6 c7 c8 c9 c10 HC2 g3 G2 HI1
          go_wp2
          refine ⟨by kernel_rfl, ?_⟩
          go_wp2
          refine Canon.region_canon (by kernel_rfl) (by kernel_rfl) ?_
          have c0 := HC3.out.drew.cell 0 rfl
          have c1 := HC3.out.drew.cell 1 rfl
          have c2 := HC3.out.drew.cell 2 rfl
          have c3 := HC3.out.drew.cell 3 rfl
          have c4 := HC3.out.drew.cell 4 rfl
          have c5 := HC3.out.drew.cell 5 rfl
          have c6 := HC3.out.drew.cell 6 rfl
          have c7 := HC3.out.drew.cell 7 rfl
          have c8 := HC3.out.drew.cell 8 rfl
          have c9 := HC3.out.drew.cell 9 rfl
          have c10 := HC3.out.drew.cell 10 rfl
          go_wp2_with fail
          refine (HI2.out _).mono ?_
          rintro e w4 ⟨rfl, g4⟩
          have G4 := Lib.hid (gb_trans (gb_drew G3.out) g4)
          clear c0 c1 c2 c3 c4 c5 c6 c7 c8 c9 c10 HC3 g4 G3 HI2
          go_wp2
          refine ⟨by kernel_rfl, ?_⟩
          go_wp2
          go_ret
          exact ⟨rfl, G4.out⟩
        · obtain rfl : R = 0 := by omega
          rw [if_neg hR0, Nat.add_zero] at hK
          subst hK
          have C0 := cs_new w #[.int .i64 t.eb, .int .i64 t.et, .int .i64 t.en, .int .i64 t.ed, .int .i64 t.er, .int .i64 t.el, .int .i64 t.ex, .int .i64 t.ep, .int .i64 t.ek, .int .i64 t.es, .int .i64 t.ee] 23
          have hg := gb_alloc (gb_refl w none) (Obj.cells #[.int .i64 t.eb, .int .i64 t.et, .int .i64 t.en, .int .i64 t.ed, .int .i64 t.er, .int .i64 t.el, .int .i64 t.ex, .int .i64 t.ep, .int .i64 t.ek, .int .i64 t.es, .int .i64 t.ee] 23)
          have HG := Lib.hid hg
          have HC0 := Lib.hid C0
          clear C0 hg
          go_enter Tryz.func25, Tryz.ntmps25
          have c0 := HC0.out.cell 0 rfl
          have c1 := HC0.out.cell 1 rfl
          have c2 := HC0.out.cell 2 rfl
          have c3 := HC0.out.cell 3 rfl
          have c4 := HC0.out.cell 4 rfl
          have c5 := HC0.out.cell 5 rfl
          have c6 := HC0.out.cell 6 rfl
          have c7 := HC0.out.cell 7 rfl
          have c8 := HC0.out.cell 8 rfl
          have c9 := HC0.out.cell 9 rfl
          have c10 := HC0.out.cell 10 rfl
          go_wp2_with fail
          refine (HR.out _).mono ?_
          rintro e w2 ⟨rfl, g2⟩
          have HC2 := Lib.hid (HC0.out.grown0 g2)
          have G2 := Lib.hid (gb_trans HG.out g2)
          clear c0 c1 c2 c3 c4 c5 c6 c7 c8 c9 c10 HC0 g2 HG HR
          go_wp2
          refine Canon.region_canon (by kernel_rfl) (by kernel_rfl) ?_
          have c0 := HC2.out.drew.cell 0 rfl
          have c1 := HC2.out.drew.cell 1 rfl
          have c2 := HC2.out.drew.cell 2 rfl
          have c3 := HC2.out.drew.cell 3 rfl
          have c4 := HC2.out.drew.cell 4 rfl
          have c5 := HC2.out.drew.cell 5 rfl
          have c6 := HC2.out.drew.cell 6 rfl
          have c7 := HC2.out.drew.cell 7 rfl
          have c8 := HC2.out.drew.cell 8 rfl
          have c9 := HC2.out.drew.cell 9 rfl
          have c10 := HC2.out.drew.cell 10 rfl
          go_wp2_with fail
          refine (HI1.out _).mono ?_
          rintro e w3 ⟨rfl, g3⟩
          have G3 := Lib.hid (gb_trans (gb_drew G2.out) g3)
          clear c0 c1 c2 c3 c4 c5 c6 c7 c8 c9 c10 HC2 g3 G2 HI1
          go_wp2
          refine ⟨by kernel_rfl, ?_⟩
          go_wp2
          go_ret
          exact ⟨rfl, G3.out⟩
      · have q := rt_3 cc
        have b4 := t.clamp_ok.eb.1
        rw [cc] at HR
        rw [cost_3 t.clamp_ok hMN cc] at hK
        have I1 := fun w => IH ((m + 1) / 2) ((m + 1) / 2) (by omega) w
        have I2 := fun w => IH (m - (m + 1) / 2) (n - (m + 1) / 2) (by omega) w
        have I3 := fun w => IH ((m + 1) / 2 + 1) ((m + 1) / 2 + 1) (by omega) w
        obtain ⟨h, hh⟩ : ∃ q, q = (m + 1) / 2 := ⟨_, rfl⟩
        obtain ⟨p, hp⟩ : ∃ q, q = m - h := ⟨_, rfl⟩
        obtain ⟨q', hq⟩ : ∃ q, q = n - h := ⟨_, rfl⟩
        obtain ⟨H, hH⟩ : ∃ H, H = h + 1 := ⟨_, rfl⟩
        have e1 : ((m : Int) + 1) / 2 = (h : Int) := by omega
        have e2 : (m : Int) - (h : Int) = (p : Int) := by omega
        have e3 : (n : Int) - (h : Int) = (q' : Int) := by omega
        have e4 : (h : Int) + 1 = (H : Int) := by omega
        rw [← hh] at I1 I2 I3 hK
        rw [← hp, ← hq] at I2 hK
        rw [← hH] at I3 hK
        obtain ⟨k1, hk1⟩ : ∃ k, k = cost t.clamp h h := ⟨_, rfl⟩
        obtain ⟨k2, hk2⟩ : ∃ k, k = cost t.clamp p q' := ⟨_, rfl⟩
        obtain ⟨k3, hk3⟩ : ∃ k, k = cost t.clamp H H := ⟨_, rfl⟩
        rw [← hk1, ← hk2, ← hk3] at hK
        rw [← hk1] at I1
        rw [← hk2] at I2
        rw [← hk3] at I3
        obtain ⟨k12, hk12⟩ : ∃ k, k = k1 + k2 := ⟨_, rfl⟩
        have f1 : (k1 : Int) + (k2 : Int) = (k12 : Int) := by omega
        have f2 : (k12 : Int) + (k3 : Int) = (K : Int) := by omega
        have bb : h ≤ 1024 ∧ p ≤ 1024 ∧ q' ≤ 1024 ∧ H ≤ 1025 ∧ k1 ≤ 10000000 ∧ k2 ≤ 10000000 ∧ k3 ≤ 10000000 ∧ k12 ≤ 10000000 := by omega
        have HI1 := Lib.hid I1
        have HI2 := Lib.hid I2
        have HI3 := Lib.hid I3
        clear cc IH hK hk1 hk2 hk3 hk12 hh hp hq hH I1 I2 I3
        have C0 := cs_new w #[.int .i64 t.eb, .int .i64 t.et, .int .i64 t.en, .int .i64 t.ed, .int .i64 t.er, .int .i64 t.el, .int .i64 t.ex, .int .i64 t.ep, .int .i64 t.ek, .int .i64 t.es, .int .i64 t.ee] 23
        have hg := gb_alloc (gb_refl w none) (Obj.cells #[.int .i64 t.eb, .int .i64 t.et, .int .i64 t.en, .int .i64 t.ed, .int .i64 t.er, .int .i64 t.el, .int .i64 t.ex, .int .i64 t.ep, .int .i64 t.ek, .int .i64 t.es, .int .i64 t.ee] 23)
        have HG := Lib.hid hg
        have HC0 := Lib.hid C0
        clear C0 hg
        go_enter Tryz.func25, Tryz.ntmps25
        have c0 := HC0.out.cell 0 rfl
        have c1 := HC0.out.cell 1 rfl
        have c2 := HC0.out.cell 2 rfl
        have c3 := HC0.out.cell 3 rfl
        have c4 := HC0.out.cell 4 rfl
        have c5 := HC0.out.cell 5 rfl
        have c6 := HC0.out.cell 6 rfl
        have c7 := HC0.out.cell 7 rfl
        have c8 := HC0.out.cell 8 rfl
        have c9 := HC0.out.cell 9 rfl
        have c10 := HC0.out.cell 10 rfl
        go_wp2_with fail
        refine (HR.out _).mono ?_
        rintro e w2 ⟨rfl, g2⟩
        have HC2 := Lib.hid (HC0.out.grown0 g2)
        have G2 := Lib.hid (gb_trans HG.out g2)
        clear c0 c1 c2 c3 c4 c5 c6 c7 c8 c9 c10 HC0 g2 HG HR
        go_wp2
        have HSF : Hid (∀ W, Cs W w.heap.size t.vs → Canon.SF [(⟨w.heap.size, 0, none⟩, t.v), (⟨w.heap.size, 0, none⟩, t.v)] W) := Lib.hid (fun W C => Canon.sf_agg (fun j u h => C.at0 j h) (Canon.sf_agg (fun j u h => C.at0 j h) (Canon.sf_nil _)))
        refine Canon.region_held [56, 65] _ (by kernel_rfl) (by kernel_rfl) (HSF.out _ HC2.out) ?_
        have c0 := HC2.out.drew.cell 0 rfl
        have c1 := HC2.out.drew.cell 1 rfl
        have c2 := HC2.out.drew.cell 2 rfl
        have c3 := HC2.out.drew.cell 3 rfl
        have c4 := HC2.out.drew.cell 4 rfl
        have c5 := HC2.out.drew.cell 5 rfl
        have c6 := HC2.out.drew.cell 6 rfl
        have c7 := HC2.out.drew.cell 7 rfl
        have c8 := HC2.out.drew.cell 8 rfl
        have c9 := HC2.out.drew.cell 9 rfl
        have c10 := HC2.out.drew.cell 10 rfl
        refine Canon.segs_at 3 _ _ _ (by kernel_rfl) ?_
        simp only [List.take_succ_cons, List.take_zero, List.drop_succ_cons, List.drop_zero]
        go_wp2_with fail
        refine (HI1.out _).mono ?_
        rintro e w3 ⟨rfl, g3⟩
        have HC3 := Lib.hid (HC2.out.drew.grown0 g3)
        have G3 := Lib.hid (gb_trans (gb_drew G2.out) g3)
        clear c0 c1 c2 c3 c4 c5 c6 c7 c8 c9 c10 HC2 g3 G2 HI1
        go_wp2
        refine ⟨HSF.out _ HC3.out, ?_⟩
        have c0 := HC3.out.cell 0 rfl
        have c1 := HC3.out.cell 1 rfl
        have c2 := HC3.out.cell 2 rfl
        have c3 := HC3.out.cell 3 rfl
        have c4 := HC3.out.cell 4 rfl
        have c5 := HC3.out.cell 5 rfl
        have c6 := HC3.out.cell 6 rfl
        have c7 := HC3.out.cell 7 rfl
        have c8 := HC3.out.cell 8 rfl
        have c9 := HC3.out.cell 9 rfl
        have c10 := HC3.out.cell 10 rfl
        refine Canon.segs_at 7 _ _ _ (by kernel_rfl) ?_
        simp only [List.take_succ_cons, List.take_zero, List.drop_succ_cons, List.drop_zero]
        go_wp2_with fail
        refine (HI2.out _).mono ?_
        rintro e w4 ⟨rfl, g4⟩
        have HC4 := Lib.hid (HC3.out.grown0 g4)
        have G4 := Lib.hid (gb_trans G3.out g4)
        clear c0 c1 c2 c3 c4 c5 c6 c7 c8 c9 c10 HC3 g4 G3 HI2
        go_wp2
        refine ⟨HSF.out _ HC4.out, ?_⟩
        have c0 := HC4.out.cell 0 rfl
        have c1 := HC4.out.cell 1 rfl
        have c2 := HC4.out.cell 2 rfl
        have c3 := HC4.out.cell 3 rfl
        have c4 := HC4.out.cell 4 rfl
        have c5 := HC4.out.cell 5 rfl
        have c6 := HC4.out.cell 6 rfl
        have c7 := HC4.out.cell 7 rfl
        have c8 := HC4.out.cell 8 rfl
        have c9 := HC4.out.cell 9 rfl
        have c10 := HC4.out.cell 10 rfl
        refine Canon.segs_at 6 _ _ _ (by kernel_rfl) ?_
        simp only [List.take_succ_cons, List.take_zero, List.drop_succ_cons, List.drop_zero]
        go_wp2_with fail
        refine (HI3.out _).mono ?_
        rintro e w5 ⟨rfl, g5⟩
        have HC5 := Lib.hid (HC4.out.grown0 g5)
        have G5 := Lib.hid (gb_trans G4.out g5)
        clear c0 c1 c2 c3 c4 c5 c6 c7 c8 c9 c10 HC4 g5 G4 HI3
        go_wp2
        refine ⟨HSF.out _ HC5.out, ?_⟩
        refine Canon.segs_end _ _ _ (by kernel_rfl) ?_
        go_wp2
        refine ⟨by kernel_rfl, by kernel_rfl, by kernel_rfl, ?_⟩
        go_wp2
        go_ret
        exact ⟨rfl, G5.out⟩
      · have q := rt_4 cc
        have b4 := t.clamp_ok.eb.1
        rw [cc] at HR
        rw [cost_4 t.clamp_ok hMN cc] at hK
        have I1 := fun w => IH ((m + 2) / 3) ((m + 2) / 3) (by omega) w
        have I2 := fun w => IH ((m + 2) / 3 + 1) ((m + 2) / 3 + 1) (by omega) w
        have I3 := fun w => IH (m - 2 * ((m + 2) / 3)) (n - 2 * ((m + 2) / 3)) (by omega) w
        obtain ⟨h, hh⟩ : ∃ q, q = (m + 2) / 3 := ⟨_, rfl⟩
        obtain ⟨h2, hh2⟩ : ∃ q, q = 2 * h := ⟨_, rfl⟩
        obtain ⟨p, hp⟩ : ∃ q, q = m - h2 := ⟨_, rfl⟩
        obtain ⟨q', hq⟩ : ∃ q, q = n - h2 := ⟨_, rfl⟩
        obtain ⟨H, hH⟩ : ∃ H, H = h + 1 := ⟨_, rfl⟩
        have e1 : ((m : Int) + 2) / 3 = (h : Int) := by omega
        have e1' : 2 * (h : Int) = (h2 : Int) := by omega
        have e2 : (m : Int) - (h2 : Int) = (p : Int) := by omega
        have e3 : (n : Int) - (h2 : Int) = (q' : Int) := by omega
        have e4 : (h : Int) + 1 = (H : Int) := by omega
        rw [← hh] at I1 I2 I3 hK
        rw [← hh2] at I3 hK
        rw [← hp, ← hq] at I3 hK
        rw [← hH] at I2 hK
        obtain ⟨k1, hk1⟩ : ∃ k, k = cost t.clamp h h := ⟨_, rfl⟩
        obtain ⟨k2, hk2⟩ : ∃ k, k = cost t.clamp H H := ⟨_, rfl⟩
        obtain ⟨k3, hk3⟩ : ∃ k, k = cost t.clamp p q' := ⟨_, rfl⟩
        rw [← hk1, ← hk2, ← hk3] at hK
        rw [← hk1] at I1
        rw [← hk2] at I2
        rw [← hk3] at I3
        obtain ⟨k22, hk22⟩ : ∃ k, k = 3 * k2 := ⟨_, rfl⟩
        obtain ⟨k12, hk12⟩ : ∃ k, k = k1 + k22 := ⟨_, rfl⟩
        have f0 : 3 * (k2 : Int) = (k22 : Int) := by omega
        have f1 : (k1 : Int) + (k22 : Int) = (k12 : Int) := by omega
        have f2 : (k12 : Int) + (k3 : Int) = (K : Int) := by omega
        have bb : h ≤ 1024 ∧ h2 ≤ 1024 ∧ p ≤ 1024 ∧ q' ≤ 1024 ∧ H ≤ 1025 ∧ k1 ≤ 10000000 ∧ k2 ≤ 10000000 ∧ k3 ≤ 10000000 ∧ k12 ≤ 10000000 ∧ k22 ≤ 10000000 := by omega
        have HI1 := Lib.hid I1
        have HI2 := Lib.hid I2
        have HI3 := Lib.hid I3
        clear cc IH hK hk1 hk2 hk3 hk12 hk22 hh hh2 hp hq hH I1 I2 I3
        have C0 := cs_new w #[.int .i64 t.eb, .int .i64 t.et, .int .i64 t.en, .int .i64 t.ed, .int .i64 t.er, .int .i64 t.el, .int .i64 t.ex, .int .i64 t.ep, .int .i64 t.ek, .int .i64 t.es, .int .i64 t.ee] 23
        have hg := gb_alloc (gb_refl w none) (Obj.cells #[.int .i64 t.eb, .int .i64 t.et, .int .i64 t.en, .int .i64 t.ed, .int .i64 t.er, .int .i64 t.el, .int .i64 t.ex, .int .i64 t.ep, .int .i64 t.ek, .int .i64 t.es, .int .i64 t.ee] 23)
        have HG := Lib.hid hg
        have HC0 := Lib.hid C0
        clear C0 hg
        go_enter Tryz.func25, Tryz.ntmps25
        have c0 := HC0.out.cell 0 rfl
        have c1 := HC0.out.cell 1 rfl
        have c2 := HC0.out.cell 2 rfl
        have c3 := HC0.out.cell 3 rfl
        have c4 := HC0.out.cell 4 rfl
        have c5 := HC0.out.cell 5 rfl
        have c6 := HC0.out.cell 6 rfl
        have c7 := HC0.out.cell 7 rfl
        have c8 := HC0.out.cell 8 rfl
        have c9 := HC0.out.cell 9 rfl
        have c10 := HC0.out.cell 10 rfl
        go_wp2_with fail
        refine (HR.out _).mono ?_
        rintro e w2 ⟨rfl, g2⟩
        have HC2 := Lib.hid (HC0.out.grown0 g2)
        have G2 := Lib.hid (gb_trans HG.out g2)
        clear c0 c1 c2 c3 c4 c5 c6 c7 c8 c9 c10 HC0 g2 HG HR
        go_wp2
        have HSF : Hid (∀ W, Cs W w.heap.size t.vs → Canon.SF [(⟨w.heap.size, 0, none⟩, t.v), (⟨w.heap.size, 0, none⟩, t.v)] W) := Lib.hid (fun W C => Canon.sf_agg (fun j u h => C.at0 j h) (Canon.sf_agg (fun j u h => C.at0 j h) (Canon.sf_nil _)))
        refine Canon.region_held [81, 89] _ (by kernel_rfl) (by kernel_rfl) (HSF.out _ HC2.out) ?_
        have c0 := HC2.out.drew.cell 0 rfl
        have c1 := HC2.out.drew.cell 1 rfl
        have c2 := HC2.out.drew.cell 2 rfl
        have c3 := HC2.out.drew.cell 3 rfl
        have c4 := HC2.out.drew.cell 4 rfl
        have c5 := HC2.out.drew.cell 5 rfl
        have c6 := HC2.out.drew.cell 6 rfl
        have c7 := HC2.out.drew.cell 7 rfl
        have c8 := HC2.out.drew.cell 8 rfl
        have c9 := HC2.out.drew.cell 9 rfl
        have c10 := HC2.out.drew.cell 10 rfl
        refine Canon.segs_at 3 _ _ _ (by kernel_rfl) ?_
        simp only [List.take_succ_cons, List.take_zero, List.drop_succ_cons, List.drop_zero]
        go_wp2_with fail
        refine (HI1.out _).mono ?_
        rintro e w3 ⟨rfl, g3⟩
        have HC3 := Lib.hid (HC2.out.drew.grown0 g3)
        have G3 := Lib.hid (gb_trans (gb_drew G2.out) g3)
        clear c0 c1 c2 c3 c4 c5 c6 c7 c8 c9 c10 HC2 g3 G2 HI1
        go_wp2
        refine ⟨HSF.out _ HC3.out, ?_⟩
        have c0 := HC3.out.cell 0 rfl
        have c1 := HC3.out.cell 1 rfl
        have c2 := HC3.out.cell 2 rfl
        have c3 := HC3.out.cell 3 rfl
        have c4 := HC3.out.cell 4 rfl
        have c5 := HC3.out.cell 5 rfl
        have c6 := HC3.out.cell 6 rfl
        have c7 := HC3.out.cell 7 rfl
        have c8 := HC3.out.cell 8 rfl
        have c9 := HC3.out.cell 9 rfl
        have c10 := HC3.out.cell 10 rfl
        refine Canon.segs_at 5 _ _ _ (by kernel_rfl) ?_
        simp only [List.take_succ_cons, List.take_zero, List.drop_succ_cons, List.drop_zero]
        go_wp2_with fail
        refine (HI2.out _).mono ?_
        rintro e w4 ⟨rfl, g4⟩
        have HC4 := Lib.hid (HC3.out.grown0 g4)
        have G4 := Lib.hid (gb_trans G3.out g4)
        clear c0 c1 c2 c3 c4 c5 c6 c7 c8 c9 c10 HC3 g4 G3 HI2
        go_wp2
        refine ⟨HSF.out _ HC4.out, ?_⟩
        have c0 := HC4.out.cell 0 rfl
        have c1 := HC4.out.cell 1 rfl
        have c2 := HC4.out.cell 2 rfl
        have c3 := HC4.out.cell 3 rfl
        have c4 := HC4.out.cell 4 rfl
        have c5 := HC4.out.cell 5 rfl
        have c6 := HC4.out.cell 6 rfl
        have c7 := HC4.out.cell 7 rfl
        have c8 := HC4.out.cell 8 rfl
        have c9 := HC4.out.cell 9 rfl
        have c10 := HC4.out.cell 10 rfl
        refine Canon.segs_at 11 _ _ _ (by kernel_rfl) ?_
        simp only [List.take_succ_cons, List.take_zero, List.drop_succ_cons, List.drop_zero]
        go_wp2_with fail
        refine (HI3.out _).mono ?_
        rintro e w5 ⟨rfl, g5⟩
        have HC5 := Lib.hid (HC4.out.grown0 g5)
        have G5 := Lib.hid (gb_trans G4.out g5)
        clear c0 c1 c2 c3 c4 c5 c6 c7 c8 c9 c10 HC4 g5 G4 HI3
        go_wp2
        refine ⟨HSF.out _ HC5.out, ?_⟩
        refine Canon.segs_end _ _ _ (by kernel_rfl) ?_
        go_wp2
        refine ⟨by kernel_rfl, by kernel_rfl, by kernel_rfl, ?_⟩
        go_wp2
        go_ret
        exact ⟨rfl, G5.out⟩
      · have q := rt_5 cc
        have b4 := t.clamp_ok.eb.1
        rw [cc] at HR
        rw [cost_5 hMN cc] at hK
        have TR : Hid (∀ w, Calls Tryz.prog 50 #[.int .i64 m, .int .i64 n, .int .i64 3] w fun e w' => e = .returned (.int .i64 (K : Nat)) ∧ w.grownBy w' none) := Lib.hid (fun w => by rw [hK]; exact rtransf_c w m n 3 (by omega) (by omega) (by decide) (by omega))
        clear cc IH hK
        have C0 := cs_new w #[.int .i64 t.eb, .int .i64 t.et, .int .i64 t.en, .int .i64 t.ed, .int .i64 t.er, .int .i64 t.el, .int .i64 t.ex, .int .i64 t.ep, .int .i64 t.ek, .int .i64 t.es, .int .i64 t.ee] 23
        have hg := gb_alloc (gb_refl w none) (Obj.cells #[.int .i64 t.eb, .int .i64 t.et, .int .i64 t.en, .int .i64 t.ed, .int .i64 t.er, .int .i64 t.el, .int .i64 t.ex, .int .i64 t.ep, .int .i64 t.ek, .int .i64 t.es, .int .i64 t.ee] 23)
        have HG := Lib.hid hg
        have HC0 := Lib.hid C0
        clear C0 hg
        go_enter Tryz.func25, Tryz.ntmps25
        have c0 := HC0.out.cell 0 rfl
        have c1 := HC0.out.cell 1 rfl
        have c2 := HC0.out.cell 2 rfl
        have c3 := HC0.out.cell 3 rfl
        have c4 := HC0.out.cell 4 rfl
        have c5 := HC0.out.cell 5 rfl
        have c6 := HC0.out.cell 6 rfl
        have c7 := HC0.out.cell 7 rfl
        have c8 := HC0.out.cell 8 rfl
        have c9 := HC0.out.cell 9 rfl
        have c10 := HC0.out.cell 10 rfl
        go_wp2_with fail
        refine (HR.out _).mono ?_
        rintro e w2 ⟨rfl, g2⟩
        have HC2 := Lib.hid (HC0.out.grown0 g2)
        have G2 := Lib.hid (gb_trans HG.out g2)
        clear c0 c1 c2 c3 c4 c5 c6 c7 c8 c9 c10 HC0 g2 HG HR
        go_wp2_with fail
        refine (TR.out _).mono ?_
        rintro e w3 ⟨rfl, g3⟩
        have G3 := Lib.hid (gb_trans G2.out g3)
        clear g3 TR
        go_wp2
        go_ret
        exact ⟨rfl, G3.out⟩
    · have h' : ¬ n < m := by omega
      have HR := Lib.hid (fun w => rroute_c w t n m (by omega) (by omega))
      rw [Nat.max_eq_left hMN, Nat.min_eq_right hMN] at HR
      have hcase : rt t.clamp n m = 0 ∨ rt t.clamp n m = 1 ∨ rt t.clamp n m = 2 ∨ rt t.clamp n m = 3 ∨ rt t.clamp n m = 4 ∨ rt t.clamp n m = 5 := by have := rt_le t.clamp n m; omega
      obtain ⟨K, hK⟩ : ∃ K, K = cost t.clamp n m := ⟨_, rfl⟩
      have bK : K ≤ 10000000 := by rw [hK]; exact cost_lim t.clamp_ok (by omega)
      rw [← hK]
      rcases hcase with cc | cc | cc | cc | cc | cc
      · rw [cc] at HR
        rw [cost_0 hMN cc] at hK
        subst hK
        clear cc IH
        have C0 := cs_new w #[.int .i64 t.eb, .int .i64 t.et, .int .i64 t.en, .int .i64 t.ed, .int .i64 t.er, .int .i64 t.el, .int .i64 t.ex, .int .i64 t.ep, .int .i64 t.ek, .int .i64 t.es, .int .i64 t.ee] 23
        have hg := gb_alloc (gb_refl w none) (Obj.cells #[.int .i64 t.eb, .int .i64 t.et, .int .i64 t.en, .int .i64 t.ed, .int .i64 t.er, .int .i64 t.el, .int .i64 t.ex, .int .i64 t.ep, .int .i64 t.ek, .int .i64 t.es, .int .i64 t.ee] 23)
        have HG := Lib.hid hg
        have HC0 := Lib.hid C0
        clear C0 hg
        go_enter Tryz.func25, Tryz.ntmps25
        have c0 := HC0.out.cell 0 rfl
        have c1 := HC0.out.cell 1 rfl
        have c2 := HC0.out.cell 2 rfl
        have c3 := HC0.out.cell 3 rfl
        have c4 := HC0.out.cell 4 rfl
        have c5 := HC0.out.cell 5 rfl
        have c6 := HC0.out.cell 6 rfl
        have c7 := HC0.out.cell 7 rfl
        have c8 := HC0.out.cell 8 rfl
        have c9 := HC0.out.cell 9 rfl
        have c10 := HC0.out.cell 10 rfl
        go_wp2_with fail
        refine (HR.out _).mono ?_
        rintro e w2 ⟨rfl, g2⟩
        have HC2 := Lib.hid (HC0.out.grown0 g2)
        have G2 := Lib.hid (gb_trans HG.out g2)
        clear c0 c1 c2 c3 c4 c5 c6 c7 c8 c9 c10 HC0 g2 HG HR
        go_wp2
        go_ret
        exact ⟨rfl, G2.out⟩
      · rw [cc] at HR
        rw [cost_1 hMN cc] at hK
        have eK : (n : Int) * (m : Int) = (K : Int) := by rw [hK, Int.natCast_mul]
        clear cc IH hK
        have C0 := cs_new w #[.int .i64 t.eb, .int .i64 t.et, .int .i64 t.en, .int .i64 t.ed, .int .i64 t.er, .int .i64 t.el, .int .i64 t.ex, .int .i64 t.ep, .int .i64 t.ek, .int .i64 t.es, .int .i64 t.ee] 23
        have hg := gb_alloc (gb_refl w none) (Obj.cells #[.int .i64 t.eb, .int .i64 t.et, .int .i64 t.en, .int .i64 t.ed, .int .i64 t.er, .int .i64 t.el, .int .i64 t.ex, .int .i64 t.ep, .int .i64 t.ek, .int .i64 t.es, .int .i64 t.ee] 23)
        have HG := Lib.hid hg
        have HC0 := Lib.hid C0
        clear C0 hg
        go_enter Tryz.func25, Tryz.ntmps25
        have c0 := HC0.out.cell 0 rfl
        have c1 := HC0.out.cell 1 rfl
        have c2 := HC0.out.cell 2 rfl
        have c3 := HC0.out.cell 3 rfl
        have c4 := HC0.out.cell 4 rfl
        have c5 := HC0.out.cell 5 rfl
        have c6 := HC0.out.cell 6 rfl
        have c7 := HC0.out.cell 7 rfl
        have c8 := HC0.out.cell 8 rfl
        have c9 := HC0.out.cell 9 rfl
        have c10 := HC0.out.cell 10 rfl
        go_wp2_with fail
        refine (HR.out _).mono ?_
        rintro e w2 ⟨rfl, g2⟩
        have HC2 := Lib.hid (HC0.out.grown0 g2)
        have G2 := Lib.hid (gb_trans HG.out g2)
        clear c0 c1 c2 c3 c4 c5 c6 c7 c8 c9 c10 HC0 g2 HG HR
        go_wp2
        go_ret
        exact ⟨rfl, G2.out⟩
      · have q := rt_2 cc
        have b4 := t.clamp_ok.eb.1
        have lt := Nat.mod_lt n q.1
        rw [cc] at HR
        rw [cost_2 t.clamp_ok hMN cc] at hK
        have HI1 := Lib.hid (fun w => IH m m (by omega) w)
        have HI2 := Lib.hid (fun w => IH m (n % m) (by omega) w)
        rw [cost_comm t.clamp m (n % m)] at HI2
        obtain ⟨k1, hk1⟩ : ∃ k, k = cost t.clamp m m := ⟨_, rfl⟩
        obtain ⟨k2, hk2⟩ : ∃ k, k = cost t.clamp (n % m) m := ⟨_, rfl⟩
        rw [← hk1, ← hk2] at hK
        rw [← hk1] at HI1
        rw [← hk2] at HI2
        obtain ⟨D, hD⟩ : ∃ D, D = n / m := ⟨_, rfl⟩
        obtain ⟨R, hRR⟩ : ∃ D, D = n % m := ⟨_, rfl⟩
        obtain ⟨J, hJ⟩ : ∃ J, J = D * k1 := ⟨_, rfl⟩
        unfold pall at hK
        rw [← hD, ← hRR, ← hJ] at hK
        rw [← hRR] at HI2
        have eD : (n : Int) / (m : Int) = (D : Int) := by rw [hD]; exact (Int.natCast_ediv _ _).symm
        have eD2 : (n : Int).tdiv (m : Int) = (D : Int) := by rw [Int.tdiv_eq_ediv_of_nonneg (by omega)]; exact eD
        have eR : (n : Int) % (m : Int) = (R : Int) := by rw [hRR]; exact (Int.natCast_emod _ _).symm
        have eR2 : (n : Int).tmod (m : Int) = (R : Int) := by rw [Int.tmod_eq_emod_of_nonneg (by omega)]; exact eR
        have m0 : ((m : Int) == 0) = false := by
          have : ¬ (m : Int) = 0 := by omega
          simpa using this
        have eJ : (D : Int) * (k1 : Int) = (J : Int) := by rw [hJ, Int.natCast_mul]
        have bJ : J ≤ 10000000 := by omega
        have bD : D ≤ 1024 := by rw [hD]; exact Nat.le_trans (Nat.div_le_self _ _) (by omega)
        have bR : R ≤ 1024 := by omega
        have bk1 : k1 ≤ 10000000 := by rw [hk1]; exact cost_lim t.clamp_ok (by omega)
        have bk2 : k2 ≤ 10000000 := by rw [hk2]; exact cost_lim t.clamp_ok (by omega)
        clear cc IH hk1 hk2 hD hRR hJ lt
        by_cases hR0 : 0 < R
        · rw [if_pos hR0] at hK
          have eKK : (J : Int) + (k2 : Int) = (K : Int) := by omega
          clear hK
          have C0 := cs_new w #[.int .i64 t.eb, .int .i64 t.et, .int .i64 t.en, .int .i64 t.ed, .int .i64 t.er, .int .i64 t.el, .int .i64 t.ex, .int .i64 t.ep, .int .i64 t.ek, .int .i64 t.es, .int .i64 t.ee] 23
          have hg := gb_alloc (gb_refl w none) (Obj.cells #[.int .i64 t.eb, .int .i64 t.et, .int .i64 t.en, .int .i64 t.ed, .int .i64 t.er, .int .i64 t.el, .int .i64 t.ex, .int .i64 t.ep, .int .i64 t.ek, .int .i64 t.es, .int .i64 t.ee] 23)
          have HG := Lib.hid hg
          have HC0 := Lib.hid C0
          clear C0 hg
          go_enter Tryz.func25, Tryz.ntmps25
          have c0 := HC0.out.cell 0 rfl
          have c1 := HC0.out.cell 1 rfl
          have c2 := HC0.out.cell 2 rfl
          have c3 := HC0.out.cell 3 rfl
          have c4 := HC0.out.cell 4 rfl
          have c5 := HC0.out.cell 5 rfl
          have c6 := HC0.out.cell 6 rfl
          have c7 := HC0.out.cell 7 rfl
          have c8 := HC0.out.cell 8 rfl
          have c9 := HC0.out.cell 9 rfl
          have c10 := HC0.out.cell 10 rfl
          go_wp2_with fail
          refine (HR.out _).mono ?_
          rintro e w2 ⟨rfl, g2⟩
          have HC2 := Lib.hid (HC0.out.grown0 g2)
          have G2 := Lib.hid (gb_trans HG.out g2)
          clear c0 c1 c2 c3 c4 c5 c6 c7 c8 c9 c10 HC0 g2 HG HR
          go_wp2
          refine Canon.region_canon (by kernel_rfl) (by kernel_rfl) ?_
          have c0 := HC2.out.drew.cell 0 rfl
          have c1 := HC2.out.drew.cell 1 rfl
          have c2 := HC2.out.drew.cell 2 rfl
          have c3 := HC2.out.drew.cell 3 rfl
          have c4 := HC2.out.drew.cell 4 rfl
          have c5 := HC2.out.drew.cell 5 rfl
          have c6 := HC2.out.drew.cell 6 rfl
          have c7 := HC2.out.drew.cell 7 rfl
          have c8 := HC2.out.drew.cell 8 rfl
          have c9 := HC2.out.drew.cell 9 rfl
          have c10 := HC2.out.drew.cell 10 rfl
          go_wp2_with fail
          refine (HI1.out _).mono ?_
          rintro e w3 ⟨rfl, g3⟩
          have HC3 := Lib.hid (HC2.out.drew.grown0 g3)
          have G3 := Lib.hid (gb_trans (gb_drew G2.out) g3)
          clear c0 c1 c2 c3 c4 c5 c6 c7 c8 c9 c10 HC2 g3 G2 HI1
          go_wp2
          refine ⟨by kernel_rfl, ?_⟩
          go_wp2
          refine Canon.region_canon (by kernel_rfl) (by kernel_rfl) ?_
          have c0 := HC3.out.drew.cell 0 rfl
          have c1 := HC3.out.drew.cell 1 rfl
          have c2 := HC3.out.drew.cell 2 rfl
          have c3 := HC3.out.drew.cell 3 rfl
          have c4 := HC3.out.drew.cell 4 rfl
          have c5 := HC3.out.drew.cell 5 rfl
          have c6 := HC3.out.drew.cell 6 rfl
          have c7 := HC3.out.drew.cell 7 rfl
          have c8 := HC3.out.drew.cell 8 rfl
          have c9 := HC3.out.drew.cell 9 rfl
          have c10 := HC3.out.drew.cell 10 rfl
          go_wp2_with fail
          refine (HI2.out _).mono ?_
          rintro e w4 ⟨rfl, g4⟩
          have G4 := Lib.hid (gb_trans (gb_drew G3.out) g4)
          clear c0 c1 c2 c3 c4 c5 c6 c7 c8 c9 c10 HC3 g4 G3 HI2
          go_wp2
          refine ⟨by kernel_rfl, ?_⟩
          go_wp2
          go_ret
          exact ⟨rfl, G4.out⟩
        · obtain rfl : R = 0 := by omega
          rw [if_neg hR0, Nat.add_zero] at hK
          subst hK
          have C0 := cs_new w #[.int .i64 t.eb, .int .i64 t.et, .int .i64 t.en, .int .i64 t.ed, .int .i64 t.er, .int .i64 t.el, .int .i64 t.ex, .int .i64 t.ep, .int .i64 t.ek, .int .i64 t.es, .int .i64 t.ee] 23
          have hg := gb_alloc (gb_refl w none) (Obj.cells #[.int .i64 t.eb, .int .i64 t.et, .int .i64 t.en, .int .i64 t.ed, .int .i64 t.er, .int .i64 t.el, .int .i64 t.ex, .int .i64 t.ep, .int .i64 t.ek, .int .i64 t.es, .int .i64 t.ee] 23)
          have HG := Lib.hid hg
          have HC0 := Lib.hid C0
          clear C0 hg
          go_enter Tryz.func25, Tryz.ntmps25
          have c0 := HC0.out.cell 0 rfl
          have c1 := HC0.out.cell 1 rfl
          have c2 := HC0.out.cell 2 rfl
          have c3 := HC0.out.cell 3 rfl
          have c4 := HC0.out.cell 4 rfl
          have c5 := HC0.out.cell 5 rfl
          have c6 := HC0.out.cell 6 rfl
          have c7 := HC0.out.cell 7 rfl
          have c8 := HC0.out.cell 8 rfl
          have c9 := HC0.out.cell 9 rfl
          have c10 := HC0.out.cell 10 rfl
          go_wp2_with fail
          refine (HR.out _).mono ?_
          rintro e w2 ⟨rfl, g2⟩
          have HC2 := Lib.hid (HC0.out.grown0 g2)
          have G2 := Lib.hid (gb_trans HG.out g2)
          clear c0 c1 c2 c3 c4 c5 c6 c7 c8 c9 c10 HC0 g2 HG HR
          go_wp2
          refine Canon.region_canon (by kernel_rfl) (by kernel_rfl) ?_
          have c0 := HC2.out.drew.cell 0 rfl
          have c1 := HC2.out.drew.cell 1 rfl
          have c2 := HC2.out.drew.cell 2 rfl
          have c3 := HC2.out.drew.cell 3 rfl
          have c4 := HC2.out.drew.cell 4 rfl
          have c5 := HC2.out.drew.cell 5 rfl
          have c6 := HC2.out.drew.cell 6 rfl
          have c7 := HC2.out.drew.cell 7 rfl
          have c8 := HC2.out.drew.cell 8 rfl
          have c9 := HC2.out.drew.cell 9 rfl
          have c10 := HC2.out.drew.cell 10 rfl
          go_wp2_with fail
          refine (HI1.out _).mono ?_
          rintro e w3 ⟨rfl, g3⟩
          have G3 := Lib.hid (gb_trans (gb_drew G2.out) g3)
          clear c0 c1 c2 c3 c4 c5 c6 c7 c8 c9 c10 HC2 g3 G2 HI1
          go_wp2
          refine ⟨by kernel_rfl, ?_⟩
          go_wp2
          go_ret
          exact ⟨rfl, G3.out⟩
      · have q := rt_3 cc
        have b4 := t.clamp_ok.eb.1
        rw [cc] at HR
        rw [cost_3 t.clamp_ok hMN cc] at hK
        have I1 := fun w => IH ((n + 1) / 2) ((n + 1) / 2) (by omega) w
        have I2 := fun w => IH (n - (n + 1) / 2) (m - (n + 1) / 2) (by omega) w
        have I3 := fun w => IH ((n + 1) / 2 + 1) ((n + 1) / 2 + 1) (by omega) w
        obtain ⟨h, hh⟩ : ∃ q, q = (n + 1) / 2 := ⟨_, rfl⟩
        obtain ⟨p, hp⟩ : ∃ q, q = n - h := ⟨_, rfl⟩
        obtain ⟨q', hq⟩ : ∃ q, q = m - h := ⟨_, rfl⟩
        obtain ⟨H, hH⟩ : ∃ H, H = h + 1 := ⟨_, rfl⟩
        have e1 : ((n : Int) + 1) / 2 = (h : Int) := by omega
        have e2 : (n : Int) - (h : Int) = (p : Int) := by omega
        have e3 : (m : Int) - (h : Int) = (q' : Int) := by omega
        have e4 : (h : Int) + 1 = (H : Int) := by omega
        rw [← hh] at I1 I2 I3 hK
        rw [← hp, ← hq] at I2 hK
        rw [← hH] at I3 hK
        obtain ⟨k1, hk1⟩ : ∃ k, k = cost t.clamp h h := ⟨_, rfl⟩
        obtain ⟨k2, hk2⟩ : ∃ k, k = cost t.clamp p q' := ⟨_, rfl⟩
        obtain ⟨k3, hk3⟩ : ∃ k, k = cost t.clamp H H := ⟨_, rfl⟩
        rw [← hk1, ← hk2, ← hk3] at hK
        rw [← hk1] at I1
        rw [← hk2] at I2
        rw [← hk3] at I3
        obtain ⟨k12, hk12⟩ : ∃ k, k = k1 + k2 := ⟨_, rfl⟩
        have f1 : (k1 : Int) + (k2 : Int) = (k12 : Int) := by omega
        have f2 : (k12 : Int) + (k3 : Int) = (K : Int) := by omega
        have bb : h ≤ 1024 ∧ p ≤ 1024 ∧ q' ≤ 1024 ∧ H ≤ 1025 ∧ k1 ≤ 10000000 ∧ k2 ≤ 10000000 ∧ k3 ≤ 10000000 ∧ k12 ≤ 10000000 := by omega
        have HI1 := Lib.hid I1
        have HI2 := Lib.hid I2
        have HI3 := Lib.hid I3
        clear cc IH hK hk1 hk2 hk3 hk12 hh hp hq hH I1 I2 I3
        have C0 := cs_new w #[.int .i64 t.eb, .int .i64 t.et, .int .i64 t.en, .int .i64 t.ed, .int .i64 t.er, .int .i64 t.el, .int .i64 t.ex, .int .i64 t.ep, .int .i64 t.ek, .int .i64 t.es, .int .i64 t.ee] 23
        have hg := gb_alloc (gb_refl w none) (Obj.cells #[.int .i64 t.eb, .int .i64 t.et, .int .i64 t.en, .int .i64 t.ed, .int .i64 t.er, .int .i64 t.el, .int .i64 t.ex, .int .i64 t.ep, .int .i64 t.ek, .int .i64 t.es, .int .i64 t.ee] 23)
        have HG := Lib.hid hg
        have HC0 := Lib.hid C0
        clear C0 hg
        go_enter Tryz.func25, Tryz.ntmps25
        have c0 := HC0.out.cell 0 rfl
        have c1 := HC0.out.cell 1 rfl
        have c2 := HC0.out.cell 2 rfl
        have c3 := HC0.out.cell 3 rfl
        have c4 := HC0.out.cell 4 rfl
        have c5 := HC0.out.cell 5 rfl
        have c6 := HC0.out.cell 6 rfl
        have c7 := HC0.out.cell 7 rfl
        have c8 := HC0.out.cell 8 rfl
        have c9 := HC0.out.cell 9 rfl
        have c10 := HC0.out.cell 10 rfl
        go_wp2_with fail
        refine (HR.out _).mono ?_
        rintro e w2 ⟨rfl, g2⟩
        have HC2 := Lib.hid (HC0.out.grown0 g2)
        have G2 := Lib.hid (gb_trans HG.out g2)
        clear c0 c1 c2 c3 c4 c5 c6 c7 c8 c9 c10 HC0 g2 HG HR
        go_wp2
        have HSF : Hid (∀ W, Cs W w.heap.size t.vs → Canon.SF [(⟨w.heap.size, 0, none⟩, t.v), (⟨w.heap.size, 0, none⟩, t.v)] W) := Lib.hid (fun W C => Canon.sf_agg (fun j u h => C.at0 j h) (Canon.sf_agg (fun j u h => C.at0 j h) (Canon.sf_nil _)))
        refine Canon.region_held [56, 65] _ (by kernel_rfl) (by kernel_rfl) (HSF.out _ HC2.out) ?_
        have c0 := HC2.out.drew.cell 0 rfl
        have c1 := HC2.out.drew.cell 1 rfl
        have c2 := HC2.out.drew.cell 2 rfl
        have c3 := HC2.out.drew.cell 3 rfl
        have c4 := HC2.out.drew.cell 4 rfl
        have c5 := HC2.out.drew.cell 5 rfl
        have c6 := HC2.out.drew.cell 6 rfl
        have c7 := HC2.out.drew.cell 7 rfl
        have c8 := HC2.out.drew.cell 8 rfl
        have c9 := HC2.out.drew.cell 9 rfl
        have c10 := HC2.out.drew.cell 10 rfl
        refine Canon.segs_at 3 _ _ _ (by kernel_rfl) ?_
        simp only [List.take_succ_cons, List.take_zero, List.drop_succ_cons, List.drop_zero]
        go_wp2_with fail
        refine (HI1.out _).mono ?_
        rintro e w3 ⟨rfl, g3⟩
        have HC3 := Lib.hid (HC2.out.drew.grown0 g3)
        have G3 := Lib.hid (gb_trans (gb_drew G2.out) g3)
        clear c0 c1 c2 c3 c4 c5 c6 c7 c8 c9 c10 HC2 g3 G2 HI1
        go_wp2
        refine ⟨HSF.out _ HC3.out, ?_⟩
        have c0 := HC3.out.cell 0 rfl
        have c1 := HC3.out.cell 1 rfl
        have c2 := HC3.out.cell 2 rfl
        have c3 := HC3.out.cell 3 rfl
        have c4 := HC3.out.cell 4 rfl
        have c5 := HC3.out.cell 5 rfl
        have c6 := HC3.out.cell 6 rfl
        have c7 := HC3.out.cell 7 rfl
        have c8 := HC3.out.cell 8 rfl
        have c9 := HC3.out.cell 9 rfl
        have c10 := HC3.out.cell 10 rfl
        refine Canon.segs_at 7 _ _ _ (by kernel_rfl) ?_
        simp only [List.take_succ_cons, List.take_zero, List.drop_succ_cons, List.drop_zero]
        go_wp2_with fail
        refine (HI2.out _).mono ?_
        rintro e w4 ⟨rfl, g4⟩
        have HC4 := Lib.hid (HC3.out.grown0 g4)
        have G4 := Lib.hid (gb_trans G3.out g4)
        clear c0 c1 c2 c3 c4 c5 c6 c7 c8 c9 c10 HC3 g4 G3 HI2
        go_wp2
        refine ⟨HSF.out _ HC4.out, ?_⟩
        have c0 := HC4.out.cell 0 rfl
        have c1 := HC4.out.cell 1 rfl
        have c2 := HC4.out.cell 2 rfl
        have c3 := HC4.out.cell 3 rfl
        have c4 := HC4.out.cell 4 rfl
        have c5 := HC4.out.cell 5 rfl
        have c6 := HC4.out.cell 6 rfl
        have c7 := HC4.out.cell 7 rfl
        have c8 := HC4.out.cell 8 rfl
        have c9 := HC4.out.cell 9 rfl
        have c10 := HC4.out.cell 10 rfl
        refine Canon.segs_at 6 _ _ _ (by kernel_rfl) ?_
        simp only [List.take_succ_cons, List.take_zero, List.drop_succ_cons, List.drop_zero]
        go_wp2_with fail
        refine (HI3.out _).mono ?_
        rintro e w5 ⟨rfl, g5⟩
        have HC5 := Lib.hid (HC4.out.grown0 g5)
        have G5 := Lib.hid (gb_trans G4.out g5)
        clear c0 c1 c2 c3 c4 c5 c6 c7 c8 c9 c10 HC4 g5 G4 HI3
        go_wp2
        refine ⟨HSF.out _ HC5.out, ?_⟩
        refine Canon.segs_end _ _ _ (by kernel_rfl) ?_
        go_wp2
        refine ⟨by kernel_rfl, by kernel_rfl, by kernel_rfl, ?_⟩
        go_wp2
        go_ret
        exact ⟨rfl, G5.out⟩
      · have q := rt_4 cc
        have b4 := t.clamp_ok.eb.1
        rw [cc] at HR
        rw [cost_4 t.clamp_ok hMN cc] at hK
        have I1 := fun w => IH ((n + 2) / 3) ((n + 2) / 3) (by omega) w
        have I2 := fun w => IH ((n + 2) / 3 + 1) ((n + 2) / 3 + 1) (by omega) w
        have I3 := fun w => IH (n - 2 * ((n + 2) / 3)) (m - 2 * ((n + 2) / 3)) (by omega) w
        obtain ⟨h, hh⟩ : ∃ q, q = (n + 2) / 3 := ⟨_, rfl⟩
        obtain ⟨h2, hh2⟩ : ∃ q, q = 2 * h := ⟨_, rfl⟩
        obtain ⟨p, hp⟩ : ∃ q, q = n - h2 := ⟨_, rfl⟩
        obtain ⟨q', hq⟩ : ∃ q, q = m - h2 := ⟨_, rfl⟩
        obtain ⟨H, hH⟩ : ∃ H, H = h + 1 := ⟨_, rfl⟩
        have e1 : ((n : Int) + 2) / 3 = (h : Int) := by omega
        have e1' : 2 * (h : Int) = (h2 : Int) := by omega
        have e2 : (n : Int) - (h2 : Int) = (p : Int) := by omega
        have e3 : (m : Int) - (h2 : Int) = (q' : Int) := by omega
        have e4 : (h : Int) + 1 = (H : Int) := by omega
        rw [← hh] at I1 I2 I3 hK
        rw [← hh2] at I3 hK
        rw [← hp, ← hq] at I3 hK
        rw [← hH] at I2 hK
        obtain ⟨k1, hk1⟩ : ∃ k, k = cost t.clamp h h := ⟨_, rfl⟩
        obtain ⟨k2, hk2⟩ : ∃ k, k = cost t.clamp H H := ⟨_, rfl⟩
        obtain ⟨k3, hk3⟩ : ∃ k, k = cost t.clamp p q' := ⟨_, rfl⟩
        rw [← hk1, ← hk2, ← hk3] at hK
        rw [← hk1] at I1
        rw [← hk2] at I2
        rw [← hk3] at I3
        obtain ⟨k22, hk22⟩ : ∃ k, k = 3 * k2 := ⟨_, rfl⟩
        obtain ⟨k12, hk12⟩ : ∃ k, k = k1 + k22 := ⟨_, rfl⟩
        have f0 : 3 * (k2 : Int) = (k22 : Int) := by omega
        have f1 : (k1 : Int) + (k22 : Int) = (k12 : Int) := by omega
        have f2 : (k12 : Int) + (k3 : Int) = (K : Int) := by omega
        have bb : h ≤ 1024 ∧ h2 ≤ 1024 ∧ p ≤ 1024 ∧ q' ≤ 1024 ∧ H ≤ 1025 ∧ k1 ≤ 10000000 ∧ k2 ≤ 10000000 ∧ k3 ≤ 10000000 ∧ k12 ≤ 10000000 ∧ k22 ≤ 10000000 := by omega
        have HI1 := Lib.hid I1
        have HI2 := Lib.hid I2
        have HI3 := Lib.hid I3
        clear cc IH hK hk1 hk2 hk3 hk12 hk22 hh hh2 hp hq hH I1 I2 I3
        have C0 := cs_new w #[.int .i64 t.eb, .int .i64 t.et, .int .i64 t.en, .int .i64 t.ed, .int .i64 t.er, .int .i64 t.el, .int .i64 t.ex, .int .i64 t.ep, .int .i64 t.ek, .int .i64 t.es, .int .i64 t.ee] 23
        have hg := gb_alloc (gb_refl w none) (Obj.cells #[.int .i64 t.eb, .int .i64 t.et, .int .i64 t.en, .int .i64 t.ed, .int .i64 t.er, .int .i64 t.el, .int .i64 t.ex, .int .i64 t.ep, .int .i64 t.ek, .int .i64 t.es, .int .i64 t.ee] 23)
        have HG := Lib.hid hg
        have HC0 := Lib.hid C0
        clear C0 hg
        go_enter Tryz.func25, Tryz.ntmps25
        have c0 := HC0.out.cell 0 rfl
        have c1 := HC0.out.cell 1 rfl
        have c2 := HC0.out.cell 2 rfl
        have c3 := HC0.out.cell 3 rfl
        have c4 := HC0.out.cell 4 rfl
        have c5 := HC0.out.cell 5 rfl
        have c6 := HC0.out.cell 6 rfl
        have c7 := HC0.out.cell 7 rfl
        have c8 := HC0.out.cell 8 rfl
        have c9 := HC0.out.cell 9 rfl
        have c10 := HC0.out.cell 10 rfl
        go_wp2_with fail
        refine (HR.out _).mono ?_
        rintro e w2 ⟨rfl, g2⟩
        have HC2 := Lib.hid (HC0.out.grown0 g2)
        have G2 := Lib.hid (gb_trans HG.out g2)
        clear c0 c1 c2 c3 c4 c5 c6 c7 c8 c9 c10 HC0 g2 HG HR
        go_wp2
        have HSF : Hid (∀ W, Cs W w.heap.size t.vs → Canon.SF [(⟨w.heap.size, 0, none⟩, t.v), (⟨w.heap.size, 0, none⟩, t.v)] W) := Lib.hid (fun W C => Canon.sf_agg (fun j u h => C.at0 j h) (Canon.sf_agg (fun j u h => C.at0 j h) (Canon.sf_nil _)))
        refine Canon.region_held [81, 89] _ (by kernel_rfl) (by kernel_rfl) (HSF.out _ HC2.out) ?_
        have c0 := HC2.out.drew.cell 0 rfl
        have c1 := HC2.out.drew.cell 1 rfl
        have c2 := HC2.out.drew.cell 2 rfl
        have c3 := HC2.out.drew.cell 3 rfl
        have c4 := HC2.out.drew.cell 4 rfl
        have c5 := HC2.out.drew.cell 5 rfl
        have c6 := HC2.out.drew.cell 6 rfl
        have c7 := HC2.out.drew.cell 7 rfl
        have c8 := HC2.out.drew.cell 8 rfl
        have c9 := HC2.out.drew.cell 9 rfl
        have c10 := HC2.out.drew.cell 10 rfl
        refine Canon.segs_at 3 _ _ _ (by kernel_rfl) ?_
        simp only [List.take_succ_cons, List.take_zero, List.drop_succ_cons, List.drop_zero]
        go_wp2_with fail
        refine (HI1.out _).mono ?_
        rintro e w3 ⟨rfl, g3⟩
        have HC3 := Lib.hid (HC2.out.drew.grown0 g3)
        have G3 := Lib.hid (gb_trans (gb_drew G2.out) g3)
        clear c0 c1 c2 c3 c4 c5 c6 c7 c8 c9 c10 HC2 g3 G2 HI1
        go_wp2
        refine ⟨HSF.out _ HC3.out, ?_⟩
        have c0 := HC3.out.cell 0 rfl
        have c1 := HC3.out.cell 1 rfl
        have c2 := HC3.out.cell 2 rfl
        have c3 := HC3.out.cell 3 rfl
        have c4 := HC3.out.cell 4 rfl
        have c5 := HC3.out.cell 5 rfl
        have c6 := HC3.out.cell 6 rfl
        have c7 := HC3.out.cell 7 rfl
        have c8 := HC3.out.cell 8 rfl
        have c9 := HC3.out.cell 9 rfl
        have c10 := HC3.out.cell 10 rfl
        refine Canon.segs_at 5 _ _ _ (by kernel_rfl) ?_
        simp only [List.take_succ_cons, List.take_zero, List.drop_succ_cons, List.drop_zero]
        go_wp2_with fail
        refine (HI2.out _).mono ?_
        rintro e w4 ⟨rfl, g4⟩
        have HC4 := Lib.hid (HC3.out.grown0 g4)
        have G4 := Lib.hid (gb_trans G3.out g4)
        clear c0 c1 c2 c3 c4 c5 c6 c7 c8 c9 c10 HC3 g4 G3 HI2
        go_wp2
        refine ⟨HSF.out _ HC4.out, ?_⟩
        have c0 := HC4.out.cell 0 rfl
        have c1 := HC4.out.cell 1 rfl
        have c2 := HC4.out.cell 2 rfl
        have c3 := HC4.out.cell 3 rfl
        have c4 := HC4.out.cell 4 rfl
        have c5 := HC4.out.cell 5 rfl
        have c6 := HC4.out.cell 6 rfl
        have c7 := HC4.out.cell 7 rfl
        have c8 := HC4.out.cell 8 rfl
        have c9 := HC4.out.cell 9 rfl
        have c10 := HC4.out.cell 10 rfl
        refine Canon.segs_at 11 _ _ _ (by kernel_rfl) ?_
        simp only [List.take_succ_cons, List.take_zero, List.drop_succ_cons, List.drop_zero]
        go_wp2_with fail
        refine (HI3.out _).mono ?_
        rintro e w5 ⟨rfl, g5⟩
        have HC5 := Lib.hid (HC4.out.grown0 g5)
        have G5 := Lib.hid (gb_trans G4.out g5)
        clear c0 c1 c2 c3 c4 c5 c6 c7 c8 c9 c10 HC4 g5 G4 HI3
        go_wp2
        refine ⟨HSF.out _ HC5.out, ?_⟩
        refine Canon.segs_end _ _ _ (by kernel_rfl) ?_
        go_wp2
        refine ⟨by kernel_rfl, by kernel_rfl, by kernel_rfl, ?_⟩
        go_wp2
        go_ret
        exact ⟨rfl, G5.out⟩
      · have q := rt_5 cc
        have b4 := t.clamp_ok.eb.1
        rw [cc] at HR
        rw [cost_5 hMN cc] at hK
        have TR : Hid (∀ w, Calls Tryz.prog 50 #[.int .i64 n, .int .i64 m, .int .i64 3] w fun e w' => e = .returned (.int .i64 (K : Nat)) ∧ w.grownBy w' none) := Lib.hid (fun w => by rw [hK]; exact rtransf_c w n m 3 (by omega) (by omega) (by decide) (by omega))
        clear cc IH hK
        have C0 := cs_new w #[.int .i64 t.eb, .int .i64 t.et, .int .i64 t.en, .int .i64 t.ed, .int .i64 t.er, .int .i64 t.el, .int .i64 t.ex, .int .i64 t.ep, .int .i64 t.ek, .int .i64 t.es, .int .i64 t.ee] 23
        have hg := gb_alloc (gb_refl w none) (Obj.cells #[.int .i64 t.eb, .int .i64 t.et, .int .i64 t.en, .int .i64 t.ed, .int .i64 t.er, .int .i64 t.el, .int .i64 t.ex, .int .i64 t.ep, .int .i64 t.ek, .int .i64 t.es, .int .i64 t.ee] 23)
        have HG := Lib.hid hg
        have HC0 := Lib.hid C0
        clear C0 hg
        go_enter Tryz.func25, Tryz.ntmps25
        have c0 := HC0.out.cell 0 rfl
        have c1 := HC0.out.cell 1 rfl
        have c2 := HC0.out.cell 2 rfl
        have c3 := HC0.out.cell 3 rfl
        have c4 := HC0.out.cell 4 rfl
        have c5 := HC0.out.cell 5 rfl
        have c6 := HC0.out.cell 6 rfl
        have c7 := HC0.out.cell 7 rfl
        have c8 := HC0.out.cell 8 rfl
        have c9 := HC0.out.cell 9 rfl
        have c10 := HC0.out.cell 10 rfl
        go_wp2_with fail
        refine (HR.out _).mono ?_
        rintro e w2 ⟨rfl, g2⟩
        have HC2 := Lib.hid (HC0.out.grown0 g2)
        have G2 := Lib.hid (gb_trans HG.out g2)
        clear c0 c1 c2 c3 c4 c5 c6 c7 c8 c9 c10 HC0 g2 HG HR
        go_wp2_with fail
        refine (TR.out _).mono ?_
        rintro e w3 ⟨rfl, g3⟩
        have G3 := Lib.hid (gb_trans G2.out g3)
        clear g3 TR
        go_wp2
        go_ret
        exact ⟨rfl, G3.out⟩
end Go.Proofs.YtldkiddoajlohaaGreatDoor

/- The reference's costs of squares. -/
namespace Go.Proofs.YtldkiddoajlohaaGreatDoor
open Go.RowKit

set_option maxRecDepth 100000 in
set_option maxHeartbeats 8000000 in
theorem rsq_all (t : Tb) : ∀ (n : Nat), n ≤ 512 → ∀ (w : World), Calls Tryz.prog 39 #[t.v, .int .i64 n] w fun e w' => e = .returned (.int .i64 (sq t.clamp n)) ∧ w.grownBy w' none := by
  intro n
  induction n using Nat.strongRecOn with
  | _ n ih =>
    intro hs w
    have IH : ∀ p, p < n → ∀ (w : World), Calls Tryz.prog 39 #[t.v, .int .i64 p] w fun e w' => e = .returned (.int .i64 (sq t.clamp p)) ∧ w.grownBy w' none := fun p h => ih p h (by omega)
    clear ih
    have HR := Lib.hid (fun w => rroute_c w t n n (by omega) (by omega))
    rw [Nat.max_self, Nat.min_self] at HR
    have hcase : rt t.clamp n n = 0 ∨ rt t.clamp n n = 1 ∨ rt t.clamp n n = 2 ∨ rt t.clamp n n = 3 ∨ rt t.clamp n n = 4 ∨ rt t.clamp n n = 5 := by have := rt_le t.clamp n n; omega
    obtain ⟨K, hK⟩ : ∃ K, K = sq t.clamp n := ⟨_, rfl⟩
    have bK : K ≤ 10000000 := by rw [hK]; exact sq_lim t.clamp_ok hs
    rw [← hK]
    rcases hcase with cc | cc | cc | cc | cc | cc
    · rw [cc] at HR
      rw [sq_0 cc] at hK
      subst hK
      clear cc IH
      have C0 := cs_new w #[.int .i64 t.eb, .int .i64 t.et, .int .i64 t.en, .int .i64 t.ed, .int .i64 t.er, .int .i64 t.el, .int .i64 t.ex, .int .i64 t.ep, .int .i64 t.ek, .int .i64 t.es, .int .i64 t.ee] 23
      have hg := gb_alloc (gb_refl w none) (Obj.cells #[.int .i64 t.eb, .int .i64 t.et, .int .i64 t.en, .int .i64 t.ed, .int .i64 t.er, .int .i64 t.el, .int .i64 t.ex, .int .i64 t.ep, .int .i64 t.ek, .int .i64 t.es, .int .i64 t.ee] 23)
      have HG := Lib.hid hg
      have HC0 := Lib.hid C0
      clear C0 hg
      go_enter Tryz.func39, Tryz.ntmps39
      have c0 := HC0.out.cell 0 rfl
      have c1 := HC0.out.cell 1 rfl
      have c2 := HC0.out.cell 2 rfl
      have c3 := HC0.out.cell 3 rfl
      have c4 := HC0.out.cell 4 rfl
      have c5 := HC0.out.cell 5 rfl
      have c6 := HC0.out.cell 6 rfl
      have c7 := HC0.out.cell 7 rfl
      have c8 := HC0.out.cell 8 rfl
      have c9 := HC0.out.cell 9 rfl
      have c10 := HC0.out.cell 10 rfl
      go_wp2_with fail
      refine (HR.out _).mono ?_
      rintro e w2 ⟨rfl, g2⟩
      have HC2 := Lib.hid (HC0.out.grown0 g2)
      have G2 := Lib.hid (gb_trans HG.out g2)
      clear c0 c1 c2 c3 c4 c5 c6 c7 c8 c9 c10 HC0 g2 HG HR
      go_wp2
      go_ret
      exact ⟨rfl, G2.out⟩
    · rw [cc] at HR
      rw [sq_1 cc] at hK
      obtain ⟨N1, hN1⟩ : ∃ z, z = n + 1 := ⟨_, rfl⟩
      obtain ⟨Q, hQ⟩ : ∃ z, z = n * N1 := ⟨_, rfl⟩
      rw [← hN1, ← hQ] at hK
      have bQ : Q ≤ 513 * 513 := by rw [hQ]; exact Nat.mul_le_mul (by omega) (by omega)
      have eN1 : (n : Int) + 1 = (N1 : Int) := by omega
      have eQ : (n : Int) * (N1 : Int) = (Q : Int) := by rw [hQ]; exact (Int.natCast_mul _ _).symm
      have eK : (Q : Int) / 2 = (K : Int) := by omega
      clear cc IH hK hQ hN1
      have C0 := cs_new w #[.int .i64 t.eb, .int .i64 t.et, .int .i64 t.en, .int .i64 t.ed, .int .i64 t.er, .int .i64 t.el, .int .i64 t.ex, .int .i64 t.ep, .int .i64 t.ek, .int .i64 t.es, .int .i64 t.ee] 23
      have hg := gb_alloc (gb_refl w none) (Obj.cells #[.int .i64 t.eb, .int .i64 t.et, .int .i64 t.en, .int .i64 t.ed, .int .i64 t.er, .int .i64 t.el, .int .i64 t.ex, .int .i64 t.ep, .int .i64 t.ek, .int .i64 t.es, .int .i64 t.ee] 23)
      have HG := Lib.hid hg
      have HC0 := Lib.hid C0
      clear C0 hg
      go_enter Tryz.func39, Tryz.ntmps39
      have c0 := HC0.out.cell 0 rfl
      have c1 := HC0.out.cell 1 rfl
      have c2 := HC0.out.cell 2 rfl
      have c3 := HC0.out.cell 3 rfl
      have c4 := HC0.out.cell 4 rfl
      have c5 := HC0.out.cell 5 rfl
      have c6 := HC0.out.cell 6 rfl
      have c7 := HC0.out.cell 7 rfl
      have c8 := HC0.out.cell 8 rfl
      have c9 := HC0.out.cell 9 rfl
      have c10 := HC0.out.cell 10 rfl
      go_wp2_with fail
      refine (HR.out _).mono ?_
      rintro e w2 ⟨rfl, g2⟩
      have HC2 := Lib.hid (HC0.out.grown0 g2)
      have G2 := Lib.hid (gb_trans HG.out g2)
      clear c0 c1 c2 c3 c4 c5 c6 c7 c8 c9 c10 HC0 g2 HG HR
      go_wp2
      go_ret
      exact ⟨rfl, G2.out⟩
    · have q := rt_2 cc
      have b4 := t.clamp_ok.eb.1
      omega
    · have q := rt_3 cc
      have b4 := t.clamp_ok.eb.1
      rw [cc] at HR
      rw [sq_3 t.clamp_ok cc] at hK
      have I1 := fun w => IH ((n + 1) / 2) (by omega) w
      have I2 := fun w => IH (n - (n + 1) / 2) (by omega) w
      have I3 := fun w => IH ((n + 1) / 2 + 1) (by omega) w
      obtain ⟨h, hh⟩ : ∃ q, q = (n + 1) / 2 := ⟨_, rfl⟩
      obtain ⟨p, hp⟩ : ∃ q, q = n - h := ⟨_, rfl⟩
      obtain ⟨H, hH⟩ : ∃ H, H = h + 1 := ⟨_, rfl⟩
      have e1 : ((n : Int) + 1) / 2 = (h : Int) := by omega
      have e2 : (n : Int) - (h : Int) = (p : Int) := by omega
      have e4 : (h : Int) + 1 = (H : Int) := by omega
      rw [← hh] at I1 I2 I3 hK
      rw [← hp] at I2 hK
      rw [← hH] at I3 hK
      obtain ⟨k1, hk1⟩ : ∃ k, k = sq t.clamp h := ⟨_, rfl⟩
      obtain ⟨k2, hk2⟩ : ∃ k, k = sq t.clamp p := ⟨_, rfl⟩
      obtain ⟨k3, hk3⟩ : ∃ k, k = sq t.clamp H := ⟨_, rfl⟩
      rw [← hk1, ← hk2, ← hk3] at hK
      rw [← hk1] at I1
      rw [← hk2] at I2
      rw [← hk3] at I3
      obtain ⟨k12, hk12⟩ : ∃ k, k = k1 + k2 := ⟨_, rfl⟩
      have f1 : (k1 : Int) + (k2 : Int) = (k12 : Int) := by omega
      have f2 : (k12 : Int) + (k3 : Int) = (K : Int) := by omega
      have bb : h ≤ 1024 ∧ p ≤ 1024 ∧ H ≤ 1025 ∧ k1 ≤ 10000000 ∧ k2 ≤ 10000000 ∧ k3 ≤ 10000000 ∧ k12 ≤ 10000000 := by omega
      have HI1 := Lib.hid I1
      have HI2 := Lib.hid I2
      have HI3 := Lib.hid I3
      clear cc IH hK hk1 hk2 hk3 hk12 hh hp hH I1 I2 I3
      have C0 := cs_new w #[.int .i64 t.eb, .int .i64 t.et, .int .i64 t.en, .int .i64 t.ed, .int .i64 t.er, .int .i64 t.el, .int .i64 t.ex, .int .i64 t.ep, .int .i64 t.ek, .int .i64 t.es, .int .i64 t.ee] 23
      have hg := gb_alloc (gb_refl w none) (Obj.cells #[.int .i64 t.eb, .int .i64 t.et, .int .i64 t.en, .int .i64 t.ed, .int .i64 t.er, .int .i64 t.el, .int .i64 t.ex, .int .i64 t.ep, .int .i64 t.ek, .int .i64 t.es, .int .i64 t.ee] 23)
      have HG := Lib.hid hg
      have HC0 := Lib.hid C0
      clear C0 hg
      go_enter Tryz.func39, Tryz.ntmps39
      have c0 := HC0.out.cell 0 rfl
      have c1 := HC0.out.cell 1 rfl
      have c2 := HC0.out.cell 2 rfl
      have c3 := HC0.out.cell 3 rfl
      have c4 := HC0.out.cell 4 rfl
      have c5 := HC0.out.cell 5 rfl
      have c6 := HC0.out.cell 6 rfl
      have c7 := HC0.out.cell 7 rfl
      have c8 := HC0.out.cell 8 rfl
      have c9 := HC0.out.cell 9 rfl
      have c10 := HC0.out.cell 10 rfl
      go_wp2_with fail
      refine (HR.out _).mono ?_
      rintro e w2 ⟨rfl, g2⟩
      have HC2 := Lib.hid (HC0.out.grown0 g2)
      have G2 := Lib.hid (gb_trans HG.out g2)
      clear c0 c1 c2 c3 c4 c5 c6 c7 c8 c9 c10 HC0 g2 HG HR
      go_wp2
      have HSF : Hid (∀ W, Cs W w.heap.size t.vs → Canon.SF [(⟨w.heap.size, 0, none⟩, t.v), (⟨w.heap.size, 0, none⟩, t.v)] W) := Lib.hid (fun W C => Canon.sf_agg (fun j u h => C.at0 j h) (Canon.sf_agg (fun j u h => C.at0 j h) (Canon.sf_nil _)))
      refine Canon.region_held [26, 32] _ (by kernel_rfl) (by kernel_rfl) (HSF.out _ HC2.out) ?_
      have c0 := HC2.out.drew.cell 0 rfl
      have c1 := HC2.out.drew.cell 1 rfl
      have c2 := HC2.out.drew.cell 2 rfl
      have c3 := HC2.out.drew.cell 3 rfl
      have c4 := HC2.out.drew.cell 4 rfl
      have c5 := HC2.out.drew.cell 5 rfl
      have c6 := HC2.out.drew.cell 6 rfl
      have c7 := HC2.out.drew.cell 7 rfl
      have c8 := HC2.out.drew.cell 8 rfl
      have c9 := HC2.out.drew.cell 9 rfl
      have c10 := HC2.out.drew.cell 10 rfl
      refine Canon.segs_at 2 _ _ _ (by kernel_rfl) ?_
      simp only [List.take_succ_cons, List.take_zero, List.drop_succ_cons, List.drop_zero]
      go_wp2_with fail
      refine (HI1.out _).mono ?_
      rintro e w3 ⟨rfl, g3⟩
      have HC3 := Lib.hid (HC2.out.drew.grown0 g3)
      have G3 := Lib.hid (gb_trans (gb_drew G2.out) g3)
      clear c0 c1 c2 c3 c4 c5 c6 c7 c8 c9 c10 HC2 g3 G2 HI1
      go_wp2
      refine ⟨HSF.out _ HC3.out, ?_⟩
      have c0 := HC3.out.cell 0 rfl
      have c1 := HC3.out.cell 1 rfl
      have c2 := HC3.out.cell 2 rfl
      have c3 := HC3.out.cell 3 rfl
      have c4 := HC3.out.cell 4 rfl
      have c5 := HC3.out.cell 5 rfl
      have c6 := HC3.out.cell 6 rfl
      have c7 := HC3.out.cell 7 rfl
      have c8 := HC3.out.cell 8 rfl
      have c9 := HC3.out.cell 9 rfl
      have c10 := HC3.out.cell 10 rfl
      refine Canon.segs_at 4 _ _ _ (by kernel_rfl) ?_
      simp only [List.take_succ_cons, List.take_zero, List.drop_succ_cons, List.drop_zero]
      go_wp2_with fail
      refine (HI2.out _).mono ?_
      rintro e w4 ⟨rfl, g4⟩
      have HC4 := Lib.hid (HC3.out.grown0 g4)
      have G4 := Lib.hid (gb_trans G3.out g4)
      clear c0 c1 c2 c3 c4 c5 c6 c7 c8 c9 c10 HC3 g4 G3 HI2
      go_wp2
      refine ⟨HSF.out _ HC4.out, ?_⟩
      have c0 := HC4.out.cell 0 rfl
      have c1 := HC4.out.cell 1 rfl
      have c2 := HC4.out.cell 2 rfl
      have c3 := HC4.out.cell 3 rfl
      have c4 := HC4.out.cell 4 rfl
      have c5 := HC4.out.cell 5 rfl
      have c6 := HC4.out.cell 6 rfl
      have c7 := HC4.out.cell 7 rfl
      have c8 := HC4.out.cell 8 rfl
      have c9 := HC4.out.cell 9 rfl
      have c10 := HC4.out.cell 10 rfl
      refine Canon.segs_at 4 _ _ _ (by kernel_rfl) ?_
      simp only [List.take_succ_cons, List.take_zero, List.drop_succ_cons, List.drop_zero]
      go_wp2_with fail
      refine (HI3.out _).mono ?_
      rintro e w5 ⟨rfl, g5⟩
      have HC5 := Lib.hid (HC4.out.grown0 g5)
      have G5 := Lib.hid (gb_trans G4.out g5)
      clear c0 c1 c2 c3 c4 c5 c6 c7 c8 c9 c10 HC4 g5 G4 HI3
      go_wp2
      refine ⟨HSF.out _ HC5.out, ?_⟩
      refine Canon.segs_end _ _ _ (by kernel_rfl) ?_
      go_wp2
      refine ⟨by kernel_rfl, by kernel_rfl, by kernel_rfl, ?_⟩
      go_wp2
      go_ret
      exact ⟨rfl, G5.out⟩
    · have q := rt_4 cc
      have b4 := t.clamp_ok.eb.1
      rw [cc] at HR
      rw [sq_4 t.clamp_ok cc] at hK
      have I1 := fun w => IH ((n + 2) / 3) (by omega) w
      have I2 := fun w => IH ((n + 2) / 3 + 1) (by omega) w
      have I3 := fun w => IH (n - 2 * ((n + 2) / 3)) (by omega) w
      obtain ⟨h, hh⟩ : ∃ q, q = (n + 2) / 3 := ⟨_, rfl⟩
      obtain ⟨h2, hh2⟩ : ∃ q, q = 2 * h := ⟨_, rfl⟩
      obtain ⟨p, hp⟩ : ∃ q, q = n - h2 := ⟨_, rfl⟩
      obtain ⟨H, hH⟩ : ∃ H, H = h + 1 := ⟨_, rfl⟩
      have e1 : ((n : Int) + 2) / 3 = (h : Int) := by omega
      have e1' : 2 * (h : Int) = (h2 : Int) := by omega
      have e2 : (n : Int) - (h2 : Int) = (p : Int) := by omega
      have e4 : (h : Int) + 1 = (H : Int) := by omega
      rw [← hh] at I1 I2 I3 hK
      rw [← hh2] at I3 hK
      rw [← hp] at I3 hK
      rw [← hH] at I2 hK
      obtain ⟨k1, hk1⟩ : ∃ k, k = sq t.clamp h := ⟨_, rfl⟩
      obtain ⟨k2, hk2⟩ : ∃ k, k = sq t.clamp H := ⟨_, rfl⟩
      obtain ⟨k3, hk3⟩ : ∃ k, k = sq t.clamp p := ⟨_, rfl⟩
      rw [← hk1, ← hk2, ← hk3] at hK
      rw [← hk1] at I1
      rw [← hk2] at I2
      rw [← hk3] at I3
      obtain ⟨k22, hk22⟩ : ∃ k, k = 3 * k2 := ⟨_, rfl⟩
      obtain ⟨k12, hk12⟩ : ∃ k, k = k1 + k22 := ⟨_, rfl⟩
      have f0 : 3 * (k2 : Int) = (k22 : Int) := by omega
      have f1 : (k1 : Int) + (k22 : Int) = (k12 : Int) := by omega
      have f2 : (k12 : Int) + (k3 : Int) = (K : Int) := by omega
      have bb : h ≤ 1024 ∧ h2 ≤ 1024 ∧ p ≤ 1024 ∧ H ≤ 1025 ∧ k1 ≤ 10000000 ∧ k2 ≤ 10000000 ∧ k3 ≤ 10000000 ∧ k12 ≤ 10000000 ∧ k22 ≤ 10000000 := by omega
      have HI1 := Lib.hid I1
      have HI2 := Lib.hid I2
      have HI3 := Lib.hid I3
      clear cc IH hK hk1 hk2 hk3 hk12 hk22 hh hh2 hp hH I1 I2 I3
      have C0 := cs_new w #[.int .i64 t.eb, .int .i64 t.et, .int .i64 t.en, .int .i64 t.ed, .int .i64 t.er, .int .i64 t.el, .int .i64 t.ex, .int .i64 t.ep, .int .i64 t.ek, .int .i64 t.es, .int .i64 t.ee] 23
      have hg := gb_alloc (gb_refl w none) (Obj.cells #[.int .i64 t.eb, .int .i64 t.et, .int .i64 t.en, .int .i64 t.ed, .int .i64 t.er, .int .i64 t.el, .int .i64 t.ex, .int .i64 t.ep, .int .i64 t.ek, .int .i64 t.es, .int .i64 t.ee] 23)
      have HG := Lib.hid hg
      have HC0 := Lib.hid C0
      clear C0 hg
      go_enter Tryz.func39, Tryz.ntmps39
      have c0 := HC0.out.cell 0 rfl
      have c1 := HC0.out.cell 1 rfl
      have c2 := HC0.out.cell 2 rfl
      have c3 := HC0.out.cell 3 rfl
      have c4 := HC0.out.cell 4 rfl
      have c5 := HC0.out.cell 5 rfl
      have c6 := HC0.out.cell 6 rfl
      have c7 := HC0.out.cell 7 rfl
      have c8 := HC0.out.cell 8 rfl
      have c9 := HC0.out.cell 9 rfl
      have c10 := HC0.out.cell 10 rfl
      go_wp2_with fail
      refine (HR.out _).mono ?_
      rintro e w2 ⟨rfl, g2⟩
      have HC2 := Lib.hid (HC0.out.grown0 g2)
      have G2 := Lib.hid (gb_trans HG.out g2)
      clear c0 c1 c2 c3 c4 c5 c6 c7 c8 c9 c10 HC0 g2 HG HR
      go_wp2
      have HSF : Hid (∀ W, Cs W w.heap.size t.vs → Canon.SF [(⟨w.heap.size, 0, none⟩, t.v), (⟨w.heap.size, 0, none⟩, t.v)] W) := Lib.hid (fun W C => Canon.sf_agg (fun j u h => C.at0 j h) (Canon.sf_agg (fun j u h => C.at0 j h) (Canon.sf_nil _)))
      refine Canon.region_held [45, 51] _ (by kernel_rfl) (by kernel_rfl) (HSF.out _ HC2.out) ?_
      have c0 := HC2.out.drew.cell 0 rfl
      have c1 := HC2.out.drew.cell 1 rfl
      have c2 := HC2.out.drew.cell 2 rfl
      have c3 := HC2.out.drew.cell 3 rfl
      have c4 := HC2.out.drew.cell 4 rfl
      have c5 := HC2.out.drew.cell 5 rfl
      have c6 := HC2.out.drew.cell 6 rfl
      have c7 := HC2.out.drew.cell 7 rfl
      have c8 := HC2.out.drew.cell 8 rfl
      have c9 := HC2.out.drew.cell 9 rfl
      have c10 := HC2.out.drew.cell 10 rfl
      refine Canon.segs_at 2 _ _ _ (by kernel_rfl) ?_
      simp only [List.take_succ_cons, List.take_zero, List.drop_succ_cons, List.drop_zero]
      go_wp2_with fail
      refine (HI1.out _).mono ?_
      rintro e w3 ⟨rfl, g3⟩
      have HC3 := Lib.hid (HC2.out.drew.grown0 g3)
      have G3 := Lib.hid (gb_trans (gb_drew G2.out) g3)
      clear c0 c1 c2 c3 c4 c5 c6 c7 c8 c9 c10 HC2 g3 G2 HI1
      go_wp2
      refine ⟨HSF.out _ HC3.out, ?_⟩
      have c0 := HC3.out.cell 0 rfl
      have c1 := HC3.out.cell 1 rfl
      have c2 := HC3.out.cell 2 rfl
      have c3 := HC3.out.cell 3 rfl
      have c4 := HC3.out.cell 4 rfl
      have c5 := HC3.out.cell 5 rfl
      have c6 := HC3.out.cell 6 rfl
      have c7 := HC3.out.cell 7 rfl
      have c8 := HC3.out.cell 8 rfl
      have c9 := HC3.out.cell 9 rfl
      have c10 := HC3.out.cell 10 rfl
      refine Canon.segs_at 3 _ _ _ (by kernel_rfl) ?_
      simp only [List.take_succ_cons, List.take_zero, List.drop_succ_cons, List.drop_zero]
      go_wp2_with fail
      refine (HI2.out _).mono ?_
      rintro e w4 ⟨rfl, g4⟩
      have HC4 := Lib.hid (HC3.out.grown0 g4)
      have G4 := Lib.hid (gb_trans G3.out g4)
      clear c0 c1 c2 c3 c4 c5 c6 c7 c8 c9 c10 HC3 g4 G3 HI2
      go_wp2
      refine ⟨HSF.out _ HC4.out, ?_⟩
      have c0 := HC4.out.cell 0 rfl
      have c1 := HC4.out.cell 1 rfl
      have c2 := HC4.out.cell 2 rfl
      have c3 := HC4.out.cell 3 rfl
      have c4 := HC4.out.cell 4 rfl
      have c5 := HC4.out.cell 5 rfl
      have c6 := HC4.out.cell 6 rfl
      have c7 := HC4.out.cell 7 rfl
      have c8 := HC4.out.cell 8 rfl
      have c9 := HC4.out.cell 9 rfl
      have c10 := HC4.out.cell 10 rfl
      refine Canon.segs_at 7 _ _ _ (by kernel_rfl) ?_
      simp only [List.take_succ_cons, List.take_zero, List.drop_succ_cons, List.drop_zero]
      go_wp2_with fail
      refine (HI3.out _).mono ?_
      rintro e w5 ⟨rfl, g5⟩
      have HC5 := Lib.hid (HC4.out.grown0 g5)
      have G5 := Lib.hid (gb_trans G4.out g5)
      clear c0 c1 c2 c3 c4 c5 c6 c7 c8 c9 c10 HC4 g5 G4 HI3
      go_wp2
      refine ⟨HSF.out _ HC5.out, ?_⟩
      refine Canon.segs_end _ _ _ (by kernel_rfl) ?_
      go_wp2
      refine ⟨by kernel_rfl, by kernel_rfl, by kernel_rfl, ?_⟩
      go_wp2
      go_ret
      exact ⟨rfl, G5.out⟩
    · have q := rt_5 cc
      have b4 := t.clamp_ok.eb.1
      rw [cc] at HR
      rw [sq_5 cc] at hK
      have TR : Hid (∀ w, Calls Tryz.prog 50 #[.int .i64 n, .int .i64 n, .int .i64 2] w fun e w' => e = .returned (.int .i64 (K : Nat)) ∧ w.grownBy w' none) := Lib.hid (fun w => by rw [hK]; exact rtransf_c w n n 2 (by omega) (by omega) (by decide) (by omega))
      clear cc IH hK
      have C0 := cs_new w #[.int .i64 t.eb, .int .i64 t.et, .int .i64 t.en, .int .i64 t.ed, .int .i64 t.er, .int .i64 t.el, .int .i64 t.ex, .int .i64 t.ep, .int .i64 t.ek, .int .i64 t.es, .int .i64 t.ee] 23
      have hg := gb_alloc (gb_refl w none) (Obj.cells #[.int .i64 t.eb, .int .i64 t.et, .int .i64 t.en, .int .i64 t.ed, .int .i64 t.er, .int .i64 t.el, .int .i64 t.ex, .int .i64 t.ep, .int .i64 t.ek, .int .i64 t.es, .int .i64 t.ee] 23)
      have HG := Lib.hid hg
      have HC0 := Lib.hid C0
      clear C0 hg
      go_enter Tryz.func39, Tryz.ntmps39
      have c0 := HC0.out.cell 0 rfl
      have c1 := HC0.out.cell 1 rfl
      have c2 := HC0.out.cell 2 rfl
      have c3 := HC0.out.cell 3 rfl
      have c4 := HC0.out.cell 4 rfl
      have c5 := HC0.out.cell 5 rfl
      have c6 := HC0.out.cell 6 rfl
      have c7 := HC0.out.cell 7 rfl
      have c8 := HC0.out.cell 8 rfl
      have c9 := HC0.out.cell 9 rfl
      have c10 := HC0.out.cell 10 rfl
      go_wp2_with fail
      refine (HR.out _).mono ?_
      rintro e w2 ⟨rfl, g2⟩
      have HC2 := Lib.hid (HC0.out.grown0 g2)
      have G2 := Lib.hid (gb_trans HG.out g2)
      clear c0 c1 c2 c3 c4 c5 c6 c7 c8 c9 c10 HC0 g2 HG HR
      go_wp2_with fail
      refine (TR.out _).mono ?_
      rintro e w3 ⟨rfl, g3⟩
      have G3 := Lib.hid (gb_trans G2.out g3)
      clear g3 TR
      go_wp2
      go_ret
      exact ⟨rfl, G3.out⟩
end Go.Proofs.YtldkiddoajlohaaGreatDoor

/- Chapter 12: what its statements share. -/
namespace Go.Proofs.YtldkiddoajlohaaGreatDoor
open Go.RowKit

theorem blen_half {n : Nat} (h : 0 < n) : blen n = blen (n / 2) + 1 := by
  by_cases h1 : n = 1
  · subst h1
    exact blen_eq (by decide) (.inr (by decide))
  · exact blen_div 1 n (by omega)
theorem lwords_c (w : World) (v : Value) (xs : List Int) (h : Sl w v xs) : Calls Tryz.prog 21 #[v] w fun e w' => e = .returned (.int .i64 (trimZ xs).length) ∧ w' = w := by
  have HN := Lib.hid (nlen_c w v xs h)
  obtain ⟨A, c, rfl, _, _⟩ := h.form
  obtain ⟨p, hp⟩ : ∃ p, p = (trimZ xs).length := ⟨_, rfl⟩
  rw [← hp] at HN ⊢
  clear h hp
  go_enter Tryz.func21, Tryz.ntmps21
  go_wp2_with fail
  refine (HN.out).mono ?_
  rintro e w1 ⟨rfl, hw⟩
  go_wp2
  go_ret
  exact ⟨rfl, by first | exact hw | rfl⟩
theorem ldeep_c (w : World) (n : Nat) (hn : n ≤ 1024) : Calls Tryz.prog 27 #[.int .i64 n] w fun e w' => e = .returned (.int .i64 ((4 + 2 * blen n : Nat) : Int)) ∧ w.grownBy w' none := by
  have b0 := blen_le n 11 (by omega)
  obtain ⟨D, hD⟩ : ∃ D, D = 4 + 2 * blen n := ⟨_, rfl⟩
  rw [← hD]
  have bD : D ≤ 26 := by omega
  have HD := Lib.hid hD
  clear hD b0
  go_enter Tryz.func27, Tryz.ntmps27
  go_wp2
  go_loopw [0, 3] (fun v0 v3 wr => ∃ (k d : Nat), v0 = .int .i64 k ∧ v3 = .int .i64 d ∧ k ≤ 1024 ∧ d + 2 * blen k = D ∧ w.grownBy wr none) (fun v0 _ _ => (intOf v0).toNat)
  case atStart => exact ⟨n, 4, rfl, rfl, hn, HD.out.symm, gb_refl _ _⟩
  case round =>
    obtain ⟨k, d, rfl, rfl, hk, hd, G⟩ := hrel
    have HH := Lib.hid hd
    have bd : d ≤ 26 := by omega
    clear hd
    by_cases h0 : k = 0
    · subst h0
      have e : d = D := by have := HH.out; rw [show blen 0 = 0 from rfl] at this; omega
      subst e
      go_wp2
      go_ret
      exact ⟨rfl, G⟩
    · obtain ⟨k2, h2⟩ : ∃ z, z = k / 2 := ⟨_, rfl⟩
      have e2 : (k : Int) / 2 = (k2 : Int) := by omega
      have kp : 0 < k := by omega
      have HB : Hid (blen k = blen k2 + 1) := Lib.hid (by rw [h2]; exact blen_half kp)
      have lt : k2 < k := by omega
      clear h0 h2
      go_wp2
      go_roundw
      case rel => exact ⟨k2, d + 2, rfl, by go_num, by omega, by have := HH.out; have := HB.out; omega, G⟩
      case measure => simp [intOf]; omega
theorem lfrom_c (w : World) (v : Value) (xs : List Int) (L : Nat) (h : Sl w v xs) (hL : xs.length ≤ L) (hL1 : L ≤ 1000000) :
    Calls Tryz.prog 23 #[v] w fun e w' => ∃ u, e = .returned u ∧ Nm w' u (val B64 xs) (2 * L) ∧ w.grownBy w' none := by
  have HF := Lib.hid (from_c w v xs L h hL hL1)
  obtain ⟨A, c, rfl, _, _⟩ := h.form
  clear h
  go_enter Tryz.func23, Tryz.ntmps23
  go_wp2_with fail
  refine (HF.out).mono ?_
  rintro e w1 ⟨u, rfl, k⟩
  have KK := Lib.hid k
  clear k
  go_wp2
  go_ret
  exact ⟨u, rfl, KK.out⟩
theorem ws_1 {x : Int} (h : 0 ≤ x ∧ x < 18446744073709551616) : Ws [x] := fun y hy => by obtain rfl := List.mem_singleton.1 hy; exact h
theorem pts_lit3 (w : World) (x y z : Int) (hx : 0 ≤ x ∧ x < 18446744073709551616) (hy : 0 ≤ y ∧ y < 18446744073709551616) (hz : 0 ≤ z ∧ z < 18446744073709551616) :
    Pts ((((w.alloc (Obj.cells #[.int .u64 x] 79)).alloc (Obj.cells #[.int .u64 y] 79)).alloc (Obj.cells #[.int .u64 z] 79)).alloc (Obj.cells #[.slice (some ⟨w.heap.size, 0, none⟩) 1 1, .slice (some ⟨w.heap.size + 1, 0, none⟩) 1 1, .slice (some ⟨w.heap.size + 1 + 1, 0, none⟩) 1 1] 34))
      (.slice (some ⟨w.heap.size + 1 + 1 + 1, 0, none⟩) 3 3) 3 (fun j => [Value.slice (some ⟨w.heap.size, 0, none⟩) 1 1, .slice (some ⟨w.heap.size + 1, 0, none⟩) 1 1, .slice (some ⟨w.heap.size + 1 + 1, 0, none⟩) 1 1].getD j (.slice (some ⟨w.heap.size, 0, none⟩) 1 1)) (fun j => [[x], [y], [z]].getD j []) := by
  have s1 := sl_lit w 79 #[.int .u64 x] [x] 1 rfl (ws_1 hx) rfl (by decide)
  have s2 := sl_lit (w.alloc (Obj.cells #[.int .u64 x] 79)) 79 #[.int .u64 y] [y] 1 rfl (ws_1 hy) rfl (by decide)
  have s3 := sl_lit ((w.alloc (Obj.cells #[.int .u64 x] 79)).alloc (Obj.cells #[.int .u64 y] 79)) 79 #[.int .u64 z] [z] 1 rfl (ws_1 hz) rfl (by decide)
  rw [alloc_sz] at s2
  rw [alloc_sz, alloc_sz] at s3
  have P := pts3 (((w.alloc (Obj.cells #[.int .u64 x] 79)).alloc (Obj.cells #[.int .u64 y] 79)).alloc (Obj.cells #[.int .u64 z] 79)) 34 _ _ _ [x] [y] [z] ((s1.grown0 (gb_alloc (gb_refl _ none) _)).grown0 (gb_alloc (gb_refl _ none) _)) (s2.grown0 (gb_alloc (gb_refl _ none) _)) s3
  rw [alloc_sz, alloc_sz, alloc_sz] at P
  exact P
theorem Wo.lit {w : World} {base n : Nat} {v : Value} (h : Wo w base v n) {xs : List Int} (hw : Ws xs) (nz : Nz xs) (hv : val B64 xs = n) : Sl w v xs := by
  obtain ⟨zs, ow, nz', hv'⟩ := h
  obtain rfl := dg_ext (B := B64) (by decide) ow.ws.dg hw.dg nz' nz (hv'.trans hv.symm)
  exact ow.sl
set_option maxRecDepth 100000 in
theorem wakes12_c (w : World) (hd : Db w) : Calls Tryz.prog 17 #[] w fun e w' => e = .returned (.bool true) ∧ w.grownBy w' none := by
  have NW : Calls Tryz.prog 12 #[.agg #[.int .i64 0, .int .i64 0, .int .i64 0, .int .i64 0, .int .i64 0, .int .i64 0, .int .i64 0, .int .i64 0, .int .i64 0, .int .i64 0, .int .i64 0]] w fun e w' => ∃ g0 g1 g2 g3 gm, e = .returned (.pointer (some ⟨g0, 0, none⟩)) ∧ Eng w' g0 g1 g2 g3 gm ∧ w.heap.size ≤ gm ∧ Mt w' gm 0 0 ⟨0, tbT (Tb.clamp ⟨0, 0, 0, 0, 0, 0, 0, 0, 0, 0, 0⟩)⟩ ∧ w.grownBy w' none := mulNew_c w ⟨0, 0, 0, 0, 0, 0, 0, 0, 0, 0, 0⟩
  have HN := Lib.hid NW
  have HD := Lib.hid hd
  clear NW hd
  go_enter Tryz.func17, Tryz.ntmps17
  go_wp2_with fail
  refine (HN.out).mono ?_
  rintro e w1 ⟨g0, g1, g2, g3, gm, rfl, eg, hg, mt, g⟩
  have HE := Lib.hid eg
  have MT := Lib.hid mt
  have G1 := Lib.hid g
  have HGM : Hid (gm < w1.heap.size) := Lib.hid (World.block_lt_of_cell? w1 _ mt.c0)
  have HG := Lib.hid hg
  clear eg hg mt g HN
  have GA := gb_alloc (gb_alloc (gb_alloc (gb_alloc (gb_refl w1 none) (Obj.cells #[.int .u64 2] 79)) (Obj.cells #[.int .u64 3] 79)) (Obj.cells #[.int .u64 7] 79)) (Obj.cells #[.slice (some ⟨w1.heap.size, 0, none⟩) 1 1, .slice (some ⟨w1.heap.size + 1, 0, none⟩) 1 1, .slice (some ⟨w1.heap.size + 1 + 1, 0, none⟩) 1 1] 34)
  have PT := pts_lit3 w1 2 3 7 (by decide) (by decide) (by decide)
  have P1 := Lib.hid (product_all (Tb.clamp_ok ⟨0, 0, 0, 0, 0, 0, 0, 0, 0, 0, 0⟩) 3 (by decide) _ g0 g1 g2 g3 gm 0 0 _ _ _ _ (HE.out.grown0 GA) (HD.out.grown0 (gb_trans G1.out GA)) (MT.out.grown GA) rfl (by decide) (by decide) PT (off_some (by have := HGM.out; omega)) (fun j hj => by
    have h := HGM.out
    rcases (show j = 0 ∨ j = 1 ∨ j = 2 by omega) with rfl | rfl | rfl
    · exact off_some (by omega)
    · exact off_some (by omega)
    · exact off_some (by omega)) (by decide))
  have GAA := Lib.hid (gb_trans G1.out GA)
  have HEA := Lib.hid (HE.out.grown0 GA)
  have HDA := Lib.hid (HD.out.grown0 (gb_trans G1.out GA))
  have MTA := Lib.hid (MT.out.grown GA)
  clear PT GA
  go_wp2_with fail
  refine (P1.out).mono ?_
  rintro e w2 ⟨x, c2, a2, rfl, o2, m2, ha2, t2, g2'⟩
  have X2 := Lib.hid (o2.lit (xs := [42]) (ws_1 (by decide)) rfl rfl)
  have M2 := Lib.hid m2
  have A2 := Lib.hid ha2
  have T2 := Lib.hid t2
  have E2 := Lib.hid (HEA.out.grown g2')
  have D2 := Lib.hid (HDA.out.grown MTA.out g2')
  have G2 := Lib.hid (gb_new GAA.out g2' (fun i hi => by cases hi; exact HG.out))
  clear o2 m2 ha2 t2 g2' P1 HEA HDA MTA GAA
  have GB := gb_alloc (gb_refl w2 none) (Obj.cells #[.int .u64 42] 79)
  have S1 := Lib.hid (same_c _ x _ [42] [42] (X2.out.grown0 GB) (sl_lit w2 79 #[.int .u64 42] [42] 1 rfl (ws_1 (by decide)) rfl (by decide)))
  rw [decide_eq_true rfl] at S1
  have G2B := Lib.hid (gb_trans G2.out GB)
  have GBH := Lib.hid GB
  clear GB
  go_wp2_with fail
  refine (S1.out).mono ?_
  rintro e w3 ⟨rfl, g3'⟩
  have GC := gb_trans GBH.out g3'
  have P2 := Lib.hid (product_all (Tb.clamp_ok ⟨0, 0, 0, 0, 0, 0, 0, 0, 0, 0, 0⟩) 0 (by decide) w3 g0 g1 g2 g3 gm a2 0 c2 (.slice none 0 0) (fun _ => undef) (fun _ => []) (E2.out.grown0 GC) (D2.out.grown0 GC) (M2.out.grown GC) T2.out (by decide) (by have := A2.out.1; omega) ⟨cells_none _ _ _, fun j hj => by omega⟩ (fun b hb => by simp [Value.ownBlock] at hb) (fun j hj => by omega) (by decide))
  have G3 := Lib.hid (gb_trans G2B.out g3')
  have MM := Lib.hid (M2.out.grown GC)
  clear GC g3' S1 E2 D2 M2 A2 G2B
  go_wp2_with fail
  refine (P2.out).mono ?_
  rintro e w4 ⟨x2, c4, a4, rfl, o4, m4, ha4, t4, g4'⟩
  have X4 := Lib.hid (o4.lit (xs := [1]) (ws_1 (by decide)) rfl rfl)
  have G4 := Lib.hid (gb_new G3.out g4' (fun i hi => by cases hi; exact HG.out))
  clear o4 m4 ha4 t4 g4' P2
  have GB := gb_alloc (gb_refl w4 none) (Obj.cells #[.int .u64 1] 79)
  have S2 := Lib.hid (same_c _ x2 _ [1] [1] (X4.out.grown0 GB) (sl_lit w4 79 #[.int .u64 1] [1] 1 rfl (ws_1 (by decide)) rfl (by decide)))
  rw [decide_eq_true rfl] at S2
  have G4B := Lib.hid (gb_trans G4.out GB)
  clear GB
  go_wp2_with fail
  refine (S2.out).mono ?_
  rintro e w5 ⟨rfl, g5'⟩
  have G5 := Lib.hid (gb_trans G4B.out g5')
  clear g5' S2
  go_wp2
  go_ret
  exact ⟨rfl, G5.out⟩
end Go.Proofs.YtldkiddoajlohaaGreatDoor

/- Chapter 12: products and squares, and what they cost. -/
namespace Go.Proofs.YtldkiddoajlohaaGreatDoor
open Go.RowKit

set_option maxRecDepth 100000 in
set_option maxHeartbeats 4000000 in
theorem MulMuls_walk (t : Tb) (va : Value) (al0 : List Int) (vb : Value) (bl0 : List Int) (w : World) (ha : Sl w va al0) (hb : Sl w vb bl0) (hd : Db w) :
    Calls Tryz.prog 4 #[t.v, va, vb] w fun e w' => e = .returned (.bool true) ∧ w.grownBy w' none := by
  have C0 := cs_new w #[.int .i64 t.eb, .int .i64 t.et, .int .i64 t.en, .int .i64 t.ed, .int .i64 t.er, .int .i64 t.el, .int .i64 t.ex, .int .i64 t.ep, .int .i64 t.ek, .int .i64 t.es, .int .i64 t.ee] 23
  have hg := gb_alloc (gb_refl w none) (Obj.cells #[.int .i64 t.eb, .int .i64 t.et, .int .i64 t.en, .int .i64 t.ed, .int .i64 t.er, .int .i64 t.el, .int .i64 t.ex, .int .i64 t.ep, .int .i64 t.ek, .int .i64 t.es, .int .i64 t.ee] 23)
  have HG := Lib.hid hg
  have HC0 := Lib.hid C0
  have CA := Lib.hid (fun w1 (g : w.grownBy w1 none) => cut_c w1 va al0 100 (by decide) (ha.grown0 g))
  have CB := Lib.hid (fun w1 (g : w.grownBy w1 none) => cut_c w1 vb bl0 100 (by decide) (hb.grown0 g))
  obtain ⟨A, ca, rfl, _, _⟩ := ha.form
  obtain ⟨B, cb, rfl, _, _⟩ := hb.form
  have HD := Lib.hid hd
  clear ha hb hd C0 hg
  go_enter Tryz.func4, Tryz.ntmps4
  go_wp2_with fail
  refine (CA.out _ HG.out).mono ?_
  rintro e w1 ⟨ua, rfl, ha, hw1⟩
  rw [← hw1] at HG HC0
  rw [← hw1] at ha
  have hsz : w.heap.size < w1.heap.size := by rw [hw1, alloc_sz]; omega
  clear hw1
  go_wp2_with fail
  refine (CB.out _ HG.out).mono ?_
  rintro e w2 ⟨ub, rfl, hb, hw2⟩
  subst hw2
  have HW2 : Hid (w.heap.size < w2.heap.size) := Lib.hid hsz
  clear hsz
  obtain ⟨al, hal⟩ : ∃ l, l = al0.take 100 := ⟨_, rfl⟩
  obtain ⟨bl, hbl⟩ : ∃ l, l = bl0.take 100 := ⟨_, rfl⟩
  rw [← hal] at ha
  rw [← hbl] at hb
  have la : al.length ≤ 100 := by rw [hal, List.length_take]; omega
  have lb : bl.length ≤ 100 := by rw [hbl, List.length_take]; omega
  clear hal hbl CA CB
  obtain ⟨A', ca', rfl, hca, hca2⟩ := ha.form
  obtain ⟨B', cb', rfl, hcb, hcb2⟩ := hb.form
  obtain ⟨n, hn⟩ : ∃ n, n = al.length := ⟨_, rfl⟩
  obtain ⟨m, hm⟩ : ∃ m, m = bl.length := ⟨_, rfl⟩
  have HA := Lib.hid ha
  have HB := Lib.hid hb
  rw [← hn] at HA la hca ⊢
  rw [← hm] at HB lb hcb ⊢
  have HN := Lib.hid hn
  have HM := Lib.hid hm
  have NW := Lib.hid (fun w => mulNew_c w t)
  clear hn hm ha hb
  have c0 := HC0.out.cell 0 rfl
  have c1 := HC0.out.cell 1 rfl
  have c2 := HC0.out.cell 2 rfl
  have c3 := HC0.out.cell 3 rfl
  have c4 := HC0.out.cell 4 rfl
  have c5 := HC0.out.cell 5 rfl
  have c6 := HC0.out.cell 6 rfl
  have c7 := HC0.out.cell 7 rfl
  have c8 := HC0.out.cell 8 rfl
  have c9 := HC0.out.cell 9 rfl
  have c10 := HC0.out.cell 10 rfl
  have HD2 := Lib.hid (HD.out.grown0 HG.out)
  clear HD
  go_wp2_with fail
  refine (NW.out _).mono ?_
  rintro e w3 ⟨g0, g1, g2, g3, gm, rfl, eg, hgm, mt, g3'⟩
  have HE := Lib.hid eg
  have MT := Lib.hid mt
  have G3 := Lib.hid g3'
  have HC3 := Lib.hid (HC0.out.grown0 g3')
  have HGM : Hid (gm < w3.heap.size ∧ w2.heap.size ≤ gm) := Lib.hid ⟨World.block_lt_of_cell? w3 _ mt.c0, hgm⟩
  clear eg hgm mt g3' NW HC0
  clear c0 c1 c2 c3 c4 c5 c6 c7 c8 c9 c10
  have LA := lend_c w3 _ al (HA.out.grown0 G3.out) (by rw [← HN.out]; omega)
  rw [← HN.out] at LA
  have HLA := Lib.hid LA
  clear LA
  go_wp2_with fail
  refine (HLA.out).mono ?_
  rintro e w4 ⟨gx, os, rfl, ox, le, g4⟩
  have LB := lend_c w4 _ bl ((HB.out.grown0 G3.out).grown0 g4) (by rw [← HM.out]; omega)
  rw [← HM.out] at LB
  have HLB := Lib.hid LB
  have OX := Lib.hid ox
  have LX := Lib.hid le
  have G4 := Lib.hid g4
  clear ox le g4 LB HLA
  go_wp2_with fail
  refine (HLB.out).mono ?_
  rintro e w5 ⟨gy, os2, rfl, oy, le2, g5⟩
  have OX5 := Lib.hid (OX.out.grown0 g5)
  have OY5 := Lib.hid oy
  have LY := Lib.hid le2
  have G35 := Lib.hid (gb_trans G4.out g5)
  have G5 := Lib.hid (gb_trans G3.out G35.out)
  have BX : Hid (gx ≠ gm ∧ gy ≠ gm ∧ gx < w5.heap.size ∧ gy < w5.heap.size) := Lib.hid (by
    have h1 := OX.out.base_le; have h2 := oy.base_le; have h3 := HGM.out; have h4 := G4.out.size; have h5 := g5.size
    omega)
  have SX := LX.out.sl (by rw [← HN.out]; exact OX5.out)
  have SY := LY.out.sl (by rw [← HM.out]; exact OY5.out)
  rw [← HN.out] at SX
  rw [← HM.out] at SY
  have l1 := trimZ_len al
  have l2 := trimZ_len bl
  rw [← HN.out] at l1
  rw [← HM.out] at l2
  have N1 := mulE_c t.clamp_ok w5 g0 g1 g2 g3 gm 0 0 ⟨0, tbT t.clamp⟩ _ _ al bl (HE.out.grown0 G35.out) (HD2.out.grown0 G5.out) (MT.out.grown G35.out) rfl (by decide) (by decide) SX SY (off_some BX.out.1) (off_some BX.out.2.1) (by omega)
  have WA := fun w' (g : w2.grownBy w' none) => lwords_c w' _ al (HA.out.grown0 g)
  have WB := fun w' (g : w2.grownBy w' none) => lwords_c w' _ bl (HB.out.grown0 g)
  obtain ⟨p, hp⟩ : ∃ p, p = (trimZ al).length := ⟨_, rfl⟩
  obtain ⟨q, hq⟩ : ∃ p, p = (trimZ bl).length := ⟨_, rfl⟩
  rw [← hp] at l1 N1 WA
  rw [← hq] at l2 N1 WB
  have RC := Lib.hid (fun w => rcost_all t (p + q) p q (Nat.le_refl _) (by omega) w)
  obtain ⟨K, hK⟩ : ∃ K, K = cost t.clamp p q := ⟨_, rfl⟩
  rw [← hK] at N1 RC
  have HN1 := Lib.hid N1
  have HWA := Lib.hid WA
  have HWB := Lib.hid WB
  clear hp hq hK N1 WA WB SX SY g5 oy le2 HLB OX G4
  go_wp2_with fail
  refine (HN1.out).mono ?_
  rintro e w6 ⟨x, c6, rfl, o6, m6, cc6, g6⟩
  have G6 := Lib.hid (gb_new G5.out g6 (fun i hi => by cases hi; exact HGM.out.2))
  have O6 := Lib.hid o6
  have M6 := Lib.hid m6
  have CC6 : Hid (c6.v ≤ ((lev (max p q) : Nat) : Int)) := Lib.hid (by
    have h := cc6.2.2
    have h2 : (⟨0, tbT t.clamp⟩ : Mc).v = 0 := rfl
    rw [h2] at h
    omega)
  have E6 := Lib.hid ((HE.out.grown0 G35.out).grown g6)
  have OX6 := Lib.hid (OX5.out.past g6 BX.out.1)
  have OY6 := Lib.hid (OY5.out.past g6 BX.out.2.1)
  have HC6 := Lib.hid ((HC3.out.grown0 G35.out).grown g6 (by have h := HGM.out; have h2 := HW2.out; simp; omega))
  clear o6 m6 cc6 g6 HN1 OX5 OY5 HE MT HC3 G35
  go_wp2_with fail
  refine (HWA.out w6 G6.out).mono ?_
  rintro e wx ⟨rfl, hw⟩
  rw [hw]
  clear hw HWA
  go_wp2_with fail
  refine (HWB.out w6 G6.out).mono ?_
  rintro e wx ⟨rfl, hw⟩
  rw [hw]
  clear hw HWB
  have HSF : Hid (∀ W, Cs W w.heap.size t.vs → Canon.SF [(⟨w.heap.size, 0, none⟩, t.v)] W) := Lib.hid (fun W C => Canon.sf_agg (fun j u h => C.at0 j h) (Canon.sf_nil _))
  go_wp2
  refine Canon.region_held [58] _ (by kernel_rfl) (by kernel_rfl) (HSF.out _ HC6.out) ?_
  have G6 := Lib.hid (gb_drew G6.out)
  have O6 := Lib.hid (O6.out.grown0 (gb_drew (gb_refl w6 none)))
  have M6 := Lib.hid M6.out.drew
  have E6 := Lib.hid E6.out.drew
  have OX6 := Lib.hid OX6.out.drew
  have OY6 := Lib.hid OY6.out.drew
  have HC6 := Lib.hid HC6.out.drew
  obtain ⟨wd, hwd⟩ : ∃ W, W = w6.drew := ⟨_, rfl⟩
  rw [← hwd] at G6 O6 M6 E6 OX6 OY6 HC6 ⊢
  clear hwd
  refine Canon.segs_at 1 _ _ _ (by kernel_rfl) ?_
  simp only [List.append_eq, List.cons_append, List.nil_append, List.take_succ_cons, List.take_zero, List.drop_succ_cons, List.drop_zero]
  have FA := Lib.hid (lfrom_c wd _ al 100 (HA.out.grown0 G6.out) (by rw [← HN.out]; exact la) (by decide))
  go_wp2_with fail
  refine (FA.out).mono ?_
  rintro e w7 ⟨pa, rfl, na, g7⟩
  have NA := Lib.hid na
  have F7 := Lib.hid g7
  have FB := Lib.hid (lfrom_c w7 _ bl 100 (HB.out.grown0 (gb_trans G6.out g7)) (by rw [← HM.out]; exact lb) (by decide))
  clear na g7 FA
  go_wp2
  refine ⟨HSF.out _ (HC6.out.grown0 F7.out), ?_⟩
  refine Canon.segs_at 1 _ _ _ (by kernel_rfl) ?_
  simp only [List.take_succ_cons, List.take_zero, List.drop_succ_cons, List.drop_zero]
  go_wp2_with fail
  refine (FB.out).mono ?_
  rintro e w8 ⟨pb, rfl, nb, g8⟩
  have MU := Lib.hid (mul_c w8 pa pb _ _ _ _ (NA.out.grown0 g8) nb (by decide) (by decide))
  have F8 := Lib.hid (gb_trans F7.out g8)
  clear nb g8 FB NA F7
  go_wp2
  refine ⟨HSF.out _ (HC6.out.grown0 F8.out), ?_⟩
  refine Canon.segs_at 0 _ _ _ (by kernel_rfl) ?_
  simp only [List.take_succ_cons, List.take_zero, List.drop_succ_cons, List.drop_zero]
  go_wp2_with fail
  refine (MU.out).mono ?_
  rintro e w9 ⟨pp, rfl, np, g9⟩
  have SM := Lib.hid (same2_c w9 pp x _ _ np ((O6.out.grown0 (gb_trans F8.out g9)).wd) (by decide))
  have F9 := Lib.hid (gb_trans F8.out g9)
  clear np g9 MU F8
  go_wp2
  refine ⟨HSF.out _ (HC6.out.grown0 F9.out), ?_⟩
  refine Canon.segs_at 1 _ _ _ (by kernel_rfl) ?_
  simp only [List.take_succ_cons, List.take_zero, List.drop_succ_cons, List.drop_zero]
  go_wp2_with fail
  refine (SM.out).mono ?_
  rintro e w10 ⟨rfl, g10⟩
  have F10 := Lib.hid (gb_trans F9.out g10)
  have M10 := Lib.hid (M6.out.grown F10.out)
  have E10 := Lib.hid (E6.out.grown0 F10.out)
  have HC10 := Lib.hid (HC6.out.grown0 F10.out)
  have MK := Lib.hid (muls_c w10 gm _ _ c6 M10.out)
  clear g10 SM F9 M6 E6 HC6
  go_wp2
  refine ⟨HSF.out _ HC10.out, ?_⟩
  refine Canon.segs_at 17 _ _ _ (by kernel_rfl) ?_
  simp only [List.take_succ_cons, List.take_zero, List.drop_succ_cons, List.drop_zero]
  have e0 : (0 : Int) + (K : Int) = (K : Int) := Int.zero_add _
  have h0 := E10.out.h0
  have h1 := E10.out.h1
  have h2 := E10.out.h2
  have h3 := E10.out.h3
  go_wp2_with fail
  refine (MK.out).mono ?_
  rintro e wx ⟨rfl, hw⟩
  rw [hw]
  clear hw MK
  go_wp2
  refine ⟨HSF.out _ HC10.out, ?_⟩
  refine Canon.segs_at 3 _ _ _ (by kernel_rfl) ?_
  simp only [List.take_succ_cons, List.take_zero, List.drop_succ_cons, List.drop_zero]
  have c0 := HC10.out.cell 0 rfl
  have c1 := HC10.out.cell 1 rfl
  have c2 := HC10.out.cell 2 rfl
  have c3 := HC10.out.cell 3 rfl
  have c4 := HC10.out.cell 4 rfl
  have c5 := HC10.out.cell 5 rfl
  have c6 := HC10.out.cell 6 rfl
  have c7 := HC10.out.cell 7 rfl
  have c8 := HC10.out.cell 8 rfl
  have c9 := HC10.out.cell 9 rfl
  have c10 := HC10.out.cell 10 rfl
  go_wp2_with fail
  refine (RC.out _).mono ?_
  rintro e w11 ⟨rfl, g11⟩
  have M11 := Lib.hid (M10.out.grown g11)
  have E11 := Lib.hid (E10.out.grown0 g11)
  have F11 := Lib.hid (gb_trans F10.out g11)
  have HC11 := Lib.hid (HC10.out.grown0 g11)
  clear c0 c1 c2 c3 c4 c5 c6 c7 c8 c9 c10
  clear h0 h1 h2 h3 g11 E10 M10 F10 HC10 RC
  go_wp2
  refine ⟨HSF.out _ HC11.out, ?_⟩
  refine Canon.segs_at 18 _ _ _ (by kernel_rfl) ?_
  simp only [List.take_succ_cons, List.take_zero, List.drop_succ_cons, List.drop_zero]
  by_cases hpq : p < q
  · have qq : (p < q) = True := by simp; exact hpq
    have DP := Lib.hid (deep_c w11 gm _ _ c6 M11.out)
    have h0 := E11.out.h0
    have h1 := E11.out.h1
    have h2 := E11.out.h2
    have h3 := E11.out.h3
    go_wp2_with fail
    refine (DP.out).mono ?_
    rintro e wx ⟨rfl, hw⟩
    rw [hw]
    clear hw DP
    go_wp2
    refine ⟨HSF.out _ HC11.out, ?_⟩
    refine Canon.segs_at 3 _ _ _ (by kernel_rfl) ?_
    simp only [List.take_succ_cons, List.take_zero, List.drop_succ_cons, List.drop_zero]
    have LD := Lib.hid (ldeep_c w11 q (by omega))
    obtain ⟨D, hD⟩ : ∃ D, D = 4 + 2 * blen q := ⟨_, rfl⟩
    rw [← hD] at LD
    have lvl : c6.v ≤ (D : Int) := by
      have h := CC6.out
      have h' := blen_mono (show q - 3 ≤ q by omega)
      have h'' : lev (max p q) = blen (q - 3) := by unfold lev; congr 2; omega
      rw [h''] at h
      omega
    have ql : ((D : Int) < c6.v) = False := by simp; exact lvl
    clear hD lvl
    go_wp2_with fail
    refine (LD.out).mono ?_
    rintro e w12 ⟨rfl, g12⟩
    have HC12 := Lib.hid (HC11.out.grown0 g12)
    have NC := Lib.hid (now_c w12 gm _ _ c6 (M11.out.grown g12))
    have E12 := Lib.hid (E11.out.grown0 g12)
    have F12 := Lib.hid (gb_trans F11.out g12)
    clear h0 h1 h2 h3 g12 E11 M11 LD F11 HC11
    go_wp2
    refine ⟨HSF.out _ HC12.out, ?_⟩
    refine Canon.segs_at 18 _ _ _ (by kernel_rfl) ?_
    simp only [List.take_succ_cons, List.take_zero, List.drop_succ_cons, List.drop_zero]
    have h0 := E12.out.h0
    have h1 := E12.out.h1
    have h2 := E12.out.h2
    have h3 := E12.out.h3
    go_wp2_with fail
    refine (NC.out).mono ?_
    rintro e wx ⟨rfl, hw⟩
    rw [hw]
    clear hw NC E12
    go_wp2
    refine ⟨HSF.out _ HC12.out, ?_⟩
    refine Canon.segs_end _ _ _ (by kernel_rfl) ?_
    go_wp2
    refine ⟨by kernel_rfl, by kernel_rfl, by kernel_rfl, ?_⟩
    clear HC12 HSF
    obtain ⟨zs, oz, _, _⟩ := O6.out
    have SO := Lib.hid (spoilW_c w12 _ x zs (oz.grown0 F12.out))
    have NB : Hid (∀ b, x.ownBlock = some b → w5.heap.size ≤ b) := Lib.hid (fun b hb => (oz.lt b hb).1)
    clear oz O6
    go_wp2_with fail
    refine (SO.out).mono ?_
    rintro e w13 ⟨rfl, g13⟩
    clear h0 h1 h2 h3 SO
    have G13 := Lib.hid (gb_new (gb_trans G6.out F12.out) g13 (fun b hb => Nat.le_trans G5.out.size (NB.out b hb)))
    have OX7 := Lib.hid ((OX6.out.grown0 F12.out).grown g13 (by
      by_cases h : x.ownBlock = some gx
      · have := NB.out gx h; have := BX.out.2.2.1; omega
      · exact .inr (by simp only [Value.ownBlock]; exact fun e => h e.symm)))
    have OY7 := Lib.hid ((OY6.out.grown0 F12.out).grown g13 (by
      by_cases h : x.ownBlock = some gy
      · have := NB.out gy h; have := BX.out.2.2.2; omega
      · exact .inr (by simp only [Value.ownBlock]; exact fun e => h e.symm)))
    have IA := intact_c w13 _ gx (.slice A' n ca') al os (HA.out.grown0 G13.out) (by rw [← HN.out]; exact OX7.out) LX.out (by rw [← HN.out]; omega)
    rw [← HN.out] at IA
    have HIA := Lib.hid IA
    clear IA g13 OX6 OY6 F12 NB G6
    go_wp2_with fail
    refine (HIA.out).mono ?_
    rintro e w14 ⟨rfl, g14⟩
    have IB := intact_c w14 _ gy (.slice B' m cb') bl os2 (HB.out.grown0 (gb_trans G13.out g14)) (by rw [← HM.out]; exact OY7.out.grown0 g14) LY.out (by rw [← HM.out]; omega)
    rw [← HM.out] at IB
    have HIB := Lib.hid IB
    have G14 := Lib.hid (gb_trans G13.out g14)
    clear IB g14 HIA OX7 OY7 G13
    go_wp2_with fail
    refine (HIB.out).mono ?_
    rintro e w15 ⟨rfl, g15⟩
    have G15 := Lib.hid (gb_trans G14.out g15)
    have WK := Lib.hid (wakes12_c w15 (HD2.out.grown0 G15.out))
    clear g15 HIB G14
    go_wp2_with fail
    refine (WK.out).mono ?_
    rintro e w16 ⟨rfl, g16⟩
    go_wp2
    go_ret
    exact ⟨rfl, gb_trans HG.out (gb_trans G15.out g16)⟩
  · have qq : (p < q) = False := by simp; omega
    have DP := Lib.hid (deep_c w11 gm _ _ c6 M11.out)
    have h0 := E11.out.h0
    have h1 := E11.out.h1
    have h2 := E11.out.h2
    have h3 := E11.out.h3
    go_wp2_with fail
    refine (DP.out).mono ?_
    rintro e wx ⟨rfl, hw⟩
    rw [hw]
    clear hw DP
    go_wp2
    refine ⟨HSF.out _ HC11.out, ?_⟩
    refine Canon.segs_at 3 _ _ _ (by kernel_rfl) ?_
    simp only [List.take_succ_cons, List.take_zero, List.drop_succ_cons, List.drop_zero]
    have LD := Lib.hid (ldeep_c w11 p (by omega))
    obtain ⟨D, hD⟩ : ∃ D, D = 4 + 2 * blen p := ⟨_, rfl⟩
    rw [← hD] at LD
    have lvl : c6.v ≤ (D : Int) := by
      have h := CC6.out
      have h' := blen_mono (show p - 3 ≤ p by omega)
      have h'' : lev (max p q) = blen (p - 3) := by unfold lev; congr 2; omega
      rw [h''] at h
      omega
    have ql : ((D : Int) < c6.v) = False := by simp; exact lvl
    clear hD lvl
    go_wp2_with fail
    refine (LD.out).mono ?_
    rintro e w12 ⟨rfl, g12⟩
    have HC12 := Lib.hid (HC11.out.grown0 g12)
    have NC := Lib.hid (now_c w12 gm _ _ c6 (M11.out.grown g12))
    have E12 := Lib.hid (E11.out.grown0 g12)
    have F12 := Lib.hid (gb_trans F11.out g12)
    clear h0 h1 h2 h3 g12 E11 M11 LD F11 HC11
    go_wp2
    refine ⟨HSF.out _ HC12.out, ?_⟩
    refine Canon.segs_at 18 _ _ _ (by kernel_rfl) ?_
    simp only [List.take_succ_cons, List.take_zero, List.drop_succ_cons, List.drop_zero]
    have h0 := E12.out.h0
    have h1 := E12.out.h1
    have h2 := E12.out.h2
    have h3 := E12.out.h3
    go_wp2_with fail
    refine (NC.out).mono ?_
    rintro e wx ⟨rfl, hw⟩
    rw [hw]
    clear hw NC E12
    go_wp2
    refine ⟨HSF.out _ HC12.out, ?_⟩
    refine Canon.segs_end _ _ _ (by kernel_rfl) ?_
    go_wp2
    refine ⟨by kernel_rfl, by kernel_rfl, by kernel_rfl, ?_⟩
    clear HC12 HSF
    obtain ⟨zs, oz, _, _⟩ := O6.out
    have SO := Lib.hid (spoilW_c w12 _ x zs (oz.grown0 F12.out))
    have NB : Hid (∀ b, x.ownBlock = some b → w5.heap.size ≤ b) := Lib.hid (fun b hb => (oz.lt b hb).1)
    clear oz O6
    go_wp2_with fail
    refine (SO.out).mono ?_
    rintro e w13 ⟨rfl, g13⟩
    clear h0 h1 h2 h3 SO
    have G13 := Lib.hid (gb_new (gb_trans G6.out F12.out) g13 (fun b hb => Nat.le_trans G5.out.size (NB.out b hb)))
    have OX7 := Lib.hid ((OX6.out.grown0 F12.out).grown g13 (by
      by_cases h : x.ownBlock = some gx
      · have := NB.out gx h; have := BX.out.2.2.1; omega
      · exact .inr (by simp only [Value.ownBlock]; exact fun e => h e.symm)))
    have OY7 := Lib.hid ((OY6.out.grown0 F12.out).grown g13 (by
      by_cases h : x.ownBlock = some gy
      · have := NB.out gy h; have := BX.out.2.2.2; omega
      · exact .inr (by simp only [Value.ownBlock]; exact fun e => h e.symm)))
    have IA := intact_c w13 _ gx (.slice A' n ca') al os (HA.out.grown0 G13.out) (by rw [← HN.out]; exact OX7.out) LX.out (by rw [← HN.out]; omega)
    rw [← HN.out] at IA
    have HIA := Lib.hid IA
    clear IA g13 OX6 OY6 F12 NB G6
    go_wp2_with fail
    refine (HIA.out).mono ?_
    rintro e w14 ⟨rfl, g14⟩
    have IB := intact_c w14 _ gy (.slice B' m cb') bl os2 (HB.out.grown0 (gb_trans G13.out g14)) (by rw [← HM.out]; exact OY7.out.grown0 g14) LY.out (by rw [← HM.out]; omega)
    rw [← HM.out] at IB
    have HIB := Lib.hid IB
    have G14 := Lib.hid (gb_trans G13.out g14)
    clear IB g14 HIA OX7 OY7 G13
    go_wp2_with fail
    refine (HIB.out).mono ?_
    rintro e w15 ⟨rfl, g15⟩
    have G15 := Lib.hid (gb_trans G14.out g15)
    have WK := Lib.hid (wakes12_c w15 (HD2.out.grown0 G15.out))
    clear g15 HIB G14
    go_wp2_with fail
    refine (WK.out).mono ?_
    rintro e w16 ⟨rfl, g16⟩
    go_wp2
    go_ret
    exact ⟨rfl, gb_trans HG.out (gb_trans G15.out g16)⟩
end Go.Proofs.YtldkiddoajlohaaGreatDoor

/- Arguments: a table; rows of rows. -/
namespace Go.Proofs.YtldkiddoajlohaaGreatDoor
open Go.RowKit Go.Deep Go.ChangeShapes Go.WideShapes

theorem tab_cell {H : Type} {enc : TypeId × Value → H} {w : World} {base : Nat} {sp : Nat → Bool} {held : Bool} {cs : List Value} {xs : List (DataW H × List MemPlace)} {n : Nat} (hl : cs.length = 11) (hxs : xs.length = 11) (i : Nat) (hi : i < 11)
    (g : DataW.trod enc Tryz.prog w base sp held n 3 ((cs.drop i).take (Tryz.prog.cellsOf 3)) = xs[i]?) : ∃ z : Int, cs.getD i undef = .int .i64 z := by
  rw [show Tryz.prog.cellsOf 3 = 1 by kernel_rfl, take1_drop cs i undef (by omega), List.getElem?_eq_getElem (by omega)] at g
  obtain ⟨z, hz, _⟩ := DataW.trod_int Tryz.underlying3 g
  exact ⟨z, by simpa using hz⟩
set_option maxRecDepth 100000 in
theorem open_tab {H : Type} {enc : TypeId × Value → H} {w : World} {base b0 : Nat} {sp : Nat → Bool} {held : Bool} {r : Reach} {v : Value} {d : DataW H} {ps : List MemPlace} (hval : Value.okWide Tryz.prog w r b0 23 v)
    (hd : DataW.Trod enc Tryz.prog w base sp held 23 v d ps) : ∃ t : Tb, v = t.v := by
  obtain ⟨cs, rfl, hsz⟩ := okWide_struct Tryz.underlying23 hval
  obtain ⟨fuel, hf⟩ := hd
  obtain ⟨xs, n, _, _, hl, hxl, hx⟩ := DataW.trod_struct Tryz.underlying23 hf
  rw [show Tryz.prog.cellsOf 23 = 11 by kernel_rfl] at hsz hl
  have hl' : cs.toList.length = 11 := hl
  have hxl' : xs.length = 11 := hxl
  obtain ⟨z0, h0⟩ := tab_cell hl' hxl' 0 (by decide) (hx 0 _ rfl)
  obtain ⟨z1, h1⟩ := tab_cell hl' hxl' 1 (by decide) (hx 1 _ rfl)
  obtain ⟨z2, h2⟩ := tab_cell hl' hxl' 2 (by decide) (hx 2 _ rfl)
  obtain ⟨z3, h3⟩ := tab_cell hl' hxl' 3 (by decide) (hx 3 _ rfl)
  obtain ⟨z4, h4⟩ := tab_cell hl' hxl' 4 (by decide) (hx 4 _ rfl)
  obtain ⟨z5, h5⟩ := tab_cell hl' hxl' 5 (by decide) (hx 5 _ rfl)
  obtain ⟨z6, h6⟩ := tab_cell hl' hxl' 6 (by decide) (hx 6 _ rfl)
  obtain ⟨z7, h7⟩ := tab_cell hl' hxl' 7 (by decide) (hx 7 _ rfl)
  obtain ⟨z8, h8⟩ := tab_cell hl' hxl' 8 (by decide) (hx 8 _ rfl)
  obtain ⟨z9, h9⟩ := tab_cell hl' hxl' 9 (by decide) (hx 9 _ rfl)
  obtain ⟨z10, h10⟩ := tab_cell hl' hxl' 10 (by decide) (hx 10 _ rfl)
  refine ⟨⟨z0, z1, z2, z3, z4, z5, z6, z7, z8, z9, z10⟩, ?_⟩
  obtain ⟨l⟩ := cs
  have hl11 : l.length = 11 := by simpa using hsz
  match l, hl11 with
  | [a0, a1, a2, a3, a4, a5, a6, a7, a8, a9, a10], _ =>
    obtain rfl : a0 = _ := h0
    obtain rfl : a1 = _ := h1
    obtain rfl : a2 = _ := h2
    obtain rfl : a3 = _ := h3
    obtain rfl : a4 = _ := h4
    obtain rfl : a5 = _ := h5
    obtain rfl : a6 = _ := h6
    obtain rfl : a7 = _ := h7
    obtain rfl : a8 = _ := h8
    obtain rfl : a9 = _ := h9
    obtain rfl : a10 = _ := h10
    rfl
end Go.Proofs.YtldkiddoajlohaaGreatDoor

/- Chapter 12: squares, and what they cost. -/
namespace Go.Proofs.YtldkiddoajlohaaGreatDoor
open Go.RowKit

set_option maxRecDepth 100000 in
set_option maxHeartbeats 4000000 in
theorem MulSquares_walk (t : Tb) (va : Value) (al0 : List Int) (w : World) (ha : Sl w va al0) (hd : Db w) :
    Calls Tryz.prog 9 #[t.v, va] w fun e w' => e = .returned (.bool true) ∧ w.grownBy w' none := by
  have C0 := cs_new w #[.int .i64 t.eb, .int .i64 t.et, .int .i64 t.en, .int .i64 t.ed, .int .i64 t.er, .int .i64 t.el, .int .i64 t.ex, .int .i64 t.ep, .int .i64 t.ek, .int .i64 t.es, .int .i64 t.ee] 23
  have hg := gb_alloc (gb_refl w none) (Obj.cells #[.int .i64 t.eb, .int .i64 t.et, .int .i64 t.en, .int .i64 t.ed, .int .i64 t.er, .int .i64 t.el, .int .i64 t.ex, .int .i64 t.ep, .int .i64 t.ek, .int .i64 t.es, .int .i64 t.ee] 23)
  have HG := Lib.hid hg
  have HC0 := Lib.hid C0
  have CA := Lib.hid (fun w1 (g : w.grownBy w1 none) => cut_c w1 va al0 100 (by decide) (ha.grown0 g))
  obtain ⟨A, ca, rfl, _, _⟩ := ha.form
  have HD := Lib.hid hd
  clear ha hd C0 hg
  go_enter Tryz.func9, Tryz.ntmps9
  go_wp2_with fail
  refine (CA.out _ HG.out).mono ?_
  rintro e w2 ⟨ua, rfl, ha, hw1⟩
  rw [← hw1] at HG HC0
  rw [← hw1] at ha
  have hsz : w.heap.size < w2.heap.size := by rw [hw1, alloc_sz]; omega
  clear hw1
  have HW2 : Hid (w.heap.size < w2.heap.size) := Lib.hid hsz
  clear hsz
  obtain ⟨al, hal⟩ : ∃ l, l = al0.take 100 := ⟨_, rfl⟩
  rw [← hal] at ha
  have la : al.length ≤ 100 := by rw [hal, List.length_take]; omega
  clear hal CA
  obtain ⟨A', ca', rfl, hca, hca2⟩ := ha.form
  obtain ⟨n, hn⟩ : ∃ n, n = al.length := ⟨_, rfl⟩
  have HA := Lib.hid ha
  rw [← hn] at HA la hca ⊢
  have HN := Lib.hid hn
  have NW := Lib.hid (fun w => mulNew_c w t)
  clear hn ha
  have c0 := HC0.out.cell 0 rfl
  have c1 := HC0.out.cell 1 rfl
  have c2 := HC0.out.cell 2 rfl
  have c3 := HC0.out.cell 3 rfl
  have c4 := HC0.out.cell 4 rfl
  have c5 := HC0.out.cell 5 rfl
  have c6 := HC0.out.cell 6 rfl
  have c7 := HC0.out.cell 7 rfl
  have c8 := HC0.out.cell 8 rfl
  have c9 := HC0.out.cell 9 rfl
  have c10 := HC0.out.cell 10 rfl
  have HD2 := Lib.hid (HD.out.grown0 HG.out)
  clear HD
  go_wp2_with fail
  refine (NW.out _).mono ?_
  rintro e w3 ⟨g0, g1, g2, g3, gm, rfl, eg, hgm, mt, g3'⟩
  have HE := Lib.hid eg
  have MT := Lib.hid mt
  have G3 := Lib.hid g3'
  have HC3 := Lib.hid (HC0.out.grown0 g3')
  have HGM : Hid (gm < w3.heap.size ∧ w2.heap.size ≤ gm) := Lib.hid ⟨World.block_lt_of_cell? w3 _ mt.c0, hgm⟩
  clear eg hgm mt g3' NW HC0
  clear c0 c1 c2 c3 c4 c5 c6 c7 c8 c9 c10
  have LA := lend_c w3 _ al (HA.out.grown0 G3.out) (by rw [← HN.out]; omega)
  rw [← HN.out] at LA
  have HLA := Lib.hid LA
  clear LA
  go_wp2_with fail
  refine (HLA.out).mono ?_
  rintro e w5 ⟨gx, os, rfl, ox, le, g4⟩
  have OX5 := Lib.hid ox
  have LX := Lib.hid le
  have G35 := Lib.hid g4
  have G5 := Lib.hid (gb_trans G3.out G35.out)
  have BX : Hid (gx ≠ gm ∧ gx < w5.heap.size) := Lib.hid (by
    have h1 := ox.base_le; have h3 := HGM.out
    omega)
  have SX := LX.out.sl (by rw [← HN.out]; exact OX5.out)
  rw [← HN.out] at SX
  have l1 := trimZ_len al
  rw [← HN.out] at l1
  have N1 := sqrE_c t.clamp_ok w5 g0 g1 g2 g3 gm 0 0 ⟨0, tbT t.clamp⟩ _ al (HE.out.grown0 G35.out) (HD2.out.grown0 G5.out) (MT.out.grown G35.out) rfl (by decide) (by decide) SX (off_some BX.out.1) (by omega)
  have WA := fun w' (g : w2.grownBy w' none) => lwords_c w' _ al (HA.out.grown0 g)
  obtain ⟨p, hp⟩ : ∃ p, p = (trimZ al).length := ⟨_, rfl⟩
  rw [← hp] at l1 N1 WA
  have RC := Lib.hid (fun w => rsq_all t p (by omega) w)
  obtain ⟨K, hK⟩ : ∃ K, K = sq t.clamp p := ⟨_, rfl⟩
  rw [← hK] at N1 RC
  have HN1 := Lib.hid N1
  have HWA := Lib.hid WA
  clear hp hK N1 WA SX g4 ox le HLA
  go_wp2_with fail
  refine (HN1.out).mono ?_
  rintro e w6 ⟨x, c6, rfl, o6, m6, cc6, g6⟩
  have G6 := Lib.hid (gb_new G5.out g6 (fun i hi => by cases hi; exact HGM.out.2))
  have O6 := Lib.hid o6
  have M6 := Lib.hid m6
  have CC6 : Hid (c6.v ≤ ((lev p : Nat) : Int)) := Lib.hid (by
    have h := cc6.2.2
    have h2 : (⟨0, tbT t.clamp⟩ : Mc).v = 0 := rfl
    rw [h2] at h
    omega)
  have E6 := Lib.hid ((HE.out.grown0 G35.out).grown g6)
  have OX6 := Lib.hid (OX5.out.past g6 BX.out.1)
  have HC6 := Lib.hid ((HC3.out.grown0 G35.out).grown g6 (by have h := HGM.out; have h2 := HW2.out; simp; omega))
  clear o6 m6 cc6 g6 HN1 OX5 HE MT HC3 G35
  have HSF : Hid (∀ W, Cs W w.heap.size t.vs → Canon.SF [(⟨w.heap.size, 0, none⟩, t.v)] W) := Lib.hid (fun W C => Canon.sf_agg (fun j u h => C.at0 j h) (Canon.sf_nil _))
  go_wp2
  refine Canon.region_held [44] _ (by kernel_rfl) (by kernel_rfl) (HSF.out _ HC6.out) ?_
  have G6 := Lib.hid (gb_drew G6.out)
  have O6 := Lib.hid (O6.out.grown0 (gb_drew (gb_refl w6 none)))
  have M6 := Lib.hid M6.out.drew
  have E6 := Lib.hid E6.out.drew
  have OX6 := Lib.hid OX6.out.drew
  have HC6 := Lib.hid HC6.out.drew
  obtain ⟨wd, hwd⟩ : ∃ W, W = w6.drew := ⟨_, rfl⟩
  rw [← hwd] at G6 O6 M6 E6 OX6 HC6 ⊢
  clear hwd
  refine Canon.segs_at 1 _ _ _ (by kernel_rfl) ?_
  simp only [List.take_succ_cons, List.take_zero, List.drop_succ_cons, List.drop_zero]
  have FA := Lib.hid (lfrom_c wd _ al 100 (HA.out.grown0 G6.out) (by rw [← HN.out]; exact la) (by decide))
  go_wp2_with fail
  refine (FA.out).mono ?_
  rintro e w7 ⟨pa, rfl, na, g7⟩
  have NA := Lib.hid na
  have F7 := Lib.hid g7
  have FB := Lib.hid (lfrom_c w7 _ al 100 (HA.out.grown0 (gb_trans G6.out g7)) (by rw [← HN.out]; exact la) (by decide))
  clear na g7 FA
  go_wp2
  refine ⟨HSF.out _ (HC6.out.grown0 F7.out), ?_⟩
  refine Canon.segs_at 1 _ _ _ (by kernel_rfl) ?_
  simp only [List.take_succ_cons, List.take_zero, List.drop_succ_cons, List.drop_zero]
  go_wp2_with fail
  refine (FB.out).mono ?_
  rintro e w8 ⟨pb, rfl, nb, g8⟩
  have MU := Lib.hid (mul_c w8 pa pb _ _ _ _ (NA.out.grown0 g8) nb (by decide) (by decide))
  have F8 := Lib.hid (gb_trans F7.out g8)
  clear nb g8 FB NA F7
  go_wp2
  refine ⟨HSF.out _ (HC6.out.grown0 F8.out), ?_⟩
  refine Canon.segs_at 0 _ _ _ (by kernel_rfl) ?_
  simp only [List.take_succ_cons, List.take_zero, List.drop_succ_cons, List.drop_zero]
  go_wp2_with fail
  refine (MU.out).mono ?_
  rintro e w9 ⟨pp, rfl, np, g9⟩
  have SM := Lib.hid (same2_c w9 pp x _ _ np ((O6.out.grown0 (gb_trans F8.out g9)).wd) (by decide))
  have F9 := Lib.hid (gb_trans F8.out g9)
  clear np g9 MU F8
  go_wp2
  refine ⟨HSF.out _ (HC6.out.grown0 F9.out), ?_⟩
  refine Canon.segs_at 1 _ _ _ (by kernel_rfl) ?_
  simp only [List.take_succ_cons, List.take_zero, List.drop_succ_cons, List.drop_zero]
  go_wp2_with fail
  refine (SM.out).mono ?_
  rintro e w10 ⟨rfl, g10⟩
  have F10 := Lib.hid (gb_trans F9.out g10)
  have M10 := Lib.hid (M6.out.grown F10.out)
  have E10 := Lib.hid (E6.out.grown0 F10.out)
  have HC10 := Lib.hid (HC6.out.grown0 F10.out)
  have MK := Lib.hid (muls_c w10 gm _ _ c6 M10.out)
  clear g10 SM F9 M6 E6 HC6
  go_wp2
  refine ⟨HSF.out _ (HC10.out), ?_⟩
  refine Canon.segs_at 17 _ _ _ (by kernel_rfl) ?_
  simp only [List.take_succ_cons, List.take_zero, List.drop_succ_cons, List.drop_zero]
  have e0 : (0 : Int) + (K : Int) = (K : Int) := Int.zero_add _
  have h0 := E10.out.h0
  have h1 := E10.out.h1
  have h2 := E10.out.h2
  have h3 := E10.out.h3
  go_wp2_with fail
  refine (MK.out).mono ?_
  rintro e wx ⟨rfl, hw⟩
  rw [hw]
  clear hw MK
  go_wp2
  refine ⟨HSF.out _ (HC10.out), ?_⟩
  refine Canon.segs_at 2 _ _ _ (by kernel_rfl) ?_
  simp only [List.take_succ_cons, List.take_zero, List.drop_succ_cons, List.drop_zero]
  have c0 := HC10.out.cell 0 rfl
  have c1 := HC10.out.cell 1 rfl
  have c2 := HC10.out.cell 2 rfl
  have c3 := HC10.out.cell 3 rfl
  have c4 := HC10.out.cell 4 rfl
  have c5 := HC10.out.cell 5 rfl
  have c6 := HC10.out.cell 6 rfl
  have c7 := HC10.out.cell 7 rfl
  have c8 := HC10.out.cell 8 rfl
  have c9 := HC10.out.cell 9 rfl
  have c10 := HC10.out.cell 10 rfl
  go_wp2_with fail
  refine (HWA.out w10 (gb_trans G6.out F10.out)).mono ?_
  rintro e wx ⟨rfl, hw⟩
  rw [hw]
  clear hw
  clear c0 c1 c2 c3 c4 c5 c6 c7 c8 c9 c10
  go_wp2
  refine ⟨HSF.out _ (HC10.out), ?_⟩
  refine Canon.segs_at 0 _ _ _ (by kernel_rfl) ?_
  simp only [List.take_succ_cons, List.take_zero, List.drop_succ_cons, List.drop_zero]
  go_wp2_with fail
  refine (RC.out _).mono ?_
  rintro e w11 ⟨rfl, g11⟩
  have M11 := Lib.hid (M10.out.grown g11)
  have E11 := Lib.hid (E10.out.grown0 g11)
  have F11 := Lib.hid (gb_trans F10.out g11)
  have HC11 := Lib.hid (HC10.out.grown0 g11)
  clear h0 h1 h2 h3 g11 E10 M10 F10 HC10 RC
  go_wp2
  refine ⟨HSF.out _ (HC11.out), ?_⟩
  refine Canon.segs_at 18 _ _ _ (by kernel_rfl) ?_
  simp only [List.take_succ_cons, List.take_zero, List.drop_succ_cons, List.drop_zero]
  have DP := Lib.hid (deep_c w11 gm _ _ c6 M11.out)
  have h0 := E11.out.h0
  have h1 := E11.out.h1
  have h2 := E11.out.h2
  have h3 := E11.out.h3
  go_wp2_with fail
  refine (DP.out).mono ?_
  rintro e wx ⟨rfl, hw⟩
  rw [hw]
  clear hw DP
  go_wp2
  refine ⟨HSF.out _ (HC11.out), ?_⟩
  refine Canon.segs_at 1 _ _ _ (by kernel_rfl) ?_
  simp only [List.take_succ_cons, List.take_zero, List.drop_succ_cons, List.drop_zero]
  go_wp2_with fail
  refine (HWA.out w11 (gb_trans G6.out F11.out)).mono ?_
  rintro e wx ⟨rfl, hw⟩
  rw [hw]
  clear hw HWA
  go_wp2
  refine ⟨HSF.out _ (HC11.out), ?_⟩
  refine Canon.segs_at 0 _ _ _ (by kernel_rfl) ?_
  simp only [List.take_succ_cons, List.take_zero, List.drop_succ_cons, List.drop_zero]
  have LD := Lib.hid (ldeep_c w11 p (by omega))
  obtain ⟨D, hD⟩ : ∃ D, D = 4 + 2 * blen p := ⟨_, rfl⟩
  rw [← hD] at LD
  have lvl : c6.v ≤ (D : Int) := by
    have h := CC6.out
    have h' := blen_mono (show p - 3 ≤ p by omega)
    unfold lev at h
    omega
  have ql : ((D : Int) < c6.v) = False := by simp; exact lvl
  clear hD lvl
  go_wp2_with fail
  refine (LD.out).mono ?_
  rintro e w12 ⟨rfl, g12⟩
  have HC12 := Lib.hid (HC11.out.grown0 g12)
  have F12 := Lib.hid (gb_trans F11.out g12)
  clear h0 h1 h2 h3 g12 E11 M11 LD F11 HC11
  go_wp2
  refine ⟨HSF.out _ HC12.out, ?_⟩
  refine Canon.segs_end _ _ _ (by kernel_rfl) ?_
  go_wp2
  refine ⟨by kernel_rfl, by kernel_rfl, by kernel_rfl, ?_⟩
  clear HC12 HSF
  obtain ⟨zs, oz, _, _⟩ := O6.out
  have SO := Lib.hid (spoilW_c w12 _ x zs (oz.grown0 F12.out))
  have NB : Hid (∀ b, x.ownBlock = some b → w5.heap.size ≤ b) := Lib.hid (fun b hb => (oz.lt b hb).1)
  clear oz O6
  go_wp2_with fail
  refine (SO.out).mono ?_
  rintro e w13 ⟨rfl, g13⟩
  clear SO
  have G13 := Lib.hid (gb_new (gb_trans G6.out F12.out) g13 (fun b hb => Nat.le_trans G5.out.size (NB.out b hb)))
  have OX7 := Lib.hid ((OX6.out.grown0 F12.out).grown g13 (by
    by_cases h : x.ownBlock = some gx
    · have := NB.out gx h; have := BX.out.2; omega
    · exact .inr (by simp only [Value.ownBlock]; exact fun e => h e.symm)))
  have IA := intact_c w13 _ gx (.slice A' n ca') al os (HA.out.grown0 G13.out) (by rw [← HN.out]; exact OX7.out) LX.out (by rw [← HN.out]; omega)
  rw [← HN.out] at IA
  have HIA := Lib.hid IA
  clear IA g13 OX6 F12 NB G6
  go_wp2_with fail
  refine (HIA.out).mono ?_
  rintro e w15 ⟨rfl, g15⟩
  have G15 := Lib.hid (gb_trans G13.out g15)
  have WK := Lib.hid (wakes12_c w15 (HD2.out.grown0 G15.out))
  clear g15 HIA G13 OX7
  go_wp2_with fail
  refine (WK.out).mono ?_
  rintro e w16 ⟨rfl, g16⟩
  go_wp2
  go_ret
  exact ⟨rfl, gb_trans HG.out (gb_trans G15.out g16)⟩
end Go.Proofs.YtldkiddoajlohaaGreatDoor

/- Chapter 12: the greatest words of all. -/
namespace Go.Proofs.YtldkiddoajlohaaGreatDoor
open Go.RowKit

theorem own_two3 (w : World) (n m : Nat) (hn : n ≤ 1000000) (hm : m ≤ 1000000) : Own (((w.alloc (.cells (madeCells #[.int .u64 0] n) 79)).alloc (.cells (madeCells #[.int .u64 0] m) 79)).drew) w.heap.size (.slice (some ⟨w.heap.size, 0, none⟩) n n) (List.replicate n 0) ∧
    Own (((w.alloc (.cells (madeCells #[.int .u64 0] n) 79)).alloc (.cells (madeCells #[.int .u64 0] m) 79)).drew) w.heap.size (.slice (some ⟨w.heap.size + 1, 0, none⟩) m m) (List.replicate m 0) := by
  have e : (w.alloc (.cells (madeCells #[.int .u64 0] n) 79)).heap.size = w.heap.size + 1 := by simp
  have h1 := (own_made w w.heap.size n n (Nat.le_refl _) (Nat.le_refl _) (by omega)).alloc (.cells (madeCells #[.int .u64 0] m) 79)
  have h2 := own_made (w.alloc (.cells (madeCells #[.int .u64 0] n) 79)) w.heap.size m m (by rw [e]; omega) (Nat.le_refl _) (by omega)
  rw [e] at h2
  exact ⟨h1.drew, h2.drew⟩
set_option maxRecDepth 100000 in
set_option maxHeartbeats 4000000 in
theorem MulGreat_walk (t : Tb) (n0 k0 : Int) (w : World) (_hn : -9223372036854775808 ≤ n0 ∧ n0 ≤ 9223372036854775807) (_hk : -9223372036854775808 ≤ k0 ∧ k0 ≤ 9223372036854775807) (hd : Db w) :
    Calls Tryz.prog 10 #[t.v, .int .i64 n0, .int .i64 k0] w fun e w' => e = .returned (.bool true) ∧ w.grownBy w' none := by
  have C0 := cs_new w #[.int .i64 t.eb, .int .i64 t.et, .int .i64 t.en, .int .i64 t.ed, .int .i64 t.er, .int .i64 t.el, .int .i64 t.ex, .int .i64 t.ep, .int .i64 t.ek, .int .i64 t.es, .int .i64 t.ee] 23
  have hg := gb_alloc (gb_refl w none) (Obj.cells #[.int .i64 t.eb, .int .i64 t.et, .int .i64 t.en, .int .i64 t.ed, .int .i64 t.er, .int .i64 t.el, .int .i64 t.ex, .int .i64 t.ep, .int .i64 t.ek, .int .i64 t.es, .int .i64 t.ee] 23)
  have HG := Lib.hid hg
  have HC0 := Lib.hid C0
  obtain ⟨n, hn1⟩ : ∃ n : Nat, (n : Int) = 1 + n0 % 90 := ⟨(1 + n0 % 90).toNat, by omega⟩
  obtain ⟨m, hm1⟩ : ∃ n : Nat, (n : Int) = 1 + k0 % 90 := ⟨(1 + k0 % 90).toNat, by omega⟩
  have en : 1 + n0 % 90 = (n : Int) := hn1.symm
  have em : 1 + k0 % 90 = (m : Int) := hm1.symm
  have bn : 0 < n ∧ n ≤ 90 := by omega
  have bm : 0 < m ∧ m ≤ 90 := by omega
  have mk1 := make64 29 (by kernel_rfl) n n (n : Int) (n : Int) (by omega) (by omega) (by omega) (by omega)
  have mk2 := make64 29 (by kernel_rfl) m m (m : Int) (m : Int) (by omega) (by omega) (by omega) (by omega)
  have O2 := Lib.hid (fun w => own_two3 w n m (by omega) (by omega))
  have O3 := Lib.hid (fun w => own_two3 w m n (by omega) (by omega))
  have HD := Lib.hid hd
  have W1 := Lib.hid (fun w => within_c n0 90 (by decide) (by decide) w)
  have W2 := Lib.hid (fun w => within_c k0 90 (by decide) (by decide) w)
  clear hn1 hm1 hd _hn _hk C0 hg
  go_enter Tryz.func10, Tryz.ntmps10
  go_wp2_with fail
  refine (W1.out _).mono ?_
  rintro e w1 ⟨rfl, hw1⟩
  rw [← hw1] at HG HC0
  clear hw1
  go_wp2_with fail
  refine (W2.out _).mono ?_
  rintro e w2 ⟨rfl, hw2⟩
  subst hw2
  have HD2 := Lib.hid (HD.out.grown0 HG.out)
  clear HD
  go_upto_region 2 with fail
  go_cut [7, 8] from 17 to 20 (fun v5 v6 wc => ∃ ga gb, v5 = .slice (some ⟨ga, 0, none⟩) n n ∧ v6 = .slice (some ⟨gb, 0, none⟩) m m ∧ ga ≠ gb ∧ Own wc w2.heap.size (.slice (some ⟨ga, 0, none⟩) n n) (List.replicate n 0) ∧ Own wc w2.heap.size (.slice (some ⟨gb, 0, none⟩) m m) (List.replicate m 0) ∧ w2.grownBy wc none)
  case first =>
    go_region
    all_goals (go_wp2_with fail)
    all_goals (go_meet)
    · obtain ⟨o1, o2⟩ := O2.out w2
      exact ⟨_, _, rfl, rfl, by omega, o1, o2, gb_drew (gb_alloc (gb_alloc (gb_refl w2 none) _) _)⟩
    · obtain ⟨o1, o2⟩ := O3.out w2
      exact ⟨_, _, rfl, rfl, by omega, o2, o1, gb_drew (gb_alloc (gb_alloc (gb_refl w2 none) _) _)⟩
  case rest =>
    obtain ⟨ga, gb, rfl, rfl, hne, oa, ob, GC⟩ := hcut
    clear O2 O3 mk1 mk2 W1 W2 en em
    have OA := Lib.hid oa
    have OB := Lib.hid ob
    clear oa ob
    go_wp2
    go_loopw [9] (fun v7 wr => ∃ (i : Nat) (xs ys : List Int), v7 = .int .i64 i ∧ i ≤ n ∧ Own wr w2.heap.size (.slice (some ⟨ga, 0, none⟩) n n) xs ∧ Own wr w2.heap.size (.slice (some ⟨gb, 0, none⟩) m m) ys ∧ w2.grownBy wr none) (fun v7 _ => n - (intOf v7).toNat)
    case atStart => exact ⟨0, _, _, rfl, by omega, OA.out, OB.out, GC⟩
    case round =>
      clear OA OB GC
      obtain ⟨i, xs, ys, rfl, hi, oa, ob, G⟩ := hrel
      have OA := Lib.hid oa
      have OB := Lib.hid ob
      have BG := Lib.hid (And.intro oa.base_le.1 ob.base_le.1)
      have GG := Lib.hid G
      clear oa ob G
      by_cases hlt : i < n
      · have fr := OA.out.free i
        have ce := OA.out.cell i (by rw [← OA.out.len]; exact hlt)
        obtain ⟨y, hy⟩ : ∃ y, y = rd xs i := ⟨_, rfl⟩
        rw [← hy] at ce
        clear hy
        go_wp2
        go_roundw
        case rel => exact ⟨i + 1, _, ys, by go_num, by omega, OA.out.store i (by decide) (by decide), OB.out.past (gb_rowC (gb_refl _ (some ga)) i _) (Ne.symm hne), gb_set (p := ⟨ga, i, none⟩) GG.out BG.out.1 _⟩
        case measure => simp [intOf]; omega
      · obtain rfl : i = n := by omega
        clear hi hlt
        obtain ⟨wo, rfl⟩ : ∃ wo : World, wo = wr := ⟨_, rfl⟩
        go_wp2
        go_loopw [10] (fun v8 wr => ∃ (j : Nat) (ys : List Int), v8 = .int .i64 j ∧ j ≤ m ∧ Own wr w2.heap.size (.slice (some ⟨ga, 0, none⟩) i i) xs ∧ Own wr w2.heap.size (.slice (some ⟨gb, 0, none⟩) m m) ys ∧ w2.grownBy wr none) (fun v8 _ => m - (intOf v8).toNat)
        case atStart => exact ⟨0, _, rfl, by omega, OA.out, OB.out, GG.out⟩
        case round =>
          clear OA OB GG
          obtain ⟨j, ys, rfl, hj, oa, ob, G⟩ := hrel
          have OA := Lib.hid oa
          have OB := Lib.hid ob
          have GG := Lib.hid G
          clear oa ob G
          by_cases hlt : j < m
          · have fr := OB.out.free j
            have ce := OB.out.cell j (by rw [← OB.out.len]; exact hlt)
            obtain ⟨y, hy⟩ : ∃ y, y = rd ys j := ⟨_, rfl⟩
            rw [← hy] at ce
            clear hy
            go_wp2
            go_roundw
            case rel => exact ⟨j + 1, _, by go_num, by omega, OA.out.past (gb_rowC (gb_refl _ (some gb)) j _) hne, OB.out.store j (by decide) (by decide), gb_set (p := ⟨gb, j, none⟩) GG.out BG.out.2 _⟩
            case measure => simp [intOf]; omega
          · obtain rfl : j = m := by omega
            clear hj hlt
            have MM := Lib.hid (MulMuls_walk t _ xs _ ys wr OA.out.sl OB.out.sl (HD2.out.grown0 GG.out))
            have HC3 := Lib.hid (HC0.out.grown0 GG.out)
            have c0 := HC3.out.cell 0 rfl
            have c1 := HC3.out.cell 1 rfl
            have c2 := HC3.out.cell 2 rfl
            have c3 := HC3.out.cell 3 rfl
            have c4 := HC3.out.cell 4 rfl
            have c5 := HC3.out.cell 5 rfl
            have c6 := HC3.out.cell 6 rfl
            have c7 := HC3.out.cell 7 rfl
            have c8 := HC3.out.cell 8 rfl
            have c9 := HC3.out.cell 9 rfl
            have c10 := HC3.out.cell 10 rfl
            go_wp2_with fail
            refine (MM.out).mono ?_
            rintro e w3 ⟨rfl, g3⟩
            have G3 := Lib.hid (gb_trans GG.out g3)
            have MS := Lib.hid (MulSquares_walk t _ xs w3 (OA.out.grown0 g3).sl (HD2.out.grown0 G3.out))
            have HC4 := Lib.hid (HC0.out.grown0 G3.out)
            clear c0 c1 c2 c3 c4 c5 c6 c7 c8 c9 c10
            clear g3 MM HC3 HC0 OA OB
            have c0 := HC4.out.cell 0 rfl
            have c1 := HC4.out.cell 1 rfl
            have c2 := HC4.out.cell 2 rfl
            have c3 := HC4.out.cell 3 rfl
            have c4 := HC4.out.cell 4 rfl
            have c5 := HC4.out.cell 5 rfl
            have c6 := HC4.out.cell 6 rfl
            have c7 := HC4.out.cell 7 rfl
            have c8 := HC4.out.cell 8 rfl
            have c9 := HC4.out.cell 9 rfl
            have c10 := HC4.out.cell 10 rfl
            go_wp2_with fail
            refine (MS.out).mono ?_
            rintro e w4 ⟨rfl, g4⟩
            have G4 := Lib.hid (gb_trans G3.out g4)
            have WK := Lib.hid (wakes12_c w4 (HD2.out.grown0 G4.out))
            clear c0 c1 c2 c3 c4 c5 c6 c7 c8 c9 c10
            clear g4 MS HC4
            go_wp2_with fail
            refine (WK.out).mono ?_
            rintro e w5 ⟨rfl, g5⟩
            go_wp2
            go_ret
            exact ⟨rfl, gb_trans HG.out (gb_trans G4.out g5)⟩
end Go.Proofs.YtldkiddoajlohaaGreatDoor

/- Products of rows that may be empty; an engine and its state. -/
namespace Go.Proofs.YtldkiddoajlohaaGreatDoor
open Go.RowKit

theorem Sl.offX {w w' : World} {v : Value} {xs : List Int} {gm : Nat} (h : Sl w v xs) (ho : xs = [] ∨ Off v gm) (g : w.grownBy w' (some gm)) : Sl w' v xs := by
  rcases ho with rfl | ho
  · obtain ⟨A, c, e, h1, h2, h3, _⟩ := h
    exact ⟨A, c, e, h1, h2, h3, fun h => by simp at h⟩
  · exact h.off ho g
theorem Sl.offN {w : World} {v : Value} {xs : List Int} {gm : Nat} (h : Sl w v xs) (hg : w.heap.size ≤ gm) : xs = [] ∨ Off v gm := by
  cases xs with
  | nil => exact .inl rfl
  | cons x xs =>
    right
    obtain ⟨A, c, rfl, h1, h2, h3, h4⟩ := h
    obtain ⟨b, o, rfl, hc⟩ := h4 (by simp)
    have := World.block_lt_of_cell? w _ (hc 0 (by simp))
    exact fun b' hb' => by
      simp only [Value.ownBlock, Option.some.injEq] at hb'
      simp only at this
      omega
theorem Pts.growngX {w w' : World} {v : Value} {n gm : Nat} {V : Nat → Value} {X : Nat → List Int} (h : Pts w v n V X) (ho : Off v gm) (hV : ∀ j, j < n → X j = [] ∨ Off (V j) gm) (g : w.grownBy w' (some gm)) : Pts w' v n V X :=
  ⟨h.c.growng ho g, fun j hj => (h.s j hj).offX (hV j hj) g⟩
set_option maxRecDepth 100000 in
set_option maxHeartbeats 4000000 in
theorem product_all2 {t : Tb} (ht : TbOk t) : ∀ (n : Nat), n ≤ 1000 → ∀ (w : World) (g0 g1 g2 g3 gm : Nat) (a b : Int) (c : Mc) (v : Value) (V : Nat → Value) (X : Nat → List Int), Eng w g0 g1 g2 g3 gm → Db w → Mt w gm a b c → c.T = tbT t → b ≤ 900 → a + (n : Int) * 100000000 ≤ 900000000000000 →
    Pts w v n V X → Off v gm → (∀ j, j < n → X j = [] ∨ Off (V j) gm) → tot X 0 n ≤ 1000 →
    Calls Tryz.prog 16 #[.pointer (some ⟨g0, 0, none⟩), v] w fun e w' => ∃ x c' a', e = .returned x ∧ Wo w' w.heap.size x (prV (fun j => val B64 (X j)) 0 n) ∧ Mt w' gm a' b c' ∧ (a' ≤ a + (n : Int) * 100000000 ∧ (0 < n → a' + 10000000 ≤ a + (n : Int) * 100000000)) ∧ c'.T = tbT t ∧ w.grownBy w' (some gm) := by
  intro n
  induction n using Nat.strongRecOn with
  | _ n ih =>
    intro hn1 w g0 g1 g2 g3 gm a b c v V X he hd hm hT hb ha hp ho hV hl
    have hgm : gm < w.heap.size := World.block_lt_of_cell? w _ hm.c0
    obtain ⟨A, ca, rfl, hca, _, h4⟩ := hp.c
    by_cases n0 : n = 0
    · subst n0
      have ON := Lib.hid (lone_c w 1 (by decide) (by decide))
      have HM := Lib.hid hm
      have HT := Lib.hid hT
      have HH : Hid (a ≤ a + ((0 : Nat) : Int) * 100000000 ∧ (0 < 0 → a + 10000000 ≤ a + ((0 : Nat) : Int) * 100000000)) := Lib.hid (by omega)
      clear ih hp h4 hm hT he hd ha hl hV ho
      go_enter Tryz.func16, Tryz.ntmps16
      go_wp2_with fail
      refine (ON.out).mono ?_
      rintro e w1 ⟨x, rfl, o1, g1'⟩
      have KK := Lib.hid (And.intro o1 g1')
      clear o1 g1' ON
      go_wp2
      go_ret
      exact ⟨x, c, a, rfl, KK.out.1, HM.out.grown KK.out.2, HH.out, HT.out, gb_none KK.out.2 _⟩
    by_cases n1 : n = 1
    · subst n1
      have e1 : tot X 0 1 = (X 0).length := by simp [tot]
      have NO := Lib.hid (lnorm_c w (V 0) (X 0) (hp.s 0 (by decide)) (by omega))
      obtain ⟨bA, oA, rfl, hc⟩ := h4 (by decide)
      have c0 := hc 0 (by decide)
      rw [Nat.add_zero] at c0
      obtain ⟨V0, hV0⟩ : ∃ z, z = V 0 := ⟨_, rfl⟩
      rw [← hV0] at NO c0
      have HM := Lib.hid hm
      have HT := Lib.hid hT
      have HH : Hid (a ≤ a + ((1 : Nat) : Int) * 100000000 ∧ (0 < 1 → a + 10000000 ≤ a + ((1 : Nat) : Int) * 100000000)) := Lib.hid (by omega)
      have HX : Hid (prV (fun j => val B64 (X j)) 0 1 = val B64 (trimZ (X 0))) := Lib.hid (by rw [val_trimZ]; simp [prV])
      clear ih hp h4 hm hT he hd ha hl hV ho hc hV0
      go_enter Tryz.func16, Tryz.ntmps16
      go_wp2_with fail
      refine (NO.out).mono ?_
      rintro e w1 ⟨x, rfl, o1, g1'⟩
      have KK := Lib.hid (And.intro o1 g1')
      clear o1 g1' NO
      go_wp2
      go_ret
      exact ⟨x, c, a, rfl, ⟨_, KK.out.1, trimZ_nz _, HX.out.symm⟩, HM.out.grown KK.out.2, HH.out, HT.out, gb_none KK.out.2 _⟩
    obtain ⟨bA, oA, rfl, _⟩ := h4 (by omega)
    obtain ⟨h, hh⟩ : ∃ h, h = n / 2 := ⟨_, rfl⟩
    have eH : (n : Int) / 2 = (h : Int) := by omega
    have q0 : ((n : Int) == 0) = false := by simp; omega
    have q1 : ((n : Int) == 1) = false := by simp; omega
    have q0' : (n == 0) = false := by simp; omega
    have q1' : (n == 1) = false := by simp; omega
    have hhn : h < n := by omega
    have hp2 := hp.back hhn
    have GD := gb_drew (gb_refl w none)
    have I1 := ih h hhn (by omega) w.drew g0 g1 g2 g3 gm a b c (.slice (some ⟨bA, oA, none⟩) h ca) V X he.drew (hd.grown0 GD) hm.drew hT hb (by omega) ((hp.front (by omega)).grown0 GD) ho (fun j hj => hV j (by omega)) (by have := tot_add X 0 h (n - h); rw [show h + (n - h) = n by omega] at this; omega)
    have I2 := fun (w1 : World) (G : w.grownBy w1 (some gm)) (a1 : Int) (c1 : Mc) (m1 : Mt w1 gm a1 b c1) (h1 : c1.T = tbT t) (ha1 : a1 ≤ a + (h : Int) * 100000000 ∧ (0 < h → a1 + 10000000 ≤ a + (h : Int) * 100000000)) => ih (n - h) (by omega) (by omega) w1 g0 g1 g2 g3 gm a1 b c1 (.slice (some ⟨bA, oA + h, none⟩) (n - h) (ca - h)) (fun j => V (h + j)) (fun j => X (h + j)) (he.grown G) (hd.grown hm G) m1 h1 hb (by omega) (hp2.growngX (fun b' hb' => ho b' hb') (fun j hj => hV (h + j) (by omega)) G) (fun b' hb' => ho b' hb') (fun j hj => hV (h + j) (by omega)) (by rw [tot_shift]; have := tot_add X 0 h (n - h); rw [show h + (n - h) = n by omega] at this; rw [Nat.zero_add] at this; omega)
    have PV : prV (fun j => val B64 (X j)) 0 n = prV (fun j => val B64 (X j)) 0 h * prV (fun j => val B64 (X j)) h (n - h) := by
      have := prV_add (fun j => val B64 (X j)) 0 h (n - h)
      rw [show h + (n - h) = n by omega, Nat.zero_add] at this
      exact this
    have L1 := prV_lt (X := X) (i := 0) h (fun j hj => by rw [Nat.zero_add]; exact (hp.s j (by omega)).ws) (by omega)
    have L2 := prV_lt (X := X) (i := h) (n - h) (fun j hj => (hp.s (h + j) (by omega)).ws) (by omega)
    have TT := tot_add X 0 h (n - h)
    rw [show h + (n - h) = n by omega, Nat.zero_add] at TT
    obtain ⟨T1, hT1⟩ : ∃ T, T = tot X 0 h := ⟨_, rfl⟩
    obtain ⟨T2, hT2⟩ : ∃ T, T = tot X h (n - h) := ⟨_, rfl⟩
    rw [← hT1, ← hT2] at TT
    rw [← hT1] at L1
    rw [← hT2] at L2
    have b12 : T1 + T2 ≤ 1000 := by omega
    have SH := prV_shift (fun j => val B64 (X j)) h (n - h)
    rw [PV]
    obtain ⟨P1, hP1⟩ : ∃ P, P = prV (fun j => val B64 (X j)) 0 h := ⟨_, rfl⟩
    obtain ⟨P2, hP2⟩ : ∃ P, P = prV (fun j => val B64 (X j)) h (n - h) := ⟨_, rfl⟩
    rw [← hP2] at SH
    simp only [SH] at I2
    rw [← hP1] at I1 L1
    rw [← hP2] at L2
    rw [← hP1, ← hP2]
    have HL := Lib.hid (And.intro L1 L2)
    have HI1 := Lib.hid I1
    have HI2 := Lib.hid I2
    have HGM := Lib.hid hgm
    have HE := Lib.hid he
    have HD := Lib.hid hd
    have HM := Lib.hid hm
    have HB := Lib.hid hb
    have HA := Lib.hid ha
    have HN : Hid (h < n ∧ 1 ≤ h) := Lib.hid (by omega)
    clear ih hp hp2 hm he hd ho hV hl I1 I2 PV L1 L2 TT SH hT1 hT2 hP1 hP2 h4 hgm hb ha hh hT
    go_enter Tryz.func16, Tryz.ntmps16
    go_wp2_with fail
    refine Canon.region_canon (by kernel_rfl) (by kernel_rfl) ?_
    go_wp2_with fail
    refine (HI1.out).mono ?_
    rintro e w1 ⟨x1, c1, a1, rfl, o1, m1, ha1, t1, g1'⟩
    have G1 := Lib.hid (gb_trans (gb_none (gb_drew (gb_refl w none)) (some gm)) g1')
    have O1 : Hid (Wo w1 w.heap.size x1 P1) := Lib.hid o1
    have A1 := Lib.hid ha1
    have HI3 := Lib.hid (HI2.out w1 G1.out a1 c1 m1 t1 ha1)
    clear o1 m1 ha1 t1 g1' HI1 HI2
    go_wp2_with fail
    refine (HI3.out).mono ?_
    rintro e w2 ⟨x2, c2, a2, rfl, o2, m2, ha2, t2, g2'⟩
    have BG : Hid (gm < w1.heap.size) := Lib.hid (Nat.lt_of_lt_of_le HGM.out G1.out.size)
    have O1' := Lib.hid (O1.out.past HGM.out g2')
    have O2 := Lib.hid o2
    have A2 := Lib.hid ha2
    have G2 := Lib.hid (gb_trans G1.out g2')
    obtain ⟨z1, s1, l1, v1⟩ := O1'.out.get HL.out.1
    obtain ⟨z2, s2, l2, v2⟩ := O2.out.get HL.out.2
    have r1 := trimZ_len z1
    have r2 := trimZ_len z2
    have N1 := mulE_c ht w2 g0 g1 g2 g3 gm a2 b c2 x1 x2 z1 z2 (HE.out.grown G2.out) (HD.out.grown HM.out G2.out) m2 t2 HB.out (by
      have h1 := A1.out
      have h2 := A2.out
      have h3 := HA.out
      have h4 := HN.out
      omega) s1 s2 (O1'.out.off HGM.out) (O2.out.off BG.out) (by omega)
    rw [v1, v2] at N1
    have KC := cost_lim ht (n := (trimZ z1).length) (m := (trimZ z2).length) (by omega)
    obtain ⟨k, hk⟩ : ∃ k, k = cost t (trimZ z1).length (trimZ z2).length := ⟨_, rfl⟩
    rw [← hk] at N1 KC
    have HN1 := Lib.hid N1
    have HKC := Lib.hid KC
    clear N1 KC hk s1 l1 v1 s2 l2 v2 r1 r2 o2 m2 ha2 t2 g2' HI3
    go_wp2_with fail
    refine (HN1.out).mono ?_
    rintro e w3 ⟨x, c3, rfl, o3, m3, cc, g3'⟩
    have KK : Hid (Wo w3 w.heap.size x (P1 * P2) ∧ Mt w3 gm (a2 + (k : Int)) b c3 ∧ (a2 + (k : Int) ≤ a + (n : Int) * 100000000 ∧ (0 < n → a2 + (k : Int) + 10000000 ≤ a + (n : Int) * 100000000)) ∧ c3.T = tbT t ∧ w.grownBy w3 (some gm)) := Lib.hid ⟨o3.mono G2.out.size, m3, (by
      have h1 := A1.out
      have h2 := A2.out
      have h4 := HN.out
      have h5 := HKC.out
      have h6 : ((n - h : Nat) : Int) = (n : Int) - (h : Int) := by omega
      rw [h6] at h2
      omega), cc.1, gb_trans G2.out g3'⟩
    clear o3 m3 cc g3' HN1 O1 O1' O2 A1 A2
    go_wp2
    refine ⟨by kernel_rfl, ?_⟩
    go_wp2
    go_ret
    exact ⟨x, c3, _, rfl, KK.out⟩
theorem trimZ_nil : trimZ [] = [] := rfl
/-- A product of rows, noughts on top or not, empty or not. -/
theorem mulX_c {t : Tb} (ht : TbOk t) (w : World) (g0 g1 g2 g3 gm : Nat) (a b : Int) (c : Mc) (va vb : Value) (al bl : List Int) (he : Eng w g0 g1 g2 g3 gm) (hd : Db w)
    (hm : Mt w gm a b c) (hT : c.T = tbT t) (hb : b ≤ 900) (ha0 : a ≤ 900000000000000) (ha : Sl w va al) (hb' : Sl w vb bl) (hna : al = [] ∨ Off va gm) (hnb : bl = [] ∨ Off vb gm) (hl : (trimZ al).length + (trimZ bl).length ≤ 1024) :
    Calls Tryz.prog 20 #[.pointer (some ⟨g0, 0, none⟩), va, vb] w fun e w' => ∃ x c', e = .returned x ∧ Got w gm a b c (tbT t) (cost t (trimZ al).length (trimZ bl).length) ((lev (max (trimZ al).length (trimZ bl).length) : Nat) : Int) (val B64 al * val B64 bl) w' x c' := by
  by_cases hoo : Off va gm ∧ Off vb gm
  · exact mulE_c ht w g0 g1 g2 g3 gm a b c va vb al bl he hd hm hT hb ha0 ha hb' hoo.1 hoo.2 hl
  have hz : al = [] ∨ bl = [] := by
    rcases hna with h | h
    · exact .inl h
    · rcases hnb with h' | h'
      · exact .inr h'
      · exact absurd ⟨h, h'⟩ hoo
  have hmin : min (trimZ al).length (trimZ bl).length = 0 := by
    rcases hz with h | h <;> subst h
    · show min ([] : List Int).length _ = 0; simp
    · show min _ ([] : List Int).length = 0; simp
  obtain ⟨A, ca, rfl, hca, _⟩ := ha.form
  obtain ⟨B, cb, rfl, hcb, _⟩ := hb'.form
  have W1 := Lib.hid (mwords_c w _ _ _ _ ha)
  have W2 := Lib.hid (mwords_c w _ _ _ _ hb')
  have sa := ha.take (trimZ al).length (trimZ_len al)
  have sb := hb'.take (trimZ bl).length (trimZ_len bl)
  rw [take_trimZ_len] at sa sb
  have l1 := trimZ_len al
  have l2 := trimZ_len bl
  have r0 : rt t (max (trimZ al).length (trimZ bl).length) (min (trimZ al).length (trimZ bl).length) = 0 := by unfold rt; rw [if_pos hmin]
  have T := times_go w g0 g1 g2 g3 gm a b c t _ _ (trimZ al) (trimZ bl) 0 (cost t (trimZ al).length (trimZ bl).length) ((lev (max (trimZ al).length (trimZ bl).length) : Nat) : Int) (val B64 al * val B64 bl) he hm hT ht sa sb (by omega) (by omega) r0 (by
    intro W1 G1
    refine (gone0_c W1 g0 _ _ _ _ (sa.grown0 G1) (sb.grown0 G1)).mono ?_
    rintro e w' ⟨rfl, rfl⟩
    have c0 : cost t (trimZ al).length (trimZ bl).length = 0 := by rw [cost_mm]; exact cost_0 (by omega) r0
    refine ⟨.slice none 0 0, c, rfl, ⟨[], own_nil _ _, nz_nil, ?_⟩, ?_, ⟨hT, Int.le_refl _, .inl (Int.le_refl _)⟩, gb_refl _ _⟩
    · rcases hz with h | h <;> subst h <;> simp [val]
    · rw [c0, show a + ((0 : Nat) : Int) = a by omega]; exact hm.grown G1)
  have HT := Lib.hid T
  obtain ⟨n, hn⟩ : ∃ n, n = al.length := ⟨_, rfl⟩
  obtain ⟨m, hm'⟩ : ∃ m, m = bl.length := ⟨_, rfl⟩
  rw [← hn] at W1 hca ⊢
  rw [← hm'] at W2 hcb ⊢
  obtain ⟨p, hp⟩ : ∃ p, p = (trimZ al).length := ⟨_, rfl⟩
  obtain ⟨q, hq⟩ : ∃ p, p = (trimZ bl).length := ⟨_, rfl⟩
  rw [← hp] at W1 HT
  rw [← hq] at W2 HT
  rw [← hp, ← hq]
  have hpn : p ≤ n := by rw [hp, hn]; exact trimZ_len _
  have hqm : q ≤ m := by rw [hq, hm']; exact trimZ_len _
  clear hn hm' hp hq T sa sb ha hb' hna hnb hm he hd l1 l2 hz hmin r0 hoo
  go_enter Tryz.func20, Tryz.ntmps20
  go_wp2_with fail
  refine (W1.out).mono ?_
  rintro e w1 ⟨rfl, hw⟩
  subst hw
  go_wp2_with fail
  refine (W2.out).mono ?_
  rintro e w2 ⟨rfl, hw⟩
  subst hw
  go_wp2_with fail
  refine (HT.out).mono ?_
  rintro e w3 ⟨x, c', rfl, k⟩
  have KK := Lib.hid k
  clear k HT W1 W2
  go_wp2
  go_ret
  exact ⟨x, c', rfl, KK.out⟩
theorem sqrX_c {t : Tb} (ht : TbOk t) (w : World) (g0 g1 g2 g3 gm : Nat) (a b : Int) (c : Mc) (va : Value) (al : List Int) (he : Eng w g0 g1 g2 g3 gm) (hd : Db w)
    (hm : Mt w gm a b c) (hT : c.T = tbT t) (hb : b ≤ 900) (ha0 : a ≤ 900000000000000) (ha : Sl w va al) (hna : al = [] ∨ Off va gm) (hl : (trimZ al).length ≤ 512) :
    Calls Tryz.prog 35 #[.pointer (some ⟨g0, 0, none⟩), va] w fun e w' => ∃ x c', e = .returned x ∧ Got w gm a b c (tbT t) (sq t (trimZ al).length) ((lev (trimZ al).length : Nat) : Int) (val B64 al * val B64 al) w' x c' := by
  rcases hna with rfl | ho
  · obtain ⟨A, ca, rfl, hca, _⟩ := ha.form
    have W1 := Lib.hid (mwords_c w _ _ _ _ ha)
    have sa := ha.take (trimZ []).length (trimZ_len [])
    have r0 : rt t ([] : List Int).length ([] : List Int).length = 0 := by unfold rt; simp
    have sa' : Sl w (.slice A 0 ca) [] := sa
    have G0 : ∀ W1, w.grownBy W1 none → Calls Tryz.prog 45 #[.pointer (some ⟨g0, 0, none⟩), .slice A 0 ca, .slice A 0 ca] W1 fun e w' => ∃ x c', e = .returned x ∧ Got W1 gm a b c (tbT t) 0 0 0 w' x c' := fun W1 G1 =>
      times_go W1 g0 g1 g2 g3 gm a b c t _ _ [] [] 0 0 0 0 (he.grown0 G1) (hm.grown G1) hT ht (sa'.grown0 G1) (sa'.grown0 G1) (by decide) (by decide) (by unfold rt; simp) (by
        intro W2 G2
        refine (gone0_c W2 g0 _ _ _ _ ((sa'.grown0 G1).grown0 G2) ((sa'.grown0 G1).grown0 G2)).mono ?_
        rintro e w' ⟨rfl, rfl⟩
        refine ⟨.slice none 0 0, c, rfl, ⟨[], own_nil _ _, nz_nil, rfl⟩, ?_, ⟨hT, Int.le_refl _, .inl (Int.le_refl _)⟩, gb_refl _ _⟩
        rw [show a + ((0 : Nat) : Int) = a by omega]; exact (hm.grown G1).grown G2)
    have HT := Lib.hid (square_0 w g0 g1 g2 g3 gm a b c t (.slice A 0 ca) [] 0 0 0 he hm hT ht sa' (by decide) r0 G0)
    have HS : Hid (sq t (trimZ []).length = 0) := Lib.hid (sq_0 (by unfold rt; simp [trimZ_nil]))
    rw [HS.out]
    have hv : val B64 [] * val B64 [] = 0 := rfl
    rw [hv]
    have W1' : Hid (Calls Tryz.prog 46 #[.slice A 0 ca] w fun e w' => e = .returned (.slice A 0 ca) ∧ w' = w) := W1
    have HL : Hid ((0 : Int) ≤ ((lev (trimZ []).length : Nat) : Int)) := Lib.hid (by omega)
    clear W1 sa sa' r0 G0 ha hm he hd hv
    go_enter Tryz.func35, Tryz.ntmps35
    go_wp2_with fail
    refine (W1'.out).mono ?_
    rintro e w1 ⟨rfl, hw⟩
    subst hw
    go_wp2_with fail
    refine (HT.out).mono ?_
    rintro e w3 ⟨x, c', rfl, k⟩
    have KK := Lib.hid (k.mono HL.out)
    clear k HT W1'
    go_wp2
    go_ret
    exact ⟨x, c', rfl, KK.out⟩
  · exact sqrE_c ht w g0 g1 g2 g3 gm a b c va al he hd hm hT hb ha0 ha ho hl
/-- An engine, and what it has spent. -/
structure En (w : World) (u : Tb) (g0 g1 g2 g3 gm : Nat) (a : Int) (c : Mc) : Prop where
  e : Eng w g0 g1 g2 g3 gm
  m : Mt w gm a 0 c
  t : c.T = tbT u
theorem En.grown0 {w w' : World} {u : Tb} {g0 g1 g2 g3 gm : Nat} {a : Int} {c : Mc} (h : En w u g0 g1 g2 g3 gm a c) (g : w.grownBy w' none) : En w' u g0 g1 g2 g3 gm a c := ⟨h.e.grown0 g, h.m.grown g, h.t⟩
theorem En.drew {w : World} {u : Tb} {g0 g1 g2 g3 gm : Nat} {a : Int} {c : Mc} (h : En w u g0 g1 g2 g3 gm a c) : En w.drew u g0 g1 g2 g3 gm a c := h.grown0 (gb_drew (gb_refl _ none))
theorem En.other {w w' : World} {u v : Tb} {g0 g1 g2 g3 gm k0 k1 k2 k3 km : Nat} {a a' : Int} {c c' : Mc} (h : En w u g0 g1 g2 g3 gm a c) (k : En w v k0 k1 k2 k3 km a' c') (hne : gm ≠ km) (g : w.grownBy w' (some km)) : En w' u g0 g1 g2 g3 gm a c :=
  ⟨⟨gb_cell g h.e.h0 (by have := Md.ptr_ne h.e.h0 k.m; simpa using this), gb_cell g h.e.h1 (by have := Md.ptr_ne h.e.h1 k.m; simpa using this), gb_cell g h.e.h2 (by have := Md.ptr_ne h.e.h2 k.m; simpa using this), gb_cell g h.e.h3 (by have := Md.ptr_ne h.e.h3 k.m; simpa using this), h.e.n0, h.e.n1, h.e.n2, h.e.n3⟩,
    h.m.rowo g (by simpa using hne), h.t⟩
theorem En.lt {w : World} {u : Tb} {g0 g1 g2 g3 gm : Nat} {a : Int} {c : Mc} (h : En w u g0 g1 g2 g3 gm a c) : gm < w.heap.size := World.block_lt_of_cell? w _ h.m.c0
theorem En.mul {u : Tb} (hu : TbOk u) {w : World} {g0 g1 g2 g3 gm : Nat} {a : Int} {c : Mc} (h : En w u g0 g1 g2 g3 gm a c) (hd : Db w) (ha0 : a ≤ 900000000000000) {va vb : Value} {al bl : List Int} (ha : Sl w va al) (hb : Sl w vb bl) (hna : al = [] ∨ Off va gm) (hnb : bl = [] ∨ Off vb gm) (hl : al.length + bl.length ≤ 1024) :
    Calls Tryz.prog 20 #[.pointer (some ⟨g0, 0, none⟩), va, vb] w fun e w' => ∃ x c', e = .returned x ∧ Wo w' w.heap.size x (val B64 al * val B64 bl) ∧ En w' u g0 g1 g2 g3 gm (a + ((cost u (trimZ al).length (trimZ bl).length : Nat) : Int)) c' ∧ w.grownBy w' (some gm) :=
  (mulX_c hu w g0 g1 g2 g3 gm a 0 c va vb al bl h.e hd h.m h.t (by decide) ha0 ha hb hna hnb (by have := trimZ_len al; have := trimZ_len bl; omega)).mono fun _ _ ⟨x, c', e1, k⟩ => ⟨x, c', e1, k.1, ⟨h.e.grown k.2.2.2, k.2.1, k.2.2.1.1⟩, k.2.2.2⟩
theorem En.sqr {u : Tb} (hu : TbOk u) {w : World} {g0 g1 g2 g3 gm : Nat} {a : Int} {c : Mc} (h : En w u g0 g1 g2 g3 gm a c) (hd : Db w) (ha0 : a ≤ 900000000000000) {va : Value} {al : List Int} (ha : Sl w va al) (hna : al = [] ∨ Off va gm) (hl : al.length ≤ 512) :
    Calls Tryz.prog 35 #[.pointer (some ⟨g0, 0, none⟩), va] w fun e w' => ∃ x c', e = .returned x ∧ Wo w' w.heap.size x (val B64 al * val B64 al) ∧ En w' u g0 g1 g2 g3 gm (a + ((sq u (trimZ al).length : Nat) : Int)) c' ∧ w.grownBy w' (some gm) :=
  (sqrX_c hu w g0 g1 g2 g3 gm a 0 c va al h.e hd h.m h.t (by decide) ha0 ha hna (by have := trimZ_len al; omega)).mono fun _ _ ⟨x, c', e1, k⟩ => ⟨x, c', e1, k.1, ⟨h.e.grown k.2.2.2, k.2.1, k.2.2.1.1⟩, k.2.2.2⟩
theorem En.new (w : World) (t : Tb) : Calls Tryz.prog 12 #[t.v] w fun e w' => ∃ g0 g1 g2 g3 gm, e = .returned (.pointer (some ⟨g0, 0, none⟩)) ∧ En w' t.clamp g0 g1 g2 g3 gm 0 ⟨0, tbT t.clamp⟩ ∧ w.heap.size ≤ gm ∧ w.grownBy w' none :=
  (mulNew_c w t).mono fun _ _ ⟨g0, g1, g2, g3, gm, e1, e2, e3, e4, e5⟩ => ⟨g0, g1, g2, g3, gm, e1, ⟨e2, e4, rfl⟩, e3, e5⟩
theorem Wo.same {w w' : World} {b b' n : Nat} {u v : Value} (h : Wo w b u n) (k : Wo w' b' v n) : ∃ zs, Sl w u zs ∧ Sl w' v zs ∧ Nz zs ∧ val B64 zs = n := by
  obtain ⟨zs, ow, nz, hv⟩ := h
  obtain ⟨ys, ow', nz', hv'⟩ := k
  obtain rfl := dg_ext (B := B64) (by decide) ow.ws.dg ow'.ws.dg nz nz' (hv.trans hv'.symm)
  exact ⟨zs, ow.sl, ow'.sl, nz, hv⟩
end Go.Proofs.YtldkiddoajlohaaGreatDoor

/- The document's naturals: back into words, of the call's own. -/
namespace Go.Proofs.YtldkiddoajlohaaGreatDoor
open Go.RowKit

set_option maxRecDepth 100000 in
set_option maxHeartbeats 4000000 in
theorem to_o (w : World) (u : Value) (m L : Nat) (h : Nm w u m L) (hL : L ≤ 4000000) :
    Calls Tryz.prog 33 #[u] w fun e w' => ∃ x, e = .returned x ∧ Wo w' w.heap.size x m ∧ w.grownBy w' none := by
  obtain ⟨xs, ⟨A, ca, rfl, a1, a2, _, a4⟩, xd, _, hxv, hxl⟩ := h
  obtain ⟨la, hla⟩ : ∃ l, l = xs.length := ⟨_, rfl⟩
  rw [← hla] at a1 a4 hxl ⊢
  have st : ∀ k i os z, Pr xs k os → i = 2 * k → z = rd xs i + rd xs (i + 1) * 4294967296 → Pr xs (k + 1) (os ++ [z]) := fun k i os z h hi hz => h.step xd (by rw [← hi]; exact hz)
  have ls : ∀ k os, Pr xs k os → la ≤ 2 * k → val 18446744073709551616 os = m := fun k os h hk => by rw [h.last (by omega), ← hxv]
  have oy : ∀ i, ¬ i < la → rd xs i = 0 := fun i hi => rd_beyond (by omega)
  have ST := Lib.hid st
  have LS := Lib.hid ls
  have OY := Lib.hid oy
  have XD := Lib.hid xd
  clear st ls oy xd hla hxv
  go_enter Tryz.func33, Tryz.ntmps33
  go_wp2
  go_loopw [3, 4] (fun v3 v4 wr => ∃ (k i : Nat) (os : List Int), v4 = .int .i64 i ∧ i ≤ 2 * k ∧ 2 * k ≤ i ∧ i ≤ la + 1 ∧ Pr xs k os ∧ Own wr w.heap.size v3 os ∧ w.grownBy wr none) (fun _ v4 _ => la + 1 - (intOf v4).toNat)
  case atStart => exact ⟨0, 0, [], rfl, by omega, by omega, by omega, Pr.start xs, own_nil _ _, gb_refl _ _⟩
  case round =>
    obtain ⟨k, i, os, rfl, hi1, hi2, hi, P0, ow, G⟩ := hrel
    have hol := P0.len
    have OL := Lib.hid hol
    have PP := Lib.hid P0
    have OW := Lib.hid ow
    have GG := Lib.hid G
    clear P0 hol ow
    by_cases hia : i < la
    · obtain ⟨ba, oa, rfl, hca⟩ := a4 (by omega)
      obtain ⟨q, hq⟩ : ∃ q, q = i + 1 := ⟨_, rfl⟩
      have ei : (i : Int) + 1 = (q : Int) := by omega
      have ei2 : (i : Int) + 2 = (q : Int) + 1 := by omega
      have ci1 := gb_cell0 G (hca i hia)
      have ci2 := fun hqa : q < la => gb_cell0 G (hca q hqa)
      have st := ST.out k i os _ PP.out (by omega) rfl
      have oy := OY.out q
      have xx := XD.out.at_ (by decide) i
      have yy := XD.out.at_ (by decide) q
      rw [← hq] at st
      obtain ⟨x, hx⟩ : ∃ x, x = rd xs i := ⟨_, rfl⟩
      obtain ⟨y, hy⟩ : ∃ y, y = rd xs q := ⟨_, rfl⟩
      rw [← hx] at ci1 xx st
      rw [← hy] at ci2 yy st oy
      have x0 := xx.1
      have x1 : x < 4294967296 := xx.2
      have y0 := yy.1
      have y1 : y < 4294967296 := yy.2
      have S1 := Lib.hid st
      have HQ := Lib.hid hq
      clear xx yy hx hy st hca a4 G
      by_cases hqa : q < la
      · have ci2 := ci2 hqa
        have SP := Lib.hid S1.out
        clear S1 oy
        clear hq
        go_wp2_with (at_builtin; refine own_append 34 (by kernel_rfl) (.tmp 29) (.tmp 31) rfl rfl _ os rfl (Own.alloc OW.out _) _ 1 1 [x + y * 4294967296] rfl rfl (ws_one (by omega) (by omega)) (built1 _ _ _) (by rw [OL.out]; show _ + 1 ≤ _; omega) (gb_alloc GG.out _).size ?_; intro v1 w1 ow1 g1)
        have G1 := Own.gb (Own.alloc OW.out _) (gb_alloc GG.out _) g1
        clear g1
        go_roundw
        case rel => exact ⟨k + 1, i + 2, os ++ [x + y * 4294967296], by have := HQ.out; go_num, by omega, by omega, by omega, SP.out, ow1, G1⟩
        case measure => have := HQ.out; simp [intOf]; omega
      · have hy0 : y = 0 := oy hqa
        clear oy ci2
        subst hy0
        have SP := Lib.hid S1.out
        clear S1 hq
        go_wp2_with (at_builtin; refine own_append 34 (by kernel_rfl) (.tmp 29) (.tmp 31) rfl rfl _ os rfl (Own.alloc OW.out _) _ 1 1 [x] rfl rfl (ws_one (by omega) (by omega)) (built1 _ _ _) (by rw [OL.out]; show _ + 1 ≤ _; omega) (gb_alloc GG.out _).size ?_; intro v1 w1 ow1 g1)
        have G1 := Own.gb (Own.alloc OW.out _) (gb_alloc GG.out _) g1
        clear g1
        go_roundw
        case rel => exact ⟨k + 1, i + 2, os ++ [x], by have := HQ.out; go_num, by omega, by omega, by have := HQ.out; omega, by have := SP.out; rw [Int.zero_mul, Int.add_zero] at this; exact this, ow1, G1⟩
        case measure => have := HQ.out; simp [intOf]; omega
    · have hv := LS.out k os PP.out (by omega)
      have sl := OW.out.sl
      have SL := Lib.hid OW.out
      obtain ⟨B, c, e, b1, b2, b3, b4⟩ := sl
      have hk1 : os.length = k := OL.out
      rw [hk1] at e b1 b4
      subst e
      have hr0 : ∀ j, k ≤ j → rd os j = 0 := fun j hj => rd_beyond (by omega)
      have hk2 : k ≤ 4000000 := by omega
      have HR := Lib.hid hr0
      have HV := Lib.hid hv
      have HK := Lib.hid hk1
      clear hr0 hv hk1 OW a4 b3 OL G
      obtain ⟨wo, rfl⟩ : ∃ wo : World, wo = wr := ⟨_, rfl⟩
      go_wp2
      go_loopw [3] (fun v3 wq => ∃ j : Nat, v3 = .slice B j c ∧ j ≤ k ∧ (∀ t, j ≤ t → rd os t = 0) ∧ wq = wo) (fun v3 _ => slen v3)
      case atStart => exact ⟨k, rfl, Nat.le_refl _, HR.out, rfl⟩
      case round =>
        clear HR
        obtain ⟨j, rfl, hj, hz, rfl⟩ := hrel
        have HZ := Lib.hid hz
        clear hz
        by_cases hj0 : j = 0
        · subst hj0
          have ht := take_trimZ (xs := os) (k := 0) (by omega) HZ.out (Or.inl rfl)
          have hs := SL.out.take 0 (by have := HK.out; omega)
          rw [ht] at hs
          have HS := Lib.hid hs
          clear hs ht b4 SL
          go_wp2
          go_ret
          exact ⟨_, rfl, ⟨_, HS.out, nz_trimZ _, by rw [val_trimZ]; exact HV.out⟩, GG.out⟩
        · obtain ⟨i', rfl⟩ : ∃ i, j = i + 1 := ⟨j - 1, by omega⟩
          obtain ⟨b, o, rfl, hc⟩ := b4 (by omega)
          have hci := hc i' (by omega)
          have ej : ((i' + 1 : Nat) : Int) - 1 = (i' : Int) := by omega
          clear hc
          by_cases hx : rd os i' = 0
          · rw [hx] at hci
            go_wp2
            go_roundw
            case rel => exact ⟨i', by simp, by omega, fun t ht => by
              by_cases e : t = i'
              · rw [e]; exact hx
              · exact HZ.out t (by omega), by trivial⟩
            case measure => simp [slen]
          · have ht := take_trimZ (xs := os) (k := i' + 1) (by have := HK.out; omega) HZ.out (Or.inr hx)
            have hs := SL.out.take (i' + 1) (by have := HK.out; omega)
            rw [ht] at hs
            have HS := Lib.hid hs
            obtain ⟨z, hz⟩ : ∃ z, z = rd os i' := ⟨_, rfl⟩
            rw [← hz] at hci hx
            clear hs ht SL hz
            go_wp2
            go_ret
            exact ⟨_, rfl, ⟨_, HS.out, nz_trimZ _, by rw [val_trimZ]; exact HV.out⟩, GG.out⟩

end Go.Proofs.YtldkiddoajlohaaGreatDoor

/- Chapter 12: products as they are of all numbers. -/
namespace Go.Proofs.YtldkiddoajlohaaGreatDoor
open Go.RowKit

theorem En.mul2 {u : Tb} (hu : TbOk u) {w : World} {g0 g1 g2 g3 gm : Nat} {a : Int} {c : Mc} (h : En w u g0 g1 g2 g3 gm a c) (hd : Db w) (ha0 : a ≤ 900000000000000) {va vb : Value} {al bl : List Int} (ha : Sl w va al) (hb : Sl w vb bl) (hna : al = [] ∨ Off va gm) (hnb : bl = [] ∨ Off vb gm) (hl : al.length + bl.length ≤ 1024) :
    Calls Tryz.prog 20 #[.pointer (some ⟨g0, 0, none⟩), va, vb] w fun e w' => ∃ x c' a', e = .returned x ∧ Wo w' w.heap.size x (val B64 al * val B64 bl) ∧ En w' u g0 g1 g2 g3 gm a' c' ∧ a' ≤ a + 10000000 ∧ w.grownBy w' (some gm) :=
  (h.mul hu hd ha0 ha hb hna hnb hl).mono fun _ _ ⟨x, c', e1, k1, k2, k3⟩ => ⟨x, c', _, e1, k1, k2, by
    have := cost_lim hu (n := (trimZ al).length) (m := (trimZ bl).length) (by have := trimZ_len al; have := trimZ_len bl; omega)
    omega, k3⟩
theorem En.sqr2 {u : Tb} (hu : TbOk u) {w : World} {g0 g1 g2 g3 gm : Nat} {a : Int} {c : Mc} (h : En w u g0 g1 g2 g3 gm a c) (hd : Db w) (ha0 : a ≤ 900000000000000) {va : Value} {al : List Int} (ha : Sl w va al) (hna : al = [] ∨ Off va gm) (hl : al.length ≤ 512) :
    Calls Tryz.prog 35 #[.pointer (some ⟨g0, 0, none⟩), va] w fun e w' => ∃ x c' a', e = .returned x ∧ Wo w' w.heap.size x (val B64 al * val B64 al) ∧ En w' u g0 g1 g2 g3 gm a' c' ∧ a' ≤ a + 10000000 ∧ w.grownBy w' (some gm) :=
  (h.sqr hu hd ha0 ha hna hl).mono fun _ _ ⟨x, c', e1, k1, k2, k3⟩ => ⟨x, c', _, e1, k1, k2, by
    have := sq_lim hu (n := (trimZ al).length) (by have := trimZ_len al; omega)
    omega, k3⟩
theorem En.prod {u : Tb} (hu : TbOk u) {w : World} {g0 g1 g2 g3 gm : Nat} {a : Int} {c : Mc} (h : En w u g0 g1 g2 g3 gm a c) (hd : Db w) {n : Nat} (hn : n ≤ 1000) (ha0 : a + (n : Int) * 100000000 ≤ 900000000000000) {v : Value} {V : Nat → Value} {X : Nat → List Int} (hp : Pts w v n V X) (ho : Off v gm) (hV : ∀ j, j < n → X j = [] ∨ Off (V j) gm) (hl : tot X 0 n ≤ 1000) :
    Calls Tryz.prog 16 #[.pointer (some ⟨g0, 0, none⟩), v] w fun e w' => ∃ x c' a', e = .returned x ∧ Wo w' w.heap.size x (prV (fun j => val B64 (X j)) 0 n) ∧ En w' u g0 g1 g2 g3 gm a' c' ∧ a' ≤ a + (n : Int) * 100000000 ∧ w.grownBy w' (some gm) :=
  (product_all2 hu n hn w g0 g1 g2 g3 gm a 0 c v V X h.e hd h.m h.t (by decide) ha0 hp ho hV hl).mono fun _ _ ⟨x, c', a', e1, k1, k2, k3, k4, k5⟩ => ⟨x, c', a', e1, k1, ⟨h.e.grown k5, k2, k4⟩, k3.1, k5⟩
theorem vs_int (u : Tb) (j : Nat) {v : Value} (h : u.vs[j]? = some v) : ∃ z, v = .int .i64 z := by
  have hj : j < 11 := by
    have := (List.getElem?_eq_some_iff.1 h).1
    exact this
  rcases (show j = 0 ∨ j = 1 ∨ j = 2 ∨ j = 3 ∨ j = 4 ∨ j = 5 ∨ j = 6 ∨ j = 7 ∨ j = 8 ∨ j = 9 ∨ j = 10 by omega) with rfl | rfl | rfl | rfl | rfl | rfl | rfl | rfl | rfl | rfl | rfl <;> exact ⟨_, (Option.some.inj h).symm⟩
/-- No row lies in a meter's block. -/
theorem En.off {u : Tb} {w : World} {g0 g1 g2 g3 gm : Nat} {a : Int} {c : Mc} (h : En w u g0 g1 g2 g3 gm a c) {v : Value} {xs : List Int} (s : Sl w v xs) : xs = [] ∨ Off v gm := by
  cases xs with
  | nil => exact .inl rfl
  | cons x xs =>
    right
    obtain ⟨A, k, rfl, h1, h2, h3, h4⟩ := s
    obtain ⟨b, o, rfl, hc⟩ := h4 (by simp)
    have hx := hc 0 (by simp)
    rw [Nat.add_zero] at hx
    intro b' hb' e
    simp only [Value.ownBlock, Option.some.injEq] at hb'
    subst hb'
    subst e
    have kind : ∀ z, World.cell? w ⟨b, o, none⟩ ≠ some (.int .i64 z) := fun z hz => by
      rw [hx] at hz
      simp at hz
    by_cases o3 : 3 ≤ o
    · have hr := h.m.rest o o3
      rw [h.t] at hr
      unfold tbT at hr
      rw [if_pos o3, hx] at hr
      obtain ⟨z, hz⟩ := vs_int u (o - 3) hr.symm
      simp at hz
    · rcases (show o = 0 ∨ o = 1 ∨ o = 2 by omega) with rfl | rfl | rfl
      · exact kind _ h.m.c0
      · exact kind _ h.m.c1
      · exact kind _ h.m.c2
theorem En.sl {u : Tb} {w w' : World} {g0 g1 g2 g3 gm : Nat} {a : Int} {c : Mc} (h : En w u g0 g1 g2 g3 gm a c) {v : Value} {xs : List Int} (s : Sl w v xs) (g : w.grownBy w' (some gm)) : Sl w' v xs := s.offX (h.off s) g
theorem En.nm {u : Tb} {w w' : World} {g0 g1 g2 g3 gm : Nat} {a : Int} {c : Mc} (h : En w u g0 g1 g2 g3 gm a c) {v : Value} {n L : Nat} (s : Nm w v n L) (g : w.grownBy w' (some gm)) : Nm w' v n L := by
  obtain ⟨xs, h1, h2⟩ := s; exact ⟨xs, h.sl h1 g, h2⟩
set_option maxRecDepth 100000 in
set_option maxHeartbeats 4000000 in
theorem MulLaws_walk (t : Tb) (va : Value) (al0 : List Int) (vb : Value) (bl0 : List Int) (vd : Value) (dl0 : List Int) (w : World) (ha : Sl w va al0) (hb : Sl w vb bl0) (hdd : Sl w vd dl0) (hd : Db w) :
    Calls Tryz.prog 6 #[t.v, va, vb, vd] w fun e w' => e = .returned (.bool true) ∧ w.grownBy w' none := by
  have C0 := cs_new w #[.int .i64 t.eb, .int .i64 t.et, .int .i64 t.en, .int .i64 t.ed, .int .i64 t.er, .int .i64 t.el, .int .i64 t.ex, .int .i64 t.ep, .int .i64 t.ek, .int .i64 t.es, .int .i64 t.ee] 23
  have hg := gb_alloc (gb_refl w none) (Obj.cells #[.int .i64 t.eb, .int .i64 t.et, .int .i64 t.en, .int .i64 t.ed, .int .i64 t.er, .int .i64 t.el, .int .i64 t.ex, .int .i64 t.ep, .int .i64 t.ek, .int .i64 t.es, .int .i64 t.ee] 23)
  have HG := Lib.hid hg
  have HC0 := Lib.hid C0
  have CA := Lib.hid (fun w1 (g : w.grownBy w1 none) => cut_c w1 va al0 60 (by decide) (ha.grown0 g))
  have CB := Lib.hid (fun w1 (g : w.grownBy w1 none) => cut_c w1 vb bl0 60 (by decide) (hb.grown0 g))
  have CD := Lib.hid (fun w1 (g : w.grownBy w1 none) => cut_c w1 vd dl0 30 (by decide) (hdd.grown0 g))
  obtain ⟨A, ca, rfl, _, _⟩ := ha.form
  obtain ⟨B, cb, rfl, _, _⟩ := hb.form
  obtain ⟨D, cd, rfl, _, _⟩ := hdd.form
  have HD := Lib.hid hd
  clear ha hb hdd hd C0 hg
  go_enter Tryz.func6, Tryz.ntmps6
  go_wp2_with fail
  refine (CA.out _ HG.out).mono ?_
  rintro e w1 ⟨ua, rfl, ha, hw1⟩
  rw [← hw1] at HG HC0 ha
  clear hw1
  go_wp2_with fail
  refine (CB.out _ HG.out).mono ?_
  rintro e w1' ⟨ub, rfl, hb, hw1⟩
  rw [hw1]
  clear hw1
  go_wp2_with fail
  refine (CD.out _ HG.out).mono ?_
  rintro e w2 ⟨ud, rfl, hdd, hw2⟩
  subst hw2
  obtain ⟨al, hal⟩ : ∃ l, l = al0.take 60 := ⟨_, rfl⟩
  obtain ⟨bl, hbl⟩ : ∃ l, l = bl0.take 60 := ⟨_, rfl⟩
  obtain ⟨dl, hdl⟩ : ∃ l, l = dl0.take 30 := ⟨_, rfl⟩
  rw [← hal] at ha
  rw [← hbl] at hb
  rw [← hdl] at hdd
  have ll : Hid (al.length ≤ 60 ∧ bl.length ≤ 60 ∧ dl.length ≤ 30) := Lib.hid (by rw [hal, hbl, hdl, List.length_take, List.length_take, List.length_take]; omega)
  clear hal hbl hdl CA CB CD
  obtain ⟨A', ca', rfl, hca, _⟩ := ha.form
  obtain ⟨B', cb', rfl, hcb, _⟩ := hb.form
  obtain ⟨D', cd', rfl, hcd, _⟩ := hdd.form
  have HA := Lib.hid ha
  have HB := Lib.hid hb
  have HDL := Lib.hid hdd
  have HD2 := Lib.hid (HD.out.grown0 HG.out)
  have NW := Lib.hid (fun w => En.new w t)
  obtain ⟨n, hn⟩ : ∃ n, n = al.length := ⟨_, rfl⟩
  obtain ⟨m, hm⟩ : ∃ n, n = bl.length := ⟨_, rfl⟩
  obtain ⟨k, hk⟩ : ∃ n, n = dl.length := ⟨_, rfl⟩
  rw [← hn] at HA hca ⊢
  rw [← hm] at HB hcb ⊢
  rw [← hk] at HDL hcd ⊢
  clear HD ha hb hdd hn hm hk
  have U := Lib.hid t.clamp_ok
  have c0 := HC0.out.cell 0 rfl
  have c1 := HC0.out.cell 1 rfl
  have c2 := HC0.out.cell 2 rfl
  have c3 := HC0.out.cell 3 rfl
  have c4 := HC0.out.cell 4 rfl
  have c5 := HC0.out.cell 5 rfl
  have c6 := HC0.out.cell 6 rfl
  have c7 := HC0.out.cell 7 rfl
  have c8 := HC0.out.cell 8 rfl
  have c9 := HC0.out.cell 9 rfl
  have c10 := HC0.out.cell 10 rfl
  go_wp2_with fail
  refine (NW.out _).mono ?_
  rintro e w3 ⟨g0, g1, g2, g3, gm, rfl, en, hgm, g3'⟩
  clear c0 c1 c2 c3 c4 c5 c6 c7 c8 c9 c10
  have E3 := Lib.hid en
  have G3 := Lib.hid g3'
  have HGM := Lib.hid hgm
  have OA := Lib.hid (HA.out.offN hgm)
  have OB := Lib.hid (HB.out.offN hgm)
  have OD := Lib.hid (HDL.out.offN hgm)
  have LA := Lib.hid (val_lt (B := B64) HA.out.ws.dg)
  have LB := Lib.hid (val_lt (B := B64) HB.out.ws.dg)
  have LD := Lib.hid (val_lt (B := B64) HDL.out.ws.dg)
  clear en g3' hgm NW HC0
  obtain ⟨VA, hVA⟩ : ∃ z, z = val B64 al := ⟨_, rfl⟩
  obtain ⟨VB, hVB⟩ : ∃ z, z = val B64 bl := ⟨_, rfl⟩
  obtain ⟨VD, hVD⟩ : ∃ z, z = val B64 dl := ⟨_, rfl⟩
  rw [← hVA] at LA
  rw [← hVB] at LB
  rw [← hVD] at LD
  -- a b
  have N1 := E3.out.mul2 U.out (HD2.out.grown0 G3.out) (by decide) (HA.out.grown0 G3.out) (HB.out.grown0 G3.out) OA.out OB.out (by have := ll.out; omega)
  rw [← hVA, ← hVB] at N1
  have HN := Lib.hid N1
  clear N1
  go_wp2_with fail
  refine (HN.out).mono ?_
  rintro e w4 ⟨x4, c4, a4, rfl, o4, en, ha4, g4⟩
  have G4 := Lib.hid (gb_new G3.out g4 (fun i hi => by cases hi; exact HGM.out))
  have E4 := Lib.hid en
  have A4 : Hid (a4 ≤ 10000000) := Lib.hid (by omega)
  have O4 := Lib.hid o4
  have B3 : Hid (gm < w3.heap.size) := Lib.hid E3.out.lt
  clear o4 en ha4 g4 HN
  obtain ⟨zab, sab, lab, vab⟩ := O4.out.get (mul_lt_pow LA.out LB.out)
  have SAB := Lib.hid sab
  have LAB : Hid (zab.length ≤ 120 ∧ val B64 zab = VA * VB) := Lib.hid ⟨by have := ll.out; omega, vab⟩
  have OAB := Lib.hid (O4.out.off B3.out)
  clear sab lab vab
  -- (a b) d
  have N1 := E4.out.mul2 U.out (HD2.out.grown0 G4.out) (by have := A4.out; omega) SAB.out (HDL.out.grown0 G4.out) (.inr OAB.out) OD.out (by have := ll.out; have := LAB.out; omega)
  rw [LAB.out.2, ← hVD] at N1
  have HN := Lib.hid N1
  clear N1
  go_wp2_with fail
  refine (HN.out).mono ?_
  rintro e w5 ⟨x5, c5, a5, rfl, o5, en, ha5, g5⟩
  have G5 := Lib.hid (gb_new G4.out g5 (fun i hi => by cases hi; exact HGM.out))
  have E5 := Lib.hid en
  have A5 : Hid (a5 ≤ 20000000) := Lib.hid (by have := A4.out; omega)
  have O5 := Lib.hid o5
  have SAB5 := Lib.hid (SAB.out.off OAB.out g5)
  have B4 : Hid (gm < w4.heap.size) := Lib.hid E4.out.lt
  clear o5 en ha5 g5 HN SAB E3 E4 O4
  -- b d
  have N1 := E5.out.mul2 U.out (HD2.out.grown0 G5.out) (by have := A5.out; omega) (HB.out.grown0 G5.out) (HDL.out.grown0 G5.out) OB.out OD.out (by have := ll.out; omega)
  rw [← hVB, ← hVD] at N1
  have HN := Lib.hid N1
  clear N1
  go_wp2_with fail
  refine (HN.out).mono ?_
  rintro e w6 ⟨x6, c6, a6, rfl, o6, en, ha6, g6⟩
  have G6 := Lib.hid (gb_new G5.out g6 (fun i hi => by cases hi; exact HGM.out))
  have E6 := Lib.hid en
  have A6 : Hid (a6 ≤ 30000000) := Lib.hid (by have := A5.out; omega)
  have B5 : Hid (gm < w5.heap.size) := Lib.hid E5.out.lt
  have O6 := Lib.hid o6
  have O5' := Lib.hid (O5.out.past B4.out g6)
  have SAB6 := Lib.hid (SAB5.out.off OAB.out g6)
  clear o6 en ha6 g6 HN E5 O5 SAB5
  obtain ⟨zbd, sbd, lbd, vbd⟩ := O6.out.get (mul_lt_pow LB.out LD.out)
  -- a (b d)
  have N1 := E6.out.mul2 U.out (HD2.out.grown0 G6.out) (by have := A6.out; omega) (HA.out.grown0 G6.out) sbd OA.out (.inr (O6.out.off B5.out)) (by have := ll.out; omega)
  rw [← hVA, vbd] at N1
  have HN := Lib.hid N1
  clear N1 sbd lbd vbd
  go_wp2_with fail
  refine (HN.out).mono ?_
  rintro e w7 ⟨x7, c7, a7, rfl, o7, en, ha7, g7⟩
  have G7 := Lib.hid (gb_new G6.out g7 (fun i hi => by cases hi; exact HGM.out))
  have E7 := Lib.hid en
  have A7 : Hid (a7 ≤ 40000000) := Lib.hid (by have := A6.out; omega)
  have SAB7 := Lib.hid (SAB6.out.off OAB.out g7)
  obtain ⟨zs, sz1, sz2, _, _⟩ := (O5'.out.past B4.out g7).same (by rw [Nat.mul_assoc]; exact o7)
  have SM := Lib.hid (same_c w7 x5 x7 zs zs sz1 sz2)
  rw [decide_eq_true rfl] at SM
  clear o7 en ha7 g7 HN E6 O6 O5' sz1 sz2 SAB6
  go_wp2_with fail
  refine (SM.out).mono ?_
  rintro e w8 ⟨rfl, g8⟩
  have G8 := Lib.hid (gb_trans G7.out g8)
  have E8 := Lib.hid (E7.out.grown0 g8)
  have SAB8 := Lib.hid (SAB7.out.grown0 g8)
  clear g8 SM E7 SAB7
  have GA := gb_alloc (gb_refl w8 none) (Obj.cells #[.slice A' n ca', .slice B' m cb', .slice D' k cd'] 34)
  have PT := pts3 w8 34 _ _ _ al bl dl (HA.out.grown0 G8.out) (HB.out.grown0 G8.out) (HDL.out.grown0 G8.out)
  have B8 : Hid (gm < w8.heap.size) := Lib.hid E8.out.lt
  have P1 := (E8.out.grown0 GA).prod U.out (HD2.out.grown0 (gb_trans G8.out GA)) (n := 3) (by decide) (by have := A7.out; omega) PT (off_some (by have := B8.out; omega)) (fun j hj => by
    rcases (show j = 0 ∨ j = 1 ∨ j = 2 by omega) with rfl | rfl | rfl
    · exact OA.out
    · exact OB.out
    · exact OD.out) (by
    have h1 : tot (fun j => [al, bl, dl].getD j []) 0 3 = 0 + al.length + bl.length + dl.length := rfl
    have := ll.out
    omega)
  have hprv : prV (fun j => val B64 ([al, bl, dl].getD j [])) 0 3 = VA * VB * VD := by
    show 1 * val B64 al * val B64 bl * val B64 dl = _
    rw [Nat.one_mul, ← hVA, ← hVB, ← hVD]
  rw [hprv] at P1
  have HP := Lib.hid P1
  have G8A := Lib.hid (gb_trans G8.out GA)
  have SAB8A := Lib.hid (SAB8.out.grown0 GA)
  clear P1 GA PT hprv
  go_wp2_with fail
  refine (HP.out).mono ?_
  rintro e w9 ⟨x9, c9, a9, rfl, o9, en, ha9, g9⟩
  have G9 := Lib.hid (gb_new G8A.out g9 (fun i hi => by cases hi; exact HGM.out))
  have E9 := Lib.hid en
  have A9 : Hid (a9 ≤ 400000000) := Lib.hid (by have := A7.out; omega)
  have SAB9 := Lib.hid (SAB8A.out.off OAB.out g9)
  have B8A : Hid (gm < (w8.alloc (Obj.cells #[.slice A' n ca', .slice B' m cb', .slice D' k cd'] 34)).heap.size) := Lib.hid (by rw [alloc_sz]; have := B8.out; omega)
  have O9 := Lib.hid o9
  clear o9 en ha9 g9 HP E8 SAB8 SAB8A G8A
  have N1 := E9.out.mul2 U.out (HD2.out.grown0 G9.out) (by have := A9.out; omega) SAB9.out (HDL.out.grown0 G9.out) (.inr OAB.out) OD.out (by have := ll.out; have := LAB.out; omega)
  rw [LAB.out.2, ← hVD] at N1
  have HN := Lib.hid N1
  clear N1
  go_wp2_with fail
  refine (HN.out).mono ?_
  rintro e w10 ⟨x10, c10, a10, rfl, o10, en, ha10, g10⟩
  have G10 := Lib.hid (gb_new G9.out g10 (fun i hi => by cases hi; exact HGM.out))
  have E10 := Lib.hid en
  have A10 : Hid (a10 ≤ 500000000) := Lib.hid (by have := A9.out; omega)
  have SAB10 := Lib.hid (SAB9.out.off OAB.out g10)
  obtain ⟨zs2, sz1, sz2, _, _⟩ := (O9.out.past B8A.out g10).same o10
  have SM := Lib.hid (same_c w10 x9 x10 zs2 zs2 sz1 sz2)
  rw [decide_eq_true rfl] at SM
  clear o10 en ha10 g10 HN E9 O9 sz1 sz2 SAB9
  go_wp2_with fail
  refine (SM.out).mono ?_
  rintro e w11 ⟨rfl, g11⟩
  have G11 := Lib.hid (gb_trans G10.out g11)
  have E11 := Lib.hid (E10.out.grown0 g11)
  have SAB11 := Lib.hid (SAB10.out.grown0 g11)
  clear g11 SM E10 SAB10
  have FA := lfrom_c w11 _ al 60 (HA.out.grown0 G11.out) (by have := ll.out; omega) (by decide)
  rw [← hVA] at FA
  have HFA := Lib.hid FA
  clear FA
  go_wp2_with fail
  refine (HFA.out).mono ?_
  rintro e w12 ⟨y1, rfl, n1, g12⟩
  have NA := Lib.hid n1
  have F12 := Lib.hid g12
  have FB := lfrom_c w12 _ bl 60 ((HB.out.grown0 G11.out).grown0 g12) (by have := ll.out; omega) (by decide)
  rw [← hVB] at FB
  have HFB := Lib.hid FB
  clear FB n1 g12 HFA
  go_wp2_with fail
  refine (HFB.out).mono ?_
  rintro e w13 ⟨y2, rfl, n2, g13⟩
  have AD := Lib.hid (add_c w13 y1 y2 _ _ _ _ (NA.out.grown0 g13) n2 (by decide) (by decide))
  have F13 := Lib.hid (gb_trans F12.out g13)
  clear n2 g13 HFB NA F12
  go_wp2_with fail
  refine (AD.out).mono ?_
  rintro e w14 ⟨y3, rfl, n3, g14⟩
  have TO := Lib.hid (to_o w14 y3 _ _ n3 (by decide))
  have F14 := Lib.hid (gb_trans F13.out g14)
  clear n3 g14 AD F13
  go_wp2_with fail
  refine (TO.out).mono ?_
  rintro e w15 ⟨s, rfl, o15, g15⟩
  have F15 := gb_trans F14.out g15
  have G15 := Lib.hid (gb_trans G11.out F15)
  have E15 := Lib.hid (E11.out.grown0 F15)
  have SAB15 := Lib.hid (SAB11.out.grown0 F15)
  have B11 : Hid (gm < w14.heap.size) := Lib.hid (Nat.lt_of_lt_of_le E11.out.lt F14.out.size)
  have OS := Lib.hid (o15.off B11.out)
  have hs61 : VA + VB < B64 ^ 61 := by
    have h1 := Nat.lt_of_lt_of_le LA.out (Nat.pow_le_pow_right (n := B64) (by decide) (show al.length ≤ 60 by have := ll.out; omega))
    have h2 := Nat.lt_of_lt_of_le LB.out (Nat.pow_le_pow_right (n := B64) (by decide) (show bl.length ≤ 60 by have := ll.out; omega))
    have h3 : B64 ^ 61 = B64 ^ 60 * 18446744073709551616 := Nat.pow_succ ..
    obtain ⟨P, hP⟩ : ∃ P, P = B64 ^ 60 := ⟨_, rfl⟩
    rw [← hP] at h1 h2 h3
    rw [h3]
    omega
  obtain ⟨sl, ss, lsl, vs⟩ := o15.get hs61
  have SS := Lib.hid ss
  have LS := Lib.hid (And.intro lsl vs)
  clear g15 TO F14 F15 E11 SAB11 o15 hs61 ss lsl vs
  -- squares of a and of b
  have N1 := E15.out.sqr2 U.out (HD2.out.grown0 G15.out) (by have := A10.out; omega) (HA.out.grown0 G15.out) OA.out (by have := ll.out; omega)
  rw [← hVA] at N1
  have HN := Lib.hid N1
  clear N1
  go_wp2_with fail
  refine (HN.out).mono ?_
  rintro e w16 ⟨x16, c16, a16, rfl, o16, en, ha16, g16⟩
  have G16 := Lib.hid (gb_new G15.out g16 (fun i hi => by cases hi; exact HGM.out))
  have E16 := Lib.hid en
  have A16 : Hid (a16 ≤ 600000000) := Lib.hid (by have := A10.out; omega)
  have SAB16 := Lib.hid (SAB15.out.off OAB.out g16)
  have SS16 := Lib.hid (SS.out.off OS.out g16)
  obtain ⟨zaa, saa, laa, vaa⟩ := o16.get (mul_lt_pow LA.out LA.out)
  have FA := lfrom_c w16 _ zaa 120 saa (by have := ll.out; omega) (by decide)
  rw [vaa] at FA
  have HFA := Lib.hid FA
  clear FA o16 en ha16 g16 HN E15 saa laa vaa SAB15 SS
  go_wp2_with fail
  refine (HFA.out).mono ?_
  rintro e w17 ⟨y4, rfl, n4, g17⟩
  have G17 := Lib.hid (gb_trans G16.out g17)
  have E17 := Lib.hid (E16.out.grown0 g17)
  have NA := Lib.hid n4
  have SAB17 := Lib.hid (SAB16.out.grown0 g17)
  have SS17 := Lib.hid (SS16.out.grown0 g17)
  have N1 := E17.out.sqr2 U.out (HD2.out.grown0 G17.out) (by have := A16.out; omega) (HB.out.grown0 G17.out) OB.out (by have := ll.out; omega)
  rw [← hVB] at N1
  have HN := Lib.hid N1
  clear N1 n4 g17 HFA E16 SAB16 SS16
  go_wp2_with fail
  refine (HN.out).mono ?_
  rintro e w18 ⟨x18, c18, a18, rfl, o18, en, ha18, g18⟩
  have G18 := Lib.hid (gb_new G17.out g18 (fun i hi => by cases hi; exact HGM.out))
  have E18 := Lib.hid en
  have A18 : Hid (a18 ≤ 700000000) := Lib.hid (by have := A16.out; omega)
  have SAB18 := Lib.hid (SAB17.out.off OAB.out g18)
  have SS18 := Lib.hid (SS17.out.off OS.out g18)
  have NA18 := Lib.hid (E17.out.nm NA.out g18)
  obtain ⟨zbb, sbb, lbb, vbb⟩ := o18.get (mul_lt_pow LB.out LB.out)
  have FA := lfrom_c w18 _ zbb 120 sbb (by have := ll.out; omega) (by decide)
  rw [vbb] at FA
  have HFA := Lib.hid FA
  clear FA o18 en ha18 g18 HN E17 sbb lbb vbb SAB17 SS17 NA
  go_wp2_with fail
  refine (HFA.out).mono ?_
  rintro e w19 ⟨y5, rfl, n5, g19⟩
  have AD := Lib.hid (add_c w19 y4 y5 _ _ _ _ (NA18.out.grown0 g19) n5 (by decide) (by decide))
  have F19 := Lib.hid g19
  clear n5 g19 HFA NA18
  go_wp2_with fail
  refine (AD.out).mono ?_
  rintro e w20 ⟨y6, rfl, n6, g20⟩
  have NB := Lib.hid n6
  have F20 := Lib.hid (gb_trans F19.out g20)
  have FC := lfrom_c w20 _ zab 120 (SAB18.out.grown0 F20.out) LAB.out.1 (by decide)
  rw [LAB.out.2] at FC
  have HFC := Lib.hid FC
  clear FC n6 g20 AD F19
  go_wp2_with fail
  refine (HFC.out).mono ?_
  rintro e w21 ⟨y7, rfl, n7, g21⟩
  have NC := Lib.hid n7
  have F21 := Lib.hid (gb_trans F20.out g21)
  have NB21 := Lib.hid (NB.out.grown0 g21)
  have FD := lfrom_c w21 _ zab 120 (SAB18.out.grown0 F21.out) LAB.out.1 (by decide)
  rw [LAB.out.2] at FD
  have HFD := Lib.hid FD
  clear FD n7 g21 HFC F20 NB
  go_wp2_with fail
  refine (HFD.out).mono ?_
  rintro e w22 ⟨y8, rfl, n8, g22⟩
  have AD := Lib.hid (add_c w22 y7 y8 _ _ _ _ (NC.out.grown0 g22) n8 (by decide) (by decide))
  have F22 := Lib.hid (gb_trans F21.out g22)
  have NB22 := Lib.hid (NB21.out.grown0 g22)
  clear n8 g22 HFD NC NB21 F21
  go_wp2_with fail
  refine (AD.out).mono ?_
  rintro e w23 ⟨y9, rfl, n9, g23⟩
  have AE := Lib.hid (add_c w23 y6 y9 _ _ _ _ (NB22.out.grown0 g23) n9 (by decide) (by decide))
  have F23 := Lib.hid (gb_trans F22.out g23)
  clear n9 g23 AD NB22 F22
  go_wp2_with fail
  refine (AE.out).mono ?_
  rintro e w24 ⟨y10, rfl, n10, g24⟩
  have F24 := gb_trans F23.out g24
  have G24 := Lib.hid (gb_trans G18.out F24)
  have E24 := Lib.hid (E18.out.grown0 F24)
  have NL := Lib.hid n10
  have N1 := E24.out.sqr2 U.out (HD2.out.grown0 G24.out) (by have := A18.out; omega) (SS18.out.grown0 F24) (.inr OS.out) (by have := LS.out; omega)
  rw [LS.out.2] at N1
  have HN := Lib.hid N1
  clear N1 n10 g24 AE F23 F24 E18 SAB18 SS18
  go_wp2_with fail
  refine (HN.out).mono ?_
  rintro e w25 ⟨x25, c25, a25, rfl, o25, en, ha25, g25⟩
  have G25 := Lib.hid (gb_new G24.out g25 (fun i hi => by cases hi; exact HGM.out))
  have NL25 := E24.out.nm NL.out g25
  have ev : VA * VA + VB * VB + (VA * VB + VA * VB) = (VA + VB) * (VA + VB) := by grind
  rw [ev] at NL25
  have SM := Lib.hid (same2_c w25 y10 x25 _ _ NL25 o25.wd (by decide))
  clear o25 en ha25 g25 HN E24 NL NL25 ev
  go_wp2_with fail
  refine (SM.out).mono ?_
  rintro e w26 ⟨rfl, g26⟩
  have G26 := Lib.hid (gb_trans G25.out g26)
  have WK := Lib.hid (wakes12_c w26 (HD2.out.grown0 G26.out))
  clear g26 SM
  go_wp2_with fail
  refine (WK.out).mono ?_
  rintro e w27 ⟨rfl, g27⟩
  go_wp2
  go_ret
  exact ⟨rfl, gb_trans HG.out (gb_trans G26.out g27)⟩
end Go.Proofs.YtldkiddoajlohaaGreatDoor
