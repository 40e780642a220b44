/- Transforms: level by level. -/
import Derived.Test.YtoiclkaecgpbbaaDoorNtt3
import Derived.Test.YtoiclkaecgpbbaaDoorModw2
namespace Go.Proofs.YtoiclkaecgpbbaaDoor
open Go.RowKit

theorem tf_idx {N B S q j : Nat} (hN : N = 2 * B * S) (hq : q < S) (hj : j < B) : 2 * B * q + B + j < N ∧ 2 * B * q + j < N ∧ 2 * B * q + 2 * B ≤ N ∧ j * S < N / 2 := by
  have h1 : 2 * B * (q + 1) ≤ 2 * B * S := Nat.mul_le_mul_left _ hq
  rw [Nat.mul_add, Nat.mul_one, ← hN] at h1
  refine ⟨by omega, by omega, h1, ?_⟩
  have h2 : N / 2 = B * S := by rw [hN, Nat.mul_assoc, Nat.mul_div_cancel_left _ (by decide)]
  rw [h2]
  exact Nat.mul_lt_mul_of_pos_right hj (by omega)
theorem Mt.row {w w' : World} {g h : Nat} {a b c : Int} (m : Mt w g a b c) (o : w.grownBy w' (some h)) (hne : g ≠ h) : Mt w' g a b c := by
  have hb := o.block g (World.block_lt_of_cell? w _ m.c0) (by simpa using hne)
  have e : ∀ j, w'.cell? ⟨g, j, none⟩ = w.cell? ⟨g, j, none⟩ := fun j => World.cell?_of_block hb
  have f : ∀ j, w'.frozen? ⟨g, j, none⟩ = w.frozen? ⟨g, j, none⟩ := fun j => World.frozen?_of_block hb
  exact ⟨(e 0).trans m.c0, (e 1).trans m.c1, (e 2).trans m.c2, (f 0).trans m.f0, (f 1).trans m.f1, (f 2).trans m.f2, m.a0, m.b0, m.c0'⟩
def BS (s B L : Nat) : Prop := B = 2 ^ s ∧ s ≤ L
def FQ (F B S q : Nat) : Prop := F = 2 * B * q ∧ q ≤ S
/-- A level's numbers. -/
theorem bs_facts {s B L N : Nat} (h : BS s B L) (hN : N = 2 ^ L) (hlt : B < N) : ∃ m S, L = s + m + 1 ∧ S = 2 ^ m ∧ N = 2 * B * S ∧ 0 < B ∧ 0 < S ∧ 2 ^ m * B = 2 ^ (L - 1) := by
  obtain ⟨hB, hs⟩ := h
  have hsL : s < L := by
    by_cases k : s < L
    · exact k
    · rw [show s = L by omega] at hB; omega
  refine ⟨L - s - 1, 2 ^ (L - s - 1), by omega, rfl, ?_, ?_, Nat.pow_pos (by decide), ?_⟩
  · rw [hN, hB, show L = (s + (L - s - 1)) + 1 by omega, Nat.pow_succ, Nat.pow_add]
    rw [show s + (L - s - 1) + 1 - s - 1 = L - s - 1 by omega]
    grind
  · rw [hB]; exact Nat.pow_pos (by decide)
  · rw [hB, ← Nat.pow_add]; congr 1; omega
set_option maxRecDepth 100000 in
set_option maxHeartbeats 16000000 in
theorem transform_c (W0 w : World) (t gm : Nat) (p r z rr a b c : Int) (L g cp : Nat) (v vs : Value) (f : Nat → Int) (xs : List Int) (G : W0.grownBy w (some gm)) (h : Pl W0 t gm p r z L) (hm : Mt w gm a b c) (hmw : gm < W0.heap.size) (ha : a ≤ 1000000000000000000)
    (hp : Pws W0 gm v vs p rr (2 ^ L / 2)) (_hr : 0 ≤ rr) (hn : L ≠ 0 → Cg p (rr ^ 2 ^ (L - 1)) (-1)) (ow : Own w W0.heap.size (.slice (some ⟨g, 0, none⟩) (2 ^ L) cp) xs) (lv : Lv p f rr L 0 xs) (_hcp : 2 ^ L ≤ cp) :
    Calls Tryd.prog 82 #[.pointer (some ⟨t, 0, none⟩), .slice (some ⟨g, 0, none⟩) (2 ^ L) cp, v, vs] w fun e w' => e = .returned (.tuple #[]) ∧ ∃ ys, Own w' W0.heap.size (.slice (some ⟨g, 0, none⟩) (2 ^ L) cp) ys ∧ Lv p f rr L L ys ∧
      Mt w' gm (a + ((2 ^ L / 2 * L : Nat) : Int)) b c ∧ W0.grownBy w' (some gm) := by
  have hL := h.L10
  obtain ⟨g0, h0, md, gne⟩ := h.gd
  have tne := h.tm
  obtain ⟨k1, k2, rfl, rfl, n1, n2, d1, d2⟩ := hp
  have hgb := ow.base_le
  obtain ⟨N, hN⟩ : ∃ N, N = 2 ^ L := ⟨_, rfl⟩
  have hN10 : N ≤ 1024 := by rw [hN]; exact Nat.pow_le_pow_right (by decide) hL
  rw [← hN] at ow d1 d2 ⊢
  have hp3 := md.pm.lo
  have hp' := md.pm.hi
  have C1 := Lib.hid h.c1
  have C2 := Lib.hid h.c2
  have C0 := Lib.hid h0
  have MD := Lib.hid md
  have D1 := Lib.hid d1
  have D2 := Lib.hid d2
  have LV := Lib.hid lv
  have OW := Lib.hid ow
  have GG := Lib.hid G
  have HM := Lib.hid hm
  have HN := Lib.hid hN
  have HNEG := Lib.hid hn
  have NE := Lib.hid (And.intro gne (And.intro tne (And.intro n1 n2)))
  have GB := Lib.hid hgb
  have c0 := gb_cell G h0 (by simpa using tne)
  clear lv ow G hm hN hn n1 n2 d1 d2 md h0 h gne tne
  go_enter Tryd.func82, Tryd.ntmps82
  go_wp2_with fail
  refine (modP_c _ g0 p (MD.out.grown GG.out (by have := NE.out.1; simpa using this))).mono ?_
  rintro e w' ⟨rfl, hw'⟩
  subst hw'
  clear c0
  go_wp2
  have BS0 : Hid (BS 0 1 L) := Lib.hid ⟨rfl, by omega⟩
  obtain ⟨w, rfl⟩ : ∃ w, w = w' := ⟨_, rfl⟩
  go_loopw [9] (fun v9 wr => ∃ (s B : Nat) (xs : List Int), v9 = .int .i64 B ∧ BS s B L ∧ Own wr W0.heap.size (.slice (some ⟨g, 0, none⟩) N cp) xs ∧ Lv p f rr L s xs ∧ Mt wr gm a b c ∧ W0.grownBy wr (some gm)) (fun v9 _ => N - (intOf v9).toNat)
  case atStart => exact ⟨0, 1, xs, rfl, BS0.out, OW.out, LV.out, HM.out, GG.out⟩
  case round =>
    clear BS0 OW LV HM GG
    obtain ⟨s, B, xs, rfl, bs, ow, lv, hm, G⟩ := hrel
    have OW := Lib.hid ow
    have LV := Lib.hid lv
    have HM := Lib.hid hm
    have GG := Lib.hid G
    have BSH := Lib.hid bs
    clear ow lv hm bs
    by_cases hlt : B < N
    · obtain ⟨m, S, e1, e2, e3, B0, S0, e4⟩ := bs_facts BSH.out HN.out hlt
      have eS : (N : Int) / (2 * (B : Int)) = (S : Int) := by
        have h1 : N / (2 * B) = S := by rw [e3]; exact Nat.mul_div_cancel_left _ (by omega)
        have h2 : (2 * (B : Int)) = ((2 * B : Nat) : Int) := by rw [Int.natCast_mul]; rfl
        rw [h2, ← Int.natCast_ediv, h1]
      have hB10 : B ≤ 1024 := by omega
      have hS10 : S ≤ 1024 := by
        have : 1 * S ≤ 2 * B * S := Nat.mul_le_mul_right _ (by omega)
        omega
      have hw : Cg p (rr ^ (2 ^ m * B)) (-1) := by rw [e4]; exact HNEG.out (by omega)
      have T0 := LV.out.tf e1
      rw [← HN.out, ← BSH.out.1] at T0
      have TF0 := Lib.hid T0
      have HW := Lib.hid hw
      have E1 := Lib.hid e1
      have E2 := Lib.hid e2
      have E3 := Lib.hid e3
      have FQ0 : Hid (FQ 0 B S 0) := Lib.hid ⟨by simp, by omega⟩
      have ES := Lib.hid eS
      have n2B : (2 * (B : Int)) ≠ 0 := by omega
      clear T0 hw e1 e2 e3 e4 LV G
      go_wp2
      clear eS n2B
      obtain ⟨wo, rfl⟩ : ∃ wo : World, wo = wr := ⟨_, rfl⟩
      go_loopw [11] (fun v11 wr => ∃ (q F : Nat) (xs : List Int), v11 = .int .i64 F ∧ FQ F B S q ∧ Own wr W0.heap.size (.slice (some ⟨g, 0, none⟩) N cp) xs ∧ Tf p f rr N B m q 0 xs ∧ Mt wr gm a b c ∧ W0.grownBy wr (some gm)) (fun v11 _ => N - (intOf v11).toNat)
      case atStart => exact ⟨0, 0, xs, rfl, FQ0.out, OW.out, TF0.out, HM.out, GG.out⟩
      case round =>
        clear FQ0 OW TF0 HM GG
        obtain ⟨q, F, xs, rfl, fq, ow, tf, hm, G⟩ := hrel
        have OW := Lib.hid ow
        have TF := Lib.hid tf
        have HM := Lib.hid hm
        have GG := Lib.hid G
        have FQH := Lib.hid fq
        clear ow tf hm fq
        by_cases hF : F < N
        · have hq : q < S := by
            obtain ⟨f1, f2⟩ := FQH.out
            by_cases k : q < S
            · exact k
            · rw [show q = S by omega, ← E3.out] at f1; omega
          have HQ := Lib.hid hq
          clear hq G
          go_wp2
          obtain ⟨wp, rfl⟩ : ∃ wp : World, wp = wr := ⟨_, rfl⟩
          go_loopw [12] (fun v12 wr => ∃ (j : Nat) (xs : List Int), v12 = .int .i64 j ∧ j ≤ B ∧ Own wr W0.heap.size (.slice (some ⟨g, 0, none⟩) N cp) xs ∧ Tf p f rr N B m q j xs ∧ Mt wr gm a b c ∧ W0.grownBy wr (some gm)) (fun v12 _ => B - (intOf v12).toNat)
          case atStart => exact ⟨0, xs, rfl, by omega, OW.out, TF.out, HM.out, GG.out⟩
          case round =>
            clear OW TF HM GG
            obtain ⟨j, xs, rfl, hj, ow, tf, hm, G⟩ := hrel
            have OW := Lib.hid ow
            have TF := Lib.hid tf
            have HM := Lib.hid hm
            have GG := Lib.hid G
            clear ow tf hm
            by_cases hjB : j < B
            · obtain ⟨f1, f2⟩ := FQH.out
              obtain ⟨x1, x2, x3, x4⟩ := tf_idx E3.out HQ.out hjB
              obtain ⟨I0, eI0⟩ : ∃ I, I = 2 * B * q + j := ⟨_, rfl⟩
              obtain ⟨I1, eI1⟩ : ∃ I, I = 2 * B * q + B + j := ⟨_, rfl⟩
              obtain ⟨J, eJ⟩ : ∃ J, J = j * S := ⟨_, rfl⟩
              rw [← eI0] at x2
              rw [← eI1] at x1
              rw [← eJ] at x4
              have i0 : (F : Int) + (j : Int) = (I0 : Int) := by rw [eI0, f1]; omega
              have i1 : (F : Int) + (B : Int) + (j : Int) = (I1 : Int) := by rw [eI1, f1]; omega
              have ij : (j : Int) * (S : Int) = (J : Int) := by rw [eJ, Int.natCast_mul]
              have len := TF.out.len
              have b0 := TF.out.bd I0
              have b1 := TF.out.bd I1
              have cx := OW.out.cell I0 (by rw [len]; exact x2)
              have cy := OW.out.cell I1 (by rw [len]; exact x1)
              have fx := OW.out.free I0
              have fy := OW.out.free I1
              have ct := gb_cell GG.out (D1.out J x4) (by have := NE.out.2.2.1; simpa using this)
              have cs := gb_cell GG.out (D2.out J x4) (by have := NE.out.2.2.2; simpa using this)
              have c0 := gb_cell GG.out C0.out (by have := NE.out.2.1; simpa using this)
              have t0 := Int.emod_nonneg (rr ^ J) (show p ≠ 0 by omega)
              have t1 := Int.emod_lt_of_pos (rr ^ J) (show 0 < p by omega)
              have stp := fun y u vv => TF.out.step hjB (by rw [← eI1]; exact x1) HW.out (y := y) (u := u) (v := vv)
              rw [← eI0, ← eI1, ← E2.out, Nat.mul_comm S j, ← eJ] at stp
              obtain ⟨x, hx⟩ : ∃ x, x = rd xs I0 := ⟨_, rfl⟩
              obtain ⟨y1, hy1⟩ : ∃ y, y = rd xs I1 := ⟨_, rfl⟩
              obtain ⟨tw, htw⟩ : ∃ y, y = rr ^ J % p := ⟨_, rfl⟩
              obtain ⟨sh, hsh⟩ : ∃ y, y = tw * 18446744073709551616 / p := ⟨_, rfl⟩
              rw [← hx] at cx b0 stp
              rw [← hy1] at cy b1 stp
              rw [← htw] at ct cs t0 t1
              rw [← hsh] at cs
              have SM := fun w (h : Md w g0 p) => modShoupMul_c w g0 p y1 tw sh h b1.1 t0 (by rw [hsh, Int.emod_eq_of_lt t0 t1])
              have y0' := Int.emod_nonneg (y1 * tw) (show p ≠ 0 by omega)
              have y1' := Int.emod_lt_of_pos (y1 * tw) (show 0 < p by omega)
              have yc : Cg p (y1 * tw % p) (y1 * rr ^ J) := (Cg.mod p _).trans (by rw [htw]; exact (Cg.mod p _).mull y1)
              obtain ⟨y, hy⟩ : ∃ y, y = y1 * tw % p := ⟨_, rfl⟩
              rw [← hy] at SM y0' y1' yc
              have stp2 := fun u vv => stp y u vv yc
              have HSM := Lib.hid SM
              have STP := Lib.hid stp2
              have x0 := b0.1
              have xl := b0.2
              have HI := Lib.hid (And.intro x1 x2)
              clear eI0 eI1 eJ len b0 b1 stp stp2 hx hy1 htw hsh SM yc hy f1 f2 x3 t0 t1 G
              go_wp2
              clear cx
              refine Canon.region_canon (by kernel_rfl) (by kernel_rfl) ?_
              go_wp2_with fail
              refine (HSM.out _ (MD.out.grown (gb_drew GG.out) (by have := NE.out.1; simpa using this))).mono ?_
              rintro e wa ⟨rfl, ga⟩
              have GA := gb_trans (gb_drew GG.out) (gb_none ga _)
              have OA := Lib.hid (OW.out.drew.grown0 ga)
              have MA := Lib.hid (HM.out.drew.grown ga)
              clear cy ct cs c0 fx fy HSM ga
              have fx := OA.out.free I0
              have fy := OA.out.free I1
              have cx := OA.out.cell I0 (by rw [TF.out.len]; exact HI.out.2)
              have cy := OA.out.cell I1 (by rw [TF.out.len]; exact HI.out.1)
              go_wp2
              refine ⟨by kernel_rfl, ?_⟩
              have hne : I0 ≠ I1 := by omega
              by_cases h1 : p ≤ x + y
              · by_cases h2 : x < y
                · have st := STP.out (x + y - p) (x + p - y) ⟨by omega, by omega⟩ ⟨by omega, by omega⟩ (by have := Cg.add_mult p (x + y) (-1); rw [show x + y + p * -1 = x + y - p by omega] at this; exact this) (by have := Cg.add_mult p (x - y) 1; rw [show x - y + p * 1 = x + p - y by omega] at this; exact this)
                  have ST := Lib.hid st
                  have k1 := OA.out.store I0 (x := (x + y - p)) (by omega) (by omega)
                  have k2 := k1.store I1 (x := (x + p - y)) (by omega) (by omega)
                  have g2 := gb_set (p := ⟨g, I1, none⟩) (gb_set (p := ⟨g, I0, none⟩) GA GB.out.1 (.int .u64 (x + y - p))) GB.out.1 (.int .u64 (x + p - y))
                  have m2 := (MA.out.row (gb_rowC (gb_refl _ (some g)) I0 (.int .u64 (x + y - p))) (by have := GB.out.1; omega)).row (gb_rowC (gb_refl _ (some g)) I1 (.int .u64 (x + p - y))) (by have := GB.out.1; omega)
                  have K := Lib.hid (And.intro k2 (And.intro g2 m2))
                  clear st k1 k2 g2 m2 GA
                  go_wp2
                  clear i0 i1 ij
                  go_roundw
                  case rel => exact ⟨j + 1, _, by go_num, by omega, K.out.1, ST.out, K.out.2.2, K.out.2.1⟩
                  case measure => simp [intOf]; omega
                · have st := STP.out (x + y - p) (x - y) ⟨by omega, by omega⟩ ⟨by omega, by omega⟩ (by have := Cg.add_mult p (x + y) (-1); rw [show x + y + p * -1 = x + y - p by omega] at this; exact this) (Cg.refl _ _)
                  have ST := Lib.hid st
                  have k1 := OA.out.store I0 (x := (x + y - p)) (by omega) (by omega)
                  have k2 := k1.store I1 (x := (x - y)) (by omega) (by omega)
                  have g2 := gb_set (p := ⟨g, I1, none⟩) (gb_set (p := ⟨g, I0, none⟩) GA GB.out.1 (.int .u64 (x + y - p))) GB.out.1 (.int .u64 (x - y))
                  have m2 := (MA.out.row (gb_rowC (gb_refl _ (some g)) I0 (.int .u64 (x + y - p))) (by have := GB.out.1; omega)).row (gb_rowC (gb_refl _ (some g)) I1 (.int .u64 (x - y))) (by have := GB.out.1; omega)
                  have K := Lib.hid (And.intro k2 (And.intro g2 m2))
                  clear st k1 k2 g2 m2 GA
                  go_wp2
                  clear i0 i1 ij
                  go_roundw
                  case rel => exact ⟨j + 1, _, by go_num, by omega, K.out.1, ST.out, K.out.2.2, K.out.2.1⟩
                  case measure => simp [intOf]; omega
              · by_cases h2 : x < y
                · have st := STP.out (x + y) (x + p - y) ⟨by omega, by omega⟩ ⟨by omega, by omega⟩ (Cg.refl _ _) (by have := Cg.add_mult p (x - y) 1; rw [show x - y + p * 1 = x + p - y by omega] at this; exact this)
                  have ST := Lib.hid st
                  have k1 := OA.out.store I0 (x := (x + y)) (by omega) (by omega)
                  have k2 := k1.store I1 (x := (x + p - y)) (by omega) (by omega)
                  have g2 := gb_set (p := ⟨g, I1, none⟩) (gb_set (p := ⟨g, I0, none⟩) GA GB.out.1 (.int .u64 (x + y))) GB.out.1 (.int .u64 (x + p - y))
                  have m2 := (MA.out.row (gb_rowC (gb_refl _ (some g)) I0 (.int .u64 (x + y))) (by have := GB.out.1; omega)).row (gb_rowC (gb_refl _ (some g)) I1 (.int .u64 (x + p - y))) (by have := GB.out.1; omega)
                  have K := Lib.hid (And.intro k2 (And.intro g2 m2))
                  clear st k1 k2 g2 m2 GA
                  go_wp2
                  clear i0 i1 ij
                  go_roundw
                  case rel => exact ⟨j + 1, _, by go_num, by omega, K.out.1, ST.out, K.out.2.2, K.out.2.1⟩
                  case measure => simp [intOf]; omega
                · have st := STP.out (x + y) (x - y) ⟨by omega, by omega⟩ ⟨by omega, by omega⟩ (Cg.refl _ _) (Cg.refl _ _)
                  have ST := Lib.hid st
                  have k1 := OA.out.store I0 (x := (x + y)) (by omega) (by omega)
                  have k2 := k1.store I1 (x := (x - y)) (by omega) (by omega)
                  have g2 := gb_set (p := ⟨g, I1, none⟩) (gb_set (p := ⟨g, I0, none⟩) GA GB.out.1 (.int .u64 (x + y))) GB.out.1 (.int .u64 (x - y))
                  have m2 := (MA.out.row (gb_rowC (gb_refl _ (some g)) I0 (.int .u64 (x + y))) (by have := GB.out.1; omega)).row (gb_rowC (gb_refl _ (some g)) I1 (.int .u64 (x - y))) (by have := GB.out.1; omega)
                  have K := Lib.hid (And.intro k2 (And.intro g2 m2))
                  clear st k1 k2 g2 m2 GA
                  go_wp2
                  clear i0 i1 ij
                  go_roundw
                  case rel => exact ⟨j + 1, _, by go_num, by omega, K.out.1, ST.out, K.out.2.2, K.out.2.1⟩
                  case measure => simp [intOf]; omega
            · obtain rfl : j = B := by omega
              have nx := TF.out.next (by omega)
              have fq : FQ (F + 2 * j) j S (q + 1) := by
                obtain ⟨f1, f2⟩ := FQH.out
                have := HQ.out
                exact ⟨by rw [f1, Nat.mul_add, Nat.mul_one], by omega⟩
              have NX := Lib.hid nx
              have FQN := Lib.hid fq
              clear nx fq G
              go_wp2
              go_roundw
              case rel => exact ⟨q + 1, F + 2 * j, xs, by go_num, FQN.out, OW.out, NX.out, HM.out, GG.out⟩
              case measure => simp [intOf]; omega
        · have hq : S ≤ q := by
            obtain ⟨f1, f2⟩ := FQH.out
            by_cases k : S ≤ q
            · exact k
            · have := Nat.mul_lt_mul_of_pos_left (show q < S by omega) (show 0 < 2 * B by omega)
              rw [← E3.out] at this; omega
          have nx : Lv p f rr L (s + 1) xs := by
            have h1 := TF.out
            rw [HN.out, BSH.out.1] at h1
            exact h1.lv E1.out (by rw [← E2.out]; exact hq)
          have bs : BS (s + 1) (2 * B) L := by
            have := BSH.out.1
            have := E1.out
            exact ⟨by rw [Nat.pow_succ, ← BSH.out.1, Nat.mul_comm], by omega⟩
          have NX := Lib.hid nx
          have BSN := Lib.hid bs
          clear nx bs hq G
          go_wp2
          go_roundw
          case rel => exact ⟨s + 1, 2 * B, xs, by go_num, BSN.out, OW.out, NX.out, HM.out, GG.out⟩
          case measure => simp [intOf]; omega
    · have hs : s = L := by
        obtain ⟨b1, b2⟩ := BSH.out
        by_cases k : s = L
        · exact k
        · have h1 : 2 ^ s < 2 ^ L := Nat.pow_lt_pow_right (by decide) (by omega)
          rw [← b1, ← HN.out] at h1; omega
      have lvl : Lv p f rr L L xs := by
        have := LV.out
        rw [hs] at this; exact this
      have LVL := Lib.hid lvl
      obtain ⟨H, hH⟩ : ∃ H, H = N / 2 := ⟨_, rfl⟩
      obtain ⟨Q, hQ⟩ : ∃ Q, Q = H * L := ⟨_, rfl⟩
      have eH : (N : Int) / 2 = (H : Int) := by omega
      have eQ : (H : Int) * (L : Int) = (Q : Int) := by rw [hQ, Int.natCast_mul]
      have hQ1 : Q ≤ 20480 := by
        rw [hQ]
        have := Nat.mul_le_mul (show H ≤ 1024 by omega) hL
        omega
      have c1 := gb_cell GG.out C1.out (by have := NE.out.2.1; simpa using this)
      have c2 := gb_cell GG.out C2.out (by have := NE.out.2.1; simpa using this)
      have HQ1 := Lib.hid hQ1
      have HQQ := Lib.hid hQ
      have HHH := Lib.hid hH
      clear lvl hs hH hQ G
      go_wp2
      refine Canon.region_canon (by kernel_rfl) (by kernel_rfl) ?_
      go_wp2_with fail
      refine (spend_c _ gm a b c (Q : Int) HM.out.drew (by omega) (by have := HQ1.out; omega)).mono ?_
      rintro e wa ⟨rfl, hm2, mo⟩
      have GF := gb_trans (gb_drew GG.out) mo.gb
      have OF := OW.out.drew.grown mo.gb (.inr (by have := GB.out.1; simp [Value.ownBlock]; omega))
      have ea : (if (Q : Int) > 0 then a + (Q : Int) else a) = a + (Q : Int) := by split <;> omega
      rw [ea] at hm2 ⊢
      clear c1 c2 eH eQ mo
      go_wp2
      refine ⟨by kernel_rfl, ?_⟩
      go_wp2
      go_end0
      exact ⟨rfl, xs, OF, LVL.out, by rw [← HHH.out, ← HQQ.out]; exact hm2, GF⟩
end Go.Proofs.YtoiclkaecgpbbaaDoor
