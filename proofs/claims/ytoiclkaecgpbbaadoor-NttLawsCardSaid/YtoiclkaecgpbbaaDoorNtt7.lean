/- Transforms: forward, inverse. -/
import Derived.Test.YtoiclkaecgpbbaaDoorNtt5
import Derived.Test.YtoiclkaecgpbbaaDoorNtt6
namespace Go.Proofs.YtoiclkaecgpbbaaDoor
open Go.RowKit

set_option maxRecDepth 100000 in
theorem forward_c (w : World) (t gm : Nat) (p r z a b c : Int) (L : Nat) (v : Value) (xs : List Int) (h : Pl w t gm p r z L) (hm : Mt w gm a b c) (ha : a ≤ 1000000000000000000) (hv : Sl w v xs) (hl : xs.length ≤ 2 ^ L) :
    Calls Tryd.prog 61 #[.pointer (some ⟨t, 0, none⟩), v] w fun e w' => ∃ g os, e = .returned (.slice (some ⟨g, 0, none⟩) (2 ^ L) (2 ^ L)) ∧ Own w' w.heap.size (.slice (some ⟨g, 0, none⟩) (2 ^ L) (2 ^ L)) os ∧ Lv p (rd xs) r L L os ∧
      Mt w' gm (a + ((2 ^ L / 2 * L : Nat) : Int)) b c ∧ w.heap.size ≤ g ∧ w.grownBy w' (some gm) := by
  have hgm : gm < w.heap.size := World.block_lt_of_cell? w _ hm.c0
  obtain ⟨v1, v2, u1, u2, u3⟩ := h.up
  have hp0 : 0 < p := by obtain ⟨_, _, md, _⟩ := h.gd; have := md.pm.lo; omega
  have H := Lib.hid h
  have HM := Lib.hid hm
  have HV := Lib.hid hv
  have HL := Lib.hid hl
  have U1 := Lib.hid u1
  have U2 := Lib.hid u2
  have U3 := Lib.hid u3
  clear h hm hv hl u1 u2 u3
  go_enter Tryd.func61, Tryd.ntmps61
  go_wp2_with fail
  refine (turned_c _ t gm p r z L v xs H.out HV.out HL.out).mono ?_
  rintro e w1 ⟨g, os, rfl, ow, tu, hg, g1⟩
  have OW := Lib.hid ow
  have TU := Lib.hid tu
  have G1 := Lib.hid g1
  have k1 := gb_cell0 g1 U1.out
  have k2 := gb_cell0 g1 U2.out
  clear ow tu g1
  go_wp2
  refine Canon.region_canon (by kernel_rfl) (by kernel_rfl) ?_
  go_wp2_with fail
  refine (transform_c w _ t gm p r z r a b c L g (2 ^ L) v1 v2 (rd xs) os (gb_drew (gb_none G1.out _)) H.out (HM.out.grown G1.out).drew hgm ha U3.out H.out.r0.1 H.out.neg OW.out.drew (TU.out.lv hp0 (Nat.le_refl _) r) (Nat.le_refl _)).mono ?_
  rintro e w2 ⟨rfl, ys, oy, ly, my, gy⟩
  clear k1 k2
  go_wp2
  refine ⟨by kernel_rfl, ?_⟩
  go_wp2
  go_ret
  exact ⟨g, ys, rfl, oy, ly, my, hg, gy⟩
set_option maxRecDepth 100000 in
theorem forwardT_c (w : World) (t gm : Nat) (p r z a b c : Int) (L : Nat) (v : Value) (xs : List Int) (h : Pl w t gm p r z L) (hm : Mt w gm a b c) (ha : a ≤ 1000000000000000000) (hv : Sl w v xs) (hl : xs.length = 2 ^ L) :
    Calls Tryd.prog 27 #[.pointer (some ⟨t, 0, none⟩), v] w fun e w' => ∃ g os, e = .returned (.tuple #[.slice (some ⟨g, 0, none⟩) (2 ^ L) (2 ^ L), .bool true]) ∧ Own w' w.heap.size (.slice (some ⟨g, 0, none⟩) (2 ^ L) (2 ^ L)) os ∧ Lv p (rd xs) r L L os ∧
      Mt w' gm (a + ((2 ^ L / 2 * L : Nat) : Int)) b c ∧ w.heap.size ≤ g ∧ w.grownBy w' (some gm) := by
  have S := size_c w t gm p r z L h
  have F := forward_c w t gm p r z a b c L v xs h hm ha hv (by omega)
  obtain ⟨A, cc, rfl, _, _⟩ := hv.form
  rw [hl] at F ⊢
  obtain ⟨N, hN⟩ : ∃ N, N = 2 ^ L := ⟨_, rfl⟩
  rw [← hN] at S F ⊢
  have HS := Lib.hid S
  have HF := Lib.hid F
  clear S F h hm hv hl hN
  go_enter Tryd.func27, Tryd.ntmps27
  go_wp2_with fail
  refine (HS.out).mono ?_
  rintro e w1 ⟨rfl, hw1⟩
  subst hw1
  go_wp2_with fail
  refine (HF.out).mono ?_
  rintro e w2 ⟨g, os, rfl, k⟩
  go_wp2
  go_ret2
  exact ⟨g, os, rfl, k⟩
theorem forwardF_c (w : World) (t gm : Nat) (p r z : Int) (L : Nat) (v : Value) (xs : List Int) (h : Pl w t gm p r z L) (hv : Sl w v xs) (hl : xs.length ≠ 2 ^ L) :
    Calls Tryd.prog 27 #[.pointer (some ⟨t, 0, none⟩), v] w fun e w' => e = .returned (.tuple #[.slice none 0 0, .bool false]) ∧ w' = w := by
  have S := size_c w t gm p r z L h
  obtain ⟨A, cc, rfl, _, _⟩ := hv.form
  obtain ⟨n, hn⟩ : ∃ n, n = xs.length := ⟨_, rfl⟩
  obtain ⟨N, hN⟩ : ∃ N, N = 2 ^ L := ⟨_, rfl⟩
  rw [← hN] at S hl
  rw [← hn] at hl ⊢
  have hne : ((n : Int) == (N : Int)) = false := by
    have : ¬ (n : Int) = (N : Int) := by omega
    simpa using this
  have HS := Lib.hid S
  clear S h hv hl hN hn
  go_enter Tryd.func27, Tryd.ntmps27
  go_wp2_with fail
  refine (HS.out).mono ?_
  rintro e w1 ⟨rfl, hw1⟩
  subst hw1
  go_wp2
  go_ret2
  exact ⟨rfl, rfl⟩
/-- What an inverse transform yields. -/
structure Iv (p : Int) (f : Nat → Int) (z : Int) (L : Nat) (os : List Int) : Prop where
  len : os.length = 2 ^ L
  bd : ∀ i, i < 2 ^ L → 0 ≤ rd os i ∧ rd os i < p
  v : ∀ i, i < 2 ^ L → Cg p (rd os i * ((2 ^ L : Nat) : Int)) (ft f z (2 ^ L) i)
structure IvI (p u : Int) (N i : Nat) (xs os : List Int) : Prop where
  len : os.length = N
  d : ∀ k, k < i → rd os k = rd xs k * u % p
  r : ∀ k, i ≤ k → rd os k = rd xs k
theorem IvI.step {p u : Int} {N i : Nat} {xs os : List Int} (h : IvI p u N i xs os) (hi : i < N) {y : Int} (hy : y = rd xs i * u % p) : IvI p u N (i + 1) xs (os.set i y) := by
  refine ⟨by rw [List.length_set, h.len], fun k hk => ?_, fun k hk => ?_⟩
  · by_cases e : i = k
    · subst e; rw [rd_set_self (by rw [h.len]; exact hi), hy]
    · rw [rd_set_ne e]; exact h.d k (by omega)
  · rw [rd_set_ne (by omega)]; exact h.r k (by omega)
theorem IvI.iv {p u z : Int} {f : Nat → Int} {L : Nat} {xs os : List Int} (h : IvI p u (2 ^ L) (2 ^ L) xs os) (lv : Lv p f z L L xs) (hp : 0 < p) (hu : Cg p (u * ((2 ^ L : Nat) : Int)) 1) : Iv p f z L os := by
  refine ⟨h.len, fun i hi => ?_, fun i hi => ?_⟩
  · rw [h.d i hi]; exact ⟨Int.emod_nonneg _ (by omega), Int.emod_lt_of_pos _ hp⟩
  · rw [h.d i hi]
    have h1 := (Cg.mod p (rd xs i * u)).mulr ((2 ^ L : Nat) : Int)
    rw [Int.mul_assoc] at h1
    have h2 := hu.mull (rd xs i)
    rw [Int.mul_one] at h2
    exact (h1.trans h2).trans (lv.ft i hi)
set_option maxRecDepth 100000 in
set_option maxHeartbeats 2000000 in
theorem inverse_c (w : World) (t gm : Nat) (p r z a b c : Int) (L : Nat) (v : Value) (xs : List Int) (h : Pl w t gm p r z L) (hm : Mt w gm a b c) (ha : a ≤ 100000000000000000) (hv : Sl w v xs) (hl : xs.length ≤ 2 ^ L) :
    Calls Tryd.prog 63 #[.pointer (some ⟨t, 0, none⟩), v] w fun e w' => ∃ g os, e = .returned (.slice (some ⟨g, 0, none⟩) (2 ^ L) (2 ^ L)) ∧ Own w' w.heap.size (.slice (some ⟨g, 0, none⟩) (2 ^ L) (2 ^ L)) os ∧ Iv p (rd xs) z L os ∧
      Mt w' gm (a + ((2 ^ L / 2 * L : Nat) : Int) + ((2 ^ L : Nat) : Int)) b c ∧ w.heap.size ≤ g ∧ w.grownBy w' (some gm) := by
  have hgm : gm < w.heap.size := World.block_lt_of_cell? w _ hm.c0
  obtain ⟨v1, v2, u1, u2, u3⟩ := h.dn
  obtain ⟨g0, m0, md, gne⟩ := h.gd
  obtain ⟨u, c7, un0, un1, uc⟩ := h.c7
  have hp0 : 0 < p := by have := md.pm.lo; omega
  have hp1 := md.pm.hi
  have zneg : L ≠ 0 → Cg p (z ^ 2 ^ (L - 1)) (-1) := fun k => inv_neg (w := r) ((Cg.of_eq (Int.mul_comm r z)).trans h.inv) (h.neg k)
  have H := Lib.hid h
  have HM := Lib.hid hm
  have HV := Lib.hid hv
  have HL := Lib.hid hl
  have U1 := Lib.hid u1
  have U2 := Lib.hid u2
  have U3 := Lib.hid u3
  have MD := Lib.hid md
  have M0 := Lib.hid m0
  have C7 := Lib.hid c7
  have UC := Lib.hid uc
  have ZN := Lib.hid zneg
  have tne := h.tm
  have NE := Lib.hid (And.intro gne tne)
  clear h hm hv hl u1 u2 u3 md m0 c7 uc zneg gne tne
  go_enter Tryd.func63, Tryd.ntmps63
  go_wp2_with fail
  refine (turned_c _ t gm p r z L v xs H.out HV.out HL.out).mono ?_
  rintro e w1 ⟨g, os, rfl, ow, tu, hg, g1⟩
  have OW := Lib.hid ow
  have TU := Lib.hid tu
  have G1 := Lib.hid g1
  have k1 := gb_cell0 g1 U1.out
  have k2 := gb_cell0 g1 U2.out
  clear ow tu g1
  go_wp2
  refine Canon.region_canon (by kernel_rfl) (by kernel_rfl) ?_
  go_wp2_with fail
  refine (transform_c w _ t gm p r z z a b c L g (2 ^ L) v1 v2 (rd xs) os (gb_drew (gb_none G1.out _)) H.out (HM.out.grown G1.out).drew hgm (by omega) U3.out H.out.z0.1 ZN.out OW.out.drew (TU.out.lv hp0 (Nat.le_refl _) z) (Nat.le_refl _)).mono ?_
  rintro e w2 ⟨rfl, ys, oy, ly, my, gy⟩
  clear k1 k2
  go_wp2
  refine ⟨by kernel_rfl, ?_⟩
  have ll := ly.len
  obtain ⟨N, hN⟩ : ∃ N, N = 2 ^ L := ⟨_, rfl⟩
  have hN10 : N ≤ 1024 := by rw [hN]; exact Nat.pow_le_pow_right (by decide) H.out.L10
  rw [← hN] at oy ll ⊢
  have HN := Lib.hid hN
  have OY := Lib.hid oy
  have LY := Lib.hid ly
  have MY := Lib.hid my
  have GY := Lib.hid gy
  have II : Hid (IvI p u N 0 ys ys) := Lib.hid ⟨ll, fun k hk => by omega, fun k _ => rfl⟩
  clear oy ly my gy ll hN
  go_wp2
  go_loopw [24] (fun v24 wr => ∃ (i : Nat) (zs : List Int), v24 = .int .i64 i ∧ i ≤ N ∧ IvI p u N i ys zs ∧ Own wr w.heap.size (.slice (some ⟨g, 0, none⟩) N N) zs ∧ Mt wr gm (a + ((2 ^ L / 2 * L : Nat) : Int)) b c ∧ w.grownBy wr (some gm)) (fun v24 _ => N - (intOf v24).toNat)
  case atStart => exact ⟨0, ys, rfl, by omega, II.out, OY.out, MY.out, GY.out⟩
  case round =>
    clear II OY MY GY
    obtain ⟨i, zs, rfl, hi, ii, oz, mz, G⟩ := hrel
    have II := Lib.hid ii
    have OZ := Lib.hid oz
    have MZ := Lib.hid mz
    have GG := Lib.hid G
    clear ii oz mz G
    by_cases hin : i < N
    · have cx := OZ.out.cell i (by rw [II.out.len]; exact hin)
      have hx := II.out.r i (Nat.le_refl _)
      have bx := LY.out.bd i
      rw [hx] at cx
      obtain ⟨x, ex⟩ : ∃ x, x = rd ys i := ⟨_, rfl⟩
      have st := II.out.step hin (y := x * u % p) (by rw [ex])
      rw [← ex] at cx bx
      have c0 := gb_cell GG.out M0.out (by have := NE.out.2; simpa using this)
      have c7 := gb_cell GG.out C7.out (by have := NE.out.2; simpa using this)
      have x0 := bx.1
      have ST := Lib.hid st
      clear hx bx ex st
      go_wp2
      refine Canon.region_canon (by kernel_rfl) (by kernel_rfl) ?_
      go_wp2_with fail
      refine (modMul_c _ g0 p x u (MD.out.grown (gb_drew GG.out) (by have := NE.out.1; simpa using this)) x0 un0).mono ?_
      rintro e wa ⟨rfl, ga⟩
      have y0 := Int.emod_nonneg (x * u) (show p ≠ 0 by omega)
      have y1 := Int.emod_lt_of_pos (x * u) hp0
      obtain ⟨y, ey⟩ : ∃ y, y = x * u % p := ⟨_, rfl⟩
      rw [← ey] at y0 y1 ⊢
      have EY := Lib.hid ey
      have OA := Lib.hid (OZ.out.drew.grown0 ga)
      have MA := Lib.hid (MZ.out.drew.grown ga)
      have GA := Lib.hid (gb_trans (gb_drew GG.out) (gb_none ga _))
      clear cx c0 c7 ey ga
      have fy := OA.out.free i
      have cy := OA.out.cell i (by rw [II.out.len]; exact hin)
      go_wp2
      refine ⟨by kernel_rfl, ?_⟩
      clear fy cy
      go_wp2
      go_roundw
      case rel => exact ⟨i + 1, zs.set i y, by go_num, by omega, by rw [EY.out]; exact ST.out, OA.out.store i y0 (by omega), MA.out.row (gb_rowC (gb_refl _ (some g)) i (.int .u64 y)) (by omega), gb_set (p := ⟨g, i, none⟩) GA.out hg _⟩
      case measure => simp [intOf]; omega
    · obtain rfl : i = N := by omega
      have iv : Iv p (rd xs) z L zs := by
        have h1 := II.out
        rw [HN.out] at h1
        exact h1.iv LY.out hp0 UC.out
      have IV := Lib.hid iv
      have c1 := gb_cell GG.out H.out.c1 (by have := NE.out.2; simpa using this)
      obtain ⟨a', ea⟩ : ∃ a', a' = a + ((2 ^ L / 2 * L : Nat) : Int) := ⟨_, rfl⟩
      have ha' : a' ≤ 1000000000000000000 := by
        have h1 := Nat.mul_le_mul (show i / 2 ≤ 1024 by omega) H.out.L10
        rw [HN.out] at h1
        rw [ea]; omega
      have mz := MZ.out
      rw [← ea] at mz
      have MZ2 := Lib.hid mz
      have EA := Lib.hid ea
      clear iv mz MZ ea
      go_wp2_with fail
      refine (spend_c _ gm a' b c (i : Int) MZ2.out (by omega) (by omega)).mono ?_
      rintro e wa ⟨rfl, hm2, mo⟩
      have GF := gb_trans GG.out mo.gb
      have OF := OZ.out.grown mo.gb (.inr (by simp [Value.ownBlock]; omega))
      have e2 : (if (i : Int) > 0 then a' + (i : Int) else a') = a' + (i : Int) := by split <;> omega
      rw [e2] at hm2 ⊢
      clear c1 mo
      go_wp2
      go_ret
      exact ⟨g, zs, by rw [← HN.out]; rfl, by rw [← HN.out]; exact OF, IV.out, by rw [← EA.out, ← HN.out]; exact hm2, hg, GF⟩
set_option maxRecDepth 100000 in
theorem inverseT_c (w : World) (t gm : Nat) (p r z a b c : Int) (L : Nat) (v : Value) (xs : List Int) (h : Pl w t gm p r z L) (hm : Mt w gm a b c) (ha : a ≤ 100000000000000000) (hv : Sl w v xs) (hl : xs.length = 2 ^ L) :
    Calls Tryd.prog 38 #[.pointer (some ⟨t, 0, none⟩), v] w fun e w' => ∃ g os, e = .returned (.tuple #[.slice (some ⟨g, 0, none⟩) (2 ^ L) (2 ^ L), .bool true]) ∧ Own w' w.heap.size (.slice (some ⟨g, 0, none⟩) (2 ^ L) (2 ^ L)) os ∧ Iv p (rd xs) z L os ∧
      Mt w' gm (a + ((2 ^ L / 2 * L : Nat) : Int) + ((2 ^ L : Nat) : Int)) b c ∧ w.heap.size ≤ g ∧ w.grownBy w' (some gm) := by
  have S := size_c w t gm p r z L h
  have F := inverse_c w t gm p r z a b c L v xs h hm ha hv (by omega)
  obtain ⟨A, cc, rfl, _, _⟩ := hv.form
  rw [hl] at F ⊢
  obtain ⟨N, hN⟩ : ∃ N, N = 2 ^ L := ⟨_, rfl⟩
  rw [← hN] at S F ⊢
  have HS := Lib.hid S
  have HF := Lib.hid F
  clear S F h hm hv hl hN
  go_enter Tryd.func38, Tryd.ntmps38
  go_wp2_with fail
  refine (HS.out).mono ?_
  rintro e w1 ⟨rfl, hw1⟩
  subst hw1
  go_wp2_with fail
  refine (HF.out).mono ?_
  rintro e w2 ⟨g, os, rfl, k⟩
  go_wp2
  go_ret2
  exact ⟨g, os, rfl, k⟩
end Go.Proofs.YtoiclkaecgpbbaaDoor
