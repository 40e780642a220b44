/- Transforms: turned. -/
import Derived.Test.YtoiclkaecgpbbaaDoorNtt3
import Derived.Test.YtoiclkaecgpbbaaDoorRev
namespace Go.Proofs.YtoiclkaecgpbbaaDoor
open Go.RowKit

theorem Tu.rest {p : Int} {xs os : List Int} {L i j : Nat} (h : Tu p xs L i os) (hx : xs.length ≤ i) (hij : i ≤ j) : Tu p xs L j os :=
  ⟨h.len, fun q hq => by
    rw [h.v q hq]
    by_cases k : rv L q < i
    · rw [if_pos k, if_pos (by omega)]
    · rw [if_neg k]
      split
      · rw [rd_beyond (by omega)]; exact (Int.zero_emod _).symm
      · rfl⟩
set_option maxRecDepth 100000 in
set_option maxHeartbeats 2000000 in
theorem turned_c (w : World) (t gm : Nat) (p r z : Int) (L : Nat) (v : Value) (xs : List Int) (h : Pl w t gm p r z L) (hv : Sl w v xs) (hl : xs.length ≤ 2 ^ L) :
    Calls Tryd.prog 81 #[.pointer (some ⟨t, 0, none⟩), v] w fun e w' => ∃ g os, e = .returned (.slice (some ⟨g, 0, none⟩) (2 ^ L) (2 ^ L)) ∧ Own w' w.heap.size (.slice (some ⟨g, 0, none⟩) (2 ^ L) (2 ^ L)) os ∧ Tu p xs L (2 ^ L) os ∧ w.heap.size ≤ g ∧ w.grownBy w' none := by
  have S := size_c w t gm p r z L h
  have hL := h.L10
  obtain ⟨g, h0, md, _⟩ := h.gd
  have c2 := h.c2
  obtain ⟨A, c, rfl, a1, a2, _, a4⟩ := hv
  have XW : Ws xs := by assumption
  have tlt : t < w.heap.size := World.block_lt_of_cell? w _ c2
  have u0 := Tu.start p xs L
  have us : ∀ i os, Tu p xs L i os → i < 2 ^ L → Tu p xs L (i + 1) (os.set (rv L i) (rd xs i % p)) := fun i os h hi => h.step hi
  have rvl : ∀ i, i < 2 ^ L → rv L i < 2 ^ L := fun i _ => rv_lt L i
  have rve : ∀ i, i < 2 ^ L → rev64 i / 2 ^ (64 - L) = rv L i := fun i hi => rev64_rv hL hi
  have own0 := own_made w w.heap.size (2 ^ L) (2 ^ L) (Nat.le_refl _) (Nat.le_refl _) (by have : 2 ^ L ≤ 2 ^ 10 := Nat.pow_le_pow_right (by decide) hL; omega)
  obtain ⟨N, hN⟩ : ∃ N, N = 2 ^ L := ⟨_, rfl⟩
  have hN10 : N ≤ 1024 := by rw [hN]; exact Nat.pow_le_pow_right (by decide) hL
  rw [← hN] at S u0 us rvl rve own0 hl ⊢
  obtain ⟨n, hn⟩ : ∃ n, n = xs.length := ⟨_, rfl⟩
  rw [← hn] at a1 a4 hl ⊢
  have HNN := Lib.hid hn
  clear hn
  have mk := make64 36 (by kernel_rfl) N N (N : Int) (N : Int) rfl rfl (Nat.le_refl _) (by omega)
  obtain ⟨K, hK⟩ : ∃ K, K = 64 - L := ⟨_, rfl⟩
  have eK : (64 : Int) - (L : Int) = (K : Int) := by omega
  have hK64 : K ≤ 64 := by omega
  rw [← hK] at rve
  have hp0 : 0 < p := by have := md.pm.lo; omega
  have hp1 : p < 4611686018427387904 := md.pm.hi
  have HS := Lib.hid S
  have U0 := Lib.hid u0
  have US := Lib.hid us
  have RVL := Lib.hid rvl
  have RVE := Lib.hid rve
  have OW0 := Lib.hid own0
  have MD := Lib.hid md
  have C2 := Lib.hid c2
  have C0 := Lib.hid h0
  have XD := Lib.hid XW
  have TL := Lib.hid tlt
  have HN := Lib.hid hN
  clear S u0 us rvl rve own0 md c2 h0 XW hN hK h tlt
  go_enter Tryd.func81, Tryd.ntmps81
  go_wp2_with fail
  refine (HS.out).mono ?_
  rintro e w' ⟨rfl, rfl⟩
  obtain ⟨w, rfl⟩ : ∃ w, w = w' := ⟨_, rfl⟩
  go_wp2
  clear mk HS
  have EK := Lib.hid eK
  clear eK
  go_loopw [13] (fun v13 wr => ∃ (i : Nat) (os : List Int), v13 = .int .i64 i ∧ i ≤ n ∧ Tu p xs L i os ∧ Own wr w.heap.size (.slice (some ⟨w.heap.size, 0, none⟩) N N) os ∧ w.grownBy wr none) (fun v13 _ => n - (intOf v13).toNat)
  case atStart => exact ⟨0, _, rfl, by omega, U0.out, OW0.out, gb_alloc (gb_refl w none) _⟩
  case round =>
    clear U0 OW0
    obtain ⟨i, os, rfl, hi, T0, ow, G⟩ := hrel
    have TT := Lib.hid T0
    have OW := Lib.hid ow
    have GG := Lib.hid G
    have hol := T0.len
    clear T0 ow
    by_cases hin : i < n
    · obtain ⟨ba, oa, rfl, hca⟩ := a4 (by omega)
      have ci := gb_cell0 G (hca i hin)
      have xw := rd_w XD.out i
      have st := US.out i os TT.out (by omega)
      have vl := RVL.out i (by omega)
      have ve := RVE.out i (by omega)
      obtain ⟨x, hx⟩ : ∃ x, x = rd xs i := ⟨_, rfl⟩
      obtain ⟨V, hV⟩ : ∃ V, V = rv L i := ⟨_, rfl⟩
      obtain ⟨R, hR⟩ : ∃ R, R = rev64 i := ⟨_, rfl⟩
      rw [← hx] at ci xw st
      rw [← hV] at st vl ve
      have RC := fun w => rev64_c w i (by omega)
      rw [← hR] at RC ve
      have eV : (R : Int) / 2 ^ K = (V : Int) := by
        have e : (R : Int) / 2 ^ K = ((R / 2 ^ K : Nat) : Int) := by rw [Int.natCast_ediv, Int.natCast_pow]; rfl
        rw [e, ve]
      have hF : Canon.SF [(⟨t, 2, none⟩, .int .i64 L), (⟨t, 0, none⟩, .pointer (some ⟨g, 0, none⟩))] wr := Canon.sf_cons (gb_cell0 G C2.out) (Canon.sf_cons (gb_cell0 G C0.out) (Canon.sf_nil _))
      have x0 := xw.1
      have HF := Lib.hid hF
      have ST := Lib.hid st
      have HRC := Lib.hid RC
      have EV := Lib.hid eV
      clear hx hV hR st ve RC hF G hca a4 xw eV
      go_wp2
      clear ci
      refine Canon.region_held [25, 32] _ (by kernel_rfl) (by kernel_rfl) HF.out ?_
      refine Canon.segs_at 3 _ _ _ (by kernel_rfl) ?_
      simp only [List.take_succ_cons, List.take_zero, List.drop_succ_cons, List.drop_zero]
      go_wp2_with fail
      refine (HRC.out _).mono ?_
      rintro e wa ⟨rfl, hwa⟩
      subst hwa
      have d2 := gb_cell0 (gb_drew GG.out) C2.out
      have d0 := gb_cell0 (gb_drew GG.out) C0.out
      go_wp2
      refine ⟨HF.out.drew, ?_⟩
      refine Canon.segs_at 12 _ _ _ (by kernel_rfl) ?_
      simp only [List.take_succ_cons, List.take_zero, List.drop_succ_cons, List.drop_zero]
      have eK := EK.out
      have eV := EV.out
      go_wp2_with fail
      refine (modRed_c _ g p x (MD.out.grown0 (gb_drew GG.out)) x0).mono ?_
      rintro e wb ⟨rfl, hwb⟩
      subst hwb
      clear d2 d0
      have f3 := OW.out.drew.free V
      have c3 := OW.out.drew.cell V (by rw [TT.out.len, ← HN.out]; exact vl)
      have m0 := Int.emod_nonneg x (show p ≠ 0 by omega)
      have m1 := Int.emod_lt_of_pos x hp0
      obtain ⟨y, hy⟩ : ∃ y, y = x % p := ⟨_, rfl⟩
      rw [← hy] at m0 m1 ⊢
      have HY := Lib.hid hy
      clear hy hol
      go_wp2
      have TL2 : t < wr.heap.size := by have := GG.out.size; have := TL.out; omega
      refine ⟨HF.out.drew, ?_⟩
      refine Canon.segs_at 1 _ _ _ (by kernel_rfl) ?_
      simp only [List.take_succ_cons, List.take_zero, List.drop_succ_cons, List.drop_zero]
      go_wp2
      have hS : Canon.SF [(⟨t, 2, none⟩, .int .i64 L), (⟨t, 0, none⟩, .pointer (some ⟨g, 0, none⟩))] (wr.drew.setCell ⟨w.heap.size, V, none⟩ (.int .u64 y)) := Canon.sf_grown HF.out.drew (gb_rowC (gb_refl _ (some w.heap.size)) V _) (fun q hq => by
        have := TL.out
        simp at hq
        rcases hq with rfl | rfl <;> (simp; omega))
      refine ⟨hS, ?_⟩
      clear hS
      refine Canon.segs_end _ _ _ (by kernel_rfl) ?_
      go_wp2
      refine ⟨by kernel_rfl, by kernel_rfl, by kernel_rfl, ?_⟩
      clear eK eV f3 c3
      go_wp2
      go_roundw
      case rel => exact ⟨i + 1, os.set V y, by go_num, by omega, by rw [HY.out]; exact ST.out, OW.out.drew.store V m0 (by omega), gb_set (gb_drew GG.out) (Nat.le_refl _) _⟩
      case measure => simp [intOf]; omega
    · obtain rfl : i = n := by omega
      clear a4 hol
      go_wp2
      go_ret
      exact ⟨_, os, rfl, OW.out, TT.out.rest (by rw [← HNN.out]; exact Nat.le_refl _) hl, Nat.le_refl _, GG.out⟩
end Go.Proofs.YtoiclkaecgpbbaaDoor
