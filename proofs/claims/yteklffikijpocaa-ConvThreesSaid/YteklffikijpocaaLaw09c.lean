/- Chapter 9: three remainders. -/
import Derived.Test.YteklffikijpocaaLaw09
import Derived.Test.YteklffikijpocaaConv3
import Derived.Test.YteklffikijpocaaNum3
import Derived.Test.YteklffikijpocaaNum6
import Derived.LoopN
namespace Go.Proofs.Yteklffikijpocaa
open Go.RowKit

theorem cmpI_refl' (m : Nat) : cmpI m m = 0 := by unfold cmpI; rw [if_neg (by omega), if_neg (by omega)]
theorem rem3_nat {p x r : Int} {X : Nat} (hp : 0 < p) (hX : (X : Int) = x) (h : Cg p x r) : X % p.toNat = (r % p).toNat := by
  obtain ⟨q, rfl⟩ := nat_of (show 0 ≤ p by omega)
  unfold Cg at h
  rw [← h, ← hX, Int.toNat_natCast, modN, Int.toNat_natCast]
set_option maxRecDepth 100000 in
theorem refThree_c (w : World) (p0 p1 p2 : Int) (h0 : p0 = 180143985094819841) (h1 : p1 = 1945555039024054273) (h2 : p2 = 4179340454199820289) :
    Calls Try.prog 62 #[] w fun e w' => e = .returned (.agg #[.int .u64 p0, .int .u64 p1, .int .u64 p2]) ∧ w.grownBy w' none := by
  go_enter Try.func62, Try.ntmps62
  go_wp2
  (try simp only [Exit.inBlock, Exit.then])
  rw [← h0, ← h1, ← h2]
  refine bodyPost_ret (res_agg rfl (cs_new _ _ _) rfl (by kernel_rfl) (by kernel_rfl)) rfl ?_
  exact ⟨rfl, gb_alloc (gb_refl _ _) _⟩
set_option maxRecDepth 100000 in
set_option maxHeartbeats 4000000 in
theorem ConvThrees_walk (r0 r1 r2 : Int) (w : World) (h0 : 0 ≤ r0 ∧ r0 < 18446744073709551616) (h1 : 0 ≤ r1 ∧ r1 < 18446744073709551616) (h2 : 0 ≤ r2 ∧ r2 < 18446744073709551616) :
    Calls Try.prog 14 #[.int .u64 r0, .int .u64 r1, .int .u64 r2] w fun e w' => e = .returned (.bool true) ∧ w.grownBy w' none := by
  obtain ⟨p0, hp0⟩ : ∃ p : Int, p = 180143985094819841 := ⟨_, rfl⟩
  obtain ⟨p1, hp1⟩ : ∃ p : Int, p = 1945555039024054273 := ⟨_, rfl⟩
  obtain ⟨p2, hp2⟩ : ∃ p : Int, p = 4179340454199820289 := ⟨_, rfl⟩
  have T := fun w => convThree_c w p0 p1 p2 r0 r1 r2 hp0 hp1 hp2 h0.1 h1.1 h2.1
  have R := fun w => refThree_c w p0 p1 p2 hp0 hp1 hp2
  have b0 : 0 < p0 ∧ p0 < 4611686018427387904 := by omega
  have b1 : 0 < p1 ∧ p1 < 4611686018427387904 := by omega
  have b2 : 0 < p2 ∧ p2 < 4611686018427387904 := by omega
  have HT := Lib.hid T
  have HR := Lib.hid R
  have d0 := Int.emod_nonneg r0 (show p0 ≠ 0 by omega)
  have d1 := Int.emod_nonneg r1 (show p1 ≠ 0 by omega)
  have d2 := Int.emod_nonneg r2 (show p2 ≠ 0 by omega)
  have e0 := Int.emod_lt_of_pos r0 b0.1
  have e1 := Int.emod_lt_of_pos r1 b1.1
  have e2 := Int.emod_lt_of_pos r2 b2.1
  have z0 : p0 ≠ 0 := by omega
  have z1 : p1 ≠ 0 := by omega
  have z2 : p2 ≠ 0 := by omega
  have HW := Lib.hid (ws_three h0 h1 h2)
  clear T R hp0 hp1 hp2
  go_enter Try.func14, Try.ntmps14
  go_wp2_with fail
  refine (HT.out _).mono ?_
  rintro e w1 ⟨a, b, c, rfl, ba, bb, bc, RM, g1⟩
  go_wp2_with fail
  refine (three_c _ a b c ba bb bc).mono ?_
  rintro e w2 ⟨x, rfl, nx, g2⟩
  obtain ⟨X, hX⟩ : ∃ X, X = val B64 [a, b, c] := ⟨_, rfl⟩
  have hXi : (X : Int) = a + 18446744073709551616 * (b + 18446744073709551616 * c) := by
    have e : val B64 [a, b, c] = a.toNat + 18446744073709551616 * (b.toNat + 18446744073709551616 * (c.toNat + 18446744073709551616 * 0)) := rfl
    rw [hX, e]; omega
  rw [← hX] at nx
  obtain ⟨lt, c0, c1, c2⟩ := RM
  have m0 := rem3_nat b0.1 hXi c0
  have m1 := rem3_nat b1.1 hXi c1
  have m2 := rem3_nat b2.1 hXi c2
  have hlt : X < (1 * p0.toNat * p1.toNat) * p2.toNat := by
    obtain ⟨q0, rfl⟩ := nat_of (show 0 ≤ p0 by omega)
    obtain ⟨q1, rfl⟩ := nat_of (show 0 ≤ p1 by omega)
    obtain ⟨q2, rfl⟩ := nat_of (show 0 ≤ p2 by omega)
    rw [← hXi, mulN, mulN] at lt
    rw [Int.toNat_natCast, Int.toNat_natCast, Int.toNat_natCast, Nat.one_mul]
    exact Int.ofNat_lt.1 lt
  have NX := Lib.hid nx
  have H0 := Lib.hid m0
  have H1 := Lib.hid m1
  have H2 := Lib.hid m2
  have HL := Lib.hid hlt
  have G2 := gb_trans g1 g2
  clear hX hXi lt c0 c1 c2 m0 m1 m2 hlt nx ba bb bc g1 g2
  go_wp2_with fail
  refine (HR.out _).mono ?_
  rintro e w3 ⟨rfl, g3⟩
  go_wp2_with fail
  refine (small_c _ 1 (by decide) (by decide)).mono ?_
  rintro e w4 ⟨y, rfl, ny, g4⟩
  have CL := (cs_new w3 #[.int .u64 p0, .int .u64 p1, .int .u64 p2] 42).grown0 g4
  have G4 := gb_trans (gb_alloc (gb_trans G2 g3) _) g4
  have NX2 := (NX.out.grown0 g3).grown0 (gb_trans (gb_alloc (gb_refl _ _) _) g4)
  clear NX g4 g3 G2
  go_wp2
  refine wp_loop_rounds 4 ?_
  rw [rounds_succ]
  refine wp_gen (fun W => w.grownBy W none ∧ Cs W w3.heap.size [.int .u64 p0, .int .u64 p1, .int .u64 p2] ∧ Cs W w4.heap.size [.int .u64 r0, .int .u64 r1, .int .u64 r2] ∧ Nm W x X 6 ∧ Nm W y (1) 2) ⟨gb_alloc G4 _, CL.grown0 (gb_alloc (gb_refl _ _) _), cs_new _ _ _, NX2.grown0 (gb_alloc (gb_refl _ _) _), ny.grown0 (gb_alloc (gb_refl _ _) _)⟩ ?_
  clear CL G4 NX2 ny
  rintro v0 ⟨G, CL, CR, NX, NY⟩
  have NXh := Lib.hid NX
  have NYh := Lib.hid NY
  clear NX NY
  have l0 := CL.cell 0 rfl
  go_wp2_with fail
  refine (small_c _ p0 (by omega) (by omega)).mono ?_
  rintro e va0 ⟨q0, rfl, nq, ga⟩
  have G1 := gb_trans G ga
  have CL1 := CL.grown0 ga
  have CR1 := CR.grown0 ga
  have hF : Canon.SF [(⟨w4.heap.size, 0, none⟩, .int .u64 r0), (⟨w3.heap.size, 0, none⟩, .int .u64 p0)] va0 := Canon.sf_cons (CR1.cell 0 rfl) (Canon.sf_cons (CL1.cell 0 rfl) (Canon.sf_nil _))
  have HF := Lib.hid hF
  clear hF l0
  go_wp2
  refine Canon.region_held [38, 41] _ (by kernel_rfl) (by kernel_rfl) HF.out ?_
  refine Canon.segs_at 2 _ _ _ (by kernel_rfl) ?_
  simp only [List.take_succ_cons, List.take_zero, List.drop_succ_cons, List.drop_zero]
  go_wp2_with fail
  refine (mod_c _ x q0 X p0.toNat 6 2 ((NXh.out.grown0 ga).grown0 (gb_drew (gb_refl _ _))) (nq.grown0 (gb_drew (gb_refl _ _))) (by omega) (by decide) (by decide)).mono ?_
  rintro e vb0 ⟨t0, rfl, nt, gb⟩
  rw [H0.out] at nt
  have G2 := gb_trans (gb_drew G1) gb
  have x1 := (CR1.drew.grown0 gb).cell 0 rfl
  have x2 := (CL1.drew.grown0 gb).cell 0 rfl
  go_wp2
  refine ⟨Canon.sf_grown0 HF.out.drew gb, ?_⟩
  refine Canon.segs_at 8 _ _ _ (by kernel_rfl) ?_
  simp only [List.take_succ_cons, List.take_zero, List.drop_succ_cons, List.drop_zero]
  go_wp2_with fail
  refine (small_c _ (r0 % p0) d0 (by omega)).mono ?_
  rintro e vc0 ⟨u0, rfl, nu, gc⟩
  clear x1 x2
  go_wp2
  refine ⟨Canon.sf_grown0 (Canon.sf_grown0 HF.out.drew gb) gc, ?_⟩
  refine Canon.segs_at 0 _ _ _ (by kernel_rfl) ?_
  simp only [List.take_succ_cons, List.take_zero, List.drop_succ_cons, List.drop_zero]
  go_wp2_with fail
  refine (cmp_c _ _ _ _ _ _ _ (nt.grown0 gc) nu).mono ?_
  rintro e vd0 ⟨rfl, gd⟩
  rw [cmpI_refl']
  go_wp2
  refine ⟨Canon.sf_grown0 (Canon.sf_grown0 (Canon.sf_grown0 HF.out.drew gb) gc) gd, ?_⟩
  refine Canon.segs_end _ _ _ (by kernel_rfl) ?_
  go_wp2
  refine ⟨by kernel_rfl, by kernel_rfl, by kernel_rfl, ?_⟩
  have GB := gb_trans (gb_trans (gb_trans (gb_drew (gb_refl va0 none)) gb) gc) gd
  go_wp2_with fail
  refine (mul_c _ y q0 (1) p0.toNat 2 2 ((NYh.out.grown0 ga).grown0 GB) (nq.grown0 GB) (by decide) (by decide)).mono ?_
  rintro e ve0 ⟨y0, rfl, ny, ge⟩
  have GC := gb_trans GB ge
  go_wp2
  rw [rounds_succ]
  refine wp_gen (fun W => w.grownBy W none ∧ Cs W w3.heap.size [.int .u64 p0, .int .u64 p1, .int .u64 p2] ∧ Cs W w4.heap.size [.int .u64 r0, .int .u64 r1, .int .u64 r2] ∧ Nm W x X 6 ∧ Nm W y0 (1 * p0.toNat) 4) ⟨gb_trans G1 GC, CL1.grown0 GC, CR1.grown0 GC, (NXh.out.grown0 ga).grown0 GC, ny⟩ ?_
  clear G CL CR NXh NYh nq ga G1 CL1 CR1 HF nt gb G2 nu gc gd GB ny ge GC
  rintro v1 ⟨G, CL, CR, NX, NY⟩
  have NXh := Lib.hid NX
  have NYh := Lib.hid NY
  clear NX NY
  have l1 := CL.cell 1 rfl
  go_wp2_with fail
  refine (small_c _ p1 (by omega) (by omega)).mono ?_
  rintro e va1 ⟨q1, rfl, nq, ga⟩
  have G1 := gb_trans G ga
  have CL1 := CL.grown0 ga
  have CR1 := CR.grown0 ga
  have hF : Canon.SF [(⟨w4.heap.size, 1, none⟩, .int .u64 r1), (⟨w3.heap.size, 1, none⟩, .int .u64 p1)] va1 := Canon.sf_cons (CR1.cell 1 rfl) (Canon.sf_cons (CL1.cell 1 rfl) (Canon.sf_nil _))
  have HF := Lib.hid hF
  clear hF l1
  go_wp2
  refine Canon.region_held [38, 41] _ (by kernel_rfl) (by kernel_rfl) HF.out ?_
  refine Canon.segs_at 2 _ _ _ (by kernel_rfl) ?_
  simp only [List.take_succ_cons, List.take_zero, List.drop_succ_cons, List.drop_zero]
  go_wp2_with fail
  refine (mod_c _ x q1 X p1.toNat 6 2 ((NXh.out.grown0 ga).grown0 (gb_drew (gb_refl _ _))) (nq.grown0 (gb_drew (gb_refl _ _))) (by omega) (by decide) (by decide)).mono ?_
  rintro e vb1 ⟨t1, rfl, nt, gb⟩
  rw [H1.out] at nt
  have G2 := gb_trans (gb_drew G1) gb
  have x1 := (CR1.drew.grown0 gb).cell 1 rfl
  have x2 := (CL1.drew.grown0 gb).cell 1 rfl
  go_wp2
  refine ⟨Canon.sf_grown0 HF.out.drew gb, ?_⟩
  refine Canon.segs_at 8 _ _ _ (by kernel_rfl) ?_
  simp only [List.take_succ_cons, List.take_zero, List.drop_succ_cons, List.drop_zero]
  go_wp2_with fail
  refine (small_c _ (r1 % p1) d1 (by omega)).mono ?_
  rintro e vc1 ⟨u1, rfl, nu, gc⟩
  clear x1 x2
  go_wp2
  refine ⟨Canon.sf_grown0 (Canon.sf_grown0 HF.out.drew gb) gc, ?_⟩
  refine Canon.segs_at 0 _ _ _ (by kernel_rfl) ?_
  simp only [List.take_succ_cons, List.take_zero, List.drop_succ_cons, List.drop_zero]
  go_wp2_with fail
  refine (cmp_c _ _ _ _ _ _ _ (nt.grown0 gc) nu).mono ?_
  rintro e vd1 ⟨rfl, gd⟩
  rw [cmpI_refl']
  go_wp2
  refine ⟨Canon.sf_grown0 (Canon.sf_grown0 (Canon.sf_grown0 HF.out.drew gb) gc) gd, ?_⟩
  refine Canon.segs_end _ _ _ (by kernel_rfl) ?_
  go_wp2
  refine ⟨by kernel_rfl, by kernel_rfl, by kernel_rfl, ?_⟩
  have GB := gb_trans (gb_trans (gb_trans (gb_drew (gb_refl va1 none)) gb) gc) gd
  go_wp2_with fail
  refine (mul_c _ y0 q1 (1 * p0.toNat) p1.toNat 4 2 ((NYh.out.grown0 ga).grown0 GB) (nq.grown0 GB) (by decide) (by decide)).mono ?_
  rintro e ve1 ⟨y1, rfl, ny, ge⟩
  have GC := gb_trans GB ge
  go_wp2
  rw [rounds_succ]
  refine wp_gen (fun W => w.grownBy W none ∧ Cs W w3.heap.size [.int .u64 p0, .int .u64 p1, .int .u64 p2] ∧ Cs W w4.heap.size [.int .u64 r0, .int .u64 r1, .int .u64 r2] ∧ Nm W x X 6 ∧ Nm W y1 (1 * p0.toNat * p1.toNat) 6) ⟨gb_trans G1 GC, CL1.grown0 GC, CR1.grown0 GC, (NXh.out.grown0 ga).grown0 GC, ny⟩ ?_
  clear G CL CR NXh NYh nq ga G1 CL1 CR1 HF nt gb G2 nu gc gd GB ny ge GC
  rintro v2 ⟨G, CL, CR, NX, NY⟩
  have NXh := Lib.hid NX
  have NYh := Lib.hid NY
  clear NX NY
  have l2 := CL.cell 2 rfl
  go_wp2_with fail
  refine (small_c _ p2 (by omega) (by omega)).mono ?_
  rintro e va2 ⟨q2, rfl, nq, ga⟩
  have G1 := gb_trans G ga
  have CL1 := CL.grown0 ga
  have CR1 := CR.grown0 ga
  have hF : Canon.SF [(⟨w4.heap.size, 2, none⟩, .int .u64 r2), (⟨w3.heap.size, 2, none⟩, .int .u64 p2)] va2 := Canon.sf_cons (CR1.cell 2 rfl) (Canon.sf_cons (CL1.cell 2 rfl) (Canon.sf_nil _))
  have HF := Lib.hid hF
  clear hF l2
  go_wp2
  refine Canon.region_held [38, 41] _ (by kernel_rfl) (by kernel_rfl) HF.out ?_
  refine Canon.segs_at 2 _ _ _ (by kernel_rfl) ?_
  simp only [List.take_succ_cons, List.take_zero, List.drop_succ_cons, List.drop_zero]
  go_wp2_with fail
  refine (mod_c _ x q2 X p2.toNat 6 2 ((NXh.out.grown0 ga).grown0 (gb_drew (gb_refl _ _))) (nq.grown0 (gb_drew (gb_refl _ _))) (by omega) (by decide) (by decide)).mono ?_
  rintro e vb2 ⟨t2, rfl, nt, gb⟩
  rw [H2.out] at nt
  have G2 := gb_trans (gb_drew G1) gb
  have x1 := (CR1.drew.grown0 gb).cell 2 rfl
  have x2 := (CL1.drew.grown0 gb).cell 2 rfl
  go_wp2
  refine ⟨Canon.sf_grown0 HF.out.drew gb, ?_⟩
  refine Canon.segs_at 8 _ _ _ (by kernel_rfl) ?_
  simp only [List.take_succ_cons, List.take_zero, List.drop_succ_cons, List.drop_zero]
  go_wp2_with fail
  refine (small_c _ (r2 % p2) d2 (by omega)).mono ?_
  rintro e vc2 ⟨u2, rfl, nu, gc⟩
  clear x1 x2
  go_wp2
  refine ⟨Canon.sf_grown0 (Canon.sf_grown0 HF.out.drew gb) gc, ?_⟩
  refine Canon.segs_at 0 _ _ _ (by kernel_rfl) ?_
  simp only [List.take_succ_cons, List.take_zero, List.drop_succ_cons, List.drop_zero]
  go_wp2_with fail
  refine (cmp_c _ _ _ _ _ _ _ (nt.grown0 gc) nu).mono ?_
  rintro e vd2 ⟨rfl, gd⟩
  rw [cmpI_refl']
  go_wp2
  refine ⟨Canon.sf_grown0 (Canon.sf_grown0 (Canon.sf_grown0 HF.out.drew gb) gc) gd, ?_⟩
  refine Canon.segs_end _ _ _ (by kernel_rfl) ?_
  go_wp2
  refine ⟨by kernel_rfl, by kernel_rfl, by kernel_rfl, ?_⟩
  have GB := gb_trans (gb_trans (gb_trans (gb_drew (gb_refl va2 none)) gb) gc) gd
  go_wp2_with fail
  refine (mul_c _ y1 q2 (1 * p0.toNat * p1.toNat) p2.toNat 6 2 ((NYh.out.grown0 ga).grown0 GB) (nq.grown0 GB) (by decide) (by decide)).mono ?_
  rintro e ve2 ⟨y2, rfl, ny, ge⟩
  have GC := gb_trans GB ge
  go_wp2
  rw [rounds_succ]
  refine wp_gen (fun W => w.grownBy W none ∧ Cs W w3.heap.size [.int .u64 p0, .int .u64 p1, .int .u64 p2] ∧ Cs W w4.heap.size [.int .u64 r0, .int .u64 r1, .int .u64 r2] ∧ Nm W x X 6 ∧ Nm W y2 (1 * p0.toNat * p1.toNat * p2.toNat) 8) ⟨gb_trans G1 GC, CL1.grown0 GC, CR1.grown0 GC, (NXh.out.grown0 ga).grown0 GC, ny⟩ ?_
  clear G CL CR NXh NYh nq ga G1 CL1 CR1 HF nt gb G2 nu gc gd GB ny ge GC
  rintro v3 ⟨G, CL, CR, NX, NY⟩
  go_wp2_with fail
  refine (cmp_c _ _ _ _ _ _ _ NX NY).mono ?_
  rintro e va3 ⟨rfl, ga⟩
  have hc : cmpI X (1 * p0.toNat * p1.toNat * p2.toNat) = -1 := by unfold cmpI; rw [if_pos HL.out]
  rw [hc]
  go_wp2_with fail
  refine (wakes09_c _).mono ?_
  rintro e vb3 ⟨rfl, gb⟩
  go_wp2
  go_ret
  exact ⟨rfl, gb_trans (gb_trans G ga) gb⟩
end Go.Proofs.Yteklffikijpocaa
