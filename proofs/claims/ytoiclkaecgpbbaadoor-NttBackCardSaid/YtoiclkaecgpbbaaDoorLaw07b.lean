/- Chapter 7: the three primes. -/
import Derived.Test.YtoiclkaecgpbbaaDoorLaw07
import Derived.Test.YtoiclkaecgpbbaaDoorRef3
import Derived.Test.YtoiclkaecgpbbaaDoorConv3
import Derived.Test.YtoiclkaecgpbbaaDoorMeter
import Derived.LoopN
namespace Go.Proofs.YtoiclkaecgpbbaaDoor
open Go.RowKit

theorem cs_newg (w : World) (cs : Array Value) (t : TypeId) (g : Nat) (hg : g = w.heap.size) : Cs (w.alloc (.cells cs t)) g cs.toList := by subst hg; exact cs_new w cs t
theorem pw_lit (a E p r : Nat) (hE : E < 2 ^ 64) (h : pmF 64 a E p = r) : ((a : Nat) : Int) ^ E % ((p : Nat) : Int) = ((r : Nat) : Int) := by
  rw [← Int.natCast_pow, ← Int.natCast_emod, ← pmF_spec 64 a E p hE, h]
theorem refPow_lit (w : World) (a E p r : Nat) (hp : 0 < p) (hp' : p < 2 ^ 64) (hE : E < 2 ^ 64) (h : pmF 64 a E p = r) :
    Calls Tryd.prog 22 #[.int .u64 a, .int .u64 E, .int .u64 p] w fun e w' => e = .returned (.int .u64 r) ∧ w.grownBy w' none := by
  have := refPow_c w p a E (by omega) (by omega) (by omega) hE
  rw [pw_lit a E p r hE h] at this
  exact this
theorem isP_p0 : isP 180143985094819841 = true := by rw [isF_eq (by decide)]; decide +kernel
theorem pm_00 : pmF 64 6 90071992547409920 180143985094819841 = 180143985094819840 := by decide +kernel
theorem pm_01 : pmF 64 6 36028797018963968 180143985094819841 = 55393705663794749 := by decide +kernel
theorem isP_p1 : isP 1945555039024054273 = true := by rw [isF_eq (by decide)]; decide +kernel
theorem pm_10 : pmF 64 5 972777519512027136 1945555039024054273 = 1945555039024054272 := by decide +kernel
theorem pm_11 : pmF 64 5 648518346341351424 1945555039024054273 = 972777520719986688 := by decide +kernel
theorem isP_p2 : isP 4179340454199820289 = true := by rw [isF_eq (by decide)]; decide +kernel
theorem pm_20 : pmF 64 3 2089670227099910144 4179340454199820289 = 4179340454199820288 := by decide +kernel
theorem pm_21 : pmF 64 3 144115188075855872 4179340454199820289 = 4085804930199681271 := by decide +kernel
set_option maxRecDepth 100000 in
set_option maxHeartbeats 8000000 in
theorem PrimeThree_walk (k : Int) (w : World) (h : -9223372036854775808 ≤ k ∧ k ≤ 9223372036854775807) (hd : Db w) :
    Calls Tryd.prog 6 #[.int .i64 k] w fun e w' => e = .returned (.bool true) ∧ w.grownBy w' none := by
  have T := fun w => primeThree_c w 180143985094819841 1945555039024054273 4179340454199820289 rfl rfl rfl
  have R := fun w => refThree_c w 180143985094819841 1945555039024054273 4179340454199820289 rfl rfl rfl
  have HT := Lib.hid T
  have HR := Lib.hid R
  have HD := Lib.hid hd
  clear T R hd
  have r0 := fun w => refPrime_c w 180143985094819841 (by decide)
  rw [isP_p0] at r0
  have R0 := Lib.hid r0
  have s0 := fun w (h : Db w) => is_c w 180143985094819841 (by decide) h
  rw [isP_p0] at s0
  have S0 := Lib.hid s0
  clear r0 s0
  have x00 := fun w => refPow_lit w 6 90071992547409920 180143985094819841 180143985094819840 (by decide) (by decide) (by decide) pm_00
  have X00 := Lib.hid x00
  clear x00
  have x01 := fun w => refPow_lit w 6 36028797018963968 180143985094819841 55393705663794749 (by decide) (by decide) (by decide) pm_01
  have X01 := Lib.hid x01
  clear x01
  have r1 := fun w => refPrime_c w 1945555039024054273 (by decide)
  rw [isP_p1] at r1
  have R1 := Lib.hid r1
  have s1 := fun w (h : Db w) => is_c w 1945555039024054273 (by decide) h
  rw [isP_p1] at s1
  have S1 := Lib.hid s1
  clear r1 s1
  have x10 := fun w => refPow_lit w 5 972777519512027136 1945555039024054273 1945555039024054272 (by decide) (by decide) (by decide) pm_10
  have X10 := Lib.hid x10
  clear x10
  have x11 := fun w => refPow_lit w 5 648518346341351424 1945555039024054273 972777520719986688 (by decide) (by decide) (by decide) pm_11
  have X11 := Lib.hid x11
  clear x11
  have r2 := fun w => refPrime_c w 4179340454199820289 (by decide)
  rw [isP_p2] at r2
  have R2 := Lib.hid r2
  have s2 := fun w (h : Db w) => is_c w 4179340454199820289 (by decide) h
  rw [isP_p2] at s2
  have S2 := Lib.hid s2
  clear r2 s2
  have x20 := fun w => refPow_lit w 3 2089670227099910144 4179340454199820289 4179340454199820288 (by decide) (by decide) (by decide) pm_20
  have X20 := Lib.hid x20
  clear x20
  have x21 := fun w => refPow_lit w 3 144115188075855872 4179340454199820289 4085804930199681271 (by decide) (by decide) (by decide) pm_21
  have X21 := Lib.hid x21
  clear x21
  go_enter Tryd.func6, Tryd.ntmps6
  go_wp2_with fail
  refine (HT.out _).mono ?_
  rintro e w1 ⟨rfl, g1⟩
  go_wp2_with fail
  refine (HR.out _).mono ?_
  rintro e w2 ⟨rfl, g2⟩
  have CL := (cs_new w1 #[.int .u64 180143985094819841, .int .i64 55, .int .u64 6, .int .u64 1945555039024054273, .int .i64 56, .int .u64 5, .int .u64 4179340454199820289, .int .i64 57, .int .u64 3] 32).grown0 g2
  have G2 := gb_trans (gb_alloc g1 _) g2
  go_wp2
  have hz : w1.heap.size < w2.heap.size := by have := g2.size; simp at this; omega
  obtain ⟨bl, hbl⟩ : ∃ b, b = w1.heap.size := ⟨_, rfl⟩
  obtain ⟨bt, hbt⟩ : ∃ b, b = w2.heap.size := ⟨_, rfl⟩
  obtain ⟨d0, hd0⟩ : ∃ b, b = bt + 1 := ⟨_, rfl⟩
  obtain ⟨d1, hd1⟩ : ∃ b, b = bt + 1 + 1 := ⟨_, rfl⟩
  obtain ⟨d2, hd2⟩ : ∃ b, b = bt + 1 + 1 + 1 := ⟨_, rfl⟩
  obtain ⟨bd, hbd⟩ : ∃ b, b = bt + 1 + 1 + 1 + 1 := ⟨_, rfl⟩
  obtain ⟨bo, hbo⟩ : ∃ b, b = bt + 1 + 1 + 1 + 1 + 1 := ⟨_, rfl⟩
  rw [← hbl] at CL hz ⊢
  rw [← hbt] at hz ⊢
  rw [← hbo, ← hbd, ← hd2, ← hd1, ← hd0]
  refine wp_loop_rounds 4 ?_
  rw [rounds_succ]
  refine wp_gen (fun W => w.grownBy W none ∧ Cs W bl [.int .u64 180143985094819841, .int .i64 55, .int .u64 6, .int .u64 1945555039024054273, .int .i64 56, .int .u64 5, .int .u64 4179340454199820289, .int .i64 57, .int .u64 3] ∧ Cs W bt [.int .u64 180143985094819841, .int .u64 1945555039024054273, .int .u64 4179340454199820289] ∧ Cs W d0 [.int .u64 2, .int .u64 5] ∧ Cs W d1 [.int .u64 2, .int .u64 3] ∧ Cs W d2 [.int .u64 2, .int .u64 29] ∧ Cs W bd [.slice (some ⟨d0, 0, none⟩) 2 2, .slice (some ⟨d1, 0, none⟩) 2 2, .slice (some ⟨d2, 0, none⟩) 2 2] ∧ Cs W bo [.int .u64 5, .int .u64 27, .int .u64 29]) ⟨gb_alloc (gb_alloc (gb_alloc (gb_alloc (gb_alloc (gb_alloc (G2) _) _) _) _) _) _, CL.grown0 (gb_alloc (gb_alloc (gb_alloc (gb_alloc (gb_alloc (gb_alloc (gb_refl _ _) _) _) _) _) _) _), (cs_newg _ _ _ _ hbt).grown0 (gb_alloc (gb_alloc (gb_alloc (gb_alloc (gb_alloc (gb_refl _ _) _) _) _) _) _), (cs_newg _ _ _ _ (by rw [hd0, hbt]; simp)).grown0 (gb_alloc (gb_alloc (gb_alloc (gb_alloc (gb_refl _ _) _) _) _) _), (cs_newg _ _ _ _ (by rw [hd1, hbt]; simp)).grown0 (gb_alloc (gb_alloc (gb_alloc (gb_refl _ _) _) _) _), (cs_newg _ _ _ _ (by rw [hd2, hbt]; simp)).grown0 (gb_alloc (gb_alloc (gb_refl _ _) _) _), (cs_newg _ _ _ _ (by rw [hbd, hbt]; simp)).grown0 (gb_alloc (gb_refl _ _) _), cs_newg _ _ _ _ (by rw [hbo, hbt]; simp)⟩ ?_
  clear CL G2 g1 g2 hz hbl hbt hd0 hd1 hd2 hbd hbo
  rintro v0 ⟨G, CL, CT, D0, D1, D2, CD, CO⟩
  have HC := Lib.hid (And.intro G (And.intro CL (And.intro CT (And.intro D0 (And.intro D1 (And.intro D2 (And.intro CD CO)))))))
  have f0 := CL.cell 0 rfl
  have f1 := CT.cell 0 rfl
  have hF : Canon.SF [(⟨bl, 2, none⟩, .int .u64 6)] v0 := Canon.sf_cons (CL.cell 2 rfl) (Canon.sf_nil _)
  have HF := Lib.hid hF
  clear hF G CL CT D0 D1 D2 CD CO
  go_wp2
  refine Canon.region_held [63] _ (by kernel_rfl) (by kernel_rfl) HF.out ?_
  refine Canon.segs_at 7 _ _ _ (by kernel_rfl) ?_
  simp only [List.take_succ_cons, List.take_zero, List.drop_succ_cons, List.drop_zero]
  go_wp2_with fail
  refine (R0.out _).mono ?_
  rintro e va0 ⟨rfl, ga⟩
  obtain ⟨G, CL, CT, D0, D1, D2, CD, CO⟩ := HC.out
  clear f0 f1 HC
  have f2 := (CO.drew.grown0 ga).cell 0 rfl
  have f3 := (CL.drew.grown0 ga).cell 1 rfl
  have f4 := (CL.drew.grown0 ga).cell 2 rfl
  have GA := gb_trans (gb_drew (gb_refl v0 none)) ga
  have HC := Lib.hid (And.intro (gb_trans G GA) (And.intro (CL.grown0 GA) (And.intro (CT.grown0 GA) (And.intro (D0.grown0 GA) (And.intro (D1.grown0 GA) (And.intro (D2.grown0 GA) (And.intro (CD.grown0 GA) (CO.grown0 GA))))))))
  clear G CL CT D0 D1 D2 CD CO
  go_wp2
  refine ⟨Canon.sf_grown0 HF.out.drew ga, ?_⟩
  refine Canon.segs_at 30 _ _ _ (by kernel_rfl) ?_
  simp only [List.take_succ_cons, List.take_zero, List.drop_succ_cons, List.drop_zero]
  go_wp2
  refine ⟨Canon.sf_grown0 (Canon.sf_grown0 HF.out.drew ga) (gb_alloc (gb_refl _ _) _), ?_⟩
  refine Canon.segs_end _ _ _ (by kernel_rfl) ?_
  go_wp2
  refine ⟨by kernel_rfl, by kernel_rfl, by kernel_rfl, ?_⟩
  obtain ⟨G, CL, CT, D0, D1, D2, CD, CO⟩ := HC.out
  clear f2 f3 f4 HC HF GA ga
  go_wp2
  refine wp_loop_rounds 3 ?_
  rw [rounds_succ]
  refine wp_gen (fun W => w.grownBy W none ∧ Cs W bl [.int .u64 180143985094819841, .int .i64 55, .int .u64 6, .int .u64 1945555039024054273, .int .i64 56, .int .u64 5, .int .u64 4179340454199820289, .int .i64 57, .int .u64 3] ∧ Cs W bt [.int .u64 180143985094819841, .int .u64 1945555039024054273, .int .u64 4179340454199820289] ∧ Cs W d0 [.int .u64 2, .int .u64 5] ∧ Cs W d1 [.int .u64 2, .int .u64 3] ∧ Cs W d2 [.int .u64 2, .int .u64 29] ∧ Cs W bd [.slice (some ⟨d0, 0, none⟩) 2 2, .slice (some ⟨d1, 0, none⟩) 2 2, .slice (some ⟨d2, 0, none⟩) 2 2] ∧ Cs W bo [.int .u64 5, .int .u64 27, .int .u64 29]) ⟨gb_alloc G _, CL.grown0 (gb_alloc (gb_refl _ _) _), CT.grown0 (gb_alloc (gb_refl _ _) _), D0.grown0 (gb_alloc (gb_refl _ _) _), D1.grown0 (gb_alloc (gb_refl _ _) _), D2.grown0 (gb_alloc (gb_refl _ _) _), CD.grown0 (gb_alloc (gb_refl _ _) _), CO.grown0 (gb_alloc (gb_refl _ _) _)⟩ ?_
  clear G CL CT D0 D1 D2 CD CO
  rintro vb00 ⟨G, CL, CT, D0, D1, D2, CD, CO⟩
  have f2 := CD.cell 0 rfl
  have f0 := CL.cell 2 rfl
  have f1 := D0.cell 0 rfl
  go_wp2
  refine Canon.region_canon (by kernel_rfl) (by kernel_rfl) ?_
  go_wp2_with fail
  refine (X00.out _).mono ?_
  rintro e vc00 ⟨rfl, gc⟩
  have GC := gb_trans (gb_drew (gb_refl vb00 none)) gc
  clear f0 f1 f2
  go_wp2
  refine ⟨by kernel_rfl, ?_⟩
  go_wp2
  rw [rounds_succ]
  refine wp_gen (fun W => w.grownBy W none ∧ Cs W bl [.int .u64 180143985094819841, .int .i64 55, .int .u64 6, .int .u64 1945555039024054273, .int .i64 56, .int .u64 5, .int .u64 4179340454199820289, .int .i64 57, .int .u64 3] ∧ Cs W bt [.int .u64 180143985094819841, .int .u64 1945555039024054273, .int .u64 4179340454199820289] ∧ Cs W d0 [.int .u64 2, .int .u64 5] ∧ Cs W d1 [.int .u64 2, .int .u64 3] ∧ Cs W d2 [.int .u64 2, .int .u64 29] ∧ Cs W bd [.slice (some ⟨d0, 0, none⟩) 2 2, .slice (some ⟨d1, 0, none⟩) 2 2, .slice (some ⟨d2, 0, none⟩) 2 2] ∧ Cs W bo [.int .u64 5, .int .u64 27, .int .u64 29]) ⟨gb_trans G GC, CL.grown0 (GC), CT.grown0 (GC), D0.grown0 (GC), D1.grown0 (GC), D2.grown0 (GC), CD.grown0 (GC), CO.grown0 (GC)⟩ ?_
  clear GC gc G CL CT D0 D1 D2 CD CO
  rintro vb01 ⟨G, CL, CT, D0, D1, D2, CD, CO⟩
  have f2 := CD.cell 0 rfl
  have f0 := CL.cell 2 rfl
  have f1 := D0.cell 1 rfl
  go_wp2
  refine Canon.region_canon (by kernel_rfl) (by kernel_rfl) ?_
  go_wp2_with fail
  refine (X01.out _).mono ?_
  rintro e vc01 ⟨rfl, gc⟩
  have GC := gb_trans (gb_drew (gb_refl vb01 none)) gc
  clear f0 f1 f2
  go_wp2
  refine ⟨by kernel_rfl, ?_⟩
  go_wp2
  rw [rounds_succ]
  refine wp_gen (fun W => w.grownBy W none ∧ Cs W bl [.int .u64 180143985094819841, .int .i64 55, .int .u64 6, .int .u64 1945555039024054273, .int .i64 56, .int .u64 5, .int .u64 4179340454199820289, .int .i64 57, .int .u64 3] ∧ Cs W bt [.int .u64 180143985094819841, .int .u64 1945555039024054273, .int .u64 4179340454199820289] ∧ Cs W d0 [.int .u64 2, .int .u64 5] ∧ Cs W d1 [.int .u64 2, .int .u64 3] ∧ Cs W d2 [.int .u64 2, .int .u64 29] ∧ Cs W bd [.slice (some ⟨d0, 0, none⟩) 2 2, .slice (some ⟨d1, 0, none⟩) 2 2, .slice (some ⟨d2, 0, none⟩) 2 2] ∧ Cs W bo [.int .u64 5, .int .u64 27, .int .u64 29]) ⟨gb_trans G GC, CL.grown0 (GC), CT.grown0 (GC), D0.grown0 (GC), D1.grown0 (GC), D2.grown0 (GC), CD.grown0 (GC), CO.grown0 (GC)⟩ ?_
  clear GC gc G CL CT D0 D1 D2 CD CO
  rintro vb02 ⟨G, CL, CT, D0, D1, D2, CD, CO⟩
  have f2 := CD.cell 0 rfl
  go_wp2
  rw [rounds_succ]
  refine wp_gen (fun W => w.grownBy W none ∧ Cs W bl [.int .u64 180143985094819841, .int .i64 55, .int .u64 6, .int .u64 1945555039024054273, .int .i64 56, .int .u64 5, .int .u64 4179340454199820289, .int .i64 57, .int .u64 3] ∧ Cs W bt [.int .u64 180143985094819841, .int .u64 1945555039024054273, .int .u64 4179340454199820289] ∧ Cs W d0 [.int .u64 2, .int .u64 5] ∧ Cs W d1 [.int .u64 2, .int .u64 3] ∧ Cs W d2 [.int .u64 2, .int .u64 29] ∧ Cs W bd [.slice (some ⟨d0, 0, none⟩) 2 2, .slice (some ⟨d1, 0, none⟩) 2 2, .slice (some ⟨d2, 0, none⟩) 2 2] ∧ Cs W bo [.int .u64 5, .int .u64 27, .int .u64 29]) ⟨G, CL, CT, D0, D1, D2, CD, CO⟩ ?_
  clear f2 G CL CT D0 D1 D2 CD CO
  rintro v1 ⟨G, CL, CT, D0, D1, D2, CD, CO⟩
  have HC := Lib.hid (And.intro G (And.intro CL (And.intro CT (And.intro D0 (And.intro D1 (And.intro D2 (And.intro CD CO)))))))
  have f0 := CL.cell 3 rfl
  have f1 := CT.cell 1 rfl
  have hF : Canon.SF [(⟨bl, 5, none⟩, .int .u64 5)] v1 := Canon.sf_cons (CL.cell 5 rfl) (Canon.sf_nil _)
  have HF := Lib.hid hF
  clear hF G CL CT D0 D1 D2 CD CO
  go_wp2
  refine Canon.region_held [63] _ (by kernel_rfl) (by kernel_rfl) HF.out ?_
  refine Canon.segs_at 7 _ _ _ (by kernel_rfl) ?_
  simp only [List.take_succ_cons, List.take_zero, List.drop_succ_cons, List.drop_zero]
  go_wp2_with fail
  refine (R1.out _).mono ?_
  rintro e va1 ⟨rfl, ga⟩
  obtain ⟨G, CL, CT, D0, D1, D2, CD, CO⟩ := HC.out
  clear f0 f1 HC
  have f2 := (CO.drew.grown0 ga).cell 1 rfl
  have f3 := (CL.drew.grown0 ga).cell 4 rfl
  have f4 := (CL.drew.grown0 ga).cell 5 rfl
  have GA := gb_trans (gb_drew (gb_refl v1 none)) ga
  have HC := Lib.hid (And.intro (gb_trans G GA) (And.intro (CL.grown0 GA) (And.intro (CT.grown0 GA) (And.intro (D0.grown0 GA) (And.intro (D1.grown0 GA) (And.intro (D2.grown0 GA) (And.intro (CD.grown0 GA) (CO.grown0 GA))))))))
  clear G CL CT D0 D1 D2 CD CO
  go_wp2
  refine ⟨Canon.sf_grown0 HF.out.drew ga, ?_⟩
  refine Canon.segs_at 30 _ _ _ (by kernel_rfl) ?_
  simp only [List.take_succ_cons, List.take_zero, List.drop_succ_cons, List.drop_zero]
  go_wp2
  refine ⟨Canon.sf_grown0 (Canon.sf_grown0 HF.out.drew ga) (gb_alloc (gb_refl _ _) _), ?_⟩
  refine Canon.segs_end _ _ _ (by kernel_rfl) ?_
  go_wp2
  refine ⟨by kernel_rfl, by kernel_rfl, by kernel_rfl, ?_⟩
  obtain ⟨G, CL, CT, D0, D1, D2, CD, CO⟩ := HC.out
  clear f2 f3 f4 HC HF GA ga
  go_wp2
  refine wp_loop_rounds 3 ?_
  rw [rounds_succ]
  refine wp_gen (fun W => w.grownBy W none ∧ Cs W bl [.int .u64 180143985094819841, .int .i64 55, .int .u64 6, .int .u64 1945555039024054273, .int .i64 56, .int .u64 5, .int .u64 4179340454199820289, .int .i64 57, .int .u64 3] ∧ Cs W bt [.int .u64 180143985094819841, .int .u64 1945555039024054273, .int .u64 4179340454199820289] ∧ Cs W d0 [.int .u64 2, .int .u64 5] ∧ Cs W d1 [.int .u64 2, .int .u64 3] ∧ Cs W d2 [.int .u64 2, .int .u64 29] ∧ Cs W bd [.slice (some ⟨d0, 0, none⟩) 2 2, .slice (some ⟨d1, 0, none⟩) 2 2, .slice (some ⟨d2, 0, none⟩) 2 2] ∧ Cs W bo [.int .u64 5, .int .u64 27, .int .u64 29]) ⟨gb_alloc G _, CL.grown0 (gb_alloc (gb_refl _ _) _), CT.grown0 (gb_alloc (gb_refl _ _) _), D0.grown0 (gb_alloc (gb_refl _ _) _), D1.grown0 (gb_alloc (gb_refl _ _) _), D2.grown0 (gb_alloc (gb_refl _ _) _), CD.grown0 (gb_alloc (gb_refl _ _) _), CO.grown0 (gb_alloc (gb_refl _ _) _)⟩ ?_
  clear G CL CT D0 D1 D2 CD CO
  rintro vb10 ⟨G, CL, CT, D0, D1, D2, CD, CO⟩
  have f2 := CD.cell 1 rfl
  have f0 := CL.cell 5 rfl
  have f1 := D1.cell 0 rfl
  go_wp2
  refine Canon.region_canon (by kernel_rfl) (by kernel_rfl) ?_
  go_wp2_with fail
  refine (X10.out _).mono ?_
  rintro e vc10 ⟨rfl, gc⟩
  have GC := gb_trans (gb_drew (gb_refl vb10 none)) gc
  clear f0 f1 f2
  go_wp2
  refine ⟨by kernel_rfl, ?_⟩
  go_wp2
  rw [rounds_succ]
  refine wp_gen (fun W => w.grownBy W none ∧ Cs W bl [.int .u64 180143985094819841, .int .i64 55, .int .u64 6, .int .u64 1945555039024054273, .int .i64 56, .int .u64 5, .int .u64 4179340454199820289, .int .i64 57, .int .u64 3] ∧ Cs W bt [.int .u64 180143985094819841, .int .u64 1945555039024054273, .int .u64 4179340454199820289] ∧ Cs W d0 [.int .u64 2, .int .u64 5] ∧ Cs W d1 [.int .u64 2, .int .u64 3] ∧ Cs W d2 [.int .u64 2, .int .u64 29] ∧ Cs W bd [.slice (some ⟨d0, 0, none⟩) 2 2, .slice (some ⟨d1, 0, none⟩) 2 2, .slice (some ⟨d2, 0, none⟩) 2 2] ∧ Cs W bo [.int .u64 5, .int .u64 27, .int .u64 29]) ⟨gb_trans G GC, CL.grown0 (GC), CT.grown0 (GC), D0.grown0 (GC), D1.grown0 (GC), D2.grown0 (GC), CD.grown0 (GC), CO.grown0 (GC)⟩ ?_
  clear GC gc G CL CT D0 D1 D2 CD CO
  rintro vb11 ⟨G, CL, CT, D0, D1, D2, CD, CO⟩
  have f2 := CD.cell 1 rfl
  have f0 := CL.cell 5 rfl
  have f1 := D1.cell 1 rfl
  go_wp2
  refine Canon.region_canon (by kernel_rfl) (by kernel_rfl) ?_
  go_wp2_with fail
  refine (X11.out _).mono ?_
  rintro e vc11 ⟨rfl, gc⟩
  have GC := gb_trans (gb_drew (gb_refl vb11 none)) gc
  clear f0 f1 f2
  go_wp2
  refine ⟨by kernel_rfl, ?_⟩
  go_wp2
  rw [rounds_succ]
  refine wp_gen (fun W => w.grownBy W none ∧ Cs W bl [.int .u64 180143985094819841, .int .i64 55, .int .u64 6, .int .u64 1945555039024054273, .int .i64 56, .int .u64 5, .int .u64 4179340454199820289, .int .i64 57, .int .u64 3] ∧ Cs W bt [.int .u64 180143985094819841, .int .u64 1945555039024054273, .int .u64 4179340454199820289] ∧ Cs W d0 [.int .u64 2, .int .u64 5] ∧ Cs W d1 [.int .u64 2, .int .u64 3] ∧ Cs W d2 [.int .u64 2, .int .u64 29] ∧ Cs W bd [.slice (some ⟨d0, 0, none⟩) 2 2, .slice (some ⟨d1, 0, none⟩) 2 2, .slice (some ⟨d2, 0, none⟩) 2 2] ∧ Cs W bo [.int .u64 5, .int .u64 27, .int .u64 29]) ⟨gb_trans G GC, CL.grown0 (GC), CT.grown0 (GC), D0.grown0 (GC), D1.grown0 (GC), D2.grown0 (GC), CD.grown0 (GC), CO.grown0 (GC)⟩ ?_
  clear GC gc G CL CT D0 D1 D2 CD CO
  rintro vb12 ⟨G, CL, CT, D0, D1, D2, CD, CO⟩
  have f2 := CD.cell 1 rfl
  go_wp2
  rw [rounds_succ]
  refine wp_gen (fun W => w.grownBy W none ∧ Cs W bl [.int .u64 180143985094819841, .int .i64 55, .int .u64 6, .int .u64 1945555039024054273, .int .i64 56, .int .u64 5, .int .u64 4179340454199820289, .int .i64 57, .int .u64 3] ∧ Cs W bt [.int .u64 180143985094819841, .int .u64 1945555039024054273, .int .u64 4179340454199820289] ∧ Cs W d0 [.int .u64 2, .int .u64 5] ∧ Cs W d1 [.int .u64 2, .int .u64 3] ∧ Cs W d2 [.int .u64 2, .int .u64 29] ∧ Cs W bd [.slice (some ⟨d0, 0, none⟩) 2 2, .slice (some ⟨d1, 0, none⟩) 2 2, .slice (some ⟨d2, 0, none⟩) 2 2] ∧ Cs W bo [.int .u64 5, .int .u64 27, .int .u64 29]) ⟨G, CL, CT, D0, D1, D2, CD, CO⟩ ?_
  clear f2 G CL CT D0 D1 D2 CD CO
  rintro v2 ⟨G, CL, CT, D0, D1, D2, CD, CO⟩
  have HC := Lib.hid (And.intro G (And.intro CL (And.intro CT (And.intro D0 (And.intro D1 (And.intro D2 (And.intro CD CO)))))))
  have f0 := CL.cell 6 rfl
  have f1 := CT.cell 2 rfl
  have hF : Canon.SF [(⟨bl, 8, none⟩, .int .u64 3)] v2 := Canon.sf_cons (CL.cell 8 rfl) (Canon.sf_nil _)
  have HF := Lib.hid hF
  clear hF G CL CT D0 D1 D2 CD CO
  go_wp2
  refine Canon.region_held [63] _ (by kernel_rfl) (by kernel_rfl) HF.out ?_
  refine Canon.segs_at 7 _ _ _ (by kernel_rfl) ?_
  simp only [List.take_succ_cons, List.take_zero, List.drop_succ_cons, List.drop_zero]
  go_wp2_with fail
  refine (R2.out _).mono ?_
  rintro e va2 ⟨rfl, ga⟩
  obtain ⟨G, CL, CT, D0, D1, D2, CD, CO⟩ := HC.out
  clear f0 f1 HC
  have f2 := (CO.drew.grown0 ga).cell 2 rfl
  have f3 := (CL.drew.grown0 ga).cell 7 rfl
  have f4 := (CL.drew.grown0 ga).cell 8 rfl
  have GA := gb_trans (gb_drew (gb_refl v2 none)) ga
  have HC := Lib.hid (And.intro (gb_trans G GA) (And.intro (CL.grown0 GA) (And.intro (CT.grown0 GA) (And.intro (D0.grown0 GA) (And.intro (D1.grown0 GA) (And.intro (D2.grown0 GA) (And.intro (CD.grown0 GA) (CO.grown0 GA))))))))
  clear G CL CT D0 D1 D2 CD CO
  go_wp2
  refine ⟨Canon.sf_grown0 HF.out.drew ga, ?_⟩
  refine Canon.segs_at 30 _ _ _ (by kernel_rfl) ?_
  simp only [List.take_succ_cons, List.take_zero, List.drop_succ_cons, List.drop_zero]
  go_wp2
  refine ⟨Canon.sf_grown0 (Canon.sf_grown0 HF.out.drew ga) (gb_alloc (gb_refl _ _) _), ?_⟩
  refine Canon.segs_end _ _ _ (by kernel_rfl) ?_
  go_wp2
  refine ⟨by kernel_rfl, by kernel_rfl, by kernel_rfl, ?_⟩
  obtain ⟨G, CL, CT, D0, D1, D2, CD, CO⟩ := HC.out
  clear f2 f3 f4 HC HF GA ga
  go_wp2
  refine wp_loop_rounds 3 ?_
  rw [rounds_succ]
  refine wp_gen (fun W => w.grownBy W none ∧ Cs W bl [.int .u64 180143985094819841, .int .i64 55, .int .u64 6, .int .u64 1945555039024054273, .int .i64 56, .int .u64 5, .int .u64 4179340454199820289, .int .i64 57, .int .u64 3] ∧ Cs W bt [.int .u64 180143985094819841, .int .u64 1945555039024054273, .int .u64 4179340454199820289] ∧ Cs W d0 [.int .u64 2, .int .u64 5] ∧ Cs W d1 [.int .u64 2, .int .u64 3] ∧ Cs W d2 [.int .u64 2, .int .u64 29] ∧ Cs W bd [.slice (some ⟨d0, 0, none⟩) 2 2, .slice (some ⟨d1, 0, none⟩) 2 2, .slice (some ⟨d2, 0, none⟩) 2 2] ∧ Cs W bo [.int .u64 5, .int .u64 27, .int .u64 29]) ⟨gb_alloc G _, CL.grown0 (gb_alloc (gb_refl _ _) _), CT.grown0 (gb_alloc (gb_refl _ _) _), D0.grown0 (gb_alloc (gb_refl _ _) _), D1.grown0 (gb_alloc (gb_refl _ _) _), D2.grown0 (gb_alloc (gb_refl _ _) _), CD.grown0 (gb_alloc (gb_refl _ _) _), CO.grown0 (gb_alloc (gb_refl _ _) _)⟩ ?_
  clear G CL CT D0 D1 D2 CD CO
  rintro vb20 ⟨G, CL, CT, D0, D1, D2, CD, CO⟩
  have f2 := CD.cell 2 rfl
  have f0 := CL.cell 8 rfl
  have f1 := D2.cell 0 rfl
  go_wp2
  refine Canon.region_canon (by kernel_rfl) (by kernel_rfl) ?_
  go_wp2_with fail
  refine (X20.out _).mono ?_
  rintro e vc20 ⟨rfl, gc⟩
  have GC := gb_trans (gb_drew (gb_refl vb20 none)) gc
  clear f0 f1 f2
  go_wp2
  refine ⟨by kernel_rfl, ?_⟩
  go_wp2
  rw [rounds_succ]
  refine wp_gen (fun W => w.grownBy W none ∧ Cs W bl [.int .u64 180143985094819841, .int .i64 55, .int .u64 6, .int .u64 1945555039024054273, .int .i64 56, .int .u64 5, .int .u64 4179340454199820289, .int .i64 57, .int .u64 3] ∧ Cs W bt [.int .u64 180143985094819841, .int .u64 1945555039024054273, .int .u64 4179340454199820289] ∧ Cs W d0 [.int .u64 2, .int .u64 5] ∧ Cs W d1 [.int .u64 2, .int .u64 3] ∧ Cs W d2 [.int .u64 2, .int .u64 29] ∧ Cs W bd [.slice (some ⟨d0, 0, none⟩) 2 2, .slice (some ⟨d1, 0, none⟩) 2 2, .slice (some ⟨d2, 0, none⟩) 2 2] ∧ Cs W bo [.int .u64 5, .int .u64 27, .int .u64 29]) ⟨gb_trans G GC, CL.grown0 (GC), CT.grown0 (GC), D0.grown0 (GC), D1.grown0 (GC), D2.grown0 (GC), CD.grown0 (GC), CO.grown0 (GC)⟩ ?_
  clear GC gc G CL CT D0 D1 D2 CD CO
  rintro vb21 ⟨G, CL, CT, D0, D1, D2, CD, CO⟩
  have f2 := CD.cell 2 rfl
  have f0 := CL.cell 8 rfl
  have f1 := D2.cell 1 rfl
  go_wp2
  refine Canon.region_canon (by kernel_rfl) (by kernel_rfl) ?_
  go_wp2_with fail
  refine (X21.out _).mono ?_
  rintro e vc21 ⟨rfl, gc⟩
  have GC := gb_trans (gb_drew (gb_refl vb21 none)) gc
  clear f0 f1 f2
  go_wp2
  refine ⟨by kernel_rfl, ?_⟩
  go_wp2
  rw [rounds_succ]
  refine wp_gen (fun W => w.grownBy W none ∧ Cs W bl [.int .u64 180143985094819841, .int .i64 55, .int .u64 6, .int .u64 1945555039024054273, .int .i64 56, .int .u64 5, .int .u64 4179340454199820289, .int .i64 57, .int .u64 3] ∧ Cs W bt [.int .u64 180143985094819841, .int .u64 1945555039024054273, .int .u64 4179340454199820289] ∧ Cs W d0 [.int .u64 2, .int .u64 5] ∧ Cs W d1 [.int .u64 2, .int .u64 3] ∧ Cs W d2 [.int .u64 2, .int .u64 29] ∧ Cs W bd [.slice (some ⟨d0, 0, none⟩) 2 2, .slice (some ⟨d1, 0, none⟩) 2 2, .slice (some ⟨d2, 0, none⟩) 2 2] ∧ Cs W bo [.int .u64 5, .int .u64 27, .int .u64 29]) ⟨gb_trans G GC, CL.grown0 (GC), CT.grown0 (GC), D0.grown0 (GC), D1.grown0 (GC), D2.grown0 (GC), CD.grown0 (GC), CO.grown0 (GC)⟩ ?_
  clear GC gc G CL CT D0 D1 D2 CD CO
  rintro vb22 ⟨G, CL, CT, D0, D1, D2, CD, CO⟩
  have f2 := CD.cell 2 rfl
  go_wp2
  rw [rounds_succ]
  refine wp_gen (fun W => w.grownBy W none ∧ Cs W bl [.int .u64 180143985094819841, .int .i64 55, .int .u64 6, .int .u64 1945555039024054273, .int .i64 56, .int .u64 5, .int .u64 4179340454199820289, .int .i64 57, .int .u64 3] ∧ Cs W bt [.int .u64 180143985094819841, .int .u64 1945555039024054273, .int .u64 4179340454199820289] ∧ Cs W d0 [.int .u64 2, .int .u64 5] ∧ Cs W d1 [.int .u64 2, .int .u64 3] ∧ Cs W d2 [.int .u64 2, .int .u64 29] ∧ Cs W bd [.slice (some ⟨d0, 0, none⟩) 2 2, .slice (some ⟨d1, 0, none⟩) 2 2, .slice (some ⟨d2, 0, none⟩) 2 2] ∧ Cs W bo [.int .u64 5, .int .u64 27, .int .u64 29]) ⟨G, CL, CT, D0, D1, D2, CD, CO⟩ ?_
  clear f2 G CL CT D0 D1 D2 CD CO
  rintro v3 ⟨G, CL, CT, D0, D1, D2, CD, CO⟩
  have HC := Lib.hid (And.intro G CL)
  clear G CL CT D0 D1 D2 CD CO
  go_wp2_with fail
  refine (within_c k 3 (by decide) (by decide) _).mono ?_
  rintro e v4 ⟨rfl, hv4⟩
  subst hv4
  obtain ⟨q, hq⟩ : ∃ q, q = k % 3 := ⟨_, rfl⟩
  rw [← hq]
  have hq3 : q = 0 ∨ q = 1 ∨ q = 2 := by omega
  clear hq h
  obtain ⟨G, CL⟩ := HC.out
  rcases hq3 with rfl | rfl | rfl
  · have f0 := CL.cell 0 rfl
    clear HC CL
    go_wp2_with fail
    refine (S0.out _ (HD.out.grown0 G)).mono ?_
    rintro e v5 ⟨rfl, g5⟩
    go_wp2_with fail
    refine (wakes07_c _ ((HD.out.grown0 G).grown0 g5)).mono ?_
    rintro e v6 ⟨rfl, g6⟩
    go_wp2
    go_ret
    exact ⟨rfl, gb_trans (gb_trans G g5) g6⟩
  · have f0 := CL.cell 3 rfl
    clear HC CL
    go_wp2_with fail
    refine (S1.out _ (HD.out.grown0 G)).mono ?_
    rintro e v5 ⟨rfl, g5⟩
    go_wp2_with fail
    refine (wakes07_c _ ((HD.out.grown0 G).grown0 g5)).mono ?_
    rintro e v6 ⟨rfl, g6⟩
    go_wp2
    go_ret
    exact ⟨rfl, gb_trans (gb_trans G g5) g6⟩
  · have f0 := CL.cell 6 rfl
    clear HC CL
    go_wp2_with fail
    refine (S2.out _ (HD.out.grown0 G)).mono ?_
    rintro e v5 ⟨rfl, g5⟩
    go_wp2_with fail
    refine (wakes07_c _ ((HD.out.grown0 G).grown0 g5)).mono ?_
    rintro e v6 ⟨rfl, g6⟩
    go_wp2
    go_ret
    exact ⟨rfl, gb_trans (gb_trans G g5) g6⟩
end Go.Proofs.YtoiclkaecgpbbaaDoor
