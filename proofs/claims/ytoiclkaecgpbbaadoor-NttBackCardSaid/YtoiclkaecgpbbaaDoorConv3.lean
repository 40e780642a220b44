/- Three residues: begun, Three. -/
import Derived.Test.YtoiclkaecgpbbaaDoorConv2
import Derived.Test.YtoiclkaecgpbbaaDoorRows3
namespace Go.Proofs.YtoiclkaecgpbbaaDoor
open Go.RowKit

set_option maxRecDepth 100000 in
theorem primeThree_c (w : World) (p0 p1 p2 : Int) (h0 : p0 = 180143985094819841) (h1 : p1 = 1945555039024054273) (h2 : p2 = 4179340454199820289) :
    Calls Tryd.prog 20 #[] w fun e w' => e = .returned (.agg #[.int .u64 p0, .int .i64 55, .int .u64 6, .int .u64 p1, .int .i64 56, .int .u64 5, .int .u64 p2, .int .i64 57, .int .u64 3]) ∧ w.grownBy w' none := by
  go_enter Tryd.func20, Tryd.ntmps20
  go_wp2
  (try simp only [Exit.inBlock, Exit.then])
  rw [← h0, ← h1, ← h2]
  refine bodyPost_ret (res_agg rfl (cs_new _ _ _) rfl (by kernel_rfl) (by kernel_rfl)) rfl ?_
  exact ⟨rfl, gb_alloc (gb_refl _ _) _⟩
set_option maxRecDepth 100000 in
set_option maxHeartbeats 4000000 in
theorem begun_c (w : World) (p0 p1 p2 : Int) (h0 : p0 = 180143985094819841) (h1 : p1 = 1945555039024054273) (h2 : p2 = 4179340454199820289) :
    Calls Tryd.prog 84 #[] w fun e w' => ∃ g i01 i2 hi lo, e = .returned (.pointer (some ⟨g, 0, none⟩)) ∧ Crt w' g p0 p1 p2 i01 i2 hi lo ∧ w.grownBy w' none := by
  have T := fun w => primeThree_c w p0 p1 p2 h0 h1 h2
  have q0 : Pm p0 := ⟨by omega, by omega, by omega⟩
  have q1 : Pm p1 := ⟨by omega, by omega, by omega⟩
  have q2 : Pm p2 := ⟨by omega, by omega, by omega⟩
  have n1 : Int.gcd p1 p0 = 1 := by subst h0 h1; decide
  have n2 : Int.gcd p2 (p0 * p1 % p2) = 1 := by subst h0 h1 h2; decide
  have b0 : 0 ≤ p0 ∧ p0 < 4611686018427387904 := by omega
  have b1 : 0 ≤ p1 ∧ p1 < 4611686018427387904 := by omega
  have b2 : 0 ≤ p2 ∧ p2 < 4611686018427387904 := by omega
  have HT := Lib.hid T
  have N1 := Lib.hid n1
  have N2 := Lib.hid n2
  have Q0 := Lib.hid q0
  have Q1 := Lib.hid q1
  have Q2 := Lib.hid q2
  clear T n1 n2 h0 h1 h2 q0 q1 q2
  go_enter Tryd.func84, Tryd.ntmps84
  go_wp2_with fail
  refine (HT.out _).mono ?_
  rintro e w1 ⟨rfl, g1⟩
  have C := (cs_new w _ _).grown0 g1
  have G1 := gb_trans (gb_alloc (gb_refl w none) _) g1
  have hgs : w.heap.size < w1.heap.size := by have := g1.size; simp at this; omega
  have ga : ∀ (W : World) j u, w.grownBy W none → w.grownBy (W.setCell ⟨w.heap.size, j, none⟩ u) none := fun W j u h => gb_set (p := ⟨w.heap.size, j, none⟩) h (Nat.le_refl _) u
  have md : ∀ (W : World) m p j u, Md W m p → w.heap.size < m → Md (W.setCell ⟨w.heap.size, j, none⟩ u) m p := fun W m p j u h hm => h.grown (gb_rowC (gb_refl W (some w.heap.size)) j u) (by simp; omega)
  have GA := Lib.hid ga
  have MD := Lib.hid md
  clear ga md
  have ix0 : ∀ w : World, (Instr.index 32 (.agg #[.int .u64 p0, .int .i64 55, .int .u64 6, .int .u64 p1, .int .i64 56, .int .u64 5, .int .u64 p2, .int .i64 57, .int .u64 3]) (.int .i64 0)).run Tryd.prog w = .ok (.agg #[.int .u64 p0, .int .i64 55, .int .u64 6]) w := fun w => by rfl
  have ix1 : ∀ w : World, (Instr.index 32 (.agg #[.int .u64 p0, .int .i64 55, .int .u64 6, .int .u64 p1, .int .i64 56, .int .u64 5, .int .u64 p2, .int .i64 57, .int .u64 3]) (.int .i64 1)).run Tryd.prog w = .ok (.agg #[.int .u64 p1, .int .i64 56, .int .u64 5]) w := fun w => by rfl
  have ix2 : ∀ w : World, (Instr.index 32 (.agg #[.int .u64 p0, .int .i64 55, .int .u64 6, .int .u64 p1, .int .i64 56, .int .u64 5, .int .u64 p2, .int .i64 57, .int .u64 3]) (.int .i64 2)).run Tryd.prog w = .ok (.agg #[.int .u64 p2, .int .i64 57, .int .u64 3]) w := fun w => by rfl
  go_wp2
  clear g1
  obtain ⟨g, hg⟩ : ∃ g, g = w.heap.size := ⟨_, rfl⟩
  rw [← hg] at C hgs GA MD ⊢
  have HG := Lib.hid hg
  clear hg
  refine wp_loop_rounds 4 ?_
  rw [rounds_succ]
  go_wp2
  obtain ⟨bx, hbx⟩ : ∃ b, b = w1.heap.size := ⟨_, rfl⟩
  rw [← hbx]
  refine wp_gen (fun W => w.grownBy W none ∧ Cs W g [.int .u64 0, .int .u64 0, .int .u64 0, .pointer none, .pointer none, .pointer none, .int .u64 0, .int .u64 0, .int .u64 0, .int .u64 0] ∧ Cs W bx [.int .u64 p0, .int .i64 55, .int .u64 6] ∧ g < bx ∧ bx < W.heap.size) ⟨gb_alloc G1 _, C.grown0 (gb_alloc (gb_refl _ _) _), by rw [hbx]; exact cs_new _ _ _, by omega, by rw [hbx]; simp⟩ ?_
  clear G1 C hbx hgs
  rintro w1a ⟨G1, C, X, hgb, hbs⟩
  have c1 := C.cell 0 rfl
  have c2 := C.free 0 rfl
  have c3 := X.cell 0 rfl
  refine Canon.region_canon (by kernel_rfl) (by kernel_rfl) ?_
  go_wp2
  refine ⟨by kernel_rfl, ?_⟩
  go_wp2
  refine wp_gen (fun W => w.grownBy W none ∧ Cs W g [.int .u64 p0, .int .u64 0, .int .u64 0, .pointer none, .pointer none, .pointer none, .int .u64 0, .int .u64 0, .int .u64 0, .int .u64 0] ∧ Cs W bx [.int .u64 p0, .int .i64 55, .int .u64 6] ∧ bx < W.heap.size) ⟨GA.out _ _ _ (gb_drew G1), C.drew.set 0 _, X.drew.other (by omega) _ _, by simpa using hbs⟩ ?_
  clear c1 c2 c3 G1 C X hbs
  rintro w1b ⟨G1, C, X, hbs⟩
  have c3 := X.cell 0 rfl
  refine Canon.region_canon (by kernel_rfl) (by kernel_rfl) ?_
  go_wp2_with fail
  refine (modNew_ok _ p0 Q0.out).mono ?_
  rintro e w1c ⟨m0, rfl, M0, hm0, gq⟩
  have c1 := (C.drew.grown0 gq).cell 3 rfl
  have c2 := (C.drew.grown0 gq).free 3 rfl
  have hmg0 : g < m0 := Nat.lt_trans hgb (Nat.lt_of_lt_of_le hbs hm0)
  clear c3 hm0
  go_wp2
  refine ⟨by kernel_rfl, ?_⟩
  go_wp2
  rw [rounds_succ]
  refine wp_gen (fun W => w.grownBy W none ∧ Cs W g [.int .u64 p0, .int .u64 0, .int .u64 0, .pointer (some ⟨m0, 0, none⟩), .pointer none, .pointer none, .int .u64 0, .int .u64 0, .int .u64 0, .int .u64 0] ∧ g < W.heap.size ∧ Md W m0 p0) ⟨GA.out _ _ _ (gb_trans (gb_drew G1) gq), (C.drew.grown0 gq).set 3 _, by have := gq.size; simp at *; omega, MD.out _ _ _ _ _ M0 hmg0⟩ ?_
  clear c1 c2 G1 C X gq hbs hgb M0
  rintro w1x ⟨G1, C, hgs, M0⟩
  rw [← rounds_succ]
  rw [rounds_succ]
  go_wp2
  obtain ⟨bx, hbx⟩ : ∃ b, b = w1x.heap.size := ⟨_, rfl⟩
  rw [← hbx]
  refine wp_gen (fun W => w.grownBy W none ∧ Cs W g [.int .u64 p0, .int .u64 0, .int .u64 0, .pointer (some ⟨m0, 0, none⟩), .pointer none, .pointer none, .int .u64 0, .int .u64 0, .int .u64 0, .int .u64 0] ∧ Cs W bx [.int .u64 p1, .int .i64 56, .int .u64 5] ∧ g < bx ∧ bx < W.heap.size ∧ Md W m0 p0) ⟨gb_alloc G1 _, C.grown0 (gb_alloc (gb_refl _ _) _), by rw [hbx]; exact cs_new _ _ _, by omega, by rw [hbx]; simp, M0.grown0 (gb_alloc (gb_refl _ _) _)⟩ ?_
  clear G1 C hbx hgs M0
  rintro w1xa ⟨G1, C, X, hgb, hbs, M0⟩
  have c1 := C.cell 1 rfl
  have c2 := C.free 1 rfl
  have c3 := X.cell 0 rfl
  refine Canon.region_canon (by kernel_rfl) (by kernel_rfl) ?_
  go_wp2
  refine ⟨by kernel_rfl, ?_⟩
  go_wp2
  refine wp_gen (fun W => w.grownBy W none ∧ Cs W g [.int .u64 p0, .int .u64 p1, .int .u64 0, .pointer (some ⟨m0, 0, none⟩), .pointer none, .pointer none, .int .u64 0, .int .u64 0, .int .u64 0, .int .u64 0] ∧ Cs W bx [.int .u64 p1, .int .i64 56, .int .u64 5] ∧ bx < W.heap.size ∧ Md W m0 p0) ⟨GA.out _ _ _ (gb_drew G1), C.drew.set 1 _, X.drew.other (by omega) _ _, by simpa using hbs, MD.out _ _ _ _ _ M0.drew (by omega)⟩ ?_
  clear c1 c2 c3 G1 C X hbs M0
  rintro w1xb ⟨G1, C, X, hbs, M0⟩
  have c3 := X.cell 0 rfl
  refine Canon.region_canon (by kernel_rfl) (by kernel_rfl) ?_
  go_wp2_with fail
  refine (modNew_ok _ p1 Q1.out).mono ?_
  rintro e w1xc ⟨m1, rfl, M1, hm1, gq⟩
  have c1 := (C.drew.grown0 gq).cell 4 rfl
  have c2 := (C.drew.grown0 gq).free 4 rfl
  have hmg1 : g < m1 := Nat.lt_trans hgb (Nat.lt_of_lt_of_le hbs hm1)
  clear c3 hm1
  go_wp2
  refine ⟨by kernel_rfl, ?_⟩
  go_wp2
  rw [rounds_succ]
  refine wp_gen (fun W => w.grownBy W none ∧ Cs W g [.int .u64 p0, .int .u64 p1, .int .u64 0, .pointer (some ⟨m0, 0, none⟩), .pointer (some ⟨m1, 0, none⟩), .pointer none, .int .u64 0, .int .u64 0, .int .u64 0, .int .u64 0] ∧ g < W.heap.size ∧ Md W m0 p0 ∧ Md W m1 p1) ⟨GA.out _ _ _ (gb_trans (gb_drew G1) gq), (C.drew.grown0 gq).set 4 _, by have := gq.size; simp at *; omega, MD.out _ _ _ _ _ (M0.drew.grown0 gq) hmg0, MD.out _ _ _ _ _ M1 hmg1⟩ ?_
  clear c1 c2 G1 C X gq hbs hgb M0 M1
  rintro w1xx ⟨G1, C, hgs, M0, M1⟩
  rw [← rounds_succ]
  rw [rounds_succ]
  go_wp2
  obtain ⟨bx, hbx⟩ : ∃ b, b = w1xx.heap.size := ⟨_, rfl⟩
  rw [← hbx]
  refine wp_gen (fun W => w.grownBy W none ∧ Cs W g [.int .u64 p0, .int .u64 p1, .int .u64 0, .pointer (some ⟨m0, 0, none⟩), .pointer (some ⟨m1, 0, none⟩), .pointer none, .int .u64 0, .int .u64 0, .int .u64 0, .int .u64 0] ∧ Cs W bx [.int .u64 p2, .int .i64 57, .int .u64 3] ∧ g < bx ∧ bx < W.heap.size ∧ Md W m0 p0 ∧ Md W m1 p1) ⟨gb_alloc G1 _, C.grown0 (gb_alloc (gb_refl _ _) _), by rw [hbx]; exact cs_new _ _ _, by omega, by rw [hbx]; simp, M0.grown0 (gb_alloc (gb_refl _ _) _), M1.grown0 (gb_alloc (gb_refl _ _) _)⟩ ?_
  clear G1 C hbx hgs M0 M1
  rintro w1xxa ⟨G1, C, X, hgb, hbs, M0, M1⟩
  have c1 := C.cell 2 rfl
  have c2 := C.free 2 rfl
  have c3 := X.cell 0 rfl
  refine Canon.region_canon (by kernel_rfl) (by kernel_rfl) ?_
  go_wp2
  refine ⟨by kernel_rfl, ?_⟩
  go_wp2
  refine wp_gen (fun W => w.grownBy W none ∧ Cs W g [.int .u64 p0, .int .u64 p1, .int .u64 p2, .pointer (some ⟨m0, 0, none⟩), .pointer (some ⟨m1, 0, none⟩), .pointer none, .int .u64 0, .int .u64 0, .int .u64 0, .int .u64 0] ∧ Cs W bx [.int .u64 p2, .int .i64 57, .int .u64 3] ∧ bx < W.heap.size ∧ Md W m0 p0 ∧ Md W m1 p1) ⟨GA.out _ _ _ (gb_drew G1), C.drew.set 2 _, X.drew.other (by omega) _ _, by simpa using hbs, MD.out _ _ _ _ _ M0.drew (by omega), MD.out _ _ _ _ _ M1.drew (by omega)⟩ ?_
  clear c1 c2 c3 G1 C X hbs M0 M1
  rintro w1xxb ⟨G1, C, X, hbs, M0, M1⟩
  have c3 := X.cell 0 rfl
  refine Canon.region_canon (by kernel_rfl) (by kernel_rfl) ?_
  go_wp2_with fail
  refine (modNew_ok _ p2 Q2.out).mono ?_
  rintro e w1xxc ⟨m2, rfl, M2, hm2, gq⟩
  have c1 := (C.drew.grown0 gq).cell 5 rfl
  have c2 := (C.drew.grown0 gq).free 5 rfl
  have hmg2 : g < m2 := Nat.lt_trans hgb (Nat.lt_of_lt_of_le hbs hm2)
  clear c3 hm2
  go_wp2
  refine ⟨by kernel_rfl, ?_⟩
  go_wp2
  rw [rounds_succ]
  refine wp_gen (fun W => w.grownBy W none ∧ Cs W g [.int .u64 p0, .int .u64 p1, .int .u64 p2, .pointer (some ⟨m0, 0, none⟩), .pointer (some ⟨m1, 0, none⟩), .pointer (some ⟨m2, 0, none⟩), .int .u64 0, .int .u64 0, .int .u64 0, .int .u64 0] ∧ g < W.heap.size ∧ Md W m0 p0 ∧ Md W m1 p1 ∧ Md W m2 p2) ⟨GA.out _ _ _ (gb_trans (gb_drew G1) gq), (C.drew.grown0 gq).set 5 _, by have := gq.size; simp at *; omega, MD.out _ _ _ _ _ (M0.drew.grown0 gq) hmg0, MD.out _ _ _ _ _ (M1.drew.grown0 gq) hmg1, MD.out _ _ _ _ _ M2 hmg2⟩ ?_
  clear c1 c2 G1 C X gq hbs hgb M0 M1 M2
  rintro w1xxx ⟨G1, C, hgs, M0, M1, M2⟩
  have hm1 : g < m1 := by have := hmg1; omega
  have hm2 : g < m2 := by have := hmg2; omega
  clear M0 hgs
  have c4 := C.cell 4 rfl
  have c0 := C.cell 0 rfl
  go_wp2
  refine Canon.region_canon (by kernel_rfl) (by kernel_rfl) ?_
  go_wp2_with fail
  refine (modInv_c _ m1 p1 p0 M1.drew b0.1).mono ?_
  rintro e wd ⟨⟨i01, f, rfl, I⟩, gd⟩
  obtain ⟨rfl, i0, _, ci⟩ := I.is N1.out
  have c6 := (C.drew.grown0 gd).cell 6 rfl
  have f6 := (C.drew.grown0 gd).free 6 rfl
  clear c4 c0 I
  go_wp2
  refine ⟨by kernel_rfl, ?_⟩
  go_wp2
  refine wp_gen (fun W => w.grownBy W none ∧ Cs W g [.int .u64 p0, .int .u64 p1, .int .u64 p2, .pointer (some ⟨m0, 0, none⟩), .pointer (some ⟨m1, 0, none⟩), .pointer (some ⟨m2, 0, none⟩), .int .u64 i01, .int .u64 0, .int .u64 0, .int .u64 0] ∧ Md W m1 p1 ∧ Md W m2 p2) ⟨GA.out _ _ _ (gb_trans (gb_drew G1) gd), (C.drew.grown0 gd).set 6 _, MD.out _ _ _ _ _ (M1.drew.grown0 gd) hm1, MD.out _ _ _ _ _ (M2.drew.grown0 gd) hm2⟩ ?_
  clear c6 f6 G1 C M1 M2 gd
  rintro we ⟨G1, C, M1, M2⟩
  have c5 := C.cell 5 rfl
  have c0 := C.cell 0 rfl
  have c1 := C.cell 1 rfl
  have hF : Canon.SF [(⟨g, 5, none⟩, .pointer (some ⟨m2, 0, none⟩))] we := Canon.sf_cons c5 (Canon.sf_nil _)
  have HF := Lib.hid hF
  clear hF
  refine Canon.region_held [53] _ (by kernel_rfl) (by kernel_rfl) HF.out ?_
  refine Canon.segs_at 21 _ _ _ (by kernel_rfl) ?_
  simp only [List.take_succ_cons, List.take_zero, List.drop_succ_cons, List.drop_zero]
  go_wp2_with fail
  refine (modMul_c _ m2 p2 p0 p1 M2.drew b0.1 b1.1).mono ?_
  rintro e wf ⟨rfl, gf⟩
  clear c5 c0 c1
  go_wp2
  refine ⟨Canon.sf_grown0 HF.out.drew gf, ?_⟩
  refine Canon.segs_at 0 _ _ _ (by kernel_rfl) ?_
  simp only [List.take_succ_cons, List.take_zero, List.drop_succ_cons, List.drop_zero]
  go_wp2_with fail
  refine (modInv_c _ m2 p2 _ (M2.drew.grown0 gf) (Int.emod_nonneg _ (by have := Q2.out.lo; omega))).mono ?_
  rintro e wg ⟨⟨i2, f, rfl, I⟩, gg⟩
  obtain ⟨rfl, i1, _, ci2⟩ := I.is N2.out
  have CG := (C.drew.grown0 gf).grown0 gg
  have c7 := CG.cell 7 rfl
  have f7 := CG.free 7 rfl
  clear I
  go_wp2
  refine ⟨Canon.sf_grown0 (Canon.sf_grown0 HF.out.drew gf) gg, ?_⟩
  refine Canon.segs_at 5 _ _ _ (by kernel_rfl) ?_
  simp only [List.take_succ_cons, List.take_zero, List.drop_succ_cons, List.drop_zero]
  go_wp2
  refine ⟨Canon.sf_cons ((CG.set 7 _).cell 5 rfl) (Canon.sf_nil _), ?_⟩
  refine Canon.segs_end _ _ _ (by kernel_rfl) ?_
  go_wp2
  refine ⟨by kernel_rfl, by kernel_rfl, by kernel_rfl, ?_⟩
  go_wp2
  refine wp_gen (fun W => w.grownBy W none ∧ Cs W g [.int .u64 p0, .int .u64 p1, .int .u64 p2, .pointer (some ⟨m0, 0, none⟩), .pointer (some ⟨m1, 0, none⟩), .pointer (some ⟨m2, 0, none⟩), .int .u64 i01, .int .u64 i2, .int .u64 0, .int .u64 0] ∧ Md W m1 p1 ∧ Md W m2 p2) ⟨GA.out _ _ _ (gb_trans (gb_trans (gb_drew G1) gf) gg), CG.set 7 _, MD.out _ _ _ _ _ ((M1.drew.grown0 gf).grown0 gg) hm1, MD.out _ _ _ _ _ ((M2.drew.grown0 gf).grown0 gg) hm2⟩ ?_
  clear c7 f7 G1 C CG M1 M2 gf gg HF
  rintro wh ⟨G1, C, M1, M2⟩
  have c0 := C.cell 0 rfl
  have c1 := C.cell 1 rfl
  have c8 := C.cell 8 rfl
  have f8 := C.free 8 rfl
  have c9 := C.cell 9 rfl
  have f9 := C.free 9 rfl
  refine Canon.region_canon (by kernel_rfl) (by kernel_rfl) ?_
  go_wp2_with fail
  refine (mul64_c p0 p1 b0.1 (by omega) b1.1 (by omega) _).mono ?_
  rintro e wi ⟨rfl, hwi⟩
  subst hwi
  go_wp2
  refine ⟨by kernel_rfl, ?_⟩
  go_wp2
  have CF := ((C.set 8 (.int .u64 (p0 * p1 / 18446744073709551616))).set 9 (.int .u64 (p0 * p1 % 18446744073709551616))).drew
  have MA := (MD.out _ _ _ 9 (.int .u64 (p0 * p1 % 18446744073709551616)) (MD.out _ _ _ 8 (.int .u64 (p0 * p1 / 18446744073709551616)) M1 hm1) hm1).drew
  have MB := (MD.out _ _ _ 9 (.int .u64 (p0 * p1 % 18446744073709551616)) (MD.out _ _ _ 8 (.int .u64 (p0 * p1 / 18446744073709551616)) M2 hm2) hm2).drew
  have GF := gb_drew (GA.out _ 9 (.int .u64 (p0 * p1 % 18446744073709551616)) (GA.out _ 8 (.int .u64 (p0 * p1 / 18446744073709551616)) G1))
  have cj := ((Cg.mod p2 (p0 * p1)).mull i2).symm.trans ci2
  go_ret
  exact ⟨g, i01, i2, _, _, rfl, ⟨Q0.out, Q1.out, Q2.out, CF.cell 0 rfl, CF.cell 1 rfl, CF.cell 2 rfl, ⟨m1, CF.cell 4 rfl, MA⟩, ⟨m2, CF.cell 5 rfl, MB⟩, CF.cell 6 rfl, CF.cell 7 rfl, CF.cell 8 rfl, CF.cell 9 rfl, i0, i1, ci, cj, rfl, rfl⟩, GF⟩
end Go.Proofs.YtoiclkaecgpbbaaDoor
