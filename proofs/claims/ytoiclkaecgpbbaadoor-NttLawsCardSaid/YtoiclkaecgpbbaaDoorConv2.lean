/- Three residues: the numbers that are put together. -/
import Derived.Test.YtoiclkaecgpbbaaDoorModw7
import Derived.Test.YtoiclkaecgpbbaaDoorCrt
import Derived.LoopN
import Derived.Laws.Rows
namespace Go.Proofs.YtoiclkaecgpbbaaDoor
open Go.RowKit

theorem wp_gen {P : Program} {c : Code} {Q : Exit → Act → World → Prop} {a : Act} {w : World} (R : World → Prop) (hR : R w) (h : ∀ w', R w' → c.wp P Q a w') : c.wp P Q a w := h w hR
def aggB (P : Program) (ty : TypeId) : Bool := match P.underlying ty with
  | some (.struct _) => true
  | some (.array ..) => true
  | _ => false
theorem aggB_spec {P : Program} {ty : TypeId} (h : aggB P ty = true) : ∃ d, P.underlying ty = some d ∧ (match d with | .struct _ | .array _ _ => true | _ => false) = true := by
  unfold aggB at h
  split at h
  · rename_i e; exact ⟨_, e, rfl⟩
  · rename_i e; exact ⟨_, e, rfl⟩
  · cases h
/-- A result that lies in memory. -/
theorem res_agg {P : Program} {fn : Func} {p : Tmp} {ty : TypeId} (h : fn.results = #[.cell p ty]) {tmps : Array Value} {w : World} {g : Nat} {l : List Value} (hc : Cs w g l) (hp : tmps.getD p undef = .pointer (some ⟨g, 0, none⟩))
    (ha : aggB P ty = true) (hi : (P.info? ty).map (·.size) = some l.length) :
    (results fn tmps).run P w = .ok (.agg l.toArray) w := by
  obtain ⟨d, hu, hd⟩ := aggB_spec ha
  have hl : (loadCells ⟨g, 0, none⟩ l.length).run P w = .ok l.toArray w :=
    run_loadCells_list (P := P) w ⟨g, 0, none⟩ l (fun j v hv => by
      have hadd : (⟨g, 0, none⟩ : Addr).add j = ⟨g, j, none⟩ := by unfold Addr.add; split <;> simp_all
      rw [hadd]
      exact hc.cell j hv)
  have hr : (loadVar ty ⟨g, 0, none⟩).run P w = .ok (.agg l.toArray) w := by
    cases hq : P.info? ty with
    | none => simp [hq] at hi
    | some i =>
      have hs : i.size = l.length := by simpa [hq] using hi
      have hagg : (isAgg ty).run P w = .ok true w := by
        unfold isAgg
        rw [Sem.run_bind, run_underlying hu w]
        cases d <;> simp_all
      simp [loadVar, Sem.run_bind, hagg, sizeOf, typeInfo, hq, hs, hl]
  have hp' : tmps[p]?.getD undef = .pointer (some ⟨g, 0, none⟩) := by simpa using hp
  simp [results, h, hp', asAddr, hr]
/-- The record of three primes. -/
structure Crt (w : World) (g : Nat) (p0 p1 p2 i01 i2 hi lo : Int) : Prop where
  q0 : Pm p0
  q1 : Pm p1
  q2 : Pm p2
  c0 : w.cell? ⟨g, 0, none⟩ = some (.int .u64 p0)
  c1 : w.cell? ⟨g, 1, none⟩ = some (.int .u64 p1)
  c2 : w.cell? ⟨g, 2, none⟩ = some (.int .u64 p2)
  m1 : ∃ g1, w.cell? ⟨g, 4, none⟩ = some (.pointer (some ⟨g1, 0, none⟩)) ∧ Md w g1 p1
  m2 : ∃ g2, w.cell? ⟨g, 5, none⟩ = some (.pointer (some ⟨g2, 0, none⟩)) ∧ Md w g2 p2
  c6 : w.cell? ⟨g, 6, none⟩ = some (.int .u64 i01)
  c7 : w.cell? ⟨g, 7, none⟩ = some (.int .u64 i2)
  c8 : w.cell? ⟨g, 8, none⟩ = some (.int .u64 hi)
  c9 : w.cell? ⟨g, 9, none⟩ = some (.int .u64 lo)
  i0 : 0 ≤ i01
  i1 : 0 ≤ i2
  ci : Cg p1 (i01 * p0) 1
  ci2 : Cg p2 (i2 * (p0 * p1)) 1
  ehi : hi = p0 * p1 / 18446744073709551616
  elo : lo = p0 * p1 % 18446744073709551616
theorem Crt.grown0 {w w' : World} {g : Nat} {p0 p1 p2 i01 i2 hi lo : Int} (h : Crt w g p0 p1 p2 i01 i2 hi lo) (k : w.grownBy w' none) : Crt w' g p0 p1 p2 i01 i2 hi lo := by
  obtain ⟨q0, q1, q2, c0, c1, c2, ⟨g1, m1, d1⟩, ⟨g2, m2, d2⟩, c6, c7, c8, c9, i0, i1, ci, ci2, ehi, elo⟩ := h
  exact ⟨q0, q1, q2, gb_cell0 k c0, gb_cell0 k c1, gb_cell0 k c2, ⟨g1, gb_cell0 k m1, d1.grown0 k⟩, ⟨g2, gb_cell0 k m2, d2.grown0 k⟩, gb_cell0 k c6, gb_cell0 k c7, gb_cell0 k c8, gb_cell0 k c9, i0, i1, ci, ci2, ehi, elo⟩
theorem crt_get {w : World} {g : Nat} {p0 p1 p2 i01 i2 hi lo : Int} (h : Crt w g p0 p1 p2 i01 i2 hi lo) : ∃ g1 g2, ∀ w', w.grownBy w' none →
    w'.cell? ⟨g, 4, none⟩ = some (.pointer (some ⟨g1, 0, none⟩)) ∧ Md w' g1 p1 ∧ w'.cell? ⟨g, 5, none⟩ = some (.pointer (some ⟨g2, 0, none⟩)) ∧ Md w' g2 p2 := by
  obtain ⟨g1, m1, d1⟩ := h.m1
  obtain ⟨g2, m2, d2⟩ := h.m2
  exact ⟨g1, g2, fun w' k => ⟨gb_cell0 k m1, d1.grown0 k, gb_cell0 k m2, d2.grown0 k⟩⟩
set_option maxRecDepth 100000 in
set_option maxHeartbeats 4000000 in
theorem crt3_c (w : World) (g : Nat) (p0 p1 p2 i01 i2 hi lo r0 r1 r2 : Int) (h : Crt w g p0 p1 p2 i01 i2 hi lo) (h0 : 0 ≤ r0) (h0' : r0 < p0) (h1 : 0 ≤ r1) (h2 : 0 ≤ r2) :
    Calls Tryd.prog 86 #[.pointer (some ⟨g, 0, none⟩), .int .u64 r0, .int .u64 r1, .int .u64 r2] w fun e w' => ∃ a b c, e = .returned (.agg #[.int .u64 a, .int .u64 b, .int .u64 c]) ∧
      (0 ≤ a ∧ a < 18446744073709551616) ∧ (0 ≤ b ∧ b < 18446744073709551616) ∧ (0 ≤ c ∧ c < 18446744073709551616) ∧
      a + 18446744073709551616 * (b + 18446744073709551616 * c) < p0 * p1 * p2 ∧ Cg p0 (a + 18446744073709551616 * (b + 18446744073709551616 * c)) r0 ∧ Cg p1 (a + 18446744073709551616 * (b + 18446744073709551616 * c)) r1 ∧ Cg p2 (a + 18446744073709551616 * (b + 18446744073709551616 * c)) r2 ∧ w.grownBy w' none := by
  obtain ⟨g1, g2, hm⟩ := crt_get h
  obtain ⟨k, P1, P0, l, d, hh, x, j, a1, a0, b1, b0, o0, e0, mid, e, o1, e1, be, o2, W⟩ := crt_all h.q0.lo h.q0.hi h.q1.lo h.q1.hi h.q2.lo h.q2.hi h.ci h.ci2 h.ehi h.elo h0 h0' (r1 := r1) (r2 := r2)
  have hN := h.elo
  have hl0 : 0 ≤ lo ∧ lo < 18446744073709551616 := by omega
  have hh0 : 0 ≤ hi ∧ hi < 18446744073709551616 := by
    have m1 := mul62 (a := p0) (b := p1) (by have := h.q0.lo; omega) h.q0.hi (by have := h.q1.lo; omega) h.q1.hi
    have m2 : 0 ≤ p0 * p1 := Int.mul_nonneg (by have := h.q0.lo; omega) (by have := h.q1.lo; omega)
    have := h.ehi
    omega
  have bp0 : 0 ≤ p0 ∧ p0 < 18446744073709551616 := by have := h.q0.lo; have := h.q0.hi; omega
  have bp1 : p1 < 18446744073709551616 := by have := h.q1.hi; omega
  have bp2 : p2 < 18446744073709551616 := by have := h.q2.hi; omega
  have A1 : ∀ w, (callFunc 88 #[.int .u64 P0, .int .u64 r0, .int .u64 0]).run Tryd.prog w = .ok (.value (.tuple #[.int .u64 l, .int .u64 d])) w := fun w => by
    rw [add64_run P0 r0 0 W.bP0.1 h0 (by decide) (by decide), Int.add_zero, W.el, W.ed]
  have A2 : ∀ w, (callFunc 88 #[.int .u64 a0, .int .u64 l, .int .u64 0]).run Tryd.prog w = .ok (.value (.tuple #[.int .u64 o0, .int .u64 e0])) w := fun w => by
    rw [add64_run a0 l 0 W.ba0.1 W.bl.1 (by decide) (by decide), Int.add_zero, W.eo0, W.ee0]
  have A3 : ∀ w, (callFunc 88 #[.int .u64 a1, .int .u64 b0, .int .u64 0]).run Tryd.prog w = .ok (.value (.tuple #[.int .u64 mid, .int .u64 e])) w := fun w => by
    rw [add64_run a1 b0 0 W.ba1.1 W.bb0.1 (by decide) (by decide), Int.add_zero, W.em, W.ee]
  have A4 : ∀ w, (callFunc 88 #[.int .u64 mid, .int .u64 hh, .int .u64 e0]).run Tryd.prog w = .ok (.value (.tuple #[.int .u64 o1, .int .u64 e1])) w := fun w => by
    rw [add64_run mid hh e0 W.bm.1 W.bh.1 W.be0.1 W.be0.2, W.eo1, W.ee1]
  have V1 : IntKind.u64.wrap (P1 + d) = hh := by rw [W.eh, IntKind.wrap_u64]; have := W.bh; omega
  have V2 : IntKind.u64.wrap (b1 + e) = be := by rw [W.ebe, IntKind.wrap_u64]; have := W.bbe; omega
  have V3 : IntKind.u64.wrap (be + e1) = o2 := by rw [W.eo2, IntKind.wrap_u64]; have := W.bo2; omega
  have HW := Lib.hid W
  have HC := Lib.hid h
  have HM := Lib.hid hm
  clear hm h W hN
  go_enter Tryd.func86, Tryd.ntmps86
  go_wp2
  have G1 := gb_alloc (gb_refl w none) (Obj.cells #[.int .u64 0, .int .u64 0, .int .u64 0] 34)
  refine wp_gen (fun W => w.grownBy W none ∧ Cs W w.heap.size [.int .u64 0, .int .u64 0, .int .u64 0] ∧ w.heap.size < W.heap.size) ⟨G1, cs_new _ _ _, by simp⟩ ?_
  rintro wa ⟨GA, CA, hsz⟩
  clear G1
  obtain ⟨f4, M1, f5, M2⟩ := HM.out wa GA
  have f6 := gb_cell0 GA HC.out.c6
  have hF : Canon.SF [(⟨g, 4, none⟩, .pointer (some ⟨g1, 0, none⟩)), (⟨g, 6, none⟩, .int .u64 i01)] wa := Canon.sf_cons f4 (Canon.sf_cons f6 (Canon.sf_nil _))
  have HF := Lib.hid hF
  have MM := Lib.hid M1
  clear hF M2 M1 f5 f6
  refine Canon.region_held [26, 38] _ (by kernel_rfl) (by kernel_rfl) HF.out ?_
  refine Canon.segs_at 12 _ _ _ (by kernel_rfl) ?_
  simp only [List.take_succ_cons, List.take_zero, List.drop_succ_cons, List.drop_zero]
  clear f4
  have f4 := gb_cell0 GA (HM.out w (gb_refl _ _)).1
  go_wp2_with fail
  refine (modSub_c _ g1 p1 r1 r0 MM.out.drew h1 h0).mono ?_
  rintro e wb ⟨rfl, gb⟩
  have G2 := gb_trans (gb_drew GA) gb
  clear f4
  have f6 := gb_cell0 G2 HC.out.c6
  go_wp2
  refine ⟨Canon.sf_grown0 HF.out.drew gb, ?_⟩
  refine Canon.segs_at 4 _ _ _ (by kernel_rfl) ?_
  simp only [List.take_succ_cons, List.take_zero, List.drop_succ_cons, List.drop_zero]
  go_wp2_with fail
  refine (modMul_c _ g1 p1 _ i01 (MM.out.drew.grown0 gb) (Int.emod_nonneg _ (by have := HC.out.q1.lo; omega)) HC.out.i0).mono ?_
  rintro e wc ⟨rfl, gc⟩
  rw [HW.out.ek]
  have G3 := gb_trans G2 gc
  clear f6
  go_wp2
  refine ⟨Canon.sf_grown0 (Canon.sf_grown0 HF.out.drew gb) gc, ?_⟩
  refine Canon.segs_end _ _ _ (by kernel_rfl) ?_
  go_wp2
  refine ⟨by kernel_rfl, by kernel_rfl, by kernel_rfl, ?_⟩
  have f0 := gb_cell0 G3 HC.out.c0
  have bk := HW.out.bk
  go_wp2_with fail
  refine (mul64_c p0 k bp0.1 bp0.2 bk.1 (by omega) _).mono ?_
  rintro e wd ⟨rfl, rfl⟩
  rw [HW.out.eP1, HW.out.eP0]
  clear f0
  have CB := CA.grown0 (gb_trans (gb_trans (gb_drew (gb_refl wa none)) gb) gc)
  have HCB := Lib.hid CB
  clear CB CA HF MM
  go_wp2
  refine wp_gen (fun W => W = wd) rfl ?_
  rintro we rfl
  obtain ⟨_, _, f5, M2⟩ := HM.out we G3
  have MM := Lib.hid M2
  have hF : Canon.SF [(⟨g, 5, none⟩, .pointer (some ⟨g2, 0, none⟩)), (⟨g, 5, none⟩, .pointer (some ⟨g2, 0, none⟩))] we := Canon.sf_cons f5 (Canon.sf_cons f5 (Canon.sf_nil _))
  have HF := Lib.hid hF
  have bh := HW.out.bh.1
  have bl := HW.out.bl.1
  clear hF M2
  refine Canon.region_held [63, 68] _ (by kernel_rfl) (by kernel_rfl) HF.out ?_
  refine Canon.segs_at 16 _ _ _ (by kernel_rfl) ?_
  simp only [List.take_succ_cons, List.take_zero, List.drop_succ_cons, List.drop_zero]
  go_wp2_with fail
  refine (modMul_c _ g2 p2 hh 9223372036854775808 MM.out.drew bh (by decide)).mono ?_
  rintro e wf ⟨rfl, gf⟩
  go_wp2
  refine ⟨Canon.sf_grown0 HF.out.drew gf, ?_⟩
  refine Canon.segs_at 0 _ _ _ (by kernel_rfl) ?_
  simp only [List.take_succ_cons, List.take_zero, List.drop_succ_cons, List.drop_zero]
  go_wp2_with fail
  refine (modMul_c _ g2 p2 _ 2 (MM.out.drew.grown0 gf) (Int.emod_nonneg _ (by have := HC.out.q2.lo; omega)) (by decide)).mono ?_
  rintro e wg ⟨rfl, gg⟩
  go_wp2
  refine ⟨Canon.sf_grown0 (Canon.sf_grown0 HF.out.drew gf) gg, ?_⟩
  refine Canon.segs_at 1 _ _ _ (by kernel_rfl) ?_
  simp only [List.take_succ_cons, List.take_zero, List.drop_succ_cons, List.drop_zero]
  go_wp2_with fail
  refine (modAdd_c _ g2 p2 _ l ((MM.out.drew.grown0 gf).grown0 gg) (Int.emod_nonneg _ (by have := HC.out.q2.lo; omega)) bl).mono ?_
  rintro e wh ⟨rfl, gh⟩
  rw [HW.out.ex]
  go_wp2
  refine ⟨Canon.sf_grown0 (Canon.sf_grown0 (Canon.sf_grown0 HF.out.drew gf) gg) gh, ?_⟩
  refine Canon.segs_end _ _ _ (by kernel_rfl) ?_
  go_wp2
  refine ⟨by kernel_rfl, by kernel_rfl, by kernel_rfl, ?_⟩
  have R4 := gb_trans (gb_trans (gb_trans (gb_drew (gb_refl we none)) gf) gg) gh
  have G4 := gb_trans G3 R4
  have HCC := Lib.hid (HCB.out.grown0 R4)
  clear HCB HF MM f5 R4
  go_wp2
  obtain ⟨_, _, f5, M2⟩ := HM.out wh G4
  have MM := Lib.hid M2
  have f7 := gb_cell0 G4 HC.out.c7
  have hF : Canon.SF [(⟨g, 5, none⟩, .pointer (some ⟨g2, 0, none⟩)), (⟨g, 7, none⟩, .int .u64 i2)] wh := Canon.sf_cons f5 (Canon.sf_cons f7 (Canon.sf_nil _))
  have HF := Lib.hid hF
  have bx := HW.out.bx.1
  clear hF M2 f7
  refine Canon.region_held [83, 95] _ (by kernel_rfl) (by kernel_rfl) HF.out ?_
  refine Canon.segs_at 12 _ _ _ (by kernel_rfl) ?_
  simp only [List.take_succ_cons, List.take_zero, List.drop_succ_cons, List.drop_zero]
  go_wp2_with fail
  refine (modSub_c _ g2 p2 r2 x MM.out.drew h2 bx).mono ?_
  rintro e wi ⟨rfl, gi⟩
  have G5 := gb_trans (gb_drew G4) gi
  clear f5
  have f7 := gb_cell0 G5 HC.out.c7
  go_wp2
  refine ⟨Canon.sf_grown0 HF.out.drew gi, ?_⟩
  refine Canon.segs_at 4 _ _ _ (by kernel_rfl) ?_
  simp only [List.take_succ_cons, List.take_zero, List.drop_succ_cons, List.drop_zero]
  go_wp2_with fail
  refine (modMul_c _ g2 p2 _ i2 (MM.out.drew.grown0 gi) (Int.emod_nonneg _ (by have := HC.out.q2.lo; omega)) HC.out.i1).mono ?_
  rintro e wj ⟨rfl, gj⟩
  rw [HW.out.ej]
  have G6 := gb_trans G5 gj
  clear f7
  go_wp2
  refine ⟨Canon.sf_grown0 (Canon.sf_grown0 HF.out.drew gi) gj, ?_⟩
  refine Canon.segs_end _ _ _ (by kernel_rfl) ?_
  go_wp2
  refine ⟨by kernel_rfl, by kernel_rfl, by kernel_rfl, ?_⟩
  have HCD := Lib.hid (HCC.out.grown0 (gb_trans (gb_trans (gb_drew (gb_refl wh none)) gi) gj))
  clear HF MM HCC
  have f9 := gb_cell0 G6 HC.out.c9
  have f8 := gb_cell0 G6 HC.out.c8
  have bj := HW.out.bj
  go_wp2_with fail
  refine (mul64_c lo j hl0.1 hl0.2 bj.1 (by omega) _).mono ?_
  rintro e wk ⟨rfl, rfl⟩
  rw [HW.out.ea1, HW.out.ea0]
  go_wp2_with fail
  refine (mul64_c hi j hh0.1 hh0.2 bj.1 (by omega) _).mono ?_
  rintro e wl ⟨rfl, rfl⟩
  rw [HW.out.eb1, HW.out.eb0]
  clear f9 f8
  have s0 := fun o => (HCD.out.grown0 (gb_alloc (gb_refl wl none) o)).cell 0 rfl
  have s1 := fun o => (HCD.out.grown0 (gb_alloc (gb_refl wl none) o)).cell 1 rfl
  have s2 := fun o => (HCD.out.grown0 (gb_alloc (gb_refl wl none) o)).cell 2 rfl
  have t0 := fun o => (HCD.out.grown0 (gb_alloc (gb_refl wl none) o)).free 0 rfl
  have t1 := fun o => (HCD.out.grown0 (gb_alloc (gb_refl wl none) o)).free 1 rfl
  have t2 := fun o => (HCD.out.grown0 (gb_alloc (gb_refl wl none) o)).free 2 rfl
  go_wp2
  have F := (((HCD.out.grown0 (gb_alloc (gb_refl wl none) (Obj.cells #[.int .u64 o0, .int .u64 o1, .int .u64 o2] 34))).set 0 (.int .u64 o0)).set 1 (.int .u64 o1)).set 2 (.int .u64 o2)
  have G7 := gb_set (p := ⟨w.heap.size, 2, none⟩) (gb_set (p := ⟨w.heap.size, 1, none⟩) (gb_set (p := ⟨w.heap.size, 0, none⟩) (gb_alloc G6 (Obj.cells #[.int .u64 o0, .int .u64 o1, .int .u64 o2] 34)) (Nat.le_refl _) (.int .u64 o0)) (Nat.le_refl _) (.int .u64 o1)) (Nat.le_refl _) (.int .u64 o2)
  (try simp only [Exit.inBlock, Exit.then])
  refine bodyPost_ret (res_agg rfl F rfl (by kernel_rfl) (by kernel_rfl)) rfl ?_
  exact ⟨o0, o1, o2, rfl, HW.out.bo0, HW.out.bo1, HW.out.bo2, HW.out.vlt, HW.out.v0, HW.out.v1, HW.out.v2, G7⟩
end Go.Proofs.YtoiclkaecgpbbaaDoor
