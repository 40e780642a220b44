/- Chapter 9: carried sums: the statement. -/
import Derived.Test.YteklffikijpocaaLaw09
import Derived.Deep.CutBlock
namespace Go.Proofs.Yteklffikijpocaa
open Go.RowKit

theorem built3 (w : World) (t : TypeId) (x y z : Int) (g : Nat) (hg : g = w.heap.size) : ∀ j, j < [x, y, z].length → (w.alloc (.cells #[.int .u64 x, .int .u64 y, .int .u64 z] t)).cell? ((⟨g, 0, none⟩ : Addr).add j) = some (.int .u64 (rd [x, y, z] j)) := fun j hj => by
  subst hg
  have hj : j < 3 := hj
  rcases j with _ | _ | _ | j
  · exact (cs_new w #[.int .u64 x, .int .u64 y, .int .u64 z] t).cell 0 rfl
  · exact (cs_new w #[.int .u64 x, .int .u64 y, .int .u64 z] t).cell 1 rfl
  · exact (cs_new w #[.int .u64 x, .int .u64 y, .int .u64 z] t).cell 2 rfl
  · omega
theorem hor_step {t : Nat → Nat} {n j m : Nat} (hj : j < n) (h : m = horT t (n - (j + 1)) (j + 1)) : m * 2 ^ 64 + t j = horT t (n - j) j := by
  rw [show n - j = (n - (j + 1)) + 1 by omega, horT, ← h]
  omega
theorem hor_sum (t : Nat → Nat) (n : Nat) : horT t n 0 = sumT t n := by
  have := sumT_hor t n 0
  rw [Nat.zero_add] at this
  rw [this, sumT]; simp
theorem mem_cells {w : World} {v : Value} {n : Nat} {fl : List Int} (h : Cells w v n 3 (fun j => .int .u64 (rd fl j))) {j : Nat} (hj : j < n) : ∃ b o c, v = .slice (some ⟨b, o, none⟩) n c ∧ n ≤ c ∧ c ≤ 9223372036854775807 ∧
    w.cell? ⟨b, o + j * 3, none⟩ = some (.int .u64 (rd fl (3 * j))) ∧ w.cell? ⟨b, o + j * 3 + 1, none⟩ = some (.int .u64 (rd fl (3 * j + 1))) ∧ w.cell? ⟨b, o + j * 3 + 2, none⟩ = some (.int .u64 (rd fl (3 * j + 2))) := by
  obtain ⟨A, c, rfl, h1, h2, h4⟩ := h
  obtain ⟨b, o, rfl, hc⟩ := h4 (by omega)
  exact ⟨b, o, c, rfl, h1, h2, by rw [Nat.mul_comm]; exact hc (3 * j) (by omega), by rw [Nat.mul_comm j]; exact hc (3 * j + 1) (by omega), by rw [Nat.mul_comm j]; exact hc (3 * j + 2) (by omega)⟩
set_option maxRecDepth 100000 in
set_option maxHeartbeats 4000000 in
theorem ConvCarries_walk (A0 : Option Addr) (l0 c0 : Nat) (z0 : List Int) (A1 : Option Addr) (l1 c1 : Nat) (z1 : List Int) (A2 : Option Addr) (l2 c2 : Nat) (z2 : List Int) (w : World) (h0 : Sl w (.slice A0 l0 c0) z0) (h1 : Sl w (.slice A1 l1 c1) z1) (h2 : Sl w (.slice A2 l2 c2) z2) :
    Calls Try.prog 6 #[.slice A0 l0 c0, .slice A1 l1 c1, .slice A2 l2 c2] w fun e w' => e = .returned (.bool true) ∧ w.grownBy w' none := by
  have H0 := Lib.hid h0
  have H1 := Lib.hid h1
  have H2 := Lib.hid h2
  clear h0 h1 h2
  go_enter Try.func6, Try.ntmps6
  go_wp2_with fail
  refine (cut_c _ _ z0 20 (by decide) H0.out).mono ?_
  rintro e w' ⟨u0, rfl, hu0, rfl⟩
  go_wp2_with fail
  refine (cut_c _ _ z1 20 (by decide) H1.out).mono ?_
  rintro e w' ⟨u1, rfl, hu1, rfl⟩
  go_wp2_with fail
  refine (cut_c _ _ z2 20 (by decide) H2.out).mono ?_
  rintro e w' ⟨u2, rfl, hu2, rfl⟩
  obtain ⟨w, rfl⟩ : ∃ w, w = w' := ⟨_, rfl⟩
  have hl0 : (z0.take 20).length ≤ 20 := by rw [List.length_take]; omega
  obtain ⟨xs, hxs⟩ : ∃ xs, xs = z0.take 20 := ⟨_, rfl⟩
  obtain ⟨ys, hys⟩ : ∃ xs, xs = z1.take 20 := ⟨_, rfl⟩
  obtain ⟨zs, hzs⟩ : ∃ xs, xs = z2.take 20 := ⟨_, rfl⟩
  rw [← hxs] at hu0 hl0
  rw [← hys] at hu1
  rw [← hzs] at hu2
  clear hxs hys hzs H0 H1 H2
  obtain ⟨A0', d0, rfl, a1, a2, a3, a4⟩ := hu0
  obtain ⟨A1', d1, rfl, b1, b2, b3, b4⟩ := hu1
  obtain ⟨A2', d2, rfl, e1, e2, e3, e4⟩ := hu2
  obtain ⟨la, hla⟩ : ∃ l, l = xs.length := ⟨_, rfl⟩
  obtain ⟨lb, hlb⟩ : ∃ l, l = ys.length := ⟨_, rfl⟩
  obtain ⟨lc, hlc⟩ : ∃ l, l = zs.length := ⟨_, rfl⟩
  rw [← hla] at a1 a4 hl0
  rw [← hlb] at b1 b4
  rw [← hlc] at e1 e4
  rw [← hla, ← hlb, ← hlc]
  have AW := Lib.hid a3
  have BW := Lib.hid b3
  have EW := Lib.hid e3
  clear hla hlb hlc a3 b3 e3
  go_wp2
  go_loopw [7, 8] (fun v7 v8 wr => ∃ (k : Nat) (fl : List Int), v8 = .int .i64 k ∧ k ≤ la ∧ Own3 wr w.heap.size v7 k fl ∧ w.grownBy wr none) (fun _ v8 _ => la - (intOf v8).toNat)
  case atStart => exact ⟨0, [], rfl, by omega, own3_nil _ _, gb_refl _ _⟩
  case round =>
    obtain ⟨k, fl, rfl, hk, ow, G⟩ := hrel
    have OW := Lib.hid ow
    have GG := Lib.hid G
    clear ow
    by_cases hka : k < la
    · obtain ⟨ba, oa, rfl, hca⟩ := a4 (by omega)
      have x1 := gb_cell0 G (hca k hka)
      have xw := rd_w AW.out k
      obtain ⟨x, hx⟩ : ∃ x, x = rd xs k := ⟨_, rfl⟩
      rw [← hx] at x1 xw
      clear hca hx a4
      by_cases hkb : k < lb
      · obtain ⟨bb, ob, rfl, hcb⟩ := b4 (by omega)
        have y1 := fun o => gb_cell0 (gb_alloc G o) (hcb k hkb)
        have yw := rd_w BW.out k
        obtain ⟨y, hy⟩ : ∃ y, y = rd ys k := ⟨_, rfl⟩
        rw [← hy] at y1 yw
        clear hcb hy b4
        by_cases hkc : k < lc
        · obtain ⟨bc, oc, rfl, hcc⟩ := e4 (by omega)
          have z1 := fun o => gb_cell0 (gb_alloc G o) (hcc k hkc)
          have zw := rd_w EW.out k
          obtain ⟨z, hz⟩ : ∃ z, z = rd zs k := ⟨_, rfl⟩
          rw [← hz] at z1 zw
          clear hcc hz e4
          have W3 : Hid (Ws [x, y, z]) := Lib.hid (ws_three xw yw zw)
          clear G xw
          go_wp2_with (at_builtin; refine own3_append 40 (by kernel_rfl) (.tmp 47) (.tmp 49) rfl rfl _ k fl rfl (OW.out.grown0 (gb_alloc (gb_alloc (gb_refl wr none) _) _)) _ 1 1 [x, y, z] rfl rfl W3.out (built3 _ _ _ _ _ _ (by simp)) (by omega) (gb_alloc (gb_alloc GG.out _) _).size ?_; intro v1 w1 ow1 g1)
          have G1 := Own3.gb (OW.out.grown0 (gb_alloc (gb_alloc (gb_refl wr none) _) _)) (gb_alloc (gb_alloc GG.out _) _) g1
          clear g1
          go_roundw
          case rel => exact ⟨k + 1, fl ++ [x, y, z], by go_num, by omega, ow1, G1⟩
          case measure => simp [intOf]; omega
        · clear e4
          have W3 : Hid (Ws [x, y, 0]) := Lib.hid (ws_three xw yw ⟨by decide, by decide⟩)
          clear G xw
          go_wp2_with (at_builtin; refine own3_append 40 (by kernel_rfl) (.tmp 47) (.tmp 49) rfl rfl _ k fl rfl (OW.out.grown0 (gb_alloc (gb_alloc (gb_refl wr none) _) _)) _ 1 1 [x, y, 0] rfl rfl W3.out (built3 _ _ _ _ _ _ (by simp)) (by omega) (gb_alloc (gb_alloc GG.out _) _).size ?_; intro v1 w1 ow1 g1)
          have G1 := Own3.gb (OW.out.grown0 (gb_alloc (gb_alloc (gb_refl wr none) _) _)) (gb_alloc (gb_alloc GG.out _) _) g1
          clear g1
          go_roundw
          case rel => exact ⟨k + 1, fl ++ [x, y, 0], by go_num, by omega, ow1, G1⟩
          case measure => simp [intOf]; omega
      · clear b4
        by_cases hkc : k < lc
        · obtain ⟨bc, oc, rfl, hcc⟩ := e4 (by omega)
          have z1 := fun o => gb_cell0 (gb_alloc G o) (hcc k hkc)
          have zw := rd_w EW.out k
          obtain ⟨z, hz⟩ : ∃ z, z = rd zs k := ⟨_, rfl⟩
          rw [← hz] at z1 zw
          clear hcc hz e4
          have W3 : Hid (Ws [x, 0, z]) := Lib.hid (ws_three xw ⟨by decide, by decide⟩ zw)
          clear G xw
          go_wp2_with (at_builtin; refine own3_append 40 (by kernel_rfl) (.tmp 47) (.tmp 49) rfl rfl _ k fl rfl (OW.out.grown0 (gb_alloc (gb_alloc (gb_refl wr none) _) _)) _ 1 1 [x, 0, z] rfl rfl W3.out (built3 _ _ _ _ _ _ (by simp)) (by omega) (gb_alloc (gb_alloc GG.out _) _).size ?_; intro v1 w1 ow1 g1)
          have G1 := Own3.gb (OW.out.grown0 (gb_alloc (gb_alloc (gb_refl wr none) _) _)) (gb_alloc (gb_alloc GG.out _) _) g1
          clear g1
          go_roundw
          case rel => exact ⟨k + 1, fl ++ [x, 0, z], by go_num, by omega, ow1, G1⟩
          case measure => simp [intOf]; omega
        · clear e4
          have W3 : Hid (Ws [x, 0, 0]) := Lib.hid (ws_three xw ⟨by decide, by decide⟩ ⟨by decide, by decide⟩)
          clear G xw
          go_wp2_with (at_builtin; refine own3_append 40 (by kernel_rfl) (.tmp 47) (.tmp 49) rfl rfl _ k fl rfl (OW.out.grown0 (gb_alloc (gb_alloc (gb_refl wr none) _) _)) _ 1 1 [x, 0, 0] rfl rfl W3.out (built3 _ _ _ _ _ _ (by simp)) (by omega) (gb_alloc (gb_alloc GG.out _) _).size ?_; intro v1 w1 ow1 g1)
          have G1 := Own3.gb (OW.out.grown0 (gb_alloc (gb_alloc (gb_refl wr none) _) _)) (gb_alloc (gb_alloc GG.out _) _) g1
          clear g1
          go_roundw
          case rel => exact ⟨k + 1, fl ++ [x, 0, 0], by go_num, by omega, ow1, G1⟩
          case measure => simp [intOf]; omega
    · obtain rfl : k = la := by omega
      clear a4 b4 e4 G
      obtain ⟨wo, rfl⟩ : ∃ wo : World, wo = wr := ⟨_, rfl⟩
      obtain ⟨vl, rfl⟩ : ∃ vl, vl = u7 := ⟨_, rfl⟩
      have cc := OW.out.cells
      have CC := Lib.hid cc
      obtain ⟨A, c, rfl, p1, p2, p4⟩ := cc
      obtain ⟨t, ht⟩ : ∃ t, t = t3 fl := ⟨_, rfl⟩
      have HT := Lib.hid ht
      have FW := Lib.hid OW.out.2.1
      clear ht OW p4
      go_wp2
      go_loopw [10, 11] (fun v10 v11 wq => ∃ (j m : Nat), v11 = .int .i64 ((j : Int) - 1) ∧ j ≤ k ∧ Nm wq v10 m (8 + 4 * (k - j)) ∧ m = horT t (k - j) j ∧ wo.grownBy wq none) (fun _ v11 _ => (intOf v11 + 1).toNat)
      case atStart => exact ⟨k, 0, rfl, by omega, nm_nil _ _, by rw [Nat.sub_self]; rfl, gb_refl _ _⟩
      case round =>
        obtain ⟨j, m, rfl, hj, hm, hmv, R⟩ := hrel
        have HM := Lib.hid hmv
        have RR := Lib.hid R
        clear hmv R
        by_cases hj0 : j = 0
        · subst hj0
          have hms : m = sumT t k := by rw [HM.out, Nat.sub_zero, hor_sum]
          have HMS := Lib.hid hms
          clear hms HM
          go_wp2_with fail
          refine (carry_c _ _ fl k (CC.out.grown0 RR.out) FW.out (by omega)).mono ?_
          rintro e wa ⟨x, rfl, ⟨qs, ow2, nz2, hz2⟩, ga⟩
          have hwd : Wd wa x m := ⟨qs, ow2.sl, nz2, by rw [HMS.out, HT.out]; exact hz2⟩
          have HWD := Lib.hid hwd
          clear ow2 nz2 hz2 hwd
          go_wp2_with fail
          refine (same2_c _ _ _ m _ (hm.grown0 ga) HWD.out (by omega)).mono ?_
          rintro e wb ⟨rfl, gb⟩
          go_wp2_with fail
          refine (wakes09_c _).mono ?_
          rintro e wc ⟨rfl, gc⟩
          go_wp2
          go_ret
          exact ⟨rfl, gb_trans (gb_trans (gb_trans (gb_trans GG.out RR.out) ga) gb) gc⟩
        · obtain ⟨i, rfl⟩ : ∃ i, j = i + 1 := ⟨j - 1, by omega⟩
          have ei : ((i + 1 : Nat) : Int) - 1 = (i : Int) := by omega
          obtain ⟨bf, of, cf, ef, _, _, f0, f1, f2⟩ := mem_cells (CC.out.grown0 RR.out) (show i < k by omega)
          simp only [Value.slice.injEq, true_and] at ef
          obtain ⟨rfl, rfl⟩ := ef
          have hst := hor_step (show i < k by omega) HM.out
          have HST := Lib.hid hst
          clear hst HM
          obtain ⟨x0, hx0⟩ : ∃ x, x = rd fl (3 * i) := ⟨_, rfl⟩
          obtain ⟨x1, hx1⟩ : ∃ x, x = rd fl (3 * i + 1) := ⟨_, rfl⟩
          obtain ⟨x2, hx2⟩ : ∃ x, x = rd fl (3 * i + 2) := ⟨_, rfl⟩
          have w0 := rd_w FW.out (3 * i)
          have w1 := rd_w FW.out (3 * i + 1)
          have w2 := rd_w FW.out (3 * i + 2)
          rw [← hx0] at f0 w0
          rw [← hx1] at f1 w1
          rw [← hx2] at f2 w2
          have hti : val B64 [x0, x1, x2] = t i := by rw [hx0, hx1, hx2, HT.out]; rfl
          have HTI := Lib.hid hti
          have W0 := Lib.hid w0
          have W1 := Lib.hid w1
          have W2 := Lib.hid w2
          rw [ei]
          clear hx0 hx1 hx2 ei hti w0 w1 w2
          have hF : Canon.SF [(⟨bf, of + i * 3, none⟩, .agg #[.int .u64 x0, .int .u64 x1, .int .u64 x2])] wr := Canon.sf_agg (fun j u hu => by
            rcases j with _ | _ | _ | j
            · cases hu; exact f0
            · cases hu; exact f1
            · cases hu; exact f2
            · cases hu) (Canon.sf_nil _)
          have HF := Lib.hid hF
          clear hF
          go_wp2
          refine Canon.region_held [63] _ (by kernel_rfl) (by kernel_rfl) HF.out ?_
          refine Canon.segs_at 1 _ _ _ (by kernel_rfl) ?_
          simp only [List.take_succ_cons, List.take_zero, List.drop_succ_cons, List.drop_zero]
          go_wp2_with fail
          refine (shl_c _ _ m 64 (8 + 4 * (k - (i + 1))) (hm.grown0 (gb_drew (gb_refl _ _))) (by omega) (by decide)).mono ?_
          rintro e wa ⟨xa, rfl, na, ga⟩
          go_wp2
          have q0 := gb_cell0 ga f0
          have q1 := gb_cell0 ga f1
          have q2 := gb_cell0 ga f2
          clear f0 f1 f2
          refine ⟨Canon.sf_grown0 HF.out.drew ga, ?_⟩
          refine Canon.segs_at 4 _ _ _ (by kernel_rfl) ?_
          simp only [List.take_succ_cons, List.take_zero, List.drop_succ_cons, List.drop_zero]
          go_wp2_with fail
          refine (three_c _ x0 x1 x2 W0.out W1.out W2.out).mono ?_
          rintro e wb ⟨xb, rfl, nb, gb⟩
          rw [HTI.out] at nb
          go_wp2
          refine ⟨Canon.sf_grown0 (Canon.sf_grown0 HF.out.drew ga) gb, ?_⟩
          refine Canon.segs_at 0 _ _ _ (by kernel_rfl) ?_
          simp only [List.take_succ_cons, List.take_zero, List.drop_succ_cons, List.drop_zero]
          go_wp2_with fail
          refine (add_c _ _ _ _ _ _ _ (na.grown0 gb) nb (by omega) (by decide)).mono ?_
          rintro e wc ⟨xc, rfl, nc, gc⟩
          rw [HST.out] at nc
          go_wp2
          refine ⟨Canon.sf_grown0 (Canon.sf_grown0 (Canon.sf_grown0 HF.out.drew ga) gb) gc, ?_⟩
          refine Canon.segs_end _ _ _ (by kernel_rfl) ?_
          go_wp2
          refine ⟨by kernel_rfl, by kernel_rfl, by kernel_rfl, ?_⟩
          have G9 := gb_trans (gb_trans (gb_trans (gb_drew RR.out) ga) gb) gc
          clear q0 q1 q2
          go_wp2
          go_roundw
          case rel => exact ⟨i, _, rfl, by omega, nc.mono (by omega), rfl, G9⟩
          case measure => simp [intOf]
end Go.Proofs.Yteklffikijpocaa
