/- Transforms: by their definition. -/
import Derived.Test.YtoiclkaecgpbbaaDoorNtt2
import Derived.Test.YtoiclkaecgpbbaaDoorCanon4
import Derived.Test.YtoiclkaecgpbbaaDoorModw7
import Derived.Test.YtoiclkaecgpbbaaDoorRows3
namespace Go.Proofs.YtoiclkaecgpbbaaDoor
open Go.RowKit

/-- k numbers of a transform are made, and j summands of the next. -/
structure Fi (p : Int) (xs : List Int) (r : Int) (n k j : Nat) (os : List Int) : Prop where
  len : os.length = n
  lo : ∀ i, i < k → rd os i = ft (rd xs) r n i % p
  cur : rd os k = sumI (fun t => rd xs t * r ^ (k * t)) j % p
  hi : ∀ i, k < i → rd os i = 0
theorem Fi.start {p : Int} (xs : List Int) (r : Int) (n : Nat) : Fi p xs r n 0 0 (List.replicate n 0) :=
  ⟨List.length_replicate, fun i hi => by omega, by rw [rd_replicate]; exact (Int.zero_emod _).symm, fun i _ => rd_replicate _ _⟩
theorem Fi.step {p : Int} {xs os : List Int} {r : Int} {n k j : Nat} (h : Fi p xs r n k j os) (hk : k < n) {x y : Int} (hx : x = r ^ (k * j) % p) (hy : y = (rd os k + rd xs j * x % p) % p) : Fi p xs r n k (j + 1) (os.set k y) := by
  refine ⟨by rw [List.length_set, h.len], fun i hi => by rw [rd_set_ne (by omega)]; exact h.lo i hi, ?_, fun i hi => by rw [rd_set_ne (by omega)]; exact h.hi i hi⟩
  rw [rd_set_self (by rw [h.len]; exact hk), hy, h.cur, hx, sumI]
  have h1 : Cg p (sumI (fun t => rd xs t * r ^ (k * t)) j % p + rd xs j * (r ^ (k * j) % p) % p) (sumI (fun t => rd xs t * r ^ (k * t)) j + rd xs j * r ^ (k * j)) :=
    (Cg.mod p _).add ((Cg.mod p _).trans ((Cg.mod p _).mull _))
  exact h1
theorem Fi.next {p : Int} {xs os : List Int} {r : Int} {n k : Nat} (h : Fi p xs r n k n os) : Fi p xs r n (k + 1) 0 os := by
  refine ⟨h.len, fun i hi => ?_, by rw [h.hi _ (by omega)]; exact (Int.zero_emod _).symm, fun i hi => h.hi i (by omega)⟩
  by_cases e : i = k
  · subst e; exact h.cur
  · exact h.lo i (by omega)
theorem Fi.last {p : Int} {xs os : List Int} {r : Int} {n k : Nat} (h : Fi p xs r n k 0 os) (hk : n ≤ k) : os.length = n ∧ ∀ i, i < n → rd os i = ft (rd xs) r n i % p :=
  ⟨h.len, fun i hi => h.lo i (by omega)⟩
theorem fi_pow {p r x s : Int} {a b : Nat} (hx : x = r ^ a % p) (hs : s = r ^ b % p) {c : Nat} (hc : c = a + b) : x * s % p = r ^ c % p := by
  subst hc hx hs
  rw [Int.pow_add]
  exact (Cg.mod p (r ^ a)).mul (Cg.mod p (r ^ b))
set_option maxRecDepth 100000 in
set_option maxHeartbeats 2000000 in
theorem refForward_c (w : World) (v : Value) (xs : List Int) (p r : Int) (n : Nat) (h : Sl w v xs) (hl : xs.length = n) (hn : n ≤ 1000000) (p3 : 3 ≤ p) (p62 : p < 4611686018427387904) (hr : 0 ≤ r) :
    Calls Tryd.prog 30 #[v, .int .u64 r, .int .u64 p] w fun e w' => ∃ g os, e = .returned (.slice (some ⟨g, 0, none⟩) n n) ∧ Own w' w.heap.size (.slice (some ⟨g, 0, none⟩) n n) os ∧ os.length = n ∧ (∀ i, i < n → rd os i = ft (rd xs) r n i % p) ∧ w.grownBy w' none := by
  obtain ⟨A, cc, rfl, hc1, hc2, hws, h4⟩ := h
  rw [hl] at h4 hc1 ⊢
  have hws' : ∀ j, 0 ≤ rd xs j := fun j => (rd_w hws j).1
  have mk := make64 36 (by kernel_rfl) n n (n : Int) (n : Int) (by omega) (by omega) (by omega) (by omega)
  have OW0 := Lib.hid (own_made w w.heap.size n n (Nat.le_refl _) (by omega) (by omega))
  have F0 := Lib.hid (Fi.start (p := p) xs r n)
  have G0 := Lib.hid (gb_alloc (gb_refl w none) (Obj.cells (madeCells #[.int .u64 0] n) 22))
  have H4 := Lib.hid h4
  have HW := Lib.hid hws'
  have p0 : p ≠ 0 := by omega
  clear h4 hws hws'
  go_enter Tryd.func30, Tryd.ntmps30
  go_wp2
  go_loopw [8, 9] (fun v8 v9 wr => ∃ (k : Nat) (s : Int) (os : List Int), v8 = .int .u64 s ∧ v9 = .int .i64 k ∧ k ≤ n ∧ s = r ^ k % p ∧ Fi p xs r n k 0 os ∧ Own wr w.heap.size (.slice (some ⟨w.heap.size, 0, none⟩) n n) os ∧ w.grownBy wr none) (fun _ v9 _ => n - (intOf v9).toNat)
  case atStart => exact ⟨0, 1 % p, _, rfl, rfl, by omega, by rw [Int.pow_zero], F0.out, OW0.out, G0.out⟩
  case round =>
    clear F0 OW0 G0 mk
    obtain ⟨k, s, os, rfl, rfl, hk, hs, fi, ow, G⟩ := hrel
    have s0 : 0 ≤ s := by rw [hs]; exact Int.emod_nonneg _ p0
    have HS := Lib.hid hs
    have FI := Lib.hid fi
    have OW := Lib.hid ow
    have GG := Lib.hid G
    clear hs fi ow G
    by_cases hlt : k < n
    · go_wp2
      go_loopw [10, 11] (fun v10 v11 wq => ∃ (j : Nat) (x : Int) (os : List Int), v10 = .int .u64 x ∧ v11 = .int .i64 j ∧ j ≤ n ∧ x = r ^ (k * j) % p ∧ Fi p xs r n k j os ∧ Own wq w.heap.size (.slice (some ⟨w.heap.size, 0, none⟩) n n) os ∧ w.grownBy wq none) (fun _ v11 _ => n - (intOf v11).toNat)
      case atStart => exact ⟨0, 1 % p, os, rfl, rfl, by omega, by rw [Nat.mul_zero, Int.pow_zero], FI.out, OW.out, GG.out⟩
      case round =>
        clear FI OW GG
        obtain ⟨j, x, os, rfl, rfl, hj, hx, fi, ow, G⟩ := hrel
        have x0 : 0 ≤ x := by rw [hx]; exact Int.emod_nonneg _ p0
        have HX := Lib.hid hx
        have FI := Lib.hid fi
        have OW := Lib.hid ow
        have GG := Lib.hid G
        clear hx fi ow G
        by_cases hlj : j < n
        · obtain ⟨b, o, rfl, hcc⟩ := H4.out (by omega)
          have ck := gb_cell0 GG.out (hcc j hlj)
          have co := OW.out.cell k (by rw [FI.out.len]; exact hlt)
          have y0 := HW.out j
          have o0 := (rd_w OW.out.ws k).1
          obtain ⟨y, hy⟩ : ∃ y, y = rd xs j := ⟨_, rfl⟩
          obtain ⟨z, hz⟩ : ∃ z, z = rd os k := ⟨_, rfl⟩
          rw [← hy] at ck y0
          rw [← hz] at co o0
          have HY := Lib.hid hy
          have HZ := Lib.hid hz
          have HCC := Lib.hid hcc
          clear hy hz hcc
          go_wp2
          have hF : Canon.SF [(⟨w.heap.size, k, none⟩, .int .u64 z)] wr := Canon.sf_cons co (Canon.sf_nil _)
          have HF := Lib.hid hF
          clear hF
          refine Canon.region_held_l [36] _ (by kernel_rfl) (by kernel_rfl) (by kernel_rfl) HF.out ?_
          refine Canon.segl_at 12 _ _ _ (by kernel_rfl) (by kernel_rfl) ?_
          simp only [List.take_succ_cons, List.take_zero, List.drop_succ_cons, List.drop_zero]
          go_wp2_with fail
          refine (refMul_c _ p y x (by omega) (by omega) y0 x0).mono ?_
          rintro e wa ⟨rfl, ga⟩
          have a0 := Int.emod_nonneg (y * x) p0
          obtain ⟨q, hq⟩ : ∃ q, q = y * x % p := ⟨_, rfl⟩
          rw [← hq] at a0 ⊢
          have HQ := Lib.hid hq
          clear hq
          go_wp2
          refine ⟨Canon.sf_grown0 HF.out.drew ga, ?_⟩
          refine Canon.segl_at 1 _ _ _ (by kernel_rfl) (by kernel_rfl) ?_
          simp only [List.take_succ_cons, List.take_zero, List.drop_succ_cons, List.drop_zero]
          go_wp2_with fail
          refine (refAdd_c _ p z q (by omega) (by omega) o0 a0).mono ?_
          rintro e wb ⟨rfl, gb⟩
          have u0 := Int.emod_nonneg (z + q) p0
          have u1 := Int.emod_lt_of_pos (z + q) (show 0 < p by omega)
          obtain ⟨u, hu⟩ : ∃ u, u = (z + q) % p := ⟨_, rfl⟩
          rw [← hu] at u0 u1 ⊢
          have HU := Lib.hid hu
          have OB := Lib.hid ((OW.out.drew.grown0 ga).grown0 gb)
          have G2 := Lib.hid (gb_trans (gb_trans (gb_drew GG.out) ga) gb)
          have SB := Lib.hid (Canon.sf_grown0 (Canon.sf_grown0 HF.out.drew ga) gb)
          clear hu ck co ga gb OW GG HF
          go_wp2
          refine ⟨SB.out, ?_⟩
          have f3 := OB.out.free k
          have c3 := OB.out.cell k (by rw [FI.out.len]; exact hlt)
          refine Canon.segl_last 1 _ _ _ (by kernel_rfl) (by kernel_rfl) ?_
          go_wp2
          refine ⟨by kernel_rfl, by kernel_rfl, by kernel_rfl, ?_⟩
          clear f3 c3
          have OC := Lib.hid (OB.out.store k u0 (by omega))
          have G3 := Lib.hid (gb_set (p := ⟨w.heap.size, k, none⟩) G2.out (Nat.le_refl _) (.int .u64 u))
          clear OB G2 SB
          go_wp2_with fail
          refine (refMul_c _ p x s (by omega) (by omega) x0 s0).mono ?_
          rintro e wc ⟨rfl, gc⟩
          obtain ⟨x', hx'⟩ : ∃ x', x' = x * s % p := ⟨_, rfl⟩
          rw [← hx'] at ⊢
          have HX' := Lib.hid hx'
          clear hx'
          go_wp2
          go_roundw
          case rel => exact ⟨j + 1, x', os.set k u, rfl, by go_num, by omega, by rw [HX'.out]; exact fi_pow HX.out HS.out (by rw [Nat.mul_succ]), FI.out.step hlt HX.out (by rw [HU.out, HQ.out, HY.out, HZ.out]), OC.out.grown0 gc, gb_trans G3.out gc⟩
          case measure => simp [intOf]; omega
        · obtain rfl : j = n := by omega
          go_wp2_with fail
          refine (refMul_c _ p s r (by omega) (by omega) s0 hr).mono ?_
          rintro e wc ⟨rfl, gc⟩
          obtain ⟨s', hs'⟩ : ∃ s', s' = s * r % p := ⟨_, rfl⟩
          rw [← hs'] at ⊢
          have HS' := Lib.hid hs'
          clear hs'
          go_wp2
          go_roundw
          case rel => exact ⟨k + 1, s', os, rfl, by go_num, by omega, by
            rw [HS'.out, HS.out, Int.pow_succ]
            exact (Cg.mod p (r ^ k)).mul (Cg.refl p r), FI.out.next, OW.out.grown0 gc, gb_trans GG.out gc⟩
          case measure => simp [intOf]; omega
    · obtain rfl : k = n := by omega
      obtain ⟨l1, l2⟩ := FI.out.last (Nat.le_refl _)
      have L2 := Lib.hid l2
      clear l2
      go_wp2
      go_ret
      exact ⟨_, os, rfl, OW.out, l1, L2.out, GG.out⟩
end Go.Proofs.YtoiclkaecgpbbaaDoor
