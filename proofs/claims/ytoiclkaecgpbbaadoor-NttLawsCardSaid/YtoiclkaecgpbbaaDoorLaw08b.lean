/- Chapter 8: transforms of sums. -/
import Derived.Test.YtoiclkaecgpbbaaDoorLaw08
namespace Go.Proofs.YtoiclkaecgpbbaaDoor
open Go.RowKit

def MtB (w : World) (gm : Nat) (K : Int) : Prop := ∃ a, a ≤ K ∧ Mt w gm a 0 0
theorem MtB.grown {w w' : World} {gm : Nat} {K : Int} (h : MtB w gm K) (g : w.grownBy w' none) : MtB w' gm K := by
  obtain ⟨a, h1, h2⟩ := h; exact ⟨a, h1, h2.grown g⟩
theorem rowOf_one {N : Nat} (hN : 0 < N) (t : Nat) : rd (rowOf [1] N) t = if t = 0 then 1 else 0 := by
  have e : rowOf [1] N = 1 :: (List.replicate N 0).drop 1 := by
    unfold rowOf
    rw [show min ([1] : List Int).length N = 1 by simp; omega]
    rfl
  rw [e]
  cases t with
  | zero => rfl
  | succ t =>
    rw [if_neg (by omega)]
    unfold rd
    rw [List.getD_eq_getElem?_getD, List.getElem?_cons_succ, List.drop_replicate, List.getElem?_replicate]
    split <;> rfl
theorem ft_one {N : Nat} (r : Int) (k : Nat) (hN : 0 < N) : ft (rd (rowOf [1] N)) r N k = 1 := by
  unfold ft
  have : ∀ n, sumI (fun t => rd (rowOf [1] N) t * r ^ (k * t)) (n + 1) = 1 := by
    intro n
    induction n with
    | zero => rw [sumI, sumI, rowOf_one hN]; simp
    | succ n ih => rw [sumI, ih, rowOf_one hN, if_neg (by omega)]; simp
  obtain ⟨n, rfl⟩ : ∃ n, N = n + 1 := ⟨N - 1, by omega⟩
  exact this n
theorem one_is {p r : Int} {L i : Nat} {os : List Int} (p3 : 3 ≤ p) (h : Lv p (rd (rowOf [1] (2 ^ L))) r L L os) (hi : i < 2 ^ L) : rd os i = 1 := by
  have h1 : Cg p (rd os i) (ft (rd (rowOf [1] (2 ^ L))) r (2 ^ L) i) := h.ft i hi
  rw [ft_one r i (Nat.pow_pos (by decide))] at h1
  have b := h.bd i
  exact h1.eq b.1 b.2 (by decide) (by omega)
theorem sum_is {p r : Int} {L i : Nat} {al bs ss xs ys zs : List Int} (hs : ∀ k, k < 2 ^ L → rd ss k = (rd al k + rd bs k) % p) (hx : Lv p (rd al) r L L xs) (hy : Lv p (rd bs) r L L ys) (hz : Lv p (rd ss) r L L zs) (hi : i < 2 ^ L) : rd zs i = (rd xs i + rd ys i) % p := by
  have h1 := (hx.ft i hi).add (hy.ft i hi)
  have h2 := hz.ft i hi
  have h3 : Cg p (ft (rd ss) r (2 ^ L) i) (ft (rd al) r (2 ^ L) i + ft (rd bs) r (2 ^ L) i) := by
    unfold ft
    rw [← sumI_add]
    refine sumI_cg _ fun k hk => ?_
    rw [hs k hk]
    refine ((Cg.mod p _).mulr _).trans (Cg.of_eq ?_)
    rw [Int.add_mul]
  have b := hz.bd i
  exact (h2.trans (h3.trans h1.symm)).eq_mod b.1 b.2
structure AdI (p : Int) (xs ys : List Int) (n i : Nat) (os : List Int) : Prop where
  len : os.length = n
  lo : ∀ k, k < i → rd os k = (rd xs k + rd ys k) % p
theorem AdI.step {p : Int} {xs ys os : List Int} {n i : Nat} (h : AdI p xs ys n i os) (hi : i < n) {y : Int} (hy : y = (rd xs i + rd ys i) % p) : AdI p xs ys n (i + 1) (os.set i y) :=
  ⟨by rw [List.length_set, h.len], fun k hk => by
    by_cases e : k = i
    · subst e; rw [rd_set_self (by rw [h.len]; exact hi), hy]
    · rw [rd_set_ne (by omega)]; exact h.lo k (by omega)⟩
theorem forwardB_c (w : World) (t gm : Nat) (p r z K : Int) (L N : Nat) (hN : N = 2 ^ L) (hL : L ≤ 5) (v : Value) (xs : List Int) (h : Pl w t gm p r z L) (hm : MtB w gm K) (ha : K ≤ 1000000) (hv : Sl w v xs) (hl : xs.length = N) :
    Calls Tryd.prog 27 #[.pointer (some ⟨t, 0, none⟩), v] w fun e w' => ∃ g os, e = .returned (.tuple #[.slice (some ⟨g, 0, none⟩) N N, .bool true]) ∧ Own w' w.heap.size (.slice (some ⟨g, 0, none⟩) N N) os ∧ Lv p (rd xs) r L L os ∧ os.length = N ∧
      MtB w' gm (K + 80) ∧ w.heap.size ≤ g ∧ w.grownBy w' (some gm) := by
  obtain ⟨a, ha', hm⟩ := hm
  refine (forwardN_c w t gm p r z a 0 0 L N hN v xs h hm (by omega) hv hl).mono fun e w' ⟨g, os, he, h1, h2, h3, h4, h5⟩ => ⟨g, os, he, h1, h2, by rw [h2.len, hN], ⟨_, ?_, h3⟩, h4, h5⟩
  have n32 : 2 ^ L ≤ 2 ^ 5 := Nat.pow_le_pow_right (by decide) hL
  have : N / 2 * L ≤ 16 * 5 := Nat.mul_le_mul (by omega) hL
  omega
set_option maxRecDepth 100000 in
set_option maxHeartbeats 4000000 in
theorem NttLaws_walk (k log : Int) (va : Value) (xa : List Int) (vb : Value) (xb : List Int) (w : World) (hk : -9223372036854775808 ≤ k ∧ k ≤ 9223372036854775807) (hl : -9223372036854775808 ≤ log ∧ log ≤ 9223372036854775807) (hva : Sl w va xa) (hvb : Sl w vb xb) (hd : Db w) :
    Calls Tryd.prog 8 #[.int .i64 k, .int .i64 log, va, vb] w fun e w' => e = .returned (.bool true) ∧ w.grownBy w' none := by
  have PC := Lib.hid (plan_c w k log hk hl hd)
  have HD := Lib.hid hd
  have HVA := Lib.hid hva
  have HVB := Lib.hid hvb
  clear hk hl hd hva hvb
  go_enter Tryd.func8, Tryd.ntmps8
  go_wp2_with fail
  refine (PC.out).mono ?_
  rintro e w1 ⟨t, gm, p, L, x0, z, rfl, ok, hL, pl, mt, hgm, ht, g1⟩
  have OK := Lib.hid ok
  have PL := Lib.hid pl
  have G1 := Lib.hid g1
  have HGM := Lib.hid hgm
  have S1 := Lib.hid (World.block_lt_of_cell? w1 _ mt.c0)
  have HVA1 := Lib.hid (HVA.out.grown0 g1)
  have HVB1 := Lib.hid (HVB.out.grown0 g1)
  have MT0 : Hid (MtB w1 gm 0) := Lib.hid ⟨0, Int.le_refl _, mt⟩
  clear ok pl g1 hgm ht mt PC HVA HVB
  obtain ⟨sh1, sh2⟩ := shl_i64 L (by omega)
  have n32 : 2 ^ L ≤ 2 ^ 5 := Nat.pow_le_pow_right (by decide) hL
  have n0 : 0 < 2 ^ L := Nat.pow_pos (by decide)
  obtain ⟨N, hN⟩ : ∃ N, N = 2 ^ L := ⟨_, rfl⟩
  rw [← hN] at sh1 sh2 n32 n0
  have HN := Lib.hid hN
  clear hN
  have plo := OK.out.pm.lo
  have phi := OK.out.pm.hi
  have pl := PL.out
  obtain ⟨r, hr⟩ : ∃ r, r = rootOf p L x0 := ⟨_, rfl⟩
  obtain ⟨P, hP⟩ : ∃ P : Int, P = (p : Int) := ⟨_, rfl⟩
  rw [← hr, ← hP] at pl
  rw [← hP] at plo phi ⊢
  have PL := Lib.hid pl
  clear hP hr pl OK
  go_wp2_with fail
  refine (row_c w1 va xa N HVA1.out (by omega)).mono ?_
  rintro e w2 ⟨ga, rfl, oa, g2⟩
  have la := rowOf_len xa N
  obtain ⟨al, has⟩ : ∃ al, al = rowOf xa N := ⟨_, rfl⟩
  rw [← has] at oa la
  have OA := Lib.hid oa
  have LA := Lib.hid la
  have G2 := Lib.hid g2
  clear has oa la g2 HVA1
  go_wp2_with fail
  refine (row_c w2 vb xb N (HVB1.out.grown0 G2.out) (by omega)).mono ?_
  rintro e w3 ⟨gb, rfl, ob, g3⟩
  have lb := rowOf_len xb N
  obtain ⟨bl, hbs⟩ : ∃ bl, bl = rowOf xb N := ⟨_, rfl⟩
  rw [← hbs] at ob lb
  have OB := Lib.hid ob
  have LB := Lib.hid lb
  have OA3 := Lib.hid (OA.out.grown0 g3)
  have G3 := Lib.hid (gb_trans G2.out g3)
  have S12 := Lib.hid G2.out.size
  clear hbs ob lb g3 HVB1 OA G2
  have mk := make64 36 (by kernel_rfl) N N (N : Int) (N : Int) (by omega) (by omega) (by omega) (by omega)
  have OW0 := Lib.hid (own_made w3 w3.heap.size N N (Nat.le_refl _) (by omega) (by omega))
  have F0 : Hid (AdI P al bl N 0 (List.replicate N 0)) := Lib.hid ⟨List.length_replicate, fun k hk => by omega⟩
  have G0 := Lib.hid (gb_alloc (gb_refl w3 none) (Obj.cells (madeCells #[.int .u64 0] N) 22))
  have BA := Lib.hid (fun j => (rd_w OA3.out.ws j).1)
  have BB := Lib.hid (fun j => (rd_w OB.out.ws j).1)
  go_wp2
  clear mk
  go_loopw [15] (fun v15 wr => ∃ (i : Nat) (os : List Int), v15 = .int .i64 i ∧ i ≤ N ∧ AdI P al bl N i os ∧ Own wr w3.heap.size (.slice (some ⟨w3.heap.size, 0, none⟩) N N) os ∧ w3.grownBy wr none) (fun v15 _ => N - (intOf v15).toNat)
  case atStart => exact ⟨0, _, rfl, by omega, F0.out, OW0.out, G0.out⟩
  case round =>
    clear F0 OW0 G0
    obtain ⟨i, os, rfl, hi, ai, ow, G⟩ := hrel
    have AI := Lib.hid ai
    have OW := Lib.hid ow
    have GG := Lib.hid G
    clear ai ow G
    by_cases hlt : i < N
    · have c1 := gb_cell0 GG.out (OA3.out.cell i (by rw [LA.out]; exact hlt))
      have c2 := gb_cell0 GG.out (OB.out.cell i (by rw [LB.out]; exact hlt))
      have b1 := BA.out i
      have b2 := BB.out i
      obtain ⟨x, hx⟩ : ∃ x, x = rd al i := ⟨_, rfl⟩
      obtain ⟨y, hy⟩ : ∃ y, y = rd bl i := ⟨_, rfl⟩
      rw [← hx] at c1 b1
      rw [← hy] at c2 b2
      have HX := Lib.hid hx
      have HY := Lib.hid hy
      clear hx hy
      go_wp2
      refine Canon.region_canon (by kernel_rfl) (by kernel_rfl) ?_
      go_wp2_with fail
      refine (refAdd_c _ P x y (by omega) (by omega) b1 b2).mono ?_
      rintro e wa ⟨rfl, ga'⟩
      have u0 := Int.emod_nonneg (x + y) (show P ≠ 0 by omega)
      have u1 := Int.emod_lt_of_pos (x + y) (show 0 < P by omega)
      obtain ⟨u, hu⟩ : ∃ u, u = (x + y) % P := ⟨_, rfl⟩
      rw [← hu] at u0 u1 ⊢
      have HU := Lib.hid hu
      have OW2 := Lib.hid (OW.out.drew.grown0 ga')
      have GG2 := Lib.hid (gb_trans (gb_drew GG.out) ga')
      clear hu c1 c2 ga' OW GG
      have fr := OW2.out.free i
      have ce := OW2.out.cell i (by rw [AI.out.len]; exact hlt)
      go_wp2
      refine ⟨by kernel_rfl, ?_⟩
      clear fr ce
      go_wp2
      go_roundw
      case rel => exact ⟨i + 1, os.set i u, by go_num, by omega, AI.out.step hlt (by rw [HU.out, HX.out, HY.out]), OW2.out.store i u0 (by omega), gb_set (p := ⟨w3.heap.size, i, none⟩) GG2.out (Nat.le_refl _) _⟩
      case measure => simp [intOf]; omega
    · obtain rfl : i = N := by omega
      have SL := Lib.hid AI.out.lo
      have LS := Lib.hid AI.out.len
      have OA4 := Lib.hid (OA3.out.grown0 GG.out)
      have OB4 := Lib.hid (OB.out.grown0 GG.out)
      have GP4 := Lib.hid (gb_none (gb_trans G3.out GG.out) (some gm))
      have M4 := Lib.hid (MT0.out.grown (gb_trans G3.out GG.out))
      obtain ⟨gs, hgs⟩ : ∃ gs, gs = w3.heap.size := ⟨_, rfl⟩
      have OS4 := Lib.hid OW.out
      have NE : Hid (ga ≠ gm ∧ gb ≠ gm ∧ gs ≠ gm) := Lib.hid (by have := S1.out; have := OA3.out.base_le; have := OB.out.base_le; have := G3.out.size; have := S12.out; omega)
      rw [← hgs] at OS4 ⊢
      obtain ⟨w4, hw4⟩ : ∃ w4 : World, w4 = wr := ⟨_, rfl⟩
      rw [← hw4] at OA4 OB4 GP4 M4 OS4 ⊢
      clear OA3 OB G3 GG MT0 OW AI hgs hw4 BA BB hi
      go_wp2_with fail
      refine (forwardB_c w4 t gm P r z 0 L i HN.out hL _ al (PL.out.grown GP4.out) M4.out (by omega) OA4.out.sl LA.out).mono ?_
      rintro e w5 ⟨gx, xs, rfl, ox, lx, nx, m5, hx, g5⟩
      have OX := Lib.hid ox
      have LX := Lib.hid lx
      have NX := Lib.hid nx
      have M5 := Lib.hid m5
      have GP5 := Lib.hid (gb_trans GP4.out g5)
      have OB5 := Lib.hid (OB4.out.past g5 NE.out.2.1)
      have OS5 := Lib.hid (OS4.out.past g5 NE.out.2.2)
      have NX1 : Hid (gx ≠ gm) := Lib.hid (by have := S1.out; have := GP4.out.size; omega)
      clear ox lx nx m5 g5 hx OA4 OB4 OS4 M4 GP4
      go_wp2_with fail
      refine (forwardB_c w5 t gm P r z _ L i HN.out hL _ bl (PL.out.grown GP5.out) M5.out (by omega) OB5.out.sl LB.out).mono ?_
      rintro e w6 ⟨gy, ys, rfl, oy, ly, ny, m6, hy, g6⟩
      have OY := Lib.hid oy
      have LY := Lib.hid ly
      have NY := Lib.hid ny
      have M6 := Lib.hid m6
      have GP6 := Lib.hid (gb_trans GP5.out g6)
      have OX6 := Lib.hid (OX.out.past g6 NX1.out)
      have OS6 := Lib.hid (OS5.out.past g6 NE.out.2.2)
      have NY1 : Hid (gy ≠ gm) := Lib.hid (by have := S1.out; have := GP5.out.size; omega)
      clear oy ly ny m6 g6 hy OB5 OS5 M5 GP5 OX
      go_wp2_with fail
      refine (forwardB_c w6 t gm P r z _ L i HN.out hL _ os (PL.out.grown GP6.out) M6.out (by omega) OS6.out.sl LS.out).mono ?_
      rintro e w7 ⟨gz, zs, rfl, oz, lz, nz, m7, hz, g7⟩
      have OZ := Lib.hid oz
      have LZ := Lib.hid lz
      have NZ := Lib.hid nz
      have M7 := Lib.hid m7
      have GP7 := Lib.hid (gb_trans GP6.out g7)
      have OX7 := Lib.hid (OX6.out.past g7 NX1.out)
      have OY7 := Lib.hid (OY.out.past g7 NY1.out)
      have NZ1 : Hid (gz ≠ gm) := Lib.hid (by have := S1.out; have := GP6.out.size; omega)
      clear oz lz nz m7 g7 hz OS6 M6 GP6 OX6 OY
      have SO := Lib.hid (sl_lit w7 w7.heap.size #[.int .u64 1] 22 [1] rfl (fun x hx => by simp at hx; omega) rfl 1 rfl (by decide))
      have GL := Lib.hid (gb_alloc (gb_refl w7 none) (Obj.cells #[.int .u64 1] 22))
      go_wp2_with fail
      refine (row_c _ _ [1] i SO.out (by omega)).mono ?_
      rintro e w8 ⟨go, rfl, oo, g8⟩
      have OO := Lib.hid oo
      have G78 := Lib.hid (gb_trans GL.out g8)
      have M8 := Lib.hid (M7.out.grown G78.out)
      have GP8 := Lib.hid (gb_trans GP7.out (gb_none G78.out (some gm)))
      have OX8 := Lib.hid (OX7.out.grown0 G78.out)
      have OY8 := Lib.hid (OY7.out.grown0 G78.out)
      have OZ8 := Lib.hid (OZ.out.grown0 G78.out)
      clear oo g8 SO GL G78 M7 GP7 OX7 OY7 OZ
      go_wp2_with fail
      refine (forwardB_c w8 t gm P r z _ L i HN.out hL _ _ (PL.out.grown GP8.out) M8.out (by omega) OO.out.sl (rowOf_len _ _)).mono ?_
      rintro e w9 ⟨gq, qs, rfl, oq, lq, nq, m9, hq, g9⟩
      have QO : Hid (∀ j, j < i → rd qs j = 1) := Lib.hid (fun j hj => by
        rw [HN.out] at lq hj
        exact one_is plo lq hj)
      have SM : Hid (∀ j, j < i → (rd xs j + rd ys j) % P = rd zs j) := Lib.hid (fun j hj => by
        refine (sum_is (fun k hk => SL.out k (by rw [HN.out]; exact hk)) LX.out LY.out LZ.out (by rw [← HN.out]; exact hj)).symm)
      have OQ := Lib.hid oq
      have NQ := Lib.hid nq
      have GP9 := Lib.hid (gb_trans GP8.out g9)
      have OX9 := Lib.hid (OX8.out.past g9 NX1.out)
      have OY9 := Lib.hid (OY8.out.past g9 NY1.out)
      have OZ9 := Lib.hid (OZ8.out.past g9 NZ1.out)
      clear oq lq nq m9 hq g9 OO M8 GP8 OX8 OY8 OZ8 LX LY LZ SL LS NX1 NY1 NZ1 LA LB NE
      go_wp2
      go_loopw [24] (fun v24 wr => ∃ j : Nat, v24 = .int .i64 j ∧ j ≤ i ∧ w9.grownBy wr none) (fun v24 _ => i - (intOf v24).toNat)
      case atStart => exact ⟨0, rfl, by omega, gb_refl _ _⟩
      case round =>
        obtain ⟨j, rfl, hj, G⟩ := hrel
        have GG := Lib.hid G
        clear G
        by_cases hlt : j < i
        · have c1 := gb_cell0 GG.out (OX9.out.cell j (by rw [NX.out]; exact hlt))
          have c2 := gb_cell0 GG.out (OY9.out.cell j (by rw [NY.out]; exact hlt))
          have c3 := gb_cell0 GG.out (OZ9.out.cell j (by rw [NZ.out]; exact hlt))
          have c4 := gb_cell0 GG.out (OQ.out.cell j (by rw [NQ.out]; exact hlt))
          have sm := SM.out j hlt
          have b1 := (rd_w OX9.out.ws j).1
          have b2 := (rd_w OY9.out.ws j).1
          rw [QO.out j hlt] at c4
          obtain ⟨x, ex⟩ : ∃ x, x = rd xs j := ⟨_, rfl⟩
          obtain ⟨y, ey⟩ : ∃ y, y = rd ys j := ⟨_, rfl⟩
          obtain ⟨u, eu⟩ : ∃ u, u = rd zs j := ⟨_, rfl⟩
          rw [← ex] at c1 b1 sm
          rw [← ey] at c2 b2 sm
          rw [← eu] at c3 sm
          have SU := Lib.hid sm
          clear ex ey eu sm
          go_wp2
          have hF : Canon.SF [(⟨gz, j, none⟩, .int .u64 u)] wr := Canon.sf_cons c3 (Canon.sf_nil _)
          have HF := Lib.hid hF
          clear hF
          refine Canon.region_held [119] _ (by kernel_rfl) (by kernel_rfl) HF.out ?_
          refine Canon.segs_at 13 _ _ _ (by kernel_rfl) ?_
          simp only [List.take_succ_cons, List.take_zero, List.drop_succ_cons, List.drop_zero]
          go_wp2_with fail
          refine (refAdd_c _ P x y (by omega) (by omega) b1 b2).mono ?_
          rintro e wa ⟨rfl, ga'⟩
          rw [SU.out]
          have d4 := gb_cell0 ga' (gb_cell0 (gb_drew (gb_refl _ _)) c4)
          clear c1 c2 c3 c4
          go_wp2
          refine ⟨Canon.sf_grown0 HF.out.drew ga', ?_⟩
          refine Canon.segs_end _ _ _ (by kernel_rfl) ?_
          go_wp2
          refine ⟨by kernel_rfl, by kernel_rfl, by kernel_rfl, ?_⟩
          clear d4
          go_wp2
          go_roundw
          case rel => exact ⟨j + 1, by go_num, by omega, gb_trans (gb_drew GG.out) ga'⟩
          case measure => simp [intOf]; omega
        · obtain rfl : j = i := by omega
          have GPF := Lib.hid (gb_trans GP9.out (gb_none GG.out (some gm)))
          have PLF := Lib.hid (PL.out.grown GPF.out)
          obtain ⟨gd, cd, md, hne⟩ := PLF.out.gd
          have MD := Lib.hid md
          have GF := Lib.hid (gb_new G1.out GPF.out (fun i hi => by cases hi; exact HGM.out))
          clear md hne GPF GP9 OX9 OY9 OZ9 OQ
          go_wp2
          refine Canon.region_canon (by kernel_rfl) (by kernel_rfl) ?_
          go_wp2_with fail
          refine (modMul_c _ gd P 3 5 (MD.out.grown (gb_drew (gb_refl _ none)) (by simp)) (by decide) (by decide)).mono ?_
          rintro e wa ⟨rfl, ga'⟩
          rw [show (3 : Int) * 5 = 15 by decide]
          have sz := size_c wa t gm P r z L ((PLF.out.grown (gb_drew (gb_refl _ (some gm)))).grown (gb_none ga' _))
          rw [← HN.out] at sz
          clear cd
          go_wp2_with fail
          refine (sz).mono ?_
          rintro e wb ⟨rfl, hwb⟩
          subst hwb
          go_wp2_with fail
          refine (wakes08_c _ (HD.out.grown0 (gb_trans (gb_drew GF.out) ga'))).mono ?_
          rintro e wc ⟨rfl, gc⟩
          go_wp2
          refine ⟨by kernel_rfl, ?_⟩
          go_wp2
          go_ret
          exact ⟨rfl, gb_trans (gb_trans (gb_drew GF.out) ga') gc⟩
end Go.Proofs.YtoiclkaecgpbbaaDoor
