/- Contracts of the program's functions, and plain laws (Pol9, Pol10, Pol11, Pol12, Pol13, Pol16, Pol14, Pol15, Pri4, Pol17, Fld2, Ser1, Pdv1, Pdv2, Pdv3, Pdv4, Pdv5, Pdv6, Pdv7, Pdv8, Pdv9, Law24, Pdv10, Pdv13, Law25, Rows4, Law24b, Law24c, Pdv16, Pdv17, Law25c, Rdm1, Pdr1, Rdm2, Rdm3, TabR, Law25d, Law25g, Tabs, Eu1, Eu2, Pgc1), for every input that their premises let in. -/
import Derived.Test.YtgalbnkcijmnnaaGreatDoorY4
import Derived.Test.YtgalbnkcijmnnaaGreatDoorY2
import Derived.Test.YtgalbnkcijmnnaaGreatDoorY3
import Derived.Test.YtgalbnkcijmnnaaGreatDoorY1
import Derived.OwnWalk
import Derived.WalkKit
import Derived.Deep.Fields
import Derived.Deep.Matrix
set_option maxRecDepth 100000
set_option maxHeartbeats 8000000
namespace Go.Proofs.YtgalbnkcijmnnaaGreatDoor
open Go.RowKit
theorem packed_c (w : World) (u : Value) (xs : List Int) (k : Nat) (hu : Sl w u xs) (hl : xs.length ≤ 100000) (hk0 : 0 < k) (hk : k ≤ 100) :
  Calls Tryz.prog 113 #[u, .int .i64 k] w fun e w' => ∃ x os, e = .returned x ∧ Own w' w.heap.size x os ∧ Pk xs k xs.length os ∧ w.grownBy w' none := by
 obtain ⟨A, ca, rfl, hca, _⟩ := hu.form
 have HU := lk hu
 obtain ⟨n, hn⟩ : ∃ n, n = xs.length := ⟨_, rfl⟩
 rw [← hn] at hca hl ⊢
 obtain ⟨M, hM⟩ : ∃ M, M = k * n := ⟨_, rfl⟩
 have bM : M ≤ 100 * 100000 := by rw [hM]; exact Nat.mul_le_mul hk hl
 have eM : (k : Int) * (n : Int) = (M : Int) := by rw [hM]; exact (Int.natCast_mul _ _).symm
 have mk := make64 184 (by kernel_rfl) M M (M : Int) (M : Int) (by omega) (by omega) (by omega) (by omega)
 have OW := lk (own_made w w.heap.size M M (Nat.le_refl _) (by omega) (by omega))
 have G0 := lk (ju (jr w none) (Obj.cells (madeCells #[.int .u64 0] M) 24))
 have P0 : Hid (Pk xs k 0 (List.replicate M 0) ∧ ∀ j, rd (List.replicate M 0) j = 0) := lk ⟨by rw [hM, hn]; exact Pk.start _ _, fun j => by rw [rd_replicate]⟩
 have HN := lk hn
 have HM := lk hM
 clear hu hn hM
 go_enter Tryz.func113, Tryz.ntmps113
 go_wp2
 clear mk eM
 go_loopw [15] (fun v15 wr => ∃ (i : Nat) (os : List Int), v15 = .int .i64 i ∧ i ≤ n ∧ (Pk xs k i os ∧ ∀ j, k * i ≤ j → rd os j = 0) ∧ Own wr w.heap.size (.slice (some ⟨w.heap.size, 0, none⟩) M M) os ∧ w.grownBy wr none) (fun v15 _ => n - (intOf v15).toNat)
 case atStart => exact ⟨0, _, rfl, by omega, ⟨P0.out.1, fun j _ => P0.out.2 j⟩, OW.out, G0.out⟩
 case round =>
  clear OW G0 P0
  obtain ⟨i, os, rfl, hi, pk, ow, G⟩ := hrel
  have PK := lk pk
  have OW := lk ow
  have GG := lk G
  clear pk ow G
  by_cases hlt : i < n
  ·obtain ⟨b, o, rfl, hci⟩ := (HU.out.grown0 GG.out).at i (by rw [← HN.out]; exact hlt)
   have hx0 := rd_w HU.out.ws i
   obtain ⟨x, hx⟩ : ∃ x, x = rd xs i := ⟨_, rfl⟩
   rw [← hx] at hci hx0
   obtain ⟨K, hK⟩ : ∃ K, K = k * i := ⟨_, rfl⟩
   have eK : (k : Int) * (i : Int) = (K : Int) := by rw [hK]; exact (Int.natCast_mul _ _).symm
   have hKM : K < M := by rw [hK, HM.out]; exact Nat.mul_lt_mul_of_pos_left hlt hk0
   have fr := OW.out.free K
   have ce := OW.out.cell K (by rw [PK.out.1.len, ← HN.out, ← HM.out]; exact hKM)
   have ST := lk (PK.out.1.step hk0 HU.out.ws (by rw [← HN.out]; exact hlt) (PK.out.2 _ (Nat.le_refl _)))
   rw [← hx, ← hK] at ST
   have ZZ : Hid (∀ j, k * (i + 1) ≤ j → rd (os.set K x) j = 0) := lk (fun j hj => by
    have e : k * (i + 1) = k * i + k := Nat.mul_succ _ _
    rw [rd_set_ne (by omega)]
    exact PK.out.2 j (by omega))
   clear hx hK
   go_wp2
   clear eK
   go_roundw
   case rel => exact ⟨i + 1, _, by go_num, by omega, ⟨ST.out, ZZ.out⟩, OW.out.store K hx0.1 hx0.2, gb_set (p := ⟨w.heap.size, K, none⟩) GG.out (Nat.le_refl _) _⟩
   case measure => simp [intOf]; omega
  ·obtain rfl : i = n := by omega
   go_wp2
   go_ret
   exact ⟨_, os, rfl, OW.out, PK.out.1, GG.out⟩
theorem bitsLen_c (a : Int) (ha : 0 ≤ a) (ha' : a < 18446744073709551616) (w : World) :
  Calls Tryz.prog 111 #[.int .u64 a] w fun e w' => e = .returned (.int .i64 (blen a.toNat)) ∧ w' = w := by
 have HL := lk (len64_c a ha ha' w)
 obtain ⟨l, hl⟩ : ∃ l, l = blen a.toNat := ⟨_, rfl⟩
 rw [← hl] at HL ⊢
 clear hl
 go_enter Tryz.func111, Tryz.ntmps111
 go_wp2_with fail
 refine (HL.out).mono ?_
 rintro e w1 ⟨rfl, h1⟩
 subst h1
 go_wp2
 go_ret
 exact ⟨rfl, rfl⟩
def wd (X : List Int) (s j t : Nat) : Int := if t < j then rd X (s + t) else 0
theorem wd_w {X : List Int} (h : Ws X) (s j t : Nat) : 0 ≤ wd X s j t ∧ wd X s j t < 18446744073709551616 := by
 unfold wd
 split
 ·exact rd_w h _
 ·exact ⟨by decide, by decide⟩
theorem wd_set {X : List Int} {s j t : Nat} (h : t ≠ j) : wd X s (j + 1) t = wd X s j t := by
 unfold wd
 by_cases h1 : t < j
 ·rw [if_pos h1, if_pos (by omega)]
 ·rw [if_neg h1, if_neg (by omega)]
theorem wd_self (X : List Int) (s j : Nat) : wd X s (j + 1) j = rd X (s + j) := by
 unfold wd
 rw [if_pos (by omega)]
def wds (X : List Int) (s j : Nat) : List Value := [.int .u64 (wd X s j 0), .int .u64 (wd X s j 1), .int .u64 (wd X s j 2)]
theorem wds_set {X : List Int} {s j : Nat} (h : j < 3) : (wds X s j).set j (.int .u64 (rd X (s + j))) = wds X s (j + 1) := by
 unfold wds
 rcases (show j = 0 ∨ j = 1 ∨ j = 2 by omega) with rfl | rfl | rfl
 ·rw [wd_self, wd_set (t := 1) (by decide), wd_set (t := 2) (by decide)]; rfl
 ·rw [wd_self, wd_set (t := 0) (by decide), wd_set (t := 2) (by decide)]; rfl
 ·rw [wd_self, wd_set (t := 0) (by decide), wd_set (t := 1) (by decide)]; rfl
theorem wds_get {X : List Int} {s j : Nat} (t : Nat) (h : t < 3) : (wds X s j)[t]? = some (.int .u64 (wd X s j t)) := by
 rcases (show t = 0 ∨ t = 1 ∨ t = 2 by omega) with rfl | rfl | rfl <;> rfl
theorem wds_last {X : List Int} {s j k : Nat} (hk : 0 < k) (hk3 : k ≤ 3) (hj : j ≤ k) (h : j = k ∨ X.length ≤ s + j) :
  ev ((X.drop s).take k) 18446744073709551616 = wd X s j 0 + 18446744073709551616 * (wd X s j 1 + 18446744073709551616 * wd X s j 2) := by
 have e : ∀ t, wd X s j t = if t < k then rd X (s + t) else 0 := fun t => by
  unfold wd
  by_cases h1 : t < j
  ·rw [if_pos h1, if_pos (by omega)]
  ·rw [if_neg h1]
   by_cases h2 : t < k
   ·rw [if_pos h2, rd_beyond]
    omega
   ·rw [if_neg h2]
 exact kron3 X s hk hk3 (by rw [e, if_pos hk]; rfl) (e 1) (e 2)
theorem kron_c {u : Tb} (hu : TbOk u) (w : World) (p : Int) (g : Nat) (I : Pix) (a : Int) (c : Mc) (U V : Value) (XS YS : List Int) (h : Pq w u p g I a c) (hd : Db w) (ha : a ≤ 900000000000000) (hU : Sl w U XS) (hV : Sl w V YS) (hl : XS.length + YS.length ≤ 340) :
  Calls Tryz.prog 81 #[.pointer (some ⟨g, 0, none⟩), U, V] w fun e w' => ∃ x a' c', e = .returned x ∧ Po w' w.heap.size x p (fun z => ev XS z * ev YS z) (XS.length + YS.length) ∧ Pq w' u p g I a' c' ∧ a' ≤ a + 10000000 ∧ w.grownBy w' (some I.gm) := by
 have hp := h.rg.m.neg0
 have hp3 := h.rg.m.pm.lo
 have hp' := h.rg.m.pm.hi
 have N1 := lk (pnorm_c w.drew I.r I.q p U XS h.rg.drew (hU.grown0 (jw (jr w none))) (by omega))
 have N2 := lk (fun w1 (k : w.grownBy w1 none) => pnorm_c w1 I.r I.q p V YS (h.rg.grown0 k) (hV.grown0 k) (by omega))
 have HP := lk h
 have HD := lk hd
 have HA := lk ha
 have t0 := h.pe.e0
 have SFo : Hid (∀ W, w.grownBy W none → Canon.SF [(⟨g, 0, none⟩, .pointer (some ⟨I.r, 0, none⟩))] W) := lk (fun W k => Canon.sf_cons (gb_cell0 k h.pe.e0) (Canon.sf_nil _))
 clear hU hV h hd ha
 go_enter Tryz.func81, Tryz.ntmps81
 go_wp2
 refine Canon.region_held [23] _ (by kernel_rfl) (by kernel_rfl) (SFo.out _ (jr _ _)) ?_
 refine Canon.segs_at 5 _ _ _ (by kernel_rfl) ?_
 simp only [ja, jb, jc, jd]
 go_wp2_with fail
 refine (N1.out).mono ?_
 rintro e w1 ⟨x1, rfl, ⟨za, oa, na, ea, la⟩, g1⟩
 have G1 := lk (jt (jw (jr w none)) g1)
 clear t0
 have t0 := gb_cell0 G1.out HP.out.pe.e0
 clear N1 g1
 go_wp2
 refine ⟨SFo.out _ G1.out, ?_⟩
 refine Canon.segs_at 5 _ _ _ (by kernel_rfl) ?_
 simp only [ja, jb, jc, jd]
 go_wp2_with fail
 refine (N2.out _ G1.out).mono ?_
 rintro e w2 ⟨x2, rfl, ⟨zb, ob, nb, eb, lb⟩, g2⟩
 have G2 := lk (jt G1.out g2)
 have SA := lk (oa.sl.grown0 g2)
 have SB := lk ob.sl
 have E0 := lk (Eqv.rows ea eb)
 obtain ⟨A, ca, rfl, hca, hca2⟩ := oa.fm
 obtain ⟨B, cb, rfl, hcb, hcb2⟩ := ob.fm
 have RA := lk na
 have RB := lk nb
 clear N2 oa ob na nb ea eb g2 t0
 obtain ⟨la', ha⟩ : ∃ z, z = za.length := ⟨_, rfl⟩
 obtain ⟨lb', hb⟩ : ∃ z, z = zb.length := ⟨_, rfl⟩
 rw [← ha] at hca la SA
 rw [← hb] at hcb lb SB
 have LA := lk ha
 have LB := lk hb
 rw [← ha, ← hb]
 clear ha hb
 go_wp2
 refine ⟨SFo.out _ G2.out, ?_⟩
 refine Canon.segs_end _ _ _ (by kernel_rfl) ?_
 go_wp2
 refine ⟨by kernel_rfl, by kernel_rfl, by kernel_rfl, ?_⟩
 by_cases ha0 : la' = 0
 ·subst ha0
  have EZ := lk (List.eq_nil_of_length_eq_zero LA.out.symm)
  go_wp2
  go_ret
  exact ⟨_, a, c, rfl, po_nil _ _ _ _ ((Eqv.of_eq p fun x => by rw [EZ.out]; simp [ev]).trans E0.out), HP.out.grown0 G2.out, by omega, jn G2.out _⟩
 by_cases hb0 : lb' = 0
 ·subst hb0
  have EZ := lk (List.eq_nil_of_length_eq_zero LB.out.symm)
  have a0' : ((la' : Int) == 0) = false := by simp; omega
  go_wp2
  go_ret
  exact ⟨_, a, c, rfl, po_nil _ _ _ _ ((Eqv.of_eq p fun x => by rw [EZ.out]; simp [ev]).trans E0.out), HP.out.grown0 G2.out, by omega, jn G2.out _⟩
 have a0' : ((la' : Int) == 0) = false := by simp; omega
 have b0' : ((lb' : Int) == 0) = false := by simp; omega
 obtain ⟨m, hm⟩ : ∃ m, m = min la' lb' := ⟨_, rfl⟩
 obtain ⟨lp, hlp⟩ : ∃ l, l = blen (p - 1).toNat := ⟨_, rfl⟩
 obtain ⟨lm, hlm⟩ : ∃ l, l = blen m := ⟨_, rfl⟩
 obtain ⟨L2, hL2⟩ : ∃ l, l = 2 * lp := ⟨_, rfl⟩
 obtain ⟨D, hD⟩ : ∃ D, D = L2 + lm := ⟨_, rfl⟩
 obtain ⟨D63, hD63⟩ : ∃ z, z = D + 63 := ⟨_, rfl⟩
 obtain ⟨k, hk⟩ : ∃ k, k = D63 / 64 := ⟨_, rfl⟩
 have blp : 1 ≤ lp ∧ lp ≤ 62 := by
  rw [hlp]
  constructor
  ·have := blen_lt (p - 1).toNat
   by_cases h0 : blen (p - 1).toNat = 0
   ·rw [h0] at this; omega
   ·omega
  ·exact blen_le _ 62 (by omega)
 have blm : lm ≤ 9 := by rw [hlm]; exact blen_le _ 9 (by omega)
 have bk : 0 < k ∧ k ≤ 3 := by omega
 have KW : Hid ((m : Int) * (p * p) < 18446744073709551616 ^ k) := lk (by
  have h1 : p.toNat ≤ 2 ^ lp := by rw [hlp]; have := blen_lt (p - 1).toNat; omega
  have h2 : m < 2 ^ lm := by rw [hlm]; exact blen_lt m
  have := kron_words (k := k) h1 h2 (by rw [hk, hD63, hD, hL2])
  rwa [show ((p.toNat : Nat) : Int) = p by omega] at this)
 have KM : Hid (m = min la' lb') := lk hm
 have e2 : 2 * (lp : Int) = (L2 : Int) := by omega
 have e3 : (L2 : Int) + (lm : Int) = (D : Int) := by omega
 have e4 : (D : Int) + 63 = (D63 : Int) := by omega
 have e5 : (D63 : Int) / 64 = (k : Int) := by omega
 have LP := lk (fun w => len64_c (p - 1) (by omega) (by omega) w)
 have LM := lk (fun w => bitsLen_c (m : Int) (by omega) (by omega) w)
 rw [Int.toNat_natCast, ← hlm] at LM
 rw [← hlp] at LP
 have bm : m ≤ 340 := by omega
 have bL2 : L2 ≤ 124 := by omega
 have bD : D ≤ 133 := by omega
 have bD63 : D63 ≤ 196 := by omega
 have MP := lk (modP_c w2 I.q p (HP.out.rg.m.grown0 G2.out))
 clear hlp hlm hL2 hD hD63 hk
 have t0 := gb_cell0 G2.out HP.out.pe.e0
 have r0 := gb_cell0 G2.out HP.out.rg.c
 go_upto_region 4 with fail
 go_cut [7] from 34 to 52 (fun v7 wx => v7 = .int .i64 D ∧ w2 = wx)
 case first =>
  rcases Nat.lt_trichotomy la' lb' with hlt | heq | hgt
  ·obtain rfl : m = la' := by omega
   clear hm
   go_wp2_with fail
   refine (MP.out).mono ?_
   rintro e w3 ⟨rfl, h3⟩
   subst h3
   go_wp2_with fail
   refine (LP.out _).mono ?_
   rintro e w3 ⟨rfl, h3⟩
   subst h3
   go_wp2_with fail
   refine (LM.out _).mono ?_
   rintro e w3 ⟨rfl, h3⟩
   subst h3
   go_wp2_with fail
   go_meet
   exact ⟨rfl, rfl⟩
  ·subst heq
   obtain rfl : m = la' := by omega
   clear hm
   go_wp2_with fail
   refine (MP.out).mono ?_
   rintro e w3 ⟨rfl, h3⟩
   subst h3
   go_wp2_with fail
   refine (LP.out _).mono ?_
   rintro e w3 ⟨rfl, h3⟩
   subst h3
   go_wp2_with fail
   refine (LM.out _).mono ?_
   rintro e w3 ⟨rfl, h3⟩
   subst h3
   go_wp2_with fail
   go_meet
   exact ⟨rfl, rfl⟩
  ·obtain rfl : m = lb' := by omega
   clear hm
   go_wp2_with fail
   refine (MP.out).mono ?_
   rintro e w3 ⟨rfl, h3⟩
   subst h3
   go_wp2_with fail
   refine (LP.out _).mono ?_
   rintro e w3 ⟨rfl, h3⟩
   subst h3
   go_wp2_with fail
   refine (LM.out _).mono ?_
   rintro e w3 ⟨rfl, h3⟩
   subst h3
   go_wp2_with fail
   go_meet
   exact ⟨rfl, rfl⟩
 case rest =>
  obtain ⟨rfl, hw⟩ := hcut
  subst hw
  clear LP LM MP e2 e3 r0 t0 a0' b0' hm
  have bal : k * la' + k * lb' ≤ 1020 := by
   have : k * la' + k * lb' = k * (la' + lb') := (Nat.mul_add _ _ _).symm
   have h2 : k * (la' + lb') ≤ 3 * 340 := Nat.mul_le_mul bk.2 (by omega)
   omega
  have P1 := lk (packed_c w2.drew _ za k (SA.out.grown0 (jw (jr w2 none))) (by rw [← LA.out]; omega) bk.1 (by omega))
  have P2 := lk (fun w3 (j : w2.grownBy w3 none) => packed_c w3 _ zb k (SB.out.grown0 j) (by rw [← LB.out]; omega) bk.1 (by omega))
  have PW := lk (fun W (j : w2.grownBy W none) => HP.out.grown0 (jt G2.out j))
  have SFc : Hid (∀ W, Pe W p g I.r I.q I.k0 I.k1 I.k2 I.k3 I.k4 I.k5 I.k6 I.k7 I.k8 I.k9 I.g0 → Canon.SF [(⟨g, 1, none⟩, .pointer (some ⟨I.k0, 0, none⟩)), (⟨I.k0, 0, none⟩, .pointer (some ⟨I.k1, 0, none⟩)), (⟨I.k1, 0, none⟩, .pointer (some ⟨I.k2, 0, none⟩)), (⟨I.k2, 0, none⟩, .pointer (some ⟨I.k3, 0, none⟩)), (⟨I.k3, 0, none⟩, .pointer (some ⟨I.k4, 0, none⟩)), (⟨I.k4, 0, none⟩, .pointer (some ⟨I.k5, 0, none⟩)), (⟨I.k5, 0, none⟩, .pointer (some ⟨I.k6, 0, none⟩)), (⟨I.k6, 0, none⟩, .pointer (some ⟨I.k7, 0, none⟩)), (⟨I.k7, 0, none⟩, .pointer (some ⟨I.k8, 0, none⟩)), (⟨I.k8, 0, none⟩, .pointer (some ⟨I.k9, 0, none⟩)), (⟨I.k9, 0, none⟩, .pointer (some ⟨I.g0, 0, none⟩))] W) := lk (fun W h => by
   exact Canon.sf_cons h.e1 (Canon.sf_cons h.ch.c0 (Canon.sf_cons h.ch.c1 (Canon.sf_cons h.ch.c2 (Canon.sf_cons h.ch.c3 (Canon.sf_cons h.ch.c4 (Canon.sf_cons h.ch.c5 (Canon.sf_cons h.ch.c6 (Canon.sf_cons h.ch.c7 (Canon.sf_cons h.ch.c8 (Canon.sf_cons h.ch.c9 (Canon.sf_nil _))))))))))))
  have HQ := PW.out w2 (jr _ _)
  have t1 := HQ.pe.e1
  have t2 := HQ.pe.ch.c0
  have t3 := HQ.pe.ch.c1
  have t4 := HQ.pe.ch.c2
  have t5 := HQ.pe.ch.c3
  have t6 := HQ.pe.ch.c4
  have t7 := HQ.pe.ch.c5
  have t8 := HQ.pe.ch.c6
  have t9 := HQ.pe.ch.c7
  have t10 := HQ.pe.ch.c8
  have t11 := HQ.pe.ch.c9
  clear HQ
  go_wp2
  refine Canon.region_held [59, 62, 65, 68, 71, 74, 77, 80, 83, 86, 89] _ (by kernel_rfl) (by kernel_rfl) (SFc.out _ (PW.out _ (jr _ _)).pe) ?_
  refine Canon.segs_at 36 _ _ _ (by kernel_rfl) ?_
  simp only [ja, jb, jc, jd]
  go_wp2_with fail
  refine (P1.out).mono ?_
  rintro e w3 ⟨x3, pa, rfl, op, pk1, g3⟩
  have G3 := lk (jt (jw (jr w2 none)) g3)
  have SP := lk op.sl
  have PK1 := lk pk1
  clear op pk1 g3 P1 t1 t2 t3 t4 t5 t6 t7 t8 t9 t10 t11
  go_wp2
  refine ⟨SFc.out _ (PW.out _ G3.out).pe, ?_⟩
  refine Canon.segs_at 2 _ _ _ (by kernel_rfl) ?_
  simp only [ja, jb, jc, jd]
  go_wp2_with fail
  refine (P2.out _ G3.out).mono ?_
  rintro e w4 ⟨x4, pb, rfl, oq, pk2, g4⟩
  have G4 := lk (jt G3.out g4)
  have SP4 := lk (SP.out.grown0 g4)
  have SQ := lk oq.sl
  have PK2 := lk pk2
  clear oq pk2 g4 P2 SP
  go_wp2
  refine ⟨SFc.out _ (PW.out _ G4.out).pe, ?_⟩
  refine Canon.segs_at 0 _ _ _ (by kernel_rfl) ?_
  simp only [ja, jb, jc, jd]
  have HQ := PW.out w4 G4.out
  have ML := lk (HQ.en.mul2 hu (HD.out.grown0 (jt G2.out G4.out)) HA.out SP4.out SQ.out (HQ.en.off SP4.out) (HQ.en.off SQ.out) (by rw [PK1.out.len, PK2.out.len, ← LA.out, ← LB.out]; omega))
  clear HQ
  go_wp2_with fail
  refine (ML.out).mono ?_
  rintro e w5 ⟨x5, c', a', rfl, wo, en, ha', g5⟩
  have EN := lk en
  have HA' := lk ha'
  have G5 := lk g5
  have PE5 := lk ((PW.out w4 G4.out).pe.grown (PW.out w4 G4.out).en.m g5)
  obtain ⟨X, ox, nx, vx⟩ := wo
  have SX := lk ox.sl
  obtain ⟨CX, cx, rfl, hcx, hcx2⟩ := ox.fm
  have VX : Hid (val 18446744073709551616 X = val (18446744073709551616 ^ k) za * val (18446744073709551616 ^ k) zb) := lk (by
   rw [← PK1.out.last SA.out.ws, ← PK2.out.last SB.out.ws]; exact vx)
  have SA5 := lk ((PW.out w4 G4.out).en.sl (SA.out.grown0 G4.out) g5)
  clear ML en ha' g5 ox nx vx
  obtain ⟨lx, hlx⟩ : ∃ z, z = X.length := ⟨_, rfl⟩
  rw [← hlx] at hcx SX ⊢
  have LX := lk hlx
  clear hlx
  go_wp2
  refine ⟨SFc.out _ PE5.out, ?_⟩
  refine Canon.segs_end _ _ _ (by kernel_rfl) ?_
  go_wp2
  refine ⟨by kernel_rfl, by kernel_rfl, by kernel_rfl, ?_⟩
  obtain ⟨n, hn⟩ : ∃ n, n + 1 = la' + lb' := ⟨la' + lb' - 1, by omega⟩
  have en : (la' : Int) + (lb' : Int) - 1 = (n : Int) := by omega
  have mk := make64 25 (by kernel_rfl) n n (n : Int) (n : Int) (by omega) (by omega) (by omega) (by omega)
  have OW := lk (own_made w5 w5.heap.size n n (Nat.le_refl _) (by omega) (by omega))
  have G0 := lk (ju (jr w5 none) (Obj.cells (madeCells #[.int .u64 0] n) 24))
  have KR : Hid (∀ i, ev ((X.drop (k * i)).take k) 18446744073709551616 = rd (pmul za zb) i) := lk (fun i => kron SA.out.ws SB.out.ws SX.out.ws (M := p * p) (Int.mul_nonneg (by omega) (by omega)) (fun i j => by
   have h1 := RA.out.rd hp i
   have h2 := RB.out.rd hp j
   exact ⟨Int.mul_nonneg h1.1 h2.1, Int.mul_le_mul (by omega) (by omega) h2.1 (by omega)⟩) (by rw [← LA.out, ← LB.out, ← KM.out]; exact KW.out) VX.out i)
  have HNn := lk hn
  have bn : n ≤ 1000 := by omega
  clear hn SFc e4 e5
  go_wp2
  clear mk en
  go_loopw [106] (fun v106 wr => ∃ (i : Nat) (os : List Int), v106 = .int .i64 i ∧ i ≤ n ∧ Mp (fun j => rd (pmul za zb) j % p) n i os ∧ Own wr w5.heap.size (.slice (some ⟨w5.heap.size, 0, none⟩) n n) os ∧ w5.grownBy wr none) (fun v106 _ => n - (intOf v106).toNat)
  case atStart => exact ⟨0, _, rfl, by omega, Mp.start _ n, OW.out, G0.out⟩
  case round =>
   clear OW G0
   obtain ⟨i, os, rfl, hi, mp, ow, G⟩ := hrel
   obtain ⟨wq, rfl⟩ : ∃ wq : World, wq = wr := ⟨_, rfl⟩
   have MP := lk mp
   have OW := lk ow
   have GG := lk G
   clear mp ow G
   by_cases hlt : i < n
   ·obtain ⟨S, hS⟩ : ∃ S, S = k * i := ⟨_, rfl⟩
    have eS : (k : Int) * (i : Int) = (S : Int) := by rw [hS]; exact (Int.natCast_mul _ _).symm
    have bS : S ≤ 3000 := by
     have : k * i ≤ 3 * 1000 := Nat.mul_le_mul bk.2 (by omega)
     omega
    have HS := lk hS
    have C0 := cs_new wq #[.int .u64 0, .int .u64 0, .int .u64 0] 179
    have GA := ju (jr wq none) (Obj.cells #[.int .u64 0, .int .u64 0, .int .u64 0] 179)
    have C1 : Hid (Cs (wq.alloc (Obj.cells #[.int .u64 0, .int .u64 0, .int .u64 0] 179)) wq.heap.size (wds X S 0)) := lk C0
    have OW1 := lk (OW.out.grown0 GA)
    have GG1 := lk (jt GG.out GA)
    have hbs : Hid (w5.heap.size < wq.heap.size) := lk OW.out.base_le.2
    clear hS C0 GA
    go_wp2
    go_loopw [13] (fun v13 ws => ∃ (j : Nat), v13 = .int .i64 j ∧ j ≤ k ∧ Cs ws wq.heap.size (wds X S j) ∧ Own ws w5.heap.size (.slice (some ⟨w5.heap.size, 0, none⟩) n n) os ∧ w5.grownBy ws none) (fun v13 _ => k - (intOf v13).toNat)
    case atStart => exact ⟨0, rfl, by omega, C1.out, OW1.out, GG1.out⟩
    case round =>
     clear C1 OW1 GG1
     obtain ⟨j, rfl, hj, cs, ow, G⟩ := hrel
     obtain ⟨ws, rfl⟩ : ∃ ws : World, ws = wr := ⟨_, rfl⟩
     have CS := lk cs
     have OW2 := lk ow
     have GG2 := lk G
     clear cs ow G
     by_cases hstep : j < k ∧ S + j < lx
     ·obtain ⟨h1, h2⟩ := hstep
      obtain ⟨bX, oX, rfl, hcX⟩ := (SX.out.grown0 GG2.out).at (S + j) (by rw [← LX.out]; exact h2)
      have hx0 := rd_w SX.out.ws (S + j)
      obtain ⟨x, hx⟩ : ∃ x, x = rd X (S + j) := ⟨_, rfl⟩
      rw [← hx] at hcX hx0
      have cj := CS.out.cell j (wds_get j (by omega))
      have fj := CS.out.free j (wds_get j (by omega))
      have CN := lk (CS.out.set j (.int .u64 x))
      rw [hx, wds_set (by omega), ← hx] at CN
      have d1 : decide ((j : Int) < (k : Int)) = true := decide_eq_true (by omega)
      have d2 : decide ((S : Int) + (j : Int) < (lx : Int)) = true := decide_eq_true (by omega)
      clear hx
      go_wp2
      go_roundw
      case rel => exact ⟨j + 1, by go_num, by omega, CN.out, OW2.out.grown (gb_rowC (jr _ _) j _) (by right; simp [Value.ownBlock]; have := hbs.out; omega), gb_set (p := ⟨wq.heap.size, j, none⟩) GG2.out (by have := hbs.out; show w5.heap.size ≤ wq.heap.size; omega) _⟩
      case measure => simp [intOf]; omega
     ·have KV : ev ((X.drop S).take k) 18446744073709551616 = rd (pmul za zb) i := by rw [HS.out]; exact KR.out i
      by_cases h1 : j < k
      ·have h2 : ¬ S + j < lx := fun h => hstep ⟨h1, h⟩
       have KE := wds_last (X := X) (s := S) (j := j) bk.1 bk.2 hj (.inr (by rw [← LX.out]; omega))
       have d1 : decide ((j : Int) < (k : Int)) = true := decide_eq_true (by omega)
       have d2 : decide ((S : Int) + (j : Int) < (lx : Int)) = false := decide_eq_false (by omega)
       have c0 := CS.out.cell 0 (wds_get 0 (by decide))
       have c1 := CS.out.cell 1 (wds_get 1 (by decide))
       have c2 := CS.out.cell 2 (wds_get 2 (by decide))
       have w0 := wd_w SX.out.ws S j 0
       have w1' := wd_w SX.out.ws S j 1
       have w2' := wd_w SX.out.ws S j 2
       rw [KE] at KV
       obtain ⟨y0, hy0⟩ : ∃ y, y = wd X S j 0 := ⟨_, rfl⟩
       obtain ⟨y1, hy1⟩ : ∃ y, y = wd X S j 1 := ⟨_, rfl⟩
       obtain ⟨y2, hy2⟩ : ∃ y, y = wd X S j 2 := ⟨_, rfl⟩
       rw [← hy0] at c0 w0 KV
       rw [← hy1] at c1 w1' KV
       rw [← hy2] at c2 w2' KV
       have PEs := PE5.out.grown0 GG2.out
       have RS := lk (residue_c ws p g I.r I.q y0 y1 y2 PEs.e0 PEs.rg w0 w1' w2')
       rw [KV] at RS
       clear hy0 hy1 hy2 PEs KE KV
       go_wp2_with fail
       refine (RS.out).mono ?_
       rintro e wa ⟨rfl, ga⟩
       have OW3 := lk (OW2.out.grown0 ga)
       have GG3 := lk (jt GG2.out ga)
       have fr := OW3.out.free i
       have ce := OW3.out.cell i (by rw [MP.out.len]; exact hlt)
       have mm := mod_nn (x := rd (pmul za zb) i) hp
       have MS := lk (MP.out.step hlt)
       obtain ⟨y, hy⟩ : ∃ y, y = rd (pmul za zb) i % p := ⟨_, rfl⟩
       rw [← hy] at mm MS ⊢
       clear RS ga OW2 GG2 c0 c1 c2 CS hy
       go_wp2
       clear eS
       go_roundw
       case rel => exact ⟨i + 1, _, by go_num, by omega, MS.out, OW3.out.store i mm.1 (by omega), gb_set (p := ⟨w5.heap.size, i, none⟩) GG3.out (Nat.le_refl _) _⟩
       case measure => simp [intOf]; omega
      ·obtain rfl : j = k := by omega
       have KE := wds_last (X := X) (s := S) (j := j) bk.1 bk.2 hj (.inl rfl)
       have c0 := CS.out.cell 0 (wds_get 0 (by decide))
       have c1 := CS.out.cell 1 (wds_get 1 (by decide))
       have c2 := CS.out.cell 2 (wds_get 2 (by decide))
       have w0 := wd_w SX.out.ws S j 0
       have w1' := wd_w SX.out.ws S j 1
       have w2' := wd_w SX.out.ws S j 2
       rw [KE] at KV
       obtain ⟨y0, hy0⟩ : ∃ y, y = wd X S j 0 := ⟨_, rfl⟩
       obtain ⟨y1, hy1⟩ : ∃ y, y = wd X S j 1 := ⟨_, rfl⟩
       obtain ⟨y2, hy2⟩ : ∃ y, y = wd X S j 2 := ⟨_, rfl⟩
       rw [← hy0] at c0 w0 KV
       rw [← hy1] at c1 w1' KV
       rw [← hy2] at c2 w2' KV
       have PEs := PE5.out.grown0 GG2.out
       have RS := lk (residue_c ws p g I.r I.q y0 y1 y2 PEs.e0 PEs.rg w0 w1' w2')
       rw [KV] at RS
       clear hy0 hy1 hy2 PEs KE KV
       go_wp2_with fail
       refine (RS.out).mono ?_
       rintro e wa ⟨rfl, ga⟩
       have OW3 := lk (OW2.out.grown0 ga)
       have GG3 := lk (jt GG2.out ga)
       have fr := OW3.out.free i
       have ce := OW3.out.cell i (by rw [MP.out.len]; exact hlt)
       have mm := mod_nn (x := rd (pmul za zb) i) hp
       have MS := lk (MP.out.step hlt)
       obtain ⟨y, hy⟩ : ∃ y, y = rd (pmul za zb) i % p := ⟨_, rfl⟩
       rw [← hy] at mm MS ⊢
       clear RS ga OW2 GG2 c0 c1 c2 CS hy
       go_wp2
       clear eS
       go_roundw
       case rel => exact ⟨i + 1, _, by go_num, by omega, MS.out, OW3.out.store i mm.1 (by omega), gb_set (p := ⟨w5.heap.size, i, none⟩) GG3.out (Nat.le_refl _) _⟩
       case measure => simp [intOf]; omega
   ·obtain rfl : i = n := by omega
    have NF := lk (pnorm_c wq I.r I.q p _ os (PE5.out.grown0 GG.out).rg OW.out.sl (by rw [MP.out.len]; omega))
    have q0 := (PE5.out.grown0 GG.out).e0
    go_wp2_with fail
    refine (NF.out).mono ?_
    rintro e w6 ⟨x6, rfl, po, g6⟩
    go_wp2
    go_ret
    have G6 := jt GG.out g6
    refine ⟨_, a', c', rfl, (po.fn (L' := XS.length + YS.length) ?_ (by rw [MP.out.len]; have := HNn.out; omega)).mono (Nat.le_trans (jt G2.out G4.out).size (Nat.le_trans G5.out.size GG.out.size)), ⟨PE5.out.grown0 G6, EN.out.grown0 G6⟩, HA'.out, jt (jt (jn (jt G2.out G4.out) _) G5.out) (jn G6 _)⟩
    have e1 : Eqv p (ev os) (ev (pmul za zb)) := MP.out.eqv (fun j _ => Cg.mod _ _) (by rw [pmul_len za zb (by rw [← LA.out]; omega) (by rw [← LB.out]; omega), ← LA.out, ← LB.out]; have := HNn.out; omega)
    exact (e1.fn fun z => ev_pmul za zb z).trans E0.out
theorem sumI_first (f : Nat → Int) : ∀ n, sumI f (n + 1) = f 0 + sumI (fun t => f (t + 1)) n
 | 0 => by simp [sumI]
 | n + 1 => by
  have := sumI_first f n
  rw [sumI, this, sumI]; omega
theorem rd_pmul : ∀ (a b : List Int) (k : Nat), rd (pmul a b) k = cv (rd a) (rd b) k
 | [], b, k => by
  have : ∀ n, sumI (fun t => rd [] t * rd b (k - t)) n = 0 := fun n => by
   induction n with
   | zero => rfl
   | succ n ih => rw [sumI, ih, rd_nil]; simp
  rw [pmul, rd_nil]
  exact (this _).symm
 | c :: a, b, 0 => by
  rw [pmul, rd_padd, rd_pscl, rd_cons0]
  unfold cv
  simp [sumI, rd_cons0]
 | c :: a, b, k + 1 => by
  rw [pmul, rd_padd, rd_pscl, rd_cons1, rd_pmul a b k]
  unfold cv
  have e := sumI_first (fun t => rd (c :: a) t * rd b (k + 1 - t)) (k + 1)
  have : sumI (fun t => rd (c :: a) (t + 1) * rd b (k + 1 - (t + 1))) (k + 1) = sumI (fun t => rd a t * rd b (k - t)) (k + 1) := sumI_congr _ fun t _ => by
   rw [rd_cons1, show k + 1 - (t + 1) = k - t by omega]
  rw [e, this]; rfl
theorem cv_nn {a b : List Int} (ha : Ws a) (hb : Ws b) (k : Nat) : 0 ≤ cv (rd a) (rd b) k := sumI_nonneg _ fun t _ => Int.mul_nonneg (rd_w ha t).1 (rd_w hb _).1
theorem tr_le {n m : Nat} (h : n + m ≤ 1024) : transf n m 3 ≤ 100000 := by
 unfold transf
 obtain ⟨L, hL⟩ : ∃ L, L = blen (n + m - 1) := ⟨_, rfl⟩
 obtain ⟨N, hN⟩ : ∃ N, N = 2 ^ L := ⟨_, rfl⟩
 have hL10 : L ≤ 10 := by rw [hL]; exact blen10 h
 have hN10 : N ≤ 1024 := by rw [hN]; exact Nat.pow_le_pow_right (by decide) hL10
 rw [← hL, ← hN]
 have h1 : 3 * (N / 2) ≤ 3 * 512 := Nat.mul_le_mul (Nat.le_refl _) (by omega)
 have h2 : 3 * (N / 2) * L ≤ 1536 * 10 := Nat.mul_le_mul h1 hL10
 omega
theorem ntt_c {u : Tb} (_hu : TbOk u) (w : World) (p : Int) (g : Nat) (I : Pix) (a : Int) (c : Mc) (U V : Value) (XS YS : List Int) (h : Pq w u p g I a c) (hd : Db w) (ha : a ≤ 900000000000000) (hU : Sl w U XS) (hV : Sl w V YS) (hl : XS.length + YS.length ≤ 340) :
  Calls Tryz.prog 80 #[.pointer (some ⟨g, 0, none⟩), U, V] w fun e w' => ∃ x a' c', e = .returned x ∧ Po w' w.heap.size x p (fun z => ev XS z * ev YS z) (XS.length + YS.length) ∧ Pq w' u p g I a' c' ∧ a' ≤ a + 10000000 ∧ w.grownBy w' (some I.gm) := by
 have hp := h.rg.m.neg0
 have hp3 := h.rg.m.pm.lo
 have hp' := h.rg.m.pm.hi
 have N1 := lk (pnorm_c w.drew I.r I.q p U XS h.rg.drew (hU.grown0 (jw (jr w none))) (by omega))
 have N2 := lk (fun w1 (k : w.grownBy w1 none) => pnorm_c w1 I.r I.q p V YS (h.rg.grown0 k) (hV.grown0 k) (by omega))
 have HP := lk h
 have HD := lk hd
 have HA := lk ha
 have t0 := h.pe.e0
 have SFo : Hid (∀ W, w.grownBy W none → Canon.SF [(⟨g, 0, none⟩, .pointer (some ⟨I.r, 0, none⟩))] W) := lk (fun W k => Canon.sf_cons (gb_cell0 k h.pe.e0) (Canon.sf_nil _))
 clear hU hV h hd ha
 go_enter Tryz.func80, Tryz.ntmps80
 go_wp2
 refine Canon.region_held [21] _ (by kernel_rfl) (by kernel_rfl) (SFo.out _ (jr _ _)) ?_
 refine Canon.segs_at 5 _ _ _ (by kernel_rfl) ?_
 simp only [ja, jb, jc, jd]
 go_wp2_with fail
 refine (N1.out).mono ?_
 rintro e w1 ⟨x1, rfl, ⟨za, oa, na, ea, la⟩, g1⟩
 have G1 := lk (jt (jw (jr w none)) g1)
 clear t0
 have t0 := gb_cell0 G1.out HP.out.pe.e0
 clear N1 g1
 go_wp2
 refine ⟨SFo.out _ G1.out, ?_⟩
 refine Canon.segs_at 5 _ _ _ (by kernel_rfl) ?_
 simp only [ja, jb, jc, jd]
 go_wp2_with fail
 refine (N2.out _ G1.out).mono ?_
 rintro e w2 ⟨x2, rfl, ⟨zb, ob, nb, eb, lb⟩, g2⟩
 have G2 := lk (jt G1.out g2)
 have SA := lk (oa.sl.grown0 g2)
 have SB := lk ob.sl
 have E0 := lk (Eqv.rows ea eb)
 obtain ⟨A, ca, rfl, hca, hca2⟩ := oa.fm
 obtain ⟨B, cb, rfl, hcb, hcb2⟩ := ob.fm
 have RA := lk na
 have RB := lk nb
 clear N2 oa ob na nb ea eb g2 t0
 obtain ⟨la', ha⟩ : ∃ z, z = za.length := ⟨_, rfl⟩
 obtain ⟨lb', hb⟩ : ∃ z, z = zb.length := ⟨_, rfl⟩
 rw [← ha] at hca la SA
 rw [← hb] at hcb lb SB
 have LA := lk ha
 have LB := lk hb
 rw [← ha, ← hb]
 clear ha hb
 go_wp2
 refine ⟨SFo.out _ G2.out, ?_⟩
 refine Canon.segs_end _ _ _ (by kernel_rfl) ?_
 go_wp2
 refine ⟨by kernel_rfl, by kernel_rfl, by kernel_rfl, ?_⟩
 by_cases ha0 : la' = 0
 ·subst ha0
  have EZ := lk (List.eq_nil_of_length_eq_zero LA.out.symm)
  go_wp2
  go_ret
  exact ⟨_, a, c, rfl, po_nil _ _ _ _ ((Eqv.of_eq p fun x => by rw [EZ.out]; simp [ev]).trans E0.out), HP.out.grown0 G2.out, by omega, jn G2.out _⟩
 by_cases hb0 : lb' = 0
 ·subst hb0
  have EZ := lk (List.eq_nil_of_length_eq_zero LB.out.symm)
  have a0' : ((la' : Int) == 0) = false := by simp; omega
  go_wp2
  go_ret
  exact ⟨_, a, c, rfl, po_nil _ _ _ _ ((Eqv.of_eq p fun x => by rw [EZ.out]; simp [ev]).trans E0.out), HP.out.grown0 G2.out, by omega, jn G2.out _⟩
 have a0' : ((la' : Int) == 0) = false := by simp; omega
 have b0' : ((lb' : Int) == 0) = false := by simp; omega
 have HQ := HP.out.grown0 G2.out
 have OA := (HQ.en.off SA.out).resolve_left (fun e => ha0 (by rw [LA.out, e]; rfl))
 have OB := (HQ.en.off SB.out).resolve_left (fun e => hb0 (by rw [LB.out, e]; rfl))
 have WD := lk (words_c w2 I.gm a 0 c _ _ za zb HQ.en.m (HD.out.grown0 G2.out) (by have := HA.out; omega) SA.out SB.out (by rw [← LA.out]; omega) (by rw [← LB.out]; omega) (by rw [← LA.out, ← LB.out]; omega) OA OB)
 rw [← LA.out, ← LB.out] at WD
 obtain ⟨n, hn⟩ : ∃ n, n = la' + lb' - 1 := ⟨_, rfl⟩
 rw [← hn] at WD
 have HN := lk hn
 have bn : n ≤ 1000 := by omega
 have t1 := HQ.pe.e1
 have t2 := HQ.pe.ch.c0
 have t3 := HQ.pe.ch.c1
 have t4 := HQ.pe.ch.c2
 have t5 := HQ.pe.ch.c3
 have t6 := HQ.pe.ch.c4
 have t7 := HQ.pe.ch.c5
 have t8 := HQ.pe.ch.c6
 have t9 := HQ.pe.ch.c7
 have t10 := HQ.pe.ch.c8
 have t11 := HQ.pe.ch.c9
 have t12 := HQ.en.e.h0
 have t13 := HQ.en.e.h1
 have t14 := HQ.en.e.h2
 have t15 := HQ.en.e.h3
 clear OA OB hn
 go_wp2_with fail
 refine (WD.out).mono ?_
 rintro e w5 ⟨gl, os, rfl, ol, jo, mt, hgl, g5⟩
 clear t1 t2 t3 t4 t5 t6 t7 t8 t9 t10 t11 t12 t13 t14 t15
 have EN := lk (⟨HQ.en.e.grown g5, mt, HQ.en.t⟩ : En w5 u I.g0 I.g1 I.g2 I.g3 I.gm _ c)
 have PE5 := lk (HQ.pe.grown HQ.en.m g5)
 have TR : Hid (a + ((transf la' lb' 3 : Nat) : Int) ≤ a + 10000000) := lk (by have := tr_le (n := la') (m := lb') (by omega); omega)
 have G5 := lk g5
 have OL := lk ol
 have JO := lk jo
 have mk := make64 25 (by kernel_rfl) n n (n : Int) (n : Int) (by omega) (by omega) (by omega) (by omega)
 have OW := lk (own_made w5 w5.heap.size n n (Nat.le_refl _) (by omega) (by omega))
 have G0 := lk (ju (jr w5 none) (Obj.cells (madeCells #[.int .u64 0] n) 24))
 have KR : Hid (∀ i, i < n → ((t3 os i : Nat) : Int) = rd (pmul za zb) i) := lk (fun i hi => by
  rw [rd_pmul, JO.out.v i hi]
  have := cv_nn SA.out.ws SB.out.ws i
  omega)
 clear HQ WD ol jo mt hgl g5 a0' b0'
 go_wp2
 clear mk
 go_loopw [97] (fun v97 wr => ∃ (i : Nat) (ys : List Int), v97 = .int .i64 i ∧ i ≤ n ∧ Mp (fun j => rd (pmul za zb) j % p) n i ys ∧ Own wr w5.heap.size (.slice (some ⟨w5.heap.size, 0, none⟩) n n) ys ∧ w5.grownBy wr none) (fun v97 _ => n - (intOf v97).toNat)
 case atStart => exact ⟨0, _, rfl, by omega, Mp.start _ n, OW.out, G0.out⟩
 case round =>
  clear OW G0
  obtain ⟨i, ys, rfl, hi, mp, ow, G⟩ := hrel
  obtain ⟨wq, rfl⟩ : ∃ wq : World, wq = wr := ⟨_, rfl⟩
  have MP := lk mp
  have OW := lk ow
  have GG := lk G
  clear mp ow G
  by_cases hlt : i < n
  ·have OL3 := OL.out.grown0 GG.out
   have d0 := OL3.cell3 i hlt 0 (by decide)
   rw [Nat.add_zero] at d0
   have d1 := OL3.cell3 i hlt 1 (by decide)
   have d2 := OL3.cell3 i hlt 2 (by decide)
   have KV := KR.out i hlt
   have KV2 : ((t3 os i : Nat) : Int) = rd os (i * 3) + 18446744073709551616 * (rd os (i * 3 + 1) + 18446744073709551616 * rd os (i * 3 + 2)) := by
    show ((val 18446744073709551616 (ts3 os i) : Nat) : Int) = _
    rw [ev_val (fun c hc => (ts3_ws JO.out.ws i c hc).1), Nat.mul_comm i 3]
    simp [ev, ts3]
   rw [KV2] at KV
   have w0 := rd_w JO.out.ws (i * 3)
   have w1' := rd_w JO.out.ws (i * 3 + 1)
   have w2' := rd_w JO.out.ws (i * 3 + 2)
   obtain ⟨y0, hy0⟩ : ∃ y, y = rd os (i * 3) := ⟨_, rfl⟩
   obtain ⟨y1, hy1⟩ : ∃ y, y = rd os (i * 3 + 1) := ⟨_, rfl⟩
   obtain ⟨y2, hy2⟩ : ∃ y, y = rd os (i * 3 + 2) := ⟨_, rfl⟩
   rw [← hy0] at d0 w0 KV
   rw [← hy1] at d1 w1' KV
   rw [← hy2] at d2 w2' KV
   have GA := ju (jr wq none) (Obj.cells #[.int .u64 y0, .int .u64 y1, .int .u64 y2] 179)
   have C0 := cs_new wq #[.int .u64 y0, .int .u64 y1, .int .u64 y2] 179
   have c0 := C0.cell 0 rfl
   have c1 := C0.cell 1 rfl
   have c2 := C0.cell 2 rfl
   have PEs := PE5.out.grown0 (jt GG.out GA)
   have RS := lk (residue_c _ p g I.r I.q y0 y1 y2 PEs.e0 PEs.rg w0 w1' w2')
   rw [KV] at RS
   have HGA := lk GA
   clear hy0 hy1 hy2 PEs KV KV2 C0 GA OL3
   go_wp2_with fail
   refine (RS.out).mono ?_
   rintro e wa ⟨rfl, ga⟩
   have OW3 := lk ((OW.out.grown0 HGA.out).grown0 ga)
   have GG3 := lk (jt (jt GG.out HGA.out) ga)
   have fr := OW3.out.free i
   have ce := OW3.out.cell i (by rw [MP.out.len]; exact hlt)
   have mm := mod_nn (x := rd (pmul za zb) i) hp
   have MS := lk (MP.out.step hlt)
   obtain ⟨y, hy⟩ : ∃ y, y = rd (pmul za zb) i % p := ⟨_, rfl⟩
   rw [← hy] at mm MS ⊢
   clear RS ga HGA c0 c1 c2 d0 d1 d2 hy OW GG
   go_wp2
   go_roundw
   case rel => exact ⟨i + 1, _, by go_num, by omega, MS.out, OW3.out.store i mm.1 (by omega), gb_set (p := ⟨w5.heap.size, i, none⟩) GG3.out (Nat.le_refl _) _⟩
   case measure => simp [intOf]; omega
  ·obtain rfl : i = n := by omega
   have NF := lk (pnorm_c wq I.r I.q p _ ys (PE5.out.grown0 GG.out).rg OW.out.sl (by rw [MP.out.len]; omega))
   have q0 := (PE5.out.grown0 GG.out).e0
   go_wp2_with fail
   refine (NF.out).mono ?_
   rintro e w6 ⟨x6, rfl, po, g6⟩
   go_wp2
   go_ret
   have G6 := jt GG.out g6
   refine ⟨_, _, c, rfl, (po.fn (L' := XS.length + YS.length) ?_ (by rw [MP.out.len]; have := HN.out; omega)).mono (Nat.le_trans G2.out.size (Nat.le_trans G5.out.size GG.out.size)), ⟨PE5.out.grown0 G6, EN.out.grown0 G6⟩, TR.out, jt (jt (jn G2.out _) G5.out) (jn G6 _)⟩
   have e1 : Eqv p (ev ys) (ev (pmul za zb)) := MP.out.eqv (fun j _ => Cg.mod _ _) (by rw [pmul_len za zb (by rw [← LA.out]; omega) (by rw [← LB.out]; omega), ← LA.out, ← LB.out, ← HN.out]; exact Nat.le_refl _)
   exact (e1.fn fun z => ev_pmul za zb z).trans E0.out
theorem pemul_c {u : Tb} (hu : TbOk u) (w : World) (p : Int) (g : Nat) (I : Pix) (a : Int) (c : Mc) (U V : Value) (XS YS : List Int) (h : Pq w u p g I a c) (hd : Db w) (ha : a ≤ 900000000000000) (hU : Sl w U XS) (hV : Sl w V YS) (hl : XS.length + YS.length ≤ 340) :
  Calls Tryz.prog 39 #[.pointer (some ⟨g, 0, none⟩), U, V] w fun e w' => ∃ x a' c', e = .returned x ∧ Po w' w.heap.size x p (fun z => ev XS z * ev YS z) (XS.length + YS.length) ∧ Pq w' u p g I a' c' ∧ a' ≤ a + 10000000 ∧ w.grownBy w' (some I.gm) := by
 have hp := h.rg.m.neg0
 have hp3 := h.rg.m.pm.lo
 have hp' := h.rg.m.pm.hi
 have N1 := lk (pnorm_c w.drew I.r I.q p U XS h.rg.drew (hU.grown0 (jw (jr w none))) (by omega))
 have N2 := lk (fun w1 (k : w.grownBy w1 none) => pnorm_c w1 I.r I.q p V YS (h.rg.grown0 k) (hV.grown0 k) (by omega))
 have HP := lk h
 have HD := lk hd
 have HA := lk ha
 have t0 := h.pe.e0
 have SFo : Hid (∀ W, w.grownBy W none → Canon.SF [(⟨g, 0, none⟩, .pointer (some ⟨I.r, 0, none⟩))] W) := lk (fun W k => Canon.sf_cons (gb_cell0 k h.pe.e0) (Canon.sf_nil _))
 clear hU hV h hd ha
 go_enter Tryz.func39, Tryz.ntmps39
 go_wp2
 refine Canon.region_held [18] _ (by kernel_rfl) (by kernel_rfl) (SFo.out _ (jr _ _)) ?_
 refine Canon.segs_at 5 _ _ _ (by kernel_rfl) ?_
 simp only [ja, jb, jc, jd]
 go_wp2_with fail
 refine (N1.out).mono ?_
 rintro e w1 ⟨x1, rfl, ⟨za, oa, na, ea, la⟩, g1⟩
 have G1 := lk (jt (jw (jr w none)) g1)
 clear t0
 have t0 := gb_cell0 G1.out HP.out.pe.e0
 clear N1 g1
 go_wp2
 refine ⟨SFo.out _ G1.out, ?_⟩
 refine Canon.segs_at 5 _ _ _ (by kernel_rfl) ?_
 simp only [ja, jb, jc, jd]
 go_wp2_with fail
 refine (N2.out _ G1.out).mono ?_
 rintro e w2 ⟨x2, rfl, ⟨zb, ob, nb, eb, lb⟩, g2⟩
 have G2 := lk (jt G1.out g2)
 have SA := lk (oa.sl.grown0 g2)
 have SB := lk ob.sl
 have E0 := lk (Eqv.rows ea eb)
 obtain ⟨A, ca, rfl, hca, hca2⟩ := oa.fm
 obtain ⟨B, cb, rfl, hcb, hcb2⟩ := ob.fm
 have RA := lk na
 have RB := lk nb
 clear N2 oa ob na nb ea eb g2 t0
 obtain ⟨la', ha⟩ : ∃ z, z = za.length := ⟨_, rfl⟩
 obtain ⟨lb', hb⟩ : ∃ z, z = zb.length := ⟨_, rfl⟩
 rw [← ha] at hca la SA
 rw [← hb] at hcb lb SB
 have LA := lk ha
 have LB := lk hb
 rw [← ha, ← hb]
 clear ha hb
 go_wp2
 refine ⟨SFo.out _ G2.out, ?_⟩
 refine Canon.segs_end _ _ _ (by kernel_rfl) ?_
 go_wp2
 refine ⟨by kernel_rfl, by kernel_rfl, by kernel_rfl, ?_⟩
 have HQ := HP.out.grown0 G2.out
 obtain ⟨m, hm⟩ : ∃ m, m = min la' lb' := ⟨_, rfl⟩
 have HM := lk hm
 have t1 := HQ.pe.e1
 have t2 := HQ.pe.ch.c0
 have t3 := HQ.pe.ch.c1
 have t4 := HQ.pe.ch.c2
 have t5 := HQ.pe.ch.c3
 have t6 := HQ.pe.ch.c4
 have t7 := HQ.pe.ch.c5
 have t8 := HQ.pe.ch.c6
 have t9 := HQ.pe.ch.c7
 have t10 := HQ.pe.ch.c8
 have t11 := HQ.pe.ch.c9
 have t12 := HQ.en.e.h0
 have t13 := HQ.en.e.h1
 have t14 := HQ.en.e.h2
 have t15 := HQ.en.e.h3
 have s3 := HQ.cell 3 (by decide)
 have s4 := HQ.cell 4 (by decide)
 have s5 := HQ.cell 5 (by decide)
 have s6 := HQ.cell 6 (by decide)
 have s7 := HQ.cell 7 (by decide)
 have s8 := HQ.cell 8 (by decide)
 have s9 := HQ.cell 9 (by decide)
 have s10 := HQ.cell 10 (by decide)
 have s11 := HQ.cell 11 (by decide)
 have s12 := HQ.cell 12 (by decide)
 have s13 := HQ.cell 13 (by decide)
 rw [show u.vs[3 - 3]? = some (.int .i64 u.eb) from rfl] at s3
 rw [show u.vs[4 - 3]? = some (.int .i64 u.et) from rfl] at s4
 rw [show u.vs[5 - 3]? = some (.int .i64 u.en) from rfl] at s5
 rw [show u.vs[6 - 3]? = some (.int .i64 u.ed) from rfl] at s6
 rw [show u.vs[7 - 3]? = some (.int .i64 u.er) from rfl] at s7
 rw [show u.vs[8 - 3]? = some (.int .i64 u.el) from rfl] at s8
 rw [show u.vs[9 - 3]? = some (.int .i64 u.ex) from rfl] at s9
 rw [show u.vs[10 - 3]? = some (.int .i64 u.ep) from rfl] at s10
 rw [show u.vs[11 - 3]? = some (.int .i64 u.ek) from rfl] at s11
 rw [show u.vs[12 - 3]? = some (.int .i64 u.es) from rfl] at s12
 rw [show u.vs[13 - 3]? = some (.int .i64 u.ee) from rfl] at s13
 clear hm
 go_upto_region 3 with fail
 have CT := cs_new w2 #[.int .i64 u.eb, .int .i64 u.et, .int .i64 u.en, .int .i64 u.ed, .int .i64 u.er, .int .i64 u.el, .int .i64 u.ex, .int .i64 u.ep, .int .i64 u.ek, .int .i64 u.es, .int .i64 u.ee] 23
 have GA := ju (jr w2 none) (Obj.cells #[.int .i64 u.eb, .int .i64 u.et, .int .i64 u.en, .int .i64 u.ed, .int .i64 u.er, .int .i64 u.el, .int .i64 u.ex, .int .i64 u.ep, .int .i64 u.ek, .int .i64 u.es, .int .i64 u.ee] 23)
 have HCT := lk CT
 have HGA := lk GA
 clear CT GA
 go_cut [8] from 70 to 74 (fun v8 wx => v8 = .int .i64 m ∧ w2.alloc (Obj.cells #[.int .i64 u.eb, .int .i64 u.et, .int .i64 u.en, .int .i64 u.ed, .int .i64 u.er, .int .i64 u.el, .int .i64 u.ex, .int .i64 u.ep, .int .i64 u.ek, .int .i64 u.es, .int .i64 u.ee] 23) = wx)
 case first =>
  clear t1 t2 t3 t4 t5 t6 t7 t8 t9 t10 t11 t12 t13 t14 t15
  clear s3 s4 s5 s6 s7 s8 s9 s10 s11 s12 s13
  rcases Nat.lt_trichotomy la' lb' with hlt | heq | hgt
  ·obtain rfl : m = la' := by have := HM.out; omega
   clear HM
   go_wp2_with fail
   go_meet
   exact ⟨rfl, rfl⟩
  ·subst heq
   obtain rfl : m = la' := by have := HM.out; omega
   clear HM
   go_wp2_with fail
   go_meet
   exact ⟨rfl, rfl⟩
  ·obtain rfl : m = lb' := by have := HM.out; omega
   clear HM
   go_wp2_with fail
   go_meet
   exact ⟨rfl, rfl⟩
 case rest =>
  clear t1 t2 t3 t4 t5 t6 t7 t8 t9 t10 t11 t12 t13 t14 t15
  clear s3 s4 s5 s6 s7 s8 s9 s10 s11 s12 s13
  obtain ⟨rfl, hw⟩ := hcut
  rw [hw] at HCT HGA
  clear hw
  have G3 := lk (jt G2.out HGA.out)
  have SA3 := lk (SA.out.grown0 HGA.out)
  have SB3 := lk (SB.out.grown0 HGA.out)
  have HP3 := lk (HQ.grown0 HGA.out)
  have C := lk HCT.out
  have hA : Hid (a ≤ 900000000000000) := HA
  clear HQ HGA HCT SA SB
  have q2 := C.out.cell 2 rfl
  have q7 := C.out.cell 7 rfl
  have q8 := C.out.cell 8 rfl
  obtain ⟨vp, hvp⟩ : ∃ z, z = u.ep := ⟨_, rfl⟩
  obtain ⟨vk, hvk⟩ : ∃ z, z = u.ek := ⟨_, rfl⟩
  obtain ⟨vn, hvn⟩ : ∃ z, z = u.en := ⟨_, rfl⟩
  rw [← hvp] at q7
  rw [← hvk] at q8
  rw [← hvn] at q2
  clear hvp hvk hvn
  have FIN : Hid (∀ (w' : World) (x : Value) (base L : Nat), Po w' base x p (fun z => ev za z * ev zb z) L → w.heap.size ≤ base → L ≤ la' + lb' → Po w' w.heap.size x p (fun z => ev XS z * ev YS z) (XS.length + YS.length)) :=
   lk (fun w' x base L po hb hL => (po.fn E0.out (by omega)).mono hb)
  by_cases h1 : (m : Int) < vp
  ·have TM := lk (ptimes_c wc I.r I.q p _ _ za zb HP3.out.rg SA3.out SB3.out (by rw [← LA.out]; omega) (by rw [← LB.out]; omega))
   rw [← LA.out, ← LB.out] at TM
   have t0 := HP3.out.pe.e0
   go_wp2_with fail
   refine (TM.out).mono ?_
   rintro e w4 ⟨x4, rfl, po, g4⟩
   go_wp2
   go_ret
   exact ⟨_, a, c, rfl, FIN.out _ _ _ _ po G3.out.size (Nat.le_refl _), HP3.out.grown0 g4, by omega, jn (jt G3.out g4) _⟩
  ·by_cases h2 : (m : Int) < vk
   ·have KM := lk (kara_any u p g I hu (la' + lb') wc a c _ _ za zb HP3.out SA3.out SB3.out (by rw [← LA.out, ← LB.out]; exact Nat.le_refl _) (by omega))
    rw [← LA.out, ← LB.out] at KM
    go_wp2_with fail
    refine (KM.out).mono ?_
    rintro e w4 ⟨x4, rfl, po, g4⟩
    go_wp2
    go_ret
    exact ⟨_, a, c, rfl, FIN.out _ _ _ _ po G3.out.size (Nat.le_refl _), HP3.out.grown0 g4, by omega, jn (jt G3.out g4) _⟩
   ·obtain ⟨sm, hsm⟩ : ∃ z, z = la' + lb' := ⟨_, rfl⟩
    have esm : (la' : Int) + (lb' : Int) = (sm : Int) := by omega
    have HSM := lk hsm
    clear hsm
    by_cases h3 : vn ≤ (sm : Int)
    ·have NM := lk (ntt_c hu wc p g I a c _ _ za zb HP3.out (HD.out.grown0 G3.out) HA.out SA3.out SB3.out (by rw [← LA.out, ← LB.out]; omega))
     rw [← LA.out, ← LB.out] at NM
     go_wp2_with fail
     refine (NM.out).mono ?_
     rintro e w4 ⟨x4, a', c', rfl, po, pq, ha', g4⟩
     go_wp2
     go_ret
     exact ⟨_, a', c', rfl, FIN.out _ _ _ _ po G3.out.size (Nat.le_refl _), pq, ha', jt (jn G3.out _) g4⟩
    ·have KM := lk (kron_c hu wc p g I a c _ _ za zb HP3.out (HD.out.grown0 G3.out) HA.out SA3.out SB3.out (by rw [← LA.out, ← LB.out]; omega))
     rw [← LA.out, ← LB.out] at KM
     go_wp2_with fail
     refine (KM.out).mono ?_
     rintro e w4 ⟨x4, a', c', rfl, po, pq, ha', g4⟩
     go_wp2
     go_ret
     exact ⟨_, a', c', rfl, FIN.out _ _ _ _ po G3.out.size (Nat.le_refl _), pq, ha', jt (jn G3.out _) g4⟩
theorem Pq.sl {w w' : World} {u : Tb} {p : Int} {g : Nat} {I : Pix} {a : Int} {c : Mc} (h : Pq w u p g I a c) {v : Value} {xs : List Int} (s : Sl w v xs) (k : w.grownBy w' (some I.gm)) : Sl w' v xs := h.en.sl s k
theorem Pq.offT {w : World} {u : Tb} {p : Int} {g : Nat} {I : Pix} {a : Int} {c : Mc} (h : Pq w u p g I a c) {v : Value} {n : Nat} {V : Nat → Value} {X : Nat → List Int} (s : Pts w v n V X) (hn : 0 < n) : Off v I.gm := by
 obtain ⟨A, k, rfl, _, _, h4⟩ := s.c
 obtain ⟨b, o, rfl, hc⟩ := h4 hn
 have hx := hc 0 (by omega)
 rw [Nat.add_zero] at hx
 obtain ⟨A', c', e, _⟩ := (s.s 0 hn).form
 rw [e] at hx
 intro b' hb' e'
 simp only [Value.ownBlock, Option.some.injEq] at hb'
 subst hb'
 subst e'
 have kind : ∀ z, World.cell? w ⟨I.gm, o, none⟩ ≠ some (.int .i64 z) := fun z hz => by
  rw [hx] at hz
  simp at hz
 by_cases o3 : 3 ≤ o
 ·have hr := h.cell o o3
  rw [hx] at hr
  obtain ⟨z, hz⟩ := vs_int u (o - 3) hr.symm
  simp at hz
 ·rcases (show o = 0 ∨ o = 1 ∨ o = 2 by omega) with rfl | rfl | rfl
  ·exact kind _ h.en.m.c0
  ·exact kind _ h.en.m.c1
  ·exact kind _ h.en.m.c2
theorem Pq.pts {w w' : World} {u : Tb} {p : Int} {g : Nat} {I : Pix} {a : Int} {c : Mc} (h : Pq w u p g I a c) {v : Value} {n : Nat} {V : Nat → Value} {X : Nat → List Int} (s : Pts w v n V X) (hn : 0 < n) (k : w.grownBy w' (some I.gm)) : Pts w' v n V X :=
 s.growngX (h.offT s hn) (fun j hj => h.en.off (s.s j hj)) k
theorem nf_one {p : Int} (hp : 1 < p) : Nf p [1] := ⟨fun c hc => by obtain rfl := List.mem_singleton.1 hc; omega, rfl⟩
theorem Db.gm {w w' : World} {u : Tb} {p : Int} {g : Nat} {I : Pix} {a : Int} {c : Mc} (h : Pq w u p g I a c) (hd : Db w) (k : w.grownBy w' (some I.gm)) : Db w' := hd.grown h.en.m k
theorem rReds_c (w : World) (v : Value) (xs : List Int) (p : Int) (hp : 0 < p) (hp' : p < 4611686018427387904) (hv : Sl w v xs) (hl : xs.length ≤ 1000000) :
  Calls Tryz.prog 83 #[v, .int .u64 p] w fun e w' => ∃ x os, e = .returned x ∧ Own w' w.heap.size x os ∧ Mp (fun j => rd xs j % p) xs.length xs.length os ∧ w.grownBy w' none := by
 obtain ⟨A, c, rfl, hnc, hc⟩ := hv.form
 have HV := lk hv
 obtain ⟨n, hn⟩ : ∃ n, n = xs.length := ⟨_, rfl⟩
 rw [← hn] at hnc hl ⊢
 have mk := make64 25 (by kernel_rfl) n n (n : Int) (n : Int) (by omega) (by omega) (by omega) (by omega)
 have OW := lk (own_made w w.heap.size n n (Nat.le_refl _) (by omega) (by omega))
 have G0 := lk (ju (jr w none) (Obj.cells (madeCells #[.int .u64 0] n) 24))
 have HN := lk hn
 clear hv hn
 go_enter Tryz.func83, Tryz.ntmps83
 go_wp2
 clear mk
 go_loopw [6] (fun v6 wr => ∃ (i : Nat) (os : List Int), v6 = .int .i64 i ∧ i ≤ n ∧ Mp (fun j => rd xs j % p) n i os ∧ Own wr w.heap.size (.slice (some ⟨w.heap.size, 0, none⟩) n n) os ∧ w.grownBy wr none) (fun v6 _ => n - (intOf v6).toNat)
 case atStart => exact ⟨0, _, rfl, by omega, Mp.start _ n, OW.out, G0.out⟩
 case round =>
  clear OW G0
  obtain ⟨i, os, rfl, hi, mp, ow, G⟩ := hrel
  have MP := lk mp
  have OW := lk ow
  have GG := lk G
  clear mp ow G
  by_cases hlt : i < n
  ·obtain ⟨b, o, rfl, hci⟩ := (HV.out.grown0 GG.out).at i (by rw [← HN.out]; exact hlt)
   have hr := rd_w HV.out.ws i
   have fr := OW.out.free i
   have ce := OW.out.cell i (by rw [MP.out.len]; exact hlt)
   have MS := lk (MP.out.step hlt)
   have mm := mod_nn (x := rd xs i) hp
   obtain ⟨x, hx⟩ : ∃ x, x = rd xs i := ⟨_, rfl⟩
   rw [← hx] at hci hr MS mm
   clear hx
   go_wp2
   go_roundw
   case rel => exact ⟨i + 1, _, by go_num, by omega, MS.out, OW.out.store i mm.1 (by omega), gb_set (p := ⟨w.heap.size, i, none⟩) GG.out (Nat.le_refl _) _⟩
   case measure => simp [intOf]; omega
  ·obtain rfl : i = n := by omega
   go_wp2
   go_ret
   exact ⟨_, os, rfl, OW.out, MP.out, GG.out⟩
theorem rNorm_c (w : World) (v : Value) (xs : List Int) (p : Int) (hp : 0 < p) (hp' : p < 4611686018427387904) (hv : Sl w v xs) (hl : xs.length ≤ 1000000) :
  Calls Tryz.prog 42 #[v, .int .u64 p] w fun e w' => ∃ x, e = .returned x ∧ Po w' w.heap.size x p (ev xs) xs.length ∧ w.grownBy w' none := by
 have RD := lk (rReds_c w v xs p hp hp' hv hl)
 clear hv
 go_enter Tryz.func42, Tryz.ntmps42
 go_wp2_with fail
 refine (RD.out).mono ?_
 rintro e w1 ⟨x1, os, rfl, ow, mp, g1⟩
 obtain ⟨A, c, rfl, b1, b2⟩ := ow.fm
 have h4 := fun j (hj : j < os.length) => ow.sl.at j hj
 have hr0 : ∀ j, os.length ≤ j → rd os j = 0 := fun j hj => rd_beyond hj
 have ht : ∀ k, k ≤ os.length → (∀ j, k ≤ j → rd os j = 0) → (k = 0 ∨ rd os (k - 1) ≠ 0) → k = (trimZ os).length := fun k hk h0 h1 => by
  rw [← take_trimZ (by omega) h0 h1, List.length_take]; omega
 have PO := lk (ow.po (L := xs.length) (mp.r hp (fun j _ => mod_nn hp) (Nat.le_refl _)) (mp.eqv (fun j _ => Cg.mod _ _) (Nat.le_refl _)) (by rw [mp.len]; exact Nat.le_refl _))
 obtain ⟨n, hn⟩ : ∃ n, n = os.length := ⟨_, rfl⟩
 obtain ⟨T, hT⟩ : ∃ T, T = (trimZ os).length := ⟨_, rfl⟩
 rw [← hT] at ht PO
 rw [← hn] at ht h4 hr0 b1 ⊢
 have HT := lk ht
 have HR := lk hr0
 have H4 := lk h4
 have G1 := lk g1
 clear ht hr0 h4 g1 RD ow mp hn hT
 go_wp2
 go_loopw [5] (fun v5 wr => ∃ k : Nat, v5 = .slice A k c ∧ k ≤ n ∧ (∀ j, k ≤ j → rd os j = 0) ∧ w1 = wr) (fun v5 _ => slenP v5)
 case atStart => exact ⟨n, rfl, Nat.le_refl _, HR.out, rfl⟩
 case round =>
  clear HR
  obtain ⟨k, rfl, hk, hz, hw⟩ := hrel
  subst hw
  have HZ := lk hz
  clear hz
  by_cases hk0 : k = 0
  ·subst hk0
   have ht := HT.out 0 (by omega) HZ.out (Or.inl rfl)
   subst ht
   clear H4 HT
   go_wp2
   go_ret
   exact ⟨_, rfl, PO.out, G1.out⟩
  ·obtain ⟨j, rfl⟩ : ∃ j, k = j + 1 := ⟨k - 1, by omega⟩
   obtain ⟨b, o, rfl, hci⟩ := H4.out j (by omega)
   have ej : ((j + 1 : Nat) : Int) - 1 = (j : Int) := by omega
   by_cases hx : rd os j = 0
   ·rw [hx] at hci
    go_wp2
    go_roundw
    case rel => exact ⟨j, by simp, by omega, fun i hi => by
     by_cases e : i = j
     ·rw [e]; exact hx
     ·exact HZ.out i (by omega), by trivial⟩
    case measure => simp [slenP]
   ·have ht := HT.out (j + 1) (by omega) HZ.out (Or.inr hx)
    subst ht
    obtain ⟨z, hz⟩ : ∃ z, z = rd os j := ⟨_, rfl⟩
    rw [← hz] at hci hx
    clear hz HT H4
    go_wp2
    go_ret
    exact ⟨_, rfl, PO.out, G1.out⟩
theorem rConv_c (w : World) (u v : Value) (xs ys : List Int) (n : Nat) (p : Int) (hp3 : 3 ≤ p) (hp' : p < 4611686018427387904) (hu : Sl w u xs) (hv : Sl w v ys) (hn : n = xs.length + ys.length) (hl : n ≤ 100000) :
  Calls Tryz.prog 58 #[u, v, .int .i64 n, .int .u64 p] w fun e w' => ∃ x os, e = .returned x ∧ Own w' w.heap.size x os ∧ Smp p n (fun z => ev xs z * ev ys z) os ∧ w.grownBy w' none := by
 have hp : 0 < p := by omega
 have SA := lk hu
 have SB := lk hv
 obtain ⟨A, ca, rfl, hca, _⟩ := hu.form
 obtain ⟨B, cb, rfl, hcb, _⟩ := hv.form
 obtain ⟨a, ha⟩ : ∃ z, z = xs.length := ⟨_, rfl⟩
 obtain ⟨b, hb⟩ : ∃ z, z = ys.length := ⟨_, rfl⟩
 rw [← ha] at hca hn SA
 rw [← hb] at hcb hn SB
 rw [← ha, ← hb]
 have mk := make64 25 (by kernel_rfl) n n (n : Int) (n : Int) (by omega) (by omega) (by omega) (by omega)
 have OW := lk (own_made w w.heap.size n n (Nat.le_refl _) (by omega) (by omega))
 have G0 := lk (ju (jr w none) (Obj.cells (madeCells #[.int .u64 0] n) 24))
 have S0 : Hid (Smp p n (fun x => ev (xs.take 0) x * ev ys x) (List.replicate n 0)) := lk ((Smp.start hp n).fn fun x => by simp [ev])
 have HN := lk hn
 have HA := lk ha
 have HB := lk hb
 clear hu hv ha hb hn
 go_enter Tryz.func58, Tryz.ntmps58
 go_wp2
 clear mk
 go_loopw [10] (fun v10 wr => ∃ (i : Nat) (os : List Int), v10 = .int .i64 i ∧ i ≤ a ∧ Smp p n (fun x => ev (xs.take i) x * ev ys x) os ∧ Own wr w.heap.size (.slice (some ⟨w.heap.size, 0, none⟩) n n) os ∧ w.grownBy wr none) (fun v10 _ => a - (intOf v10).toNat)
 case atStart => exact ⟨0, _, rfl, by omega, S0.out, OW.out, G0.out⟩
 case round =>
  clear OW G0 S0
  obtain ⟨i, os, rfl, hi, sm, ow, G⟩ := hrel
  obtain ⟨wq, rfl⟩ : ∃ wq : World, wq = wr := ⟨_, rfl⟩
  have SM := lk sm
  have OW := lk ow
  have GG := lk G
  clear sm ow G
  by_cases hlt : i < a
  ·have hx0 := rd_w SA.out.ws i
   obtain ⟨x, hx⟩ : ∃ x, x = rd xs i := ⟨_, rfl⟩
   rw [← hx] at hx0
   have HX := lk hx
   have S1 : Hid (Smp p n (fun z => ev (xs.take i) z * ev ys z + x * z ^ i * ev (ys.take 0) z) os) := lk (SM.out.fn fun z => by simp [ev])
   clear hx
   go_wp2
   go_loopw [11] (fun v11 ws => ∃ (j : Nat) (os : List Int), v11 = .int .i64 j ∧ j ≤ b ∧ Smp p n (fun z => ev (xs.take i) z * ev ys z + x * z ^ i * ev (ys.take j) z) os ∧ Own ws w.heap.size (.slice (some ⟨w.heap.size, 0, none⟩) n n) os ∧ w.grownBy ws none) (fun v11 _ => b - (intOf v11).toNat)
   case atStart => exact ⟨0, os, rfl, by omega, S1.out, OW.out, GG.out⟩
   case round =>
    clear S1 SM OW GG
    obtain ⟨j, os, rfl, hj, sm, ow, G⟩ := hrel
    obtain ⟨ws, rfl⟩ : ∃ ws : World, ws = wr := ⟨_, rfl⟩
    have SM := lk sm
    have OW := lk ow
    have GG := lk G
    clear sm ow G
    by_cases hlj : j < b
    ·obtain ⟨bA, oA, rfl, hci⟩ := (SA.out.grown0 GG.out).at i (by rw [← HA.out]; exact hlt)
     obtain ⟨bF, oF, rfl, hcj⟩ := (SB.out.grown0 GG.out).at j (by rw [← HB.out]; exact hlj)
     rw [← HX.out] at hci
     obtain ⟨k, hk⟩ : ∃ k, k = i + j := ⟨_, rfl⟩
     have hkn : k < n := by have := HN.out; omega
     have ek : (i : Int) + (j : Int) = (k : Int) := by omega
     have em : (k : Int) % (n : Int) = (k : Int) := Int.emod_eq_of_lt (by omega) (by omega)
     have et : (k : Int).tmod (n : Int) = (k : Int) := Int.tmod_eq_of_lt (by omega) (by omega)
     have HK := lk hk
     have hy0 := rd_w SB.out.ws j
     obtain ⟨y, hy⟩ : ∃ x, x = rd ys j := ⟨_, rfl⟩
     rw [← hy] at hcj hy0
     have HY := lk hy
     have ce := OW.out.cell k (by rw [SM.out.len]; exact hkn)
     have hz0 := SM.out.rd hkn
     obtain ⟨z, hz⟩ : ∃ x, x = rd os k := ⟨_, rfl⟩
     rw [← hz] at ce hz0
     have HZ := lk hz
     have ML := lk (refMul_c ws.drew p x y (by omega) (by omega) hx0.1 hy0.1)
     have AD := lk (fun w3 => refAdd_c w3 p z (x * y % p) (by omega) (by omega) hz0.1 (mod_nn hp).1)
     have HF := lk (Canon.sf_cons ce (Canon.sf_nil _))
     clear hk hy hz
     go_wp2
     refine Canon.region_held_l [37] _ (by kernel_rfl) (by kernel_rfl) (by kernel_rfl) HF.out ?_
     refine Canon.segl_at 15 _ _ _ (by kernel_rfl) (by kernel_rfl) ?_
     simp only [ja, jb, jc, jd]
     go_wp2_with fail
     refine (ML.out).mono ?_
     rintro e wa ⟨rfl, ga⟩
     have F2 := lk (Canon.sf_grown0 HF.out.drew ga)
     clear ML HF
     go_wp2
     refine ⟨F2.out, ?_⟩
     refine Canon.segl_at 1 _ _ _ (by kernel_rfl) (by kernel_rfl) ?_
     simp only [ja, jb, jc, jd]
     go_wp2_with fail
     refine (AD.out _).mono ?_
     rintro e wb ⟨rfl, gb⟩
     have F3 := lk (Canon.sf_grown0 F2.out gb)
     have OW2 := lk ((OW.out.drew.grown0 ga).grown0 gb)
     have GB := lk (jt (jt (jw GG.out) ga) gb)
     have mm := mod_nn (x := z + x * y % p) hp
     have et2 : (z + x * y % p) % p = (z + x * y) % p := Int.add_emod_emod ..
     have ET := lk et2
     have st := (SM.out.step hp hkn (t := x * y) (v := (z + x * y % p) % p) (by rw [← HZ.out, ET.out])).fn (G := fun z => ev (xs.take i) z * ev ys z + x * z ^ i * ev (ys.take (j + 1)) z) (fun t => by
      rw [ev_take_succ, ← HY.out, HK.out, Int.pow_add]; grind)
     obtain ⟨q, hq⟩ : ∃ q, q = (z + x * y % p) % p := ⟨_, rfl⟩
     rw [← hq] at mm st ⊢
     have ST := lk st
     clear AD F2 ga gb ce hcj hci OW GG st et2 ET hq
     go_wp2
     refine ⟨F3.out, ?_⟩
     have fr2 := OW2.out.free k
     have ce2 := OW2.out.cell k (by rw [SM.out.len]; exact hkn)
     refine Canon.segl_last 1 _ _ _ (by kernel_rfl) (by kernel_rfl) ?_
     go_wp2
     refine ⟨by kernel_rfl, by kernel_rfl, by kernel_rfl, ?_⟩
     go_wp2
     clear ek em et
     go_roundw
     case rel => exact ⟨j + 1, _, by go_num, by omega, ST.out, OW2.out.store k mm.1 (by omega), gb_set (p := ⟨w.heap.size, k, none⟩) GB.out (Nat.le_refl _) _⟩
     case measure => simp [intOf]; omega
    ·obtain rfl : j = b := by omega
     have S2 : Hid (Smp p n (fun x => ev (xs.take (i + 1)) x * ev ys x) os) := lk (SM.out.fn fun z => by
      rw [ev_take_of (a := ys) (by rw [HB.out]; exact Nat.le_refl _), ev_take_succ, ← HX.out]; grind)
     go_wp2
     go_roundw
     case rel => exact ⟨i + 1, _, by go_num, by omega, S2.out, OW.out, GG.out⟩
     case measure => simp [intOf]; omega
  ·obtain rfl : i = a := by omega
   have S3 : Hid (Smp p n (fun x => ev xs x * ev ys x) os) := lk (SM.out.fn fun z => by rw [ev_take_of (a := xs) (by rw [HA.out]; exact Nat.le_refl _)])
   go_wp2
   go_ret
   exact ⟨_, os, rfl, OW.out, S3.out, GG.out⟩
def ChL (w : World) : List Nat → Nat → Prop
 | [], _ => True
 | k :: ks, g0 => w.cell? ⟨k, 0, none⟩ = some (.pointer (some ⟨ks.headD g0, 0, none⟩)) ∧ ChL w ks g0
theorem ChL.grown0 {w w' : World} : ∀ {ks : List Nat} {g0 : Nat}, ChL w ks g0 → w.grownBy w' none → ChL w' ks g0
 | [], _, _, _ => trivial
 | _ :: _, _, h, g => ⟨gb_cell0 g h.1, h.2.grown0 g⟩
def NewK (n : Nat) (t : Tb) (w : World) (e : Ending) (w' : World) : Prop := ∃ ks g0 g1 g2 g3 gm, ks.length = n ∧ e = .returned (.pointer (some ⟨ks.headD g0, 0, none⟩)) ∧ ChL w' ks g0 ∧ En w' t.clamp g0 g1 g2 g3 gm 0 ⟨0, tbT t.clamp⟩ ∧ w.heap.size ≤ gm ∧ w.grownBy w' none
theorem mulK_c (w : World) (t : Tb) : Calls Tryz.prog 203 #[t.v] w fun e w' => NewK 0 t w e w' :=
 (En.new w t).mono fun _ _ ⟨g0, g1, g2, g3, gm, e1, e2, e3, e4⟩ => ⟨[], g0, g1, g2, g3, gm, rfl, e1, trivial, e2, e3, e4⟩
theorem divsK_c (w : World) (t : Tb) : Calls Tryz.prog 202 #[t.v] w fun e w' => NewK 1 t w e w' := by
 have HI := lk (fun w => mulK_c w t)
 have C0 := cs_new w #[.int .i64 t.eb, .int .i64 t.et, .int .i64 t.en, .int .i64 t.ed, .int .i64 t.er, .int .i64 t.el, .int .i64 t.ex, .int .i64 t.ep, .int .i64 t.ek, .int .i64 t.es, .int .i64 t.ee] 23
 have hg := ju (jr w none) (Obj.cells #[.int .i64 t.eb, .int .i64 t.et, .int .i64 t.en, .int .i64 t.ed, .int .i64 t.er, .int .i64 t.el, .int .i64 t.ex, .int .i64 t.ep, .int .i64 t.ek, .int .i64 t.es, .int .i64 t.ee] 23)
 have HG := lk hg
 have HC0 := lk C0
 clear C0 hg
 go_enter Tryz.func202, Tryz.ntmps202
 have c0 := HC0.out.cell 0 rfl
 have c1 := HC0.out.cell 1 rfl
 have c2 := HC0.out.cell 2 rfl
 have c3 := HC0.out.cell 3 rfl
 have c4 := HC0.out.cell 4 rfl
 have c5 := HC0.out.cell 5 rfl
 have c6 := HC0.out.cell 6 rfl
 have c7 := HC0.out.cell 7 rfl
 have c8 := HC0.out.cell 8 rfl
 have c9 := HC0.out.cell 9 rfl
 have c10 := HC0.out.cell 10 rfl
 go_wp2_with fail
 refine (HI.out _).mono ?_
 rintro e w2 ⟨ks, g0, g1, g2, g3, gm, hl, rfl, ch, en, hg, g2'⟩
 obtain ⟨k, hk⟩ : ∃ k, k = ks.headD g0 := ⟨_, rfl⟩
 rw [← hk]
 have HK := lk hk
 have G2 := lk (jt HG.out g2')
 have K2 := lk (And.intro ch en)
 have HH : Hid (w.heap.size ≤ gm ∧ ks.length = 0) := lk ⟨Nat.le_trans HG.out.size hg, hl⟩
 clear c0 c1 c2 c3 c4 c5 c6 c7 c8 c9 c10 HC0 g2' ch en hg hl hk
 go_wp2
 go_ret
 have ga := ju (jr w2 none) (Obj.cells #[.pointer (some ⟨k, 0, none⟩)] 146)
 refine ⟨w2.heap.size :: ks, g0, g1, g2, g3, gm, by simp [HH.out.2], rfl, ⟨?_, K2.out.1.grown0 ga⟩, K2.out.2.grown0 ga, HH.out.1, ju G2.out _⟩
 rw [← HK.out]
 exact (cs_new w2 _ _).cell 0 rfl
theorem recipK_c (w : World) (t : Tb) : Calls Tryz.prog 201 #[t.v] w fun e w' => NewK 2 t w e w' := by
 have HI := lk (fun w => divsK_c w t)
 have C0 := cs_new w #[.int .i64 t.eb, .int .i64 t.et, .int .i64 t.en, .int .i64 t.ed, .int .i64 t.er, .int .i64 t.el, .int .i64 t.ex, .int .i64 t.ep, .int .i64 t.ek, .int .i64 t.es, .int .i64 t.ee] 23
 have hg := ju (jr w none) (Obj.cells #[.int .i64 t.eb, .int .i64 t.et, .int .i64 t.en, .int .i64 t.ed, .int .i64 t.er, .int .i64 t.el, .int .i64 t.ex, .int .i64 t.ep, .int .i64 t.ek, .int .i64 t.es, .int .i64 t.ee] 23)
 have HG := lk hg
 have HC0 := lk C0
 clear C0 hg
 go_enter Tryz.func201, Tryz.ntmps201
 have c0 := HC0.out.cell 0 rfl
 have c1 := HC0.out.cell 1 rfl
 have c2 := HC0.out.cell 2 rfl
 have c3 := HC0.out.cell 3 rfl
 have c4 := HC0.out.cell 4 rfl
 have c5 := HC0.out.cell 5 rfl
 have c6 := HC0.out.cell 6 rfl
 have c7 := HC0.out.cell 7 rfl
 have c8 := HC0.out.cell 8 rfl
 have c9 := HC0.out.cell 9 rfl
 have c10 := HC0.out.cell 10 rfl
 go_wp2_with fail
 refine (HI.out _).mono ?_
 rintro e w2 ⟨ks, g0, g1, g2, g3, gm, hl, rfl, ch, en, hg, g2'⟩
 obtain ⟨k, hk⟩ : ∃ k, k = ks.headD g0 := ⟨_, rfl⟩
 rw [← hk]
 have HK := lk hk
 have G2 := lk (jt HG.out g2')
 have K2 := lk (And.intro ch en)
 have HH : Hid (w.heap.size ≤ gm ∧ ks.length = 1) := lk ⟨Nat.le_trans HG.out.size hg, hl⟩
 clear c0 c1 c2 c3 c4 c5 c6 c7 c8 c9 c10 HC0 g2' ch en hg hl hk
 go_wp2
 go_ret
 have ga := ju (jr w2 none) (Obj.cells #[.pointer (some ⟨k, 0, none⟩)] 143)
 refine ⟨w2.heap.size :: ks, g0, g1, g2, g3, gm, by simp [HH.out.2], rfl, ⟨?_, K2.out.1.grown0 ga⟩, K2.out.2.grown0 ga, HH.out.1, ju G2.out _⟩
 rw [← HK.out]
 exact (cs_new w2 _ _).cell 0 rfl
theorem divK_c (w : World) (t : Tb) : Calls Tryz.prog 200 #[t.v] w fun e w' => NewK 3 t w e w' := by
 have HI := lk (fun w => recipK_c w t)
 have C0 := cs_new w #[.int .i64 t.eb, .int .i64 t.et, .int .i64 t.en, .int .i64 t.ed, .int .i64 t.er, .int .i64 t.el, .int .i64 t.ex, .int .i64 t.ep, .int .i64 t.ek, .int .i64 t.es, .int .i64 t.ee] 23
 have hg := ju (jr w none) (Obj.cells #[.int .i64 t.eb, .int .i64 t.et, .int .i64 t.en, .int .i64 t.ed, .int .i64 t.er, .int .i64 t.el, .int .i64 t.ex, .int .i64 t.ep, .int .i64 t.ek, .int .i64 t.es, .int .i64 t.ee] 23)
 have HG := lk hg
 have HC0 := lk C0
 clear C0 hg
 go_enter Tryz.func200, Tryz.ntmps200
 have c0 := HC0.out.cell 0 rfl
 have c1 := HC0.out.cell 1 rfl
 have c2 := HC0.out.cell 2 rfl
 have c3 := HC0.out.cell 3 rfl
 have c4 := HC0.out.cell 4 rfl
 have c5 := HC0.out.cell 5 rfl
 have c6 := HC0.out.cell 6 rfl
 have c7 := HC0.out.cell 7 rfl
 have c8 := HC0.out.cell 8 rfl
 have c9 := HC0.out.cell 9 rfl
 have c10 := HC0.out.cell 10 rfl
 go_wp2_with fail
 refine (HI.out _).mono ?_
 rintro e w2 ⟨ks, g0, g1, g2, g3, gm, hl, rfl, ch, en, hg, g2'⟩
 obtain ⟨k, hk⟩ : ∃ k, k = ks.headD g0 := ⟨_, rfl⟩
 rw [← hk]
 have HK := lk hk
 have G2 := lk (jt HG.out g2')
 have K2 := lk (And.intro ch en)
 have HH : Hid (w.heap.size ≤ gm ∧ ks.length = 2) := lk ⟨Nat.le_trans HG.out.size hg, hl⟩
 clear c0 c1 c2 c3 c4 c5 c6 c7 c8 c9 c10 HC0 g2' ch en hg hl hk
 go_wp2
 go_ret
 have ga := ju (jr w2 none) (Obj.cells #[.pointer (some ⟨k, 0, none⟩)] 140)
 refine ⟨w2.heap.size :: ks, g0, g1, g2, g3, gm, by simp [HH.out.2], rfl, ⟨?_, K2.out.1.grown0 ga⟩, K2.out.2.grown0 ga, HH.out.1, ju G2.out _⟩
 rw [← HK.out]
 exact (cs_new w2 _ _).cell 0 rfl
theorem rootK_c (w : World) (t : Tb) : Calls Tryz.prog 199 #[t.v] w fun e w' => NewK 4 t w e w' := by
 have HI := lk (fun w => divK_c w t)
 have C0 := cs_new w #[.int .i64 t.eb, .int .i64 t.et, .int .i64 t.en, .int .i64 t.ed, .int .i64 t.er, .int .i64 t.el, .int .i64 t.ex, .int .i64 t.ep, .int .i64 t.ek, .int .i64 t.es, .int .i64 t.ee] 23
 have hg := ju (jr w none) (Obj.cells #[.int .i64 t.eb, .int .i64 t.et, .int .i64 t.en, .int .i64 t.ed, .int .i64 t.er, .int .i64 t.el, .int .i64 t.ex, .int .i64 t.ep, .int .i64 t.ek, .int .i64 t.es, .int .i64 t.ee] 23)
 have HG := lk hg
 have HC0 := lk C0
 clear C0 hg
 go_enter Tryz.func199, Tryz.ntmps199
 have c0 := HC0.out.cell 0 rfl
 have c1 := HC0.out.cell 1 rfl
 have c2 := HC0.out.cell 2 rfl
 have c3 := HC0.out.cell 3 rfl
 have c4 := HC0.out.cell 4 rfl
 have c5 := HC0.out.cell 5 rfl
 have c6 := HC0.out.cell 6 rfl
 have c7 := HC0.out.cell 7 rfl
 have c8 := HC0.out.cell 8 rfl
 have c9 := HC0.out.cell 9 rfl
 have c10 := HC0.out.cell 10 rfl
 go_wp2_with fail
 refine (HI.out _).mono ?_
 rintro e w2 ⟨ks, g0, g1, g2, g3, gm, hl, rfl, ch, en, hg, g2'⟩
 obtain ⟨k, hk⟩ : ∃ k, k = ks.headD g0 := ⟨_, rfl⟩
 rw [← hk]
 have HK := lk hk
 have G2 := lk (jt HG.out g2')
 have K2 := lk (And.intro ch en)
 have HH : Hid (w.heap.size ≤ gm ∧ ks.length = 3) := lk ⟨Nat.le_trans HG.out.size hg, hl⟩
 clear c0 c1 c2 c3 c4 c5 c6 c7 c8 c9 c10 HC0 g2' ch en hg hl hk
 go_wp2
 go_ret
 have ga := ju (jr w2 none) (Obj.cells #[.pointer (some ⟨k, 0, none⟩)] 137)
 refine ⟨w2.heap.size :: ks, g0, g1, g2, g3, gm, by simp [HH.out.2], rfl, ⟨?_, K2.out.1.grown0 ga⟩, K2.out.2.grown0 ga, HH.out.1, ju G2.out _⟩
 rw [← HK.out]
 exact (cs_new w2 _ _).cell 0 rfl
theorem radixK_c (w : World) (t : Tb) : Calls Tryz.prog 197 #[t.v] w fun e w' => NewK 5 t w e w' := by
 have HI := lk (fun w => rootK_c w t)
 have C0 := cs_new w #[.int .i64 t.eb, .int .i64 t.et, .int .i64 t.en, .int .i64 t.ed, .int .i64 t.er, .int .i64 t.el, .int .i64 t.ex, .int .i64 t.ep, .int .i64 t.ek, .int .i64 t.es, .int .i64 t.ee] 23
 have hg := ju (jr w none) (Obj.cells #[.int .i64 t.eb, .int .i64 t.et, .int .i64 t.en, .int .i64 t.ed, .int .i64 t.er, .int .i64 t.el, .int .i64 t.ex, .int .i64 t.ep, .int .i64 t.ek, .int .i64 t.es, .int .i64 t.ee] 23)
 have HG := lk hg
 have HC0 := lk C0
 clear C0 hg
 go_enter Tryz.func197, Tryz.ntmps197
 have c0 := HC0.out.cell 0 rfl
 have c1 := HC0.out.cell 1 rfl
 have c2 := HC0.out.cell 2 rfl
 have c3 := HC0.out.cell 3 rfl
 have c4 := HC0.out.cell 4 rfl
 have c5 := HC0.out.cell 5 rfl
 have c6 := HC0.out.cell 6 rfl
 have c7 := HC0.out.cell 7 rfl
 have c8 := HC0.out.cell 8 rfl
 have c9 := HC0.out.cell 9 rfl
 have c10 := HC0.out.cell 10 rfl
 go_wp2_with fail
 refine (HI.out _).mono ?_
 rintro e w2 ⟨ks, g0, g1, g2, g3, gm, hl, rfl, ch, en, hg, g2'⟩
 obtain ⟨k, hk⟩ : ∃ k, k = ks.headD g0 := ⟨_, rfl⟩
 rw [← hk]
 have HK := lk hk
 have G2 := lk (jt HG.out g2')
 have K2 := lk (And.intro ch en)
 have HH : Hid (w.heap.size ≤ gm ∧ ks.length = 4) := lk ⟨Nat.le_trans HG.out.size hg, hl⟩
 clear c0 c1 c2 c3 c4 c5 c6 c7 c8 c9 c10 HC0 g2' ch en hg hl hk
 go_wp2
 go_ret
 have ga := ju (jr w2 none) (Obj.cells #[.pointer (some ⟨k, 0, none⟩)] 134)
 refine ⟨w2.heap.size :: ks, g0, g1, g2, g3, gm, by simp [HH.out.2], rfl, ⟨?_, K2.out.1.grown0 ga⟩, K2.out.2.grown0 ga, HH.out.1, ju G2.out _⟩
 rw [← HK.out]
 exact (cs_new w2 _ _).cell 0 rfl
theorem numK_c (w : World) (t : Tb) : Calls Tryz.prog 180 #[t.v] w fun e w' => NewK 6 t w e w' := by
 have HI := lk (fun w => radixK_c w t)
 have C0 := cs_new w #[.int .i64 t.eb, .int .i64 t.et, .int .i64 t.en, .int .i64 t.ed, .int .i64 t.er, .int .i64 t.el, .int .i64 t.ex, .int .i64 t.ep, .int .i64 t.ek, .int .i64 t.es, .int .i64 t.ee] 23
 have hg := ju (jr w none) (Obj.cells #[.int .i64 t.eb, .int .i64 t.et, .int .i64 t.en, .int .i64 t.ed, .int .i64 t.er, .int .i64 t.el, .int .i64 t.ex, .int .i64 t.ep, .int .i64 t.ek, .int .i64 t.es, .int .i64 t.ee] 23)
 have HG := lk hg
 have HC0 := lk C0
 clear C0 hg
 go_enter Tryz.func180, Tryz.ntmps180
 have c0 := HC0.out.cell 0 rfl
 have c1 := HC0.out.cell 1 rfl
 have c2 := HC0.out.cell 2 rfl
 have c3 := HC0.out.cell 3 rfl
 have c4 := HC0.out.cell 4 rfl
 have c5 := HC0.out.cell 5 rfl
 have c6 := HC0.out.cell 6 rfl
 have c7 := HC0.out.cell 7 rfl
 have c8 := HC0.out.cell 8 rfl
 have c9 := HC0.out.cell 9 rfl
 have c10 := HC0.out.cell 10 rfl
 go_wp2_with fail
 refine (HI.out _).mono ?_
 rintro e w2 ⟨ks, g0, g1, g2, g3, gm, hl, rfl, ch, en, hg, g2'⟩
 obtain ⟨k, hk⟩ : ∃ k, k = ks.headD g0 := ⟨_, rfl⟩
 rw [← hk]
 have HK := lk hk
 have G2 := lk (jt HG.out g2')
 have K2 := lk (And.intro ch en)
 have HH : Hid (w.heap.size ≤ gm ∧ ks.length = 5) := lk ⟨Nat.le_trans HG.out.size hg, hl⟩
 clear c0 c1 c2 c3 c4 c5 c6 c7 c8 c9 c10 HC0 g2' ch en hg hl hk
 go_wp2
 go_ret
 have ga := ju (jr w2 none) (Obj.cells #[.pointer (some ⟨k, 0, none⟩)] 131)
 refine ⟨w2.heap.size :: ks, g0, g1, g2, g3, gm, by simp [HH.out.2], rfl, ⟨?_, K2.out.1.grown0 ga⟩, K2.out.2.grown0 ga, HH.out.1, ju G2.out _⟩
 rw [← HK.out]
 exact (cs_new w2 _ _).cell 0 rfl
theorem powerK_c (w : World) (t : Tb) : Calls Tryz.prog 158 #[t.v] w fun e w' => NewK 7 t w e w' := by
 have HI := lk (fun w => numK_c w t)
 have C0 := cs_new w #[.int .i64 t.eb, .int .i64 t.et, .int .i64 t.en, .int .i64 t.ed, .int .i64 t.er, .int .i64 t.el, .int .i64 t.ex, .int .i64 t.ep, .int .i64 t.ek, .int .i64 t.es, .int .i64 t.ee] 23
 have hg := ju (jr w none) (Obj.cells #[.int .i64 t.eb, .int .i64 t.et, .int .i64 t.en, .int .i64 t.ed, .int .i64 t.er, .int .i64 t.el, .int .i64 t.ex, .int .i64 t.ep, .int .i64 t.ek, .int .i64 t.es, .int .i64 t.ee] 23)
 have HG := lk hg
 have HC0 := lk C0
 clear C0 hg
 go_enter Tryz.func158, Tryz.ntmps158
 have c0 := HC0.out.cell 0 rfl
 have c1 := HC0.out.cell 1 rfl
 have c2 := HC0.out.cell 2 rfl
 have c3 := HC0.out.cell 3 rfl
 have c4 := HC0.out.cell 4 rfl
 have c5 := HC0.out.cell 5 rfl
 have c6 := HC0.out.cell 6 rfl
 have c7 := HC0.out.cell 7 rfl
 have c8 := HC0.out.cell 8 rfl
 have c9 := HC0.out.cell 9 rfl
 have c10 := HC0.out.cell 10 rfl
 go_wp2_with fail
 refine (HI.out _).mono ?_
 rintro e w2 ⟨ks, g0, g1, g2, g3, gm, hl, rfl, ch, en, hg, g2'⟩
 obtain ⟨k, hk⟩ : ∃ k, k = ks.headD g0 := ⟨_, rfl⟩
 rw [← hk]
 have HK := lk hk
 have G2 := lk (jt HG.out g2')
 have K2 := lk (And.intro ch en)
 have HH : Hid (w.heap.size ≤ gm ∧ ks.length = 6) := lk ⟨Nat.le_trans HG.out.size hg, hl⟩
 clear c0 c1 c2 c3 c4 c5 c6 c7 c8 c9 c10 HC0 g2' ch en hg hl hk
 go_wp2
 go_ret
 have ga := ju (jr w2 none) (Obj.cells #[.pointer (some ⟨k, 0, none⟩)] 128)
 refine ⟨w2.heap.size :: ks, g0, g1, g2, g3, gm, by simp [HH.out.2], rfl, ⟨?_, K2.out.1.grown0 ga⟩, K2.out.2.grown0 ga, HH.out.1, ju G2.out _⟩
 rw [← HK.out]
 exact (cs_new w2 _ _).cell 0 rfl
theorem gcdK_c (w : World) (t : Tb) : Calls Tryz.prog 142 #[t.v] w fun e w' => NewK 8 t w e w' := by
 have HI := lk (fun w => powerK_c w t)
 have C0 := cs_new w #[.int .i64 t.eb, .int .i64 t.et, .int .i64 t.en, .int .i64 t.ed, .int .i64 t.er, .int .i64 t.el, .int .i64 t.ex, .int .i64 t.ep, .int .i64 t.ek, .int .i64 t.es, .int .i64 t.ee] 23
 have hg := ju (jr w none) (Obj.cells #[.int .i64 t.eb, .int .i64 t.et, .int .i64 t.en, .int .i64 t.ed, .int .i64 t.er, .int .i64 t.el, .int .i64 t.ex, .int .i64 t.ep, .int .i64 t.ek, .int .i64 t.es, .int .i64 t.ee] 23)
 have HG := lk hg
 have HC0 := lk C0
 clear C0 hg
 go_enter Tryz.func142, Tryz.ntmps142
 have c0 := HC0.out.cell 0 rfl
 have c1 := HC0.out.cell 1 rfl
 have c2 := HC0.out.cell 2 rfl
 have c3 := HC0.out.cell 3 rfl
 have c4 := HC0.out.cell 4 rfl
 have c5 := HC0.out.cell 5 rfl
 have c6 := HC0.out.cell 6 rfl
 have c7 := HC0.out.cell 7 rfl
 have c8 := HC0.out.cell 8 rfl
 have c9 := HC0.out.cell 9 rfl
 have c10 := HC0.out.cell 10 rfl
 go_wp2_with fail
 refine (HI.out _).mono ?_
 rintro e w2 ⟨ks, g0, g1, g2, g3, gm, hl, rfl, ch, en, hg, g2'⟩
 obtain ⟨k, hk⟩ : ∃ k, k = ks.headD g0 := ⟨_, rfl⟩
 rw [← hk]
 have HK := lk hk
 have G2 := lk (jt HG.out g2')
 have K2 := lk (And.intro ch en)
 have HH : Hid (w.heap.size ≤ gm ∧ ks.length = 7) := lk ⟨Nat.le_trans HG.out.size hg, hl⟩
 clear c0 c1 c2 c3 c4 c5 c6 c7 c8 c9 c10 HC0 g2' ch en hg hl hk
 go_wp2
 go_ret
 have ga := ju (jr w2 none) (Obj.cells #[.pointer (some ⟨k, 0, none⟩)] 125)
 refine ⟨w2.heap.size :: ks, g0, g1, g2, g3, gm, by simp [HH.out.2], rfl, ⟨?_, K2.out.1.grown0 ga⟩, K2.out.2.grown0 ga, HH.out.1, ju G2.out _⟩
 rw [← HK.out]
 exact (cs_new w2 _ _).cell 0 rfl
theorem hgcdK_c (w : World) (t : Tb) : Calls Tryz.prog 127 #[t.v] w fun e w' => NewK 9 t w e w' := by
 have HI := lk (fun w => gcdK_c w t)
 have C0 := cs_new w #[.int .i64 t.eb, .int .i64 t.et, .int .i64 t.en, .int .i64 t.ed, .int .i64 t.er, .int .i64 t.el, .int .i64 t.ex, .int .i64 t.ep, .int .i64 t.ek, .int .i64 t.es, .int .i64 t.ee] 23
 have hg := ju (jr w none) (Obj.cells #[.int .i64 t.eb, .int .i64 t.et, .int .i64 t.en, .int .i64 t.ed, .int .i64 t.er, .int .i64 t.el, .int .i64 t.ex, .int .i64 t.ep, .int .i64 t.ek, .int .i64 t.es, .int .i64 t.ee] 23)
 have HG := lk hg
 have HC0 := lk C0
 clear C0 hg
 go_enter Tryz.func127, Tryz.ntmps127
 have c0 := HC0.out.cell 0 rfl
 have c1 := HC0.out.cell 1 rfl
 have c2 := HC0.out.cell 2 rfl
 have c3 := HC0.out.cell 3 rfl
 have c4 := HC0.out.cell 4 rfl
 have c5 := HC0.out.cell 5 rfl
 have c6 := HC0.out.cell 6 rfl
 have c7 := HC0.out.cell 7 rfl
 have c8 := HC0.out.cell 8 rfl
 have c9 := HC0.out.cell 9 rfl
 have c10 := HC0.out.cell 10 rfl
 go_wp2_with fail
 refine (HI.out _).mono ?_
 rintro e w2 ⟨ks, g0, g1, g2, g3, gm, hl, rfl, ch, en, hg, g2'⟩
 obtain ⟨k, hk⟩ : ∃ k, k = ks.headD g0 := ⟨_, rfl⟩
 rw [← hk]
 have HK := lk hk
 have G2 := lk (jt HG.out g2')
 have K2 := lk (And.intro ch en)
 have HH : Hid (w.heap.size ≤ gm ∧ ks.length = 8) := lk ⟨Nat.le_trans HG.out.size hg, hl⟩
 clear c0 c1 c2 c3 c4 c5 c6 c7 c8 c9 c10 HC0 g2' ch en hg hl hk
 go_wp2
 go_ret
 have ga := ju (jr w2 none) (Obj.cells #[.pointer (some ⟨k, 0, none⟩)] 122)
 refine ⟨w2.heap.size :: ks, g0, g1, g2, g3, gm, by simp [HH.out.2], rfl, ⟨?_, K2.out.1.grown0 ga⟩, K2.out.2.grown0 ga, HH.out.1, ju G2.out _⟩
 rw [← HK.out]
 exact (cs_new w2 _ _).cell 0 rfl
theorem modnK_c (w : World) (t : Tb) : Calls Tryz.prog 116 #[t.v] w fun e w' => NewK 10 t w e w' := by
 have HI := lk (fun w => hgcdK_c w t)
 have C0 := cs_new w #[.int .i64 t.eb, .int .i64 t.et, .int .i64 t.en, .int .i64 t.ed, .int .i64 t.er, .int .i64 t.el, .int .i64 t.ex, .int .i64 t.ep, .int .i64 t.ek, .int .i64 t.es, .int .i64 t.ee] 23
 have hg := ju (jr w none) (Obj.cells #[.int .i64 t.eb, .int .i64 t.et, .int .i64 t.en, .int .i64 t.ed, .int .i64 t.er, .int .i64 t.el, .int .i64 t.ex, .int .i64 t.ep, .int .i64 t.ek, .int .i64 t.es, .int .i64 t.ee] 23)
 have HG := lk hg
 have HC0 := lk C0
 clear C0 hg
 go_enter Tryz.func116, Tryz.ntmps116
 have c0 := HC0.out.cell 0 rfl
 have c1 := HC0.out.cell 1 rfl
 have c2 := HC0.out.cell 2 rfl
 have c3 := HC0.out.cell 3 rfl
 have c4 := HC0.out.cell 4 rfl
 have c5 := HC0.out.cell 5 rfl
 have c6 := HC0.out.cell 6 rfl
 have c7 := HC0.out.cell 7 rfl
 have c8 := HC0.out.cell 8 rfl
 have c9 := HC0.out.cell 9 rfl
 have c10 := HC0.out.cell 10 rfl
 go_wp2_with fail
 refine (HI.out _).mono ?_
 rintro e w2 ⟨ks, g0, g1, g2, g3, gm, hl, rfl, ch, en, hg, g2'⟩
 obtain ⟨k, hk⟩ : ∃ k, k = ks.headD g0 := ⟨_, rfl⟩
 rw [← hk]
 have HK := lk hk
 have G2 := lk (jt HG.out g2')
 have K2 := lk (And.intro ch en)
 have HH : Hid (w.heap.size ≤ gm ∧ ks.length = 9) := lk ⟨Nat.le_trans HG.out.size hg, hl⟩
 clear c0 c1 c2 c3 c4 c5 c6 c7 c8 c9 c10 HC0 g2' ch en hg hl hk
 go_wp2
 go_ret
 have ga := ju (jr w2 none) (Obj.cells #[.pointer (some ⟨k, 0, none⟩)] 119)
 refine ⟨w2.heap.size :: ks, g0, g1, g2, g3, gm, by simp [HH.out.2], rfl, ⟨?_, K2.out.1.grown0 ga⟩, K2.out.2.grown0 ga, HH.out.1, ju G2.out _⟩
 rw [← HK.out]
 exact (cs_new w2 _ _).cell 0 rfl
theorem ChL.ch {w : World} {ks : List Nat} {g0 : Nat} (h : ChL w ks g0) (hl : ks.length = 10) : ∃ k0 k1 k2 k3 k4 k5 k6 k7 k8 k9, ks = [k0, k1, k2, k3, k4, k5, k6, k7, k8, k9] ∧ Ch w k0 k1 k2 k3 k4 k5 k6 k7 k8 k9 g0 := by
 match ks, hl with
 | [k0, k1, k2, k3, k4, k5, k6, k7, k8, k9], _ =>
  obtain ⟨h0, h1, h2, h3, h4, h5, h6, h7, h8, h9, _⟩ := h
  exact ⟨k0, k1, k2, k3, k4, k5, k6, k7, k8, k9, rfl, h0, h1, h2, h3, h4, h5, h6, h7, h8, h9⟩
theorem polypNew_ok (w : World) (p : Nat) (hp : Pm p) (hi : isP p = true) (hd : Db w) :
  Calls Tryz.prog 115 #[.int .u64 p] w fun e w' => ∃ r q, e = .returned (.tuple #[.pointer (some ⟨r, 0, none⟩), .int .i64 0]) ∧ Rg w' r q p ∧ w.grownBy w' none := by
 have PM := lk (pmod_ok w p hp hi hd)
 obtain ⟨P, hP⟩ : ∃ P : Int, P = (p : Int) := ⟨_, rfl⟩
 rw [← hP] at PM ⊢
 clear hp hi hd hP
 go_enter Tryz.func115, Tryz.ntmps115
 go_wp2_with fail
 refine (PM.out).mono ?_
 rintro e w1 ⟨q, rfl, md, _, g1⟩
 have MD := lk md
 have G1 := lk g1
 clear md g1 PM
 go_wp2
 go_ret2
 have ga := ju (jr w1 none) (Obj.cells #[.pointer (some ⟨q, 0, none⟩)] 113)
 exact ⟨_, q, rfl, ⟨(cs_new w1 _ _).cell 0 rfl, MD.out.grown0 ga⟩, jt G1.out ga⟩
theorem pmulNew_ok (w : World) (t : Tb) (p : Nat) (hp : Pm p) (hi : isP p = true) (hd : Db w) :
  Calls Tryz.prog 94 #[t.v, .int .u64 p] w fun e w' => ∃ g I, e = .returned (.tuple #[.pointer (some ⟨g, 0, none⟩), .int .i64 0]) ∧ Pq w' t.clamp p g I 0 ⟨0, tbT t.clamp⟩ ∧ w.heap.size ≤ I.gm ∧ w.grownBy w' none := by
 have C0 := cs_new w #[.int .i64 t.eb, .int .i64 t.et, .int .i64 t.en, .int .i64 t.ed, .int .i64 t.er, .int .i64 t.el, .int .i64 t.ex, .int .i64 t.ep, .int .i64 t.ek, .int .i64 t.es, .int .i64 t.ee] 23
 have hg := ju (jr w none) (Obj.cells #[.int .i64 t.eb, .int .i64 t.et, .int .i64 t.en, .int .i64 t.ed, .int .i64 t.er, .int .i64 t.el, .int .i64 t.ex, .int .i64 t.ep, .int .i64 t.ek, .int .i64 t.es, .int .i64 t.ee] 23)
 have RN := lk (polypNew_ok _ p hp hi (hd.grown0 hg))
 have HI := lk (fun w => modnK_c w t)
 have HG := lk hg
 have HC0 := lk C0
 obtain ⟨P, hP⟩ : ∃ P : Int, P = (p : Int) := ⟨_, rfl⟩
 rw [← hP] at RN ⊢
 clear C0 hg hp hi hd hP
 go_enter Tryz.func94, Tryz.ntmps94
 go_wp2_with fail
 refine (RN.out).mono ?_
 rintro e w1 ⟨r, q, rfl, rg, g1⟩
 have RG := lk rg
 have G1 := lk (jt HG.out g1)
 have C1 := HC0.out.grown0 g1
 have c0 := C1.cell 0 rfl
 have c1 := C1.cell 1 rfl
 have c2 := C1.cell 2 rfl
 have c3 := C1.cell 3 rfl
 have c4 := C1.cell 4 rfl
 have c5 := C1.cell 5 rfl
 have c6 := C1.cell 6 rfl
 have c7 := C1.cell 7 rfl
 have c8 := C1.cell 8 rfl
 have c9 := C1.cell 9 rfl
 have c10 := C1.cell 10 rfl
 clear rg g1 RN C1
 go_wp2_with fail
 refine (HI.out _).mono ?_
 rintro e w2 ⟨ks, g0, g1, g2, g3, gm, hl, rfl, ch, en, hg, g2'⟩
 obtain ⟨k0, k1, k2, k3, k4, k5, k6, k7, k8, k9, rfl, ch'⟩ := ch.ch hl
 have G2 := lk (jt G1.out g2')
 have K2 := lk (And.intro ch' en)
 have R2 := lk (RG.out.grown0 g2')
 have HH : Hid (w.heap.size ≤ gm) := lk (Nat.le_trans G1.out.size hg)
 clear c0 c1 c2 c3 c4 c5 c6 c7 c8 c9 c10 HC0 g2' ch ch' en hg hl HI
 simp only [List.headD_cons]
 go_wp2
 go_ret2
 have ga := ju (jr w2 none) (Obj.cells #[.pointer (some ⟨r, 0, none⟩), .pointer (some ⟨k0, 0, none⟩)] 73)
 have C := cs_new w2 #[.pointer (some ⟨r, 0, none⟩), .pointer (some ⟨k0, 0, none⟩)] 73
 exact ⟨_, ⟨r, q, k0, k1, k2, k3, k4, k5, k6, k7, k8, k9, g0, g1, g2, g3, gm⟩, rfl, ⟨⟨C.cell 0 rfl, C.cell 1 rfl, R2.out.grown0 ga, K2.out.1.grown0 ga⟩, K2.out.2.grown0 ga⟩, HH.out, jt G2.out ga⟩
theorem rMul_c (w : World) (u v : Value) (xs ys : List Int) (p : Int) (hp3 : 3 ≤ p) (hp' : p < 4611686018427387904) (hu : Sl w u xs) (hv : Sl w v ys) (hl : xs.length + ys.length ≤ 100000) :
  Calls Tryz.prog 18 #[u, v, .int .u64 p] w fun e w' => ∃ x, e = .returned x ∧ Po w' w.heap.size x p (fun z => ev xs z * ev ys z) (xs.length + ys.length) ∧ w.grownBy w' none := by
 obtain ⟨A, ca, rfl, hca, _⟩ := hu.form
 obtain ⟨B, cb, rfl, hcb, _⟩ := hv.form
 by_cases ha : xs = []
 ·subst ha
  clear hu hv
  go_enter Tryz.func18, Tryz.ntmps18
  go_wp2
  go_ret
  exact ⟨_, rfl, po_nil _ _ _ _ (Eqv.of_eq p fun x => by simp [ev]), jr _ _⟩
 by_cases hb : ys = []
 ·subst hb
  have ha0 : xs.length ≠ 0 := fun e => ha (List.eq_nil_of_length_eq_zero e)
  obtain ⟨a, hal⟩ : ∃ z, z = xs.length := ⟨_, rfl⟩
  rw [← hal] at hca ha0 ⊢
  have a0' : ((a : Int) == 0) = false := by simp; omega
  clear hu hv
  go_enter Tryz.func18, Tryz.ntmps18
  go_wp2
  go_ret
  exact ⟨_, rfl, po_nil _ _ _ _ (Eqv.of_eq p fun x => by simp [ev]), jr _ _⟩
 have ha0 : xs.length ≠ 0 := fun e => ha (List.eq_nil_of_length_eq_zero e)
 have hb0 : ys.length ≠ 0 := fun e => hb (List.eq_nil_of_length_eq_zero e)
 have CV := fun n hn => rConv_c w _ _ xs ys n p hp3 hp' hu hv hn (by omega)
 obtain ⟨a, hal⟩ : ∃ z, z = xs.length := ⟨_, rfl⟩
 obtain ⟨b, hbl⟩ : ∃ z, z = ys.length := ⟨_, rfl⟩
 rw [← hal] at hca ha0 CV hl
 rw [← hbl] at hcb hb0 CV hl
 rw [← hal, ← hbl]
 obtain ⟨n, hn⟩ : ∃ n, n = a + b := ⟨_, rfl⟩
 have CV2 := lk (CV n hn)
 have en : (a : Int) + (b : Int) = (n : Int) := by omega
 have a0' : ((a : Int) == 0) = false := by simp; omega
 have b0' : ((b : Int) == 0) = false := by simp; omega
 have HN := lk hn
 have bn : n ≤ 100000 := by omega
 clear hu hv CV hn ha hb hal hbl
 go_enter Tryz.func18, Tryz.ntmps18
 go_wp2_with fail
 refine (CV2.out).mono ?_
 rintro e w1 ⟨x1, os, rfl, ow, sm, g1⟩
 have NM := lk (rNorm_c w1 x1 os p (by omega) hp' ow.sl (by rw [sm.len]; omega))
 have G1 := lk g1
 have SM := lk sm
 clear CV2 ow sm g1
 go_wp2_with fail
 refine (NM.out).mono ?_
 rintro e w2 ⟨x2, rfl, po, g2⟩
 go_wp2
 go_ret
 exact ⟨_, rfl, (po.fn (L' := a + b) SM.out.e (by rw [SM.out.len]; have := HN.out; omega)).mono G1.out.size, jt G1.out g2⟩
def pr12 : List Nat := [3, 5, 7, 17, 97, 257, 65537, 998244353, 4294967291, 4611686018427387847, 4179340454199820289, 1000003]
def pr12B (p : Nat) : Bool := decide (3 ≤ p) && decide (p < 4611686018427387904) && decide (p % 2 = 1) && isF p
theorem pr12_ok : ((List.range 12).all fun i => pr12B (pr12.getD i 0)) = true := by decide +kernel
theorem pr12_at (i : Nat) (hi : i < 12) : Pm ((pr12.getD i 0 : Nat) : Int) ∧ isP (pr12.getD i 0) = true := by
 have h := List.all_eq_true.1 pr12_ok i (List.mem_range.2 hi)
 unfold pr12B at h
 simp only [Bool.and_eq_true, decide_eq_true_eq] at h
 obtain ⟨⟨⟨h1, h2⟩, h3⟩, h4⟩ := h
 exact ⟨⟨by omega, by omega, by omega⟩, by rw [isF_eq (by omega)]; exact h4⟩
def P23 (k : Int) : Nat := pr12.getD (k % 12).toNat 0
theorem prime23_c (w : World) (k : Int) (hk : 0 ≤ k ∧ k < 18446744073709551616) :
  Calls Tryz.prog 56 #[.int .u64 k] w fun e w' => ∃ p : Nat, e = .returned (.int .u64 p) ∧ Pm (p : Int) ∧ isP p = true ∧ (p ∈ pr12 ∧ p = P23 k) ∧ w.grownBy w' none := by
 obtain ⟨i, hi⟩ : ∃ i : Nat, (i : Int) = k % 12 := ⟨(k % 12).toNat, by omega⟩
 have hi12 : i < 12 := by omega
 have C0 := cs_new w #[.int .u64 3, .int .u64 5, .int .u64 7, .int .u64 17, .int .u64 97, .int .u64 257, .int .u64 65537, .int .u64 998244353, .int .u64 4294967291, .int .u64 4611686018427387847, .int .u64 4179340454199820289, .int .u64 1000003] 24
 have G0 := lk (ju (jr w none) (Obj.cells #[.int .u64 3, .int .u64 5, .int .u64 7, .int .u64 17, .int .u64 97, .int .u64 257, .int .u64 65537, .int .u64 998244353, .int .u64 4294967291, .int .u64 4611686018427387847, .int .u64 4179340454199820289, .int .u64 1000003] 24))
 have cc := C0.cell i (v := .int .u64 ((pr12.getD i 0 : Nat) : Int)) (by
  rcases (show i = 0 ∨ i = 1 ∨ i = 2 ∨ i = 3 ∨ i = 4 ∨ i = 5 ∨ i = 6 ∨ i = 7 ∨ i = 8 ∨ i = 9 ∨ i = 10 ∨ i = 11 by omega) with rfl | rfl | rfl | rfl | rfl | rfl | rfl | rfl | rfl | rfl | rfl | rfl <;> rfl)
 have OK := pr12_at i hi12
 have hm : pr12.getD i 0 ∈ pr12 := by
  rw [List.getD_eq_getElem?_getD, List.getElem?_eq_getElem (show i < pr12.length from hi12)]
  exact List.getElem_mem _
 obtain ⟨q, hq⟩ : ∃ q, q = pr12.getD i 0 := ⟨_, rfl⟩
 have hq2 : q = P23 k := by
  unfold P23
  rw [hq, ← hi]; rfl
 rw [← hq] at cc OK hm
 have HO := lk (And.intro OK (And.intro hm hq2))
 have em : k % 12 = (i : Int) := hi.symm
 clear C0 OK hm hq hq2 hi
 go_enter Tryz.func56, Tryz.ntmps56
 go_wp2
 go_ret
 exact ⟨q, rfl, HO.out.1.1, HO.out.1.2, HO.out.2, G0.out⟩
theorem pri12 (p : Nat) (h : p ∈ pr12) : Pri p := by
 unfold pr12 at h
 simp only [List.mem_cons, List.not_mem_nil, or_false] at h
 obtain ⟨⟨⟨h3, h5⟩, h7, h17⟩, h97, h257⟩ := pri_i
 rcases h with h | h | h | h | h | h | h | h | h | h | h | h <;> rw [h]
 ·exact h3
 ·exact h5
 ·exact h7
 ·exact h17
 ·exact h97
 ·exact h257
 ·exact pri_h
 ·exact pri_f
 ·exact pri_e
 ·exact pri_c
 ·exact pri_d
 ·exact pri_g
#print InvOf
#print Cg
end Go.Proofs.YtgalbnkcijmnnaaGreatDoor
namespace Go.Proofs.YtgalbnkcijmnnaaGreatDoor
def Eqn (p : Int) (n : Nat) (F G : Int → Int) : Prop := ∃ A, IsP A ∧ Eqv p F (fun x => G x + x ^ n * A x)
namespace Eqn
variable {p : Int} {n : Nat} {F G H F' G' : Int → Int}
theorem of_eqv (h : Eqv p F G) : Eqn p n F G := ⟨fun _ => 0, isP_const 0, h.fn fun x => by simp⟩
theorem refl (p : Int) (n : Nat) (F : Int → Int) : Eqn p n F F := of_eqv (Eqv.refl p F)
theorem symm (h : Eqn p n F G) : Eqn p n G F := by
 obtain ⟨A, hA, K, hK, e⟩ := h
 exact ⟨_, hA.neg, _, hK.neg, fun x => by have := e x; grind⟩
theorem trans (h : Eqn p n F G) (k : Eqn p n G H) : Eqn p n F H := by
 obtain ⟨A, hA, K, hK, e⟩ := h
 obtain ⟨B, hB, L, hL, f⟩ := k
 exact ⟨_, hA.add hB, _, hK.add hL, fun x => by have := e x; have := f x; grind⟩
theorem sub (h : Eqn p n F F') (k : Eqn p n G G') : Eqn p n (fun x => F x - G x) (fun x => F' x - G' x) := by
 obtain ⟨A, hA, K, hK, e⟩ := h
 obtain ⟨B, hB, L, hL, f⟩ := k
 exact ⟨_, hA.sub hB, _, hK.sub hL, fun x => by have := e x; have := f x; grind⟩
theorem mul (h : Eqn p n F F') (k : Eqn p n G G') (hF' : IsP F') (hG : IsP G) : Eqn p n (fun x => F x * G x) (fun x => F' x * G' x) := by
 obtain ⟨A, hA, K, hK, e⟩ := h
 obtain ⟨B, hB, L, hL, f⟩ := k
 refine ⟨fun x => F' x * B x + A x * G x, (hF'.mul hB).add (hA.mul hG), fun x => F' x * L x + K x * G x, (hF'.mul hL).add (hK.mul hG), fun x => ?_⟩
 have e1 := e x
 have f1 := f x
 have e2 : F x * G x = F' x * G x + x ^ n * (A x * G x) + p * (K x * G x) := by rw [e1]; grind
 have e3 : F' x * G x = F' x * G' x + x ^ n * (F' x * B x) + p * (F' x * L x) := by
  obtain ⟨y, hy⟩ : ∃ y, y = G x := ⟨_, rfl⟩
  rw [← hy] at f1 ⊢
  rw [f1]; grind
 show F x * G x = F' x * G' x + x ^ n * (F' x * B x + A x * G x) + p * (F' x * L x + K x * G x)
 rw [e2, e3]; grind
theorem coef {a b : List Int} (h : Eqn p n (ev a) (ev b)) (i : Nat) (hi : i < n) : Cg p (rd a i) (rd b i) := by
 obtain ⟨A, ⟨l, hl⟩, e⟩ := h
 have e2 : Eqv p (ev a) (ev (padd b (List.replicate n 0 ++ l))) := e.fn fun x => by
  rw [ev_padd, ev_append, ev_zeros, List.length_replicate, hl]; simp
 have := e2.coef i
 rw [rd_padd] at this
 have z : rd (List.replicate n 0 ++ l) i = 0 := by
  unfold rd
  rw [List.getD_eq_getElem?_getD, List.getElem?_append_left (by simpa using hi), List.getElem?_replicate, if_pos hi]; rfl
 rwa [z, Int.add_zero] at this
end Eqn
theorem ev_take_drop (a : List Int) (n : Nat) (x : Int) : ev a x = ev (a.take n) x + x ^ n * ev (a.drop n) x := by
 by_cases h : n ≤ a.length
 ·exact ev_cut a n h x
 ·rw [List.take_of_length_le (by omega), List.drop_eq_nil_of_le (by omega)]; simp [ev]
theorem Eqn.cut (p : Int) (n : Nat) (a : List Int) : Eqn p n (ev a) (ev (a.take n)) := ⟨ev (a.drop n), isP_ev _, Eqv.of_eq p fun x => ev_take_drop a n x⟩
theorem rd_take_ge {xs : List Int} {n j : Nat} (h : n ≤ j) : rd (xs.take n) j = 0 := rd_beyond (by rw [List.length_take]; omega)
theorem Eqn.of_coef {p : Int} {n : Nat} {a b : List Int} (h : ∀ i, i < n → Cg p (rd a i) (rd b i)) : Eqn p n (ev a) (ev b) := by
 refine (Eqn.cut p n a).trans ((Eqn.of_eqv (Eqv.of_coef fun i => ?_)).trans (Eqn.cut p n b).symm)
 by_cases hi : i < n
 ·rw [rd_take hi, rd_take hi]; exact h i hi
 ·rw [rd_take_ge (by omega), rd_take_ge (by omega)]; rfl
theorem Eqn.inv_one {p : Int} {n : Nat} {F S S' : Int → Int} (hS : IsP S) (hF : IsP F) (hS' : IsP S') (h : Eqn p n (fun x => F x * S x) (fun _ => 1)) (k : Eqn p n (fun x => F x * S' x) (fun _ => 1)) : Eqn p n S S' := by
 have e1 : Eqn p n (fun x => S x * (F x * S' x)) (fun x => S x * 1) := (Eqn.refl p n S).mul k hS (hF.mul hS')
 have e2 : Eqn p n (fun x => (F x * S x) * S' x) (fun x => 1 * S' x) := h.mul (Eqn.refl p n S') (isP_const 1) hS'
 have e3 : Eqn p n (fun x => S x * 1) S := Eqn.of_eqv (Eqv.of_eq p fun x => by simp)
 have e4 : Eqn p n (fun x => 1 * S' x) S' := Eqn.of_eqv (Eqv.of_eq p fun x => by simp)
 have e5 : Eqn p n (fun x => S x * (F x * S' x)) (fun x => (F x * S x) * S' x) := Eqn.of_eqv (Eqv.of_eq p fun x => by grind)
 exact e3.symm.trans (e1.symm.trans (e5.trans (e2.trans e4)))
theorem Eqn.newton {p : Int} {h n : Nat} {F b : Int → Int} (hn : n ≤ 2 * h) (k : Eqn p h (fun x => F x * b x) (fun _ => 1)) : Eqn p n (fun x => F x * (b x * (2 - F x * b x))) (fun _ => 1) := by
 obtain ⟨A, hA, K, hK, e⟩ := k
 refine ⟨fun x => -(x ^ (2 * h - n) * (A x * A x)), ((isP_pow (2 * h - n)).mul (hA.mul hA)).neg, fun x => -(2 * x ^ h * A x * K x + p * (K x * K x)), ?_, fun x => ?_⟩
 ·exact ((((isP_pow h).scl 2).mul hA |>.mul hK).add ((hK.mul hK).scl p)).neg
 ·have e1 := e x
  simp only at e1 ⊢
  obtain ⟨y, hy⟩ : ∃ y, y = F x * b x := ⟨_, rfl⟩
  have e2 : F x * (b x * (2 - F x * b x)) = y * (2 - y) := by rw [hy]; grind
  have e3 : x ^ h * x ^ h = x ^ n * x ^ (2 * h - n) := by rw [← Int.pow_add, ← Int.pow_add]; congr 1; omega
  rw [← hy] at e1
  rw [e2, e1]
  obtain ⟨z, hz⟩ : ∃ z, z = x ^ h := ⟨_, rfl⟩
  rw [← hz] at e3 ⊢
  have e4 : x ^ n * -(x ^ (2 * h - n) * (A x * A x)) = -(z * z * (A x * A x)) := by rw [e3]; grind
  rw [e4]; grind
theorem cv_top {a b : List Int} (ha : 0 < a.length) (hb : 0 < b.length) : cv (rd a) (rd b) (a.length - 1 + (b.length - 1)) = rd a (a.length - 1) * rd b (b.length - 1) := by
 unfold cv
 obtain ⟨m, hm⟩ : ∃ m, a.length = m + 1 := ⟨a.length - 1, by omega⟩
 obtain ⟨n, hn⟩ : ∃ m, b.length = m + 1 := ⟨b.length - 1, by omega⟩
 rw [hm, hn, Nat.add_sub_cancel, Nat.add_sub_cancel, sumI_tail (n := m + 1) (m + n + 1) (by omega) (fun t h1 h2 => by rw [rd_beyond (xs := a) (by omega)]; simp), sumI, sumI_tail (n := 0) m (by omega) (fun t h1 h2 => by rw [rd_beyond (xs := b) (j := m + n - t) (by omega)]; simp)]
 rw [show m + n - m = n by omega]
 simp [sumI]
theorem pri_mul {p : Nat} (hp : Pri p) {x y : Int} (h : Cg p (x * y) 0) : Cg p x 0 ∨ Cg p y 0 := by
 have d : (p : Int) ∣ x * y := by have := h.dvd; rwa [Int.sub_zero] at this
 have d' : p ∣ x.natAbs * y.natAbs := by rw [← Int.natAbs_mul]; exact Int.ofNat_dvd_left.1 d
 by_cases hx : p ∣ x.natAbs
 ·left; exact Cg.of_dvd (by rw [Int.sub_zero]; exact Int.ofNat_dvd_left.2 hx)
 ·right; exact Cg.of_dvd (by rw [Int.sub_zero]; exact Int.ofNat_dvd_left.2 ((hp.cop hx).dvd_of_dvd_mul_left d'))
theorem nf_exists {p : Int} (hp : 0 < p) {F : Int → Int} (hF : IsP F) : ∃ a, Nf p a ∧ Eqv p (ev a) F := by
 obtain ⟨l, hl⟩ := hF
 refine ⟨trimZ (l.map (· % p)), nf_trim (fun c hc => ?_), eqv_trim ((eqv_mod p l).fn fun x => (hl x).symm)⟩
 obtain ⟨d, _, rfl⟩ := List.mem_map.1 hc
 exact ⟨Int.emod_nonneg _ (by omega), Int.emod_lt_of_pos _ hp⟩
theorem nf_top {p : Int} {a : List Int} (h : Nf p a) (hp : 0 < p) (ha : 0 < a.length) : ¬ Cg p (rd a (a.length - 1)) 0 := fun k => by
 have := h.rd hp (a.length - 1)
 unfold Cg at k
 rw [Int.zero_emod, Int.emod_eq_of_lt this.1 this.2] at k
 exact Nz.top h.z ha k
theorem mul_short {p : Nat} (hp : Pri p) {Q : Int → Int} {b r : List Int} (hQ : IsP Q) (hb : Nf p b) (lb : 0 < b.length) (lr : r.length < b.length) (h : Eqv p (fun x => Q x * ev b x) (ev r)) : Eqv p Q (fun _ => 0) := by
 have hp0 : (0 : Int) < p := by have := hp.1; omega
 obtain ⟨q, hq, eq⟩ := nf_exists hp0 hQ
 by_cases h0 : 0 < q.length
 ·exfalso
  have e1 : Eqv p (ev (pmul q b)) (ev r) := (Eqv.of_eq p fun x => ev_pmul q b x).trans ((eq.mul (Eqv.refl p (ev b)) (isP_ev q) (isP_ev b)).trans h)
  have c := e1.coef (q.length - 1 + (b.length - 1))
  rw [rd_pmul, cv_top h0 lb, rd_beyond (xs := r) (by omega)] at c
  rcases pri_mul hp c with k | k
  ·exact nf_top hq hp0 h0 k
  ·exact nf_top hb hp0 lb k
 ·have : q = [] := List.length_eq_zero_iff.1 (by omega)
  rw [this] at eq
  exact eq.symm
theorem div_uniq {p : Nat} (hp : Pri p) {A Q Q' : Int → Int} {b r r' : List Int} (hQ : IsP Q) (hQ' : IsP Q') (hb : Nf p b) (lb : 0 < b.length) (lr : r.length < b.length) (lr' : r'.length < b.length)
  (h : Eqv p A (fun x => Q x * ev b x + ev r x)) (k : Eqv p A (fun x => Q' x * ev b x + ev r' x)) : Eqv p Q Q' ∧ Eqv p (ev r) (ev r') := by
 have e := h.symm.trans k
 have e1 : Eqv p (fun x => (Q x - Q' x) * ev b x) (ev (padd r' (pscl (-1) r))) := by
  obtain ⟨K, hK, e⟩ := e
  exact ⟨K, hK, fun x => by have := e x; rw [ev_padd, ev_pscl]; grind⟩
 have z := mul_short hp (hQ.sub hQ') hb lb (by rw [padd_len, pscl, List.length_map]; omega) e1
 have e2 : Eqv p Q Q' := by
  obtain ⟨K, hK, e⟩ := z
  exact ⟨K, hK, fun x => by have := e x; grind⟩
 refine ⟨e2, ?_⟩
 obtain ⟨K, hK, e⟩ := e
 obtain ⟨L, hL, f⟩ := e2
 exact ⟨fun x => K x - L x * ev b x, hK.sub (hL.mul (isP_ev b)), fun x => by have := e x; have := f x; grind⟩
end Go.Proofs.YtgalbnkcijmnnaaGreatDoor
namespace Go.Proofs.YtgalbnkcijmnnaaGreatDoor
open Go.RowKit
theorem pcut_c (w : World) (r g : Nat) (p : Int) (v : Value) (xs : List Int) (k : Nat) (h : Rg w r g p) (hv : Sl w v xs) (hl : xs.length ≤ 1000000) (hk : k ≤ 1000000) :
  Calls Tryz.prog 97 #[.pointer (some ⟨r, 0, none⟩), v, .int .i64 k] w fun e w' => ∃ x, e = .returned x ∧ Po w' w.heap.size x p (ev (xs.take k)) k ∧ w.grownBy w' none := by
 obtain ⟨A, c, rfl, h1, h2⟩ := hv.form
 obtain ⟨m, hm⟩ : ∃ m, m = xs.length := ⟨_, rfl⟩
 rw [← hm] at h1 hv hl
 rw [← hm]
 by_cases hle : k < m
 ·have N1 := lk (pnorm_c w r g p _ _ h (hv.take k (by omega)) (by rw [List.length_take]; omega))
  have HM := lk hm
  clear h hv hm
  by_cases k0 : 0 < k
  ·go_enter Tryz.func97, Tryz.ntmps97
   go_wp2_with fail
   refine (N1.out).mono ?_
   rintro e w1 ⟨x, rfl, po, g1⟩
   go_wp2
   go_ret
   exact ⟨_, rfl, po.fn (L' := k) (Eqv.refl _ _) (by rw [List.length_take]; omega), g1⟩
  ·obtain rfl : k = 0 := by omega
   clear k0
   go_enter Tryz.func97, Tryz.ntmps97
   go_wp2_with fail
   refine (N1.out).mono ?_
   rintro e w1 ⟨x, rfl, po, g1⟩
   go_wp2
   go_ret
   exact ⟨_, rfl, po.fn (L' := 0) (Eqv.refl _ _) (by rw [List.length_take]; omega), g1⟩
 ·have ht : xs.take k = xs := List.take_of_length_le (by omega)
  have N1 := lk (pnorm_c w r g p _ _ h hv (by omega))
  have HM := lk hm
  rw [ht]
  clear h hv hm ht
  by_cases k0 : 0 < m
  ·by_cases he : k = m
   ·subst he
    go_enter Tryz.func97, Tryz.ntmps97
    go_wp2_with fail
    refine (N1.out).mono ?_
    rintro e w1 ⟨x, rfl, po, g1⟩
    go_wp2
    go_ret
    exact ⟨_, rfl, po.fn (L' := k) (Eqv.refl _ _) (by rw [← HM.out]; exact Nat.le_refl _), g1⟩
   ·have hlt : m < k := by omega
    clear he hle
    go_enter Tryz.func97, Tryz.ntmps97
    go_wp2_with fail
    refine (N1.out).mono ?_
    rintro e w1 ⟨x, rfl, po, g1⟩
    go_wp2
    go_ret
    exact ⟨_, rfl, po.fn (L' := k) (Eqv.refl _ _) (by rw [← HM.out]; omega), g1⟩
  ·obtain rfl : m = 0 := by omega
   clear k0
   by_cases he : k = 0
   ·subst he
    go_enter Tryz.func97, Tryz.ntmps97
    go_wp2_with fail
    refine (N1.out).mono ?_
    rintro e w1 ⟨x, rfl, po, g1⟩
    go_wp2
    go_ret
    exact ⟨_, rfl, po.fn (L' := 0) (Eqv.refl _ _) (by rw [← HM.out]; exact Nat.le_refl _), g1⟩
   ·have hlt : 0 < k := by omega
    clear he hle
    go_enter Tryz.func97, Tryz.ntmps97
    go_wp2_with fail
    refine (N1.out).mono ?_
    rintro e w1 ⟨x, rfl, po, g1⟩
    go_wp2
    go_ret
    exact ⟨_, rfl, po.fn (L' := k) (Eqv.refl _ _) (by rw [← HM.out]; omega), g1⟩
def tsum (a b : Nat → Int) (i j : Nat) : Int := sumI (fun t => if t = 0 then 0 else a t * b (i - t)) j
theorem cv_tsum (a b : Nat → Int) (i : Nat) : cv a b i = a 0 * b i + tsum a b i (i + 1) := by
 unfold cv tsum
 rw [sumI_first, sumI_first]
 simp
theorem tsum_congr (a : Nat → Int) {b b' : Nat → Int} {i j : Nat} (hj : j ≤ i + 1) (h : ∀ k, k < i → b k = b' k) : tsum a b i j = tsum a b' i j := by
 unfold tsum
 refine sumI_congr _ fun t ht => ?_
 by_cases h0 : t = 0
 ·rw [if_pos h0, if_pos h0]
 ·rw [if_neg h0, if_neg h0, h (i - t) (by omega)]
theorem tsum_tail {a : List Int} (b : Nat → Int) {i j : Nat} (hj : a.length ≤ j) (h1 : 1 ≤ j) (hi : j ≤ i + 1) : tsum (rd a) b i (i + 1) = tsum (rd a) b i j := by
 unfold tsum
 refine sumI_tail _ hi fun t h2 h3 => ?_
 rw [if_neg (by omega), rd_beyond (by omega)]; simp
theorem tsum_succ (a b : Nat → Int) (i : Nat) {j : Nat} (hj : 1 ≤ j) : tsum a b i (j + 1) = tsum a b i j + a j * b (i - j) := by
 show sumI _ j + (if j = 0 then 0 else a j * b (i - j)) = _
 rw [if_neg (by omega)]; rfl
theorem tsum_one (a b : Nat → Int) (i : Nat) : tsum a b i 1 = 0 := by simp [tsum, sumI]
structure Sw (p : Int) (a : Nat → Int) (n i : Nat) (os : List Int) : Prop where
 len : os.length = n
 r : ∀ c ∈ os, 0 ≤ c ∧ c < p
 e : ∀ j, j < i → Cg p (cv a (rd os) j) (if j = 0 then 1 else 0)
theorem cv_congr (a : Nat → Int) {b b' : Nat → Int} {j : Nat} (h : ∀ k, k ≤ j → b k = b' k) : cv a b j = cv a b' j := by
 unfold cv
 exact sumI_congr _ fun t ht => by rw [h (j - t) (by omega)]
theorem Sw.start {p : Int} {a : Nat → Int} {n : Nat} {v : Int} (hn : 0 < n) (h0 : 0 ≤ v) (h1 : v < p) (hv : Cg p (v * a 0) 1) : Sw p a n 1 ((List.replicate n 0).set 0 v) := by
 refine ⟨by simp, fun c hc => ?_, fun j hj => ?_⟩
 ·rcases List.mem_or_eq_of_mem_set hc with h | h
  ·rw [List.eq_of_mem_replicate h]; omega
  ·rw [h]; exact ⟨h0, h1⟩
 ·obtain rfl : j = 0 := by omega
  rw [cv_tsum, tsum_one, rd_set_self (by simpa using hn), Int.add_zero, Int.mul_comm]
  exact hv
theorem Sw.step {p : Int} {a : Nat → Int} {n i : Nat} {os : List Int} (h : Sw p a n i os) (hi : i < n) (h1 : 1 ≤ i) {inv s v : Int} (hinv : Cg p (inv * a 0) 1) (hs : Cg p s (tsum a (rd os) i (i + 1))) (hv : Cg p v (-(s * inv))) (v0 : 0 ≤ v) (v1 : v < p) : Sw p a n (i + 1) (os.set i v) := by
 refine ⟨by rw [List.length_set, h.len], fun c hc => ?_, fun j hj => ?_⟩
 ·rcases List.mem_or_eq_of_mem_set hc with k | k
  ·exact h.r c k
  ·rw [k]; exact ⟨v0, v1⟩
 ·have hk : ∀ k, k < i → rd (os.set i v) k = rd os k := fun k hk => rd_set_ne (by omega) _
  by_cases e : j = i
  ·rw [e, if_neg (by omega), cv_tsum, rd_set_self (by rw [h.len]; exact hi), tsum_congr a (Nat.le_refl _) hk]
   have c1 : Cg p (a 0 * v + tsum a (rd os) i (i + 1)) (a 0 * -(s * inv) + s) := (hv.mull (a 0)).add hs.symm
   have c2 : Cg p (inv * a 0 * -s + s) (1 * -s + s) := (hinv.mulr (-s)).add (Cg.refl p s)
   have e1 : a 0 * -(s * inv) + s = inv * a 0 * -s + s := by grind
   rw [e1] at c1
   exact c1.trans (c2.trans (Cg.of_eq (by omega)))
  ·rw [cv_congr a (b' := rd os) (fun k h2 => hk k (by omega))]
   exact h.e j (by omega)
theorem Sw.last {p : Int} {a : List Int} {n : Nat} {os : List Int} (h : Sw p (rd a) n n os) : Eqn p n (fun x => ev a x * ev os x) (fun _ => 1) := by
 have e : Eqn p n (ev (pmul a os)) (ev [1]) := Eqn.of_coef fun i hi => by
  rw [rd_pmul]
  have := h.e i hi
  cases i with
  | zero => exact this
  | succ i => exact this
 exact (Eqn.of_eqv (Eqv.of_eq p fun x => (ev_pmul a os x).symm)).trans (e.trans (Eqn.of_eqv (Eqv.of_eq p fun x => by simp [ev])))
def Sp (w : World) (base : Nat) (v : Value) (p : Int) (F : Int → Int) (n : Nat) : Prop := ∃ S : List Int, Po w base v p (ev S) n ∧ Eqn p n (fun z => F z * ev S z) (fun _ => 1)
theorem slow_c (w : World) (d g r q : Nat) (p : Int) (v : Value) (xs : List Int) (n : Nat) (hd : w.cell? ⟨d, 0, none⟩ = some (.pointer (some ⟨g, 0, none⟩))) (hg : w.cell? ⟨g, 0, none⟩ = some (.pointer (some ⟨r, 0, none⟩))) (h : Rg w r q p) (hv : Sl w v xs) (hx : 0 < xs.length) (hl : xs.length ≤ 100000) (hn : 1 ≤ n) (hn2 : n ≤ 100000) (hc : Int.gcd p (rd xs 0) = 1) :
  Calls Tryz.prog 117 #[.pointer (some ⟨d, 0, none⟩), v, .int .i64 n] w fun e w' => ∃ x, e = .returned x ∧ Sp w' w.heap.size x p (ev xs) n ∧ w.grownBy w' none := by
 have hp := h.m.neg0
 have hp' := h.m.pm.hi
 obtain ⟨A, c, rfl, hc1, hc2⟩ := hv.form
 obtain ⟨bA, oA, rfl, h0⟩ := hv.at 0 hx
 rw [Nat.add_zero] at h0
 have x0n := rd_w hv.ws 0
 have SX := lk hv
 obtain ⟨m, hm⟩ : ∃ m, m = xs.length := ⟨_, rfl⟩
 obtain ⟨x0, hx0⟩ : ∃ x0, x0 = rd xs 0 := ⟨_, rfl⟩
 rw [← hm] at hc1 hx hl SX ⊢
 rw [← hx0] at h0 x0n hc
 have IV := lk (modInv_c w.drew q p x0 h.m.drew x0n.1)
 have HM := lk hm
 have HX0 := lk hx0
 have GC := lk hc
 have HR := lk h
 have HD := lk hd
 have HG := lk hg
 have t2 := h.c
 clear hv hm hx0 hc h x0n
 go_enter Tryz.func117, Tryz.ntmps117
 go_wp2
 refine Canon.region_canon (by kernel_rfl) (by kernel_rfl) ?_
 go_wp2_with fail
 refine (IV.out).mono ?_
 rintro e w1 ⟨⟨y, f, rfl, io⟩, g1⟩
 go_wp2
 refine ⟨by kernel_rfl, ?_⟩
 have IO := lk (io.is GC.out)
 have G1 := lk (jt (jw (jr w none)) g1)
 have mk := make64 25 (by kernel_rfl) n n (n : Int) (n : Int) (by omega) (by omega) (by omega) (by omega)
 have OW := lk (own_made w1 w1.heap.size n n (Nat.le_refl _) (by omega) (by omega))
 have G0 := lk (ju (jr w1 none) (Obj.cells (madeCells #[.int .u64 0] n) 24))
 have mk1 := mk w1
 obtain ⟨W0, hW⟩ : ∃ W0, W0 = w1.alloc (Obj.cells (madeCells #[.int .u64 0] n) 24) := ⟨_, rfl⟩
 rw [← hW] at OW G0 mk1
 clear mk hW
 have fr := OW.out.free 0
 have ce := OW.out.cell 0 (by simp; omega)
 clear IV io g1 GC h0 hd hg t2
 go_wp2
 clear mk1 fr ce
 have S0 : Hid (Sw p (rd xs) n 1 ((List.replicate n 0).set 0 y)) := lk (Sw.start (by omega) IO.out.2.1 IO.out.2.2.1 (by rw [← HX0.out]; exact IO.out.2.2.2))
 go_loopw [10] (fun v10 wr => ∃ (i : Nat) (os : List Int), v10 = .int .i64 i ∧ 1 ≤ i ∧ i ≤ n ∧ Sw p (rd xs) n i os ∧ Own wr w1.heap.size (.slice (some ⟨w1.heap.size, 0, none⟩) n n) os ∧ w1.grownBy wr none) (fun v10 _ => n - (intOf v10).toNat)
 case atStart => exact ⟨1, _, rfl, by omega, by omega, S0.out, OW.out.store 0 IO.out.2.1 (by have := IO.out.2.2.1; omega), gb_set (p := ⟨w1.heap.size, 0, none⟩) G0.out (Nat.le_refl _) _⟩
 case round =>
  clear OW G0 S0
  obtain ⟨i, os, rfl, hi1, hi, sw, ow, G⟩ := hrel
  obtain ⟨wq, rfl⟩ : ∃ wq : World, wq = wr := ⟨_, rfl⟩
  have SW := lk sw
  have OW := lk ow
  have GG := lk G
  clear sw ow G
  by_cases hlt : i < n
  ·go_wp2
   go_loopw [11, 12] (fun v11 v12 ws => ∃ (j : Nat) (s : Int), v11 = .int .u64 s ∧ v12 = .int .i64 j ∧ 1 ≤ j ∧ j ≤ i + 1 ∧ (0 ≤ s ∧ s < p) ∧ Cg p s (tsum (rd xs) (rd os) i j) ∧ wq.grownBy ws none) (fun _ v12 _ => i + 1 - (intOf v12).toNat)
   case atStart => exact ⟨1, 0, rfl, rfl, by omega, by omega, ⟨by omega, hp⟩, Cg.of_eq (tsum_one _ _ _).symm, jr _ _⟩
   case round =>
    obtain ⟨j, s, rfl, rfl, hj1, hj, hs, cg, G⟩ := hrel
    obtain ⟨ws, rfl⟩ : ∃ ws : World, ws = wr := ⟨_, rfl⟩
    have CG := lk cg
    have GS := lk G
    clear cg G
    have OWs := lk (OW.out.grown0 GS.out)
    have GA := lk (jt G1.out (jt GG.out GS.out))
    by_cases hlj : j ≤ i ∧ j < m
    ·obtain ⟨hj2, hj3⟩ := hlj
     obtain ⟨bA', oA', eA, hcj⟩ := (SX.out.grown0 GA.out).at j (by rw [← HM.out]; exact hj3)
     simp only [Option.some.injEq, Addr.mk.injEq, and_true] at eA
     obtain ⟨rfl, rfl⟩ := eA
     have hx1 := rd_w SX.out.ws j
     have ce := OWs.out.cell (i - j) (by rw [SW.out.len]; omega)
     have hy1 := rd_w OWs.out.ws (i - j)
     obtain ⟨k, hk⟩ : ∃ k, k = i - j := ⟨_, rfl⟩
     have ek : (i : Int) - (j : Int) = (k : Int) := by omega
     have kn : k < n := by omega
     obtain ⟨a, ha⟩ : ∃ a, a = rd xs j := ⟨_, rfl⟩
     obtain ⟨b, hb⟩ : ∃ b, b = rd os (i - j) := ⟨_, rfl⟩
     rw [← ha] at hcj hx1
     rw [← hb] at ce hy1
     rw [← hk] at ce
     have HA := lk ha
     have HB := lk hb
     have R := HR.out.grown0 GA.out
     have ML := lk (modMul_c ws.drew q p a b R.m.drew hx1.1 hy1.1)
     have AD := lk (fun w3 (k : ws.drew.grownBy w3 none) => modAdd_c w3 q p s (a * b % p) (R.m.drew.grown0 k) hs.1 (mod_nn hp).1)
     have cd := gb_cell0 GA.out HD.out
     have cg := gb_cell0 GA.out HG.out
     have cr := R.c
     have HF := lk (Canon.sf_cons cd (Canon.sf_cons cg (Canon.sf_cons cr (Canon.sf_nil _))))
     clear hk ha hb R cd cg
     go_wp2
     refine Canon.region_held [54, 57, 60] _ (by kernel_rfl) (by kernel_rfl) HF.out ?_
     refine Canon.segs_at 31 _ _ _ (by kernel_rfl) ?_
     simp only [ja, jb, jc, jd]
     have cd := gb_cell0 GA.out HD.out
     have cg := gb_cell0 GA.out HG.out
     go_wp2_with fail
     refine (ML.out).mono ?_
     rintro e wa ⟨rfl, ga⟩
     have AD2 := lk (AD.out _ ga)
     have F2 := lk (Canon.sf_grown0 HF.out.drew ga)
     have GB := lk (jt (jw GS.out) ga)
     clear ML AD HF ce hcj cr cd cg ga
     go_wp2
     refine ⟨F2.out, ?_⟩
     refine Canon.segs_at 0 _ _ _ (by kernel_rfl) ?_
     simp only [ja, jb, jc, jd]
     go_wp2_with fail
     refine (AD2.out).mono ?_
     rintro e wb ⟨rfl, gb⟩
     have F3 := lk (Canon.sf_grown0 F2.out gb)
     have GC := lk (jt GB.out gb)
     have mm := mod_nn (x := s + a * b % p) hp
     have st : Cg p ((s + a * b % p) % p) (tsum (rd xs) (rd os) i (j + 1)) := by
      rw [tsum_succ _ _ _ hj1, ← HA.out, ← HB.out]
      exact (Cg.mod p _).trans (CG.out.add (Cg.mod p _))
     obtain ⟨z, hz⟩ : ∃ z, z = (s + a * b % p) % p := ⟨_, rfl⟩
     rw [← hz] at mm st ⊢
     have ST := lk st
     clear AD2 F2 gb hz st
     go_wp2
     refine ⟨F3.out, ?_⟩
     refine Canon.segs_end _ _ _ (by kernel_rfl) ?_
     go_wp2
     refine ⟨by kernel_rfl, by kernel_rfl, by kernel_rfl, ?_⟩
     go_wp2
     clear ek
     go_roundw
     case rel => exact ⟨j + 1, z, rfl, by go_num, by omega, by omega, mm, ST.out, GC.out⟩
     case measure => simp [intOf]; omega
    ·have FIN : Hid (Cg p s (tsum (rd xs) (rd os) i (i + 1))) := lk (by
      by_cases hji : j = i + 1
      ·rw [← hji]; exact CG.out
      ·rw [tsum_tail (rd os) (j := j) (by rw [← HM.out]; omega) hj1 hj]; exact CG.out)
     have R := HR.out.grown0 GA.out
     have ML := lk (modMul_c ws.drew q p s y R.m.drew hs.1 IO.out.2.1)
     have NG := lk (fun w3 (k : ws.drew.grownBy w3 none) => modNeg_c w3 q p (s * y % p) (R.m.drew.grown0 k) (mod_nn hp).1)
     have cd := gb_cell0 GA.out HD.out
     have cg := gb_cell0 GA.out HG.out
     have cr := R.c
     have HF := lk (Canon.sf_cons cd (Canon.sf_cons cg (Canon.sf_cons cr (Canon.sf_nil _))))
     clear R
     by_cases hji : j ≤ i
     ·have hjm : m ≤ j := by omega
      clear hlj
      go_wp2
      refine Canon.region_held_l [89, 92, 95] _ (by kernel_rfl) (by kernel_rfl) (by kernel_rfl) HF.out ?_
      refine Canon.segl_at 24 _ _ _ (by kernel_rfl) (by kernel_rfl) ?_
      simp only [ja, jb, jc, jd]
      go_wp2_with fail
      refine (ML.out).mono ?_
      rintro e wa ⟨rfl, ga⟩
      have NG2 := lk (NG.out _ ga)
      have F2 := lk (Canon.sf_grown0 HF.out.drew ga)
      have GB := lk (jt (jw GS.out) ga)
      clear ML NG HF cd cg cr ga
      go_wp2
      refine ⟨F2.out, ?_⟩
      refine Canon.segl_at 0 _ _ _ (by kernel_rfl) (by kernel_rfl) ?_
      simp only [ja, jb, jc, jd]
      go_wp2_with fail
      refine (NG2.out).mono ?_
      rintro e wb ⟨rfl, gb⟩
      have F3 := lk (Canon.sf_grown0 F2.out gb)
      have GC := lk (jt GB.out gb)
      have OW2 := lk (OW.out.grown0 GC.out)
      have mm := mod_nn (x := -(s * y % p)) hp
      have st := SW.out.step hlt hi1 (inv := y) (s := s) (v := -(s * y % p) % p) (by rw [← HX0.out]; exact IO.out.2.2.2) FIN.out ((Cg.mod p _).trans (Cg.mod p _).neg) mm.1 mm.2
      obtain ⟨z, hz⟩ : ∃ z, z = -(s * y % p) % p := ⟨_, rfl⟩
      rw [← hz] at mm st ⊢
      have ST := lk st
      clear NG2 F2 gb hz st
      go_wp2
      refine ⟨F3.out, ?_⟩
      have fr2 := OW2.out.free i
      have ce2 := OW2.out.cell i (by rw [SW.out.len]; exact hlt)
      refine Canon.segl_last 1 _ _ _ (by kernel_rfl) (by kernel_rfl) ?_
      go_wp2
      refine ⟨by kernel_rfl, by kernel_rfl, by kernel_rfl, ?_⟩
      go_wp2
      go_roundw
      case rel => exact ⟨i + 1, _, by go_num, by omega, by omega, ST.out, OW2.out.store i mm.1 (by omega), gb_set (p := ⟨w1.heap.size, i, none⟩) (jt GG.out GC.out) (Nat.le_refl _) _⟩
      case measure => simp [intOf]; omega
     ·clear hlj
      go_wp2
      refine Canon.region_held_l [89, 92, 95] _ (by kernel_rfl) (by kernel_rfl) (by kernel_rfl) HF.out ?_
      refine Canon.segl_at 24 _ _ _ (by kernel_rfl) (by kernel_rfl) ?_
      simp only [ja, jb, jc, jd]
      go_wp2_with fail
      refine (ML.out).mono ?_
      rintro e wa ⟨rfl, ga⟩
      have NG2 := lk (NG.out _ ga)
      have F2 := lk (Canon.sf_grown0 HF.out.drew ga)
      have GB := lk (jt (jw GS.out) ga)
      clear ML NG HF cd cg cr ga
      go_wp2
      refine ⟨F2.out, ?_⟩
      refine Canon.segl_at 0 _ _ _ (by kernel_rfl) (by kernel_rfl) ?_
      simp only [ja, jb, jc, jd]
      go_wp2_with fail
      refine (NG2.out).mono ?_
      rintro e wb ⟨rfl, gb⟩
      have F3 := lk (Canon.sf_grown0 F2.out gb)
      have GC := lk (jt GB.out gb)
      have OW2 := lk (OW.out.grown0 GC.out)
      have mm := mod_nn (x := -(s * y % p)) hp
      have st := SW.out.step hlt hi1 (inv := y) (s := s) (v := -(s * y % p) % p) (by rw [← HX0.out]; exact IO.out.2.2.2) FIN.out ((Cg.mod p _).trans (Cg.mod p _).neg) mm.1 mm.2
      obtain ⟨z, hz⟩ : ∃ z, z = -(s * y % p) % p := ⟨_, rfl⟩
      rw [← hz] at mm st ⊢
      have ST := lk st
      clear NG2 F2 gb hz st
      go_wp2
      refine ⟨F3.out, ?_⟩
      have fr2 := OW2.out.free i
      have ce2 := OW2.out.cell i (by rw [SW.out.len]; exact hlt)
      refine Canon.segl_last 1 _ _ _ (by kernel_rfl) (by kernel_rfl) ?_
      go_wp2
      refine ⟨by kernel_rfl, by kernel_rfl, by kernel_rfl, ?_⟩
      go_wp2
      go_roundw
      case rel => exact ⟨i + 1, _, by go_num, by omega, by omega, ST.out, OW2.out.store i mm.1 (by omega), gb_set (p := ⟨w1.heap.size, i, none⟩) (jt GG.out GC.out) (Nat.le_refl _) _⟩
      case measure => simp [intOf]; omega
  ·obtain rfl : i = n := by omega
   have GA := lk (jt G1.out GG.out)
   have NM := lk (pnorm_c wq r q p _ _ (HR.out.grown0 GA.out) OW.out.sl (by rw [SW.out.len]; omega))
   have cd := gb_cell0 GA.out HD.out
   have cg := gb_cell0 GA.out HG.out
   go_wp2_with fail
   refine (NM.out).mono ?_
   rintro e w3 ⟨x, rfl, po, g3⟩
   go_wp2
   go_ret
   exact ⟨_, rfl, ⟨os, (po.fn (L' := i) (Eqv.refl _ _) (by rw [SW.out.len]; exact Nat.le_refl _)).mono GA.out.size, SW.out.last⟩, jt GA.out g3⟩
structure Pd (w : World) (u : Tb) (p : Int) (d g : Nat) (I : Pix) (a : Int) (c : Mc) : Prop where
 e : w.cell? ⟨d, 0, none⟩ = some (.pointer (some ⟨g, 0, none⟩))
 q : Pq w u p g I a c
theorem Pd.grown0 {w w' : World} {u : Tb} {p : Int} {d g : Nat} {I : Pix} {a : Int} {c : Mc} (h : Pd w u p d g I a c) (k : w.grownBy w' none) : Pd w' u p d g I a c := ⟨gb_cell0 k h.e, h.q.grown0 k⟩
theorem Pd.next {w w' : World} {u : Tb} {p : Int} {d g : Nat} {I : Pix} {a a' : Int} {c c' : Mc} (h : Pd w u p d g I a c) (k : w.grownBy w' (some I.gm)) (q : Pq w' u p g I a' c') : Pd w' u p d g I a' c' := ⟨cell_past h.e (h.q.en.m.ptr h.e) k, q⟩
theorem gcd_cg {p x y : Int} (_hp : 3 ≤ p) (h : Cg p x y) (g : Int.gcd p x = 1) : Int.gcd p y = 1 := by
 obtain ⟨k, hk⟩ := h.dvd
 have e : x = y + p * k := by omega
 rw [e, Int.gcd_comm] at g
 rw [Int.gcd_comm, ← g]
 rw [show y + p * k = y + k * p by rw [Int.mul_comm], Int.gcd_add_mul_right_left]
theorem cut_head {p : Int} (hp : 3 ≤ p) {xs zs : List Int} {h : Nat} (h1 : 0 < h) (e : Eqv p (ev zs) (ev (xs.take h))) (g : Int.gcd p (rd xs 0) = 1) : 0 < zs.length ∧ Int.gcd p (rd zs 0) = 1 := by
 have c := e.coef 0
 rw [rd_take h1] at c
 have g2 := gcd_cg hp c.symm g
 refine ⟨?_, g2⟩
 by_cases k : 0 < zs.length
 ·exact k
 ·rw [rd_beyond (by omega), Int.gcd_zero_right] at g2; omega
theorem newton_rows {p : Int} {h n : Nat} {xs z2 z3 z4 z5 z6 : List Int} (hn : n ≤ 2 * h) (e2 : Eqn p h (fun x => ev xs x * ev z2 x) (fun _ => 1)) (e3 : Eqv p (ev z3) (fun x => ev xs x * ev z2 x)) (e4 : Eqv p (ev z4) (ev (z3.take n)))
  (e5 : Eqv p (ev z5) (fun x => ev [2] x - ev z4 x)) (e6 : Eqv p (ev z6) (fun x => ev z2 x * ev z5 x)) : Eqn p n (fun x => ev xs x * ev (z6.take n) x) (fun _ => 1) := by
 have f4 : Eqn p n (ev z4) (fun x => ev xs x * ev z2 x) := (Eqn.of_eqv e4).trans ((Eqn.cut p n z3).symm.trans (Eqn.of_eqv e3))
 have f5 : Eqn p n (ev z5) (fun x => 2 - ev xs x * ev z2 x) := (Eqn.of_eqv e5).trans ((Eqn.of_eqv (Eqv.of_eq p (G := fun x => (2 : Int) - ev z4 x) fun x => by simp [ev])).trans ((Eqn.refl p n (fun _ => (2 : Int))).sub f4))
 have f6 : Eqn p n (ev (z6.take n)) (fun x => ev z2 x * (2 - ev xs x * ev z2 x)) := (Eqn.cut p n z6).symm.trans ((Eqn.of_eqv e6).trans ((Eqn.refl p n (ev z2)).mul f5 (isP_ev z2) (isP_ev z5)))
 exact ((Eqn.refl p n (ev xs)).mul f6 (isP_ev xs) (isP_ev _)).trans (Eqn.newton hn e2)
theorem half_rows {p : Int} {h : Nat} {xs z1 S z2 : List Int} (e1 : Eqv p (ev z1) (ev (xs.take h))) (e : Eqn p h (fun x => ev z1 x * ev S x) (fun _ => 1)) (e2 : Eqv p (ev z2) (ev S)) : Eqn p h (fun x => ev xs x * ev z2 x) (fun _ => 1) :=
 (((Eqn.cut p h xs).trans (Eqn.of_eqv e1.symm)).mul (Eqn.of_eqv e2) (isP_ev z1) (isP_ev z2)).trans e
theorem sp_nil (w : World) (base : Nat) (p : Int) {F : Int → Int} (hF : IsP F) : Sp w base (.slice none 0 0) p F 0 :=
 ⟨[], po_nil w base p 0 (Eqv.refl _ _), fun x => F x * ev [] x - 1, (hF.mul (isP_ev [])).sub (isP_const 1), Eqv.of_eq p fun x => by simp; omega⟩
theorem Pd.sf {w : World} {u : Tb} {p : Int} {d g : Nat} {I : Pix} {a : Int} {c : Mc} (h : Pd w u p d g I a c) : Canon.SF [(⟨d, 0, none⟩, .pointer (some ⟨g, 0, none⟩)), (⟨g, 0, none⟩, .pointer (some ⟨I.r, 0, none⟩)), (⟨d, 0, none⟩, .pointer (some ⟨g, 0, none⟩)), (⟨g, 0, none⟩, .pointer (some ⟨I.r, 0, none⟩)), (⟨d, 0, none⟩, .pointer (some ⟨g, 0, none⟩))] w :=
 Canon.sf_cons h.e (Canon.sf_cons h.q.pe.e0 (Canon.sf_cons h.e (Canon.sf_cons h.q.pe.e0 (Canon.sf_cons h.e (Canon.sf_nil _)))))
theorem Pd.sf2 {w : World} {u : Tb} {p : Int} {d g : Nat} {I : Pix} {a : Int} {c : Mc} (h : Pd w u p d g I a c) : Canon.SF [(⟨d, 0, none⟩, .pointer (some ⟨g, 0, none⟩)), (⟨g, 0, none⟩, .pointer (some ⟨I.r, 0, none⟩))] w :=
 Canon.sf_cons h.e (Canon.sf_cons h.q.pe.e0 (Canon.sf_nil _))
def Mid (w2 wx : World) (u : Tb) (p : Int) (d g : Nat) (I : Pix) (a2 : Int) (n : Nat) (xs z2 : List Int) (v8 : Value) : Prop := ∃ a3 c3 z3 z4 z5, Own wx w2.heap.size v8 z5 ∧ z5.length ≤ n ∧ Eqv p (ev z3) (fun x => ev xs x * ev z2 x) ∧ Eqv p (ev z4) (ev (z3.take n)) ∧ Eqv p (ev z5) (fun x => ev [2] x - ev z4 x) ∧ Pd wx u p d g I a3 c3 ∧ a3 ≤ a2 + 10000000 ∧ w2.grownBy wx (some I.gm)
theorem series_any (u : Tb) (hu : TbOk u) (p : Int) (d g : Nat) (I : Pix) : ∀ (n : Nat), n ≤ 160 → ∀ (w : World) (a : Int) (c : Mc) (v : Value) (xs : List Int), Pd w u p d g I a c → Db w → a + (n : Int) * 20000000 ≤ 900000000000000 → Sl w v xs → 0 < xs.length → xs.length ≤ 160 → Int.gcd p (rd xs 0) = 1 →
  Calls Tryz.prog 96 #[.pointer (some ⟨d, 0, none⟩), v, .int .i64 n] w fun e w' => ∃ x a' c', e = .returned x ∧ Sp w' w.heap.size x p (ev xs) n ∧ Pd w' u p d g I a' c' ∧ a' ≤ a + (n : Int) * 20000000 ∧ w.grownBy w' (some I.gm) := by
 intro n
 induction n using Nat.strongRecOn with
 | ind n ih =>
 intro hn w a c v xs hP hd ha hv hx hl hg
 have hp3 := hP.q.rg.m.pm.lo
 by_cases n0 : n = 0
 ·subst n0
  have HP := lk hP
  clear ih hP hd hv hg
  go_enter Tryz.func96, Tryz.ntmps96
  go_wp2
  go_ret
  exact ⟨_, a, c, rfl, sp_nil _ _ _ (isP_ev _), HP.out, by omega, jr _ _⟩
 have n0' : ((n : Int) == 0) = false := by simp; omega
 obtain ⟨es, hes⟩ : ∃ es, es = u.es := ⟨_, rfl⟩
 have t16 := hP.q.cell 12 (by decide)
 rw [show u.vs[12 - 3]? = some (.int .i64 u.es) from rfl, ← hes] at t16
 have HP := lk hP
 have IH := lk ih
 have HD := lk hd
 have HV := lk hv
 have HG := lk hg
 by_cases hs : n = 1 ∨ (n : Int) < es
 ·have SL := lk (slow_c w d g I.r I.q p v xs n hP.e hP.q.pe.e0 hP.q.rg hv hx (by omega) (by omega) (by omega) hg)
  have t0 := hP.e
  have t1 := hP.q.pe.e1
  have t2 := hP.q.pe.ch.c0
  have t3 := hP.q.pe.ch.c1
  have t4 := hP.q.pe.ch.c2
  have t5 := hP.q.pe.ch.c3
  have t6 := hP.q.pe.ch.c4
  have t7 := hP.q.pe.ch.c5
  have t8 := hP.q.pe.ch.c6
  have t9 := hP.q.pe.ch.c7
  have t10 := hP.q.pe.ch.c8
  have t11 := hP.q.pe.ch.c9
  have t12 := hP.q.en.e.h0
  have t13 := hP.q.en.e.h1
  have t14 := hP.q.en.e.h2
  have t15 := hP.q.en.e.h3
  clear hP ih hd hv hg hes
  by_cases n1 : n = 1
  ·subst n1
   clear hs
   go_enter Tryz.func96, Tryz.ntmps96
   go_wp2_with fail
   refine (SL.out).mono ?_
   rintro e w1 ⟨x, rfl, sp, g1⟩
   go_wp2
   go_ret
   exact ⟨_, a, c, rfl, sp, HP.out.grown0 g1, by omega, jn g1 _⟩
  ·have n1' : ((n : Int) == 1) = false := by simp; omega
   have hlt : decide ((n : Int) < es) = true := decide_eq_true (by omega)
   clear hs
   go_enter Tryz.func96, Tryz.ntmps96
   go_wp2_with fail
   refine (SL.out).mono ?_
   rintro e w1 ⟨x, rfl, sp, g1⟩
   go_wp2
   go_ret
   exact ⟨_, a, c, rfl, sp, HP.out.grown0 g1, by omega, jn g1 _⟩
 ·have n1' : ((n : Int) == 1) = false := by simp; omega
  have hlt : decide ((n : Int) < es) = false := decide_eq_false (by omega)
  obtain ⟨h, hh⟩ : ∃ h, h = (n + 1) / 2 := ⟨_, rfl⟩
  have eh : Int.tdiv ((n : Int) + 1) 2 = (h : Int) := by rw [Int.tdiv_eq_ediv_of_nonneg (by omega)]; omega
  have h1 : 0 < h ∧ h < n ∧ n ≤ 2 * h := by omega
  have C1 := lk (pcut_c w I.r I.q p v xs h hP.q.rg hv (by omega) (by omega))
  have t0 := hP.e
  have t17 := hP.q.pe.e0
  have t1 := hP.q.pe.e1
  have t2 := hP.q.pe.ch.c0
  have t3 := hP.q.pe.ch.c1
  have t4 := hP.q.pe.ch.c2
  have t5 := hP.q.pe.ch.c3
  have t6 := hP.q.pe.ch.c4
  have t7 := hP.q.pe.ch.c5
  have t8 := hP.q.pe.ch.c6
  have t9 := hP.q.pe.ch.c7
  have t10 := hP.q.pe.ch.c8
  have t11 := hP.q.pe.ch.c9
  have t12 := hP.q.en.e.h0
  have t13 := hP.q.en.e.h1
  have t14 := hP.q.en.e.h2
  have t15 := hP.q.en.e.h3
  clear hP ih hd hv hg hes hs hh
  go_enter Tryz.func96, Tryz.ntmps96
  go_wp2_with fail
  refine (C1.out).mono ?_
  rintro e w1 ⟨x1, rfl, ⟨z1, o1, nf1, e1, l1⟩, g1⟩
  obtain ⟨k1, k2⟩ := cut_head hp3 h1.1 e1 HG.out
  have P1 := lk (HP.out.grown0 g1)
  have SR := lk (IH.out h h1.2.1 (by omega) w1 a c x1 z1 P1.out (HD.out.grown0 g1) (by omega) o1.sl k1 (by omega) k2)
  have G1 := lk g1
  have E1 := lk e1
  clear C1 t0 t17 t16 o1 nf1 k1 k2 g1 e1 IH
  clear t1 t2 t3 t4 t5 t6 t7 t8 t9 t10 t11 t12 t13 t14 t15
  go_wp2_with fail
  refine (SR.out).mono ?_
  rintro e w2 ⟨x2, a2, c2, rfl, ⟨S, ⟨z2, o2, nf2, e2, l2⟩, i2⟩, p2, ha2, g2⟩
  have E2 := lk (half_rows E1.out i2 e2)
  have P2 := lk p2
  have G2 := lk (jt (jn G1.out (some I.gm)) g2)
  have V2 := lk (P1.out.q.sl (HV.out.grown0 G1.out) g2)
  have D2 := lk (Db.gm P1.out.q (HD.out.grown0 G1.out) g2)
  have S2 := lk o2.sl
  have ML := lk (fun w1 (k : w2.grownBy w1 none) => pemul_c hu w1 p g I a2 c2 v x2 xs z2 (P2.out.q.grown0 k) (D2.out.grown0 k) (by omega) (V2.out.grown0 k) (S2.out.grown0 k) (by omega))
  have CU := lk (fun w3 x3 z3 a3 c3 (P3 : Pd w3 u p d g I a3 c3) (X3 : Sl w3 x3 z3) (hz : z3.length ≤ 1000) => pcut_c w3 I.r I.q p x3 z3 n P3.q.rg X3 (by omega) (by omega))
  have MI := lk (fun w4 y x4 z4 a3 c3 (P4 : Pd w4 u p d g I a3 c3) (Y : Sl w4 y [2]) (X4 : Sl w4 x4 z4) (hz : z4.length ≤ n) => pminus_c w4 I.r I.q p y x4 [2] z4 P4.q.rg Y X4 (by decide) (by omega))
  have A2 := lk ha2
  have L2 := lk l2
  clear SR P1 G1 E1 o2 nf2 e2 i2 p2 ha2 g2
  go_upto_region 6 with fail
  go_cut [8] from 91 to 115 (fun v8 wx => Mid w2 wx u p d g I a2 n xs z2 v8)
  case first =>
   have t0 := P2.out.e
   have t17 := P2.out.q.pe.e0
   refine Canon.region_s [94, 97, 102, 105, 109] _ 7 [[0, 1, 2, 3, 4, 5, 6, 8, 9, 10, 11, 12, 13, 14, 15, 16, 17, 18, 19, 20], [21, 22], [23], [24, 25]] (by kernel_rfl) (by kernel_rfl) P2.out.sf ?_
   simp only [Canon.segT, Canon.operL, List.filterMap_cons, List.filterMap_nil, List.getElem?_toArray, List.getElem?_cons_zero, List.getElem?_cons_succ, List.flatten_cons, List.flatten_nil, List.nil_append, List.cons_append]
   refine Canon.segs_end _ _ _ (by kernel_rfl) ?_
   go_wp2
   clear t0 t17
   refine ⟨fun _ => ?_, ?_⟩
   ·have Y := lk (show Sl (w2.drew.alloc (Obj.cells #[.int .u64 2] 24)) (.slice (some ⟨w2.heap.size, 0, none⟩) 1 1) [2] from sl_lit w2.drew 24 #[.int .u64 2] [2] 1 rfl (ws_one (by decide) (by decide)) rfl (by decide))
    have D1 := lk (ju (jw (jr w2 none)) (Obj.cells #[.int .u64 2] 24))
    refine Canon.segs_at 0 _ _ _ (by kernel_rfl) ?_
    simp only [ja, jb, jc, jd]
    go_wp2
    refine ⟨(P2.out.grown0 D1.out).sf, ?_⟩
    refine Canon.segs_at 0 _ _ _ (by kernel_rfl) ?_
    simp only [ja, jb, jc, jd]
    go_wp2_with fail
    refine (ML.out _ D1.out).mono ?_
    rintro e w3 ⟨x3, a3, c3, rfl, ⟨z3, o3, nf3, e3, l3⟩, q3, ha3, g3⟩
    have P3 := lk ((P2.out.grown0 D1.out).next g3 q3)
    have K3 := lk (jt (jn D1.out (some I.gm)) g3)
    have Y3 := lk ((P2.out.grown0 D1.out).q.sl Y.out g3)
    have X3 := lk o3.sl
    have E3 := lk e3
    have A3 := lk ha3
    have L3 := lk l3
    clear o3 nf3 e3 q3 ha3 g3 l3 Y
    have CU1 := lk (CU.out _ x3 z3 a3 c3 P3.out X3.out (by have := L3.out; omega))
    go_wp2
    refine ⟨P3.out.sf, ?_⟩
    refine Canon.segs_at 1 _ _ _ (by kernel_rfl) ?_
    simp only [ja, jb, jc, jd]
    go_wp2_with fail
    refine (CU1.out).mono ?_
    rintro e w4 ⟨x4, rfl, ⟨z4, o4, nf4, e4, l4⟩, g4⟩
    have P4 := lk (P3.out.grown0 g4)
    have K4 := lk (jt K3.out (jn g4 (some I.gm)))
    have Y4 := lk (Y3.out.grown0 g4)
    have X4 := lk o4.sl
    have E4 := lk e4
    have L4 := lk l4
    clear o4 nf4 e4 l4 g4 CU1
    have MI1 := lk (MI.out _ _ x4 z4 a3 c3 P4.out Y4.out X4.out L4.out)
    go_wp2
    refine ⟨P4.out.sf, ?_⟩
    refine Canon.segs_at 0 _ _ _ (by kernel_rfl) ?_
    simp only [ja, jb, jc, jd]
    go_wp2_with fail
    refine (MI1.out).mono ?_
    rintro e w5 ⟨x5, rfl, ⟨z5, o5, nf5, e5, l5⟩, g5⟩
    have P5 := lk (P4.out.grown0 g5)
    have M5 : Hid (Mid w2 w5 u p d g I a2 n xs z2 x5) := lk ⟨a3, c3, z3, z4, z5, o5.mono K4.out.size, by have := L4.out; simp only [List.length_cons, List.length_nil] at l5; omega, E3.out, E4.out, e5, P5.out, A3.out, jt K4.out (jn g5 (some I.gm))⟩
    clear o5 nf5 e5 l5 g5 MI1
    go_wp2
    refine ⟨P5.out.sf, ?_⟩
    refine Canon.segs_end _ _ _ (by kernel_rfl) ?_
    go_wp2
    refine ⟨Canon.endOk (by kernel_rfl) (by kernel_rfl) (by kernel_rfl), ?_⟩
    go_wp2_with fail
    go_meet
    exact M5.out
   ·skip
    have D0 := lk (jw (jr w2 none))
    refine Canon.segs_at 0 _ _ _ (by kernel_rfl) ?_
    simp only [ja, jb, jc, jd]
    go_wp2_with fail
    refine (ML.out _ D0.out).mono ?_
    rintro e w3 ⟨x3, a3, c3, rfl, ⟨z3, o3, nf3, e3, l3⟩, q3, ha3, g3⟩
    have P3 := lk ((P2.out.grown0 D0.out).next g3 q3)
    have K3 := lk (jt (jn D0.out (some I.gm)) g3)
    have X3 := lk o3.sl
    have E3 := lk e3
    have A3 := lk ha3
    have L3 := lk l3
    clear o3 nf3 e3 q3 ha3 g3 l3
    go_wp2
    refine ⟨P3.out.sf, ?_⟩
    refine Canon.segs_end _ _ _ (by kernel_rfl) ?_
    go_wp2
    refine ⟨fun _ => ?_, ?_⟩
    ·have Y := lk (show Sl (w3.alloc (Obj.cells #[.int .u64 2] 24)) (.slice (some ⟨w3.heap.size, 0, none⟩) 1 1) [2] from sl_lit w3 24 #[.int .u64 2] [2] 1 rfl (ws_one (by decide) (by decide)) rfl (by decide))
     have D1 := lk (ju (jr w3 none) (Obj.cells #[.int .u64 2] 24))
     have P := lk (P3.out.grown0 D1.out)
     have K := lk (jt K3.out (jn D1.out (some I.gm)))
     have X := lk (X3.out.grown0 D1.out)
     refine Canon.segs_at 0 _ _ _ (by kernel_rfl) ?_
     simp only [ja, jb, jc, jd]
     go_wp2
     refine ⟨P.out.sf, ?_⟩
     have CU1 := lk (CU.out _ x3 z3 a3 c3 P.out X.out (by have := L3.out; omega))
     refine Canon.segs_at 0 _ _ _ (by kernel_rfl) ?_
     simp only [ja, jb, jc, jd]
     go_wp2_with fail
     refine (CU1.out).mono ?_
     rintro e w4 ⟨x4, rfl, ⟨z4, o4, nf4, e4, l4⟩, g4⟩
     have P4 := lk (P.out.grown0 g4)
     have K4 := lk (jt K.out (jn g4 (some I.gm)))
     have Y4 := lk (Y.out.grown0 g4)
     have X4 := lk o4.sl
     have E4 := lk e4
     have L4 := lk l4
     clear o4 nf4 e4 l4 g4 CU1
     have MI1 := lk (MI.out _ _ x4 z4 a3 c3 P4.out Y4.out X4.out L4.out)
     go_wp2
     refine ⟨P4.out.sf, ?_⟩
     refine Canon.segs_at 0 _ _ _ (by kernel_rfl) ?_
     simp only [ja, jb, jc, jd]
     go_wp2_with fail
     refine (MI1.out).mono ?_
     rintro e w5 ⟨x5, rfl, ⟨z5, o5, nf5, e5, l5⟩, g5⟩
     have P5 := lk (P4.out.grown0 g5)
     have M5 : Hid (Mid w2 w5 u p d g I a2 n xs z2 x5) := lk ⟨a3, c3, z3, z4, z5, o5.mono K4.out.size, by have := L4.out; simp only [List.length_cons, List.length_nil] at l5; omega, E3.out, E4.out, e5, P5.out, A3.out, jt K4.out (jn g5 (some I.gm))⟩
     clear o5 nf5 e5 l5 g5 MI1
     go_wp2
     refine ⟨P5.out.sf, ?_⟩
     refine Canon.segs_end _ _ _ (by kernel_rfl) ?_
     go_wp2
     refine ⟨Canon.endOk (by kernel_rfl) (by kernel_rfl) (by kernel_rfl), ?_⟩
     go_wp2_with fail
     go_meet
     exact M5.out
    ·skip
     have CU1 := lk (CU.out _ x3 z3 a3 c3 P3.out X3.out (by have := L3.out; omega))
     refine Canon.segs_at 0 _ _ _ (by kernel_rfl) ?_
     simp only [ja, jb, jc, jd]
     go_wp2_with fail
     refine (CU1.out).mono ?_
     rintro e w4 ⟨x4, rfl, ⟨z4, o4, nf4, e4, l4⟩, g4⟩
     have P4 := lk (P3.out.grown0 g4)
     have K4 := lk (jt K3.out (jn g4 (some I.gm)))
     have X4 := lk o4.sl
     have E4 := lk e4
     have L4 := lk l4
     clear o4 nf4 e4 l4 g4 CU1
     go_wp2
     refine ⟨P4.out.sf, ?_⟩
     refine Canon.segs_end _ _ _ (by kernel_rfl) ?_
     go_wp2
     refine ⟨fun h0 => absurd rfl h0, ?_⟩
     have Y := lk (show Sl (w4.alloc (Obj.cells #[.int .u64 2] 24)) (.slice (some ⟨w4.heap.size, 0, none⟩) 1 1) [2] from sl_lit w4 24 #[.int .u64 2] [2] 1 rfl (ws_one (by decide) (by decide)) rfl (by decide))
     have D1 := lk (ju (jr w4 none) (Obj.cells #[.int .u64 2] 24))
     have P := lk (P4.out.grown0 D1.out)
     have K := lk (jt K4.out (jn D1.out (some I.gm)))
     have X := lk (X4.out.grown0 D1.out)
     refine Canon.segs_at 0 _ _ _ (by kernel_rfl) ?_
     simp only [ja, jb, jc, jd]
     go_wp2
     refine ⟨P.out.sf, ?_⟩
     have MI1 := lk (MI.out _ _ x4 z4 a3 c3 P.out Y.out X.out L4.out)
     refine Canon.segs_at 0 _ _ _ (by kernel_rfl) ?_
     simp only [ja, jb, jc, jd]
     go_wp2_with fail
     refine (MI1.out).mono ?_
     rintro e w5 ⟨x5, rfl, ⟨z5, o5, nf5, e5, l5⟩, g5⟩
     have P5 := lk (P.out.grown0 g5)
     have M5 : Hid (Mid w2 w5 u p d g I a2 n xs z2 x5) := lk ⟨a3, c3, z3, z4, z5, o5.mono K.out.size, by have := L4.out; simp only [List.length_cons, List.length_nil] at l5; omega, E3.out, E4.out, e5, P5.out, A3.out, jt K.out (jn g5 (some I.gm))⟩
     clear o5 nf5 e5 l5 g5 MI1
     go_wp2
     refine ⟨P5.out.sf, ?_⟩
     refine Canon.segs_end _ _ _ (by kernel_rfl) ?_
     go_wp2
     refine ⟨Canon.endOk (by kernel_rfl) (by kernel_rfl) (by kernel_rfl), ?_⟩
     go_wp2_with fail
     go_meet
     exact M5.out
  case rest =>
   obtain ⟨a3, c3, z3, z4, z5, o5, l5, e3, e4, e5, p3, ha3, g3⟩ := hcut
   have P3 := lk p3
   have S3 := lk (P2.out.q.sl S2.out g3)
   have D3 := lk (Db.gm P2.out.q D2.out g3)
   have G3 := lk (jt G2.out g3)
   have dr := jw (jr wc none)
   have P3d := lk (p3.grown0 dr)
   have ML2 := lk (pemul_c hu wc.drew p g I a3 c3 _ _ z2 z5 P3d.out.q (D3.out.grown0 dr) (by have := A2.out; omega) (S3.out.grown0 dr) (o5.sl.grown0 dr) (by omega))
   have EE := lk (And.intro e3 (And.intro e4 e5))
   have A3 := lk ha3
   have t0 := P3.out.e
   have t17 := P3.out.q.pe.e0
   clear ML CU MI e3 e4 e5 p3 ha3 g3 o5 dr
   go_wp2
   refine Canon.region_held [119, 122] _ (by kernel_rfl) (by kernel_rfl) P3.out.sf2 ?_
   refine Canon.segs_at 13 _ _ _ (by kernel_rfl) ?_
   simp only [ja, jb, jc, jd]
   go_wp2_with fail
   refine (ML2.out).mono ?_
   rintro e w4 ⟨x6, a4, c4, rfl, ⟨z6, o6, nf6, e6, l6⟩, q4, ha4, g4⟩
   have P4 := lk (P3d.out.next g4 q4)
   have G4 := lk (jt (jt G3.out (jn (jw (jr wc none)) (some I.gm))) g4)
   have CU2 := lk (pcut_c w4 I.r I.q p x6 z6 n P4.out.q.rg o6.sl (by omega) (by omega))
   have FN := lk (newton_rows h1.2.2 E2.out EE.out.1 EE.out.2.1 EE.out.2.2 e6)
   have A4 := lk ha4
   clear ML2 o6 nf6 e6 q4 ha4 g4 t0 t17 P3d
   go_wp2
   refine ⟨P4.out.sf2, ?_⟩
   refine Canon.segs_at 1 _ _ _ (by kernel_rfl) ?_
   simp only [ja, jb, jc, jd]
   go_wp2_with fail
   refine (CU2.out).mono ?_
   rintro e w5 ⟨x7, rfl, po7, g5⟩
   have P5 := lk (P4.out.grown0 g5)
   have G5 := lk (jt G4.out (jn g5 (some I.gm)))
   have PO := lk (po7.mono G4.out.size)
   clear CU2 po7 g5
   go_wp2
   refine ⟨P5.out.sf2, ?_⟩
   refine Canon.segs_end _ _ _ (by kernel_rfl) ?_
   go_wp2
   refine ⟨by kernel_rfl, by kernel_rfl, by kernel_rfl, ?_⟩
   go_wp2
   go_ret
   exact ⟨_, a4, c4, rfl, ⟨_, PO.out, FN.out⟩, P5.out, by have := A2.out; have := A3.out; have := A4.out; omega, G5.out⟩
theorem Eqv.coefF {p : Int} {a b : List Int} {F : Int → Int} (h : Eqv p (ev a) F) (e : ∀ x, F x = ev b x) (i : Nat) : Cg p (rd a i) (rd b i) := (h.fn e).coef i
structure Lg (p : Int) (za zb : List Int) (m i : Nat) (us qs : List Int) : Prop where
  la : us.length = za.length
  lq : qs.length = m
  ra : ∀ c ∈ us, 0 ≤ c ∧ c < p
  rq : ∀ c ∈ qs, 0 ≤ c ∧ c < p
  e : Eqv p (ev za) (fun x => ev qs x * ev zb x + ev us x)
  top : ∀ j, i + zb.length ≤ j + 1 → rd us j = 0
  z : ∀ j, j < i → rd qs j = 0
theorem Lg.start {p : Int} (hp : 0 < p) {za zb : List Int} (h : Nf p za) (_lb : 0 < zb.length) (hl : zb.length ≤ za.length) : Lg p za zb (za.length - zb.length + 1) (za.length - zb.length + 1) za (List.replicate (za.length - zb.length + 1) 0) :=
  ⟨rfl, by simp, h.r, fun c hc => by rw [List.eq_of_mem_replicate hc]; omega, Eqv.of_eq p fun x => by rw [ev_zeros]; simp, fun j hj => rd_beyond (by omega), fun j _ => rd_zeros _ _⟩
theorem rd_ranged {p : Int} {us : List Int} (h : ∀ c ∈ us, 0 ≤ c ∧ c < p) (hp : 0 < p) (j : Nat) : 0 ≤ rd us j ∧ rd us j < p := by
  by_cases hj : j < us.length
  · exact h _ (by
      unfold rd
      rw [List.getD_eq_getElem?_getD, List.getElem?_eq_getElem hj]
      exact List.getElem_mem hj)
  · rw [rd_beyond (by omega)]; omega
theorem rd_shift (k : Nat) (a : List Int) (j : Nat) : rd (List.replicate k 0 ++ a) (k + j) = rd a j := by
  unfold rd
  rw [List.getD_eq_getElem?_getD, List.getD_eq_getElem?_getD, List.getElem?_append_right (by simp)]
  simp
theorem cg_zero {p x : Int} (h : Cg p x 0) (h0 : 0 ≤ x) (h1 : x < p) : x = 0 := by
  unfold Cg at h
  rwa [Int.zero_emod, Int.emod_eq_of_lt h0 h1] at h
theorem Lg.step {p : Int} {za zb us us2 qs : List Int} {m k : Nat} {c inv : Int} (h : Lg p za zb m (k + 1) us qs) (hp : 0 < p) (lb : 0 < zb.length) (hk : k < m) (hl : us2.length = us.length) (hr : ∀ c ∈ us2, 0 ≤ c ∧ c < p)
    (he : Eqv p (ev us2) (fun x => ev us x - c * x ^ k * ev zb x)) (hc : Cg p c (rd us (k + zb.length - 1) * inv)) (hi : Cg p (inv * rd zb (zb.length - 1)) 1) (c0 : 0 ≤ c) (c1 : c < p) : Lg p za zb m k us2 (qs.set k c) := by
  refine ⟨hl.trans h.la, by rw [List.length_set, h.lq], hr, fun x hx => ?_, ?_, fun j hj => ?_, fun j hj => ?_⟩
  · rcases List.mem_or_eq_of_mem_set hx with k | k
    · exact h.rq x k
    · rw [k]; exact ⟨c0, c1⟩
  · refine h.e.trans ?_
    obtain ⟨K, hK, e⟩ := he
    refine ⟨fun x => -K x, hK.neg, fun x => ?_⟩
    have := e x
    simp only at this ⊢
    rw [ev_set qs k c x (by rw [h.lq]; exact hk), h.z k (by omega), this]; grind
  · have cf := he.coefF (b := padd us (pscl (-c) (List.replicate k 0 ++ zb))) (fun x => by
      rw [ev_padd, ev_pscl, ev_append, ev_zeros, List.length_replicate]; grind) j
    rw [rd_padd, rd_pscl] at cf
    obtain ⟨t, rfl⟩ : ∃ t, j = k + t := ⟨j - k, by omega⟩
    rw [rd_shift] at cf
    have rr := rd_ranged hr hp (k + t)
    refine cg_zero ?_ rr.1 rr.2
    by_cases ht : t = zb.length - 1
    · refine cf.trans ?_
      have e1 : k + zb.length - 1 = k + t := by omega
      rw [e1] at hc
      rw [← ht] at hi
      have c2 : Cg p (c * rd zb t) (rd us (k + t) * inv * rd zb t) := hc.mulr _
      have c3 : Cg p (rd us (k + t) * (inv * rd zb t)) (rd us (k + t) * 1) := hi.mull _
      have e2 : rd us (k + t) * inv * rd zb t = rd us (k + t) * (inv * rd zb t) := Int.mul_assoc ..
      rw [e2] at c2
      have c4 := (Cg.refl p (rd us (k + t))).sub (c2.trans c3)
      have e3 : rd us (k + t) - c * rd zb t = rd us (k + t) + -c * rd zb t := by grind
      rw [e3] at c4
      exact c4.trans (Cg.of_eq (by omega))
    · rw [h.top (k + t) (by omega), rd_beyond (xs := zb) (j := t) (by omega)] at cf
      simpa using cf
  · rw [rd_set_ne (by omega)]
    exact h.z j (by omega)
def DM (w : World) (base : Nat) (p : Int) (xs ys : List Int) (vq vr : Value) (err : Int) : Prop := ∃ zb, Nf p zb ∧ Eqv p (ev zb) (ev ys) ∧ zb.length ≤ ys.length ∧
  ((zb = [] ∧ vq = .slice none 0 0 ∧ vr = .slice none 0 0 ∧ err = 2) ∨
   (0 < zb.length ∧ err = 0 ∧ ∃ zq zr, (Own w base vq zq ∧ Nf p zq) ∧ (Own w base vr zr ∧ Nf p zr) ∧ zr.length < zb.length ∧ zq.length ≤ xs.length ∧ Eqv p (ev xs) (fun x => ev zq x * ev zb x + ev zr x)))
theorem DM.grown0 {w w' : World} {base : Nat} {p : Int} {xs ys : List Int} {vq vr : Value} {err : Int} (h : DM w base p xs ys vq vr err) (k : w.grownBy w' none) : DM w' base p xs ys vq vr err := by
  obtain ⟨zb, h1, h2, h3, h4⟩ := h
  refine ⟨zb, h1, h2, h3, ?_⟩
  rcases h4 with h | ⟨a, b, zq, zr, ⟨c, d⟩, ⟨e, f⟩, i⟩
  · exact .inl h
  · exact .inr ⟨a, b, zq, zr, ⟨c.grown0 k, d⟩, ⟨e.grown0 k, f⟩, i⟩
theorem Lg.short {p : Int} {za zb : List Int} {m : Nat} {us qs zr : List Int} (h : Lg p za zb m 0 us qs) (hp : 0 < p) (lb : 0 < zb.length) (n : Nf p zr) (e : Eqv p (ev zr) (ev us)) : zr.length < zb.length := by
  by_cases k : zr.length < zb.length
  · exact k
  · exfalso
    have c := e.coef (zr.length - 1)
    rw [h.top (zr.length - 1) (by omega)] at c
    exact nf_top n hp (by omega) c
theorem Lg.fin {p : Int} {za zb : List Int} {m : Nat} {us qs zq zr xs : List Int} (h : Lg p za zb m 0 us qs) (ea : Eqv p (ev za) (ev xs)) (eq : Eqv p (ev zq) (ev qs)) (er : Eqv p (ev zr) (ev us)) : Eqv p (ev xs) (fun x => ev zq x * ev zb x + ev zr x) :=
  ea.symm.trans (h.e.trans (((eq.symm.mul (Eqv.refl p (ev zb)) (isP_ev qs) (isP_ev zb)).add er.symm)))
theorem long_alg (u c P T b Q : Int) : u - c * P * T + -(c * b) * (P * Q) = u - c * P * (T + b * Q) := by grind
theorem long_c (w : World) (d g r q : Nat) (p : Int) (hP : ∀ x, 0 < x → x < p → Int.gcd p x = 1) (u v : Value) (xs ys : List Int) (hd : w.cell? ⟨d, 0, none⟩ = some (.pointer (some ⟨g, 0, none⟩))) (hg : w.cell? ⟨g, 0, none⟩ = some (.pointer (some ⟨r, 0, none⟩))) (h : Rg w r q p) (hu : Sl w u xs) (hv : Sl w v ys) (hl : xs.length ≤ 100000) (hl2 : ys.length ≤ 100000) :
  Calls Tryz.prog 95 #[.pointer (some ⟨d, 0, none⟩), u, v] w fun e w' => ∃ vq vr err, e = .returned (.tuple #[vq, vr, .int .i64 err]) ∧ DM w' w.heap.size p xs ys vq vr err ∧ w.grownBy w' none := by
 have hp := h.m.neg0
 have hp' := h.m.pm.hi
 have N1 := lk (pnorm_c w.drew r q p u xs h.drew (hu.grown0 (jw (jr w none))) (by omega))
 have N2 := lk (fun w1 (k : w.grownBy w1 none) => pnorm_c w1 r q p v ys (h.grown0 k) (hv.grown0 k) (by omega))
 have HR := lk h
 have HD := lk hd
 have HG := lk hg
 have SF2 : Hid (∀ W, w.grownBy W none → Canon.SF [(⟨d, 0, none⟩, .pointer (some ⟨g, 0, none⟩)), (⟨g, 0, none⟩, .pointer (some ⟨r, 0, none⟩))] W) := lk (fun W k => Canon.sf_cons (gb_cell0 k hd) (Canon.sf_cons (gb_cell0 k hg) (Canon.sf_nil _)))
 clear hu hv h
 go_enter Tryz.func95, Tryz.ntmps95
 go_wp2
 refine Canon.region_held [28, 31] _ (by kernel_rfl) (by kernel_rfl) (SF2.out _ (jr _ _)) ?_
 refine Canon.segs_at 8 _ _ _ (by kernel_rfl) ?_
 simp only [ja, jb, jc, jd]
 go_wp2_with fail
 refine (N1.out).mono ?_
 rintro e w1 ⟨x1, rfl, ⟨za, oa, na, ea, la⟩, g1⟩
 have G1 := lk (jt (jw (jr w none)) g1)
 clear N1 g1 hd hg
 have hd := gb_cell0 G1.out HD.out
 have hg := gb_cell0 G1.out HG.out
 go_wp2
 refine ⟨SF2.out _ G1.out, ?_⟩
 refine Canon.segs_at 8 _ _ _ (by kernel_rfl) ?_
 simp only [ja, jb, jc, jd]
 go_wp2_with fail
 refine (N2.out _ G1.out).mono ?_
 rintro e w2 ⟨x2, rfl, ⟨zb, ob, nb, eb, lb⟩, g2⟩
 have G2 := lk (jt G1.out g2)
 have B1 := lk G1.out.size
 have OA := lk (oa.grown0 g2)
 have OB := lk ob
 have NA := lk na
 have NB := lk nb
 have EA := lk ea
 have EB := lk eb
 obtain ⟨A, ca, rfl, hca, hca2⟩ := oa.fm
 obtain ⟨B, cb, rfl, hcb, hcb2⟩ := ob.fm
 have FA0 : za.length = 0 ∨ ∃ ga, A = some ⟨ga, 0, none⟩ ∧ w.heap.size ≤ ga ∧ ga < w1.heap.size := by
  rcases oa.form with ⟨_, e2⟩ | ⟨ga, c', e, h1, h2, _⟩
  ·left; rw [e2]; rfl
  ·right; simp only [Value.slice.injEq] at e; exact ⟨ga, e.1, h1, h2⟩
 have FB0 : zb.length = 0 ∨ ∃ ga, B = some ⟨ga, 0, none⟩ ∧ w1.heap.size ≤ ga ∧ ga < w2.heap.size := by
  rcases ob.form with ⟨_, e2⟩ | ⟨ga, c', e, h1, h2, _⟩
  ·left; rw [e2]; rfl
  ·right; simp only [Value.slice.injEq] at e; exact ⟨ga, e.1, h1, h2⟩
 clear N2 oa ob na nb ea eb g2 hd hg
 have FA := lk FA0
 have FB := lk FB0
 clear FA0 FB0
 obtain ⟨a, ha⟩ : ∃ z, z = za.length := ⟨_, rfl⟩
 obtain ⟨b, hb⟩ : ∃ z, z = zb.length := ⟨_, rfl⟩
 rw [← ha] at hca la OA FA
 rw [← hb] at hcb lb OB FB
 have LA := lk ha
 have LB := lk hb
 rw [← ha, ← hb]
 clear ha hb
 go_wp2
 refine ⟨SF2.out _ G2.out, ?_⟩
 refine Canon.segs_end _ _ _ (by kernel_rfl) ?_
 go_wp2
 refine ⟨by kernel_rfl, by kernel_rfl, by kernel_rfl, ?_⟩
 by_cases b0 : b = 0
 ·subst b0
  have z0 : zb = [] := List.eq_nil_of_length_eq_zero LB.out.symm
  have HZ := lk z0
  clear z0
  go_wp2
  go_ret3
  exact ⟨_, _, _, rfl, ⟨zb, NB.out, EB.out, by rw [← LB.out]; omega, .inl ⟨HZ.out, rfl, rfl, rfl⟩⟩, G2.out⟩
 have b0' : ((b : Int) == 0) = false := by simp; omega
 by_cases hab : a < b
 ·go_wp2
  go_ret3
  exact ⟨_, _, _, rfl, ⟨zb, NB.out, EB.out, by rw [← LB.out]; omega, .inr ⟨by rw [← LB.out]; omega, rfl, [], za, ⟨own_nil _ _, nf_nil p⟩, ⟨OA.out.mono (Nat.le_refl _), NA.out⟩, by rw [← LA.out, ← LB.out]; exact hab, by simp, EA.out.symm.trans (Eqv.of_eq p fun x => by simp [ev])⟩⟩, G2.out⟩
 have hba : b ≤ a := by omega
 obtain ⟨ga, rfl, ga1, ga2⟩ := FA.out.resolve_left (by omega)
 obtain ⟨gb, rfl, gb1, gb2⟩ := FB.out.resolve_left b0
 obtain ⟨bz, hbz⟩ : ∃ z, z + 1 = b := ⟨b - 1, Nat.sub_add_cancel (Nat.pos_of_ne_zero b0)⟩
 have e1 : (b : Int) - 1 = (bz : Int) := by omega
 have cb' := OB.out.cell bz (by rw [← LB.out]; omega)
 have hbt := NB.out.rd hp bz
 have hbn := Nz.top NB.out.z (by rw [← LB.out]; omega)
 rw [← LB.out, show b - 1 = bz by omega] at hbn
 obtain ⟨bt, hbt'⟩ : ∃ bt, bt = rd zb bz := ⟨_, rfl⟩
 rw [← hbt'] at cb' hbt hbn
 have GC := lk (hP bt (by omega) hbt.2)
 have HBT := lk hbt'
 have HBZ := lk hbz
 have R2 := HR.out.grown0 G2.out
 have IV := lk (modInv_c w2.drew q p bt R2.m.drew hbt.1)
 have cd := gb_cell0 G2.out HD.out
 have cg := gb_cell0 G2.out HG.out
 have cr := R2.c
 have hlt0 : decide ((a : Int) < (b : Int)) = false := decide_eq_false (by omega)
 have NE : Hid ((w.heap.size ≤ ga ∧ ga < w1.heap.size) ∧ w1.heap.size ≤ gb ∧ gb < w2.heap.size) := lk ⟨⟨ga1, ga2⟩, gb1, gb2⟩
 clear hbt' hbz R2 ga1 ga2 gb1 gb2 hab FA FB
 go_wp2
 refine Canon.region_canon (by kernel_rfl) (by kernel_rfl) ?_
 go_wp2_with fail
 refine (IV.out).mono ?_
 rintro e w3 ⟨⟨y, f, rfl, io⟩, g3⟩
 go_wp2
 refine ⟨by kernel_rfl, ?_⟩
 have IO := lk (io.is GC.out)
 have g3' := jt (jw (jr w2 none)) g3
 have G3 := lk (jt G2.out g3')
 have OA3 := lk ((OA.out.mono (base' := w.heap.size) (Nat.le_refl _)).grown0 g3')
 have OB3 := lk ((OB.out.mono B1.out).grown0 g3')
 obtain ⟨m, hm⟩ : ∃ m, m + b = a + 1 := ⟨a - b + 1, by omega⟩
 have em : (a : Int) - (b : Int) + 1 = (m : Int) := by omega
 have mk := make64 25 (by kernel_rfl) m m (m : Int) (m : Int) (by omega) (by omega) (by omega) (by omega)
 have OW := lk (own_made w3 w.heap.size m m G3.out.size (Nat.le_refl _) (by omega))
 have G0 := lk (ju G3.out (Obj.cells (madeCells #[.int .u64 0] m) 24))
 have OA4 := lk (OA3.out.alloc (Obj.cells (madeCells #[.int .u64 0] m) 24))
 have OB4 := lk (OB3.out.alloc (Obj.cells (madeCells #[.int .u64 0] m) 24))
 have mk1 := mk w3
 obtain ⟨W0, hW⟩ : ∃ W0, W0 = w3.alloc (Obj.cells (madeCells #[.int .u64 0] m) 24) := ⟨_, rfl⟩
 rw [← hW] at OW G0 mk1 OA4 OB4
 have NQ : Hid (w2.heap.size ≤ w3.heap.size) := lk g3'.size
 obtain ⟨gq, hgq⟩ : ∃ gq, gq = w3.heap.size := ⟨_, rfl⟩
 rw [← hgq] at OW mk1 NQ
 have ML0 : Hid (m = za.length - zb.length + 1) := lk (by rw [← LA.out, ← LB.out]; omega)
 have S0 : Hid (Lg p za zb m m za (List.replicate m 0)) := lk (by
  have := Lg.start hp NA.out (zb := zb) (by rw [← LB.out]; omega) (by rw [← LA.out, ← LB.out]; exact hba)
  rwa [← ML0.out] at this)
 have HGA : Hid (w.heap.size ≤ gq) := lk (by rw [hgq]; exact G3.out.size)
 clear IV io g3 g3' GC cd cg cr cb' mk hW hgq OA3 OB3 OA OB hlt0
 go_wp2
 clear mk1 em e1
 go_loopw [12] (fun v12 wr => ∃ (i : Nat) (z : Int) (us qs : List Int), v12 = .int .i64 z ∧ z = (i : Int) - 1 ∧ i ≤ m ∧ Lg p za zb m i us qs ∧ Own wr w.heap.size (.slice (some ⟨ga, 0, none⟩) a ca) us ∧ Own wr w.heap.size (.slice (some ⟨gq, 0, none⟩) m m) qs ∧ Own wr w.heap.size (.slice (some ⟨gb, 0, none⟩) b cb) zb ∧ w.grownBy wr none) (fun v12 _ => (intOf v12 + 1).toNat)
 case atStart => exact ⟨m, (m : Int) - 1, _, _, by go_num, rfl, Nat.le_refl _, S0.out, OA4.out, OW.out, OB4.out, G0.out⟩
 case round =>
  clear OW G0 S0 OA4 OB4
  obtain ⟨i, z, us, qs, rfl, hz, hi, lg, oa, oq, ob, G⟩ := hrel
  obtain ⟨wq, rfl⟩ : ∃ wq : World, wq = wr := ⟨_, rfl⟩
  have LG := lk lg
  have OA := lk oa
  have OQ := lk oq
  have OB := lk ob
  have GG := lk G
  clear lg oa oq ob G
  by_cases i0 : i = 0
  ·subst i0
   have zn : decide (z ≥ 0) = false := decide_eq_false (by omega)
   have zn2 : z < 0 := by omega
   clear hz
   have NQ2 := lk (pnorm_c wq.drew r q p _ _ (HR.out.grown0 (jw GG.out)) (OQ.out.sl.grown0 (jw (jr wq none))) (by rw [LG.out.lq]; omega))
   have NA2 := lk (fun w1 (k : wq.grownBy w1 none) => pnorm_c w1 r q p _ _ (HR.out.grown0 (jt GG.out k)) (OA.out.sl.grown0 k) (by rw [LG.out.la, ← LA.out]; omega))
   have cd := gb_cell0 GG.out HD.out
   have cg := gb_cell0 GG.out HG.out
   go_wp2
   refine Canon.region_held [155, 158] _ (by kernel_rfl) (by kernel_rfl) (SF2.out _ GG.out) ?_
   refine Canon.segs_at 8 _ _ _ (by kernel_rfl) ?_
   simp only [ja, jb, jc, jd]
   go_wp2_with fail
   refine (NQ2.out).mono ?_
   rintro e w4 ⟨x4, rfl, ⟨zq, o4, n4, e4, l4⟩, g4⟩
   have g4' := jt (jw (jr wq none)) g4
   have NA3 := lk (NA2.out w4 g4')
   have G4 := lk (jt GG.out g4')
   have OZ4 := lk (o4.mono (base' := w.heap.size) GG.out.size)
   have N4 := lk n4
   have E4 := lk e4
   have L4 := lk l4
   clear NQ2 NA2 o4 n4 e4 g4 g4' cd cg l4
   have cd := gb_cell0 G4.out HD.out
   have cg := gb_cell0 G4.out HG.out
   go_wp2
   refine ⟨SF2.out _ G4.out, ?_⟩
   refine Canon.segs_at 8 _ _ _ (by kernel_rfl) ?_
   simp only [ja, jb, jc, jd]
   go_wp2_with fail
   refine (NA3.out).mono ?_
   rintro e w5 ⟨x5, rfl, ⟨zr, o5, n5, e5, l5⟩, g5⟩
   have G5 := lk (jt G4.out g5)
   have FIN : Hid (DM w5 w.heap.size p xs ys x4 x5 0) := lk ⟨zb, NB.out, EB.out, by rw [← LB.out]; omega, .inr ⟨by rw [← LB.out]; omega, rfl, zq, zr, ⟨OZ4.out.grown0 g5, N4.out⟩, ⟨o5.mono G4.out.size, n5⟩, LG.out.short hp (by rw [← LB.out]; omega) n5 e5, by have := L4.out; rw [LG.out.lq] at this; omega, LG.out.fin EA.out E4.out e5⟩⟩
   clear NA3 o5 n5 e5 g5 cd cg l5
   go_wp2
   refine ⟨SF2.out _ G5.out, ?_⟩
   refine Canon.segs_end _ _ _ (by kernel_rfl) ?_
   go_wp2
   refine ⟨by kernel_rfl, by kernel_rfl, by kernel_rfl, ?_⟩
   go_wp2
   go_ret3
   exact ⟨_, _, _, rfl, FIN.out, G5.out⟩
  ·obtain ⟨k, rfl⟩ : ∃ k, i = k + 1 := ⟨i - 1, by omega⟩
   obtain rfl : z = (k : Int) := by omega
   clear hz i0
   obtain ⟨s, hs⟩ : ∃ s, s + 1 = k + b := ⟨k + b - 1, by omega⟩
   have es : (k : Int) + (b : Int) - 1 = (s : Int) := by omega
   have sa : s < a := by omega
   have ca1 := OA.out.cell s (by rw [LG.out.la, ← LA.out]; exact sa)
   have av := rd_ranged LG.out.ra hp s
   obtain ⟨x0, hx0⟩ : ∃ x0, x0 = rd us s := ⟨_, rfl⟩
   rw [← hx0] at ca1 av
   have HX0 := lk hx0
   have HS := lk hs
   have R := HR.out.grown0 GG.out
   have M1 := lk (modMul_c wq.drew q p x0 y R.m.drew av.1 IO.out.2.1)
   have cd := gb_cell0 GG.out HD.out
   have cg := gb_cell0 GG.out HG.out
   have cr := R.c
   clear hx0 hs R
   go_wp2
   refine Canon.region_canon (by kernel_rfl) (by kernel_rfl) ?_
   go_wp2_with fail
   refine (M1.out).mono ?_
   rintro e w4 ⟨rfl, g4⟩
   have g4' := jt (jw (jr wq none)) g4
   have OA4 := lk (OA.out.grown0 g4')
   have OB4 := lk (OB.out.grown0 g4')
   have OQ4 := lk (OQ.out.grown0 g4')
   have G4 := lk (jt GG.out g4')
   have mm := mod_nn (x := x0 * y) hp
   have hcm : Cg p (x0 * y % p) (rd us (k + zb.length - 1) * y) := by
    rw [← LB.out, show k + b - 1 = s by have := HS.out; omega, ← HX0.out]; exact Cg.mod p _
   obtain ⟨c, hc⟩ : ∃ c, c = x0 * y % p := ⟨_, rfl⟩
   rw [← hc] at mm hcm ⊢
   have HC := lk hcm
   clear M1 g4 g4' OA OB OQ GG ca1 cd cg cr hc hcm
   go_wp2
   refine ⟨by kernel_rfl, ?_⟩
   have frq := OQ4.out.free k
   have ceq := OQ4.out.cell k (by rw [LG.out.lq]; omega)
   go_wp2
   clear frq ceq
   have OQ5 := lk (OQ4.out.store k mm.1 (x := c) (by omega))
   have NE2 : Hid (gq ≠ ga ∧ gq ≠ gb ∧ ga ≠ gb) := lk (by have := NE.out; have := NQ.out; omega)
   have OA5 := lk (OA4.out.past (gb_rowC (jr _ (some gq)) k (.int .u64 c)) (Ne.symm NE2.out.1))
   have OB5 := lk (OB4.out.past (gb_rowC (jr _ (some gq)) k (.int .u64 c)) (Ne.symm NE2.out.2.1))
   have G5 := lk (gb_set (p := ⟨gq, k, none⟩) G4.out HGA.out (.int .u64 c))
   clear OA4 OQ4 OB4 G4
   go_loopw [102] (fun v102 ws => ∃ (j : Nat) (us2 : List Int), v102 = .int .i64 j ∧ j ≤ b ∧ us2.length = us.length ∧ (∀ c ∈ us2, 0 ≤ c ∧ c < p) ∧ Eqv p (ev us2) (fun x => ev us x - c * x ^ k * ev (zb.take j) x) ∧ Own ws w.heap.size (.slice (some ⟨ga, 0, none⟩) a ca) us2 ∧ Own ws w.heap.size (.slice (some ⟨gq, 0, none⟩) m m) (qs.set k c) ∧ Own ws w.heap.size (.slice (some ⟨gb, 0, none⟩) b cb) zb ∧ w.grownBy ws none) (fun v102 _ => b - (intOf v102).toNat)
   case atStart => exact ⟨0, us, rfl, by omega, rfl, LG.out.ra, Eqv.of_eq p fun x => by simp [ev], OA5.out, OQ5.out, OB5.out, G5.out⟩
   case round =>
    clear OA5 OQ5 OB5 G5
    obtain ⟨j, us2, rfl, hj, hlu, hru, heu, oa, oq, ob, G⟩ := hrel
    obtain ⟨ws, rfl⟩ : ∃ ws : World, ws = wr := ⟨_, rfl⟩
    have OA := lk oa
    have OQ := lk oq
    have OB := lk ob
    have GG := lk G
    have LU := lk hlu
    have RU := lk hru
    have EU := lk heu
    clear oa oq ob G hlu hru heu
    by_cases hlt : j < b
    ·obtain ⟨t, ht⟩ : ∃ t, t = k + j := ⟨_, rfl⟩
     have et : (k : Int) + (j : Int) = (t : Int) := by omega
     have ta : t < a := by omega
     have cb' := OB.out.cell j (by rw [← LB.out]; exact hlt)
     have hb1 := NB.out.rd hp j
     obtain ⟨xb, hxb⟩ : ∃ x, x = rd zb j := ⟨_, rfl⟩
     rw [← hxb] at cb' hb1
     have cu := OA.out.cell t (by rw [LU.out, LG.out.la, ← LA.out]; exact ta)
     have hu1 := rd_ranged RU.out hp t
     obtain ⟨xu, hxu⟩ : ∃ x, x = rd us2 t := ⟨_, rfl⟩
     rw [← hxu] at cu hu1
     have HXB := lk hxb
     have HXU := lk hxu
     have HT := lk ht
     have R := HR.out.grown0 GG.out
     have ML := lk (modMul_c ws.drew q p c xb R.m.drew mm.1 hb1.1)
     have SB := lk (fun w3 (k : ws.drew.grownBy w3 none) => modSub_c w3 q p xu (c * xb % p) (R.m.drew.grown0 k) hu1.1 (mod_nn hp).1)
     have cd := gb_cell0 GG.out HD.out
     have cg := gb_cell0 GG.out HG.out
     have cr := R.c
     have HF := lk (Canon.sf_cons cd (Canon.sf_cons cg (Canon.sf_cons cr (Canon.sf_cons cu (Canon.sf_nil _)))))
     clear hxb hxu ht R
     go_wp2
     refine Canon.region_held_l [114, 117, 120, 126] _ (by kernel_rfl) (by kernel_rfl) (by kernel_rfl) HF.out ?_
     refine Canon.segl_at 32 _ _ _ (by kernel_rfl) (by kernel_rfl) ?_
     simp only [ja, jb, jc, jd]
     go_wp2_with fail
     refine (ML.out).mono ?_
     rintro e wa ⟨rfl, g1⟩
     have SB2 := lk (SB.out _ g1)
     have F2 := lk (Canon.sf_grown0 HF.out.drew g1)
     have GA1 := lk (jt (jw (jr ws none)) g1)
     clear ML SB HF cd cg cr cu cb' g1
     go_wp2
     refine ⟨F2.out, ?_⟩
     refine Canon.segl_at 0 _ _ _ (by kernel_rfl) (by kernel_rfl) ?_
     simp only [ja, jb, jc, jd]
     go_wp2_with fail
     refine (SB2.out).mono ?_
     rintro e wb ⟨rfl, g2⟩
     have F3 := lk (Canon.sf_grown0 F2.out g2)
     have GB1 := jt GA1.out g2
     have OA2 := lk (OA.out.grown0 GB1)
     have OB2 := lk (OB.out.grown0 GB1)
     have OQ2 := lk (OQ.out.grown0 GB1)
     have GB2 := lk (jt GG.out GB1)
     have m2 := mod_nn (x := xu - c * xb % p) hp
     have hv : Cg p ((xu - c * xb % p) % p) (rd us2 t + -(c * xb)) := by
      rw [← HXU.out]
      exact (Cg.mod p _).trans (((Cg.refl p xu).sub (Cg.mod p _)).trans (Cg.of_eq Int.sub_eq_add_neg))
     have st := (EU.out.set (k := t) (by rw [LU.out, LG.out.la, ← LA.out]; exact ta) hv).fn (H := fun x => ev us x - c * x ^ k * ev (zb.take (j + 1)) x) (fun x => by
      rw [ev_take_succ, ← HXB.out, HT.out, Int.pow_add]; exact long_alg _ _ _ _ _ _)
     obtain ⟨z, hz⟩ : ∃ z, z = (xu - c * xb % p) % p := ⟨_, rfl⟩
     rw [← hz] at m2 st ⊢
     have ST := lk st
     clear SB2 F2 g2 GB1 hz hv st OA OB OQ GG
     go_wp2
     refine ⟨F3.out, ?_⟩
     have fr2 := OA2.out.free t
     have ce2 := OA2.out.cell t (by rw [LU.out, LG.out.la, ← LA.out]; exact ta)
     refine Canon.segl_last 1 _ _ _ (by kernel_rfl) (by kernel_rfl) ?_
     go_wp2
     refine ⟨by kernel_rfl, by kernel_rfl, by kernel_rfl, ?_⟩
     go_wp2
     clear et
     go_roundw
     case rel =>
      exact ⟨j + 1, _, by go_num, by omega, by rw [List.length_set, LU.out], fun x hx => (by
       rcases List.mem_or_eq_of_mem_set hx with h | h
       ·exact RU.out x h
       ·rw [h]; exact m2), ST.out, OA2.out.store t m2.1 (by omega), OQ2.out.past (gb_rowC (jr _ (some ga)) t _) NE2.out.1, OB2.out.past (gb_rowC (jr _ (some ga)) t _) (Ne.symm NE2.out.2.2), gb_set (p := ⟨ga, t, none⟩) GB2.out NE.out.1.1 _⟩
     case measure => simp [intOf]; omega
    ·obtain rfl : j = b := by omega
     have NX : Hid (Lg p za zb m k us2 (qs.set k c)) := lk (LG.out.step hp (by rw [← LB.out]; omega) (by omega) LU.out RU.out (by
      have := EU.out
      rwa [List.take_of_length_le (by rw [← LB.out]; exact Nat.le_refl _)] at this) HC.out (by rw [← LB.out, show j - 1 = bz by have := HBZ.out; omega, ← HBT.out]; exact IO.out.2.2.2) mm.1 mm.2)
     go_wp2
     clear es
     go_roundw
     case rel => exact ⟨k, (k : Int) - 1, us2, _, by go_num, rfl, by omega, NX.out, OA.out, OQ.out, OB.out, GG.out⟩
     case measure => (simp [intOf]; try omega)
theorem sumI_rev (f : Nat → Int) : ∀ n, sumI f n = sumI (fun k => f (n - 1 - k)) n
 | 0 => rfl
 | n + 1 => by
  rw [sumI_first (fun k => f (n + 1 - 1 - k)) n]
  show sumI f n + f n = f (n + 1 - 1 - 0) + sumI (fun t => f (n + 1 - 1 - (t + 1))) n
  rw [sumI_rev f n, sumI_congr (f := fun t => f (n + 1 - 1 - (t + 1))) (g := fun k => f (n - 1 - k)) n (fun k hk => by rw [show n + 1 - 1 - (k + 1) = n - 1 - k by omega]), show n + 1 - 1 - 0 = n by omega]
  omega
theorem cv_comm (a b : Nat → Int) (k : Nat) : cv a b k = cv b a k := by
 unfold cv
 rw [sumI_rev]
 refine sumI_congr _ fun t ht => ?_
 rw [show k + 1 - 1 - t = k - t by omega, show k - (k - t) = t by omega, Int.mul_comm]
theorem rev_cv {la lb n : Nat} {x rb Q b : Nat → Int} (hn : n + lb = la + 1) (hQ : ∀ i, i < n → Q i = x (n - 1 - i)) (hQ0 : ∀ i, n ≤ i → Q i = 0) (hbr : ∀ s, s < lb → b s = rb (lb - 1 - s)) (hb0 : ∀ s, lb ≤ s → b s = 0) (hrb0 : ∀ s, lb ≤ s → rb s = 0)
  (t : Nat) (h1 : lb ≤ t + 1) (h2 : t < la) : cv Q b t = cv x rb (la - 1 - t) := by
 obtain ⟨e, he⟩ : ∃ e, e = la - 1 - t := ⟨_, rfl⟩
 rw [← he, cv_comm Q b, cv_comm x rb]
 unfold cv
 rw [sumI_tail (n := lb) (t + 1) h1 (fun k k1 _ => by rw [hb0 k k1]; simp)]
 have e1 : sumI (fun m => rb m * x (e - m)) (e + 1) = sumI (fun m => rb m * (if m ≤ e then x (e - m) else 0)) (e + 1) :=
  sumI_congr _ fun m hm => by rw [if_pos (by omega)]
 have e2 : sumI (fun m => rb m * (if m ≤ e then x (e - m) else 0)) (e + 1) = sumI (fun m => rb m * (if m ≤ e then x (e - m) else 0)) lb := by
  by_cases hle : lb ≤ e + 1
  ·exact sumI_tail _ hle fun m m1 _ => by rw [hrb0 m m1]; simp
  ·exact (sumI_tail _ (by omega) fun m m1 _ => by rw [if_neg (by omega)]; simp).symm
 rw [e1, e2, sumI_rev _ lb]
 refine sumI_congr _ fun m hm => ?_
 rw [hbr _ (by omega), show lb - 1 - (lb - 1 - m) = m by omega]
 congr 1
 by_cases hme : m ≤ e
 ·rw [if_pos hme, hQ _ (by omega)]; congr 1; omega
 ·rw [if_neg hme, hQ0 _ (by omega)]
def Tn (n : Nat) (a out : List Int) : Prop := out.length = n ∧ ∀ j, j < n → rd out j = rd a (n - 1 - j)
theorem Tn.back {n : Nat} {a out : List Int} (h : Tn n a out) : ∀ j, j < n → rd a j = rd out (n - 1 - j) := fun j hj => by
 rw [h.2 _ (by omega)]; congr 1; omega
theorem quot_rows {p : Int} {n : Nat} {za zb ra rb cra crb V z1 z2 Qr zq zm zr : List Int} (hp : 0 < p) (lb : 0 < zb.length) (hn : n + zb.length = za.length + 1) (hn0 : 0 < n)
  (ta : Tn za.length za ra) (tb : Tn zb.length zb rb) (ea : Eqv p (ev cra) (ev (ra.take n))) (eb : Eqv p (ev crb) (ev (rb.take n)))
  (iv : Eqn p n (fun x => ev crb x * ev V x) (fun _ => 1)) (e1 : Eqv p (ev z1) (fun x => ev cra x * ev V x)) (e2 : Eqv p (ev z2) (ev (z1.take n))) (tq : Tn n z2 Qr) (eq : Eqv p (ev zq) (ev Qr))
  (em : Eqv p (ev zm) (fun x => ev zq x * ev zb x)) (nr : Nf p zr) (er : Eqv p (ev zr) (fun x => ev za x - ev zm x)) : zr.length < zb.length ∧ Eqv p (ev za) (fun x => ev zq x * ev zb x + ev zr x) := by
 have fa : Eqn p n (ev cra) (ev ra) := (Eqn.of_eqv ea).trans (Eqn.cut p n ra).symm
 have fb : Eqn p n (ev crb) (ev rb) := (Eqn.of_eqv eb).trans (Eqn.cut p n rb).symm
 have f2 : Eqn p n (ev z2) (fun x => ev cra x * ev V x) := (Eqn.of_eqv e2).trans ((Eqn.cut p n z1).symm.trans (Eqn.of_eqv e1))
 have g1 : Eqn p n (fun x => ev rb x * ev z2 x) (fun x => ev crb x * (ev cra x * ev V x)) := fb.symm.mul f2 (isP_ev crb) (isP_ev z2)
 have g2 : Eqn p n (fun x => (ev crb x * ev V x) * ev cra x) (fun x => 1 * ev cra x) := iv.mul (Eqn.refl p n (ev cra)) (isP_const 1) (isP_ev cra)
 have g4 : Eqn p n (fun x => ev crb x * (ev cra x * ev V x)) (fun x => (ev crb x * ev V x) * ev cra x) := Eqn.of_eqv (Eqv.of_eq p fun x => by grind)
 have g5 : Eqn p n (fun x => 1 * ev cra x) (ev cra) := Eqn.of_eqv (Eqv.of_eq p fun x => by simp)
 have g6 : Eqn p n (fun x => ev rb x * ev z2 x) (ev ra) := g1.trans (g4.trans (g2.trans (g5.trans fa)))
 have g7 : Eqn p n (ev (pmul z2 rb)) (ev ra) := (Eqn.of_eqv (Eqv.of_eq p fun x => by rw [ev_pmul, Int.mul_comm])).trans g6
 have hQ : Eqv p (ev za) (fun x => ev zq x * ev zb x + ev zr x) := by
  obtain ⟨K, hK, e⟩ := er
  obtain ⟨L, hL, f⟩ := em
  exact ⟨fun x => -K x - -L x, hK.neg.sub hL.neg, fun x => by have := e x; have := f x; simp only at *; grind⟩
 refine ⟨?_, hQ⟩
 by_cases k : zr.length < zb.length
 ·exact k
 ·exfalso
  obtain ⟨t, ht⟩ : ∃ t, t = zr.length - 1 := ⟨_, rfl⟩
  have nz := nf_top nr hp (by omega)
  rw [← ht] at nz
  have er2 : Eqv p (ev zr) (ev (padd za (pscl (-1) (pmul Qr zb)))) := er.trans (((Eqv.refl p (ev za)).sub (em.trans (eq.mul (Eqv.refl p (ev zb)) (isP_ev zq) (isP_ev zb)))).fn fun x => by
   rw [ev_padd, ev_pscl, ev_pmul]; grind)
  have c := er2.coef t
  rw [rd_padd, rd_pscl, rd_pmul] at c
  by_cases hta : t < za.length
  ·have e3 := rev_cv (x := rd z2) (rb := rd rb) (Q := rd Qr) (b := rd zb) hn tq.2 (fun i hi => rd_beyond (by rw [tq.1]; exact hi)) (fun s hs => (tb.back s hs)) (fun s hs => rd_beyond hs) (fun s hs => rd_beyond (by rw [tb.1]; exact hs)) t (by omega) hta
   have c7 := g7.coef (za.length - 1 - t) (by omega)
   rw [rd_pmul, ta.2 _ (by omega), show za.length - 1 - (za.length - 1 - t) = t by omega] at c7
   rw [e3] at c
   have c8 := (Cg.refl p (rd za t)).add ((c7.mull (-1)))
   exact nz (c.trans (c8.trans (Cg.of_eq (by omega))))
  ·rw [rd_beyond (xs := za) (by omega), ← rd_pmul, rd_beyond (xs := pmul Qr zb) (by rw [pmul_len _ _ (by rw [tq.1]; exact hn0) lb, tq.1]; omega)] at c
   exact nz (by simpa using c)
structure Tv (n : Nat) (xs : List Int) (i : Nat) (out : List Int) : Prop where
 len : out.length = n
 v : ∀ j, j < n → rd out j = if n - 1 - j < i then rd xs (n - 1 - j) else 0
theorem Tv.start (n : Nat) (xs : List Int) : Tv n xs 0 (List.replicate n 0) := ⟨by simp, fun j _ => by rw [rd_zeros, if_neg (by omega)]⟩
theorem Tv.step {n : Nat} {xs : List Int} {i : Nat} {out : List Int} (h : Tv n xs i out) (hi : i < n) : Tv n xs (i + 1) (out.set (n - 1 - i) (rd xs i)) := ⟨by rw [List.length_set, h.len], fun j hj => by
 by_cases e : j = n - 1 - i
 ·rw [e, rd_set_self (by rw [h.len]; omega), show n - 1 - (n - 1 - i) = i by omega, if_pos (by omega)]
 ·rw [rd_set_ne (fun h => e h.symm), h.v j hj]
  by_cases k : n - 1 - j < i
  ·rw [if_pos k, if_pos (by omega)]
  ·rw [if_neg k, if_neg (by omega)]⟩
theorem Tv.last {n : Nat} {xs out : List Int} (h : Tv n xs xs.length out) : Tn n xs out := ⟨h.len, fun j hj => by
 rw [h.v j hj]
 by_cases k : n - 1 - j < xs.length
 ·rw [if_pos k]
 ·rw [if_neg k, rd_beyond (by omega)]⟩
theorem pturn_c (w : World) (v : Value) (xs : List Int) (n : Nat) (hv : Sl w v xs) (hl : xs.length ≤ n) (hn : n ≤ 100000) :
  Calls Tryz.prog 98 #[v, .int .i64 n] w fun e w' => ∃ x out, e = .returned x ∧ Own w' w.heap.size x out ∧ Tn n xs out ∧ w.grownBy w' none := by
 obtain ⟨A, c, rfl, hc1, hc2⟩ := hv.form
 have SX := lk hv
 obtain ⟨m, hm⟩ : ∃ m, m = xs.length := ⟨_, rfl⟩
 rw [← hm] at hc1 hl SX ⊢
 have HM := lk hm
 have mk := make64 25 (by kernel_rfl) n n (n : Int) (n : Int) (by omega) (by omega) (by omega) (by omega)
 have OW := lk (own_made w w.heap.size n n (Nat.le_refl _) (by omega) (by omega))
 have G0 := lk (ju (jr w none) (Obj.cells (madeCells #[.int .u64 0] n) 24))
 clear hv hm
 go_enter Tryz.func98, Tryz.ntmps98
 go_wp2
 clear mk
 go_loopw [12] (fun v12 wr => ∃ (i : Nat) (os : List Int), v12 = .int .i64 i ∧ i ≤ m ∧ Tv n xs i os ∧ Own wr w.heap.size (.slice (some ⟨w.heap.size, 0, none⟩) n n) os ∧ w.grownBy wr none) (fun v12 _ => m - (intOf v12).toNat)
 case atStart => exact ⟨0, _, rfl, by omega, Tv.start n xs, OW.out, G0.out⟩
 case round =>
  clear OW G0
  obtain ⟨i, os, rfl, hi, tv, ow, G⟩ := hrel
  have TV := lk tv
  have OW := lk ow
  have GG := lk G
  clear tv ow G
  by_cases hlt : i < m
  ·obtain ⟨b, o, rfl, hci⟩ := (SX.out.grown0 GG.out).at i (by rw [← HM.out]; exact hlt)
   obtain ⟨k, hk⟩ : ∃ k, k = n - 1 - i := ⟨_, rfl⟩
   have ek : (n : Int) - 1 - (i : Int) = (k : Int) := by omega
   have fr := OW.out.free k
   have ce := OW.out.cell k (by rw [TV.out.len]; omega)
   have hx1 := rd_w SX.out.ws i
   obtain ⟨x, hx⟩ : ∃ x, x = rd xs i := ⟨_, rfl⟩
   rw [← hx] at hci hx1
   have NX : Hid (Tv n xs (i + 1) (os.set k x)) := lk (by rw [hk, hx]; exact TV.out.step (by omega))
   clear hk hx
   go_wp2
   clear ek
   go_roundw
   case rel => exact ⟨i + 1, _, by go_num, by omega, NX.out, OW.out.store k hx1.1 hx1.2, gb_set (p := ⟨w.heap.size, k, none⟩) GG.out (Nat.le_refl _) _⟩
   case measure => simp [intOf]; omega
  ·obtain rfl : i = m := by omega
   go_wp2
   go_ret
   exact ⟨_, os, rfl, OW.out, Tv.last (by rw [← HM.out]; exact TV.out), GG.out⟩
theorem own_gm {w w' : World} {base gm : Nat} {v : Value} {zs : List Int} (o : Own w base v zs) (h : gm < base) (k : w.grownBy w' (some gm)) : Own w' base v zs := o.grown k (by
 by_cases e : v.ownBlock = some gm
 ·have := (o.lt gm e).1; omega
 ·exact .inr e)
theorem DM.to {w : World} {base : Nat} {p : Int} {xs ys za zb : List Int} {vq vr : Value} {err : Int} (h : DM w base p za zb vq vr err) (ea : Eqv p (ev za) (ev xs)) (eb : Eqv p (ev zb) (ev ys)) (la : za.length ≤ xs.length) (lb : zb.length ≤ ys.length) : DM w base p xs ys vq vr err := by
 obtain ⟨z, h1, h2, h3, h4⟩ := h
 refine ⟨z, h1, h2.trans eb, by omega, ?_⟩
 rcases h4 with h | ⟨a, b, zq, zr, c, d, e, f, g⟩
 ·exact .inl h
 ·exact .inr ⟨a, b, zq, zr, c, d, e, by omega, ea.symm.trans g⟩
theorem DM.mono {w : World} {base base' : Nat} {p : Int} {xs ys : List Int} {vq vr : Value} {err : Int} (h : DM w base p xs ys vq vr err) (hb : base' ≤ base) : DM w base' p xs ys vq vr err := by
 obtain ⟨zb, h1, h2, h3, h4⟩ := h
 refine ⟨zb, h1, h2, h3, ?_⟩
 rcases h4 with h | ⟨a, b, zq, zr, ⟨c, d⟩, ⟨e, f⟩, i⟩
 ·exact .inl h
 ·exact .inr ⟨a, b, zq, zr, ⟨c.mono hb, d⟩, ⟨e.mono hb, f⟩, i⟩
theorem Pd.sf6 {w : World} {u : Tb} {p : Int} {d g : Nat} {I : Pix} {a : Int} {c : Mc} (h : Pd w u p d g I a c) : Canon.SF [(⟨d, 0, none⟩, .pointer (some ⟨g, 0, none⟩)), (⟨g, 0, none⟩, .pointer (some ⟨I.r, 0, none⟩)), (⟨d, 0, none⟩, .pointer (some ⟨g, 0, none⟩)), (⟨d, 0, none⟩, .pointer (some ⟨g, 0, none⟩)), (⟨g, 0, none⟩, .pointer (some ⟨I.r, 0, none⟩))] w :=
 Canon.sf_cons h.e (Canon.sf_cons h.q.pe.e0 (Canon.sf_cons h.e (Canon.sf_cons h.e (Canon.sf_cons h.q.pe.e0 (Canon.sf_nil _)))))
theorem divmod_c {u : Tb} (hu : TbOk u) (p : Int) (hF : ∀ x, 0 < x → x < p → Int.gcd p x = 1) (d g : Nat) (I : Pix) (w : World) (a : Int) (c : Mc) (U V : Value) (xs ys : List Int) (h : Pd w u p d g I a c) (hd : Db w) (ha : a ≤ 800000000000000) (hU : Sl w U xs) (hV : Sl w V ys) (hl : xs.length ≤ 150) (hl2 : ys.length ≤ 150) :
  Calls Tryz.prog 59 #[.pointer (some ⟨d, 0, none⟩), U, V] w fun e w' => ∃ vq vr err a' c', e = .returned (.tuple #[vq, vr, .int .i64 err]) ∧ DM w' w.heap.size p xs ys vq vr err ∧ Pd w' u p d g I a' c' ∧ a' ≤ a + 4000000000 ∧ w.grownBy w' (some I.gm) := by
 have hp := h.q.rg.m.neg0
 have hes := hu.es
 have N1 := lk (pnorm_c w.drew I.r I.q p U xs h.q.rg.drew (hU.grown0 (jw (jr w none))) (by omega))
 have N2 := lk (fun w1 (k : w.grownBy w1 none) => pnorm_c w1 I.r I.q p V ys (h.q.rg.grown0 k) (hV.grown0 k) (by omega))
 have HP := lk h
 have HD := lk hd
 have cd := h.e
 have cg := h.q.pe.e0
 clear hU hV h hd
 go_enter Tryz.func59, Tryz.ntmps59
 go_wp2
 refine Canon.region_held [24, 27] _ (by kernel_rfl) (by kernel_rfl) HP.out.sf2 ?_
 refine Canon.segs_at 8 _ _ _ (by kernel_rfl) ?_
 simp only [ja, jb, jc, jd]
 go_wp2_with fail
 refine (N1.out).mono ?_
 rintro e w1 ⟨x1, rfl, ⟨za, oa, na, ea, la⟩, g1⟩
 have G1 := lk (jt (jw (jr w none)) g1)
 clear N1 g1 cd cg
 have cd := (HP.out.grown0 G1.out).e
 have cg := (HP.out.grown0 G1.out).q.pe.e0
 go_wp2
 refine ⟨(HP.out.grown0 G1.out).sf2, ?_⟩
 refine Canon.segs_at 8 _ _ _ (by kernel_rfl) ?_
 simp only [ja, jb, jc, jd]
 go_wp2_with fail
 refine (N2.out _ G1.out).mono ?_
 rintro e w2 ⟨x2, rfl, ⟨zb, ob, nb, eb, lb⟩, g2⟩
 have G2 := lk (jt G1.out g2)
 have OA := lk ((oa.grown0 g2).mono (base' := w.heap.size) (Nat.le_refl _))
 have OB := lk (ob.mono G1.out.size)
 have NA := lk na
 have NB := lk nb
 have EA := lk ea
 have EB := lk eb
 have P2 := lk (HP.out.grown0 G2.out)
 obtain ⟨A, ca, rfl, hca, hca2⟩ := oa.fm
 obtain ⟨B, cb, rfl, hcb, hcb2⟩ := ob.fm
 clear N2 oa ob na nb ea eb g2 cd cg
 obtain ⟨l, hla⟩ : ∃ z, z = za.length := ⟨_, rfl⟩
 obtain ⟨m, hlb⟩ : ∃ z, z = zb.length := ⟨_, rfl⟩
 rw [← hla] at hca la OA
 rw [← hlb] at hcb lb OB
 have LA := lk hla
 have LB := lk hlb
 rw [← hla, ← hlb]
 have la' := la
 have lb' := lb
 clear hla hlb
 go_wp2
 refine ⟨P2.out.sf2, ?_⟩
 refine Canon.segs_end _ _ _ (by kernel_rfl) ?_
 go_wp2
 refine ⟨by kernel_rfl, by kernel_rfl, by kernel_rfl, ?_⟩
 have LN := lk (long_c w2 d g I.r I.q p hF _ _ za zb P2.out.e P2.out.q.pe.e0 P2.out.q.rg OA.out.sl OB.out.sl (by rw [← LA.out]; omega) (by rw [← LB.out]; omega))
 obtain ⟨es, hes'⟩ : ∃ es, es = u.es := ⟨_, rfl⟩
 have t16 := P2.out.q.cell 12 (by decide)
 rw [show u.vs[12 - 3]? = some (.int .i64 u.es) from rfl, ← hes'] at t16
 rw [← hes'] at hes
 obtain ⟨nn, hnn⟩ : ∃ nn : Int, nn = (l : Int) - (m : Int) + 1 := ⟨_, rfl⟩
 have e9 : (l : Int) - (m : Int) + 1 = nn := hnn.symm
 have t0 := P2.out.e
 have t1 := P2.out.q.pe.e1
 have t2 := P2.out.q.pe.ch.c0
 have t3 := P2.out.q.pe.ch.c1
 have t4 := P2.out.q.pe.ch.c2
 have t5 := P2.out.q.pe.ch.c3
 have t6 := P2.out.q.pe.ch.c4
 have t7 := P2.out.q.pe.ch.c5
 have t8 := P2.out.q.pe.ch.c6
 have t9 := P2.out.q.pe.ch.c7
 have t10 := P2.out.q.pe.ch.c8
 have t11 := P2.out.q.pe.ch.c9
 have t12 := P2.out.q.en.e.h0
 have t13 := P2.out.q.en.e.h1
 have t14 := P2.out.q.en.e.h2
 have t15 := P2.out.q.en.e.h3
 clear hes'
 by_cases h1 : (m : Int) < es
 ·have d1 : decide ((m : Int) < es) = true := decide_eq_true h1
  clear hnn
  go_wp2_with fail
  refine (LN.out).mono ?_
  rintro e w3 ⟨vq, vr, err, rfl, dm, g3⟩
  go_wp2
  go_ret3
  exact ⟨_, _, _, a, c, rfl, (dm.to EA.out EB.out (by rw [← LA.out]; exact la') (by rw [← LB.out]; exact lb')).mono G2.out.size, P2.out.grown0 g3, by omega, jn (jt G2.out g3) _⟩
 have d1 : decide ((m : Int) < es) = false := decide_eq_false h1
 by_cases h2 : nn < es
 ·have d2 : decide (nn < es) = true := decide_eq_true h2
  clear hnn
  go_wp2_with fail
  refine (LN.out).mono ?_
  rintro e w3 ⟨vq, vr, err, rfl, dm, g3⟩
  go_wp2
  go_ret3
  exact ⟨_, _, _, a, c, rfl, (dm.to EA.out EB.out (by rw [← LA.out]; exact la') (by rw [← LB.out]; exact lb')).mono G2.out.size, P2.out.grown0 g3, by omega, jn (jt G2.out g3) _⟩
 have d2 : decide (nn < es) = false := decide_eq_false h2
 obtain ⟨n, hn⟩ : ∃ n : Nat, nn = (n : Int) := ⟨nn.toNat, by omega⟩
 subst hn
 have hnm : n + m = l + 1 := by omega
 have hn2 : 2 ≤ n ∧ 2 ≤ m := by omega
 clear hnn LN
 have hp3 := P2.out.q.rg.m.pm.lo
 have HGM : Hid (I.gm < w.heap.size) := lk HP.out.q.en.lt
 have D2 := lk (HD.out.grown0 G2.out)
 have LL : Hid (l ≤ 150 ∧ m ≤ 150 ∧ n + m = l + 1 ∧ 2 ≤ n ∧ 2 ≤ m) := lk (by omega)
 have hb0 := NB.out.rd hp (m - 1)
 have hb1 := Nz.top NB.out.z (by rw [← LB.out]; omega)
 rw [← LB.out] at hb1
 have GB := lk (hF _ (by omega) hb0.2)
 have dr2 := jw (jr w2 none)
 have PT := lk (pturn_c w2.drew _ zb m (OB.out.sl.grown0 dr2) (by rw [← LB.out]; exact Nat.le_refl _) (by omega))
 clear hb0 hb1 hF dr2 hes
 go_upto_region 5 with fail
 clear t16 d1 d2 e9
 clear t1 t2 t3 t4 t5 t6 t7 t8 t9 t10 t11 t12 t13 t14 t15
 have t17 := P2.out.q.pe.e0
 refine Canon.region_held [160, 163] _ (by kernel_rfl) (by kernel_rfl) P2.out.sf2 ?_
 refine Canon.segs_at 11 _ _ _ (by kernel_rfl) ?_
 simp only [ja, jb, jc, jd]
 go_wp2_with fail
 refine (PT.out).mono ?_
 rintro e w3 ⟨x3, rb, rfl, o3, tb, g3⟩
 have g3' := jt (jw (jr w2 none)) g3
 have P3 := lk (P2.out.grown0 g3')
 have R3 := lk g3'
 have G3 := lk (jt G2.out g3')
 have CU := lk (pcut_c w3 I.r I.q p x3 rb n P3.out.q.rg o3.sl (by rw [tb.1]; have := LL.out; omega) (by have := LL.out; omega))
 have TB := lk tb
 clear PT o3 tb g3 g3' t0 t17
 go_wp2
 refine ⟨P3.out.sf2, ?_⟩
 refine Canon.segs_at 1 _ _ _ (by kernel_rfl) ?_
 simp only [ja, jb, jc, jd]
 go_wp2_with fail
 refine (CU.out).mono ?_
 rintro e w4 ⟨x4, rfl, ⟨crb, o4, n4, e4, l4⟩, g4⟩
 have P4 := lk (P3.out.grown0 g4)
 have G4 := lk (jt G3.out g4)
 have R4 := lk (jt R3.out g4)
 obtain ⟨k1, k2⟩ := cut_head hp3 (by have := LL.out; omega) e4 (by rw [TB.out.2 0 (by have := LL.out; omega)]; exact GB.out)
 have SE := lk (series_any u hu p d g I n (by have := LL.out; omega) w4 a c x4 crb P4.out (HD.out.grown0 G4.out) (by have := LL.out; omega) o4.sl k1 (by have := LL.out; omega) k2)
 have E4 := lk e4
 clear CU o4 n4 e4 l4 g4 P3 k1 k2 GB
 go_wp2
 refine ⟨P4.out.sf2, ?_⟩
 refine Canon.segs_at 1 _ _ _ (by kernel_rfl) ?_
 simp only [ja, jb, jc, jd]
 go_wp2_with fail
 refine (SE.out).mono ?_
 rintro e w5 ⟨x5, a5, c5, rfl, ⟨V', ⟨zv, o5, n5, e5, l5⟩, i5⟩, p5, ha5, g5⟩
 have P5 := lk p5
 have G5 := lk (jt (jn G4.out (some I.gm)) g5)
 have IV : Hid (Eqn p n (fun x => ev crb x * ev zv x) (fun _ => 1)) := lk (((Eqn.refl p n (ev crb)).mul (Eqn.of_eqv e5) (isP_ev crb) (isP_ev zv)).trans i5)
 have SV := lk o5.sl
 have L5 := lk l5
 have A5 := lk ha5
 have D5 := lk (Db.gm P4.out.q (HD.out.grown0 G4.out) g5)
 have OA5 := lk (own_gm ((OA.out.grown0 R4.out)) HGM.out g5)
 have OB5 := lk (own_gm ((OB.out.grown0 R4.out)) HGM.out g5)
 clear SE o5 n5 e5 l5 i5 p5 ha5 g5 P4 D2
 go_wp2
 refine ⟨P5.out.sf2, ?_⟩
 refine Canon.segs_end _ _ _ (by kernel_rfl) ?_
 go_wp2
 refine ⟨by kernel_rfl, by kernel_rfl, by kernel_rfl, ?_⟩
 have dr5 := jw (jr w5 none)
 have PT := lk (pturn_c w5.drew _ za l (OA5.out.sl.grown0 dr5) (by rw [← LA.out]; exact Nat.le_refl _) (by have := LL.out; omega))
 have t0 := P5.out.e
 have t17 := P5.out.q.pe.e0
 go_upto_region 6 with fail
 refine Canon.region_held [175, 178, 182, 186, 189] _ (by kernel_rfl) (by kernel_rfl) P5.out.sf6 ?_
 refine Canon.segs_at 21 _ _ _ (by kernel_rfl) ?_
 simp only [ja, jb, jc, jd]
 go_wp2_with fail
 refine (PT.out).mono ?_
 rintro e w6 ⟨x6, ra, rfl, o6, ta, g6⟩
 have g6' := jt dr5 g6
 have P6 := lk (P5.out.grown0 g6')
 have G6 := lk (jt G5.out (jn g6' (some I.gm)))
 have CU := lk (pcut_c w6 I.r I.q p x6 ra n P6.out.q.rg o6.sl (by rw [ta.1]; have := LL.out; omega) (by have := LL.out; omega))
 have TA := lk ta
 have H6 := lk g6'
 clear PT o6 ta g6 g6' t0 t17 dr5
 go_wp2
 refine ⟨P6.out.sf6, ?_⟩
 refine Canon.segs_at 1 _ _ _ (by kernel_rfl) ?_
 simp only [ja, jb, jc, jd]
 go_wp2_with fail
 refine (CU.out).mono ?_
 rintro e w7 ⟨x7, rfl, ⟨cra, o7, n7, e7, l7⟩, g7⟩
 have P7 := lk (P6.out.grown0 g7)
 have G7 := lk (jt G6.out (jn g7 (some I.gm)))
 have H7 := lk (jt H6.out g7)
 have ML := lk (pemul_c hu w7 p g I a5 c5 x7 x5 cra zv P7.out.q (D5.out.grown0 H7.out) (by have := A5.out; have := LL.out; omega) o7.sl (SV.out.grown0 H7.out) (by have := L5.out; have := LL.out; omega))
 have E7 := lk e7
 have L7 := lk l7
 clear CU o7 n7 e7 l7 g7 P6 H6
 go_wp2
 refine ⟨P7.out.sf6, ?_⟩
 refine Canon.segs_at 1 _ _ _ (by kernel_rfl) ?_
 simp only [ja, jb, jc, jd]
 go_wp2_with fail
 refine (ML.out).mono ?_
 rintro e w8 ⟨x8, a8, c8, rfl, ⟨z1, o8, n8, e8, l8⟩, q8, ha8, g8⟩
 have P8 := lk (P7.out.next g8 q8)
 have G8 := lk (jt G7.out g8)
 have CU := lk (pcut_c w8 I.r I.q p x8 z1 n P8.out.q.rg o8.sl (by have := L5.out; have := L7.out; have := LL.out; omega) (by have := LL.out; omega))
 have E8 := lk e8
 have A8 := lk ha8
 have D8 := lk (Db.gm P7.out.q (D5.out.grown0 H7.out) g8)
 have OA8 := lk (own_gm (OA5.out.grown0 H7.out) HGM.out g8)
 have OB8 := lk (own_gm (OB5.out.grown0 H7.out) HGM.out g8)
 clear ML o8 n8 e8 l8 q8 ha8 g8 P7 D5 H7 OA5 OB5
 go_wp2
 refine ⟨P8.out.sf6, ?_⟩
 refine Canon.segs_at 1 _ _ _ (by kernel_rfl) ?_
 simp only [ja, jb, jc, jd]
 go_wp2_with fail
 refine (CU.out).mono ?_
 rintro e w9 ⟨x9, rfl, ⟨z2, o9, n9, e9, l9⟩, g9⟩
 have P9 := lk (P8.out.grown0 g9)
 have G9 := lk (jt G8.out (jn g9 (some I.gm)))
 have dr9 := jw (jr w9 none)
 have PT := lk (pturn_c w9.drew x9 z2 n (o9.sl.grown0 dr9) l9 (by have := LL.out; omega))
 have E9 := lk e9
 have H9 := lk g9
 clear CU o9 n9 e9 l9 g9 P8
 go_wp2
 refine ⟨P9.out.sf6, ?_⟩
 refine Canon.segs_end _ _ _ (by kernel_rfl) ?_
 go_wp2
 refine ⟨by kernel_rfl, by kernel_rfl, by kernel_rfl, ?_⟩
 have t0 := P9.out.e
 have t17 := P9.out.q.pe.e0
 go_upto_region 7 with fail
 refine Canon.region_held [203, 206] _ (by kernel_rfl) (by kernel_rfl) P9.out.sf2 ?_
 refine Canon.segs_at 9 _ _ _ (by kernel_rfl) ?_
 simp only [ja, jb, jc, jd]
 go_wp2_with fail
 refine (PT.out).mono ?_
 rintro e w10 ⟨x10, Qr, rfl, o10, tq, g10⟩
 have g10' := jt dr9 g10
 have P10 := lk (P9.out.grown0 g10')
 have G10 := lk (jt G9.out (jn g10' (some I.gm)))
 have H10 := lk (jt H9.out g10')
 have NM := lk (pnorm_c w10 I.r I.q p x10 Qr P10.out.q.rg o10.sl (by rw [tq.1]; have := LL.out; omega))
 have TQ := lk tq
 clear PT o10 tq g10 g10' t0 t17 dr9 P9
 go_wp2
 refine ⟨P10.out.sf2, ?_⟩
 refine Canon.segs_at 0 _ _ _ (by kernel_rfl) ?_
 simp only [ja, jb, jc, jd]
 go_wp2_with fail
 refine (NM.out).mono ?_
 rintro e w11 ⟨x11, rfl, ⟨zq, o11, n11, e11, l11⟩, g11⟩
 have P11 := lk (P10.out.grown0 g11)
 have G11 := lk (jt G10.out (jn g11 (some I.gm)))
 have H11 := lk (jt H10.out g11)
 have OQ := lk (o11.mono (base' := w.heap.size) G10.out.size)
 have NQ := lk n11
 have E11 := lk e11
 have L11 : Hid (zq.length ≤ n) := lk (by rw [← TQ.out.1]; exact l11)
 clear NM o11 n11 e11 l11 g11 P10 H9
 go_wp2
 refine ⟨P11.out.sf2, ?_⟩
 refine Canon.segs_end _ _ _ (by kernel_rfl) ?_
 go_wp2
 refine ⟨by kernel_rfl, by kernel_rfl, by kernel_rfl, ?_⟩
 have t0 := P11.out.e
 have t17 := P11.out.q.pe.e0
 have dr := jw (jr w11 none)
 have H12 := lk (jt H11.out dr)
 have P11d := lk (P11.out.grown0 dr)
 have OQd := lk (OQ.out.grown0 dr)
 have ML := lk (pemul_c hu w11.drew p g I a8 c8 x11 _ zq zb P11d.out.q (D8.out.grown0 H12.out) (by have := A5.out; have := A8.out; have := LL.out; omega) OQd.out.sl (OB8.out.grown0 H12.out).sl (by rw [← LB.out]; have := L11.out; have := LL.out; omega))
 have G12 := lk (jt G11.out (jn dr (some I.gm)))
 clear dr H11 H10 OQ
 go_upto_region 8 with fail
 refine Canon.region_held [215, 218] _ (by kernel_rfl) (by kernel_rfl) P11.out.sf2 ?_
 refine Canon.segs_at 15 _ _ _ (by kernel_rfl) ?_
 simp only [ja, jb, jc, jd]
 go_wp2_with fail
 refine (ML.out).mono ?_
 rintro e w12 ⟨x12, a12, c12, rfl, ⟨zm, o12, n12, e12, l12⟩, q12, ha12, g12⟩
 have P12 := lk (P11d.out.next g12 q12)
 have G13 := lk (jt G12.out g12)
 have OA12 := lk (own_gm (OA8.out.grown0 H12.out) HGM.out g12)
 have OQ12 := lk (own_gm OQd.out HGM.out g12)
 have MI := lk (pminus_c w12 I.r I.q p _ x12 za zm P12.out.q.rg OA12.out.sl o12.sl (by rw [← LA.out]; have := LL.out; omega) (by rw [← LB.out] at l12; have := L11.out; have := LL.out; omega))
 have E12 := lk e12
 have A12 := lk ha12
 clear ML o12 n12 e12 l12 q12 ha12 g12 t0 t17 P11 P11d OQd OA8 OB8 H12
 go_wp2
 refine ⟨P12.out.sf2, ?_⟩
 refine Canon.segs_at 0 _ _ _ (by kernel_rfl) ?_
 simp only [ja, jb, jc, jd]
 go_wp2_with fail
 refine (MI.out).mono ?_
 rintro e w13 ⟨x13, rfl, ⟨zr, o13, n13, e13, l13⟩, g13⟩
 have P13 := lk (P12.out.grown0 g13)
 have G14 := lk (jt G13.out (jn g13 (some I.gm)))
 have QR := quot_rows (n := n) hp (by rw [← LB.out]; have := LL.out; omega) (by rw [← LA.out, ← LB.out]; exact LL.out.2.2.1) (by have := LL.out; omega) (by rw [← LA.out]; exact TA.out) (by rw [← LB.out]; exact TB.out) E7.out E4.out IV.out E8.out E9.out TQ.out E11.out E12.out n13 e13
 have FIN : Hid (DM w13 w.heap.size p xs ys x11 x13 0) := lk ⟨zb, NB.out, EB.out, by rw [← LB.out]; exact lb, .inr ⟨by rw [← LB.out]; have := LL.out; omega, rfl, zq, zr, ⟨OQ12.out.grown0 g13, NQ.out⟩, ⟨o13.mono G13.out.size, n13⟩, QR.1, by have := L11.out; have := LL.out; omega, EA.out.symm.trans QR.2⟩⟩
 clear MI o13 n13 e13 l13 g13 QR
 go_wp2
 refine ⟨P13.out.sf2, ?_⟩
 refine Canon.segs_end _ _ _ (by kernel_rfl) ?_
 go_wp2
 refine ⟨by kernel_rfl, by kernel_rfl, by kernel_rfl, ?_⟩
 go_wp2
 go_ret3
 exact ⟨_, _, _, a12, c12, rfl, FIN.out, P13.out, by have := A5.out; have := A8.out; have := A12.out; have := LL.out; omega, G14.out⟩
theorem fld {p : Nat} (h : p ∈ pr12) (x : Int) (h0 : 0 < x) (h1 : x < (p : Int)) : Int.gcd (p : Int) x = 1 := by
 have c := (pri12 p h).cop (k := x.natAbs) (fun hd => by
  have := Nat.le_of_dvd (by omega) hd
  omega)
 simpa [Int.gcd] using c
theorem pdivNew_ok (w : World) (t : Tb) (p : Nat) (hp : Pm p) (hi : isP p = true) (hd : Db w) :
  Calls Tryz.prog 57 #[t.v, .int .u64 p] w fun e w' => ∃ d g I, e = .returned (.tuple #[.pointer (some ⟨d, 0, none⟩), .int .i64 0]) ∧ Pd w' t.clamp p d g I 0 ⟨0, tbT t.clamp⟩ ∧ w.heap.size ≤ I.gm ∧ w.grownBy w' none := by
 have C0 := cs_new w #[.int .i64 t.eb, .int .i64 t.et, .int .i64 t.en, .int .i64 t.ed, .int .i64 t.er, .int .i64 t.el, .int .i64 t.ex, .int .i64 t.ep, .int .i64 t.ek, .int .i64 t.es, .int .i64 t.ee] 23
 have hg := ju (jr w none) (Obj.cells #[.int .i64 t.eb, .int .i64 t.et, .int .i64 t.en, .int .i64 t.ed, .int .i64 t.er, .int .i64 t.el, .int .i64 t.ex, .int .i64 t.ep, .int .i64 t.ek, .int .i64 t.es, .int .i64 t.ee] 23)
 have NW := lk (pmulNew_ok _ t p hp hi (hd.grown0 hg))
 have HG := lk hg
 have HC0 := lk C0
 obtain ⟨P, hP⟩ : ∃ P : Int, P = (p : Int) := ⟨_, rfl⟩
 rw [← hP] at NW ⊢
 clear C0 hg hp hi hd hP
 go_enter Tryz.func57, Tryz.ntmps57
 have c0 := HC0.out.cell 0 rfl
 have c1 := HC0.out.cell 1 rfl
 have c2 := HC0.out.cell 2 rfl
 have c3 := HC0.out.cell 3 rfl
 have c4 := HC0.out.cell 4 rfl
 have c5 := HC0.out.cell 5 rfl
 have c6 := HC0.out.cell 6 rfl
 have c7 := HC0.out.cell 7 rfl
 have c8 := HC0.out.cell 8 rfl
 have c9 := HC0.out.cell 9 rfl
 have c10 := HC0.out.cell 10 rfl
 go_wp2_with fail
 refine (NW.out).mono ?_
 rintro e w1 ⟨g, I, rfl, pq, hg, g1⟩
 clear c0 c1 c2 c3 c4 c5 c6 c7 c8 c9 c10
 have G1 := lk (jt HG.out g1)
 have PQ := lk pq
 have HH : Hid (w.heap.size ≤ I.gm) := lk (Nat.le_trans HG.out.size hg)
 clear pq hg g1 NW HC0
 go_wp2
 go_ret2
 have ga := ju (jr w1 none) (Obj.cells #[.pointer (some ⟨g, 0, none⟩)] 69)
 exact ⟨_, g, I, rfl, ⟨(cs_new w1 _ _).cell 0 rfl, PQ.out.grown0 ga⟩, HH.out, jt G1.out ga⟩
theorem engine25_c (w : World) (t : Tb) (k : Int) (hk : 0 ≤ k ∧ k < 18446744073709551616) (hd : Db w) :
  Calls Tryz.prog 17 #[t.v, .int .u64 k] w fun e w' => ∃ (p d g : Nat) (I : Pix), e = .returned (.tuple #[.pointer (some ⟨d, 0, none⟩), .int .u64 p]) ∧ Pm (p : Int) ∧ (p ∈ pr12 ∧ p = P23 k) ∧ Pd w' t.clamp p d g I 0 ⟨0, tbT t.clamp⟩ ∧ w.heap.size ≤ I.gm ∧ w.grownBy w' none := by
 have C0 := cs_new w #[.int .i64 t.eb, .int .i64 t.et, .int .i64 t.en, .int .i64 t.ed, .int .i64 t.er, .int .i64 t.el, .int .i64 t.ex, .int .i64 t.ep, .int .i64 t.ek, .int .i64 t.es, .int .i64 t.ee] 23
 have hg := ju (jr w none) (Obj.cells #[.int .i64 t.eb, .int .i64 t.et, .int .i64 t.en, .int .i64 t.ed, .int .i64 t.er, .int .i64 t.el, .int .i64 t.ex, .int .i64 t.ep, .int .i64 t.ek, .int .i64 t.es, .int .i64 t.ee] 23)
 have PR := lk (fun w => prime23_c w k hk)
 have NW := lk (fun w p h1 h2 h3 => pdivNew_ok w t p h1 h2 h3)
 have HD := lk hd
 have HG := lk hg
 have HC0 := lk C0
 clear C0 hg hd
 go_enter Tryz.func17, Tryz.ntmps17
 go_wp2_with fail
 refine (PR.out _).mono ?_
 rintro e w1 ⟨p, rfl, pm, ip, hm, g1⟩
 have G1 := lk (jt HG.out g1)
 have NW1 := lk (NW.out w1 p pm ip (HD.out.grown0 G1.out))
 have C1 := HC0.out.grown0 g1
 have HM := lk (And.intro pm hm)
 have c0 := C1.cell 0 rfl
 have c1 := C1.cell 1 rfl
 have c2 := C1.cell 2 rfl
 have c3 := C1.cell 3 rfl
 have c4 := C1.cell 4 rfl
 have c5 := C1.cell 5 rfl
 have c6 := C1.cell 6 rfl
 have c7 := C1.cell 7 rfl
 have c8 := C1.cell 8 rfl
 have c9 := C1.cell 9 rfl
 have c10 := C1.cell 10 rfl
 obtain ⟨P, hP⟩ : ∃ P : Int, P = (p : Int) := ⟨_, rfl⟩
 rw [← hP] at NW1 ⊢
 have HP := lk hP
 clear g1 PR NW C1 pm ip hm hP
 go_wp2_with fail
 refine (NW1.out).mono ?_
 rintro e w2 ⟨d, g, I, rfl, pq, hg, g2⟩
 clear c0 c1 c2 c3 c4 c5 c6 c7 c8 c9 c10
 have KK := lk (And.intro pq (And.intro (Nat.le_trans G1.out.size hg) (jt G1.out g2)))
 clear pq hg g2 NW1
 go_wp2
 go_ret2
 refine ⟨p, d, g, I, by rw [HP.out]; rfl, HM.out.1, HM.out.2, ?_, KK.out.2.1, KK.out.2.2⟩
 rw [← HP.out]
 exact KK.out.1
theorem DM.same {p : Nat} (hp : Pri p) {w w' : World} {base base' : Nat} {xs ys : List Int} {vq vr vq' vr' : Value} {err err' : Int} (h : DM w base p xs ys vq vr err) (k : DM w' base' p xs ys vq' vr' err') :
  err = err' ∧ ∃ zq zr, (Sl w vq zq ∧ Sl w' vq' zq) ∧ (Sl w vr zr ∧ Sl w' vr' zr) ∧ (err = 2 → zq = [] ∧ zr = []) := by
 have hp0 : (0 : Int) < p := by have := hp.1; omega
 obtain ⟨zb, n1, e1, l1, h4⟩ := h
 obtain ⟨yb, m1, f1, _, k4⟩ := k
 obtain rfl := n1.one m1 hp0 e1 f1
 rcases h4 with ⟨hz, rfl, rfl, rfl⟩ | ⟨h0, rfl, zq, zr, ⟨oq, nq⟩, ⟨or', nr⟩, lr, _, e⟩
 ·rcases k4 with ⟨_, rfl, rfl, rfl⟩ | ⟨k0, _⟩
  ·exact ⟨rfl, [], [], ⟨sl_none _, sl_none _⟩, ⟨sl_none _, sl_none _⟩, fun _ => ⟨rfl, rfl⟩⟩
  ·rw [hz] at k0; simp at k0
 ·rcases k4 with ⟨hz, _⟩ | ⟨_, rfl, yq, yr, ⟨pq, mq⟩, ⟨pr, mr⟩, mr', _, f⟩
  ·rw [hz] at h0; simp at h0
  ·have U := div_uniq hp (isP_ev zq) (isP_ev yq) n1 h0 lr mr' e f
   obtain rfl := nq.ext mq hp0 U.1
   obtain rfl := nr.ext mr hp0 U.2
   exact ⟨rfl, zq, zr, ⟨oq.sl, pq.sl⟩, ⟨or'.sl, pr.sl⟩, fun h => absurd h (by decide)⟩
theorem DM.ex5 {w : World} {base : Nat} {vq vr : Value} {err : Int} (h : DM w base 5 [0, 0, 1] [0, 2] vq vr err) : err = 0 ∧ Sl w vq [0, 3] ∧ Sl w vr [] := by
 have hp : Pri 5 := pri_i.1.1.2
 obtain ⟨zb, n1, e1, l1, h4⟩ := h
 have nb : Nf 5 [0, 2] := ⟨fun c hc => by simp at hc; omega, by rfl⟩
 have nq' : Nf 5 [0, 3] := ⟨fun c hc => by simp at hc; omega, by rfl⟩
 obtain rfl := n1.ext nb (by decide) e1
 rcases h4 with ⟨hz, _⟩ | ⟨h0, rfl, zq, zr, ⟨oq, nq⟩, ⟨or', nr⟩, lr, _, e⟩
 ·simp at hz
 ·have U := div_uniq (p := 5) hp (isP_ev zq) (isP_ev [0, 3]) (b := [0, 2]) (r' := []) n1 h0 lr (by decide) e ⟨fun x => -(x * x), (isP_x.mul isP_x).neg, fun x => by simp [ev]; grind⟩
  obtain rfl := nq.ext nq' (by decide) U.1
  obtain rfl := nr.ext (nf_nil 5) (by decide) U.2
  exact ⟨rfl, oq.sl, or'.sl⟩
theorem pm_5 : Pm ((5 : Nat) : Int) := ⟨by decide, by decide, by decide⟩
theorem isP_5 : isP 5 = true := by rw [isF_eq (by decide)]; decide +kernel
theorem fld5 (x : Int) (h0 : 0 < x) (h1 : x < 5) : Int.gcd 5 x = 1 := fld (p := 5) (by decide) x h0 h1
theorem wakes25_c (w : World) (hd : Db w) : Calls Tryz.prog 24 #[] w fun e w' => e = .returned (.bool true) ∧ w.grownBy w' none := by
 have NW : Calls Tryz.prog 57 #[.agg #[.int .i64 0, .int .i64 0, .int .i64 0, .int .i64 0, .int .i64 0, .int .i64 0, .int .i64 0, .int .i64 0, .int .i64 0, .int .i64 0, .int .i64 0], .int .u64 5] w fun e w' => ∃ d g I, e = .returned (.tuple #[.pointer (some ⟨d, 0, none⟩), .int .i64 0]) ∧ Pd w' (Tb.clamp ⟨0, 0, 0, 0, 0, 0, 0, 0, 0, 0, 0⟩) 5 d g I 0 ⟨0, tbT (Tb.clamp ⟨0, 0, 0, 0, 0, 0, 0, 0, 0, 0, 0⟩)⟩ ∧ w.heap.size ≤ I.gm ∧ w.grownBy w' none :=
  pdivNew_ok w ⟨0, 0, 0, 0, 0, 0, 0, 0, 0, 0, 0⟩ 5 pm_5 isP_5 hd
 have TO := lk (Tb.clamp_ok ⟨0, 0, 0, 0, 0, 0, 0, 0, 0, 0, 0⟩)
 obtain ⟨u, hu⟩ : ∃ u, u = Tb.clamp ⟨0, 0, 0, 0, 0, 0, 0, 0, 0, 0, 0⟩ := ⟨_, rfl⟩
 rw [← hu] at NW TO
 have HN := lk NW
 have HD := lk hd
 clear NW hd hu
 go_enter Tryz.func24, Tryz.ntmps24
 go_wp2_with fail
 refine (HN.out).mono ?_
 rintro e w1 ⟨d, g, I, rfl, pq, hg, g1⟩
 have G1 := lk g1
 have HG := lk hg
 have GA := ju (ju (jr w1 none) (Obj.cells #[.int .u64 0, .int .u64 0, .int .u64 1] 24)) (Obj.cells #[.int .u64 0, .int .u64 2] 24)
 have S1 := (sl_lit w1 24 #[.int .u64 0, .int .u64 0, .int .u64 1] [0, 0, 1] 3 rfl (ws_append (ws_one (by decide) (by decide)) (ws_append (ws_one (by decide) (by decide)) (ws_one (by decide) (by decide)))) rfl (by decide)).grown0 (ju (jr _ none) (Obj.cells #[.int .u64 0, .int .u64 2] 24))
 have S2 := sl_lit (w1.alloc (Obj.cells #[.int .u64 0, .int .u64 0, .int .u64 1] 24)) 24 #[.int .u64 0, .int .u64 2] [0, 2] 2 rfl (ws_append (ws_one (by decide) (by decide)) (ws_one (by decide) (by decide))) rfl (by decide)
 rw [alloc_sz] at S2
 have ML := lk (divmod_c TO.out 5 fld5 d g I _ 0 _ _ _ [0, 0, 1] [0, 2] (pq.grown0 GA) (HD.out.grown0 (jt g1 GA)) (by decide) S1 S2 (by decide) (by decide))
 have HGA := lk (jt g1 GA)
 clear S1 S2 GA pq g1 hg HN
 go_wp2_with fail
 refine (ML.out).mono ?_
 rintro e w2 ⟨vq, vr, err, a', c', rfl, dm, _, _, g2⟩
 have G2 := lk (gb_new HGA.out g2 (fun i hi => by cases hi; exact HG.out))
 obtain ⟨rfl, s1, s2⟩ := dm.ex5
 obtain ⟨A, ca, rfl, _, _⟩ := s2.form
 have GB := ju (jr w2 none) (Obj.cells #[.int .u64 0, .int .u64 3] 24)
 have SM := lk (same_c _ vq _ [0, 3] [0, 3] (s1.grown0 GB) (sl_lit w2 24 #[.int .u64 0, .int .u64 3] [0, 3] 2 rfl (ws_append (ws_one (by decide) (by decide)) (ws_one (by decide) (by decide))) rfl (by decide)))
 rw [decide_eq_true rfl] at SM
 have HGB := lk (jt G2.out GB)
 clear GB s1 s2 dm g2 ML
 go_wp2_with fail
 refine (SM.out).mono ?_
 rintro e w3 ⟨rfl, g3⟩
 go_wp2
 go_ret
 exact ⟨rfl, jt HGB.out g3⟩
def OwnT (e : TypeId) (w : World) (base : Nat) (v : Value) (vs : List Value) : Prop := w.ownsRow base e 1 v vs.length vs
theorem ownt_nil (e : TypeId) (w : World) (base : Nat) : OwnT e w base (.slice none 0 0) [] := ⟨rfl, .inl ⟨rfl, rfl⟩⟩
theorem OwnT.grown0 {e : TypeId} {w w' : World} {base : Nat} {v : Value} {vs : List Value} (h : OwnT e w base v vs) (hg : w.grownBy w' none) : OwnT e w' base v vs :=
 World.ownsRow.kept h hg (by cases v.ownBlock <;> simp)
theorem OwnT.lt {e : TypeId} {w : World} {base : Nat} {v : Value} {vs : List Value} (h : OwnT e w base v vs) : ∀ k, v.ownBlock = some k → base ≤ k ∧ k < w.heap.size := World.ownsRow.lt h
theorem OwnT.cells {e : TypeId} {w : World} {base : Nat} {v : Value} {vs : List Value} (h : OwnT e w base v vs) : Cells w v vs.length 1 (fun j => vs.getD j undef) := by
 rcases h.2 with ⟨rfl, h2⟩ | ⟨g, cap, cur, rfl, hg, hh, h1, h2, _⟩
 ·obtain rfl := List.eq_nil_of_length_eq_zero h2
  exact ⟨none, 0, rfl, by simp, by omega, fun h => by simp at h⟩
 ·refine ⟨_, cap, rfl, h1, by simpa [maxLen] using h2, fun _ => ⟨g, 0, rfl, fun j hj => ?_⟩⟩
  have := World.ownsRow.cellAt h j (by omega)
  rw [Nat.mul_one] at hj
  show w.cell? ⟨g, 0 + j, none⟩ = some (vs.getD j undef)
  rw [Nat.zero_add, this, List.getD_eq_getElem?_getD, List.getElem?_eq_getElem hj]
  rfl
theorem ownt_append {el : TypeId} (hel : (Tryz.prog.info? el).map (fun i => (i.zero, i.size, i.bytes)) = some (some (.slice none 0 0), 1, 24)) {w : World} {base : Nat} {ops : Array Oper} {rest : List Oper} {o : Oper} {a : Act} {Q : Exit → Act → World → Prop} (t : TypeId) (ht : Tryz.prog.underlying t = some (.slice el))
  (s x : Operand) (hgd : o.guard = none) (ho : o.op = .call { callee := .builtin .append, args := #[s, x], argTypes := #[t, t] })
  (v : Value) (vs : List Value) (hs : a.eval s = v) (hown : OwnT el w base v vs)
  (g : Nat) (A : Option Addr) (n c : Nat) (hx : a.eval x = .slice (some ⟨g, 0, none⟩) 1 1) (hc : w.cell? ⟨g, 0, none⟩ = some (.slice A n c)) (hb : vs.length ≤ 1000000) (hbase : base ≤ w.heap.size)
  (h : ∀ v' w', OwnT el w' base v' (vs ++ [.slice A n c]) → w.grownBy w' v.ownBlock → wpList Tryz.prog ops Q rest (a.put o.dst v') w') : wpList Tryz.prog ops Q (o :: rest) a w := by
 obtain ⟨i, hi, he⟩ := Option.map_eq_some_iff.1 hel
 simp only [Prod.mk.injEq] at he
 refine wpList_append_own w hgd s x t ho base el i (.slice none 0 0) 1 24 ht hi he.1 he.2.1 he.2.2 rfl (by decide) v vs.length vs hs hown ⟨g, 0, none⟩ 1 1 [.slice A n c] hx rfl (fun j u hu => ?_) (fun u hu => ?_) (by unfold maxLen; omega) (by omega) hbase ?_
 ·cases j with
  | zero => obtain rfl := Option.some.inj hu; exact hc
  | succ j => simp at hu
 ·obtain rfl := List.mem_singleton.1 hu
  rfl
 ·intro v' w' h2 h3 _
  refine h v' w' ?_ h3
  show World.ownsRow _ _ _ _ _ (vs ++ [_]).length _
  rw [List.length_append]
  exact h2
theorem OwnT.pts {e : TypeId} {w : World} {base n : Nat} {v : Value} {vs : List Value} {X : Nat → List Int} (h : OwnT e w base v vs) (hn : vs.length = n) (hs : ∀ j, j < n → Sl w (vs.getD j undef) (X j)) : Pts w v n (fun j => vs.getD j undef) X := by
 subst hn
 exact ⟨h.cells, hs⟩
theorem getD_snoc {vs : List Value} {x : Value} {i j : Nat} (hi : vs.length = i) : (vs ++ [x]).getD j undef = if j < i then vs.getD j undef else if j = i then x else undef := by
 rw [List.getD_eq_getElem?_getD, List.getD_eq_getElem?_getD]
 by_cases h : j < i
 ·rw [if_pos h, List.getElem?_append_left (by omega)]
 ·rw [if_neg h, List.getElem?_append_right (by omega)]
  by_cases h2 : j = i
  ·rw [if_pos h2, show j - vs.length = 0 by omega]; rfl
  ·rw [if_neg h2, List.getElem?_eq_none (by simp; omega)]; rfl
theorem OwnT.ptsOf {e : TypeId} {w : World} {base n : Nat} {v : Value} {V : Nat → Value} {X : Nat → List Int} (h : OwnT e w base v ((List.range n).map V)) (hs : ∀ j, j < n → Sl w (V j) (X j)) : Pts w v n V X := by
 have hV : ∀ j, j < n → ((List.range n).map V).getD j undef = V j := fun j hj => by
  rw [List.getD_eq_getElem?_getD, List.getElem?_map, List.getElem?_range hj]; rfl
 have hp := h.pts (n := n) (by simp) (X := X) (fun j hj => by rw [hV j hj]; exact hs j hj)
 obtain ⟨A, c, e1, h1, h2, h3⟩ := hp.c
 refine ⟨⟨A, c, e1, h1, h2, fun h0 => ?_⟩, hs⟩
 obtain ⟨b, o, hA, hc⟩ := h3 h0
 exact ⟨b, o, hA, fun j hj => by rw [hc j hj]; exact congrArg some (hV j (by omega))⟩
def cutV (v : Value) (n : Nat) : Value := match v with
 | .slice A m c => .slice A (min m n) c
 | v => v
theorem Sl.cutV {w : World} {v : Value} {xs : List Int} (h : Sl w v xs) (n : Nat) : Sl w (cutV v n) (xs.take n) := by
 obtain ⟨A, c, rfl, _, _⟩ := h.form
 have := h.take (min xs.length n) (by omega)
 rw [Nat.min_comm, ← List.take_eq_take_min] at this
 rw [Nat.min_comm] at this
 exact this
theorem cut2_c (w : World) (v : Value) (xs : List Int) (n : Nat) (hn : n ≤ 1000000) (h : Sl w v xs) :
  Calls Tryz.prog 15 #[v, .int .i64 n] w fun e w' => e = .returned (cutV v n) ∧ w' = w := by
 obtain ⟨A, c, rfl, h1, h2⟩ := h.form
 obtain ⟨m, hm⟩ : ∃ m, m = xs.length := ⟨_, rfl⟩
 rw [← hm] at h1 h
 show Calls _ _ _ _ fun e w' => e = .returned (.slice A (min xs.length n) c) ∧ w' = w
 rw [← hm]
 clear h hm
 by_cases hle : n < m
 ·rw [show min m n = n by omega]
  go_enter Tryz.func15, Tryz.ntmps15
  go_wp2
  go_ret
  exact ⟨rfl, rfl⟩
 ·rw [show min m n = m by omega]
  go_enter Tryz.func15, Tryz.ntmps15
  go_wp2 <;> (go_ret; exact ⟨rfl, rfl⟩)
theorem cuts_c (w : World) (n r k : Nat) (v : Value) (V : Nat → Value) (X : Nat → List Int) (h : Pts w v r V X) (hk : k ≤ 1000) (hn : n ≤ 1000000) :
  Calls Tryz.prog 16 #[v, .int .i64 k, .int .i64 n] w fun e w' => ∃ u, e = .returned u ∧ Pts w' u (min r k) (fun j => cutV (V j) n) (fun j => (X j).take n) ∧ w.grownBy w' none := by
 have HP := lk h
 obtain ⟨A, ca, rfl, hca, _, h4⟩ := h.c
 have H4 := lk h4
 clear h h4
 go_enter Tryz.func16, Tryz.ntmps16
 go_wp2
 go_loopw [7, 8] (fun v3 v4 wr => ∃ (i : Nat), v4 = .int .i64 i ∧ i ≤ r ∧ i ≤ k ∧ OwnT 25 wr w.heap.size v3 ((List.range i).map (fun j => cutV (V j) n)) ∧ w.grownBy wr none) (fun _ v4 _ => r - (intOf v4).toNat)
 case atStart => exact ⟨0, rfl, by omega, by omega, ownt_nil _ _ _, jr _ _⟩
 case round =>
  obtain ⟨i, rfl, hi, hik, ow, G⟩ := hrel
  have OV := lk ow
  have GG := lk G
  clear ow G
  have E1 : Hid (∀ u, min r k = i → OwnT 25 wr w.heap.size u ((List.range i).map (fun j => cutV (V j) n)) → Pts wr u (min r k) (fun j => cutV (V j) n) (fun j => (X j).take n)) := lk (fun u e o => by
   rw [e]
   exact o.ptsOf (fun j hj => ((HP.out.s j (by omega)).cutV n).grown0 GG.out))
  by_cases hlt : i < r
  ·by_cases hkk : i < k
   ·obtain ⟨bA, oA, rfl, hc⟩ := H4.out (by omega)
    have sv := HP.out.s i hlt
    have c0 := hc i (by omega)
    obtain ⟨F, f, e, _, _⟩ := (sv.cutV n).form
    have e' := lk e
    obtain ⟨z, hz⟩ : ∃ z, z = ((X i).take n).length := ⟨_, rfl⟩
    rw [← hz] at e'
    have CU := cut2_c wr (V i) (X i) n hn (sv.grown0 GG.out)
    rw [e'.out] at CU
    have HCU := lk CU
    have c0' := gb_cell0 GG.out c0
    have hlen : ((List.range i).map (fun j => cutV (V j) n)).length ≤ 1000000 := by rw [List.length_map, List.length_range]; omega
    clear sv c0 e hc hz CU E1
    go_wp2_with fail
    refine (HCU.out).mono ?_
    rintro e w1 ⟨rfl, hw⟩
    subst hw
    clear HCU
    go_wp2_with (at_builtin; refine ownt_append (by kernel_rfl) 26 (by kernel_rfl) (.tmp 20) (.tmp 27) rfl rfl _ _ rfl (OV.out.grown0 (ju (jr w1 none) _)) _ _ _ _ rfl ((cs_new w1 _ _).cell 0 rfl) hlen (Nat.le_trans GG.out.size (ju (jr w1 none) _).size) ?_; intro v3' w3 ow3 g3)
    have ga := ju (jr w1 none) (Obj.cells #[.slice F z f] 25)
    refine ⟨⟨i + 1, by go_num, by omega, by omega, ?_, gb_new (jt GG.out ga) g3 (fun b hb => ((OV.out.grown0 ga).lt b hb).1)⟩, by show r - ((i : Int) + 1).toNat < r - (i : Int).toNat; omega⟩
    rw [List.range_succ, List.map_append, List.map_cons, List.map_nil, e'.out]
    exact ow3
   ·go_wp2
    go_ret
    exact ⟨_, rfl, E1.out _ (by omega) OV.out, GG.out⟩
  ·go_wp2
   go_ret
   exact ⟨_, rfl, E1.out _ (by omega) OV.out, GG.out⟩
theorem Pq.ptsA {w w' : World} {u : Tb} {p : Int} {g : Nat} {I : Pix} {a : Int} {c : Mc} (h : Pq w u p g I a c) {v : Value} {n : Nat} {V : Nat → Value} {X : Nat → List Int} (s : Pts w v n V X) (k : w.grownBy w' (some I.gm)) : Pts w' v n V X := by
 by_cases hn : 0 < n
 ·exact h.pts s hn k
 ·obtain ⟨A, ca, e, h1, h2, _⟩ := s.c
  exact ⟨⟨A, ca, e, h1, h2, fun h0 => absurd h0 hn⟩, fun j hj => absurd hj (by omega)⟩
theorem Pq.other {w w' : World} {u u' : Tb} {p p' : Int} {g g' : Nat} {I J : Pix} {a a' : Int} {c c' : Mc} (h : Pq w u p g I a c) (k : Pq w u' p' g' J a' c') (hne : I.gm ≠ J.gm) (j : w.grownBy w' (some J.gm)) : Pq w' u p g I a c :=
 ⟨h.pe.grown k.en.m j, h.en.other k.en hne j⟩
theorem cut_len (xs : List Int) (n : Nat) : (xs.take n).length ≤ n := by rw [List.length_take]; omega
def Tp (p : Int) (xs : List Int) (n : Nat) : Prop := (∀ i, n ≤ i → rd xs i % p = 0) ∧ (0 < n → rd xs (n - 1) % p ≠ 0)
theorem pdeg_c (w : World) (r g : Nat) (p : Int) (v : Value) (xs : List Int) (h : Rg w r g p) (hv : Sl w v xs) (hl : xs.length ≤ 1000000) :
  Calls Tryz.prog 40 #[.pointer (some ⟨r, 0, none⟩), v] w fun e w' => ∃ n : Nat, e = .returned (.int .i64 ((n : Int) - 1)) ∧ Tp p xs n ∧ n ≤ xs.length ∧ w.grownBy w' none := by
 have hp := h.m.neg0
 obtain ⟨A, c, rfl, hc1, hc2⟩ := hv.form
 have SX := lk hv
 obtain ⟨m, hm⟩ : ∃ m, m = xs.length := ⟨_, rfl⟩
 rw [← hm] at hc1 hl SX ⊢
 have HM := lk hm
 have HR := lk h
 have Z0 : Hid (∀ i, m ≤ i → rd xs i % p = 0) := lk (fun i hi => by rw [rd_beyond (by omega)]; simp)
 clear hv hm h
 go_enter Tryz.func40, Tryz.ntmps40
 go_wp2
 go_loopw [5] (fun v5 wr => ∃ i : Nat, v5 = .int .i64 i ∧ i ≤ m ∧ (∀ j, i ≤ j → rd xs j % p = 0) ∧ w.grownBy wr none) (fun v5 _ => (intOf v5).toNat)
 case atStart => exact ⟨m, rfl, Nat.le_refl _, Z0.out, jr _ _⟩
 case round =>
  clear Z0
  obtain ⟨i, rfl, hi, hz, G⟩ := hrel
  obtain ⟨wq, rfl⟩ : ∃ wq : World, wq = wr := ⟨_, rfl⟩
  have HZ := lk hz
  have GG := lk G
  clear hz G
  by_cases i0 : i = 0
  ·subst i0
   go_wp2
   refine Canon.region_canon (by kernel_rfl) (by kernel_rfl) ?_
   go_wp2
   refine ⟨by kernel_rfl, ?_⟩
   go_wp2
   go_ret
   exact ⟨0, rfl, ⟨HZ.out, fun h => absurd h (by omega)⟩, by omega, jw GG.out⟩
  ·obtain ⟨k, rfl⟩ : ∃ k, i = k + 1 := ⟨i - 1, by omega⟩
   have ek : ((k + 1 : Nat) : Int) - 1 = (k : Int) := by omega
   have R := HR.out.grown0 GG.out
   obtain ⟨b, o, rfl, hci⟩ := (SX.out.grown0 GG.out).at k (by rw [← HM.out]; omega)
   have hx1 := rd_w SX.out.ws k
   obtain ⟨x, hx⟩ : ∃ x, x = rd xs k := ⟨_, rfl⟩
   rw [← hx] at hci hx1
   have HX := lk hx
   have RD := modRed_c wq.drew g p x R.m.drew hx1.1
   obtain ⟨y, hy⟩ : ∃ y, y = x % p := ⟨_, rfl⟩
   rw [← hy] at RD
   have HY := lk hy
   have RD := lk RD
   have cr := R.c
   clear hx hy R i0
   by_cases y0 : y = 0
   ·have hy0 : (y == 0) = true := by simp; exact y0
    go_wp2
    refine Canon.region_canon (by kernel_rfl) (by kernel_rfl) ?_
    go_wp2_with fail
    refine (RD.out).mono ?_
    rintro e w1 ⟨rfl, rfl⟩
    go_wp2
    refine ⟨by kernel_rfl, ?_⟩
    go_wp2
    go_roundw
    case rel =>
     exact ⟨k, by go_num, by omega, fun j hj => (by
      by_cases e : j = k
      ·rw [e, ← HX.out, ← HY.out]; exact y0
      ·exact HZ.out j (by omega)), jw GG.out⟩
    case measure => simp [intOf]
   ·have hy0 : (y == 0) = false := by simp; exact y0
    go_wp2
    refine Canon.region_canon (by kernel_rfl) (by kernel_rfl) ?_
    go_wp2_with fail
    refine (RD.out).mono ?_
    rintro e w1 ⟨rfl, rfl⟩
    go_wp2
    refine ⟨by kernel_rfl, ?_⟩
    go_wp2
    go_ret
    exact ⟨k + 1, by rw [ek]; rfl, ⟨HZ.out, fun _ => by rw [Nat.add_sub_cancel, ← HX.out, ← HY.out]; exact y0⟩, by omega, jw GG.out⟩
theorem Tp.nf {p : Int} (hp : 0 < p) {xs z : List Int} {n : Nat} (h : Tp p xs n) (k : Nf p z) (e : Eqv p (ev z) (ev xs)) : z.length = n := by
 rcases Nat.lt_trichotomy z.length n with g | g | g
 ·exfalso
  have c := e.coef (n - 1)
  rw [rd_beyond (by omega)] at c
  exact h.2 (by omega) (by unfold Cg at c; rw [← c]; simp)
 ·exact g
 ·exfalso
  have c := e.coef (z.length - 1)
  exact nf_top k hp (by omega) (c.trans (by unfold Cg; rw [h.1 _ (by omega)]; simp))
theorem DM.some {w : World} {base : Nat} {p : Int} {xs ys : List Int} {vq vr : Value} {err : Int} (h : DM w base p xs ys vq vr err) {zb : List Int} (hp : 0 < p) (nb : Nf p zb) (eb : Eqv p (ev zb) (ev ys)) (lb : 0 < zb.length) :
  err = 0 ∧ ∃ zq zr, (Own w base vq zq ∧ Nf p zq) ∧ (Own w base vr zr ∧ Nf p zr) ∧ zr.length < zb.length ∧ zq.length ≤ xs.length ∧ Eqv p (ev xs) (fun x => ev zq x * ev zb x + ev zr x) := by
 obtain ⟨zb', n1, e1, l1, h4⟩ := h
 obtain rfl := n1.one nb hp e1 eb
 rcases h4 with ⟨hz, _⟩ | ⟨_, h⟩
 ·rw [hz] at lb; simp at lb
 ·exact h
end Go.Proofs.YtgalbnkcijmnnaaGreatDoor
namespace Go.Proofs.YtgalbnkcijmnnaaGreatDoor
structure Rd (p : Int) (za zb : List Int) (r qs : List Int) : Prop where
 nr : Nf p r
 lr : r.length ≤ za.length
 lq : qs.length = za.length - zb.length + 1
 rq : ∀ c ∈ qs, 0 ≤ c ∧ c < p
 z : ∀ j, j + zb.length ≤ r.length → rd qs j = 0
 e : Eqv p (ev za) (fun x => ev qs x * ev zb x + ev r x)
theorem Rd.start {p : Int} (hp : 0 < p) {za zb : List Int} (h : Nf p za) : Rd p za zb za (List.replicate (za.length - zb.length + 1) 0) :=
 ⟨h, Nat.le_refl _, by simp, fun c hc => by rw [List.eq_of_mem_replicate hc]; omega, fun j _ => rd_zeros _ _, Eqv.of_eq p fun x => by rw [ev_zeros]; simp⟩
theorem Rd.step {p : Int} {za zb r r' qs : List Int} {k : Nat} {c v : Int} (h : Rd p za zb r qs) (hp : 0 < p) (lb : 0 < zb.length) (hk : k + zb.length = r.length)
  (hc : Cg p (c * rd zb (zb.length - 1)) 1) (hv : v = rd r (r.length - 1) * c % p) (nr : Nf p r') (lr : r'.length ≤ r.length)
  (er : Eqv p (ev r') (fun x => ev r x - x ^ k * (v * ev zb x))) : r'.length < r.length ∧ Rd p za zb r' (qs.set k v) := by
 have hkq : k < qs.length := by rw [h.lq]; have := h.lr; omega
 have v0 : 0 ≤ v ∧ v < p := by rw [hv]; exact ⟨Int.emod_nonneg _ (by omega), Int.emod_lt_of_pos _ hp⟩
 have lt : r'.length < r.length := by
  by_cases g : r'.length < r.length
  ·exact g
  ·exfalso
   have el : r'.length = r.length := by omega
   have cf := (er.coefF (b := padd r (pscl (-v) (List.replicate k 0 ++ zb))) (fun x => by
    rw [ev_padd, ev_pscl, ev_append, ev_zeros, List.length_replicate]; grind)) (r'.length - 1)
   rw [rd_padd, rd_pscl, el] at cf
   have e1 : r.length - 1 = k + (zb.length - 1) := by omega
   rw [e1, rd_shift, ← e1] at cf
   have c1 : Cg p v (rd r (r.length - 1) * c) := by rw [hv]; exact Cg.mod _ _
   have c2 : Cg p (v * rd zb (zb.length - 1)) (rd r (r.length - 1) * c * rd zb (zb.length - 1)) := c1.mulr _
   have c3 := hc.mull (rd r (r.length - 1))
   have e2 : rd r (r.length - 1) * c * rd zb (zb.length - 1) = rd r (r.length - 1) * (c * rd zb (zb.length - 1)) := Int.mul_assoc ..
   rw [e2] at c2
   have c4 := (Cg.refl p (rd r (r.length - 1))).sub (c2.trans c3)
   have e3 : rd r (r.length - 1) - v * rd zb (zb.length - 1) = rd r (r.length - 1) + -v * rd zb (zb.length - 1) := by grind
   rw [e3] at c4
   have c5 := cf.trans (c4.trans (Cg.of_eq (y := 0) (by omega)))
   rw [← el] at c5
   exact nf_top nr hp (by omega) c5
 refine ⟨lt, nr, by have := h.lr; omega, by rw [List.length_set, h.lq], fun d hd => ?_, fun j hj => ?_, ?_⟩
 ·rcases List.mem_or_eq_of_mem_set hd with g | g
  ·exact h.rq d g
  ·rw [g]; exact v0
 ·rw [rd_set_ne (by omega)]
  exact h.z j (by omega)
 ·have hz := h.z k (by omega)
  obtain ⟨K1, i1, e1⟩ := h.e
  obtain ⟨K2, i2, e2⟩ := er
  refine ⟨fun x => K1 x - K2 x, i1.sub i2, fun x => ?_⟩
  have h1 : ev za x = ev qs x * ev zb x + ev r x + p * K1 x := e1 x
  have h2 : ev r' x = ev r x - x ^ k * (v * ev zb x) + p * K2 x := e2 x
  show ev za x = ev (qs.set k v) x * ev zb x + ev r' x + p * (K1 x - K2 x)
  rw [ev_set _ _ _ _ hkq, hz, h1, h2]
  grind
theorem Rd.last {p : Int} {za zb r qs : List Int} (h : Rd p za zb r qs) : Eqv p (ev za) (fun x => ev qs x * ev zb x + ev r x) := h.e
structure Rm (p : Int) (zb : List Int) (F : Int → Int) (r : List Int) : Prop where
 n : Nf p r
 l : r.length < zb.length
 e : ∃ Q, IsP Q ∧ Eqv p F (fun x => Q x * ev zb x + ev r x)
theorem Rm.one {p : Nat} (hp : Pri p) {zb r r' : List Int} {F : Int → Int} (hb : Nf p zb) (h : Rm p zb F r) (k : Rm p zb F r') : r = r' := by
 have hp0 : (0 : Int) < p := by have := hp.1; omega
 obtain ⟨Q, hQ, e⟩ := h.e
 obtain ⟨Q', hQ', e'⟩ := k.e
 have lb : 0 < zb.length := by have := h.l; omega
 exact h.n.ext k.n hp0 (div_uniq hp hQ hQ' hb lb h.l k.l e e').2
theorem Rm.fn {p : Int} {zb r : List Int} {F G : Int → Int} (h : Rm p zb F r) {Q : Int → Int} (hQ : IsP Q) (e : Eqv p G (fun x => F x + Q x * ev zb x)) : Rm p zb G r := by
 obtain ⟨R, hR, f⟩ := h.e
 refine ⟨h.n, h.l, fun x => Q x + R x, hQ.add hR, ?_⟩
 obtain ⟨K1, i1, e1⟩ := f
 obtain ⟨K2, i2, e2⟩ := e
 exact ⟨fun x => K1 x + K2 x, i1.add i2, fun x => by have := e1 x; have := e2 x; grind⟩
theorem Rm.start {p : Int} {zb q t xs : List Int} (e : Eqv p (ev xs) (fun x => ev q x * ev zb x + ev t x)) (nt : Nf p t) (lt : t.length < zb.length) : Rm p zb (ev xs) t := ⟨nt, lt, ev q, isP_ev q, e⟩
end Go.Proofs.YtgalbnkcijmnnaaGreatDoor
namespace Go.Proofs.YtgalbnkcijmnnaaGreatDoor
open Go.RowKit
theorem own_apart {w : World} {base base' : Nat} {v o : Value} {xs : List Int} {vs : List Value} {e : TypeId} (h : Own w base v xs) (k : OwnT e w base' o vs) (hne : e ≠ 24) : v.ownBlock = none ∨ v.ownBlock ≠ o.ownBlock := by
  rcases h.1.2 with ⟨rfl, _⟩ | ⟨g, cap, cur, rfl, _, hg, _⟩
  · exact .inl rfl
  · right
    rcases k.2 with ⟨rfl, _⟩ | ⟨g', cap', cur', rfl, _, hg', _⟩
    · simp [Value.ownBlock]
    · intro e1
      simp only [Value.ownBlock, Option.some.injEq] at e1
      subst e1
      rw [hg] at hg'
      simp only [Option.some.injEq, Obj.cells.injEq] at hg'
      exact hne hg'.2.1.symm
theorem ownt_gm {e : TypeId} {w w' : World} {base gm : Nat} {v : Value} {vs : List Value} (o : OwnT e w base v vs) (h : gm < base) (k : w.grownBy w' (some gm)) : OwnT e w' base v vs := o.kept k (by
  by_cases hb : v.ownBlock = none
  · exact .inl hb
  · right
    obtain ⟨b, hb'⟩ := Option.ne_none_iff_exists'.1 hb
    have := (o.lt b hb').1
    rw [hb']
    simp
    omega)
theorem ownt_mono {e : TypeId} {w : World} {base base' : Nat} {v : Value} {vs : List Value} (o : OwnT e w base v vs) (h : base' ≤ base) : OwnT e w base' v vs := by
  rcases o.2 with ⟨rfl, h2⟩ | ⟨g, cap, cur, rfl, hb, h3⟩
  · exact ⟨o.1, .inl ⟨rfl, h2⟩⟩
  · exact ⟨o.1, .inr ⟨g, cap, cur, rfl, Nat.le_trans h hb, h3⟩⟩
theorem cell_low {w w2 w3 : World} {x o o0 : Nat} {v v0 : Value} {row : Option Nat} (h0 : w.cell? ⟨x, o0, none⟩ = some v0) (h : w2.cell? ⟨x, o, none⟩ = some v) (k : w2.grownBy w3 row) (hr : ∀ b, row = some b → w.heap.size ≤ b) : w3.cell? ⟨x, o, none⟩ = some v := gb_cell k h (fun e => by
  have h1 := World.block_lt_of_cell? w _ h0
  have h2 := hr x e.symm
  simp only at h1
  omega)
theorem Pd.keep {w w2 w3 : World} {u : Tb} {p : Int} {d g : Nat} {I : Pix} {a0 a : Int} {c0 c : Mc} {row : Option Nat} (h0 : Pd w u p d g I a0 c0) (h : Pd w2 u p d g I a c) (k : w2.grownBy w3 row) (hr : ∀ b, row = some b → w.heap.size ≤ b) : Pd w3 u p d g I a c :=
  ⟨cell_low h0.e h.e k hr, ⟨⟨cell_low h0.q.pe.e0 h.q.pe.e0 k hr, cell_low h0.q.pe.e1 h.q.pe.e1 k hr, ⟨cell_low h0.q.pe.rg.c h.q.pe.rg.c k hr, h.q.pe.rg.m.grown k (fun e => by
    have h1 := World.block_lt_of_cell? w _ h0.q.pe.rg.m.c0
    have h2 := hr _ e.symm
    simp only at h1
    omega)⟩,
    ⟨cell_low h0.q.pe.ch.c0 h.q.pe.ch.c0 k hr, cell_low h0.q.pe.ch.c1 h.q.pe.ch.c1 k hr, cell_low h0.q.pe.ch.c2 h.q.pe.ch.c2 k hr, cell_low h0.q.pe.ch.c3 h.q.pe.ch.c3 k hr, cell_low h0.q.pe.ch.c4 h.q.pe.ch.c4 k hr, cell_low h0.q.pe.ch.c5 h.q.pe.ch.c5 k hr, cell_low h0.q.pe.ch.c6 h.q.pe.ch.c6 k hr, cell_low h0.q.pe.ch.c7 h.q.pe.ch.c7 k hr, cell_low h0.q.pe.ch.c8 h.q.pe.ch.c8 k hr, cell_low h0.q.pe.ch.c9 h.q.pe.ch.c9 k hr⟩⟩,
    ⟨⟨cell_low h0.q.en.e.h0 h.q.en.e.h0 k hr, cell_low h0.q.en.e.h1 h.q.en.e.h1 k hr, cell_low h0.q.en.e.h2 h.q.en.e.h2 k hr, cell_low h0.q.en.e.h3 h.q.en.e.h3 k hr, h.q.en.e.n0, h.q.en.e.n1, h.q.en.e.n2, h.q.en.e.n3⟩, h.q.en.m.rowo k (fun e => by
      have h1 := World.block_lt_of_cell? w _ h0.q.en.m.c0
      have h2 := hr _ e.symm
      simp only at h1
      omega), h.q.en.t⟩⟩⟩
def XM (w : World) (p : Int) (xs ys : List Int) (v : Value) (err : Int) : Prop := ∃ zb, Nf p zb ∧ Eqv p (ev zb) (ev ys) ∧
  ((zb = [] ∧ v = .slice none 0 0 ∧ err = 2) ∨
   (0 < zb.length ∧ ∃ zq zr, (Nf p zq ∧ Nf p zr ∧ zr.length < zb.length ∧ Eqv p (ev xs) (fun x => ev zq x * ev zb x + ev zr x)) ∧
     ((zr = [] ∧ err = 0 ∧ Sl w v zq) ∨ (0 < zr.length ∧ err = 5 ∧ v = .slice none 0 0))))
theorem pexact_c {u : Tb} (hu : TbOk u) (p : Int) (hF : ∀ x, 0 < x → x < p → Int.gcd p x = 1) (d g : Nat) (I : Pix) (w : World) (a : Int) (c : Mc) (U V : Value) (xs ys : List Int) (h : Pd w u p d g I a c) (hd : Db w) (ha : a ≤ 800000000000000) (hU : Sl w U xs) (hV : Sl w V ys) (hl : xs.length ≤ 150) (hl2 : ys.length ≤ 150) :
    Calls Tryz.prog 19 #[.pointer (some ⟨d, 0, none⟩), U, V] w fun e w' => ∃ v err a' c', e = .returned (.tuple #[v, .int .i64 err]) ∧ XM w' p xs ys v err ∧ Pd w' u p d g I a' c' ∧ a' ≤ a + 4000000000 ∧ w.grownBy w' (some I.gm) := by
  have A1 := lk (divmod_c hu p hF d g I w a c U V xs ys h hd ha hU hV hl hl2)
  clear h hd hU hV
  go_enter Tryz.func19, Tryz.ntmps19
  go_wp2_with fail
  refine (A1.out).mono ?_
  rintro e w1 ⟨q1, r1, err, a1, c1, rfl, ⟨zb, nb, eb, -, h4⟩, p1, ha1, g1⟩
  have P1 := lk p1
  have G1 := lk g1
  have HA := lk ha1
  have NB := lk (And.intro nb eb)
  clear A1 p1 g1 ha1 nb eb
  rcases h4 with ⟨rfl, rfl, rfl, rfl⟩ | ⟨hb, rfl, zq, zr, ⟨oq, nq⟩, ⟨or1, nr⟩, lr, _, e1⟩
  · go_wp2
    go_ret2
    exact ⟨_, 2, a1, c1, rfl, ⟨[], NB.out.1, NB.out.2, .inl ⟨rfl, rfl, rfl⟩⟩, P1.out, HA.out, G1.out⟩
  · obtain ⟨A, cA, rfl, hca, _⟩ := or1.sl.form
    have K := lk (And.intro (And.intro nq nr) (And.intro hb (And.intro lr e1)))
    have SQ := lk oq.sl
    obtain ⟨l, hl'⟩ : ∃ l, l = zr.length := ⟨_, rfl⟩
    rw [← hl'] at hca ⊢
    have LL := lk hl'
    clear oq nq or1 nr lr e1 hb hl'
    by_cases l0 : l = 0
    · subst l0
      have hz : zr = [] := List.length_eq_zero_iff.1 LL.out.symm
      subst hz
      go_wp2
      go_ret2
      exact ⟨_, 0, a1, c1, rfl, ⟨zb, NB.out.1, NB.out.2, .inr ⟨K.out.2.1, zq, [], ⟨K.out.1.1, K.out.1.2, K.out.2.2.1, K.out.2.2.2⟩, .inl ⟨rfl, rfl, SQ.out⟩⟩⟩, P1.out, HA.out, G1.out⟩
    · have l1 : 0 < l := by omega
      go_wp2
      go_ret2
      exact ⟨_, 5, a1, c1, rfl, ⟨zb, NB.out.1, NB.out.2, .inr ⟨K.out.2.1, zq, zr, ⟨K.out.1.1, K.out.1.2, K.out.2.2.1, K.out.2.2.2⟩, .inr ⟨by rw [← LL.out]; exact l1, rfl, rfl⟩⟩⟩, P1.out, HA.out, G1.out⟩
theorem prem_zero_c (u : Tb) (p : Int) (d g : Nat) (I : Pix) (w : World) (a : Int) (c : Mc) (U v : Value) (n j0 : Nat) (V : Nat → Value) (X : Nat → List Int) (h : Pd w u p d g I a c) (hv : Pts w v n V X) (hX : ∀ j, j < n → (X j).length ≤ 100) (hj : j0 < n) (hz : Eqv p (ev []) (ev (X j0))) :
    Calls Tryz.prog 23 #[.pointer (some ⟨d, 0, none⟩), U, v] w fun e w' => e = .returned (.tuple #[.slice none 0 0, .int .i64 2]) ∧ w.grownBy w' none := by
  have hp := h.q.rg.m.neg0
  obtain ⟨A, ca, rfl, hca, _, h4⟩ := hv.c
  have H4 := lk h4
  have HP := lk hv
  have PD := lk h
  have HX := lk hX
  have HZ := lk hz
  clear h4 hv h hX hz
  go_enter Tryz.func23, Tryz.ntmps23
  go_wp2
  go_loopw [18] (fun v18 wr => ∃ i : Nat, v18 = .int .i64 i ∧ i ≤ j0 ∧ w.grownBy wr none) (fun v18 _ => n - (intOf v18).toNat)
  case atStart => exact ⟨0, rfl, by omega, jr _ _⟩
  case round =>
    obtain ⟨i, rfl, hi, G⟩ := hrel
    obtain ⟨wq, rfl⟩ : ∃ wq : World, wq = wr := ⟨_, rfl⟩
    have GG := lk G
    have hin : i < n := by omega
    obtain ⟨bA, oA, rfl, hc⟩ := H4.out (by omega)
    have c0 := gb_cell0 G (hc i (by omega))
    have P1 := PD.out.grown0 G
    have t0 := P1.e
    have t1 := P1.q.pe.e0
    have DG := lk (pdeg_c wq I.r I.q p (V i) (X i) P1.q.rg ((HP.out.s i hin).grown0 G) (by have := HX.out i hin; omega))
    obtain ⟨Vi, hVi⟩ : ∃ z, z = V i := ⟨_, rfl⟩
    rw [← hVi] at c0 DG
    clear hc G P1 hVi
    go_wp2_with fail
    refine (DG.out).mono ?_
    rintro e w1 ⟨m, rfl, tp, -, g1⟩
    have G1 := lk (jt GG.out g1)
    by_cases m0 : m = 0
    · subst m0
      clear DG tp g1 c0 t0 t1
      go_wp2
      go_ret2
      exact ⟨rfl, G1.out⟩
    · have ne : i ≠ j0 := fun e => by
        have := tp.nf hp (nf_nil p) (e ▸ HZ.out)
        simp at this
        omega
      clear DG tp g1 c0 t0 t1
      go_wp2
      go_roundw
      case rel => exact ⟨i + 1, by go_num, by omega, G1.out⟩
      case measure => simp [intOf]; omega
theorem prem_ok_c {u : Tb} (hu : TbOk u) (p : Int) (hF : ∀ x, 0 < x → x < p → Int.gcd p x = 1) (d g : Nat) (I : Pix) (w : World) (a : Int) (c : Mc) (U v : Value) (xs : List Int) (n : Nat) (V : Nat → Value) (X Z : Nat → List Int) (h : Pd w u p d g I a c) (hd : Db w) (ha : a ≤ 100000000000) (hU : Sl w U xs) (hl : xs.length ≤ 100) (hv : Pts w v n V X) (hn : n ≤ 100) (hX : ∀ j, j < n → (X j).length ≤ 100) (hz : ∀ j, j < n → Nf p (Z j) ∧ Eqv p (ev (Z j)) (ev (X j)) ∧ 0 < (Z j).length) :
    Calls Tryz.prog 23 #[.pointer (some ⟨d, 0, none⟩), U, v] w fun e w' => ∃ (o : Value) (vs : List Value) (rs : Nat → List Int), e = .returned (.tuple #[o, .int .i64 0]) ∧ vs.length = n ∧ OwnT 25 w' w.heap.size o vs ∧ (∀ j, j < n → Sl w' (vs.getD j undef) (rs j) ∧ Rm p (Z j) (ev xs) (rs j)) ∧ w.grownBy w' (some I.gm) := by
  have hp := h.q.rg.m.neg0
  obtain ⟨A, ca, rfl, hca, _, h4⟩ := hv.c
  have H4 := lk h4
  have HP := lk hv
  have PD := lk h
  have HX := lk hX
  have HZ := lk hz
  have HU := lk hU
  have HD := lk hd
  have HF := lk hF
  clear h4 hv h hX hz hU hd hF
  go_enter Tryz.func23, Tryz.ntmps23
  go_wp2
  go_loopw [18] (fun v18 wr => ∃ i : Nat, v18 = .int .i64 i ∧ i ≤ n ∧ w.grownBy wr none) (fun v18 _ => n - (intOf v18).toNat)
  case atStart => exact ⟨0, rfl, by omega, jr _ _⟩
  case round =>
    obtain ⟨i, rfl, hi, G⟩ := hrel
    obtain ⟨wq, rfl⟩ : ∃ wq : World, wq = wr := ⟨_, rfl⟩
    have GG := lk G
    by_cases hin : i < n
    · obtain ⟨bA, oA, rfl, hc⟩ := H4.out (by omega)
      have c0 := gb_cell0 G (hc i (by omega))
      have P1 := PD.out.grown0 G
      have t0 := P1.e
      have t1 := P1.q.pe.e0
      have DG := lk (pdeg_c wq I.r I.q p (V i) (X i) P1.q.rg ((HP.out.s i hin).grown0 G) (by have := HX.out i hin; omega))
      obtain ⟨Vi, hVi⟩ : ∃ z, z = V i := ⟨_, rfl⟩
      rw [← hVi] at c0 DG
      clear hc G P1 hVi
      go_wp2_with fail
      refine (DG.out).mono ?_
      rintro e w1 ⟨m, rfl, tp, -, g1⟩
      have G1 := lk (jt GG.out g1)
      have m0 : 0 < m := by
        have h1 := HZ.out i hin
        have := tp.nf hp h1.1 h1.2.1
        omega
      clear DG tp g1 c0 t0 t1
      go_wp2
      go_roundw
      case rel => exact ⟨i + 1, by go_num, by omega, G1.out⟩
      case measure => simp [intOf]; omega
    · have P1 := lk (PD.out.grown0 GG.out)
      have DB := lk (HD.out.grown0 GG.out)
      have U1 := lk (HU.out.grown0 GG.out)
      have T1 := lk (HP.out.grown0 GG.out)
      have IL2 := lk (P1.out.q.en.lt)
      clear PD HD HU
      go_wp2
      clear hin
      go_loopw [10, 35] (fun v10 v35 wr => ∃ (i : Nat) (vs : List Value) (rs : Nat → List Int) (a' : Int) (c' : Mc), v35 = .int .i64 i ∧ i ≤ n ∧ (vs.length = i ∧ OwnT 25 wr wq.heap.size v10 vs) ∧ (∀ j, j < i → Own wr wq.heap.size (vs.getD j undef) (rs j) ∧ Rm p (Z j) (ev xs) (rs j)) ∧ Pd wr u p d g I a' c' ∧ a' ≤ a + (i : Int) * 4000000000 ∧ wq.grownBy wr (some I.gm)) (fun _ v35 _ => n - (intOf v35).toNat)
      case atStart => exact ⟨0, [], fun _ => [], a, c, rfl, by omega, ⟨rfl, ownt_nil _ _ _⟩, fun j hj => absurd hj (by omega), P1.out, by omega, jr _ _⟩
      case round =>
        obtain ⟨i, vs, rs, a', c', rfl, hi, ⟨hvs, ow⟩, hr, pr, ha', G⟩ := hrel
        obtain ⟨wx, rfl⟩ : ∃ wx : World, wx = wr := ⟨_, rfl⟩
        have OV := lk ow
        have HR := lk hr
        have PR := lk pr
        have HA := lk ha'
        have G2 := lk G
        have HV := lk hvs
        clear ow hr pr ha' G hvs
        by_cases hlt : i < n
        · obtain ⟨bA, oA, rfl, c0⟩ := (P1.out.q.ptsA T1.out G2.out).at i hlt
          have hzi := HZ.out i hlt
          have A2 := lk (divmod_c hu p HF.out d g I wx a' c' U (V i) xs (X i) PR.out (Db.gm P1.out.q DB.out G2.out) (by have := HA.out; omega) (P1.out.q.sl U1.out G2.out) ((P1.out.q.ptsA T1.out G2.out).s i hlt) (by omega) (by have := HX.out i hlt; omega))
          obtain ⟨Vi, hVi⟩ : ∃ z, z = V i := ⟨_, rfl⟩
          rw [← hVi] at c0 A2
          have ZI := lk hzi
          clear hVi hzi
          go_wp2_with fail
          refine (A2.out).mono ?_
          rintro e w2 ⟨q2, r2, err, a2, c2, rfl, dm, p2, ha2, g2⟩
          obtain ⟨rfl, zq, zr, -, ⟨or2, nr⟩, lr, -, er⟩ := dm.some hp ZI.out.1 ZI.out.2.1 ZI.out.2.2
          obtain ⟨A0, k0, rfl, b01, b02⟩ := or2.fm
          have OR := lk (or2.mono G2.out.size)
          have RR := lk (Rm.start er nr lr)
          have P2 := lk p2
          have HA2 := lk ha2
          have G3 := lk (jt G2.out g2)
          have OV2 := lk (ownt_gm OV.out IL2.out g2)
          have HR2 : Hid (∀ j, j < i → Own w2 wq.heap.size (vs.getD j undef) (rs j) ∧ Rm p (Z j) (ev xs) (rs j)) := lk (fun j hj => ⟨own_gm (HR.out j hj).1 IL2.out g2, (HR.out j hj).2⟩)
          have hlen : vs.length ≤ 1000000 := by rw [HV.out]; omega
          obtain ⟨l0, hl0⟩ : ∃ l, l = zr.length := ⟨_, rfl⟩
          rw [← hl0] at b01 OR
          rw [← hl0]
          clear A2 dm or2 nr lr er p2 ha2 g2 OV HR PR c0 hl0
          go_wp2_with (at_builtin; refine ownt_append (by kernel_rfl) 26 (by kernel_rfl) (.tmp 47) (.tmp 49) rfl rfl _ _ rfl (OV2.out.grown0 (ju (jr w2 none) _)) _ _ _ _ rfl ((cs_new w2 _ _).cell 0 rfl) hlen (Nat.le_trans G3.out.size (ju (jr w2 none) _).size) ?_; intro v3' w3 ow3 g3)
          have ga := ju (jr w2 none) (Obj.cells #[.slice A0 l0 k0] 25)
          have AP := fun v zs (o : Own w2 wq.heap.size v zs) => (o.grown0 ga).grown g3 (own_apart (o.grown0 ga) (OV2.out.grown0 ga) (by decide))
          refine ⟨⟨i + 1, _, fun j => if j < i then rs j else zr, a2, c2, by go_num, by omega, ⟨by rw [List.length_append, HV.out]; rfl, ow3⟩, fun j hj => ?_, P1.out.keep (P2.out.grown0 ga) g3 (fun b hb => ((OV2.out.grown0 ga).lt b hb).1), by have := HA.out; have := HA2.out; omega, gb_new (jt G3.out (jn ga _)) g3 (fun b hb => ((OV2.out.grown0 ga).lt b hb).1)⟩, by show n - ((i : Int) + 1).toNat < n - (i : Int).toNat; omega⟩
          rw [getD_snoc HV.out]
          show Own w3 _ _ (if j < i then rs j else zr) ∧ Rm p (Z j) (ev xs) (if j < i then rs j else zr)
          by_cases e : j < i
          · rw [if_pos e, if_pos e]
            exact ⟨AP _ _ (HR2.out j e).1, (HR2.out j e).2⟩
          · obtain rfl : j = i := by omega
            rw [if_neg e, if_neg e, if_pos rfl]
            exact ⟨AP _ _ OR.out, RR.out⟩
        · obtain rfl : i = n := by omega
          go_wp2
          go_ret2
          exact ⟨_, vs, rs, rfl, HV.out, ownt_mono OV.out GG.out.size, fun j hj => ⟨(HR.out j hj).1.sl, (HR.out j hj).2⟩, jt (jn GG.out _) G2.out⟩
theorem rat_c (w : World) (v : Value) (xs : List Int) (i : Nat) (hv : Sl w v xs) :
  Calls Tryz.prog 102 #[v, .int .i64 i] w fun e w' => e = .returned (.int .u64 (rd xs i)) ∧ w' = w := by
 have hcell := fun A n c (e : v = .slice A n c) j (hj : j < xs.length) => (e ▸ hv : Sl w (.slice A n c) xs).at j hj
 have hb : xs.length ≤ i → rd xs i = 0 := fun h => rd_beyond h
 obtain ⟨A, c, rfl, hnc, hc⟩ := hv.form
 obtain ⟨n, hn⟩ : ∃ n, n = xs.length := ⟨_, rfl⟩
 rw [← hn] at hnc hcell hb ⊢
 obtain ⟨x, hx⟩ : ∃ x, x = rd xs i := ⟨_, rfl⟩
 rw [← hx] at hb ⊢
 by_cases h : i < n
 ·obtain ⟨b, o, rfl, hci⟩ := hcell _ _ _ rfl i h
  rw [← hx] at hci
  clear hcell hb hx hn hv
  go_enter Tryz.func102, Tryz.ntmps102
  go_wp2
  go_ret
  exact ⟨rfl, rfl⟩
 ·have h0 := hb (by omega)
  subst h0
  clear hcell hb hx hn hv
  go_enter Tryz.func102, Tryz.ntmps102
  go_wp2
  go_ret
  exact ⟨rfl, rfl⟩
theorem rSub_c (w : World) (u v : Value) (xs ys : List Int) (p : Int) (hp : 0 < p) (hp' : p < 4611686018427387904) (hu : Sl w u xs) (hv : Sl w v ys) (hl : xs.length ≤ 1000000) (hl2 : ys.length ≤ 1000000) :
  Calls Tryz.prog 62 #[u, v, .int .u64 p] w fun e w' => ∃ x, e = .returned x ∧ Po w' w.heap.size x p (fun x => ev xs x - ev ys x) (max xs.length ys.length) ∧ w.grownBy w' none := by
 have HX := lk (fun w1 (g : w.grownBy w1 none) i => rat_c w1 u xs i (hu.grown0 g))
 have HY := lk (fun w1 (g : w.grownBy w1 none) i => rat_c w1 v ys i (hv.grown0 g))
 have WX := lk hu.ws
 have WY := lk hv.ws
 obtain ⟨A, ca, rfl, hca, hca2⟩ := hu.form
 obtain ⟨B, cb, rfl, hcb, hcb2⟩ := hv.form
 obtain ⟨a, ha⟩ : ∃ n, n = xs.length := ⟨_, rfl⟩
 obtain ⟨b, hb⟩ : ∃ n, n = ys.length := ⟨_, rfl⟩
 rw [← ha] at hca hl HX ⊢
 rw [← hb] at hcb hl2 HY ⊢
 obtain ⟨n, hn⟩ : ∃ n, n = max a b := ⟨_, rfl⟩
 rw [← hn]
 have mk := make64 25 (by kernel_rfl) n n (n : Int) (n : Int) (by omega) (by omega) (by omega) (by omega)
 have OW := lk (own_made w w.heap.size n n (Nat.le_refl _) (by omega) (by omega))
 have G0 := lk (ju (jr w none) (Obj.cells (madeCells #[.int .u64 0] n) 24))
 have HN := lk hn
 have HA := lk ha
 have HB := lk hb
 have NM := lk (fun w1 v zs h1 h2 => rNorm_c w1 v zs p hp hp' h1 h2)
 clear hu hv ha hb
 rcases (show (a < b ∧ n = b) ∨ (¬ a < b ∧ n = a) by omega) with ⟨hc, rfl⟩ | ⟨hc, rfl⟩
 all_goals
  clear hn
  go_enter Tryz.func62, Tryz.ntmps62
  go_wp2
  clear mk hc
  go_loopw [8] (fun v8 wr => ∃ (i : Nat) (os : List Int), v8 = .int .i64 i ∧ i ≤ n ∧ Mp (fun j => (rd xs j - rd ys j) % p) n i os ∧ Own wr w.heap.size (.slice (some ⟨w.heap.size, 0, none⟩) n n) os ∧ w.grownBy wr none) (fun v8 _ => n - (intOf v8).toNat)
  case atStart => exact ⟨0, _, rfl, by omega, Mp.start _ n, OW.out, G0.out⟩
  case round =>
   clear OW G0
   obtain ⟨i, os, rfl, hi, mp, ow, G⟩ := hrel
   have MP := lk mp
   have OW := lk ow
   have GG := lk G
   clear mp ow G
   by_cases hlt : i < n
   ·have x0 := (rd_w WX.out i).1
    have y0 := (rd_w WY.out i).1
    have CX := lk (HX.out _ GG.out i)
    have CY := lk (HY.out _ GG.out i)
    have MS := lk (MP.out.step hlt)
    obtain ⟨x, hx⟩ : ∃ x, x = rd xs i := ⟨_, rfl⟩
    obtain ⟨y, hy⟩ : ∃ x, x = rd ys i := ⟨_, rfl⟩
    rw [← hx] at x0 CX MS
    rw [← hy] at y0 CY MS
    have SB := lk (refSub_c wr p x y hp (by omega) x0 y0)
    clear hx hy
    go_wp2_with fail
    refine (CX.out).mono ?_
    rintro e w1 ⟨rfl, h1⟩
    subst h1
    go_wp2_with fail
    refine (CY.out).mono ?_
    rintro e w1 ⟨rfl, h1⟩
    subst h1
    go_wp2_with fail
    refine (SB.out).mono ?_
    rintro e w2 ⟨rfl, g2⟩
    have G2 := lk (jt GG.out g2)
    have OW2 := lk (OW.out.grown0 g2)
    have fr := OW2.out.free i
    have ce := OW2.out.cell i (by rw [MP.out.len]; exact hlt)
    have mm := mod_nn (x := (x - y)) hp
    obtain ⟨q, hq⟩ : ∃ q, q = (x - y) % p := ⟨_, rfl⟩
    rw [← hq] at mm MS ⊢
    clear CX CY SB g2 OW GG hq
    go_wp2
    go_roundw
    case rel => exact ⟨i + 1, _, by go_num, by omega, MS.out, OW2.out.store i mm.1 (by omega), gb_set (p := ⟨w.heap.size, i, none⟩) G2.out (Nat.le_refl _) _⟩
    case measure => simp [intOf]; omega
   ·obtain rfl : i = n := by omega
    have hL : os.length ≤ 1000000 := by rw [MP.out.len]; omega
    have NR := lk (NM.out wr _ os OW.out.sl hL)
    have EV : Hid (Eqv p (ev os) (fun x => ev xs x - ev ys x)) := lk (by
     refine (MP.out.eqv (zs := padd xs (pscl (-1) ys)) (fun j _ => (Cg.mod _ _).trans (Cg.of_eq ?_)) ?_).fn fun x => ?_
     ·rw [rd_padd]; try rw [rd_pscl]
      try omega
     ·rw [padd_len]; try rw [pscl, List.length_map]
      rw [← HA.out, ← HB.out, ← HN.out]; exact Nat.le_refl _
     ·rw [ev_padd]; try rw [ev_pscl]
      try omega)
    have LL := lk MP.out.len
    clear HX HY NM OW hL
    go_wp2_with fail
    refine (NR.out).mono ?_
    rintro e w1 ⟨x1, rfl, po, g1⟩
    go_wp2
    go_ret
    exact ⟨_, rfl, (po.fn EV.out (by rw [LL.out]; exact Nat.le_refl _)).mono GG.out.size, jt GG.out g1⟩
theorem rScale_c (w : World) (v : Value) (xs : List Int) (c p : Int) (hp : 0 < p) (hp' : p < 4611686018427387904) (hc : 0 ≤ c) (hv : Sl w v xs) (hl : xs.length ≤ 1000000) :
  Calls Tryz.prog 64 #[v, .int .u64 c, .int .u64 p] w fun e w' => ∃ x, e = .returned x ∧ Po w' w.heap.size x p (fun x => c * ev xs x) xs.length ∧ w.grownBy w' none := by
 obtain ⟨A, ca, rfl, hnc, hc2⟩ := hv.form
 have HV := lk hv
 obtain ⟨n, hn⟩ : ∃ n, n = xs.length := ⟨_, rfl⟩
 rw [← hn] at hnc hl ⊢
 have mk := make64 25 (by kernel_rfl) n n (n : Int) (n : Int) (by omega) (by omega) (by omega) (by omega)
 have OW := lk (own_made w w.heap.size n n (Nat.le_refl _) (by omega) (by omega))
 have G0 := lk (ju (jr w none) (Obj.cells (madeCells #[.int .u64 0] n) 24))
 have HN := lk hn
 have NM := lk (fun w1 v zs h1 h2 => rNorm_c w1 v zs p hp hp' h1 h2)
 clear hv hn
 go_enter Tryz.func64, Tryz.ntmps64
 go_wp2
 clear mk
 go_loopw [8] (fun v8 wr => ∃ (i : Nat) (os : List Int), v8 = .int .i64 i ∧ i ≤ n ∧ Mp (fun j => rd xs j * c % p) n i os ∧ Own wr w.heap.size (.slice (some ⟨w.heap.size, 0, none⟩) n n) os ∧ w.grownBy wr none) (fun v8 _ => n - (intOf v8).toNat)
 case atStart => exact ⟨0, _, rfl, by omega, Mp.start _ n, OW.out, G0.out⟩
 case round =>
  clear OW G0
  obtain ⟨i, os, rfl, hi, mp, ow, G⟩ := hrel
  have MP := lk mp
  have OW := lk ow
  have GG := lk G
  clear mp ow G
  by_cases hlt : i < n
  ·obtain ⟨b, o, rfl, hci⟩ := (HV.out.grown0 GG.out).at i (by rw [← HN.out]; exact hlt)
   have x0 := (rd_w HV.out.ws i).1
   have MS := lk (MP.out.step hlt)
   obtain ⟨x, hx⟩ : ∃ x, x = rd xs i := ⟨_, rfl⟩
   rw [← hx] at hci x0 MS
   have ML := lk (refMul_c wr p x c hp (by omega) x0 hc)
   clear hx
   go_wp2_with fail
   refine (ML.out).mono ?_
   rintro e w2 ⟨rfl, g2⟩
   have G2 := lk (jt GG.out g2)
   have OW2 := lk (OW.out.grown0 g2)
   have fr := OW2.out.free i
   have ce := OW2.out.cell i (by rw [MP.out.len]; exact hlt)
   have mm := mod_nn (x := x * c) hp
   obtain ⟨q, hq⟩ : ∃ q, q = x * c % p := ⟨_, rfl⟩
   rw [← hq] at mm MS ⊢
   clear ML g2 OW GG hq
   go_wp2
   go_roundw
   case rel => exact ⟨i + 1, _, by go_num, by omega, MS.out, OW2.out.store i mm.1 (by omega), gb_set (p := ⟨w.heap.size, i, none⟩) G2.out (Nat.le_refl _) _⟩
   case measure => simp [intOf]; omega
  ·obtain rfl : i = n := by omega
   have hL : os.length ≤ 1000000 := by rw [MP.out.len]; omega
   have NR := lk (NM.out wr _ os OW.out.sl hL)
   have EV : Hid (Eqv p (ev os) (fun x => c * ev xs x)) := lk (by
    refine (MP.out.eqv (zs := pscl c xs) (fun j _ => (Cg.mod _ _).trans (Cg.of_eq ?_)) ?_).fn fun x => ?_
    ·rw [rd_pscl, Int.mul_comm]
    ·rw [pscl, List.length_map, ← HN.out]; exact Nat.le_refl _
    ·rw [ev_pscl])
   have LL := lk MP.out.len
   clear NM OW hL
   go_wp2_with fail
   refine (NR.out).mono ?_
   rintro e w1 ⟨x1, rfl, po, g1⟩
   go_wp2
   go_ret
   exact ⟨_, rfl, (po.fn EV.out (by rw [LL.out]; exact Nat.le_refl _)).mono GG.out.size, jt GG.out g1⟩
theorem rShift_c (w : World) (v : Value) (xs : List Int) (k : Nat) (p : Int) (hp : 0 < p) (hp' : p < 4611686018427387904) (hv : Sl w v xs) (hl : xs.length ≤ 100000) (hk : k ≤ 4096) :
  Calls Tryz.prog 63 #[v, .int .i64 k, .int .u64 p] w fun e w' => ∃ x zs, e = .returned x ∧ Sl w' x zs ∧ Eqv p (ev zs) (fun z => z ^ k * ev xs z) ∧ zs.length ≤ k + xs.length ∧ w.grownBy w' none := by
 have NM := lk (rNorm_c w v xs p hp hp' hv (by omega))
 have m1 : max (k : Int) (-4096) = (k : Int) := by omega
 have m2 : min (k : Int) 4096 = (k : Int) := by omega
 have q1 : ((k : Int) < -4096) = False := by simp; try omega
 have q2 : ((-4096 : Int) < (k : Int)) = True := by simp; try omega
 have q4 : ((4096 : Int) < (k : Int)) = False := by simp; try omega
 have q5 : ((k : Int) < 0) = False := by simp; try omega
 clear hv
 go_enter Tryz.func63, Tryz.ntmps63
 go_wp2_with fail
 refine (NM.out).mono ?_
 rintro e w1 ⟨x1, rfl, ⟨zs, ow, nz, ez, lz⟩, g1⟩
 obtain ⟨A, ca, rfl, hca, _⟩ := ow.fm
 have EZ := lk ez
 have LZ := lk lz
 have G1 := lk g1
 by_cases h0 : zs = []
 ·subst h0
  clear NM ow nz ez lz g1 m1 m2 q1 q2 q4
  go_wp2
  go_ret
  exact ⟨_, [], rfl, sl_none _, (Eqv.of_eq p fun z => by simp [ev]).trans ((Eqv.refl p (fun z => z ^ k)).mul EZ.out (isP_pow k) (EZ.out.isP (isP_ev []))), by simp, G1.out⟩
 ·have hn0 : zs.length ≠ 0 := fun e => h0 (List.eq_nil_of_length_eq_zero e)
  have OZ := lk ow.sl
  obtain ⟨n, hn⟩ : ∃ n, n = zs.length := ⟨_, rfl⟩
  have hnl : n ≤ 100000 := by omega
  rw [← hn] at hca hn0 OZ ⊢
  have b0 : ((n : Int) == 0) = false := by simp; try omega
  have mk := make64 25 (by kernel_rfl) k k (k : Int) (k : Int) (by omega) (by omega) (by omega) (by omega)
  have OW := lk (own_made w1 w1.heap.size k k (Nat.le_refl _) (Nat.le_refl _) (by omega))
  have G0 := lk (ju (jr w1 none) (Obj.cells (madeCells #[.int .u64 0] k) 24))
  have HU := lk (OZ.out.grown0 G0.out)
  have HL : Hid ((List.replicate k (0 : Int)).length + zs.length ≤ 1000000000000) := lk (by rw [List.length_replicate]; omega)
  have HS : Hid (w1.heap.size ≤ (w1.alloc (Obj.cells (madeCells #[.int .u64 0] k) 24)).heap.size) := lk (by rw [alloc_sz]; omega)
  have LN : Hid (n = zs.length) := lk hn
  clear NM ow nz ez lz g1 m1 m2 q1 q2 q4 h0 hn
  go_wp2_with (at_builtin; refine own_append_sl 25 (by kernel_rfl) (.tmp 27) (.tmp 28) rfl rfl _ (List.replicate k 0) rfl OW.out _ zs rfl HU.out HL.out HS.out ?_; intro v1 w2 ow1 g2)
  go_ret
  refine ⟨v1, _, rfl, ow1.sl, ?_, by rw [List.length_append, List.length_replicate]; have := LZ.out; omega, jt G1.out (gb_new G0.out g2 (fun i hi => by cases hi; exact Nat.le_refl _))⟩
  exact (Eqv.of_eq p fun z => by rw [ev_append, ev_zeros, List.length_replicate, Int.zero_add]).trans ((Eqv.refl p (fun z => z ^ k)).mul EZ.out (isP_pow k) (EZ.out.isP (isP_ev _)))
theorem rDeg_c (w : World) (v : Value) (xs : List Int) (p : Int) (hp : 0 < p) (hp' : p < 4611686018427387904) (hv : Sl w v xs) (hl : xs.length ≤ 1000000) :
  Calls Tryz.prog 20 #[v, .int .u64 p] w fun e w' => ∃ zs, e = .returned (.int .i64 ((zs.length : Int) - 1)) ∧ Nf p zs ∧ Eqv p (ev zs) (ev xs) ∧ zs.length ≤ xs.length ∧ w.grownBy w' none := by
 have NM := lk (rNorm_c w v xs p hp hp' hv hl)
 clear hv
 go_enter Tryz.func20, Tryz.ntmps20
 go_wp2_with fail
 refine (NM.out).mono ?_
 rintro e w1 ⟨x1, rfl, ⟨zs, ow, nz, ez, lz⟩, g1⟩
 obtain ⟨A, ca, rfl, hca, hcm⟩ := ow.fm
 have K := lk (And.intro nz (And.intro ez (And.intro lz g1)))
 obtain ⟨n, hn⟩ : ∃ n, n = zs.length := ⟨_, rfl⟩
 have hn2 : n ≤ 1000000 := by omega
 have HN := lk hn
 rw [← hn]
 clear NM ow nz ez lz g1 hn
 go_wp2
 go_ret
 exact ⟨zs, by rw [← HN.out]; rfl, K.out.1, K.out.2.1, K.out.2.2.1, K.out.2.2.2⟩
theorem rDivMod_c (w : World) (u v : Value) (xs ys zb : List Int) (p : Int) (hp3 : 3 ≤ p) (hp' : p < 4611686018427387904) (hF : ∀ x, 0 < x → x < p → Int.gcd p x = 1) (hu : Sl w u xs) (hv : Sl w v ys) (hl : xs.length ≤ 4000) (hl2 : ys.length ≤ 4000) (nb : Nf p zb) (eb : Eqv p (ev zb) (ev ys)) (lb : 0 < zb.length) :
  Calls Tryz.prog 21 #[u, v, .int .u64 p] w fun e w' => ∃ vq vr zq zr, e = .returned (.tuple #[vq, vr]) ∧ (Sl w' vq zq ∧ Nf p zq) ∧ (Sl w' vr zr ∧ Nf p zr) ∧ zr.length < zb.length ∧ zq.length ≤ xs.length + 1 ∧ Eqv p (ev xs) (fun x => ev zq x * ev zb x + ev zr x) ∧ w.grownBy w' none := by
 have hp : 0 < p := by omega
 have N1 := lk (rNorm_c w u xs p hp hp' hu (by omega))
 have N2 := lk (fun w1 (g : w.grownBy w1 none) => rNorm_c w1 v ys p hp hp' (hv.grown0 g) (by omega))
 have NB := lk (And.intro nb eb)
 have HF := lk hF
 clear hu hv nb eb hF
 go_enter Tryz.func21, Tryz.ntmps21
 go_wp2_with fail
 refine (N1.out).mono ?_
 rintro e w1 ⟨x1, rfl, ⟨za, oa, na, ea, la⟩, g1⟩
 go_wp2_with fail
 refine (N2.out w1 g1).mono ?_
 rintro e w2 ⟨x2, rfl, ⟨zb', ob, nb', eb', lb'⟩, g2⟩
 obtain rfl := nb'.one NB.out.1 hp eb' NB.out.2
 have G2 := lk (jt g1 g2)
 have SA := lk (oa.sl.grown0 g2)
 have SB := lk ob.sl
 have NA := lk (And.intro na (And.intro ea la))
 obtain ⟨A, ca, rfl, hca, hca2⟩ := oa.fm
 obtain ⟨B, cb, rfl, hcb, hcb2⟩ := ob.fm
 obtain ⟨b, o, hB, hci⟩ := ob.sl.at (zb'.length - 1) (by omega)
 have c0 := nb'.rd hp (zb'.length - 1)
 have ct : rd zb' (zb'.length - 1) ≠ 0 := Nz.top nb'.z lb
 obtain ⟨t, ht⟩ : ∃ t, t = rd zb' (zb'.length - 1) := ⟨_, rfl⟩
 rw [← ht] at hci c0 ct
 have HT := lk ht
 have IV := lk (fun w3 => refInv_c w3 p t hp3 (by omega) c0.1)
 have GC := lk (HF.out t (by omega) c0.2)
 obtain ⟨n, hn⟩ : ∃ n, n = za.length := ⟨_, rfl⟩
 obtain ⟨m, hm⟩ : ∃ n, n = zb'.length := ⟨_, rfl⟩
 have n4 : n ≤ 4000 := by omega
 have m4 : m ≤ 4000 := by omega
 rw [← hn] at hca SA ⊢
 rw [← hm] at hcb SB lb hci ⊢
 have LN := lk hn
 have LM := lk hm
 obtain ⟨m', hm'⟩ : ∃ k, m = k + 1 := ⟨m - 1, by omega⟩
 have e0 : m - 1 = m' := by omega
 rw [e0] at hci
 have em : (m : Int) - 1 = (m' : Int) := by omega
 have hmm : m' < m := by omega
 have HM := lk hm'
 subst hB
 clear N1 N2 g1 g2 oa ob nb' eb' lb' na ea la hn hm ht hm' e0
 go_wp2_with fail
 refine (IV.out w2).mono ?_
 rintro e w3 ⟨⟨c, f, rfl, io⟩, g3⟩
 obtain ⟨rfl, i0, i1, ic⟩ := io.is GC.out
 have IC := lk ic
 have G3 := lk (jt G2.out g3)
 have SA3 := lk (SA.out.grown0 g3)
 have SB3 := lk (SB.out.grown0 g3)
 clear io ic g3 hci SA SB IV
 by_cases hlt : n < m
 ·clear em
  go_wp2
  go_ret2
  refine ⟨_, _, [], za, rfl, ⟨sl_none _, nf_nil p⟩, ⟨SA3.out, NA.out.1⟩, by rw [← LN.out, ← LM.out]; exact hlt, by simp, NA.out.2.1.symm.fn fun x => by simp [ev], G3.out⟩
 ·obtain ⟨q, hq⟩ : ∃ q, q = n - m + 1 := ⟨_, rfl⟩
  have eq : (n : Int) - (m : Int) + 1 = (q : Int) := by omega
  have mk := make64 25 (by kernel_rfl) q q (q : Int) (q : Int) (by omega) (by omega) (by omega) (by omega)
  have OW := lk (own_made w3 w3.heap.size q q (Nat.le_refl _) (by omega) (by omega))
  have G0 := lk (ju (jr w3 none) (Obj.cells (madeCells #[.int .u64 0] q) 24))
  have R0 := lk (Rd.start (zb := zb') hp NA.out.1)
  have HQ := lk hq
  have n0 : 0 < n := by omega
  rw [← LN.out, ← LM.out, ← hq] at R0
  clear hq
  go_wp2
  clear mk eq hlt
  go_loopw [8] (fun v8 wr => ∃ (r qs : List Int) (xv : Value), xv = v8 ∧ (Sl wr xv r ∧ ∀ b, xv.ownBlock = some b → b ≠ w3.heap.size) ∧ Rd p za zb' r qs ∧ Own wr w3.heap.size (.slice (some ⟨w3.heap.size, 0, none⟩) q q) qs ∧ w3.grownBy wr none) (fun v8 _ => slenP v8)
  case atStart => exact ⟨za, _, _, rfl, ⟨SA3.out.grown0 G0.out, fun b hb e => by
   obtain ⟨b', h1, h2⟩ := SA3.out.lt (by have := LN.out; omega)
   rw [hb] at h1
   cases h1
   omega⟩, R0.out, OW.out, G0.out⟩
  case round =>
   clear OW G0 R0 SA3
   obtain ⟨r, qs, xv, rfl, ⟨sr, hob⟩, rr, ow, G⟩ := hrel
   obtain ⟨wq, rfl⟩ : ∃ wq : World, wq = wr := ⟨_, rfl⟩
   obtain ⟨R, cr, rfl, hcr, hcr2⟩ := sr.form
   have RR := lk rr
   have OW := lk ow
   have GG := lk G
   have SR := lk sr
   have OB := lk hob
   have hrn : r.length ≤ n := by rw [LN.out]; exact rr.lr
   obtain ⟨l, hl⟩ : ∃ l, l = r.length := ⟨_, rfl⟩
   rw [← hl] at hcr hrn SR ⊢
   have LR := lk hl
   clear rr ow G sr hl hob
   by_cases hge : m ≤ l
   ·obtain ⟨k, hk⟩ : ∃ k, k + m = l := ⟨l - m, by omega⟩
    obtain ⟨l', hl'⟩ : ∃ k, l = k + 1 := ⟨l - 1, by omega⟩
    have ek : (l : Int) - (m : Int) = (k : Int) := by omega
    have ek1 : (l : Int) - 1 = (l' : Int) := by omega
    have hll : l' < l := by omega
    have kq : k < q := by have := HQ.out; omega
    obtain ⟨b, o, rfl, hcx⟩ := SR.out.at l' (by rw [← LR.out]; omega)
    have x0 := (rd_w SR.out.ws l').1
    have HK := lk (And.intro hk hl')
    obtain ⟨x, hx⟩ : ∃ x, x = rd r l' := ⟨_, rfl⟩
    rw [← hx] at hcx x0
    have HX := lk hx
    have ML := lk (refMul_c wq p x c hp (by omega) x0 i0)
    clear hx hk hl'
    go_wp2_with fail
    refine (ML.out).mono ?_
    rintro e w4 ⟨rfl, g4⟩
    have mm := mod_nn (x := x * c) hp
    obtain ⟨z, hz⟩ : ∃ z, z = x * c % p := ⟨_, rfl⟩
    rw [← hz] at mm ⊢
    have HZ := lk hz
    have OW4 := lk (OW.out.grown0 g4)
    have fr := OW4.out.free k
    have ce := OW4.out.cell k (by rw [RR.out.lq, ← LN.out, ← LM.out, ← HQ.out]; exact kq)
    have OW5 := lk (OW4.out.store k mm.1 (by omega))
    have G5 := lk (gb_set (p := ⟨w3.heap.size, k, none⟩) (jt GG.out g4) (Nat.le_refl _) (.int .u64 z))
    have ce5 := OW5.out.cell k (by rw [List.length_set, RR.out.lq, ← LN.out, ← LM.out, ← HQ.out]; exact kq)
    rw [rd_set_self (by rw [RR.out.lq, ← LN.out, ← LM.out, ← HQ.out]; exact kq)] at ce5
    have SR5 := lk ((SR.out.grown0 g4).grown (gb_rowC (jr w4 (some w3.heap.size)) k (.int .u64 z)) (fun b hb => by simpa using OB.out b hb))
    have SC := lk (rScale_c (w4.setCell ⟨w3.heap.size, k, none⟩ (.int .u64 z)) _ zb' z p hp hp' mm.1 (SB3.out.grown0 G5.out) (by have := LM.out; omega))
    clear g4 OW OW4 ML hz
    go_wp2_with fail
    refine (SC.out).mono ?_
    rintro e w6 ⟨x6, rfl, ⟨z6, o6, n6, e6, l6⟩, g6⟩
    have SH := lk (rShift_c w6 x6 z6 k p hp hp' o6.sl (by have := LM.out; omega) (by omega))
    have G6 := lk (jt G5.out g6)
    have OW6 := lk (OW5.out.grown0 g6)
    have HG6 := lk g6
    have E6 := lk (And.intro e6 l6)
    clear SC o6 n6 e6 l6 g6 OW5 G5
    go_wp2_with fail
    refine (SH.out).mono ?_
    rintro e w7 ⟨x7, z7, rfl, s7, e7, l7, g7⟩
    have G7 := lk (jt G6.out g7)
    have OW7 := lk (OW6.out.grown0 g7)
    have SU := lk (rSub_c w7 _ x7 r z7 p hp hp' ((SR5.out.grown0 HG6.out).grown0 g7) s7 (by have := LR.out; omega) (by have := E6.out.2; have := LM.out; omega))
    have E7 := lk (And.intro e7 l7)
    have sz7 : w3.heap.size < w7.heap.size := by
     have := (OW7.out.base_le).2
     omega
    have SZ := lk sz7
    clear SH s7 e7 l7 g7 sz7 OW6 G6
    go_wp2_with fail
    refine (SU.out).mono ?_
    rintro e w8 ⟨x8, rfl, ⟨z8, o8, n8, e8, l8⟩, g8⟩
    have ST := RR.out.step (r' := z8) hp (by rw [← LM.out]; exact lb) (by rw [← LM.out, ← LR.out]; exact HK.out.1) (by rw [← HT.out]; exact IC.out) (v := z) (by rw [← LR.out, show l - 1 = l' by have := HK.out; omega, ← HX.out]; exact HZ.out) n8 (by have := E7.out.2; have := E6.out.2; have := HK.out.1; have := LM.out; have := LR.out; omega) (e8.trans ((Eqv.refl p (ev r)).sub (E7.out.1.trans ((Eqv.refl p (fun x => x ^ k)).mul E6.out.1 (isP_pow k) ((isP_ev zb').scl z)))))
    have O8 := lk o8
    have G8 := lk (jt G7.out g8)
    have OW8 := lk (OW7.out.grown0 g8)
    have S8 := lk ST
    clear SU o8 n8 e8 l8 g8 ST OW7 G7
    obtain ⟨A8, c8, rfl, hc8, hc82⟩ := O8.out.fm
    go_wp2
    go_roundw
    case rel => exact ⟨z8, _, _, rfl, ⟨O8.out.sl, fun b hb e => by have := (O8.out.lt b hb).1; have := SZ.out; omega⟩, S8.out.2, OW8.out, G8.out⟩
    case measure => simp only [slenP]; have := S8.out.1; have := LR.out; omega
   ·clear em
    have NQ := lk (rNorm_c wq _ qs p hp hp' OW.out.sl (by rw [RR.out.lq]; have := LN.out; omega))
    go_wp2_with fail
    refine (NQ.out).mono ?_
    rintro e w4 ⟨x4, rfl, ⟨zq, oq, nq, eq, lq⟩, g4⟩
    go_wp2
    go_ret2
    refine ⟨_, _, zq, r, rfl, ⟨oq.sl, nq⟩, ⟨SR.out.grown0 g4, RR.out.nr⟩, by rw [← LR.out, ← LM.out]; omega, by rw [RR.out.lq] at lq; have := NA.out.2.2; omega, ?_, jt G3.out (jt GG.out g4)⟩
    exact NA.out.2.1.symm.trans (RR.out.e.trans ((eq.symm.mul (Eqv.refl p (ev zb')) (isP_ev qs) (isP_ev zb')).add (Eqv.refl p (ev r))))
end Go.Proofs.YtgalbnkcijmnnaaGreatDoor
namespace Go.Proofs.YtgalbnkcijmnnaaGreatDoor
open Go.RowKit Go.Deep Go.ChangeShapes Go.WideShapes
theorem open_rows {H : Type} {enc : TypeId × Value → H} {w : World} {base b0 : Nat} {held : Bool} {r : Reach} {v : Value} {d : DataW H} {ps : List MemPlace} (hval : Value.okWide Tryz.prog w r b0 26 v)
  (hd : DataW.Trod enc Tryz.prog w base (fun _ => true) held 26 v d ps) : ∃ n V X, Pts w v n V X := by
 obtain ⟨a, len, cap, rfl⟩ := okWide_slice Tryz.underlying26 hval
 obtain ⟨fuel, hf⟩ := hd
 rcases open_int_rows Tryz.underlying26 Tryz.underlying25 Tryz.underlying24 (by kernel_rfl) (by kernel_rfl) hf with ⟨hcs, _⟩ | ⟨x, l, c, A, L, C, Z, hcs, _, hl, hm, _, hall⟩
 ·simp [Value.cells] at hcs
  obtain ⟨rfl, rfl, rfl⟩ := hcs
  exact ⟨0, fun _ => undef, fun _ => [], cells_none _ _ _, fun j hj => by omega⟩
 ·simp [Value.cells] at hcs
  obtain ⟨rfl, rfl, rfl⟩ := hcs
  refine ⟨len, fun j => .slice (A j) (L j) (C j), fun j => (Z j).take (L j), cells_of hl hm (by decide) (fun j hj => (hall j (by omega)).1), fun j hj => ?_⟩
  obtain ⟨_, h1, h2, h3, h4, h5, h6⟩ := hall j (by omega)
  cases hA : A j with
  | none =>
   have hc := h5 hA
   have hl0 : L j = 0 := by omega
   rw [hc, hl0, List.take_zero]
   exact sl_none _
  | some y =>
   exact sl_of_cells h1 h2 h3 (fun i hi => (h6 y hA).2 i (by omega)) h4
end Go.Proofs.YtgalbnkcijmnnaaGreatDoor
namespace Go.Proofs.YtgalbnkcijmnnaaGreatDoor
open Go.RowKit
theorem DM.none {w : World} {base : Nat} {p : Int} {xs ys : List Int} {vq vr : Value} {err : Int} (h : DM w base p xs ys vq vr err) (hp : 0 < p) (eb : Eqv p (ev []) (ev ys)) : err = 2 ∧ vq = .slice none 0 0 ∧ vr = .slice none 0 0 := by
 obtain ⟨zb, n1, e1, l1, h4⟩ := h
 obtain rfl := n1.one (nf_nil p) hp e1 eb
 rcases h4 with ⟨_, a, b, c⟩ | ⟨h, _⟩
 ·exact ⟨c, a, b⟩
 ·simp at h
theorem div_two {p : Nat} (hp : Pri p) {b q r q' r' : List Int} {F : Int → Int} (nb : Nf p b) (lb : 0 < b.length) (nq : Nf p q) (nr : Nf p r) (nq' : Nf p q') (nr' : Nf p r') (lr : r.length < b.length) (lr' : r'.length < b.length)
  (e : Eqv p F (fun x => ev q x * ev b x + ev r x)) (e' : Eqv p F (fun x => ev q' x * ev b x + ev r' x)) : q = q' ∧ r = r' := by
 have hp0 : (0 : Int) < p := by have := hp.1; omega
 have U := div_uniq hp (isP_ev q) (isP_ev q') nb lb lr lr' e e'
 exact ⟨nq.ext nq' hp0 U.1, nr.ext nr' hp0 U.2⟩
theorem nfs_exist {p : Int} (hp : 0 < p) (X : Nat → List Int) : ∃ Z : Nat → List Int, ∀ j, Nf p (Z j) ∧ Eqv p (ev (Z j)) (ev (X j)) :=
 ⟨fun j => trimZ ((X j).map (· % p)), fun j => ⟨nf_trim (fun c hc => by
  obtain ⟨d, _, rfl⟩ := List.mem_map.1 hc
  exact mod_nn hp), eqv_trim (eqv_mod p (X j))⟩⟩
theorem PdivRems_walk (t : Tb) (k : Int) (va : Value) (al0 : List Int) (vb : Value) (bl0 : List Int) (vl : Value) (r : Nat) (V0 : Nat → Value) (X0 : Nat → List Int) (even : Bool) (w : World) (hk : 0 ≤ k ∧ k < 18446744073709551616) (ha : Sl w va al0) (hb : Sl w vb bl0) (hv : Pts w vl r V0 X0) (hd : Db w) :
  Calls Tryz.prog 3 #[t.v, .int .u64 k, va, vb, vl, .bool even] w fun e w' => e = .returned (.bool true) ∧ w.grownBy w' none := by
 have C0 := cs_new w #[.int .i64 t.eb, .int .i64 t.et, .int .i64 t.en, .int .i64 t.ed, .int .i64 t.er, .int .i64 t.el, .int .i64 t.ex, .int .i64 t.ep, .int .i64 t.ek, .int .i64 t.es, .int .i64 t.ee] 23
 have hg := ju (jr w none) (Obj.cells #[.int .i64 t.eb, .int .i64 t.et, .int .i64 t.en, .int .i64 t.ed, .int .i64 t.er, .int .i64 t.el, .int .i64 t.ex, .int .i64 t.ep, .int .i64 t.ek, .int .i64 t.es, .int .i64 t.ee] 23)
 have HG := lk hg
 have HC0 := lk C0
 clear C0 hg
 have CA := lk (cut_c _ va al0 24 (by decide) (ha.grown0 HG.out))
 have CB := lk (cut_c _ vb bl0 12 (by decide) (hb.grown0 HG.out))
 have CL := lk (cuts_c _ 8 r 6 vl V0 X0 (hv.grown0 HG.out) (by decide) (by decide))
 have EG := lk (fun w1 h => engine25_c w1 t k hk h)
 have HD := lk hd
 clear ha hb hv hd
 go_enter Tryz.func3, Tryz.ntmps3
 go_wp2_with fail
 refine (CA.out).mono ?_
 rintro e w1 ⟨u, rfl, s1, hw⟩
 subst hw
 go_wp2_with fail
 refine (CB.out).mono ?_
 rintro e w1 ⟨v, rfl, s2, hw⟩
 subst hw
 go_wp2_with fail
 refine (CL.out).mono ?_
 rintro e w1 ⟨y, rfl, s3, g1⟩
 have LA := cut_len al0 24
 have LB := cut_len bl0 12
 obtain ⟨xs, hxs⟩ : ∃ xs, xs = al0.take 24 := ⟨_, rfl⟩
 obtain ⟨ys, hys⟩ : ∃ xs, xs = bl0.take 12 := ⟨_, rfl⟩
 rw [← hxs] at s1 LA
 rw [← hys] at s2 LB
 obtain ⟨n, hn⟩ : ∃ n, n = min r 6 := ⟨_, rfl⟩
 have hn6 : n ≤ 6 := by omega
 rw [← hn] at s3
 obtain ⟨V, hV⟩ : ∃ V, V = fun j => cutV (V0 j) 8 := ⟨_, rfl⟩
 obtain ⟨X, hX⟩ : ∃ X, X = fun j => (X0 j).take 8 := ⟨_, rfl⟩
 rw [← hV, ← hX] at s3
 have LX : Hid (∀ j, (X j).length ≤ 8) := lk (fun j => by rw [hX]; exact cut_len _ _)
 have G1 := lk (jt HG.out g1)
 have S1 := lk (s1.grown0 g1)
 have S2 := lk (s2.grown0 g1)
 have S3 := lk s3
 have HC1 := lk (HC0.out.grown0 g1)
 have E1 := lk (EG.out _ (HD.out.grown0 G1.out))
 clear s1 s2 s3 CA CB CL hxs hys hn hV hX g1 HC0
 have c0 := HC1.out.cell 0 rfl
 have c1 := HC1.out.cell 1 rfl
 have c2 := HC1.out.cell 2 rfl
 have c3 := HC1.out.cell 3 rfl
 have c4 := HC1.out.cell 4 rfl
 have c5 := HC1.out.cell 5 rfl
 have c6 := HC1.out.cell 6 rfl
 have c7 := HC1.out.cell 7 rfl
 have c8 := HC1.out.cell 8 rfl
 have c9 := HC1.out.cell 9 rfl
 have c10 := HC1.out.cell 10 rfl
 go_wp2_with fail
 refine (E1.out).mono ?_
 rintro e w2 ⟨p, d, g, I, rfl, pm, hpk, pq, hg, g2⟩
 clear c0 c1 c2 c3 c4 c5 c6 c7 c8 c9 c10
 have G2 := lk (jt G1.out g2)
 have PQ := lk pq
 have HI := lk (Nat.le_trans G1.out.size hg)
 have HPR := lk (pri12 p hpk.1)
 have HFL := lk (fld hpk.1)
 have T1 := lk (S1.out.grown0 g2)
 have T2 := lk (S2.out.grown0 g2)
 have T3 := lk (S3.out.grown0 g2)
 obtain ⟨P, hP⟩ : ∃ P : Int, P = (p : Int) := ⟨_, rfl⟩
 have PB : Hid (3 ≤ P ∧ P < 4611686018427387904) := lk (by rw [hP]; exact ⟨pm.lo, pm.hi⟩)
 have P0 : Hid (0 < P) := lk (by have := PB.out; omega)
 have HPP := lk hP
 rw [← hP] at HFL PQ ⊢
 have WK := lk (fun w11 (k : w.grownBy w11 none) => wakes25_c w11 (HD.out.grown0 k))
 obtain ⟨zb, nzb, ezb⟩ := nf_exists P0.out (isP_ev ys)
 obtain ⟨Z, hZ⟩ := nfs_exist P0.out X
 have NB := lk (And.intro nzb ezb)
 have HZ := lk hZ
 clear pm pq hg g2 E1 EG HC1 S1 S2 S3 hpk hP nzb ezb hZ
 go_upto_if 39 with fail
 go_cut [2] from 39 to 43 (fun v2 wx => ∃ zs, Sl wx v2 zs ∧ zs.length ≤ 36 ∧ w2.grownBy wx none)
 case first =>
  cases even
  ·go_wp2_with fail
   go_meet
   exact ⟨xs, T1.out, by omega, jr _ _⟩
  ·have ML := lk (rMul_c w2 u v xs ys P PB.out.1 PB.out.2 T1.out T2.out (by omega))
   go_wp2_with fail
   refine (ML.out).mono ?_
   rintro e w3 ⟨x3, rfl, ⟨z3, o3, n3, e3, l3⟩, g3⟩
   go_wp2_with fail
   go_meet
   exact ⟨z3, o3.sl, by omega, g3⟩
 case rest =>
  obtain ⟨zs, sz, lz, gz⟩ := hcut
  obtain ⟨w3, rfl⟩ : ∃ W : World, W = wc := ⟨_, rfl⟩
  obtain ⟨A, cA, rfl, hA, _⟩ := sz.form
  have SZ := lk sz
  have G3 := lk (jt G2.out gz)
  have P3 := lk (PQ.out.grown0 gz)
  have Y3 := lk (T2.out.grown0 gz)
  have L3 := lk (T3.out.grown0 gz)
  obtain ⟨l, hl⟩ : ∃ l, l = zs.length := ⟨_, rfl⟩
  rw [← hl] at hA lz SZ ⊢
  have LL := lk hl
  clear sz gz PQ T1 T2 T3 hl
  have A1 := lk (pexact_c t.clamp_ok P HFL.out d g I w3 0 _ (.slice A l cA) v zs ys P3.out (HD.out.grown0 G3.out) (by decide) SZ.out Y3.out (by have := LL.out; omega) (by omega))
  go_wp2_with fail
  refine (A1.out).mono ?_
  rintro e w4 ⟨x4, e4, a4, c4, rfl, xm, p4, ha4, g4⟩
  have G4 := lk (gb_new G3.out g4 (fun i hi => by cases hi; exact HI.out))
  have P4 := lk p4
  have A4 := lk ha4
  have XX := lk xm
  have Z4 := lk (P3.out.q.sl SZ.out g4)
  have Y4 := lk (P3.out.q.sl Y3.out g4)
  have L4 := lk (P3.out.q.ptsA L3.out g4)
  clear A1 xm p4 ha4 g4 P3 SZ L3 Y3
  obtain ⟨B, cB, rfl, hB, _, _⟩ := L4.out.c
  go_upto_block 0 with fail
  go_cut [16] from 51 to 96 (fun _ wx => w4.grownBy wx none)
  case first =>
   have DG := lk (rDeg_c w4 v ys P P0.out PB.out.2 Y4.out (by omega))
   go_wp2_with fail
   refine (DG.out).mono ?_
   rintro e w5 ⟨yb, rfl, nb, eb, -, g5⟩
   obtain rfl := nb.one NB.out.1 P0.out eb NB.out.2
   have G5 := lk g5
   have Z5 := lk (Z4.out.grown0 g5)
   have Y5 := lk (Y4.out.grown0 g5)
   obtain ⟨m, hm⟩ : ∃ m, m = yb.length := ⟨_, rfl⟩
   rw [← hm]
   have LM := lk hm
   obtain ⟨zb', n1, e1, h4⟩ := XX.out
   obtain rfl := n1.one NB.out.1 P0.out e1 NB.out.2
   clear DG nb eb g5 n1 e1 XX hm
   rcases h4 with ⟨rfl, rfl, rfl⟩ | ⟨hb, zq, zr, ⟨nq, nr, lr, er⟩, h4⟩
   ·have hm : m = 0 := LM.out
    subst hm
    go_wp2_with fail
    go_meet
    exact G5.out
   ·have m1 : 0 < m := by have := LM.out; omega
    have RD := lk (rDivMod_c w5 (.slice A l cA) v zs ys zb' P PB.out.1 PB.out.2 HFL.out Z5.out Y5.out (by have := LL.out; omega) (by omega) NB.out.1 NB.out.2 hb)
    have K := lk (And.intro (And.intro nq nr) (And.intro (And.intro lr hb) er))
    have H4 := lk h4
    clear nq nr lr er hb h4
    go_wp2_with fail
    refine (RD.out).mono ?_
    rintro e w6 ⟨vq, vr, yq, yr, rfl, ⟨sq, mq⟩, ⟨sr, mr⟩, ls, -, es, g6⟩
    have U8 : zq = yq ∧ zr = yr := by
     have k1 := NB.out.1
     obtain ⟨⟨k2, k3⟩, ⟨k4, k6⟩, k5⟩ := K.out
     rw [HPP.out] at k1 k2 k3 k5 mq mr es
     exact div_two HPR.out k1 k6 k2 k3 mq mr k4 ls k5 es
    obtain ⟨rfl, rfl⟩ := U8
    obtain ⟨B', cB', rfl, hB', _⟩ := sr.form
    have G6 := lk (jt G5.out g6)
    rcases H4.out with ⟨rfl, rfl, h4⟩ | ⟨h0, rfl, rfl⟩
    ·have SM := lk (same_c w6 vq x4 zq zq sq (h4.grown0 G6.out))
     rw [decide_eq_true rfl] at SM
     clear RD sq mq sr mr ls es g6 h4 H4
     go_wp2_with fail
     refine (SM.out).mono ?_
     rintro e w7 ⟨rfl, g7⟩
     go_wp2_with fail
     go_meet
     exact jt G6.out g7
    ·obtain ⟨q, hq⟩ : ∃ q, q = zr.length := ⟨_, rfl⟩
     rw [← hq] at h0 hB' ⊢
     clear RD sq mq sr mr ls es g6 hq H4
     go_wp2_with fail
     go_meet
     exact G6.out
  case rest =>
   have P4 := lk (P4.out.grown0 hcut)
   have G4 := lk (jt G4.out hcut)
   have Z4 := lk (Z4.out.grown0 hcut)
   have L4 := lk (L4.out.grown0 hcut)
   obtain ⟨w4, rfl⟩ : ∃ W : World, W = wc := ⟨_, rfl⟩
   obtain ⟨a', rfl⟩ : ∃ x, x = a4 := ⟨_, rfl⟩
   obtain ⟨c', rfl⟩ : ∃ x, x = c4 := ⟨_, rfl⟩
   clear hcut XX Y4
   have L5 := lk (fun w5 (k : w4.grownBy w5 (some I.gm)) => P4.out.q.ptsA L4.out k)
   have DGR := lk (fun w5 (k : w4.grownBy w5 (some I.gm)) j (hj : j < n) => rDeg_c w5 (V j) (X j) P P0.out PB.out.2 ((L5.out w5 k).s j hj) (by have := LX.out j; omega))
   by_cases hz : ∃ j, j < n ∧ Z j = []
   ·obtain ⟨j0, hj0, hzj⟩ := hz
    have RM := lk (prem_zero_c _ P d g I w4 a' c' (.slice A l cA) (.slice B n cB) n j0 V X P4.out L4.out (fun j _ => by have := LX.out j; omega) hj0 (by rw [← hzj]; exact (HZ.out j0).2))
    have HZJ := lk hzj
    clear hzj
    go_wp2_with fail
    refine (RM.out).mono ?_
    rintro e w5 ⟨rfl, g5⟩
    have G5 := lk (jt G4.out g5)
    have GQ := lk g5
    clear RM g5
    go_wp2
    go_loopw [21] (fun v21 wr => ∃ i : Nat, v21 = .int .i64 i ∧ i ≤ j0 ∧ w5.grownBy wr none) (fun v21 _ => n - (intOf v21).toNat)
    case atStart => exact ⟨0, rfl, by omega, jr _ _⟩
    case round =>
     obtain ⟨i, rfl, hi, G⟩ := hrel
     obtain ⟨wq, rfl⟩ : ∃ wq : World, wq = wr := ⟨_, rfl⟩
     have hin : i < n := by omega
     have GG := lk (jn (jt GQ.out G) (some I.gm))
     have GW := lk (jt G5.out G)
     have GR := lk G
     obtain ⟨bA, oA, rfl, c0⟩ := (L5.out wq GG.out).at i hin
     have DG := lk (DGR.out wq GG.out i hin)
     obtain ⟨Vi, hVi⟩ : ∃ z, z = V i := ⟨_, rfl⟩
     rw [← hVi] at c0 DG
     clear hVi G
     go_wp2_with fail
     refine (DG.out).mono ?_
     rintro e w6 ⟨yb, rfl, nb, eb, -, g6⟩
     obtain rfl := nb.one (HZ.out i).1 P0.out eb (HZ.out i).2
     have G6 := lk (jt GW.out g6)
     have GR6 := lk (jt GR.out g6)
     obtain ⟨m, hm⟩ : ∃ m, m = (Z i).length := ⟨_, rfl⟩
     rw [← hm]
     have LM := lk hm
     clear DG nb eb g6 c0 hm
     by_cases m0 : m = 0
     ·subst m0
      go_wp2_with fail
      refine (WK.out _ G6.out).mono ?_
      rintro e w7 ⟨rfl, g7⟩
      go_wp2
      go_ret
      exact ⟨rfl, jt G6.out g7⟩
     ·have ne : i ≠ j0 := fun e => by
       have h1 := LM.out
       rw [e, HZJ.out] at h1
       exact m0 h1
      go_wp2
      go_roundw
      case rel => exact ⟨i + 1, by go_num, by omega, GR6.out⟩
      case measure => simp [intOf]; omega
   ·have hz' : ∀ j, j < n → 0 < (Z j).length := fun j hj => List.length_pos_iff.2 (fun e => hz ⟨j, hj, e⟩)
    have HZP := lk hz'
    have RM := lk (prem_ok_c t.clamp_ok P HFL.out d g I w4 a' c' (.slice A l cA) (.slice B n cB) zs n V X Z P4.out (HD.out.grown0 G4.out) (by have := A4.out; omega) Z4.out (by have := LL.out; omega) L4.out (by omega) (fun j _ => by have := LX.out j; omega) (fun j hj => ⟨(HZ.out j).1, (HZ.out j).2, hz' j hj⟩))
    clear hz hz'
    go_wp2_with fail
    refine (RM.out).mono ?_
    rintro e w5 ⟨o, vs, rs, rfl, hvs, ow, hr, g5⟩
    have PT := lk (ow.pts hvs (X := rs) (fun j hj => (hr j hj).1))
    have HR := lk (fun j hj => (hr j hj).2)
    obtain ⟨O, cO, rfl, hO, _, _⟩ := PT.out.c
    have GM := lk g5
    have G5 := lk (gb_new G4.out g5 (fun i hi => by cases hi; exact HI.out))
    have Z5 := lk (P4.out.q.sl Z4.out g5)
    have L5' := lk (L5.out w5 g5)
    clear RM hvs ow hr g5
    go_wp2
    go_loopw [21] (fun v21 wr => ∃ i : Nat, v21 = .int .i64 i ∧ i ≤ n ∧ w5.grownBy wr none) (fun v21 _ => n - (intOf v21).toNat)
    case atStart => exact ⟨0, rfl, by omega, jr _ _⟩
    case round =>
     obtain ⟨i, rfl, hi, G⟩ := hrel
     obtain ⟨wq, rfl⟩ : ∃ wq : World, wq = wr := ⟨_, rfl⟩
     have GR := lk G
     clear G
     by_cases hin : i < n
     ·have GG := lk (jt GM.out (jn GR.out (some I.gm)))
      obtain ⟨bA, oA, rfl, c0⟩ := (L5.out wq GG.out).at i hin
      have DG := lk (DGR.out wq GG.out i hin)
      have zp := HZP.out i hin
      obtain ⟨Vi, hVi⟩ : ∃ z, z = V i := ⟨_, rfl⟩
      rw [← hVi] at c0 DG
      clear hVi
      go_wp2_with fail
      refine (DG.out).mono ?_
      rintro e w6 ⟨yb, rfl, nb, eb, -, g6⟩
      obtain rfl := nb.one (HZ.out i).1 P0.out eb (HZ.out i).2
      have GR6 := lk (jt GR.out g6)
      obtain ⟨m, hm⟩ : ∃ m, m = (Z i).length := ⟨_, rfl⟩
      rw [← hm] at zp ⊢
      clear DG nb eb g6 c0 hm
      go_wp2
      go_roundw
      case rel => exact ⟨i + 1, by go_num, by omega, GR6.out⟩
      case measure => simp [intOf]; omega
     ·have nn : (n : Int) = (n : Int) := rfl
      clear nn
      go_wp2
      go_loopw [22] (fun v22 wr => ∃ i : Nat, v22 = .int .i64 i ∧ i ≤ n ∧ w5.grownBy wr none) (fun v22 _ => n - (intOf v22).toNat)
      case atStart => exact ⟨0, rfl, by omega, GR.out⟩
      case round =>
       clear hin hi
       obtain ⟨j, rfl, hj, G⟩ := hrel
       obtain ⟨wx, rfl⟩ : ∃ wq : World, wq = wr := ⟨_, rfl⟩
       have GR := lk G
       have GW := lk (jt G5.out G)
       clear G
       by_cases hjn : j < n
       ·obtain ⟨bA, oA, rfl, c0⟩ := (L5'.out.grown0 GR.out).at j hjn
        obtain ⟨bO, oO, rfl, d0⟩ := (PT.out.grown0 GR.out).at j hjn
        have sv := (L5'.out.grown0 GR.out).s j hjn
        have so := (PT.out.grown0 GR.out).s j hjn
        have RD := lk (rDivMod_c wx (.slice A l cA) (V j) zs (X j) (Z j) P PB.out.1 PB.out.2 HFL.out (Z5.out.grown0 GR.out) sv (by have := LL.out; omega) (by have := LX.out j; omega) (HZ.out j).1 (HZ.out j).2 (HZP.out j hjn))
        have rm := HR.out j hjn
        obtain ⟨Vj, hVj⟩ : ∃ z, z = V j := ⟨_, rfl⟩
        obtain ⟨Oj, hOj⟩ : ∃ z, z = vs.getD j undef := ⟨_, rfl⟩
        rw [← hVj] at c0 RD
        rw [← hOj] at d0 so
        have D0 := lk d0
        have SO := lk so
        have RJ := lk rm
        clear hVj hOj sv so rm d0
        go_wp2_with fail
        refine (RD.out).mono ?_
        rintro e w6 ⟨vq, vr, yq, yr, rfl, -, ⟨sr, mr⟩, ls, -, es, g6⟩
        have e6 : yr = rs j := by
         have k1 := Rm.start es mr ls
         have k2 := RJ.out
         have k3 := (HZ.out j).1
         rw [HPP.out] at k1 k2 k3
         exact k1.one HPR.out k3 k2
        subst e6
        have SM := lk (same_c w6 vr Oj (rs j) (rs j) sr (SO.out.grown0 g6))
        rw [decide_eq_true rfl] at SM
        have d1 := gb_cell0 g6 D0.out
        have GR6 := lk (jt GR.out g6)
        clear RD sr mr ls es g6 c0
        go_wp2_with fail
        refine (SM.out).mono ?_
        rintro e w7 ⟨rfl, g7⟩
        have GR7 := lk (jt GR6.out g7)
        clear SM g7 d1
        go_wp2
        go_roundw
        case rel => exact ⟨j + 1, by go_num, by omega, GR7.out⟩
        case measure => simp [intOf]; omega
       ·go_wp2_with fail
        refine (WK.out _ GW.out).mono ?_
        rintro e w7 ⟨rfl, g7⟩
        go_wp2
        go_ret
        exact ⟨rfl, jt GW.out g7⟩
end Go.Proofs.YtgalbnkcijmnnaaGreatDoor
namespace Go.Proofs.YtgalbnkcijmnnaaGreatDoor
open Go.RowKit Go.Deep Go.ChangeShapes Go.WideShapes
theorem tab_cell {H : Type} {enc : TypeId × Value → H} {w : World} {base : Nat} {sp : Nat → Bool} {held : Bool} {cs : List Value} {xs : List (DataW H × List MemPlace)} {n : Nat} (hl : cs.length = 11) (hxs : xs.length = 11) (i : Nat) (hi : i < 11)
  (g : DataW.trod enc Tryz.prog w base sp held n 3 ((cs.drop i).take (Tryz.prog.cellsOf 3)) = xs[i]?) : ∃ z : Int, cs.getD i undef = .int .i64 z := by
 rw [show Tryz.prog.cellsOf 3 = 1 by kernel_rfl, take1_drop cs i undef (by omega), List.getElem?_eq_getElem (by omega)] at g
 obtain ⟨z, hz, _⟩ := DataW.trod_int Tryz.underlying3 g
 exact ⟨z, by simpa using hz⟩
theorem open_tab {H : Type} {enc : TypeId × Value → H} {w : World} {base b0 : Nat} {sp : Nat → Bool} {held : Bool} {r : Reach} {v : Value} {d : DataW H} {ps : List MemPlace} (hval : Value.okWide Tryz.prog w r b0 23 v)
  (hd : DataW.Trod enc Tryz.prog w base sp held 23 v d ps) : ∃ t : Tb, v = t.v := by
 obtain ⟨cs, rfl, hsz⟩ := okWide_struct Tryz.underlying23 hval
 obtain ⟨fuel, hf⟩ := hd
 obtain ⟨xs, n, _, _, hl, hxl, hx⟩ := DataW.trod_struct Tryz.underlying23 hf
 rw [show Tryz.prog.cellsOf 23 = 11 by kernel_rfl] at hsz hl
 have hl' : cs.toList.length = 11 := hl
 have hxl' : xs.length = 11 := hxl
 obtain ⟨z0, h0⟩ := tab_cell hl' hxl' 0 (by decide) (hx 0 _ rfl)
 obtain ⟨z1, h1⟩ := tab_cell hl' hxl' 1 (by decide) (hx 1 _ rfl)
 obtain ⟨z2, h2⟩ := tab_cell hl' hxl' 2 (by decide) (hx 2 _ rfl)
 obtain ⟨z3, h3⟩ := tab_cell hl' hxl' 3 (by decide) (hx 3 _ rfl)
 obtain ⟨z4, h4⟩ := tab_cell hl' hxl' 4 (by decide) (hx 4 _ rfl)
 obtain ⟨z5, h5⟩ := tab_cell hl' hxl' 5 (by decide) (hx 5 _ rfl)
 obtain ⟨z6, h6⟩ := tab_cell hl' hxl' 6 (by decide) (hx 6 _ rfl)
 obtain ⟨z7, h7⟩ := tab_cell hl' hxl' 7 (by decide) (hx 7 _ rfl)
 obtain ⟨z8, h8⟩ := tab_cell hl' hxl' 8 (by decide) (hx 8 _ rfl)
 obtain ⟨z9, h9⟩ := tab_cell hl' hxl' 9 (by decide) (hx 9 _ rfl)
 obtain ⟨z10, h10⟩ := tab_cell hl' hxl' 10 (by decide) (hx 10 _ rfl)
 refine ⟨⟨z0, z1, z2, z3, z4, z5, z6, z7, z8, z9, z10⟩, ?_⟩
 obtain ⟨l⟩ := cs
 have hl11 : l.length = 11 := by simpa using hsz
 match l, hl11 with
 | [a0, a1, a2, a3, a4, a5, a6, a7, a8, a9, a10], _ =>
  obtain rfl : a0 = _ := h0
  obtain rfl : a1 = _ := h1
  obtain rfl : a2 = _ := h2
  obtain rfl : a3 = _ := h3
  obtain rfl : a4 = _ := h4
  obtain rfl : a5 = _ := h5
  obtain rfl : a6 = _ := h6
  obtain rfl : a7 = _ := h7
  obtain rfl : a8 = _ := h8
  obtain rfl : a9 = _ := h9
  obtain rfl : a10 = _ := h10
  rfl
end Go.Proofs.YtgalbnkcijmnnaaGreatDoor
namespace Go.Proofs.YtgalbnkcijmnnaaGreatDoor
theorem nf_len {p : Int} (hp : 0 < p) {a b : List Int} (h : Nf p a) (e : Eqv p (ev a) (ev b)) : a.length ≤ b.length := by
 by_cases g : a.length ≤ b.length
 ·exact g
 ·exfalso
  have c := e.coef (a.length - 1)
  rw [rd_beyond (xs := b) (by omega)] at c
  exact nf_top h hp (by omega) c
theorem nf_muladd_le {p : Int} (hp : 0 < p) {a b c z : List Int} {N : Nat} (h : Nf p z) (e : Eqv p (ev z) (fun x => ev a x * ev b x + ev c x)) (hab : 0 < a.length → 0 < b.length → a.length + b.length ≤ N + 1) (hc : c.length ≤ N) : z.length ≤ N := by
 by_cases la : 0 < a.length
 ·by_cases lb : 0 < b.length
  ·have h1 := nf_len hp h (e.fn (H := ev (padd (pmul a b) c)) fun x => by rw [ev_padd, ev_pmul])
   rw [padd_len, pmul_len a b la lb] at h1
   have := hab la lb
   omega
  ·obtain rfl : b = [] := List.length_eq_zero_iff.1 (by omega)
   have := nf_len hp h (e.fn (H := ev c) fun x => by simp [ev])
   omega
 ·obtain rfl : a = [] := List.length_eq_zero_iff.1 (by omega)
  have := nf_len hp h (e.fn (H := ev c) fun x => by simp [ev])
  omega
theorem quo_len {p : Nat} (hp : Pri p) {c q b r : List Int} (hq : Nf p q) (hb : Nf p b) (lq : 0 < q.length) (lb : 0 < b.length) (lr : r.length < b.length) (e : Eqv p (ev c) (fun x => ev q x * ev b x + ev r x)) : q.length + b.length ≤ c.length + 1 := by
 have hp0 : (0 : Int) < p := by have := hp.1; omega
 by_cases g : q.length + b.length ≤ c.length + 1
 ·exact g
 ·exfalso
  have cf := e.coefF (b := padd (pmul q b) r) (fun x => by rw [ev_padd, ev_pmul]) (q.length - 1 + (b.length - 1))
  rw [rd_padd, rd_pmul, cv_top lq lb, rd_beyond (xs := r) (by omega), rd_beyond (xs := c) (by omega), Int.add_zero] at cf
  rcases pri_mul hp cf.symm with k | k
  ·exact nf_top hq hp0 lq k
  ·exact nf_top hb hp0 lb k
structure Em where
 A : List Int
 B : List Int
 C : List Int
 D : List Int
 c : List Int
 d : List Int
structure Es (p : Int) (t s : Em) (q : List Int) : Prop where
 nq : Nf p q
 nd : Nf p s.d
 l : s.d.length < t.d.length
 e : Eqv p (ev t.c) (fun x => ev q x * ev t.d x + ev s.d x)
 nA : Nf p s.A
 eA : Eqv p (ev s.A) (fun x => ev t.A x * ev q x + ev t.B x)
 nC : Nf p s.C
 eC : Eqv p (ev s.C) (fun x => ev t.C x * ev q x + ev t.D x)
 B : s.B = t.A
 D : s.D = t.C
 c : s.c = t.d
theorem Es.one {p : Nat} (hp : Pri p) {t s s' : Em} {q q' : List Int} (hd : Nf p t.d) (h : Es p t s q) (k : Es p t s' q') : s = s' := by
 have hp0 : (0 : Int) < p := by have := hp.1; omega
 have ld : 0 < t.d.length := by have := h.l; omega
 have U := div_uniq hp (isP_ev q) (isP_ev q') hd ld h.l k.l h.e k.e
 obtain rfl := h.nq.ext k.nq hp0 U.1
 have e1 := h.nd.ext k.nd hp0 U.2
 have e2 := h.nA.one k.nA hp0 h.eA k.eA
 have e3 := h.nC.one k.nC hp0 h.eC k.eC
 obtain ⟨A, B, C, D, c, d⟩ := s
 obtain ⟨A', B', C', D', c', d'⟩ := s'
 have h4 := h.B
 have h5 := h.D
 have h6 := h.c
 have k4 := k.B
 have k5 := k.D
 have k6 := k.c
 simp only at e1 e2 e3 h4 h5 h6 k4 k5 k6
 rw [e1, e2, e3, h4, h5, h6, k4, k5, k6]
def St (p : Int) (m : Nat) (s0 : Em) : Nat → Em → Prop
 | 0, s => s = s0
 | n + 1, s => ∃ t q, St p m s0 n t ∧ m < t.d.length ∧ Es p t s q
structure Ei (p : Int) (a b : List Int) (sg : Int) (s : Em) : Prop where
 nA : Nf p s.A
 nB : Nf p s.B
 nC : Nf p s.C
 nD : Nf p s.D
 nc : Nf p s.c
 nd : Nf p s.d
 sq : sg = 1 ∨ sg = -1
 ea : Eqv p (ev a) (fun x => ev s.A x * ev s.c x + ev s.B x * ev s.d x)
 eb : Eqv p (ev b) (fun x => ev s.C x * ev s.c x + ev s.D x * ev s.d x)
 ec : Eqv p (ev s.c) (fun x => sg * (ev s.D x * ev a x - ev s.B x * ev b x))
 ed : Eqv p (ev s.d) (fun x => sg * (ev s.A x * ev b x - ev s.C x * ev a x))
theorem Ei.start {p : Int} (hp : 1 < p) {a b za zb : List Int} (na : Nf p za) (ea : Eqv p (ev za) (ev a)) (nb : Nf p zb) (eb : Eqv p (ev zb) (ev b)) : Ei p a b 1 ⟨[1], [], [], [1], za, zb⟩ :=
 ⟨nf_one hp, nf_nil p, nf_nil p, nf_one hp, na, nb, .inl rfl, ea.symm.fn fun x => by simp [ev], eb.symm.fn fun x => by simp [ev], ea.fn fun x => by simp [ev], eb.fn fun x => by simp [ev]⟩
theorem ei_algA (F A B q c d r : Int) (K1 K2 K3 p : Int) (h1 : F = A * c + B * d + p * K1) (h2 : c = q * d + r + p * K2) (A' : Int) (h3 : A' = A * q + B + p * K3) : F = A' * d + A * r + p * (K1 + A * K2 - K3 * d) := by
 rw [h1, h3, h2]; grind
theorem ei_algB (sg a b A B C D c d q r K1 K2 K3 A' C' K4 K5 p : Int) (h1 : c = sg * (D * a - B * b) + p * K1) (h2 : d = sg * (A * b - C * a) + p * K2) (h3 : c = q * d + r + p * K3) (h4 : A' = A * q + B + p * K4) (h5 : C' = C * q + D + p * K5) : r = -sg * (A' * b - C' * a) + p * (K1 - q * K2 - K3 + sg * (K4 * b - K5 * a)) := by
 have e : r = c - q * d - p * K3 := by omega
 rw [e, h1, h2, h4, h5]; grind
theorem Ei.step {p : Int} {a b : List Int} {sg : Int} {t s : Em} {q : List Int} (h : Ei p a b sg t) (k : Es p t s q) : Ei p a b (-sg) s := by
 obtain ⟨A, B, C, D, c, d⟩ := s
 have h4 := k.B
 have h5 := k.D
 have h6 := k.c
 simp only at h4 h5 h6
 subst h4 h5 h6
 refine ⟨k.nA, h.nA, k.nC, h.nC, h.nd, k.nd, by rcases h.sq with e | e <;> simp [e], ?_, ?_, ?_, ?_⟩
 ·obtain ⟨K1, i1, e1⟩ := h.ea
  obtain ⟨K2, i2, e2⟩ := k.e
  obtain ⟨K3, i3, e3⟩ := k.eA
  exact ⟨fun x => K1 x + ev t.A x * K2 x - K3 x * ev t.d x, (i1.add ((isP_ev _).mul i2)).sub (i3.mul (isP_ev _)), fun x => ei_algA _ _ _ _ _ _ _ _ _ _ _ (e1 x) (e2 x) _ (e3 x)⟩
 ·obtain ⟨K1, i1, e1⟩ := h.eb
  obtain ⟨K2, i2, e2⟩ := k.e
  obtain ⟨K3, i3, e3⟩ := k.eC
  exact ⟨fun x => K1 x + ev t.C x * K2 x - K3 x * ev t.d x, (i1.add ((isP_ev _).mul i2)).sub (i3.mul (isP_ev _)), fun x => ei_algA _ _ _ _ _ _ _ _ _ _ _ (e1 x) (e2 x) _ (e3 x)⟩
 ·obtain ⟨K, i, e⟩ := h.ed
  exact ⟨K, i, fun x => by rw [e x]; grind⟩
 ·obtain ⟨K1, i1, e1⟩ := h.ec
  obtain ⟨K2, i2, e2⟩ := h.ed
  obtain ⟨K3, i3, e3⟩ := k.e
  obtain ⟨K4, i4, e4⟩ := k.eA
  obtain ⟨K5, i5, e5⟩ := k.eC
  exact ⟨fun x => K1 x - ev q x * K2 x - K3 x + sg * (K4 x * ev b x - K5 x * ev a x), ((i1.sub ((isP_ev q).mul i2)).sub i3).add (((i4.mul (isP_ev b)).sub (i5.mul (isP_ev a))).scl sg), fun x => ei_algB _ _ _ _ _ _ _ _ _ _ _ _ _ _ _ _ _ _ _ (e1 x) (e2 x) (e3 x) (e4 x) (e5 x)⟩
structure El (N : Nat) (s : Em) : Prop where
 ac : s.A.length + s.c.length ≤ N + 1
 bd : s.B.length + s.d.length ≤ N + 1
 cc : s.C.length + s.c.length ≤ N + 1
 dd : s.D.length + s.d.length ≤ N + 1
theorem El.start {N : Nat} {za zb : List Int} (ha : za.length ≤ N) (hb : zb.length ≤ N) : El N ⟨[1], [], [], [1], za, zb⟩ := ⟨by simp; omega, by simp; omega, by simp; omega, by simp; omega⟩
theorem El.step {p : Nat} (hp : Pri p) {N : Nat} {a b : List Int} {sg : Int} {t s : Em} {q : List Int} (h : El N t) (i : Ei p a b sg t) (k : Es p t s q) : El N s ∧ (0 < q.length → q.length + t.d.length ≤ t.c.length + 1) ∧ s.d.length ≤ t.c.length := by
 have hp0 : (0 : Int) < p := by have := hp.1; omega
 obtain ⟨A, B, C, D, c, d⟩ := s
 have h4 := k.B
 have h5 := k.D
 have h6 := k.c
 have hl := k.l
 simp only at h4 h5 h6 hl
 subst h4 h5 h6
 have ql : 0 < q.length → q.length + t.d.length ≤ t.c.length + 1 := fun g => quo_len hp k.nq i.nd g (by omega) hl k.e
 have h1 := h.ac
 have h2 := h.bd
 have h3 := h.cc
 have h4 := h.dd
 have rl : d.length ≤ t.c.length := by
  by_cases g : 0 < q.length
  ·have := ql g; omega
  ·obtain rfl : q = [] := List.length_eq_zero_iff.1 (by omega)
   exact nf_len hp0 k.nd (k.e.fn (H := ev d) fun x => by simp [ev]).symm
 refine ⟨⟨?_, ?_, ?_, ?_⟩, ql, rl⟩
 ·have := nf_muladd_le (N := N + 1 - t.d.length) hp0 k.nA k.eA (fun _ g => by have := ql g; omega) (by omega)
  simp only at this ⊢; omega
 ·simp only; omega
 ·have := nf_muladd_le (N := N + 1 - t.d.length) hp0 k.nC k.eC (fun _ g => by have := ql g; omega) (by omega)
  simp only at this ⊢; omega
 ·simp only; omega
def Euc (p : Int) (m N : Nat) (a b za zb : List Int) (n : Nat) (s : Em) : Prop := St p m ⟨[1], [], [], [1], za, zb⟩ n s ∧ Ei p a b (if n % 2 = 0 then 1 else -1) s ∧ El N s ∧ s.d.length + n ≤ zb.length
theorem Euc.start {p : Int} (hp : 1 < p) {m N : Nat} {a b za zb : List Int} (na : Nf p za) (ea : Eqv p (ev za) (ev a)) (nb : Nf p zb) (eb : Eqv p (ev zb) (ev b)) (ha : za.length ≤ N) (hb : zb.length ≤ N) : Euc p m N a b za zb 0 ⟨[1], [], [], [1], za, zb⟩ :=
 ⟨rfl, Ei.start hp na ea nb eb, El.start ha hb, Nat.le_refl _⟩
theorem Euc.step {p : Nat} (hp : Pri p) {m N : Nat} {a b za zb : List Int} {n : Nat} {t s : Em} {q : List Int} (h : Euc p m N a b za zb n t) (hm : m < t.d.length) (k : Es p t s q) : Euc p m N a b za zb (n + 1) s := by
 obtain ⟨h1, h2, h3, h4⟩ := h
 refine ⟨⟨t, q, h1, hm, k⟩, ?_, (h3.step hp h2 k).1, by have := k.l; omega⟩
 have := h2.step k
 by_cases e : n % 2 = 0
 ·rw [if_pos e] at this
  rw [if_neg (by omega)]
  exact this
 ·rw [if_neg e] at this
  rw [if_pos (by omega)]
  exact this
theorem St.back {p : Int} {m : Nat} {s0 : Em} : ∀ {n' n : Nat} {s' : Em}, St p m s0 n' s' → n < n' → ∃ t, St p m s0 n t ∧ m < t.d.length
 | 0, _, _, _, h => absurd h (by omega)
 | n' + 1, n, s', ⟨t, q, h1, h2, h3⟩, h => by
  by_cases e : n = n'
  ·exact ⟨t, e ▸ h1, h2⟩
  ·exact St.back h1 (by omega)
theorem St.one {p : Nat} (hp : Pri p) {m : Nat} {s0 : Em} (h0 : Nf p s0.d) : ∀ {n : Nat} {s s' : Em}, St p m s0 n s → St p m s0 n s' → s = s' ∧ Nf p s.d
 | 0, s, s', h, k => ⟨Eq.trans (b := s0) h (Eq.symm k), (show s = s0 from h) ▸ h0⟩
 | n + 1, s, s', ⟨t, q, h1, _, h3⟩, ⟨t', q', k1, _, k3⟩ => by
  obtain ⟨rfl, hn⟩ := St.one hp h0 h1 k1
  exact ⟨h3.one hp hn k3, h3.nd⟩
theorem Euc.one {p : Nat} (hp : Pri p) {m N N' : Nat} {a b a' b' za zb : List Int} (hb : Nf p zb) {n n' : Nat} {s s' : Em} (h : Euc p m N a b za zb n s) (k : Euc p m N' a' b' za zb n' s') (e : s.d.length ≤ m) (e' : s'.d.length ≤ m) : n = n' ∧ s = s' := by
 have nn : n = n' := by
  rcases Nat.lt_trichotomy n n' with g | g | g
  ·obtain ⟨t, h1, h2⟩ := k.1.back g
   obtain ⟨rfl, _⟩ := h1.one hp hb h.1
   omega
  ·exact g
  ·obtain ⟨t, h1, h2⟩ := h.1.back g
   obtain ⟨rfl, _⟩ := h1.one hp hb k.1
   omega
 subst nn
 exact ⟨rfl, (h.1.one hp hb k.1).1⟩
theorem Es.next {p : Int} (hp : 0 < p) (t : Em) {q r : List Int} (nq : Nf p q) (nr : Nf p r) (l : r.length < t.d.length) (e : Eqv p (ev t.c) (fun x => ev q x * ev t.d x + ev r x)) : ∃ s, Es p t s q ∧ s.c = t.d ∧ s.d = r ∧ s.B = t.A ∧ s.D = t.C := by
 obtain ⟨A, nA, eA⟩ := nf_exists hp (((isP_ev t.A).mul (isP_ev q)).add (isP_ev t.B))
 obtain ⟨C, nC, eC⟩ := nf_exists hp (((isP_ev t.C).mul (isP_ev q)).add (isP_ev t.D))
 exact ⟨⟨A, t.A, C, t.C, t.d, r⟩, ⟨nq, nr, l, e, nA, eA, nC, eC, rfl, rfl, rfl⟩, rfl, rfl, rfl, rfl⟩
def Dv (p : Int) (b : List Int) (F : Int → Int) : Prop := ∃ s, IsP s ∧ Eqv p F (fun x => s x * ev b x)
def Asc (p : Int) (a b : List Int) : Prop := Dv p b (ev a) ∧ Dv p a (ev b)
theorem Dv.refl (p : Int) (a : List Int) : Dv p a (ev a) := ⟨fun _ => 1, isP_const 1, Eqv.of_eq p fun x => by simp⟩
theorem Asc.refl (p : Int) (a : List Int) : Asc p a a := ⟨Dv.refl p a, Dv.refl p a⟩
theorem Asc.symm {p : Int} {a b : List Int} (h : Asc p a b) : Asc p b a := ⟨h.2, h.1⟩
theorem Dv.mulF {p : Int} {b : List Int} {F : Int → Int} (h : Dv p b F) {u : Int → Int} (hu : IsP u) : Dv p b (fun x => u x * F x) := by
 obtain ⟨s, is, K, iK, e⟩ := h
 exact ⟨fun x => u x * s x, hu.mul is, fun x => u x * K x, hu.mul iK, fun x => by
  have h : F x = s x * ev b x + p * K x := e x
  show u x * F x = u x * s x * ev b x + p * (u x * K x)
  rw [h]; grind⟩
theorem Dv.add {p : Int} {b : List Int} {F G : Int → Int} (h : Dv p b F) (k : Dv p b G) : Dv p b (fun x => F x + G x) := by
 obtain ⟨s, is, e⟩ := h
 obtain ⟨t, it, f⟩ := k
 exact ⟨fun x => s x + t x, is.add it, (e.add f).fn fun x => by grind⟩
theorem Dv.of {p : Int} {b : List Int} {F G : Int → Int} (h : Dv p b F) (e : Eqv p G F) : Dv p b G := by
 obtain ⟨s, is, f⟩ := h
 exact ⟨s, is, e.trans f⟩
theorem Dv.trans {p : Int} {a b : List Int} {F : Int → Int} (h : Dv p b F) (k : Dv p a (ev b)) : Dv p a F := by
 obtain ⟨s, is, e⟩ := h
 exact (k.mulF is).of e
theorem Asc.trans {p : Int} {a b c : List Int} (h : Asc p a b) (k : Asc p b c) : Asc p a c := ⟨h.1.trans k.1, k.2.trans h.2⟩
structure Gd (p : Int) (F G : Int → Int) (g : List Int) : Prop where
 c : ∃ u v, IsP u ∧ IsP v ∧ Eqv p (ev g) (fun x => u x * F x + v x * G x)
 f : Dv p g F
 g : Dv p g G
theorem Gd.symm {p : Int} {F G : Int → Int} {g : List Int} (h : Gd p F G g) : Gd p G F g := by
 obtain ⟨⟨u, v, iu, iv, e⟩, f, g⟩ := h
 exact ⟨⟨v, u, iv, iu, e.fn fun x => by grind⟩, g, f⟩
theorem Gd.fn {p : Int} {F G F' G' : Int → Int} {g : List Int} (h : Gd p F G g) (e : Eqv p F F') (e' : Eqv p G G') (iF : IsP F) (iG : IsP G) : Gd p F' G' g := by
 obtain ⟨⟨u, v, iu, iv, k⟩, f, g⟩ := h
 exact ⟨⟨u, v, iu, iv, k.trans (((Eqv.refl p u).mul e iu (e.isP iF)).add ((Eqv.refl p v).mul e' iv (e'.isP iG)))⟩, f.of e.symm, g.of e'.symm⟩
theorem Gd.asc {p : Int} {F : Int → Int} {b b' g g' : List Int} (h : Gd p F (ev b) g) (k : Gd p F (ev b') g') (a : Asc p b b') : Asc p g g' := by
 obtain ⟨u, v, iu, iv, e⟩ := h.c
 obtain ⟨u', v', iu', iv', e'⟩ := k.c
 exact ⟨((k.f.mulF iu).add ((a.1.trans k.g).mulF iv)).of e, ((h.f.mulF iu').add ((a.2.trans h.g).mulF iv')).of e'⟩
theorem Ei.gd {p : Int} {a b : List Int} {sg : Int} {s : Em} (h : Ei p a b sg s) (hd : s.d = []) : Gd p (ev a) (ev b) s.c := by
 refine ⟨⟨fun x => sg * ev s.D x, fun x => -(sg * ev s.B x), (isP_ev _).scl sg, ((isP_ev _).scl sg).neg, h.ec.fn fun x => by grind⟩, ⟨ev s.A, isP_ev _, h.ea.fn fun x => by rw [hd]; simp [ev]⟩, ⟨ev s.C, isP_ev _, h.eb.fn fun x => by rw [hd]; simp [ev]⟩⟩
def Mo (p : Int) (a z : List Int) : Prop := (a = [] ∧ z = []) ∨ (0 < a.length ∧ Nf p z ∧ ∃ c, Cg p (c * rd a (a.length - 1)) 1 ∧ Eqv p (ev z) (fun x => c * ev a x))
theorem prod_len {p : Nat} (hp : Pri p) {s b a : List Int} (hs : Nf p s) (hb : Nf p b) (ha : Nf p a) (ls : 0 < s.length) (lb : 0 < b.length) (e : Eqv p (ev a) (fun x => ev s x * ev b x)) : a.length + 1 = s.length + b.length := by
 have hp0 : (0 : Int) < p := by have := hp.1; omega
 have h1 := quo_len hp hs hb ls lb (r := []) lb (e.fn fun x => by simp [ev])
 have h2 := nf_muladd_le (a := s) (b := b) (c := []) (N := s.length + b.length - 1) hp0 ha (e.fn fun x => by simp [ev]) (fun _ _ => by omega) (by simp)
 omega
theorem Asc.const {p : Nat} (hp : Pri p) {a b : List Int} (ha : Nf p a) (hb : Nf p b) (la : 0 < a.length) (h : Asc p a b) : 0 < b.length ∧ a.length = b.length ∧ ∃ s : Int, Eqv p (ev a) (fun x => s * ev b x) := by
 have hp0 : (0 : Int) < p := by have := hp.1; omega
 obtain ⟨⟨S, iS, e⟩, ⟨T, iT, f⟩⟩ := h
 obtain ⟨s, ns, es⟩ := nf_exists hp0 iS
 obtain ⟨t, nt, et⟩ := nf_exists hp0 iT
 have e1 : Eqv p (ev a) (fun x => ev s x * ev b x) := e.trans (es.symm.mul (Eqv.refl p _) iS (isP_ev b))
 have f1 : Eqv p (ev b) (fun x => ev t x * ev a x) := f.trans (et.symm.mul (Eqv.refl p _) iT (isP_ev a))
 have no : ∀ {x y z : List Int}, Nf p z → Eqv p (ev z) (fun u => ev x u * ev y u) → 0 < z.length → 0 < x.length ∧ 0 < y.length := fun {x y z} nz ez lz => by
  refine ⟨?_, ?_⟩
  ·by_cases g : 0 < x.length
   ·exact g
   ·obtain rfl : x = [] := List.length_eq_zero_iff.1 (by omega)
    have := nf_len hp0 nz (b := []) (ez.fn fun u => by simp [ev])
    rw [List.length_nil] at this
    omega
  ·by_cases g : 0 < y.length
   ·exact g
   ·obtain rfl : y = [] := List.length_eq_zero_iff.1 (by omega)
    have := nf_len hp0 nz (b := []) (ez.fn fun u => by simp [ev])
    rw [List.length_nil] at this
    omega
 obtain ⟨ls, lb⟩ := no ha e1 la
 obtain ⟨lt, _⟩ := no hb f1 lb
 have h1 := prod_len hp ns hb ha ls lb e1
 have h2 := prod_len hp nt ha hb lt la f1
 obtain ⟨s0, rfl⟩ : ∃ s0, s = [s0] := List.length_eq_one_iff.1 (by omega)
 exact ⟨lb, by omega, s0, e1.fn fun x => by simp [ev]⟩
theorem Mo.asc {p : Nat} (hp : Pri p) {a b z y : List Int} (ha : Nf p a) (hb : Nf p b) (h : Asc p a b) (k : Mo p a z) (j : Mo p b y) : z = y := by
 have hp0 : (0 : Int) < p := by have := hp.1; omega
 by_cases la : 0 < a.length
 ·obtain ⟨lb, le, s, e⟩ := h.const hp ha hb la
  rcases k with ⟨rfl, _⟩ | ⟨_, nz, c, hc, ez⟩
  ·simp at la
  rcases j with ⟨rfl, _⟩ | ⟨_, ny, c', hc', ey⟩
  ·simp at lb
  have ct : Cg p (rd a (a.length - 1)) (s * rd b (a.length - 1)) := by
   have := e.coefF (b := pscl s b) (fun x => (ev_pscl s b x).symm) (a.length - 1)
   rwa [rd_pscl] at this
  rw [le] at ct hc
  have g1 : Cg p (c * (s * rd b (b.length - 1))) 1 := (ct.mull c).symm.trans hc
  have g2 : Cg p (c * s) c' := by
   have k1 := hc'.mull (c * s)
   have k2 := g1.mul (Cg.refl p c')
   have e1 : c * s * (c' * rd b (b.length - 1)) = c * (s * rd b (b.length - 1)) * c' := by grind
   rw [e1] at k1
   have := k1.symm.trans k2
   simpa using this
  have g3 : Eqv p (fun x => c * s * ev b x) (fun x => c' * ev b x) := by
   obtain ⟨m, hm⟩ := g2.dvd
   exact ⟨fun x => m * ev b x, (isP_ev b).scl m, fun x => by
    have : c * s = c' + p * m := by omega
    rw [this]; grind⟩
  have g4 : Eqv p (ev z) (fun x => c * s * ev b x) := by
   obtain ⟨K, iK, f⟩ := e
   obtain ⟨L, iL, f'⟩ := ez
   exact ⟨fun x => c * K x + L x, (iK.scl c).add iL, fun x => by
    have h1 : ev a x = s * ev b x + p * K x := f x
    have h2 : ev z x = c * ev a x + p * L x := f' x
    show ev z x = c * s * ev b x + p * (c * K x + L x)
    rw [h2, h1]; grind⟩
  exact nz.one ny hp0 (g4.trans g3) ey
 ·obtain rfl : a = [] := List.length_eq_zero_iff.1 (by omega)
  obtain ⟨_, T, iT, f⟩ := h
  have lb := nf_len hp0 hb (b := []) (f.fn fun x => by simp [ev])
  obtain rfl : b = [] := List.length_eq_zero_iff.1 (by simpa using lb)
  rcases k with ⟨_, rfl⟩ | ⟨k, _⟩
  ·rcases j with ⟨_, rfl⟩ | ⟨j, _⟩
   ·rfl
   ·simp at j
  ·simp at k
theorem Mo.nf {p : Int} {a z : List Int} (h : Mo p a z) : Nf p z := by
 rcases h with ⟨_, rfl⟩ | ⟨_, h, _⟩
 ·exact nf_nil p
 ·exact h
theorem Mo.self {p : Nat} (hp : Pri p) {a z : List Int} (ha : Nf p a) (h : Mo p a z) : Asc p a z ∧ Mo p z z := by
 have hp0 : (0 : Int) < p := by have := hp.1; omega
 rcases h with ⟨rfl, rfl⟩ | ⟨la, nz, c, hc, e⟩
 ·exact ⟨Asc.refl p [], .inl ⟨rfl, rfl⟩⟩
 ·have ab : Asc p a z := by
   refine ⟨⟨fun _ => rd a (a.length - 1), isP_const _, ?_⟩, ⟨fun _ => c, isP_const c, e⟩⟩
   obtain ⟨K, iK, f⟩ := e
   obtain ⟨m, hm⟩ := hc.dvd
   exact ⟨fun x => -(m * ev a x) - rd a (a.length - 1) * K x, (((isP_ev a).scl m).neg).sub (iK.scl _), fun x => by
    have h1 : rd a (a.length - 1) * c = 1 + p * m := by rw [Int.mul_comm]; omega
    have h0 : ev z x = c * ev a x + p * K x := f x
    have h2 : rd a (a.length - 1) * ev z x = (1 + p * m) * ev a x + p * (rd a (a.length - 1) * K x) := by rw [h0, ← h1]; grind
    show ev a x = rd a (a.length - 1) * ev z x + p * (-(m * ev a x) - rd a (a.length - 1) * K x)
    rw [h2]; grind⟩
  obtain ⟨lz, le, s, es⟩ := ab.const hp ha nz la
  refine ⟨ab, .inr ⟨lz, nz, 1, ?_, Eqv.of_eq p fun x => by simp⟩⟩
  have := e.coefF (b := pscl c a) (fun x => (ev_pscl c a x).symm) (z.length - 1)
  rw [rd_pscl, ← le] at this
  rw [Int.one_mul, ← le]
  exact this.trans hc
end Go.Proofs.YtgalbnkcijmnnaaGreatDoor
namespace Go.Proofs.YtgalbnkcijmnnaaGreatDoor
open Go.RowKit
structure Pg (w : World) (u : Tb) (p : Int) (h d g : Nat) (I : Pix) (a : Int) (c : Mc) : Prop where
 e : w.cell? ⟨h, 0, none⟩ = some (.pointer (some ⟨d, 0, none⟩))
 d : Pd w u p d g I a c
theorem Pg.grown0 {w w' : World} {u : Tb} {p : Int} {h d g : Nat} {I : Pix} {a : Int} {c : Mc} (k : Pg w u p h d g I a c) (r : w.grownBy w' none) : Pg w' u p h d g I a c := ⟨gb_cell0 r k.e, k.d.grown0 r⟩
theorem Pg.next {w w' : World} {u : Tb} {p : Int} {h d g : Nat} {I : Pix} {a a' : Int} {c c' : Mc} (k : Pg w u p h d g I a c) (r : w.grownBy w' (some I.gm)) (q : Pd w' u p d g I a' c') : Pg w' u p h d g I a' c' := ⟨cell_past k.e (k.d.q.en.m.ptr k.e) r, q⟩
theorem Pg.other {w w' : World} {u v : Tb} {p p' : Int} {h d g h' d' g' : Nat} {I J : Pix} {a a' : Int} {c c' : Mc} (k : Pg w u p h d g I a c) (l : Pg w v p' h' d' g' J a' c') (hne : I.gm ≠ J.gm) (gr : w.grownBy w' (some J.gm)) : Pg w' u p h d g I a c := ⟨cell_past k.e (l.d.q.en.m.ptr k.e) gr, cell_past k.d.e (l.d.q.en.m.ptr k.d.e) gr, k.d.q.other l.d.q hne gr⟩
theorem pgcdNew_ok (w : World) (t : Tb) (p : Nat) (hp : Pm p) (hi : isP p = true) (hd : Db w) :
  Calls Tryz.prog 65 #[t.v, .int .u64 p] w fun e w' => ∃ h d g I, e = .returned (.tuple #[.pointer (some ⟨h, 0, none⟩), .int .i64 0]) ∧ Pg w' t.clamp p h d g I 0 ⟨0, tbT t.clamp⟩ ∧ w.heap.size ≤ I.gm ∧ w.grownBy w' none := by
 have C0 := cs_new w #[.int .i64 t.eb, .int .i64 t.et, .int .i64 t.en, .int .i64 t.ed, .int .i64 t.er, .int .i64 t.el, .int .i64 t.ex, .int .i64 t.ep, .int .i64 t.ek, .int .i64 t.es, .int .i64 t.ee] 23
 have hg := ju (jr w none) (Obj.cells #[.int .i64 t.eb, .int .i64 t.et, .int .i64 t.en, .int .i64 t.ed, .int .i64 t.er, .int .i64 t.el, .int .i64 t.ex, .int .i64 t.ep, .int .i64 t.ek, .int .i64 t.es, .int .i64 t.ee] 23)
 have NW := lk (pdivNew_ok _ t p hp hi (hd.grown0 hg))
 have HG := lk hg
 have HC0 := lk C0
 obtain ⟨P, hP⟩ : ∃ P : Int, P = (p : Int) := ⟨_, rfl⟩
 rw [← hP] at NW ⊢
 clear C0 hg hp hi hd hP
 go_enter Tryz.func65, Tryz.ntmps65
 have c0 := HC0.out.cell 0 rfl
 have c1 := HC0.out.cell 1 rfl
 have c2 := HC0.out.cell 2 rfl
 have c3 := HC0.out.cell 3 rfl
 have c4 := HC0.out.cell 4 rfl
 have c5 := HC0.out.cell 5 rfl
 have c6 := HC0.out.cell 6 rfl
 have c7 := HC0.out.cell 7 rfl
 have c8 := HC0.out.cell 8 rfl
 have c9 := HC0.out.cell 9 rfl
 have c10 := HC0.out.cell 10 rfl
 go_wp2_with fail
 refine (NW.out).mono ?_
 rintro e w1 ⟨d, g, I, rfl, pq, hg, g1⟩
 clear c0 c1 c2 c3 c4 c5 c6 c7 c8 c9 c10
 have G1 := lk (jt HG.out g1)
 have PQ := lk pq
 have HH : Hid (w.heap.size ≤ I.gm) := lk (Nat.le_trans HG.out.size hg)
 clear pq hg g1 NW HC0
 go_wp2
 go_ret2
 have ga := ju (jr w1 none) (Obj.cells #[.pointer (some ⟨d, 0, none⟩)] 66)
 exact ⟨_, d, g, I, rfl, ⟨(cs_new w1 _ _).cell 0 rfl, PQ.out.grown0 ga⟩, HH.out, jt G1.out ga⟩
theorem engine26_c (w : World) (t : Tb) (k : Int) (hk : 0 ≤ k ∧ k < 18446744073709551616) (hd : Db w) :
  Calls Tryz.prog 25 #[t.v, .int .u64 k] w fun e w' => ∃ (p h d g : Nat) (I : Pix), e = .returned (.tuple #[.pointer (some ⟨h, 0, none⟩), .int .u64 p]) ∧ Pm (p : Int) ∧ (p ∈ pr12 ∧ p = P23 k) ∧ Pg w' t.clamp p h d g I 0 ⟨0, tbT t.clamp⟩ ∧ w.heap.size ≤ I.gm ∧ w.grownBy w' none := by
 have C0 := cs_new w #[.int .i64 t.eb, .int .i64 t.et, .int .i64 t.en, .int .i64 t.ed, .int .i64 t.er, .int .i64 t.el, .int .i64 t.ex, .int .i64 t.ep, .int .i64 t.ek, .int .i64 t.es, .int .i64 t.ee] 23
 have hg := ju (jr w none) (Obj.cells #[.int .i64 t.eb, .int .i64 t.et, .int .i64 t.en, .int .i64 t.ed, .int .i64 t.er, .int .i64 t.el, .int .i64 t.ex, .int .i64 t.ep, .int .i64 t.ek, .int .i64 t.es, .int .i64 t.ee] 23)
 have PR := lk (fun w => prime23_c w k hk)
 have NW := lk (fun w p h1 h2 h3 => pgcdNew_ok w t p h1 h2 h3)
 have HD := lk hd
 have HG := lk hg
 have HC0 := lk C0
 clear C0 hg hd
 go_enter Tryz.func25, Tryz.ntmps25
 go_wp2_with fail
 refine (PR.out _).mono ?_
 rintro e w1 ⟨p, rfl, pm, ip, hm, g1⟩
 have G1 := lk (jt HG.out g1)
 have NW1 := lk (NW.out w1 p pm ip (HD.out.grown0 G1.out))
 have C1 := HC0.out.grown0 g1
 have HM := lk (And.intro pm hm)
 have c0 := C1.cell 0 rfl
 have c1 := C1.cell 1 rfl
 have c2 := C1.cell 2 rfl
 have c3 := C1.cell 3 rfl
 have c4 := C1.cell 4 rfl
 have c5 := C1.cell 5 rfl
 have c6 := C1.cell 6 rfl
 have c7 := C1.cell 7 rfl
 have c8 := C1.cell 8 rfl
 have c9 := C1.cell 9 rfl
 have c10 := C1.cell 10 rfl
 obtain ⟨P, hP⟩ : ∃ P : Int, P = (p : Int) := ⟨_, rfl⟩
 rw [← hP] at NW1 ⊢
 have HP := lk hP
 clear g1 PR NW C1 pm ip hm hP
 go_wp2_with fail
 refine (NW1.out).mono ?_
 rintro e w2 ⟨h, d, g, I, rfl, pq, hg, g2⟩
 clear c0 c1 c2 c3 c4 c5 c6 c7 c8 c9 c10
 have KK := lk (And.intro pq (And.intro (Nat.le_trans G1.out.size hg) (jt G1.out g2)))
 clear pq hg g2 NW1
 go_wp2
 go_ret2
 refine ⟨p, h, d, g, I, by rw [HP.out]; rfl, HM.out.1, HM.out.2, ?_, KK.out.2.1, KK.out.2.2⟩
 rw [← HP.out]
 exact KK.out.1
end Go.Proofs.YtgalbnkcijmnnaaGreatDoor
