/- Contracts of the program's functions, and plain laws (Toom6, Toom7, Tab1, Tab2, Tab3, Mul1, Mul2, Mul3, Mul4, Cost, Mul5, DigQ, School2, Mul6, Mul7, Mul8, Mul9, RTab1, RTab2, RCost, RSqr, Law12, Eng2, Pol7, Canon5, Pol8), for every input that their premises let in. -/
import Derived.Test.YtgalbnkcijmnnaaGreatDoorY3
import Derived.Test.YtgalbnkcijmnnaaGreatDoorY1
import Derived.Laws.Bits64b
import Derived.Test.YtgalbnkcijmnnaaGreatDoorY2
set_option maxRecDepth 100000
set_option maxHeartbeats 8000000
namespace Go.Proofs.YtgalbnkcijmnnaaGreatDoor
open Go.RowKit
theorem P5.growng {w w' : World} {B gm : Nat} {l0 l1 l2 l3 l4 : List Value} (h : P5 w B l0 l1 l2 l3 l4) (g : w.grownBy w' (some gm)) (hg : gm < B) : P5 w' B l0 l1 l2 l3 l4 :=
 ⟨h.c0.grown g (by simp; omega), h.c1.grown g (by simp; omega), h.c2.grown g (by simp; omega), h.c3.grown g (by simp; omega), h.c4.grown g (by simp; omega), Nat.lt_of_lt_of_le h.lt g.size⟩
theorem Wv.growng {W W' : World} {D gm : Nat} {l : List (Value × Nat)} (h : Wv W D l) (g : W.grownBy W' (some gm)) (hd : gm < D) : Wv W' D l := fun i p hp => (h i p hp).past hd g
theorem Wo.form {w : World} {base n : Nat} {v : Value} (h : Wo w base v n) : ∃ A l c, v = .slice A l c := by
 obtain ⟨zs, o, _⟩ := h
 obtain ⟨A, c, e, _⟩ := o.sl.form
 exact ⟨A, _, c, e⟩
abbrev made5 (w : World) (t : TypeId) (x0 x1 xm x2 xi b : Value) : World :=
 ((((w.alloc (.cells #[x0, .bool false] t)).alloc (.cells #[x1, .bool false] t)).alloc (.cells #[xm, b] t)).alloc (.cells #[x2, .bool false] t)).alloc (.cells #[xi, .bool false] t)
theorem made5_p (w : World) (t : TypeId) (x0 x1 xm x2 xi b : Value) : P5 (made5 w t x0 x1 xm x2 xi b) w.heap.size [x0, .bool false] [x1, .bool false] [xm, b] [x2, .bool false] [xi, .bool false] := by
 have e1 := alloc_sz w (.cells #[x0, .bool false] t)
 have e2 := alloc_sz (w.alloc (.cells #[x0, .bool false] t)) (.cells #[x1, .bool false] t)
 have e3 := alloc_sz ((w.alloc (.cells #[x0, .bool false] t)).alloc (.cells #[x1, .bool false] t)) (.cells #[xm, b] t)
 have e4 := alloc_sz (((w.alloc (.cells #[x0, .bool false] t)).alloc (.cells #[x1, .bool false] t)).alloc (.cells #[xm, b] t)) (.cells #[x2, .bool false] t)
 have e5 := alloc_sz ((((w.alloc (.cells #[x0, .bool false] t)).alloc (.cells #[x1, .bool false] t)).alloc (.cells #[xm, b] t)).alloc (.cells #[x2, .bool false] t)) (.cells #[xi, .bool false] t)
 have g := fun (a : World) (o : Array Value) => ju (jr a none) (Obj.cells o t)
 have k0 := cs_new w #[x0, .bool false] t
 have k1 := cs_new (w.alloc (.cells #[x0, .bool false] t)) #[x1, .bool false] t
 have k2 := cs_new ((w.alloc (.cells #[x0, .bool false] t)).alloc (.cells #[x1, .bool false] t)) #[xm, b] t
 have k3 := cs_new (((w.alloc (.cells #[x0, .bool false] t)).alloc (.cells #[x1, .bool false] t)).alloc (.cells #[xm, b] t)) #[x2, .bool false] t
 have k4 := cs_new ((((w.alloc (.cells #[x0, .bool false] t)).alloc (.cells #[x1, .bool false] t)).alloc (.cells #[xm, b] t)).alloc (.cells #[x2, .bool false] t)) #[xi, .bool false] t
 rw [e1] at k1
 rw [e2, e1] at k2
 rw [e3, e2, e1] at k3
 rw [e4, e3, e2, e1] at k4
 exact ⟨(((k0.grown0 (g _ _)).grown0 (g _ _)).grown0 (g _ _)).grown0 (g _ _), ((k1.grown0 (g _ _)).grown0 (g _ _)).grown0 (g _ _), (k2.grown0 (g _ _)).grown0 (g _ _), k3.grown0 (g _ _), k4, by have e6 : (made5 w t x0 x1 xm x2 xi b).heap.size = _ := e5; omega⟩
theorem made5_g (w : World) (t : TypeId) (x0 x1 xm x2 xi b : Value) : w.grownBy (made5 w t x0 x1 xm x2 xi b) none := ju (ju (ju (ju (ju (jr w none) _) _) _) _) _
structure Lm (K H p V0 V1 V2 : Nat) : Prop where
 l0 : V0 < B64 ^ K
 l1 : V0 + V2 + V1 < B64 ^ H
 lm : V0 + V2 - V1 + (V1 - (V0 + V2)) < B64 ^ H
 l2 : V0 + 2 * V1 + 4 * V2 < B64 ^ H
 li : V2 < B64 ^ p
theorem Lm.of {K p V0 V1 V2 : Nat} (h0 : V0 < B64 ^ K) (h1 : V1 < B64 ^ K) (h2 : V2 < B64 ^ p) (hp : p ≤ K) : Lm K (K + 1) p V0 V1 V2 := by
 have e : B64 ^ (K + 1) = B64 ^ K * 18446744073709551616 := Nat.pow_succ ..
 have h3 : B64 ^ p ≤ B64 ^ K := Nat.pow_le_pow_right (by decide) hp
 exact ⟨h0, by omega, by omega, by omega, h2⟩
theorem Lm.both {K p q V0 V1 V2 U0 U1 U2 : Nat} (h : Lm K (K + 1) p V0 V1 V2) (h' : Lm K (K + 1) q U0 U1 U2) : 16 * ((V0 + V2 + V1) * (U0 + U2 + U1)) < B64 ^ (K + 1 + (K + 1) + 1) := by
 have e : B64 ^ (K + 1 + (K + 1) + 1) = B64 ^ (K + 1 + (K + 1)) * 18446744073709551616 := Nat.pow_succ ..
 have := mul_lt_pow h.l1 h'.l1
 omega
theorem toom_c (w : World) (g1 g2 g3 gm fk : Nat) (fs : Array Value) (a b d : Int) (c : Mc) (T : Nat → Option Value) (va vb : Value) (al bl : List Int) (k1 k2 k3 : Nat) (hc1 : w.cell? ⟨g1, 0, none⟩ = some (.pointer (some ⟨g2, 0, none⟩))) (hc2 : w.cell? ⟨g2, 0, none⟩ = some (.pointer (some ⟨g3, 0, none⟩))) (hc3 : w.cell? ⟨g3, 0, none⟩ = some (.pointer (some ⟨gm, 0, none⟩)))
  (hm : Mt w gm a b c) (hT : c.T = T) (hd : 0 ≤ d) (hb1 : b ≤ 1000000) (ha0 : a + ((k1 + k2 + k2 + k2 + k3 : Nat) : Int) ≤ 1000000000000000) (ha : Sl w va al) (hb : Sl w vb bl) (hna : Off va gm) (hnb : Off vb gm) (hl : al.length ≤ 16384) (hl2 : bl.length ≤ 16384)
  (hx : 2 * ((max al.length bl.length + 2) / 3) < min al.length bl.length)
  (ent : ∀ args w, (callFunc fk args).run Tryz.prog w = .ok (.enter fk args) w)
  (i1 : InC w gm fk fs (b + 1) T ((max al.length bl.length + 2) / 3) ((max al.length bl.length + 2) / 3) k1 d)
  (i2 : InC w gm fk fs (b + 1) T ((max al.length bl.length + 2) / 3 + 1) ((max al.length bl.length + 2) / 3 + 1) k2 d)
  (i3 : InC w gm fk fs (b + 1) T (max al.length bl.length - 2 * ((max al.length bl.length + 2) / 3)) (min al.length bl.length - 2 * ((max al.length bl.length + 2) / 3)) k3 d) :
  Calls Tryz.prog 152 #[.pointer (some ⟨g1, 0, none⟩), va, vb, .func (.func fk) fs #[]] w fun e w' => ∃ x c', e = .returned (.tuple #[x, .bool true]) ∧ Wo w' w.heap.size x (val B64 al * val B64 bl) ∧ Mt w' gm (a + ((k1 + k2 + k2 + k2 + k3 : Nat) : Int)) b c' ∧
   (c'.T = T ∧ c.v ≤ c'.v ∧ (c'.v ≤ c.v ∨ c'.v ≤ b + (1 + d))) ∧ w.grownBy w' (some gm) := by
 have hgm : gm < w.heap.size := World.block_lt_of_cell? w _ hm.c0
 have n1 : g1 ≠ gm := Md.ptr_ne hc1 hm
 have n2 : g2 ≠ gm := Md.ptr_ne hc2 hm
 have n3 : g3 ≠ gm := Md.ptr_ne hc3 hm
 obtain ⟨A, ca, rfl, hca, _⟩ := ha.form
 obtain ⟨B, cb, rfl, hcb, _⟩ := hb.form
 have EN := enter_c w gm a b c hm (by omega)
 have b0 := hm.b0
 have a0 := hm.a0
 have HEN := lk EN
 have HGM := lk hgm
 have HN := lk (And.intro n1 (And.intro n2 n3))
 have HT := lk hT
 have WA := lk ha.ws
 have WB := lk hb.ws
 have HC := lk (And.intro hc1 (And.intro hc2 hc3))
 clear EN hm hgm n1 n2 n3 hT
 obtain ⟨n, hn⟩ : ∃ n, n = al.length := ⟨_, rfl⟩
 obtain ⟨m, hm'⟩ : ∃ m, m = bl.length := ⟨_, rfl⟩
 rw [← hn, ← hm'] at hx i1 i2 i3
 rw [← hn] at ha hna hl hca ⊢
 rw [← hm'] at hb hnb hl2 hcb ⊢
 have HNL := lk hn
 have HML := lk hm'
 by_cases hlt : n < m
 ·rw [Nat.min_eq_left (by omega), Nat.max_eq_right (by omega)] at hx i3
  rw [Nat.max_eq_right (by omega)] at i1 i2
  have R0 := lk (((Rw.nil w gm).add hb hnb).add ha hna)
  clear ha hb hna hnb hn hm'
  obtain ⟨K, hK⟩ : ∃ q, q = (m + 2) / 3 := ⟨_, rfl⟩
  obtain ⟨K2, hK2⟩ : ∃ q, q = 2 * K := ⟨_, rfl⟩
  obtain ⟨p, hp⟩ : ∃ q, q = m - K2 := ⟨_, rfl⟩
  obtain ⟨q, hq⟩ : ∃ q, q = n - K2 := ⟨_, rfl⟩
  have e1 : ((m : Int) + 2) / 3 = (K : Int) := by omega
  have e2 : 2 * (K : Int) = (K2 : Int) := by omega
  have e3 : (m : Int) - (K2 : Int) = (p : Int) := by omega
  have e5 : (n : Int) - (K2 : Int) = (q : Int) := by omega
  obtain ⟨H, hH⟩ : ∃ H, H = K + 1 := ⟨_, rfl⟩
  have e4 : (K : Int) + 1 = (H : Int) := by omega
  rw [← hK, ← hH] at i2
  have HH := lk hH
  rw [← hK, ← hK2] at hx
  have hmh : ¬ (n : Int) ≤ (K2 : Int) := by omega
  rw [← hK] at i1
  rw [← hK, ← hK2, ← hp, ← hq] at i3
  have HI1 := lk i1
  have HI2 := lk i2
  have HI3 := lk i3
  have EE : Hid (K2 = 2 * K ∧ p = m - K2 ∧ q = n - K2 ∧ p ≤ K ∧ q ≤ K ∧ 1 ≤ K) := lk (by omega)
  have bh : K ≤ 8192 ∧ p ≤ 8192 ∧ q ≤ 8192 ∧ H ≤ 8193 ∧ K2 ≤ 16384 := by omega
  clear hK hK2 hp hq hH i1 i2 i3 hx
  go_enter Tryz.func152, Tryz.ntmps152
  go_wp2_with fail
  refine (HEN.out).mono ?_
  rintro e w1 ⟨rfl, m1, mo⟩
  have M1 := lk m1
  have G1 := lk mo.gb
  have R1 := lk (R0.out.grown mo.gb)
  clear m1 mo HEN R0
  have HP := lk (points_c w1 _ bl K (R1.out.at 0 rfl) (by have := (HML).out; omega) EE.out.2.2.2.2.2 (by omega))
  go_wp2_with fail
  refine (HP.out).mono ?_
  rintro e w2 ⟨x0, x1, xm, x2, xi, V0, V1, V2, rfl, vv, l0, l1, l2, o0, o1, om, o2, oi, g2'⟩
  obtain ⟨F0, n0, f0, rfl⟩ := o0.form
  obtain ⟨F1, n1, f1, rfl⟩ := o1.form
  obtain ⟨Fm, nm, fm, rfl⟩ := om.form
  obtain ⟨F2, n2', f2, rfl⟩ := o2.form
  obtain ⟨Fi, ni, fi, rfl⟩ := oi.form
  obtain ⟨na, hna⟩ : ∃ z, z = decide (V0 + V2 < V1) := ⟨_, rfl⟩
  rw [← hna]
  have HNA := lk hna
  have B1 : Hid (gm < w1.heap.size ∧ w.heap.size ≤ w1.heap.size) := lk ⟨Nat.lt_of_lt_of_le HGM.out G1.out.size, G1.out.size⟩
  rw [← (HML).out, ← EE.out.1, ← EE.out.2.1] at l2
  have LA := lk (Lm.of l0 l1 l2 EE.out.2.2.2.1)
  rw [← HH.out] at LA
  have VA := lk vv
  have GG2 := jt g2' (made5_g w2 243 (.slice F0 n0 f0) (.slice F1 n1 f1) (.slice Fm nm fm) (.slice F2 n2' f2) (.slice Fi ni fi) (.bool na))
  have PA2 := lk (made5_p w2 243 (.slice F0 n0 f0) (.slice F1 n1 f1) (.slice Fm nm fm) (.slice F2 n2' f2) (.slice Fi ni fi) (.bool na))
  have WV2 := lk ((((((Wv.nil w2 w.heap.size).add o0 B1.out.2).add o1 B1.out.2).add om B1.out.2).add o2 B1.out.2).add oi B1.out.2 |>.grown0 (made5_g w2 243 (.slice F0 n0 f0) (.slice F1 n1 f1) (.slice Fm nm fm) (.slice F2 n2' f2) (.slice Fi ni fi) (.bool na)))
  have R2 := lk (R1.out.grown0 GG2)
  have M2 := lk (M1.out.grown GG2)
  have G2 := lk (jt G1.out (jn GG2 (some gm)))
  have S2 : Hid (w1.heap.size ≤ w2.heap.size) := lk g2'.size
  clear o0 o1 om o2 oi g2' GG2 vv l0 l1 l2 hna HP R1 M1 G1
  have HP := lk (points_c _ _ al K (R2.out.at 1 rfl) (by have := (HNL).out; omega) EE.out.2.2.2.2.2 (by omega))
  go_wp2_with fail
  refine (HP.out).mono ?_
  rintro e w3 ⟨y0, y1, ym, y2, yi, U0, U1, U2, rfl, vv, l0, l1, l2, o0, o1, om, o2, oi, g3'⟩
  obtain ⟨E0, t0, d0, rfl⟩ := o0.form
  obtain ⟨E1, t1, d1, rfl⟩ := o1.form
  obtain ⟨Em, tm, dm, rfl⟩ := om.form
  obtain ⟨E2, t2, d2, rfl⟩ := o2.form
  obtain ⟨Ei, ti, di, rfl⟩ := oi.form
  obtain ⟨nb, hnb'⟩ : ∃ z, z = decide (U0 + U2 < U1) := ⟨_, rfl⟩
  rw [← hnb']
  have HNB := lk hnb'
  have SB : Hid (w.heap.size ≤ w2.heap.size) := lk (Nat.le_trans B1.out.2 S2.out)
  have SB2 : Hid (w.heap.size ≤ (made5 w2 243 (.slice F0 n0 f0) (.slice F1 n1 f1) (.slice Fm nm fm) (.slice F2 n2' f2) (.slice Fi ni fi) (.bool na)).heap.size) := lk (Nat.le_trans SB.out (made5_g ..).size)
  rw [← (HNL).out, ← EE.out.1, ← EE.out.2.2.1] at l2
  have LB := lk (Lm.of l0 l1 l2 EE.out.2.2.2.2.1)
  rw [← HH.out] at LB
  have VB := lk vv
  have GG3 := jt g3' (made5_g w3 243 (.slice E0 t0 d0) (.slice E1 t1 d1) (.slice Em tm dm) (.slice E2 t2 d2) (.slice Ei ti di) (.bool nb))
  have PB3 := lk (made5_p w3 243 (.slice E0 t0 d0) (.slice E1 t1 d1) (.slice Em tm dm) (.slice E2 t2 d2) (.slice Ei ti di) (.bool nb))
  have PA3 := lk (PA2.out.grown0 GG3)
  have WV3 := lk ((((((WV2.out.grown0 g3').add o0 SB2.out).add o1 SB2.out).add om SB2.out).add o2 SB2.out).add oi SB2.out |>.grown0 (made5_g w3 243 (.slice E0 t0 d0) (.slice E1 t1 d1) (.slice Em tm dm) (.slice E2 t2 d2) (.slice Ei ti di) (.bool nb)))
  have M3 := lk (M2.out.grown GG3)
  have G3 := lk (jt G2.out (jn GG3 (some gm)))
  have SC : Hid (gm < w2.heap.size ∧ gm < w3.heap.size) := lk (by
   have h1 := SB.out
   have h2 := HGM.out
   have h3 := SB2.out
   have h4 := g3'.size
   omega)
  clear o0 o1 om o2 oi g3' GG3 vv l0 l1 l2 hnb' HP R2 M2 G2 PA2 WV2 S2 B1 SB SB2
  have HGM2 : Hid (∀ {W : World}, w.grownBy W (some gm) → gm < W.heap.size) := lk (fun g => Nat.lt_of_lt_of_le HGM.out g.size)
  go_wp2
  refine wp_gen (fun W => w.grownBy W (some gm) ∧ P5 W w2.heap.size _ _ _ _ _ ∧ P5 W w3.heap.size _ _ _ _ _ ∧ Wv W w.heap.size _ ∧ Mt W gm a (b + 1) _) ⟨G3.out, PA3.out, PB3.out, WV3.out, M3.out⟩ ?_
  clear G3 PA3 PB3 WV3 M3
  rintro wr ⟨G', PA', PB', WV', M'⟩
  have G := lk G'
  have PA := lk PA'
  have PB := lk PB'
  have WV := lk WV'
  have M := lk M'
  clear G' PA' PB' WV' M'
  have HSF := lk (show Canon.SF [(_, _)] _ from Canon.sf_cons (PB.out.c0.cell 0 rfl) (Canon.sf_nil _))
  have a0 := PA.out.c0.cell 0 rfl
  have b0 := PB.out.c0.cell 0 rfl
  refine Canon.region_held [83] _ (by kernel_rfl) (by kernel_rfl) HSF.out ?_
  refine Canon.segs_at 4 _ _ _ (by kernel_rfl) ?_
  simp only [ja, jb, jc, jd]
  obtain ⟨za, sa, la, va⟩ := (WV.out.drew.at 0 rfl).get (LA.out.l0)
  have HTW := lk (twide_c _ _ za K sa (by omega))
  have VVA : Hid (val B64 (rowOf (trimZ za) K) = _) := lk ((val_rowOf_all (Nat.le_trans (trimZ_len za) la)).trans ((val_trimZ _ _).trans va))
  clear sa la va
  go_wp2_with fail
  refine (HTW.out).mono ?_
  rintro e w4 ⟨ga, rfl, oa, g'⟩
  have HSF1 := lk (Canon.sf_grown0 HSF.out.drew g')
  have SA := lk (And.intro oa.sl (oa.offg (HGM2.out (jw G.out))))
  have PA1 := lk (PA.out.drew.grown0 g')
  have PB1 := lk (PB.out.drew.grown0 g')
  have WV1 := lk (WV.out.drew.grown0 g')
  have M1 := lk (M.out.drew.grown g')
  have G1 := lk (jt (jw G.out) (jn g' (some gm)))
  clear oa g' a0 HTW PA PB WV M G HSF
  go_wp2
  refine ⟨HSF1.out, ?_⟩
  refine Canon.segs_at 3 _ _ _ (by kernel_rfl) ?_
  simp only [ja, jb, jc, jd]
  clear b0
  have b0 := PB1.out.c0.cell 0 rfl
  obtain ⟨zb, sb, lb, vb⟩ := (WV1.out.at 5 rfl).get (LB.out.l0)
  have HTW := lk (twide_c _ _ zb K sb (by omega))
  have VVB : Hid (val B64 (rowOf (trimZ zb) K) = _) := lk ((val_rowOf_all (Nat.le_trans (trimZ_len zb) lb)).trans ((val_trimZ _ _).trans vb))
  clear sb lb vb
  go_wp2_with fail
  refine (HTW.out).mono ?_
  rintro e w5 ⟨gb, rfl, ob, g'⟩
  have HSF2 := lk (Canon.sf_grown0 HSF1.out g')
  have SB := lk (And.intro ob.sl (ob.offg (HGM2.out G1.out)))
  have SA2 := lk (And.intro (SA.out.1.grown0 g') SA.out.2)
  have PA2 := lk (PA1.out.grown0 g')
  have PB2 := lk (PB1.out.grown0 g')
  have WV2 := lk (WV1.out.grown0 g')
  have M2 := lk (M1.out.grown g')
  have G2 := lk (jt G1.out (jn g' (some gm)))
  clear ob g' b0 HTW PA1 PB1 WV1 M1 G1 HSF1 SA
  go_wp2
  refine ⟨HSF2.out, ?_⟩
  refine Canon.segs_at 0 _ _ _ (by kernel_rfl) ?_
  simp only [ja, jb, jc, jd]
  have N1 := HI1.out _ _ _ _ _ _ _ G2.out M2.out HT.out (by omega) SA2.out.1 SB.out.1 (rowOf_len _ _) (rowOf_len _ _) SA2.out.2 SB.out.2
  rw [VVA.out, VVB.out] at N1
  have HN1 := lk N1
  clear N1
  go_wp2_with fail
  refine (HN1.out).mono ?_
  rintro e w6 ⟨r0, c1, rfl, ox, mx, ccx, g'⟩
  have HSF3 := lk (Canon.sf_grown HSF2.out g' (fun q hq => by
   obtain rfl : q = _ := List.mem_singleton.mp hq
   have := SC.out
   simp; omega))
  have PA := lk (PA2.out.growng g' SC.out.1)
  have PB := lk (PB2.out.growng g' SC.out.2)
  have WV := lk ((WV2.out.growng g' HGM.out).add ox G2.out.size)
  have M := lk mx
  have G := lk (jt G2.out g')
  have CD1 := lk ccx
  clear ox mx ccx g' HN1 PA2 PB2 WV2 M2 G2 HSF2 SA2 SB VVA VVB
  go_wp2
  refine ⟨HSF3.out, ?_⟩
  refine Canon.segs_end _ _ _ (by kernel_rfl) ?_
  go_wp2
  refine ⟨by kernel_rfl, by kernel_rfl, by kernel_rfl, ?_⟩
  clear HSF3
  clear HI1
  go_wp2
  have HSF := lk (show Canon.SF [(_, _)] _ from Canon.sf_cons (PB.out.c1.cell 0 rfl) (Canon.sf_nil _))
  have a0 := PA.out.c1.cell 0 rfl
  have b0 := PB.out.c1.cell 0 rfl
  refine Canon.region_held [94] _ (by kernel_rfl) (by kernel_rfl) HSF.out ?_
  refine Canon.segs_at 5 _ _ _ (by kernel_rfl) ?_
  simp only [ja, jb, jc, jd]
  obtain ⟨za, sa, la, va⟩ := (WV.out.drew.at 1 rfl).get (LA.out.l1)
  have HTW := lk (twide_c _ _ za H sa (by omega))
  have VVA : Hid (val B64 (rowOf (trimZ za) H) = _) := lk ((val_rowOf_all (Nat.le_trans (trimZ_len za) la)).trans ((val_trimZ _ _).trans va))
  clear sa la va
  go_wp2_with fail
  refine (HTW.out).mono ?_
  rintro e w7 ⟨ga, rfl, oa, g'⟩
  have HSF1 := lk (Canon.sf_grown0 HSF.out.drew g')
  have SA := lk (And.intro oa.sl (oa.offg (HGM2.out (jw G.out))))
  have PA1 := lk (PA.out.drew.grown0 g')
  have PB1 := lk (PB.out.drew.grown0 g')
  have WV1 := lk (WV.out.drew.grown0 g')
  have M1 := lk (M.out.drew.grown g')
  have G1 := lk (jt (jw G.out) (jn g' (some gm)))
  clear oa g' a0 HTW PA PB WV M G HSF
  go_wp2
  refine ⟨HSF1.out, ?_⟩
  refine Canon.segs_at 4 _ _ _ (by kernel_rfl) ?_
  simp only [ja, jb, jc, jd]
  clear b0
  have b0 := PB1.out.c1.cell 0 rfl
  obtain ⟨zb, sb, lb, vb⟩ := (WV1.out.at 6 rfl).get (LB.out.l1)
  have HTW := lk (twide_c _ _ zb H sb (by omega))
  have VVB : Hid (val B64 (rowOf (trimZ zb) H) = _) := lk ((val_rowOf_all (Nat.le_trans (trimZ_len zb) lb)).trans ((val_trimZ _ _).trans vb))
  clear sb lb vb
  go_wp2_with fail
  refine (HTW.out).mono ?_
  rintro e w8 ⟨gb, rfl, ob, g'⟩
  have HSF2 := lk (Canon.sf_grown0 HSF1.out g')
  have SB := lk (And.intro ob.sl (ob.offg (HGM2.out G1.out)))
  have SA2 := lk (And.intro (SA.out.1.grown0 g') SA.out.2)
  have PA2 := lk (PA1.out.grown0 g')
  have PB2 := lk (PB1.out.grown0 g')
  have WV2 := lk (WV1.out.grown0 g')
  have M2 := lk (M1.out.grown g')
  have G2 := lk (jt G1.out (jn g' (some gm)))
  clear ob g' b0 HTW PA1 PB1 WV1 M1 G1 HSF1 SA
  go_wp2
  refine ⟨HSF2.out, ?_⟩
  refine Canon.segs_at 0 _ _ _ (by kernel_rfl) ?_
  simp only [ja, jb, jc, jd]
  have N1 := HI2.out _ _ _ _ _ _ _ G2.out M2.out CD1.out.1 (by omega) SA2.out.1 SB.out.1 (rowOf_len _ _) (rowOf_len _ _) SA2.out.2 SB.out.2
  rw [VVA.out, VVB.out] at N1
  have HN1 := lk N1
  clear N1
  go_wp2_with fail
  refine (HN1.out).mono ?_
  rintro e w9 ⟨r1, c2, rfl, ox, mx, ccx, g'⟩
  have HSF3 := lk (Canon.sf_grown HSF2.out g' (fun q hq => by
   obtain rfl : q = _ := List.mem_singleton.mp hq
   have := SC.out
   simp; omega))
  have PA := lk (PA2.out.growng g' SC.out.1)
  have PB := lk (PB2.out.growng g' SC.out.2)
  have WV := lk ((WV2.out.growng g' HGM.out).add ox G2.out.size)
  have M := lk mx
  have G := lk (jt G2.out g')
  have CD2 := lk ccx
  clear ox mx ccx g' HN1 PA2 PB2 WV2 M2 G2 HSF2 SA2 SB VVA VVB
  go_wp2
  refine ⟨HSF3.out, ?_⟩
  refine Canon.segs_end _ _ _ (by kernel_rfl) ?_
  go_wp2
  refine ⟨by kernel_rfl, by kernel_rfl, by kernel_rfl, ?_⟩
  clear HSF3
  go_wp2
  have HSF := lk (show Canon.SF [(_, _)] _ from Canon.sf_cons (PB.out.c2.cell 0 rfl) (Canon.sf_nil _))
  have a0 := PA.out.c2.cell 0 rfl
  have b0 := PB.out.c2.cell 0 rfl
  refine Canon.region_held [106] _ (by kernel_rfl) (by kernel_rfl) HSF.out ?_
  refine Canon.segs_at 5 _ _ _ (by kernel_rfl) ?_
  simp only [ja, jb, jc, jd]
  obtain ⟨za, sa, la, va⟩ := (WV.out.drew.at 2 rfl).get (LA.out.lm)
  have HTW := lk (twide_c _ _ za H sa (by omega))
  have VVA : Hid (val B64 (rowOf (trimZ za) H) = _) := lk ((val_rowOf_all (Nat.le_trans (trimZ_len za) la)).trans ((val_trimZ _ _).trans va))
  clear sa la va
  go_wp2_with fail
  refine (HTW.out).mono ?_
  rintro e w10 ⟨ga, rfl, oa, g'⟩
  have HSF1 := lk (Canon.sf_grown0 HSF.out.drew g')
  have SA := lk (And.intro oa.sl (oa.offg (HGM2.out (jw G.out))))
  have PA1 := lk (PA.out.drew.grown0 g')
  have PB1 := lk (PB.out.drew.grown0 g')
  have WV1 := lk (WV.out.drew.grown0 g')
  have M1 := lk (M.out.drew.grown g')
  have G1 := lk (jt (jw G.out) (jn g' (some gm)))
  clear oa g' a0 HTW PA PB WV M G HSF
  go_wp2
  refine ⟨HSF1.out, ?_⟩
  refine Canon.segs_at 4 _ _ _ (by kernel_rfl) ?_
  simp only [ja, jb, jc, jd]
  clear b0
  have b0 := PB1.out.c2.cell 0 rfl
  obtain ⟨zb, sb, lb, vb⟩ := (WV1.out.at 7 rfl).get (LB.out.lm)
  have HTW := lk (twide_c _ _ zb H sb (by omega))
  have VVB : Hid (val B64 (rowOf (trimZ zb) H) = _) := lk ((val_rowOf_all (Nat.le_trans (trimZ_len zb) lb)).trans ((val_trimZ _ _).trans vb))
  clear sb lb vb
  go_wp2_with fail
  refine (HTW.out).mono ?_
  rintro e w11 ⟨gb, rfl, ob, g'⟩
  have HSF2 := lk (Canon.sf_grown0 HSF1.out g')
  have SB := lk (And.intro ob.sl (ob.offg (HGM2.out G1.out)))
  have SA2 := lk (And.intro (SA.out.1.grown0 g') SA.out.2)
  have PA2 := lk (PA1.out.grown0 g')
  have PB2 := lk (PB1.out.grown0 g')
  have WV2 := lk (WV1.out.grown0 g')
  have M2 := lk (M1.out.grown g')
  have G2 := lk (jt G1.out (jn g' (some gm)))
  clear ob g' b0 HTW PA1 PB1 WV1 M1 G1 HSF1 SA
  go_wp2
  refine ⟨HSF2.out, ?_⟩
  refine Canon.segs_at 0 _ _ _ (by kernel_rfl) ?_
  simp only [ja, jb, jc, jd]
  have N1 := HI2.out _ _ _ _ _ _ _ G2.out M2.out CD2.out.1 (by omega) SA2.out.1 SB.out.1 (rowOf_len _ _) (rowOf_len _ _) SA2.out.2 SB.out.2
  rw [VVA.out, VVB.out] at N1
  have HN1 := lk N1
  clear N1
  go_wp2_with fail
  refine (HN1.out).mono ?_
  rintro e w12 ⟨rm, c3, rfl, ox, mx, ccx, g'⟩
  have HSF3 := lk (Canon.sf_grown HSF2.out g' (fun q hq => by
   obtain rfl : q = _ := List.mem_singleton.mp hq
   have := SC.out
   simp; omega))
  have PA := lk (PA2.out.growng g' SC.out.1)
  have PB := lk (PB2.out.growng g' SC.out.2)
  have WV := lk ((WV2.out.growng g' HGM.out).add ox G2.out.size)
  have M := lk mx
  have G := lk (jt G2.out g')
  have CD3 := lk ccx
  clear ox mx ccx g' HN1 PA2 PB2 WV2 M2 G2 HSF2 SA2 SB VVA VVB
  go_wp2
  refine ⟨HSF3.out, ?_⟩
  refine Canon.segs_end _ _ _ (by kernel_rfl) ?_
  go_wp2
  refine ⟨by kernel_rfl, by kernel_rfl, by kernel_rfl, ?_⟩
  clear HSF3
  go_wp2
  have HSF := lk (show Canon.SF [(_, _)] _ from Canon.sf_cons (PB.out.c3.cell 0 rfl) (Canon.sf_nil _))
  have a0 := PA.out.c3.cell 0 rfl
  have b0 := PB.out.c3.cell 0 rfl
  refine Canon.region_held [118] _ (by kernel_rfl) (by kernel_rfl) HSF.out ?_
  refine Canon.segs_at 5 _ _ _ (by kernel_rfl) ?_
  simp only [ja, jb, jc, jd]
  obtain ⟨za, sa, la, va⟩ := (WV.out.drew.at 3 rfl).get (LA.out.l2)
  have HTW := lk (twide_c _ _ za H sa (by omega))
  have VVA : Hid (val B64 (rowOf (trimZ za) H) = _) := lk ((val_rowOf_all (Nat.le_trans (trimZ_len za) la)).trans ((val_trimZ _ _).trans va))
  clear sa la va
  go_wp2_with fail
  refine (HTW.out).mono ?_
  rintro e w13 ⟨ga, rfl, oa, g'⟩
  have HSF1 := lk (Canon.sf_grown0 HSF.out.drew g')
  have SA := lk (And.intro oa.sl (oa.offg (HGM2.out (jw G.out))))
  have PA1 := lk (PA.out.drew.grown0 g')
  have PB1 := lk (PB.out.drew.grown0 g')
  have WV1 := lk (WV.out.drew.grown0 g')
  have M1 := lk (M.out.drew.grown g')
  have G1 := lk (jt (jw G.out) (jn g' (some gm)))
  clear oa g' a0 HTW PA PB WV M G HSF
  go_wp2
  refine ⟨HSF1.out, ?_⟩
  refine Canon.segs_at 4 _ _ _ (by kernel_rfl) ?_
  simp only [ja, jb, jc, jd]
  clear b0
  have b0 := PB1.out.c3.cell 0 rfl
  obtain ⟨zb, sb, lb, vb⟩ := (WV1.out.at 8 rfl).get (LB.out.l2)
  have HTW := lk (twide_c _ _ zb H sb (by omega))
  have VVB : Hid (val B64 (rowOf (trimZ zb) H) = _) := lk ((val_rowOf_all (Nat.le_trans (trimZ_len zb) lb)).trans ((val_trimZ _ _).trans vb))
  clear sb lb vb
  go_wp2_with fail
  refine (HTW.out).mono ?_
  rintro e w14 ⟨gb, rfl, ob, g'⟩
  have HSF2 := lk (Canon.sf_grown0 HSF1.out g')
  have SB := lk (And.intro ob.sl (ob.offg (HGM2.out G1.out)))
  have SA2 := lk (And.intro (SA.out.1.grown0 g') SA.out.2)
  have PA2 := lk (PA1.out.grown0 g')
  have PB2 := lk (PB1.out.grown0 g')
  have WV2 := lk (WV1.out.grown0 g')
  have M2 := lk (M1.out.grown g')
  have G2 := lk (jt G1.out (jn g' (some gm)))
  clear ob g' b0 HTW PA1 PB1 WV1 M1 G1 HSF1 SA
  go_wp2
  refine ⟨HSF2.out, ?_⟩
  refine Canon.segs_at 0 _ _ _ (by kernel_rfl) ?_
  simp only [ja, jb, jc, jd]
  have N1 := HI2.out _ _ _ _ _ _ _ G2.out M2.out CD3.out.1 (by omega) SA2.out.1 SB.out.1 (rowOf_len _ _) (rowOf_len _ _) SA2.out.2 SB.out.2
  rw [VVA.out, VVB.out] at N1
  have HN1 := lk N1
  clear N1
  go_wp2_with fail
  refine (HN1.out).mono ?_
  rintro e w15 ⟨r2, c4, rfl, ox, mx, ccx, g'⟩
  have HSF3 := lk (Canon.sf_grown HSF2.out g' (fun q hq => by
   obtain rfl : q = _ := List.mem_singleton.mp hq
   have := SC.out
   simp; omega))
  have PA := lk (PA2.out.growng g' SC.out.1)
  have PB := lk (PB2.out.growng g' SC.out.2)
  have WV := lk ((WV2.out.growng g' HGM.out).add ox G2.out.size)
  have M := lk mx
  have G := lk (jt G2.out g')
  have CD4 := lk ccx
  clear ox mx ccx g' HN1 PA2 PB2 WV2 M2 G2 HSF2 SA2 SB VVA VVB
  go_wp2
  refine ⟨HSF3.out, ?_⟩
  refine Canon.segs_end _ _ _ (by kernel_rfl) ?_
  go_wp2
  refine ⟨by kernel_rfl, by kernel_rfl, by kernel_rfl, ?_⟩
  clear HSF3
  clear HI2
  go_wp2
  have HSF := lk (show Canon.SF [(_, _)] _ from Canon.sf_cons (PB.out.c4.cell 0 rfl) (Canon.sf_nil _))
  have a0 := PA.out.c4.cell 0 rfl
  have b0 := PB.out.c4.cell 0 rfl
  refine Canon.region_held [132] _ (by kernel_rfl) (by kernel_rfl) HSF.out ?_
  refine Canon.segs_at 7 _ _ _ (by kernel_rfl) ?_
  simp only [ja, jb, jc, jd]
  obtain ⟨za, sa, la, va⟩ := (WV.out.drew.at 4 rfl).get (LA.out.li)
  have HTW := lk (twide_c _ _ za p sa (by omega))
  have VVA : Hid (val B64 (rowOf (trimZ za) p) = _) := lk ((val_rowOf_all (Nat.le_trans (trimZ_len za) la)).trans ((val_trimZ _ _).trans va))
  clear sa la va
  go_wp2_with fail
  refine (HTW.out).mono ?_
  rintro e w16 ⟨ga, rfl, oa, g'⟩
  have HSF1 := lk (Canon.sf_grown0 HSF.out.drew g')
  have SA := lk (And.intro oa.sl (oa.offg (HGM2.out (jw G.out))))
  have PA1 := lk (PA.out.drew.grown0 g')
  have PB1 := lk (PB.out.drew.grown0 g')
  have WV1 := lk (WV.out.drew.grown0 g')
  have M1 := lk (M.out.drew.grown g')
  have G1 := lk (jt (jw G.out) (jn g' (some gm)))
  clear oa g' a0 HTW PA PB WV M G HSF
  go_wp2
  refine ⟨HSF1.out, ?_⟩
  refine Canon.segs_at 6 _ _ _ (by kernel_rfl) ?_
  simp only [ja, jb, jc, jd]
  clear b0
  have b0 := PB1.out.c4.cell 0 rfl
  obtain ⟨zb, sb, lb, vb⟩ := (WV1.out.at 9 rfl).get (LB.out.li)
  have HTW := lk (twide_c _ _ zb q sb (by omega))
  have VVB : Hid (val B64 (rowOf (trimZ zb) q) = _) := lk ((val_rowOf_all (Nat.le_trans (trimZ_len zb) lb)).trans ((val_trimZ _ _).trans vb))
  clear sb lb vb
  go_wp2_with fail
  refine (HTW.out).mono ?_
  rintro e w17 ⟨gb, rfl, ob, g'⟩
  have HSF2 := lk (Canon.sf_grown0 HSF1.out g')
  have SB := lk (And.intro ob.sl (ob.offg (HGM2.out G1.out)))
  have SA2 := lk (And.intro (SA.out.1.grown0 g') SA.out.2)
  have PA2 := lk (PA1.out.grown0 g')
  have PB2 := lk (PB1.out.grown0 g')
  have WV2 := lk (WV1.out.grown0 g')
  have M2 := lk (M1.out.grown g')
  have G2 := lk (jt G1.out (jn g' (some gm)))
  clear ob g' b0 HTW PA1 PB1 WV1 M1 G1 HSF1 SA
  go_wp2
  refine ⟨HSF2.out, ?_⟩
  refine Canon.segs_at 0 _ _ _ (by kernel_rfl) ?_
  simp only [ja, jb, jc, jd]
  have N1 := HI3.out _ _ _ _ _ _ _ G2.out M2.out CD4.out.1 (by omega) SA2.out.1 SB.out.1 (rowOf_len _ _) (rowOf_len _ _) SA2.out.2 SB.out.2
  rw [VVA.out, VVB.out] at N1
  have HN1 := lk N1
  clear N1
  go_wp2_with fail
  refine (HN1.out).mono ?_
  rintro e w18 ⟨ri, c5, rfl, ox, mx, ccx, g'⟩
  have HSF3 := lk (Canon.sf_grown HSF2.out g' (fun q hq => by
   obtain rfl : q = _ := List.mem_singleton.mp hq
   have := SC.out
   simp; omega))
  have PA := lk (PA2.out.growng g' SC.out.1)
  have PB := lk (PB2.out.growng g' SC.out.2)
  have WV := lk ((WV2.out.growng g' HGM.out).add ox G2.out.size)
  have M := lk mx
  have G := lk (jt G2.out g')
  have CD5 := lk ccx
  clear ox mx ccx g' HN1 PA2 PB2 WV2 M2 G2 HSF2 SA2 SB VVA VVB
  go_wp2
  refine ⟨HSF3.out, ?_⟩
  refine Canon.segs_end _ _ _ (by kernel_rfl) ?_
  go_wp2
  refine ⟨by kernel_rfl, by kernel_rfl, by kernel_rfl, ?_⟩
  clear HSF3
  have SCC := SC
  clear HI3 ent
  have ES : a + (k1 : Int) + (k2 : Int) + (k2 : Int) + (k2 : Int) + (k3 : Int) = a + ((k1 + k2 + k2 + k2 + k3 : Nat) : Int) := by omega
  have m' := M.out
  rw [ES] at m'
  have LV := leave_c w18 gm _ _ c5 m' (by omega)
  have eb : (if b + 1 > 0 then b + 1 - 1 else 0) = b := by split <;> omega
  rw [eb] at LV
  have HLV := lk LV
  clear LV m' M eb ES hc1 hc2 hc3
  have hc1 := gb_cell G.out HC.out.1 (by have := HN.out.1; simpa using this)
  have hc2 := gb_cell G.out HC.out.2.1 (by have := HN.out.2.1; simpa using this)
  have hc3 := gb_cell G.out HC.out.2.2 (by have := HN.out.2.2; simpa using this)
  go_wp2_with fail
  refine (HLV.out).mono ?_
  rintro e w19 ⟨rfl, m19, mo⟩
  have M19 := lk m19
  have G19 := lk (jt G.out mo.gb)
  have BG : Hid (gm < w2.heap.size ∧ gm < w3.heap.size) := SCC
  have PA19 := lk (PA.out.growng mo.gb BG.out.1)
  have PB19 := lk (PB.out.growng mo.gb BG.out.2)
  have WV19 := lk (WV.out.growng mo.gb HGM.out)
  clear m19 mo HLV G PA PB WV hc1 hc2 hc3
  obtain ⟨z0, s0, q0, v0⟩ := (WV19.out.at 10 rfl).get (mul_lt_pow LA.out.l0 LB.out.l0)
  obtain ⟨z1, s1, q1, v1⟩ := (WV19.out.at 11 rfl).get (mul_lt_pow LA.out.l1 LB.out.l1)
  obtain ⟨zm, sm, qm, vm⟩ := (WV19.out.at 12 rfl).get (mul_lt_pow LA.out.lm LB.out.lm)
  obtain ⟨z2, s2, q2, v2⟩ := (WV19.out.at 13 rfl).get (mul_lt_pow LA.out.l2 LB.out.l2)
  obtain ⟨zi, si, qi, vi⟩ := (WV19.out.at 14 rfl).get (mul_lt_pow LA.out.li LB.out.li)
  have TT := tj_of (V0 := V0) (V1 := V1) (V2 := V2) (U0 := U0) (U1 := U1) (U2 := U2) (M := K + 1 + (K + 1) + 1) (by
   have t1 := LA.out
   have t2 := LB.out
   rw [HH.out] at t1 t2
   exact t1.both t2) (by omega)
  rw [← HNA.out, ← HNB.out, ← v0, ← v1, ← vm, ← v2, ← vi] at TT
  have JN := tjoined_c w19 K r0 r1 rm r2 ri z0 z1 zm z2 zi _ _ _ _ _ _ _ s0 s1 sm s2 si (by omega) (by omega) TT
  have eP : B64 ^ (2 * K) = B64 ^ K * B64 ^ K ∧ B64 ^ (3 * K) = B64 ^ K * B64 ^ K * B64 ^ K ∧ B64 ^ (4 * K) = B64 ^ K * B64 ^ K * B64 ^ K * B64 ^ K := by
   refine ⟨?_, ?_, ?_⟩
   ·rw [Nat.two_mul, Nat.pow_add]
   ·rw [show 3 * K = K + K + K by omega, Nat.pow_add, Nat.pow_add]
   ·rw [show 4 * K = K + K + K + K by omega, Nat.pow_add, Nat.pow_add, Nat.pow_add]
  rw [eP.1, eP.2.1, eP.2.2, v0, vi, ← toom_val, ← VA.out, ← VB.out] at JN
  have HJN := lk JN
  have n0 := PA19.out.c2.cell 1 rfl
  have n1 := PB19.out.c2.cell 1 rfl
  clear JN TT eP s0 q0 v0 s1 q1 v1 sm qm vm s2 q2 v2 si qi vi WV19 PA19 PB19
  go_wp2_with fail
  refine (HJN.out).mono ?_
  rintro e w20 ⟨x, rfl, o20, g20⟩
  have KK : Hid (Wo w20 w.heap.size x (val B64 bl * val B64 al) ∧ Mt w20 gm (a + ((k1 + k2 + k2 + k2 + k3 : Nat) : Int)) b c5 ∧ w.grownBy w20 (some gm)) := lk
   ⟨o20.mono G19.out.size, M19.out.grown g20, jt G19.out (jn g20 (some gm))⟩
  have CC : Hid (c5.T = T ∧ c.v ≤ c5.v ∧ (c5.v ≤ c.v ∨ c5.v ≤ b + (1 + d))) := lk (by
   have t1 := CD1.out
   have t2 := CD2.out
   have t3 := CD3.out
   have t3' := CD4.out
   have t3'' := CD5.out
   have t4 : (c.up (b + 1)).v = if b + 1 > c.v then b + 1 else c.v := rfl
   refine ⟨t3''.1, ?_⟩
   split at t4 <;> omega)
  clear o20 g20 HJN
  go_wp2
  go_ret2
  exact ⟨x, c5, rfl, by first | exact KK.out.1 | (rw [Nat.mul_comm]; exact KK.out.1), KK.out.2.1, CC.out, KK.out.2.2⟩
 ·rw [Nat.min_eq_right (by omega), Nat.max_eq_left (by omega)] at hx i3
  rw [Nat.max_eq_left (by omega)] at i1 i2
  have R0 := lk (((Rw.nil w gm).add ha hna).add hb hnb)
  clear ha hb hna hnb hn hm'
  obtain ⟨K, hK⟩ : ∃ q, q = (n + 2) / 3 := ⟨_, rfl⟩
  obtain ⟨K2, hK2⟩ : ∃ q, q = 2 * K := ⟨_, rfl⟩
  obtain ⟨p, hp⟩ : ∃ q, q = n - K2 := ⟨_, rfl⟩
  obtain ⟨q, hq⟩ : ∃ q, q = m - K2 := ⟨_, rfl⟩
  have e1 : ((n : Int) + 2) / 3 = (K : Int) := by omega
  have e2 : 2 * (K : Int) = (K2 : Int) := by omega
  have e3 : (n : Int) - (K2 : Int) = (p : Int) := by omega
  have e5 : (m : Int) - (K2 : Int) = (q : Int) := by omega
  obtain ⟨H, hH⟩ : ∃ H, H = K + 1 := ⟨_, rfl⟩
  have e4 : (K : Int) + 1 = (H : Int) := by omega
  rw [← hK, ← hH] at i2
  have HH := lk hH
  rw [← hK, ← hK2] at hx
  have hmh : ¬ (m : Int) ≤ (K2 : Int) := by omega
  rw [← hK] at i1
  rw [← hK, ← hK2, ← hp, ← hq] at i3
  have HI1 := lk i1
  have HI2 := lk i2
  have HI3 := lk i3
  have EE : Hid (K2 = 2 * K ∧ p = n - K2 ∧ q = m - K2 ∧ p ≤ K ∧ q ≤ K ∧ 1 ≤ K) := lk (by omega)
  have bh : K ≤ 8192 ∧ p ≤ 8192 ∧ q ≤ 8192 ∧ H ≤ 8193 ∧ K2 ≤ 16384 := by omega
  clear hK hK2 hp hq hH i1 i2 i3 hx
  go_enter Tryz.func152, Tryz.ntmps152
  go_wp2_with fail
  refine (HEN.out).mono ?_
  rintro e w1 ⟨rfl, m1, mo⟩
  have M1 := lk m1
  have G1 := lk mo.gb
  have R1 := lk (R0.out.grown mo.gb)
  clear m1 mo HEN R0
  have HP := lk (points_c w1 _ al K (R1.out.at 0 rfl) (by have := (HNL).out; omega) EE.out.2.2.2.2.2 (by omega))
  go_wp2_with fail
  refine (HP.out).mono ?_
  rintro e w2 ⟨x0, x1, xm, x2, xi, V0, V1, V2, rfl, vv, l0, l1, l2, o0, o1, om, o2, oi, g2'⟩
  obtain ⟨F0, n0, f0, rfl⟩ := o0.form
  obtain ⟨F1, n1, f1, rfl⟩ := o1.form
  obtain ⟨Fm, nm, fm, rfl⟩ := om.form
  obtain ⟨F2, n2', f2, rfl⟩ := o2.form
  obtain ⟨Fi, ni, fi, rfl⟩ := oi.form
  obtain ⟨na, hna⟩ : ∃ z, z = decide (V0 + V2 < V1) := ⟨_, rfl⟩
  rw [← hna]
  have HNA := lk hna
  have B1 : Hid (gm < w1.heap.size ∧ w.heap.size ≤ w1.heap.size) := lk ⟨Nat.lt_of_lt_of_le HGM.out G1.out.size, G1.out.size⟩
  rw [← (HNL).out, ← EE.out.1, ← EE.out.2.1] at l2
  have LA := lk (Lm.of l0 l1 l2 EE.out.2.2.2.1)
  rw [← HH.out] at LA
  have VA := lk vv
  have GG2 := jt g2' (made5_g w2 243 (.slice F0 n0 f0) (.slice F1 n1 f1) (.slice Fm nm fm) (.slice F2 n2' f2) (.slice Fi ni fi) (.bool na))
  have PA2 := lk (made5_p w2 243 (.slice F0 n0 f0) (.slice F1 n1 f1) (.slice Fm nm fm) (.slice F2 n2' f2) (.slice Fi ni fi) (.bool na))
  have WV2 := lk ((((((Wv.nil w2 w.heap.size).add o0 B1.out.2).add o1 B1.out.2).add om B1.out.2).add o2 B1.out.2).add oi B1.out.2 |>.grown0 (made5_g w2 243 (.slice F0 n0 f0) (.slice F1 n1 f1) (.slice Fm nm fm) (.slice F2 n2' f2) (.slice Fi ni fi) (.bool na)))
  have R2 := lk (R1.out.grown0 GG2)
  have M2 := lk (M1.out.grown GG2)
  have G2 := lk (jt G1.out (jn GG2 (some gm)))
  have S2 : Hid (w1.heap.size ≤ w2.heap.size) := lk g2'.size
  clear o0 o1 om o2 oi g2' GG2 vv l0 l1 l2 hna HP R1 M1 G1
  have HP := lk (points_c _ _ bl K (R2.out.at 1 rfl) (by have := (HML).out; omega) EE.out.2.2.2.2.2 (by omega))
  go_wp2_with fail
  refine (HP.out).mono ?_
  rintro e w3 ⟨y0, y1, ym, y2, yi, U0, U1, U2, rfl, vv, l0, l1, l2, o0, o1, om, o2, oi, g3'⟩
  obtain ⟨E0, t0, d0, rfl⟩ := o0.form
  obtain ⟨E1, t1, d1, rfl⟩ := o1.form
  obtain ⟨Em, tm, dm, rfl⟩ := om.form
  obtain ⟨E2, t2, d2, rfl⟩ := o2.form
  obtain ⟨Ei, ti, di, rfl⟩ := oi.form
  obtain ⟨nb, hnb'⟩ : ∃ z, z = decide (U0 + U2 < U1) := ⟨_, rfl⟩
  rw [← hnb']
  have HNB := lk hnb'
  have SB : Hid (w.heap.size ≤ w2.heap.size) := lk (Nat.le_trans B1.out.2 S2.out)
  have SB2 : Hid (w.heap.size ≤ (made5 w2 243 (.slice F0 n0 f0) (.slice F1 n1 f1) (.slice Fm nm fm) (.slice F2 n2' f2) (.slice Fi ni fi) (.bool na)).heap.size) := lk (Nat.le_trans SB.out (made5_g ..).size)
  rw [← (HML).out, ← EE.out.1, ← EE.out.2.2.1] at l2
  have LB := lk (Lm.of l0 l1 l2 EE.out.2.2.2.2.1)
  rw [← HH.out] at LB
  have VB := lk vv
  have GG3 := jt g3' (made5_g w3 243 (.slice E0 t0 d0) (.slice E1 t1 d1) (.slice Em tm dm) (.slice E2 t2 d2) (.slice Ei ti di) (.bool nb))
  have PB3 := lk (made5_p w3 243 (.slice E0 t0 d0) (.slice E1 t1 d1) (.slice Em tm dm) (.slice E2 t2 d2) (.slice Ei ti di) (.bool nb))
  have PA3 := lk (PA2.out.grown0 GG3)
  have WV3 := lk ((((((WV2.out.grown0 g3').add o0 SB2.out).add o1 SB2.out).add om SB2.out).add o2 SB2.out).add oi SB2.out |>.grown0 (made5_g w3 243 (.slice E0 t0 d0) (.slice E1 t1 d1) (.slice Em tm dm) (.slice E2 t2 d2) (.slice Ei ti di) (.bool nb)))
  have M3 := lk (M2.out.grown GG3)
  have G3 := lk (jt G2.out (jn GG3 (some gm)))
  have SC : Hid (gm < w2.heap.size ∧ gm < w3.heap.size) := lk (by
   have h1 := SB.out
   have h2 := HGM.out
   have h3 := SB2.out
   have h4 := g3'.size
   omega)
  clear o0 o1 om o2 oi g3' GG3 vv l0 l1 l2 hnb' HP R2 M2 G2 PA2 WV2 S2 B1 SB SB2
  have HGM2 : Hid (∀ {W : World}, w.grownBy W (some gm) → gm < W.heap.size) := lk (fun g => Nat.lt_of_lt_of_le HGM.out g.size)
  go_wp2
  refine wp_gen (fun W => w.grownBy W (some gm) ∧ P5 W w2.heap.size _ _ _ _ _ ∧ P5 W w3.heap.size _ _ _ _ _ ∧ Wv W w.heap.size _ ∧ Mt W gm a (b + 1) _) ⟨G3.out, PA3.out, PB3.out, WV3.out, M3.out⟩ ?_
  clear G3 PA3 PB3 WV3 M3
  rintro wr ⟨G', PA', PB', WV', M'⟩
  have G := lk G'
  have PA := lk PA'
  have PB := lk PB'
  have WV := lk WV'
  have M := lk M'
  clear G' PA' PB' WV' M'
  have HSF := lk (show Canon.SF [(_, _)] _ from Canon.sf_cons (PB.out.c0.cell 0 rfl) (Canon.sf_nil _))
  have a0 := PA.out.c0.cell 0 rfl
  have b0 := PB.out.c0.cell 0 rfl
  refine Canon.region_held [83] _ (by kernel_rfl) (by kernel_rfl) HSF.out ?_
  refine Canon.segs_at 4 _ _ _ (by kernel_rfl) ?_
  simp only [ja, jb, jc, jd]
  obtain ⟨za, sa, la, va⟩ := (WV.out.drew.at 0 rfl).get (LA.out.l0)
  have HTW := lk (twide_c _ _ za K sa (by omega))
  have VVA : Hid (val B64 (rowOf (trimZ za) K) = _) := lk ((val_rowOf_all (Nat.le_trans (trimZ_len za) la)).trans ((val_trimZ _ _).trans va))
  clear sa la va
  go_wp2_with fail
  refine (HTW.out).mono ?_
  rintro e w4 ⟨ga, rfl, oa, g'⟩
  have HSF1 := lk (Canon.sf_grown0 HSF.out.drew g')
  have SA := lk (And.intro oa.sl (oa.offg (HGM2.out (jw G.out))))
  have PA1 := lk (PA.out.drew.grown0 g')
  have PB1 := lk (PB.out.drew.grown0 g')
  have WV1 := lk (WV.out.drew.grown0 g')
  have M1 := lk (M.out.drew.grown g')
  have G1 := lk (jt (jw G.out) (jn g' (some gm)))
  clear oa g' a0 HTW PA PB WV M G HSF
  go_wp2
  refine ⟨HSF1.out, ?_⟩
  refine Canon.segs_at 3 _ _ _ (by kernel_rfl) ?_
  simp only [ja, jb, jc, jd]
  clear b0
  have b0 := PB1.out.c0.cell 0 rfl
  obtain ⟨zb, sb, lb, vb⟩ := (WV1.out.at 5 rfl).get (LB.out.l0)
  have HTW := lk (twide_c _ _ zb K sb (by omega))
  have VVB : Hid (val B64 (rowOf (trimZ zb) K) = _) := lk ((val_rowOf_all (Nat.le_trans (trimZ_len zb) lb)).trans ((val_trimZ _ _).trans vb))
  clear sb lb vb
  go_wp2_with fail
  refine (HTW.out).mono ?_
  rintro e w5 ⟨gb, rfl, ob, g'⟩
  have HSF2 := lk (Canon.sf_grown0 HSF1.out g')
  have SB := lk (And.intro ob.sl (ob.offg (HGM2.out G1.out)))
  have SA2 := lk (And.intro (SA.out.1.grown0 g') SA.out.2)
  have PA2 := lk (PA1.out.grown0 g')
  have PB2 := lk (PB1.out.grown0 g')
  have WV2 := lk (WV1.out.grown0 g')
  have M2 := lk (M1.out.grown g')
  have G2 := lk (jt G1.out (jn g' (some gm)))
  clear ob g' b0 HTW PA1 PB1 WV1 M1 G1 HSF1 SA
  go_wp2
  refine ⟨HSF2.out, ?_⟩
  refine Canon.segs_at 0 _ _ _ (by kernel_rfl) ?_
  simp only [ja, jb, jc, jd]
  have N1 := HI1.out _ _ _ _ _ _ _ G2.out M2.out HT.out (by omega) SA2.out.1 SB.out.1 (rowOf_len _ _) (rowOf_len _ _) SA2.out.2 SB.out.2
  rw [VVA.out, VVB.out] at N1
  have HN1 := lk N1
  clear N1
  go_wp2_with fail
  refine (HN1.out).mono ?_
  rintro e w6 ⟨r0, c1, rfl, ox, mx, ccx, g'⟩
  have HSF3 := lk (Canon.sf_grown HSF2.out g' (fun q hq => by
   obtain rfl : q = _ := List.mem_singleton.mp hq
   have := SC.out
   simp; omega))
  have PA := lk (PA2.out.growng g' SC.out.1)
  have PB := lk (PB2.out.growng g' SC.out.2)
  have WV := lk ((WV2.out.growng g' HGM.out).add ox G2.out.size)
  have M := lk mx
  have G := lk (jt G2.out g')
  have CD1 := lk ccx
  clear ox mx ccx g' HN1 PA2 PB2 WV2 M2 G2 HSF2 SA2 SB VVA VVB
  go_wp2
  refine ⟨HSF3.out, ?_⟩
  refine Canon.segs_end _ _ _ (by kernel_rfl) ?_
  go_wp2
  refine ⟨by kernel_rfl, by kernel_rfl, by kernel_rfl, ?_⟩
  clear HSF3
  clear HI1
  go_wp2
  have HSF := lk (show Canon.SF [(_, _)] _ from Canon.sf_cons (PB.out.c1.cell 0 rfl) (Canon.sf_nil _))
  have a0 := PA.out.c1.cell 0 rfl
  have b0 := PB.out.c1.cell 0 rfl
  refine Canon.region_held [94] _ (by kernel_rfl) (by kernel_rfl) HSF.out ?_
  refine Canon.segs_at 5 _ _ _ (by kernel_rfl) ?_
  simp only [ja, jb, jc, jd]
  obtain ⟨za, sa, la, va⟩ := (WV.out.drew.at 1 rfl).get (LA.out.l1)
  have HTW := lk (twide_c _ _ za H sa (by omega))
  have VVA : Hid (val B64 (rowOf (trimZ za) H) = _) := lk ((val_rowOf_all (Nat.le_trans (trimZ_len za) la)).trans ((val_trimZ _ _).trans va))
  clear sa la va
  go_wp2_with fail
  refine (HTW.out).mono ?_
  rintro e w7 ⟨ga, rfl, oa, g'⟩
  have HSF1 := lk (Canon.sf_grown0 HSF.out.drew g')
  have SA := lk (And.intro oa.sl (oa.offg (HGM2.out (jw G.out))))
  have PA1 := lk (PA.out.drew.grown0 g')
  have PB1 := lk (PB.out.drew.grown0 g')
  have WV1 := lk (WV.out.drew.grown0 g')
  have M1 := lk (M.out.drew.grown g')
  have G1 := lk (jt (jw G.out) (jn g' (some gm)))
  clear oa g' a0 HTW PA PB WV M G HSF
  go_wp2
  refine ⟨HSF1.out, ?_⟩
  refine Canon.segs_at 4 _ _ _ (by kernel_rfl) ?_
  simp only [ja, jb, jc, jd]
  clear b0
  have b0 := PB1.out.c1.cell 0 rfl
  obtain ⟨zb, sb, lb, vb⟩ := (WV1.out.at 6 rfl).get (LB.out.l1)
  have HTW := lk (twide_c _ _ zb H sb (by omega))
  have VVB : Hid (val B64 (rowOf (trimZ zb) H) = _) := lk ((val_rowOf_all (Nat.le_trans (trimZ_len zb) lb)).trans ((val_trimZ _ _).trans vb))
  clear sb lb vb
  go_wp2_with fail
  refine (HTW.out).mono ?_
  rintro e w8 ⟨gb, rfl, ob, g'⟩
  have HSF2 := lk (Canon.sf_grown0 HSF1.out g')
  have SB := lk (And.intro ob.sl (ob.offg (HGM2.out G1.out)))
  have SA2 := lk (And.intro (SA.out.1.grown0 g') SA.out.2)
  have PA2 := lk (PA1.out.grown0 g')
  have PB2 := lk (PB1.out.grown0 g')
  have WV2 := lk (WV1.out.grown0 g')
  have M2 := lk (M1.out.grown g')
  have G2 := lk (jt G1.out (jn g' (some gm)))
  clear ob g' b0 HTW PA1 PB1 WV1 M1 G1 HSF1 SA
  go_wp2
  refine ⟨HSF2.out, ?_⟩
  refine Canon.segs_at 0 _ _ _ (by kernel_rfl) ?_
  simp only [ja, jb, jc, jd]
  have N1 := HI2.out _ _ _ _ _ _ _ G2.out M2.out CD1.out.1 (by omega) SA2.out.1 SB.out.1 (rowOf_len _ _) (rowOf_len _ _) SA2.out.2 SB.out.2
  rw [VVA.out, VVB.out] at N1
  have HN1 := lk N1
  clear N1
  go_wp2_with fail
  refine (HN1.out).mono ?_
  rintro e w9 ⟨r1, c2, rfl, ox, mx, ccx, g'⟩
  have HSF3 := lk (Canon.sf_grown HSF2.out g' (fun q hq => by
   obtain rfl : q = _ := List.mem_singleton.mp hq
   have := SC.out
   simp; omega))
  have PA := lk (PA2.out.growng g' SC.out.1)
  have PB := lk (PB2.out.growng g' SC.out.2)
  have WV := lk ((WV2.out.growng g' HGM.out).add ox G2.out.size)
  have M := lk mx
  have G := lk (jt G2.out g')
  have CD2 := lk ccx
  clear ox mx ccx g' HN1 PA2 PB2 WV2 M2 G2 HSF2 SA2 SB VVA VVB
  go_wp2
  refine ⟨HSF3.out, ?_⟩
  refine Canon.segs_end _ _ _ (by kernel_rfl) ?_
  go_wp2
  refine ⟨by kernel_rfl, by kernel_rfl, by kernel_rfl, ?_⟩
  clear HSF3
  go_wp2
  have HSF := lk (show Canon.SF [(_, _)] _ from Canon.sf_cons (PB.out.c2.cell 0 rfl) (Canon.sf_nil _))
  have a0 := PA.out.c2.cell 0 rfl
  have b0 := PB.out.c2.cell 0 rfl
  refine Canon.region_held [106] _ (by kernel_rfl) (by kernel_rfl) HSF.out ?_
  refine Canon.segs_at 5 _ _ _ (by kernel_rfl) ?_
  simp only [ja, jb, jc, jd]
  obtain ⟨za, sa, la, va⟩ := (WV.out.drew.at 2 rfl).get (LA.out.lm)
  have HTW := lk (twide_c _ _ za H sa (by omega))
  have VVA : Hid (val B64 (rowOf (trimZ za) H) = _) := lk ((val_rowOf_all (Nat.le_trans (trimZ_len za) la)).trans ((val_trimZ _ _).trans va))
  clear sa la va
  go_wp2_with fail
  refine (HTW.out).mono ?_
  rintro e w10 ⟨ga, rfl, oa, g'⟩
  have HSF1 := lk (Canon.sf_grown0 HSF.out.drew g')
  have SA := lk (And.intro oa.sl (oa.offg (HGM2.out (jw G.out))))
  have PA1 := lk (PA.out.drew.grown0 g')
  have PB1 := lk (PB.out.drew.grown0 g')
  have WV1 := lk (WV.out.drew.grown0 g')
  have M1 := lk (M.out.drew.grown g')
  have G1 := lk (jt (jw G.out) (jn g' (some gm)))
  clear oa g' a0 HTW PA PB WV M G HSF
  go_wp2
  refine ⟨HSF1.out, ?_⟩
  refine Canon.segs_at 4 _ _ _ (by kernel_rfl) ?_
  simp only [ja, jb, jc, jd]
  clear b0
  have b0 := PB1.out.c2.cell 0 rfl
  obtain ⟨zb, sb, lb, vb⟩ := (WV1.out.at 7 rfl).get (LB.out.lm)
  have HTW := lk (twide_c _ _ zb H sb (by omega))
  have VVB : Hid (val B64 (rowOf (trimZ zb) H) = _) := lk ((val_rowOf_all (Nat.le_trans (trimZ_len zb) lb)).trans ((val_trimZ _ _).trans vb))
  clear sb lb vb
  go_wp2_with fail
  refine (HTW.out).mono ?_
  rintro e w11 ⟨gb, rfl, ob, g'⟩
  have HSF2 := lk (Canon.sf_grown0 HSF1.out g')
  have SB := lk (And.intro ob.sl (ob.offg (HGM2.out G1.out)))
  have SA2 := lk (And.intro (SA.out.1.grown0 g') SA.out.2)
  have PA2 := lk (PA1.out.grown0 g')
  have PB2 := lk (PB1.out.grown0 g')
  have WV2 := lk (WV1.out.grown0 g')
  have M2 := lk (M1.out.grown g')
  have G2 := lk (jt G1.out (jn g' (some gm)))
  clear ob g' b0 HTW PA1 PB1 WV1 M1 G1 HSF1 SA
  go_wp2
  refine ⟨HSF2.out, ?_⟩
  refine Canon.segs_at 0 _ _ _ (by kernel_rfl) ?_
  simp only [ja, jb, jc, jd]
  have N1 := HI2.out _ _ _ _ _ _ _ G2.out M2.out CD2.out.1 (by omega) SA2.out.1 SB.out.1 (rowOf_len _ _) (rowOf_len _ _) SA2.out.2 SB.out.2
  rw [VVA.out, VVB.out] at N1
  have HN1 := lk N1
  clear N1
  go_wp2_with fail
  refine (HN1.out).mono ?_
  rintro e w12 ⟨rm, c3, rfl, ox, mx, ccx, g'⟩
  have HSF3 := lk (Canon.sf_grown HSF2.out g' (fun q hq => by
   obtain rfl : q = _ := List.mem_singleton.mp hq
   have := SC.out
   simp; omega))
  have PA := lk (PA2.out.growng g' SC.out.1)
  have PB := lk (PB2.out.growng g' SC.out.2)
  have WV := lk ((WV2.out.growng g' HGM.out).add ox G2.out.size)
  have M := lk mx
  have G := lk (jt G2.out g')
  have CD3 := lk ccx
  clear ox mx ccx g' HN1 PA2 PB2 WV2 M2 G2 HSF2 SA2 SB VVA VVB
  go_wp2
  refine ⟨HSF3.out, ?_⟩
  refine Canon.segs_end _ _ _ (by kernel_rfl) ?_
  go_wp2
  refine ⟨by kernel_rfl, by kernel_rfl, by kernel_rfl, ?_⟩
  clear HSF3
  go_wp2
  have HSF := lk (show Canon.SF [(_, _)] _ from Canon.sf_cons (PB.out.c3.cell 0 rfl) (Canon.sf_nil _))
  have a0 := PA.out.c3.cell 0 rfl
  have b0 := PB.out.c3.cell 0 rfl
  refine Canon.region_held [118] _ (by kernel_rfl) (by kernel_rfl) HSF.out ?_
  refine Canon.segs_at 5 _ _ _ (by kernel_rfl) ?_
  simp only [ja, jb, jc, jd]
  obtain ⟨za, sa, la, va⟩ := (WV.out.drew.at 3 rfl).get (LA.out.l2)
  have HTW := lk (twide_c _ _ za H sa (by omega))
  have VVA : Hid (val B64 (rowOf (trimZ za) H) = _) := lk ((val_rowOf_all (Nat.le_trans (trimZ_len za) la)).trans ((val_trimZ _ _).trans va))
  clear sa la va
  go_wp2_with fail
  refine (HTW.out).mono ?_
  rintro e w13 ⟨ga, rfl, oa, g'⟩
  have HSF1 := lk (Canon.sf_grown0 HSF.out.drew g')
  have SA := lk (And.intro oa.sl (oa.offg (HGM2.out (jw G.out))))
  have PA1 := lk (PA.out.drew.grown0 g')
  have PB1 := lk (PB.out.drew.grown0 g')
  have WV1 := lk (WV.out.drew.grown0 g')
  have M1 := lk (M.out.drew.grown g')
  have G1 := lk (jt (jw G.out) (jn g' (some gm)))
  clear oa g' a0 HTW PA PB WV M G HSF
  go_wp2
  refine ⟨HSF1.out, ?_⟩
  refine Canon.segs_at 4 _ _ _ (by kernel_rfl) ?_
  simp only [ja, jb, jc, jd]
  clear b0
  have b0 := PB1.out.c3.cell 0 rfl
  obtain ⟨zb, sb, lb, vb⟩ := (WV1.out.at 8 rfl).get (LB.out.l2)
  have HTW := lk (twide_c _ _ zb H sb (by omega))
  have VVB : Hid (val B64 (rowOf (trimZ zb) H) = _) := lk ((val_rowOf_all (Nat.le_trans (trimZ_len zb) lb)).trans ((val_trimZ _ _).trans vb))
  clear sb lb vb
  go_wp2_with fail
  refine (HTW.out).mono ?_
  rintro e w14 ⟨gb, rfl, ob, g'⟩
  have HSF2 := lk (Canon.sf_grown0 HSF1.out g')
  have SB := lk (And.intro ob.sl (ob.offg (HGM2.out G1.out)))
  have SA2 := lk (And.intro (SA.out.1.grown0 g') SA.out.2)
  have PA2 := lk (PA1.out.grown0 g')
  have PB2 := lk (PB1.out.grown0 g')
  have WV2 := lk (WV1.out.grown0 g')
  have M2 := lk (M1.out.grown g')
  have G2 := lk (jt G1.out (jn g' (some gm)))
  clear ob g' b0 HTW PA1 PB1 WV1 M1 G1 HSF1 SA
  go_wp2
  refine ⟨HSF2.out, ?_⟩
  refine Canon.segs_at 0 _ _ _ (by kernel_rfl) ?_
  simp only [ja, jb, jc, jd]
  have N1 := HI2.out _ _ _ _ _ _ _ G2.out M2.out CD3.out.1 (by omega) SA2.out.1 SB.out.1 (rowOf_len _ _) (rowOf_len _ _) SA2.out.2 SB.out.2
  rw [VVA.out, VVB.out] at N1
  have HN1 := lk N1
  clear N1
  go_wp2_with fail
  refine (HN1.out).mono ?_
  rintro e w15 ⟨r2, c4, rfl, ox, mx, ccx, g'⟩
  have HSF3 := lk (Canon.sf_grown HSF2.out g' (fun q hq => by
   obtain rfl : q = _ := List.mem_singleton.mp hq
   have := SC.out
   simp; omega))
  have PA := lk (PA2.out.growng g' SC.out.1)
  have PB := lk (PB2.out.growng g' SC.out.2)
  have WV := lk ((WV2.out.growng g' HGM.out).add ox G2.out.size)
  have M := lk mx
  have G := lk (jt G2.out g')
  have CD4 := lk ccx
  clear ox mx ccx g' HN1 PA2 PB2 WV2 M2 G2 HSF2 SA2 SB VVA VVB
  go_wp2
  refine ⟨HSF3.out, ?_⟩
  refine Canon.segs_end _ _ _ (by kernel_rfl) ?_
  go_wp2
  refine ⟨by kernel_rfl, by kernel_rfl, by kernel_rfl, ?_⟩
  clear HSF3
  clear HI2
  go_wp2
  have HSF := lk (show Canon.SF [(_, _)] _ from Canon.sf_cons (PB.out.c4.cell 0 rfl) (Canon.sf_nil _))
  have a0 := PA.out.c4.cell 0 rfl
  have b0 := PB.out.c4.cell 0 rfl
  refine Canon.region_held [132] _ (by kernel_rfl) (by kernel_rfl) HSF.out ?_
  refine Canon.segs_at 7 _ _ _ (by kernel_rfl) ?_
  simp only [ja, jb, jc, jd]
  obtain ⟨za, sa, la, va⟩ := (WV.out.drew.at 4 rfl).get (LA.out.li)
  have HTW := lk (twide_c _ _ za p sa (by omega))
  have VVA : Hid (val B64 (rowOf (trimZ za) p) = _) := lk ((val_rowOf_all (Nat.le_trans (trimZ_len za) la)).trans ((val_trimZ _ _).trans va))
  clear sa la va
  go_wp2_with fail
  refine (HTW.out).mono ?_
  rintro e w16 ⟨ga, rfl, oa, g'⟩
  have HSF1 := lk (Canon.sf_grown0 HSF.out.drew g')
  have SA := lk (And.intro oa.sl (oa.offg (HGM2.out (jw G.out))))
  have PA1 := lk (PA.out.drew.grown0 g')
  have PB1 := lk (PB.out.drew.grown0 g')
  have WV1 := lk (WV.out.drew.grown0 g')
  have M1 := lk (M.out.drew.grown g')
  have G1 := lk (jt (jw G.out) (jn g' (some gm)))
  clear oa g' a0 HTW PA PB WV M G HSF
  go_wp2
  refine ⟨HSF1.out, ?_⟩
  refine Canon.segs_at 6 _ _ _ (by kernel_rfl) ?_
  simp only [ja, jb, jc, jd]
  clear b0
  have b0 := PB1.out.c4.cell 0 rfl
  obtain ⟨zb, sb, lb, vb⟩ := (WV1.out.at 9 rfl).get (LB.out.li)
  have HTW := lk (twide_c _ _ zb q sb (by omega))
  have VVB : Hid (val B64 (rowOf (trimZ zb) q) = _) := lk ((val_rowOf_all (Nat.le_trans (trimZ_len zb) lb)).trans ((val_trimZ _ _).trans vb))
  clear sb lb vb
  go_wp2_with fail
  refine (HTW.out).mono ?_
  rintro e w17 ⟨gb, rfl, ob, g'⟩
  have HSF2 := lk (Canon.sf_grown0 HSF1.out g')
  have SB := lk (And.intro ob.sl (ob.offg (HGM2.out G1.out)))
  have SA2 := lk (And.intro (SA.out.1.grown0 g') SA.out.2)
  have PA2 := lk (PA1.out.grown0 g')
  have PB2 := lk (PB1.out.grown0 g')
  have WV2 := lk (WV1.out.grown0 g')
  have M2 := lk (M1.out.grown g')
  have G2 := lk (jt G1.out (jn g' (some gm)))
  clear ob g' b0 HTW PA1 PB1 WV1 M1 G1 HSF1 SA
  go_wp2
  refine ⟨HSF2.out, ?_⟩
  refine Canon.segs_at 0 _ _ _ (by kernel_rfl) ?_
  simp only [ja, jb, jc, jd]
  have N1 := HI3.out _ _ _ _ _ _ _ G2.out M2.out CD4.out.1 (by omega) SA2.out.1 SB.out.1 (rowOf_len _ _) (rowOf_len _ _) SA2.out.2 SB.out.2
  rw [VVA.out, VVB.out] at N1
  have HN1 := lk N1
  clear N1
  go_wp2_with fail
  refine (HN1.out).mono ?_
  rintro e w18 ⟨ri, c5, rfl, ox, mx, ccx, g'⟩
  have HSF3 := lk (Canon.sf_grown HSF2.out g' (fun q hq => by
   obtain rfl : q = _ := List.mem_singleton.mp hq
   have := SC.out
   simp; omega))
  have PA := lk (PA2.out.growng g' SC.out.1)
  have PB := lk (PB2.out.growng g' SC.out.2)
  have WV := lk ((WV2.out.growng g' HGM.out).add ox G2.out.size)
  have M := lk mx
  have G := lk (jt G2.out g')
  have CD5 := lk ccx
  clear ox mx ccx g' HN1 PA2 PB2 WV2 M2 G2 HSF2 SA2 SB VVA VVB
  go_wp2
  refine ⟨HSF3.out, ?_⟩
  refine Canon.segs_end _ _ _ (by kernel_rfl) ?_
  go_wp2
  refine ⟨by kernel_rfl, by kernel_rfl, by kernel_rfl, ?_⟩
  clear HSF3
  have SCC := SC
  clear HI3 ent
  have ES : a + (k1 : Int) + (k2 : Int) + (k2 : Int) + (k2 : Int) + (k3 : Int) = a + ((k1 + k2 + k2 + k2 + k3 : Nat) : Int) := by omega
  have m' := M.out
  rw [ES] at m'
  have LV := leave_c w18 gm _ _ c5 m' (by omega)
  have eb : (if b + 1 > 0 then b + 1 - 1 else 0) = b := by split <;> omega
  rw [eb] at LV
  have HLV := lk LV
  clear LV m' M eb ES hc1 hc2 hc3
  have hc1 := gb_cell G.out HC.out.1 (by have := HN.out.1; simpa using this)
  have hc2 := gb_cell G.out HC.out.2.1 (by have := HN.out.2.1; simpa using this)
  have hc3 := gb_cell G.out HC.out.2.2 (by have := HN.out.2.2; simpa using this)
  go_wp2_with fail
  refine (HLV.out).mono ?_
  rintro e w19 ⟨rfl, m19, mo⟩
  have M19 := lk m19
  have G19 := lk (jt G.out mo.gb)
  have BG : Hid (gm < w2.heap.size ∧ gm < w3.heap.size) := SCC
  have PA19 := lk (PA.out.growng mo.gb BG.out.1)
  have PB19 := lk (PB.out.growng mo.gb BG.out.2)
  have WV19 := lk (WV.out.growng mo.gb HGM.out)
  clear m19 mo HLV G PA PB WV hc1 hc2 hc3
  obtain ⟨z0, s0, q0, v0⟩ := (WV19.out.at 10 rfl).get (mul_lt_pow LA.out.l0 LB.out.l0)
  obtain ⟨z1, s1, q1, v1⟩ := (WV19.out.at 11 rfl).get (mul_lt_pow LA.out.l1 LB.out.l1)
  obtain ⟨zm, sm, qm, vm⟩ := (WV19.out.at 12 rfl).get (mul_lt_pow LA.out.lm LB.out.lm)
  obtain ⟨z2, s2, q2, v2⟩ := (WV19.out.at 13 rfl).get (mul_lt_pow LA.out.l2 LB.out.l2)
  obtain ⟨zi, si, qi, vi⟩ := (WV19.out.at 14 rfl).get (mul_lt_pow LA.out.li LB.out.li)
  have TT := tj_of (V0 := V0) (V1 := V1) (V2 := V2) (U0 := U0) (U1 := U1) (U2 := U2) (M := K + 1 + (K + 1) + 1) (by
   have t1 := LA.out
   have t2 := LB.out
   rw [HH.out] at t1 t2
   exact t1.both t2) (by omega)
  rw [← HNA.out, ← HNB.out, ← v0, ← v1, ← vm, ← v2, ← vi] at TT
  have JN := tjoined_c w19 K r0 r1 rm r2 ri z0 z1 zm z2 zi _ _ _ _ _ _ _ s0 s1 sm s2 si (by omega) (by omega) TT
  have eP : B64 ^ (2 * K) = B64 ^ K * B64 ^ K ∧ B64 ^ (3 * K) = B64 ^ K * B64 ^ K * B64 ^ K ∧ B64 ^ (4 * K) = B64 ^ K * B64 ^ K * B64 ^ K * B64 ^ K := by
   refine ⟨?_, ?_, ?_⟩
   ·rw [Nat.two_mul, Nat.pow_add]
   ·rw [show 3 * K = K + K + K by omega, Nat.pow_add, Nat.pow_add]
   ·rw [show 4 * K = K + K + K + K by omega, Nat.pow_add, Nat.pow_add, Nat.pow_add]
  rw [eP.1, eP.2.1, eP.2.2, v0, vi, ← toom_val, ← VA.out, ← VB.out] at JN
  have HJN := lk JN
  have n0 := PA19.out.c2.cell 1 rfl
  have n1 := PB19.out.c2.cell 1 rfl
  clear JN TT eP s0 q0 v0 s1 q1 v1 sm qm vm s2 q2 v2 si qi vi WV19 PA19 PB19
  go_wp2_with fail
  refine (HJN.out).mono ?_
  rintro e w20 ⟨x, rfl, o20, g20⟩
  have KK : Hid (Wo w20 w.heap.size x (val B64 al * val B64 bl) ∧ Mt w20 gm (a + ((k1 + k2 + k2 + k2 + k3 : Nat) : Int)) b c5 ∧ w.grownBy w20 (some gm)) := lk
   ⟨o20.mono G19.out.size, M19.out.grown g20, jt G19.out (jn g20 (some gm))⟩
  have CC : Hid (c5.T = T ∧ c.v ≤ c5.v ∧ (c5.v ≤ c.v ∨ c5.v ≤ b + (1 + d))) := lk (by
   have t1 := CD1.out
   have t2 := CD2.out
   have t3 := CD3.out
   have t3' := CD4.out
   have t3'' := CD5.out
   have t4 : (c.up (b + 1)).v = if b + 1 > c.v then b + 1 else c.v := rfl
   refine ⟨t3''.1, ?_⟩
   split at t4 <;> omega)
  clear o20 g20 HJN
  go_wp2
  go_ret2
  exact ⟨x, c5, rfl, by first | exact KK.out.1 | (rw [Nat.mul_comm]; exact KK.out.1), KK.out.2.1, CC.out, KK.out.2.2⟩
def clampI (l m n : Int) : Int := if n < l then l else if m < n then m else n
theorem clampI_ge {l m n : Int} (h : l ≤ m) : l ≤ clampI l m n := by unfold clampI; split <;> (try split) <;> omega
theorem clampI_le {l m n : Int} (h : l ≤ m) : clampI l m n ≤ m := by unfold clampI; split <;> (try split) <;> omega
theorem clampI_id {l m n : Int} (h1 : l ≤ n) (h2 : n ≤ m) : clampI l m n = n := by unfold clampI; rw [if_neg (by omega), if_neg (by omega)]
structure Tb where
 eb : Int
 et : Int
 en : Int
 ed : Int
 er : Int
 el : Int
 ex : Int
 ep : Int
 ek : Int
 es : Int
 ee : Int
def Tb.clamp (t : Tb) : Tb := ⟨clampI 4 64 t.eb, clampI 12 8192 t.et, clampI 64 16384 t.en, clampI 4 1024 t.ed, clampI 4 4096 t.er, clampI 2 1024 t.el, clampI 2 1024 t.ex, clampI 4 256 t.ep, clampI 4 1024 t.ek, clampI 2 1024 t.es, clampI 2 256 t.ee⟩
abbrev Tb.vs (t : Tb) : List Value := [.int .i64 t.eb, .int .i64 t.et, .int .i64 t.en, .int .i64 t.ed, .int .i64 t.er, .int .i64 t.el, .int .i64 t.ex, .int .i64 t.ep, .int .i64 t.ek, .int .i64 t.es, .int .i64 t.ee]
abbrev Tb.v (t : Tb) : Value := .agg #[.int .i64 t.eb, .int .i64 t.et, .int .i64 t.en, .int .i64 t.ed, .int .i64 t.er, .int .i64 t.el, .int .i64 t.ex, .int .i64 t.ep, .int .i64 t.ek, .int .i64 t.es, .int .i64 t.ee]
structure TbOk (t : Tb) : Prop where
 eb : 4 ≤ t.eb ∧ t.eb ≤ 64
 et : 12 ≤ t.et ∧ t.et ≤ 8192
 en : 64 ≤ t.en ∧ t.en ≤ 16384
 ed : 4 ≤ t.ed ∧ t.ed ≤ 1024
 er : 4 ≤ t.er ∧ t.er ≤ 4096
 el : 2 ≤ t.el ∧ t.el ≤ 1024
 ex : 2 ≤ t.ex ∧ t.ex ≤ 1024
 ep : 4 ≤ t.ep ∧ t.ep ≤ 256
 ek : 4 ≤ t.ek ∧ t.ek ≤ 1024
 es : 2 ≤ t.es ∧ t.es ≤ 1024
 ee : 2 ≤ t.ee ∧ t.ee ≤ 256
theorem Tb.clamp_ok (t : Tb) : TbOk t.clamp := ⟨⟨clampI_ge (by decide), clampI_le (by decide)⟩, ⟨clampI_ge (by decide), clampI_le (by decide)⟩, ⟨clampI_ge (by decide), clampI_le (by decide)⟩, ⟨clampI_ge (by decide), clampI_le (by decide)⟩, ⟨clampI_ge (by decide), clampI_le (by decide)⟩, ⟨clampI_ge (by decide), clampI_le (by decide)⟩, ⟨clampI_ge (by decide), clampI_le (by decide)⟩, ⟨clampI_ge (by decide), clampI_le (by decide)⟩, ⟨clampI_ge (by decide), clampI_le (by decide)⟩, ⟨clampI_ge (by decide), clampI_le (by decide)⟩, ⟨clampI_ge (by decide), clampI_le (by decide)⟩⟩
theorem TbOk.clamp {t : Tb} (h : TbOk t) : t.clamp = t := by
 unfold Tb.clamp
 rw [clampI_id h.eb.1 h.eb.2, clampI_id h.et.1 h.et.2, clampI_id h.en.1 h.en.2, clampI_id h.ed.1 h.ed.2, clampI_id h.er.1 h.er.2, clampI_id h.el.1 h.el.2, clampI_id h.ex.1 h.ex.2, clampI_id h.ep.1 h.ep.2, clampI_id h.ek.1 h.ek.2, clampI_id h.es.1 h.es.2, clampI_id h.ee.1 h.ee.2]
def rt (t : Tb) (n m : Nat) : Nat := if m = 0 then 0 else if (m : Int) < t.eb then 1 else if 2 * m ≤ n + 1 then 2 else if (m : Int) < t.et then 3 else if t.en ≤ ((n + m : Nat) : Int) then 5 else if 2 * ((n + 2) / 3) < m then 4 else 3
theorem twithin_c (w : World) (n l m : Int) (h : l ≤ m) : Calls Tryz.prog 196 #[.int .i64 n, .int .i64 l, .int .i64 m] w fun e w' => e = .returned (.int .i64 (clampI l m n)) ∧ w' = w := by
 by_cases h1 : n < l
 ·have e : clampI l m n = l := by unfold clampI; rw [if_pos h1]
  rw [e]
  clear e
  have h2 : n < m := by omega
  go_enter Tryz.func196, Tryz.ntmps196
  go_wp2
  all_goals go_ret
  all_goals exact ⟨by simp; try omega, rfl⟩
 ·by_cases h2 : m < n
  ·have e : clampI l m n = m := by unfold clampI; rw [if_neg h1, if_pos h2]
   rw [e]
   clear e
   go_enter Tryz.func196, Tryz.ntmps196
   go_wp2
   all_goals go_ret
   all_goals exact ⟨by simp; try omega, rfl⟩
  ·have e : clampI l m n = n := by unfold clampI; rw [if_neg h1, if_neg h2]
   rw [e]
   clear e
   go_enter Tryz.func196, Tryz.ntmps196
   go_wp2
   all_goals go_ret
   all_goals exact ⟨by simp; try omega, rfl⟩
theorem tclamp_c (w : World) (t : Tb) : Calls Tryz.prog 176 #[t.v] w fun e w' => e = .returned t.clamp.v ∧ w.grownBy w' none := by
 have H0 := lk (fun w => twithin_c w t.eb 4 64 (by decide))
 have H1 := lk (fun w => twithin_c w t.et 12 8192 (by decide))
 have H2 := lk (fun w => twithin_c w t.en 64 16384 (by decide))
 have H3 := lk (fun w => twithin_c w t.ed 4 1024 (by decide))
 have H4 := lk (fun w => twithin_c w t.er 4 4096 (by decide))
 have H5 := lk (fun w => twithin_c w t.el 2 1024 (by decide))
 have H6 := lk (fun w => twithin_c w t.ex 2 1024 (by decide))
 have H7 := lk (fun w => twithin_c w t.ep 4 256 (by decide))
 have H8 := lk (fun w => twithin_c w t.ek 4 1024 (by decide))
 have H9 := lk (fun w => twithin_c w t.es 2 1024 (by decide))
 have H10 := lk (fun w => twithin_c w t.ee 2 256 (by decide))
 obtain ⟨u, hu⟩ : ∃ u, u = t.clamp := ⟨_, rfl⟩
 rw [← hu]
 rw [show clampI 4 64 t.eb = u.eb by rw [hu]; rfl] at H0
 rw [show clampI 12 8192 t.et = u.et by rw [hu]; rfl] at H1
 rw [show clampI 64 16384 t.en = u.en by rw [hu]; rfl] at H2
 rw [show clampI 4 1024 t.ed = u.ed by rw [hu]; rfl] at H3
 rw [show clampI 4 4096 t.er = u.er by rw [hu]; rfl] at H4
 rw [show clampI 2 1024 t.el = u.el by rw [hu]; rfl] at H5
 rw [show clampI 2 1024 t.ex = u.ex by rw [hu]; rfl] at H6
 rw [show clampI 4 256 t.ep = u.ep by rw [hu]; rfl] at H7
 rw [show clampI 4 1024 t.ek = u.ek by rw [hu]; rfl] at H8
 rw [show clampI 2 1024 t.es = u.es by rw [hu]; rfl] at H9
 rw [show clampI 2 256 t.ee = u.ee by rw [hu]; rfl] at H10
 clear hu
 have GA := ju (jr w none) (Obj.cells #[.int .i64 t.eb, .int .i64 t.et, .int .i64 t.en, .int .i64 t.ed, .int .i64 t.er, .int .i64 t.el, .int .i64 t.ex, .int .i64 t.ep, .int .i64 t.ek, .int .i64 t.es, .int .i64 t.ee] 23)
 have C0 := cs_new w #[.int .i64 t.eb, .int .i64 t.et, .int .i64 t.en, .int .i64 t.ed, .int .i64 t.er, .int .i64 t.el, .int .i64 t.ex, .int .i64 t.ep, .int .i64 t.ek, .int .i64 t.es, .int .i64 t.ee] 23
 have GB := ju (jr (w.alloc (Obj.cells #[.int .i64 t.eb, .int .i64 t.et, .int .i64 t.en, .int .i64 t.ed, .int .i64 t.er, .int .i64 t.el, .int .i64 t.ex, .int .i64 t.ep, .int .i64 t.ek, .int .i64 t.es, .int .i64 t.ee] 23)) none) (Obj.cells #[.int .i64 0, .int .i64 0, .int .i64 0, .int .i64 0, .int .i64 0, .int .i64 0, .int .i64 0, .int .i64 0, .int .i64 0, .int .i64 0, .int .i64 0] 23)
 have C1 := cs_new (w.alloc (Obj.cells #[.int .i64 t.eb, .int .i64 t.et, .int .i64 t.en, .int .i64 t.ed, .int .i64 t.er, .int .i64 t.el, .int .i64 t.ex, .int .i64 t.ep, .int .i64 t.ek, .int .i64 t.es, .int .i64 t.ee] 23)) #[.int .i64 0, .int .i64 0, .int .i64 0, .int .i64 0, .int .i64 0, .int .i64 0, .int .i64 0, .int .i64 0, .int .i64 0, .int .i64 0, .int .i64 0] 23
 have C0 := C0.grown0 GB
 have HC0 := lk C0
 have HC1 := lk C1
 have HG := lk (jt GA GB)
 clear GA C0 GB C1
 rw [show (w.alloc (Obj.cells #[.int .i64 t.eb, .int .i64 t.et, .int .i64 t.en, .int .i64 t.ed, .int .i64 t.er, .int .i64 t.el, .int .i64 t.ex, .int .i64 t.ep, .int .i64 t.ek, .int .i64 t.es, .int .i64 t.ee] 23)).heap.size = w.heap.size + 1 from alloc_sz ..] at HC1
 go_enter Tryz.func176, Tryz.ntmps176
 go_wp2
 refine wp_gen (fun W => w.grownBy W none ∧ Cs W w.heap.size t.vs ∧ Cs W (w.heap.size + 1) _) ⟨HG.out, HC0.out, HC1.out⟩ ?_
 clear HG HC0 HC1
 rintro wr ⟨G, c0, c1⟩
 have HG := lk G
 have HC0 := lk c0
 have HC1 := lk c1
 clear G c0 c1
 have HSF := lk (show Canon.SF [(⟨w.heap.size, 1, none⟩, .int .i64 t.et), (⟨w.heap.size, 2, none⟩, .int .i64 t.en), (⟨w.heap.size, 3, none⟩, .int .i64 t.ed), (⟨w.heap.size, 4, none⟩, .int .i64 t.er), (⟨w.heap.size, 5, none⟩, .int .i64 t.el), (⟨w.heap.size, 6, none⟩, .int .i64 t.ex), (⟨w.heap.size, 7, none⟩, .int .i64 t.ep), (⟨w.heap.size, 8, none⟩, .int .i64 t.ek), (⟨w.heap.size, 9, none⟩, .int .i64 t.es), (⟨w.heap.size, 10, none⟩, .int .i64 t.ee)] wr from Canon.sf_cons (HC0.out.cell 1 rfl) (Canon.sf_cons (HC0.out.cell 2 rfl) (Canon.sf_cons (HC0.out.cell 3 rfl) (Canon.sf_cons (HC0.out.cell 4 rfl) (Canon.sf_cons (HC0.out.cell 5 rfl) (Canon.sf_cons (HC0.out.cell 6 rfl) (Canon.sf_cons (HC0.out.cell 7 rfl) (Canon.sf_cons (HC0.out.cell 8 rfl) (Canon.sf_cons (HC0.out.cell 9 rfl) (Canon.sf_cons (HC0.out.cell 10 rfl) (Canon.sf_nil _)))))))))))
 refine Canon.region_held [7, 10, 13, 16, 19, 22, 25, 28, 31, 34] _ (by kernel_rfl) (by kernel_rfl) HSF.out ?_
 have HC0 := lk HC0.out.drew
 have HC1 := lk HC1.out.drew
 have HG := lk (jw HG.out)
 have HSF := lk HSF.out.drew
 obtain ⟨wd, hwd⟩ : ∃ W, W = wr.drew := ⟨_, rfl⟩
 rw [← hwd] at HC0 HC1 HG HSF ⊢
 clear hwd
 refine Canon.segs_at 2 _ _ _ (by kernel_rfl) ?_
 simp only [ja, jb, jc, jd]
 have c0 := HC0.out.cell 0 rfl
 go_wp2_with fail
 refine (H0.out _).mono ?_
 rintro e wx ⟨rfl, hwx⟩
 subst hwx
 clear c0 H0
 go_wp2
 refine ⟨HSF.out, ?_⟩
 refine Canon.segs_at 2 _ _ _ (by kernel_rfl) ?_
 simp only [ja, jb, jc, jd]
 have c0 := HC0.out.cell 1 rfl
 go_wp2_with fail
 refine (H1.out _).mono ?_
 rintro e wx ⟨rfl, hwx⟩
 subst hwx
 clear c0 H1
 go_wp2
 refine ⟨HSF.out, ?_⟩
 refine Canon.segs_at 2 _ _ _ (by kernel_rfl) ?_
 simp only [ja, jb, jc, jd]
 have c0 := HC0.out.cell 2 rfl
 go_wp2_with fail
 refine (H2.out _).mono ?_
 rintro e wx ⟨rfl, hwx⟩
 subst hwx
 clear c0 H2
 go_wp2
 refine ⟨HSF.out, ?_⟩
 refine Canon.segs_at 2 _ _ _ (by kernel_rfl) ?_
 simp only [ja, jb, jc, jd]
 have c0 := HC0.out.cell 3 rfl
 go_wp2_with fail
 refine (H3.out _).mono ?_
 rintro e wx ⟨rfl, hwx⟩
 subst hwx
 clear c0 H3
 go_wp2
 refine ⟨HSF.out, ?_⟩
 refine Canon.segs_at 2 _ _ _ (by kernel_rfl) ?_
 simp only [ja, jb, jc, jd]
 have c0 := HC0.out.cell 4 rfl
 go_wp2_with fail
 refine (H4.out _).mono ?_
 rintro e wx ⟨rfl, hwx⟩
 subst hwx
 clear c0 H4
 go_wp2
 refine ⟨HSF.out, ?_⟩
 refine Canon.segs_at 2 _ _ _ (by kernel_rfl) ?_
 simp only [ja, jb, jc, jd]
 have c0 := HC0.out.cell 5 rfl
 go_wp2_with fail
 refine (H5.out _).mono ?_
 rintro e wx ⟨rfl, hwx⟩
 subst hwx
 clear c0 H5
 go_wp2
 refine ⟨HSF.out, ?_⟩
 refine Canon.segs_at 2 _ _ _ (by kernel_rfl) ?_
 simp only [ja, jb, jc, jd]
 have c0 := HC0.out.cell 6 rfl
 go_wp2_with fail
 refine (H6.out _).mono ?_
 rintro e wx ⟨rfl, hwx⟩
 subst hwx
 clear c0 H6
 go_wp2
 refine ⟨HSF.out, ?_⟩
 refine Canon.segs_at 2 _ _ _ (by kernel_rfl) ?_
 simp only [ja, jb, jc, jd]
 have c0 := HC0.out.cell 7 rfl
 go_wp2_with fail
 refine (H7.out _).mono ?_
 rintro e wx ⟨rfl, hwx⟩
 subst hwx
 clear c0 H7
 go_wp2
 refine ⟨HSF.out, ?_⟩
 refine Canon.segs_at 2 _ _ _ (by kernel_rfl) ?_
 simp only [ja, jb, jc, jd]
 have c0 := HC0.out.cell 8 rfl
 go_wp2_with fail
 refine (H8.out _).mono ?_
 rintro e wx ⟨rfl, hwx⟩
 subst hwx
 clear c0 H8
 go_wp2
 refine ⟨HSF.out, ?_⟩
 refine Canon.segs_at 2 _ _ _ (by kernel_rfl) ?_
 simp only [ja, jb, jc, jd]
 have c0 := HC0.out.cell 9 rfl
 go_wp2_with fail
 refine (H9.out _).mono ?_
 rintro e wx ⟨rfl, hwx⟩
 subst hwx
 clear c0 H9
 go_wp2
 refine ⟨HSF.out, ?_⟩
 refine Canon.segs_at 2 _ _ _ (by kernel_rfl) ?_
 simp only [ja, jb, jc, jd]
 have c0 := HC0.out.cell 10 rfl
 go_wp2_with fail
 refine (H10.out _).mono ?_
 rintro e wx ⟨rfl, hwx⟩
 subst hwx
 clear c0 H10
 go_wp2
 refine ⟨HSF.out, ?_⟩
 refine Canon.segs_at 0 _ _ _ (by kernel_rfl) ?_
 simp only [ja, jb, jc, jd]
 go_wp2
 refine ⟨HSF.out, ?_⟩
 refine Canon.segs_at 0 _ _ _ (by kernel_rfl) ?_
 simp only [ja, jb, jc, jd]
 have f0 := HC1.out.free 0 rfl
 have q0 := HC1.out.cell 0 rfl
 have f1 := HC1.out.free 1 rfl
 have q1 := HC1.out.cell 1 rfl
 have f2 := HC1.out.free 2 rfl
 have q2 := HC1.out.cell 2 rfl
 have f3 := HC1.out.free 3 rfl
 have q3 := HC1.out.cell 3 rfl
 have f4 := HC1.out.free 4 rfl
 have q4 := HC1.out.cell 4 rfl
 have f5 := HC1.out.free 5 rfl
 have q5 := HC1.out.cell 5 rfl
 have f6 := HC1.out.free 6 rfl
 have q6 := HC1.out.cell 6 rfl
 have f7 := HC1.out.free 7 rfl
 have q7 := HC1.out.cell 7 rfl
 have f8 := HC1.out.free 8 rfl
 have q8 := HC1.out.cell 8 rfl
 have f9 := HC1.out.free 9 rfl
 have q9 := HC1.out.cell 9 rfl
 have f10 := HC1.out.free 10 rfl
 have q10 := HC1.out.cell 10 rfl
 go_wp2
 clear f0 q0 f1 q1 f2 q2 f3 q3 f4 q4 f5 q5 f6 q6 f7 q7 f8 q8 f9 q9 f10 q10
 have CN := (((((((((((HC1.out.set 0 (.int .i64 u.eb)).set 1 (.int .i64 u.et)).set 2 (.int .i64 u.en)).set 3 (.int .i64 u.ed)).set 4 (.int .i64 u.er)).set 5 (.int .i64 u.el)).set 6 (.int .i64 u.ex)).set 7 (.int .i64 u.ep)).set 8 (.int .i64 u.ek)).set 9 (.int .i64 u.es)).set 10 (.int .i64 u.ee))
 have GR := (gb_rowC (gb_rowC (gb_rowC (gb_rowC (gb_rowC (gb_rowC (gb_rowC (gb_rowC (gb_rowC (gb_rowC (gb_rowC (jr wx (some (w.heap.size + 1))) 0 (.int .i64 u.eb)) 1 (.int .i64 u.et)) 2 (.int .i64 u.en)) 3 (.int .i64 u.ed)) 4 (.int .i64 u.er)) 5 (.int .i64 u.el)) 6 (.int .i64 u.ex)) 7 (.int .i64 u.ep)) 8 (.int .i64 u.ek)) 9 (.int .i64 u.es)) 10 (.int .i64 u.ee))
 have GN := (gb_set (p := ⟨w.heap.size + 1, 10, none⟩) (gb_set (p := ⟨w.heap.size + 1, 9, none⟩) (gb_set (p := ⟨w.heap.size + 1, 8, none⟩) (gb_set (p := ⟨w.heap.size + 1, 7, none⟩) (gb_set (p := ⟨w.heap.size + 1, 6, none⟩) (gb_set (p := ⟨w.heap.size + 1, 5, none⟩) (gb_set (p := ⟨w.heap.size + 1, 4, none⟩) (gb_set (p := ⟨w.heap.size + 1, 3, none⟩) (gb_set (p := ⟨w.heap.size + 1, 2, none⟩) (gb_set (p := ⟨w.heap.size + 1, 1, none⟩) (gb_set (p := ⟨w.heap.size + 1, 0, none⟩) HG.out (by show w.heap.size ≤ w.heap.size + 1; omega) (.int .i64 u.eb)) (by show w.heap.size ≤ w.heap.size + 1; omega) (.int .i64 u.et)) (by show w.heap.size ≤ w.heap.size + 1; omega) (.int .i64 u.en)) (by show w.heap.size ≤ w.heap.size + 1; omega) (.int .i64 u.ed)) (by show w.heap.size ≤ w.heap.size + 1; omega) (.int .i64 u.er)) (by show w.heap.size ≤ w.heap.size + 1; omega) (.int .i64 u.el)) (by show w.heap.size ≤ w.heap.size + 1; omega) (.int .i64 u.ex)) (by show w.heap.size ≤ w.heap.size + 1; omega) (.int .i64 u.ep)) (by show w.heap.size ≤ w.heap.size + 1; omega) (.int .i64 u.ek)) (by show w.heap.size ≤ w.heap.size + 1; omega) (.int .i64 u.es)) (by show w.heap.size ≤ w.heap.size + 1; omega) (.int .i64 u.ee))
 have HCN := lk CN
 have HGN := lk GN
 have HSF2 := lk (Canon.sf_grown HSF.out GR (fun q hq => by
  have : q.1.block = w.heap.size := by
   simp only [List.mem_cons, List.not_mem_nil, or_false] at hq
   rcases hq with rfl | rfl | rfl | rfl | rfl | rfl | rfl | rfl | rfl | rfl <;> rfl
  rw [this]; simp))
 clear CN GN GR HSF HC0 HC1 HG
 refine ⟨HSF2.out, ?_⟩
 refine Canon.segs_end _ _ _ (by kernel_rfl) ?_
 go_wp2
 refine ⟨by kernel_rfl, by kernel_rfl, by kernel_rfl, ?_⟩
 go_wp2
 refine bodyPost_ret (res_agg rfl HCN.out rfl (by kernel_rfl) (by kernel_rfl)) rfl ?_
 exact ⟨rfl, HGN.out⟩
theorem rt_le (t : Tb) (n m : Nat) : rt t n m ≤ 5 := by unfold rt; repeat' split <;> try omega
theorem route_c (w : World) (t : Tb) (n m : Nat) (hn : n ≤ 16384) (hm : m ≤ 16384) : Calls Tryz.prog 175 #[t.v, .int .i64 n, .int .i64 m] w fun e w' => e = .returned (.int .i64 (rt t n m)) ∧ w.grownBy w' none := by
  have C0 := cs_new w #[.int .i64 t.eb, .int .i64 t.et, .int .i64 t.en, .int .i64 t.ed, .int .i64 t.er, .int .i64 t.el, .int .i64 t.ex, .int .i64 t.ep, .int .i64 t.ek, .int .i64 t.es, .int .i64 t.ee] 23
  have hg := ju (jr w none) (Obj.cells #[.int .i64 t.eb, .int .i64 t.et, .int .i64 t.en, .int .i64 t.ed, .int .i64 t.er, .int .i64 t.el, .int .i64 t.ex, .int .i64 t.ep, .int .i64 t.ek, .int .i64 t.es, .int .i64 t.ee] 23)
  have c0 := C0.cell 0 rfl
  have c1 := C0.cell 1 rfl
  have c2 := C0.cell 2 rfl
  clear C0
  obtain ⟨K, hK⟩ : ∃ K, K = (n + 2) / 3 := ⟨_, rfl⟩
  have eK : ((n : Int) + 2) / 3 = (K : Int) := by omega
  have bK : K ≤ 5462 := by omega
  obtain ⟨r, hr⟩ : ∃ r, r = rt t n m := ⟨_, rfl⟩
  rw [← hr]
  unfold rt at hr
  rw [← hK] at hr
  clear hK
  by_cases h0 : m = 0
  · rw [if_pos h0] at hr
    subst hr
    have e0 : (m : Int) = 0 := by omega
    subst h0
    clear e0
    go_enter Tryz.func175, Tryz.ntmps175
    go_wp2
    go_ret
    exact ⟨rfl, hg⟩
  rw [if_neg h0] at hr
  have e0 : ((m : Int) == 0) = false := by have : ¬ (m : Int) = 0 := by omega
                                           simpa using this
  by_cases h1 : (m : Int) < t.eb
  · rw [if_pos h1] at hr
    subst hr
    go_enter Tryz.func175, Tryz.ntmps175
    go_wp2
    go_ret
    exact ⟨rfl, hg⟩
  rw [if_neg h1] at hr
  by_cases h2 : 2 * m ≤ n + 1
  · rw [if_pos h2] at hr
    subst hr
    have e2 : 2 * (m : Int) ≤ (n : Int) + 1 := by omega
    go_enter Tryz.func175, Tryz.ntmps175
    go_wp2
    go_ret
    exact ⟨rfl, hg⟩
  rw [if_neg h2] at hr
  have e2 : ¬ 2 * (m : Int) ≤ (n : Int) + 1 := by omega
  by_cases h3 : (m : Int) < t.et
  · rw [if_pos h3] at hr
    subst hr
    go_enter Tryz.func175, Tryz.ntmps175
    go_wp2
    go_ret
    exact ⟨rfl, hg⟩
  rw [if_neg h3] at hr
  by_cases h4 : t.en ≤ ((n + m : Nat) : Int)
  · rw [if_pos h4] at hr
    subst hr
    have e4 : t.en ≤ (n : Int) + (m : Int) := by omega
    go_enter Tryz.func175, Tryz.ntmps175
    go_wp2
    go_ret
    exact ⟨rfl, hg⟩
  rw [if_neg h4] at hr
  have e4 : ¬ t.en ≤ (n : Int) + (m : Int) := by omega
  by_cases h5 : 2 * K < m
  · rw [if_pos h5] at hr
    subst hr
    have e5 : 2 * (K : Int) < (m : Int) := by omega
    go_enter Tryz.func175, Tryz.ntmps175
    go_wp2
    go_ret
    exact ⟨rfl, hg⟩
  rw [if_neg h5] at hr
  subst hr
  have e5 : ¬ 2 * (K : Int) < (m : Int) := by omega
  go_enter Tryz.func175, Tryz.ntmps175
  go_wp2
  go_ret
  exact ⟨rfl, hg⟩
theorem tmay_c (w : World) (n : Nat) (hn : n ≤ 16384) : Calls Tryz.prog 174 #[.int .i64 n] w fun e w' => e = .returned (.bool true) ∧ w' = w := by
  have e : ((n : Int) ≤ 16384) = True := by simp; omega
  go_enter Tryz.func174, Tryz.ntmps174
  go_wp2
  go_ret
  exact ⟨rfl, rfl⟩
theorem Route_c (w : World) (t : Tb) (n m : Nat) (hn : n ≤ 16384) (hm : m ≤ 16384) : Calls Tryz.prog 154 #[t.v, .int .i64 n, .int .i64 m] w fun e w' => e = .returned (.int .i64 (rt t.clamp (max n m) (min n m))) ∧ w.grownBy w' none := by
  rcases Nat.lt_trichotomy n m with h | h | h
  · have q1 : ((n : Int) < (m : Int)) = True := by simp; omega
    have q2 : ((m : Int) < (n : Int)) = False := by simp; omega
    rw [Nat.max_eq_right (by omega), Nat.min_eq_left (by omega)]
    have HR := lk (fun w => route_c w t.clamp m n (by omega) (by omega))
    obtain ⟨r, hr⟩ : ∃ r, r = rt t.clamp m n := ⟨_, rfl⟩
    rw [← hr] at HR ⊢
    have HC := lk (fun w => tclamp_c w t)
    obtain ⟨u, hu⟩ : ∃ u, u = t.clamp := ⟨_, rfl⟩
    rw [← hu] at HR HC
    have HM1 := lk (fun w => tmay_c w _ hn)
    have HM2 := lk (fun w => tmay_c w _ hm)
    have C0 := cs_new w #[.int .i64 t.eb, .int .i64 t.et, .int .i64 t.en, .int .i64 t.ed, .int .i64 t.er, .int .i64 t.el, .int .i64 t.ex, .int .i64 t.ep, .int .i64 t.ek, .int .i64 t.es, .int .i64 t.ee] 23
    have hg := ju (jr w none) (Obj.cells #[.int .i64 t.eb, .int .i64 t.et, .int .i64 t.en, .int .i64 t.ed, .int .i64 t.er, .int .i64 t.el, .int .i64 t.ex, .int .i64 t.ep, .int .i64 t.ek, .int .i64 t.es, .int .i64 t.ee] 23)
    have HG := lk hg
    have HC0 := lk C0
    clear hr hu C0 hg
    go_enter Tryz.func154, Tryz.ntmps154
    go_wp2_with fail
    refine (HM1.out _).mono ?_
    rintro e w1 ⟨rfl, hw1⟩
    subst hw1
    go_wp2_with fail
    refine (HM2.out _).mono ?_
    rintro e w1 ⟨rfl, hw1⟩
    subst hw1
    have c0 := HC0.out.cell 0 rfl
    have c1 := HC0.out.cell 1 rfl
    have c2 := HC0.out.cell 2 rfl
    have c3 := HC0.out.cell 3 rfl
    have c4 := HC0.out.cell 4 rfl
    have c5 := HC0.out.cell 5 rfl
    have c6 := HC0.out.cell 6 rfl
    have c7 := HC0.out.cell 7 rfl
    have c8 := HC0.out.cell 8 rfl
    have c9 := HC0.out.cell 9 rfl
    have c10 := HC0.out.cell 10 rfl
    go_wp2_with fail
    refine (HC.out _).mono ?_
    rintro e w2 ⟨rfl, g2⟩
    clear c0 c1 c2 c3 c4 c5 c6 c7 c8 c9 c10 HC0
    go_wp2_with fail
    refine (HR.out _).mono ?_
    rintro e w3 ⟨rfl, g3⟩
    go_wp2
    go_ret
    exact ⟨rfl, jt HG.out (jt g2 g3)⟩
  · subst h
    rw [Nat.max_self, Nat.min_self]
    have HR := lk (fun w => route_c w t.clamp n n (by omega) (by omega))
    obtain ⟨r, hr⟩ : ∃ r, r = rt t.clamp n n := ⟨_, rfl⟩
    rw [← hr] at HR ⊢
    have HC := lk (fun w => tclamp_c w t)
    obtain ⟨u, hu⟩ : ∃ u, u = t.clamp := ⟨_, rfl⟩
    rw [← hu] at HR HC
    have HM1 := lk (fun w => tmay_c w _ hn)
    have HM2 := lk (fun w => tmay_c w _ hm)
    have C0 := cs_new w #[.int .i64 t.eb, .int .i64 t.et, .int .i64 t.en, .int .i64 t.ed, .int .i64 t.er, .int .i64 t.el, .int .i64 t.ex, .int .i64 t.ep, .int .i64 t.ek, .int .i64 t.es, .int .i64 t.ee] 23
    have hg := ju (jr w none) (Obj.cells #[.int .i64 t.eb, .int .i64 t.et, .int .i64 t.en, .int .i64 t.ed, .int .i64 t.er, .int .i64 t.el, .int .i64 t.ex, .int .i64 t.ep, .int .i64 t.ek, .int .i64 t.es, .int .i64 t.ee] 23)
    have HG := lk hg
    have HC0 := lk C0
    clear hr hu C0 hg
    go_enter Tryz.func154, Tryz.ntmps154
    go_wp2_with fail
    refine (HM1.out _).mono ?_
    rintro e w1 ⟨rfl, hw1⟩
    subst hw1
    go_wp2_with fail
    refine (HM2.out _).mono ?_
    rintro e w1 ⟨rfl, hw1⟩
    subst hw1
    have c0 := HC0.out.cell 0 rfl
    have c1 := HC0.out.cell 1 rfl
    have c2 := HC0.out.cell 2 rfl
    have c3 := HC0.out.cell 3 rfl
    have c4 := HC0.out.cell 4 rfl
    have c5 := HC0.out.cell 5 rfl
    have c6 := HC0.out.cell 6 rfl
    have c7 := HC0.out.cell 7 rfl
    have c8 := HC0.out.cell 8 rfl
    have c9 := HC0.out.cell 9 rfl
    have c10 := HC0.out.cell 10 rfl
    go_wp2_with fail
    refine (HC.out _).mono ?_
    rintro e w2 ⟨rfl, g2⟩
    clear c0 c1 c2 c3 c4 c5 c6 c7 c8 c9 c10 HC0
    go_wp2_with fail
    refine (HR.out _).mono ?_
    rintro e w3 ⟨rfl, g3⟩
    go_wp2
    go_ret
    exact ⟨rfl, jt HG.out (jt g2 g3)⟩
  · have q1 : ((m : Int) < (n : Int)) = True := by simp; omega
    have q2 : ((n : Int) < (m : Int)) = False := by simp; omega
    rw [Nat.max_eq_left (by omega), Nat.min_eq_right (by omega)]
    have HR := lk (fun w => route_c w t.clamp n m (by omega) (by omega))
    obtain ⟨r, hr⟩ : ∃ r, r = rt t.clamp n m := ⟨_, rfl⟩
    rw [← hr] at HR ⊢
    have HC := lk (fun w => tclamp_c w t)
    obtain ⟨u, hu⟩ : ∃ u, u = t.clamp := ⟨_, rfl⟩
    rw [← hu] at HR HC
    have HM1 := lk (fun w => tmay_c w _ hn)
    have HM2 := lk (fun w => tmay_c w _ hm)
    have C0 := cs_new w #[.int .i64 t.eb, .int .i64 t.et, .int .i64 t.en, .int .i64 t.ed, .int .i64 t.er, .int .i64 t.el, .int .i64 t.ex, .int .i64 t.ep, .int .i64 t.ek, .int .i64 t.es, .int .i64 t.ee] 23
    have hg := ju (jr w none) (Obj.cells #[.int .i64 t.eb, .int .i64 t.et, .int .i64 t.en, .int .i64 t.ed, .int .i64 t.er, .int .i64 t.el, .int .i64 t.ex, .int .i64 t.ep, .int .i64 t.ek, .int .i64 t.es, .int .i64 t.ee] 23)
    have HG := lk hg
    have HC0 := lk C0
    clear hr hu C0 hg
    go_enter Tryz.func154, Tryz.ntmps154
    go_wp2_with fail
    refine (HM1.out _).mono ?_
    rintro e w1 ⟨rfl, hw1⟩
    subst hw1
    go_wp2_with fail
    refine (HM2.out _).mono ?_
    rintro e w1 ⟨rfl, hw1⟩
    subst hw1
    have c0 := HC0.out.cell 0 rfl
    have c1 := HC0.out.cell 1 rfl
    have c2 := HC0.out.cell 2 rfl
    have c3 := HC0.out.cell 3 rfl
    have c4 := HC0.out.cell 4 rfl
    have c5 := HC0.out.cell 5 rfl
    have c6 := HC0.out.cell 6 rfl
    have c7 := HC0.out.cell 7 rfl
    have c8 := HC0.out.cell 8 rfl
    have c9 := HC0.out.cell 9 rfl
    have c10 := HC0.out.cell 10 rfl
    go_wp2_with fail
    refine (HC.out _).mono ?_
    rintro e w2 ⟨rfl, g2⟩
    clear c0 c1 c2 c3 c4 c5 c6 c7 c8 c9 c10 HC0
    go_wp2_with fail
    refine (HR.out _).mono ?_
    rintro e w3 ⟨rfl, g3⟩
    go_wp2
    go_ret
    exact ⟨rfl, jt HG.out (jt g2 g3)⟩
def tbT (t : Tb) : Nat → Option Value := fun j => if 3 ≤ j then t.vs[j - 3]? else none
structure Eng (w : World) (g0 g1 g2 g3 gm : Nat) : Prop where
 h0 : w.cell? ⟨g0, 0, none⟩ = some (.pointer (some ⟨g1, 0, none⟩))
 h1 : w.cell? ⟨g1, 0, none⟩ = some (.pointer (some ⟨g2, 0, none⟩))
 h2 : w.cell? ⟨g2, 0, none⟩ = some (.pointer (some ⟨g3, 0, none⟩))
 h3 : w.cell? ⟨g3, 0, none⟩ = some (.pointer (some ⟨gm, 0, none⟩))
 n0 : g0 ≠ gm
 n1 : g1 ≠ gm
 n2 : g2 ≠ gm
 n3 : g3 ≠ gm
theorem Eng.grown {w w' : World} {g0 g1 g2 g3 gm : Nat} (h : Eng w g0 g1 g2 g3 gm) (g : w.grownBy w' (some gm)) : Eng w' g0 g1 g2 g3 gm :=
 ⟨gb_cell g h.h0 (by have := h.n0; simpa using this), gb_cell g h.h1 (by have := h.n1; simpa using this), gb_cell g h.h2 (by have := h.n2; simpa using this), gb_cell g h.h3 (by have := h.n3; simpa using this), h.n0, h.n1, h.n2, h.n3⟩
theorem Eng.grown0 {w w' : World} {g0 g1 g2 g3 gm : Nat} (h : Eng w g0 g1 g2 g3 gm) (g : w.grownBy w' none) : Eng w' g0 g1 g2 g3 gm := h.grown (jn g _)
theorem Eng.drew {w : World} {g0 g1 g2 g3 gm : Nat} (h : Eng w g0 g1 g2 g3 gm) : Eng w.drew g0 g1 g2 g3 gm := h.grown0 (jw (jr _ none))
theorem tuneRoute_c (w : World) (gm : Nat) (t : Tb) (a b : Int) (c : Mc) (n m : Nat) (hm : Mt w gm a b c) (hT : c.T = tbT t) (ht : TbOk t) (hn : n ≤ 16384) (hm' : m ≤ 16384) :
  Calls Tryz.prog 137 #[.pointer (some ⟨gm, 0, none⟩), .int .i64 n, .int .i64 m] w fun e w' => e = .returned (.int .i64 (rt t (max n m) (min n m))) ∧ w.grownBy w' none := by
 have HR := lk (Route_c w t n m hn hm')
 rw [ht.clamp] at HR
 have r := hm.rest
 rw [hT] at r
 have c0 : w.cell? ⟨gm, 3, none⟩ = some (.int .i64 t.eb) := r 3 (by decide)
 have c1 : w.cell? ⟨gm, 4, none⟩ = some (.int .i64 t.et) := r 4 (by decide)
 have c2 : w.cell? ⟨gm, 5, none⟩ = some (.int .i64 t.en) := r 5 (by decide)
 have c3 : w.cell? ⟨gm, 6, none⟩ = some (.int .i64 t.ed) := r 6 (by decide)
 have c4 : w.cell? ⟨gm, 7, none⟩ = some (.int .i64 t.er) := r 7 (by decide)
 have c5 : w.cell? ⟨gm, 8, none⟩ = some (.int .i64 t.el) := r 8 (by decide)
 have c6 : w.cell? ⟨gm, 9, none⟩ = some (.int .i64 t.ex) := r 9 (by decide)
 have c7 : w.cell? ⟨gm, 10, none⟩ = some (.int .i64 t.ep) := r 10 (by decide)
 have c8 : w.cell? ⟨gm, 11, none⟩ = some (.int .i64 t.ek) := r 11 (by decide)
 have c9 : w.cell? ⟨gm, 12, none⟩ = some (.int .i64 t.es) := r 12 (by decide)
 have c10 : w.cell? ⟨gm, 13, none⟩ = some (.int .i64 t.ee) := r 13 (by decide)
 obtain ⟨z, hz⟩ : ∃ z, z = rt t (max n m) (min n m) := ⟨_, rfl⟩
 rw [← hz] at HR ⊢
 clear r hm hT ht hn hm' hz
 go_enter Tryz.func137, Tryz.ntmps137
 go_wp2_with fail
 refine (HR.out).mono ?_
 rintro e w1 ⟨rfl, g1⟩
 have G1 := lk g1
 clear g1 c0 c1 c2 c3 c4 c5 c6 c7 c8 c9 c10
 go_wp2
 go_ret
 exact ⟨rfl, G1.out⟩
theorem new_mt (w : World) (t : Tb) (T : TypeId) : Mt (w.alloc (Obj.cells #[.int .i64 0, .int .i64 0, .int .i64 0, .int .i64 t.eb, .int .i64 t.et, .int .i64 t.en, .int .i64 t.ed, .int .i64 t.er, .int .i64 t.el, .int .i64 t.ex, .int .i64 t.ep, .int .i64 t.ek, .int .i64 t.es, .int .i64 t.ee] T)) w.heap.size 0 0 ⟨0, tbT t⟩ := by
 have C := cs_new w #[.int .i64 0, .int .i64 0, .int .i64 0, .int .i64 t.eb, .int .i64 t.et, .int .i64 t.en, .int .i64 t.ed, .int .i64 t.er, .int .i64 t.el, .int .i64 t.ex, .int .i64 t.ep, .int .i64 t.ek, .int .i64 t.es, .int .i64 t.ee] T
 refine ⟨C.cell 0 rfl, C.cell 1 rfl, C.cell 2 rfl, C.free 0 rfl, C.free 1 rfl, C.free 2 rfl, Int.le_refl 0, Int.le_refl 0, Int.le_refl 0, fun j hj => ?_⟩
 rw [World.cell?_alloc_new]
 obtain ⟨k, rfl⟩ : ∃ k, j = k + 3 := ⟨j - 3, by omega⟩
 show _ = (if 3 ≤ k + 3 then t.vs[k + 3 - 3]? else none)
 rw [if_pos (by omega), Nat.add_sub_cancel, ← Array.getElem?_toList]
 rfl
theorem tableNew_c (w : World) (t : Tb) : Calls Tryz.prog 207 #[t.v] w fun e w' => ∃ gm, e = .returned (.pointer (some ⟨gm, 0, none⟩)) ∧ w.heap.size ≤ gm ∧ Mt w' gm 0 0 ⟨0, tbT t.clamp⟩ ∧ w.grownBy w' none := by
 have HI := lk (fun w => tclamp_c w t)
 have C0 := cs_new w #[.int .i64 t.eb, .int .i64 t.et, .int .i64 t.en, .int .i64 t.ed, .int .i64 t.er, .int .i64 t.el, .int .i64 t.ex, .int .i64 t.ep, .int .i64 t.ek, .int .i64 t.es, .int .i64 t.ee] 23
 have hg := ju (jr w none) (Obj.cells #[.int .i64 t.eb, .int .i64 t.et, .int .i64 t.en, .int .i64 t.ed, .int .i64 t.er, .int .i64 t.el, .int .i64 t.ex, .int .i64 t.ep, .int .i64 t.ek, .int .i64 t.es, .int .i64 t.ee] 23)
 have HG := lk hg
 have HC0 := lk C0
 clear C0 hg
 go_enter Tryz.func207, Tryz.ntmps207
 have c0 := HC0.out.cell 0 rfl
 have c1 := HC0.out.cell 1 rfl
 have c2 := HC0.out.cell 2 rfl
 have c3 := HC0.out.cell 3 rfl
 have c4 := HC0.out.cell 4 rfl
 have c5 := HC0.out.cell 5 rfl
 have c6 := HC0.out.cell 6 rfl
 have c7 := HC0.out.cell 7 rfl
 have c8 := HC0.out.cell 8 rfl
 have c9 := HC0.out.cell 9 rfl
 have c10 := HC0.out.cell 10 rfl
 go_wp2_with fail
 refine (HI.out _).mono ?_
 rintro e w2 ⟨rfl, g2⟩
 have G2 := lk (jt HG.out g2)
 clear c0 c1 c2 c3 c4 c5 c6 c7 c8 c9 c10 HC0 g2
 go_wp2
 go_ret
 exact ⟨_, rfl, G2.out.size, new_mt w2 t.clamp _, ju G2.out _⟩
theorem schoolNew_c (w : World) (t : Tb) : Calls Tryz.prog 206 #[t.v] w fun e w' => ∃ g3 gm, e = .returned (.pointer (some ⟨g3, 0, none⟩)) ∧ w'.cell? ⟨g3, 0, none⟩ = some (.pointer (some ⟨gm, 0, none⟩)) ∧ w.heap.size ≤ g3 ∧ w.heap.size ≤ gm ∧ Mt w' gm 0 0 ⟨0, tbT t.clamp⟩ ∧ w.grownBy w' none := by
 have HI := lk (fun w => tableNew_c w t)
 have C0 := cs_new w #[.int .i64 t.eb, .int .i64 t.et, .int .i64 t.en, .int .i64 t.ed, .int .i64 t.er, .int .i64 t.el, .int .i64 t.ex, .int .i64 t.ep, .int .i64 t.ek, .int .i64 t.es, .int .i64 t.ee] 23
 have hg := ju (jr w none) (Obj.cells #[.int .i64 t.eb, .int .i64 t.et, .int .i64 t.en, .int .i64 t.ed, .int .i64 t.er, .int .i64 t.el, .int .i64 t.ex, .int .i64 t.ep, .int .i64 t.ek, .int .i64 t.es, .int .i64 t.ee] 23)
 have HG := lk hg
 have HC0 := lk C0
 clear C0 hg
 go_enter Tryz.func206, Tryz.ntmps206
 have c0 := HC0.out.cell 0 rfl
 have c1 := HC0.out.cell 1 rfl
 have c2 := HC0.out.cell 2 rfl
 have c3 := HC0.out.cell 3 rfl
 have c4 := HC0.out.cell 4 rfl
 have c5 := HC0.out.cell 5 rfl
 have c6 := HC0.out.cell 6 rfl
 have c7 := HC0.out.cell 7 rfl
 have c8 := HC0.out.cell 8 rfl
 have c9 := HC0.out.cell 9 rfl
 have c10 := HC0.out.cell 10 rfl
 go_wp2_with fail
 refine (HI.out _).mono ?_
 rintro e w2 ⟨gm, rfl, hg, m2, g2⟩
 have G2 := lk (jt HG.out g2)
 have M2 := lk m2
 have HH : Hid (w.heap.size ≤ gm) := lk (Nat.le_trans HG.out.size hg)
 clear c0 c1 c2 c3 c4 c5 c6 c7 c8 c9 c10 HC0 g2 m2 hg
 go_wp2
 go_ret
 exact ⟨_, gm, rfl, (cs_new w2 _ _).cell 0 rfl, G2.out.size, HH.out, M2.out.grown (ju (jr _ none) _), ju G2.out _⟩
theorem karaNew_c (w : World) (t : Tb) : Calls Tryz.prog 205 #[t.v] w fun e w' => ∃ g2 g3 gm, e = .returned (.pointer (some ⟨g2, 0, none⟩)) ∧ w'.cell? ⟨g2, 0, none⟩ = some (.pointer (some ⟨g3, 0, none⟩)) ∧ w'.cell? ⟨g3, 0, none⟩ = some (.pointer (some ⟨gm, 0, none⟩)) ∧ (w.heap.size ≤ g2 ∧ w.heap.size ≤ g3) ∧ w.heap.size ≤ gm ∧ Mt w' gm 0 0 ⟨0, tbT t.clamp⟩ ∧ w.grownBy w' none := by
 have HI := lk (fun w => schoolNew_c w t)
 have C0 := cs_new w #[.int .i64 t.eb, .int .i64 t.et, .int .i64 t.en, .int .i64 t.ed, .int .i64 t.er, .int .i64 t.el, .int .i64 t.ex, .int .i64 t.ep, .int .i64 t.ek, .int .i64 t.es, .int .i64 t.ee] 23
 have hg := ju (jr w none) (Obj.cells #[.int .i64 t.eb, .int .i64 t.et, .int .i64 t.en, .int .i64 t.ed, .int .i64 t.er, .int .i64 t.el, .int .i64 t.ex, .int .i64 t.ep, .int .i64 t.ek, .int .i64 t.es, .int .i64 t.ee] 23)
 have HG := lk hg
 have HC0 := lk C0
 clear C0 hg
 go_enter Tryz.func205, Tryz.ntmps205
 have c0 := HC0.out.cell 0 rfl
 have c1 := HC0.out.cell 1 rfl
 have c2 := HC0.out.cell 2 rfl
 have c3 := HC0.out.cell 3 rfl
 have c4 := HC0.out.cell 4 rfl
 have c5 := HC0.out.cell 5 rfl
 have c6 := HC0.out.cell 6 rfl
 have c7 := HC0.out.cell 7 rfl
 have c8 := HC0.out.cell 8 rfl
 have c9 := HC0.out.cell 9 rfl
 have c10 := HC0.out.cell 10 rfl
 go_wp2_with fail
 refine (HI.out _).mono ?_
 rintro e w2 ⟨g3, gm, rfl, k3, hg3, hg, m2, g2⟩
 have G2 := lk (jt HG.out g2)
 have M2 := lk m2
 have K3 := lk k3
 have HH : Hid (w.heap.size ≤ g3 ∧ w.heap.size ≤ gm) := lk ⟨Nat.le_trans HG.out.size hg3, Nat.le_trans HG.out.size hg⟩
 clear c0 c1 c2 c3 c4 c5 c6 c7 c8 c9 c10 HC0 g2 m2 hg hg3 k3
 go_wp2
 go_ret
 have ga := ju (jr w2 none) (Obj.cells #[.pointer (some ⟨g3, 0, none⟩)] 155)
 exact ⟨_, g3, gm, rfl, (cs_new w2 _ _).cell 0 rfl, gb_cell0 ga K3.out, ⟨G2.out.size, HH.out.1⟩, HH.out.2, M2.out.grown ga, ju G2.out _⟩
theorem toomNew_c (w : World) (t : Tb) : Calls Tryz.prog 204 #[t.v] w fun e w' => ∃ g1 g2 g3 gm, e = .returned (.pointer (some ⟨g1, 0, none⟩)) ∧ w'.cell? ⟨g1, 0, none⟩ = some (.pointer (some ⟨g2, 0, none⟩)) ∧ w'.cell? ⟨g2, 0, none⟩ = some (.pointer (some ⟨g3, 0, none⟩)) ∧ w'.cell? ⟨g3, 0, none⟩ = some (.pointer (some ⟨gm, 0, none⟩)) ∧ (w.heap.size ≤ g1 ∧ w.heap.size ≤ g2 ∧ w.heap.size ≤ g3) ∧ w.heap.size ≤ gm ∧ Mt w' gm 0 0 ⟨0, tbT t.clamp⟩ ∧ w.grownBy w' none := by
 have HI := lk (fun w => karaNew_c w t)
 have C0 := cs_new w #[.int .i64 t.eb, .int .i64 t.et, .int .i64 t.en, .int .i64 t.ed, .int .i64 t.er, .int .i64 t.el, .int .i64 t.ex, .int .i64 t.ep, .int .i64 t.ek, .int .i64 t.es, .int .i64 t.ee] 23
 have hg := ju (jr w none) (Obj.cells #[.int .i64 t.eb, .int .i64 t.et, .int .i64 t.en, .int .i64 t.ed, .int .i64 t.er, .int .i64 t.el, .int .i64 t.ex, .int .i64 t.ep, .int .i64 t.ek, .int .i64 t.es, .int .i64 t.ee] 23)
 have HG := lk hg
 have HC0 := lk C0
 clear C0 hg
 go_enter Tryz.func204, Tryz.ntmps204
 have c0 := HC0.out.cell 0 rfl
 have c1 := HC0.out.cell 1 rfl
 have c2 := HC0.out.cell 2 rfl
 have c3 := HC0.out.cell 3 rfl
 have c4 := HC0.out.cell 4 rfl
 have c5 := HC0.out.cell 5 rfl
 have c6 := HC0.out.cell 6 rfl
 have c7 := HC0.out.cell 7 rfl
 have c8 := HC0.out.cell 8 rfl
 have c9 := HC0.out.cell 9 rfl
 have c10 := HC0.out.cell 10 rfl
 go_wp2_with fail
 refine (HI.out _).mono ?_
 rintro e w2 ⟨g2, g3, gm, rfl, k2, k3, hg3, hg, m2, g2'⟩
 have G2 := lk (jt HG.out g2')
 have M2 := lk m2
 have K3 := lk (And.intro k2 k3)
 have HH : Hid ((w.heap.size ≤ g2 ∧ w.heap.size ≤ g3) ∧ w.heap.size ≤ gm) := lk ⟨⟨Nat.le_trans HG.out.size hg3.1, Nat.le_trans HG.out.size hg3.2⟩, Nat.le_trans HG.out.size hg⟩
 clear c0 c1 c2 c3 c4 c5 c6 c7 c8 c9 c10 HC0 g2' m2 hg hg3 k2 k3
 go_wp2
 go_ret
 have ga := ju (jr w2 none) (Obj.cells #[.pointer (some ⟨g2, 0, none⟩)] 152)
 exact ⟨_, g2, g3, gm, rfl, (cs_new w2 _ _).cell 0 rfl, gb_cell0 ga K3.out.1, gb_cell0 ga K3.out.2, ⟨G2.out.size, HH.out.1⟩, HH.out.2, M2.out.grown ga, ju G2.out _⟩
theorem mulNew_c (w : World) (t : Tb) : Calls Tryz.prog 203 #[t.v] w fun e w' => ∃ g0 g1 g2 g3 gm, e = .returned (.pointer (some ⟨g0, 0, none⟩)) ∧ Eng w' g0 g1 g2 g3 gm ∧ w.heap.size ≤ gm ∧ Mt w' gm 0 0 ⟨0, tbT t.clamp⟩ ∧ w.grownBy w' none := by
 have HI := lk (fun w => toomNew_c w t)
 have C0 := cs_new w #[.int .i64 t.eb, .int .i64 t.et, .int .i64 t.en, .int .i64 t.ed, .int .i64 t.er, .int .i64 t.el, .int .i64 t.ex, .int .i64 t.ep, .int .i64 t.ek, .int .i64 t.es, .int .i64 t.ee] 23
 have hg := ju (jr w none) (Obj.cells #[.int .i64 t.eb, .int .i64 t.et, .int .i64 t.en, .int .i64 t.ed, .int .i64 t.er, .int .i64 t.el, .int .i64 t.ex, .int .i64 t.ep, .int .i64 t.ek, .int .i64 t.es, .int .i64 t.ee] 23)
 have HG := lk hg
 have HC0 := lk C0
 clear C0 hg
 go_enter Tryz.func203, Tryz.ntmps203
 have c0 := HC0.out.cell 0 rfl
 have c1 := HC0.out.cell 1 rfl
 have c2 := HC0.out.cell 2 rfl
 have c3 := HC0.out.cell 3 rfl
 have c4 := HC0.out.cell 4 rfl
 have c5 := HC0.out.cell 5 rfl
 have c6 := HC0.out.cell 6 rfl
 have c7 := HC0.out.cell 7 rfl
 have c8 := HC0.out.cell 8 rfl
 have c9 := HC0.out.cell 9 rfl
 have c10 := HC0.out.cell 10 rfl
 go_wp2_with fail
 refine (HI.out _).mono ?_
 rintro e w2 ⟨g1, g2, g3, gm, rfl, k1, k2, k3, hg3, hg, m2, g2'⟩
 have G2 := lk (jt HG.out g2')
 have M2 := lk m2
 have K3 := lk (And.intro k1 (And.intro k2 k3))
 have HH : Hid (w.heap.size ≤ gm) := lk (Nat.le_trans HG.out.size hg)
 clear c0 c1 c2 c3 c4 c5 c6 c7 c8 c9 c10 HC0 g2' m2 hg hg3 k1 k2 k3
 go_wp2
 go_ret
 have ga := ju (jr w2 none) (Obj.cells #[.pointer (some ⟨g1, 0, none⟩)] 149)
 have mm := M2.out.grown ga
 have e0 := (cs_new w2 #[.pointer (some ⟨g1, 0, none⟩)] 149).cell 0 rfl
 have e1 := gb_cell0 ga K3.out.1
 have e2 := gb_cell0 ga K3.out.2.1
 have e3 := gb_cell0 ga K3.out.2.2
 exact ⟨_, g1, g2, g3, gm, rfl, ⟨e0, e1, e2, e3, Md.ptr_ne e0 mm, Md.ptr_ne e1 mm, Md.ptr_ne e2 mm, Md.ptr_ne e3 mm⟩, HH.out, mm, ju G2.out _⟩
def OwnV (w : World) (base : Nat) (v : Value) (vs : List Value) : Prop := w.ownsRow base 184 1 v vs.length vs
theorem ownv_nil (w : World) (base : Nat) : OwnV w base (.slice none 0 0) [] := ⟨rfl, .inl ⟨rfl, rfl⟩⟩
theorem OwnV.grown {w w' : World} {base : Nat} {v : Value} {vs : List Value} {row : Option Nat} (h : OwnV w base v vs) (hg : w.grownBy w' row) (hr : v.ownBlock = none ∨ v.ownBlock ≠ row) : OwnV w' base v vs := h.kept hg hr
theorem OwnV.grown0 {w w' : World} {base : Nat} {v : Value} {vs : List Value} (h : OwnV w base v vs) (hg : w.grownBy w' none) : OwnV w' base v vs :=
 h.grown hg (by cases v.ownBlock <;> simp)
theorem OwnV.lt {w : World} {base : Nat} {v : Value} {vs : List Value} (h : OwnV w base v vs) : ∀ k, v.ownBlock = some k → base ≤ k ∧ k < w.heap.size := World.ownsRow.lt h
theorem OwnV.growng {w w' : World} {base gm : Nat} {v : Value} {vs : List Value} (h : OwnV w base v vs) (hg : w.grownBy w' (some gm)) (hb : gm < base) : OwnV w' base v vs :=
 h.grown hg (by
  cases e : v.ownBlock with
  | none => exact .inl rfl
  | some k => right; intro e2; have := (h.lt k e).1; simp only [Option.some.injEq] at e2; omega)
theorem OwnV.form {w : World} {base : Nat} {v : Value} {vs : List Value} (h : OwnV w base v vs) :
  (v = .slice none 0 0 ∧ vs = []) ∨ ∃ g c, v = .slice (some ⟨g, 0, none⟩) vs.length c ∧ base ≤ g ∧ g < w.heap.size ∧ vs.length ≤ c ∧ c ≤ 9223372036854775807 := by
 rcases h.2 with ⟨h1, h2⟩ | ⟨g, cap, cur, hv, hg, hh, h1, h2, _⟩
 ·exact .inl ⟨h1, List.eq_nil_of_length_eq_zero h2⟩
 ·exact .inr ⟨g, cap, hv, hg, (Array.getElem?_eq_some_iff.1 hh).1, h1, by simpa [maxLen] using h2⟩
theorem OwnV.cells {w : World} {base : Nat} {v : Value} {vs : List Value} (h : OwnV w base v vs) : Cells w v vs.length 1 (fun j => vs.getD j undef) := by
 rcases h.form with ⟨rfl, rfl⟩ | ⟨g, c, rfl, h1, h2, h3, h4⟩
 ·exact ⟨none, 0, rfl, by simp, by omega, fun h => by simp at h⟩
 ·refine ⟨_, c, rfl, h3, h4, fun _ => ⟨g, 0, rfl, fun j hj => ?_⟩⟩
  have := World.ownsRow.cellAt h j (by omega)
  rw [Nat.mul_one] at hj
  show w.cell? ⟨g, 0 + j, none⟩ = some (vs.getD j undef)
  rw [Nat.zero_add, this, List.getD_eq_getElem?_getD, List.getElem?_eq_getElem hj]
  rfl
theorem own_ne {w : World} {b b' : Nat} {u v : Value} {xs : List Int} {vs : List Value} (h : Own w b u xs) (h' : OwnV w b' v vs) : u.ownBlock = none ∨ u.ownBlock ≠ v.ownBlock := by
 rcases h.1.2 with ⟨rfl, _⟩ | ⟨g, cap, cur, rfl, _, hh, _⟩
 ·exact .inl rfl
 ·right
  rcases h'.2 with ⟨rfl, _⟩ | ⟨g', cap', cur', rfl, _, hh', _⟩
  ·simp [Value.ownBlock]
  ·intro e
   simp only [Value.ownBlock, Option.some.injEq] at e
   subst e
   rw [hh] at hh'
   simp at hh'
theorem Wv.append {W W' : World} {D b : Nat} {l : List (Value × Nat)} {v : Value} {vs : List Value} (h : Wv W D l) (hv : OwnV W b v vs) (g : W.grownBy W' v.ownBlock) : Wv W' D l := fun i p hp => by
 obtain ⟨zs, ow, nz, e⟩ := h i p hp
 exact ⟨zs, ow.grown g (own_ne ow hv), nz, e⟩
theorem info_nat : (Tryz.prog.info? 184).map (fun i => (i.zero, i.size, i.bytes)) = some (some (.slice none 0 0), 1, 24) := by kernel_rfl
theorem ownv_append {w : World} {base : Nat} {ops : Array Oper} {rest : List Oper} {o : Oper} {a : Act} {Q : Exit → Act → World → Prop} (t : TypeId) (ht : Tryz.prog.underlying t = some (.slice 184))
  (s x : Operand) (hgd : o.guard = none) (ho : o.op = .call { callee := .builtin .append, args := #[s, x], argTypes := #[t, t] })
  (v : Value) (vs : List Value) (hs : a.eval s = v) (hown : OwnV w base v vs)
  (g : Nat) (A : Option Addr) (n c : Nat) (hx : a.eval x = .slice (some ⟨g, 0, none⟩) 1 1) (hc : w.cell? ⟨g, 0, none⟩ = some (.slice A n c)) (hb : vs.length ≤ 1000000) (hbase : base ≤ w.heap.size)
  (h : ∀ v' w', OwnV w' base v' (vs ++ [.slice A n c]) → w.grownBy w' v.ownBlock → wpList Tryz.prog ops Q rest (a.put o.dst v') w') : wpList Tryz.prog ops Q (o :: rest) a w := by
 obtain ⟨i, hi, he⟩ := Option.map_eq_some_iff.1 info_nat
 simp only [Prod.mk.injEq] at he
 refine wpList_append_own w hgd s x t ho base 184 i (.slice none 0 0) 1 24 ht hi he.1 he.2.1 he.2.2 rfl (by decide) v vs.length vs hs hown ⟨g, 0, none⟩ 1 1 [.slice A n c] hx rfl (fun j u hu => ?_) (fun u hu => ?_) (by unfold maxLen; omega) (by omega) hbase ?_
 ·cases j with
  | zero => obtain rfl := Option.some.inj hu; exact hc
  | succ j => simp at hu
 ·obtain rfl := List.mem_singleton.1 hu
  rfl
 ·intro v' w' h2 h3 _
  refine h v' w' ?_ h3
  show World.ownsRow _ _ _ _ _ (vs ++ [_]).length _
  rw [List.length_append]
  exact h2
theorem Wv.pick {W : World} {D N : Nat} {l : List (Value × Nat)} (h : Wv W D l) (hN : ∀ (i : Nat) (p : Value × Nat), l[i]? = some p → p.2 < B64 ^ N) : ∃ X : Nat → List Int, ∀ j, j < l.length → Sl W ((l.map (·.1)).getD j undef) (X j) ∧ (X j).length ≤ N ∧ val B64 (X j) = (l.map (·.2)).getD j 0 := by
 have e : ∀ j, ∃ X : List Int, j < l.length → Sl W ((l.map (·.1)).getD j undef) X ∧ X.length ≤ N ∧ val B64 X = (l.map (·.2)).getD j 0 := fun j => by
  by_cases hj : j < l.length
  ·obtain ⟨zs, s, ln, v⟩ := (h j l[j] (List.getElem?_eq_getElem hj)).get (hN j l[j] (List.getElem?_eq_getElem hj))
   refine ⟨zs, fun _ => ⟨?_, ln, ?_⟩⟩
   ·rw [List.getD_eq_getElem?_getD, List.getElem?_map, List.getElem?_eq_getElem hj]; exact s
   ·rw [List.getD_eq_getElem?_getD, List.getElem?_map, List.getElem?_eq_getElem hj]; exact v
  ·exact ⟨[], fun k => absurd k hj⟩
 exact ⟨fun j => Classical.choose (e j), fun j => Classical.choose_spec (e j)⟩
theorem jS_pieces (al : List Int) (m bv : Nat) : ∀ cnt, jS m (fun j => val B64 ((al.drop (m * j)).take m) * bv) cnt = val B64 (al.take (m * cnt)) * bv
 | 0 => by simp [jS, val]
 | cnt + 1 => by
  rw [jS, jS_pieces al m bv cnt, Nat.mul_add, Nat.mul_one]
  have e := val_cut (al.take (m * cnt + m)) (m * cnt)
  rw [List.take_take, Nat.min_eq_left (by omega), List.drop_take, Nat.add_sub_cancel_left] at e
  rw [e, Nat.add_mul, Nat.mul_assoc]
def PcL (al : List Int) (bv m : Nat) (L : List (Value × Nat)) : Prop := ∀ (j : Nat) (p : Value × Nat), L[j]? = some p → p.2 = val B64 ((al.drop (m * j)).take m) * bv
theorem PcL.nil (al : List Int) (bv m : Nat) : PcL al bv m [] := fun j p h => by simp at h
theorem PcL.add {al : List Int} {bv m i : Nat} {L : List (Value × Nat)} (h : PcL al bv m L) (hi : L.length = i) (x : Value) : PcL al bv m (L ++ [(x, val B64 ((al.drop (m * i)).take m) * bv)]) := fun j p hp => by
 by_cases hj : j < L.length
 ·rw [List.getElem?_append_left hj] at hp
  exact h j p hp
 ·rw [List.getElem?_append_right (by omega)] at hp
  cases hk : j - L.length with
  | zero => rw [hk] at hp; obtain rfl := Option.some.inj hp; rw [show j = i by omega]
  | succ k => rw [hk] at hp; simp at hp
theorem PcL.lt {al bl : List Int} {m : Nat} {L : List (Value × Nat)} (h : PcL al (val B64 bl) m L) (ha : Ws al) (hb : Ws bl) (hm : bl.length = m) : ∀ (i : Nat) (p : Value × Nat), L[i]? = some p → p.2 < B64 ^ (m + m) := fun i p hp => by
 rw [h i p hp]
 refine mul_lt_pow ?_ ?_
 ·have := val_lt (B := B64) (ws_take (ws_drop ha (m * i)) m).dg
  exact Nat.lt_of_lt_of_le this (Nat.pow_le_pow_right (by decide) (by rw [List.length_take]; exact Nat.min_le_left _ _))
 ·have := val_lt (B := B64) hb.dg
  rw [hm] at this
  exact this
theorem PcL.all {al : List Int} {bv m : Nat} {L : List (Value × Nat)} (h : PcL al bv m L) (hl : al.length ≤ m * L.length) : jS m (fun j => (L.map (·.2)).getD j 0) L.length = val B64 al * bv := by
 have e := jS_pieces al m bv L.length
 rw [List.take_of_length_le hl] at e
 rw [← e]
 refine jS_congr _ fun j hj => ?_
 rw [List.getD_eq_getElem?_getD, List.getElem?_map, List.getElem?_eq_getElem hj]
 exact h j _ (List.getElem?_eq_getElem hj)
def pcost (n m k1 k2 i : Nat) : Nat := if m * i ≤ n then i * k1 else n / m * k1 + k2
def pall (n m k1 k2 : Nat) : Nat := n / m * k1 + if 0 < n % m then k2 else 0
theorem pcost_0 (n m k1 k2 : Nat) : pcost n m k1 k2 0 = 0 := by unfold pcost; rw [if_pos (by omega), Nat.zero_mul]
theorem pcost_full {n m k1 k2 i : Nat} (h : m * (i + 1) ≤ n) : pcost n m k1 k2 (i + 1) = pcost n m k1 k2 i + k1 := by
 have : m * i ≤ n := by rw [Nat.mul_add] at h; omega
 unfold pcost
 rw [if_pos h, if_pos this, Nat.add_mul, Nat.one_mul]
theorem pcost_last {n m k1 k2 i : Nat} (h0 : m * i < n) (h : n < m * (i + 1)) : pcost n m k1 k2 (i + 1) = pcost n m k1 k2 i + k2 := by
 have hm : 0 < m := by
  rcases Nat.eq_zero_or_pos m with rfl | h
  ·simp at h
  ·exact h
 have : n / m = i := by
  rw [Nat.div_eq_iff hm]
  rw [Nat.mul_add, Nat.mul_one] at h
  rw [Nat.mul_comm i m]
  omega
 unfold pcost
 rw [if_neg (by omega), if_pos (by omega), this]
theorem pcost_end {n m k1 k2 i : Nat} (hm : 0 < m) (h0 : n ≤ m * i) (h : m * i < n + m) : pcost n m k1 k2 i = pall n m k1 k2 := by
 unfold pcost pall
 have e := Nat.div_add_mod n m
 have lt := Nat.mod_lt n hm
 by_cases hle : m * i ≤ n
 ·have : n / m = i := by
   rw [Nat.div_eq_iff hm, Nat.mul_comm i m]; omega
  rw [if_pos hle, this, if_neg (by rw [this] at e; omega), Nat.add_zero]
 ·rw [if_neg hle]
  congr 1
  refine (if_pos ?_).symm
  rcases Nat.eq_zero_or_pos (n % m) with hz | hz
  ·exfalso
   rw [hz, Nat.add_zero] at e
   have h1 : m * i < m * (n / m + 1) := by rw [Nat.mul_add, Nat.mul_one, e]; exact h
   have h2 : m * (n / m) < m * i := by rw [e]; omega
   have h3 := Nat.lt_of_mul_lt_mul_left h1
   have h4 := Nat.lt_of_mul_lt_mul_left h2
   omega
  ·exact hz
theorem pcost_le {n m k1 k2 i : Nat} (hm : 0 < m) (h : m * i < n + m) : pcost n m k1 k2 i ≤ pall n m k1 k2 := by
 by_cases hle : m * i ≤ n
 ·have e : i ≤ n / m := (Nat.le_div_iff_mul_le hm).2 (by rw [Nat.mul_comm]; exact hle)
  unfold pcost pall
  rw [if_pos hle]
  have := Nat.mul_le_mul_right k1 e
  omega
 ·rw [pcost_end hm (by omega) h]
  exact Nat.le_refl _
theorem Mt.rowo {w w' : World} {g : Nat} {a b : Int} {c : Mc} {row : Option Nat} (m : Mt w g a b c) (o : w.grownBy w' row) (hr : some g ≠ row) : Mt w' g a b c := by
 have hb := o.block g (World.block_lt_of_cell? w _ m.c0) hr
 have e : ∀ j, w'.cell? ⟨g, j, none⟩ = w.cell? ⟨g, j, none⟩ := fun j => World.cell?_of_block hb
 have f : ∀ j, w'.frozen? ⟨g, j, none⟩ = w.frozen? ⟨g, j, none⟩ := fun j => World.frozen?_of_block hb
 exact ⟨(e 0).trans m.c0, (e 1).trans m.c1, (e 2).trans m.c2, (f 0).trans m.f0, (f 1).trans m.f1, (f 2).trans m.f2, m.a0, m.b0, m.c0', fun j hj => (e j).trans (m.rest j hj)⟩
theorem Wv.parts {W : World} {D b m : Nat} {al bl : List Int} {L : List (Value × Nat)} {v : Value} (h : Wv W D L) (p : PcL al (val B64 bl) m L) (o : OwnV W b v (L.map (·.1))) (ha : Ws al) (hb : Ws bl) (hm : bl.length = m) (hl : al.length ≤ m * L.length) :
  ∃ X : Nat → List Int, Pts W v L.length (fun j => (L.map (·.1)).getD j undef) X ∧ (∀ j, j < L.length → (X j).length ≤ m + m) ∧ jS m (fun j => val B64 (X j)) L.length = val B64 al * val B64 bl := by
 obtain ⟨X, hX⟩ := h.pick (p.lt ha hb hm)
 have oc := o.cells
 rw [List.length_map] at oc
 refine ⟨X, ⟨oc, fun j hj => (hX j hj).1⟩, fun j hj => (hX j hj).2.1, ?_⟩
 rw [← p.all hl]
 exact jS_congr _ fun j hj => (hX j hj).2.2
theorem pieces_c (w : World) (g0 gm fk : Nat) (a b d : Int) (c : Mc) (T : Nat → Option Value) (va vb : Value) (al bl : List Int) (k1 k2 : Nat)
  (hfk : fk = 124) (hm : Mt w gm a b c) (hT : c.T = T) (_hd : 0 ≤ d) (ha0 : a + ((pall (max al.length bl.length) (min al.length bl.length) k1 k2 : Nat) : Int) ≤ 1000000000000000) (ha : Sl w va al) (hb : Sl w vb bl) (hna : Off va gm) (hnb : Off vb gm) (hl : al.length ≤ 4096) (hl2 : bl.length ≤ 4096)
  (hx : 0 < min al.length bl.length)
  (i1 : InC w gm fk #[.pointer (some ⟨g0, 0, none⟩)] b T (min al.length bl.length) (min al.length bl.length) k1 d)
  (i2 : 0 < max al.length bl.length % min al.length bl.length → InC w gm fk #[.pointer (some ⟨g0, 0, none⟩)] b T (max al.length bl.length % min al.length bl.length) (min al.length bl.length) k2 d) :
  Calls Tryz.prog 149 #[.pointer (some ⟨g0, 0, none⟩), va, vb, .int .i64 ((min al.length bl.length : Nat) : Int)] w fun e w' => ∃ x c', e = .returned x ∧ Wo w' w.heap.size x (val B64 al * val B64 bl) ∧ Mt w' gm (a + ((pall (max al.length bl.length) (min al.length bl.length) k1 k2 : Nat) : Int)) b c' ∧
   (c'.T = T ∧ c.v ≤ c'.v ∧ (c'.v ≤ c.v ∨ c'.v ≤ b + d)) ∧ w.grownBy w' (some gm) := by
 have hgm : gm < w.heap.size := World.block_lt_of_cell? w _ hm.c0
 obtain ⟨A, ca, rfl, hca, _⟩ := ha.form
 obtain ⟨B, cb, rfl, hcb, _⟩ := hb.form
 have HGM := lk hgm
 have HM := lk hm
 have HT := lk hT
 have WA := lk ha.ws
 have WB := lk hb.ws
 obtain ⟨n, hn⟩ : ∃ n, n = al.length := ⟨_, rfl⟩
 obtain ⟨m, hm'⟩ : ∃ m, m = bl.length := ⟨_, rfl⟩
 rw [← hn, ← hm'] at hx i1 i2 ha0 ⊢
 rw [← hn] at ha hna hl hca
 rw [← hm'] at hb hnb hl2 hcb
 have HNL := lk hn
 have HML := lk hm'
 subst hfk
 clear hgm hm hT
 by_cases hlt0 : n < m
 ·rw [Nat.min_eq_left (by omega)] at hx i1
  rw [Nat.min_eq_left (by omega), Nat.max_eq_right (by omega)] at i2 ha0 ⊢
  have R0 := lk (((Rw.nil w gm).add hb hnb).add ha hna)
  have HI1 := lk i1
  have HI2 := lk i2
  have HA0 := lk ha0
  clear ha hb hna hnb hn hm' i1 i2 ha0
  have HM0 : Hid (Mt w gm (a + ((pcost m n k1 k2 0 : Nat) : Int)) b c) := lk (by rw [pcost_0]; simpa using HM.out)
  go_enter Tryz.func149, Tryz.ntmps149
  go_wp2
  go_loopw [9, 10] (fun v9 v10 wr => ∃ (i F : Nat) (L : List (Value × Nat)) (c' : Mc), v10 = .int .i64 F ∧ F = n * i ∧ L.length = i ∧ F < m + n ∧ PcL bl (val B64 al) n L ∧ OwnV wr w.heap.size v9 (L.map (·.1)) ∧ Wv wr w.heap.size L ∧ Mt wr gm (a + ((pcost m n k1 k2 i : Nat) : Int)) b c' ∧ (c'.T = T ∧ c.v ≤ c'.v ∧ (c'.v ≤ c.v ∨ c'.v ≤ b + d)) ∧ w.grownBy wr (some gm)) (fun _ v10 _ => (m + n) - (intOf v10).toNat)
  case atStart => exact ⟨0, 0, [], c, rfl, (Nat.mul_zero _).symm, rfl, by omega, PcL.nil _ _ _, ownv_nil _ _, Wv.nil _ _, HM0.out, ⟨HT.out, by omega, .inl (by omega)⟩, jr _ _⟩
  case round =>
   obtain ⟨i, F, L, c', rfl, hF, hL, hFn, pl, ow, wv, mt, cc, G⟩ := hrel
   have PL := lk pl
   have OV := lk ow
   have WV := lk wv
   have M := lk mt
   have CC := lk cc
   have GG := lk G
   have HL := lk hL
   have HF := lk hF
   clear pl ow wv mt cc G hL hF
   have HGM2 : Hid (∀ {W : World}, w.grownBy W (some gm) → gm < W.heap.size) := lk (fun g => Nat.lt_of_lt_of_le HGM.out g.size)
   have bi : i ≤ 8192 := by
    have h1 := HF.out
    have h2 : i ≤ n * i := Nat.le_mul_of_pos_left i hx
    omega
   by_cases hlt : F < m
   ·obtain ⟨E, hE⟩ : ∃ E, E = F + n := ⟨_, rfl⟩
    have eE : (F : Int) + (n : Int) = (E : Int) := by omega
    rcases Nat.lt_trichotomy E m with hEn | hEn | hEn
    ·have PE : Hid ((bl.take E).drop F = (bl.drop (n * i)).take n) := lk (by
      rw [← HF.out, List.drop_take]; congr 1; omega)
     have HPC : Hid (pcost m n k1 k2 (i + 1) = pcost m n k1 k2 i + k1) := lk (pcost_full (by rw [Nat.mul_add, Nat.mul_one, ← HF.out, ← hE]; omega))
     have qm : (E < m) = True := by simp; exact hEn
     have PLN : Hid (E - F = n) := lk (by omega)
     have HEE := lk hE
     clear hE
     obtain ⟨bA, oA, rfl, hs⟩ := ((R0.out.grown GG.out).at 0 rfl).mid F E (by omega) (by omega) (by have := (HML).out; omega)
     have HS := lk hs
     obtain ⟨P, hP⟩ : ∃ P, P = (bl.take E).drop F := ⟨_, rfl⟩
     rw [← hP] at HS PE
     have lP : P.length = E - F := by rw [hP, List.length_drop, List.length_take]; have := (HML).out; omega
     have LP := lk lP
     clear hs hP lP
     go_wp2_with (at_builtin; refine own_append_sl 184 (by kernel_rfl) (.const (.slice none 0 0)) (.tmp 35) rfl rfl _ [] rfl (own_nil _ _) _ P rfl HS.out (by have := LP.out; show 0 + _ ≤ _; omega) (Nat.le_refl _) ?_; intro v1 w1 ow1 g1)
     have G1 := lk (jt GG.out (jn g1 (some gm)))
     have V1 := lk (And.intro ow1.sl (show Off v1 gm from fun b hb e => by have := (ow1.lt b hb).1; have := HGM2.out GG.out; omega))
     have N1 := (HI1.out) w1 v1 (.slice A n ca) P al _ _ G1.out (M.out.grown g1) CC.out.1 (by have := HA0.out; have := HPC.out; have := pcost_le (k1 := k1) (k2 := k2) (n := m) (m := n) (i := i + 1) (by omega) (by rw [Nat.mul_add, Nat.mul_one, ← HF.out]; omega); omega) V1.out.1 ((R0.out.grown G1.out).at 1 rfl) (LP.out.trans PLN.out) (HNL).out.symm V1.out.2 ((R0.out.grown G1.out).off 1 rfl)
     rw [PE.out] at N1
     have HN1 := lk N1
     have OV1 := lk (OV.out.grown0 g1)
     have WV1 := lk (WV.out.grown0 g1)
     have BS : Hid (w.heap.size ≤ w1.heap.size) := lk G1.out.size
     clear N1 ow1 g1 OV WV M GG HS
     refine (HN1.out).mono ?_
     rintro e w2 ⟨x, c2, rfl, ox, mx, cx, g2⟩
     obtain ⟨X, nx, cx', rfl⟩ := ox.form
     have OV2 := lk (OV1.out.growng g2 HGM.out)
     have WV2 := lk ((WV1.out.growng g2 HGM.out).add ox BS.out)
     have M2 := lk mx
     have G2 := lk (jt G1.out g2)
     have CC2 : Hid (c2.T = T ∧ c.v ≤ c2.v ∧ (c2.v ≤ c.v ∨ c2.v ≤ b + d)) := lk (by have := CC.out; refine ⟨cx.1, ?_⟩; omega)
     clear ox mx cx g2 OV1 WV1 G1 V1 HN1 CC
     go_wp2_with (at_builtin; refine ownv_append 237 (by kernel_rfl) (.tmp 25) (.tmp 39) rfl rfl _ _ rfl (OV2.out.grown0 (ju (jr w2 none) _)) _ _ _ _ rfl ((cs_new w2 _ _).cell 0 rfl) (by have := HL.out; rw [List.length_map]; omega) (Nat.le_trans G2.out.size (ju (jr w2 none) _).size) ?_; intro v3 w3 ow3 g3)
     have g3' : (w2.alloc (Obj.cells #[.slice X nx cx'] 184)).grownBy w3 u9.ownBlock := g3
     have ga := ju (jr w2 none) (Obj.cells #[.slice X nx cx'] 184)
     have OVa := OV2.out.grown0 ga
     have hne : some gm ≠ u9.ownBlock := fun e => by have := (OVa.lt gm e.symm).1; have := HGM.out; omega
     have mm : Mt w3 gm (a + ((pcost m n k1 k2 (i + 1) : Nat) : Int)) b c2 := by
      have e : a + ((pcost m n k1 k2 (i + 1) : Nat) : Int) = a + ((pcost m n k1 k2 i : Nat) : Int) + (k1 : Int) := by rw [HPC.out]; omega
      rw [e]
      exact (M2.out.grown ga).rowo g3' hne
     have he := HEE.out
     refine ⟨⟨i + 1, E, _, c2, rfl, by rw [Nat.mul_add, Nat.mul_one, ← HF.out]; exact HEE.out, by rw [List.length_append, HL.out]; rfl, by omega, PL.out.add HL.out _, by rw [List.map_append]; exact ow3, (WV2.out.grown0 ga).append OVa g3', mm, CC2.out, gb_new (jt G2.out (jn ga _)) g3' (fun k e => (OVa.lt k e).1)⟩, by simp [intOf]; omega⟩
    ·have PE : Hid ((bl.take m).drop F = (bl.drop (n * i)).take n) := lk (by
      rw [← HF.out, List.drop_take]; congr 1; omega)
     have HPC : Hid (pcost m n k1 k2 (i + 1) = pcost m n k1 k2 i + k1) := lk (pcost_full (by rw [Nat.mul_add, Nat.mul_one, ← HF.out, ← hE]; omega))
     have qm : (E < m) = False := by simp; omega
     have HEE := lk hE
     have PLN : Hid (m - F = n) := lk (by omega)
     clear hE hEn
     obtain ⟨bA, oA, rfl, hs⟩ := ((R0.out.grown GG.out).at 0 rfl).mid F m (by omega) (by omega) (by have := (HML).out; omega)
     have HS := lk hs
     obtain ⟨P, hP⟩ : ∃ P, P = (bl.take m).drop F := ⟨_, rfl⟩
     rw [← hP] at HS PE
     have lP : P.length = m - F := by rw [hP, List.length_drop, List.length_take]; have := (HML).out; omega
     have LP := lk lP
     clear hs hP lP
     go_wp2_with (at_builtin; refine own_append_sl 184 (by kernel_rfl) (.const (.slice none 0 0)) (.tmp 35) rfl rfl _ [] rfl (own_nil _ _) _ P rfl HS.out (by have := LP.out; show 0 + _ ≤ _; omega) (Nat.le_refl _) ?_; intro v1 w1 ow1 g1)
     have G1 := lk (jt GG.out (jn g1 (some gm)))
     have V1 := lk (And.intro ow1.sl (show Off v1 gm from fun b hb e => by have := (ow1.lt b hb).1; have := HGM2.out GG.out; omega))
     have N1 := (HI1.out) w1 v1 (.slice A n ca) P al _ _ G1.out (M.out.grown g1) CC.out.1 (by have := HA0.out; have := HPC.out; have := pcost_le (k1 := k1) (k2 := k2) (n := m) (m := n) (i := i + 1) (by omega) (by rw [Nat.mul_add, Nat.mul_one, ← HF.out]; omega); omega) V1.out.1 ((R0.out.grown G1.out).at 1 rfl) (LP.out.trans PLN.out) (HNL).out.symm V1.out.2 ((R0.out.grown G1.out).off 1 rfl)
     rw [PE.out] at N1
     have HN1 := lk N1
     have OV1 := lk (OV.out.grown0 g1)
     have WV1 := lk (WV.out.grown0 g1)
     have BS : Hid (w.heap.size ≤ w1.heap.size) := lk G1.out.size
     clear N1 ow1 g1 OV WV M GG HS
     refine (HN1.out).mono ?_
     rintro e w2 ⟨x, c2, rfl, ox, mx, cx, g2⟩
     obtain ⟨X, nx, cx', rfl⟩ := ox.form
     have OV2 := lk (OV1.out.growng g2 HGM.out)
     have WV2 := lk ((WV1.out.growng g2 HGM.out).add ox BS.out)
     have M2 := lk mx
     have G2 := lk (jt G1.out g2)
     have CC2 : Hid (c2.T = T ∧ c.v ≤ c2.v ∧ (c2.v ≤ c.v ∨ c2.v ≤ b + d)) := lk (by have := CC.out; refine ⟨cx.1, ?_⟩; omega)
     clear ox mx cx g2 OV1 WV1 G1 V1 HN1 CC
     go_wp2_with (at_builtin; refine ownv_append 237 (by kernel_rfl) (.tmp 25) (.tmp 39) rfl rfl _ _ rfl (OV2.out.grown0 (ju (jr w2 none) _)) _ _ _ _ rfl ((cs_new w2 _ _).cell 0 rfl) (by have := HL.out; rw [List.length_map]; omega) (Nat.le_trans G2.out.size (ju (jr w2 none) _).size) ?_; intro v3 w3 ow3 g3)
     have g3' : (w2.alloc (Obj.cells #[.slice X nx cx'] 184)).grownBy w3 u9.ownBlock := g3
     have ga := ju (jr w2 none) (Obj.cells #[.slice X nx cx'] 184)
     have OVa := OV2.out.grown0 ga
     have hne : some gm ≠ u9.ownBlock := fun e => by have := (OVa.lt gm e.symm).1; have := HGM.out; omega
     have mm : Mt w3 gm (a + ((pcost m n k1 k2 (i + 1) : Nat) : Int)) b c2 := by
      have e : a + ((pcost m n k1 k2 (i + 1) : Nat) : Int) = a + ((pcost m n k1 k2 i : Nat) : Int) + (k1 : Int) := by rw [HPC.out]; omega
      rw [e]
      exact (M2.out.grown ga).rowo g3' hne
     have he := HEE.out
     refine ⟨⟨i + 1, E, _, c2, rfl, by rw [Nat.mul_add, Nat.mul_one, ← HF.out]; exact HEE.out, by rw [List.length_append, HL.out]; rfl, by omega, PL.out.add HL.out _, by rw [List.map_append]; exact ow3, (WV2.out.grown0 ga).append OVa g3', mm, CC2.out, gb_new (jt G2.out (jn ga _)) g3' (fun k e => (OVa.lt k e).1)⟩, by simp [intOf]; omega⟩
    ·have PE : Hid ((bl.take m).drop F = (bl.drop (n * i)).take n) := lk (by
      rw [← HF.out, List.drop_take, List.take_of_length_le (by rw [List.length_drop]; have := (HML).out; omega), List.take_of_length_le (by rw [List.length_drop]; have := (HML).out; omega)])
     have HPC : Hid (pcost m n k1 k2 (i + 1) = pcost m n k1 k2 i + k2) := lk (pcost_last (by rw [← HF.out]; exact hlt) (by rw [Nat.mul_add, Nat.mul_one, ← HF.out, ← hE]; omega))
     have HMD : Hid (m % n = m - F) := lk (by
      have e1 : m / n = i := by
       rw [Nat.div_eq_iff hx, Nat.mul_comm i n, ← HF.out]; omega
      have e2 := Nat.div_add_mod m n
      rw [e1, ← HF.out] at e2
      omega)
     have PLN : Hid (m - F = m % n) := lk HMD.out.symm
     have HI3 := lk (HI2.out (by rw [HMD.out]; omega))
     have qm : (E < m) = False := by simp; omega
     have HEE := lk hE
     clear hE
     obtain ⟨bA, oA, rfl, hs⟩ := ((R0.out.grown GG.out).at 0 rfl).mid F m (by omega) (by omega) (by have := (HML).out; omega)
     have HS := lk hs
     obtain ⟨P, hP⟩ : ∃ P, P = (bl.take m).drop F := ⟨_, rfl⟩
     rw [← hP] at HS PE
     have lP : P.length = m - F := by rw [hP, List.length_drop, List.length_take]; have := (HML).out; omega
     have LP := lk lP
     clear hs hP lP
     go_wp2_with (at_builtin; refine own_append_sl 184 (by kernel_rfl) (.const (.slice none 0 0)) (.tmp 35) rfl rfl _ [] rfl (own_nil _ _) _ P rfl HS.out (by have := LP.out; show 0 + _ ≤ _; omega) (Nat.le_refl _) ?_; intro v1 w1 ow1 g1)
     have G1 := lk (jt GG.out (jn g1 (some gm)))
     have V1 := lk (And.intro ow1.sl (show Off v1 gm from fun b hb e => by have := (ow1.lt b hb).1; have := HGM2.out GG.out; omega))
     have N1 := (HI3.out) w1 v1 (.slice A n ca) P al _ _ G1.out (M.out.grown g1) CC.out.1 (by have := HA0.out; have := HPC.out; have := pcost_le (k1 := k1) (k2 := k2) (n := m) (m := n) (i := i + 1) (by omega) (by rw [Nat.mul_add, Nat.mul_one, ← HF.out]; omega); omega) V1.out.1 ((R0.out.grown G1.out).at 1 rfl) (LP.out.trans PLN.out) (HNL).out.symm V1.out.2 ((R0.out.grown G1.out).off 1 rfl)
     rw [PE.out] at N1
     have HN1 := lk N1
     have OV1 := lk (OV.out.grown0 g1)
     have WV1 := lk (WV.out.grown0 g1)
     have BS : Hid (w.heap.size ≤ w1.heap.size) := lk G1.out.size
     clear N1 ow1 g1 OV WV M GG HS
     refine (HN1.out).mono ?_
     rintro e w2 ⟨x, c2, rfl, ox, mx, cx, g2⟩
     obtain ⟨X, nx, cx', rfl⟩ := ox.form
     have OV2 := lk (OV1.out.growng g2 HGM.out)
     have WV2 := lk ((WV1.out.growng g2 HGM.out).add ox BS.out)
     have M2 := lk mx
     have G2 := lk (jt G1.out g2)
     have CC2 : Hid (c2.T = T ∧ c.v ≤ c2.v ∧ (c2.v ≤ c.v ∨ c2.v ≤ b + d)) := lk (by have := CC.out; refine ⟨cx.1, ?_⟩; omega)
     clear ox mx cx g2 OV1 WV1 G1 V1 HN1 CC
     go_wp2_with (at_builtin; refine ownv_append 237 (by kernel_rfl) (.tmp 25) (.tmp 39) rfl rfl _ _ rfl (OV2.out.grown0 (ju (jr w2 none) _)) _ _ _ _ rfl ((cs_new w2 _ _).cell 0 rfl) (by have := HL.out; rw [List.length_map]; omega) (Nat.le_trans G2.out.size (ju (jr w2 none) _).size) ?_; intro v3 w3 ow3 g3)
     have g3' : (w2.alloc (Obj.cells #[.slice X nx cx'] 184)).grownBy w3 u9.ownBlock := g3
     have ga := ju (jr w2 none) (Obj.cells #[.slice X nx cx'] 184)
     have OVa := OV2.out.grown0 ga
     have hne : some gm ≠ u9.ownBlock := fun e => by have := (OVa.lt gm e.symm).1; have := HGM.out; omega
     have mm : Mt w3 gm (a + ((pcost m n k1 k2 (i + 1) : Nat) : Int)) b c2 := by
      have e : a + ((pcost m n k1 k2 (i + 1) : Nat) : Int) = a + ((pcost m n k1 k2 i : Nat) : Int) + (k2 : Int) := by rw [HPC.out]; omega
      rw [e]
      exact (M2.out.grown ga).rowo g3' hne
     have he := HEE.out
     refine ⟨⟨i + 1, E, _, c2, rfl, by rw [Nat.mul_add, Nat.mul_one, ← HF.out]; exact HEE.out, by rw [List.length_append, HL.out]; rfl, by omega, PL.out.add HL.out _, by rw [List.map_append]; exact ow3, (WV2.out.grown0 ga).append OVa g3', mm, CC2.out, gb_new (jt G2.out (jn ga _)) g3' (fun k e => (OVa.lt k e).1)⟩, by simp [intOf]; omega⟩
   ·have HE : Hid (pcost m n k1 k2 i = pall m n k1 k2) := lk (pcost_end hx (by rw [← HF.out]; omega) (by rw [← HF.out]; exact hFn))
    obtain ⟨X, pt, lx, jv⟩ := WV.out.parts PL.out OV.out (WB).out (WA).out (HNL).out.symm (by rw [HL.out, ← HF.out, ← (HML).out]; omega)
    rw [HL.out] at pt lx jv
    have JN := ljoin_c wr n i u9 _ X pt (by omega) (by omega) (fun j hj => by have := lx j hj; omega)
    rw [jv] at JN
    have HJN := lk JN
    clear JN pt lx jv
    go_wp2_with fail
    refine (HJN.out).mono ?_
    rintro e w2 ⟨x, rfl, o2, g2⟩
    have KK : Hid (Wo w2 w.heap.size x (val B64 bl * val B64 al) ∧ Mt w2 gm (a + ((pall m n k1 k2 : Nat) : Int)) b c' ∧ w.grownBy w2 (some gm)) := lk
     ⟨o2.mono GG.out.size, by rw [← HE.out]; exact M.out.grown g2, jt GG.out (jn g2 (some gm))⟩
    clear o2 g2 HJN
    go_wp2
    go_ret
    exact ⟨x, c', rfl, by first | exact KK.out.1 | (rw [Nat.mul_comm]; exact KK.out.1), KK.out.2.1, CC.out, KK.out.2.2⟩
 ·rw [Nat.min_eq_right (by omega)] at hx i1
  rw [Nat.min_eq_right (by omega), Nat.max_eq_left (by omega)] at i2 ha0 ⊢
  have R0 := lk (((Rw.nil w gm).add ha hna).add hb hnb)
  have HI1 := lk i1
  have HI2 := lk i2
  have HA0 := lk ha0
  clear ha hb hna hnb hn hm' i1 i2 ha0
  have HM0 : Hid (Mt w gm (a + ((pcost n m k1 k2 0 : Nat) : Int)) b c) := lk (by rw [pcost_0]; simpa using HM.out)
  go_enter Tryz.func149, Tryz.ntmps149
  go_wp2
  go_loopw [9, 10] (fun v9 v10 wr => ∃ (i F : Nat) (L : List (Value × Nat)) (c' : Mc), v10 = .int .i64 F ∧ F = m * i ∧ L.length = i ∧ F < n + m ∧ PcL al (val B64 bl) m L ∧ OwnV wr w.heap.size v9 (L.map (·.1)) ∧ Wv wr w.heap.size L ∧ Mt wr gm (a + ((pcost n m k1 k2 i : Nat) : Int)) b c' ∧ (c'.T = T ∧ c.v ≤ c'.v ∧ (c'.v ≤ c.v ∨ c'.v ≤ b + d)) ∧ w.grownBy wr (some gm)) (fun _ v10 _ => (n + m) - (intOf v10).toNat)
  case atStart => exact ⟨0, 0, [], c, rfl, (Nat.mul_zero _).symm, rfl, by omega, PcL.nil _ _ _, ownv_nil _ _, Wv.nil _ _, HM0.out, ⟨HT.out, by omega, .inl (by omega)⟩, jr _ _⟩
  case round =>
   obtain ⟨i, F, L, c', rfl, hF, hL, hFn, pl, ow, wv, mt, cc, G⟩ := hrel
   have PL := lk pl
   have OV := lk ow
   have WV := lk wv
   have M := lk mt
   have CC := lk cc
   have GG := lk G
   have HL := lk hL
   have HF := lk hF
   clear pl ow wv mt cc G hL hF
   have HGM2 : Hid (∀ {W : World}, w.grownBy W (some gm) → gm < W.heap.size) := lk (fun g => Nat.lt_of_lt_of_le HGM.out g.size)
   have bi : i ≤ 8192 := by
    have h1 := HF.out
    have h2 : i ≤ m * i := Nat.le_mul_of_pos_left i hx
    omega
   by_cases hlt : F < n
   ·obtain ⟨E, hE⟩ : ∃ E, E = F + m := ⟨_, rfl⟩
    have eE : (F : Int) + (m : Int) = (E : Int) := by omega
    rcases Nat.lt_trichotomy E n with hEn | hEn | hEn
    ·have PE : Hid ((al.take E).drop F = (al.drop (m * i)).take m) := lk (by
      rw [← HF.out, List.drop_take]; congr 1; omega)
     have HPC : Hid (pcost n m k1 k2 (i + 1) = pcost n m k1 k2 i + k1) := lk (pcost_full (by rw [Nat.mul_add, Nat.mul_one, ← HF.out, ← hE]; omega))
     have qm : (E < n) = True := by simp; exact hEn
     have PLN : Hid (E - F = m) := lk (by omega)
     have HEE := lk hE
     clear hE
     obtain ⟨bA, oA, rfl, hs⟩ := ((R0.out.grown GG.out).at 0 rfl).mid F E (by omega) (by omega) (by have := (HNL).out; omega)
     have HS := lk hs
     obtain ⟨P, hP⟩ : ∃ P, P = (al.take E).drop F := ⟨_, rfl⟩
     rw [← hP] at HS PE
     have lP : P.length = E - F := by rw [hP, List.length_drop, List.length_take]; have := (HNL).out; omega
     have LP := lk lP
     clear hs hP lP
     go_wp2_with (at_builtin; refine own_append_sl 184 (by kernel_rfl) (.const (.slice none 0 0)) (.tmp 35) rfl rfl _ [] rfl (own_nil _ _) _ P rfl HS.out (by have := LP.out; show 0 + _ ≤ _; omega) (Nat.le_refl _) ?_; intro v1 w1 ow1 g1)
     have G1 := lk (jt GG.out (jn g1 (some gm)))
     have V1 := lk (And.intro ow1.sl (show Off v1 gm from fun b hb e => by have := (ow1.lt b hb).1; have := HGM2.out GG.out; omega))
     have N1 := (HI1.out) w1 v1 (.slice B m cb) P bl _ _ G1.out (M.out.grown g1) CC.out.1 (by have := HA0.out; have := HPC.out; have := pcost_le (k1 := k1) (k2 := k2) (n := n) (m := m) (i := i + 1) (by omega) (by rw [Nat.mul_add, Nat.mul_one, ← HF.out]; omega); omega) V1.out.1 ((R0.out.grown G1.out).at 1 rfl) (LP.out.trans PLN.out) (HML).out.symm V1.out.2 ((R0.out.grown G1.out).off 1 rfl)
     rw [PE.out] at N1
     have HN1 := lk N1
     have OV1 := lk (OV.out.grown0 g1)
     have WV1 := lk (WV.out.grown0 g1)
     have BS : Hid (w.heap.size ≤ w1.heap.size) := lk G1.out.size
     clear N1 ow1 g1 OV WV M GG HS
     refine (HN1.out).mono ?_
     rintro e w2 ⟨x, c2, rfl, ox, mx, cx, g2⟩
     obtain ⟨X, nx, cx', rfl⟩ := ox.form
     have OV2 := lk (OV1.out.growng g2 HGM.out)
     have WV2 := lk ((WV1.out.growng g2 HGM.out).add ox BS.out)
     have M2 := lk mx
     have G2 := lk (jt G1.out g2)
     have CC2 : Hid (c2.T = T ∧ c.v ≤ c2.v ∧ (c2.v ≤ c.v ∨ c2.v ≤ b + d)) := lk (by have := CC.out; refine ⟨cx.1, ?_⟩; omega)
     clear ox mx cx g2 OV1 WV1 G1 V1 HN1 CC
     go_wp2_with (at_builtin; refine ownv_append 237 (by kernel_rfl) (.tmp 25) (.tmp 39) rfl rfl _ _ rfl (OV2.out.grown0 (ju (jr w2 none) _)) _ _ _ _ rfl ((cs_new w2 _ _).cell 0 rfl) (by have := HL.out; rw [List.length_map]; omega) (Nat.le_trans G2.out.size (ju (jr w2 none) _).size) ?_; intro v3 w3 ow3 g3)
     have g3' : (w2.alloc (Obj.cells #[.slice X nx cx'] 184)).grownBy w3 u9.ownBlock := g3
     have ga := ju (jr w2 none) (Obj.cells #[.slice X nx cx'] 184)
     have OVa := OV2.out.grown0 ga
     have hne : some gm ≠ u9.ownBlock := fun e => by have := (OVa.lt gm e.symm).1; have := HGM.out; omega
     have mm : Mt w3 gm (a + ((pcost n m k1 k2 (i + 1) : Nat) : Int)) b c2 := by
      have e : a + ((pcost n m k1 k2 (i + 1) : Nat) : Int) = a + ((pcost n m k1 k2 i : Nat) : Int) + (k1 : Int) := by rw [HPC.out]; omega
      rw [e]
      exact (M2.out.grown ga).rowo g3' hne
     have he := HEE.out
     refine ⟨⟨i + 1, E, _, c2, rfl, by rw [Nat.mul_add, Nat.mul_one, ← HF.out]; exact HEE.out, by rw [List.length_append, HL.out]; rfl, by omega, PL.out.add HL.out _, by rw [List.map_append]; exact ow3, (WV2.out.grown0 ga).append OVa g3', mm, CC2.out, gb_new (jt G2.out (jn ga _)) g3' (fun k e => (OVa.lt k e).1)⟩, by simp [intOf]; omega⟩
    ·have PE : Hid ((al.take n).drop F = (al.drop (m * i)).take m) := lk (by
      rw [← HF.out, List.drop_take]; congr 1; omega)
     have HPC : Hid (pcost n m k1 k2 (i + 1) = pcost n m k1 k2 i + k1) := lk (pcost_full (by rw [Nat.mul_add, Nat.mul_one, ← HF.out, ← hE]; omega))
     have qm : (E < n) = False := by simp; omega
     have HEE := lk hE
     have PLN : Hid (n - F = m) := lk (by omega)
     clear hE hEn
     obtain ⟨bA, oA, rfl, hs⟩ := ((R0.out.grown GG.out).at 0 rfl).mid F n (by omega) (by omega) (by have := (HNL).out; omega)
     have HS := lk hs
     obtain ⟨P, hP⟩ : ∃ P, P = (al.take n).drop F := ⟨_, rfl⟩
     rw [← hP] at HS PE
     have lP : P.length = n - F := by rw [hP, List.length_drop, List.length_take]; have := (HNL).out; omega
     have LP := lk lP
     clear hs hP lP
     go_wp2_with (at_builtin; refine own_append_sl 184 (by kernel_rfl) (.const (.slice none 0 0)) (.tmp 35) rfl rfl _ [] rfl (own_nil _ _) _ P rfl HS.out (by have := LP.out; show 0 + _ ≤ _; omega) (Nat.le_refl _) ?_; intro v1 w1 ow1 g1)
     have G1 := lk (jt GG.out (jn g1 (some gm)))
     have V1 := lk (And.intro ow1.sl (show Off v1 gm from fun b hb e => by have := (ow1.lt b hb).1; have := HGM2.out GG.out; omega))
     have N1 := (HI1.out) w1 v1 (.slice B m cb) P bl _ _ G1.out (M.out.grown g1) CC.out.1 (by have := HA0.out; have := HPC.out; have := pcost_le (k1 := k1) (k2 := k2) (n := n) (m := m) (i := i + 1) (by omega) (by rw [Nat.mul_add, Nat.mul_one, ← HF.out]; omega); omega) V1.out.1 ((R0.out.grown G1.out).at 1 rfl) (LP.out.trans PLN.out) (HML).out.symm V1.out.2 ((R0.out.grown G1.out).off 1 rfl)
     rw [PE.out] at N1
     have HN1 := lk N1
     have OV1 := lk (OV.out.grown0 g1)
     have WV1 := lk (WV.out.grown0 g1)
     have BS : Hid (w.heap.size ≤ w1.heap.size) := lk G1.out.size
     clear N1 ow1 g1 OV WV M GG HS
     refine (HN1.out).mono ?_
     rintro e w2 ⟨x, c2, rfl, ox, mx, cx, g2⟩
     obtain ⟨X, nx, cx', rfl⟩ := ox.form
     have OV2 := lk (OV1.out.growng g2 HGM.out)
     have WV2 := lk ((WV1.out.growng g2 HGM.out).add ox BS.out)
     have M2 := lk mx
     have G2 := lk (jt G1.out g2)
     have CC2 : Hid (c2.T = T ∧ c.v ≤ c2.v ∧ (c2.v ≤ c.v ∨ c2.v ≤ b + d)) := lk (by have := CC.out; refine ⟨cx.1, ?_⟩; omega)
     clear ox mx cx g2 OV1 WV1 G1 V1 HN1 CC
     go_wp2_with (at_builtin; refine ownv_append 237 (by kernel_rfl) (.tmp 25) (.tmp 39) rfl rfl _ _ rfl (OV2.out.grown0 (ju (jr w2 none) _)) _ _ _ _ rfl ((cs_new w2 _ _).cell 0 rfl) (by have := HL.out; rw [List.length_map]; omega) (Nat.le_trans G2.out.size (ju (jr w2 none) _).size) ?_; intro v3 w3 ow3 g3)
     have g3' : (w2.alloc (Obj.cells #[.slice X nx cx'] 184)).grownBy w3 u9.ownBlock := g3
     have ga := ju (jr w2 none) (Obj.cells #[.slice X nx cx'] 184)
     have OVa := OV2.out.grown0 ga
     have hne : some gm ≠ u9.ownBlock := fun e => by have := (OVa.lt gm e.symm).1; have := HGM.out; omega
     have mm : Mt w3 gm (a + ((pcost n m k1 k2 (i + 1) : Nat) : Int)) b c2 := by
      have e : a + ((pcost n m k1 k2 (i + 1) : Nat) : Int) = a + ((pcost n m k1 k2 i : Nat) : Int) + (k1 : Int) := by rw [HPC.out]; omega
      rw [e]
      exact (M2.out.grown ga).rowo g3' hne
     have he := HEE.out
     refine ⟨⟨i + 1, E, _, c2, rfl, by rw [Nat.mul_add, Nat.mul_one, ← HF.out]; exact HEE.out, by rw [List.length_append, HL.out]; rfl, by omega, PL.out.add HL.out _, by rw [List.map_append]; exact ow3, (WV2.out.grown0 ga).append OVa g3', mm, CC2.out, gb_new (jt G2.out (jn ga _)) g3' (fun k e => (OVa.lt k e).1)⟩, by simp [intOf]; omega⟩
    ·have PE : Hid ((al.take n).drop F = (al.drop (m * i)).take m) := lk (by
      rw [← HF.out, List.drop_take, List.take_of_length_le (by rw [List.length_drop]; have := (HNL).out; omega), List.take_of_length_le (by rw [List.length_drop]; have := (HNL).out; omega)])
     have HPC : Hid (pcost n m k1 k2 (i + 1) = pcost n m k1 k2 i + k2) := lk (pcost_last (by rw [← HF.out]; exact hlt) (by rw [Nat.mul_add, Nat.mul_one, ← HF.out, ← hE]; omega))
     have HMD : Hid (n % m = n - F) := lk (by
      have e1 : n / m = i := by
       rw [Nat.div_eq_iff hx, Nat.mul_comm i m, ← HF.out]; omega
      have e2 := Nat.div_add_mod n m
      rw [e1, ← HF.out] at e2
      omega)
     have PLN : Hid (n - F = n % m) := lk HMD.out.symm
     have HI3 := lk (HI2.out (by rw [HMD.out]; omega))
     have qm : (E < n) = False := by simp; omega
     have HEE := lk hE
     clear hE
     obtain ⟨bA, oA, rfl, hs⟩ := ((R0.out.grown GG.out).at 0 rfl).mid F n (by omega) (by omega) (by have := (HNL).out; omega)
     have HS := lk hs
     obtain ⟨P, hP⟩ : ∃ P, P = (al.take n).drop F := ⟨_, rfl⟩
     rw [← hP] at HS PE
     have lP : P.length = n - F := by rw [hP, List.length_drop, List.length_take]; have := (HNL).out; omega
     have LP := lk lP
     clear hs hP lP
     go_wp2_with (at_builtin; refine own_append_sl 184 (by kernel_rfl) (.const (.slice none 0 0)) (.tmp 35) rfl rfl _ [] rfl (own_nil _ _) _ P rfl HS.out (by have := LP.out; show 0 + _ ≤ _; omega) (Nat.le_refl _) ?_; intro v1 w1 ow1 g1)
     have G1 := lk (jt GG.out (jn g1 (some gm)))
     have V1 := lk (And.intro ow1.sl (show Off v1 gm from fun b hb e => by have := (ow1.lt b hb).1; have := HGM2.out GG.out; omega))
     have N1 := (HI3.out) w1 v1 (.slice B m cb) P bl _ _ G1.out (M.out.grown g1) CC.out.1 (by have := HA0.out; have := HPC.out; have := pcost_le (k1 := k1) (k2 := k2) (n := n) (m := m) (i := i + 1) (by omega) (by rw [Nat.mul_add, Nat.mul_one, ← HF.out]; omega); omega) V1.out.1 ((R0.out.grown G1.out).at 1 rfl) (LP.out.trans PLN.out) (HML).out.symm V1.out.2 ((R0.out.grown G1.out).off 1 rfl)
     rw [PE.out] at N1
     have HN1 := lk N1
     have OV1 := lk (OV.out.grown0 g1)
     have WV1 := lk (WV.out.grown0 g1)
     have BS : Hid (w.heap.size ≤ w1.heap.size) := lk G1.out.size
     clear N1 ow1 g1 OV WV M GG HS
     refine (HN1.out).mono ?_
     rintro e w2 ⟨x, c2, rfl, ox, mx, cx, g2⟩
     obtain ⟨X, nx, cx', rfl⟩ := ox.form
     have OV2 := lk (OV1.out.growng g2 HGM.out)
     have WV2 := lk ((WV1.out.growng g2 HGM.out).add ox BS.out)
     have M2 := lk mx
     have G2 := lk (jt G1.out g2)
     have CC2 : Hid (c2.T = T ∧ c.v ≤ c2.v ∧ (c2.v ≤ c.v ∨ c2.v ≤ b + d)) := lk (by have := CC.out; refine ⟨cx.1, ?_⟩; omega)
     clear ox mx cx g2 OV1 WV1 G1 V1 HN1 CC
     go_wp2_with (at_builtin; refine ownv_append 237 (by kernel_rfl) (.tmp 25) (.tmp 39) rfl rfl _ _ rfl (OV2.out.grown0 (ju (jr w2 none) _)) _ _ _ _ rfl ((cs_new w2 _ _).cell 0 rfl) (by have := HL.out; rw [List.length_map]; omega) (Nat.le_trans G2.out.size (ju (jr w2 none) _).size) ?_; intro v3 w3 ow3 g3)
     have g3' : (w2.alloc (Obj.cells #[.slice X nx cx'] 184)).grownBy w3 u9.ownBlock := g3
     have ga := ju (jr w2 none) (Obj.cells #[.slice X nx cx'] 184)
     have OVa := OV2.out.grown0 ga
     have hne : some gm ≠ u9.ownBlock := fun e => by have := (OVa.lt gm e.symm).1; have := HGM.out; omega
     have mm : Mt w3 gm (a + ((pcost n m k1 k2 (i + 1) : Nat) : Int)) b c2 := by
      have e : a + ((pcost n m k1 k2 (i + 1) : Nat) : Int) = a + ((pcost n m k1 k2 i : Nat) : Int) + (k2 : Int) := by rw [HPC.out]; omega
      rw [e]
      exact (M2.out.grown ga).rowo g3' hne
     have he := HEE.out
     refine ⟨⟨i + 1, E, _, c2, rfl, by rw [Nat.mul_add, Nat.mul_one, ← HF.out]; exact HEE.out, by rw [List.length_append, HL.out]; rfl, by omega, PL.out.add HL.out _, by rw [List.map_append]; exact ow3, (WV2.out.grown0 ga).append OVa g3', mm, CC2.out, gb_new (jt G2.out (jn ga _)) g3' (fun k e => (OVa.lt k e).1)⟩, by simp [intOf]; omega⟩
   ·have HE : Hid (pcost n m k1 k2 i = pall n m k1 k2) := lk (pcost_end hx (by rw [← HF.out]; omega) (by rw [← HF.out]; exact hFn))
    obtain ⟨X, pt, lx, jv⟩ := WV.out.parts PL.out OV.out (WA).out (WB).out (HML).out.symm (by rw [HL.out, ← HF.out, ← (HNL).out]; omega)
    rw [HL.out] at pt lx jv
    have JN := ljoin_c wr m i u9 _ X pt (by omega) (by omega) (fun j hj => by have := lx j hj; omega)
    rw [jv] at JN
    have HJN := lk JN
    clear JN pt lx jv
    go_wp2_with fail
    refine (HJN.out).mono ?_
    rintro e w2 ⟨x, rfl, o2, g2⟩
    have KK : Hid (Wo w2 w.heap.size x (val B64 al * val B64 bl) ∧ Mt w2 gm (a + ((pall n m k1 k2 : Nat) : Int)) b c' ∧ w.grownBy w2 (some gm)) := lk
     ⟨o2.mono GG.out.size, by rw [← HE.out]; exact M.out.grown g2, jt GG.out (jn g2 (some gm))⟩
    clear o2 g2 HJN
    go_wp2
    go_ret
    exact ⟨x, c', rfl, by first | exact KK.out.1 | (rw [Nat.mul_comm]; exact KK.out.1), KK.out.2.1, CC.out, KK.out.2.2⟩
theorem InC.grown {w w' : World} {gm fk p q k : Nat} {fs : Array Value} {b d : Int} {T : Nat → Option Value} (h : InC w gm fk fs b T p q k d) (g : w.grownBy w' (some gm)) : InC w' gm fk fs b T p q k d :=
 fun W va vb al bl a c G => h W va vb al bl a c (jt g G)
theorem InC.mono {w : World} {gm fk p q k : Nat} {fs : Array Value} {b d d' : Int} {T : Nat → Option Value} (h : InC w gm fk fs b T p q k d) (hd : d ≤ d') : InC w gm fk fs b T p q k d' :=
 fun W va vb al bl a c G m hT hk sa sb la lb oa ob => (h W va vb al bl a c G m hT hk sa sb la lb oa ob).mono fun e w' ⟨x, c', e1, e2, e3, e4, e5⟩ => ⟨x, c', e1, e2, e3, ⟨e4.1, e4.2.1, by have := e4.2.2; omega⟩, e5⟩
def Got (w : World) (gm : Nat) (a b : Int) (c : Mc) (T : Nat → Option Value) (k : Nat) (D : Int) (P : Nat) (w' : World) (x : Value) (c' : Mc) : Prop :=
 Wo w' w.heap.size x P ∧ Mt w' gm (a + (k : Int)) b c' ∧ (c'.T = T ∧ c.v ≤ c'.v ∧ (c'.v ≤ c.v ∨ c'.v ≤ b + D)) ∧ w.grownBy w' (some gm)
theorem Got.from {w w1 w' : World} {gm k P : Nat} {a b D : Int} {c c' : Mc} {T : Nat → Option Value} {x : Value} (h : Got w1 gm a b c T k D P w' x c') (g : w.grownBy w1 none) : Got w gm a b c T k D P w' x c' :=
 ⟨h.1.mono g.size, h.2.1, h.2.2.1, jt (jn g _) h.2.2.2⟩
theorem Got.then {w w' w2 : World} {gm k P : Nat} {a b D : Int} {c c' : Mc} {T : Nat → Option Value} {x : Value} (h : Got w gm a b c T k D P w' x c') (g : w'.grownBy w2 none) : Got w gm a b c T k D P w2 x c' :=
 ⟨h.1.grown0 g, h.2.1.grown g, h.2.2.1, jt h.2.2.2 (jn g _)⟩
theorem block_c (w : World) (g0 g1 g2 g3 gm : Nat) (a b d : Int) (c : Mc) (T : Nat → Option Value) (va vb : Value) (al bl : List Int) (k1 k2 : Nat) (he : Eng w g0 g1 g2 g3 gm)
  (hm : Mt w gm a b c) (hT : c.T = T) (hd : 0 ≤ d) (hb1 : b ≤ 1000000) (ha0 : a + ((pall (max al.length bl.length) (min al.length bl.length) k1 k2 : Nat) : Int) ≤ 1000000000000000) (ha : Sl w va al) (hb : Sl w vb bl) (hna : Off va gm) (hnb : Off vb gm) (hl : al.length ≤ 4096) (hl2 : bl.length ≤ 4096)
  (hx : 0 < min al.length bl.length)
  (i1 : InC w gm 124 #[.pointer (some ⟨g0, 0, none⟩)] (b + 1) T (min al.length bl.length) (min al.length bl.length) k1 d)
  (i2 : 0 < max al.length bl.length % min al.length bl.length → InC w gm 124 #[.pointer (some ⟨g0, 0, none⟩)] (b + 1) T (max al.length bl.length % min al.length bl.length) (min al.length bl.length) k2 d) :
  Calls Tryz.prog 150 #[.pointer (some ⟨g0, 0, none⟩), va, vb] w fun e w' => ∃ x c', e = .returned x ∧ Got w gm a b c T (pall (max al.length bl.length) (min al.length bl.length) k1 k2) (1 + d) (val B64 al * val B64 bl) w' x c' := by
 have hgm : gm < w.heap.size := World.block_lt_of_cell? w _ hm.c0
 obtain ⟨A, ca, rfl, hca, _⟩ := ha.form
 obtain ⟨B, cb, rfl, hcb, _⟩ := hb.form
 have EN := enter_c w gm a b c hm (by omega)
 have b0 := hm.b0
 have a0 := hm.a0
 have HEN := lk EN
 have HGM := lk hgm
 have HT := lk hT
 have HE := lk he
 have R0 := lk (((Rw.nil w gm).add ha hna).add hb hnb)
 have eb : (if b + 1 > 0 then b + 1 - 1 else 0) = b := by split <;> omega
 clear EN hm hgm hT ha hb hna hnb he
 obtain ⟨n, hn⟩ : ∃ n, n = al.length := ⟨_, rfl⟩
 obtain ⟨m, hm'⟩ : ∃ m, m = bl.length := ⟨_, rfl⟩
 rw [← hn] at hca
 rw [← hm'] at hcb
 rw [← hn, ← hm']
 rcases Nat.lt_trichotomy n m with h | h | h
 ·have q1 : (n < m) = True := by simp; exact h
  have q2 : (m < n) = False := by simp; omega
  have HP := lk (fun (w1 : World) (G : w.grownBy w1 (some gm)) (c1 : Mc) (m1 : Mt w1 gm a (b + 1) c1) (h1 : c1.T = T) => pieces_c w1 g0 gm 124 a (b + 1) d c1 T _ _ al bl k1 k2 rfl m1 h1 hd ha0 (R0.out.grown G |>.at 0 rfl) (R0.out.grown G |>.at 1 rfl) (R0.out.off 0 rfl) (R0.out.off 1 rfl) hl hl2 hx (i1.grown G) (fun h => (i2 h).grown G))
  rw [← hn, ← hm', Nat.min_eq_left (Nat.le_of_lt h)] at HP
  obtain ⟨K, hK⟩ : ∃ K, K = pall (max al.length bl.length) (min al.length bl.length) k1 k2 := ⟨_, rfl⟩
  rw [← hn, ← hm', Nat.min_eq_left (Nat.le_of_lt h)] at hK
  rw [Nat.min_eq_left (Nat.le_of_lt h)]
  rw [← hK] at HP ⊢
  clear i1 i2 ha0 hx hK
  clear hn hm'
  have h0 := HE.out.h0
  have h1 := HE.out.h1
  have h2 := HE.out.h2
  have h3 := HE.out.h3
  go_enter Tryz.func150, Tryz.ntmps150
  go_wp2_with fail
  refine (HEN.out).mono ?_
  rintro e w1 ⟨rfl, m1, mo⟩
  have M1 := lk m1
  have G1 := lk mo.gb
  clear m1 mo HEN h0 h1 h2 h3
  go_wp2_with fail
  refine (HP.out w1 G1.out _ M1.out HT.out).mono ?_
  rintro e w2 ⟨x, c2, rfl, o2, m2, cc, g2⟩
  have HLV := lk (leave_c w2 gm _ _ c2 m2 (by omega))
  rw [eb] at HLV
  have O2 := lk o2
  have CC := lk cc
  have G2 := lk (jt G1.out g2)
  have BG : Hid (gm < w1.heap.size ∧ w.heap.size ≤ w1.heap.size) := lk ⟨Nat.lt_of_lt_of_le HGM.out G1.out.size, G1.out.size⟩
  clear o2 m2 cc g2 HP
  have E2 := HE.out.grown G2.out
  have h0 := E2.h0
  have h1 := E2.h1
  have h2 := E2.h2
  have h3 := E2.h3
  clear E2
  go_wp2_with fail
  refine (HLV.out).mono ?_
  rintro e w3 ⟨rfl, m3, mo⟩
  have KK : Hid (Got w gm a b c T K (1 + d) (val B64 al * val B64 bl) w3 x c2) := lk ⟨(O2.out.past BG.out.1 mo.gb).mono BG.out.2, m3, (by
   have t1 := CC.out
   have t4 : (c.up (b + 1)).v = if b + 1 > c.v then b + 1 else c.v := rfl
   refine ⟨t1.1, ?_⟩
   split at t4 <;> omega), jt G2.out mo.gb⟩
  clear m3 mo HLV h0 h1 h2 h3
  go_wp2
  go_ret
  exact ⟨x, c2, rfl, KK.out⟩
 ·have hc : n ≤ m := Nat.le_of_eq h
  have HEQ := lk h
  clear h
  have q2 : (m < n) = False := by simp; exact Nat.le_of_eq HEQ.out
  have q1 : (n < m) = False := by simp; exact Nat.le_of_eq HEQ.out.symm
  have HP := lk (fun (w1 : World) (G : w.grownBy w1 (some gm)) (c1 : Mc) (m1 : Mt w1 gm a (b + 1) c1) (h1 : c1.T = T) => pieces_c w1 g0 gm 124 a (b + 1) d c1 T _ _ al bl k1 k2 rfl m1 h1 hd ha0 (R0.out.grown G |>.at 0 rfl) (R0.out.grown G |>.at 1 rfl) (R0.out.off 0 rfl) (R0.out.off 1 rfl) hl hl2 hx (i1.grown G) (fun h => (i2 h).grown G))
  rw [← hn, ← hm', Nat.min_eq_left hc] at HP
  obtain ⟨K, hK⟩ : ∃ K, K = pall (max al.length bl.length) (min al.length bl.length) k1 k2 := ⟨_, rfl⟩
  rw [← hn, ← hm', Nat.min_eq_left hc] at hK
  rw [Nat.min_eq_left hc]
  rw [← hK] at HP ⊢
  clear i1 i2 ha0 hx hK
  clear hn hm'
  have h0 := HE.out.h0
  have h1 := HE.out.h1
  have h2 := HE.out.h2
  have h3 := HE.out.h3
  go_enter Tryz.func150, Tryz.ntmps150
  go_wp2_with fail
  refine (HEN.out).mono ?_
  rintro e w1 ⟨rfl, m1, mo⟩
  have M1 := lk m1
  have G1 := lk mo.gb
  clear m1 mo HEN h0 h1 h2 h3
  go_wp2_with fail
  refine (HP.out w1 G1.out _ M1.out HT.out).mono ?_
  rintro e w2 ⟨x, c2, rfl, o2, m2, cc, g2⟩
  have HLV := lk (leave_c w2 gm _ _ c2 m2 (by omega))
  rw [eb] at HLV
  have O2 := lk o2
  have CC := lk cc
  have G2 := lk (jt G1.out g2)
  have BG : Hid (gm < w1.heap.size ∧ w.heap.size ≤ w1.heap.size) := lk ⟨Nat.lt_of_lt_of_le HGM.out G1.out.size, G1.out.size⟩
  clear o2 m2 cc g2 HP
  have E2 := HE.out.grown G2.out
  have h0 := E2.h0
  have h1 := E2.h1
  have h2 := E2.h2
  have h3 := E2.h3
  clear E2
  go_wp2_with fail
  refine (HLV.out).mono ?_
  rintro e w3 ⟨rfl, m3, mo⟩
  have KK : Hid (Got w gm a b c T K (1 + d) (val B64 al * val B64 bl) w3 x c2) := lk ⟨(O2.out.past BG.out.1 mo.gb).mono BG.out.2, m3, (by
   have t1 := CC.out
   have t4 : (c.up (b + 1)).v = if b + 1 > c.v then b + 1 else c.v := rfl
   refine ⟨t1.1, ?_⟩
   split at t4 <;> omega), jt G2.out mo.gb⟩
  clear m3 mo HLV h0 h1 h2 h3
  go_wp2
  go_ret
  exact ⟨x, c2, rfl, KK.out⟩
 ·have q1 : (m < n) = True := by simp; exact h
  have q2 : (n < m) = False := by simp; omega
  have HP := lk (fun (w1 : World) (G : w.grownBy w1 (some gm)) (c1 : Mc) (m1 : Mt w1 gm a (b + 1) c1) (h1 : c1.T = T) => pieces_c w1 g0 gm 124 a (b + 1) d c1 T _ _ al bl k1 k2 rfl m1 h1 hd ha0 (R0.out.grown G |>.at 0 rfl) (R0.out.grown G |>.at 1 rfl) (R0.out.off 0 rfl) (R0.out.off 1 rfl) hl hl2 hx (i1.grown G) (fun h => (i2 h).grown G))
  rw [← hn, ← hm', Nat.min_eq_right (Nat.le_of_lt h)] at HP
  obtain ⟨K, hK⟩ : ∃ K, K = pall (max al.length bl.length) (min al.length bl.length) k1 k2 := ⟨_, rfl⟩
  rw [← hn, ← hm', Nat.min_eq_right (Nat.le_of_lt h)] at hK
  rw [Nat.min_eq_right (Nat.le_of_lt h)]
  rw [← hK] at HP ⊢
  clear i1 i2 ha0 hx hK
  clear hn hm'
  have h0 := HE.out.h0
  have h1 := HE.out.h1
  have h2 := HE.out.h2
  have h3 := HE.out.h3
  go_enter Tryz.func150, Tryz.ntmps150
  go_wp2_with fail
  refine (HEN.out).mono ?_
  rintro e w1 ⟨rfl, m1, mo⟩
  have M1 := lk m1
  have G1 := lk mo.gb
  clear m1 mo HEN h0 h1 h2 h3
  go_wp2_with fail
  refine (HP.out w1 G1.out _ M1.out HT.out).mono ?_
  rintro e w2 ⟨x, c2, rfl, o2, m2, cc, g2⟩
  have HLV := lk (leave_c w2 gm _ _ c2 m2 (by omega))
  rw [eb] at HLV
  have O2 := lk o2
  have CC := lk cc
  have G2 := lk (jt G1.out g2)
  have BG : Hid (gm < w1.heap.size ∧ w.heap.size ≤ w1.heap.size) := lk ⟨Nat.lt_of_lt_of_le HGM.out G1.out.size, G1.out.size⟩
  clear o2 m2 cc g2 HP
  have E2 := HE.out.grown G2.out
  have h0 := E2.h0
  have h1 := E2.h1
  have h2 := E2.h2
  have h3 := E2.h3
  clear E2
  go_wp2_with fail
  refine (HLV.out).mono ?_
  rintro e w3 ⟨rfl, m3, mo⟩
  have KK : Hid (Got w gm a b c T K (1 + d) (val B64 al * val B64 bl) w3 x c2) := lk ⟨(O2.out.past BG.out.1 mo.gb).mono BG.out.2, m3, (by
   have t1 := CC.out
   have t4 : (c.up (b + 1)).v = if b + 1 > c.v then b + 1 else c.v := rfl
   refine ⟨t1.1, ?_⟩
   split at t4 <;> omega), jt G2.out mo.gb⟩
  clear m3 mo HLV h0 h1 h2 h3
  go_wp2
  go_ret
  exact ⟨x, c2, rfl, KK.out⟩
theorem times_ent (args : Array Value) (w : World) : (callFunc 124 args).run Tryz.prog w = .ok (.enter 124 args) w := enter_of Tryz.func124 (by kernel_rfl) rfl args w
theorem gone0_c (w : World) (g0 : Nat) (va vb : Value) (al bl : List Int) (ha : Sl w va al) (hb : Sl w vb bl) :
  Calls Tryz.prog 136 #[.pointer (some ⟨g0, 0, none⟩), .int .i64 0, va, vb] w fun e w' => e = .returned (.tuple #[.slice none 0 0, .bool true]) ∧ w' = w := by
 obtain ⟨A, ca, rfl, hca, _⟩ := ha.form
 obtain ⟨B, cb, rfl, hcb, _⟩ := hb.form
 clear ha hb
 go_enter Tryz.func136, Tryz.ntmps136
 go_wp2
 go_ret2
 exact ⟨rfl, rfl⟩
theorem gone1_c (w : World) (g0 g1 g2 g3 gm : Nat) (a b : Int) (c : Mc) (T : Nat → Option Value) (va vb : Value) (al bl : List Int) (he : Eng w g0 g1 g2 g3 gm)
  (hm : Mt w gm a b c) (hT : c.T = T) (ha0 : a ≤ 1000000000000000) (ha : Sl w va al) (hb : Sl w vb bl) (hna : Off va gm) (hnb : Off vb gm) (hl : al.length ≤ 4096) (hl2 : bl.length ≤ 4096) :
  Calls Tryz.prog 136 #[.pointer (some ⟨g0, 0, none⟩), .int .i64 1, va, vb] w fun e w' => ∃ x c', e = .returned (.tuple #[x, .bool true]) ∧ Got w gm a b c T (al.length * bl.length) 0 (val B64 al * val B64 bl) w' x c' := by
 have HS := lk (smul_c w g3 gm a b c va vb al bl he.h3 hm ha0 ha hb hna hnb (by omega) (by omega))
 have HT := lk hT
 clear hT hna hnb
 obtain ⟨A, ca, rfl, hca, _⟩ := ha.form
 obtain ⟨B, cb, rfl, hcb, _⟩ := hb.form
 have h0 := he.h0
 have h1 := he.h1
 have h2 := he.h2
 have h3 := he.h3
 clear he ha hb hm
 go_enter Tryz.func136, Tryz.ntmps136
 go_wp2_with fail
 refine (HS.out).mono ?_
 rintro e w1 ⟨x, rfl, o1, m1, g1'⟩
 have KK : Hid (Got w gm a b c T (al.length * bl.length) 0 (val B64 al * val B64 bl) w1 x c) := lk ⟨o1, m1, ⟨HT.out, Int.le_refl _, .inl (Int.le_refl _)⟩, g1'⟩
 clear o1 m1 g1' HS h0 h1 h2 h3
 go_wp2
 go_ret2
 exact ⟨x, c, rfl, KK.out⟩
theorem gone2_c (w : World) (g0 g1 g2 g3 gm : Nat) (a b d : Int) (c : Mc) (T : Nat → Option Value) (va vb : Value) (al bl : List Int) (k1 k2 : Nat) (he : Eng w g0 g1 g2 g3 gm)
  (hm : Mt w gm a b c) (hT : c.T = T) (hd : 0 ≤ d) (hb1 : b ≤ 1000000) (ha0 : a + ((pall (max al.length bl.length) (min al.length bl.length) k1 k2 : Nat) : Int) ≤ 1000000000000000) (ha : Sl w va al) (hb : Sl w vb bl) (hna : Off va gm) (hnb : Off vb gm) (hl : al.length ≤ 4096) (hl2 : bl.length ≤ 4096)
  (hx : 0 < min al.length bl.length)
  (i1 : InC w gm 124 #[.pointer (some ⟨g0, 0, none⟩)] (b + 1) T (min al.length bl.length) (min al.length bl.length) k1 d)
  (i2 : 0 < max al.length bl.length % min al.length bl.length → InC w gm 124 #[.pointer (some ⟨g0, 0, none⟩)] (b + 1) T (max al.length bl.length % min al.length bl.length) (min al.length bl.length) k2 d) :
  Calls Tryz.prog 136 #[.pointer (some ⟨g0, 0, none⟩), .int .i64 2, va, vb] w fun e w' => ∃ x c', e = .returned (.tuple #[x, .bool true]) ∧ Got w gm a b c T (pall (max al.length bl.length) (min al.length bl.length) k1 k2) (1 + d) (val B64 al * val B64 bl) w' x c' := by
 have HS := lk (block_c w g0 g1 g2 g3 gm a b d c T va vb al bl k1 k2 he hm hT hd hb1 ha0 ha hb hna hnb hl hl2 hx i1 i2)
 clear hT hna hnb i1 i2 ha0 hx
 obtain ⟨A, ca, rfl, hca, _⟩ := ha.form
 obtain ⟨B, cb, rfl, hcb, _⟩ := hb.form
 have h0 := he.h0
 have h1 := he.h1
 have h2 := he.h2
 have h3 := he.h3
 clear he ha hb hm
 go_enter Tryz.func136, Tryz.ntmps136
 go_wp2_with fail
 refine (HS.out).mono ?_
 rintro e w1 ⟨x, c1, rfl, k⟩
 have KK := lk k
 clear k HS h0 h1 h2 h3
 go_wp2
 go_ret2
 exact ⟨x, c1, rfl, KK.out⟩
theorem gone3_c (w : World) (g0 g1 g2 g3 gm : Nat) (a b d : Int) (c : Mc) (T : Nat → Option Value) (va vb : Value) (al bl : List Int) (k1 k2 k3 : Nat) (he : Eng w g0 g1 g2 g3 gm)
  (hm : Mt w gm a b c) (hT : c.T = T) (hd : 0 ≤ d) (hb1 : b ≤ 1000000) (ha0 : a + ((k1 + k2 + k3 : Nat) : Int) ≤ 1000000000000000) (ha : Sl w va al) (hb : Sl w vb bl) (hna : Off va gm) (hnb : Off vb gm) (hl : al.length ≤ 4096) (hl2 : bl.length ≤ 4096)
  (hx : (max al.length bl.length + 1) / 2 < min al.length bl.length)
  (i1 : InC w gm 124 #[.pointer (some ⟨g0, 0, none⟩)] (b + 1) T ((max al.length bl.length + 1) / 2) ((max al.length bl.length + 1) / 2) k1 d)
  (i2 : InC w gm 124 #[.pointer (some ⟨g0, 0, none⟩)] (b + 1) T (max al.length bl.length - (max al.length bl.length + 1) / 2) (min al.length bl.length - (max al.length bl.length + 1) / 2) k2 d)
  (i3 : InC w gm 124 #[.pointer (some ⟨g0, 0, none⟩)] (b + 1) T ((max al.length bl.length + 1) / 2 + 1) ((max al.length bl.length + 1) / 2 + 1) k3 d) :
  Calls Tryz.prog 136 #[.pointer (some ⟨g0, 0, none⟩), .int .i64 3, va, vb] w fun e w' => ∃ x c', e = .returned (.tuple #[x, .bool true]) ∧ Got w gm a b c T (k1 + k2 + k3) (1 + d) (val B64 al * val B64 bl) w' x c' := by
 have HS := lk (kara_c w g2 g3 gm 124 #[.pointer (some ⟨g0, 0, none⟩)] a b d c T va vb al bl k1 k2 k3 he.h2 he.h3 hm hT hd hb1 ha0 ha hb hna hnb (by omega) (by omega) hx times_ent i1 i2 i3)
 clear hT hna hnb i1 i2 i3 ha0 hx
 obtain ⟨A, ca, rfl, hca, _⟩ := ha.form
 obtain ⟨B, cb, rfl, hcb, _⟩ := hb.form
 have h0 := he.h0
 have h1 := he.h1
 have h2 := he.h2
 have h3 := he.h3
 clear he ha hb hm
 go_enter Tryz.func136, Tryz.ntmps136
 go_wp2_with fail
 refine (HS.out).mono ?_
 rintro e w1 ⟨x, c1, rfl, k⟩
 have KK : Hid (Got w gm a b c T (k1 + k2 + k3) (1 + d) (val B64 al * val B64 bl) w1 x c1) := lk k
 clear k HS h0 h1 h2 h3
 go_wp2
 go_ret2
 exact ⟨x, c1, rfl, KK.out⟩
theorem gone4_c (w : World) (g0 g1 g2 g3 gm : Nat) (a b d : Int) (c : Mc) (T : Nat → Option Value) (va vb : Value) (al bl : List Int) (k1 k2 k3 : Nat) (he : Eng w g0 g1 g2 g3 gm)
  (hm : Mt w gm a b c) (hT : c.T = T) (hd : 0 ≤ d) (hb1 : b ≤ 1000000) (ha0 : a + ((k1 + k2 + k2 + k2 + k3 : Nat) : Int) ≤ 1000000000000000) (ha : Sl w va al) (hb : Sl w vb bl) (hna : Off va gm) (hnb : Off vb gm) (hl : al.length ≤ 4096) (hl2 : bl.length ≤ 4096)
  (hx : 2 * ((max al.length bl.length + 2) / 3) < min al.length bl.length)
  (i1 : InC w gm 124 #[.pointer (some ⟨g0, 0, none⟩)] (b + 1) T ((max al.length bl.length + 2) / 3) ((max al.length bl.length + 2) / 3) k1 d)
  (i2 : InC w gm 124 #[.pointer (some ⟨g0, 0, none⟩)] (b + 1) T ((max al.length bl.length + 2) / 3 + 1) ((max al.length bl.length + 2) / 3 + 1) k2 d)
  (i3 : InC w gm 124 #[.pointer (some ⟨g0, 0, none⟩)] (b + 1) T (max al.length bl.length - 2 * ((max al.length bl.length + 2) / 3)) (min al.length bl.length - 2 * ((max al.length bl.length + 2) / 3)) k3 d) :
  Calls Tryz.prog 136 #[.pointer (some ⟨g0, 0, none⟩), .int .i64 4, va, vb] w fun e w' => ∃ x c', e = .returned (.tuple #[x, .bool true]) ∧ Got w gm a b c T (k1 + k2 + k2 + k2 + k3) (1 + d) (val B64 al * val B64 bl) w' x c' := by
 have HS := lk (toom_c w g1 g2 g3 gm 124 #[.pointer (some ⟨g0, 0, none⟩)] a b d c T va vb al bl k1 k2 k3 he.h1 he.h2 he.h3 hm hT hd hb1 ha0 ha hb hna hnb (by omega) (by omega) hx times_ent i1 i2 i3)
 clear hT hna hnb i1 i2 i3 ha0 hx
 obtain ⟨A, ca, rfl, hca, _⟩ := ha.form
 obtain ⟨B, cb, rfl, hcb, _⟩ := hb.form
 have h0 := he.h0
 have h1 := he.h1
 have h2 := he.h2
 have h3 := he.h3
 clear he ha hb hm
 go_enter Tryz.func136, Tryz.ntmps136
 go_wp2_with fail
 refine (HS.out).mono ?_
 rintro e w1 ⟨x, c1, rfl, k⟩
 have KK : Hid (Got w gm a b c T (k1 + k2 + k2 + k2 + k3) (1 + d) (val B64 al * val B64 bl) w1 x c1) := lk k
 clear k HS h0 h1 h2 h3
 go_wp2
 go_ret2
 exact ⟨x, c1, rfl, KK.out⟩
theorem gone5_c (w : World) (g0 g1 g2 g3 gm : Nat) (a b : Int) (c : Mc) (T : Nat → Option Value) (va vb : Value) (al bl : List Int) (he : Eng w g0 g1 g2 g3 gm) (hdb : Db w)
  (hm : Mt w gm a b c) (hT : c.T = T) (ha0 : a ≤ 1000000000000000) (ha : Sl w va al) (hb : Sl w vb bl) (hna : Off va gm) (hnb : Off vb gm) (hla : 0 < al.length) (hlb : 0 < bl.length) (hl : al.length + bl.length ≤ 1024) :
  Calls Tryz.prog 136 #[.pointer (some ⟨g0, 0, none⟩), .int .i64 5, va, vb] w fun e w' => ∃ x c', e = .returned (.tuple #[x, .bool true]) ∧ Got w gm a b c T (transf al.length bl.length 3) 0 (val B64 al * val B64 bl) w' x c' := by
 have HS := lk (convMul_c w gm a b c va vb al bl hm hdb ha0 ha hb hla hlb hl hna hnb)
 have HT := lk hT
 clear hT hna hnb hdb
 obtain ⟨A, ca, rfl, hca, _⟩ := ha.form
 obtain ⟨B, cb, rfl, hcb, _⟩ := hb.form
 have h0 := he.h0
 have h1 := he.h1
 have h2 := he.h2
 have h3 := he.h3
 clear he ha hb hm
 go_enter Tryz.func136, Tryz.ntmps136
 go_wp2_with fail
 refine (HS.out).mono ?_
 rintro e w1 ⟨x, rfl, o1, m1, g1'⟩
 have KK : Hid (Got w gm a b c T (transf al.length bl.length 3) 0 (val B64 al * val B64 bl) w1 x c) := lk ⟨o1, m1, ⟨HT.out, Int.le_refl _, .inl (Int.le_refl _)⟩, g1'⟩
 clear o1 m1 g1' HS h0 h1 h2 h3
 go_wp2
 go_ret2
 exact ⟨x, c, rfl, KK.out⟩
theorem times_go (w : World) (g0 g1 g2 g3 gm : Nat) (a b : Int) (c : Mc) (t : Tb) (va vb : Value) (al bl : List Int) (r k : Nat) (D : Int) (P : Nat) (he : Eng w g0 g1 g2 g3 gm)
  (hm : Mt w gm a b c) (hT : c.T = tbT t) (ht : TbOk t) (ha : Sl w va al) (hb : Sl w vb bl) (hl : al.length ≤ 4096) (hl2 : bl.length ≤ 4096)
  (hr : rt t (max al.length bl.length) (min al.length bl.length) = r)
  (HG : ∀ W1, w.grownBy W1 none → Calls Tryz.prog 136 #[.pointer (some ⟨g0, 0, none⟩), .int .i64 r, va, vb] W1 fun e w' => ∃ x c', e = .returned (.tuple #[x, .bool true]) ∧ Got W1 gm a b c (tbT t) k D P w' x c') :
  Calls Tryz.prog 124 #[.pointer (some ⟨g0, 0, none⟩), va, vb] w fun e w' => ∃ x c', e = .returned x ∧ Got w gm a b c (tbT t) k D P w' x c' := by
 have HR := lk (tuneRoute_c w gm t a b c al.length bl.length hm hT ht (by omega) (by omega))
 rw [hr] at HR
 have HGG := lk HG
 obtain ⟨A, ca, rfl, hca, _⟩ := ha.form
 obtain ⟨B, cb, rfl, hcb, _⟩ := hb.form
 obtain ⟨n, hn⟩ : ∃ n, n = al.length := ⟨_, rfl⟩
 obtain ⟨m, hm'⟩ : ∃ m, m = bl.length := ⟨_, rfl⟩
 rw [← hn, ← hm'] at HR HGG ⊢
 rw [← hn] at hca hl
 rw [← hm'] at hcb hl2
 have h0 := he.h0
 have h1 := he.h1
 have h2 := he.h2
 have h3 := he.h3
 clear he ha hb hm hr HG hn hm' hT ht
 go_enter Tryz.func124, Tryz.ntmps124
 go_wp2_with fail
 refine (HR.out).mono ?_
 rintro e w1 ⟨rfl, g1'⟩
 have G1 := lk g1'
 clear g1' HR h0 h1 h2 h3
 go_wp2_with fail
 refine (HGG.out _ G1.out).mono ?_
 rintro e w2 ⟨x, c2, rfl, k⟩
 have KK := lk (k.from G1.out)
 clear k HGG
 go_wp2
 go_ret
 exact ⟨x, c2, rfl, KK.out⟩
def costF (t : Tb) : Nat → Nat → Nat → Nat
 | 0, _, _ => 0
 | f + 1, n, m =>
  if rt t (max n m) (min n m) = 1 then max n m * min n m
  else if rt t (max n m) (min n m) = 2 then pall (max n m) (min n m) (costF t f (min n m) (min n m)) (costF t f (max n m % min n m) (min n m))
  else if rt t (max n m) (min n m) = 3 then costF t f ((max n m + 1) / 2) ((max n m + 1) / 2) + costF t f (max n m - (max n m + 1) / 2) (min n m - (max n m + 1) / 2) + costF t f ((max n m + 1) / 2 + 1) ((max n m + 1) / 2 + 1)
  else if rt t (max n m) (min n m) = 4 then costF t f ((max n m + 2) / 3) ((max n m + 2) / 3) + costF t f ((max n m + 2) / 3 + 1) ((max n m + 2) / 3 + 1) + costF t f ((max n m + 2) / 3 + 1) ((max n m + 2) / 3 + 1) + costF t f ((max n m + 2) / 3 + 1) ((max n m + 2) / 3 + 1) + costF t f (max n m - 2 * ((max n m + 2) / 3)) (min n m - 2 * ((max n m + 2) / 3))
  else if rt t (max n m) (min n m) = 5 then transf (max n m) (min n m) 3
  else 0
theorem rt_0 {t : Tb} {n m : Nat} (h : rt t n m = 0) : m = 0 := by
 by_cases hm : m = 0
 ·exact hm
 ·unfold rt at h
  rw [if_neg hm] at h
  repeat' split at h
  all_goals omega
theorem rt_2 {t : Tb} {n m : Nat} (h : rt t n m = 2) : 0 < m ∧ t.eb ≤ (m : Int) ∧ 2 * m ≤ n + 1 := by
 unfold rt at h; repeat' split at h <;> first | omega | skip
theorem rt_3 {t : Tb} {n m : Nat} (h : rt t n m = 3) : 0 < m ∧ t.eb ≤ (m : Int) ∧ n + 1 < 2 * m ∧ ((m : Int) < t.et ∨ ((n + m : Nat) : Int) < t.en) := by
 unfold rt at h; repeat' split at h <;> first | omega | skip
theorem rt_4 {t : Tb} {n m : Nat} (h : rt t n m = 4) : 0 < m ∧ t.eb ≤ (m : Int) ∧ n + 1 < 2 * m ∧ t.et ≤ (m : Int) ∧ ((n + m : Nat) : Int) < t.en ∧ 2 * ((n + 2) / 3) < m := by
 unfold rt at h; repeat' split at h <;> first | omega | skip
theorem rt_5 {t : Tb} {n m : Nat} (h : rt t n m = 5) : 0 < m ∧ t.eb ≤ (m : Int) ∧ n + 1 < 2 * m ∧ t.et ≤ (m : Int) ∧ t.en ≤ ((n + m : Nat) : Int) := by
 unfold rt at h; repeat' split at h <;> first | omega | skip
theorem costF_eq {t : Tb} (ht : TbOk t) : ∀ (s n m f g : Nat), n + m ≤ s → n + m < f → n + m < g → costF t f n m = costF t g n m := by
 intro s
 induction s with
 | zero =>
  intro n m f g h1 h2 h3
  obtain ⟨f, rfl⟩ : ∃ k, f = k + 1 := ⟨f - 1, by omega⟩
  obtain ⟨g, rfl⟩ : ∃ k, g = k + 1 := ⟨g - 1, by omega⟩
  obtain rfl : n = 0 := by omega
  obtain rfl : m = 0 := by omega
  have r0 : rt t (max 0 0) (min 0 0) = 0 := by unfold rt; simp
  unfold costF
  rw [r0]
  rfl
 | succ s ih =>
  intro n m f g h1 h2 h3
  obtain ⟨f, rfl⟩ : ∃ k, f = k + 1 := ⟨f - 1, by omega⟩
  obtain ⟨g, rfl⟩ : ∃ k, g = k + 1 := ⟨g - 1, by omega⟩
  have b4 := ht.eb.1
  unfold costF
  obtain ⟨N, hN⟩ : ∃ N, N = max n m := ⟨_, rfl⟩
  obtain ⟨M, hM⟩ : ∃ N, N = min n m := ⟨_, rfl⟩
  have hs : N + M = n + m := by omega
  have hMN : M ≤ N := by omega
  rw [← hN, ← hM]
  by_cases c1 : rt t N M = 1
  ·rw [if_pos c1, if_pos c1]
  rw [if_neg c1, if_neg c1]
  by_cases c2 : rt t N M = 2
  ·have q := rt_2 c2
   have lt := Nat.mod_lt N q.1
   rw [if_pos c2, if_pos c2, ih M M f g (by omega) (by omega) (by omega), ih (N % M) M f g (by omega) (by omega) (by omega)]
  rw [if_neg c2, if_neg c2]
  by_cases c3 : rt t N M = 3
  ·have q := rt_3 c3
   rw [if_pos c3, if_pos c3, ih ((N + 1) / 2) ((N + 1) / 2) f g (by omega) (by omega) (by omega), ih (N - (N + 1) / 2) (M - (N + 1) / 2) f g (by omega) (by omega) (by omega), ih ((N + 1) / 2 + 1) ((N + 1) / 2 + 1) f g (by omega) (by omega) (by omega)]
  rw [if_neg c3, if_neg c3]
  by_cases c4 : rt t N M = 4
  ·have q := rt_4 c4
   rw [if_pos c4, if_pos c4, ih ((N + 2) / 3) ((N + 2) / 3) f g (by omega) (by omega) (by omega), ih ((N + 2) / 3 + 1) ((N + 2) / 3 + 1) f g (by omega) (by omega) (by omega), ih (N - 2 * ((N + 2) / 3)) (M - 2 * ((N + 2) / 3)) f g (by omega) (by omega) (by omega)]
  rw [if_neg c4, if_neg c4]
def cost (t : Tb) (n m : Nat) : Nat := costF t (n + m + 1) n m
theorem costF_cost {t : Tb} (ht : TbOk t) {f n m : Nat} (h : n + m < f) : costF t f n m = cost t n m := costF_eq ht (n + m) n m f _ (Nat.le_refl _) h (Nat.lt_succ_self _)
theorem costF_comm (t : Tb) : ∀ f n m, costF t f n m = costF t f m n
 | 0, _, _ => rfl
 | f + 1, n, m => by unfold costF; rw [Nat.max_comm, Nat.min_comm]
theorem cost_comm (t : Tb) (n m : Nat) : cost t n m = cost t m n := by unfold cost; rw [Nat.add_comm n m]; exact costF_comm t _ n m
theorem cost_1 {t : Tb} {n m : Nat} (hnm : m ≤ n) (h : rt t n m = 1) : cost t n m = n * m := by
 unfold cost costF; rw [Nat.max_eq_left hnm, Nat.min_eq_right hnm, if_pos h]
theorem cost_2 {t : Tb} (ht : TbOk t) {n m : Nat} (hnm : m ≤ n) (h : rt t n m = 2) : cost t n m = pall n m (cost t m m) (cost t (n % m) m) := by
 have q := rt_2 h
 have b4 := ht.eb.1
 have lt := Nat.mod_lt n q.1
 unfold cost costF
 rw [Nat.max_eq_left hnm, Nat.min_eq_right hnm, if_neg (by omega), if_pos h]
 exact congr (congrArg (pall n m) (costF_cost ht (by omega))) (costF_cost ht (by omega))
theorem cost_3 {t : Tb} (ht : TbOk t) {n m : Nat} (hnm : m ≤ n) (h : rt t n m = 3) : cost t n m = cost t ((n + 1) / 2) ((n + 1) / 2) + cost t (n - (n + 1) / 2) (m - (n + 1) / 2) + cost t ((n + 1) / 2 + 1) ((n + 1) / 2 + 1) := by
 have q := rt_3 h
 have b4 := ht.eb.1
 conv => lhs; unfold cost costF
 rw [Nat.max_eq_left hnm, Nat.min_eq_right hnm, if_neg (by omega), if_neg (by omega), if_pos h, costF_cost ht (by omega), costF_cost ht (by omega), costF_cost ht (by omega)]
theorem cost_4 {t : Tb} (ht : TbOk t) {n m : Nat} (hnm : m ≤ n) (h : rt t n m = 4) : cost t n m = cost t ((n + 2) / 3) ((n + 2) / 3) + cost t ((n + 2) / 3 + 1) ((n + 2) / 3 + 1) + cost t ((n + 2) / 3 + 1) ((n + 2) / 3 + 1) + cost t ((n + 2) / 3 + 1) ((n + 2) / 3 + 1) + cost t (n - 2 * ((n + 2) / 3)) (m - 2 * ((n + 2) / 3)) := by
 have q := rt_4 h
 have b4 := ht.eb.1
 conv => lhs; unfold cost costF
 rw [Nat.max_eq_left hnm, Nat.min_eq_right hnm, if_neg (by omega), if_neg (by omega), if_neg (by omega), if_pos h, costF_cost ht (by omega), costF_cost ht (by omega), costF_cost ht (by omega)]
theorem cost_5 {t : Tb} {n m : Nat} (hnm : m ≤ n) (h : rt t n m = 5) : cost t n m = transf n m 3 := by
 unfold cost costF; rw [Nat.max_eq_left hnm, Nat.min_eq_right hnm, if_neg (by omega), if_neg (by omega), if_neg (by omega), if_neg (by omega), if_pos h]
theorem cost_0 {t : Tb} {n m : Nat} (hnm : m ≤ n) (h : rt t n m = 0) : cost t n m = 0 := by
 unfold cost costF; rw [Nat.max_eq_left hnm, Nat.min_eq_right hnm, if_neg (by omega), if_neg (by omega), if_neg (by omega), if_neg (by omega), if_neg (by omega)]
theorem cost_small {t : Tb} (ht : TbOk t) {n : Nat} (h : n ≤ 3) : cost t n n = n * n := by
 have b4 := ht.eb.1
 by_cases h0 : n = 0
 ·subst h0
  exact cost_0 (Nat.le_refl _) (by unfold rt; simp)
 ·refine cost_1 (Nat.le_refl _) ?_
  unfold rt
  rw [if_neg h0, if_pos (by omega)]
theorem cost_bal {t : Tb} (ht : TbOk t) : ∀ n, (((n + n : Nat) : Int) < t.en ∨ (n : Int) < t.et) → cost t n n ≤ 2 * (n * n) := by
 intro n
 induction n using Nat.strongRecOn with
 | _ n ih =>
  intro hn
  have b4 := ht.eb.1
  have b12 := ht.et.1
  have hr := rt_le t n n
  have hcase : rt t n n = 0 ∨ rt t n n = 1 ∨ rt t n n = 2 ∨ rt t n n = 3 ∨ rt t n n = 4 ∨ rt t n n = 5 := by omega
  rcases hcase with c | c | c | c | c | c
  ·rw [cost_0 (Nat.le_refl _) c]; omega
  ·rw [cost_1 (Nat.le_refl _) c]; omega
  ·have := rt_2 c; omega
  ·have q := rt_3 c
   rw [cost_3 ht (Nat.le_refl _) c]
   obtain ⟨h, hh⟩ : ∃ h, h = (n + 1) / 2 := ⟨_, rfl⟩
   rw [← hh]
   have i1 := ih h (by omega) (by omega)
   have i2 := ih (n - h) (by omega) (by omega)
   have i3 := ih (h + 1) (by omega) (by omega)
   by_cases h9 : 9 ≤ n
   ·rcases (show n = 2 * h ∨ n = 2 * h - 1 by omega) with e | e
    ·rw [show n - h = h by omega] at i2 ⊢
     have e1 : n * n = 4 * (h * h) := by rw [e]; grind
     have e2 : (h + 1) * (h + 1) = h * h + 2 * h + 1 := by grind
     have e3 : 4 * h ≤ h * h := Nat.mul_le_mul_right h (by omega)
     omega
    ·obtain ⟨k, rfl⟩ : ∃ k, h = k + 1 := ⟨h - 1, by omega⟩
     rw [show n - (k + 1) = k by omega] at i2 ⊢
     have e1 : n * n = 4 * (k * k) + 4 * k + 1 := by rw [e, show 2 * (k + 1) - 1 = 2 * k + 1 by omega]; grind
     have e2 : (k + 1) * (k + 1) = k * k + 2 * k + 1 := by grind
     have e3 : (k + 1 + 1) * (k + 1 + 1) = k * k + 4 * k + 4 := by grind
     have e4 : 4 * k ≤ k * k := Nat.mul_le_mul_right k (by omega)
     omega
   ·have s2 := cost_small ht (n := 2) (by omega)
    have s3 := cost_small ht (n := 3) (by omega)
    rcases (show n = 4 ∨ n = 5 ∨ n = 6 ∨ n = 7 ∨ n = 8 by omega) with rfl | rfl | rfl | rfl | rfl
    ·obtain rfl : h = 2 := by omega
     simp only [Nat.reduceSub, Nat.reduceAdd, Nat.reduceMul] at *
     omega
    ·obtain rfl : h = 3 := by omega
     simp only [Nat.reduceSub, Nat.reduceAdd, Nat.reduceMul] at *
     omega
    ·obtain rfl : h = 3 := by omega
     simp only [Nat.reduceSub, Nat.reduceAdd, Nat.reduceMul] at *
     omega
    ·obtain rfl : h = 4 := by omega
     simp only [Nat.reduceSub, Nat.reduceAdd, Nat.reduceMul] at *
     omega
    ·obtain rfl : h = 4 := by omega
     simp only [Nat.reduceSub, Nat.reduceAdd, Nat.reduceMul] at *
     omega
  ·have q := rt_4 c
   rw [cost_4 ht (Nat.le_refl _) c]
   obtain ⟨k, hk⟩ : ∃ k, k = (n + 2) / 3 := ⟨_, rfl⟩
   rw [← hk]
   have i1 := ih k (by omega) (by omega)
   have i2 := ih (k + 1) (by omega) (by omega)
   have i3 := ih (n - 2 * k) (by omega) (by omega)
   obtain ⟨j, rfl⟩ : ∃ j, k = j + 1 := ⟨k - 1, by omega⟩
   have e1 : (j + 1) * (j + 1) = j * j + 2 * j + 1 := by grind
   have e2 : (j + 1 + 1) * (j + 1 + 1) = j * j + 4 * j + 4 := by grind
   have e3 : (n - 2 * (j + 1)) * (n - 2 * (j + 1)) ≤ (j + 1) * (j + 1) := Nat.mul_le_mul (by omega) (by omega)
   have e4 : (3 * j + 1) * (3 * j + 1) ≤ n * n := Nat.mul_le_mul (by omega) (by omega)
   have e5 : (3 * j + 1) * (3 * j + 1) = 9 * (j * j) + 6 * j + 1 := by grind
   by_cases hj : j = 3
   ·subst hj
    obtain rfl : n = 12 := by omega
    omega
   ·have e6 : 4 * j ≤ j * j := Nat.mul_le_mul_right j (by omega)
    omega
  ·have q := rt_5 c; omega
theorem blen_ge (x : Nat) (h : 0 < x) : 2 ^ (blen x - 1) ≤ x := by
 unfold blen
 rw [if_neg (by omega), Nat.add_sub_cancel]
 exact Nat.log2_self_le (by omega)
theorem transf_le {n m : Nat} (hm : m ≤ n) (h1 : n + 1 < 2 * m) (h2 : 64 ≤ n + m) (h3 : n + m ≤ 1024) : transf n m 3 ≤ 8 * (n * m) := by
 obtain ⟨e, rfl⟩ : ∃ e, n = m + e := ⟨n - m, by omega⟩
 have q9 : 2 * ((m + e + m) * (m + e + m)) ≤ 9 * ((m + e) * m) := by
  obtain ⟨d, rfl⟩ : ∃ d, m = e + d := ⟨m - e, by omega⟩
  have x1 : (e + d + e + (e + d)) * (e + d + e + (e + d)) = 9 * (e * e) + 12 * (e * d) + 4 * (d * d) := by grind
  have x2 : (e + d + e) * (e + d) = 2 * (e * e) + 3 * (e * d) + d * d := by grind
  rw [x1, x2]
  omega
 obtain ⟨s, hs⟩ : ∃ s, s = m + e + m := ⟨_, rfl⟩
 obtain ⟨W, hW⟩ : ∃ W, W = (m + e) * m := ⟨_, rfl⟩
 unfold transf
 rw [← hs] at q9 h2 h3 ⊢
 rw [← hW] at q9 ⊢
 obtain ⟨L, hL⟩ : ∃ L, L = blen (s - 1) := ⟨_, rfl⟩
 have l1 := blen_lt (s - 1)
 have l2 := blen_ge (s - 1) (by omega)
 have l3 := blen_le (s - 1) 10 (by omega)
 rw [← hL] at l1 l2 l3 ⊢
 clear hL
 have l4 : 6 ≤ L := by
  rcases Nat.lt_or_ge L 6 with h | h
  ·have := Nat.pow_le_pow_right (n := 2) (by decide) (show L ≤ 5 by omega)
   omega
  ·exact h
 rcases (show L = 6 ∨ L = 7 ∨ L = 8 ∨ L = 9 ∨ L = 10 by omega) with rfl | rfl | rfl | rfl | rfl
 ·have := Nat.mul_le_mul (show 64 ≤ s by omega) (show 64 ≤ s by omega)
  simp only [Nat.reducePow, Nat.reduceMul, Nat.reduceDiv, Nat.reduceAdd] at *
  omega
 ·have := Nat.mul_le_mul (show 65 ≤ s by simp at l2; omega) (show 65 ≤ s by simp at l2; omega)
  simp only [Nat.reducePow, Nat.reduceMul, Nat.reduceDiv, Nat.reduceAdd] at *
  omega
 ·have := Nat.mul_le_mul (show 129 ≤ s by simp at l2; omega) (show 129 ≤ s by simp at l2; omega)
  simp only [Nat.reducePow, Nat.reduceMul, Nat.reduceDiv, Nat.reduceAdd] at *
  omega
 ·have := Nat.mul_le_mul (show 257 ≤ s by simp at l2; omega) (show 257 ≤ s by simp at l2; omega)
  simp only [Nat.reducePow, Nat.reduceMul, Nat.reduceDiv, Nat.reduceAdd] at *
  omega
 ·have := Nat.mul_le_mul (show 513 ≤ s by simp at l2; omega) (show 513 ≤ s by simp at l2; omega)
  simp only [Nat.reducePow, Nat.reduceMul, Nat.reduceDiv, Nat.reduceAdd] at *
  omega
theorem pall_le {n m k1 k2 : Nat} (h1 : k1 ≤ 8 * (m * m)) (h2 : k2 ≤ 8 * (n % m * m)) : pall n m k1 k2 ≤ 8 * (n * m) := by
 have e := Nat.div_add_mod n m
 have e1 : n / m * k1 ≤ n / m * (8 * (m * m)) := Nat.mul_le_mul_left _ h1
 have e2 : n / m * (8 * (m * m)) = 8 * (m * (n / m) * m) := by grind
 have e3 : n * m = m * (n / m) * m + n % m * m := by rw [← Nat.add_mul, e]
 unfold pall
 split <;> omega
theorem cost_le {t : Tb} (ht : TbOk t) : ∀ (s n m : Nat), n + m ≤ s → s ≤ 1024 → cost t n m ≤ 8 * (n * m) := by
 intro s
 induction s with
 | zero =>
  intro n m h _
  obtain rfl : n = 0 := by omega
  obtain rfl : m = 0 := by omega
  rw [cost_small ht (by omega)]
  omega
 | succ s ih =>
  have main : ∀ n m, m ≤ n → n + m ≤ s + 1 → s + 1 ≤ 1024 → cost t n m ≤ 8 * (n * m) := by
   intro n m hmn h1 h2
   have b4 := ht.eb.1
   have b64 := ht.en.1
   have hr := rt_le t n m
   have hcase : rt t n m = 0 ∨ rt t n m = 1 ∨ rt t n m = 2 ∨ rt t n m = 3 ∨ rt t n m = 4 ∨ rt t n m = 5 := by omega
   rcases hcase with c | c | c | c | c | c
   ·rw [cost_0 hmn c]; omega
   ·rw [cost_1 hmn c]; omega
   ·have q := rt_2 c
    have lt := Nat.mod_lt n q.1
    rw [cost_2 ht hmn c]
    exact pall_le (ih m m (by omega) (by omega)) (ih (n % m) m (by omega) (by omega))
   ·have q := rt_3 c
    rw [cost_3 ht hmn c]
    obtain ⟨h, hh⟩ : ∃ h, h = (n + 1) / 2 := ⟨_, rfl⟩
    rw [← hh]
    have i1 := cost_bal ht h (by omega)
    have i2 := ih (n - h) (m - h) (by omega) (by omega)
    have i3 := cost_bal ht (h + 1) (by omega)
    obtain ⟨p, rfl⟩ : ∃ p, n = h + p := ⟨n - h, by omega⟩
    obtain ⟨q', rfl⟩ : ∃ p, m = h + p := ⟨m - h, by omega⟩
    rw [Nat.add_sub_cancel_left, Nat.add_sub_cancel_left] at i2 ⊢
    have e1 : (h + p) * (h + q') = h * h + h * p + h * q' + p * q' := by grind
    have e2 : (h + 1) * (h + 1) = h * h + 2 * h + 1 := by grind
    have e3 : 2 * h ≤ h * h := Nat.mul_le_mul_right h (by omega)
    omega
   ·have q := rt_4 c
    rw [cost_4 ht hmn c]
    obtain ⟨k, hk⟩ : ∃ k, k = (n + 2) / 3 := ⟨_, rfl⟩
    rw [← hk]
    have i1 := cost_bal ht k (by omega)
    have i2 := ih (n - 2 * k) (m - 2 * k) (by omega) (by omega)
    have i3 := cost_bal ht (k + 1) (by omega)
    obtain ⟨p, rfl⟩ : ∃ p, n = 2 * k + p := ⟨n - 2 * k, by omega⟩
    obtain ⟨q', rfl⟩ : ∃ p, m = 2 * k + p := ⟨m - 2 * k, by omega⟩
    rw [Nat.add_sub_cancel_left, Nat.add_sub_cancel_left] at i2 ⊢
    have e1 : (2 * k + p) * (2 * k + q') = 4 * (k * k) + 2 * (k * p) + 2 * (k * q') + p * q' := by grind
    have e2 : (k + 1) * (k + 1) = k * k + 2 * k + 1 := by grind
    have e3 : 2 * k ≤ k * k := Nat.mul_le_mul_right k (by omega)
    omega
   ·have q := rt_5 c
    rw [cost_5 hmn c]
    exact transf_le hmn q.2.2.1 (by omega) (by omega)
  intro n m h1 h2
  rcases Nat.le_total m n with h | h
  ·exact main n m h h1 h2
  ·rw [cost_comm, Nat.mul_comm n m]
   exact main m n h (by omega) h2
theorem cost_lim {t : Tb} (ht : TbOk t) {n m : Nat} (h : n + m ≤ 1024) : cost t n m ≤ 10000000 := by
 have h1 := cost_le ht 1024 n m h (by omega)
 have h2 : n * m ≤ 1024 * 1024 := Nat.mul_le_mul (by omega) (by omega)
 omega
def sqF (t : Tb) : Nat → Nat → Nat
 | 0, _ => 0
 | f + 1, n =>
  if rt t n n = 1 then n * (n + 1) / 2
  else if rt t n n = 3 then sqF t f ((n + 1) / 2) + sqF t f (n - (n + 1) / 2) + sqF t f ((n + 1) / 2 + 1)
  else if rt t n n = 4 then sqF t f ((n + 2) / 3) + sqF t f ((n + 2) / 3 + 1) + sqF t f ((n + 2) / 3 + 1) + sqF t f ((n + 2) / 3 + 1) + sqF t f (n - 2 * ((n + 2) / 3))
  else if rt t n n = 5 then transf n n 2
  else 0
def sq (t : Tb) (n : Nat) : Nat := sqF t (n + 1) n
def lev (n : Nat) : Nat := blen (n - 3)
theorem blen_mono {x y : Nat} (h : x ≤ y) : blen x ≤ blen y := blen_le _ _ (Nat.lt_of_le_of_lt h (blen_lt y))
theorem lev_mono {x y : Nat} (h : x ≤ y) : lev x ≤ lev y := blen_mono (by omega)
theorem lev_half {n : Nat} (h : 4 ≤ n) : 1 + lev ((n + 1) / 2 + 1) ≤ lev n := by
 unfold lev
 by_cases h4 : n = 4
 ·subst h4
  have e0 : blen 0 = 0 := rfl
  have e1 := blen_lt 1
  show 1 + blen 0 ≤ blen 1
  rw [e0]
  rcases Nat.eq_zero_or_pos (blen 1) with hz | hz
  ·rw [hz] at e1; omega
  ·omega
 have e := blen_div 1 (n - 3) (by omega)
 rw [e]
 have : blen ((n + 1) / 2 + 1 - 3) ≤ blen ((n - 3) / 2 ^ 1) := blen_mono (by omega)
 omega
theorem lev_le (n : Nat) (h : n ≤ 1024) : lev n ≤ 11 := blen_le _ 11 (by omega)
theorem Got.mono {w w' : World} {gm k P : Nat} {a b D D' : Int} {c c' : Mc} {T : Nat → Option Value} {x : Value} (h : Got w gm a b c T k D P w' x c') (hd : D ≤ D') : Got w gm a b c T k D' P w' x c' :=
 ⟨h.1, h.2.1, ⟨h.2.2.1.1, h.2.2.1.2.1, by have := h.2.2.1.2.2; omega⟩, h.2.2.2⟩
theorem cost_mm (t : Tb) (n m : Nat) : cost t n m = cost t (max n m) (min n m) := by
 rcases Nat.le_total m n with h | h
 ·rw [Nat.max_eq_left h, Nat.min_eq_right h]
 ·rw [Nat.max_eq_right h, Nat.min_eq_left h, cost_comm]
theorem transf_mm (n m k : Nat) : transf n m k = transf (max n m) (min n m) k := by
 unfold transf; rw [show max n m + min n m = n + m by omega]
theorem mul_mm (n m : Nat) : n * m = max n m * min n m := by
 rcases Nat.le_total m n with h | h
 ·rw [Nat.max_eq_left h, Nat.min_eq_right h]
 ·rw [Nat.max_eq_right h, Nat.min_eq_left h, Nat.mul_comm]
theorem val_zero_of {al bl : List Int} (h : min al.length bl.length = 0) : val B64 al * val B64 bl = 0 := by
 by_cases ha : al.length = 0
 ·rw [List.eq_nil_of_length_eq_zero ha]; simp [val]
 ·rw [List.eq_nil_of_length_eq_zero (show bl.length = 0 by omega)]; simp [val]
def DbG (w : World) (gm : Nat) : Prop := ∀ W, w.grownBy W (some gm) → Db W
theorem DbG.grown {w w' : World} {gm : Nat} (h : DbG w gm) (g : w.grownBy w' (some gm)) : DbG w' gm := fun W G => h W (jt g G)
theorem DbG.of {w : World} {gm : Nat} {a b : Int} {c : Mc} (h : Db w) (m : Mt w gm a b c) : DbG w gm := fun _ g => h.grown m g
theorem times_all {t : Tb} (ht : TbOk t) : ∀ (s n m : Nat), n + m ≤ s → s ≤ 1024 → ∀ (w : World) (g0 g1 g2 g3 gm : Nat) (b : Int), Eng w g0 g1 g2 g3 gm → DbG w gm → b + ((lev (max n m) : Nat) : Int) ≤ 1000 →
  InC w gm 124 #[.pointer (some ⟨g0, 0, none⟩)] b (tbT t) n m (cost t n m) ((lev (max n m) : Nat) : Int) := by
 intro s
 induction s using Nat.strongRecOn with
 | _ s ih =>
  intro n m hnm hs w g0 g1 g2 g3 gm b he hdb hb W va vb al bl a c G hM hT hk sa sb la lb oa ob
  rw [show (#[.pointer (some ⟨g0, 0, none⟩)] ++ #[va, vb] : Array Value) = #[.pointer (some ⟨g0, 0, none⟩), va, vb] by simp]
  have heW := he.grown G
  have hdW := hdb.grown G
  obtain ⟨K, hK⟩ : ∃ K, K = cost t n m := ⟨_, rfl⟩
  obtain ⟨D, hD⟩ : ∃ D, D = lev (max n m) := ⟨_, rfl⟩
  rw [← hK] at hk ⊢
  rw [← hD] at hb ⊢
  rw [cost_mm] at hK
  refine (times_go W g0 g1 g2 g3 gm a b c t va vb al bl (rt t (max al.length bl.length) (min al.length bl.length)) K (D : Int) (val B64 al * val B64 bl) heW hM hT ht sa sb (by omega) (by omega) rfl ?_).mono (fun e w' k => k)
  intro W1 G1
  have e1 := heW.grown0 G1
  have d1 := hdW.grown (jn G1 (some gm))
  have m1 := hM.grown G1
  have sa1 := sa.grown0 G1
  have sb1 := sb.grown0 G1
  subst la lb
  obtain ⟨N, hN⟩ : ∃ N, N = max al.length bl.length := ⟨_, rfl⟩
  obtain ⟨M, hMm⟩ : ∃ N, N = min al.length bl.length := ⟨_, rfl⟩
  rw [← hN, ← hMm] at hK ⊢
  rw [← hN] at hD
  have hMN : M ≤ N := by omega
  have b4 := ht.eb.1
  have hr := rt_le t N M
  have IH : ∀ p q d, p + q < al.length + bl.length → 0 ≤ d → ((lev (max p q) : Nat) : Int) ≤ d → d + 1 = (D : Int) → InC W1 gm 124 #[.pointer (some ⟨g0, 0, none⟩)] (b + 1) (tbT t) p q (cost t p q) d := fun p q d h1 h2 h3 h4 =>
   (ih (p + q) (by omega) p q (Nat.le_refl _) (by omega) W1 g0 g1 g2 g3 gm (b + 1) e1 d1 (by omega)).mono h3
  have bb := hM.b0
  have LV : 4 ≤ N → ∀ p q, p ≤ (N + 1) / 2 + 1 → q ≤ (N + 1) / 2 + 1 → ((lev (max p q) : Nat) : Int) ≤ (D : Int) - 1 ∧ 1 ≤ (D : Int) := fun h4 p q hp hq => by
   have h1 := lev_half h4
   have h2 := lev_mono (show max p q ≤ (N + 1) / 2 + 1 by omega)
   omega
  have hcase : rt t N M = 0 ∨ rt t N M = 1 ∨ rt t N M = 2 ∨ rt t N M = 3 ∨ rt t N M = 4 ∨ rt t N M = 5 := by omega
  rcases hcase with cc | cc | cc | cc | cc | cc
  ·rw [cc]
   rw [cost_0 hMN cc] at hK
   refine (gone0_c W1 g0 va vb al bl sa1 sb1).mono ?_
   rintro e w' ⟨rfl, rfl⟩
   refine ⟨.slice none 0 0, c, rfl, ⟨[], own_nil _ _, nz_nil, ?_⟩, ?_, ⟨hT, Int.le_refl _, .inl (Int.le_refl _)⟩, jr _ _⟩
   ·rw [val_zero_of (by have := rt_0 cc; omega)]; rfl
   ·rw [hK, show a + ((0 : Nat) : Int) = a by omega]; exact m1
  ·rw [cc]
   rw [cost_1 hMN cc, hN, hMm, ← mul_mm] at hK
   rw [hK]
   exact (gone1_c W1 g0 g1 g2 g3 gm a b c (tbT t) va vb al bl e1 m1 hT (by omega) sa1 sb1 oa ob (by omega) (by omega)).mono fun e w' ⟨x, c', h1, h2⟩ => ⟨x, c', h1, h2.mono (by omega)⟩
  ·have q := rt_2 cc
   have lt := Nat.mod_lt N q.1
   rw [cc]
   rw [cost_2 ht hMN cc] at hK
   have l1 := LV (by omega) M M (by omega) (by omega)
   have l2 := LV (by omega) (N % M) M (by omega) (by omega)
   have := gone2_c W1 g0 g1 g2 g3 gm a b ((D : Int) - 1) c (tbT t) va vb al bl (cost t M M) (cost t (N % M) M) e1 m1 hT (by omega) (by omega) (by rw [← hN, ← hMm, ← hK]; exact hk) sa1 sb1 oa ob (by omega) (by omega) (by rw [← hMm]; exact q.1) (by rw [← hMm]; exact IH _ _ _ (by omega) (by omega) l1.1 (by omega)) (fun _ => by rw [← hMm, ← hN]; exact IH _ _ _ (by omega) (by omega) l2.1 (by omega))
   rw [← hN, ← hMm, ← hK] at this
   exact this.mono fun e w' ⟨x, c', h1, h2⟩ => ⟨x, c', h1, h2.mono (by omega)⟩
  ·have q := rt_3 cc
   rw [cc]
   rw [cost_3 ht hMN cc] at hK
   have l1 := LV (by omega) ((N + 1) / 2) ((N + 1) / 2) (by omega) (by omega)
   have l2 := LV (by omega) (N - (N + 1) / 2) (M - (N + 1) / 2) (by omega) (by omega)
   have l3 := LV (by omega) ((N + 1) / 2 + 1) ((N + 1) / 2 + 1) (by omega) (by omega)
   have := gone3_c W1 g0 g1 g2 g3 gm a b ((D : Int) - 1) c (tbT t) va vb al bl _ _ _ e1 m1 hT (by omega) (by omega) (by rw [← hK]; exact hk) sa1 sb1 oa ob (by omega) (by omega) (by rw [← hMm, ← hN]; omega) (by rw [← hN]; exact IH _ _ _ (by omega) (by omega) l1.1 (by omega)) (by rw [← hMm, ← hN]; exact IH _ _ _ (by omega) (by omega) l2.1 (by omega)) (by rw [← hN]; exact IH _ _ _ (by omega) (by omega) l3.1 (by omega))
   rw [← hK] at this
   exact this.mono fun e w' ⟨x, c', h1, h2⟩ => ⟨x, c', h1, h2.mono (by omega)⟩
  ·have q := rt_4 cc
   rw [cc]
   rw [cost_4 ht hMN cc] at hK
   have l1 := LV (by omega) ((N + 2) / 3) ((N + 2) / 3) (by omega) (by omega)
   have l2 := LV (by omega) ((N + 2) / 3 + 1) ((N + 2) / 3 + 1) (by omega) (by omega)
   have l3 := LV (by omega) (N - 2 * ((N + 2) / 3)) (M - 2 * ((N + 2) / 3)) (by omega) (by omega)
   have := gone4_c W1 g0 g1 g2 g3 gm a b ((D : Int) - 1) c (tbT t) va vb al bl _ _ _ e1 m1 hT (by omega) (by omega) (by rw [← hK]; exact hk) sa1 sb1 oa ob (by omega) (by omega) (by rw [← hMm, ← hN]; omega) (by rw [← hN]; exact IH _ _ _ (by omega) (by omega) l1.1 (by omega)) (by rw [← hN]; exact IH _ _ _ (by omega) (by omega) l2.1 (by omega)) (by rw [← hMm, ← hN]; exact IH _ _ _ (by omega) (by omega) l3.1 (by omega))
   rw [← hK] at this
   exact this.mono fun e w' ⟨x, c', h1, h2⟩ => ⟨x, c', h1, h2.mono (by omega)⟩
  ·have q := rt_5 cc
   rw [cc]
   rw [cost_5 hMN cc, hN, hMm, ← transf_mm] at hK
   rw [hK]
   exact (gone5_c W1 g0 g1 g2 g3 gm a b c (tbT t) va vb al bl e1 (d1 _ (jr _ _)) m1 hT (by omega) sa1 sb1 oa ob (by omega) (by omega) (by omega)).mono fun e w' ⟨x, c', h1, h2⟩ => ⟨x, c', h1, h2.mono (by omega)⟩
def crs (xs : List Int) : Nat → Nat
 | 0 => 0
 | i + 1 => crs xs i + 18446744073709551616 ^ i * ((rd xs i).toNat * (18446744073709551616 ^ (i + 1) * val 18446744073709551616 (xs.drop (i + 1))))
def sqs (xs : List Int) : Nat → Nat
 | 0 => 0
 | i + 1 => sqs xs i + 18446744073709551616 ^ (2 * i) * ((rd xs i).toNat * (rd xs i).toNat)
theorem crs_succ (xs : List Int) (i : Nat) : crs xs (i + 1) = crs xs i + 18446744073709551616 ^ i * ((rd xs i).toNat * (18446744073709551616 ^ (i + 1) * val 18446744073709551616 (xs.drop (i + 1)))) := rfl
theorem sqs_succ (xs : List Int) (i : Nat) : sqs xs (i + 1) = sqs xs i + 18446744073709551616 ^ (2 * i) * ((rd xs i).toNat * (rd xs i).toNat) := rfl
theorem drop_val (xs : List Int) (i : Nat) (hi : i < xs.length) : val 18446744073709551616 (xs.drop i) = (rd xs i).toNat + 18446744073709551616 * val 18446744073709551616 (xs.drop (i + 1)) := by
 rw [List.drop_eq_getElem_cons hi]
 have e : xs[i] = rd xs i := by unfold rd; rw [List.getD_eq_getElem?_getD, List.getElem?_eq_getElem hi]; rfl
 rw [e]; rfl
theorem crs_sqs (xs : List Int) : ∀ i, i ≤ xs.length → 2 * crs xs i + sqs xs i + 18446744073709551616 ^ i * val 18446744073709551616 (xs.drop i) * (18446744073709551616 ^ i * val 18446744073709551616 (xs.drop i)) = val 18446744073709551616 xs * val 18446744073709551616 xs := by
 intro i
 induction i with
 | zero => intro _; simp [crs, sqs]
 | succ i ih =>
  intro hi
  rw [← ih (by omega), drop_val xs i (by omega)]
  obtain ⟨P, hP⟩ : ∃ P, P = 18446744073709551616 ^ i := ⟨_, rfl⟩
  have e1 : 18446744073709551616 ^ (i + 1) = P * 18446744073709551616 := by rw [hP]; exact Nat.pow_succ ..
  have e2 : 18446744073709551616 ^ (2 * i) = P * P := by rw [hP, Nat.two_mul, Nat.pow_add]
  rw [crs_succ, sqs_succ, e1, e2, ← hP]
  obtain ⟨X, hX⟩ : ∃ X, X = (rd xs i).toNat := ⟨_, rfl⟩
  obtain ⟨D, hD⟩ : ∃ X, X = val 18446744073709551616 (xs.drop (i + 1)) := ⟨_, rfl⟩
  obtain ⟨C, hC⟩ : ∃ X, X = crs xs i := ⟨_, rfl⟩
  obtain ⟨S, hS⟩ : ∃ X, X = sqs xs i := ⟨_, rfl⟩
  rw [← hX, ← hD, ← hC, ← hS]
  clear ih hX hD hC hS e1 e2 hP hi
  grind
theorem crs_all {xs : List Int} {n : Nat} (h : n = xs.length) : 2 * crs xs n + sqs xs n = val 18446744073709551616 xs * val 18446744073709551616 xs := by
 have := crs_sqs xs n (by omega)
 rw [List.drop_eq_nil_of_le (by omega)] at this
 simpa [val] using this
structure PqO (xs os : List Int) (n i : Nat) : Prop where
 len : os.length = 2 * n
 ws : Ws os
 z : ∀ k, i + n ≤ k → rd os k = 0
 v : val 18446744073709551616 os = crs xs i
structure PqI (xs os : List Int) (n i j : Nat) (x c : Int) : Prop where
 c0 : 0 ≤ c
 c1 : c < 18446744073709551616
 len : os.length = 2 * n
 ws : Ws os
 z : ∀ k, i + n ≤ k → rd os k = 0
 v : val 18446744073709551616 os + 18446744073709551616 ^ (i + j) * c.toNat + 18446744073709551616 ^ i * (x.toNat * val 18446744073709551616 (xs.take (i + 1))) = crs xs i + 18446744073709551616 ^ i * (x.toNat * val 18446744073709551616 (xs.take j))
theorem PqO.start (xs : List Int) (n : Nat) : PqO xs (List.replicate (2 * n) 0) n 0 := ⟨List.length_replicate, ws_replicate _, fun k _ => rd_zeros _ _, by rw [val_replicate]; simp [crs]⟩
theorem PqO.inner {xs os : List Int} {n i : Nat} (h : PqO xs os n i) (x : Int) : PqI xs os n i (i + 1) x 0 := ⟨by decide, by decide, h.len, h.ws, h.z, by rw [h.v, show (0 : Int).toNat = 0 from rfl, Nat.mul_zero, Nat.add_zero]⟩
theorem pq_arith {V V' P q t o c x y A D : Nat} (hs : V' + P * o = V + P * q) (hv : V + P * c + D = A) (k : q + 18446744073709551616 * t = o + x * y + c) : V' + P * 18446744073709551616 * t + D = A + P * (x * y) := by
 have h := congrArg (P * ·) k
 simp only [Nat.mul_add] at h
 rw [Nat.mul_assoc P 18446744073709551616 t]
 omega
theorem PqI.step {xs os : List Int} {n i j : Nat} {x y c r c' : Int} (h : PqI xs os n i j x c) (hx : 0 ≤ x) (hy : Ws xs) (hi : i < n) (hj : j < n) (ey : y = rd xs j) (br : 0 ≤ r ∧ r < 18446744073709551616) (bc : 0 ≤ c' ∧ c' < 18446744073709551616)
  (e : r + 18446744073709551616 * c' = rd os (i + j) + x * y + c) : PqI xs (os.set (i + j) r) n i (j + 1) x c' := by
 have y0 := rd_w hy j
 rw [← ey] at y0
 have o0 := rd_w h.ws (i + j)
 have c0 := h.c0
 have hk : i + j < os.length := by rw [h.len]; omega
 refine ⟨bc.1, bc.2, by rw [List.length_set, h.len], ws_set h.ws _ br.1 br.2, fun k hk => by rw [rd_set_ne (by omega)]; exact h.z k hk, ?_⟩
 have hv := val_set 18446744073709551616 hk r
 rw [val_take_any 18446744073709551616 xs j, ← ey, ← Nat.add_assoc i j 1, Nat.pow_succ, Nat.mul_add x.toNat, Nat.mul_add (18446744073709551616 ^ i), ← Nat.add_assoc]
 have e2 : 18446744073709551616 ^ i * (x.toNat * (18446744073709551616 ^ j * y.toNat)) = 18446744073709551616 ^ (i + j) * (x.toNat * y.toNat) := by
  rw [Nat.pow_add, Nat.mul_left_comm x.toNat, Nat.mul_assoc]
 rw [e2]
 refine pq_arith hv h.v ?_
 have exy : ((x.toNat * y.toNat : Nat) : Int) = x * y := by rw [Int.natCast_mul, Int.toNat_of_nonneg hx, Int.toNat_of_nonneg y0.1]
 omega
theorem PqI.last {xs os : List Int} {n i : Nat} {x c : Int} (h : PqI xs os n i n x c) (hi : i < n) (hn : n = xs.length) (ex : x = rd xs i) : PqO xs (os.set (i + n) c) n (i + 1) := by
 have c0 := h.c0
 have c1 := h.c1
 have hk : i + n < os.length := by rw [h.len]; omega
 refine ⟨by rw [List.length_set, h.len], ws_set h.ws _ c0 c1, fun k hk => by rw [rd_set_ne (by omega)]; exact h.z k (by omega), ?_⟩
 have hv := val_set 18446744073709551616 hk c
 rw [h.z (i + n) (Nat.le_refl _)] at hv
 have e0 : (0 : Int).toNat = 0 := rfl
 rw [e0, Nat.mul_zero, Nat.add_zero] at hv
 have e := h.v
 rw [List.take_of_length_le (Nat.le_of_eq hn.symm), ← hv, val_take_drop 18446744073709551616 xs (i + 1) (by omega), Nat.mul_add x.toNat, Nat.mul_add (18446744073709551616 ^ i), ex] at e
 show _ = crs xs i + _
 omega
structure PsI (xs o0 os : List Int) (n i : Nat) (c h : Int) : Prop where
 c0 : 0 ≤ c
 c1 : c ≤ 1
 h0 : 0 ≤ h
 h1 : h ≤ 1
 len : os.length = 2 * n
 ws : Ws os
 z : ∀ k, 2 * i ≤ k → rd os k = rd o0 k
 v : val 18446744073709551616 os + 18446744073709551616 ^ (2 * i) * (c.toNat + h.toNat) = val 18446744073709551616 o0 + val 18446744073709551616 (o0.take (2 * i)) + sqs xs i
theorem PsI.start {xs os : List Int} {n : Nat} (h : PqO xs os n n) : PsI xs os os n 0 0 0 := ⟨by decide, by decide, by decide, by decide, h.len, h.ws, fun _ _ => rfl, by simp [sqs, val]⟩
theorem ps_arith {V V1 V2 P x y s0 s1 c h c' h' A w : Nat} (q1 : V1 + P * x = V + P * s0) (q2 : V2 + P * 18446744073709551616 * y = V1 + P * 18446744073709551616 * s1) (hv : V + P * (c + h) = A)
  (k : s0 + 18446744073709551616 * s1 + 340282366920938463463374607431768211456 * (c' + h') = 2 * x + 36893488147419103232 * y + h + w + c) : V2 + P * 340282366920938463463374607431768211456 * (c' + h') = A + (P * x + P * 18446744073709551616 * y) + P * w := by
 have h := congrArg (P * ·) k
 simp only [Nat.mul_add] at h hv ⊢
 rw [Nat.mul_assoc P 18446744073709551616 y, Nat.mul_assoc P 18446744073709551616 s1] at q2
 rw [Nat.mul_assoc P 18446744073709551616 y, Nat.mul_assoc P 340282366920938463463374607431768211456, Nat.mul_assoc P 340282366920938463463374607431768211456]
 have e1 : P * (36893488147419103232 * y) = 2 * (P * (18446744073709551616 * y)) := by grind
 have e2 : P * (2 * x) = 2 * (P * x) := by grind
 omega
theorem PsI.step {xs o0 os : List Int} {n i : Nat} {c h x y w s0 s1 c' h' : Int} (p : PsI xs o0 os n i c h) (hx : Ws xs) (ho : Ws o0) (hi : i < n) (ex : x = rd o0 (2 * i)) (ey : y = rd o0 (2 * i + 1)) (ew : w = rd xs i) (b0 : 0 ≤ s0 ∧ s0 < 18446744073709551616) (b1 : 0 ≤ s1 ∧ s1 < 18446744073709551616) (bc : 0 ≤ c' ∧ c' ≤ 1) (bh : 0 ≤ h' ∧ h' ≤ 1)
  (e : s0 + 18446744073709551616 * s1 + 340282366920938463463374607431768211456 * (c' + h') = 2 * x + 36893488147419103232 * y + h + w * w + c) : PsI xs o0 ((os.set (2 * i) s0).set (2 * i + 1) s1) n (i + 1) c' h' := by
 have x0 := rd_w ho (2 * i)
 rw [← ex] at x0
 have y0 := rd_w ho (2 * i + 1)
 rw [← ey] at y0
 have w0 := rd_w hx i
 rw [← ew] at w0
 have c0 := p.c0
 have h0 := p.h0
 refine ⟨bc.1, bc.2, bh.1, bh.2, by rw [List.length_set, List.length_set, p.len], ws_set (ws_set p.ws _ b0.1 b0.2) _ b1.1 b1.2, fun k hk => by rw [rd_set_ne (by omega), rd_set_ne (by omega)]; exact p.z k (by omega), ?_⟩
 have q1 := val_set 18446744073709551616 (xs := os) (k := 2 * i) (by rw [p.len]; omega) s0
 have q2 := val_set 18446744073709551616 (xs := os.set (2 * i) s0) (k := 2 * i + 1) (by rw [List.length_set, p.len]; omega) s1
 rw [rd_set_ne (by omega), p.z (2 * i + 1) (by omega), ← ey, Nat.pow_succ] at q2
 rw [p.z (2 * i) (by omega), ← ex] at q1
 have t1 := val_take_any 18446744073709551616 o0 (2 * i)
 have t2 := val_take_any 18446744073709551616 o0 (2 * i + 1)
 rw [← ex] at t1
 rw [← ey, t1, Nat.pow_succ] at t2
 have eP : 18446744073709551616 ^ (2 * (i + 1)) = 18446744073709551616 ^ (2 * i) * 340282366920938463463374607431768211456 := by
  rw [Nat.mul_add, Nat.mul_one, Nat.pow_add]
 rw [eP, show 2 * (i + 1) = 2 * i + 1 + 1 by omega, t2]
 have eww : ((w.toNat * w.toNat : Nat) : Int) = w * w := by rw [Int.natCast_mul, Int.toNat_of_nonneg w0.1]
 have ee : s0.toNat + 18446744073709551616 * s1.toNat + 340282366920938463463374607431768211456 * (c'.toNat + h'.toNat) = 2 * x.toNat + 36893488147419103232 * y.toNat + h.toNat + w.toNat * w.toNat + c.toNat := by
  rw [← eww] at e
  clear q1 q2 t1 t2 eP eww
  obtain ⟨W, hW⟩ : ∃ W, W = w.toNat * w.toNat := ⟨_, rfl⟩
  rw [← hW] at e ⊢
  clear hW
  obtain ⟨_, rfl⟩ := Int.eq_ofNat_of_zero_le x0.1
  obtain ⟨_, rfl⟩ := Int.eq_ofNat_of_zero_le y0.1
  obtain ⟨_, rfl⟩ := Int.eq_ofNat_of_zero_le b0.1
  obtain ⟨_, rfl⟩ := Int.eq_ofNat_of_zero_le b1.1
  obtain ⟨_, rfl⟩ := Int.eq_ofNat_of_zero_le bc.1
  obtain ⟨_, rfl⟩ := Int.eq_ofNat_of_zero_le bh.1
  obtain ⟨_, rfl⟩ := Int.eq_ofNat_of_zero_le c0
  obtain ⟨_, rfl⟩ := Int.eq_ofNat_of_zero_le h0
  simp only [Int.toNat_natCast]
  omega
 have k := ps_arith q1 q2 p.v ee
 rw [k, sqs_succ, ← ew]
 clear k ee q1 q2 t1 t2 eP eww e x0 y0 w0 b0 b1
 omega
theorem PsI.last {xs o0 os : List Int} {n : Nat} {c h : Int} (p : PsI xs o0 os n n c h) (q : PqO xs o0 n n) (hx : Ws xs) (hn : n = xs.length) : val 18446744073709551616 os = val 18446744073709551616 xs * val 18446744073709551616 xs := by
 have e := p.v
 rw [List.take_of_length_le (by rw [q.len]; omega), q.v] at e
 have e2 := crs_all hn
 have lt := val_lt (B := 18446744073709551616) hx.dg
 rw [← hn] at lt
 have lt2 := Nat.mul_lt_mul_of_lt_of_lt lt lt
 rw [← Nat.pow_add, ← Nat.two_mul] at lt2
 have c0 := p.c0
 have h0 := p.h0
 by_cases hz : c.toNat + h.toNat = 0
 ·rw [hz] at e; omega
 ·have : 18446744073709551616 ^ (2 * n) * 1 ≤ 18446744073709551616 ^ (2 * n) * (c.toNat + h.toNat) := Nat.mul_le_mul_left _ (by omega)
  omega
theorem Off.len {A : Option Addr} {n c m c' gm : Nat} (h : Off (.slice A n c) gm) : Off (.slice A m c') gm := by
 cases A with
 | none => intro b hb; simp [Value.ownBlock] at hb
 | some x => exact h
theorem mwords_c (w : World) (A : Option Addr) (n c : Nat) (xs : List Int) (h : Sl w (.slice A n c) xs) :
  Calls Tryz.prog 125 #[.slice A n c] w fun e w' => e = .returned (.slice A (trimZ xs).length c) ∧ w' = w := by
 have HC := lk (nlen_c w _ xs h)
 obtain ⟨A', c', e, h1, h2, _⟩ := h
 simp only [Value.slice.injEq] at e
 obtain ⟨rfl, rfl, rfl⟩ := e
 have ht := trimZ_len xs
 obtain ⟨T, hT⟩ : ∃ T, T = (trimZ xs).length := ⟨_, rfl⟩
 obtain ⟨n, hn⟩ : ∃ n, n = xs.length := ⟨_, rfl⟩
 rw [← hn, ← hT] at HC
 rw [← hn] at h1 ht ⊢
 rw [← hT] at ht ⊢
 clear hn hT
 go_enter Tryz.func125, Tryz.ntmps125
 go_wp2_with fail
 refine (HC.out).mono ?_
 rintro e w1 ⟨rfl, hw⟩
 subst hw
 clear HC
 go_wp2
 go_ret
 exact ⟨rfl, rfl⟩
theorem mulE_c {t : Tb} (ht : TbOk t) (w : World) (g0 g1 g2 g3 gm : Nat) (a b : Int) (c : Mc) (va vb : Value) (al bl : List Int) (he : Eng w g0 g1 g2 g3 gm) (hd : Db w)
  (hm : Mt w gm a b c) (hT : c.T = tbT t) (hb : b ≤ 900) (ha0 : a ≤ 900000000000000) (ha : Sl w va al) (hb' : Sl w vb bl) (hna : Off va gm) (hnb : Off vb gm) (hl : (trimZ al).length + (trimZ bl).length ≤ 1024) :
  Calls Tryz.prog 112 #[.pointer (some ⟨g0, 0, none⟩), va, vb] w fun e w' => ∃ x c', e = .returned x ∧ Got w gm a b c (tbT t) (cost t (trimZ al).length (trimZ bl).length) ((lev (max (trimZ al).length (trimZ bl).length) : Nat) : Int) (val B64 al * val B64 bl) w' x c' := by
 obtain ⟨A, ca, rfl, hca, _⟩ := ha.form
 obtain ⟨B, cb, rfl, hcb, _⟩ := hb'.form
 have W1 := lk (mwords_c w _ _ _ _ ha)
 have W2 := lk (mwords_c w _ _ _ _ hb')
 have sa := ha.take (trimZ al).length (trimZ_len al)
 have sb := hb'.take (trimZ bl).length (trimZ_len bl)
 rw [take_trimZ_len] at sa sb
 have lv := lev_le (max (trimZ al).length (trimZ bl).length) (by omega)
 have cl := cost_lim ht hl
 have T := times_all ht _ _ _ (Nat.le_refl _) hl w g0 g1 g2 g3 gm b he (DbG.of hd hm) (by omega) w _ _ _ _ a c (jr _ _) hm hT (by omega) sa sb rfl rfl hna.len hnb.len
 rw [val_trimZ, val_trimZ] at T
 have HT := lk T
 obtain ⟨n, hn⟩ : ∃ n, n = al.length := ⟨_, rfl⟩
 obtain ⟨m, hm'⟩ : ∃ m, m = bl.length := ⟨_, rfl⟩
 rw [← hn] at W1 hca ⊢
 rw [← hm'] at W2 hcb ⊢
 obtain ⟨p, hp⟩ : ∃ p, p = (trimZ al).length := ⟨_, rfl⟩
 obtain ⟨q, hq⟩ : ∃ p, p = (trimZ bl).length := ⟨_, rfl⟩
 rw [← hp] at W1 HT
 rw [← hq] at W2 HT
 rw [← hp, ← hq]
 have hpn : p ≤ n := by rw [hp, hn]; exact trimZ_len _
 have hqm : q ≤ m := by rw [hq, hm']; exact trimZ_len _
 clear hn hm' hp hq T sa sb ha hb' hna hnb hm he hd lv cl
 go_enter Tryz.func112, Tryz.ntmps112
 go_wp2_with fail
 refine (W1.out).mono ?_
 rintro e w1 ⟨rfl, hw⟩
 subst hw
 go_wp2_with fail
 refine (W2.out).mono ?_
 rintro e w2 ⟨rfl, hw⟩
 subst hw
 go_wp2_with fail
 refine (HT.out).mono ?_
 rintro e w3 ⟨x, c', rfl, k⟩
 have KK := lk k
 clear k HT W1 W2
 go_wp2
 go_ret
 exact ⟨x, c', rfl, KK.out⟩
theorem Got.of {w w' : World} {gm k P : Nat} {a b D : Int} {c c' : Mc} {T : Nat → Option Value} {x : Value} (h : Wo w' w.heap.size x P ∧ Mt w' gm (a + (k : Int)) b c' ∧ (c'.T = T ∧ c.v ≤ c'.v ∧ (c'.v ≤ c.v ∨ c'.v ≤ b + D)) ∧ w.grownBy w' (some gm)) : Got w gm a b c T k D P w' x c' := h
theorem InS.grown {w w' : World} {gm fk p k : Nat} {fs : Array Value} {b d : Int} {T : Nat → Option Value} (h : InS w gm fk fs b T p k d) (g : w.grownBy w' (some gm)) : InS w' gm fk fs b T p k d :=
 fun W va al a c G => h W va al a c (jt g G)
theorem InS.mono {w : World} {gm fk p k : Nat} {fs : Array Value} {b d d' : Int} {T : Nat → Option Value} (h : InS w gm fk fs b T p k d) (hd : d ≤ d') : InS w gm fk fs b T p k d' :=
 fun W va al a c G m hT hk sa la oa => (h W va al a c G m hT hk sa la oa).mono fun e w' ⟨x, c', e1, e2, e3, e4, e5⟩ => ⟨x, c', e1, e2, e3, ⟨e4.1, e4.2.1, by have := e4.2.2; omega⟩, e5⟩
theorem Cells.growng {w w' : World} {v : Value} {n gm : Nat} {V : Nat → Value} (h : Cells w v n 1 V) (ho : Off v gm) (g : w.grownBy w' (some gm)) : Cells w' v n 1 V := by
 obtain ⟨A, c, rfl, h1, h2, h4⟩ := h
 refine ⟨A, c, rfl, h1, h2, fun hn => ?_⟩
 obtain ⟨b, o, rfl, hc⟩ := h4 hn
 exact ⟨b, o, rfl, fun j hj => gb_cell g (hc j hj) (by have := ho b rfl; simpa using this)⟩
theorem Pts.growng {w w' : World} {v : Value} {n gm : Nat} {V : Nat → Value} {X : Nat → List Int} (h : Pts w v n V X) (ho : Off v gm) (hV : ∀ j, j < n → Off (V j) gm) (g : w.grownBy w' (some gm)) : Pts w' v n V X :=
 ⟨h.c.growng ho g, fun j hj => (h.s j hj).off (hV j hj) g⟩
theorem Pts.front {w : World} {A : Option Addr} {n m c h : Nat} {V : Nat → Value} {X : Nat → List Int} (p : Pts w (.slice A m c) n V X) (hh : h ≤ n) : Pts w (.slice A h c) h V X := by
 refine ⟨?_, fun j hj => p.s j (by omega)⟩
 obtain ⟨A', c', e, h1, h2, h4⟩ := p.c
 simp only [Value.slice.injEq] at e
 obtain ⟨rfl, rfl, rfl⟩ := e
 refine ⟨_, _, rfl, by omega, h2, fun h0 => ?_⟩
 obtain ⟨b, o, hA, hc⟩ := h4 (by omega)
 exact ⟨b, o, hA, fun j hj => hc j (by omega)⟩
theorem Pts.back {w : World} {b o n m c h : Nat} {V : Nat → Value} {X : Nat → List Int} (p : Pts w (.slice (some ⟨b, o, none⟩) m c) n V X) (hh : h < n) : Pts w (.slice (some ⟨b, o + h, none⟩) (n - h) (c - h)) (n - h) (fun j => V (h + j)) (fun j => X (h + j)) := by
 refine ⟨?_, fun j hj => p.s (h + j) (by omega)⟩
 obtain ⟨A', c', e, h1, h2, h4⟩ := p.c
 simp only [Value.slice.injEq] at e
 obtain ⟨rfl, rfl, rfl⟩ := e
 refine ⟨_, _, rfl, by omega, by omega, fun h0 => ?_⟩
 obtain ⟨b', o', hA, hc⟩ := h4 (by omega)
 simp only [Option.some.injEq, Addr.mk.injEq, and_true] at hA
 obtain ⟨rfl, rfl⟩ := hA
 exact ⟨b, o + h, rfl, fun j hj => by rw [Nat.add_assoc]; exact hc (h + j) (by omega)⟩
theorem Sl.offX {w w' : World} {v : Value} {xs : List Int} {gm : Nat} (h : Sl w v xs) (ho : xs = [] ∨ Off v gm) (g : w.grownBy w' (some gm)) : Sl w' v xs := by
 rcases ho with rfl | ho
 ·obtain ⟨A, c, e, h1, h2, h3, _⟩ := h
  exact ⟨A, c, e, h1, h2, h3, fun h => by simp at h⟩
 ·exact h.off ho g
theorem Pts.growngX {w w' : World} {v : Value} {n gm : Nat} {V : Nat → Value} {X : Nat → List Int} (h : Pts w v n V X) (ho : Off v gm) (hV : ∀ j, j < n → X j = [] ∨ Off (V j) gm) (g : w.grownBy w' (some gm)) : Pts w' v n V X :=
 ⟨h.c.growng ho g, fun j hj => (h.s j hj).offX (hV j hj) g⟩
theorem mulX_c {t : Tb} (ht : TbOk t) (w : World) (g0 g1 g2 g3 gm : Nat) (a b : Int) (c : Mc) (va vb : Value) (al bl : List Int) (he : Eng w g0 g1 g2 g3 gm) (hd : Db w)
  (hm : Mt w gm a b c) (hT : c.T = tbT t) (hb : b ≤ 900) (ha0 : a ≤ 900000000000000) (ha : Sl w va al) (hb' : Sl w vb bl) (hna : al = [] ∨ Off va gm) (hnb : bl = [] ∨ Off vb gm) (hl : (trimZ al).length + (trimZ bl).length ≤ 1024) :
  Calls Tryz.prog 112 #[.pointer (some ⟨g0, 0, none⟩), va, vb] w fun e w' => ∃ x c', e = .returned x ∧ Got w gm a b c (tbT t) (cost t (trimZ al).length (trimZ bl).length) ((lev (max (trimZ al).length (trimZ bl).length) : Nat) : Int) (val B64 al * val B64 bl) w' x c' := by
 by_cases hoo : Off va gm ∧ Off vb gm
 ·exact mulE_c ht w g0 g1 g2 g3 gm a b c va vb al bl he hd hm hT hb ha0 ha hb' hoo.1 hoo.2 hl
 have hz : al = [] ∨ bl = [] := by
  rcases hna with h | h
  ·exact .inl h
  ·rcases hnb with h' | h'
   ·exact .inr h'
   ·exact absurd ⟨h, h'⟩ hoo
 have hmin : min (trimZ al).length (trimZ bl).length = 0 := by
  rcases hz with h | h <;> subst h
  ·show min ([] : List Int).length _ = 0; simp
  ·show min _ ([] : List Int).length = 0; simp
 obtain ⟨A, ca, rfl, hca, _⟩ := ha.form
 obtain ⟨B, cb, rfl, hcb, _⟩ := hb'.form
 have W1 := lk (mwords_c w _ _ _ _ ha)
 have W2 := lk (mwords_c w _ _ _ _ hb')
 have sa := ha.take (trimZ al).length (trimZ_len al)
 have sb := hb'.take (trimZ bl).length (trimZ_len bl)
 rw [take_trimZ_len] at sa sb
 have l1 := trimZ_len al
 have l2 := trimZ_len bl
 have r0 : rt t (max (trimZ al).length (trimZ bl).length) (min (trimZ al).length (trimZ bl).length) = 0 := by unfold rt; rw [if_pos hmin]
 have T := times_go w g0 g1 g2 g3 gm a b c t _ _ (trimZ al) (trimZ bl) 0 (cost t (trimZ al).length (trimZ bl).length) ((lev (max (trimZ al).length (trimZ bl).length) : Nat) : Int) (val B64 al * val B64 bl) he hm hT ht sa sb (by omega) (by omega) r0 (by
  intro W1 G1
  refine (gone0_c W1 g0 _ _ _ _ (sa.grown0 G1) (sb.grown0 G1)).mono ?_
  rintro e w' ⟨rfl, rfl⟩
  have c0 : cost t (trimZ al).length (trimZ bl).length = 0 := by rw [cost_mm]; exact cost_0 (by omega) r0
  refine ⟨.slice none 0 0, c, rfl, ⟨[], own_nil _ _, nz_nil, ?_⟩, ?_, ⟨hT, Int.le_refl _, .inl (Int.le_refl _)⟩, jr _ _⟩
  ·rcases hz with h | h <;> subst h <;> simp [val]
  ·rw [c0, show a + ((0 : Nat) : Int) = a by omega]; exact hm.grown G1)
 have HT := lk T
 obtain ⟨n, hn⟩ : ∃ n, n = al.length := ⟨_, rfl⟩
 obtain ⟨m, hm'⟩ : ∃ m, m = bl.length := ⟨_, rfl⟩
 rw [← hn] at W1 hca ⊢
 rw [← hm'] at W2 hcb ⊢
 obtain ⟨p, hp⟩ : ∃ p, p = (trimZ al).length := ⟨_, rfl⟩
 obtain ⟨q, hq⟩ : ∃ p, p = (trimZ bl).length := ⟨_, rfl⟩
 rw [← hp] at W1 HT
 rw [← hq] at W2 HT
 rw [← hp, ← hq]
 have hpn : p ≤ n := by rw [hp, hn]; exact trimZ_len _
 have hqm : q ≤ m := by rw [hq, hm']; exact trimZ_len _
 clear hn hm' hp hq T sa sb ha hb' hna hnb hm he hd l1 l2 hz hmin r0 hoo
 go_enter Tryz.func112, Tryz.ntmps112
 go_wp2_with fail
 refine (W1.out).mono ?_
 rintro e w1 ⟨rfl, hw⟩
 subst hw
 go_wp2_with fail
 refine (W2.out).mono ?_
 rintro e w2 ⟨rfl, hw⟩
 subst hw
 go_wp2_with fail
 refine (HT.out).mono ?_
 rintro e w3 ⟨x, c', rfl, k⟩
 have KK := lk k
 clear k HT W1 W2
 go_wp2
 go_ret
 exact ⟨x, c', rfl, KK.out⟩
structure En (w : World) (u : Tb) (g0 g1 g2 g3 gm : Nat) (a : Int) (c : Mc) : Prop where
 e : Eng w g0 g1 g2 g3 gm
 m : Mt w gm a 0 c
 t : c.T = tbT u
theorem En.grown0 {w w' : World} {u : Tb} {g0 g1 g2 g3 gm : Nat} {a : Int} {c : Mc} (h : En w u g0 g1 g2 g3 gm a c) (g : w.grownBy w' none) : En w' u g0 g1 g2 g3 gm a c := ⟨h.e.grown0 g, h.m.grown g, h.t⟩
theorem En.drew {w : World} {u : Tb} {g0 g1 g2 g3 gm : Nat} {a : Int} {c : Mc} (h : En w u g0 g1 g2 g3 gm a c) : En w.drew u g0 g1 g2 g3 gm a c := h.grown0 (jw (jr _ none))
theorem En.other {w w' : World} {u v : Tb} {g0 g1 g2 g3 gm k0 k1 k2 k3 km : Nat} {a a' : Int} {c c' : Mc} (h : En w u g0 g1 g2 g3 gm a c) (k : En w v k0 k1 k2 k3 km a' c') (hne : gm ≠ km) (g : w.grownBy w' (some km)) : En w' u g0 g1 g2 g3 gm a c :=
 ⟨⟨gb_cell g h.e.h0 (by have := Md.ptr_ne h.e.h0 k.m; simpa using this), gb_cell g h.e.h1 (by have := Md.ptr_ne h.e.h1 k.m; simpa using this), gb_cell g h.e.h2 (by have := Md.ptr_ne h.e.h2 k.m; simpa using this), gb_cell g h.e.h3 (by have := Md.ptr_ne h.e.h3 k.m; simpa using this), h.e.n0, h.e.n1, h.e.n2, h.e.n3⟩,
  h.m.rowo g (by simpa using hne), h.t⟩
theorem En.lt {w : World} {u : Tb} {g0 g1 g2 g3 gm : Nat} {a : Int} {c : Mc} (h : En w u g0 g1 g2 g3 gm a c) : gm < w.heap.size := World.block_lt_of_cell? w _ h.m.c0
theorem En.mul {u : Tb} (hu : TbOk u) {w : World} {g0 g1 g2 g3 gm : Nat} {a : Int} {c : Mc} (h : En w u g0 g1 g2 g3 gm a c) (hd : Db w) (ha0 : a ≤ 900000000000000) {va vb : Value} {al bl : List Int} (ha : Sl w va al) (hb : Sl w vb bl) (hna : al = [] ∨ Off va gm) (hnb : bl = [] ∨ Off vb gm) (hl : al.length + bl.length ≤ 1024) :
  Calls Tryz.prog 112 #[.pointer (some ⟨g0, 0, none⟩), va, vb] w fun e w' => ∃ x c', e = .returned x ∧ Wo w' w.heap.size x (val B64 al * val B64 bl) ∧ En w' u g0 g1 g2 g3 gm (a + ((cost u (trimZ al).length (trimZ bl).length : Nat) : Int)) c' ∧ w.grownBy w' (some gm) :=
 (mulX_c hu w g0 g1 g2 g3 gm a 0 c va vb al bl h.e hd h.m h.t (by decide) ha0 ha hb hna hnb (by have := trimZ_len al; have := trimZ_len bl; omega)).mono fun _ _ ⟨x, c', e1, k⟩ => ⟨x, c', e1, k.1, ⟨h.e.grown k.2.2.2, k.2.1, k.2.2.1.1⟩, k.2.2.2⟩
theorem En.new (w : World) (t : Tb) : Calls Tryz.prog 203 #[t.v] w fun e w' => ∃ g0 g1 g2 g3 gm, e = .returned (.pointer (some ⟨g0, 0, none⟩)) ∧ En w' t.clamp g0 g1 g2 g3 gm 0 ⟨0, tbT t.clamp⟩ ∧ w.heap.size ≤ gm ∧ w.grownBy w' none :=
 (mulNew_c w t).mono fun _ _ ⟨g0, g1, g2, g3, gm, e1, e2, e3, e4, e5⟩ => ⟨g0, g1, g2, g3, gm, e1, ⟨e2, e4, rfl⟩, e3, e5⟩
theorem Wo.same {w w' : World} {b b' n : Nat} {u v : Value} (h : Wo w b u n) (k : Wo w' b' v n) : ∃ zs, Sl w u zs ∧ Sl w' v zs ∧ Nz zs ∧ val B64 zs = n := by
 obtain ⟨zs, ow, nz, hv⟩ := h
 obtain ⟨ys, ow', nz', hv'⟩ := k
 obtain rfl := dg_ext (B := B64) (by decide) ow.ws.dg ow'.ws.dg nz nz' (hv.trans hv'.symm)
 exact ⟨zs, ow.sl, ow'.sl, nz, hv⟩
theorem En.mul2 {u : Tb} (hu : TbOk u) {w : World} {g0 g1 g2 g3 gm : Nat} {a : Int} {c : Mc} (h : En w u g0 g1 g2 g3 gm a c) (hd : Db w) (ha0 : a ≤ 900000000000000) {va vb : Value} {al bl : List Int} (ha : Sl w va al) (hb : Sl w vb bl) (hna : al = [] ∨ Off va gm) (hnb : bl = [] ∨ Off vb gm) (hl : al.length + bl.length ≤ 1024) :
  Calls Tryz.prog 112 #[.pointer (some ⟨g0, 0, none⟩), va, vb] w fun e w' => ∃ x c' a', e = .returned x ∧ Wo w' w.heap.size x (val B64 al * val B64 bl) ∧ En w' u g0 g1 g2 g3 gm a' c' ∧ a' ≤ a + 10000000 ∧ w.grownBy w' (some gm) :=
 (h.mul hu hd ha0 ha hb hna hnb hl).mono fun _ _ ⟨x, c', e1, k1, k2, k3⟩ => ⟨x, c', _, e1, k1, k2, by
  have := cost_lim hu (n := (trimZ al).length) (m := (trimZ bl).length) (by have := trimZ_len al; have := trimZ_len bl; omega)
  omega, k3⟩
theorem vs_int (u : Tb) (j : Nat) {v : Value} (h : u.vs[j]? = some v) : ∃ z, v = .int .i64 z := by
 have hj : j < 11 := by
  have := (List.getElem?_eq_some_iff.1 h).1
  exact this
 rcases (show j = 0 ∨ j = 1 ∨ j = 2 ∨ j = 3 ∨ j = 4 ∨ j = 5 ∨ j = 6 ∨ j = 7 ∨ j = 8 ∨ j = 9 ∨ j = 10 by omega) with rfl | rfl | rfl | rfl | rfl | rfl | rfl | rfl | rfl | rfl | rfl <;> exact ⟨_, (Option.some.inj h).symm⟩
theorem En.off {u : Tb} {w : World} {g0 g1 g2 g3 gm : Nat} {a : Int} {c : Mc} (h : En w u g0 g1 g2 g3 gm a c) {v : Value} {xs : List Int} (s : Sl w v xs) : xs = [] ∨ Off v gm := by
 cases xs with
 | nil => exact .inl rfl
 | cons x xs =>
  right
  obtain ⟨A, k, rfl, h1, h2, h3, h4⟩ := s
  obtain ⟨b, o, rfl, hc⟩ := h4 (by simp)
  have hx := hc 0 (by simp)
  rw [Nat.add_zero] at hx
  intro b' hb' e
  simp only [Value.ownBlock, Option.some.injEq] at hb'
  subst hb'
  subst e
  have kind : ∀ z, World.cell? w ⟨b, o, none⟩ ≠ some (.int .i64 z) := fun z hz => by
   rw [hx] at hz
   simp at hz
  by_cases o3 : 3 ≤ o
  ·have hr := h.m.rest o o3
   rw [h.t] at hr
   unfold tbT at hr
   rw [if_pos o3, hx] at hr
   obtain ⟨z, hz⟩ := vs_int u (o - 3) hr.symm
   simp at hz
  ·rcases (show o = 0 ∨ o = 1 ∨ o = 2 by omega) with rfl | rfl | rfl
   ·exact kind _ h.m.c0
   ·exact kind _ h.m.c1
   ·exact kind _ h.m.c2
theorem En.sl {u : Tb} {w w' : World} {g0 g1 g2 g3 gm : Nat} {a : Int} {c : Mc} (h : En w u g0 g1 g2 g3 gm a c) {v : Value} {xs : List Int} (s : Sl w v xs) (g : w.grownBy w' (some gm)) : Sl w' v xs := s.offX (h.off s) g
structure Ch (w : World) (k0 k1 k2 k3 k4 k5 k6 k7 k8 k9 g0 : Nat) : Prop where
 c0 : w.cell? ⟨k0, 0, none⟩ = some (.pointer (some ⟨k1, 0, none⟩))
 c1 : w.cell? ⟨k1, 0, none⟩ = some (.pointer (some ⟨k2, 0, none⟩))
 c2 : w.cell? ⟨k2, 0, none⟩ = some (.pointer (some ⟨k3, 0, none⟩))
 c3 : w.cell? ⟨k3, 0, none⟩ = some (.pointer (some ⟨k4, 0, none⟩))
 c4 : w.cell? ⟨k4, 0, none⟩ = some (.pointer (some ⟨k5, 0, none⟩))
 c5 : w.cell? ⟨k5, 0, none⟩ = some (.pointer (some ⟨k6, 0, none⟩))
 c6 : w.cell? ⟨k6, 0, none⟩ = some (.pointer (some ⟨k7, 0, none⟩))
 c7 : w.cell? ⟨k7, 0, none⟩ = some (.pointer (some ⟨k8, 0, none⟩))
 c8 : w.cell? ⟨k8, 0, none⟩ = some (.pointer (some ⟨k9, 0, none⟩))
 c9 : w.cell? ⟨k9, 0, none⟩ = some (.pointer (some ⟨g0, 0, none⟩))
structure Pe (w : World) (p : Int) (g r q k0 k1 k2 k3 k4 k5 k6 k7 k8 k9 g0 : Nat) : Prop where
 e0 : w.cell? ⟨g, 0, none⟩ = some (.pointer (some ⟨r, 0, none⟩))
 e1 : w.cell? ⟨g, 1, none⟩ = some (.pointer (some ⟨k0, 0, none⟩))
 rg : Rg w r q p
 ch : Ch w k0 k1 k2 k3 k4 k5 k6 k7 k8 k9 g0
theorem cell_past {w w' : World} {b o gm : Nat} {x : Nat} (h : w.cell? ⟨b, o, none⟩ = some (.pointer (some ⟨x, 0, none⟩))) (hb : b ≠ gm) (k : w.grownBy w' (some gm)) : w'.cell? ⟨b, o, none⟩ = some (.pointer (some ⟨x, 0, none⟩)) := gb_cell k h (by simpa using hb)
theorem Mt.ptr {w : World} {gm b x : Nat} {a z : Int} {c : Mc} (m : Mt w gm a z c) (h : w.cell? ⟨b, 0, none⟩ = some (.pointer (some ⟨x, 0, none⟩))) : b ≠ gm := cell_kind h m.c0 (by simp)
theorem Mt.ptr1 {w : World} {gm b x : Nat} {a z : Int} {c : Mc} (m : Mt w gm a z c) (h : w.cell? ⟨b, 1, none⟩ = some (.pointer (some ⟨x, 0, none⟩))) : b ≠ gm := fun e => by
 subst e
 rw [m.c1] at h
 simp at h
theorem Ch.grown {w w' : World} {k0 k1 k2 k3 k4 k5 k6 k7 k8 k9 g0 gm : Nat} {a z : Int} {c : Mc} (h : Ch w k0 k1 k2 k3 k4 k5 k6 k7 k8 k9 g0) (m : Mt w gm a z c) (k : w.grownBy w' (some gm)) : Ch w' k0 k1 k2 k3 k4 k5 k6 k7 k8 k9 g0 :=
 ⟨cell_past h.c0 (m.ptr h.c0) k, cell_past h.c1 (m.ptr h.c1) k, cell_past h.c2 (m.ptr h.c2) k, cell_past h.c3 (m.ptr h.c3) k, cell_past h.c4 (m.ptr h.c4) k, cell_past h.c5 (m.ptr h.c5) k, cell_past h.c6 (m.ptr h.c6) k, cell_past h.c7 (m.ptr h.c7) k, cell_past h.c8 (m.ptr h.c8) k, cell_past h.c9 (m.ptr h.c9) k⟩
theorem Ch.grown0 {w w' : World} {k0 k1 k2 k3 k4 k5 k6 k7 k8 k9 g0 : Nat} (h : Ch w k0 k1 k2 k3 k4 k5 k6 k7 k8 k9 g0) (k : w.grownBy w' none) : Ch w' k0 k1 k2 k3 k4 k5 k6 k7 k8 k9 g0 :=
 ⟨gb_cell0 k h.c0, gb_cell0 k h.c1, gb_cell0 k h.c2, gb_cell0 k h.c3, gb_cell0 k h.c4, gb_cell0 k h.c5, gb_cell0 k h.c6, gb_cell0 k h.c7, gb_cell0 k h.c8, gb_cell0 k h.c9⟩
theorem Rg.grown {w w' : World} {r q gm : Nat} {p a z : Int} {c : Mc} (h : Rg w r q p) (m : Mt w gm a z c) (k : w.grownBy w' (some gm)) : Rg w' r q p :=
 ⟨cell_past h.c (m.ptr h.c) k, h.m.grown k (by have := h.m.mt m; simpa using this)⟩
theorem Pe.grown {w w' : World} {p : Int} {g r q k0 k1 k2 k3 k4 k5 k6 k7 k8 k9 g0 gm : Nat} {a z : Int} {c : Mc} (h : Pe w p g r q k0 k1 k2 k3 k4 k5 k6 k7 k8 k9 g0) (m : Mt w gm a z c) (k : w.grownBy w' (some gm)) : Pe w' p g r q k0 k1 k2 k3 k4 k5 k6 k7 k8 k9 g0 :=
 ⟨cell_past h.e0 (m.ptr h.e0) k, cell_past h.e1 (m.ptr1 h.e1) k, h.rg.grown m k, h.ch.grown m k⟩
theorem Pe.grown0 {w w' : World} {p : Int} {g r q k0 k1 k2 k3 k4 k5 k6 k7 k8 k9 g0 : Nat} (h : Pe w p g r q k0 k1 k2 k3 k4 k5 k6 k7 k8 k9 g0) (k : w.grownBy w' none) : Pe w' p g r q k0 k1 k2 k3 k4 k5 k6 k7 k8 k9 g0 :=
 ⟨gb_cell0 k h.e0, gb_cell0 k h.e1, h.rg.grown0 k, h.ch.grown0 k⟩
theorem pmoved_c (w : World) (g : Nat) (u : Value) (xs : List Int) (k : Nat) (hu : Sl w u xs) (hl : xs.length ≤ 100000) (hk : k ≤ 100000) :
  Calls Tryz.prog 107 #[.pointer (some ⟨g, 0, none⟩), u, .int .i64 k] w fun e w' => ∃ x, e = .returned x ∧ Own w' w.heap.size x (if xs = [] then [] else List.replicate k 0 ++ xs) ∧ w.grownBy w' none := by
 obtain ⟨A, ca, rfl, hca, _⟩ := hu.form
 by_cases h0 : xs = []
 ·subst h0
  rw [if_pos rfl]
  clear hu
  go_enter Tryz.func107, Tryz.ntmps107
  go_wp2
  go_ret
  exact ⟨_, rfl, own_nil _ _, jr _ _⟩
 ·rw [if_neg h0]
  have hn0 : xs.length ≠ 0 := fun e => h0 (List.eq_nil_of_length_eq_zero e)
  obtain ⟨n, hn⟩ : ∃ n, n = xs.length := ⟨_, rfl⟩
  have hnl : n ≤ 100000 := by omega
  rw [← hn] at hca hn0 hu ⊢
  have b0 : ((n : Int) == 0) = false := by simp; omega
  have mk := make64 25 (by kernel_rfl) k k (k : Int) (k : Int) (by omega) (by omega) (by omega) (by omega)
  have OW := lk (own_made w w.heap.size k k (Nat.le_refl _) (Nat.le_refl _) (by omega))
  have G0 := lk (ju (jr w none) (Obj.cells (madeCells #[.int .u64 0] k) 24))
  have HU := lk (hu.grown0 (ju (jr w none) (Obj.cells (madeCells #[.int .u64 0] k) 24)))
  have HL : Hid ((List.replicate k (0 : Int)).length + xs.length ≤ 1000000000000) := lk (by rw [List.length_replicate]; omega)
  have HS : Hid (w.heap.size ≤ (w.alloc (Obj.cells (madeCells #[.int .u64 0] k) 24)).heap.size) := lk (by rw [alloc_sz]; omega)
  clear hu h0
  go_enter Tryz.func107, Tryz.ntmps107
  go_wp2_with (at_builtin; refine own_append_sl 25 (by kernel_rfl) (.tmp 11) (.tmp 12) rfl rfl _ (List.replicate k 0) rfl OW.out _ xs rfl HU.out HL.out HS.out ?_; intro v1 w1 ow1 g1)
  go_ret
  exact ⟨v1, rfl, ow1, gb_new G0.out g1 (fun i hi => by cases hi; exact Nat.le_refl _)⟩
theorem residue_c (w : World) (p : Int) (g r q : Nat) (x0 x1 x2 : Int) (he : w.cell? ⟨g, 0, none⟩ = some (.pointer (some ⟨r, 0, none⟩))) (h : Rg w r q p) (h0 : 0 ≤ x0 ∧ x0 < 18446744073709551616) (h1 : 0 ≤ x1 ∧ x1 < 18446744073709551616) (h2 : 0 ≤ x2 ∧ x2 < 18446744073709551616) :
  Calls Tryz.prog 109 #[.pointer (some ⟨g, 0, none⟩), .agg #[.int .u64 x0, .int .u64 x1, .int .u64 x2]] w fun e w' => e = .returned (.int .u64 ((x0 + 18446744073709551616 * (x1 + 18446744073709551616 * x2)) % p)) ∧ w.grownBy w' none := by
 have hp := h.m.neg0
 have gb := ju (jr w none) (Obj.cells #[.int .u64 x0, .int .u64 x1, .int .u64 x2] 179)
 have C := cs_new w #[.int .u64 x0, .int .u64 x1, .int .u64 x2] 179
 have HG := lk gb
 have HE := lk he
 have HR := lk h
 have HC := lk C
 have B : (9223372036854775808 : Int) * 2 % p = 18446744073709551616 % p := by rw [show (9223372036854775808 : Int) * 2 = 18446744073709551616 by decide]
 obtain ⟨b, hb⟩ : ∃ b, b = 18446744073709551616 % p := ⟨_, rfl⟩
 have b0 := mod_nn (x := 18446744073709551616) hp
 rw [← hb] at b0
 have M0 := lk (fun w1 (k : w.grownBy w1 none) => modMul_c w1 q p 9223372036854775808 2 (h.m.grown0 k) (by decide) (by decide))
 have HB := lk hb
 have HBB := lk B
 clear he h C gb B hb
 have e0 := gb_cell0 HG.out HE.out
 have r0 := gb_cell0 HG.out HR.out.c
 go_enter Tryz.func109, Tryz.ntmps109
 go_wp2_with fail
 refine (M0.out _ HG.out).mono ?_
 rintro e w1 ⟨rfl, g1⟩
 rw [HBB.out, ← HB.out]
 have G1 := lk (jt HG.out g1)
 clear e0 r0 M0
 have e1 := gb_cell0 G1.out HE.out
 have r1 := gb_cell0 G1.out HR.out.c
 have c1 := (HC.out.grown0 g1)
 have C1 := lk c1
 have d2 := c1.cell 2 rfl
 have RD := lk (modRed_c w1.drew q p x2 (HR.out.m.grown0 G1.out).drew h2.1)
 clear c1 g1 HC
 go_wp2
 refine Canon.region_canon (by kernel_rfl) (by kernel_rfl) ?_
 go_wp2_with fail
 refine (RD.out).mono ?_
 rintro e w2 ⟨rfl, hw⟩
 subst hw
 clear RD
 go_wp2
 refine ⟨by kernel_rfl, ?_⟩
 have m2 := mod_nn (x := x2) hp
 obtain ⟨y2, hy2⟩ : ∃ y, y = x2 % p := ⟨_, rfl⟩
 rw [← hy2] at m2 ⊢
 have Y2 := lk hy2
 clear hy2 d2
 go_wp2
 have my2 := m2
 have F1 := lk (Canon.sf_cons e1 (Canon.sf_cons r1 (Canon.sf_cons (C1.out.cell 1 rfl) (Canon.sf_nil _)))).drew
 have GD := lk (jw G1.out)
 have d1 := C1.out.cell 1 rfl
 have ML := lk (modMul_c w1.drew.drew q p y2 b (HR.out.m.grown0 GD.out).drew my2.1 b0.1)
 refine Canon.region_held [28, 31, 43] _ (by kernel_rfl) (by kernel_rfl) F1.out ?_
 refine Canon.segs_at 16 _ _ _ (by kernel_rfl) ?_
 simp only [ja, jb, jc, jd]
 go_wp2_with fail
 refine (ML.out).mono ?_
 rintro e wa ⟨rfl, ga⟩
 have mm := mod_nn (x := y2 * b) hp
 have AD := lk (modAdd_c wa q p (y2 * b % p) x1 ((HR.out.m.grown0 GD.out).drew.grown0 ga) mm.1 h1.1)
 have dd := gb_cell0 ga (gb_cell0 (jw (jw (jr w1 none))) d1)
 have FF := lk (Canon.sf_grown0 F1.out.drew ga)
 clear ML d1 mm
 go_wp2
 refine ⟨FF.out, ?_⟩
 refine Canon.segs_at 2 _ _ _ (by kernel_rfl) ?_
 simp only [ja, jb, jc, jd]
 go_wp2_with fail
 refine (AD.out).mono ?_
 rintro e wb ⟨rfl, gb⟩
 have GN := lk (jt (jt (jw GD.out) ga) gb)
 have FG := lk (Canon.sf_grown0 FF.out gb)
 have CN := lk ((C1.out.drew.drew.grown0 ga).grown0 gb)
 have my1 := mod_nn (x := y2 * b % p + x1) hp
 obtain ⟨y1, hy1⟩ : ∃ y, y = (y2 * b % p + x1) % p := ⟨_, rfl⟩
 rw [← hy1] at my1 ⊢
 have Yy1 := lk hy1
 clear AD dd FF ga gb hy1 e1 r1
 go_wp2
 refine ⟨FG.out, ?_⟩
 refine Canon.segs_end _ _ _ (by kernel_rfl) ?_
 go_wp2
 refine ⟨by kernel_rfl, by kernel_rfl, by kernel_rfl, ?_⟩
 clear FG F1
 have e1 := gb_cell0 GN.out HE.out
 have r1 := gb_cell0 GN.out HR.out.c
 obtain ⟨w3, rfl⟩ : ∃ w3 : World, w3 = wb := ⟨_, rfl⟩
 have G2 := lk GN.out
 clear GN
 go_wp2
 have F2 := lk (Canon.sf_cons e1 (Canon.sf_cons r1 (Canon.sf_cons (CN.out.cell 0 rfl) (Canon.sf_nil _))))
 have d2 := CN.out.cell 0 rfl
 have ML := lk (modMul_c w3.drew q p y1 b (HR.out.m.grown0 G2.out).drew my1.1 b0.1)
 refine Canon.region_held [48, 51, 63] _ (by kernel_rfl) (by kernel_rfl) F2.out ?_
 refine Canon.segs_at 16 _ _ _ (by kernel_rfl) ?_
 simp only [ja, jb, jc, jd]
 go_wp2_with fail
 refine (ML.out).mono ?_
 rintro e wa ⟨rfl, ga⟩
 have mm := mod_nn (x := y1 * b) hp
 have AD := lk (modAdd_c wa q p (y1 * b % p) x0 ((HR.out.m.grown0 G2.out).drew.grown0 ga) mm.1 h0.1)
 have dd := gb_cell0 ga (gb_cell0 (jw (jr w3 none)) d2)
 have FF := lk (Canon.sf_grown0 F2.out.drew ga)
 clear ML d2 mm
 go_wp2
 refine ⟨FF.out, ?_⟩
 refine Canon.segs_at 2 _ _ _ (by kernel_rfl) ?_
 simp only [ja, jb, jc, jd]
 go_wp2_with fail
 refine (AD.out).mono ?_
 rintro e wb ⟨rfl, gb⟩
 have GN := lk (jt (jt (jw G2.out) ga) gb)
 have FG := lk (Canon.sf_grown0 FF.out gb)
 have CM := lk ((CN.out.drew.grown0 ga).grown0 gb)
 have my0 := mod_nn (x := y1 * b % p + x0) hp
 obtain ⟨y0, hy0⟩ : ∃ y, y = (y1 * b % p + x0) % p := ⟨_, rfl⟩
 rw [← hy0] at my0 ⊢
 have Yy0 := lk hy0
 clear AD dd FF ga gb hy0 e1 r1
 go_wp2
 refine ⟨FG.out, ?_⟩
 refine Canon.segs_end _ _ _ (by kernel_rfl) ?_
 go_wp2
 refine ⟨by kernel_rfl, by kernel_rfl, by kernel_rfl, ?_⟩
 clear FG F2
 go_wp2
 go_ret
 refine ⟨?_, GN.out⟩
 have k1 : Cg p y1 (x1 + 18446744073709551616 * x2) := by
  rw [Yy1.out, Y2.out, HB.out]
  refine (Cg.mod _ _).trans (((Cg.mod _ _).trans ((Cg.mod p x2).mul (Cg.mod p _))).add (Cg.refl p x1) |>.trans (Cg.of_eq (by omega)))
 have k0 : y0 = (x0 + 18446744073709551616 * (x1 + 18446744073709551616 * x2)) % p := by
  rw [Yy0.out, HB.out]
  refine ((((Cg.mod p _).trans (k1.mul (Cg.mod p _))).add (Cg.refl p x0)).trans (Cg.of_eq ?_))
  omega
 rw [k0]; rfl
end Go.Proofs.YtgalbnkcijmnnaaGreatDoor
namespace Go.Proofs.YtgalbnkcijmnnaaGreatDoor.Canon
open Go
section
variable {P : Program} {ops : Array Oper} {H : List Nat} {F : List (Addr × Value)}
def bitB (ms : List Nat) (i j : Nat) : Bool := decide (j < i) && (ms.getD i 0).testBit j
def compatI (H : List Nat) (ops : Array Oper) (j i : Nat) : Bool := match ops[j]?, ops[i]? with
 | some x, some y => compat H ops x y
 | _, _ => false
def softI (H : List Nat) (ops : Array Oper) (i : Nat) : Bool := match ops[i]? with
 | some x => softB H x
 | none => false
def relB (H : List Nat) (ms : List Nat) (ops : Array Oper) (j i : Nat) : Bool := j != i && (bitB ms i j || compatI H ops j i)
def pairB (H : List Nat) (ms : List Nat) (ops : Array Oper) : List Nat → Bool
 | [] => true
 | j :: l => (l.all fun i => relB H ms ops j i) && pairB H ms ops l
def early (H : List Nat) (ms : List Nat) (ops : Array Oper) (s j : Nat) : Bool := !bitB ms j s && (bitB ms s j || compatI H ops j s)
def freeB (H : List Nat) (ms : List Nat) (ops : Array Oper) (s j : Nat) : Bool := early H ms ops s j && compatI H ops s j && softI H ops j
def tailOk (H : List Nat) (ms : List Nat) (ops : Array Oper) (s : Nat) : List (List Nat) → Bool
 | [] => false
 | [b] => b.all fun j => bitB ms j s
 | [] :: _ :: _ => false
 | (m :: tl) :: c :: bs => (tl.all fun j => freeB H ms ops s j) && ((c :: bs).dropLast.all fun b => match b with | [] => true | m' :: _ => bitB ms m' m) && tailOk H ms ops s (c :: bs)
def steadyL (H : List Nat) (ops : Array Oper) : List Oper → Bool
 | [] => true
 | o :: l => (!wants2 H o || (o :: l).all fun o' => match o'.dst with | some d => !(o.looksAt ops).contains d | none => true) && steadyL H ops l
def operL (ops : Array Oper) (l : List Nat) : List Oper := l.filterMap (ops[·]?)
def steadyT (H : List Nat) (ops : Array Oper) (s : Nat) : List (List Nat) → Bool
 | [] => false
 | [b] => steadyL H ops (operL ops (s :: b))
 | b :: c :: bs => steadyL H ops (operL ops (b ++ s :: (c :: bs).flatten)) && steadyT H ops s (c :: bs)
def checkS (P : Program) (H : List Nat) (ops : Array Oper) (s : Nat) (B : List (List Nat)) : Bool :=
 let ms := masksFrom [] ops.toList
 low ops && justified ms ops && static P ops && decide (s < ops.size) && ((List.range ops.size).all fun i => i == s || B.flatten.contains i) && (B.flatten.all fun i => decide (i < ops.size) && i != s) && decide (B.flatten.length + 1 = ops.size) && pairB H ms ops B.flatten && steadyT H ops s B &&
 (match B with
  | b :: c :: bs => (b.all fun j => early H ms ops s j) && tailOk H ms ops s (c :: bs)
  | _ => false)
theorem lookL {o : Oper} {l : List Oper} (h : steadyL H ops (o :: l) = true) (hn : wants2 H o = true) {o' : Oper} (ho : o' ∈ o :: l) {t : Nat} (ht : t ∈ o.looksAt ops) : o'.dst ≠ some t := by
 simp only [steadyL, hn, Bool.not_true, Bool.false_or, Bool.and_eq_true] at h
 have := List.all_eq_true.1 h.1 o' ho
 intro hd
 rw [hd] at this
 simp at this
 exact this ht
def EndOk (P : Program) (ops : Array Oper) (H : List Nat) (F : List (Addr × Value)) (a : Act) : Prop := shapes P ops a = true ∧ heldAddrs ops H a = F.map (fun q => some q.1) ∧ heldFits P ops H F a = true
theorem endOk {a : Act} (h1 : shapes P ops a = true) (h2 : heldAddrs ops H a = F.map (fun q => some q.1)) (h3 : heldFits P ops H F a = true) : EndOk P ops H F a := ⟨h1, h2, h3⟩
def Outs (P : Program) (ops : Array Oper) (H : List Nat) (F : List (Addr × Value)) (R : List Oper) (a : Act) : Prop := ∃ a' : Act, EndOk P ops H F a' ∧ ∀ t, (∀ o ∈ R, o.dst ≠ some t) → a'.tmps[t]? = a.tmps[t]?
theorem operL_cons {i : Nat} {o : Oper} (ho : ops[i]? = some o) (l : List Nat) : operL ops (i :: l) = o :: operL ops l := by unfold operL; rw [List.filterMap_cons, ho]
theorem operL_app (l1 l2 : List Nat) : operL ops (l1 ++ l2) = operL ops l1 ++ operL ops l2 := by unfold operL; rw [List.filterMap_append]
theorem to_runG {K1 K2 : Act → World → Prop} {R : List Oper} (hst : static P ops = true) (hK : ∀ a w, SF F w → K1 a w → K2 a w) (hout : ∀ a w, K1 a w → Outs P ops H F R a) :
  ∀ (l : List Nat) (a : Act) (w : World), (∀ i ∈ l, i < ops.size) → steadyL H ops (operL ops l ++ R) = true → SF F w → segs P ops F K1 (operL ops l) a w → Run P ops H F l K2 a w := by
 intro l
 induction l with
 | nil => intro a w _ _ hsf h; exact hK a w hsf h
 | cons i l ih =>
  intro a w hlt hsd hsf h
  have hi := hlt i List.mem_cons_self
  have ho : ops[i]? = some ops[i] := Array.getElem?_eq_getElem hi
  obtain ⟨o, ho⟩ : ∃ o, ops[i]? = some o := ⟨_, ho⟩
  rw [operL_cons ho] at h hsd
  have hmem : o ∈ ops.toList := List.mem_of_getElem? (by simpa using ho : ops.toList[i]? = some o)
  have hcal : Cal2 P ops H F o a := by
   cases hn : wants2 H o with
   | false =>
    unfold wants2 at hn
    rw [Bool.or_eq_false_iff] at hn
    exact ⟨cal_static hst hmem hn.1 a, fun hh => by rw [hn.2] at hh; cases hh⟩
   | true =>
    obtain ⟨a1, w1, hk1, hag1⟩ := segs_out _ _ _ h
    obtain ⟨a', ⟨hsh, hha, hft⟩, hag2⟩ := hout a1 w1 hk1
    have hlook : ∀ t ∈ o.looksAt ops, a'.tmps[t]? = a.tmps[t]? := fun t ht =>
     (hag2 t fun o' ho' => lookL hsd hn (by simp [ho']) ht).trans (hag1 t fun o' ho' => lookL hsd hn (by
      rcases List.mem_cons.1 ho' with h | h
      ·simp [h]
      ·simp [h]) ht)
    have hw : Region.wanted o (yielded ops a'.tmps) = Region.wanted o (yielded ops a.tmps) := by
     unfold Region.wanted
     cases hg : o.guard with
     | none => rfl
     | some gw =>
      obtain ⟨g, want⟩ := gw
      have : yielded ops a'.tmps g = yielded ops a.tmps g := by
       unfold yielded
       cases ht : (ops[g]?).bind (·.dst) with
       | none => rfl
       | some t =>
        have := hlook t (List.mem_append_right _ (by simp [hg, ht]))
        simp [this]
      simp only [this]
    have hag2 : Agree (ops := ops) o a' a := Agree.symm ⟨fun x hx => by
     cases x with
     | tmp t =>
      have := hlook t (List.mem_append_left _ (List.mem_filterMap.2 ⟨.tmp t, by simpa using hx, rfl⟩))
      simp [Act.eval, this]
     | _ => rfl, hw⟩
    refine hag2.cal2 ⟨?_, fun hh hwa => ?_⟩
    ·cases hne : needs o with
     | false => exact cal_static hst hmem hne a'
     | true =>
      intro hk hwa
      have := List.all_eq_true.1 hsh o hmem
      unfold Wants at hwa
      simpa [hne, hwa] using this
    ·have hin : o ∈ ops.toList.filter (fun o => heldB H o && Region.wanted o (yielded ops a'.tmps)) := List.mem_filter.2 ⟨hmem, by unfold Wants at hwa; simp [hh, hwa]⟩
     have hha2 : (ops.toList.filter (fun o => heldB H o && Region.wanted o (yielded ops a'.tmps))).map (fun o => addrOf a'.eval o) = F.map (fun q => some q.1) := by
      rw [← hha]
      unfold heldAddrs
      induction ops.toList with
      | nil => rfl
      | cons x l ih =>
       rw [List.filterMap_cons, List.filter_cons]
       by_cases hx : (heldB H x && Region.wanted x (yielded ops a'.tmps)) = true
       ·rw [if_pos hx, if_pos hx, List.map_cons, ih]
       ·rw [if_neg hx, if_neg hx, ih]
     obtain ⟨k, hk⟩ := List.mem_iff_getElem?.1 hin
     have hk2 := congrArg (·[k]?) hha2
     simp only [List.getElem?_map, hk, Option.map_some] at hk2
     cases hq : F[k]? with
     | none => rw [hq] at hk2; cases hk2
     | some q =>
      rw [hq] at hk2
      have he : addrOf a'.eval o = some q.1 := by simpa using hk2
      refine ⟨q, List.mem_of_getElem? hq, he, ?_⟩
      have hz : (o, q) ∈ (ops.toList.filter (fun o => heldB H o && Region.wanted o (yielded ops a'.tmps))).zip F := List.mem_of_getElem? (i := k) (by rw [List.getElem?_zip_eq_some]; exact ⟨hk, hq⟩)
      exact List.all_eq_true.1 hft (o, q) hz
  have hsd2 : steadyL H ops (operL ops l ++ R) = true := by
   simp only [List.cons_append, steadyL, Bool.and_eq_true] at hsd; exact hsd.2
  simp only [Run, ho]
  exact ⟨hsf, hcal, (segs_step hsf hcal.1 h).mono fun a1 v w1 _ h1 => ⟨h1.1, ih _ _ (fun j hj => hlt j (List.mem_cons_of_mem _ hj)) hsd2 h1.1 h1.2⟩⟩
theorem run_app {K : Act → World → Prop} (l2 : List Nat) : ∀ (l1 : List Nat) (a : Act) (w : World), Run P ops H F (l1 ++ l2) K a w ↔ Run P ops H F l1 (Run P ops H F l2 K) a w := by
 intro l1
 induction l1 with
 | nil => intro a w; rfl
 | cons i l1 ih =>
  intro a w
  simp only [List.cons_append, Run]
  cases ho : ops[i]? with
  | none => exact ih a w
  | some o => exact ⟨fun h => S.mono h fun _ _ _ _ h => (ih _ _).1 h, fun h => S.mono h fun _ _ _ _ h => (ih _ _).2 h⟩
theorem S.and {o : Oper} {K1 K2 : Act → World → Prop} {a : Act} {w : World} (hk : softB H o = true) (h1 : S P ops H F o K1 a w) (h2 : S P ops H F o K2 a w) : S P ops H F o (fun a w => K1 a w ∧ K2 a w) a w := by
 obtain ⟨v1, y1, _, k1⟩ := h1.2.2.yieldsS hk h1.2.1 h1.1
 obtain ⟨v2, y2, _, k2⟩ := h2.2.2.yieldsS hk h2.2.1 h2.1
 have : v2 = v1 := by
  rcases y2 with ⟨hw, hr⟩ | ⟨hw, rfl⟩ <;> rcases y1 with ⟨hw', hr'⟩ | ⟨hw', rfl⟩
  ·have := (hr w h1.1).symm.trans (hr' w h1.1); injection this with h; injection h
  ·rw [hw] at hw'; exact absurd hw' (by decide)
  ·rw [hw] at hw'; exact absurd hw' (by decide)
  ·rfl
 subst this
 exact ⟨h1.1, h1.2.1, Step.of_yields h1.1 y1 ⟨h1.1, k1, k2⟩⟩
def RunT (P : Program) (ops : Array Oper) (H : List Nat) (F : List (Addr × Value)) (s : Nat) (K : Act → World → Prop) : List (List Nat) → Act → World → Prop
 | [], _, _ => False
 | [b], a, w => Run P ops H F (s :: b) K a w
 | b :: c :: bs, a, w => Run P ops H F b (fun a w => (bs ≠ [] → Run P ops H F (s :: (c :: bs).flatten) K a w) ∧ RunT P ops H F s K (c :: bs) a w) a w
def Ord (H : List Nat) (ms : List Nat) (ops : Array Oper) (l : List Nat) : Prop := l.Pairwise fun j i => relB H ms ops j i = true
theorem rel_ne {ms : List Nat} {j i : Nat} (h : relB H ms ops j i = true) : j ≠ i := by
 unfold relB at h
 simp only [Bool.and_eq_true, bne_iff_ne] at h
 exact h.1
theorem rel_compat {ms : List Nat} {j i : Nat} (h : relB H ms ops j i = true) (hb : bitB ms i j = false) : compatI H ops j i = true := by
 unfold relB at h
 simp only [Bool.and_eq_true, hb, Bool.false_or] at h
 exact h.2
theorem ord_of {ms : List Nat} : ∀ (l : List Nat), pairB H ms ops l = true → Ord H ms ops l
 | [], _ => List.Pairwise.nil
 | j :: l, h => by
  simp only [pairB, Bool.and_eq_true] at h
  exact List.pairwise_cons.2 ⟨fun i hi => List.all_eq_true.1 h.1 i hi, ord_of l h.2⟩
theorem filter_cut {ms : List Nat} {i : Nat} {c1 c2 : List Nat} (h : Ord H ms ops (c1 ++ i :: c2)) : (c1 ++ i :: c2).filter (· != i) = c1 ++ c2 := by
 have hs := List.pairwise_append.1 h
 rw [List.filter_append, List.filter_cons]
 have e1 : c1.filter (· != i) = c1 := List.filter_eq_self.2 fun x hx => by
  have := rel_ne (hs.2.2 x hx i List.mem_cons_self)
  simpa using this
 have e2 : c2.filter (· != i) = c2 := List.filter_eq_self.2 fun x hx => by
  have := rel_ne (List.rel_of_pairwise_cons hs.2.1 hx)
  simpa using Ne.symm this
 rw [e1, e2]; simp
theorem filter_out {i : Nat} {l : List Nat} (h : i ∉ l) : l.filter (· != i) = l := List.filter_eq_self.2 fun x hx => by
 have : x ≠ i := fun e => h (e ▸ hx)
 simpa using this
theorem sorted_front {ms : List Nat} {K : Act → World → Prop} {i : Nat} {oi : Oper} (hi : ops[i]? = some oi) (hpl : ∀ (j : Nat) (o : Oper), ops[j]? = some o → plain o = true) {l : List Nat} (hs : Ord H ms ops l) (hil : i ∈ l)
  (hb : ∀ j ∈ l, j ≠ i → bitB ms i j = false) {a : Act} {w : World} (h : Run P ops H F l K a w) : S P ops H F oi (Run P ops H F (l.filter (· != i)) K) a w := by
 obtain ⟨c1, c2, rfl⟩ := List.append_of_mem hil
 rw [filter_cut hs]
 have hp := List.pairwise_append.1 hs
 have := run_front hi (hpl i oi hi) c2 c1 (fun j hj => by
  have hr := hp.2.2 j hj i List.mem_cons_self
  have h1 := rel_compat hr (hb j (by simp [hj]) (rel_ne hr))
  unfold compatI at h1
  cases ho : ops[j]? with
  | none => rw [ho] at h1; cases h1
  | some o => rw [ho, hi] at h1; exact ⟨o, rfl, hpl j o ho, h1⟩) a w h
 simpa only [Run, hi] using this
theorem tail_front {ms : List Nat} {s i : Nat} {oi : Oper} (hi : ops[i]? = some oi) (hpl : ∀ (j : Nat) (o : Oper), ops[j]? = some o → plain o = true) (hns : bitB ms i s = false) {K : Act → World → Prop} {os : Oper} (hos : ops[s]? = some os) :
  ∀ (bs : List (List Nat)), tailOk H ms ops s bs = true → Ord H ms ops bs.flatten → (∀ j ∈ bs.flatten, j ≠ i → bitB ms i j = false) → i ∈ bs.flatten →
   (∃ tl c cs, bs = (i :: tl) :: c :: cs) ∨ (softB H oi = true ∧ compatI H ops s i = true ∧ tailOk H ms ops s (bs.map (·.filter (· != i))) = true ∧ ∀ a w, RunT P ops H F s K bs a w → S P ops H F oi (RunT P ops H F s K (bs.map (·.filter (· != i)))) a w)
 | [], h, _, _, _ => by cases h
 | [b], h, _, _, hin => by
  exfalso
  have := List.all_eq_true.1 h i (by simpa using hin)
  rw [hns] at this; cases this
 | [] :: c :: bs, h, _, _, _ => by cases h
 | (m :: tl) :: c :: bs, h, hp, hb, hin => by
  simp only [tailOk, Bool.and_eq_true] at h
  obtain ⟨⟨h1, h2⟩, h3⟩ := h
  have hp' : Ord H ms ops ((m :: tl) ++ (c :: bs).flatten) := hp
  have hpp := List.pairwise_append.1 hp'
  have ih := tail_front (ms := ms) (s := s) hi hpl hns (K := K) hos (c :: bs) h3 hpp.2.1 (fun j hj => hb j (by simp at hj ⊢; exact .inr (.inr hj)))
  have hin' : i ∈ (m :: tl) ∨ i ∈ (c :: bs).flatten := List.mem_append.1 hin
  by_cases him : i = m
  ·subst him; exact .inl ⟨tl, c, bs, rfl⟩
  ·right
   have hmap : ∀ b : List Nat, i ∉ b → b.filter (· != i) = b := fun b => filter_out
   rcases hin' with hin' | hin'
   ·have hit : i ∈ tl := by simpa [him] using hin'
    have hf := List.all_eq_true.1 h1 i hit
    simp only [freeB, Bool.and_eq_true] at hf
    obtain ⟨⟨_, hf2⟩, hf3⟩ := hf
    have hsoft : softB H oi = true := by unfold softI at hf3; rw [hi] at hf3; exact hf3
    have hout : ∀ b ∈ (c :: bs), i ∉ b := fun b hb hx => by
     exact rel_ne (hpp.2.2 i hin' i (List.mem_flatten.2 ⟨b, hb, hx⟩)) rfl
    have hrest : (c :: bs).map (·.filter (· != i)) = c :: bs := by
     conv => rhs; rw [← List.map_id (c :: bs)]
     exact List.map_congr_left fun b hb => hmap b (hout b hb)
    have hmf : (m :: tl).filter (· != i) = m :: tl.filter (· != i) := by rw [List.filter_cons, if_pos (by simpa using Ne.symm him)]
    refine ⟨hsoft, hf2, ?_, fun a w h => ?_⟩
    ·rw [List.map_cons, hrest, hmf]
     simp only [tailOk, Bool.and_eq_true]
     exact ⟨⟨List.all_eq_true.2 fun j hj => List.all_eq_true.1 h1 j (List.mem_filter.1 hj).1, h2⟩, h3⟩
    ·rw [List.map_cons, hrest]
     exact sorted_front hi hpl hpp.1 hin' (fun j hj => hb j (List.mem_append.2 (.inl hj))) h
   ·rcases ih hin' with ⟨tl', c', cs, e⟩ | ⟨hsoft, hsi, htl, hrun⟩
    ·exfalso
     have hh := List.all_eq_true.1 h2 (i :: tl') (by rw [e]; simp [List.dropLast])
     have hbm := hb m (by simp) (fun e => him e.symm)
     simp only at hh
     rw [hbm] at hh; cases hh
    ·have hni : i ∉ m :: tl := fun hx => rel_ne (hpp.2.2 i hx i hin') rfl
     refine ⟨hsoft, hsi, ?_, fun a w h => ?_⟩
     ·rw [List.map_cons, hmap _ hni]
      obtain ⟨c', bs', e'⟩ : ∃ c' bs', (c :: bs).map (·.filter (· != i)) = c' :: bs' := ⟨_, _, rfl⟩
      rw [e'] at htl ⊢
      simp only [tailOk, Bool.and_eq_true]
      refine ⟨⟨h1, List.all_eq_true.2 fun b hb' => ?_⟩, htl⟩
      rw [← e'] at hb'
      have hdl : ((c :: bs).map (·.filter (· != i))).dropLast = (c :: bs).dropLast.map (·.filter (· != i)) := by rw [List.map_dropLast]
      rw [hdl] at hb'
      obtain ⟨b0, hb0, rfl⟩ := List.mem_map.1 hb'
      have hh := List.all_eq_true.1 h2 b0 hb0
      cases b0 with
      | nil => rfl
      | cons m' tl' =>
       by_cases e : m' = i
       ·subst e
        have hbm := hb m (by simp) (fun e => him e.symm)
        simp only at hh
        rw [hbm] at hh; cases hh
       ·rw [List.filter_cons, if_pos (by simpa using e)]
        exact hh
     ·rw [List.map_cons, hmap _ hni]
      have hlast : (c :: bs).map (·.filter (· != i)) = c.filter (· != i) :: bs.map (·.filter (· != i)) := rfl
      rw [hlast] at hrun ⊢
      have hflat : (c.filter (· != i) :: bs.map (·.filter (· != i))).flatten = (c :: bs).flatten.filter (· != i) := by rw [← hlast, List.filter_flatten]
      have h' : Run P ops H F (m :: tl) (S P ops H F oi (fun a w => (bs.map (·.filter (· != i)) ≠ [] → Run P ops H F (s :: (c.filter (· != i) :: bs.map (·.filter (· != i))).flatten) K a w) ∧ RunT P ops H F s K (c.filter (· != i) :: bs.map (·.filter (· != i))) a w)) a w := by
       refine run_mono (fun a w hh => ?_) _ _ _ h
       have k2 := hrun a w hh.2
       by_cases hb0 : bs = []
       ·subst hb0
        exact S.mono k2 fun _ _ _ _ k => ⟨fun e => absurd rfl e, k⟩
       ·have k1 := hh.1 hb0
        simp only [Run, hos] at k1
        have k1' : S P ops H F os (S P ops H F oi (Run P ops H F ((c :: bs).flatten.filter (· != i)) K)) a w := S.mono k1 fun _ _ _ _ k => sorted_front hi hpl hpp.2.1 hin' (fun j hj => hb j (List.mem_append.2 (.inr hj))) k
        have hcs : compat H ops os oi = true := by unfold compatI at hsi; rw [hos, hi] at hsi; exact hsi
        have k1'' := swap (hpl s os hos) (hpl i oi hi) hcs k1'
        refine S.mono (S.and hsoft k1'' k2) fun _ _ _ _ k => ⟨fun _ => ?_, k.2⟩
        rw [hflat]
        simp only [Run, hos]
        exact k.1
      have h'' : Run P ops H F ((m :: tl) ++ [i]) (fun a w => (bs.map (·.filter (· != i)) ≠ [] → Run P ops H F (s :: (c.filter (· != i) :: bs.map (·.filter (· != i))).flatten) K a w) ∧ RunT P ops H F s K (c.filter (· != i) :: bs.map (·.filter (· != i))) a w) a w := by
       rw [run_app]
       simpa only [Run, hi] using h'
      have hsort : Ord H ms ops ((m :: tl) ++ [i]) := List.pairwise_append.2 ⟨hpp.1, List.pairwise_singleton _ _, fun x hx y hy => by
       obtain rfl := List.mem_singleton.1 hy
       exact hpp.2.2 x hx _ hin'⟩
      have hfr := sorted_front hi hpl hsort (by simp) (fun j hj hne => hb j (List.mem_append.2 (by
       rcases List.mem_append.1 hj with h | h
       ·exact .inl h
       ·exact absurd (List.mem_singleton.1 h) hne)) hne) h''
      have e2 : ((m :: tl) ++ [i]).filter (· != i) = m :: tl := by
       rw [filter_cut hsort]; simp
      rw [e2] at hfr
      exact hfr
theorem pass_front {ms : List Nat} {s i : Nat} {oi os : Oper} (hi : ops[i]? = some oi) (hos : ops[s]? = some os) (hpl : ∀ (j : Nat) (o : Oper), ops[j]? = some o → plain o = true) {K : Act → World → Prop} {b c : List Nat} {bs : List (List Nat)}
  (hp : Ord H ms ops (b ++ (c :: bs).flatten)) (hb : ∀ j ∈ b ++ (c :: bs).flatten, j ≠ i → bitB ms i j = false) (hin' : i ∈ (c :: bs).flatten) (hsoft : softB H oi = true) (hsi : compatI H ops s i = true)
  (hrun : ∀ a w, RunT P ops H F s K (c :: bs) a w → S P ops H F oi (RunT P ops H F s K ((c :: bs).map (·.filter (· != i)))) a w) {a : Act} {w : World}
  (h : RunT P ops H F s K (b :: c :: bs) a w) : S P ops H F oi (RunT P ops H F s K (b :: (c :: bs).map (·.filter (· != i)))) a w := by
 have hpp := List.pairwise_append.1 hp
 have hlast : (c :: bs).map (·.filter (· != i)) = c.filter (· != i) :: bs.map (·.filter (· != i)) := rfl
 rw [hlast] at hrun ⊢
 have hflat : (c.filter (· != i) :: bs.map (·.filter (· != i))).flatten = (c :: bs).flatten.filter (· != i) := by rw [← hlast, List.filter_flatten]
 have h' : Run P ops H F b (S P ops H F oi (fun a w => (bs.map (·.filter (· != i)) ≠ [] → Run P ops H F (s :: (c.filter (· != i) :: bs.map (·.filter (· != i))).flatten) K a w) ∧ RunT P ops H F s K (c.filter (· != i) :: bs.map (·.filter (· != i))) a w)) a w := by
  refine run_mono (fun a w hh => ?_) _ _ _ h
  have k2 := hrun a w hh.2
  by_cases hb0 : bs = []
  ·subst hb0
   exact S.mono k2 fun _ _ _ _ k => ⟨fun e => absurd rfl e, k⟩
  ·have k1 := hh.1 hb0
   simp only [Run, hos] at k1
   have k1' : S P ops H F os (S P ops H F oi (Run P ops H F ((c :: bs).flatten.filter (· != i)) K)) a w := S.mono k1 fun _ _ _ _ k => sorted_front hi hpl hpp.2.1 hin' (fun j hj => hb j (List.mem_append.2 (.inr hj))) k
   have hcs : compat H ops os oi = true := by unfold compatI at hsi; rw [hos, hi] at hsi; exact hsi
   have k1'' := swap (hpl s os hos) (hpl i oi hi) hcs k1'
   refine S.mono (S.and hsoft k1'' k2) fun _ _ _ _ k => ⟨fun _ => ?_, k.2⟩
   rw [hflat]
   simp only [Run, hos]
   exact k.1
 have h'' : Run P ops H F (b ++ [i]) (fun a w => (bs.map (·.filter (· != i)) ≠ [] → Run P ops H F (s :: (c.filter (· != i) :: bs.map (·.filter (· != i))).flatten) K a w) ∧ RunT P ops H F s K (c.filter (· != i) :: bs.map (·.filter (· != i))) a w) a w := by
  rw [run_app]
  simpa only [Run, hi] using h'
 have hsort : Ord H ms ops (b ++ [i]) := List.pairwise_append.2 ⟨hpp.1, List.pairwise_singleton _ _, fun x hx y hy => by
  obtain rfl := List.mem_singleton.1 hy
  exact hpp.2.2 x hx _ hin'⟩
 have hfr := sorted_front hi hpl hsort (by simp) (fun j hj hne => hb j (List.mem_append.2 (by
  rcases List.mem_append.1 hj with h | h
  ·exact .inl h
  ·exact absurd (List.mem_singleton.1 h) hne)) hne) h''
 have e2 : (b ++ [i]).filter (· != i) = b := by
  rw [filter_cut hsort]; simp
 rw [e2] at hfr
 exact hfr
theorem least {p : Nat → Prop} : ∀ n, p n → ∃ i, p i ∧ ∀ j, j < i → ¬ p j := by
 intro n
 induction n using Nat.strongRecOn with
 | ind n ih =>
  intro h
  by_cases hh : ∃ j, j < n ∧ p j
  ·obtain ⟨j, hj, hp⟩ := hh; exact ih j hj hp
  ·exact ⟨n, h, fun j hj hp => hh ⟨j, hj, hp⟩⟩
theorem bit_spec {ms : List Nat} {i j : Nat} (h : bitB ms i j = true) : j < i ∧ (ms.getD i 0).testBit j = true := by
 unfold bitB at h
 simpa using h
section
variable {ms : List Nat} {s : Nat} {Q : Exit → Act → World → Prop} (hl : low ops = true) (hj : justified ms ops = true) (hp : ∀ (i : Nat) (o : Oper), ops[i]? = some o → plain o = true)
include hl hj hp
omit hp in
theorem no_bit {listed : Array Bool} (hcl : Closed ops listed) {i : Nat} {o : Oper} (ho : ops[i]? = some o) (hall : ∀ e ∈ o.after, Region.binds .any e = true → listed.getD e.on false = true) {j : Nat} (hjl : listed.getD j false = false) : bitB ms i j = false := by
 cases hb : bitB ms i j with
 | false => rfl
 | true =>
  obtain ⟨h1, h2⟩ := bit_spec hb
  have := bit_listed hl hj hcl i o ho hall j h1 h2
  rw [hjl] at this; cases this
omit hj hp in
theorem some_ready {listed : Array Bool} (hsz : listed.size = ops.size) {i : Nat} (hi : i < ops.size) (hl2 : listed.getD i false = false) (hr : Region.ready .any ops listed = []) : False := by
 obtain ⟨i, ⟨hi, h0⟩, hmin⟩ := least (p := fun i => i < ops.size ∧ listed.getD i false = false) i ⟨hi, hl2⟩
 have ho : ops[i]? = some ops[i] := Array.getElem?_eq_getElem hi
 have e0 : listed.getD i true = listed.getD i false := by
  rw [Array.getD_eq_getD_getElem?, Array.getD_eq_getD_getElem?, Array.getElem?_eq_getElem (by omega)]; rfl
 have : i ∈ Region.ready .any ops listed := mem_ready.2 ⟨by rw [e0]; exact h0, ops[i], ho, fun e he hb => by
  have hlo := low_spec hl ho he hb
  cases hb2 : listed.getD e.on false with
  | true => rfl
  | false => exact absurd ⟨by omega, hb2⟩ (hmin e.on hlo)⟩
 rw [hr] at this
 cases this
omit hl hj hp in
theorem set_get {listed : Array Bool} (hsz : listed.size = ops.size) {i : Nat} (hi : i < ops.size) (k : Nat) : (listed.setIfInBounds i true).getD k false = if k = i then true else listed.getD k false := by
 by_cases hk : k = i
 ·subst hk; rw [if_pos rfl]; simp [show k < listed.size by omega]
 ·rw [if_neg hk, getD_set_ne false (Ne.symm hk)]
omit hl hj hp in
theorem set_closed {listed : Array Bool} (hsz : listed.size = ops.size) (hcl : Closed ops listed) {i : Nat} {o : Oper} (ho : ops[i]? = some o) (hall : ∀ e ∈ o.after, Region.binds .any e = true → listed.getD e.on false = true) : Closed ops (listed.setIfInBounds i true) := by
 have hin : i < ops.size := (Array.getElem?_eq_some_iff.1 ho).1
 intro k ok hok hlk e he hb
 rw [set_get hsz hin] at hlk ⊢
 by_cases hei : e.on = i
 ·rw [if_pos hei]
 ·rw [if_neg hei]
  by_cases hk : k = i
  ·subst hk
   have : ok = o := Option.some.inj (hok.symm.trans ho)
   subst this
   exact hall e he hb
  ·rw [if_neg hk] at hlk
   exact hcl k ok hok hlk e he hb
theorem main_orderS :
  ∀ (fuel : Nat) (listed : Array Bool) (c : List Nat) (a : Act) (w : World), fuel = c.length → listed.size = ops.size → listed.getD s false = true →
   (∀ i, i ∈ c ↔ i < ops.size ∧ listed.getD i false = false) → Ord H ms ops c → Closed ops listed →
   Run P ops H F c (fun a w => Q .normal a w) a w → wpAny P .any ops Q fuel listed a w := by
 intro fuel
 induction fuel with
 | zero =>
  intro listed c a w hlen hsz _ hmem _ _ h
  obtain rfl : c = [] := List.eq_nil_of_length_eq_zero hlen.symm
  refine ⟨?_, h⟩
  refine List.eq_nil_iff_forall_not_mem.2 fun i hi => ?_
  obtain ⟨h0, o, ho, _⟩ := mem_ready.1 hi
  have h2 : i < ops.size := (Array.getElem?_eq_some_iff.1 ho).1
  have : i ∈ ([] : List Nat) := (hmem i).2 ⟨h2, by
   rw [Array.getD_eq_getD_getElem?, Array.getElem?_eq_getElem (by omega)] at h0 ⊢; exact h0⟩
  cases this
 | succ fuel ih =>
  intro listed c a w hlen hsz hls hmem hsort hcl h
  refine ⟨fun hr => ?_, fun i hi => ?_⟩
  ·exfalso
   cases c with
   | nil => simp at hlen
   | cons i c =>
    have hi := (hmem i).1 List.mem_cons_self
    exact some_ready hl hsz hi.1 hi.2 hr
  ·obtain ⟨h0, o, ho, hall⟩ := mem_ready.1 hi
   have hin : i < ops.size := (Array.getElem?_eq_some_iff.1 ho).1
   have h0' : listed.getD i false = false := by
    rw [Array.getD_eq_getD_getElem?, Array.getElem?_eq_getElem (by omega)] at h0 ⊢; exact h0
   have hic : i ∈ c := (hmem i).2 ⟨hin, h0'⟩
   have hne : ∀ j ∈ c, j ≠ s := fun j hj e => by
    have := ((hmem j).1 hj).2
    rw [e, hls] at this; cases this
   have hfr := sorted_front ho hp hsort hic (fun j hj2 _ => no_bit hl hj hcl ho hall ((hmem j).1 hj2).2) h
   refine hfr.2.2.wpOp ho |> wpOp_mono fun a1 w1 h1 => ?_
   have hset := set_get hsz hin
   have his := hne i hic
   refine ih (listed.setIfInBounds i true) (c.filter (· != i)) a1 w1 ?_ (by simpa using hsz) (by rw [hset, if_neg (Ne.symm his)]; exact hls) (fun k => ?_) (List.Pairwise.filter _ hsort) (set_closed hsz hcl ho hall) h1.2
   ·obtain ⟨c1, c2, rfl⟩ := List.append_of_mem hic
    rw [filter_cut hsort]
    simp at hlen ⊢; omega
   ·rw [hset k, List.mem_filter]
    by_cases hk : k = i
    ·subst hk; simp
    ·rw [if_neg hk, ← hmem k]; simp [hk]
theorem main_s {os : Oper} (hos : ops[s]? = some os) :
  ∀ (fuel : Nat) (listed : Array Bool) (b c : List Nat) (bs : List (List Nat)) (a : Act) (w : World), fuel = (b :: c :: bs).flatten.length + 1 → listed.size = ops.size → listed.getD s false = false →
   (∀ i, i ∈ (b :: c :: bs).flatten ↔ i < ops.size ∧ i ≠ s ∧ listed.getD i false = false) → Ord H ms ops (b :: c :: bs).flatten → Closed ops listed →
   (b.all fun j => early H ms ops s j) = true → tailOk H ms ops s (c :: bs) = true →
   RunT P ops H F s (fun a w => Q .normal a w) (b :: c :: bs) a w → wpAny P .any ops Q fuel listed a w := by
 intro fuel
 induction fuel with
 | zero => intro listed b c bs a w hlen; simp at hlen
 | succ fuel ih =>
  intro listed b c bs a w hlen hsz hls hmem hsort hcl hearly htail h
  have hss : s < ops.size := (Array.getElem?_eq_some_iff.1 hos).1
  have hlen' : fuel = (b :: c :: bs).flatten.length := by omega
  refine ⟨fun hr => (some_ready hl hsz hss hls hr).elim, fun i hi => ?_⟩
  obtain ⟨h0, o, ho, hall⟩ := mem_ready.1 hi
  have hin : i < ops.size := (Array.getElem?_eq_some_iff.1 ho).1
  have h0' : listed.getD i false = false := by
   rw [Array.getD_eq_getD_getElem?, Array.getElem?_eq_getElem (by omega)] at h0 ⊢; exact h0
  have hset := set_get hsz hin
  have hsplit : (b :: c :: bs).flatten = b ++ (c :: bs).flatten := rfl
  have hpp := List.pairwise_append.1 (hsplit ▸ hsort)
  by_cases his : i = s
  ·subst his
   obtain rfl : o = os := Option.some.inj (ho.symm.trans hos)
   have h1 : Run P ops H F (b ++ i :: (c :: bs).flatten) (fun a w => Q .normal a w) a w := by
    rw [run_app]
    refine run_mono (fun a w hh => ?_) _ _ _ h
    by_cases hb0 : bs = []
    ·subst hb0
     have := hh.2
     simpa only [RunT, List.flatten_cons, List.flatten_nil, List.append_nil] using this
    ·exact hh.1 hb0
   have h2 := run_front ho (hp i o ho) (c :: bs).flatten b (fun j hjb => by
    have he := List.all_eq_true.1 hearly j hjb
    have hjm := (hmem j).1 (List.mem_append.2 (.inl hjb))
    simp only [early, Bool.and_eq_true, Bool.or_eq_true] at he
    rcases he.2 with he | he
    ·rw [no_bit hl hj hcl ho hall hjm.2.2] at he; cases he
    ·unfold compatI at he
     cases hoj : ops[j]? with
     | none => rw [hoj] at he; cases he
     | some oj => rw [hoj, ho] at he; exact ⟨oj, rfl, hp j oj hoj, he⟩) a w h1
   simp only [Run, ho] at h2
   refine h2.2.2.wpOp ho |> wpOp_mono fun a1 w1 h1 => ?_
   refine main_orderS (F := F) hl hj hp fuel (listed.setIfInBounds i true) (b ++ (c :: bs).flatten) a1 w1 hlen' (by simpa using hsz) (by rw [hset, if_pos rfl]) (fun k => ?_) hsort (set_closed hsz hcl ho hall) h1.2
   rw [hset k]
   by_cases hk : k = i
   ·subst hk
    rw [if_pos rfl]
    exact ⟨fun hm => absurd rfl ((hmem k).1 hm).2.1, fun hm => by simp at hm⟩
   ·rw [if_neg hk]
    have := hmem k
    rw [hsplit] at this
    rw [this]; simp [hk]
  ·have hic : i ∈ (b :: c :: bs).flatten := (hmem i).2 ⟨hin, his, h0'⟩
   have hcmp : ∀ j ∈ b ++ (c :: bs).flatten, j ≠ i → bitB ms i j = false := fun j hjm _ => no_bit hl hj hcl ho hall ((hmem j).1 hjm).2.2
   have hmem' : ∀ k, k ∈ (b :: c :: bs).flatten.filter (· != i) ↔ k < ops.size ∧ k ≠ s ∧ (listed.setIfInBounds i true).getD k false = false := fun k => by
    rw [hset k, List.mem_filter]
    by_cases hk : k = i
    ·subst hk; simp
    ·rw [if_neg hk, ← hmem k]; simp [hk]
   have hlenf : fuel = ((b :: c :: bs).flatten.filter (· != i)).length + 1 := by
    obtain ⟨c1, c2, e⟩ := List.append_of_mem hic
    rw [e] at hsort hlen' ⊢
    rw [filter_cut hsort]
    simp at hlen' ⊢; omega
   have hls' : (listed.setIfInBounds i true).getD s false = false := by rw [hset, if_neg (Ne.symm his)]; exact hls
   have hsz' : (listed.setIfInBounds i true).size = ops.size := by simpa using hsz
   have hcl' := set_closed hsz hcl ho hall
   have hsortf : Ord H ms ops ((b :: c :: bs).flatten.filter (· != i)) := List.Pairwise.filter (· != i) hsort
   have hic' : i ∈ b ∨ i ∈ (c :: bs).flatten := List.mem_append.1 hic
   rcases hic' with hib | hit
   ·have hout : i ∉ (c :: bs).flatten := fun hx => rel_ne (hpp.2.2 i hib i hx) rfl
    have hfl : (b :: c :: bs).flatten.filter (· != i) = (b.filter (· != i) :: c :: bs).flatten := by
     rw [hsplit, List.filter_append, filter_out hout]; rfl
    rw [hfl] at hmem' hlenf hsortf
    have hfr := sorted_front ho hp hpp.1 hib (fun j hjb => hcmp j (List.mem_append.2 (.inl hjb))) h
    refine hfr.2.2.wpOp ho |> wpOp_mono fun a1 w1 h1 => ?_
    exact ih _ _ _ _ a1 w1 hlenf hsz' hls' hmem' hsortf hcl' (List.all_eq_true.2 fun j hjb => List.all_eq_true.1 hearly j (List.mem_filter.1 hjb).1) htail h1.2
   ·have hns := no_bit hl hj hcl ho hall hls
    rcases tail_front (H := H) (F := F) (P := P) ho hp hns (K := fun a w => Q .normal a w) hos (c :: bs) htail hpp.2.1 (fun j hjm => hcmp j (List.mem_append.2 (.inr hjm))) hit with ⟨tl, c', cs, e⟩ | ⟨hsoft, hsi, htl, hrun⟩
    ·simp only [List.cons.injEq] at e
     obtain ⟨rfl, rfl⟩ := e
     simp only [tailOk, Bool.and_eq_true] at htail
     have hsp2 : (b :: (i :: tl) :: c' :: cs).flatten = (b ++ i :: tl) ++ (c' :: cs).flatten := by simp
     have hpp2 := List.pairwise_append.1 (hsp2 ▸ hsort)
     have h1 : Run P ops H F (b ++ i :: tl) (fun a w => (cs ≠ [] → Run P ops H F (s :: (c' :: cs).flatten) (fun a w => Q .normal a w) a w) ∧ RunT P ops H F s (fun a w => Q .normal a w) (c' :: cs) a w) a w := by
      rw [run_app]
      exact run_mono (fun a w hh => hh.2) _ _ _ h
     have hfr := sorted_front ho hp hpp2.1 (by simp) (fun j hjb => hcmp j (by
      have : j ∈ (b :: (i :: tl) :: c' :: cs).flatten := by rw [hsp2]; exact List.mem_append.2 (.inl hjb)
      exact this)) h1
     rw [filter_cut hpp2.1] at hfr
     have hfl : (b :: (i :: tl) :: c' :: cs).flatten.filter (· != i) = ((b ++ tl) :: c' :: cs).flatten := by
      have hs2 : Ord H ms ops (b ++ i :: (tl ++ (c' :: cs).flatten)) := by
       have := hsp2 ▸ hsort
       simpa using this
      have := filter_cut hs2
      rw [hsp2, show (b ++ i :: tl) ++ (c' :: cs).flatten = b ++ i :: (tl ++ (c' :: cs).flatten) by simp, this]; simp
     rw [hfl] at hmem' hlenf hsortf
     refine hfr.2.2.wpOp ho |> wpOp_mono fun a1 w1 h1 => ?_
     refine ih _ _ _ _ a1 w1 hlenf hsz' hls' hmem' hsortf hcl' (List.all_eq_true.2 fun j hjb => ?_) htail.2 h1.2
     rcases List.mem_append.1 hjb with hjb | hjb
     ·exact List.all_eq_true.1 hearly j hjb
     ·have := List.all_eq_true.1 htail.1.1 j hjb
      simp only [freeB, Bool.and_eq_true] at this
      exact this.1.1
    ·have hib : i ∉ b := fun hx => rel_ne (hpp.2.2 i hx i hit) rfl
     have hfl : (b :: c :: bs).flatten.filter (· != i) = (b :: (c :: bs).map (·.filter (· != i))).flatten := by
      rw [hsplit, List.filter_append, filter_out hib, List.filter_flatten]; rfl
     rw [hfl] at hmem' hlenf hsortf
     have hfr := pass_front ho hos hp (hsplit ▸ hsort) hcmp hit hsoft hsi hrun h
     refine hfr.2.2.wpOp ho |> wpOp_mono fun a1 w1 h1 => ?_
     exact ih _ b (c.filter (fun x => x != i)) (bs.map (fun b => List.filter (fun x => x != i) b)) a1 w1 hlenf hsz' hls' hmem' hsortf hcl' hearly htl h1.2
end
def segT (P : Program) (ops : Array Oper) (F : List (Addr × Value)) (K : Act → World → Prop) (s : Nat) : List (List Nat) → Act → World → Prop
 | [], _, _ => False
 | [b], a, w => segs P ops F K (operL ops (s :: b)) a w
 | b :: c :: bs, a, w => segs P ops F (fun a w => (bs ≠ [] → segs P ops F K (operL ops (s :: (c :: bs).flatten)) a w) ∧ segT P ops F K s (c :: bs) a w) (operL ops b) a w
theorem outs_of {K : Act → World → Prop} {l : List Oper} {a : Act} {w : World} (h : segs P ops F (fun a w => EndOk P ops H F a ∧ K a w) l a w) : Outs P ops H F l a := by
 obtain ⟨a', w', hk, hag⟩ := segs_out _ _ _ h
 exact ⟨a', hk.1, hag⟩
theorem outT {K : Act → World → Prop} {s : Nat} : ∀ (B : List (List Nat)) (a : Act) (w : World), segT P ops F (fun a w => EndOk P ops H F a ∧ K a w) s B a w → Outs P ops H F (operL ops (s :: B.flatten)) a
 | [], _, _, h => h.elim
 | [b], a, w, h => by
  have := outs_of h
  simpa using this
 | b :: c :: bs, a, w, h => by
  obtain ⟨a1, w1, hk, hag⟩ := segs_out _ _ _ h
  obtain ⟨a', he, hag'⟩ := outT (c :: bs) a1 w1 hk.2
  refine ⟨a', he, fun t ht => (hag' t fun o ho => ht o ?_).trans (hag t fun o ho => ht o ?_)⟩
  ·unfold operL at ho ⊢
   obtain ⟨j, hj, e⟩ := List.mem_filterMap.1 ho
   refine List.mem_filterMap.2 ⟨j, ?_, e⟩
   rcases List.mem_cons.1 hj with h | h
   ·simp [h]
   ·exact List.mem_cons_of_mem _ (List.mem_append.2 (.inr h))
  ·unfold operL at ho ⊢
   obtain ⟨j, hj, e⟩ := List.mem_filterMap.1 ho
   exact List.mem_filterMap.2 ⟨j, List.mem_cons_of_mem _ (List.mem_append.2 (.inl hj)), e⟩
theorem steadyL_of : ∀ (l1 l2 : List Oper), steadyL H ops (l1 ++ l2) = true → steadyL H ops l2 = true
 | [], _, h => h
 | o :: l1, l2, h => by
  simp only [List.cons_append, steadyL, Bool.and_eq_true] at h
  exact steadyL_of l1 l2 h.2
theorem to_run_end {K : Act → World → Prop} (hst : static P ops = true) (l : List Nat) (a : Act) (w : World) (hlt : ∀ i ∈ l, i < ops.size) (hsd : steadyL H ops (operL ops l) = true) (hs : SF F w)
  (h : segs P ops F (fun a w => EndOk P ops H F a ∧ K a w) (operL ops l) a w) : Run P ops H F l K a w :=
 to_runG (R := []) hst (fun _ _ _ h => h.2) (fun a _ h => ⟨a, h.1, fun _ _ => rfl⟩) l a w hlt (by rw [List.append_nil]; exact hsd) hs h
theorem to_runT {K : Act → World → Prop} {s : Nat} (hst : static P ops = true) (hss : s < ops.size) : ∀ (B : List (List Nat)) (a : Act) (w : World), (∀ i ∈ B.flatten, i < ops.size) → steadyT H ops s B = true → SF F w →
  segT P ops F (fun a w => EndOk P ops H F a ∧ K a w) s B a w → RunT P ops H F s K B a w
 | [], _, _, _, _, _, h => h.elim
 | [b], a, w, hlt, hsd, hs, h => to_run_end hst (s :: b) a w (fun i hi => by
   rcases List.mem_cons.1 hi with rfl | hi
   ·exact hss
   ·exact hlt i (by simpa using hi)) hsd hs h
 | b :: c :: bs, a, w, hlt, hsd, hs, h => by
  simp only [steadyT, Bool.and_eq_true] at hsd
  have hlt2 : ∀ i ∈ (c :: bs).flatten, i < ops.size := fun i hi => hlt i (List.mem_append.2 (.inr hi))
  have hsd1 : steadyL H ops (operL ops b ++ operL ops (s :: (c :: bs).flatten)) = true := by rw [← operL_app]; exact hsd.1
  refine to_runG (R := operL ops (s :: (c :: bs).flatten)) hst (fun a w hs h => ⟨fun hb => ?_, to_runT hst hss (c :: bs) a w hlt2 hsd.2 hs h.2⟩) (fun a w h => outT (c :: bs) a w h.2) b a w (fun i hi => hlt i (List.mem_append.2 (.inl hi))) hsd1 hs h
  exact to_run_end hst _ a w (fun i hi => by
   rcases List.mem_cons.1 hi with rfl | hi
   ·exact hss
   ·exact hlt2 i hi) (steadyL_of _ _ hsd1) hs (h.1 hb)
theorem region_s (H : List Nat) (F : List (Addr × Value)) (s : Nat) (B : List (List Nat)) {id : Nat} {Q : Exit → Act → World → Prop} {a : Act} {w : World} (hm : P.follows .mixedOrders = true) (hc : checkS P H ops s B = true) (hs : SF F w)
  (h : segT P ops F (fun a w => EndOk P ops H F a ∧ Q .normal a w) s B a w.drew) : (Code.region id ops true).wp P Q a w := by
 unfold checkS at hc
 simp only [Bool.and_eq_true, decide_eq_true_eq] at hc
 obtain ⟨⟨⟨⟨⟨⟨⟨⟨⟨hl, hj⟩, hst⟩, hss⟩, hin1⟩, hin2⟩, hlen⟩, hpr⟩, hsd⟩, hB⟩ := hc
 have hp : ∀ (i : Nat) (o : Oper), ops[i]? = some o → plain o = true := fun i o ho => by
  have hmem : o ∈ ops.toList := List.mem_of_getElem? (by simpa using ho : ops.toList[i]? = some o)
  have := List.all_eq_true.1 hst o hmem
  simp only [Bool.and_eq_true] at this
  exact this.1
 have hmem : ∀ i, i ∈ B.flatten ↔ i < ops.size ∧ i ≠ s := fun i => ⟨fun h => by
  have := List.all_eq_true.1 hin2 i h
  simpa using this, fun h => by
  have := List.all_eq_true.1 hin1 i (List.mem_range.2 h.1)
  simp only [Bool.or_eq_true, beq_iff_eq] at this
  rcases this with e | e
  ·exact absurd e h.2
  ·exact List.contains_iff_mem.1 e⟩
 have hsort : Ord H (masksFrom [] ops.toList) ops B.flatten := ord_of _ hpr
 have hf0 : ∀ i, (Array.replicate ops.size false).getD i false = false := fun i => by
  rw [Array.getD_eq_getD_getElem?, Array.getElem?_replicate]; split <;> rfl
 refine wp_region_any hm ?_
 have hr := to_runT (P := P) (H := H) (F := F) (K := fun a w => Q .normal a w) hst hss B a w.drew (fun i hi => ((hmem i).1 hi).1) hsd hs h
 match B, hB with
 | b :: c :: bs, hB =>
  simp only [Bool.and_eq_true] at hB
  refine main_s hl hj hp (Array.getElem?_eq_getElem hss) ops.size _ b c bs a w.drew hlen.symm (by simp) (hf0 s) (fun i => ?_) hsort ?_ hB.1 hB.2 hr
  ·rw [hmem i, hf0 i]; simp
  ·intro i o ho hl
   rw [hf0 i] at hl
   exact absurd hl (by decide)
end
end Go.Proofs.YtgalbnkcijmnnaaGreatDoor.Canon
namespace Go.Proofs.YtgalbnkcijmnnaaGreatDoor
open Go.RowKit
structure Pix where
 r : Nat
 q : Nat
 k0 : Nat
 k1 : Nat
 k2 : Nat
 k3 : Nat
 k4 : Nat
 k5 : Nat
 k6 : Nat
 k7 : Nat
 k8 : Nat
 k9 : Nat
 g0 : Nat
 g1 : Nat
 g2 : Nat
 g3 : Nat
 gm : Nat
structure Pq (w : World) (u : Tb) (p : Int) (g : Nat) (I : Pix) (a : Int) (c : Mc) : Prop where
 pe : Pe w p g I.r I.q I.k0 I.k1 I.k2 I.k3 I.k4 I.k5 I.k6 I.k7 I.k8 I.k9 I.g0
 en : En w u I.g0 I.g1 I.g2 I.g3 I.gm a c
theorem Pq.grown0 {w w' : World} {u : Tb} {p : Int} {g : Nat} {I : Pix} {a : Int} {c : Mc} (h : Pq w u p g I a c) (k : w.grownBy w' none) : Pq w' u p g I a c := ⟨h.pe.grown0 k, h.en.grown0 k⟩
theorem Pq.rg {w : World} {u : Tb} {p : Int} {g : Nat} {I : Pix} {a : Int} {c : Mc} (h : Pq w u p g I a c) : Rg w I.r I.q p := h.pe.rg
theorem Pq.cell {w : World} {u : Tb} {p : Int} {g : Nat} {I : Pix} {a : Int} {c : Mc} (h : Pq w u p g I a c) (j : Nat) (hj : 3 ≤ j) : w.cell? ⟨I.gm, j, none⟩ = u.vs[j - 3]? := by
 rw [h.en.m.rest j hj, h.en.t]
 unfold tbT
 rw [if_pos hj]
theorem ev_moved (xs : List Int) (k : Nat) (x : Int) : ev (if xs = [] then [] else List.replicate k 0 ++ xs) x = x ^ k * ev xs x := by
 split
 ·rename_i h; rw [h]; simp [ev]
 ·rw [ev_append, ev_zeros, List.length_replicate, Int.zero_add]
theorem moved_len (xs : List Int) (k : Nat) : (if xs = [] then [] else List.replicate k 0 ++ xs).length ≤ k + xs.length := by
 split
 ·simp
 ·simp
theorem ev_cut2 (xs : List Int) (k : Nat) (hk : k ≤ xs.length) (x : Int) : ev (xs.take k) x + x ^ k * ev ((xs.take xs.length).drop k) x = ev xs x := by
 rw [List.take_length]; exact (ev_cut xs k hk x).symm
theorem kara_id (A0 A1 B0 B1 Y : Int) : A0 * B0 + Y * ((A0 + A1) * (B0 + B1) - (A0 * B0 + A1 * B1)) + Y * Y * (A1 * B1) = (A0 + Y * A1) * (B0 + Y * B1) := by grind
theorem IsP.ev_mul {p : Int} {F G H : Int → Int} (h : IsP F) (k : Eqv p G H) : Eqv p (fun x => F x * G x) (fun x => F x * H x) := by
 obtain ⟨K, hK, e⟩ := k
 exact ⟨_, h.mul hK, fun x => by
  show F x * G x = F x * H x + p * (F x * K x)
  rw [e x]; grind⟩
theorem Eqv.of_fn {p : Int} {F G H : Int → Int} (h : Eqv p G H) (e : ∀ x, F x = G x) : Eqv p F H := (Eqv.of_eq p e).trans h
theorem kara_any (u : Tb) (p : Int) (g : Nat) (I : Pix) (hu : TbOk u) : ∀ (N : Nat) (w : World) (a : Int) (c : Mc) (U V : Value) (XS YS : List Int), Pq w u p g I a c → Sl w U XS → Sl w V YS → XS.length + YS.length ≤ N → N ≤ 4000 →
  Calls Tryz.prog 79 #[.pointer (some ⟨g, 0, none⟩), U, V] w fun e w' => ∃ x, e = .returned x ∧ Po w' w.heap.size x p (fun z => ev XS z * ev YS z) (XS.length + YS.length) ∧ w.grownBy w' none := by
 intro N
 induction N using Nat.strongRecOn with
 | ind N ih =>
 intro w a c U V XS YS hP hU hV hN hN4
 have key : ∀ (S T : Value) (AS BS : List Int), Sl w S AS → Sl w T BS → BS.length ≤ AS.length → AS.length + BS.length ≤ N → ∀ U V : Value, ((U = S ∧ V = T) ∨ (U = T ∧ V = S ∧ BS.length < AS.length)) →
   Calls Tryz.prog 79 #[.pointer (some ⟨g, 0, none⟩), U, V] w fun e w' => ∃ x, e = .returned x ∧ Po w' w.heap.size x p (fun z => ev AS z * ev BS z) (AS.length + BS.length) ∧ w.grownBy w' none := by
  clear hU hV hN U V XS YS
  intro S T AS BS hS hT hle hN U V hs
  have HP := lk hP
  have IH := lk ih
  have HS := lk hS
  have HT := lk hT
  have hp := hP.rg.m.neg0
  have ep := hu.ep
  obtain ⟨A, ca, rfl, hca, hca2⟩ := hS.form
  obtain ⟨B, cb, rfl, hcb, hcb2⟩ := hT.form
  obtain ⟨n, hn⟩ : ∃ n, n = AS.length := ⟨_, rfl⟩
  obtain ⟨m, hm⟩ : ∃ n, n = BS.length := ⟨_, rfl⟩
  rw [← hn] at hca hle hN hs HS ⊢
  rw [← hm] at hcb hle hN hs HT ⊢
  have HNn := lk hn
  have HMm := lk hm
  clear hP ih hS hT hn hm
  obtain ⟨pl, hpl⟩ : ∃ pl, pl = u.ep := ⟨_, rfl⟩
  rw [← hpl] at ep
  have HPL := lk hpl
  clear hpl
  have t1 := HP.out.pe.e1
  have t2 := HP.out.pe.ch.c0
  have t3 := HP.out.pe.ch.c1
  have t4 := HP.out.pe.ch.c2
  have t5 := HP.out.pe.ch.c3
  have t6 := HP.out.pe.ch.c4
  have t7 := HP.out.pe.ch.c5
  have t8 := HP.out.pe.ch.c6
  have t9 := HP.out.pe.ch.c7
  have t10 := HP.out.pe.ch.c8
  have t11 := HP.out.pe.ch.c9
  have t12 := HP.out.en.e.h0
  have t13 := HP.out.en.e.h1
  have t14 := HP.out.en.e.h2
  have t15 := HP.out.en.e.h3
  have t16 := HP.out.cell 10 (by decide)
  rw [show u.vs[10 - 3]? = some (.int .i64 u.ep) from rfl, ← HPL.out] at t16
  have t0 := HP.out.pe.e0
  obtain ⟨U0, n', cu, hU, V0, m', cv, hV⟩ : ∃ U0 n' cu, U = .slice U0 n' cu ∧ ∃ V0 m' cv, V = .slice V0 m' cv := by
   rcases hs with ⟨rfl, rfl⟩ | ⟨rfl, rfl, hlt⟩
   ·exact ⟨_, _, _, rfl, _, _, _, rfl⟩
   ·exact ⟨_, _, _, rfl, _, _, _, rfl⟩
  subst hU hV
  have HSS := lk hs
  clear hs
  go_enter Tryz.func79, Tryz.ntmps79
  go_upto_if 20 with fail
  go_cut [1, 2] from 16 to 22 (fun v1 v2 wx => v1 = .slice A n ca ∧ v2 = .slice B m cb ∧ w = wx)
  case first =>
   rcases HSS.out with ⟨h1, h2⟩ | ⟨h1, h2, hlt⟩
   ·simp only [Value.slice.injEq] at h1 h2
    obtain ⟨rfl, rfl, rfl⟩ := h1
    obtain ⟨rfl, rfl, rfl⟩ := h2
    have hd : decide ((n' : Int) < (m' : Int)) = false := decide_eq_false (by omega)
    go_wp2_with fail
    go_meet
    exact ⟨rfl, rfl, rfl⟩
   ·simp only [Value.slice.injEq] at h1 h2
    obtain ⟨rfl, rfl, rfl⟩ := h1
    obtain ⟨rfl, rfl, rfl⟩ := h2
    have hd : decide ((n' : Int) < (m' : Int)) = true := decide_eq_true (by omega)
    go_wp2_with fail
    go_meet
    exact ⟨rfl, rfl, rfl⟩
  case rest =>
   obtain ⟨rfl, rfl, hw⟩ := hcut
   subst hw
   by_cases hsm : (m : Int) < pl
   ·have TM := lk (ptimes_c w I.r I.q p _ _ AS BS HP.out.rg HS.out HT.out (by rw [← HNn.out]; omega) (by rw [← HMm.out]; omega))
    rw [← HNn.out, ← HMm.out] at TM
    clear IH
    go_wp2_with fail
    refine (TM.out).mono ?_
    rintro e w1 ⟨x, rfl, po, g1⟩
    go_wp2
    go_ret
    exact ⟨_, rfl, po, g1⟩
   ·obtain ⟨N1, hN1⟩ : ∃ z, z = n + 1 := ⟨_, rfl⟩
    obtain ⟨h, hh⟩ : ∃ z, z = N1 / 2 := ⟨_, rfl⟩
    have eN1 : (n : Int) + 1 = (N1 : Int) := by omega
    have eh : (N1 : Int) / 2 = (h : Int) := by omega
    have hm4 : 4 ≤ m := by omega
    have hhn : h ≤ n := by omega
    have h2a : n ≤ 2 * h := by omega
    have h2b : 2 * h ≤ n + 1 := by omega
    obtain ⟨b, o, rfl, sl1⟩ := HS.out.mid h n (by omega) hhn (Nat.le_refl n)
    have S1 := lk sl1
    have S0 := lk (HS.out.take h hhn)
    have RG := lk (fun W (k : w.grownBy W none) => HP.out.rg.grown0 k)
    have PQ := lk (fun W (k : w.grownBy W none) => HP.out.grown0 k)
    have E0 := lk (fun W (k : w.grownBy W none) => gb_cell0 k HP.out.pe.e0)
    have SFo : Hid (∀ W, w.grownBy W none → Canon.SF [(⟨g, 0, none⟩, .pointer (some ⟨I.r, 0, none⟩))] W) := lk (fun W k => Canon.sf_cons (E0.out W k) (Canon.sf_nil _))
    have SFp : Hid (∀ W, w.grownBy W none → Canon.SF [(⟨g, 0, none⟩, .pointer (some ⟨I.r, 0, none⟩)), (⟨g, 0, none⟩, .pointer (some ⟨I.r, 0, none⟩))] W) := lk (fun W k => Canon.sf_cons (E0.out W k) (Canon.sf_cons (E0.out W k) (Canon.sf_nil _)))
    have NM := lk (pnorm_c w.drew I.r I.q p _ (AS.take h) (RG.out _ (jw (jr w none))) (S0.out.grown0 (jw (jr w none))) (by rw [List.length_take]; omega))
    have HH := lk hh
    have HN1 := lk hN1
    clear sl1 hh hN1
    go_wp2
    clear t1 t2 t3 t4 t5 t6 t7 t8 t9 t10 t11 t12 t13 t14 t15
    clear t16 eN1 eh
    refine Canon.region_canon (by kernel_rfl) (by kernel_rfl) ?_
    go_wp2_with fail
    refine (NM.out).mono ?_
    rintro e w1 ⟨x0, rfl, ⟨za, oa, na, ea, la⟩, g1⟩
    have G1 := lk (jt (jw (jr w none)) g1)
    obtain ⟨A0, c0, rfl, b01, b02⟩ := oa.fm
    have hl0 : za.length ≤ h := by rw [List.length_take] at la; omega
    obtain ⟨l0, hl0'⟩ : ∃ z, z = za.length := ⟨_, rfl⟩
    rw [← hl0'] at b01 hl0 oa ⊢
    have SA := lk oa.sl
    have EA := lk ea
    have L0 := lk hl0'
    clear NM oa na ea la g1 hl0' t0
    go_wp2
    refine ⟨by kernel_rfl, ?_⟩
    by_cases hmh : m ≤ h
    ·go_wp2
     have t0 := E0.out _ G1.out
     refine Canon.region_held [105] _ (by kernel_rfl) (by kernel_rfl) (SFo.out _ G1.out) ?_
     have k1 := IH.out (l0 + m) (by omega) w1.drew a c _ _ za BS (PQ.out _ (jw G1.out)) (SA.out.grown0 (jw (jr w1 none))) (HT.out.grown0 (jw G1.out)) (by rw [← L0.out, ← HMm.out]; exact Nat.le_refl _) (by omega)
     have K1 := lk k1
     clear k1
     refine Canon.segs_at 7 _ _ _ (by kernel_rfl) ?_
     simp only [ja, jb, jc, jd]
     go_wp2_with fail
     refine (K1.out).mono ?_
     rintro e w2 ⟨x2, rfl, ⟨zb, ob, nb, eb, lb⟩, g2⟩
     rw [← L0.out, ← HMm.out] at lb
     have G2 := lk (jt (jw G1.out) g2)
     obtain ⟨A2, c2, rfl, b21, b22⟩ := ob.fm
     obtain ⟨l2, hl2⟩ : ∃ z, z = zb.length := ⟨_, rfl⟩
     rw [← hl2] at b21 ob lb ⊢
     have SB := lk ob.sl
     have EB := lk eb
     have L2 := lk hl2
     have F2 := lk (SFo.out _ G2.out)
     clear K1 ob nb eb g2 hl2
     go_wp2
     refine ⟨F2.out, ?_⟩
     have k2 := IH.out (n - h + m) (by omega) w2 a c _ _ ((AS.take n).drop h) BS (PQ.out _ G2.out) (S1.out.grown0 G2.out) (HT.out.grown0 G2.out) (by rw [List.length_drop, List.length_take, ← HNn.out, ← HMm.out]; omega) (by omega)
     have K2 := lk k2
     clear k2 F2
     refine Canon.segs_at 4 _ _ _ (by kernel_rfl) ?_
     simp only [ja, jb, jc, jd]
     go_wp2_with fail
     refine (K2.out).mono ?_
     rintro e w3 ⟨x3, rfl, ⟨zc, oc, nc, ec, lc⟩, g3⟩
     rw [List.length_drop, List.length_take, ← HNn.out, ← HMm.out] at lc
     have G3 := lk (jt G2.out g3)
     have SB3 := lk (SB.out.grown0 g3)
     have SC := lk oc.sl
     have EC := lk ec
     have F3 := lk (SFo.out _ G3.out)
     have MV := lk (pmoved_c w3 g x3 zc h oc.sl (by omega) (by omega))
     clear K2 oc nc ec g3 SB
     go_wp2
     refine ⟨F3.out, ?_⟩
     refine Canon.segs_at 1 _ _ _ (by kernel_rfl) ?_
     simp only [ja, jb, jc, jd]
     go_wp2_with fail
     refine (MV.out).mono ?_
     rintro e w4 ⟨x4, rfl, od, g4⟩
     have G4 := lk (jt G3.out g4)
     have SB4 := lk (SB3.out.grown0 g4)
     have F4 := lk (SFo.out _ G4.out)
     obtain ⟨zd, hzd⟩ : ∃ zd, zd = (if zc = [] then [] else List.replicate h 0 ++ zc) := ⟨_, rfl⟩
     have ed : ∀ z, ev zd z = z ^ h * ev zc z := fun z => by rw [hzd]; exact ev_moved zc h z
     have ld : zd.length ≤ n + m := by rw [hzd]; have := moved_len zc h; omega
     rw [← hzd] at od
     obtain ⟨A4, c4, rfl, b41, b42⟩ := od.fm
     obtain ⟨l4, hl4⟩ : ∃ z, z = zd.length := ⟨_, rfl⟩
     rw [← hl4] at b41 od ld ⊢
     have SD := lk od.sl
     have ED := lk ed
     have L4 := lk hl4
     clear MV F3 SB3 od g4 hzd ed hl4
     go_wp2
     refine ⟨F4.out, ?_⟩
     have P2 := lk (pts2 w4 25 _ _ zb zd SB4.out SD.out)
     have GA := lk (ju (jr w4 none) (Obj.cells #[.slice A2 l2 c2, .slice A4 l4 c4] 25))
     have F5 := lk (SFo.out _ (jt G4.out GA.out))
     refine Canon.segs_at 0 _ _ _ (by kernel_rfl) ?_
     simp only [ja, jb, jc, jd]
     go_wp2
     refine ⟨F5.out, ?_⟩
     refine Canon.segs_at 0 _ _ _ (by kernel_rfl) ?_
     simp only [ja, jb, jc, jd]
     have PL := lk (pplus_c _ I.r I.q p _ 2 (n + m) _ _ (RG.out _ (jt G4.out GA.out)) P2.out (fun j hj => by
      rcases (show j = 0 ∨ j = 1 by omega) with rfl | rfl
      ·show zb.length ≤ n + m
       rw [← L2.out]; omega
      ·show zd.length ≤ n + m
       rw [← L4.out]; omega) (by omega) (by omega))
     go_wp2_with fail
     refine (PL.out).mono ?_
     rintro e w6 ⟨x6, rfl, po, g6⟩
     have G6 := lk (jt (jt G4.out GA.out) g6)
     have F6 := lk (SFo.out _ G6.out)
     have PO := lk po
     clear PL po g6
     go_wp2
     refine ⟨F6.out, ?_⟩
     refine Canon.segs_end _ _ _ (by kernel_rfl) ?_
     go_wp2
     refine ⟨by kernel_rfl, by kernel_rfl, by kernel_rfl, ?_⟩
     go_wp2
     go_ret
     refine ⟨_, rfl, (PO.out.fn ?_ (Nat.le_refl _)).mono (jt G4.out GA.out).size, G6.out⟩
     have q1 := (EB.out.trans (EA.out.mul (Eqv.refl p (ev BS)) (isP_ev _) (isP_ev _)))
     have q2 := ((isP_pow h).ev_mul EC.out)
     refine ((q1.add q2).trans (Eqv.of_eq p fun z => ?_)).of_fn fun z => ?_
     ·rw [HNn.out]
      have := ev_cut2 AS h (by rw [← HNn.out]; exact hhn) z
      rw [← this]; grind
     ·show 0 + ev zb z + ev zd z = _
      rw [ED.out z]; simp
    ·have hmh' : h < m := by omega
     have b1 := HT.out.mid h m (by omega) (by omega) (Nat.le_refl m)
     obtain ⟨bb, oo, rfl, sl2⟩ := b1
     have S3 := lk sl2
     have S2 := lk (HT.out.take h (by omega))
     have NM := lk (pnorm_c w1.drew I.r I.q p _ (BS.take h) (RG.out _ (jw G1.out)) (S2.out.grown0 (jw G1.out)) (by rw [List.length_take]; omega))
     clear sl2
     go_wp2
     have t0 := E0.out _ G1.out
     refine Canon.region_canon (by kernel_rfl) (by kernel_rfl) ?_
     go_wp2_with fail
     refine (NM.out).mono ?_
     rintro e w2 ⟨x1, rfl, ⟨zb, ob, nb, eb, lb⟩, g2⟩
     have G2 := lk (jt (jw G1.out) g2)
     obtain ⟨A1, c1, rfl, b11, b12⟩ := ob.fm
     have hl1 : zb.length ≤ h := by rw [List.length_take] at lb; omega
     obtain ⟨l1, hl1'⟩ : ∃ z, z = zb.length := ⟨_, rfl⟩
     rw [← hl1'] at b11 hl1 ob ⊢
     have SB := lk ob.sl
     have SA2 := lk (SA.out.grown0 (jt (jw (jr w1 none)) g2))
     have EB := lk eb
     have L1 := lk hl1'
     clear NM ob nb eb lb g2 hl1' t0 SA
     go_wp2
     refine ⟨by kernel_rfl, ?_⟩
     have k1 := IH.out (l0 + l1) (by omega) w2 a c _ _ za zb (PQ.out _ G2.out) SA2.out SB.out (by rw [← L0.out, ← L1.out]; exact Nat.le_refl _) (by omega)
     have K1 := lk k1
     clear k1
     go_wp2_with fail
     refine (K1.out).mono ?_
     rintro e w3 ⟨x3, rfl, ⟨zl, ol, nl, el, ll⟩, g3⟩
     rw [← L0.out, ← L1.out] at ll
     have G3 := lk (jt G2.out g3)
     have SA3 := lk (SA2.out.grown0 g3)
     have SB3 := lk (SB.out.grown0 g3)
     have SL := lk ol.sl
     have EL := lk el
     have k2 := IH.out (n - h + (m - h)) (by omega) w3 a c _ _ ((AS.take n).drop h) ((BS.take m).drop h) (PQ.out _ G3.out) (S1.out.grown0 G3.out) (S3.out.grown0 G3.out) (by rw [List.length_drop, List.length_take, List.length_drop, List.length_take, ← HNn.out, ← HMm.out]; omega) (by omega)
     have K2 := lk k2
     clear K1 k2 ol nl el g3 SA2 SB
     go_wp2_with fail
     refine (K2.out).mono ?_
     rintro e w4 ⟨x4, rfl, ⟨zh, oh, nh, eh, lh⟩, g4⟩
     rw [List.length_drop, List.length_take, List.length_drop, List.length_take, ← HNn.out, ← HMm.out] at lh
     have G4 := lk (jt G3.out g4)
     have SA4 := lk (SA3.out.grown0 g4)
     have SB4 := lk (SB3.out.grown0 g4)
     have SL4 := lk (SL.out.grown0 g4)
     have SH := lk oh.sl
     have EH := lk eh
     clear K2 oh nh eh g4 SA3 SB3 SL
     have PL1 := lk (fun (W : World) (V : Value) (k : w.grownBy W none) (q : Pts W V 2 (fun j => [.slice A0 l0 c0, Value.slice (some ⟨b, o + h, none⟩) (n - h) (ca - h)].getD j (.slice A0 l0 c0)) (fun j => [za, (AS.take n).drop h].getD j [])) => pplus_c W I.r I.q p V 2 h _ _ (RG.out W k) q (fun j hj => by
      rcases (show j = 0 ∨ j = 1 by omega) with rfl | rfl
      ·show za.length ≤ h
       rw [← L0.out]; exact hl0
      ·show ((AS.take n).drop h).length ≤ h
       rw [List.length_drop, List.length_take, ← HNn.out]; omega) (by omega) (by omega))
     have PL2 := lk (fun (W : World) (V : Value) (k : w.grownBy W none) (q : Pts W V 2 (fun j => [.slice A1 l1 c1, Value.slice (some ⟨bb, oo + h, none⟩) (m - h) (cb - h)].getD j (.slice A1 l1 c1)) (fun j => [zb, (BS.take m).drop h].getD j [])) => pplus_c W I.r I.q p V 2 h _ _ (RG.out W k) q (fun j hj => by
      rcases (show j = 0 ∨ j = 1 by omega) with rfl | rfl
      ·show zb.length ≤ h
       rw [← L1.out]; exact hl1
      ·show ((BS.take m).drop h).length ≤ h
       rw [List.length_drop, List.length_take, ← HMm.out]; omega) (by omega) (by omega))
     have KK := lk (fun (W : World) (X Y : Value) (xs ys : List Int) (k : w.grownBy W none) (sx : Sl W X xs) (sy : Sl W Y ys) (hx : xs.length ≤ h) (hy : ys.length ≤ h) => IH.out (2 * h) (by omega) W a c X Y xs ys (PQ.out W k) sx sy (by omega) (by omega))
     have FN : Hid (∀ xs ys : List Int, Eqv p (ev xs) (smF (fun j => ev ([za, (AS.take n).drop h].getD j [])) 2) → Eqv p (ev ys) (smF (fun j => ev ([zb, (BS.take m).drop h].getD j [])) 2) → Eqv p (fun z => ev xs z * ev ys z) (fun z => (ev za z + ev ((AS.take n).drop h) z) * (ev zb z + ev ((BS.take m).drop h) z))) :=
      lk (fun xs ys e1 e2 => (Eqv.rows e1 e2).trans (Eqv.of_eq p fun z => by simp [smF]))
     have PA := lk (fun (W : World) (k : w4.grownBy W none) => pts2 W 25 (.slice A0 l0 c0) (Value.slice (some ⟨b, o + h, none⟩) (n - h) (ca - h)) za ((AS.take n).drop h) (SA4.out.grown0 k) (S1.out.grown0 (jt G4.out k)))
     have PB := lk (fun (W : World) (k : w4.grownBy W none) => pts2 W 25 (.slice A1 l1 c1) (Value.slice (some ⟨bb, oo + h, none⟩) (m - h) (cb - h)) zb ((BS.take m).drop h) (SB4.out.grown0 k) (S3.out.grown0 (jt G4.out k)))
     go_upto_region 11 with fail
     go_cut [14] from 138 to 155 (fun v14 wx => Po wx w4.heap.size v14 p (fun z => (ev za z + ev ((AS.take n).drop h) z) * (ev zb z + ev ((BS.take m).drop h) z)) (2 * h) ∧ w4.grownBy wx none)
     case first =>
      have t0 := E0.out _ G4.out
      refine Canon.region_s [142, 150] _ 15 [[0, 1, 2, 3, 4, 5, 6, 13, 14], [7], [8, 9, 10, 11, 12], [16, 17, 18]] (by kernel_rfl) (by kernel_rfl) (SFp.out _ G4.out) ?_
      simp only [Canon.segT, Canon.operL, List.filterMap_cons, List.filterMap_nil, List.getElem?_toArray, List.getElem?_cons_zero, List.getElem?_cons_succ, List.flatten_cons, List.flatten_nil, List.nil_append, List.cons_append]
      refine Canon.segs_end _ _ _ (by kernel_rfl) ?_
      go_wp2
      refine ⟨fun _ => ?_, ?_⟩
      ·have D0 := jw (jr w4 none)
       have PB1 := PB.out _ D0
       have D1 := ju D0 (Obj.cells #[.slice A1 l1 c1, Value.slice (some ⟨bb, oo + h, none⟩) (m - h) (cb - h)] 25)
       have PA1 := PA.out _ D1
       rw [alloc_sz] at PA1
       have D2 := ju D1 (Obj.cells #[.slice A0 l0 c0, Value.slice (some ⟨b, o + h, none⟩) (n - h) (ca - h)] 25)
       have HB := lk (PB1.grown0 (ju (jr _ none) (Obj.cells #[.slice A0 l0 c0, Value.slice (some ⟨b, o + h, none⟩) (n - h) (ca - h)] 25)))
       have HA := lk PA1
       have H1 := lk D1
       have H2 := lk D2
       clear D0 D1 D2 PB1 PA1
       refine Canon.segs_at 0 _ _ _ (by kernel_rfl) ?_
       simp only [ja, jb, jc, jd]
       go_wp2
       refine ⟨SFp.out _ (jt G4.out H1.out), ?_⟩
       refine Canon.segs_at 0 _ _ _ (by kernel_rfl) ?_
       simp only [ja, jb, jc, jd]
       go_wp2
       refine ⟨SFp.out _ (jt G4.out H2.out), ?_⟩
       refine Canon.segs_at 0 _ _ _ (by kernel_rfl) ?_
       simp only [ja, jb, jc, jd]
       go_wp2_with fail
       refine (PL1.out _ _ (jt G4.out H2.out) HA.out).mono ?_
       rintro e w5 ⟨x5, rfl, ⟨xa, oxa, nxa, exa, la2⟩, g5⟩
       have G5 := lk (jt H2.out g5)
       have SX := lk oxa.sl
       have HB5 := lk (HB.out.grown0 g5)
       clear oxa nxa g5
       go_wp2
       refine ⟨SFp.out _ (jt G4.out G5.out), ?_⟩
       have t0 := E0.out _ (jt G4.out G5.out)
       refine Canon.segs_at 4 _ _ _ (by kernel_rfl) ?_
       simp only [ja, jb, jc, jd]
       go_wp2_with fail
       refine (PL2.out _ _ (jt G4.out G5.out) HB5.out).mono ?_
       rintro e w6 ⟨x6, rfl, ⟨xb, oxb, nxb, exb, lb2⟩, g6⟩
       have G6 := lk (jt G5.out g6)
       have SX6 := lk (SX.out.grown0 g6)
       have SY6 := lk oxb.sl
       clear oxb nxb g6
       go_wp2
       refine ⟨SFp.out _ (jt G4.out G6.out), ?_⟩
       refine Canon.segs_at 0 _ _ _ (by kernel_rfl) ?_
       simp only [ja, jb, jc, jd]
       go_wp2_with fail
       refine (KK.out _ _ _ xa xb (jt G4.out G6.out) SX6.out SY6.out la2 lb2).mono ?_
       rintro e w7 ⟨x7, rfl, po, g7⟩
       have G7 := lk (jt G6.out g7)
       have F7 := lk (SFp.out _ (jt G4.out G7.out))
       have PO := lk ((po.fn (L' := 2 * h) (FN.out _ _ exa exb) (by omega)).mono G6.out.size)
       clear po g7
       go_wp2
       refine ⟨F7.out, ?_⟩
       refine Canon.segs_end _ _ _ (by kernel_rfl) ?_
       go_wp2
       refine ⟨Canon.endOk (by kernel_rfl) (by kernel_rfl) (by kernel_rfl), ?_⟩
       go_wp2_with fail
       go_meet
       exact ⟨PO.out, G7.out⟩
      ·have D0 := jw (jr w4 none)
       have PA1 := PA.out _ D0
       have D1 := ju D0 (Obj.cells #[.slice A0 l0 c0, Value.slice (some ⟨b, o + h, none⟩) (n - h) (ca - h)] 25)
       have HA := lk PA1
       have H1 := lk D1
       clear D0 D1 PA1
       refine Canon.segs_at 0 _ _ _ (by kernel_rfl) ?_
       simp only [ja, jb, jc, jd]
       go_wp2
       refine ⟨SFp.out _ (jt G4.out H1.out), ?_⟩
       refine Canon.segs_end _ _ _ (by kernel_rfl) ?_
       go_wp2
       refine ⟨fun _ => ?_, ?_⟩
       ·have PB1 := PB.out _ H1.out
        rw [alloc_sz] at PB1
        have D2 := ju H1.out (Obj.cells #[.slice A1 l1 c1, Value.slice (some ⟨bb, oo + h, none⟩) (m - h) (cb - h)] 25)
        have HA2 := lk (HA.out.grown0 (ju (jr _ none) (Obj.cells #[.slice A1 l1 c1, Value.slice (some ⟨bb, oo + h, none⟩) (m - h) (cb - h)] 25)))
        have HB := lk PB1
        have H2 := lk D2
        clear D2 PB1
        refine Canon.segs_at 0 _ _ _ (by kernel_rfl) ?_
        simp only [ja, jb, jc, jd]
        go_wp2
        refine ⟨SFp.out _ (jt G4.out H2.out), ?_⟩
        refine Canon.segs_at 0 _ _ _ (by kernel_rfl) ?_
        simp only [ja, jb, jc, jd]
        go_wp2_with fail
        refine (PL1.out _ _ (jt G4.out H2.out) HA2.out).mono ?_
        rintro e w5 ⟨x5, rfl, ⟨xa, oxa, nxa, exa, la2⟩, g5⟩
        have G5 := lk (jt H2.out g5)
        have SX := lk oxa.sl
        have HB5 := lk (HB.out.grown0 g5)
        clear oxa nxa g5
        go_wp2
        refine ⟨SFp.out _ (jt G4.out G5.out), ?_⟩
        have t0 := E0.out _ (jt G4.out G5.out)
        refine Canon.segs_at 4 _ _ _ (by kernel_rfl) ?_
        simp only [ja, jb, jc, jd]
        go_wp2_with fail
        refine (PL2.out _ _ (jt G4.out G5.out) HB5.out).mono ?_
        rintro e w6 ⟨x6, rfl, ⟨xb, oxb, nxb, exb, lb2⟩, g6⟩
        have G6 := lk (jt G5.out g6)
        have SX6 := lk (SX.out.grown0 g6)
        have SY6 := lk oxb.sl
        clear oxb nxb g6
        go_wp2
        refine ⟨SFp.out _ (jt G4.out G6.out), ?_⟩
        refine Canon.segs_at 0 _ _ _ (by kernel_rfl) ?_
        simp only [ja, jb, jc, jd]
        go_wp2_with fail
        refine (KK.out _ _ _ xa xb (jt G4.out G6.out) SX6.out SY6.out la2 lb2).mono ?_
        rintro e w7 ⟨x7, rfl, po, g7⟩
        have G7 := lk (jt G6.out g7)
        have F7 := lk (SFp.out _ (jt G4.out G7.out))
        have PO := lk ((po.fn (L' := 2 * h) (FN.out _ _ exa exb) (by omega)).mono G6.out.size)
        clear po g7
        go_wp2
        refine ⟨F7.out, ?_⟩
        refine Canon.segs_end _ _ _ (by kernel_rfl) ?_
        go_wp2
        refine ⟨Canon.endOk (by kernel_rfl) (by kernel_rfl) (by kernel_rfl), ?_⟩
        go_wp2_with fail
        go_meet
        exact ⟨PO.out, G7.out⟩
       ·skip
        refine Canon.segs_at 0 _ _ _ (by kernel_rfl) ?_
        simp only [ja, jb, jc, jd]
        go_wp2_with fail
        refine (PL1.out _ _ (jt G4.out H1.out) HA.out).mono ?_
        rintro e w5 ⟨x5, rfl, ⟨xa, oxa, nxa, exa, la2⟩, g5⟩
        have G5 := lk (jt H1.out g5)
        have SX := lk oxa.sl
        clear oxa nxa g5
        go_wp2
        refine ⟨SFp.out _ (jt G4.out G5.out), ?_⟩
        have t0 := E0.out _ (jt G4.out G5.out)
        refine Canon.segs_end _ _ _ (by kernel_rfl) ?_
        go_wp2
        refine ⟨fun h0 => absurd rfl h0, ?_⟩
        have PB1 := PB.out _ G5.out
        have D2 := ju G5.out (Obj.cells #[.slice A1 l1 c1, Value.slice (some ⟨bb, oo + h, none⟩) (m - h) (cb - h)] 25)
        have HB := lk PB1
        have H2 := lk D2
        have SX5 := lk (SX.out.grown0 (ju (jr _ none) (Obj.cells #[.slice A1 l1 c1, Value.slice (some ⟨bb, oo + h, none⟩) (m - h) (cb - h)] 25)))
        clear D2 PB1
        refine Canon.segs_at 0 _ _ _ (by kernel_rfl) ?_
        simp only [ja, jb, jc, jd]
        go_wp2
        refine ⟨SFp.out _ (jt G4.out H2.out), ?_⟩
        refine Canon.segs_at 0 _ _ _ (by kernel_rfl) ?_
        simp only [ja, jb, jc, jd]
        go_wp2_with fail
        refine (PL2.out _ _ (jt G4.out H2.out) HB.out).mono ?_
        rintro e w6 ⟨x6, rfl, ⟨xb, oxb, nxb, exb, lb2⟩, g6⟩
        have G6 := lk (jt H2.out g6)
        have SX6 := lk (SX5.out.grown0 g6)
        have SY6 := lk oxb.sl
        clear oxb nxb g6
        go_wp2
        refine ⟨SFp.out _ (jt G4.out G6.out), ?_⟩
        refine Canon.segs_at 0 _ _ _ (by kernel_rfl) ?_
        simp only [ja, jb, jc, jd]
        go_wp2_with fail
        refine (KK.out _ _ _ xa xb (jt G4.out G6.out) SX6.out SY6.out la2 lb2).mono ?_
        rintro e w7 ⟨x7, rfl, po, g7⟩
        have G7 := lk (jt G6.out g7)
        have F7 := lk (SFp.out _ (jt G4.out G7.out))
        have PO := lk ((po.fn (L' := 2 * h) (FN.out _ _ exa exb) (by omega)).mono G6.out.size)
        clear po g7
        go_wp2
        refine ⟨F7.out, ?_⟩
        refine Canon.segs_end _ _ _ (by kernel_rfl) ?_
        go_wp2
        refine ⟨Canon.endOk (by kernel_rfl) (by kernel_rfl) (by kernel_rfl), ?_⟩
        go_wp2_with fail
        go_meet
        exact ⟨PO.out, G7.out⟩
     case rest =>
      obtain ⟨⟨zo, oo', no, eo, lo⟩, gc⟩ := hcut
      have GC := lk (jt G4.out gc)
      have SO := lk oo'.sl
      have EO := lk eo
      have SL5 := lk (SL4.out.grown0 gc)
      have SH5 := lk (SH.out.grown0 gc)
      clear oo' no eo gc PL1 PL2 KK FN PA PB SL4 SH SA4 SB4
      obtain ⟨A3, c3, rfl, b31, b32⟩ := SL5.out.form
      obtain ⟨A4, c4, rfl, b41, b42⟩ := SH5.out.form
      obtain ⟨l3, hl3⟩ : ∃ z, z = zl.length := ⟨_, rfl⟩
      obtain ⟨l4, hl4⟩ : ∃ z, z = zh.length := ⟨_, rfl⟩
      rw [← hl3] at b31 ll SL5 ⊢
      rw [← hl4] at b41 lh SH5 ⊢
      have L3 := lk hl3
      have L4 := lk hl4
      clear hl3 hl4
      have t0 := E0.out _ GC.out
      have PS := lk (pts2 wc.drew 25 (.slice A3 l3 c3) (.slice A4 l4 c4) zl zh (SL5.out.grown0 (jw (jr wc none))) (SH5.out.grown0 (jw (jr wc none))))
      have GB := lk (ju (jw GC.out) (Obj.cells #[.slice A3 l3 c3, .slice A4 l4 c4] 25))
      have GB1 := lk (ju (jw (jr wc none)) (Obj.cells #[.slice A3 l3 c3, .slice A4 l4 c4] 25))
      have PL := lk (pplus_c _ I.r I.q p _ 2 (2 * h) _ _ (RG.out _ GB.out) PS.out (fun j hj => by
       rcases (show j = 0 ∨ j = 1 by omega) with rfl | rfl
       ·show zl.length ≤ 2 * h
        rw [← L3.out]; omega
       ·show zh.length ≤ 2 * h
        rw [← L4.out]; omega) (by omega) (by omega))
      go_wp2
      refine Canon.region_held [159, 164] _ (by kernel_rfl) (by kernel_rfl) (SFp.out _ GC.out) ?_
      refine Canon.segs_at 11 _ _ _ (by kernel_rfl) ?_
      simp only [ja, jb, jc, jd]
      go_wp2
      refine ⟨SFp.out _ GB.out, ?_⟩
      refine Canon.segs_at 0 _ _ _ (by kernel_rfl) ?_
      simp only [ja, jb, jc, jd]
      go_wp2_with fail
      refine (PL.out).mono ?_
      rintro e w5 ⟨x5, rfl, ⟨zs, os, ns, es, ls⟩, g5⟩
      have G5 := lk (jt GB.out g5)
      have ES := lk es
      have MN := lk (pminus_c w5 I.r I.q p _ x5 zo zs (RG.out _ G5.out) (SO.out.grown0 (jt GB1.out g5)) os.sl (by omega) (by omega))
      have SL6 := lk (SL5.out.grown0 (jt GB1.out g5))
      have SH6 := lk (SH5.out.grown0 (jt GB1.out g5))
      clear PL PS os ns es g5 SL5 SH5 SO
      go_wp2
      refine ⟨SFp.out _ G5.out, ?_⟩
      refine Canon.segs_at 0 _ _ _ (by kernel_rfl) ?_
      simp only [ja, jb, jc, jd]
      go_wp2_with fail
      refine (MN.out).mono ?_
      rintro e w6 ⟨x6, rfl, ⟨zm, om, nm, em, lm⟩, g6⟩
      have G6 := lk (jt G5.out g6)
      have EM := lk em
      have SM := lk om.sl
      have SL7 := lk (SL6.out.grown0 g6)
      have SH7 := lk (SH6.out.grown0 g6)
      clear MN om nm em g6 SL6 SH6 GB GB1 t0
      go_wp2
      refine ⟨SFp.out _ G6.out, ?_⟩
      refine Canon.segs_end _ _ _ (by kernel_rfl) ?_
      go_wp2
      refine ⟨by kernel_rfl, by kernel_rfl, by kernel_rfl, ?_⟩
      have t0 := E0.out _ G6.out
      obtain ⟨H2, hH2⟩ : ∃ z, z = 2 * h := ⟨_, rfl⟩
      have eH2 : 2 * (h : Int) = (H2 : Int) := by omega
      have bH2 : H2 ≤ 5000 := by omega
      have HH2 := lk hH2
      have lm2 : zm.length ≤ 2 * h := by omega
      have MV := lk (pmoved_c w6.drew g x6 zm h (SM.out.grown0 (jw (jr w6 none))) (by omega) (by omega))
      go_wp2
      refine Canon.region_held [173] _ (by kernel_rfl) (by kernel_rfl) (SFo.out _ G6.out) ?_
      refine Canon.segs_at 8 _ _ _ (by kernel_rfl) ?_
      simp only [ja, jb, jc, jd]
      go_wp2_with fail
      refine (MV.out).mono ?_
      rintro e w7 ⟨x7, rfl, o7, g7⟩
      have G7 := lk (jt (jw G6.out) g7)
      have G67 := lk (jt (jw (jr w6 none)) g7)
      obtain ⟨z7, hz7⟩ : ∃ zd, zd = (if zm = [] then [] else List.replicate h 0 ++ zm) := ⟨_, rfl⟩
      have e7 : ∀ z, ev z7 z = z ^ h * ev zm z := fun z => by rw [hz7]; exact ev_moved zm h z
      have l7 : z7.length ≤ n + m := by rw [hz7]; have := moved_len zm h; omega
      rw [← hz7] at o7
      obtain ⟨A7, c7, rfl, b71, b72⟩ := o7.fm
      obtain ⟨n7, hn7⟩ : ∃ z, z = z7.length := ⟨_, rfl⟩
      rw [← hn7] at b71 o7 l7 ⊢
      have S7 := lk o7.sl
      have E7 := lk e7
      have N7 := lk hn7
      have MV2 := lk (pmoved_c w7 g (.slice A4 l4 c4) zh H2 (SH7.out.grown0 G67.out) (by rw [← L4.out]; omega) (by omega))
      clear hH2 MV o7 e7 hz7 hn7
      go_wp2
      refine ⟨SFo.out _ G7.out, ?_⟩
      refine Canon.segs_at 4 _ _ _ (by kernel_rfl) ?_
      simp only [ja, jb, jc, jd]
      go_wp2_with fail
      refine (MV2.out).mono ?_
      rintro e w8 ⟨x8, rfl, o8, g8⟩
      have G8 := lk (jt G7.out g8)
      obtain ⟨z8, hz8⟩ : ∃ zd, zd = (if zh = [] then [] else List.replicate H2 0 ++ zh) := ⟨_, rfl⟩
      have e8 : ∀ z, ev z8 z = z ^ H2 * ev zh z := fun z => by rw [hz8]; exact ev_moved zh H2 z
      have l8 : z8.length ≤ n + m := by rw [hz8]; have := moved_len zh H2; have := L4.out; have := HH2.out; omega
      rw [← hz8] at o8
      obtain ⟨A8, c8, rfl, b81, b82⟩ := o8.fm
      obtain ⟨n8, hn8⟩ : ∃ z, z = z8.length := ⟨_, rfl⟩
      rw [← hn8] at b81 o8 l8 ⊢
      have S8 := lk o8.sl
      have S78 := lk (S7.out.grown0 g8)
      have SL8 := lk (SL7.out.grown0 (jt G67.out g8))
      have E8 := lk e8
      have N8 := lk hn8
      clear MV2 o8 e8 hz8 hn8 g8 g7
      go_wp2
      clear eH2
      refine ⟨SFo.out _ G8.out, ?_⟩
      have PS := lk (pts3 w8 25 (.slice A3 l3 c3) (.slice A7 n7 c7) (.slice A8 n8 c8) zl z7 z8 SL8.out S78.out S8.out)
      have GB := lk (ju G8.out (Obj.cells #[.slice A3 l3 c3, .slice A7 n7 c7, .slice A8 n8 c8] 25))
      refine Canon.segs_at 0 _ _ _ (by kernel_rfl) ?_
      simp only [ja, jb, jc, jd]
      go_wp2
      refine ⟨SFo.out _ GB.out, ?_⟩
      refine Canon.segs_at 0 _ _ _ (by kernel_rfl) ?_
      simp only [ja, jb, jc, jd]
      have PL := lk (pplus_c _ I.r I.q p _ 3 (n + m) _ _ (RG.out _ GB.out) PS.out (fun j hj => by
       rcases (show j = 0 ∨ j = 1 ∨ j = 2 by omega) with rfl | rfl | rfl
       ·show zl.length ≤ n + m
        rw [← L3.out]; omega
       ·show z7.length ≤ n + m
        rw [← N7.out]; exact l7
       ·show z8.length ≤ n + m
        rw [← N8.out]; exact l8) (by omega) (by omega))
      go_wp2_with fail
      refine (PL.out).mono ?_
      rintro e w9 ⟨x9, rfl, po, g9⟩
      have G9 := lk (jt GB.out g9)
      have PO := lk po
      clear PL po g9
      go_wp2
      refine ⟨SFo.out _ G9.out, ?_⟩
      refine Canon.segs_end _ _ _ (by kernel_rfl) ?_
      go_wp2
      refine ⟨by kernel_rfl, by kernel_rfl, by kernel_rfl, ?_⟩
      go_wp2
      go_ret
      refine ⟨_, rfl, (PO.out.fn ?_ (Nat.le_refl _)).mono GB.out.size, G9.out⟩
      have q0 := EL.out.trans (Eqv.rows EA.out EB.out)
      have q2 := EH.out
      have qa : Eqv p (fun z => (ev za z + ev ((AS.take n).drop h) z) * (ev zb z + ev ((BS.take m).drop h) z)) (fun z => (ev (AS.take h) z + ev ((AS.take n).drop h) z) * (ev (BS.take h) z + ev ((BS.take m).drop h) z)) :=
       (EA.out.add (Eqv.refl p _)).mul (EB.out.add (Eqv.refl p _)) ((isP_ev _).add (isP_ev _)) ((isP_ev _).add (isP_ev _))
      have q1 := EO.out.trans qa
      have qs : Eqv p (ev zs) (fun z => ev zl z + ev zh z) := ES.out.fn fun z => by simp [smF]
      have qm := EM.out.trans (q1.sub (qs.trans (q0.add q2)))
      have q7 := (isP_pow h).ev_mul qm
      have q8 := (isP_pow H2).ev_mul q2
      refine (((q0.add q7).add q8).trans (Eqv.of_eq p fun z => ?_)).of_fn fun z => ?_
      ·have u1 := ev_cut2 AS h (by rw [← HNn.out]; exact hhn) z
       have u2 := ev_cut2 BS h (by rw [← HMm.out]; omega) z
       rw [← HNn.out] at u1
       rw [← HMm.out] at u2
       have u3 : z ^ H2 = z ^ h * z ^ h := by rw [HH2.out, ← Int.pow_add]; congr 1; omega
       show _ + z ^ h * _ + z ^ H2 * _ = _
       rw [u3, ← u1, ← u2]
       exact kara_id _ _ _ _ _
      ·show 0 + ev zl z + ev z7 z + ev z8 z = _
       rw [E7.out z, E8.out z]; simp
 rcases Nat.lt_or_ge XS.length YS.length with h | h
 ·exact (key V U YS XS hV hU (by omega) (by omega) U V (.inr ⟨rfl, rfl, h⟩)).mono fun e w' ⟨x, e1, po, k⟩ => ⟨x, e1, po.fn (Eqv.of_eq p fun z => Int.mul_comm _ _) (by omega), k⟩
 ·exact key U V XS YS hU hV h (by omega) U V (.inl ⟨rfl, rfl⟩)
end Go.Proofs.YtgalbnkcijmnnaaGreatDoor
