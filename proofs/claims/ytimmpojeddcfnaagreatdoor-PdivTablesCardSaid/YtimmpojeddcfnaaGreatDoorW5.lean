/- Contracts of the program's functions, and plain laws (Pol8, Pol9, Pol10, Pol11, Pol12, Pol13, Pol16, Pol14, Pol15, Pri4, Pol17, Fld2, Ser1, Pdv1, Pdv2, Pdv3, Pdv4, Pdv5, Pdv6, Pdv7, Pdv8, Pdv9, Law24, Pdv10, Pdv11, Pdv12, Pdv13, Law25, Pdv15, Rows4, Law24b, Law24c, Law24d, Law25b, Tabs), for every input that their premises let in. -/
import Derived.Test.YtimmpojeddcfnaaGreatDoorW4
import Derived.Test.YtimmpojeddcfnaaGreatDoorW2
import Derived.Test.YtimmpojeddcfnaaGreatDoorW3
import Derived.Test.YtimmpojeddcfnaaGreatDoorW1
import Derived.OwnWalk
import Derived.WalkKit
import Derived.Deep.Fields
import Derived.Deep.Matrix
/- Engines of polynomials: products in two pieces. -/
namespace Go.Proofs.YtimmpojeddcfnaaGreatDoor
open Go.RowKit

/-- Where an engine's parts lie. -/
structure Pix where
  r : Nat
  q : Nat
  k0 : Nat
  k1 : Nat
  k2 : Nat
  k3 : Nat
  k4 : Nat
  k5 : Nat
  k6 : Nat
  k7 : Nat
  k8 : Nat
  k9 : Nat
  g0 : Nat
  g1 : Nat
  g2 : Nat
  g3 : Nat
  gm : Nat
/-- Block g is an engine of polynomials over the residues of p, of table u. -/
structure Pq (w : World) (u : Tb) (p : Int) (g : Nat) (I : Pix) (a : Int) (c : Mc) : Prop where
  pe : Pe w p g I.r I.q I.k0 I.k1 I.k2 I.k3 I.k4 I.k5 I.k6 I.k7 I.k8 I.k9 I.g0
  en : En w u I.g0 I.g1 I.g2 I.g3 I.gm a c
theorem Pq.grown0 {w w' : World} {u : Tb} {p : Int} {g : Nat} {I : Pix} {a : Int} {c : Mc} (h : Pq w u p g I a c) (k : w.grownBy w' none) : Pq w' u p g I a c := ⟨h.pe.grown0 k, h.en.grown0 k⟩
theorem Pq.rg {w : World} {u : Tb} {p : Int} {g : Nat} {I : Pix} {a : Int} {c : Mc} (h : Pq w u p g I a c) : Rg w I.r I.q p := h.pe.rg
theorem Pq.cell {w : World} {u : Tb} {p : Int} {g : Nat} {I : Pix} {a : Int} {c : Mc} (h : Pq w u p g I a c) (j : Nat) (hj : 3 ≤ j) : w.cell? ⟨I.gm, j, none⟩ = u.vs[j - 3]? := by
  rw [h.en.m.rest j hj, h.en.t]
  unfold tbT
  rw [if_pos hj]
theorem ev_moved (xs : List Int) (k : Nat) (x : Int) : ev (if xs = [] then [] else List.replicate k 0 ++ xs) x = x ^ k * ev xs x := by
  split
  · rename_i h; rw [h]; simp [ev]
  · rw [ev_append, ev_zeros, List.length_replicate, Int.zero_add]
theorem moved_len (xs : List Int) (k : Nat) : (if xs = [] then [] else List.replicate k 0 ++ xs).length ≤ k + xs.length := by
  split
  · simp
  · simp
theorem ev_cut2 (xs : List Int) (k : Nat) (hk : k ≤ xs.length) (x : Int) : ev (xs.take k) x + x ^ k * ev ((xs.take xs.length).drop k) x = ev xs x := by
  rw [List.take_length]; exact (ev_cut xs k hk x).symm
/-- Two pieces each: what the product is made of. -/
theorem kara_id (A0 A1 B0 B1 Y : Int) : A0 * B0 + Y * ((A0 + A1) * (B0 + B1) - (A0 * B0 + A1 * B1)) + Y * Y * (A1 * B1) = (A0 + Y * A1) * (B0 + Y * B1) := by grind
theorem IsP.ev_mul {p : Int} {F G H : Int → Int} (h : IsP F) (k : Eqv p G H) : Eqv p (fun x => F x * G x) (fun x => F x * H x) := by
  obtain ⟨K, hK, e⟩ := k
  exact ⟨_, h.mul hK, fun x => by
    show F x * G x = F x * H x + p * (F x * K x)
    rw [e x]; grind⟩
theorem Eqv.of_fn {p : Int} {F G H : Int → Int} (h : Eqv p G H) (e : ∀ x, F x = G x) : Eqv p F H := (Eqv.of_eq p e).trans h
set_option maxRecDepth 100000 in
set_option maxHeartbeats 20000000 in
theorem kara_any (u : Tb) (p : Int) (g : Nat) (I : Pix) (hu : TbOk u) : ∀ (N : Nat) (w : World) (a : Int) (c : Mc) (U V : Value) (XS YS : List Int), Pq w u p g I a c → Sl w U XS → Sl w V YS → XS.length + YS.length ≤ N → N ≤ 4000 →
    Calls Tryz.prog 72 #[.pointer (some ⟨g, 0, none⟩), U, V] w fun e w' => ∃ x, e = .returned x ∧ Po w' w.heap.size x p (fun z => ev XS z * ev YS z) (XS.length + YS.length) ∧ w.grownBy w' none := by
  intro N
  induction N using Nat.strongRecOn with
  | ind N ih =>
  intro w a c U V XS YS hP hU hV hN hN4
  have key : ∀ (S T : Value) (AS BS : List Int), Sl w S AS → Sl w T BS → BS.length ≤ AS.length → AS.length + BS.length ≤ N → ∀ U V : Value, ((U = S ∧ V = T) ∨ (U = T ∧ V = S ∧ BS.length < AS.length)) →
      Calls Tryz.prog 72 #[.pointer (some ⟨g, 0, none⟩), U, V] w fun e w' => ∃ x, e = .returned x ∧ Po w' w.heap.size x p (fun z => ev AS z * ev BS z) (AS.length + BS.length) ∧ w.grownBy w' none := by
    clear hU hV hN U V XS YS
    intro S T AS BS hS hT hle hN U V hs
    have HP := Lib.hid hP
    have IH := Lib.hid ih
    have HS := Lib.hid hS
    have HT := Lib.hid hT
    have hp := hP.rg.m.neg0
    have ep := hu.ep
    obtain ⟨A, ca, rfl, hca, hca2⟩ := hS.form
    obtain ⟨B, cb, rfl, hcb, hcb2⟩ := hT.form
    obtain ⟨n, hn⟩ : ∃ n, n = AS.length := ⟨_, rfl⟩
    obtain ⟨m, hm⟩ : ∃ n, n = BS.length := ⟨_, rfl⟩
    rw [← hn] at hca hle hN hs HS ⊢
    rw [← hm] at hcb hle hN hs HT ⊢
    have HNn := Lib.hid hn
    have HMm := Lib.hid hm
    clear hP ih hS hT hn hm
    obtain ⟨pl, hpl⟩ : ∃ pl, pl = u.ep := ⟨_, rfl⟩
    rw [← hpl] at ep
    have HPL := Lib.hid hpl
    clear hpl
    have t1 := HP.out.pe.e1
    have t2 := HP.out.pe.ch.c0
    have t3 := HP.out.pe.ch.c1
    have t4 := HP.out.pe.ch.c2
    have t5 := HP.out.pe.ch.c3
    have t6 := HP.out.pe.ch.c4
    have t7 := HP.out.pe.ch.c5
    have t8 := HP.out.pe.ch.c6
    have t9 := HP.out.pe.ch.c7
    have t10 := HP.out.pe.ch.c8
    have t11 := HP.out.pe.ch.c9
    have t12 := HP.out.en.e.h0
    have t13 := HP.out.en.e.h1
    have t14 := HP.out.en.e.h2
    have t15 := HP.out.en.e.h3
    have t16 := HP.out.cell 10 (by decide)
    rw [show u.vs[10 - 3]? = some (.int .i64 u.ep) from rfl, ← HPL.out] at t16
    have t0 := HP.out.pe.e0
    obtain ⟨U0, n', cu, hU, V0, m', cv, hV⟩ : ∃ U0 n' cu, U = .slice U0 n' cu ∧ ∃ V0 m' cv, V = .slice V0 m' cv := by
      rcases hs with ⟨rfl, rfl⟩ | ⟨rfl, rfl, hlt⟩
      · exact ⟨_, _, _, rfl, _, _, _, rfl⟩
      · exact ⟨_, _, _, rfl, _, _, _, rfl⟩
    subst hU hV
    have HSS := Lib.hid hs
    clear hs
    go_enter Tryz.func72, Tryz.ntmps72
    go_upto_if 20 with fail
    go_cut [1, 2] from 16 to 22 (fun v1 v2 wx => v1 = .slice A n ca ∧ v2 = .slice B m cb ∧ w = wx)
    case first =>
      rcases HSS.out with ⟨h1, h2⟩ | ⟨h1, h2, hlt⟩
      · simp only [Value.slice.injEq] at h1 h2
        obtain ⟨rfl, rfl, rfl⟩ := h1
        obtain ⟨rfl, rfl, rfl⟩ := h2
        have hd : decide ((n' : Int) < (m' : Int)) = false := decide_eq_false (by omega)
        go_wp2_with fail
        go_meet
        exact ⟨rfl, rfl, rfl⟩
      · simp only [Value.slice.injEq] at h1 h2
        obtain ⟨rfl, rfl, rfl⟩ := h1
        obtain ⟨rfl, rfl, rfl⟩ := h2
        have hd : decide ((n' : Int) < (m' : Int)) = true := decide_eq_true (by omega)
        go_wp2_with fail
        go_meet
        exact ⟨rfl, rfl, rfl⟩
    case rest =>
      obtain ⟨rfl, rfl, hw⟩ := hcut
      subst hw
      by_cases hsm : (m : Int) < pl
      · have TM := Lib.hid (ptimes_c w I.r I.q p _ _ AS BS HP.out.rg HS.out HT.out (by rw [← HNn.out]; omega) (by rw [← HMm.out]; omega))
        rw [← HNn.out, ← HMm.out] at TM
        clear IH
        go_wp2_with fail
        refine (TM.out).mono ?_
        rintro e w1 ⟨x, rfl, po, g1⟩
        go_wp2
        go_ret
        exact ⟨_, rfl, po, g1⟩
      · obtain ⟨N1, hN1⟩ : ∃ z, z = n + 1 := ⟨_, rfl⟩
        obtain ⟨h, hh⟩ : ∃ z, z = N1 / 2 := ⟨_, rfl⟩
        have eN1 : (n : Int) + 1 = (N1 : Int) := by omega
        have eh : (N1 : Int) / 2 = (h : Int) := by omega
        have hm4 : 4 ≤ m := by omega
        have hhn : h ≤ n := by omega
        have h2a : n ≤ 2 * h := by omega
        have h2b : 2 * h ≤ n + 1 := by omega
        obtain ⟨b, o, rfl, sl1⟩ := HS.out.mid h n (by omega) hhn (Nat.le_refl n)
        have S1 := Lib.hid sl1
        have S0 := Lib.hid (HS.out.take h hhn)
        have RG := Lib.hid (fun W (k : w.grownBy W none) => HP.out.rg.grown0 k)
        have PQ := Lib.hid (fun W (k : w.grownBy W none) => HP.out.grown0 k)
        have E0 := Lib.hid (fun W (k : w.grownBy W none) => gb_cell0 k HP.out.pe.e0)
        have SFo : Hid (∀ W, w.grownBy W none → Canon.SF [(⟨g, 0, none⟩, .pointer (some ⟨I.r, 0, none⟩))] W) := Lib.hid (fun W k => Canon.sf_cons (E0.out W k) (Canon.sf_nil _))
        have SFp : Hid (∀ W, w.grownBy W none → Canon.SF [(⟨g, 0, none⟩, .pointer (some ⟨I.r, 0, none⟩)), (⟨g, 0, none⟩, .pointer (some ⟨I.r, 0, none⟩))] W) := Lib.hid (fun W k => Canon.sf_cons (E0.out W k) (Canon.sf_cons (E0.out W k) (Canon.sf_nil _)))
        have NM := Lib.hid (pnorm_c w.drew I.r I.q p _ (AS.take h) (RG.out _ (gb_drew (gb_refl w none))) (S0.out.grown0 (gb_drew (gb_refl w none))) (by rw [List.length_take]; omega))
        have HH := Lib.hid hh
        have HN1 := Lib.hid hN1
        clear sl1 hh hN1
        go_wp2
        clear t1 t2 t3 t4 t5 t6 t7 t8 t9 t10 t11 t12 t13 t14 t15
        clear t16 eN1 eh
        refine Canon.region_canon (by kernel_rfl) (by kernel_rfl) ?_
        go_wp2_with fail
        refine (NM.out).mono ?_
        rintro e w1 ⟨x0, rfl, ⟨za, oa, na, ea, la⟩, g1⟩
        have G1 := Lib.hid (gb_trans (gb_drew (gb_refl w none)) g1)
        obtain ⟨A0, c0, rfl, b01, b02⟩ := oa.fm
        have hl0 : za.length ≤ h := by rw [List.length_take] at la; omega
        obtain ⟨l0, hl0'⟩ : ∃ z, z = za.length := ⟨_, rfl⟩
        rw [← hl0'] at b01 hl0 oa ⊢
        have SA := Lib.hid oa.sl
        have EA := Lib.hid ea
        have L0 := Lib.hid hl0'
        clear NM oa na ea la g1 hl0' t0
        go_wp2
        refine ⟨by kernel_rfl, ?_⟩
        by_cases hmh : m ≤ h
        · go_wp2
          have t0 := E0.out _ G1.out
          refine Canon.region_held [105] _ (by kernel_rfl) (by kernel_rfl) (SFo.out _ G1.out) ?_
          have k1 := IH.out (l0 + m) (by omega) w1.drew a c _ _ za BS (PQ.out _ (gb_drew G1.out)) (SA.out.grown0 (gb_drew (gb_refl w1 none))) (HT.out.grown0 (gb_drew G1.out)) (by rw [← L0.out, ← HMm.out]; exact Nat.le_refl _) (by omega)
          have K1 := Lib.hid k1
          clear k1
          refine Canon.segs_at 7 _ _ _ (by kernel_rfl) ?_
          simp only [List.take_succ_cons, List.take_zero, List.drop_succ_cons, List.drop_zero]
          go_wp2_with fail
          refine (K1.out).mono ?_
          rintro e w2 ⟨x2, rfl, ⟨zb, ob, nb, eb, lb⟩, g2⟩
          rw [← L0.out, ← HMm.out] at lb
          have G2 := Lib.hid (gb_trans (gb_drew G1.out) g2)
          obtain ⟨A2, c2, rfl, b21, b22⟩ := ob.fm
          obtain ⟨l2, hl2⟩ : ∃ z, z = zb.length := ⟨_, rfl⟩
          rw [← hl2] at b21 ob lb ⊢
          have SB := Lib.hid ob.sl
          have EB := Lib.hid eb
          have L2 := Lib.hid hl2
          have F2 := Lib.hid (SFo.out _ G2.out)
          clear K1 ob nb eb g2 hl2
          go_wp2
          refine ⟨F2.out, ?_⟩
          have k2 := IH.out (n - h + m) (by omega) w2 a c _ _ ((AS.take n).drop h) BS (PQ.out _ G2.out) (S1.out.grown0 G2.out) (HT.out.grown0 G2.out) (by rw [List.length_drop, List.length_take, ← HNn.out, ← HMm.out]; omega) (by omega)
          have K2 := Lib.hid k2
          clear k2 F2
          refine Canon.segs_at 4 _ _ _ (by kernel_rfl) ?_
          simp only [List.take_succ_cons, List.take_zero, List.drop_succ_cons, List.drop_zero]
          go_wp2_with fail
          refine (K2.out).mono ?_
          rintro e w3 ⟨x3, rfl, ⟨zc, oc, nc, ec, lc⟩, g3⟩
          rw [List.length_drop, List.length_take, ← HNn.out, ← HMm.out] at lc
          have G3 := Lib.hid (gb_trans G2.out g3)
          have SB3 := Lib.hid (SB.out.grown0 g3)
          have SC := Lib.hid oc.sl
          have EC := Lib.hid ec
          have F3 := Lib.hid (SFo.out _ G3.out)
          have MV := Lib.hid (pmoved_c w3 g x3 zc h oc.sl (by omega) (by omega))
          clear K2 oc nc ec g3 SB
          go_wp2
          refine ⟨F3.out, ?_⟩
          refine Canon.segs_at 1 _ _ _ (by kernel_rfl) ?_
          simp only [List.take_succ_cons, List.take_zero, List.drop_succ_cons, List.drop_zero]
          go_wp2_with fail
          refine (MV.out).mono ?_
          rintro e w4 ⟨x4, rfl, od, g4⟩
          have G4 := Lib.hid (gb_trans G3.out g4)
          have SB4 := Lib.hid (SB3.out.grown0 g4)
          have F4 := Lib.hid (SFo.out _ G4.out)
          obtain ⟨zd, hzd⟩ : ∃ zd, zd = (if zc = [] then [] else List.replicate h 0 ++ zc) := ⟨_, rfl⟩
          have ed : ∀ z, ev zd z = z ^ h * ev zc z := fun z => by rw [hzd]; exact ev_moved zc h z
          have ld : zd.length ≤ n + m := by rw [hzd]; have := moved_len zc h; omega
          rw [← hzd] at od
          obtain ⟨A4, c4, rfl, b41, b42⟩ := od.fm
          obtain ⟨l4, hl4⟩ : ∃ z, z = zd.length := ⟨_, rfl⟩
          rw [← hl4] at b41 od ld ⊢
          have SD := Lib.hid od.sl
          have ED := Lib.hid ed
          have L4 := Lib.hid hl4
          clear MV F3 SB3 od g4 hzd ed hl4
          go_wp2
          refine ⟨F4.out, ?_⟩
          have P2 := Lib.hid (pts2 w4 24 _ _ zb zd SB4.out SD.out)
          have GA := Lib.hid (gb_alloc (gb_refl w4 none) (Obj.cells #[.slice A2 l2 c2, .slice A4 l4 c4] 24))
          have F5 := Lib.hid (SFo.out _ (gb_trans G4.out GA.out))
          refine Canon.segs_at 0 _ _ _ (by kernel_rfl) ?_
          simp only [List.take_succ_cons, List.take_zero, List.drop_succ_cons, List.drop_zero]
          go_wp2
          refine ⟨F5.out, ?_⟩
          refine Canon.segs_at 0 _ _ _ (by kernel_rfl) ?_
          simp only [List.take_succ_cons, List.take_zero, List.drop_succ_cons, List.drop_zero]
          have PL := Lib.hid (pplus_c _ I.r I.q p _ 2 (n + m) _ _ (RG.out _ (gb_trans G4.out GA.out)) P2.out (fun j hj => by
            rcases (show j = 0 ∨ j = 1 by omega) with rfl | rfl
            · show zb.length ≤ n + m
              rw [← L2.out]; omega
            · show zd.length ≤ n + m
              rw [← L4.out]; omega) (by omega) (by omega))
          go_wp2_with fail
          refine (PL.out).mono ?_
          rintro e w6 ⟨x6, rfl, po, g6⟩
          have G6 := Lib.hid (gb_trans (gb_trans G4.out GA.out) g6)
          have F6 := Lib.hid (SFo.out _ G6.out)
          have PO := Lib.hid po
          clear PL po g6
          go_wp2
          refine ⟨F6.out, ?_⟩
          refine Canon.segs_end _ _ _ (by kernel_rfl) ?_
          go_wp2
          refine ⟨by kernel_rfl, by kernel_rfl, by kernel_rfl, ?_⟩
          go_wp2
          go_ret
          refine ⟨_, rfl, (PO.out.fn ?_ (Nat.le_refl _)).mono (gb_trans G4.out GA.out).size, G6.out⟩
          have q1 := (EB.out.trans (EA.out.mul (Eqv.refl p (ev BS)) (isP_ev _) (isP_ev _)))
          have q2 := ((isP_pow h).ev_mul EC.out)
          refine ((q1.add q2).trans (Eqv.of_eq p fun z => ?_)).of_fn fun z => ?_
          · rw [HNn.out]
            have := ev_cut2 AS h (by rw [← HNn.out]; exact hhn) z
            rw [← this]; grind
          · show 0 + ev zb z + ev zd z = _
            rw [ED.out z]; simp
        · have hmh' : h < m := by omega
          have b1 := HT.out.mid h m (by omega) (by omega) (Nat.le_refl m)
          obtain ⟨bb, oo, rfl, sl2⟩ := b1
          have S3 := Lib.hid sl2
          have S2 := Lib.hid (HT.out.take h (by omega))
          have NM := Lib.hid (pnorm_c w1.drew I.r I.q p _ (BS.take h) (RG.out _ (gb_drew G1.out)) (S2.out.grown0 (gb_drew G1.out)) (by rw [List.length_take]; omega))
          clear sl2
          go_wp2
          have t0 := E0.out _ G1.out
          refine Canon.region_canon (by kernel_rfl) (by kernel_rfl) ?_
          go_wp2_with fail
          refine (NM.out).mono ?_
          rintro e w2 ⟨x1, rfl, ⟨zb, ob, nb, eb, lb⟩, g2⟩
          have G2 := Lib.hid (gb_trans (gb_drew G1.out) g2)
          obtain ⟨A1, c1, rfl, b11, b12⟩ := ob.fm
          have hl1 : zb.length ≤ h := by rw [List.length_take] at lb; omega
          obtain ⟨l1, hl1'⟩ : ∃ z, z = zb.length := ⟨_, rfl⟩
          rw [← hl1'] at b11 hl1 ob ⊢
          have SB := Lib.hid ob.sl
          have SA2 := Lib.hid (SA.out.grown0 (gb_trans (gb_drew (gb_refl w1 none)) g2))
          have EB := Lib.hid eb
          have L1 := Lib.hid hl1'
          clear NM ob nb eb lb g2 hl1' t0 SA
          go_wp2
          refine ⟨by kernel_rfl, ?_⟩
          have k1 := IH.out (l0 + l1) (by omega) w2 a c _ _ za zb (PQ.out _ G2.out) SA2.out SB.out (by rw [← L0.out, ← L1.out]; exact Nat.le_refl _) (by omega)
          have K1 := Lib.hid k1
          clear k1
          go_wp2_with fail
          refine (K1.out).mono ?_
          rintro e w3 ⟨x3, rfl, ⟨zl, ol, nl, el, ll⟩, g3⟩
          rw [← L0.out, ← L1.out] at ll
          have G3 := Lib.hid (gb_trans G2.out g3)
          have SA3 := Lib.hid (SA2.out.grown0 g3)
          have SB3 := Lib.hid (SB.out.grown0 g3)
          have SL := Lib.hid ol.sl
          have EL := Lib.hid el
          have k2 := IH.out (n - h + (m - h)) (by omega) w3 a c _ _ ((AS.take n).drop h) ((BS.take m).drop h) (PQ.out _ G3.out) (S1.out.grown0 G3.out) (S3.out.grown0 G3.out) (by rw [List.length_drop, List.length_take, List.length_drop, List.length_take, ← HNn.out, ← HMm.out]; omega) (by omega)
          have K2 := Lib.hid k2
          clear K1 k2 ol nl el g3 SA2 SB
          go_wp2_with fail
          refine (K2.out).mono ?_
          rintro e w4 ⟨x4, rfl, ⟨zh, oh, nh, eh, lh⟩, g4⟩
          rw [List.length_drop, List.length_take, List.length_drop, List.length_take, ← HNn.out, ← HMm.out] at lh
          have G4 := Lib.hid (gb_trans G3.out g4)
          have SA4 := Lib.hid (SA3.out.grown0 g4)
          have SB4 := Lib.hid (SB3.out.grown0 g4)
          have SL4 := Lib.hid (SL.out.grown0 g4)
          have SH := Lib.hid oh.sl
          have EH := Lib.hid eh
          clear K2 oh nh eh g4 SA3 SB3 SL
          have PL1 := Lib.hid (fun (W : World) (V : Value) (k : w.grownBy W none) (q : Pts W V 2 (fun j => [.slice A0 l0 c0, Value.slice (some ⟨b, o + h, none⟩) (n - h) (ca - h)].getD j (.slice A0 l0 c0)) (fun j => [za, (AS.take n).drop h].getD j [])) => pplus_c W I.r I.q p V 2 h _ _ (RG.out W k) q (fun j hj => by
            rcases (show j = 0 ∨ j = 1 by omega) with rfl | rfl
            · show za.length ≤ h
              rw [← L0.out]; exact hl0
            · show ((AS.take n).drop h).length ≤ h
              rw [List.length_drop, List.length_take, ← HNn.out]; omega) (by omega) (by omega))
          have PL2 := Lib.hid (fun (W : World) (V : Value) (k : w.grownBy W none) (q : Pts W V 2 (fun j => [.slice A1 l1 c1, Value.slice (some ⟨bb, oo + h, none⟩) (m - h) (cb - h)].getD j (.slice A1 l1 c1)) (fun j => [zb, (BS.take m).drop h].getD j [])) => pplus_c W I.r I.q p V 2 h _ _ (RG.out W k) q (fun j hj => by
            rcases (show j = 0 ∨ j = 1 by omega) with rfl | rfl
            · show zb.length ≤ h
              rw [← L1.out]; exact hl1
            · show ((BS.take m).drop h).length ≤ h
              rw [List.length_drop, List.length_take, ← HMm.out]; omega) (by omega) (by omega))
          have KK := Lib.hid (fun (W : World) (X Y : Value) (xs ys : List Int) (k : w.grownBy W none) (sx : Sl W X xs) (sy : Sl W Y ys) (hx : xs.length ≤ h) (hy : ys.length ≤ h) => IH.out (2 * h) (by omega) W a c X Y xs ys (PQ.out W k) sx sy (by omega) (by omega))
          have FN : Hid (∀ xs ys : List Int, Eqv p (ev xs) (smF (fun j => ev ([za, (AS.take n).drop h].getD j [])) 2) → Eqv p (ev ys) (smF (fun j => ev ([zb, (BS.take m).drop h].getD j [])) 2) → Eqv p (fun z => ev xs z * ev ys z) (fun z => (ev za z + ev ((AS.take n).drop h) z) * (ev zb z + ev ((BS.take m).drop h) z))) :=
            Lib.hid (fun xs ys e1 e2 => (Eqv.rows e1 e2).trans (Eqv.of_eq p fun z => by simp [smF]))
          have PA := Lib.hid (fun (W : World) (k : w4.grownBy W none) => pts2 W 24 (.slice A0 l0 c0) (Value.slice (some ⟨b, o + h, none⟩) (n - h) (ca - h)) za ((AS.take n).drop h) (SA4.out.grown0 k) (S1.out.grown0 (gb_trans G4.out k)))
          have PB := Lib.hid (fun (W : World) (k : w4.grownBy W none) => pts2 W 24 (.slice A1 l1 c1) (Value.slice (some ⟨bb, oo + h, none⟩) (m - h) (cb - h)) zb ((BS.take m).drop h) (SB4.out.grown0 k) (S3.out.grown0 (gb_trans G4.out k)))
          go_upto_region 11 with fail
          go_cut [14] from 138 to 155 (fun v14 wx => Po wx w4.heap.size v14 p (fun z => (ev za z + ev ((AS.take n).drop h) z) * (ev zb z + ev ((BS.take m).drop h) z)) (2 * h) ∧ w4.grownBy wx none)
          case first =>
            have t0 := E0.out _ G4.out
            refine Canon.region_s [142, 150] _ 15 [[0, 1, 2, 3, 4, 5, 6, 13, 14], [7], [8, 9, 10, 11, 12], [16, 17, 18]] (by kernel_rfl) (by kernel_rfl) (SFp.out _ G4.out) ?_
            simp only [Canon.segT, Canon.operL, List.filterMap_cons, List.filterMap_nil, List.getElem?_toArray, List.getElem?_cons_zero, List.getElem?_cons_succ, List.flatten_cons, List.flatten_nil, List.nil_append, List.cons_append]
            refine Canon.segs_end _ _ _ (by kernel_rfl) ?_
            go_wp2
            refine ⟨fun _ => ?_, ?_⟩
            · have D0 := gb_drew (gb_refl w4 none)
              have PB1 := PB.out _ D0
              have D1 := gb_alloc D0 (Obj.cells #[.slice A1 l1 c1, Value.slice (some ⟨bb, oo + h, none⟩) (m - h) (cb - h)] 24)
              have PA1 := PA.out _ D1
              rw [alloc_sz] at PA1
              have D2 := gb_alloc D1 (Obj.cells #[.slice A0 l0 c0, Value.slice (some ⟨b, o + h, none⟩) (n - h) (ca - h)] 24)
              have HB := Lib.hid (PB1.grown0 (gb_alloc (gb_refl _ none) (Obj.cells #[.slice A0 l0 c0, Value.slice (some ⟨b, o + h, none⟩) (n - h) (ca - h)] 24)))
              have HA := Lib.hid PA1
              have H1 := Lib.hid D1
              have H2 := Lib.hid D2
              clear D0 D1 D2 PB1 PA1
              refine Canon.segs_at 0 _ _ _ (by kernel_rfl) ?_
              simp only [List.take_succ_cons, List.take_zero, List.drop_succ_cons, List.drop_zero]
              go_wp2
              refine ⟨SFp.out _ (gb_trans G4.out H1.out), ?_⟩
              refine Canon.segs_at 0 _ _ _ (by kernel_rfl) ?_
              simp only [List.take_succ_cons, List.take_zero, List.drop_succ_cons, List.drop_zero]
              go_wp2
              refine ⟨SFp.out _ (gb_trans G4.out H2.out), ?_⟩
              refine Canon.segs_at 0 _ _ _ (by kernel_rfl) ?_
              simp only [List.take_succ_cons, List.take_zero, List.drop_succ_cons, List.drop_zero]
              go_wp2_with fail
              refine (PL1.out _ _ (gb_trans G4.out H2.out) HA.out).mono ?_
              rintro e w5 ⟨x5, rfl, ⟨xa, oxa, nxa, exa, la2⟩, g5⟩
              have G5 := Lib.hid (gb_trans H2.out g5)
              have SX := Lib.hid oxa.sl
              have HB5 := Lib.hid (HB.out.grown0 g5)
              clear oxa nxa g5
              go_wp2
              refine ⟨SFp.out _ (gb_trans G4.out G5.out), ?_⟩
              have t0 := E0.out _ (gb_trans G4.out G5.out)
              refine Canon.segs_at 4 _ _ _ (by kernel_rfl) ?_
              simp only [List.take_succ_cons, List.take_zero, List.drop_succ_cons, List.drop_zero]
              go_wp2_with fail
              refine (PL2.out _ _ (gb_trans G4.out G5.out) HB5.out).mono ?_
              rintro e w6 ⟨x6, rfl, ⟨xb, oxb, nxb, exb, lb2⟩, g6⟩
              have G6 := Lib.hid (gb_trans G5.out g6)
              have SX6 := Lib.hid (SX.out.grown0 g6)
              have SY6 := Lib.hid oxb.sl
              clear oxb nxb g6
              go_wp2
              refine ⟨SFp.out _ (gb_trans G4.out G6.out), ?_⟩
              refine Canon.segs_at 0 _ _ _ (by kernel_rfl) ?_
              simp only [List.take_succ_cons, List.take_zero, List.drop_succ_cons, List.drop_zero]
              go_wp2_with fail
              refine (KK.out _ _ _ xa xb (gb_trans G4.out G6.out) SX6.out SY6.out la2 lb2).mono ?_
              rintro e w7 ⟨x7, rfl, po, g7⟩
              have G7 := Lib.hid (gb_trans G6.out g7)
              have F7 := Lib.hid (SFp.out _ (gb_trans G4.out G7.out))
              have PO := Lib.hid ((po.fn (L' := 2 * h) (FN.out _ _ exa exb) (by omega)).mono G6.out.size)
              clear po g7
              go_wp2
              refine ⟨F7.out, ?_⟩
              refine Canon.segs_end _ _ _ (by kernel_rfl) ?_
              go_wp2
              refine ⟨Canon.endOk (by kernel_rfl) (by kernel_rfl) (by kernel_rfl), ?_⟩
              go_wp2_with fail
              go_meet
              exact ⟨PO.out, G7.out⟩
            · have D0 := gb_drew (gb_refl w4 none)
              have PA1 := PA.out _ D0
              have D1 := gb_alloc D0 (Obj.cells #[.slice A0 l0 c0, Value.slice (some ⟨b, o + h, none⟩) (n - h) (ca - h)] 24)
              have HA := Lib.hid PA1
              have H1 := Lib.hid D1
              clear D0 D1 PA1
              refine Canon.segs_at 0 _ _ _ (by kernel_rfl) ?_
              simp only [List.take_succ_cons, List.take_zero, List.drop_succ_cons, List.drop_zero]
              go_wp2
              refine ⟨SFp.out _ (gb_trans G4.out H1.out), ?_⟩
              refine Canon.segs_end _ _ _ (by kernel_rfl) ?_
              go_wp2
              refine ⟨fun _ => ?_, ?_⟩
              · have PB1 := PB.out _ H1.out
                rw [alloc_sz] at PB1
                have D2 := gb_alloc H1.out (Obj.cells #[.slice A1 l1 c1, Value.slice (some ⟨bb, oo + h, none⟩) (m - h) (cb - h)] 24)
                have HA2 := Lib.hid (HA.out.grown0 (gb_alloc (gb_refl _ none) (Obj.cells #[.slice A1 l1 c1, Value.slice (some ⟨bb, oo + h, none⟩) (m - h) (cb - h)] 24)))
                have HB := Lib.hid PB1
                have H2 := Lib.hid D2
                clear D2 PB1
                refine Canon.segs_at 0 _ _ _ (by kernel_rfl) ?_
                simp only [List.take_succ_cons, List.take_zero, List.drop_succ_cons, List.drop_zero]
                go_wp2
                refine ⟨SFp.out _ (gb_trans G4.out H2.out), ?_⟩
                refine Canon.segs_at 0 _ _ _ (by kernel_rfl) ?_
                simp only [List.take_succ_cons, List.take_zero, List.drop_succ_cons, List.drop_zero]
                go_wp2_with fail
                refine (PL1.out _ _ (gb_trans G4.out H2.out) HA2.out).mono ?_
                rintro e w5 ⟨x5, rfl, ⟨xa, oxa, nxa, exa, la2⟩, g5⟩
                have G5 := Lib.hid (gb_trans H2.out g5)
                have SX := Lib.hid oxa.sl
                have HB5 := Lib.hid (HB.out.grown0 g5)
                clear oxa nxa g5
                go_wp2
                refine ⟨SFp.out _ (gb_trans G4.out G5.out), ?_⟩
                have t0 := E0.out _ (gb_trans G4.out G5.out)
                refine Canon.segs_at 4 _ _ _ (by kernel_rfl) ?_
                simp only [List.take_succ_cons, List.take_zero, List.drop_succ_cons, List.drop_zero]
                go_wp2_with fail
                refine (PL2.out _ _ (gb_trans G4.out G5.out) HB5.out).mono ?_
                rintro e w6 ⟨x6, rfl, ⟨xb, oxb, nxb, exb, lb2⟩, g6⟩
                have G6 := Lib.hid (gb_trans G5.out g6)
                have SX6 := Lib.hid (SX.out.grown0 g6)
                have SY6 := Lib.hid oxb.sl
                clear oxb nxb g6
                go_wp2
                refine ⟨SFp.out _ (gb_trans G4.out G6.out), ?_⟩
                refine Canon.segs_at 0 _ _ _ (by kernel_rfl) ?_
                simp only [List.take_succ_cons, List.take_zero, List.drop_succ_cons, List.drop_zero]
                go_wp2_with fail
                refine (KK.out _ _ _ xa xb (gb_trans G4.out G6.out) SX6.out SY6.out la2 lb2).mono ?_
                rintro e w7 ⟨x7, rfl, po, g7⟩
                have G7 := Lib.hid (gb_trans G6.out g7)
                have F7 := Lib.hid (SFp.out _ (gb_trans G4.out G7.out))
                have PO := Lib.hid ((po.fn (L' := 2 * h) (FN.out _ _ exa exb) (by omega)).mono G6.out.size)
                clear po g7
                go_wp2
                refine ⟨F7.out, ?_⟩
                refine Canon.segs_end _ _ _ (by kernel_rfl) ?_
                go_wp2
                refine ⟨Canon.endOk (by kernel_rfl) (by kernel_rfl) (by kernel_rfl), ?_⟩
                go_wp2_with fail
                go_meet
                exact ⟨PO.out, G7.out⟩
              · skip
                refine Canon.segs_at 0 _ _ _ (by kernel_rfl) ?_
                simp only [List.take_succ_cons, List.take_zero, List.drop_succ_cons, List.drop_zero]
                go_wp2_with fail
                refine (PL1.out _ _ (gb_trans G4.out H1.out) HA.out).mono ?_
                rintro e w5 ⟨x5, rfl, ⟨xa, oxa, nxa, exa, la2⟩, g5⟩
                have G5 := Lib.hid (gb_trans H1.out g5)
                have SX := Lib.hid oxa.sl
                clear oxa nxa g5
                go_wp2
                refine ⟨SFp.out _ (gb_trans G4.out G5.out), ?_⟩
                have t0 := E0.out _ (gb_trans G4.out G5.out)
                refine Canon.segs_end _ _ _ (by kernel_rfl) ?_
                go_wp2
                refine ⟨fun h0 => absurd rfl h0, ?_⟩
                have PB1 := PB.out _ G5.out
                have D2 := gb_alloc G5.out (Obj.cells #[.slice A1 l1 c1, Value.slice (some ⟨bb, oo + h, none⟩) (m - h) (cb - h)] 24)
                have HB := Lib.hid PB1
                have H2 := Lib.hid D2
                have SX5 := Lib.hid (SX.out.grown0 (gb_alloc (gb_refl _ none) (Obj.cells #[.slice A1 l1 c1, Value.slice (some ⟨bb, oo + h, none⟩) (m - h) (cb - h)] 24)))
                clear D2 PB1
                refine Canon.segs_at 0 _ _ _ (by kernel_rfl) ?_
                simp only [List.take_succ_cons, List.take_zero, List.drop_succ_cons, List.drop_zero]
                go_wp2
                refine ⟨SFp.out _ (gb_trans G4.out H2.out), ?_⟩
                refine Canon.segs_at 0 _ _ _ (by kernel_rfl) ?_
                simp only [List.take_succ_cons, List.take_zero, List.drop_succ_cons, List.drop_zero]
                go_wp2_with fail
                refine (PL2.out _ _ (gb_trans G4.out H2.out) HB.out).mono ?_
                rintro e w6 ⟨x6, rfl, ⟨xb, oxb, nxb, exb, lb2⟩, g6⟩
                have G6 := Lib.hid (gb_trans H2.out g6)
                have SX6 := Lib.hid (SX5.out.grown0 g6)
                have SY6 := Lib.hid oxb.sl
                clear oxb nxb g6
                go_wp2
                refine ⟨SFp.out _ (gb_trans G4.out G6.out), ?_⟩
                refine Canon.segs_at 0 _ _ _ (by kernel_rfl) ?_
                simp only [List.take_succ_cons, List.take_zero, List.drop_succ_cons, List.drop_zero]
                go_wp2_with fail
                refine (KK.out _ _ _ xa xb (gb_trans G4.out G6.out) SX6.out SY6.out la2 lb2).mono ?_
                rintro e w7 ⟨x7, rfl, po, g7⟩
                have G7 := Lib.hid (gb_trans G6.out g7)
                have F7 := Lib.hid (SFp.out _ (gb_trans G4.out G7.out))
                have PO := Lib.hid ((po.fn (L' := 2 * h) (FN.out _ _ exa exb) (by omega)).mono G6.out.size)
                clear po g7
                go_wp2
                refine ⟨F7.out, ?_⟩
                refine Canon.segs_end _ _ _ (by kernel_rfl) ?_
                go_wp2
                refine ⟨Canon.endOk (by kernel_rfl) (by kernel_rfl) (by kernel_rfl), ?_⟩
                go_wp2_with fail
                go_meet
                exact ⟨PO.out, G7.out⟩
          case rest =>
            obtain ⟨⟨zo, oo', no, eo, lo⟩, gc⟩ := hcut
            have GC := Lib.hid (gb_trans G4.out gc)
            have SO := Lib.hid oo'.sl
            have EO := Lib.hid eo
            have SL5 := Lib.hid (SL4.out.grown0 gc)
            have SH5 := Lib.hid (SH.out.grown0 gc)
            clear oo' no eo gc PL1 PL2 KK FN PA PB SL4 SH SA4 SB4
            obtain ⟨A3, c3, rfl, b31, b32⟩ := SL5.out.form
            obtain ⟨A4, c4, rfl, b41, b42⟩ := SH5.out.form
            obtain ⟨l3, hl3⟩ : ∃ z, z = zl.length := ⟨_, rfl⟩
            obtain ⟨l4, hl4⟩ : ∃ z, z = zh.length := ⟨_, rfl⟩
            rw [← hl3] at b31 ll SL5 ⊢
            rw [← hl4] at b41 lh SH5 ⊢
            have L3 := Lib.hid hl3
            have L4 := Lib.hid hl4
            clear hl3 hl4
            have t0 := E0.out _ GC.out
            have PS := Lib.hid (pts2 wc.drew 24 (.slice A3 l3 c3) (.slice A4 l4 c4) zl zh (SL5.out.grown0 (gb_drew (gb_refl wc none))) (SH5.out.grown0 (gb_drew (gb_refl wc none))))
            have GB := Lib.hid (gb_alloc (gb_drew GC.out) (Obj.cells #[.slice A3 l3 c3, .slice A4 l4 c4] 24))
            have GB1 := Lib.hid (gb_alloc (gb_drew (gb_refl wc none)) (Obj.cells #[.slice A3 l3 c3, .slice A4 l4 c4] 24))
            have PL := Lib.hid (pplus_c _ I.r I.q p _ 2 (2 * h) _ _ (RG.out _ GB.out) PS.out (fun j hj => by
              rcases (show j = 0 ∨ j = 1 by omega) with rfl | rfl
              · show zl.length ≤ 2 * h
                rw [← L3.out]; omega
              · show zh.length ≤ 2 * h
                rw [← L4.out]; omega) (by omega) (by omega))
            go_wp2
            refine Canon.region_held [159, 164] _ (by kernel_rfl) (by kernel_rfl) (SFp.out _ GC.out) ?_
            refine Canon.segs_at 11 _ _ _ (by kernel_rfl) ?_
            simp only [List.take_succ_cons, List.take_zero, List.drop_succ_cons, List.drop_zero]
            go_wp2
            refine ⟨SFp.out _ GB.out, ?_⟩
            refine Canon.segs_at 0 _ _ _ (by kernel_rfl) ?_
            simp only [List.take_succ_cons, List.take_zero, List.drop_succ_cons, List.drop_zero]
            go_wp2_with fail
            refine (PL.out).mono ?_
            rintro e w5 ⟨x5, rfl, ⟨zs, os, ns, es, ls⟩, g5⟩
            have G5 := Lib.hid (gb_trans GB.out g5)
            have ES := Lib.hid es
            have MN := Lib.hid (pminus_c w5 I.r I.q p _ x5 zo zs (RG.out _ G5.out) (SO.out.grown0 (gb_trans GB1.out g5)) os.sl (by omega) (by omega))
            have SL6 := Lib.hid (SL5.out.grown0 (gb_trans GB1.out g5))
            have SH6 := Lib.hid (SH5.out.grown0 (gb_trans GB1.out g5))
            clear PL PS os ns es g5 SL5 SH5 SO
            go_wp2
            refine ⟨SFp.out _ G5.out, ?_⟩
            refine Canon.segs_at 0 _ _ _ (by kernel_rfl) ?_
            simp only [List.take_succ_cons, List.take_zero, List.drop_succ_cons, List.drop_zero]
            go_wp2_with fail
            refine (MN.out).mono ?_
            rintro e w6 ⟨x6, rfl, ⟨zm, om, nm, em, lm⟩, g6⟩
            have G6 := Lib.hid (gb_trans G5.out g6)
            have EM := Lib.hid em
            have SM := Lib.hid om.sl
            have SL7 := Lib.hid (SL6.out.grown0 g6)
            have SH7 := Lib.hid (SH6.out.grown0 g6)
            clear MN om nm em g6 SL6 SH6 GB GB1 t0
            go_wp2
            refine ⟨SFp.out _ G6.out, ?_⟩
            refine Canon.segs_end _ _ _ (by kernel_rfl) ?_
            go_wp2
            refine ⟨by kernel_rfl, by kernel_rfl, by kernel_rfl, ?_⟩
            have t0 := E0.out _ G6.out
            obtain ⟨H2, hH2⟩ : ∃ z, z = 2 * h := ⟨_, rfl⟩
            have eH2 : 2 * (h : Int) = (H2 : Int) := by omega
            have bH2 : H2 ≤ 5000 := by omega
            have HH2 := Lib.hid hH2
            have lm2 : zm.length ≤ 2 * h := by omega
            have MV := Lib.hid (pmoved_c w6.drew g x6 zm h (SM.out.grown0 (gb_drew (gb_refl w6 none))) (by omega) (by omega))
            go_wp2
            refine Canon.region_held [173] _ (by kernel_rfl) (by kernel_rfl) (SFo.out _ G6.out) ?_
            refine Canon.segs_at 8 _ _ _ (by kernel_rfl) ?_
            simp only [List.take_succ_cons, List.take_zero, List.drop_succ_cons, List.drop_zero]
            go_wp2_with fail
            refine (MV.out).mono ?_
            rintro e w7 ⟨x7, rfl, o7, g7⟩
            have G7 := Lib.hid (gb_trans (gb_drew G6.out) g7)
            have G67 := Lib.hid (gb_trans (gb_drew (gb_refl w6 none)) g7)
            obtain ⟨z7, hz7⟩ : ∃ zd, zd = (if zm = [] then [] else List.replicate h 0 ++ zm) := ⟨_, rfl⟩
            have e7 : ∀ z, ev z7 z = z ^ h * ev zm z := fun z => by rw [hz7]; exact ev_moved zm h z
            have l7 : z7.length ≤ n + m := by rw [hz7]; have := moved_len zm h; omega
            rw [← hz7] at o7
            obtain ⟨A7, c7, rfl, b71, b72⟩ := o7.fm
            obtain ⟨n7, hn7⟩ : ∃ z, z = z7.length := ⟨_, rfl⟩
            rw [← hn7] at b71 o7 l7 ⊢
            have S7 := Lib.hid o7.sl
            have E7 := Lib.hid e7
            have N7 := Lib.hid hn7
            have MV2 := Lib.hid (pmoved_c w7 g (.slice A4 l4 c4) zh H2 (SH7.out.grown0 G67.out) (by rw [← L4.out]; omega) (by omega))
            clear hH2 MV o7 e7 hz7 hn7
            go_wp2
            refine ⟨SFo.out _ G7.out, ?_⟩
            refine Canon.segs_at 4 _ _ _ (by kernel_rfl) ?_
            simp only [List.take_succ_cons, List.take_zero, List.drop_succ_cons, List.drop_zero]
            go_wp2_with fail
            refine (MV2.out).mono ?_
            rintro e w8 ⟨x8, rfl, o8, g8⟩
            have G8 := Lib.hid (gb_trans G7.out g8)
            obtain ⟨z8, hz8⟩ : ∃ zd, zd = (if zh = [] then [] else List.replicate H2 0 ++ zh) := ⟨_, rfl⟩
            have e8 : ∀ z, ev z8 z = z ^ H2 * ev zh z := fun z => by rw [hz8]; exact ev_moved zh H2 z
            have l8 : z8.length ≤ n + m := by rw [hz8]; have := moved_len zh H2; have := L4.out; have := HH2.out; omega
            rw [← hz8] at o8
            obtain ⟨A8, c8, rfl, b81, b82⟩ := o8.fm
            obtain ⟨n8, hn8⟩ : ∃ z, z = z8.length := ⟨_, rfl⟩
            rw [← hn8] at b81 o8 l8 ⊢
            have S8 := Lib.hid o8.sl
            have S78 := Lib.hid (S7.out.grown0 g8)
            have SL8 := Lib.hid (SL7.out.grown0 (gb_trans G67.out g8))
            have E8 := Lib.hid e8
            have N8 := Lib.hid hn8
            clear MV2 o8 e8 hz8 hn8 g8 g7
            go_wp2
            clear eH2
            refine ⟨SFo.out _ G8.out, ?_⟩
            have PS := Lib.hid (pts3 w8 24 (.slice A3 l3 c3) (.slice A7 n7 c7) (.slice A8 n8 c8) zl z7 z8 SL8.out S78.out S8.out)
            have GB := Lib.hid (gb_alloc G8.out (Obj.cells #[.slice A3 l3 c3, .slice A7 n7 c7, .slice A8 n8 c8] 24))
            refine Canon.segs_at 0 _ _ _ (by kernel_rfl) ?_
            simp only [List.take_succ_cons, List.take_zero, List.drop_succ_cons, List.drop_zero]
            go_wp2
            refine ⟨SFo.out _ GB.out, ?_⟩
            refine Canon.segs_at 0 _ _ _ (by kernel_rfl) ?_
            simp only [List.take_succ_cons, List.take_zero, List.drop_succ_cons, List.drop_zero]
            have PL := Lib.hid (pplus_c _ I.r I.q p _ 3 (n + m) _ _ (RG.out _ GB.out) PS.out (fun j hj => by
              rcases (show j = 0 ∨ j = 1 ∨ j = 2 by omega) with rfl | rfl | rfl
              · show zl.length ≤ n + m
                rw [← L3.out]; omega
              · show z7.length ≤ n + m
                rw [← N7.out]; exact l7
              · show z8.length ≤ n + m
                rw [← N8.out]; exact l8) (by omega) (by omega))
            go_wp2_with fail
            refine (PL.out).mono ?_
            rintro e w9 ⟨x9, rfl, po, g9⟩
            have G9 := Lib.hid (gb_trans GB.out g9)
            have PO := Lib.hid po
            clear PL po g9
            go_wp2
            refine ⟨SFo.out _ G9.out, ?_⟩
            refine Canon.segs_end _ _ _ (by kernel_rfl) ?_
            go_wp2
            refine ⟨by kernel_rfl, by kernel_rfl, by kernel_rfl, ?_⟩
            go_wp2
            go_ret
            refine ⟨_, rfl, (PO.out.fn ?_ (Nat.le_refl _)).mono GB.out.size, G9.out⟩
            have q0 := EL.out.trans (Eqv.rows EA.out EB.out)
            have q2 := EH.out
            have qa : Eqv p (fun z => (ev za z + ev ((AS.take n).drop h) z) * (ev zb z + ev ((BS.take m).drop h) z)) (fun z => (ev (AS.take h) z + ev ((AS.take n).drop h) z) * (ev (BS.take h) z + ev ((BS.take m).drop h) z)) :=
              (EA.out.add (Eqv.refl p _)).mul (EB.out.add (Eqv.refl p _)) ((isP_ev _).add (isP_ev _)) ((isP_ev _).add (isP_ev _))
            have q1 := EO.out.trans qa
            have qs : Eqv p (ev zs) (fun z => ev zl z + ev zh z) := ES.out.fn fun z => by simp [smF]
            have qm := EM.out.trans (q1.sub (qs.trans (q0.add q2)))
            have q7 := (isP_pow h).ev_mul qm
            have q8 := (isP_pow H2).ev_mul q2
            refine (((q0.add q7).add q8).trans (Eqv.of_eq p fun z => ?_)).of_fn fun z => ?_
            · have u1 := ev_cut2 AS h (by rw [← HNn.out]; exact hhn) z
              have u2 := ev_cut2 BS h (by rw [← HMm.out]; omega) z
              rw [← HNn.out] at u1
              rw [← HMm.out] at u2
              have u3 : z ^ H2 = z ^ h * z ^ h := by rw [HH2.out, ← Int.pow_add]; congr 1; omega
              show _ + z ^ h * _ + z ^ H2 * _ = _
              rw [u3, ← u1, ← u2]
              exact kara_id _ _ _ _ _
            · show 0 + ev zl z + ev z7 z + ev z8 z = _
              rw [E7.out z, E8.out z]; simp
  rcases Nat.lt_or_ge XS.length YS.length with h | h
  · exact (key V U YS XS hV hU (by omega) (by omega) U V (.inr ⟨rfl, rfl, h⟩)).mono fun e w' ⟨x, e1, po, k⟩ => ⟨x, e1, po.fn (Eqv.of_eq p fun z => Int.mul_comm _ _) (by omega), k⟩
  · exact key U V XS YS hU hV h (by omega) U V (.inl ⟨rfl, rfl⟩)
end Go.Proofs.YtimmpojeddcfnaaGreatDoor

/- Engines of polynomials: products by one product of naturals. -/
namespace Go.Proofs.YtimmpojeddcfnaaGreatDoor
open Go.RowKit

set_option maxRecDepth 100000 in
set_option maxHeartbeats 2000000 in
theorem packed_c (w : World) (u : Value) (xs : List Int) (k : Nat) (hu : Sl w u xs) (hl : xs.length ≤ 100000) (hk0 : 0 < k) (hk : k ≤ 100) :
    Calls Tryz.prog 75 #[u, .int .i64 k] w fun e w' => ∃ x os, e = .returned x ∧ Own w' w.heap.size x os ∧ Pk xs k xs.length os ∧ w.grownBy w' none := by
  obtain ⟨A, ca, rfl, hca, _⟩ := hu.form
  have HU := Lib.hid hu
  obtain ⟨n, hn⟩ : ∃ n, n = xs.length := ⟨_, rfl⟩
  rw [← hn] at hca hl ⊢
  obtain ⟨M, hM⟩ : ∃ M, M = k * n := ⟨_, rfl⟩
  have bM : M ≤ 100 * 100000 := by rw [hM]; exact Nat.mul_le_mul hk hl
  have eM : (k : Int) * (n : Int) = (M : Int) := by rw [hM]; exact (Int.natCast_mul _ _).symm
  have mk := make64 29 (by kernel_rfl) M M (M : Int) (M : Int) (by omega) (by omega) (by omega) (by omega)
  have OW := Lib.hid (own_made w w.heap.size M M (Nat.le_refl _) (by omega) (by omega))
  have G0 := Lib.hid (gb_alloc (gb_refl w none) (Obj.cells (madeCells #[.int .u64 0] M) 53))
  have P0 : Hid (Pk xs k 0 (List.replicate M 0) ∧ ∀ j, rd (List.replicate M 0) j = 0) := Lib.hid ⟨by rw [hM, hn]; exact Pk.start _ _, fun j => by rw [rd_replicate]⟩
  have HN := Lib.hid hn
  have HM := Lib.hid hM
  clear hu hn hM
  go_enter Tryz.func75, Tryz.ntmps75
  go_wp2
  clear mk eM
  go_loopw [15] (fun v15 wr => ∃ (i : Nat) (os : List Int), v15 = .int .i64 i ∧ i ≤ n ∧ (Pk xs k i os ∧ ∀ j, k * i ≤ j → rd os j = 0) ∧ Own wr w.heap.size (.slice (some ⟨w.heap.size, 0, none⟩) M M) os ∧ w.grownBy wr none) (fun v15 _ => n - (intOf v15).toNat)
  case atStart => exact ⟨0, _, rfl, by omega, ⟨P0.out.1, fun j _ => P0.out.2 j⟩, OW.out, G0.out⟩
  case round =>
    clear OW G0 P0
    obtain ⟨i, os, rfl, hi, pk, ow, G⟩ := hrel
    have PK := Lib.hid pk
    have OW := Lib.hid ow
    have GG := Lib.hid G
    clear pk ow G
    by_cases hlt : i < n
    · obtain ⟨b, o, rfl, hci⟩ := (HU.out.grown0 GG.out).at i (by rw [← HN.out]; exact hlt)
      have hx0 := rd_w HU.out.ws i
      obtain ⟨x, hx⟩ : ∃ x, x = rd xs i := ⟨_, rfl⟩
      rw [← hx] at hci hx0
      obtain ⟨K, hK⟩ : ∃ K, K = k * i := ⟨_, rfl⟩
      have eK : (k : Int) * (i : Int) = (K : Int) := by rw [hK]; exact (Int.natCast_mul _ _).symm
      have hKM : K < M := by rw [hK, HM.out]; exact Nat.mul_lt_mul_of_pos_left hlt hk0
      have fr := OW.out.free K
      have ce := OW.out.cell K (by rw [PK.out.1.len, ← HN.out, ← HM.out]; exact hKM)
      have ST := Lib.hid (PK.out.1.step hk0 HU.out.ws (by rw [← HN.out]; exact hlt) (PK.out.2 _ (Nat.le_refl _)))
      rw [← hx, ← hK] at ST
      have ZZ : Hid (∀ j, k * (i + 1) ≤ j → rd (os.set K x) j = 0) := Lib.hid (fun j hj => by
        have e : k * (i + 1) = k * i + k := Nat.mul_succ _ _
        rw [rd_set_ne (by omega)]
        exact PK.out.2 j (by omega))
      clear hx hK
      go_wp2
      clear eK
      go_roundw
      case rel => exact ⟨i + 1, _, by go_num, by omega, ⟨ST.out, ZZ.out⟩, OW.out.store K hx0.1 hx0.2, gb_set (p := ⟨w.heap.size, K, none⟩) GG.out (Nat.le_refl _) _⟩
      case measure => simp [intOf]; omega
    · obtain rfl : i = n := by omega
      go_wp2
      go_ret
      exact ⟨_, os, rfl, OW.out, PK.out.1, GG.out⟩
theorem bitsLen_c (a : Int) (ha : 0 ≤ a) (ha' : a < 18446744073709551616) (w : World) :
    Calls Tryz.prog 74 #[.int .u64 a] w fun e w' => e = .returned (.int .i64 (blen a.toNat)) ∧ w' = w := by
  have HL := Lib.hid (len64_c a ha ha' w)
  obtain ⟨l, hl⟩ : ∃ l, l = blen a.toNat := ⟨_, rfl⟩
  rw [← hl] at HL ⊢
  clear hl
  go_enter Tryz.func74, Tryz.ntmps74
  go_wp2_with fail
  refine (HL.out).mono ?_
  rintro e w1 ⟨rfl, h1⟩
  subst h1
  go_wp2
  go_ret
  exact ⟨rfl, rfl⟩
/-- The words of one coefficient, read one by one. -/
def wd (X : List Int) (s j t : Nat) : Int := if t < j then rd X (s + t) else 0
theorem wd_w {X : List Int} (h : Ws X) (s j t : Nat) : 0 ≤ wd X s j t ∧ wd X s j t < 18446744073709551616 := by
  unfold wd
  split
  · exact rd_w h _
  · exact ⟨by decide, by decide⟩
theorem wd_set {X : List Int} {s j t : Nat} (h : t ≠ j) : wd X s (j + 1) t = wd X s j t := by
  unfold wd
  by_cases h1 : t < j
  · rw [if_pos h1, if_pos (by omega)]
  · rw [if_neg h1, if_neg (by omega)]
theorem wd_self (X : List Int) (s j : Nat) : wd X s (j + 1) j = rd X (s + j) := by
  unfold wd
  rw [if_pos (by omega)]
def wds (X : List Int) (s j : Nat) : List Value := [.int .u64 (wd X s j 0), .int .u64 (wd X s j 1), .int .u64 (wd X s j 2)]
theorem wds_set {X : List Int} {s j : Nat} (h : j < 3) : (wds X s j).set j (.int .u64 (rd X (s + j))) = wds X s (j + 1) := by
  unfold wds
  rcases (show j = 0 ∨ j = 1 ∨ j = 2 by omega) with rfl | rfl | rfl
  · rw [wd_self, wd_set (t := 1) (by decide), wd_set (t := 2) (by decide)]; rfl
  · rw [wd_self, wd_set (t := 0) (by decide), wd_set (t := 2) (by decide)]; rfl
  · rw [wd_self, wd_set (t := 0) (by decide), wd_set (t := 1) (by decide)]; rfl
theorem wds_get {X : List Int} {s j : Nat} (t : Nat) (h : t < 3) : (wds X s j)[t]? = some (.int .u64 (wd X s j t)) := by
  rcases (show t = 0 ∨ t = 1 ∨ t = 2 by omega) with rfl | rfl | rfl <;> rfl
/-- All words of it are read. -/
theorem wds_last {X : List Int} {s j k : Nat} (hk : 0 < k) (hk3 : k ≤ 3) (hj : j ≤ k) (h : j = k ∨ X.length ≤ s + j) :
    ev ((X.drop s).take k) 18446744073709551616 = wd X s j 0 + 18446744073709551616 * (wd X s j 1 + 18446744073709551616 * wd X s j 2) := by
  have e : ∀ t, wd X s j t = if t < k then rd X (s + t) else 0 := fun t => by
    unfold wd
    by_cases h1 : t < j
    · rw [if_pos h1, if_pos (by omega)]
    · rw [if_neg h1]
      by_cases h2 : t < k
      · rw [if_pos h2, rd_beyond]
        omega
      · rw [if_neg h2]
  exact kron3 X s hk hk3 (by rw [e, if_pos hk]; rfl) (e 1) (e 2)
set_option maxRecDepth 100000 in
set_option maxHeartbeats 20000000 in
theorem kron_c {u : Tb} (hu : TbOk u) (w : World) (p : Int) (g : Nat) (I : Pix) (a : Int) (c : Mc) (U V : Value) (XS YS : List Int) (h : Pq w u p g I a c) (hd : Db w) (ha : a ≤ 900000000000000) (hU : Sl w U XS) (hV : Sl w V YS) (hl : XS.length + YS.length ≤ 340) :
    Calls Tryz.prog 30 #[.pointer (some ⟨g, 0, none⟩), U, V] w fun e w' => ∃ x a' c', e = .returned x ∧ Po w' w.heap.size x p (fun z => ev XS z * ev YS z) (XS.length + YS.length) ∧ Pq w' u p g I a' c' ∧ a' ≤ a + 10000000 ∧ w.grownBy w' (some I.gm) := by
  have hp := h.rg.m.neg0
  have hp3 := h.rg.m.pm.lo
  have hp' := h.rg.m.pm.hi
  have N1 := Lib.hid (pnorm_c w.drew I.r I.q p U XS h.rg.drew (hU.grown0 (gb_drew (gb_refl w none))) (by omega))
  have N2 := Lib.hid (fun w1 (k : w.grownBy w1 none) => pnorm_c w1 I.r I.q p V YS (h.rg.grown0 k) (hV.grown0 k) (by omega))
  have HP := Lib.hid h
  have HD := Lib.hid hd
  have HA := Lib.hid ha
  have t0 := h.pe.e0
  have SFo : Hid (∀ W, w.grownBy W none → Canon.SF [(⟨g, 0, none⟩, .pointer (some ⟨I.r, 0, none⟩))] W) := Lib.hid (fun W k => Canon.sf_cons (gb_cell0 k h.pe.e0) (Canon.sf_nil _))
  clear hU hV h hd ha
  go_enter Tryz.func30, Tryz.ntmps30
  go_wp2
  refine Canon.region_held [23] _ (by kernel_rfl) (by kernel_rfl) (SFo.out _ (gb_refl _ _)) ?_
  refine Canon.segs_at 5 _ _ _ (by kernel_rfl) ?_
  simp only [List.take_succ_cons, List.take_zero, List.drop_succ_cons, List.drop_zero]
  go_wp2_with fail
  refine (N1.out).mono ?_
  rintro e w1 ⟨x1, rfl, ⟨za, oa, na, ea, la⟩, g1⟩
  have G1 := Lib.hid (gb_trans (gb_drew (gb_refl w none)) g1)
  clear t0
  have t0 := gb_cell0 G1.out HP.out.pe.e0
  clear N1 g1
  go_wp2
  refine ⟨SFo.out _ G1.out, ?_⟩
  refine Canon.segs_at 5 _ _ _ (by kernel_rfl) ?_
  simp only [List.take_succ_cons, List.take_zero, List.drop_succ_cons, List.drop_zero]
  go_wp2_with fail
  refine (N2.out _ G1.out).mono ?_
  rintro e w2 ⟨x2, rfl, ⟨zb, ob, nb, eb, lb⟩, g2⟩
  have G2 := Lib.hid (gb_trans G1.out g2)
  have SA := Lib.hid (oa.sl.grown0 g2)
  have SB := Lib.hid ob.sl
  have E0 := Lib.hid (Eqv.rows ea eb)
  obtain ⟨A, ca, rfl, hca, hca2⟩ := oa.fm
  obtain ⟨B, cb, rfl, hcb, hcb2⟩ := ob.fm
  have RA := Lib.hid na
  have RB := Lib.hid nb
  clear N2 oa ob na nb ea eb g2 t0
  obtain ⟨la', ha⟩ : ∃ z, z = za.length := ⟨_, rfl⟩
  obtain ⟨lb', hb⟩ : ∃ z, z = zb.length := ⟨_, rfl⟩
  rw [← ha] at hca la SA
  rw [← hb] at hcb lb SB
  have LA := Lib.hid ha
  have LB := Lib.hid hb
  rw [← ha, ← hb]
  clear ha hb
  go_wp2
  refine ⟨SFo.out _ G2.out, ?_⟩
  refine Canon.segs_end _ _ _ (by kernel_rfl) ?_
  go_wp2
  refine ⟨by kernel_rfl, by kernel_rfl, by kernel_rfl, ?_⟩
  by_cases ha0 : la' = 0
  · subst ha0
    have EZ := Lib.hid (List.eq_nil_of_length_eq_zero LA.out.symm)
    go_wp2
    go_ret
    exact ⟨_, a, c, rfl, po_nil _ _ _ _ ((Eqv.of_eq p fun x => by rw [EZ.out]; simp [ev]).trans E0.out), HP.out.grown0 G2.out, by omega, gb_none G2.out _⟩
  by_cases hb0 : lb' = 0
  · subst hb0
    have EZ := Lib.hid (List.eq_nil_of_length_eq_zero LB.out.symm)
    have a0' : ((la' : Int) == 0) = false := by simp; omega
    go_wp2
    go_ret
    exact ⟨_, a, c, rfl, po_nil _ _ _ _ ((Eqv.of_eq p fun x => by rw [EZ.out]; simp [ev]).trans E0.out), HP.out.grown0 G2.out, by omega, gb_none G2.out _⟩
  have a0' : ((la' : Int) == 0) = false := by simp; omega
  have b0' : ((lb' : Int) == 0) = false := by simp; omega
  obtain ⟨m, hm⟩ : ∃ m, m = min la' lb' := ⟨_, rfl⟩
  obtain ⟨lp, hlp⟩ : ∃ l, l = blen (p - 1).toNat := ⟨_, rfl⟩
  obtain ⟨lm, hlm⟩ : ∃ l, l = blen m := ⟨_, rfl⟩
  obtain ⟨L2, hL2⟩ : ∃ l, l = 2 * lp := ⟨_, rfl⟩
  obtain ⟨D, hD⟩ : ∃ D, D = L2 + lm := ⟨_, rfl⟩
  obtain ⟨D63, hD63⟩ : ∃ z, z = D + 63 := ⟨_, rfl⟩
  obtain ⟨k, hk⟩ : ∃ k, k = D63 / 64 := ⟨_, rfl⟩
  have blp : 1 ≤ lp ∧ lp ≤ 62 := by
    rw [hlp]
    constructor
    · have := blen_lt (p - 1).toNat
      by_cases h0 : blen (p - 1).toNat = 0
      · rw [h0] at this; omega
      · omega
    · exact blen_le _ 62 (by omega)
  have blm : lm ≤ 9 := by rw [hlm]; exact blen_le _ 9 (by omega)
  have bk : 0 < k ∧ k ≤ 3 := by omega
  have KW : Hid ((m : Int) * (p * p) < 18446744073709551616 ^ k) := Lib.hid (by
    have h1 : p.toNat ≤ 2 ^ lp := by rw [hlp]; have := blen_lt (p - 1).toNat; omega
    have h2 : m < 2 ^ lm := by rw [hlm]; exact blen_lt m
    have := kron_words (k := k) h1 h2 (by rw [hk, hD63, hD, hL2])
    rwa [show ((p.toNat : Nat) : Int) = p by omega] at this)
  have KM : Hid (m = min la' lb') := Lib.hid hm
  have e2 : 2 * (lp : Int) = (L2 : Int) := by omega
  have e3 : (L2 : Int) + (lm : Int) = (D : Int) := by omega
  have e4 : (D : Int) + 63 = (D63 : Int) := by omega
  have e5 : (D63 : Int) / 64 = (k : Int) := by omega
  have LP := Lib.hid (fun w => len64_c (p - 1) (by omega) (by omega) w)
  have LM := Lib.hid (fun w => bitsLen_c (m : Int) (by omega) (by omega) w)
  rw [Int.toNat_natCast, ← hlm] at LM
  rw [← hlp] at LP
  have bm : m ≤ 340 := by omega
  have bL2 : L2 ≤ 124 := by omega
  have bD : D ≤ 133 := by omega
  have bD63 : D63 ≤ 196 := by omega
  have MP := Lib.hid (modP_c w2 I.q p (HP.out.rg.m.grown0 G2.out))
  clear hlp hlm hL2 hD hD63 hk
  have t0 := gb_cell0 G2.out HP.out.pe.e0
  have r0 := gb_cell0 G2.out HP.out.rg.c
  go_upto_region 4 with fail
  go_cut [7] from 34 to 52 (fun v7 wx => v7 = .int .i64 D ∧ w2 = wx)
  case first =>
    rcases Nat.lt_trichotomy la' lb' with hlt | heq | hgt
    · obtain rfl : m = la' := by omega
      clear hm
      go_wp2_with fail
      refine (MP.out).mono ?_
      rintro e w3 ⟨rfl, h3⟩
      subst h3
      go_wp2_with fail
      refine (LP.out _).mono ?_
      rintro e w3 ⟨rfl, h3⟩
      subst h3
      go_wp2_with fail
      refine (LM.out _).mono ?_
      rintro e w3 ⟨rfl, h3⟩
      subst h3
      go_wp2_with fail
      go_meet
      exact ⟨rfl, rfl⟩
    · subst heq
      obtain rfl : m = la' := by omega
      clear hm
      go_wp2_with fail
      refine (MP.out).mono ?_
      rintro e w3 ⟨rfl, h3⟩
      subst h3
      go_wp2_with fail
      refine (LP.out _).mono ?_
      rintro e w3 ⟨rfl, h3⟩
      subst h3
      go_wp2_with fail
      refine (LM.out _).mono ?_
      rintro e w3 ⟨rfl, h3⟩
      subst h3
      go_wp2_with fail
      go_meet
      exact ⟨rfl, rfl⟩
    · obtain rfl : m = lb' := by omega
      clear hm
      go_wp2_with fail
      refine (MP.out).mono ?_
      rintro e w3 ⟨rfl, h3⟩
      subst h3
      go_wp2_with fail
      refine (LP.out _).mono ?_
      rintro e w3 ⟨rfl, h3⟩
      subst h3
      go_wp2_with fail
      refine (LM.out _).mono ?_
      rintro e w3 ⟨rfl, h3⟩
      subst h3
      go_wp2_with fail
      go_meet
      exact ⟨rfl, rfl⟩
  case rest =>
    obtain ⟨rfl, hw⟩ := hcut
    subst hw
    clear LP LM MP e2 e3 r0 t0 a0' b0' hm
    have bal : k * la' + k * lb' ≤ 1020 := by
      have : k * la' + k * lb' = k * (la' + lb') := (Nat.mul_add _ _ _).symm
      have h2 : k * (la' + lb') ≤ 3 * 340 := Nat.mul_le_mul bk.2 (by omega)
      omega
    have P1 := Lib.hid (packed_c w2.drew _ za k (SA.out.grown0 (gb_drew (gb_refl w2 none))) (by rw [← LA.out]; omega) bk.1 (by omega))
    have P2 := Lib.hid (fun w3 (j : w2.grownBy w3 none) => packed_c w3 _ zb k (SB.out.grown0 j) (by rw [← LB.out]; omega) bk.1 (by omega))
    have PW := Lib.hid (fun W (j : w2.grownBy W none) => HP.out.grown0 (gb_trans G2.out j))
    have SFc : Hid (∀ W, Pe W p g I.r I.q I.k0 I.k1 I.k2 I.k3 I.k4 I.k5 I.k6 I.k7 I.k8 I.k9 I.g0 → Canon.SF [(⟨g, 1, none⟩, .pointer (some ⟨I.k0, 0, none⟩)), (⟨I.k0, 0, none⟩, .pointer (some ⟨I.k1, 0, none⟩)), (⟨I.k1, 0, none⟩, .pointer (some ⟨I.k2, 0, none⟩)), (⟨I.k2, 0, none⟩, .pointer (some ⟨I.k3, 0, none⟩)), (⟨I.k3, 0, none⟩, .pointer (some ⟨I.k4, 0, none⟩)), (⟨I.k4, 0, none⟩, .pointer (some ⟨I.k5, 0, none⟩)), (⟨I.k5, 0, none⟩, .pointer (some ⟨I.k6, 0, none⟩)), (⟨I.k6, 0, none⟩, .pointer (some ⟨I.k7, 0, none⟩)), (⟨I.k7, 0, none⟩, .pointer (some ⟨I.k8, 0, none⟩)), (⟨I.k8, 0, none⟩, .pointer (some ⟨I.k9, 0, none⟩)), (⟨I.k9, 0, none⟩, .pointer (some ⟨I.g0, 0, none⟩))] W) := Lib.hid (fun W h => by
      exact Canon.sf_cons h.e1 (Canon.sf_cons h.ch.c0 (Canon.sf_cons h.ch.c1 (Canon.sf_cons h.ch.c2 (Canon.sf_cons h.ch.c3 (Canon.sf_cons h.ch.c4 (Canon.sf_cons h.ch.c5 (Canon.sf_cons h.ch.c6 (Canon.sf_cons h.ch.c7 (Canon.sf_cons h.ch.c8 (Canon.sf_cons h.ch.c9 (Canon.sf_nil _))))))))))))
    have HQ := PW.out w2 (gb_refl _ _)
    have t1 := HQ.pe.e1
    have t2 := HQ.pe.ch.c0
    have t3 := HQ.pe.ch.c1
    have t4 := HQ.pe.ch.c2
    have t5 := HQ.pe.ch.c3
    have t6 := HQ.pe.ch.c4
    have t7 := HQ.pe.ch.c5
    have t8 := HQ.pe.ch.c6
    have t9 := HQ.pe.ch.c7
    have t10 := HQ.pe.ch.c8
    have t11 := HQ.pe.ch.c9
    clear HQ
    go_wp2
    refine Canon.region_held [59, 62, 65, 68, 71, 74, 77, 80, 83, 86, 89] _ (by kernel_rfl) (by kernel_rfl) (SFc.out _ (PW.out _ (gb_refl _ _)).pe) ?_
    refine Canon.segs_at 36 _ _ _ (by kernel_rfl) ?_
    simp only [List.take_succ_cons, List.take_zero, List.drop_succ_cons, List.drop_zero]
    go_wp2_with fail
    refine (P1.out).mono ?_
    rintro e w3 ⟨x3, pa, rfl, op, pk1, g3⟩
    have G3 := Lib.hid (gb_trans (gb_drew (gb_refl w2 none)) g3)
    have SP := Lib.hid op.sl
    have PK1 := Lib.hid pk1
    clear op pk1 g3 P1 t1 t2 t3 t4 t5 t6 t7 t8 t9 t10 t11
    go_wp2
    refine ⟨SFc.out _ (PW.out _ G3.out).pe, ?_⟩
    refine Canon.segs_at 2 _ _ _ (by kernel_rfl) ?_
    simp only [List.take_succ_cons, List.take_zero, List.drop_succ_cons, List.drop_zero]
    go_wp2_with fail
    refine (P2.out _ G3.out).mono ?_
    rintro e w4 ⟨x4, pb, rfl, oq, pk2, g4⟩
    have G4 := Lib.hid (gb_trans G3.out g4)
    have SP4 := Lib.hid (SP.out.grown0 g4)
    have SQ := Lib.hid oq.sl
    have PK2 := Lib.hid pk2
    clear oq pk2 g4 P2 SP
    go_wp2
    refine ⟨SFc.out _ (PW.out _ G4.out).pe, ?_⟩
    refine Canon.segs_at 0 _ _ _ (by kernel_rfl) ?_
    simp only [List.take_succ_cons, List.take_zero, List.drop_succ_cons, List.drop_zero]
    have HQ := PW.out w4 G4.out
    have ML := Lib.hid (HQ.en.mul2 hu (HD.out.grown0 (gb_trans G2.out G4.out)) HA.out SP4.out SQ.out (HQ.en.off SP4.out) (HQ.en.off SQ.out) (by rw [PK1.out.len, PK2.out.len, ← LA.out, ← LB.out]; omega))
    clear HQ
    go_wp2_with fail
    refine (ML.out).mono ?_
    rintro e w5 ⟨x5, c', a', rfl, wo, en, ha', g5⟩
    have EN := Lib.hid en
    have HA' := Lib.hid ha'
    have G5 := Lib.hid g5
    have PE5 := Lib.hid ((PW.out w4 G4.out).pe.grown (PW.out w4 G4.out).en.m g5)
    obtain ⟨X, ox, nx, vx⟩ := wo
    have SX := Lib.hid ox.sl
    obtain ⟨CX, cx, rfl, hcx, hcx2⟩ := ox.fm
    have VX : Hid (val 18446744073709551616 X = val (18446744073709551616 ^ k) za * val (18446744073709551616 ^ k) zb) := Lib.hid (by
      rw [← PK1.out.last SA.out.ws, ← PK2.out.last SB.out.ws]; exact vx)
    have SA5 := Lib.hid ((PW.out w4 G4.out).en.sl (SA.out.grown0 G4.out) g5)
    clear ML en ha' g5 ox nx vx
    obtain ⟨lx, hlx⟩ : ∃ z, z = X.length := ⟨_, rfl⟩
    rw [← hlx] at hcx SX ⊢
    have LX := Lib.hid hlx
    clear hlx
    go_wp2
    refine ⟨SFc.out _ PE5.out, ?_⟩
    refine Canon.segs_end _ _ _ (by kernel_rfl) ?_
    go_wp2
    refine ⟨by kernel_rfl, by kernel_rfl, by kernel_rfl, ?_⟩
    obtain ⟨n, hn⟩ : ∃ n, n + 1 = la' + lb' := ⟨la' + lb' - 1, by omega⟩
    have en : (la' : Int) + (lb' : Int) - 1 = (n : Int) := by omega
    have mk := make64 24 (by kernel_rfl) n n (n : Int) (n : Int) (by omega) (by omega) (by omega) (by omega)
    have OW := Lib.hid (own_made w5 w5.heap.size n n (Nat.le_refl _) (by omega) (by omega))
    have G0 := Lib.hid (gb_alloc (gb_refl w5 none) (Obj.cells (madeCells #[.int .u64 0] n) 53))
    have KR : Hid (∀ i, ev ((X.drop (k * i)).take k) 18446744073709551616 = rd (pmul za zb) i) := Lib.hid (fun i => kron SA.out.ws SB.out.ws SX.out.ws (M := p * p) (Int.mul_nonneg (by omega) (by omega)) (fun i j => by
      have h1 := RA.out.rd hp i
      have h2 := RB.out.rd hp j
      exact ⟨Int.mul_nonneg h1.1 h2.1, Int.mul_le_mul (by omega) (by omega) h2.1 (by omega)⟩) (by rw [← LA.out, ← LB.out, ← KM.out]; exact KW.out) VX.out i)
    have HNn := Lib.hid hn
    have bn : n ≤ 1000 := by omega
    clear hn SFc e4 e5
    go_wp2
    clear mk en
    go_loopw [106] (fun v106 wr => ∃ (i : Nat) (os : List Int), v106 = .int .i64 i ∧ i ≤ n ∧ Mp (fun j => rd (pmul za zb) j % p) n i os ∧ Own wr w5.heap.size (.slice (some ⟨w5.heap.size, 0, none⟩) n n) os ∧ w5.grownBy wr none) (fun v106 _ => n - (intOf v106).toNat)
    case atStart => exact ⟨0, _, rfl, by omega, Mp.start _ n, OW.out, G0.out⟩
    case round =>
      clear OW G0
      obtain ⟨i, os, rfl, hi, mp, ow, G⟩ := hrel
      obtain ⟨wq, rfl⟩ : ∃ wq : World, wq = wr := ⟨_, rfl⟩
      have MP := Lib.hid mp
      have OW := Lib.hid ow
      have GG := Lib.hid G
      clear mp ow G
      by_cases hlt : i < n
      · obtain ⟨S, hS⟩ : ∃ S, S = k * i := ⟨_, rfl⟩
        have eS : (k : Int) * (i : Int) = (S : Int) := by rw [hS]; exact (Int.natCast_mul _ _).symm
        have bS : S ≤ 3000 := by
          have : k * i ≤ 3 * 1000 := Nat.mul_le_mul bk.2 (by omega)
          omega
        have HS := Lib.hid hS
        have C0 := cs_new wq #[.int .u64 0, .int .u64 0, .int .u64 0] 144
        have GA := gb_alloc (gb_refl wq none) (Obj.cells #[.int .u64 0, .int .u64 0, .int .u64 0] 144)
        have C1 : Hid (Cs (wq.alloc (Obj.cells #[.int .u64 0, .int .u64 0, .int .u64 0] 144)) wq.heap.size (wds X S 0)) := Lib.hid C0
        have OW1 := Lib.hid (OW.out.grown0 GA)
        have GG1 := Lib.hid (gb_trans GG.out GA)
        have hbs : Hid (w5.heap.size < wq.heap.size) := Lib.hid OW.out.base_le.2
        clear hS C0 GA
        go_wp2
        go_loopw [13] (fun v13 ws => ∃ (j : Nat), v13 = .int .i64 j ∧ j ≤ k ∧ Cs ws wq.heap.size (wds X S j) ∧ Own ws w5.heap.size (.slice (some ⟨w5.heap.size, 0, none⟩) n n) os ∧ w5.grownBy ws none) (fun v13 _ => k - (intOf v13).toNat)
        case atStart => exact ⟨0, rfl, by omega, C1.out, OW1.out, GG1.out⟩
        case round =>
          clear C1 OW1 GG1
          obtain ⟨j, rfl, hj, cs, ow, G⟩ := hrel
          obtain ⟨ws, rfl⟩ : ∃ ws : World, ws = wr := ⟨_, rfl⟩
          have CS := Lib.hid cs
          have OW2 := Lib.hid ow
          have GG2 := Lib.hid G
          clear cs ow G
          by_cases hstep : j < k ∧ S + j < lx
          · obtain ⟨h1, h2⟩ := hstep
            obtain ⟨bX, oX, rfl, hcX⟩ := (SX.out.grown0 GG2.out).at (S + j) (by rw [← LX.out]; exact h2)
            have hx0 := rd_w SX.out.ws (S + j)
            obtain ⟨x, hx⟩ : ∃ x, x = rd X (S + j) := ⟨_, rfl⟩
            rw [← hx] at hcX hx0
            have cj := CS.out.cell j (wds_get j (by omega))
            have fj := CS.out.free j (wds_get j (by omega))
            have CN := Lib.hid (CS.out.set j (.int .u64 x))
            rw [hx, wds_set (by omega), ← hx] at CN
            have d1 : decide ((j : Int) < (k : Int)) = true := decide_eq_true (by omega)
            have d2 : decide ((S : Int) + (j : Int) < (lx : Int)) = true := decide_eq_true (by omega)
            clear hx
            go_wp2
            go_roundw
            case rel => exact ⟨j + 1, by go_num, by omega, CN.out, OW2.out.grown (gb_rowC (gb_refl _ _) j _) (by right; simp [Value.ownBlock]; have := hbs.out; omega), gb_set (p := ⟨wq.heap.size, j, none⟩) GG2.out (by have := hbs.out; show w5.heap.size ≤ wq.heap.size; omega) _⟩
            case measure => simp [intOf]; omega
          · have KV : ev ((X.drop S).take k) 18446744073709551616 = rd (pmul za zb) i := by rw [HS.out]; exact KR.out i
            by_cases h1 : j < k
            · have h2 : ¬ S + j < lx := fun h => hstep ⟨h1, h⟩
              have KE := wds_last (X := X) (s := S) (j := j) bk.1 bk.2 hj (.inr (by rw [← LX.out]; omega))
              have d1 : decide ((j : Int) < (k : Int)) = true := decide_eq_true (by omega)
              have d2 : decide ((S : Int) + (j : Int) < (lx : Int)) = false := decide_eq_false (by omega)
              have c0 := CS.out.cell 0 (wds_get 0 (by decide))
              have c1 := CS.out.cell 1 (wds_get 1 (by decide))
              have c2 := CS.out.cell 2 (wds_get 2 (by decide))
              have w0 := wd_w SX.out.ws S j 0
              have w1' := wd_w SX.out.ws S j 1
              have w2' := wd_w SX.out.ws S j 2
              rw [KE] at KV
              obtain ⟨y0, hy0⟩ : ∃ y, y = wd X S j 0 := ⟨_, rfl⟩
              obtain ⟨y1, hy1⟩ : ∃ y, y = wd X S j 1 := ⟨_, rfl⟩
              obtain ⟨y2, hy2⟩ : ∃ y, y = wd X S j 2 := ⟨_, rfl⟩
              rw [← hy0] at c0 w0 KV
              rw [← hy1] at c1 w1' KV
              rw [← hy2] at c2 w2' KV
              have PEs := PE5.out.grown0 GG2.out
              have RS := Lib.hid (residue_c ws p g I.r I.q y0 y1 y2 PEs.e0 PEs.rg w0 w1' w2')
              rw [KV] at RS
              clear hy0 hy1 hy2 PEs KE KV
              go_wp2_with fail
              refine (RS.out).mono ?_
              rintro e wa ⟨rfl, ga⟩
              have OW3 := Lib.hid (OW2.out.grown0 ga)
              have GG3 := Lib.hid (gb_trans GG2.out ga)
              have fr := OW3.out.free i
              have ce := OW3.out.cell i (by rw [MP.out.len]; exact hlt)
              have mm := mod_nn (x := rd (pmul za zb) i) hp
              have MS := Lib.hid (MP.out.step hlt)
              obtain ⟨y, hy⟩ : ∃ y, y = rd (pmul za zb) i % p := ⟨_, rfl⟩
              rw [← hy] at mm MS ⊢
              clear RS ga OW2 GG2 c0 c1 c2 CS hy
              go_wp2
              clear eS
              go_roundw
              case rel => exact ⟨i + 1, _, by go_num, by omega, MS.out, OW3.out.store i mm.1 (by omega), gb_set (p := ⟨w5.heap.size, i, none⟩) GG3.out (Nat.le_refl _) _⟩
              case measure => simp [intOf]; omega
            · obtain rfl : j = k := by omega
              have KE := wds_last (X := X) (s := S) (j := j) bk.1 bk.2 hj (.inl rfl)
              have c0 := CS.out.cell 0 (wds_get 0 (by decide))
              have c1 := CS.out.cell 1 (wds_get 1 (by decide))
              have c2 := CS.out.cell 2 (wds_get 2 (by decide))
              have w0 := wd_w SX.out.ws S j 0
              have w1' := wd_w SX.out.ws S j 1
              have w2' := wd_w SX.out.ws S j 2
              rw [KE] at KV
              obtain ⟨y0, hy0⟩ : ∃ y, y = wd X S j 0 := ⟨_, rfl⟩
              obtain ⟨y1, hy1⟩ : ∃ y, y = wd X S j 1 := ⟨_, rfl⟩
              obtain ⟨y2, hy2⟩ : ∃ y, y = wd X S j 2 := ⟨_, rfl⟩
              rw [← hy0] at c0 w0 KV
              rw [← hy1] at c1 w1' KV
              rw [← hy2] at c2 w2' KV
              have PEs := PE5.out.grown0 GG2.out
              have RS := Lib.hid (residue_c ws p g I.r I.q y0 y1 y2 PEs.e0 PEs.rg w0 w1' w2')
              rw [KV] at RS
              clear hy0 hy1 hy2 PEs KE KV
              go_wp2_with fail
              refine (RS.out).mono ?_
              rintro e wa ⟨rfl, ga⟩
              have OW3 := Lib.hid (OW2.out.grown0 ga)
              have GG3 := Lib.hid (gb_trans GG2.out ga)
              have fr := OW3.out.free i
              have ce := OW3.out.cell i (by rw [MP.out.len]; exact hlt)
              have mm := mod_nn (x := rd (pmul za zb) i) hp
              have MS := Lib.hid (MP.out.step hlt)
              obtain ⟨y, hy⟩ : ∃ y, y = rd (pmul za zb) i % p := ⟨_, rfl⟩
              rw [← hy] at mm MS ⊢
              clear RS ga OW2 GG2 c0 c1 c2 CS hy
              go_wp2
              clear eS
              go_roundw
              case rel => exact ⟨i + 1, _, by go_num, by omega, MS.out, OW3.out.store i mm.1 (by omega), gb_set (p := ⟨w5.heap.size, i, none⟩) GG3.out (Nat.le_refl _) _⟩
              case measure => simp [intOf]; omega
      · obtain rfl : i = n := by omega
        have NF := Lib.hid (pnorm_c wq I.r I.q p _ os (PE5.out.grown0 GG.out).rg OW.out.sl (by rw [MP.out.len]; omega))
        have q0 := (PE5.out.grown0 GG.out).e0
        go_wp2_with fail
        refine (NF.out).mono ?_
        rintro e w6 ⟨x6, rfl, po, g6⟩
        go_wp2
        go_ret
        have G6 := gb_trans GG.out g6
        refine ⟨_, a', c', rfl, (po.fn (L' := XS.length + YS.length) ?_ (by rw [MP.out.len]; have := HNn.out; omega)).mono (Nat.le_trans (gb_trans G2.out G4.out).size (Nat.le_trans G5.out.size GG.out.size)), ⟨PE5.out.grown0 G6, EN.out.grown0 G6⟩, HA'.out, gb_trans (gb_trans (gb_none (gb_trans G2.out G4.out) _) G5.out) (gb_none G6 _)⟩
        have e1 : Eqv p (ev os) (ev (pmul za zb)) := MP.out.eqv (fun j _ => Cg.mod _ _) (by rw [pmul_len za zb (by rw [← LA.out]; omega) (by rw [← LB.out]; omega), ← LA.out, ← LB.out]; have := HNn.out; omega)
        exact (e1.fn fun z => ev_pmul za zb z).trans E0.out
end Go.Proofs.YtimmpojeddcfnaaGreatDoor

/- Engines of polynomials: products by transforms; by the table. -/
namespace Go.Proofs.YtimmpojeddcfnaaGreatDoor
open Go.RowKit

theorem sumI_first (f : Nat → Int) : ∀ n, sumI f (n + 1) = f 0 + sumI (fun t => f (t + 1)) n
  | 0 => by simp [sumI]
  | n + 1 => by
    have := sumI_first f n
    rw [sumI, this, sumI]; omega
theorem rd_pmul : ∀ (a b : List Int) (k : Nat), rd (pmul a b) k = cv (rd a) (rd b) k
  | [], b, k => by
    have : ∀ n, sumI (fun t => rd [] t * rd b (k - t)) n = 0 := fun n => by
      induction n with
      | zero => rfl
      | succ n ih => rw [sumI, ih, rd_nil]; simp
    rw [pmul, rd_nil]
    exact (this _).symm
  | c :: a, b, 0 => by
    rw [pmul, rd_padd, rd_pscl, rd_cons0]
    unfold cv
    simp [sumI, rd_cons0]
  | c :: a, b, k + 1 => by
    rw [pmul, rd_padd, rd_pscl, rd_cons1, rd_pmul a b k]
    unfold cv
    have e := sumI_first (fun t => rd (c :: a) t * rd b (k + 1 - t)) (k + 1)
    have : sumI (fun t => rd (c :: a) (t + 1) * rd b (k + 1 - (t + 1))) (k + 1) = sumI (fun t => rd a t * rd b (k - t)) (k + 1) := sumI_congr _ fun t _ => by
      rw [rd_cons1, show k + 1 - (t + 1) = k - t by omega]
    rw [e, this]; rfl
theorem cv_nn {a b : List Int} (ha : Ws a) (hb : Ws b) (k : Nat) : 0 ≤ cv (rd a) (rd b) k := sumI_nonneg _ fun t _ => Int.mul_nonneg (rd_w ha t).1 (rd_w hb _).1
theorem tr_le {n m : Nat} (h : n + m ≤ 1024) : transf n m 3 ≤ 100000 := by
  unfold transf
  obtain ⟨L, hL⟩ : ∃ L, L = blen (n + m - 1) := ⟨_, rfl⟩
  obtain ⟨N, hN⟩ : ∃ N, N = 2 ^ L := ⟨_, rfl⟩
  have hL10 : L ≤ 10 := by rw [hL]; exact blen10 h
  have hN10 : N ≤ 1024 := by rw [hN]; exact Nat.pow_le_pow_right (by decide) hL10
  rw [← hL, ← hN]
  have h1 : 3 * (N / 2) ≤ 3 * 512 := Nat.mul_le_mul (Nat.le_refl _) (by omega)
  have h2 : 3 * (N / 2) * L ≤ 1536 * 10 := Nat.mul_le_mul h1 hL10
  omega
set_option maxRecDepth 100000 in
set_option maxHeartbeats 20000000 in
theorem ntt_c {u : Tb} (_hu : TbOk u) (w : World) (p : Int) (g : Nat) (I : Pix) (a : Int) (c : Mc) (U V : Value) (XS YS : List Int) (h : Pq w u p g I a c) (hd : Db w) (ha : a ≤ 900000000000000) (hU : Sl w U XS) (hV : Sl w V YS) (hl : XS.length + YS.length ≤ 340) :
    Calls Tryz.prog 31 #[.pointer (some ⟨g, 0, none⟩), U, V] w fun e w' => ∃ x a' c', e = .returned x ∧ Po w' w.heap.size x p (fun z => ev XS z * ev YS z) (XS.length + YS.length) ∧ Pq w' u p g I a' c' ∧ a' ≤ a + 10000000 ∧ w.grownBy w' (some I.gm) := by
  have hp := h.rg.m.neg0
  have hp3 := h.rg.m.pm.lo
  have hp' := h.rg.m.pm.hi
  have N1 := Lib.hid (pnorm_c w.drew I.r I.q p U XS h.rg.drew (hU.grown0 (gb_drew (gb_refl w none))) (by omega))
  have N2 := Lib.hid (fun w1 (k : w.grownBy w1 none) => pnorm_c w1 I.r I.q p V YS (h.rg.grown0 k) (hV.grown0 k) (by omega))
  have HP := Lib.hid h
  have HD := Lib.hid hd
  have HA := Lib.hid ha
  have t0 := h.pe.e0
  have SFo : Hid (∀ W, w.grownBy W none → Canon.SF [(⟨g, 0, none⟩, .pointer (some ⟨I.r, 0, none⟩))] W) := Lib.hid (fun W k => Canon.sf_cons (gb_cell0 k h.pe.e0) (Canon.sf_nil _))
  clear hU hV h hd ha
  go_enter Tryz.func31, Tryz.ntmps31
  go_wp2
  refine Canon.region_held [21] _ (by kernel_rfl) (by kernel_rfl) (SFo.out _ (gb_refl _ _)) ?_
  refine Canon.segs_at 5 _ _ _ (by kernel_rfl) ?_
  simp only [List.take_succ_cons, List.take_zero, List.drop_succ_cons, List.drop_zero]
  go_wp2_with fail
  refine (N1.out).mono ?_
  rintro e w1 ⟨x1, rfl, ⟨za, oa, na, ea, la⟩, g1⟩
  have G1 := Lib.hid (gb_trans (gb_drew (gb_refl w none)) g1)
  clear t0
  have t0 := gb_cell0 G1.out HP.out.pe.e0
  clear N1 g1
  go_wp2
  refine ⟨SFo.out _ G1.out, ?_⟩
  refine Canon.segs_at 5 _ _ _ (by kernel_rfl) ?_
  simp only [List.take_succ_cons, List.take_zero, List.drop_succ_cons, List.drop_zero]
  go_wp2_with fail
  refine (N2.out _ G1.out).mono ?_
  rintro e w2 ⟨x2, rfl, ⟨zb, ob, nb, eb, lb⟩, g2⟩
  have G2 := Lib.hid (gb_trans G1.out g2)
  have SA := Lib.hid (oa.sl.grown0 g2)
  have SB := Lib.hid ob.sl
  have E0 := Lib.hid (Eqv.rows ea eb)
  obtain ⟨A, ca, rfl, hca, hca2⟩ := oa.fm
  obtain ⟨B, cb, rfl, hcb, hcb2⟩ := ob.fm
  have RA := Lib.hid na
  have RB := Lib.hid nb
  clear N2 oa ob na nb ea eb g2 t0
  obtain ⟨la', ha⟩ : ∃ z, z = za.length := ⟨_, rfl⟩
  obtain ⟨lb', hb⟩ : ∃ z, z = zb.length := ⟨_, rfl⟩
  rw [← ha] at hca la SA
  rw [← hb] at hcb lb SB
  have LA := Lib.hid ha
  have LB := Lib.hid hb
  rw [← ha, ← hb]
  clear ha hb
  go_wp2
  refine ⟨SFo.out _ G2.out, ?_⟩
  refine Canon.segs_end _ _ _ (by kernel_rfl) ?_
  go_wp2
  refine ⟨by kernel_rfl, by kernel_rfl, by kernel_rfl, ?_⟩
  by_cases ha0 : la' = 0
  · subst ha0
    have EZ := Lib.hid (List.eq_nil_of_length_eq_zero LA.out.symm)
    go_wp2
    go_ret
    exact ⟨_, a, c, rfl, po_nil _ _ _ _ ((Eqv.of_eq p fun x => by rw [EZ.out]; simp [ev]).trans E0.out), HP.out.grown0 G2.out, by omega, gb_none G2.out _⟩
  by_cases hb0 : lb' = 0
  · subst hb0
    have EZ := Lib.hid (List.eq_nil_of_length_eq_zero LB.out.symm)
    have a0' : ((la' : Int) == 0) = false := by simp; omega
    go_wp2
    go_ret
    exact ⟨_, a, c, rfl, po_nil _ _ _ _ ((Eqv.of_eq p fun x => by rw [EZ.out]; simp [ev]).trans E0.out), HP.out.grown0 G2.out, by omega, gb_none G2.out _⟩
  have a0' : ((la' : Int) == 0) = false := by simp; omega
  have b0' : ((lb' : Int) == 0) = false := by simp; omega
  have HQ := HP.out.grown0 G2.out
  have OA := (HQ.en.off SA.out).resolve_left (fun e => ha0 (by rw [LA.out, e]; rfl))
  have OB := (HQ.en.off SB.out).resolve_left (fun e => hb0 (by rw [LB.out, e]; rfl))
  have WD := Lib.hid (words_c w2 I.gm a 0 c _ _ za zb HQ.en.m (HD.out.grown0 G2.out) (by have := HA.out; omega) SA.out SB.out (by rw [← LA.out]; omega) (by rw [← LB.out]; omega) (by rw [← LA.out, ← LB.out]; omega) OA OB)
  rw [← LA.out, ← LB.out] at WD
  obtain ⟨n, hn⟩ : ∃ n, n = la' + lb' - 1 := ⟨_, rfl⟩
  rw [← hn] at WD
  have HN := Lib.hid hn
  have bn : n ≤ 1000 := by omega
  have t1 := HQ.pe.e1
  have t2 := HQ.pe.ch.c0
  have t3 := HQ.pe.ch.c1
  have t4 := HQ.pe.ch.c2
  have t5 := HQ.pe.ch.c3
  have t6 := HQ.pe.ch.c4
  have t7 := HQ.pe.ch.c5
  have t8 := HQ.pe.ch.c6
  have t9 := HQ.pe.ch.c7
  have t10 := HQ.pe.ch.c8
  have t11 := HQ.pe.ch.c9
  have t12 := HQ.en.e.h0
  have t13 := HQ.en.e.h1
  have t14 := HQ.en.e.h2
  have t15 := HQ.en.e.h3
  clear OA OB hn
  go_wp2_with fail
  refine (WD.out).mono ?_
  rintro e w5 ⟨gl, os, rfl, ol, jo, mt, hgl, g5⟩
  clear t1 t2 t3 t4 t5 t6 t7 t8 t9 t10 t11 t12 t13 t14 t15
  have EN := Lib.hid (⟨HQ.en.e.grown g5, mt, HQ.en.t⟩ : En w5 u I.g0 I.g1 I.g2 I.g3 I.gm _ c)
  have PE5 := Lib.hid (HQ.pe.grown HQ.en.m g5)
  have TR : Hid (a + ((transf la' lb' 3 : Nat) : Int) ≤ a + 10000000) := Lib.hid (by have := tr_le (n := la') (m := lb') (by omega); omega)
  have G5 := Lib.hid g5
  have OL := Lib.hid ol
  have JO := Lib.hid jo
  have mk := make64 24 (by kernel_rfl) n n (n : Int) (n : Int) (by omega) (by omega) (by omega) (by omega)
  have OW := Lib.hid (own_made w5 w5.heap.size n n (Nat.le_refl _) (by omega) (by omega))
  have G0 := Lib.hid (gb_alloc (gb_refl w5 none) (Obj.cells (madeCells #[.int .u64 0] n) 53))
  have KR : Hid (∀ i, i < n → ((t3 os i : Nat) : Int) = rd (pmul za zb) i) := Lib.hid (fun i hi => by
    rw [rd_pmul, JO.out.v i hi]
    have := cv_nn SA.out.ws SB.out.ws i
    omega)
  clear HQ WD ol jo mt hgl g5 a0' b0'
  go_wp2
  clear mk
  go_loopw [97] (fun v97 wr => ∃ (i : Nat) (ys : List Int), v97 = .int .i64 i ∧ i ≤ n ∧ Mp (fun j => rd (pmul za zb) j % p) n i ys ∧ Own wr w5.heap.size (.slice (some ⟨w5.heap.size, 0, none⟩) n n) ys ∧ w5.grownBy wr none) (fun v97 _ => n - (intOf v97).toNat)
  case atStart => exact ⟨0, _, rfl, by omega, Mp.start _ n, OW.out, G0.out⟩
  case round =>
    clear OW G0
    obtain ⟨i, ys, rfl, hi, mp, ow, G⟩ := hrel
    obtain ⟨wq, rfl⟩ : ∃ wq : World, wq = wr := ⟨_, rfl⟩
    have MP := Lib.hid mp
    have OW := Lib.hid ow
    have GG := Lib.hid G
    clear mp ow G
    by_cases hlt : i < n
    · have OL3 := OL.out.grown0 GG.out
      have d0 := OL3.cell3 i hlt 0 (by decide)
      rw [Nat.add_zero] at d0
      have d1 := OL3.cell3 i hlt 1 (by decide)
      have d2 := OL3.cell3 i hlt 2 (by decide)
      have KV := KR.out i hlt
      have KV2 : ((t3 os i : Nat) : Int) = rd os (i * 3) + 18446744073709551616 * (rd os (i * 3 + 1) + 18446744073709551616 * rd os (i * 3 + 2)) := by
        show ((val 18446744073709551616 (ts3 os i) : Nat) : Int) = _
        rw [ev_val (fun c hc => (ts3_ws JO.out.ws i c hc).1), Nat.mul_comm i 3]
        simp [ev, ts3]
      rw [KV2] at KV
      have w0 := rd_w JO.out.ws (i * 3)
      have w1' := rd_w JO.out.ws (i * 3 + 1)
      have w2' := rd_w JO.out.ws (i * 3 + 2)
      obtain ⟨y0, hy0⟩ : ∃ y, y = rd os (i * 3) := ⟨_, rfl⟩
      obtain ⟨y1, hy1⟩ : ∃ y, y = rd os (i * 3 + 1) := ⟨_, rfl⟩
      obtain ⟨y2, hy2⟩ : ∃ y, y = rd os (i * 3 + 2) := ⟨_, rfl⟩
      rw [← hy0] at d0 w0 KV
      rw [← hy1] at d1 w1' KV
      rw [← hy2] at d2 w2' KV
      have GA := gb_alloc (gb_refl wq none) (Obj.cells #[.int .u64 y0, .int .u64 y1, .int .u64 y2] 144)
      have C0 := cs_new wq #[.int .u64 y0, .int .u64 y1, .int .u64 y2] 144
      have c0 := C0.cell 0 rfl
      have c1 := C0.cell 1 rfl
      have c2 := C0.cell 2 rfl
      have PEs := PE5.out.grown0 (gb_trans GG.out GA)
      have RS := Lib.hid (residue_c _ p g I.r I.q y0 y1 y2 PEs.e0 PEs.rg w0 w1' w2')
      rw [KV] at RS
      have HGA := Lib.hid GA
      clear hy0 hy1 hy2 PEs KV KV2 C0 GA OL3
      go_wp2_with fail
      refine (RS.out).mono ?_
      rintro e wa ⟨rfl, ga⟩
      have OW3 := Lib.hid ((OW.out.grown0 HGA.out).grown0 ga)
      have GG3 := Lib.hid (gb_trans (gb_trans GG.out HGA.out) ga)
      have fr := OW3.out.free i
      have ce := OW3.out.cell i (by rw [MP.out.len]; exact hlt)
      have mm := mod_nn (x := rd (pmul za zb) i) hp
      have MS := Lib.hid (MP.out.step hlt)
      obtain ⟨y, hy⟩ : ∃ y, y = rd (pmul za zb) i % p := ⟨_, rfl⟩
      rw [← hy] at mm MS ⊢
      clear RS ga HGA c0 c1 c2 d0 d1 d2 hy OW GG
      go_wp2
      go_roundw
      case rel => exact ⟨i + 1, _, by go_num, by omega, MS.out, OW3.out.store i mm.1 (by omega), gb_set (p := ⟨w5.heap.size, i, none⟩) GG3.out (Nat.le_refl _) _⟩
      case measure => simp [intOf]; omega
    · obtain rfl : i = n := by omega
      have NF := Lib.hid (pnorm_c wq I.r I.q p _ ys (PE5.out.grown0 GG.out).rg OW.out.sl (by rw [MP.out.len]; omega))
      have q0 := (PE5.out.grown0 GG.out).e0
      go_wp2_with fail
      refine (NF.out).mono ?_
      rintro e w6 ⟨x6, rfl, po, g6⟩
      go_wp2
      go_ret
      have G6 := gb_trans GG.out g6
      refine ⟨_, _, c, rfl, (po.fn (L' := XS.length + YS.length) ?_ (by rw [MP.out.len]; have := HN.out; omega)).mono (Nat.le_trans G2.out.size (Nat.le_trans G5.out.size GG.out.size)), ⟨PE5.out.grown0 G6, EN.out.grown0 G6⟩, TR.out, gb_trans (gb_trans (gb_none G2.out _) G5.out) (gb_none G6 _)⟩
      have e1 : Eqv p (ev ys) (ev (pmul za zb)) := MP.out.eqv (fun j _ => Cg.mod _ _) (by rw [pmul_len za zb (by rw [← LA.out]; omega) (by rw [← LB.out]; omega), ← LA.out, ← LB.out, ← HN.out]; exact Nat.le_refl _)
      exact (e1.fn fun z => ev_pmul za zb z).trans E0.out
end Go.Proofs.YtimmpojeddcfnaaGreatDoor

/- Engines of polynomials: products by the table; squares. -/
namespace Go.Proofs.YtimmpojeddcfnaaGreatDoor
open Go.RowKit

set_option maxRecDepth 100000 in
set_option maxHeartbeats 20000000 in
theorem pemul_c {u : Tb} (hu : TbOk u) (w : World) (p : Int) (g : Nat) (I : Pix) (a : Int) (c : Mc) (U V : Value) (XS YS : List Int) (h : Pq w u p g I a c) (hd : Db w) (ha : a ≤ 900000000000000) (hU : Sl w U XS) (hV : Sl w V YS) (hl : XS.length + YS.length ≤ 340) :
    Calls Tryz.prog 29 #[.pointer (some ⟨g, 0, none⟩), U, V] w fun e w' => ∃ x a' c', e = .returned x ∧ Po w' w.heap.size x p (fun z => ev XS z * ev YS z) (XS.length + YS.length) ∧ Pq w' u p g I a' c' ∧ a' ≤ a + 10000000 ∧ w.grownBy w' (some I.gm) := by
  have hp := h.rg.m.neg0
  have hp3 := h.rg.m.pm.lo
  have hp' := h.rg.m.pm.hi
  have N1 := Lib.hid (pnorm_c w.drew I.r I.q p U XS h.rg.drew (hU.grown0 (gb_drew (gb_refl w none))) (by omega))
  have N2 := Lib.hid (fun w1 (k : w.grownBy w1 none) => pnorm_c w1 I.r I.q p V YS (h.rg.grown0 k) (hV.grown0 k) (by omega))
  have HP := Lib.hid h
  have HD := Lib.hid hd
  have HA := Lib.hid ha
  have t0 := h.pe.e0
  have SFo : Hid (∀ W, w.grownBy W none → Canon.SF [(⟨g, 0, none⟩, .pointer (some ⟨I.r, 0, none⟩))] W) := Lib.hid (fun W k => Canon.sf_cons (gb_cell0 k h.pe.e0) (Canon.sf_nil _))
  clear hU hV h hd ha
  go_enter Tryz.func29, Tryz.ntmps29
  go_wp2
  refine Canon.region_held [18] _ (by kernel_rfl) (by kernel_rfl) (SFo.out _ (gb_refl _ _)) ?_
  refine Canon.segs_at 5 _ _ _ (by kernel_rfl) ?_
  simp only [List.take_succ_cons, List.take_zero, List.drop_succ_cons, List.drop_zero]
  go_wp2_with fail
  refine (N1.out).mono ?_
  rintro e w1 ⟨x1, rfl, ⟨za, oa, na, ea, la⟩, g1⟩
  have G1 := Lib.hid (gb_trans (gb_drew (gb_refl w none)) g1)
  clear t0
  have t0 := gb_cell0 G1.out HP.out.pe.e0
  clear N1 g1
  go_wp2
  refine ⟨SFo.out _ G1.out, ?_⟩
  refine Canon.segs_at 5 _ _ _ (by kernel_rfl) ?_
  simp only [List.take_succ_cons, List.take_zero, List.drop_succ_cons, List.drop_zero]
  go_wp2_with fail
  refine (N2.out _ G1.out).mono ?_
  rintro e w2 ⟨x2, rfl, ⟨zb, ob, nb, eb, lb⟩, g2⟩
  have G2 := Lib.hid (gb_trans G1.out g2)
  have SA := Lib.hid (oa.sl.grown0 g2)
  have SB := Lib.hid ob.sl
  have E0 := Lib.hid (Eqv.rows ea eb)
  obtain ⟨A, ca, rfl, hca, hca2⟩ := oa.fm
  obtain ⟨B, cb, rfl, hcb, hcb2⟩ := ob.fm
  have RA := Lib.hid na
  have RB := Lib.hid nb
  clear N2 oa ob na nb ea eb g2 t0
  obtain ⟨la', ha⟩ : ∃ z, z = za.length := ⟨_, rfl⟩
  obtain ⟨lb', hb⟩ : ∃ z, z = zb.length := ⟨_, rfl⟩
  rw [← ha] at hca la SA
  rw [← hb] at hcb lb SB
  have LA := Lib.hid ha
  have LB := Lib.hid hb
  rw [← ha, ← hb]
  clear ha hb
  go_wp2
  refine ⟨SFo.out _ G2.out, ?_⟩
  refine Canon.segs_end _ _ _ (by kernel_rfl) ?_
  go_wp2
  refine ⟨by kernel_rfl, by kernel_rfl, by kernel_rfl, ?_⟩
  have HQ := HP.out.grown0 G2.out
  obtain ⟨m, hm⟩ : ∃ m, m = min la' lb' := ⟨_, rfl⟩
  have HM := Lib.hid hm
  have t1 := HQ.pe.e1
  have t2 := HQ.pe.ch.c0
  have t3 := HQ.pe.ch.c1
  have t4 := HQ.pe.ch.c2
  have t5 := HQ.pe.ch.c3
  have t6 := HQ.pe.ch.c4
  have t7 := HQ.pe.ch.c5
  have t8 := HQ.pe.ch.c6
  have t9 := HQ.pe.ch.c7
  have t10 := HQ.pe.ch.c8
  have t11 := HQ.pe.ch.c9
  have t12 := HQ.en.e.h0
  have t13 := HQ.en.e.h1
  have t14 := HQ.en.e.h2
  have t15 := HQ.en.e.h3
  have s3 := HQ.cell 3 (by decide)
  have s4 := HQ.cell 4 (by decide)
  have s5 := HQ.cell 5 (by decide)
  have s6 := HQ.cell 6 (by decide)
  have s7 := HQ.cell 7 (by decide)
  have s8 := HQ.cell 8 (by decide)
  have s9 := HQ.cell 9 (by decide)
  have s10 := HQ.cell 10 (by decide)
  have s11 := HQ.cell 11 (by decide)
  have s12 := HQ.cell 12 (by decide)
  have s13 := HQ.cell 13 (by decide)
  rw [show u.vs[3 - 3]? = some (.int .i64 u.eb) from rfl] at s3
  rw [show u.vs[4 - 3]? = some (.int .i64 u.et) from rfl] at s4
  rw [show u.vs[5 - 3]? = some (.int .i64 u.en) from rfl] at s5
  rw [show u.vs[6 - 3]? = some (.int .i64 u.ed) from rfl] at s6
  rw [show u.vs[7 - 3]? = some (.int .i64 u.er) from rfl] at s7
  rw [show u.vs[8 - 3]? = some (.int .i64 u.el) from rfl] at s8
  rw [show u.vs[9 - 3]? = some (.int .i64 u.ex) from rfl] at s9
  rw [show u.vs[10 - 3]? = some (.int .i64 u.ep) from rfl] at s10
  rw [show u.vs[11 - 3]? = some (.int .i64 u.ek) from rfl] at s11
  rw [show u.vs[12 - 3]? = some (.int .i64 u.es) from rfl] at s12
  rw [show u.vs[13 - 3]? = some (.int .i64 u.ee) from rfl] at s13
  clear hm
  go_upto_region 3 with fail
  have CT := cs_new w2 #[.int .i64 u.eb, .int .i64 u.et, .int .i64 u.en, .int .i64 u.ed, .int .i64 u.er, .int .i64 u.el, .int .i64 u.ex, .int .i64 u.ep, .int .i64 u.ek, .int .i64 u.es, .int .i64 u.ee] 23
  have GA := gb_alloc (gb_refl w2 none) (Obj.cells #[.int .i64 u.eb, .int .i64 u.et, .int .i64 u.en, .int .i64 u.ed, .int .i64 u.er, .int .i64 u.el, .int .i64 u.ex, .int .i64 u.ep, .int .i64 u.ek, .int .i64 u.es, .int .i64 u.ee] 23)
  have HCT := Lib.hid CT
  have HGA := Lib.hid GA
  clear CT GA
  go_cut [8] from 70 to 74 (fun v8 wx => v8 = .int .i64 m ∧ w2.alloc (Obj.cells #[.int .i64 u.eb, .int .i64 u.et, .int .i64 u.en, .int .i64 u.ed, .int .i64 u.er, .int .i64 u.el, .int .i64 u.ex, .int .i64 u.ep, .int .i64 u.ek, .int .i64 u.es, .int .i64 u.ee] 23) = wx)
  case first =>
    clear t1 t2 t3 t4 t5 t6 t7 t8 t9 t10 t11 t12 t13 t14 t15
    clear s3 s4 s5 s6 s7 s8 s9 s10 s11 s12 s13
    rcases Nat.lt_trichotomy la' lb' with hlt | heq | hgt
    · obtain rfl : m = la' := by have := HM.out; omega
      clear HM
      go_wp2_with fail
      go_meet
      exact ⟨rfl, rfl⟩
    · subst heq
      obtain rfl : m = la' := by have := HM.out; omega
      clear HM
      go_wp2_with fail
      go_meet
      exact ⟨rfl, rfl⟩
    · obtain rfl : m = lb' := by have := HM.out; omega
      clear HM
      go_wp2_with fail
      go_meet
      exact ⟨rfl, rfl⟩
  case rest =>
    clear t1 t2 t3 t4 t5 t6 t7 t8 t9 t10 t11 t12 t13 t14 t15
    clear s3 s4 s5 s6 s7 s8 s9 s10 s11 s12 s13
    obtain ⟨rfl, hw⟩ := hcut
    rw [hw] at HCT HGA
    clear hw
    have G3 := Lib.hid (gb_trans G2.out HGA.out)
    have SA3 := Lib.hid (SA.out.grown0 HGA.out)
    have SB3 := Lib.hid (SB.out.grown0 HGA.out)
    have HP3 := Lib.hid (HQ.grown0 HGA.out)
    have C := Lib.hid HCT.out
    have hA : Hid (a ≤ 900000000000000) := HA
    clear HQ HGA HCT SA SB
    have q2 := C.out.cell 2 rfl
    have q7 := C.out.cell 7 rfl
    have q8 := C.out.cell 8 rfl
    obtain ⟨vp, hvp⟩ : ∃ z, z = u.ep := ⟨_, rfl⟩
    obtain ⟨vk, hvk⟩ : ∃ z, z = u.ek := ⟨_, rfl⟩
    obtain ⟨vn, hvn⟩ : ∃ z, z = u.en := ⟨_, rfl⟩
    rw [← hvp] at q7
    rw [← hvk] at q8
    rw [← hvn] at q2
    clear hvp hvk hvn
    have FIN : Hid (∀ (w' : World) (x : Value) (base L : Nat), Po w' base x p (fun z => ev za z * ev zb z) L → w.heap.size ≤ base → L ≤ la' + lb' → Po w' w.heap.size x p (fun z => ev XS z * ev YS z) (XS.length + YS.length)) :=
      Lib.hid (fun w' x base L po hb hL => (po.fn E0.out (by omega)).mono hb)
    by_cases h1 : (m : Int) < vp
    · have TM := Lib.hid (ptimes_c wc I.r I.q p _ _ za zb HP3.out.rg SA3.out SB3.out (by rw [← LA.out]; omega) (by rw [← LB.out]; omega))
      rw [← LA.out, ← LB.out] at TM
      have t0 := HP3.out.pe.e0
      go_wp2_with fail
      refine (TM.out).mono ?_
      rintro e w4 ⟨x4, rfl, po, g4⟩
      go_wp2
      go_ret
      exact ⟨_, a, c, rfl, FIN.out _ _ _ _ po G3.out.size (Nat.le_refl _), HP3.out.grown0 g4, by omega, gb_none (gb_trans G3.out g4) _⟩
    · by_cases h2 : (m : Int) < vk
      · have KM := Lib.hid (kara_any u p g I hu (la' + lb') wc a c _ _ za zb HP3.out SA3.out SB3.out (by rw [← LA.out, ← LB.out]; exact Nat.le_refl _) (by omega))
        rw [← LA.out, ← LB.out] at KM
        go_wp2_with fail
        refine (KM.out).mono ?_
        rintro e w4 ⟨x4, rfl, po, g4⟩
        go_wp2
        go_ret
        exact ⟨_, a, c, rfl, FIN.out _ _ _ _ po G3.out.size (Nat.le_refl _), HP3.out.grown0 g4, by omega, gb_none (gb_trans G3.out g4) _⟩
      · obtain ⟨sm, hsm⟩ : ∃ z, z = la' + lb' := ⟨_, rfl⟩
        have esm : (la' : Int) + (lb' : Int) = (sm : Int) := by omega
        have HSM := Lib.hid hsm
        clear hsm
        by_cases h3 : vn ≤ (sm : Int)
        · have NM := Lib.hid (ntt_c hu wc p g I a c _ _ za zb HP3.out (HD.out.grown0 G3.out) HA.out SA3.out SB3.out (by rw [← LA.out, ← LB.out]; omega))
          rw [← LA.out, ← LB.out] at NM
          go_wp2_with fail
          refine (NM.out).mono ?_
          rintro e w4 ⟨x4, a', c', rfl, po, pq, ha', g4⟩
          go_wp2
          go_ret
          exact ⟨_, a', c', rfl, FIN.out _ _ _ _ po G3.out.size (Nat.le_refl _), pq, ha', gb_trans (gb_none G3.out _) g4⟩
        · have KM := Lib.hid (kron_c hu wc p g I a c _ _ za zb HP3.out (HD.out.grown0 G3.out) HA.out SA3.out SB3.out (by rw [← LA.out, ← LB.out]; omega))
          rw [← LA.out, ← LB.out] at KM
          go_wp2_with fail
          refine (KM.out).mono ?_
          rintro e w4 ⟨x4, a', c', rfl, po, pq, ha', g4⟩
          go_wp2
          go_ret
          exact ⟨_, a', c', rfl, FIN.out _ _ _ _ po G3.out.size (Nat.le_refl _), pq, ha', gb_trans (gb_none G3.out _) g4⟩
end Go.Proofs.YtimmpojeddcfnaaGreatDoor

/- Engines of polynomials: squares, by each way, products of several. -/
namespace Go.Proofs.YtimmpojeddcfnaaGreatDoor
open Go.RowKit

theorem Pq.sl {w w' : World} {u : Tb} {p : Int} {g : Nat} {I : Pix} {a : Int} {c : Mc} (h : Pq w u p g I a c) {v : Value} {xs : List Int} (s : Sl w v xs) (k : w.grownBy w' (some I.gm)) : Sl w' v xs := h.en.sl s k
theorem nf_one {p : Int} (hp : 1 < p) : Nf p [1] := ⟨fun c hc => by obtain rfl := List.mem_singleton.1 hc; omega, rfl⟩
end Go.Proofs.YtimmpojeddcfnaaGreatDoor

/- Engines of polynomials: products of several; powers. -/
namespace Go.Proofs.YtimmpojeddcfnaaGreatDoor
open Go.RowKit

theorem Db.gm {w w' : World} {u : Tb} {p : Int} {g : Nat} {I : Pix} {a : Int} {c : Mc} (h : Pq w u p g I a c) (hd : Db w) (k : w.grownBy w' (some I.gm)) : Db w' := hd.grown h.en.m k
end Go.Proofs.YtimmpojeddcfnaaGreatDoor

/- The document's polynomials over residues: normal, products. -/
namespace Go.Proofs.YtimmpojeddcfnaaGreatDoor
open Go.RowKit

end Go.Proofs.YtimmpojeddcfnaaGreatDoor

/- Engines of polynomials: how they are made. -/
namespace Go.Proofs.YtimmpojeddcfnaaGreatDoor
open Go.RowKit

/-- A chain of engines, each of which points to the next one. -/
def ChL (w : World) : List Nat → Nat → Prop
  | [], _ => True
  | k :: ks, g0 => w.cell? ⟨k, 0, none⟩ = some (.pointer (some ⟨ks.headD g0, 0, none⟩)) ∧ ChL w ks g0
theorem ChL.grown0 {w w' : World} : ∀ {ks : List Nat} {g0 : Nat}, ChL w ks g0 → w.grownBy w' none → ChL w' ks g0
  | [], _, _, _ => trivial
  | _ :: _, _, h, g => ⟨gb_cell0 g h.1, h.2.grown0 g⟩
def NewK (n : Nat) (t : Tb) (w : World) (e : Ending) (w' : World) : Prop := ∃ ks g0 g1 g2 g3 gm, ks.length = n ∧ e = .returned (.pointer (some ⟨ks.headD g0, 0, none⟩)) ∧ ChL w' ks g0 ∧ En w' t.clamp g0 g1 g2 g3 gm 0 ⟨0, tbT t.clamp⟩ ∧ w.heap.size ≤ gm ∧ w.grownBy w' none
theorem mulK_c (w : World) (t : Tb) : Calls Tryz.prog 16 #[t.v] w fun e w' => NewK 0 t w e w' :=
  (En.new w t).mono fun _ _ ⟨g0, g1, g2, g3, gm, e1, e2, e3, e4⟩ => ⟨[], g0, g1, g2, g3, gm, rfl, e1, trivial, e2, e3, e4⟩
set_option maxRecDepth 100000 in
theorem divsK_c (w : World) (t : Tb) : Calls Tryz.prog 204 #[t.v] w fun e w' => NewK 1 t w e w' := by
  have HI := Lib.hid (fun w => mulK_c w t)
  have C0 := cs_new w #[.int .i64 t.eb, .int .i64 t.et, .int .i64 t.en, .int .i64 t.ed, .int .i64 t.er, .int .i64 t.el, .int .i64 t.ex, .int .i64 t.ep, .int .i64 t.ek, .int .i64 t.es, .int .i64 t.ee] 23
  have hg := gb_alloc (gb_refl w none) (Obj.cells #[.int .i64 t.eb, .int .i64 t.et, .int .i64 t.en, .int .i64 t.ed, .int .i64 t.er, .int .i64 t.el, .int .i64 t.ex, .int .i64 t.ep, .int .i64 t.ek, .int .i64 t.es, .int .i64 t.ee] 23)
  have HG := Lib.hid hg
  have HC0 := Lib.hid C0
  clear C0 hg
  go_enter Tryz.func204, Tryz.ntmps204
  have c0 := HC0.out.cell 0 rfl
  have c1 := HC0.out.cell 1 rfl
  have c2 := HC0.out.cell 2 rfl
  have c3 := HC0.out.cell 3 rfl
  have c4 := HC0.out.cell 4 rfl
  have c5 := HC0.out.cell 5 rfl
  have c6 := HC0.out.cell 6 rfl
  have c7 := HC0.out.cell 7 rfl
  have c8 := HC0.out.cell 8 rfl
  have c9 := HC0.out.cell 9 rfl
  have c10 := HC0.out.cell 10 rfl
  go_wp2_with fail
  refine (HI.out _).mono ?_
  rintro e w2 ⟨ks, g0, g1, g2, g3, gm, hl, rfl, ch, en, hg, g2'⟩
  obtain ⟨k, hk⟩ : ∃ k, k = ks.headD g0 := ⟨_, rfl⟩
  rw [← hk]
  have HK := Lib.hid hk
  have G2 := Lib.hid (gb_trans HG.out g2')
  have K2 := Lib.hid (And.intro ch en)
  have HH : Hid (w.heap.size ≤ gm ∧ ks.length = 0) := Lib.hid ⟨Nat.le_trans HG.out.size hg, hl⟩
  clear c0 c1 c2 c3 c4 c5 c6 c7 c8 c9 c10 HC0 g2' ch en hg hl hk
  go_wp2
  go_ret
  have ga := gb_alloc (gb_refl w2 none) (Obj.cells #[.pointer (some ⟨k, 0, none⟩)] 139)
  refine ⟨w2.heap.size :: ks, g0, g1, g2, g3, gm, by simp [HH.out.2], rfl, ⟨?_, K2.out.1.grown0 ga⟩, K2.out.2.grown0 ga, HH.out.1, gb_alloc G2.out _⟩
  rw [← HK.out]
  exact (cs_new w2 _ _).cell 0 rfl
set_option maxRecDepth 100000 in
theorem recipK_c (w : World) (t : Tb) : Calls Tryz.prog 203 #[t.v] w fun e w' => NewK 2 t w e w' := by
  have HI := Lib.hid (fun w => divsK_c w t)
  have C0 := cs_new w #[.int .i64 t.eb, .int .i64 t.et, .int .i64 t.en, .int .i64 t.ed, .int .i64 t.er, .int .i64 t.el, .int .i64 t.ex, .int .i64 t.ep, .int .i64 t.ek, .int .i64 t.es, .int .i64 t.ee] 23
  have hg := gb_alloc (gb_refl w none) (Obj.cells #[.int .i64 t.eb, .int .i64 t.et, .int .i64 t.en, .int .i64 t.ed, .int .i64 t.er, .int .i64 t.el, .int .i64 t.ex, .int .i64 t.ep, .int .i64 t.ek, .int .i64 t.es, .int .i64 t.ee] 23)
  have HG := Lib.hid hg
  have HC0 := Lib.hid C0
  clear C0 hg
  go_enter Tryz.func203, Tryz.ntmps203
  have c0 := HC0.out.cell 0 rfl
  have c1 := HC0.out.cell 1 rfl
  have c2 := HC0.out.cell 2 rfl
  have c3 := HC0.out.cell 3 rfl
  have c4 := HC0.out.cell 4 rfl
  have c5 := HC0.out.cell 5 rfl
  have c6 := HC0.out.cell 6 rfl
  have c7 := HC0.out.cell 7 rfl
  have c8 := HC0.out.cell 8 rfl
  have c9 := HC0.out.cell 9 rfl
  have c10 := HC0.out.cell 10 rfl
  go_wp2_with fail
  refine (HI.out _).mono ?_
  rintro e w2 ⟨ks, g0, g1, g2, g3, gm, hl, rfl, ch, en, hg, g2'⟩
  obtain ⟨k, hk⟩ : ∃ k, k = ks.headD g0 := ⟨_, rfl⟩
  rw [← hk]
  have HK := Lib.hid hk
  have G2 := Lib.hid (gb_trans HG.out g2')
  have K2 := Lib.hid (And.intro ch en)
  have HH : Hid (w.heap.size ≤ gm ∧ ks.length = 1) := Lib.hid ⟨Nat.le_trans HG.out.size hg, hl⟩
  clear c0 c1 c2 c3 c4 c5 c6 c7 c8 c9 c10 HC0 g2' ch en hg hl hk
  go_wp2
  go_ret
  have ga := gb_alloc (gb_refl w2 none) (Obj.cells #[.pointer (some ⟨k, 0, none⟩)] 137)
  refine ⟨w2.heap.size :: ks, g0, g1, g2, g3, gm, by simp [HH.out.2], rfl, ⟨?_, K2.out.1.grown0 ga⟩, K2.out.2.grown0 ga, HH.out.1, gb_alloc G2.out _⟩
  rw [← HK.out]
  exact (cs_new w2 _ _).cell 0 rfl
set_option maxRecDepth 100000 in
theorem divK_c (w : World) (t : Tb) : Calls Tryz.prog 202 #[t.v] w fun e w' => NewK 3 t w e w' := by
  have HI := Lib.hid (fun w => recipK_c w t)
  have C0 := cs_new w #[.int .i64 t.eb, .int .i64 t.et, .int .i64 t.en, .int .i64 t.ed, .int .i64 t.er, .int .i64 t.el, .int .i64 t.ex, .int .i64 t.ep, .int .i64 t.ek, .int .i64 t.es, .int .i64 t.ee] 23
  have hg := gb_alloc (gb_refl w none) (Obj.cells #[.int .i64 t.eb, .int .i64 t.et, .int .i64 t.en, .int .i64 t.ed, .int .i64 t.er, .int .i64 t.el, .int .i64 t.ex, .int .i64 t.ep, .int .i64 t.ek, .int .i64 t.es, .int .i64 t.ee] 23)
  have HG := Lib.hid hg
  have HC0 := Lib.hid C0
  clear C0 hg
  go_enter Tryz.func202, Tryz.ntmps202
  have c0 := HC0.out.cell 0 rfl
  have c1 := HC0.out.cell 1 rfl
  have c2 := HC0.out.cell 2 rfl
  have c3 := HC0.out.cell 3 rfl
  have c4 := HC0.out.cell 4 rfl
  have c5 := HC0.out.cell 5 rfl
  have c6 := HC0.out.cell 6 rfl
  have c7 := HC0.out.cell 7 rfl
  have c8 := HC0.out.cell 8 rfl
  have c9 := HC0.out.cell 9 rfl
  have c10 := HC0.out.cell 10 rfl
  go_wp2_with fail
  refine (HI.out _).mono ?_
  rintro e w2 ⟨ks, g0, g1, g2, g3, gm, hl, rfl, ch, en, hg, g2'⟩
  obtain ⟨k, hk⟩ : ∃ k, k = ks.headD g0 := ⟨_, rfl⟩
  rw [← hk]
  have HK := Lib.hid hk
  have G2 := Lib.hid (gb_trans HG.out g2')
  have K2 := Lib.hid (And.intro ch en)
  have HH : Hid (w.heap.size ≤ gm ∧ ks.length = 2) := Lib.hid ⟨Nat.le_trans HG.out.size hg, hl⟩
  clear c0 c1 c2 c3 c4 c5 c6 c7 c8 c9 c10 HC0 g2' ch en hg hl hk
  go_wp2
  go_ret
  have ga := gb_alloc (gb_refl w2 none) (Obj.cells #[.pointer (some ⟨k, 0, none⟩)] 134)
  refine ⟨w2.heap.size :: ks, g0, g1, g2, g3, gm, by simp [HH.out.2], rfl, ⟨?_, K2.out.1.grown0 ga⟩, K2.out.2.grown0 ga, HH.out.1, gb_alloc G2.out _⟩
  rw [← HK.out]
  exact (cs_new w2 _ _).cell 0 rfl
set_option maxRecDepth 100000 in
theorem rootK_c (w : World) (t : Tb) : Calls Tryz.prog 200 #[t.v] w fun e w' => NewK 4 t w e w' := by
  have HI := Lib.hid (fun w => divK_c w t)
  have C0 := cs_new w #[.int .i64 t.eb, .int .i64 t.et, .int .i64 t.en, .int .i64 t.ed, .int .i64 t.er, .int .i64 t.el, .int .i64 t.ex, .int .i64 t.ep, .int .i64 t.ek, .int .i64 t.es, .int .i64 t.ee] 23
  have hg := gb_alloc (gb_refl w none) (Obj.cells #[.int .i64 t.eb, .int .i64 t.et, .int .i64 t.en, .int .i64 t.ed, .int .i64 t.er, .int .i64 t.el, .int .i64 t.ex, .int .i64 t.ep, .int .i64 t.ek, .int .i64 t.es, .int .i64 t.ee] 23)
  have HG := Lib.hid hg
  have HC0 := Lib.hid C0
  clear C0 hg
  go_enter Tryz.func200, Tryz.ntmps200
  have c0 := HC0.out.cell 0 rfl
  have c1 := HC0.out.cell 1 rfl
  have c2 := HC0.out.cell 2 rfl
  have c3 := HC0.out.cell 3 rfl
  have c4 := HC0.out.cell 4 rfl
  have c5 := HC0.out.cell 5 rfl
  have c6 := HC0.out.cell 6 rfl
  have c7 := HC0.out.cell 7 rfl
  have c8 := HC0.out.cell 8 rfl
  have c9 := HC0.out.cell 9 rfl
  have c10 := HC0.out.cell 10 rfl
  go_wp2_with fail
  refine (HI.out _).mono ?_
  rintro e w2 ⟨ks, g0, g1, g2, g3, gm, hl, rfl, ch, en, hg, g2'⟩
  obtain ⟨k, hk⟩ : ∃ k, k = ks.headD g0 := ⟨_, rfl⟩
  rw [← hk]
  have HK := Lib.hid hk
  have G2 := Lib.hid (gb_trans HG.out g2')
  have K2 := Lib.hid (And.intro ch en)
  have HH : Hid (w.heap.size ≤ gm ∧ ks.length = 3) := Lib.hid ⟨Nat.le_trans HG.out.size hg, hl⟩
  clear c0 c1 c2 c3 c4 c5 c6 c7 c8 c9 c10 HC0 g2' ch en hg hl hk
  go_wp2
  go_ret
  have ga := gb_alloc (gb_refl w2 none) (Obj.cells #[.pointer (some ⟨k, 0, none⟩)] 131)
  refine ⟨w2.heap.size :: ks, g0, g1, g2, g3, gm, by simp [HH.out.2], rfl, ⟨?_, K2.out.1.grown0 ga⟩, K2.out.2.grown0 ga, HH.out.1, gb_alloc G2.out _⟩
  rw [← HK.out]
  exact (cs_new w2 _ _).cell 0 rfl
set_option maxRecDepth 100000 in
theorem radixK_c (w : World) (t : Tb) : Calls Tryz.prog 195 #[t.v] w fun e w' => NewK 5 t w e w' := by
  have HI := Lib.hid (fun w => rootK_c w t)
  have C0 := cs_new w #[.int .i64 t.eb, .int .i64 t.et, .int .i64 t.en, .int .i64 t.ed, .int .i64 t.er, .int .i64 t.el, .int .i64 t.ex, .int .i64 t.ep, .int .i64 t.ek, .int .i64 t.es, .int .i64 t.ee] 23
  have hg := gb_alloc (gb_refl w none) (Obj.cells #[.int .i64 t.eb, .int .i64 t.et, .int .i64 t.en, .int .i64 t.ed, .int .i64 t.er, .int .i64 t.el, .int .i64 t.ex, .int .i64 t.ep, .int .i64 t.ek, .int .i64 t.es, .int .i64 t.ee] 23)
  have HG := Lib.hid hg
  have HC0 := Lib.hid C0
  clear C0 hg
  go_enter Tryz.func195, Tryz.ntmps195
  have c0 := HC0.out.cell 0 rfl
  have c1 := HC0.out.cell 1 rfl
  have c2 := HC0.out.cell 2 rfl
  have c3 := HC0.out.cell 3 rfl
  have c4 := HC0.out.cell 4 rfl
  have c5 := HC0.out.cell 5 rfl
  have c6 := HC0.out.cell 6 rfl
  have c7 := HC0.out.cell 7 rfl
  have c8 := HC0.out.cell 8 rfl
  have c9 := HC0.out.cell 9 rfl
  have c10 := HC0.out.cell 10 rfl
  go_wp2_with fail
  refine (HI.out _).mono ?_
  rintro e w2 ⟨ks, g0, g1, g2, g3, gm, hl, rfl, ch, en, hg, g2'⟩
  obtain ⟨k, hk⟩ : ∃ k, k = ks.headD g0 := ⟨_, rfl⟩
  rw [← hk]
  have HK := Lib.hid hk
  have G2 := Lib.hid (gb_trans HG.out g2')
  have K2 := Lib.hid (And.intro ch en)
  have HH : Hid (w.heap.size ≤ gm ∧ ks.length = 4) := Lib.hid ⟨Nat.le_trans HG.out.size hg, hl⟩
  clear c0 c1 c2 c3 c4 c5 c6 c7 c8 c9 c10 HC0 g2' ch en hg hl hk
  go_wp2
  go_ret
  have ga := gb_alloc (gb_refl w2 none) (Obj.cells #[.pointer (some ⟨k, 0, none⟩)] 128)
  refine ⟨w2.heap.size :: ks, g0, g1, g2, g3, gm, by simp [HH.out.2], rfl, ⟨?_, K2.out.1.grown0 ga⟩, K2.out.2.grown0 ga, HH.out.1, gb_alloc G2.out _⟩
  rw [← HK.out]
  exact (cs_new w2 _ _).cell 0 rfl
set_option maxRecDepth 100000 in
theorem numK_c (w : World) (t : Tb) : Calls Tryz.prog 190 #[t.v] w fun e w' => NewK 6 t w e w' := by
  have HI := Lib.hid (fun w => radixK_c w t)
  have C0 := cs_new w #[.int .i64 t.eb, .int .i64 t.et, .int .i64 t.en, .int .i64 t.ed, .int .i64 t.er, .int .i64 t.el, .int .i64 t.ex, .int .i64 t.ep, .int .i64 t.ek, .int .i64 t.es, .int .i64 t.ee] 23
  have hg := gb_alloc (gb_refl w none) (Obj.cells #[.int .i64 t.eb, .int .i64 t.et, .int .i64 t.en, .int .i64 t.ed, .int .i64 t.er, .int .i64 t.el, .int .i64 t.ex, .int .i64 t.ep, .int .i64 t.ek, .int .i64 t.es, .int .i64 t.ee] 23)
  have HG := Lib.hid hg
  have HC0 := Lib.hid C0
  clear C0 hg
  go_enter Tryz.func190, Tryz.ntmps190
  have c0 := HC0.out.cell 0 rfl
  have c1 := HC0.out.cell 1 rfl
  have c2 := HC0.out.cell 2 rfl
  have c3 := HC0.out.cell 3 rfl
  have c4 := HC0.out.cell 4 rfl
  have c5 := HC0.out.cell 5 rfl
  have c6 := HC0.out.cell 6 rfl
  have c7 := HC0.out.cell 7 rfl
  have c8 := HC0.out.cell 8 rfl
  have c9 := HC0.out.cell 9 rfl
  have c10 := HC0.out.cell 10 rfl
  go_wp2_with fail
  refine (HI.out _).mono ?_
  rintro e w2 ⟨ks, g0, g1, g2, g3, gm, hl, rfl, ch, en, hg, g2'⟩
  obtain ⟨k, hk⟩ : ∃ k, k = ks.headD g0 := ⟨_, rfl⟩
  rw [← hk]
  have HK := Lib.hid hk
  have G2 := Lib.hid (gb_trans HG.out g2')
  have K2 := Lib.hid (And.intro ch en)
  have HH : Hid (w.heap.size ≤ gm ∧ ks.length = 5) := Lib.hid ⟨Nat.le_trans HG.out.size hg, hl⟩
  clear c0 c1 c2 c3 c4 c5 c6 c7 c8 c9 c10 HC0 g2' ch en hg hl hk
  go_wp2
  go_ret
  have ga := gb_alloc (gb_refl w2 none) (Obj.cells #[.pointer (some ⟨k, 0, none⟩)] 125)
  refine ⟨w2.heap.size :: ks, g0, g1, g2, g3, gm, by simp [HH.out.2], rfl, ⟨?_, K2.out.1.grown0 ga⟩, K2.out.2.grown0 ga, HH.out.1, gb_alloc G2.out _⟩
  rw [← HK.out]
  exact (cs_new w2 _ _).cell 0 rfl
set_option maxRecDepth 100000 in
theorem powerK_c (w : World) (t : Tb) : Calls Tryz.prog 182 #[t.v] w fun e w' => NewK 7 t w e w' := by
  have HI := Lib.hid (fun w => numK_c w t)
  have C0 := cs_new w #[.int .i64 t.eb, .int .i64 t.et, .int .i64 t.en, .int .i64 t.ed, .int .i64 t.er, .int .i64 t.el, .int .i64 t.ex, .int .i64 t.ep, .int .i64 t.ek, .int .i64 t.es, .int .i64 t.ee] 23
  have hg := gb_alloc (gb_refl w none) (Obj.cells #[.int .i64 t.eb, .int .i64 t.et, .int .i64 t.en, .int .i64 t.ed, .int .i64 t.er, .int .i64 t.el, .int .i64 t.ex, .int .i64 t.ep, .int .i64 t.ek, .int .i64 t.es, .int .i64 t.ee] 23)
  have HG := Lib.hid hg
  have HC0 := Lib.hid C0
  clear C0 hg
  go_enter Tryz.func182, Tryz.ntmps182
  have c0 := HC0.out.cell 0 rfl
  have c1 := HC0.out.cell 1 rfl
  have c2 := HC0.out.cell 2 rfl
  have c3 := HC0.out.cell 3 rfl
  have c4 := HC0.out.cell 4 rfl
  have c5 := HC0.out.cell 5 rfl
  have c6 := HC0.out.cell 6 rfl
  have c7 := HC0.out.cell 7 rfl
  have c8 := HC0.out.cell 8 rfl
  have c9 := HC0.out.cell 9 rfl
  have c10 := HC0.out.cell 10 rfl
  go_wp2_with fail
  refine (HI.out _).mono ?_
  rintro e w2 ⟨ks, g0, g1, g2, g3, gm, hl, rfl, ch, en, hg, g2'⟩
  obtain ⟨k, hk⟩ : ∃ k, k = ks.headD g0 := ⟨_, rfl⟩
  rw [← hk]
  have HK := Lib.hid hk
  have G2 := Lib.hid (gb_trans HG.out g2')
  have K2 := Lib.hid (And.intro ch en)
  have HH : Hid (w.heap.size ≤ gm ∧ ks.length = 6) := Lib.hid ⟨Nat.le_trans HG.out.size hg, hl⟩
  clear c0 c1 c2 c3 c4 c5 c6 c7 c8 c9 c10 HC0 g2' ch en hg hl hk
  go_wp2
  go_ret
  have ga := gb_alloc (gb_refl w2 none) (Obj.cells #[.pointer (some ⟨k, 0, none⟩)] 122)
  refine ⟨w2.heap.size :: ks, g0, g1, g2, g3, gm, by simp [HH.out.2], rfl, ⟨?_, K2.out.1.grown0 ga⟩, K2.out.2.grown0 ga, HH.out.1, gb_alloc G2.out _⟩
  rw [← HK.out]
  exact (cs_new w2 _ _).cell 0 rfl
set_option maxRecDepth 100000 in
theorem gcdK_c (w : World) (t : Tb) : Calls Tryz.prog 154 #[t.v] w fun e w' => NewK 8 t w e w' := by
  have HI := Lib.hid (fun w => powerK_c w t)
  have C0 := cs_new w #[.int .i64 t.eb, .int .i64 t.et, .int .i64 t.en, .int .i64 t.ed, .int .i64 t.er, .int .i64 t.el, .int .i64 t.ex, .int .i64 t.ep, .int .i64 t.ek, .int .i64 t.es, .int .i64 t.ee] 23
  have hg := gb_alloc (gb_refl w none) (Obj.cells #[.int .i64 t.eb, .int .i64 t.et, .int .i64 t.en, .int .i64 t.ed, .int .i64 t.er, .int .i64 t.el, .int .i64 t.ex, .int .i64 t.ep, .int .i64 t.ek, .int .i64 t.es, .int .i64 t.ee] 23)
  have HG := Lib.hid hg
  have HC0 := Lib.hid C0
  clear C0 hg
  go_enter Tryz.func154, Tryz.ntmps154
  have c0 := HC0.out.cell 0 rfl
  have c1 := HC0.out.cell 1 rfl
  have c2 := HC0.out.cell 2 rfl
  have c3 := HC0.out.cell 3 rfl
  have c4 := HC0.out.cell 4 rfl
  have c5 := HC0.out.cell 5 rfl
  have c6 := HC0.out.cell 6 rfl
  have c7 := HC0.out.cell 7 rfl
  have c8 := HC0.out.cell 8 rfl
  have c9 := HC0.out.cell 9 rfl
  have c10 := HC0.out.cell 10 rfl
  go_wp2_with fail
  refine (HI.out _).mono ?_
  rintro e w2 ⟨ks, g0, g1, g2, g3, gm, hl, rfl, ch, en, hg, g2'⟩
  obtain ⟨k, hk⟩ : ∃ k, k = ks.headD g0 := ⟨_, rfl⟩
  rw [← hk]
  have HK := Lib.hid hk
  have G2 := Lib.hid (gb_trans HG.out g2')
  have K2 := Lib.hid (And.intro ch en)
  have HH : Hid (w.heap.size ≤ gm ∧ ks.length = 7) := Lib.hid ⟨Nat.le_trans HG.out.size hg, hl⟩
  clear c0 c1 c2 c3 c4 c5 c6 c7 c8 c9 c10 HC0 g2' ch en hg hl hk
  go_wp2
  go_ret
  have ga := gb_alloc (gb_refl w2 none) (Obj.cells #[.pointer (some ⟨k, 0, none⟩)] 119)
  refine ⟨w2.heap.size :: ks, g0, g1, g2, g3, gm, by simp [HH.out.2], rfl, ⟨?_, K2.out.1.grown0 ga⟩, K2.out.2.grown0 ga, HH.out.1, gb_alloc G2.out _⟩
  rw [← HK.out]
  exact (cs_new w2 _ _).cell 0 rfl
set_option maxRecDepth 100000 in
theorem hgcdK_c (w : World) (t : Tb) : Calls Tryz.prog 112 #[t.v] w fun e w' => NewK 9 t w e w' := by
  have HI := Lib.hid (fun w => gcdK_c w t)
  have C0 := cs_new w #[.int .i64 t.eb, .int .i64 t.et, .int .i64 t.en, .int .i64 t.ed, .int .i64 t.er, .int .i64 t.el, .int .i64 t.ex, .int .i64 t.ep, .int .i64 t.ek, .int .i64 t.es, .int .i64 t.ee] 23
  have hg := gb_alloc (gb_refl w none) (Obj.cells #[.int .i64 t.eb, .int .i64 t.et, .int .i64 t.en, .int .i64 t.ed, .int .i64 t.er, .int .i64 t.el, .int .i64 t.ex, .int .i64 t.ep, .int .i64 t.ek, .int .i64 t.es, .int .i64 t.ee] 23)
  have HG := Lib.hid hg
  have HC0 := Lib.hid C0
  clear C0 hg
  go_enter Tryz.func112, Tryz.ntmps112
  have c0 := HC0.out.cell 0 rfl
  have c1 := HC0.out.cell 1 rfl
  have c2 := HC0.out.cell 2 rfl
  have c3 := HC0.out.cell 3 rfl
  have c4 := HC0.out.cell 4 rfl
  have c5 := HC0.out.cell 5 rfl
  have c6 := HC0.out.cell 6 rfl
  have c7 := HC0.out.cell 7 rfl
  have c8 := HC0.out.cell 8 rfl
  have c9 := HC0.out.cell 9 rfl
  have c10 := HC0.out.cell 10 rfl
  go_wp2_with fail
  refine (HI.out _).mono ?_
  rintro e w2 ⟨ks, g0, g1, g2, g3, gm, hl, rfl, ch, en, hg, g2'⟩
  obtain ⟨k, hk⟩ : ∃ k, k = ks.headD g0 := ⟨_, rfl⟩
  rw [← hk]
  have HK := Lib.hid hk
  have G2 := Lib.hid (gb_trans HG.out g2')
  have K2 := Lib.hid (And.intro ch en)
  have HH : Hid (w.heap.size ≤ gm ∧ ks.length = 8) := Lib.hid ⟨Nat.le_trans HG.out.size hg, hl⟩
  clear c0 c1 c2 c3 c4 c5 c6 c7 c8 c9 c10 HC0 g2' ch en hg hl hk
  go_wp2
  go_ret
  have ga := gb_alloc (gb_refl w2 none) (Obj.cells #[.pointer (some ⟨k, 0, none⟩)] 116)
  refine ⟨w2.heap.size :: ks, g0, g1, g2, g3, gm, by simp [HH.out.2], rfl, ⟨?_, K2.out.1.grown0 ga⟩, K2.out.2.grown0 ga, HH.out.1, gb_alloc G2.out _⟩
  rw [← HK.out]
  exact (cs_new w2 _ _).cell 0 rfl
set_option maxRecDepth 100000 in
theorem modnK_c (w : World) (t : Tb) : Calls Tryz.prog 66 #[t.v] w fun e w' => NewK 10 t w e w' := by
  have HI := Lib.hid (fun w => hgcdK_c w t)
  have C0 := cs_new w #[.int .i64 t.eb, .int .i64 t.et, .int .i64 t.en, .int .i64 t.ed, .int .i64 t.er, .int .i64 t.el, .int .i64 t.ex, .int .i64 t.ep, .int .i64 t.ek, .int .i64 t.es, .int .i64 t.ee] 23
  have hg := gb_alloc (gb_refl w none) (Obj.cells #[.int .i64 t.eb, .int .i64 t.et, .int .i64 t.en, .int .i64 t.ed, .int .i64 t.er, .int .i64 t.el, .int .i64 t.ex, .int .i64 t.ep, .int .i64 t.ek, .int .i64 t.es, .int .i64 t.ee] 23)
  have HG := Lib.hid hg
  have HC0 := Lib.hid C0
  clear C0 hg
  go_enter Tryz.func66, Tryz.ntmps66
  have c0 := HC0.out.cell 0 rfl
  have c1 := HC0.out.cell 1 rfl
  have c2 := HC0.out.cell 2 rfl
  have c3 := HC0.out.cell 3 rfl
  have c4 := HC0.out.cell 4 rfl
  have c5 := HC0.out.cell 5 rfl
  have c6 := HC0.out.cell 6 rfl
  have c7 := HC0.out.cell 7 rfl
  have c8 := HC0.out.cell 8 rfl
  have c9 := HC0.out.cell 9 rfl
  have c10 := HC0.out.cell 10 rfl
  go_wp2_with fail
  refine (HI.out _).mono ?_
  rintro e w2 ⟨ks, g0, g1, g2, g3, gm, hl, rfl, ch, en, hg, g2'⟩
  obtain ⟨k, hk⟩ : ∃ k, k = ks.headD g0 := ⟨_, rfl⟩
  rw [← hk]
  have HK := Lib.hid hk
  have G2 := Lib.hid (gb_trans HG.out g2')
  have K2 := Lib.hid (And.intro ch en)
  have HH : Hid (w.heap.size ≤ gm ∧ ks.length = 9) := Lib.hid ⟨Nat.le_trans HG.out.size hg, hl⟩
  clear c0 c1 c2 c3 c4 c5 c6 c7 c8 c9 c10 HC0 g2' ch en hg hl hk
  go_wp2
  go_ret
  have ga := gb_alloc (gb_refl w2 none) (Obj.cells #[.pointer (some ⟨k, 0, none⟩)] 113)
  refine ⟨w2.heap.size :: ks, g0, g1, g2, g3, gm, by simp [HH.out.2], rfl, ⟨?_, K2.out.1.grown0 ga⟩, K2.out.2.grown0 ga, HH.out.1, gb_alloc G2.out _⟩
  rw [← HK.out]
  exact (cs_new w2 _ _).cell 0 rfl
theorem ChL.ch {w : World} {ks : List Nat} {g0 : Nat} (h : ChL w ks g0) (hl : ks.length = 10) : ∃ k0 k1 k2 k3 k4 k5 k6 k7 k8 k9, ks = [k0, k1, k2, k3, k4, k5, k6, k7, k8, k9] ∧ Ch w k0 k1 k2 k3 k4 k5 k6 k7 k8 k9 g0 := by
  match ks, hl with
  | [k0, k1, k2, k3, k4, k5, k6, k7, k8, k9], _ =>
    obtain ⟨h0, h1, h2, h3, h4, h5, h6, h7, h8, h9, _⟩ := h
    exact ⟨k0, k1, k2, k3, k4, k5, k6, k7, k8, k9, rfl, h0, h1, h2, h3, h4, h5, h6, h7, h8, h9⟩
end Go.Proofs.YtimmpojeddcfnaaGreatDoor

/- Engines of polynomials: rings and engines are made. -/
namespace Go.Proofs.YtimmpojeddcfnaaGreatDoor
open Go.RowKit

theorem polypNew_ok (w : World) (p : Nat) (hp : Pm p) (hi : isP p = true) (hd : Db w) :
    Calls Tryz.prog 65 #[.int .u64 p] w fun e w' => ∃ r q, e = .returned (.tuple #[.pointer (some ⟨r, 0, none⟩), .int .i64 0]) ∧ Rg w' r q p ∧ w.grownBy w' none := by
  have PM := Lib.hid (pmod_ok w p hp hi hd)
  obtain ⟨P, hP⟩ : ∃ P : Int, P = (p : Int) := ⟨_, rfl⟩
  rw [← hP] at PM ⊢
  clear hp hi hd hP
  go_enter Tryz.func65, Tryz.ntmps65
  go_wp2_with fail
  refine (PM.out).mono ?_
  rintro e w1 ⟨q, rfl, md, _, g1⟩
  have MD := Lib.hid md
  have G1 := Lib.hid g1
  clear md g1 PM
  go_wp2
  go_ret2
  have ga := gb_alloc (gb_refl w1 none) (Obj.cells #[.pointer (some ⟨q, 0, none⟩)] 66)
  exact ⟨_, q, rfl, ⟨(cs_new w1 _ _).cell 0 rfl, MD.out.grown0 ga⟩, gb_trans G1.out ga⟩
set_option maxRecDepth 100000 in
theorem pmulNew_ok (w : World) (t : Tb) (p : Nat) (hp : Pm p) (hi : isP p = true) (hd : Db w) :
    Calls Tryz.prog 24 #[t.v, .int .u64 p] w fun e w' => ∃ g I, e = .returned (.tuple #[.pointer (some ⟨g, 0, none⟩), .int .i64 0]) ∧ Pq w' t.clamp p g I 0 ⟨0, tbT t.clamp⟩ ∧ w.heap.size ≤ I.gm ∧ w.grownBy w' none := by
  have C0 := cs_new w #[.int .i64 t.eb, .int .i64 t.et, .int .i64 t.en, .int .i64 t.ed, .int .i64 t.er, .int .i64 t.el, .int .i64 t.ex, .int .i64 t.ep, .int .i64 t.ek, .int .i64 t.es, .int .i64 t.ee] 23
  have hg := gb_alloc (gb_refl w none) (Obj.cells #[.int .i64 t.eb, .int .i64 t.et, .int .i64 t.en, .int .i64 t.ed, .int .i64 t.er, .int .i64 t.el, .int .i64 t.ex, .int .i64 t.ep, .int .i64 t.ek, .int .i64 t.es, .int .i64 t.ee] 23)
  have RN := Lib.hid (polypNew_ok _ p hp hi (hd.grown0 hg))
  have HI := Lib.hid (fun w => modnK_c w t)
  have HG := Lib.hid hg
  have HC0 := Lib.hid C0
  obtain ⟨P, hP⟩ : ∃ P : Int, P = (p : Int) := ⟨_, rfl⟩
  rw [← hP] at RN ⊢
  clear C0 hg hp hi hd hP
  go_enter Tryz.func24, Tryz.ntmps24
  go_wp2_with fail
  refine (RN.out).mono ?_
  rintro e w1 ⟨r, q, rfl, rg, g1⟩
  have RG := Lib.hid rg
  have G1 := Lib.hid (gb_trans HG.out g1)
  have C1 := HC0.out.grown0 g1
  have c0 := C1.cell 0 rfl
  have c1 := C1.cell 1 rfl
  have c2 := C1.cell 2 rfl
  have c3 := C1.cell 3 rfl
  have c4 := C1.cell 4 rfl
  have c5 := C1.cell 5 rfl
  have c6 := C1.cell 6 rfl
  have c7 := C1.cell 7 rfl
  have c8 := C1.cell 8 rfl
  have c9 := C1.cell 9 rfl
  have c10 := C1.cell 10 rfl
  clear rg g1 RN C1
  go_wp2_with fail
  refine (HI.out _).mono ?_
  rintro e w2 ⟨ks, g0, g1, g2, g3, gm, hl, rfl, ch, en, hg, g2'⟩
  obtain ⟨k0, k1, k2, k3, k4, k5, k6, k7, k8, k9, rfl, ch'⟩ := ch.ch hl
  have G2 := Lib.hid (gb_trans G1.out g2')
  have K2 := Lib.hid (And.intro ch' en)
  have R2 := Lib.hid (RG.out.grown0 g2')
  have HH : Hid (w.heap.size ≤ gm) := Lib.hid (Nat.le_trans G1.out.size hg)
  clear c0 c1 c2 c3 c4 c5 c6 c7 c8 c9 c10 HC0 g2' ch ch' en hg hl HI
  simp only [List.headD_cons]
  go_wp2
  go_ret2
  have ga := gb_alloc (gb_refl w2 none) (Obj.cells #[.pointer (some ⟨r, 0, none⟩), .pointer (some ⟨k0, 0, none⟩)] 63)
  have C := cs_new w2 #[.pointer (some ⟨r, 0, none⟩), .pointer (some ⟨k0, 0, none⟩)] 63
  exact ⟨_, ⟨r, q, k0, k1, k2, k3, k4, k5, k6, k7, k8, k9, g0, g1, g2, g3, gm⟩, rfl, ⟨⟨C.cell 0 rfl, C.cell 1 rfl, R2.out.grown0 ga, K2.out.1.grown0 ga⟩, K2.out.2.grown0 ga⟩, HH.out, gb_trans G2.out ga⟩
end Go.Proofs.YtimmpojeddcfnaaGreatDoor

/- Primes: the document's test. -/
namespace Go.Proofs.YtimmpojeddcfnaaGreatDoor
open Go.RowKit

end Go.Proofs.YtimmpojeddcfnaaGreatDoor

/- The document's products of polynomials; its primes; which moduli may be. -/
namespace Go.Proofs.YtimmpojeddcfnaaGreatDoor
open Go.RowKit

def pr12 : List Nat := [3, 5, 7, 17, 97, 257, 65537, 998244353, 4294967291, 4611686018427387847, 4179340454199820289, 1000003]
def pr12B (p : Nat) : Bool := decide (3 ≤ p) && decide (p < 4611686018427387904) && decide (p % 2 = 1) && isF p
theorem pr12_ok : ((List.range 12).all fun i => pr12B (pr12.getD i 0)) = true := by decide +kernel
theorem pr12_at (i : Nat) (hi : i < 12) : Pm ((pr12.getD i 0 : Nat) : Int) ∧ isP (pr12.getD i 0) = true := by
  have h := List.all_eq_true.1 pr12_ok i (List.mem_range.2 hi)
  unfold pr12B at h
  simp only [Bool.and_eq_true, decide_eq_true_eq] at h
  obtain ⟨⟨⟨h1, h2⟩, h3⟩, h4⟩ := h
  exact ⟨⟨by omega, by omega, by omega⟩, by rw [isF_eq (by omega)]; exact h4⟩
/-- The prime by a number. -/
def P23 (k : Int) : Nat := pr12.getD (k % 12).toNat 0
set_option maxRecDepth 100000 in
theorem prime23_c (w : World) (k : Int) (hk : 0 ≤ k ∧ k < 18446744073709551616) :
    Calls Tryz.prog 69 #[.int .u64 k] w fun e w' => ∃ p : Nat, e = .returned (.int .u64 p) ∧ Pm (p : Int) ∧ isP p = true ∧ (p ∈ pr12 ∧ p = P23 k) ∧ w.grownBy w' none := by
  obtain ⟨i, hi⟩ : ∃ i : Nat, (i : Int) = k % 12 := ⟨(k % 12).toNat, by omega⟩
  have hi12 : i < 12 := by omega
  have C0 := cs_new w #[.int .u64 3, .int .u64 5, .int .u64 7, .int .u64 17, .int .u64 97, .int .u64 257, .int .u64 65537, .int .u64 998244353, .int .u64 4294967291, .int .u64 4611686018427387847, .int .u64 4179340454199820289, .int .u64 1000003] 53
  have G0 := Lib.hid (gb_alloc (gb_refl w none) (Obj.cells #[.int .u64 3, .int .u64 5, .int .u64 7, .int .u64 17, .int .u64 97, .int .u64 257, .int .u64 65537, .int .u64 998244353, .int .u64 4294967291, .int .u64 4611686018427387847, .int .u64 4179340454199820289, .int .u64 1000003] 53))
  have cc := C0.cell i (v := .int .u64 ((pr12.getD i 0 : Nat) : Int)) (by
    rcases (show i = 0 ∨ i = 1 ∨ i = 2 ∨ i = 3 ∨ i = 4 ∨ i = 5 ∨ i = 6 ∨ i = 7 ∨ i = 8 ∨ i = 9 ∨ i = 10 ∨ i = 11 by omega) with rfl | rfl | rfl | rfl | rfl | rfl | rfl | rfl | rfl | rfl | rfl | rfl <;> rfl)
  have OK := pr12_at i hi12
  have hm : pr12.getD i 0 ∈ pr12 := by
    rw [List.getD_eq_getElem?_getD, List.getElem?_eq_getElem (show i < pr12.length from hi12)]
    exact List.getElem_mem _
  obtain ⟨q, hq⟩ : ∃ q, q = pr12.getD i 0 := ⟨_, rfl⟩
  have hq2 : q = P23 k := by
    unfold P23
    rw [hq, ← hi]; rfl
  rw [← hq] at cc OK hm
  have HO := Lib.hid (And.intro OK (And.intro hm hq2))
  have em : k % 12 = (i : Int) := hi.symm
  clear C0 OK hm hq hq2 hi
  go_enter Tryz.func69, Tryz.ntmps69
  go_wp2
  go_ret
  exact ⟨q, rfl, HO.out.1.1, HO.out.1.2, HO.out.2, G0.out⟩
end Go.Proofs.YtimmpojeddcfnaaGreatDoor

/- The field of a prime: each of the twelve is one; inverses. -/
namespace Go.Proofs.YtimmpojeddcfnaaGreatDoor
open Go.RowKit

theorem pri12 (p : Nat) (h : p ∈ pr12) : Pri p := by
  unfold pr12 at h
  simp only [List.mem_cons, List.not_mem_nil, or_false] at h
  obtain ⟨⟨⟨h3, h5⟩, h7, h17⟩, h97, h257⟩ := pri_i
  rcases h with h | h | h | h | h | h | h | h | h | h | h | h <;> rw [h]
  · exact h3
  · exact h5
  · exact h7
  · exact h17
  · exact h97
  · exact h257
  · exact pri_h
  · exact pri_f
  · exact pri_e
  · exact pri_c
  · exact pri_d
  · exact pri_g
#print InvOf
#print Cg
end Go.Proofs.YtimmpojeddcfnaaGreatDoor

/- Polynomials modulo a power of x; inverses there; quotient and remainder are unique. Plain. -/
namespace Go.Proofs.YtimmpojeddcfnaaGreatDoor

/-- F and G alike modulo p and x to the n. -/
def Eqn (p : Int) (n : Nat) (F G : Int → Int) : Prop := ∃ A, IsP A ∧ Eqv p F (fun x => G x + x ^ n * A x)
namespace Eqn
variable {p : Int} {n : Nat} {F G H F' G' : Int → Int}
theorem of_eqv (h : Eqv p F G) : Eqn p n F G := ⟨fun _ => 0, isP_const 0, h.fn fun x => by simp⟩
theorem refl (p : Int) (n : Nat) (F : Int → Int) : Eqn p n F F := of_eqv (Eqv.refl p F)
theorem symm (h : Eqn p n F G) : Eqn p n G F := by
  obtain ⟨A, hA, K, hK, e⟩ := h
  exact ⟨_, hA.neg, _, hK.neg, fun x => by have := e x; grind⟩
theorem trans (h : Eqn p n F G) (k : Eqn p n G H) : Eqn p n F H := by
  obtain ⟨A, hA, K, hK, e⟩ := h
  obtain ⟨B, hB, L, hL, f⟩ := k
  exact ⟨_, hA.add hB, _, hK.add hL, fun x => by have := e x; have := f x; grind⟩
theorem sub (h : Eqn p n F F') (k : Eqn p n G G') : Eqn p n (fun x => F x - G x) (fun x => F' x - G' x) := by
  obtain ⟨A, hA, K, hK, e⟩ := h
  obtain ⟨B, hB, L, hL, f⟩ := k
  exact ⟨_, hA.sub hB, _, hK.sub hL, fun x => by have := e x; have := f x; grind⟩
theorem mul (h : Eqn p n F F') (k : Eqn p n G G') (hF' : IsP F') (hG : IsP G) : Eqn p n (fun x => F x * G x) (fun x => F' x * G' x) := by
  obtain ⟨A, hA, K, hK, e⟩ := h
  obtain ⟨B, hB, L, hL, f⟩ := k
  refine ⟨fun x => F' x * B x + A x * G x, (hF'.mul hB).add (hA.mul hG), fun x => F' x * L x + K x * G x, (hF'.mul hL).add (hK.mul hG), fun x => ?_⟩
  have e1 := e x
  have f1 := f x
  have e2 : F x * G x = F' x * G x + x ^ n * (A x * G x) + p * (K x * G x) := by rw [e1]; grind
  have e3 : F' x * G x = F' x * G' x + x ^ n * (F' x * B x) + p * (F' x * L x) := by
    obtain ⟨y, hy⟩ : ∃ y, y = G x := ⟨_, rfl⟩
    rw [← hy] at f1 ⊢
    rw [f1]; grind
  show F x * G x = F' x * G' x + x ^ n * (F' x * B x + A x * G x) + p * (F' x * L x + K x * G x)
  rw [e2, e3]; grind
theorem coef {a b : List Int} (h : Eqn p n (ev a) (ev b)) (i : Nat) (hi : i < n) : Cg p (rd a i) (rd b i) := by
  obtain ⟨A, ⟨l, hl⟩, e⟩ := h
  have e2 : Eqv p (ev a) (ev (padd b (List.replicate n 0 ++ l))) := e.fn fun x => by
    rw [ev_padd, ev_append, ev_zeros, List.length_replicate, hl]; simp
  have := e2.coef i
  rw [rd_padd] at this
  have z : rd (List.replicate n 0 ++ l) i = 0 := by
    unfold rd
    rw [List.getD_eq_getElem?_getD, List.getElem?_append_left (by simpa using hi), List.getElem?_replicate, if_pos hi]; rfl
  rwa [z, Int.add_zero] at this
end Eqn
theorem ev_take_drop (a : List Int) (n : Nat) (x : Int) : ev a x = ev (a.take n) x + x ^ n * ev (a.drop n) x := by
  by_cases h : n ≤ a.length
  · exact ev_cut a n h x
  · rw [List.take_of_length_le (by omega), List.drop_eq_nil_of_le (by omega)]; simp [ev]
theorem Eqn.cut (p : Int) (n : Nat) (a : List Int) : Eqn p n (ev a) (ev (a.take n)) := ⟨ev (a.drop n), isP_ev _, Eqv.of_eq p fun x => ev_take_drop a n x⟩
theorem rd_take_ge {xs : List Int} {n j : Nat} (h : n ≤ j) : rd (xs.take n) j = 0 := rd_beyond (by rw [List.length_take]; omega)
theorem Eqn.of_coef {p : Int} {n : Nat} {a b : List Int} (h : ∀ i, i < n → Cg p (rd a i) (rd b i)) : Eqn p n (ev a) (ev b) := by
  refine (Eqn.cut p n a).trans ((Eqn.of_eqv (Eqv.of_coef fun i => ?_)).trans (Eqn.cut p n b).symm)
  by_cases hi : i < n
  · rw [rd_take hi, rd_take hi]; exact h i hi
  · rw [rd_take_ge (by omega), rd_take_ge (by omega)]; rfl
theorem Nf.ser {p : Int} {n : Nat} {a b : List Int} (ha : Nf p a) (hb : Nf p b) (la : a.length ≤ n) (lb : b.length ≤ n) (hp : 0 < p) (h : Eqn p n (ev a) (ev b)) : a = b := by
  refine ha.ext hb hp (Eqv.of_coef fun i => ?_)
  by_cases hi : i < n
  · exact h.coef i hi
  · rw [rd_beyond (by omega), rd_beyond (by omega)]; rfl
/-- Two inverses modulo a power of x are alike. -/
theorem Eqn.inv_one {p : Int} {n : Nat} {F S S' : Int → Int} (hS : IsP S) (hF : IsP F) (hS' : IsP S') (h : Eqn p n (fun x => F x * S x) (fun _ => 1)) (k : Eqn p n (fun x => F x * S' x) (fun _ => 1)) : Eqn p n S S' := by
  have e1 : Eqn p n (fun x => S x * (F x * S' x)) (fun x => S x * 1) := (Eqn.refl p n S).mul k hS (hF.mul hS')
  have e2 : Eqn p n (fun x => (F x * S x) * S' x) (fun x => 1 * S' x) := h.mul (Eqn.refl p n S') (isP_const 1) hS'
  have e3 : Eqn p n (fun x => S x * 1) S := Eqn.of_eqv (Eqv.of_eq p fun x => by simp)
  have e4 : Eqn p n (fun x => 1 * S' x) S' := Eqn.of_eqv (Eqv.of_eq p fun x => by simp)
  have e5 : Eqn p n (fun x => S x * (F x * S' x)) (fun x => (F x * S x) * S' x) := Eqn.of_eqv (Eqv.of_eq p fun x => by grind)
  exact e3.symm.trans (e1.symm.trans (e5.trans (e2.trans e4)))
theorem Eqn.newton {p : Int} {h n : Nat} {F b : Int → Int} (hn : n ≤ 2 * h) (k : Eqn p h (fun x => F x * b x) (fun _ => 1)) : Eqn p n (fun x => F x * (b x * (2 - F x * b x))) (fun _ => 1) := by
  obtain ⟨A, hA, K, hK, e⟩ := k
  refine ⟨fun x => -(x ^ (2 * h - n) * (A x * A x)), ((isP_pow (2 * h - n)).mul (hA.mul hA)).neg, fun x => -(2 * x ^ h * A x * K x + p * (K x * K x)), ?_, fun x => ?_⟩
  · exact ((((isP_pow h).scl 2).mul hA |>.mul hK).add ((hK.mul hK).scl p)).neg
  · have e1 := e x
    simp only at e1 ⊢
    obtain ⟨y, hy⟩ : ∃ y, y = F x * b x := ⟨_, rfl⟩
    have e2 : F x * (b x * (2 - F x * b x)) = y * (2 - y) := by rw [hy]; grind
    have e3 : x ^ h * x ^ h = x ^ n * x ^ (2 * h - n) := by rw [← Int.pow_add, ← Int.pow_add]; congr 1; omega
    rw [← hy] at e1
    rw [e2, e1]
    obtain ⟨z, hz⟩ : ∃ z, z = x ^ h := ⟨_, rfl⟩
    rw [← hz] at e3 ⊢
    have e4 : x ^ n * -(x ^ (2 * h - n) * (A x * A x)) = -(z * z * (A x * A x)) := by rw [e3]; grind
    rw [e4]; grind

/-! ### Quotient and remainder -/
theorem cv_top {a b : List Int} (ha : 0 < a.length) (hb : 0 < b.length) : cv (rd a) (rd b) (a.length - 1 + (b.length - 1)) = rd a (a.length - 1) * rd b (b.length - 1) := by
  unfold cv
  obtain ⟨m, hm⟩ : ∃ m, a.length = m + 1 := ⟨a.length - 1, by omega⟩
  obtain ⟨n, hn⟩ : ∃ m, b.length = m + 1 := ⟨b.length - 1, by omega⟩
  rw [hm, hn, Nat.add_sub_cancel, Nat.add_sub_cancel, sumI_tail (n := m + 1) (m + n + 1) (by omega) (fun t h1 h2 => by rw [rd_beyond (xs := a) (by omega)]; simp), sumI, sumI_tail (n := 0) m (by omega) (fun t h1 h2 => by rw [rd_beyond (xs := b) (j := m + n - t) (by omega)]; simp)]
  rw [show m + n - m = n by omega]
  simp [sumI]
theorem pri_mul {p : Nat} (hp : Pri p) {x y : Int} (h : Cg p (x * y) 0) : Cg p x 0 ∨ Cg p y 0 := by
  have d : (p : Int) ∣ x * y := by have := h.dvd; rwa [Int.sub_zero] at this
  have d' : p ∣ x.natAbs * y.natAbs := by rw [← Int.natAbs_mul]; exact Int.ofNat_dvd_left.1 d
  by_cases hx : p ∣ x.natAbs
  · left; exact Cg.of_dvd (by rw [Int.sub_zero]; exact Int.ofNat_dvd_left.2 hx)
  · right; exact Cg.of_dvd (by rw [Int.sub_zero]; exact Int.ofNat_dvd_left.2 ((hp.cop hx).dvd_of_dvd_mul_left d'))
theorem nf_exists {p : Int} (hp : 0 < p) {F : Int → Int} (hF : IsP F) : ∃ a, Nf p a ∧ Eqv p (ev a) F := by
  obtain ⟨l, hl⟩ := hF
  refine ⟨trimZ (l.map (· % p)), nf_trim (fun c hc => ?_), eqv_trim ((eqv_mod p l).fn fun x => (hl x).symm)⟩
  obtain ⟨d, _, rfl⟩ := List.mem_map.1 hc
  exact ⟨Int.emod_nonneg _ (by omega), Int.emod_lt_of_pos _ hp⟩
theorem nf_top {p : Int} {a : List Int} (h : Nf p a) (hp : 0 < p) (ha : 0 < a.length) : ¬ Cg p (rd a (a.length - 1)) 0 := fun k => by
  have := h.rd hp (a.length - 1)
  unfold Cg at k
  rw [Int.zero_emod, Int.emod_eq_of_lt this.1 this.2] at k
  exact Nz.top h.z ha k
/-- A multiple of b that is shorter than b is nothing. -/
theorem mul_short {p : Nat} (hp : Pri p) {Q : Int → Int} {b r : List Int} (hQ : IsP Q) (hb : Nf p b) (lb : 0 < b.length) (lr : r.length < b.length) (h : Eqv p (fun x => Q x * ev b x) (ev r)) : Eqv p Q (fun _ => 0) := by
  have hp0 : (0 : Int) < p := by have := hp.1; omega
  obtain ⟨q, hq, eq⟩ := nf_exists hp0 hQ
  by_cases h0 : 0 < q.length
  · exfalso
    have e1 : Eqv p (ev (pmul q b)) (ev r) := (Eqv.of_eq p fun x => ev_pmul q b x).trans ((eq.mul (Eqv.refl p (ev b)) (isP_ev q) (isP_ev b)).trans h)
    have c := e1.coef (q.length - 1 + (b.length - 1))
    rw [rd_pmul, cv_top h0 lb, rd_beyond (xs := r) (by omega)] at c
    rcases pri_mul hp c with k | k
    · exact nf_top hq hp0 h0 k
    · exact nf_top hb hp0 lb k
  · have : q = [] := List.length_eq_zero_iff.1 (by omega)
    rw [this] at eq
    exact eq.symm
theorem div_uniq {p : Nat} (hp : Pri p) {A Q Q' : Int → Int} {b r r' : List Int} (hQ : IsP Q) (hQ' : IsP Q') (hb : Nf p b) (lb : 0 < b.length) (lr : r.length < b.length) (lr' : r'.length < b.length)
    (h : Eqv p A (fun x => Q x * ev b x + ev r x)) (k : Eqv p A (fun x => Q' x * ev b x + ev r' x)) : Eqv p Q Q' ∧ Eqv p (ev r) (ev r') := by
  have e := h.symm.trans k
  have e1 : Eqv p (fun x => (Q x - Q' x) * ev b x) (ev (padd r' (pscl (-1) r))) := by
    obtain ⟨K, hK, e⟩ := e
    exact ⟨K, hK, fun x => by have := e x; rw [ev_padd, ev_pscl]; grind⟩
  have z := mul_short hp (hQ.sub hQ') hb lb (by rw [padd_len, pscl, List.length_map]; omega) e1
  have e2 : Eqv p Q Q' := by
    obtain ⟨K, hK, e⟩ := z
    exact ⟨K, hK, fun x => by have := e x; grind⟩
  refine ⟨e2, ?_⟩
  obtain ⟨K, hK, e⟩ := e
  obtain ⟨L, hL, f⟩ := e2
  exact ⟨fun x => K x - L x * ev b x, hK.sub (hL.mul (isP_ev b)), fun x => by have := e x; have := f x; grind⟩
end Go.Proofs.YtimmpojeddcfnaaGreatDoor

/- Division of polynomials: cut to a length; the inverse coefficient by coefficient. -/
namespace Go.Proofs.YtimmpojeddcfnaaGreatDoor
open Go.RowKit

set_option maxRecDepth 100000 in
theorem pcut_c (w : World) (r g : Nat) (p : Int) (v : Value) (xs : List Int) (k : Nat) (h : Rg w r g p) (hv : Sl w v xs) (hl : xs.length ≤ 1000000) (hk : k ≤ 1000000) :
    Calls Tryz.prog 52 #[.pointer (some ⟨r, 0, none⟩), v, .int .i64 k] w fun e w' => ∃ x, e = .returned x ∧ Po w' w.heap.size x p (ev (xs.take k)) k ∧ w.grownBy w' none := by
  obtain ⟨A, c, rfl, h1, h2⟩ := hv.form
  obtain ⟨m, hm⟩ : ∃ m, m = xs.length := ⟨_, rfl⟩
  rw [← hm] at h1 hv hl
  rw [← hm]
  by_cases hle : k < m
  · have N1 := Lib.hid (pnorm_c w r g p _ _ h (hv.take k (by omega)) (by rw [List.length_take]; omega))
    have HM := Lib.hid hm
    clear h hv hm
    by_cases k0 : 0 < k
    · go_enter Tryz.func52, Tryz.ntmps52
      go_wp2_with fail
      refine (N1.out).mono ?_
      rintro e w1 ⟨x, rfl, po, g1⟩
      go_wp2
      go_ret
      exact ⟨_, rfl, po.fn (L' := k) (Eqv.refl _ _) (by rw [List.length_take]; omega), g1⟩
    · obtain rfl : k = 0 := by omega
      clear k0
      go_enter Tryz.func52, Tryz.ntmps52
      go_wp2_with fail
      refine (N1.out).mono ?_
      rintro e w1 ⟨x, rfl, po, g1⟩
      go_wp2
      go_ret
      exact ⟨_, rfl, po.fn (L' := 0) (Eqv.refl _ _) (by rw [List.length_take]; omega), g1⟩
  · have ht : xs.take k = xs := List.take_of_length_le (by omega)
    have N1 := Lib.hid (pnorm_c w r g p _ _ h hv (by omega))
    have HM := Lib.hid hm
    rw [ht]
    clear h hv hm ht
    by_cases k0 : 0 < m
    · by_cases he : k = m
      · subst he
        go_enter Tryz.func52, Tryz.ntmps52
        go_wp2_with fail
        refine (N1.out).mono ?_
        rintro e w1 ⟨x, rfl, po, g1⟩
        go_wp2
        go_ret
        exact ⟨_, rfl, po.fn (L' := k) (Eqv.refl _ _) (by rw [← HM.out]; exact Nat.le_refl _), g1⟩
      · have hlt : m < k := by omega
        clear he hle
        go_enter Tryz.func52, Tryz.ntmps52
        go_wp2_with fail
        refine (N1.out).mono ?_
        rintro e w1 ⟨x, rfl, po, g1⟩
        go_wp2
        go_ret
        exact ⟨_, rfl, po.fn (L' := k) (Eqv.refl _ _) (by rw [← HM.out]; omega), g1⟩
    · obtain rfl : m = 0 := by omega
      clear k0
      by_cases he : k = 0
      · subst he
        go_enter Tryz.func52, Tryz.ntmps52
        go_wp2_with fail
        refine (N1.out).mono ?_
        rintro e w1 ⟨x, rfl, po, g1⟩
        go_wp2
        go_ret
        exact ⟨_, rfl, po.fn (L' := 0) (Eqv.refl _ _) (by rw [← HM.out]; exact Nat.le_refl _), g1⟩
      · have hlt : 0 < k := by omega
        clear he hle
        go_enter Tryz.func52, Tryz.ntmps52
        go_wp2_with fail
        refine (N1.out).mono ?_
        rintro e w1 ⟨x, rfl, po, g1⟩
        go_wp2
        go_ret
        exact ⟨_, rfl, po.fn (L' := k) (Eqv.refl _ _) (by rw [← HM.out]; omega), g1⟩

/-! ### Coefficient by coefficient -/
def tsum (a b : Nat → Int) (i j : Nat) : Int := sumI (fun t => if t = 0 then 0 else a t * b (i - t)) j
theorem cv_tsum (a b : Nat → Int) (i : Nat) : cv a b i = a 0 * b i + tsum a b i (i + 1) := by
  unfold cv tsum
  rw [sumI_first, sumI_first]
  simp
theorem tsum_congr (a : Nat → Int) {b b' : Nat → Int} {i j : Nat} (hj : j ≤ i + 1) (h : ∀ k, k < i → b k = b' k) : tsum a b i j = tsum a b' i j := by
  unfold tsum
  refine sumI_congr _ fun t ht => ?_
  by_cases h0 : t = 0
  · rw [if_pos h0, if_pos h0]
  · rw [if_neg h0, if_neg h0, h (i - t) (by omega)]
theorem tsum_tail {a : List Int} (b : Nat → Int) {i j : Nat} (hj : a.length ≤ j) (h1 : 1 ≤ j) (hi : j ≤ i + 1) : tsum (rd a) b i (i + 1) = tsum (rd a) b i j := by
  unfold tsum
  refine sumI_tail _ hi fun t h2 h3 => ?_
  rw [if_neg (by omega), rd_beyond (by omega)]; simp
theorem tsum_succ (a b : Nat → Int) (i : Nat) {j : Nat} (hj : 1 ≤ j) : tsum a b i (j + 1) = tsum a b i j + a j * b (i - j) := by
  show sumI _ j + (if j = 0 then 0 else a j * b (i - j)) = _
  rw [if_neg (by omega)]; rfl
theorem tsum_one (a b : Nat → Int) (i : Nat) : tsum a b i 1 = 0 := by simp [tsum, sumI]
structure Sw (p : Int) (a : Nat → Int) (n i : Nat) (os : List Int) : Prop where
  len : os.length = n
  r : ∀ c ∈ os, 0 ≤ c ∧ c < p
  e : ∀ j, j < i → Cg p (cv a (rd os) j) (if j = 0 then 1 else 0)
theorem cv_congr (a : Nat → Int) {b b' : Nat → Int} {j : Nat} (h : ∀ k, k ≤ j → b k = b' k) : cv a b j = cv a b' j := by
  unfold cv
  exact sumI_congr _ fun t ht => by rw [h (j - t) (by omega)]
theorem Sw.start {p : Int} {a : Nat → Int} {n : Nat} {v : Int} (hn : 0 < n) (h0 : 0 ≤ v) (h1 : v < p) (hv : Cg p (v * a 0) 1) : Sw p a n 1 ((List.replicate n 0).set 0 v) := by
  refine ⟨by simp, fun c hc => ?_, fun j hj => ?_⟩
  · rcases List.mem_or_eq_of_mem_set hc with h | h
    · rw [List.eq_of_mem_replicate h]; omega
    · rw [h]; exact ⟨h0, h1⟩
  · obtain rfl : j = 0 := by omega
    rw [cv_tsum, tsum_one, rd_set_self (by simpa using hn), Int.add_zero, Int.mul_comm]
    exact hv
theorem Sw.step {p : Int} {a : Nat → Int} {n i : Nat} {os : List Int} (h : Sw p a n i os) (hi : i < n) (h1 : 1 ≤ i) {inv s v : Int} (hinv : Cg p (inv * a 0) 1) (hs : Cg p s (tsum a (rd os) i (i + 1))) (hv : Cg p v (-(s * inv))) (v0 : 0 ≤ v) (v1 : v < p) : Sw p a n (i + 1) (os.set i v) := by
  refine ⟨by rw [List.length_set, h.len], fun c hc => ?_, fun j hj => ?_⟩
  · rcases List.mem_or_eq_of_mem_set hc with k | k
    · exact h.r c k
    · rw [k]; exact ⟨v0, v1⟩
  · have hk : ∀ k, k < i → rd (os.set i v) k = rd os k := fun k hk => rd_set_ne (by omega) _
    by_cases e : j = i
    · rw [e, if_neg (by omega), cv_tsum, rd_set_self (by rw [h.len]; exact hi), tsum_congr a (Nat.le_refl _) hk]
      have c1 : Cg p (a 0 * v + tsum a (rd os) i (i + 1)) (a 0 * -(s * inv) + s) := (hv.mull (a 0)).add hs.symm
      have c2 : Cg p (inv * a 0 * -s + s) (1 * -s + s) := (hinv.mulr (-s)).add (Cg.refl p s)
      have e1 : a 0 * -(s * inv) + s = inv * a 0 * -s + s := by grind
      rw [e1] at c1
      exact c1.trans (c2.trans (Cg.of_eq (by omega)))
    · rw [cv_congr a (b' := rd os) (fun k h2 => hk k (by omega))]
      exact h.e j (by omega)
theorem Sw.last {p : Int} {a : List Int} {n : Nat} {os : List Int} (h : Sw p (rd a) n n os) : Eqn p n (fun x => ev a x * ev os x) (fun _ => 1) := by
  have e : Eqn p n (ev (pmul a os)) (ev [1]) := Eqn.of_coef fun i hi => by
    rw [rd_pmul]
    have := h.e i hi
    cases i with
    | zero => exact this
    | succ i => exact this
  exact (Eqn.of_eqv (Eqv.of_eq p fun x => (ev_pmul a os x).symm)).trans (e.trans (Eqn.of_eqv (Eqv.of_eq p fun x => by simp [ev])))
end Go.Proofs.YtimmpojeddcfnaaGreatDoor

/- The inverse coefficient by coefficient. -/
namespace Go.Proofs.YtimmpojeddcfnaaGreatDoor
open Go.RowKit

/-- A row of its own that is F's inverse modulo x to the n. -/
def Sp (w : World) (base : Nat) (v : Value) (p : Int) (F : Int → Int) (n : Nat) : Prop := ∃ S : List Int, Po w base v p (ev S) n ∧ Eqn p n (fun z => F z * ev S z) (fun _ => 1)
set_option maxRecDepth 100000 in
set_option maxHeartbeats 4000000 in
theorem slow_c (w : World) (d g r q : Nat) (p : Int) (v : Value) (xs : List Int) (n : Nat) (hd : w.cell? ⟨d, 0, none⟩ = some (.pointer (some ⟨g, 0, none⟩))) (hg : w.cell? ⟨g, 0, none⟩ = some (.pointer (some ⟨r, 0, none⟩))) (h : Rg w r q p) (hv : Sl w v xs) (hx : 0 < xs.length) (hl : xs.length ≤ 100000) (hn : 1 ≤ n) (hn2 : n ≤ 100000) (hc : Int.gcd p (rd xs 0) = 1) :
    Calls Tryz.prog 122 #[.pointer (some ⟨d, 0, none⟩), v, .int .i64 n] w fun e w' => ∃ x, e = .returned x ∧ Sp w' w.heap.size x p (ev xs) n ∧ w.grownBy w' none := by
  have hp := h.m.neg0
  have hp' := h.m.pm.hi
  obtain ⟨A, c, rfl, hc1, hc2⟩ := hv.form
  obtain ⟨bA, oA, rfl, h0⟩ := hv.at 0 hx
  rw [Nat.add_zero] at h0
  have x0n := rd_w hv.ws 0
  have SX := Lib.hid hv
  obtain ⟨m, hm⟩ : ∃ m, m = xs.length := ⟨_, rfl⟩
  obtain ⟨x0, hx0⟩ : ∃ x0, x0 = rd xs 0 := ⟨_, rfl⟩
  rw [← hm] at hc1 hx hl SX ⊢
  rw [← hx0] at h0 x0n hc
  have IV := Lib.hid (modInv_c w.drew q p x0 h.m.drew x0n.1)
  have HM := Lib.hid hm
  have HX0 := Lib.hid hx0
  have GC := Lib.hid hc
  have HR := Lib.hid h
  have HD := Lib.hid hd
  have HG := Lib.hid hg
  have t2 := h.c
  clear hv hm hx0 hc h x0n
  go_enter Tryz.func122, Tryz.ntmps122
  go_wp2
  refine Canon.region_canon (by kernel_rfl) (by kernel_rfl) ?_
  go_wp2_with fail
  refine (IV.out).mono ?_
  rintro e w1 ⟨⟨y, f, rfl, io⟩, g1⟩
  go_wp2
  refine ⟨by kernel_rfl, ?_⟩
  have IO := Lib.hid (io.is GC.out)
  have G1 := Lib.hid (gb_trans (gb_drew (gb_refl w none)) g1)
  have mk := make64 24 (by kernel_rfl) n n (n : Int) (n : Int) (by omega) (by omega) (by omega) (by omega)
  have OW := Lib.hid (own_made w1 w1.heap.size n n (Nat.le_refl _) (by omega) (by omega))
  have G0 := Lib.hid (gb_alloc (gb_refl w1 none) (Obj.cells (madeCells #[.int .u64 0] n) 53))
  have mk1 := mk w1
  obtain ⟨W0, hW⟩ : ∃ W0, W0 = w1.alloc (Obj.cells (madeCells #[.int .u64 0] n) 53) := ⟨_, rfl⟩
  rw [← hW] at OW G0 mk1
  clear mk hW
  have fr := OW.out.free 0
  have ce := OW.out.cell 0 (by simp; omega)
  clear IV io g1 GC h0 hd hg t2
  go_wp2
  clear mk1 fr ce
  have S0 : Hid (Sw p (rd xs) n 1 ((List.replicate n 0).set 0 y)) := Lib.hid (Sw.start (by omega) IO.out.2.1 IO.out.2.2.1 (by rw [← HX0.out]; exact IO.out.2.2.2))
  go_loopw [10] (fun v10 wr => ∃ (i : Nat) (os : List Int), v10 = .int .i64 i ∧ 1 ≤ i ∧ i ≤ n ∧ Sw p (rd xs) n i os ∧ Own wr w1.heap.size (.slice (some ⟨w1.heap.size, 0, none⟩) n n) os ∧ w1.grownBy wr none) (fun v10 _ => n - (intOf v10).toNat)
  case atStart => exact ⟨1, _, rfl, by omega, by omega, S0.out, OW.out.store 0 IO.out.2.1 (by have := IO.out.2.2.1; omega), gb_set (p := ⟨w1.heap.size, 0, none⟩) G0.out (Nat.le_refl _) _⟩
  case round =>
    clear OW G0 S0
    obtain ⟨i, os, rfl, hi1, hi, sw, ow, G⟩ := hrel
    obtain ⟨wq, rfl⟩ : ∃ wq : World, wq = wr := ⟨_, rfl⟩
    have SW := Lib.hid sw
    have OW := Lib.hid ow
    have GG := Lib.hid G
    clear sw ow G
    by_cases hlt : i < n
    · go_wp2
      go_loopw [11, 12] (fun v11 v12 ws => ∃ (j : Nat) (s : Int), v11 = .int .u64 s ∧ v12 = .int .i64 j ∧ 1 ≤ j ∧ j ≤ i + 1 ∧ (0 ≤ s ∧ s < p) ∧ Cg p s (tsum (rd xs) (rd os) i j) ∧ wq.grownBy ws none) (fun _ v12 _ => i + 1 - (intOf v12).toNat)
      case atStart => exact ⟨1, 0, rfl, rfl, by omega, by omega, ⟨by omega, hp⟩, Cg.of_eq (tsum_one _ _ _).symm, gb_refl _ _⟩
      case round =>
        obtain ⟨j, s, rfl, rfl, hj1, hj, hs, cg, G⟩ := hrel
        obtain ⟨ws, rfl⟩ : ∃ ws : World, ws = wr := ⟨_, rfl⟩
        have CG := Lib.hid cg
        have GS := Lib.hid G
        clear cg G
        have OWs := Lib.hid (OW.out.grown0 GS.out)
        have GA := Lib.hid (gb_trans G1.out (gb_trans GG.out GS.out))
        by_cases hlj : j ≤ i ∧ j < m
        · obtain ⟨hj2, hj3⟩ := hlj
          obtain ⟨bA', oA', eA, hcj⟩ := (SX.out.grown0 GA.out).at j (by rw [← HM.out]; exact hj3)
          simp only [Option.some.injEq, Addr.mk.injEq, and_true] at eA
          obtain ⟨rfl, rfl⟩ := eA
          have hx1 := rd_w SX.out.ws j
          have ce := OWs.out.cell (i - j) (by rw [SW.out.len]; omega)
          have hy1 := rd_w OWs.out.ws (i - j)
          obtain ⟨k, hk⟩ : ∃ k, k = i - j := ⟨_, rfl⟩
          have ek : (i : Int) - (j : Int) = (k : Int) := by omega
          have kn : k < n := by omega
          obtain ⟨a, ha⟩ : ∃ a, a = rd xs j := ⟨_, rfl⟩
          obtain ⟨b, hb⟩ : ∃ b, b = rd os (i - j) := ⟨_, rfl⟩
          rw [← ha] at hcj hx1
          rw [← hb] at ce hy1
          rw [← hk] at ce
          have HA := Lib.hid ha
          have HB := Lib.hid hb
          have R := HR.out.grown0 GA.out
          have ML := Lib.hid (modMul_c ws.drew q p a b R.m.drew hx1.1 hy1.1)
          have AD := Lib.hid (fun w3 (k : ws.drew.grownBy w3 none) => modAdd_c w3 q p s (a * b % p) (R.m.drew.grown0 k) hs.1 (mod_nn hp).1)
          have cd := gb_cell0 GA.out HD.out
          have cg := gb_cell0 GA.out HG.out
          have cr := R.c
          have HF := Lib.hid (Canon.sf_cons cd (Canon.sf_cons cg (Canon.sf_cons cr (Canon.sf_nil _))))
          clear hk ha hb R cd cg
          go_wp2
          refine Canon.region_held [54, 57, 60] _ (by kernel_rfl) (by kernel_rfl) HF.out ?_
          refine Canon.segs_at 31 _ _ _ (by kernel_rfl) ?_
          simp only [List.take_succ_cons, List.take_zero, List.drop_succ_cons, List.drop_zero]
          have cd := gb_cell0 GA.out HD.out
          have cg := gb_cell0 GA.out HG.out
          go_wp2_with fail
          refine (ML.out).mono ?_
          rintro e wa ⟨rfl, ga⟩
          have AD2 := Lib.hid (AD.out _ ga)
          have F2 := Lib.hid (Canon.sf_grown0 HF.out.drew ga)
          have GB := Lib.hid (gb_trans (gb_drew GS.out) ga)
          clear ML AD HF ce hcj cr cd cg ga
          go_wp2
          refine ⟨F2.out, ?_⟩
          refine Canon.segs_at 0 _ _ _ (by kernel_rfl) ?_
          simp only [List.take_succ_cons, List.take_zero, List.drop_succ_cons, List.drop_zero]
          go_wp2_with fail
          refine (AD2.out).mono ?_
          rintro e wb ⟨rfl, gb⟩
          have F3 := Lib.hid (Canon.sf_grown0 F2.out gb)
          have GC := Lib.hid (gb_trans GB.out gb)
          have mm := mod_nn (x := s + a * b % p) hp
          have st : Cg p ((s + a * b % p) % p) (tsum (rd xs) (rd os) i (j + 1)) := by
            rw [tsum_succ _ _ _ hj1, ← HA.out, ← HB.out]
            exact (Cg.mod p _).trans (CG.out.add (Cg.mod p _))
          obtain ⟨z, hz⟩ : ∃ z, z = (s + a * b % p) % p := ⟨_, rfl⟩
          rw [← hz] at mm st ⊢
          have ST := Lib.hid st
          clear AD2 F2 gb hz st
          go_wp2
          refine ⟨F3.out, ?_⟩
          refine Canon.segs_end _ _ _ (by kernel_rfl) ?_
          go_wp2
          refine ⟨by kernel_rfl, by kernel_rfl, by kernel_rfl, ?_⟩
          go_wp2
          clear ek
          go_roundw
          case rel => exact ⟨j + 1, z, rfl, by go_num, by omega, by omega, mm, ST.out, GC.out⟩
          case measure => simp [intOf]; omega
        · have FIN : Hid (Cg p s (tsum (rd xs) (rd os) i (i + 1))) := Lib.hid (by
            by_cases hji : j = i + 1
            · rw [← hji]; exact CG.out
            · rw [tsum_tail (rd os) (j := j) (by rw [← HM.out]; omega) hj1 hj]; exact CG.out)
          have R := HR.out.grown0 GA.out
          have ML := Lib.hid (modMul_c ws.drew q p s y R.m.drew hs.1 IO.out.2.1)
          have NG := Lib.hid (fun w3 (k : ws.drew.grownBy w3 none) => modNeg_c w3 q p (s * y % p) (R.m.drew.grown0 k) (mod_nn hp).1)
          have cd := gb_cell0 GA.out HD.out
          have cg := gb_cell0 GA.out HG.out
          have cr := R.c
          have HF := Lib.hid (Canon.sf_cons cd (Canon.sf_cons cg (Canon.sf_cons cr (Canon.sf_nil _))))
          clear R
          by_cases hji : j ≤ i
          · have hjm : m ≤ j := by omega
            clear hlj
            go_wp2
            refine Canon.region_held_l [89, 92, 95] _ (by kernel_rfl) (by kernel_rfl) (by kernel_rfl) HF.out ?_
            refine Canon.segl_at 24 _ _ _ (by kernel_rfl) (by kernel_rfl) ?_
            simp only [List.take_succ_cons, List.take_zero, List.drop_succ_cons, List.drop_zero]
            go_wp2_with fail
            refine (ML.out).mono ?_
            rintro e wa ⟨rfl, ga⟩
            have NG2 := Lib.hid (NG.out _ ga)
            have F2 := Lib.hid (Canon.sf_grown0 HF.out.drew ga)
            have GB := Lib.hid (gb_trans (gb_drew GS.out) ga)
            clear ML NG HF cd cg cr ga
            go_wp2
            refine ⟨F2.out, ?_⟩
            refine Canon.segl_at 0 _ _ _ (by kernel_rfl) (by kernel_rfl) ?_
            simp only [List.take_succ_cons, List.take_zero, List.drop_succ_cons, List.drop_zero]
            go_wp2_with fail
            refine (NG2.out).mono ?_
            rintro e wb ⟨rfl, gb⟩
            have F3 := Lib.hid (Canon.sf_grown0 F2.out gb)
            have GC := Lib.hid (gb_trans GB.out gb)
            have OW2 := Lib.hid (OW.out.grown0 GC.out)
            have mm := mod_nn (x := -(s * y % p)) hp
            have st := SW.out.step hlt hi1 (inv := y) (s := s) (v := -(s * y % p) % p) (by rw [← HX0.out]; exact IO.out.2.2.2) FIN.out ((Cg.mod p _).trans (Cg.mod p _).neg) mm.1 mm.2
            obtain ⟨z, hz⟩ : ∃ z, z = -(s * y % p) % p := ⟨_, rfl⟩
            rw [← hz] at mm st ⊢
            have ST := Lib.hid st
            clear NG2 F2 gb hz st
            go_wp2
            refine ⟨F3.out, ?_⟩
            have fr2 := OW2.out.free i
            have ce2 := OW2.out.cell i (by rw [SW.out.len]; exact hlt)
            refine Canon.segl_last 1 _ _ _ (by kernel_rfl) (by kernel_rfl) ?_
            go_wp2
            refine ⟨by kernel_rfl, by kernel_rfl, by kernel_rfl, ?_⟩
            go_wp2
            go_roundw
            case rel => exact ⟨i + 1, _, by go_num, by omega, by omega, ST.out, OW2.out.store i mm.1 (by omega), gb_set (p := ⟨w1.heap.size, i, none⟩) (gb_trans GG.out GC.out) (Nat.le_refl _) _⟩
            case measure => simp [intOf]; omega
          · clear hlj
            go_wp2
            refine Canon.region_held_l [89, 92, 95] _ (by kernel_rfl) (by kernel_rfl) (by kernel_rfl) HF.out ?_
            refine Canon.segl_at 24 _ _ _ (by kernel_rfl) (by kernel_rfl) ?_
            simp only [List.take_succ_cons, List.take_zero, List.drop_succ_cons, List.drop_zero]
            go_wp2_with fail
            refine (ML.out).mono ?_
            rintro e wa ⟨rfl, ga⟩
            have NG2 := Lib.hid (NG.out _ ga)
            have F2 := Lib.hid (Canon.sf_grown0 HF.out.drew ga)
            have GB := Lib.hid (gb_trans (gb_drew GS.out) ga)
            clear ML NG HF cd cg cr ga
            go_wp2
            refine ⟨F2.out, ?_⟩
            refine Canon.segl_at 0 _ _ _ (by kernel_rfl) (by kernel_rfl) ?_
            simp only [List.take_succ_cons, List.take_zero, List.drop_succ_cons, List.drop_zero]
            go_wp2_with fail
            refine (NG2.out).mono ?_
            rintro e wb ⟨rfl, gb⟩
            have F3 := Lib.hid (Canon.sf_grown0 F2.out gb)
            have GC := Lib.hid (gb_trans GB.out gb)
            have OW2 := Lib.hid (OW.out.grown0 GC.out)
            have mm := mod_nn (x := -(s * y % p)) hp
            have st := SW.out.step hlt hi1 (inv := y) (s := s) (v := -(s * y % p) % p) (by rw [← HX0.out]; exact IO.out.2.2.2) FIN.out ((Cg.mod p _).trans (Cg.mod p _).neg) mm.1 mm.2
            obtain ⟨z, hz⟩ : ∃ z, z = -(s * y % p) % p := ⟨_, rfl⟩
            rw [← hz] at mm st ⊢
            have ST := Lib.hid st
            clear NG2 F2 gb hz st
            go_wp2
            refine ⟨F3.out, ?_⟩
            have fr2 := OW2.out.free i
            have ce2 := OW2.out.cell i (by rw [SW.out.len]; exact hlt)
            refine Canon.segl_last 1 _ _ _ (by kernel_rfl) (by kernel_rfl) ?_
            go_wp2
            refine ⟨by kernel_rfl, by kernel_rfl, by kernel_rfl, ?_⟩
            go_wp2
            go_roundw
            case rel => exact ⟨i + 1, _, by go_num, by omega, by omega, ST.out, OW2.out.store i mm.1 (by omega), gb_set (p := ⟨w1.heap.size, i, none⟩) (gb_trans GG.out GC.out) (Nat.le_refl _) _⟩
            case measure => simp [intOf]; omega
    · obtain rfl : i = n := by omega
      have GA := Lib.hid (gb_trans G1.out GG.out)
      have NM := Lib.hid (pnorm_c wq r q p _ _ (HR.out.grown0 GA.out) OW.out.sl (by rw [SW.out.len]; omega))
      have cd := gb_cell0 GA.out HD.out
      have cg := gb_cell0 GA.out HG.out
      go_wp2_with fail
      refine (NM.out).mono ?_
      rintro e w3 ⟨x, rfl, po, g3⟩
      go_wp2
      go_ret
      exact ⟨_, rfl, ⟨os, (po.fn (L' := i) (Eqv.refl _ _) (by rw [SW.out.len]; exact Nat.le_refl _)).mono GA.out.size, SW.out.last⟩, gb_trans GA.out g3⟩
end Go.Proofs.YtimmpojeddcfnaaGreatDoor

/- Inverses modulo a power of x, by halves. -/
namespace Go.Proofs.YtimmpojeddcfnaaGreatDoor
open Go.RowKit

/-- Block d is a divider: it points to an engine of products. -/
structure Pd (w : World) (u : Tb) (p : Int) (d g : Nat) (I : Pix) (a : Int) (c : Mc) : Prop where
  e : w.cell? ⟨d, 0, none⟩ = some (.pointer (some ⟨g, 0, none⟩))
  q : Pq w u p g I a c
theorem Pd.grown0 {w w' : World} {u : Tb} {p : Int} {d g : Nat} {I : Pix} {a : Int} {c : Mc} (h : Pd w u p d g I a c) (k : w.grownBy w' none) : Pd w' u p d g I a c := ⟨gb_cell0 k h.e, h.q.grown0 k⟩
theorem Pd.next {w w' : World} {u : Tb} {p : Int} {d g : Nat} {I : Pix} {a a' : Int} {c c' : Mc} (h : Pd w u p d g I a c) (k : w.grownBy w' (some I.gm)) (q : Pq w' u p g I a' c') : Pd w' u p d g I a' c' := ⟨cell_past h.e (h.q.en.m.ptr h.e) k, q⟩
theorem gcd_cg {p x y : Int} (_hp : 3 ≤ p) (h : Cg p x y) (g : Int.gcd p x = 1) : Int.gcd p y = 1 := by
  obtain ⟨k, hk⟩ := h.dvd
  have e : x = y + p * k := by omega
  rw [e, Int.gcd_comm] at g
  rw [Int.gcd_comm, ← g]
  rw [show y + p * k = y + k * p by rw [Int.mul_comm], Int.gcd_add_mul_right_left]
theorem cut_head {p : Int} (hp : 3 ≤ p) {xs zs : List Int} {h : Nat} (h1 : 0 < h) (e : Eqv p (ev zs) (ev (xs.take h))) (g : Int.gcd p (rd xs 0) = 1) : 0 < zs.length ∧ Int.gcd p (rd zs 0) = 1 := by
  have c := e.coef 0
  rw [rd_take h1] at c
  have g2 := gcd_cg hp c.symm g
  refine ⟨?_, g2⟩
  by_cases k : 0 < zs.length
  · exact k
  · rw [rd_beyond (by omega), Int.gcd_zero_right] at g2; omega
theorem newton_rows {p : Int} {h n : Nat} {xs z2 z3 z4 z5 z6 : List Int} (hn : n ≤ 2 * h) (e2 : Eqn p h (fun x => ev xs x * ev z2 x) (fun _ => 1)) (e3 : Eqv p (ev z3) (fun x => ev xs x * ev z2 x)) (e4 : Eqv p (ev z4) (ev (z3.take n)))
    (e5 : Eqv p (ev z5) (fun x => ev [2] x - ev z4 x)) (e6 : Eqv p (ev z6) (fun x => ev z2 x * ev z5 x)) : Eqn p n (fun x => ev xs x * ev (z6.take n) x) (fun _ => 1) := by
  have f4 : Eqn p n (ev z4) (fun x => ev xs x * ev z2 x) := (Eqn.of_eqv e4).trans ((Eqn.cut p n z3).symm.trans (Eqn.of_eqv e3))
  have f5 : Eqn p n (ev z5) (fun x => 2 - ev xs x * ev z2 x) := (Eqn.of_eqv e5).trans ((Eqn.of_eqv (Eqv.of_eq p (G := fun x => (2 : Int) - ev z4 x) fun x => by simp [ev])).trans ((Eqn.refl p n (fun _ => (2 : Int))).sub f4))
  have f6 : Eqn p n (ev (z6.take n)) (fun x => ev z2 x * (2 - ev xs x * ev z2 x)) := (Eqn.cut p n z6).symm.trans ((Eqn.of_eqv e6).trans ((Eqn.refl p n (ev z2)).mul f5 (isP_ev z2) (isP_ev z5)))
  exact ((Eqn.refl p n (ev xs)).mul f6 (isP_ev xs) (isP_ev _)).trans (Eqn.newton hn e2)
theorem half_rows {p : Int} {h : Nat} {xs z1 S z2 : List Int} (e1 : Eqv p (ev z1) (ev (xs.take h))) (e : Eqn p h (fun x => ev z1 x * ev S x) (fun _ => 1)) (e2 : Eqv p (ev z2) (ev S)) : Eqn p h (fun x => ev xs x * ev z2 x) (fun _ => 1) :=
  (((Eqn.cut p h xs).trans (Eqn.of_eqv e1.symm)).mul (Eqn.of_eqv e2) (isP_ev z1) (isP_ev z2)).trans e
theorem sp_nil (w : World) (base : Nat) (p : Int) {F : Int → Int} (hF : IsP F) : Sp w base (.slice none 0 0) p F 0 :=
  ⟨[], po_nil w base p 0 (Eqv.refl _ _), fun x => F x * ev [] x - 1, (hF.mul (isP_ev [])).sub (isP_const 1), Eqv.of_eq p fun x => by simp; omega⟩
end Go.Proofs.YtimmpojeddcfnaaGreatDoor

/- Inverses modulo a power of x, by halves: the walk. -/
namespace Go.Proofs.YtimmpojeddcfnaaGreatDoor
open Go.RowKit

theorem Pd.sf {w : World} {u : Tb} {p : Int} {d g : Nat} {I : Pix} {a : Int} {c : Mc} (h : Pd w u p d g I a c) : Canon.SF [(⟨d, 0, none⟩, .pointer (some ⟨g, 0, none⟩)), (⟨g, 0, none⟩, .pointer (some ⟨I.r, 0, none⟩)), (⟨d, 0, none⟩, .pointer (some ⟨g, 0, none⟩)), (⟨g, 0, none⟩, .pointer (some ⟨I.r, 0, none⟩)), (⟨d, 0, none⟩, .pointer (some ⟨g, 0, none⟩))] w :=
  Canon.sf_cons h.e (Canon.sf_cons h.q.pe.e0 (Canon.sf_cons h.e (Canon.sf_cons h.q.pe.e0 (Canon.sf_cons h.e (Canon.sf_nil _)))))
theorem Pd.sf2 {w : World} {u : Tb} {p : Int} {d g : Nat} {I : Pix} {a : Int} {c : Mc} (h : Pd w u p d g I a c) : Canon.SF [(⟨d, 0, none⟩, .pointer (some ⟨g, 0, none⟩)), (⟨g, 0, none⟩, .pointer (some ⟨I.r, 0, none⟩))] w :=
  Canon.sf_cons h.e (Canon.sf_cons h.q.pe.e0 (Canon.sf_nil _))
/-- What stands after 2 - ab has been made. -/
def Mid (w2 wx : World) (u : Tb) (p : Int) (d g : Nat) (I : Pix) (a2 : Int) (n : Nat) (xs z2 : List Int) (v8 : Value) : Prop := ∃ a3 c3 z3 z4 z5, Own wx w2.heap.size v8 z5 ∧ z5.length ≤ n ∧ Eqv p (ev z3) (fun x => ev xs x * ev z2 x) ∧ Eqv p (ev z4) (ev (z3.take n)) ∧ Eqv p (ev z5) (fun x => ev [2] x - ev z4 x) ∧ Pd wx u p d g I a3 c3 ∧ a3 ≤ a2 + 10000000 ∧ w2.grownBy wx (some I.gm)
set_option maxRecDepth 100000 in
set_option maxHeartbeats 8000000 in
theorem series_any (u : Tb) (hu : TbOk u) (p : Int) (d g : Nat) (I : Pix) : ∀ (n : Nat), n ≤ 160 → ∀ (w : World) (a : Int) (c : Mc) (v : Value) (xs : List Int), Pd w u p d g I a c → Db w → a + (n : Int) * 20000000 ≤ 900000000000000 → Sl w v xs → 0 < xs.length → xs.length ≤ 160 → Int.gcd p (rd xs 0) = 1 →
    Calls Tryz.prog 81 #[.pointer (some ⟨d, 0, none⟩), v, .int .i64 n] w fun e w' => ∃ x a' c', e = .returned x ∧ Sp w' w.heap.size x p (ev xs) n ∧ Pd w' u p d g I a' c' ∧ a' ≤ a + (n : Int) * 20000000 ∧ w.grownBy w' (some I.gm) := by
  intro n
  induction n using Nat.strongRecOn with
  | ind n ih =>
  intro hn w a c v xs hP hd ha hv hx hl hg
  have hp3 := hP.q.rg.m.pm.lo
  by_cases n0 : n = 0
  · subst n0
    have HP := Lib.hid hP
    clear ih hP hd hv hg
    go_enter Tryz.func81, Tryz.ntmps81
    go_wp2
    go_ret
    exact ⟨_, a, c, rfl, sp_nil _ _ _ (isP_ev _), HP.out, by omega, gb_refl _ _⟩
  have n0' : ((n : Int) == 0) = false := by simp; omega
  obtain ⟨es, hes⟩ : ∃ es, es = u.es := ⟨_, rfl⟩
  have t16 := hP.q.cell 12 (by decide)
  rw [show u.vs[12 - 3]? = some (.int .i64 u.es) from rfl, ← hes] at t16
  have HP := Lib.hid hP
  have IH := Lib.hid ih
  have HD := Lib.hid hd
  have HV := Lib.hid hv
  have HG := Lib.hid hg
  by_cases hs : n = 1 ∨ (n : Int) < es
  · have SL := Lib.hid (slow_c w d g I.r I.q p v xs n hP.e hP.q.pe.e0 hP.q.rg hv hx (by omega) (by omega) (by omega) hg)
    have t0 := hP.e
    have t1 := hP.q.pe.e1
    have t2 := hP.q.pe.ch.c0
    have t3 := hP.q.pe.ch.c1
    have t4 := hP.q.pe.ch.c2
    have t5 := hP.q.pe.ch.c3
    have t6 := hP.q.pe.ch.c4
    have t7 := hP.q.pe.ch.c5
    have t8 := hP.q.pe.ch.c6
    have t9 := hP.q.pe.ch.c7
    have t10 := hP.q.pe.ch.c8
    have t11 := hP.q.pe.ch.c9
    have t12 := hP.q.en.e.h0
    have t13 := hP.q.en.e.h1
    have t14 := hP.q.en.e.h2
    have t15 := hP.q.en.e.h3
    clear hP ih hd hv hg hes
    by_cases n1 : n = 1
    · subst n1
      clear hs
      go_enter Tryz.func81, Tryz.ntmps81
      go_wp2_with fail
      refine (SL.out).mono ?_
      rintro e w1 ⟨x, rfl, sp, g1⟩
      go_wp2
      go_ret
      exact ⟨_, a, c, rfl, sp, HP.out.grown0 g1, by omega, gb_none g1 _⟩
    · have n1' : ((n : Int) == 1) = false := by simp; omega
      have hlt : decide ((n : Int) < es) = true := decide_eq_true (by omega)
      clear hs
      go_enter Tryz.func81, Tryz.ntmps81
      go_wp2_with fail
      refine (SL.out).mono ?_
      rintro e w1 ⟨x, rfl, sp, g1⟩
      go_wp2
      go_ret
      exact ⟨_, a, c, rfl, sp, HP.out.grown0 g1, by omega, gb_none g1 _⟩
  · have n1' : ((n : Int) == 1) = false := by simp; omega
    have hlt : decide ((n : Int) < es) = false := decide_eq_false (by omega)
    obtain ⟨h, hh⟩ : ∃ h, h = (n + 1) / 2 := ⟨_, rfl⟩
    have eh : Int.tdiv ((n : Int) + 1) 2 = (h : Int) := by rw [Int.tdiv_eq_ediv_of_nonneg (by omega)]; omega
    have h1 : 0 < h ∧ h < n ∧ n ≤ 2 * h := by omega
    have C1 := Lib.hid (pcut_c w I.r I.q p v xs h hP.q.rg hv (by omega) (by omega))
    have t0 := hP.e
    have t17 := hP.q.pe.e0
    have t1 := hP.q.pe.e1
    have t2 := hP.q.pe.ch.c0
    have t3 := hP.q.pe.ch.c1
    have t4 := hP.q.pe.ch.c2
    have t5 := hP.q.pe.ch.c3
    have t6 := hP.q.pe.ch.c4
    have t7 := hP.q.pe.ch.c5
    have t8 := hP.q.pe.ch.c6
    have t9 := hP.q.pe.ch.c7
    have t10 := hP.q.pe.ch.c8
    have t11 := hP.q.pe.ch.c9
    have t12 := hP.q.en.e.h0
    have t13 := hP.q.en.e.h1
    have t14 := hP.q.en.e.h2
    have t15 := hP.q.en.e.h3
    clear hP ih hd hv hg hes hs hh
    go_enter Tryz.func81, Tryz.ntmps81
    go_wp2_with fail
    refine (C1.out).mono ?_
    rintro e w1 ⟨x1, rfl, ⟨z1, o1, nf1, e1, l1⟩, g1⟩
    obtain ⟨k1, k2⟩ := cut_head hp3 h1.1 e1 HG.out
    have P1 := Lib.hid (HP.out.grown0 g1)
    have SR := Lib.hid (IH.out h h1.2.1 (by omega) w1 a c x1 z1 P1.out (HD.out.grown0 g1) (by omega) o1.sl k1 (by omega) k2)
    have G1 := Lib.hid g1
    have E1 := Lib.hid e1
    clear C1 t0 t17 t16 o1 nf1 k1 k2 g1 e1 IH
    clear t1 t2 t3 t4 t5 t6 t7 t8 t9 t10 t11 t12 t13 t14 t15
    go_wp2_with fail
    refine (SR.out).mono ?_
    rintro e w2 ⟨x2, a2, c2, rfl, ⟨S, ⟨z2, o2, nf2, e2, l2⟩, i2⟩, p2, ha2, g2⟩
    have E2 := Lib.hid (half_rows E1.out i2 e2)
    have P2 := Lib.hid p2
    have G2 := Lib.hid (gb_trans (gb_none G1.out (some I.gm)) g2)
    have V2 := Lib.hid (P1.out.q.sl (HV.out.grown0 G1.out) g2)
    have D2 := Lib.hid (Db.gm P1.out.q (HD.out.grown0 G1.out) g2)
    have S2 := Lib.hid o2.sl
    have ML := Lib.hid (fun w1 (k : w2.grownBy w1 none) => pemul_c hu w1 p g I a2 c2 v x2 xs z2 (P2.out.q.grown0 k) (D2.out.grown0 k) (by omega) (V2.out.grown0 k) (S2.out.grown0 k) (by omega))
    have CU := Lib.hid (fun w3 x3 z3 a3 c3 (P3 : Pd w3 u p d g I a3 c3) (X3 : Sl w3 x3 z3) (hz : z3.length ≤ 1000) => pcut_c w3 I.r I.q p x3 z3 n P3.q.rg X3 (by omega) (by omega))
    have MI := Lib.hid (fun w4 y x4 z4 a3 c3 (P4 : Pd w4 u p d g I a3 c3) (Y : Sl w4 y [2]) (X4 : Sl w4 x4 z4) (hz : z4.length ≤ n) => pminus_c w4 I.r I.q p y x4 [2] z4 P4.q.rg Y X4 (by decide) (by omega))
    have A2 := Lib.hid ha2
    have L2 := Lib.hid l2
    clear SR P1 G1 E1 o2 nf2 e2 i2 p2 ha2 g2
    go_upto_region 6 with fail
    go_cut [8] from 91 to 115 (fun v8 wx => Mid w2 wx u p d g I a2 n xs z2 v8)
    case first =>
      have t0 := P2.out.e
      have t17 := P2.out.q.pe.e0
      refine Canon.region_s [94, 97, 102, 105, 109] _ 7 [[0, 1, 2, 3, 4, 5, 6, 8, 9, 10, 11, 12, 13, 14, 15, 16, 17, 18, 19, 20], [21, 22], [23], [24, 25]] (by kernel_rfl) (by kernel_rfl) P2.out.sf ?_
      simp only [Canon.segT, Canon.operL, List.filterMap_cons, List.filterMap_nil, List.getElem?_toArray, List.getElem?_cons_zero, List.getElem?_cons_succ, List.flatten_cons, List.flatten_nil, List.nil_append, List.cons_append]
      refine Canon.segs_end _ _ _ (by kernel_rfl) ?_
      go_wp2
      clear t0 t17
      refine ⟨fun _ => ?_, ?_⟩
      --ORDERS
      · have Y := Lib.hid (show Sl (w2.drew.alloc (Obj.cells #[.int .u64 2] 53)) (.slice (some ⟨w2.heap.size, 0, none⟩) 1 1) [2] from sl_lit w2.drew 53 #[.int .u64 2] [2] 1 rfl (ws_one (by decide) (by decide)) rfl (by decide))
        have D1 := Lib.hid (gb_alloc (gb_drew (gb_refl w2 none)) (Obj.cells #[.int .u64 2] 53))
        refine Canon.segs_at 0 _ _ _ (by kernel_rfl) ?_
        simp only [List.take_succ_cons, List.take_zero, List.drop_succ_cons, List.drop_zero]
        go_wp2
        refine ⟨(P2.out.grown0 D1.out).sf, ?_⟩
        refine Canon.segs_at 0 _ _ _ (by kernel_rfl) ?_
        simp only [List.take_succ_cons, List.take_zero, List.drop_succ_cons, List.drop_zero]
        go_wp2_with fail
        refine (ML.out _ D1.out).mono ?_
        rintro e w3 ⟨x3, a3, c3, rfl, ⟨z3, o3, nf3, e3, l3⟩, q3, ha3, g3⟩
        have P3 := Lib.hid ((P2.out.grown0 D1.out).next g3 q3)
        have K3 := Lib.hid (gb_trans (gb_none D1.out (some I.gm)) g3)
        have Y3 := Lib.hid ((P2.out.grown0 D1.out).q.sl Y.out g3)
        have X3 := Lib.hid o3.sl
        have E3 := Lib.hid e3
        have A3 := Lib.hid ha3
        have L3 := Lib.hid l3
        clear o3 nf3 e3 q3 ha3 g3 l3 Y
        have CU1 := Lib.hid (CU.out _ x3 z3 a3 c3 P3.out X3.out (by have := L3.out; omega))
        go_wp2
        refine ⟨P3.out.sf, ?_⟩
        refine Canon.segs_at 1 _ _ _ (by kernel_rfl) ?_
        simp only [List.take_succ_cons, List.take_zero, List.drop_succ_cons, List.drop_zero]
        go_wp2_with fail
        refine (CU1.out).mono ?_
        rintro e w4 ⟨x4, rfl, ⟨z4, o4, nf4, e4, l4⟩, g4⟩
        have P4 := Lib.hid (P3.out.grown0 g4)
        have K4 := Lib.hid (gb_trans K3.out (gb_none g4 (some I.gm)))
        have Y4 := Lib.hid (Y3.out.grown0 g4)
        have X4 := Lib.hid o4.sl
        have E4 := Lib.hid e4
        have L4 := Lib.hid l4
        clear o4 nf4 e4 l4 g4 CU1
        have MI1 := Lib.hid (MI.out _ _ x4 z4 a3 c3 P4.out Y4.out X4.out L4.out)
        go_wp2
        refine ⟨P4.out.sf, ?_⟩
        refine Canon.segs_at 0 _ _ _ (by kernel_rfl) ?_
        simp only [List.take_succ_cons, List.take_zero, List.drop_succ_cons, List.drop_zero]
        go_wp2_with fail
        refine (MI1.out).mono ?_
        rintro e w5 ⟨x5, rfl, ⟨z5, o5, nf5, e5, l5⟩, g5⟩
        have P5 := Lib.hid (P4.out.grown0 g5)
        have M5 : Hid (Mid w2 w5 u p d g I a2 n xs z2 x5) := Lib.hid ⟨a3, c3, z3, z4, z5, o5.mono K4.out.size, by have := L4.out; simp only [List.length_cons, List.length_nil] at l5; omega, E3.out, E4.out, e5, P5.out, A3.out, gb_trans K4.out (gb_none g5 (some I.gm))⟩
        clear o5 nf5 e5 l5 g5 MI1
        go_wp2
        refine ⟨P5.out.sf, ?_⟩
        refine Canon.segs_end _ _ _ (by kernel_rfl) ?_
        go_wp2
        refine ⟨Canon.endOk (by kernel_rfl) (by kernel_rfl) (by kernel_rfl), ?_⟩
        go_wp2_with fail
        go_meet
        exact M5.out
      · skip
        have D0 := Lib.hid (gb_drew (gb_refl w2 none))
        refine Canon.segs_at 0 _ _ _ (by kernel_rfl) ?_
        simp only [List.take_succ_cons, List.take_zero, List.drop_succ_cons, List.drop_zero]
        go_wp2_with fail
        refine (ML.out _ D0.out).mono ?_
        rintro e w3 ⟨x3, a3, c3, rfl, ⟨z3, o3, nf3, e3, l3⟩, q3, ha3, g3⟩
        have P3 := Lib.hid ((P2.out.grown0 D0.out).next g3 q3)
        have K3 := Lib.hid (gb_trans (gb_none D0.out (some I.gm)) g3)
        have X3 := Lib.hid o3.sl
        have E3 := Lib.hid e3
        have A3 := Lib.hid ha3
        have L3 := Lib.hid l3
        clear o3 nf3 e3 q3 ha3 g3 l3
        go_wp2
        refine ⟨P3.out.sf, ?_⟩
        refine Canon.segs_end _ _ _ (by kernel_rfl) ?_
        go_wp2
        refine ⟨fun _ => ?_, ?_⟩
        · have Y := Lib.hid (show Sl (w3.alloc (Obj.cells #[.int .u64 2] 53)) (.slice (some ⟨w3.heap.size, 0, none⟩) 1 1) [2] from sl_lit w3 53 #[.int .u64 2] [2] 1 rfl (ws_one (by decide) (by decide)) rfl (by decide))
          have D1 := Lib.hid (gb_alloc (gb_refl w3 none) (Obj.cells #[.int .u64 2] 53))
          have P := Lib.hid (P3.out.grown0 D1.out)
          have K := Lib.hid (gb_trans K3.out (gb_none D1.out (some I.gm)))
          have X := Lib.hid (X3.out.grown0 D1.out)
          refine Canon.segs_at 0 _ _ _ (by kernel_rfl) ?_
          simp only [List.take_succ_cons, List.take_zero, List.drop_succ_cons, List.drop_zero]
          go_wp2
          refine ⟨P.out.sf, ?_⟩
          have CU1 := Lib.hid (CU.out _ x3 z3 a3 c3 P.out X.out (by have := L3.out; omega))
          refine Canon.segs_at 0 _ _ _ (by kernel_rfl) ?_
          simp only [List.take_succ_cons, List.take_zero, List.drop_succ_cons, List.drop_zero]
          go_wp2_with fail
          refine (CU1.out).mono ?_
          rintro e w4 ⟨x4, rfl, ⟨z4, o4, nf4, e4, l4⟩, g4⟩
          have P4 := Lib.hid (P.out.grown0 g4)
          have K4 := Lib.hid (gb_trans K.out (gb_none g4 (some I.gm)))
          have Y4 := Lib.hid (Y.out.grown0 g4)
          have X4 := Lib.hid o4.sl
          have E4 := Lib.hid e4
          have L4 := Lib.hid l4
          clear o4 nf4 e4 l4 g4 CU1
          have MI1 := Lib.hid (MI.out _ _ x4 z4 a3 c3 P4.out Y4.out X4.out L4.out)
          go_wp2
          refine ⟨P4.out.sf, ?_⟩
          refine Canon.segs_at 0 _ _ _ (by kernel_rfl) ?_
          simp only [List.take_succ_cons, List.take_zero, List.drop_succ_cons, List.drop_zero]
          go_wp2_with fail
          refine (MI1.out).mono ?_
          rintro e w5 ⟨x5, rfl, ⟨z5, o5, nf5, e5, l5⟩, g5⟩
          have P5 := Lib.hid (P4.out.grown0 g5)
          have M5 : Hid (Mid w2 w5 u p d g I a2 n xs z2 x5) := Lib.hid ⟨a3, c3, z3, z4, z5, o5.mono K4.out.size, by have := L4.out; simp only [List.length_cons, List.length_nil] at l5; omega, E3.out, E4.out, e5, P5.out, A3.out, gb_trans K4.out (gb_none g5 (some I.gm))⟩
          clear o5 nf5 e5 l5 g5 MI1
          go_wp2
          refine ⟨P5.out.sf, ?_⟩
          refine Canon.segs_end _ _ _ (by kernel_rfl) ?_
          go_wp2
          refine ⟨Canon.endOk (by kernel_rfl) (by kernel_rfl) (by kernel_rfl), ?_⟩
          go_wp2_with fail
          go_meet
          exact M5.out
        · skip
          have CU1 := Lib.hid (CU.out _ x3 z3 a3 c3 P3.out X3.out (by have := L3.out; omega))
          refine Canon.segs_at 0 _ _ _ (by kernel_rfl) ?_
          simp only [List.take_succ_cons, List.take_zero, List.drop_succ_cons, List.drop_zero]
          go_wp2_with fail
          refine (CU1.out).mono ?_
          rintro e w4 ⟨x4, rfl, ⟨z4, o4, nf4, e4, l4⟩, g4⟩
          have P4 := Lib.hid (P3.out.grown0 g4)
          have K4 := Lib.hid (gb_trans K3.out (gb_none g4 (some I.gm)))
          have X4 := Lib.hid o4.sl
          have E4 := Lib.hid e4
          have L4 := Lib.hid l4
          clear o4 nf4 e4 l4 g4 CU1
          go_wp2
          refine ⟨P4.out.sf, ?_⟩
          refine Canon.segs_end _ _ _ (by kernel_rfl) ?_
          go_wp2
          refine ⟨fun h0 => absurd rfl h0, ?_⟩
          have Y := Lib.hid (show Sl (w4.alloc (Obj.cells #[.int .u64 2] 53)) (.slice (some ⟨w4.heap.size, 0, none⟩) 1 1) [2] from sl_lit w4 53 #[.int .u64 2] [2] 1 rfl (ws_one (by decide) (by decide)) rfl (by decide))
          have D1 := Lib.hid (gb_alloc (gb_refl w4 none) (Obj.cells #[.int .u64 2] 53))
          have P := Lib.hid (P4.out.grown0 D1.out)
          have K := Lib.hid (gb_trans K4.out (gb_none D1.out (some I.gm)))
          have X := Lib.hid (X4.out.grown0 D1.out)
          refine Canon.segs_at 0 _ _ _ (by kernel_rfl) ?_
          simp only [List.take_succ_cons, List.take_zero, List.drop_succ_cons, List.drop_zero]
          go_wp2
          refine ⟨P.out.sf, ?_⟩
          have MI1 := Lib.hid (MI.out _ _ x4 z4 a3 c3 P.out Y.out X.out L4.out)
          refine Canon.segs_at 0 _ _ _ (by kernel_rfl) ?_
          simp only [List.take_succ_cons, List.take_zero, List.drop_succ_cons, List.drop_zero]
          go_wp2_with fail
          refine (MI1.out).mono ?_
          rintro e w5 ⟨x5, rfl, ⟨z5, o5, nf5, e5, l5⟩, g5⟩
          have P5 := Lib.hid (P.out.grown0 g5)
          have M5 : Hid (Mid w2 w5 u p d g I a2 n xs z2 x5) := Lib.hid ⟨a3, c3, z3, z4, z5, o5.mono K.out.size, by have := L4.out; simp only [List.length_cons, List.length_nil] at l5; omega, E3.out, E4.out, e5, P5.out, A3.out, gb_trans K.out (gb_none g5 (some I.gm))⟩
          clear o5 nf5 e5 l5 g5 MI1
          go_wp2
          refine ⟨P5.out.sf, ?_⟩
          refine Canon.segs_end _ _ _ (by kernel_rfl) ?_
          go_wp2
          refine ⟨Canon.endOk (by kernel_rfl) (by kernel_rfl) (by kernel_rfl), ?_⟩
          go_wp2_with fail
          go_meet
          exact M5.out
      --END
    case rest =>
      obtain ⟨a3, c3, z3, z4, z5, o5, l5, e3, e4, e5, p3, ha3, g3⟩ := hcut
      have P3 := Lib.hid p3
      have S3 := Lib.hid (P2.out.q.sl S2.out g3)
      have D3 := Lib.hid (Db.gm P2.out.q D2.out g3)
      have G3 := Lib.hid (gb_trans G2.out g3)
      have dr := gb_drew (gb_refl wc none)
      have P3d := Lib.hid (p3.grown0 dr)
      have ML2 := Lib.hid (pemul_c hu wc.drew p g I a3 c3 _ _ z2 z5 P3d.out.q (D3.out.grown0 dr) (by have := A2.out; omega) (S3.out.grown0 dr) (o5.sl.grown0 dr) (by omega))
      have EE := Lib.hid (And.intro e3 (And.intro e4 e5))
      have A3 := Lib.hid ha3
      have t0 := P3.out.e
      have t17 := P3.out.q.pe.e0
      clear ML CU MI e3 e4 e5 p3 ha3 g3 o5 dr
      go_wp2
      refine Canon.region_held [119, 122] _ (by kernel_rfl) (by kernel_rfl) P3.out.sf2 ?_
      refine Canon.segs_at 13 _ _ _ (by kernel_rfl) ?_
      simp only [List.take_succ_cons, List.take_zero, List.drop_succ_cons, List.drop_zero]
      go_wp2_with fail
      refine (ML2.out).mono ?_
      rintro e w4 ⟨x6, a4, c4, rfl, ⟨z6, o6, nf6, e6, l6⟩, q4, ha4, g4⟩
      have P4 := Lib.hid (P3d.out.next g4 q4)
      have G4 := Lib.hid (gb_trans (gb_trans G3.out (gb_none (gb_drew (gb_refl wc none)) (some I.gm))) g4)
      have CU2 := Lib.hid (pcut_c w4 I.r I.q p x6 z6 n P4.out.q.rg o6.sl (by omega) (by omega))
      have FN := Lib.hid (newton_rows h1.2.2 E2.out EE.out.1 EE.out.2.1 EE.out.2.2 e6)
      have A4 := Lib.hid ha4
      clear ML2 o6 nf6 e6 q4 ha4 g4 t0 t17 P3d
      go_wp2
      refine ⟨P4.out.sf2, ?_⟩
      refine Canon.segs_at 1 _ _ _ (by kernel_rfl) ?_
      simp only [List.take_succ_cons, List.take_zero, List.drop_succ_cons, List.drop_zero]
      go_wp2_with fail
      refine (CU2.out).mono ?_
      rintro e w5 ⟨x7, rfl, po7, g5⟩
      have P5 := Lib.hid (P4.out.grown0 g5)
      have G5 := Lib.hid (gb_trans G4.out (gb_none g5 (some I.gm)))
      have PO := Lib.hid (po7.mono G4.out.size)
      clear CU2 po7 g5
      go_wp2
      refine ⟨P5.out.sf2, ?_⟩
      refine Canon.segs_end _ _ _ (by kernel_rfl) ?_
      go_wp2
      refine ⟨by kernel_rfl, by kernel_rfl, by kernel_rfl, ?_⟩
      go_wp2
      go_ret
      exact ⟨_, a4, c4, rfl, ⟨_, PO.out, FN.out⟩, P5.out, by have := A2.out; have := A3.out; have := A4.out; omega, G5.out⟩
end Go.Proofs.YtimmpojeddcfnaaGreatDoor

/- Division by hand. -/
namespace Go.Proofs.YtimmpojeddcfnaaGreatDoor
open Go.RowKit

theorem Eqv.coefF {p : Int} {a b : List Int} {F : Int → Int} (h : Eqv p (ev a) F) (e : ∀ x, F x = ev b x) (i : Nat) : Cg p (rd a i) (rd b i) := (h.fn e).coef i
/-- Where a division by hand stands: i steps are left. -/
structure Lg (p : Int) (za zb : List Int) (m i : Nat) (us qs : List Int) : Prop where
  la : us.length = za.length
  lq : qs.length = m
  ra : ∀ c ∈ us, 0 ≤ c ∧ c < p
  rq : ∀ c ∈ qs, 0 ≤ c ∧ c < p
  e : Eqv p (ev za) (fun x => ev qs x * ev zb x + ev us x)
  top : ∀ j, i + zb.length ≤ j + 1 → rd us j = 0
  z : ∀ j, j < i → rd qs j = 0
theorem Lg.start {p : Int} (hp : 0 < p) {za zb : List Int} (h : Nf p za) (_lb : 0 < zb.length) (hl : zb.length ≤ za.length) : Lg p za zb (za.length - zb.length + 1) (za.length - zb.length + 1) za (List.replicate (za.length - zb.length + 1) 0) :=
  ⟨rfl, by simp, h.r, fun c hc => by rw [List.eq_of_mem_replicate hc]; omega, Eqv.of_eq p fun x => by rw [ev_zeros]; simp, fun j hj => rd_beyond (by omega), fun j _ => rd_zeros _ _⟩
theorem rd_ranged {p : Int} {us : List Int} (h : ∀ c ∈ us, 0 ≤ c ∧ c < p) (hp : 0 < p) (j : Nat) : 0 ≤ rd us j ∧ rd us j < p := by
  by_cases hj : j < us.length
  · exact h _ (by
      unfold rd
      rw [List.getD_eq_getElem?_getD, List.getElem?_eq_getElem hj]
      exact List.getElem_mem hj)
  · rw [rd_beyond (by omega)]; omega
theorem rd_shift (k : Nat) (a : List Int) (j : Nat) : rd (List.replicate k 0 ++ a) (k + j) = rd a j := by
  unfold rd
  rw [List.getD_eq_getElem?_getD, List.getD_eq_getElem?_getD, List.getElem?_append_right (by simp)]
  simp
theorem cg_zero {p x : Int} (h : Cg p x 0) (h0 : 0 ≤ x) (h1 : x < p) : x = 0 := by
  unfold Cg at h
  rwa [Int.zero_emod, Int.emod_eq_of_lt h0 h1] at h
theorem Lg.step {p : Int} {za zb us us2 qs : List Int} {m k : Nat} {c inv : Int} (h : Lg p za zb m (k + 1) us qs) (hp : 0 < p) (lb : 0 < zb.length) (hk : k < m) (hl : us2.length = us.length) (hr : ∀ c ∈ us2, 0 ≤ c ∧ c < p)
    (he : Eqv p (ev us2) (fun x => ev us x - c * x ^ k * ev zb x)) (hc : Cg p c (rd us (k + zb.length - 1) * inv)) (hi : Cg p (inv * rd zb (zb.length - 1)) 1) (c0 : 0 ≤ c) (c1 : c < p) : Lg p za zb m k us2 (qs.set k c) := by
  refine ⟨hl.trans h.la, by rw [List.length_set, h.lq], hr, fun x hx => ?_, ?_, fun j hj => ?_, fun j hj => ?_⟩
  · rcases List.mem_or_eq_of_mem_set hx with k | k
    · exact h.rq x k
    · rw [k]; exact ⟨c0, c1⟩
  · refine h.e.trans ?_
    obtain ⟨K, hK, e⟩ := he
    refine ⟨fun x => -K x, hK.neg, fun x => ?_⟩
    have := e x
    simp only at this ⊢
    rw [ev_set qs k c x (by rw [h.lq]; exact hk), h.z k (by omega), this]; grind
  · have cf := he.coefF (b := padd us (pscl (-c) (List.replicate k 0 ++ zb))) (fun x => by
      rw [ev_padd, ev_pscl, ev_append, ev_zeros, List.length_replicate]; grind) j
    rw [rd_padd, rd_pscl] at cf
    obtain ⟨t, rfl⟩ : ∃ t, j = k + t := ⟨j - k, by omega⟩
    rw [rd_shift] at cf
    have rr := rd_ranged hr hp (k + t)
    refine cg_zero ?_ rr.1 rr.2
    by_cases ht : t = zb.length - 1
    · refine cf.trans ?_
      have e1 : k + zb.length - 1 = k + t := by omega
      rw [e1] at hc
      rw [← ht] at hi
      have c2 : Cg p (c * rd zb t) (rd us (k + t) * inv * rd zb t) := hc.mulr _
      have c3 : Cg p (rd us (k + t) * (inv * rd zb t)) (rd us (k + t) * 1) := hi.mull _
      have e2 : rd us (k + t) * inv * rd zb t = rd us (k + t) * (inv * rd zb t) := Int.mul_assoc ..
      rw [e2] at c2
      have c4 := (Cg.refl p (rd us (k + t))).sub (c2.trans c3)
      have e3 : rd us (k + t) - c * rd zb t = rd us (k + t) + -c * rd zb t := by grind
      rw [e3] at c4
      exact c4.trans (Cg.of_eq (by omega))
    · rw [h.top (k + t) (by omega), rd_beyond (xs := zb) (j := t) (by omega)] at cf
      simpa using cf
  · rw [rd_set_ne (by omega)]
    exact h.z j (by omega)
/-- What a division answers. -/
def DM (w : World) (base : Nat) (p : Int) (xs ys : List Int) (vq vr : Value) (err : Int) : Prop := ∃ zb, Nf p zb ∧ Eqv p (ev zb) (ev ys) ∧ zb.length ≤ ys.length ∧
  ((zb = [] ∧ vq = .slice none 0 0 ∧ vr = .slice none 0 0 ∧ err = 2) ∨
   (0 < zb.length ∧ err = 0 ∧ ∃ zq zr, (Own w base vq zq ∧ Nf p zq) ∧ (Own w base vr zr ∧ Nf p zr) ∧ zr.length < zb.length ∧ zq.length ≤ xs.length ∧ Eqv p (ev xs) (fun x => ev zq x * ev zb x + ev zr x)))
theorem DM.grown0 {w w' : World} {base : Nat} {p : Int} {xs ys : List Int} {vq vr : Value} {err : Int} (h : DM w base p xs ys vq vr err) (k : w.grownBy w' none) : DM w' base p xs ys vq vr err := by
  obtain ⟨zb, h1, h2, h3, h4⟩ := h
  refine ⟨zb, h1, h2, h3, ?_⟩
  rcases h4 with h | ⟨a, b, zq, zr, ⟨c, d⟩, ⟨e, f⟩, i⟩
  · exact .inl h
  · exact .inr ⟨a, b, zq, zr, ⟨c.grown0 k, d⟩, ⟨e.grown0 k, f⟩, i⟩
theorem Lg.short {p : Int} {za zb : List Int} {m : Nat} {us qs zr : List Int} (h : Lg p za zb m 0 us qs) (hp : 0 < p) (lb : 0 < zb.length) (n : Nf p zr) (e : Eqv p (ev zr) (ev us)) : zr.length < zb.length := by
  by_cases k : zr.length < zb.length
  · exact k
  · exfalso
    have c := e.coef (zr.length - 1)
    rw [h.top (zr.length - 1) (by omega)] at c
    exact nf_top n hp (by omega) c
theorem Lg.fin {p : Int} {za zb : List Int} {m : Nat} {us qs zq zr xs : List Int} (h : Lg p za zb m 0 us qs) (ea : Eqv p (ev za) (ev xs)) (eq : Eqv p (ev zq) (ev qs)) (er : Eqv p (ev zr) (ev us)) : Eqv p (ev xs) (fun x => ev zq x * ev zb x + ev zr x) :=
  ea.symm.trans (h.e.trans (((eq.symm.mul (Eqv.refl p (ev zb)) (isP_ev qs) (isP_ev zb)).add er.symm)))
end Go.Proofs.YtimmpojeddcfnaaGreatDoor

/- Division by hand: the walk. -/
namespace Go.Proofs.YtimmpojeddcfnaaGreatDoor
open Go.RowKit

theorem long_alg (u c P T b Q : Int) : u - c * P * T + -(c * b) * (P * Q) = u - c * P * (T + b * Q) := by grind
set_option maxRecDepth 100000 in
set_option maxHeartbeats 8000000 in
theorem long_c (w : World) (d g r q : Nat) (p : Int) (hP : ∀ x, 0 < x → x < p → Int.gcd p x = 1) (u v : Value) (xs ys : List Int) (hd : w.cell? ⟨d, 0, none⟩ = some (.pointer (some ⟨g, 0, none⟩))) (hg : w.cell? ⟨g, 0, none⟩ = some (.pointer (some ⟨r, 0, none⟩))) (h : Rg w r q p) (hu : Sl w u xs) (hv : Sl w v ys) (hl : xs.length ≤ 100000) (hl2 : ys.length ≤ 100000) :
    Calls Tryz.prog 46 #[.pointer (some ⟨d, 0, none⟩), u, v] w fun e w' => ∃ vq vr err, e = .returned (.tuple #[vq, vr, .int .i64 err]) ∧ DM w' w.heap.size p xs ys vq vr err ∧ w.grownBy w' none := by
  have hp := h.m.neg0
  have hp' := h.m.pm.hi
  have N1 := Lib.hid (pnorm_c w.drew r q p u xs h.drew (hu.grown0 (gb_drew (gb_refl w none))) (by omega))
  have N2 := Lib.hid (fun w1 (k : w.grownBy w1 none) => pnorm_c w1 r q p v ys (h.grown0 k) (hv.grown0 k) (by omega))
  have HR := Lib.hid h
  have HD := Lib.hid hd
  have HG := Lib.hid hg
  have SF2 : Hid (∀ W, w.grownBy W none → Canon.SF [(⟨d, 0, none⟩, .pointer (some ⟨g, 0, none⟩)), (⟨g, 0, none⟩, .pointer (some ⟨r, 0, none⟩))] W) := Lib.hid (fun W k => Canon.sf_cons (gb_cell0 k hd) (Canon.sf_cons (gb_cell0 k hg) (Canon.sf_nil _)))
  clear hu hv h
  go_enter Tryz.func46, Tryz.ntmps46
  go_wp2
  refine Canon.region_held [28, 31] _ (by kernel_rfl) (by kernel_rfl) (SF2.out _ (gb_refl _ _)) ?_
  refine Canon.segs_at 8 _ _ _ (by kernel_rfl) ?_
  simp only [List.take_succ_cons, List.take_zero, List.drop_succ_cons, List.drop_zero]
  go_wp2_with fail
  refine (N1.out).mono ?_
  rintro e w1 ⟨x1, rfl, ⟨za, oa, na, ea, la⟩, g1⟩
  have G1 := Lib.hid (gb_trans (gb_drew (gb_refl w none)) g1)
  clear N1 g1 hd hg
  have hd := gb_cell0 G1.out HD.out
  have hg := gb_cell0 G1.out HG.out
  go_wp2
  refine ⟨SF2.out _ G1.out, ?_⟩
  refine Canon.segs_at 8 _ _ _ (by kernel_rfl) ?_
  simp only [List.take_succ_cons, List.take_zero, List.drop_succ_cons, List.drop_zero]
  go_wp2_with fail
  refine (N2.out _ G1.out).mono ?_
  rintro e w2 ⟨x2, rfl, ⟨zb, ob, nb, eb, lb⟩, g2⟩
  have G2 := Lib.hid (gb_trans G1.out g2)
  have B1 := Lib.hid G1.out.size
  have OA := Lib.hid (oa.grown0 g2)
  have OB := Lib.hid ob
  have NA := Lib.hid na
  have NB := Lib.hid nb
  have EA := Lib.hid ea
  have EB := Lib.hid eb
  obtain ⟨A, ca, rfl, hca, hca2⟩ := oa.fm
  obtain ⟨B, cb, rfl, hcb, hcb2⟩ := ob.fm
  have FA0 : za.length = 0 ∨ ∃ ga, A = some ⟨ga, 0, none⟩ ∧ w.heap.size ≤ ga ∧ ga < w1.heap.size := by
    rcases oa.form with ⟨_, e2⟩ | ⟨ga, c', e, h1, h2, _⟩
    · left; rw [e2]; rfl
    · right; simp only [Value.slice.injEq] at e; exact ⟨ga, e.1, h1, h2⟩
  have FB0 : zb.length = 0 ∨ ∃ ga, B = some ⟨ga, 0, none⟩ ∧ w1.heap.size ≤ ga ∧ ga < w2.heap.size := by
    rcases ob.form with ⟨_, e2⟩ | ⟨ga, c', e, h1, h2, _⟩
    · left; rw [e2]; rfl
    · right; simp only [Value.slice.injEq] at e; exact ⟨ga, e.1, h1, h2⟩
  clear N2 oa ob na nb ea eb g2 hd hg
  have FA := Lib.hid FA0
  have FB := Lib.hid FB0
  clear FA0 FB0
  obtain ⟨a, ha⟩ : ∃ z, z = za.length := ⟨_, rfl⟩
  obtain ⟨b, hb⟩ : ∃ z, z = zb.length := ⟨_, rfl⟩
  rw [← ha] at hca la OA FA
  rw [← hb] at hcb lb OB FB
  have LA := Lib.hid ha
  have LB := Lib.hid hb
  rw [← ha, ← hb]
  clear ha hb
  go_wp2
  refine ⟨SF2.out _ G2.out, ?_⟩
  refine Canon.segs_end _ _ _ (by kernel_rfl) ?_
  go_wp2
  refine ⟨by kernel_rfl, by kernel_rfl, by kernel_rfl, ?_⟩
  by_cases b0 : b = 0
  · subst b0
    have z0 : zb = [] := List.eq_nil_of_length_eq_zero LB.out.symm
    have HZ := Lib.hid z0
    clear z0
    go_wp2
    go_ret3
    exact ⟨_, _, _, rfl, ⟨zb, NB.out, EB.out, by rw [← LB.out]; omega, .inl ⟨HZ.out, rfl, rfl, rfl⟩⟩, G2.out⟩
  have b0' : ((b : Int) == 0) = false := by simp; omega
  by_cases hab : a < b
  · go_wp2
    go_ret3
    exact ⟨_, _, _, rfl, ⟨zb, NB.out, EB.out, by rw [← LB.out]; omega, .inr ⟨by rw [← LB.out]; omega, rfl, [], za, ⟨own_nil _ _, nf_nil p⟩, ⟨OA.out.mono (Nat.le_refl _), NA.out⟩, by rw [← LA.out, ← LB.out]; exact hab, by simp, EA.out.symm.trans (Eqv.of_eq p fun x => by simp [ev])⟩⟩, G2.out⟩
  have hba : b ≤ a := by omega
  obtain ⟨ga, rfl, ga1, ga2⟩ := FA.out.resolve_left (by omega)
  obtain ⟨gb, rfl, gb1, gb2⟩ := FB.out.resolve_left b0
  obtain ⟨bz, hbz⟩ : ∃ z, z + 1 = b := ⟨b - 1, Nat.sub_add_cancel (Nat.pos_of_ne_zero b0)⟩
  have e1 : (b : Int) - 1 = (bz : Int) := by omega
  have cb' := OB.out.cell bz (by rw [← LB.out]; omega)
  have hbt := NB.out.rd hp bz
  have hbn := Nz.top NB.out.z (by rw [← LB.out]; omega)
  rw [← LB.out, show b - 1 = bz by omega] at hbn
  obtain ⟨bt, hbt'⟩ : ∃ bt, bt = rd zb bz := ⟨_, rfl⟩
  rw [← hbt'] at cb' hbt hbn
  have GC := Lib.hid (hP bt (by omega) hbt.2)
  have HBT := Lib.hid hbt'
  have HBZ := Lib.hid hbz
  have R2 := HR.out.grown0 G2.out
  have IV := Lib.hid (modInv_c w2.drew q p bt R2.m.drew hbt.1)
  have cd := gb_cell0 G2.out HD.out
  have cg := gb_cell0 G2.out HG.out
  have cr := R2.c
  have hlt0 : decide ((a : Int) < (b : Int)) = false := decide_eq_false (by omega)
  have NE : Hid ((w.heap.size ≤ ga ∧ ga < w1.heap.size) ∧ w1.heap.size ≤ gb ∧ gb < w2.heap.size) := Lib.hid ⟨⟨ga1, ga2⟩, gb1, gb2⟩
  clear hbt' hbz R2 ga1 ga2 gb1 gb2 hab FA FB
  go_wp2
  refine Canon.region_canon (by kernel_rfl) (by kernel_rfl) ?_
  go_wp2_with fail
  refine (IV.out).mono ?_
  rintro e w3 ⟨⟨y, f, rfl, io⟩, g3⟩
  go_wp2
  refine ⟨by kernel_rfl, ?_⟩
  have IO := Lib.hid (io.is GC.out)
  have g3' := gb_trans (gb_drew (gb_refl w2 none)) g3
  have G3 := Lib.hid (gb_trans G2.out g3')
  have OA3 := Lib.hid ((OA.out.mono (base' := w.heap.size) (Nat.le_refl _)).grown0 g3')
  have OB3 := Lib.hid ((OB.out.mono B1.out).grown0 g3')
  obtain ⟨m, hm⟩ : ∃ m, m + b = a + 1 := ⟨a - b + 1, by omega⟩
  have em : (a : Int) - (b : Int) + 1 = (m : Int) := by omega
  have mk := make64 24 (by kernel_rfl) m m (m : Int) (m : Int) (by omega) (by omega) (by omega) (by omega)
  have OW := Lib.hid (own_made w3 w.heap.size m m G3.out.size (Nat.le_refl _) (by omega))
  have G0 := Lib.hid (gb_alloc G3.out (Obj.cells (madeCells #[.int .u64 0] m) 53))
  have OA4 := Lib.hid (OA3.out.alloc (Obj.cells (madeCells #[.int .u64 0] m) 53))
  have OB4 := Lib.hid (OB3.out.alloc (Obj.cells (madeCells #[.int .u64 0] m) 53))
  have mk1 := mk w3
  obtain ⟨W0, hW⟩ : ∃ W0, W0 = w3.alloc (Obj.cells (madeCells #[.int .u64 0] m) 53) := ⟨_, rfl⟩
  rw [← hW] at OW G0 mk1 OA4 OB4
  have NQ : Hid (w2.heap.size ≤ w3.heap.size) := Lib.hid g3'.size
  obtain ⟨gq, hgq⟩ : ∃ gq, gq = w3.heap.size := ⟨_, rfl⟩
  rw [← hgq] at OW mk1 NQ
  have ML0 : Hid (m = za.length - zb.length + 1) := Lib.hid (by rw [← LA.out, ← LB.out]; omega)
  have S0 : Hid (Lg p za zb m m za (List.replicate m 0)) := Lib.hid (by
    have := Lg.start hp NA.out (zb := zb) (by rw [← LB.out]; omega) (by rw [← LA.out, ← LB.out]; exact hba)
    rwa [← ML0.out] at this)
  have HGA : Hid (w.heap.size ≤ gq) := Lib.hid (by rw [hgq]; exact G3.out.size)
  clear IV io g3 g3' GC cd cg cr cb' mk hW hgq OA3 OB3 OA OB hlt0
  go_wp2
  clear mk1 em e1
  go_loopw [12] (fun v12 wr => ∃ (i : Nat) (z : Int) (us qs : List Int), v12 = .int .i64 z ∧ z = (i : Int) - 1 ∧ i ≤ m ∧ Lg p za zb m i us qs ∧ Own wr w.heap.size (.slice (some ⟨ga, 0, none⟩) a ca) us ∧ Own wr w.heap.size (.slice (some ⟨gq, 0, none⟩) m m) qs ∧ Own wr w.heap.size (.slice (some ⟨gb, 0, none⟩) b cb) zb ∧ w.grownBy wr none) (fun v12 _ => (intOf v12 + 1).toNat)
  case atStart => exact ⟨m, (m : Int) - 1, _, _, by go_num, rfl, Nat.le_refl _, S0.out, OA4.out, OW.out, OB4.out, G0.out⟩
  case round =>
    clear OW G0 S0 OA4 OB4
    obtain ⟨i, z, us, qs, rfl, hz, hi, lg, oa, oq, ob, G⟩ := hrel
    obtain ⟨wq, rfl⟩ : ∃ wq : World, wq = wr := ⟨_, rfl⟩
    have LG := Lib.hid lg
    have OA := Lib.hid oa
    have OQ := Lib.hid oq
    have OB := Lib.hid ob
    have GG := Lib.hid G
    clear lg oa oq ob G
    by_cases i0 : i = 0
    · subst i0
      have zn : decide (z ≥ 0) = false := decide_eq_false (by omega)
      have zn2 : z < 0 := by omega
      clear hz
      have NQ2 := Lib.hid (pnorm_c wq.drew r q p _ _ (HR.out.grown0 (gb_drew GG.out)) (OQ.out.sl.grown0 (gb_drew (gb_refl wq none))) (by rw [LG.out.lq]; omega))
      have NA2 := Lib.hid (fun w1 (k : wq.grownBy w1 none) => pnorm_c w1 r q p _ _ (HR.out.grown0 (gb_trans GG.out k)) (OA.out.sl.grown0 k) (by rw [LG.out.la, ← LA.out]; omega))
      have cd := gb_cell0 GG.out HD.out
      have cg := gb_cell0 GG.out HG.out
      go_wp2
      refine Canon.region_held [155, 158] _ (by kernel_rfl) (by kernel_rfl) (SF2.out _ GG.out) ?_
      refine Canon.segs_at 8 _ _ _ (by kernel_rfl) ?_
      simp only [List.take_succ_cons, List.take_zero, List.drop_succ_cons, List.drop_zero]
      go_wp2_with fail
      refine (NQ2.out).mono ?_
      rintro e w4 ⟨x4, rfl, ⟨zq, o4, n4, e4, l4⟩, g4⟩
      have g4' := gb_trans (gb_drew (gb_refl wq none)) g4
      have NA3 := Lib.hid (NA2.out w4 g4')
      have G4 := Lib.hid (gb_trans GG.out g4')
      have OZ4 := Lib.hid (o4.mono (base' := w.heap.size) GG.out.size)
      have N4 := Lib.hid n4
      have E4 := Lib.hid e4
      have L4 := Lib.hid l4
      clear NQ2 NA2 o4 n4 e4 g4 g4' cd cg l4
      have cd := gb_cell0 G4.out HD.out
      have cg := gb_cell0 G4.out HG.out
      go_wp2
      refine ⟨SF2.out _ G4.out, ?_⟩
      refine Canon.segs_at 8 _ _ _ (by kernel_rfl) ?_
      simp only [List.take_succ_cons, List.take_zero, List.drop_succ_cons, List.drop_zero]
      go_wp2_with fail
      refine (NA3.out).mono ?_
      rintro e w5 ⟨x5, rfl, ⟨zr, o5, n5, e5, l5⟩, g5⟩
      have G5 := Lib.hid (gb_trans G4.out g5)
      have FIN : Hid (DM w5 w.heap.size p xs ys x4 x5 0) := Lib.hid ⟨zb, NB.out, EB.out, by rw [← LB.out]; omega, .inr ⟨by rw [← LB.out]; omega, rfl, zq, zr, ⟨OZ4.out.grown0 g5, N4.out⟩, ⟨o5.mono G4.out.size, n5⟩, LG.out.short hp (by rw [← LB.out]; omega) n5 e5, by have := L4.out; rw [LG.out.lq] at this; omega, LG.out.fin EA.out E4.out e5⟩⟩
      clear NA3 o5 n5 e5 g5 cd cg l5
      go_wp2
      refine ⟨SF2.out _ G5.out, ?_⟩
      refine Canon.segs_end _ _ _ (by kernel_rfl) ?_
      go_wp2
      refine ⟨by kernel_rfl, by kernel_rfl, by kernel_rfl, ?_⟩
      go_wp2
      go_ret3
      exact ⟨_, _, _, rfl, FIN.out, G5.out⟩
    · obtain ⟨k, rfl⟩ : ∃ k, i = k + 1 := ⟨i - 1, by omega⟩
      obtain rfl : z = (k : Int) := by omega
      clear hz i0
      obtain ⟨s, hs⟩ : ∃ s, s + 1 = k + b := ⟨k + b - 1, by omega⟩
      have es : (k : Int) + (b : Int) - 1 = (s : Int) := by omega
      have sa : s < a := by omega
      have ca1 := OA.out.cell s (by rw [LG.out.la, ← LA.out]; exact sa)
      have av := rd_ranged LG.out.ra hp s
      obtain ⟨x0, hx0⟩ : ∃ x0, x0 = rd us s := ⟨_, rfl⟩
      rw [← hx0] at ca1 av
      have HX0 := Lib.hid hx0
      have HS := Lib.hid hs
      have R := HR.out.grown0 GG.out
      have M1 := Lib.hid (modMul_c wq.drew q p x0 y R.m.drew av.1 IO.out.2.1)
      have cd := gb_cell0 GG.out HD.out
      have cg := gb_cell0 GG.out HG.out
      have cr := R.c
      clear hx0 hs R
      go_wp2
      refine Canon.region_canon (by kernel_rfl) (by kernel_rfl) ?_
      go_wp2_with fail
      refine (M1.out).mono ?_
      rintro e w4 ⟨rfl, g4⟩
      have g4' := gb_trans (gb_drew (gb_refl wq none)) g4
      have OA4 := Lib.hid (OA.out.grown0 g4')
      have OB4 := Lib.hid (OB.out.grown0 g4')
      have OQ4 := Lib.hid (OQ.out.grown0 g4')
      have G4 := Lib.hid (gb_trans GG.out g4')
      have mm := mod_nn (x := x0 * y) hp
      have hcm : Cg p (x0 * y % p) (rd us (k + zb.length - 1) * y) := by
        rw [← LB.out, show k + b - 1 = s by have := HS.out; omega, ← HX0.out]; exact Cg.mod p _
      obtain ⟨c, hc⟩ : ∃ c, c = x0 * y % p := ⟨_, rfl⟩
      rw [← hc] at mm hcm ⊢
      have HC := Lib.hid hcm
      clear M1 g4 g4' OA OB OQ GG ca1 cd cg cr hc hcm
      go_wp2
      refine ⟨by kernel_rfl, ?_⟩
      have frq := OQ4.out.free k
      have ceq := OQ4.out.cell k (by rw [LG.out.lq]; omega)
      go_wp2
      clear frq ceq
      have OQ5 := Lib.hid (OQ4.out.store k mm.1 (x := c) (by omega))
      have NE2 : Hid (gq ≠ ga ∧ gq ≠ gb ∧ ga ≠ gb) := Lib.hid (by have := NE.out; have := NQ.out; omega)
      have OA5 := Lib.hid (OA4.out.past (gb_rowC (gb_refl _ (some gq)) k (.int .u64 c)) (Ne.symm NE2.out.1))
      have OB5 := Lib.hid (OB4.out.past (gb_rowC (gb_refl _ (some gq)) k (.int .u64 c)) (Ne.symm NE2.out.2.1))
      have G5 := Lib.hid (gb_set (p := ⟨gq, k, none⟩) G4.out HGA.out (.int .u64 c))
      clear OA4 OQ4 OB4 G4
      go_loopw [102] (fun v102 ws => ∃ (j : Nat) (us2 : List Int), v102 = .int .i64 j ∧ j ≤ b ∧ us2.length = us.length ∧ (∀ c ∈ us2, 0 ≤ c ∧ c < p) ∧ Eqv p (ev us2) (fun x => ev us x - c * x ^ k * ev (zb.take j) x) ∧ Own ws w.heap.size (.slice (some ⟨ga, 0, none⟩) a ca) us2 ∧ Own ws w.heap.size (.slice (some ⟨gq, 0, none⟩) m m) (qs.set k c) ∧ Own ws w.heap.size (.slice (some ⟨gb, 0, none⟩) b cb) zb ∧ w.grownBy ws none) (fun v102 _ => b - (intOf v102).toNat)
      case atStart => exact ⟨0, us, rfl, by omega, rfl, LG.out.ra, Eqv.of_eq p fun x => by simp [ev], OA5.out, OQ5.out, OB5.out, G5.out⟩
      case round =>
        clear OA5 OQ5 OB5 G5
        obtain ⟨j, us2, rfl, hj, hlu, hru, heu, oa, oq, ob, G⟩ := hrel
        obtain ⟨ws, rfl⟩ : ∃ ws : World, ws = wr := ⟨_, rfl⟩
        have OA := Lib.hid oa
        have OQ := Lib.hid oq
        have OB := Lib.hid ob
        have GG := Lib.hid G
        have LU := Lib.hid hlu
        have RU := Lib.hid hru
        have EU := Lib.hid heu
        clear oa oq ob G hlu hru heu
        by_cases hlt : j < b
        · obtain ⟨t, ht⟩ : ∃ t, t = k + j := ⟨_, rfl⟩
          have et : (k : Int) + (j : Int) = (t : Int) := by omega
          have ta : t < a := by omega
          have cb' := OB.out.cell j (by rw [← LB.out]; exact hlt)
          have hb1 := NB.out.rd hp j
          obtain ⟨xb, hxb⟩ : ∃ x, x = rd zb j := ⟨_, rfl⟩
          rw [← hxb] at cb' hb1
          have cu := OA.out.cell t (by rw [LU.out, LG.out.la, ← LA.out]; exact ta)
          have hu1 := rd_ranged RU.out hp t
          obtain ⟨xu, hxu⟩ : ∃ x, x = rd us2 t := ⟨_, rfl⟩
          rw [← hxu] at cu hu1
          have HXB := Lib.hid hxb
          have HXU := Lib.hid hxu
          have HT := Lib.hid ht
          have R := HR.out.grown0 GG.out
          have ML := Lib.hid (modMul_c ws.drew q p c xb R.m.drew mm.1 hb1.1)
          have SB := Lib.hid (fun w3 (k : ws.drew.grownBy w3 none) => modSub_c w3 q p xu (c * xb % p) (R.m.drew.grown0 k) hu1.1 (mod_nn hp).1)
          have cd := gb_cell0 GG.out HD.out
          have cg := gb_cell0 GG.out HG.out
          have cr := R.c
          have HF := Lib.hid (Canon.sf_cons cd (Canon.sf_cons cg (Canon.sf_cons cr (Canon.sf_cons cu (Canon.sf_nil _)))))
          clear hxb hxu ht R
          go_wp2
          refine Canon.region_held_l [114, 117, 120, 126] _ (by kernel_rfl) (by kernel_rfl) (by kernel_rfl) HF.out ?_
          refine Canon.segl_at 32 _ _ _ (by kernel_rfl) (by kernel_rfl) ?_
          simp only [List.take_succ_cons, List.take_zero, List.drop_succ_cons, List.drop_zero]
          go_wp2_with fail
          refine (ML.out).mono ?_
          rintro e wa ⟨rfl, g1⟩
          have SB2 := Lib.hid (SB.out _ g1)
          have F2 := Lib.hid (Canon.sf_grown0 HF.out.drew g1)
          have GA1 := Lib.hid (gb_trans (gb_drew (gb_refl ws none)) g1)
          clear ML SB HF cd cg cr cu cb' g1
          go_wp2
          refine ⟨F2.out, ?_⟩
          refine Canon.segl_at 0 _ _ _ (by kernel_rfl) (by kernel_rfl) ?_
          simp only [List.take_succ_cons, List.take_zero, List.drop_succ_cons, List.drop_zero]
          go_wp2_with fail
          refine (SB2.out).mono ?_
          rintro e wb ⟨rfl, g2⟩
          have F3 := Lib.hid (Canon.sf_grown0 F2.out g2)
          have GB1 := gb_trans GA1.out g2
          have OA2 := Lib.hid (OA.out.grown0 GB1)
          have OB2 := Lib.hid (OB.out.grown0 GB1)
          have OQ2 := Lib.hid (OQ.out.grown0 GB1)
          have GB2 := Lib.hid (gb_trans GG.out GB1)
          have m2 := mod_nn (x := xu - c * xb % p) hp
          have hv : Cg p ((xu - c * xb % p) % p) (rd us2 t + -(c * xb)) := by
            rw [← HXU.out]
            exact (Cg.mod p _).trans (((Cg.refl p xu).sub (Cg.mod p _)).trans (Cg.of_eq Int.sub_eq_add_neg))
          have st := (EU.out.set (k := t) (by rw [LU.out, LG.out.la, ← LA.out]; exact ta) hv).fn (H := fun x => ev us x - c * x ^ k * ev (zb.take (j + 1)) x) (fun x => by
            rw [ev_take_succ, ← HXB.out, HT.out, Int.pow_add]; exact long_alg _ _ _ _ _ _)
          obtain ⟨z, hz⟩ : ∃ z, z = (xu - c * xb % p) % p := ⟨_, rfl⟩
          rw [← hz] at m2 st ⊢
          have ST := Lib.hid st
          clear SB2 F2 g2 GB1 hz hv st OA OB OQ GG
          go_wp2
          refine ⟨F3.out, ?_⟩
          have fr2 := OA2.out.free t
          have ce2 := OA2.out.cell t (by rw [LU.out, LG.out.la, ← LA.out]; exact ta)
          refine Canon.segl_last 1 _ _ _ (by kernel_rfl) (by kernel_rfl) ?_
          go_wp2
          refine ⟨by kernel_rfl, by kernel_rfl, by kernel_rfl, ?_⟩
          go_wp2
          clear et
          go_roundw
          case rel =>
            exact ⟨j + 1, _, by go_num, by omega, by rw [List.length_set, LU.out], fun x hx => (by
              rcases List.mem_or_eq_of_mem_set hx with h | h
              · exact RU.out x h
              · rw [h]; exact m2), ST.out, OA2.out.store t m2.1 (by omega), OQ2.out.past (gb_rowC (gb_refl _ (some ga)) t _) NE2.out.1, OB2.out.past (gb_rowC (gb_refl _ (some ga)) t _) (Ne.symm NE2.out.2.2), gb_set (p := ⟨ga, t, none⟩) GB2.out NE.out.1.1 _⟩
          case measure => simp [intOf]; omega
        · obtain rfl : j = b := by omega
          have NX : Hid (Lg p za zb m k us2 (qs.set k c)) := Lib.hid (LG.out.step hp (by rw [← LB.out]; omega) (by omega) LU.out RU.out (by
            have := EU.out
            rwa [List.take_of_length_le (by rw [← LB.out]; exact Nat.le_refl _)] at this) HC.out (by rw [← LB.out, show j - 1 = bz by have := HBZ.out; omega, ← HBT.out]; exact IO.out.2.2.2) mm.1 mm.2)
          go_wp2
          clear es
          go_roundw
          case rel => exact ⟨k, (k : Int) - 1, us2, _, by go_num, rfl, by omega, NX.out, OA.out, OQ.out, OB.out, GG.out⟩
          case measure => (simp [intOf]; try omega)
end Go.Proofs.YtimmpojeddcfnaaGreatDoor

/- Rows the other way round; the quotient out of a series. -/
namespace Go.Proofs.YtimmpojeddcfnaaGreatDoor
open Go.RowKit

theorem sumI_rev (f : Nat → Int) : ∀ n, sumI f n = sumI (fun k => f (n - 1 - k)) n
  | 0 => rfl
  | n + 1 => by
    rw [sumI_first (fun k => f (n + 1 - 1 - k)) n]
    show sumI f n + f n = f (n + 1 - 1 - 0) + sumI (fun t => f (n + 1 - 1 - (t + 1))) n
    rw [sumI_rev f n, sumI_congr (f := fun t => f (n + 1 - 1 - (t + 1))) (g := fun k => f (n - 1 - k)) n (fun k hk => by rw [show n + 1 - 1 - (k + 1) = n - 1 - k by omega]), show n + 1 - 1 - 0 = n by omega]
    omega
theorem cv_comm (a b : Nat → Int) (k : Nat) : cv a b k = cv b a k := by
  unfold cv
  rw [sumI_rev]
  refine sumI_congr _ fun t ht => ?_
  rw [show k + 1 - 1 - t = k - t by omega, show k - (k - t) = t by omega, Int.mul_comm]
theorem rev_cv {la lb n : Nat} {x rb Q b : Nat → Int} (hn : n + lb = la + 1) (hQ : ∀ i, i < n → Q i = x (n - 1 - i)) (hQ0 : ∀ i, n ≤ i → Q i = 0) (hbr : ∀ s, s < lb → b s = rb (lb - 1 - s)) (hb0 : ∀ s, lb ≤ s → b s = 0) (hrb0 : ∀ s, lb ≤ s → rb s = 0)
    (t : Nat) (h1 : lb ≤ t + 1) (h2 : t < la) : cv Q b t = cv x rb (la - 1 - t) := by
  obtain ⟨e, he⟩ : ∃ e, e = la - 1 - t := ⟨_, rfl⟩
  rw [← he, cv_comm Q b, cv_comm x rb]
  unfold cv
  rw [sumI_tail (n := lb) (t + 1) h1 (fun k k1 _ => by rw [hb0 k k1]; simp)]
  have e1 : sumI (fun m => rb m * x (e - m)) (e + 1) = sumI (fun m => rb m * (if m ≤ e then x (e - m) else 0)) (e + 1) :=
    sumI_congr _ fun m hm => by rw [if_pos (by omega)]
  have e2 : sumI (fun m => rb m * (if m ≤ e then x (e - m) else 0)) (e + 1) = sumI (fun m => rb m * (if m ≤ e then x (e - m) else 0)) lb := by
    by_cases hle : lb ≤ e + 1
    · exact sumI_tail _ hle fun m m1 _ => by rw [hrb0 m m1]; simp
    · exact (sumI_tail _ (by omega) fun m m1 _ => by rw [if_neg (by omega)]; simp).symm
  rw [e1, e2, sumI_rev _ lb]
  refine sumI_congr _ fun m hm => ?_
  rw [hbr _ (by omega), show lb - 1 - (lb - 1 - m) = m by omega]
  congr 1
  by_cases hme : m ≤ e
  · rw [if_pos hme, hQ _ (by omega)]; congr 1; omega
  · rw [if_neg hme, hQ0 _ (by omega)]
/-- Turned round: n coefficients. -/
def Tn (n : Nat) (a out : List Int) : Prop := out.length = n ∧ ∀ j, j < n → rd out j = rd a (n - 1 - j)
theorem Tn.back {n : Nat} {a out : List Int} (h : Tn n a out) : ∀ j, j < n → rd a j = rd out (n - 1 - j) := fun j hj => by
  rw [h.2 _ (by omega)]; congr 1; omega
/-- The quotient by the series of the one that is turned round. -/
theorem quot_rows {p : Int} {n : Nat} {za zb ra rb cra crb V z1 z2 Qr zq zm zr : List Int} (hp : 0 < p) (lb : 0 < zb.length) (hn : n + zb.length = za.length + 1) (hn0 : 0 < n)
    (ta : Tn za.length za ra) (tb : Tn zb.length zb rb) (ea : Eqv p (ev cra) (ev (ra.take n))) (eb : Eqv p (ev crb) (ev (rb.take n)))
    (iv : Eqn p n (fun x => ev crb x * ev V x) (fun _ => 1)) (e1 : Eqv p (ev z1) (fun x => ev cra x * ev V x)) (e2 : Eqv p (ev z2) (ev (z1.take n))) (tq : Tn n z2 Qr) (eq : Eqv p (ev zq) (ev Qr))
    (em : Eqv p (ev zm) (fun x => ev zq x * ev zb x)) (nr : Nf p zr) (er : Eqv p (ev zr) (fun x => ev za x - ev zm x)) : zr.length < zb.length ∧ Eqv p (ev za) (fun x => ev zq x * ev zb x + ev zr x) := by
  have fa : Eqn p n (ev cra) (ev ra) := (Eqn.of_eqv ea).trans (Eqn.cut p n ra).symm
  have fb : Eqn p n (ev crb) (ev rb) := (Eqn.of_eqv eb).trans (Eqn.cut p n rb).symm
  have f2 : Eqn p n (ev z2) (fun x => ev cra x * ev V x) := (Eqn.of_eqv e2).trans ((Eqn.cut p n z1).symm.trans (Eqn.of_eqv e1))
  have g1 : Eqn p n (fun x => ev rb x * ev z2 x) (fun x => ev crb x * (ev cra x * ev V x)) := fb.symm.mul f2 (isP_ev crb) (isP_ev z2)
  have g2 : Eqn p n (fun x => (ev crb x * ev V x) * ev cra x) (fun x => 1 * ev cra x) := iv.mul (Eqn.refl p n (ev cra)) (isP_const 1) (isP_ev cra)
  have g4 : Eqn p n (fun x => ev crb x * (ev cra x * ev V x)) (fun x => (ev crb x * ev V x) * ev cra x) := Eqn.of_eqv (Eqv.of_eq p fun x => by grind)
  have g5 : Eqn p n (fun x => 1 * ev cra x) (ev cra) := Eqn.of_eqv (Eqv.of_eq p fun x => by simp)
  have g6 : Eqn p n (fun x => ev rb x * ev z2 x) (ev ra) := g1.trans (g4.trans (g2.trans (g5.trans fa)))
  have g7 : Eqn p n (ev (pmul z2 rb)) (ev ra) := (Eqn.of_eqv (Eqv.of_eq p fun x => by rw [ev_pmul, Int.mul_comm])).trans g6
  have hQ : Eqv p (ev za) (fun x => ev zq x * ev zb x + ev zr x) := by
    obtain ⟨K, hK, e⟩ := er
    obtain ⟨L, hL, f⟩ := em
    exact ⟨fun x => -K x - -L x, hK.neg.sub hL.neg, fun x => by have := e x; have := f x; simp only at *; grind⟩
  refine ⟨?_, hQ⟩
  by_cases k : zr.length < zb.length
  · exact k
  · exfalso
    obtain ⟨t, ht⟩ : ∃ t, t = zr.length - 1 := ⟨_, rfl⟩
    have nz := nf_top nr hp (by omega)
    rw [← ht] at nz
    -- a's coefficient is that of the product
    have er2 : Eqv p (ev zr) (ev (padd za (pscl (-1) (pmul Qr zb)))) := er.trans (((Eqv.refl p (ev za)).sub (em.trans (eq.mul (Eqv.refl p (ev zb)) (isP_ev zq) (isP_ev zb)))).fn fun x => by
      rw [ev_padd, ev_pscl, ev_pmul]; grind)
    have c := er2.coef t
    rw [rd_padd, rd_pscl, rd_pmul] at c
    by_cases hta : t < za.length
    · have e3 := rev_cv (x := rd z2) (rb := rd rb) (Q := rd Qr) (b := rd zb) hn tq.2 (fun i hi => rd_beyond (by rw [tq.1]; exact hi)) (fun s hs => (tb.back s hs)) (fun s hs => rd_beyond hs) (fun s hs => rd_beyond (by rw [tb.1]; exact hs)) t (by omega) hta
      have c7 := g7.coef (za.length - 1 - t) (by omega)
      rw [rd_pmul, ta.2 _ (by omega), show za.length - 1 - (za.length - 1 - t) = t by omega] at c7
      rw [e3] at c
      have c8 := (Cg.refl p (rd za t)).add ((c7.mull (-1)))
      exact nz (c.trans (c8.trans (Cg.of_eq (by omega))))
    · rw [rd_beyond (xs := za) (by omega), ← rd_pmul, rd_beyond (xs := pmul Qr zb) (by rw [pmul_len _ _ (by rw [tq.1]; exact hn0) lb, tq.1]; omega)] at c
      exact nz (by simpa using c)
end Go.Proofs.YtimmpojeddcfnaaGreatDoor

/- Rows the other way round: the walk. -/
namespace Go.Proofs.YtimmpojeddcfnaaGreatDoor
open Go.RowKit

structure Tv (n : Nat) (xs : List Int) (i : Nat) (out : List Int) : Prop where
  len : out.length = n
  v : ∀ j, j < n → rd out j = if n - 1 - j < i then rd xs (n - 1 - j) else 0
theorem Tv.start (n : Nat) (xs : List Int) : Tv n xs 0 (List.replicate n 0) := ⟨by simp, fun j _ => by rw [rd_zeros, if_neg (by omega)]⟩
theorem Tv.step {n : Nat} {xs : List Int} {i : Nat} {out : List Int} (h : Tv n xs i out) (hi : i < n) : Tv n xs (i + 1) (out.set (n - 1 - i) (rd xs i)) := ⟨by rw [List.length_set, h.len], fun j hj => by
  by_cases e : j = n - 1 - i
  · rw [e, rd_set_self (by rw [h.len]; omega), show n - 1 - (n - 1 - i) = i by omega, if_pos (by omega)]
  · rw [rd_set_ne (fun h => e h.symm), h.v j hj]
    by_cases k : n - 1 - j < i
    · rw [if_pos k, if_pos (by omega)]
    · rw [if_neg k, if_neg (by omega)]⟩
theorem Tv.last {n : Nat} {xs out : List Int} (h : Tv n xs xs.length out) : Tn n xs out := ⟨h.len, fun j hj => by
  rw [h.v j hj]
  by_cases k : n - 1 - j < xs.length
  · rw [if_pos k]
  · rw [if_neg k, rd_beyond (by omega)]⟩
set_option maxRecDepth 100000 in
theorem pturn_c (w : World) (v : Value) (xs : List Int) (n : Nat) (hv : Sl w v xs) (hl : xs.length ≤ n) (hn : n ≤ 100000) :
    Calls Tryz.prog 82 #[v, .int .i64 n] w fun e w' => ∃ x out, e = .returned x ∧ Own w' w.heap.size x out ∧ Tn n xs out ∧ w.grownBy w' none := by
  obtain ⟨A, c, rfl, hc1, hc2⟩ := hv.form
  have SX := Lib.hid hv
  obtain ⟨m, hm⟩ : ∃ m, m = xs.length := ⟨_, rfl⟩
  rw [← hm] at hc1 hl SX ⊢
  have HM := Lib.hid hm
  have mk := make64 24 (by kernel_rfl) n n (n : Int) (n : Int) (by omega) (by omega) (by omega) (by omega)
  have OW := Lib.hid (own_made w w.heap.size n n (Nat.le_refl _) (by omega) (by omega))
  have G0 := Lib.hid (gb_alloc (gb_refl w none) (Obj.cells (madeCells #[.int .u64 0] n) 53))
  clear hv hm
  go_enter Tryz.func82, Tryz.ntmps82
  go_wp2
  clear mk
  go_loopw [12] (fun v12 wr => ∃ (i : Nat) (os : List Int), v12 = .int .i64 i ∧ i ≤ m ∧ Tv n xs i os ∧ Own wr w.heap.size (.slice (some ⟨w.heap.size, 0, none⟩) n n) os ∧ w.grownBy wr none) (fun v12 _ => m - (intOf v12).toNat)
  case atStart => exact ⟨0, _, rfl, by omega, Tv.start n xs, OW.out, G0.out⟩
  case round =>
    clear OW G0
    obtain ⟨i, os, rfl, hi, tv, ow, G⟩ := hrel
    have TV := Lib.hid tv
    have OW := Lib.hid ow
    have GG := Lib.hid G
    clear tv ow G
    by_cases hlt : i < m
    · obtain ⟨b, o, rfl, hci⟩ := (SX.out.grown0 GG.out).at i (by rw [← HM.out]; exact hlt)
      obtain ⟨k, hk⟩ : ∃ k, k = n - 1 - i := ⟨_, rfl⟩
      have ek : (n : Int) - 1 - (i : Int) = (k : Int) := by omega
      have fr := OW.out.free k
      have ce := OW.out.cell k (by rw [TV.out.len]; omega)
      have hx1 := rd_w SX.out.ws i
      obtain ⟨x, hx⟩ : ∃ x, x = rd xs i := ⟨_, rfl⟩
      rw [← hx] at hci hx1
      have NX : Hid (Tv n xs (i + 1) (os.set k x)) := Lib.hid (by rw [hk, hx]; exact TV.out.step (by omega))
      clear hk hx
      go_wp2
      clear ek
      go_roundw
      case rel => exact ⟨i + 1, _, by go_num, by omega, NX.out, OW.out.store k hx1.1 hx1.2, gb_set (p := ⟨w.heap.size, k, none⟩) GG.out (Nat.le_refl _) _⟩
      case measure => simp [intOf]; omega
    · obtain rfl : i = m := by omega
      go_wp2
      go_ret
      exact ⟨_, os, rfl, OW.out, Tv.last (by rw [← HM.out]; exact TV.out), GG.out⟩
end Go.Proofs.YtimmpojeddcfnaaGreatDoor

/- Quotient and remainder by the table. -/
namespace Go.Proofs.YtimmpojeddcfnaaGreatDoor
open Go.RowKit

theorem own_gm {w w' : World} {base gm : Nat} {v : Value} {zs : List Int} (o : Own w base v zs) (h : gm < base) (k : w.grownBy w' (some gm)) : Own w' base v zs := o.grown k (by
  by_cases e : v.ownBlock = some gm
  · have := (o.lt gm e).1; omega
  · exact .inr e)
theorem DM.to {w : World} {base : Nat} {p : Int} {xs ys za zb : List Int} {vq vr : Value} {err : Int} (h : DM w base p za zb vq vr err) (ea : Eqv p (ev za) (ev xs)) (eb : Eqv p (ev zb) (ev ys)) (la : za.length ≤ xs.length) (lb : zb.length ≤ ys.length) : DM w base p xs ys vq vr err := by
  obtain ⟨z, h1, h2, h3, h4⟩ := h
  refine ⟨z, h1, h2.trans eb, by omega, ?_⟩
  rcases h4 with h | ⟨a, b, zq, zr, c, d, e, f, g⟩
  · exact .inl h
  · exact .inr ⟨a, b, zq, zr, c, d, e, by omega, ea.symm.trans g⟩
theorem DM.mono {w : World} {base base' : Nat} {p : Int} {xs ys : List Int} {vq vr : Value} {err : Int} (h : DM w base p xs ys vq vr err) (hb : base' ≤ base) : DM w base' p xs ys vq vr err := by
  obtain ⟨zb, h1, h2, h3, h4⟩ := h
  refine ⟨zb, h1, h2, h3, ?_⟩
  rcases h4 with h | ⟨a, b, zq, zr, ⟨c, d⟩, ⟨e, f⟩, i⟩
  · exact .inl h
  · exact .inr ⟨a, b, zq, zr, ⟨c.mono hb, d⟩, ⟨e.mono hb, f⟩, i⟩
theorem Pd.sf6 {w : World} {u : Tb} {p : Int} {d g : Nat} {I : Pix} {a : Int} {c : Mc} (h : Pd w u p d g I a c) : Canon.SF [(⟨d, 0, none⟩, .pointer (some ⟨g, 0, none⟩)), (⟨g, 0, none⟩, .pointer (some ⟨I.r, 0, none⟩)), (⟨d, 0, none⟩, .pointer (some ⟨g, 0, none⟩)), (⟨d, 0, none⟩, .pointer (some ⟨g, 0, none⟩)), (⟨g, 0, none⟩, .pointer (some ⟨I.r, 0, none⟩))] w :=
  Canon.sf_cons h.e (Canon.sf_cons h.q.pe.e0 (Canon.sf_cons h.e (Canon.sf_cons h.e (Canon.sf_cons h.q.pe.e0 (Canon.sf_nil _)))))
set_option maxRecDepth 100000 in
set_option maxHeartbeats 8000000 in
theorem divmod_c {u : Tb} (hu : TbOk u) (p : Int) (hF : ∀ x, 0 < x → x < p → Int.gcd p x = 1) (d g : Nat) (I : Pix) (w : World) (a : Int) (c : Mc) (U V : Value) (xs ys : List Int) (h : Pd w u p d g I a c) (hd : Db w) (ha : a ≤ 800000000000000) (hU : Sl w U xs) (hV : Sl w V ys) (hl : xs.length ≤ 150) (hl2 : ys.length ≤ 150) :
    Calls Tryz.prog 45 #[.pointer (some ⟨d, 0, none⟩), U, V] w fun e w' => ∃ vq vr err a' c', e = .returned (.tuple #[vq, vr, .int .i64 err]) ∧ DM w' w.heap.size p xs ys vq vr err ∧ Pd w' u p d g I a' c' ∧ a' ≤ a + 4000000000 ∧ w.grownBy w' (some I.gm) := by
  have hp := h.q.rg.m.neg0
  have hes := hu.es
  have N1 := Lib.hid (pnorm_c w.drew I.r I.q p U xs h.q.rg.drew (hU.grown0 (gb_drew (gb_refl w none))) (by omega))
  have N2 := Lib.hid (fun w1 (k : w.grownBy w1 none) => pnorm_c w1 I.r I.q p V ys (h.q.rg.grown0 k) (hV.grown0 k) (by omega))
  have HP := Lib.hid h
  have HD := Lib.hid hd
  have cd := h.e
  have cg := h.q.pe.e0
  clear hU hV h hd
  go_enter Tryz.func45, Tryz.ntmps45
  go_wp2
  refine Canon.region_held [24, 27] _ (by kernel_rfl) (by kernel_rfl) HP.out.sf2 ?_
  refine Canon.segs_at 8 _ _ _ (by kernel_rfl) ?_
  simp only [List.take_succ_cons, List.take_zero, List.drop_succ_cons, List.drop_zero]
  go_wp2_with fail
  refine (N1.out).mono ?_
  rintro e w1 ⟨x1, rfl, ⟨za, oa, na, ea, la⟩, g1⟩
  have G1 := Lib.hid (gb_trans (gb_drew (gb_refl w none)) g1)
  clear N1 g1 cd cg
  have cd := (HP.out.grown0 G1.out).e
  have cg := (HP.out.grown0 G1.out).q.pe.e0
  go_wp2
  refine ⟨(HP.out.grown0 G1.out).sf2, ?_⟩
  refine Canon.segs_at 8 _ _ _ (by kernel_rfl) ?_
  simp only [List.take_succ_cons, List.take_zero, List.drop_succ_cons, List.drop_zero]
  go_wp2_with fail
  refine (N2.out _ G1.out).mono ?_
  rintro e w2 ⟨x2, rfl, ⟨zb, ob, nb, eb, lb⟩, g2⟩
  have G2 := Lib.hid (gb_trans G1.out g2)
  have OA := Lib.hid ((oa.grown0 g2).mono (base' := w.heap.size) (Nat.le_refl _))
  have OB := Lib.hid (ob.mono G1.out.size)
  have NA := Lib.hid na
  have NB := Lib.hid nb
  have EA := Lib.hid ea
  have EB := Lib.hid eb
  have P2 := Lib.hid (HP.out.grown0 G2.out)
  obtain ⟨A, ca, rfl, hca, hca2⟩ := oa.fm
  obtain ⟨B, cb, rfl, hcb, hcb2⟩ := ob.fm
  clear N2 oa ob na nb ea eb g2 cd cg
  obtain ⟨l, hla⟩ : ∃ z, z = za.length := ⟨_, rfl⟩
  obtain ⟨m, hlb⟩ : ∃ z, z = zb.length := ⟨_, rfl⟩
  rw [← hla] at hca la OA
  rw [← hlb] at hcb lb OB
  have LA := Lib.hid hla
  have LB := Lib.hid hlb
  rw [← hla, ← hlb]
  have la' := la
  have lb' := lb
  clear hla hlb
  go_wp2
  refine ⟨P2.out.sf2, ?_⟩
  refine Canon.segs_end _ _ _ (by kernel_rfl) ?_
  go_wp2
  refine ⟨by kernel_rfl, by kernel_rfl, by kernel_rfl, ?_⟩
  have LN := Lib.hid (long_c w2 d g I.r I.q p hF _ _ za zb P2.out.e P2.out.q.pe.e0 P2.out.q.rg OA.out.sl OB.out.sl (by rw [← LA.out]; omega) (by rw [← LB.out]; omega))
  obtain ⟨es, hes'⟩ : ∃ es, es = u.es := ⟨_, rfl⟩
  have t16 := P2.out.q.cell 12 (by decide)
  rw [show u.vs[12 - 3]? = some (.int .i64 u.es) from rfl, ← hes'] at t16
  rw [← hes'] at hes
  obtain ⟨nn, hnn⟩ : ∃ nn : Int, nn = (l : Int) - (m : Int) + 1 := ⟨_, rfl⟩
  have e9 : (l : Int) - (m : Int) + 1 = nn := hnn.symm
  have t0 := P2.out.e
  have t1 := P2.out.q.pe.e1
  have t2 := P2.out.q.pe.ch.c0
  have t3 := P2.out.q.pe.ch.c1
  have t4 := P2.out.q.pe.ch.c2
  have t5 := P2.out.q.pe.ch.c3
  have t6 := P2.out.q.pe.ch.c4
  have t7 := P2.out.q.pe.ch.c5
  have t8 := P2.out.q.pe.ch.c6
  have t9 := P2.out.q.pe.ch.c7
  have t10 := P2.out.q.pe.ch.c8
  have t11 := P2.out.q.pe.ch.c9
  have t12 := P2.out.q.en.e.h0
  have t13 := P2.out.q.en.e.h1
  have t14 := P2.out.q.en.e.h2
  have t15 := P2.out.q.en.e.h3
  clear hes'
  by_cases h1 : (m : Int) < es
  · have d1 : decide ((m : Int) < es) = true := decide_eq_true h1
    clear hnn
    go_wp2_with fail
    refine (LN.out).mono ?_
    rintro e w3 ⟨vq, vr, err, rfl, dm, g3⟩
    go_wp2
    go_ret3
    exact ⟨_, _, _, a, c, rfl, (dm.to EA.out EB.out (by rw [← LA.out]; exact la') (by rw [← LB.out]; exact lb')).mono G2.out.size, P2.out.grown0 g3, by omega, gb_none (gb_trans G2.out g3) _⟩
  have d1 : decide ((m : Int) < es) = false := decide_eq_false h1
  by_cases h2 : nn < es
  · have d2 : decide (nn < es) = true := decide_eq_true h2
    clear hnn
    go_wp2_with fail
    refine (LN.out).mono ?_
    rintro e w3 ⟨vq, vr, err, rfl, dm, g3⟩
    go_wp2
    go_ret3
    exact ⟨_, _, _, a, c, rfl, (dm.to EA.out EB.out (by rw [← LA.out]; exact la') (by rw [← LB.out]; exact lb')).mono G2.out.size, P2.out.grown0 g3, by omega, gb_none (gb_trans G2.out g3) _⟩
  have d2 : decide (nn < es) = false := decide_eq_false h2
  obtain ⟨n, hn⟩ : ∃ n : Nat, nn = (n : Int) := ⟨nn.toNat, by omega⟩
  subst hn
  have hnm : n + m = l + 1 := by omega
  have hn2 : 2 ≤ n ∧ 2 ≤ m := by omega
  clear hnn LN
  have hp3 := P2.out.q.rg.m.pm.lo
  have HGM : Hid (I.gm < w.heap.size) := Lib.hid HP.out.q.en.lt
  have D2 := Lib.hid (HD.out.grown0 G2.out)
  have LL : Hid (l ≤ 150 ∧ m ≤ 150 ∧ n + m = l + 1 ∧ 2 ≤ n ∧ 2 ≤ m) := Lib.hid (by omega)
  have hb0 := NB.out.rd hp (m - 1)
  have hb1 := Nz.top NB.out.z (by rw [← LB.out]; omega)
  rw [← LB.out] at hb1
  have GB := Lib.hid (hF _ (by omega) hb0.2)
  have dr2 := gb_drew (gb_refl w2 none)
  have PT := Lib.hid (pturn_c w2.drew _ zb m (OB.out.sl.grown0 dr2) (by rw [← LB.out]; exact Nat.le_refl _) (by omega))
  clear hb0 hb1 hF dr2 hes
  go_upto_region 5 with fail
  clear t16 d1 d2 e9
  clear t1 t2 t3 t4 t5 t6 t7 t8 t9 t10 t11 t12 t13 t14 t15
  have t17 := P2.out.q.pe.e0
  refine Canon.region_held [160, 163] _ (by kernel_rfl) (by kernel_rfl) P2.out.sf2 ?_
  refine Canon.segs_at 11 _ _ _ (by kernel_rfl) ?_
  simp only [List.take_succ_cons, List.take_zero, List.drop_succ_cons, List.drop_zero]
  go_wp2_with fail
  refine (PT.out).mono ?_
  rintro e w3 ⟨x3, rb, rfl, o3, tb, g3⟩
  have g3' := gb_trans (gb_drew (gb_refl w2 none)) g3
  have P3 := Lib.hid (P2.out.grown0 g3')
  have R3 := Lib.hid g3'
  have G3 := Lib.hid (gb_trans G2.out g3')
  have CU := Lib.hid (pcut_c w3 I.r I.q p x3 rb n P3.out.q.rg o3.sl (by rw [tb.1]; have := LL.out; omega) (by have := LL.out; omega))
  have TB := Lib.hid tb
  clear PT o3 tb g3 g3' t0 t17
  go_wp2
  refine ⟨P3.out.sf2, ?_⟩
  refine Canon.segs_at 1 _ _ _ (by kernel_rfl) ?_
  simp only [List.take_succ_cons, List.take_zero, List.drop_succ_cons, List.drop_zero]
  go_wp2_with fail
  refine (CU.out).mono ?_
  rintro e w4 ⟨x4, rfl, ⟨crb, o4, n4, e4, l4⟩, g4⟩
  have P4 := Lib.hid (P3.out.grown0 g4)
  have G4 := Lib.hid (gb_trans G3.out g4)
  have R4 := Lib.hid (gb_trans R3.out g4)
  obtain ⟨k1, k2⟩ := cut_head hp3 (by have := LL.out; omega) e4 (by rw [TB.out.2 0 (by have := LL.out; omega)]; exact GB.out)
  have SE := Lib.hid (series_any u hu p d g I n (by have := LL.out; omega) w4 a c x4 crb P4.out (HD.out.grown0 G4.out) (by have := LL.out; omega) o4.sl k1 (by have := LL.out; omega) k2)
  have E4 := Lib.hid e4
  clear CU o4 n4 e4 l4 g4 P3 k1 k2 GB
  go_wp2
  refine ⟨P4.out.sf2, ?_⟩
  refine Canon.segs_at 1 _ _ _ (by kernel_rfl) ?_
  simp only [List.take_succ_cons, List.take_zero, List.drop_succ_cons, List.drop_zero]
  go_wp2_with fail
  refine (SE.out).mono ?_
  rintro e w5 ⟨x5, a5, c5, rfl, ⟨V', ⟨zv, o5, n5, e5, l5⟩, i5⟩, p5, ha5, g5⟩
  have P5 := Lib.hid p5
  have G5 := Lib.hid (gb_trans (gb_none G4.out (some I.gm)) g5)
  have IV : Hid (Eqn p n (fun x => ev crb x * ev zv x) (fun _ => 1)) := Lib.hid (((Eqn.refl p n (ev crb)).mul (Eqn.of_eqv e5) (isP_ev crb) (isP_ev zv)).trans i5)
  have SV := Lib.hid o5.sl
  have L5 := Lib.hid l5
  have A5 := Lib.hid ha5
  have D5 := Lib.hid (Db.gm P4.out.q (HD.out.grown0 G4.out) g5)
  have OA5 := Lib.hid (own_gm ((OA.out.grown0 R4.out)) HGM.out g5)
  have OB5 := Lib.hid (own_gm ((OB.out.grown0 R4.out)) HGM.out g5)
  clear SE o5 n5 e5 l5 i5 p5 ha5 g5 P4 D2
  go_wp2
  refine ⟨P5.out.sf2, ?_⟩
  refine Canon.segs_end _ _ _ (by kernel_rfl) ?_
  go_wp2
  refine ⟨by kernel_rfl, by kernel_rfl, by kernel_rfl, ?_⟩
  have dr5 := gb_drew (gb_refl w5 none)
  have PT := Lib.hid (pturn_c w5.drew _ za l (OA5.out.sl.grown0 dr5) (by rw [← LA.out]; exact Nat.le_refl _) (by have := LL.out; omega))
  have t0 := P5.out.e
  have t17 := P5.out.q.pe.e0
  go_upto_region 6 with fail
  refine Canon.region_held [175, 178, 182, 186, 189] _ (by kernel_rfl) (by kernel_rfl) P5.out.sf6 ?_
  refine Canon.segs_at 21 _ _ _ (by kernel_rfl) ?_
  simp only [List.take_succ_cons, List.take_zero, List.drop_succ_cons, List.drop_zero]
  go_wp2_with fail
  refine (PT.out).mono ?_
  rintro e w6 ⟨x6, ra, rfl, o6, ta, g6⟩
  have g6' := gb_trans dr5 g6
  have P6 := Lib.hid (P5.out.grown0 g6')
  have G6 := Lib.hid (gb_trans G5.out (gb_none g6' (some I.gm)))
  have CU := Lib.hid (pcut_c w6 I.r I.q p x6 ra n P6.out.q.rg o6.sl (by rw [ta.1]; have := LL.out; omega) (by have := LL.out; omega))
  have TA := Lib.hid ta
  have H6 := Lib.hid g6'
  clear PT o6 ta g6 g6' t0 t17 dr5
  go_wp2
  refine ⟨P6.out.sf6, ?_⟩
  refine Canon.segs_at 1 _ _ _ (by kernel_rfl) ?_
  simp only [List.take_succ_cons, List.take_zero, List.drop_succ_cons, List.drop_zero]
  go_wp2_with fail
  refine (CU.out).mono ?_
  rintro e w7 ⟨x7, rfl, ⟨cra, o7, n7, e7, l7⟩, g7⟩
  have P7 := Lib.hid (P6.out.grown0 g7)
  have G7 := Lib.hid (gb_trans G6.out (gb_none g7 (some I.gm)))
  have H7 := Lib.hid (gb_trans H6.out g7)
  have ML := Lib.hid (pemul_c hu w7 p g I a5 c5 x7 x5 cra zv P7.out.q (D5.out.grown0 H7.out) (by have := A5.out; have := LL.out; omega) o7.sl (SV.out.grown0 H7.out) (by have := L5.out; have := LL.out; omega))
  have E7 := Lib.hid e7
  have L7 := Lib.hid l7
  clear CU o7 n7 e7 l7 g7 P6 H6
  go_wp2
  refine ⟨P7.out.sf6, ?_⟩
  refine Canon.segs_at 1 _ _ _ (by kernel_rfl) ?_
  simp only [List.take_succ_cons, List.take_zero, List.drop_succ_cons, List.drop_zero]
  go_wp2_with fail
  refine (ML.out).mono ?_
  rintro e w8 ⟨x8, a8, c8, rfl, ⟨z1, o8, n8, e8, l8⟩, q8, ha8, g8⟩
  have P8 := Lib.hid (P7.out.next g8 q8)
  have G8 := Lib.hid (gb_trans G7.out g8)
  have CU := Lib.hid (pcut_c w8 I.r I.q p x8 z1 n P8.out.q.rg o8.sl (by have := L5.out; have := L7.out; have := LL.out; omega) (by have := LL.out; omega))
  have E8 := Lib.hid e8
  have A8 := Lib.hid ha8
  have D8 := Lib.hid (Db.gm P7.out.q (D5.out.grown0 H7.out) g8)
  have OA8 := Lib.hid (own_gm (OA5.out.grown0 H7.out) HGM.out g8)
  have OB8 := Lib.hid (own_gm (OB5.out.grown0 H7.out) HGM.out g8)
  clear ML o8 n8 e8 l8 q8 ha8 g8 P7 D5 H7 OA5 OB5
  go_wp2
  refine ⟨P8.out.sf6, ?_⟩
  refine Canon.segs_at 1 _ _ _ (by kernel_rfl) ?_
  simp only [List.take_succ_cons, List.take_zero, List.drop_succ_cons, List.drop_zero]
  go_wp2_with fail
  refine (CU.out).mono ?_
  rintro e w9 ⟨x9, rfl, ⟨z2, o9, n9, e9, l9⟩, g9⟩
  have P9 := Lib.hid (P8.out.grown0 g9)
  have G9 := Lib.hid (gb_trans G8.out (gb_none g9 (some I.gm)))
  have dr9 := gb_drew (gb_refl w9 none)
  have PT := Lib.hid (pturn_c w9.drew x9 z2 n (o9.sl.grown0 dr9) l9 (by have := LL.out; omega))
  have E9 := Lib.hid e9
  have H9 := Lib.hid g9
  clear CU o9 n9 e9 l9 g9 P8
  go_wp2
  refine ⟨P9.out.sf6, ?_⟩
  refine Canon.segs_end _ _ _ (by kernel_rfl) ?_
  go_wp2
  refine ⟨by kernel_rfl, by kernel_rfl, by kernel_rfl, ?_⟩
  have t0 := P9.out.e
  have t17 := P9.out.q.pe.e0
  go_upto_region 7 with fail
  refine Canon.region_held [203, 206] _ (by kernel_rfl) (by kernel_rfl) P9.out.sf2 ?_
  refine Canon.segs_at 9 _ _ _ (by kernel_rfl) ?_
  simp only [List.take_succ_cons, List.take_zero, List.drop_succ_cons, List.drop_zero]
  go_wp2_with fail
  refine (PT.out).mono ?_
  rintro e w10 ⟨x10, Qr, rfl, o10, tq, g10⟩
  have g10' := gb_trans dr9 g10
  have P10 := Lib.hid (P9.out.grown0 g10')
  have G10 := Lib.hid (gb_trans G9.out (gb_none g10' (some I.gm)))
  have H10 := Lib.hid (gb_trans H9.out g10')
  have NM := Lib.hid (pnorm_c w10 I.r I.q p x10 Qr P10.out.q.rg o10.sl (by rw [tq.1]; have := LL.out; omega))
  have TQ := Lib.hid tq
  clear PT o10 tq g10 g10' t0 t17 dr9 P9
  go_wp2
  refine ⟨P10.out.sf2, ?_⟩
  refine Canon.segs_at 0 _ _ _ (by kernel_rfl) ?_
  simp only [List.take_succ_cons, List.take_zero, List.drop_succ_cons, List.drop_zero]
  go_wp2_with fail
  refine (NM.out).mono ?_
  rintro e w11 ⟨x11, rfl, ⟨zq, o11, n11, e11, l11⟩, g11⟩
  have P11 := Lib.hid (P10.out.grown0 g11)
  have G11 := Lib.hid (gb_trans G10.out (gb_none g11 (some I.gm)))
  have H11 := Lib.hid (gb_trans H10.out g11)
  have OQ := Lib.hid (o11.mono (base' := w.heap.size) G10.out.size)
  have NQ := Lib.hid n11
  have E11 := Lib.hid e11
  have L11 : Hid (zq.length ≤ n) := Lib.hid (by rw [← TQ.out.1]; exact l11)
  clear NM o11 n11 e11 l11 g11 P10 H9
  go_wp2
  refine ⟨P11.out.sf2, ?_⟩
  refine Canon.segs_end _ _ _ (by kernel_rfl) ?_
  go_wp2
  refine ⟨by kernel_rfl, by kernel_rfl, by kernel_rfl, ?_⟩
  have t0 := P11.out.e
  have t17 := P11.out.q.pe.e0
  have dr := gb_drew (gb_refl w11 none)
  have H12 := Lib.hid (gb_trans H11.out dr)
  have P11d := Lib.hid (P11.out.grown0 dr)
  have OQd := Lib.hid (OQ.out.grown0 dr)
  have ML := Lib.hid (pemul_c hu w11.drew p g I a8 c8 x11 _ zq zb P11d.out.q (D8.out.grown0 H12.out) (by have := A5.out; have := A8.out; have := LL.out; omega) OQd.out.sl (OB8.out.grown0 H12.out).sl (by rw [← LB.out]; have := L11.out; have := LL.out; omega))
  have G12 := Lib.hid (gb_trans G11.out (gb_none dr (some I.gm)))
  clear dr H11 H10 OQ
  go_upto_region 8 with fail
  refine Canon.region_held [215, 218] _ (by kernel_rfl) (by kernel_rfl) P11.out.sf2 ?_
  refine Canon.segs_at 15 _ _ _ (by kernel_rfl) ?_
  simp only [List.take_succ_cons, List.take_zero, List.drop_succ_cons, List.drop_zero]
  go_wp2_with fail
  refine (ML.out).mono ?_
  rintro e w12 ⟨x12, a12, c12, rfl, ⟨zm, o12, n12, e12, l12⟩, q12, ha12, g12⟩
  have P12 := Lib.hid (P11d.out.next g12 q12)
  have G13 := Lib.hid (gb_trans G12.out g12)
  have OA12 := Lib.hid (own_gm (OA8.out.grown0 H12.out) HGM.out g12)
  have OQ12 := Lib.hid (own_gm OQd.out HGM.out g12)
  have MI := Lib.hid (pminus_c w12 I.r I.q p _ x12 za zm P12.out.q.rg OA12.out.sl o12.sl (by rw [← LA.out]; have := LL.out; omega) (by rw [← LB.out] at l12; have := L11.out; have := LL.out; omega))
  have E12 := Lib.hid e12
  have A12 := Lib.hid ha12
  clear ML o12 n12 e12 l12 q12 ha12 g12 t0 t17 P11 P11d OQd OA8 OB8 H12
  go_wp2
  refine ⟨P12.out.sf2, ?_⟩
  refine Canon.segs_at 0 _ _ _ (by kernel_rfl) ?_
  simp only [List.take_succ_cons, List.take_zero, List.drop_succ_cons, List.drop_zero]
  go_wp2_with fail
  refine (MI.out).mono ?_
  rintro e w13 ⟨x13, rfl, ⟨zr, o13, n13, e13, l13⟩, g13⟩
  have P13 := Lib.hid (P12.out.grown0 g13)
  have G14 := Lib.hid (gb_trans G13.out (gb_none g13 (some I.gm)))
  have QR := quot_rows (n := n) hp (by rw [← LB.out]; have := LL.out; omega) (by rw [← LA.out, ← LB.out]; exact LL.out.2.2.1) (by have := LL.out; omega) (by rw [← LA.out]; exact TA.out) (by rw [← LB.out]; exact TB.out) E7.out E4.out IV.out E8.out E9.out TQ.out E11.out E12.out n13 e13
  have FIN : Hid (DM w13 w.heap.size p xs ys x11 x13 0) := Lib.hid ⟨zb, NB.out, EB.out, by rw [← LB.out]; exact lb, .inr ⟨by rw [← LB.out]; have := LL.out; omega, rfl, zq, zr, ⟨OQ12.out.grown0 g13, NQ.out⟩, ⟨o13.mono G13.out.size, n13⟩, QR.1, by have := L11.out; have := LL.out; omega, EA.out.symm.trans QR.2⟩⟩
  clear MI o13 n13 e13 l13 g13 QR
  go_wp2
  refine ⟨P13.out.sf2, ?_⟩
  refine Canon.segs_end _ _ _ (by kernel_rfl) ?_
  go_wp2
  refine ⟨by kernel_rfl, by kernel_rfl, by kernel_rfl, ?_⟩
  go_wp2
  go_ret3
  exact ⟨_, _, _, a12, c12, rfl, FIN.out, P13.out, by have := A5.out; have := A8.out; have := A12.out; have := LL.out; omega, G14.out⟩
end Go.Proofs.YtimmpojeddcfnaaGreatDoor

/- Chapter 24: products of polynomials: what its statements share; over which moduli there are engines. -/
namespace Go.Proofs.YtimmpojeddcfnaaGreatDoor
open Go.RowKit

end Go.Proofs.YtimmpojeddcfnaaGreatDoor

/- Dividers made; each nonzero residue has an inverse. -/
namespace Go.Proofs.YtimmpojeddcfnaaGreatDoor
open Go.RowKit

theorem fld {p : Nat} (h : p ∈ pr12) (x : Int) (h0 : 0 < x) (h1 : x < (p : Int)) : Int.gcd (p : Int) x = 1 := by
  have c := (pri12 p h).cop (k := x.natAbs) (fun hd => by
    have := Nat.le_of_dvd (by omega) hd
    omega)
  simpa [Int.gcd] using c
set_option maxRecDepth 100000 in
theorem pdivNew_ok (w : World) (t : Tb) (p : Nat) (hp : Pm p) (hi : isP p = true) (hd : Db w) :
    Calls Tryz.prog 80 #[t.v, .int .u64 p] w fun e w' => ∃ d g I, e = .returned (.tuple #[.pointer (some ⟨d, 0, none⟩), .int .i64 0]) ∧ Pd w' t.clamp p d g I 0 ⟨0, tbT t.clamp⟩ ∧ w.heap.size ≤ I.gm ∧ w.grownBy w' none := by
  have C0 := cs_new w #[.int .i64 t.eb, .int .i64 t.et, .int .i64 t.en, .int .i64 t.ed, .int .i64 t.er, .int .i64 t.el, .int .i64 t.ex, .int .i64 t.ep, .int .i64 t.ek, .int .i64 t.es, .int .i64 t.ee] 23
  have hg := gb_alloc (gb_refl w none) (Obj.cells #[.int .i64 t.eb, .int .i64 t.et, .int .i64 t.en, .int .i64 t.ed, .int .i64 t.er, .int .i64 t.el, .int .i64 t.ex, .int .i64 t.ep, .int .i64 t.ek, .int .i64 t.es, .int .i64 t.ee] 23)
  have NW := Lib.hid (pmulNew_ok _ t p hp hi (hd.grown0 hg))
  have HG := Lib.hid hg
  have HC0 := Lib.hid C0
  obtain ⟨P, hP⟩ : ∃ P : Int, P = (p : Int) := ⟨_, rfl⟩
  rw [← hP] at NW ⊢
  clear C0 hg hp hi hd hP
  go_enter Tryz.func80, Tryz.ntmps80
  have c0 := HC0.out.cell 0 rfl
  have c1 := HC0.out.cell 1 rfl
  have c2 := HC0.out.cell 2 rfl
  have c3 := HC0.out.cell 3 rfl
  have c4 := HC0.out.cell 4 rfl
  have c5 := HC0.out.cell 5 rfl
  have c6 := HC0.out.cell 6 rfl
  have c7 := HC0.out.cell 7 rfl
  have c8 := HC0.out.cell 8 rfl
  have c9 := HC0.out.cell 9 rfl
  have c10 := HC0.out.cell 10 rfl
  go_wp2_with fail
  refine (NW.out).mono ?_
  rintro e w1 ⟨g, I, rfl, pq, hg, g1⟩
  clear c0 c1 c2 c3 c4 c5 c6 c7 c8 c9 c10
  have G1 := Lib.hid (gb_trans HG.out g1)
  have PQ := Lib.hid pq
  have HH : Hid (w.heap.size ≤ I.gm) := Lib.hid (Nat.le_trans HG.out.size hg)
  clear pq hg g1 NW HC0
  go_wp2
  go_ret2
  have ga := gb_alloc (gb_refl w1 none) (Obj.cells #[.pointer (some ⟨g, 0, none⟩)] 96)
  exact ⟨_, g, I, rfl, ⟨(cs_new w1 _ _).cell 0 rfl, PQ.out.grown0 ga⟩, HH.out, gb_trans G1.out ga⟩
set_option maxRecDepth 100000 in
theorem engine25_c (w : World) (t : Tb) (k : Int) (hk : 0 ≤ k ∧ k < 18446744073709551616) (hd : Db w) :
    Calls Tryz.prog 44 #[t.v, .int .u64 k] w fun e w' => ∃ (p d g : Nat) (I : Pix), e = .returned (.tuple #[.pointer (some ⟨d, 0, none⟩), .int .u64 p]) ∧ Pm (p : Int) ∧ (p ∈ pr12 ∧ p = P23 k) ∧ Pd w' t.clamp p d g I 0 ⟨0, tbT t.clamp⟩ ∧ w.heap.size ≤ I.gm ∧ w.grownBy w' none := by
  have C0 := cs_new w #[.int .i64 t.eb, .int .i64 t.et, .int .i64 t.en, .int .i64 t.ed, .int .i64 t.er, .int .i64 t.el, .int .i64 t.ex, .int .i64 t.ep, .int .i64 t.ek, .int .i64 t.es, .int .i64 t.ee] 23
  have hg := gb_alloc (gb_refl w none) (Obj.cells #[.int .i64 t.eb, .int .i64 t.et, .int .i64 t.en, .int .i64 t.ed, .int .i64 t.er, .int .i64 t.el, .int .i64 t.ex, .int .i64 t.ep, .int .i64 t.ek, .int .i64 t.es, .int .i64 t.ee] 23)
  have PR := Lib.hid (fun w => prime23_c w k hk)
  have NW := Lib.hid (fun w p h1 h2 h3 => pdivNew_ok w t p h1 h2 h3)
  have HD := Lib.hid hd
  have HG := Lib.hid hg
  have HC0 := Lib.hid C0
  clear C0 hg hd
  go_enter Tryz.func44, Tryz.ntmps44
  go_wp2_with fail
  refine (PR.out _).mono ?_
  rintro e w1 ⟨p, rfl, pm, ip, hm, g1⟩
  have G1 := Lib.hid (gb_trans HG.out g1)
  have NW1 := Lib.hid (NW.out w1 p pm ip (HD.out.grown0 G1.out))
  have C1 := HC0.out.grown0 g1
  have HM := Lib.hid (And.intro pm hm)
  have c0 := C1.cell 0 rfl
  have c1 := C1.cell 1 rfl
  have c2 := C1.cell 2 rfl
  have c3 := C1.cell 3 rfl
  have c4 := C1.cell 4 rfl
  have c5 := C1.cell 5 rfl
  have c6 := C1.cell 6 rfl
  have c7 := C1.cell 7 rfl
  have c8 := C1.cell 8 rfl
  have c9 := C1.cell 9 rfl
  have c10 := C1.cell 10 rfl
  obtain ⟨P, hP⟩ : ∃ P : Int, P = (p : Int) := ⟨_, rfl⟩
  rw [← hP] at NW1 ⊢
  have HP := Lib.hid hP
  clear g1 PR NW C1 pm ip hm hP
  go_wp2_with fail
  refine (NW1.out).mono ?_
  rintro e w2 ⟨d, g, I, rfl, pq, hg, g2⟩
  clear c0 c1 c2 c3 c4 c5 c6 c7 c8 c9 c10
  have KK := Lib.hid (And.intro pq (And.intro (Nat.le_trans G1.out.size hg) (gb_trans G1.out g2)))
  clear pq hg g2 NW1
  go_wp2
  go_ret2
  refine ⟨p, d, g, I, by rw [HP.out]; rfl, HM.out.1, HM.out.2, ?_, KK.out.2.1, KK.out.2.2⟩
  rw [← HP.out]
  exact KK.out.1
end Go.Proofs.YtimmpojeddcfnaaGreatDoor

/- Series: the checks. -/
namespace Go.Proofs.YtimmpojeddcfnaaGreatDoor
open Go.RowKit

set_option maxRecDepth 100000 in
theorem series_zero (w : World) (d : Nat) (v : Value) : Calls Tryz.prog 81 #[.pointer (some ⟨d, 0, none⟩), v, .int .i64 0] w fun e w' => e = .returned (.slice none 0 0) ∧ w.grownBy w' none := by
  go_enter Tryz.func81, Tryz.ntmps81
  go_wp2
  go_ret
  exact ⟨rfl, gb_refl _ _⟩
set_option maxRecDepth 100000 in
set_option maxHeartbeats 4000000 in
theorem pseries_inv (w : World) (u : Tb) (p : Int) (d g : Nat) (I : Pix) (a : Int) (c : Mc) (v : Value) (xs : List Int) (n : Nat) (hn : n ≤ 4096) (h : Pd w u p d g I a c) (hv : Sl w v xs) (hl : xs.length ≤ 100000) (h0 : xs = [] ∨ rd xs 0 % p = 0) :
    Calls Tryz.prog 50 #[.pointer (some ⟨d, 0, none⟩), v, .int .i64 n] w fun e w' => e = .returned (.tuple #[.slice none 0 0, .int .i64 4]) ∧ w.grownBy w' none := by
  obtain ⟨A, ca, rfl, hca, hca2⟩ := hv.form
  have d0 : decide ((n : Int) < 0) = false := decide_eq_false (by omega)
  have d1 : decide ((n : Int) > 4096) = false := decide_eq_false (by omega)
  by_cases hx : xs = []
  · subst hx
    simp only [List.length_nil] at hca hl ⊢
    have HP := Lib.hid h
    clear h hv h0
    go_enter Tryz.func50, Tryz.ntmps50
    go_wp2
    refine Canon.region_canon (by kernel_rfl) (by kernel_rfl) ?_
    go_wp2
    refine ⟨by kernel_rfl, ?_⟩
    go_wp2
    go_ret2
    exact ⟨rfl, gb_drew (gb_refl _ _)⟩
  · have hlen : 0 < xs.length := List.length_pos_iff.2 hx
    obtain ⟨b, o, rfl, hci⟩ := hv.at 0 hlen
    rw [Nat.add_zero] at hci
    have hx1 := rd_w hv.ws 0
    have hz := h0.resolve_left hx
    obtain ⟨x, hxx⟩ : ∃ x, x = rd xs 0 := ⟨_, rfl⟩
    obtain ⟨m, hm⟩ : ∃ m, m = xs.length := ⟨_, rfl⟩
    rw [← hxx] at hci hx1 hz
    rw [← hm] at hca hl hlen ⊢
    have m0 : ((m : Int) == 0) = false := by simp; omega
    have RD := modRed_c w.drew I.q p x h.q.rg.m.drew hx1.1
    rw [hz] at RD
    have RD := Lib.hid RD
    have cd := h.e
    have cg := h.q.pe.e0
    have cr := h.q.rg.c
    clear h hv h0 hxx hm hz
    go_enter Tryz.func50, Tryz.ntmps50
    go_wp2
    refine Canon.region_canon (by kernel_rfl) (by kernel_rfl) ?_
    go_wp2_with fail
    refine (RD.out).mono ?_
    rintro e w1 ⟨rfl, hw⟩
    subst hw
    go_wp2
    refine ⟨by kernel_rfl, ?_⟩
    go_wp2
    go_ret2
    exact ⟨rfl, gb_drew (gb_refl _ _)⟩
end Go.Proofs.YtimmpojeddcfnaaGreatDoor

/- Series: the answer. -/
namespace Go.Proofs.YtimmpojeddcfnaaGreatDoor
open Go.RowKit

theorem Sp.cut {w : World} {base : Nat} {v : Value} {p : Int} {xs z : List Int} {n : Nat} (h : Sp w base v p (ev z) n) (e : Eqv p (ev z) (ev (xs.take n))) : Sp w base v p (ev xs) n := by
  obtain ⟨S, h1, h2⟩ := h
  exact ⟨S, h1, (((Eqn.cut p n xs).trans (Eqn.of_eqv e.symm)).mul (Eqn.refl p n (ev S)) (isP_ev z) (isP_ev S)).trans h2⟩
theorem Sp.mono {w : World} {base base' : Nat} {v : Value} {p : Int} {F : Int → Int} {n : Nat} (h : Sp w base v p F n) (hb : base' ≤ base) : Sp w base' v p F n := by
  obtain ⟨S, h1, h2⟩ := h
  exact ⟨S, h1.mono hb, h2⟩
set_option maxRecDepth 100000 in
set_option maxHeartbeats 4000000 in
theorem pseries_ok {u : Tb} (hu : TbOk u) (p : Int) (hF : ∀ x, 0 < x → x < p → Int.gcd p x = 1) (d g : Nat) (I : Pix) (w : World) (a : Int) (c : Mc) (v : Value) (xs : List Int) (n : Nat) (hn : n ≤ 160) (h : Pd w u p d g I a c) (hd : Db w) (ha : a ≤ 800000000000000) (hv : Sl w v xs) (hl : xs.length ≤ 100000) (hx : 0 < xs.length) (hr : rd xs 0 % p ≠ 0) :
    Calls Tryz.prog 50 #[.pointer (some ⟨d, 0, none⟩), v, .int .i64 n] w fun e w' => ∃ x a' c', e = .returned (.tuple #[x, .int .i64 0]) ∧ Sp w' w.heap.size x p (ev xs) n ∧ Pd w' u p d g I a' c' ∧ a' ≤ a + 4000000000 ∧ w.grownBy w' (some I.gm) := by
  have hp := h.q.rg.m.neg0
  have hp3 := h.q.rg.m.pm.lo
  have mm := mod_nn (x := rd xs 0) hp
  have GC := Lib.hid (gcd_cg hp3 (Cg.mod p (rd xs 0)) (hF _ (by omega) mm.2))
  obtain ⟨A, ca, rfl, hca, hca2⟩ := hv.form
  have d0 : decide ((n : Int) < 0) = false := decide_eq_false (by omega)
  have d1 : decide ((n : Int) > 4096) = false := decide_eq_false (by omega)
  obtain ⟨b, o, rfl, hci⟩ := hv.at 0 hx
  rw [Nat.add_zero] at hci
  have hx1 := rd_w hv.ws 0
  have HV := Lib.hid hv
  obtain ⟨x, hxx⟩ : ∃ x, x = rd xs 0 := ⟨_, rfl⟩
  obtain ⟨m, hm⟩ : ∃ m, m = xs.length := ⟨_, rfl⟩
  rw [← hxx] at hci hx1 hr mm
  rw [← hm] at hca hl hx HV ⊢
  have HM := Lib.hid hm
  have m0 : ((m : Int) == 0) = false := by simp; omega
  have RD := modRed_c w.drew I.q p x h.q.rg.m.drew hx1.1
  obtain ⟨y, hy⟩ : ∃ y, y = x % p := ⟨_, rfl⟩
  rw [← hy] at RD hr mm
  have y0 : (y == 0) = false := by simp; exact hr
  have RD := Lib.hid RD
  have dr := gb_drew (gb_refl w none)
  have CU := Lib.hid (pcut_c w.drew I.r I.q p _ xs n h.q.rg.drew (HV.out.grown0 dr) (by rw [← hm]; omega) (by omega))
  have HP := Lib.hid (h.grown0 dr)
  have HD := Lib.hid (hd.grown0 dr)
  have DR := Lib.hid dr
  have cd := h.e
  have cg := h.q.pe.e0
  have cr := h.q.rg.c
  clear h hv hxx hm hd hy dr hr hF
  go_enter Tryz.func50, Tryz.ntmps50
  go_wp2
  refine Canon.region_canon (by kernel_rfl) (by kernel_rfl) ?_
  go_wp2_with fail
  refine (RD.out).mono ?_
  rintro e w1 ⟨rfl, hw⟩
  subst hw
  go_wp2
  refine ⟨by kernel_rfl, ?_⟩
  clear RD cd cg cr hci
  have cd := HP.out.e
  have cg := HP.out.q.pe.e0
  go_wp2_with fail
  refine (CU.out).mono ?_
  rintro e w2 ⟨x1, rfl, ⟨z, o1, n1, e1, l1⟩, g1⟩
  have P1 := Lib.hid (HP.out.grown0 g1)
  have G1 := Lib.hid (gb_trans DR.out g1)
  by_cases n0 : n = 0
  · subst n0
    have SZ := Lib.hid (series_zero w2 d x1)
    clear CU o1 n1 e1 l1 g1 cd cg
    go_wp2_with fail
    refine (SZ.out).mono ?_
    rintro e w3 ⟨rfl, g2⟩
    go_wp2
    go_ret2
    exact ⟨_, a, c, rfl, sp_nil _ _ _ (isP_ev _), P1.out.grown0 g2, by omega, gb_none (gb_trans G1.out g2) _⟩
  · obtain ⟨k1, k2⟩ := cut_head hp3 (by omega) e1 GC.out
    have SE := Lib.hid (series_any u hu p d g I n hn w2 a c x1 z P1.out (HD.out.grown0 g1) (by omega) o1.sl k1 (by omega) k2)
    have E1 := Lib.hid e1
    clear CU o1 n1 e1 l1 g1 k1 k2 cd cg
    go_wp2_with fail
    refine (SE.out).mono ?_
    rintro e w3 ⟨x2, a2, c2, rfl, sp, p2, ha2, g2⟩
    have FIN := Lib.hid ((sp.cut E1.out).mono G1.out.size)
    have P2 := Lib.hid p2
    have A2 := Lib.hid ha2
    have G2 := Lib.hid (gb_trans (gb_none G1.out (some I.gm)) g2)
    clear SE sp p2 ha2 g2
    go_wp2
    go_ret2
    exact ⟨_, a2, c2, rfl, FIN.out, P2.out, by have := A2.out; omega, G2.out⟩
end Go.Proofs.YtimmpojeddcfnaaGreatDoor

/- Two divisions of the same answer the same. -/
namespace Go.Proofs.YtimmpojeddcfnaaGreatDoor
open Go.RowKit

theorem DM.same {p : Nat} (hp : Pri p) {w w' : World} {base base' : Nat} {xs ys : List Int} {vq vr vq' vr' : Value} {err err' : Int} (h : DM w base p xs ys vq vr err) (k : DM w' base' p xs ys vq' vr' err') :
    err = err' ∧ ∃ zq zr, (Sl w vq zq ∧ Sl w' vq' zq) ∧ (Sl w vr zr ∧ Sl w' vr' zr) ∧ (err = 2 → zq = [] ∧ zr = []) := by
  have hp0 : (0 : Int) < p := by have := hp.1; omega
  obtain ⟨zb, n1, e1, l1, h4⟩ := h
  obtain ⟨yb, m1, f1, _, k4⟩ := k
  obtain rfl := n1.one m1 hp0 e1 f1
  rcases h4 with ⟨hz, rfl, rfl, rfl⟩ | ⟨h0, rfl, zq, zr, ⟨oq, nq⟩, ⟨or', nr⟩, lr, _, e⟩
  · rcases k4 with ⟨_, rfl, rfl, rfl⟩ | ⟨k0, _⟩
    · exact ⟨rfl, [], [], ⟨sl_none _, sl_none _⟩, ⟨sl_none _, sl_none _⟩, fun _ => ⟨rfl, rfl⟩⟩
    · rw [hz] at k0; simp at k0
  · rcases k4 with ⟨hz, _⟩ | ⟨_, rfl, yq, yr, ⟨pq, mq⟩, ⟨pr, mr⟩, mr', _, f⟩
    · rw [hz] at h0; simp at h0
    · have U := div_uniq hp (isP_ev zq) (isP_ev yq) n1 h0 lr mr' e f
      obtain rfl := nq.ext mq hp0 U.1
      obtain rfl := nr.ext mr hp0 U.2
      exact ⟨rfl, zq, zr, ⟨oq.sl, pq.sl⟩, ⟨or'.sl, pr.sl⟩, fun h => absurd h (by decide)⟩
/-- The document's example of chapter 25. -/
theorem DM.ex5 {w : World} {base : Nat} {vq vr : Value} {err : Int} (h : DM w base 5 [0, 0, 1] [0, 2] vq vr err) : err = 0 ∧ Sl w vq [0, 3] ∧ Sl w vr [] := by
  have hp : Pri 5 := pri_i.1.1.2
  obtain ⟨zb, n1, e1, l1, h4⟩ := h
  have nb : Nf 5 [0, 2] := ⟨fun c hc => by simp at hc; omega, by rfl⟩
  have nq' : Nf 5 [0, 3] := ⟨fun c hc => by simp at hc; omega, by rfl⟩
  obtain rfl := n1.ext nb (by decide) e1
  rcases h4 with ⟨hz, _⟩ | ⟨h0, rfl, zq, zr, ⟨oq, nq⟩, ⟨or', nr⟩, lr, _, e⟩
  · simp at hz
  · have U := div_uniq (p := 5) hp (isP_ev zq) (isP_ev [0, 3]) (b := [0, 2]) (r' := []) n1 h0 lr (by decide) e ⟨fun x => -(x * x), (isP_x.mul isP_x).neg, fun x => by simp [ev]; grind⟩
    obtain rfl := nq.ext nq' (by decide) U.1
    obtain rfl := nr.ext (nf_nil 5) (by decide) U.2
    exact ⟨rfl, oq.sl, or'.sl⟩
end Go.Proofs.YtimmpojeddcfnaaGreatDoor

/- Chapter 25: the document's example. -/
namespace Go.Proofs.YtimmpojeddcfnaaGreatDoor
open Go.RowKit

theorem pm_5 : Pm ((5 : Nat) : Int) := ⟨by decide, by decide, by decide⟩
theorem isP_5 : isP 5 = true := by rw [isF_eq (by decide)]; decide +kernel
theorem fld5 (x : Int) (h0 : 0 < x) (h1 : x < 5) : Int.gcd 5 x = 1 := fld (p := 5) (by decide) x h0 h1
set_option maxRecDepth 100000 in
set_option maxHeartbeats 2000000 in
theorem wakes25_c (w : World) (hd : Db w) : Calls Tryz.prog 48 #[] w fun e w' => e = .returned (.bool true) ∧ w.grownBy w' none := by
  have NW : Calls Tryz.prog 80 #[.agg #[.int .i64 0, .int .i64 0, .int .i64 0, .int .i64 0, .int .i64 0, .int .i64 0, .int .i64 0, .int .i64 0, .int .i64 0, .int .i64 0, .int .i64 0], .int .u64 5] w fun e w' => ∃ d g I, e = .returned (.tuple #[.pointer (some ⟨d, 0, none⟩), .int .i64 0]) ∧ Pd w' (Tb.clamp ⟨0, 0, 0, 0, 0, 0, 0, 0, 0, 0, 0⟩) 5 d g I 0 ⟨0, tbT (Tb.clamp ⟨0, 0, 0, 0, 0, 0, 0, 0, 0, 0, 0⟩)⟩ ∧ w.heap.size ≤ I.gm ∧ w.grownBy w' none :=
    pdivNew_ok w ⟨0, 0, 0, 0, 0, 0, 0, 0, 0, 0, 0⟩ 5 pm_5 isP_5 hd
  have TO := Lib.hid (Tb.clamp_ok ⟨0, 0, 0, 0, 0, 0, 0, 0, 0, 0, 0⟩)
  obtain ⟨u, hu⟩ : ∃ u, u = Tb.clamp ⟨0, 0, 0, 0, 0, 0, 0, 0, 0, 0, 0⟩ := ⟨_, rfl⟩
  rw [← hu] at NW TO
  have HN := Lib.hid NW
  have HD := Lib.hid hd
  clear NW hd hu
  go_enter Tryz.func48, Tryz.ntmps48
  go_wp2_with fail
  refine (HN.out).mono ?_
  rintro e w1 ⟨d, g, I, rfl, pq, hg, g1⟩
  have G1 := Lib.hid g1
  have HG := Lib.hid hg
  have GA := gb_alloc (gb_alloc (gb_refl w1 none) (Obj.cells #[.int .u64 0, .int .u64 0, .int .u64 1] 53)) (Obj.cells #[.int .u64 0, .int .u64 2] 53)
  have S1 := (sl_lit w1 53 #[.int .u64 0, .int .u64 0, .int .u64 1] [0, 0, 1] 3 rfl (ws_append (ws_one (by decide) (by decide)) (ws_append (ws_one (by decide) (by decide)) (ws_one (by decide) (by decide)))) rfl (by decide)).grown0 (gb_alloc (gb_refl _ none) (Obj.cells #[.int .u64 0, .int .u64 2] 53))
  have S2 := sl_lit (w1.alloc (Obj.cells #[.int .u64 0, .int .u64 0, .int .u64 1] 53)) 53 #[.int .u64 0, .int .u64 2] [0, 2] 2 rfl (ws_append (ws_one (by decide) (by decide)) (ws_one (by decide) (by decide))) rfl (by decide)
  rw [alloc_sz] at S2
  have ML := Lib.hid (divmod_c TO.out 5 fld5 d g I _ 0 _ _ _ [0, 0, 1] [0, 2] (pq.grown0 GA) (HD.out.grown0 (gb_trans g1 GA)) (by decide) S1 S2 (by decide) (by decide))
  have HGA := Lib.hid (gb_trans g1 GA)
  clear S1 S2 GA pq g1 hg HN
  go_wp2_with fail
  refine (ML.out).mono ?_
  rintro e w2 ⟨vq, vr, err, a', c', rfl, dm, _, _, g2⟩
  have G2 := Lib.hid (gb_new HGA.out g2 (fun i hi => by cases hi; exact HG.out))
  obtain ⟨rfl, s1, s2⟩ := dm.ex5
  obtain ⟨A, ca, rfl, _, _⟩ := s2.form
  have GB := gb_alloc (gb_refl w2 none) (Obj.cells #[.int .u64 0, .int .u64 3] 53)
  have SM := Lib.hid (same_c _ vq _ [0, 3] [0, 3] (s1.grown0 GB) (sl_lit w2 53 #[.int .u64 0, .int .u64 3] [0, 3] 2 rfl (ws_append (ws_one (by decide) (by decide)) (ws_one (by decide) (by decide))) rfl (by decide)))
  rw [decide_eq_true rfl] at SM
  have HGB := Lib.hid (gb_trans G2.out GB)
  clear GB s1 s2 dm g2 ML
  go_wp2_with fail
  refine (SM.out).mono ?_
  rintro e w3 ⟨rfl, g3⟩
  go_wp2
  go_ret
  exact ⟨rfl, gb_trans HGB.out g3⟩
end Go.Proofs.YtimmpojeddcfnaaGreatDoor

/- Series: one contract for all inputs; two series of the same are the same. -/
namespace Go.Proofs.YtimmpojeddcfnaaGreatDoor
open Go.RowKit

/-- What Series answers. -/
def SR (w : World) (base : Nat) (p : Int) (xs : List Int) (n : Nat) (v : Value) (err : Int) : Prop :=
  (err = 4 ∧ v = .slice none 0 0 ∧ (xs = [] ∨ rd xs 0 % p = 0)) ∨ (err = 0 ∧ Sp w base v p (ev xs) n ∧ 0 < xs.length ∧ rd xs 0 % p ≠ 0)
theorem pseries_c {u : Tb} (hu : TbOk u) (p : Int) (hF : ∀ x, 0 < x → x < p → Int.gcd p x = 1) (d g : Nat) (I : Pix) (w : World) (a : Int) (c : Mc) (v : Value) (xs : List Int) (n : Nat) (hn : n ≤ 160) (h : Pd w u p d g I a c) (hd : Db w) (ha : a ≤ 800000000000000) (hv : Sl w v xs) (hl : xs.length ≤ 100000) :
    Calls Tryz.prog 50 #[.pointer (some ⟨d, 0, none⟩), v, .int .i64 n] w fun e w' => ∃ x err a' c', e = .returned (.tuple #[x, .int .i64 err]) ∧ SR w' w.heap.size p xs n x err ∧ Pd w' u p d g I a' c' ∧ a' ≤ a + 4000000000 ∧ w.grownBy w' (some I.gm) := by
  by_cases h0 : xs = [] ∨ rd xs 0 % p = 0
  · refine (pseries_inv w u p d g I a c v xs n (by omega) h hv hl h0).mono fun e w' ⟨h1, h2⟩ => ?_
    exact ⟨_, 4, a, c, h1, .inl ⟨rfl, rfl, h0⟩, h.grown0 h2, by omega, gb_none h2 _⟩
  · have hx : 0 < xs.length := List.length_pos_iff.2 fun k => h0 (.inl k)
    refine (pseries_ok hu p hF d g I w a c v xs n hn h hd ha hv hl hx (fun k => h0 (.inr k))).mono fun e w' ⟨x, a', c', h1, h2, h3, h4, h5⟩ => ?_
    exact ⟨x, 0, a', c', h1, .inr ⟨rfl, h2, hx, fun k => h0 (.inr k)⟩, h3, h4, h5⟩
/-- A row that is read and is F's inverse modulo x to the n. -/
def Sn (w : World) (v : Value) (p : Int) (F : Int → Int) (n : Nat) (zs : List Int) : Prop := Sl w v zs ∧ Nf p zs ∧ zs.length ≤ n ∧ Eqn p n (fun z => F z * ev zs z) (fun _ => 1)
theorem Sp.sn {w : World} {base : Nat} {v : Value} {p : Int} {xs : List Int} {n : Nat} (h : Sp w base v p (ev xs) n) : ∃ zs, Sn w v p (ev xs) n zs := by
  obtain ⟨S, ⟨zs, o, nf, e, l⟩, i⟩ := h
  exact ⟨zs, o.sl, nf, l, ((Eqn.refl p n (ev xs)).mul (Eqn.of_eqv e) (isP_ev xs) (isP_ev zs)).trans i⟩
theorem Sn.one {w w' : World} {v v' : Value} {p : Int} {xs : List Int} {n : Nat} {zs ys : List Int} (hp : 0 < p) (h : Sn w v p (ev xs) n zs) (k : Sn w' v' p (ev xs) n ys) : zs = ys :=
  h.2.1.ser k.2.1 h.2.2.1 k.2.2.1 hp (Eqn.inv_one (isP_ev zs) (isP_ev xs) (isP_ev ys) h.2.2.2 k.2.2.2)
theorem SR.same {w w' : World} {base base' : Nat} {p : Int} {xs : List Int} {n : Nat} {v v' : Value} {err err' : Int} (hp : 0 < p) (h : SR w base p xs n v err) (k : SR w' base' p xs n v' err') :
    err = err' ∧ ∃ zs, Sl w v zs ∧ Sl w' v' zs ∧ (err = 0 ∨ err = 4) ∧ (err = 0 → Nf p zs ∧ zs.length ≤ n ∧ Eqn p n (fun z => ev xs z * ev zs z) (fun _ => 1)) := by
  rcases h with ⟨rfl, rfl, h0⟩ | ⟨rfl, h1, h2, h3⟩
  · rcases k with ⟨rfl, rfl, _⟩ | ⟨rfl, _, k2, k3⟩
    · exact ⟨rfl, [], sl_none _, sl_none _, .inr rfl, fun h => absurd h (by decide)⟩
    · rcases h0 with h | h
      · rw [h] at k2; simp at k2
      · exact absurd h k3
  · rcases k with ⟨rfl, rfl, k0⟩ | ⟨rfl, k1, _, _⟩
    · rcases k0 with h | h
      · rw [h] at h2; simp at h2
      · exact absurd h h3
    · obtain ⟨zs, s1⟩ := h1.sn
      obtain ⟨ys, s2⟩ := k1.sn
      obtain rfl := s1.one hp s2
      exact ⟨rfl, zs, s1.1, s2.1, .inl rfl, fun _ => ⟨s1.2.1, s1.2.2.1, s1.2.2.2⟩⟩
end Go.Proofs.YtimmpojeddcfnaaGreatDoor

/- Rows of rows: cut, as naturals, their product. -/
namespace Go.Proofs.YtimmpojeddcfnaaGreatDoor
open Go.RowKit

/-- A row of rows, of the call's own. -/
def OwnT (e : TypeId) (w : World) (base : Nat) (v : Value) (vs : List Value) : Prop := w.ownsRow base e 1 v vs.length vs
theorem OwnT.grown0 {e : TypeId} {w w' : World} {base : Nat} {v : Value} {vs : List Value} (h : OwnT e w base v vs) (hg : w.grownBy w' none) : OwnT e w' base v vs :=
  World.ownsRow.kept h hg (by cases v.ownBlock <;> simp)
theorem OwnT.lt {e : TypeId} {w : World} {base : Nat} {v : Value} {vs : List Value} (h : OwnT e w base v vs) : ∀ k, v.ownBlock = some k → base ≤ k ∧ k < w.heap.size := World.ownsRow.lt h
theorem OwnT.cells {e : TypeId} {w : World} {base : Nat} {v : Value} {vs : List Value} (h : OwnT e w base v vs) : Cells w v vs.length 1 (fun j => vs.getD j undef) := by
  rcases h.2 with ⟨rfl, h2⟩ | ⟨g, cap, cur, rfl, hg, hh, h1, h2, _⟩
  · obtain rfl := List.eq_nil_of_length_eq_zero h2
    exact ⟨none, 0, rfl, by simp, by omega, fun h => by simp at h⟩
  · refine ⟨_, cap, rfl, h1, by simpa [maxLen] using h2, fun _ => ⟨g, 0, rfl, fun j hj => ?_⟩⟩
    have := World.ownsRow.cellAt h j (by omega)
    rw [Nat.mul_one] at hj
    show w.cell? ⟨g, 0 + j, none⟩ = some (vs.getD j undef)
    rw [Nat.zero_add, this, List.getD_eq_getElem?_getD, List.getElem?_eq_getElem hj]
    rfl
end Go.Proofs.YtimmpojeddcfnaaGreatDoor

/- Chapter 24: the product of any polynomials. -/
namespace Go.Proofs.YtimmpojeddcfnaaGreatDoor
open Go.RowKit

theorem Pq.other {w w' : World} {u u' : Tb} {p p' : Int} {g g' : Nat} {I J : Pix} {a a' : Int} {c c' : Mc} (h : Pq w u p g I a c) (k : Pq w u' p' g' J a' c') (hne : I.gm ≠ J.gm) (j : w.grownBy w' (some J.gm)) : Pq w' u p g I a c :=
  ⟨h.pe.grown k.en.m j, h.en.other k.en hne j⟩
theorem pm_pos {p : Nat} (h : Pm (p : Int)) : 0 < (p : Int) := by have := h.lo; omega
end Go.Proofs.YtimmpojeddcfnaaGreatDoor

/- Chapter 24: squares, small powers; two tables. -/
namespace Go.Proofs.YtimmpojeddcfnaaGreatDoor
open Go.RowKit

theorem cut_len (xs : List Int) (n : Nat) : (xs.take n).length ≤ n := by rw [List.length_take]; omega
end Go.Proofs.YtimmpojeddcfnaaGreatDoor

/- Chapter 24: two tables; the greatest coefficients; each way. -/
namespace Go.Proofs.YtimmpojeddcfnaaGreatDoor
open Go.RowKit

end Go.Proofs.YtimmpojeddcfnaaGreatDoor

/- Chapter 25: two tables. -/
namespace Go.Proofs.YtimmpojeddcfnaaGreatDoor
open Go.RowKit

theorem Pd.other {w w' : World} {u v : Tb} {p p' : Int} {d d' g g' : Nat} {I J : Pix} {a a' : Int} {c c' : Mc} (h : Pd w u p d g I a c) (k : Pd w v p' d' g' J a' c') (hne : I.gm ≠ J.gm) (gr : w.grownBy w' (some J.gm)) : Pd w' u p d g I a c := ⟨cell_past h.e (k.q.en.m.ptr h.e) gr, h.q.other k.q hne gr⟩
theorem DM.gm {w w' : World} {base gm : Nat} {p : Int} {xs ys : List Int} {vq vr : Value} {err : Int} (h : DM w base p xs ys vq vr err) (hg : gm < base) (k : w.grownBy w' (some gm)) : DM w' base p xs ys vq vr err := by
  obtain ⟨zb, h1, h2, h3, h4⟩ := h
  refine ⟨zb, h1, h2, h3, ?_⟩
  rcases h4 with h | ⟨a, b, zq, zr, ⟨c, d⟩, ⟨e, f⟩, i⟩
  · exact .inl h
  · exact .inr ⟨a, b, zq, zr, ⟨own_gm c hg k, d⟩, ⟨own_gm e hg k, f⟩, i⟩
set_option maxRecDepth 100000 in
set_option maxHeartbeats 8000000 in
theorem PdivTables_walk (t t' : Tb) (k : Int) (va : Value) (al0 : List Int) (vb : Value) (bl0 : List Int) (n0 : Int) (w : World) (hk : 0 ≤ k ∧ k < 18446744073709551616) (ha : Sl w va al0) (hb : Sl w vb bl0) (_hn : -9223372036854775808 ≤ n0 ∧ n0 ≤ 9223372036854775807) (hd : Db w) :
    Calls Tryz.prog 12 #[t.v, t'.v, .int .u64 k, va, vb, .int .i64 n0] w fun e w' => e = .returned (.bool true) ∧ w.grownBy w' none := by
  obtain ⟨n, hn1⟩ : ∃ n : Nat, (n : Int) = n0 % 120 := ⟨(n0 % 120).toNat, by omega⟩
  have en : n0 % 120 = (n : Int) := hn1.symm
  have hn : n ≤ 160 := by omega
  have WI := Lib.hid (fun w => within_c n0 120 (by decide) (by decide) w)
  rw [en] at WI
  clear hn1 en _hn
  have C0 := cs_new w #[.int .i64 t.eb, .int .i64 t.et, .int .i64 t.en, .int .i64 t.ed, .int .i64 t.er, .int .i64 t.el, .int .i64 t.ex, .int .i64 t.ep, .int .i64 t.ek, .int .i64 t.es, .int .i64 t.ee] 23
  have hg := gb_alloc (gb_refl w none) (Obj.cells #[.int .i64 t.eb, .int .i64 t.et, .int .i64 t.en, .int .i64 t.ed, .int .i64 t.er, .int .i64 t.el, .int .i64 t.ex, .int .i64 t.ep, .int .i64 t.ek, .int .i64 t.es, .int .i64 t.ee] 23)
  have D0 := cs_new (w.alloc (Obj.cells #[.int .i64 t.eb, .int .i64 t.et, .int .i64 t.en, .int .i64 t.ed, .int .i64 t.er, .int .i64 t.el, .int .i64 t.ex, .int .i64 t.ep, .int .i64 t.ek, .int .i64 t.es, .int .i64 t.ee] 23)) #[.int .i64 t'.eb, .int .i64 t'.et, .int .i64 t'.en, .int .i64 t'.ed, .int .i64 t'.er, .int .i64 t'.el, .int .i64 t'.ex, .int .i64 t'.ep, .int .i64 t'.ek, .int .i64 t'.es, .int .i64 t'.ee] 23
  have hg2 := gb_alloc hg (Obj.cells #[.int .i64 t'.eb, .int .i64 t'.et, .int .i64 t'.en, .int .i64 t'.ed, .int .i64 t'.er, .int .i64 t'.el, .int .i64 t'.ex, .int .i64 t'.ep, .int .i64 t'.ek, .int .i64 t'.es, .int .i64 t'.ee] 23)
  rw [alloc_sz] at D0
  have HC0 := Lib.hid (C0.grown0 (gb_alloc (gb_refl _ none) (Obj.cells #[.int .i64 t'.eb, .int .i64 t'.et, .int .i64 t'.en, .int .i64 t'.ed, .int .i64 t'.er, .int .i64 t'.el, .int .i64 t'.ex, .int .i64 t'.ep, .int .i64 t'.ek, .int .i64 t'.es, .int .i64 t'.ee] 23)))
  have HD0 := Lib.hid D0
  have HG := Lib.hid hg2
  have CA := Lib.hid (cut_c _ va al0 100 (by decide) (ha.grown0 hg2))
  have CB := Lib.hid (cut_c _ vb bl0 60 (by decide) (hb.grown0 hg2))
  have EG := Lib.hid (fun w1 h => engine25_c w1 t k hk h)
  have EF := Lib.hid (fun w1 h => engine25_c w1 t' k hk h)
  have HD := Lib.hid hd
  clear C0 D0 hg hg2 ha hb hd
  go_enter Tryz.func12, Tryz.ntmps12
  go_wp2_with fail
  refine (CA.out).mono ?_
  rintro e w1 ⟨u, rfl, s1, hw⟩
  subst hw
  go_wp2_with fail
  refine (CB.out).mono ?_
  rintro e w1 ⟨v, rfl, s2, hw⟩
  subst hw
  have LA := cut_len al0 100
  have LB := cut_len bl0 60
  obtain ⟨xs, hxs⟩ : ∃ xs, xs = al0.take 100 := ⟨_, rfl⟩
  obtain ⟨ys, hys⟩ : ∃ xs, xs = bl0.take 60 := ⟨_, rfl⟩
  rw [← hxs] at s1 LA
  rw [← hys] at s2 LB
  have S1 := Lib.hid s1
  have S2 := Lib.hid s2
  have E1 := Lib.hid (EG.out _ (HD.out.grown0 HG.out))
  clear s1 s2 CA CB hxs hys
  have c0 := HC0.out.cell 0 rfl
  have c1 := HC0.out.cell 1 rfl
  have c2 := HC0.out.cell 2 rfl
  have c3 := HC0.out.cell 3 rfl
  have c4 := HC0.out.cell 4 rfl
  have c5 := HC0.out.cell 5 rfl
  have c6 := HC0.out.cell 6 rfl
  have c7 := HC0.out.cell 7 rfl
  have c8 := HC0.out.cell 8 rfl
  have c9 := HC0.out.cell 9 rfl
  have c10 := HC0.out.cell 10 rfl
  go_wp2_with fail
  refine (E1.out).mono ?_
  rintro e w2 ⟨p, d, g, I, rfl, pm, hpk, pq, hg, g2⟩
  clear c0 c1 c2 c3 c4 c5 c6 c7 c8 c9 c10
  have G2 := Lib.hid (gb_trans HG.out g2)
  have PQ := Lib.hid pq
  have HI := Lib.hid (Nat.le_trans HG.out.size hg)
  have HPK := Lib.hid hpk.2
  have HPR := Lib.hid (pri12 p hpk.1)
  have HFL := Lib.hid (fld hpk.1)
  have HD2 := Lib.hid (HD0.out.grown0 g2)
  have E2 := Lib.hid (EF.out _ (HD.out.grown0 G2.out))
  have T1 := Lib.hid (S1.out.grown0 g2)
  have T2 := Lib.hid (S2.out.grown0 g2)
  have HIl := Lib.hid (PQ.out.q.en.lt)
  obtain ⟨P, hP⟩ : ∃ P : Int, P = (p : Int) := ⟨_, rfl⟩
  have PB : Hid (0 < P) := Lib.hid (by rw [hP]; exact pm_pos pm)
  have HPP := Lib.hid hP
  rw [← hP] at HFL
  rw [← hP] at PQ ⊢
  clear pm pq hg g2 E1 EG HC0 S1 S2 hpk hP HD0
  have c0 := HD2.out.cell 0 rfl
  have c1 := HD2.out.cell 1 rfl
  have c2 := HD2.out.cell 2 rfl
  have c3 := HD2.out.cell 3 rfl
  have c4 := HD2.out.cell 4 rfl
  have c5 := HD2.out.cell 5 rfl
  have c6 := HD2.out.cell 6 rfl
  have c7 := HD2.out.cell 7 rfl
  have c8 := HD2.out.cell 8 rfl
  have c9 := HD2.out.cell 9 rfl
  have c10 := HD2.out.cell 10 rfl
  go_wp2_with fail
  refine (E2.out).mono ?_
  rintro e w3 ⟨p', b, f, J, rfl, _, hpk, pf, hf, g3⟩
  clear c0 c1 c2 c3 c4 c5 c6 c7 c8 c9 c10
  have e' : p' = p := by rw [hpk.2, ← HPK.out]
  subst e'
  have G3 := Lib.hid (gb_trans G2.out g3)
  have PF := Lib.hid pf
  have HJ := Lib.hid (Nat.le_trans G2.out.size hf)
  have HIJ : Hid (I.gm ≠ J.gm) := Lib.hid (by have := HIl.out; omega)
  have PQ3 := Lib.hid (PQ.out.grown0 g3)
  have T1' := Lib.hid (T1.out.grown0 g3)
  have T2' := Lib.hid (T2.out.grown0 g3)
  rw [← HPP.out] at PF ⊢
  clear pf hf g3 E2 EF HD2 T1 T2 hpk PQ HPK
  go_wp2_with fail
  refine (WI.out _).mono ?_
  rintro e w3' ⟨rfl, hw⟩
  subst hw
  obtain ⟨w3, rfl⟩ : ∃ w3 : World, w3 = w3' := ⟨_, rfl⟩
  have HJl := Lib.hid (PF.out.q.en.lt)
  have A1 := Lib.hid (divmod_c t.clamp_ok P HFL.out d g I w3 0 _ u v xs ys PQ3.out (HD.out.grown0 G3.out) (by decide) T1'.out T2'.out (by omega) (by omega))
  go_wp2_with fail
  refine (A1.out).mono ?_
  rintro e w4 ⟨q4, r4, e4, a4, c4, rfl, dm4, p4, ha4, g4⟩
  have G4 := Lib.hid (gb_new G3.out g4 (fun i hi => by cases hi; exact HI.out))
  have P4 := Lib.hid p4
  have A4 := Lib.hid ha4
  have DM4 := Lib.hid dm4
  have F4 := Lib.hid (PF.out.other PQ3.out (Ne.symm HIJ.out) g4)
  have U4 := Lib.hid (PQ3.out.q.sl T1'.out g4)
  have V4 := Lib.hid (PQ3.out.q.sl T2'.out g4)
  have A2 := Lib.hid (divmod_c t'.clamp_ok P HFL.out b f J w4 0 _ u v xs ys F4.out (HD.out.grown0 G4.out) (by decide) U4.out V4.out (by omega) (by omega))
  clear A1 p4 ha4 dm4 g4 PQ3 PF T1' T2' G3
  go_wp2_with fail
  refine (A2.out).mono ?_
  rintro e w5 ⟨q5, r5, e5, a5, c5, rfl, dm5, p5, ha5, g5⟩
  have G5 := Lib.hid (gb_new G4.out g5 (fun i hi => by cases hi; exact HJ.out))
  have P5 := Lib.hid (P4.out.other F4.out HIJ.out g5)
  have F5 := Lib.hid p5
  have A5 := Lib.hid ha5
  have V5 := Lib.hid (F4.out.q.sl V4.out g5)
  obtain ⟨rfl, zq, zr, ⟨s1, s2⟩, ⟨s3, s4⟩, _⟩ : e4 = e5 ∧ ∃ zq zr, (Sl w5 q4 zq ∧ Sl w5 q5 zq) ∧ (Sl w5 r4 zr ∧ Sl w5 r5 zr) ∧ (e4 = 2 → zq = [] ∧ zr = []) := by
    have h := DM4.out.gm HJl.out g5
    rw [HPP.out] at h dm5
    exact DM.same HPR.out h dm5
  have S1 := Lib.hid s1
  have S2 := Lib.hid s2
  have S3 := Lib.hid s3
  have S4 := Lib.hid s4
  have B1 := Lib.hid (pseries_c t.clamp_ok P HFL.out d g I w5 a4 c4 v ys n hn P5.out (HD.out.grown0 G5.out) (by have := A4.out; omega) V5.out (by omega))
  clear A2 p5 ha5 dm5 g5 s1 s2 s3 s4 DM4 F4 P4 U4 V4 G4
  go_wp2_with fail
  refine (B1.out).mono ?_
  rintro e w6 ⟨x6, e6, a6, c6, rfl, sr6, p6, ha6, g6⟩
  have G6 := Lib.hid (gb_new G5.out g6 (fun i hi => by cases hi; exact HI.out))
  have P6 := Lib.hid p6
  have A6 := Lib.hid ha6
  have R6 := Lib.hid sr6
  have F6 := Lib.hid (F5.out.other P5.out (Ne.symm HIJ.out) g6)
  have V6 := Lib.hid (P5.out.q.sl V5.out g6)
  have S1' := Lib.hid (P5.out.q.sl S1.out g6)
  have S2' := Lib.hid (P5.out.q.sl S2.out g6)
  have S3' := Lib.hid (P5.out.q.sl S3.out g6)
  have S4' := Lib.hid (P5.out.q.sl S4.out g6)
  have B2 := Lib.hid (pseries_c t'.clamp_ok P HFL.out b f J w6 a5 c5 v ys n hn F6.out (HD.out.grown0 G6.out) (by have := A5.out; omega) V6.out (by omega))
  clear B1 p6 ha6 sr6 g6 S1 S2 S3 S4 F5 P5 V5 G5
  go_wp2_with fail
  refine (B2.out).mono ?_
  rintro e w7 ⟨x7, e7, a7, c7, rfl, sr7, p7, ha7, g7⟩
  have G7 := Lib.hid (gb_new G6.out g7 (fun i hi => by cases hi; exact HJ.out))
  have P7 := Lib.hid (P6.out.other F6.out HIJ.out g7)
  have V7 := Lib.hid (F6.out.q.sl V6.out g7)
  obtain ⟨rfl, zs, k1, k2, k3, k4⟩ := R6.out.same PB.out sr7
  have X6 := Lib.hid (F6.out.q.sl k1 g7)
  have X7 := Lib.hid k2
  have K4 := Lib.hid k4
  have Q1 := Lib.hid (same_c w7 q4 q5 zq zq (F6.out.q.sl S1'.out g7) (F6.out.q.sl S2'.out g7))
  have Q2 := Lib.hid (fun w8 (k : w7.grownBy w8 none) => same_c w8 r4 r5 zr zr ((F6.out.q.sl S3'.out g7).grown0 k) ((F6.out.q.sl S4'.out g7).grown0 k))
  have Q3 := Lib.hid (fun w8 (k : w7.grownBy w8 none) => same_c w8 x6 x7 zs zs (X6.out.grown0 k) (X7.out.grown0 k))
  rw [decide_eq_true rfl] at Q1
  clear B2 p7 ha7 sr7 g7 S1' S2' S3' S4' F6 P6 V6 G6 k1 k2 k4 R6
  go_wp2_with fail
  refine (Q1.out).mono ?_
  rintro e w8 ⟨rfl, g8⟩
  go_wp2_with fail
  refine (Q2.out w8 g8).mono ?_
  rintro e w9 ⟨rfl, g9⟩
  go_wp2_with fail
  refine (Q3.out w9 (gb_trans g8 g9)).mono ?_
  rintro e w10 ⟨rfl, g10⟩
  have g7a := gb_trans (gb_trans g8 g9) g10
  have G10 := Lib.hid (gb_trans G7.out g7a)
  have P10 := Lib.hid (P7.out.grown0 g7a)
  have V10 := Lib.hid (V7.out.grown0 g7a)
  have X10 := Lib.hid (X6.out.grown0 g7a)
  have WK := Lib.hid (fun w11 (k : w.grownBy w11 none) => wakes25_c w11 (HD.out.grown0 k))
  clear Q1 Q2 Q3 g8 g9 g10 g7a P7 V7 X6 X7 G7
  rcases k3 with rfl | rfl
  · by_cases hn0 : n = 0
    · subst hn0
      go_wp2_with fail
      refine (WK.out _ G10.out).mono ?_
      rintro e w11 ⟨rfl, g11⟩
      go_wp2
      go_ret
      exact ⟨rfl, gb_trans G10.out g11⟩
    · obtain ⟨nz, lz, iz⟩ := K4.out rfl
      have hnp : decide ((n : Int) > 0) = true := decide_eq_true (by omega)
      have dr := gb_drew (gb_refl w10 none)
      have P10d := Lib.hid (P10.out.grown0 dr)
      have G10d := Lib.hid (gb_trans G10.out dr)
      have ML := Lib.hid (pemul_c t.clamp_ok w10.drew P g I a6 c6 x6 v zs ys P10d.out.q (HD.out.grown0 G10d.out) (by have := A4.out; have := A6.out; omega) (X10.out.grown0 dr) (V10.out.grown0 dr) (by omega))
      have IZ := Lib.hid iz
      have t0 := P10.out.e
      have t17 := P10.out.q.pe.e0
      clear nz iz dr
      go_wp2
      refine Canon.region_held [117, 120] _ (by kernel_rfl) (by kernel_rfl) P10.out.sf2 ?_
      refine Canon.segs_at 13 _ _ _ (by kernel_rfl) ?_
      simp only [List.take_succ_cons, List.take_zero, List.drop_succ_cons, List.drop_zero]
      go_wp2_with fail
      refine (ML.out).mono ?_
      rintro e w11 ⟨x11, a11, c11, rfl, ⟨z1, o1, n1, e1, l1⟩, q11, _, g11⟩
      have P11 := Lib.hid (P10d.out.next g11 q11)
      have G11 := Lib.hid (gb_new G10d.out g11 (fun i hi => by cases hi; exact HI.out))
      have CU := Lib.hid (pcut_c w11 I.r I.q P x11 z1 n P11.out.q.rg o1.sl (by omega) (by omega))
      have E1 := Lib.hid e1
      clear ML o1 n1 e1 l1 q11 g11 t0 t17 P10 P10d
      go_wp2
      refine ⟨P11.out.sf2, ?_⟩
      refine Canon.segs_at 1 _ _ _ (by kernel_rfl) ?_
      simp only [List.take_succ_cons, List.take_zero, List.drop_succ_cons, List.drop_zero]
      go_wp2_with fail
      refine (CU.out).mono ?_
      rintro e w12 ⟨x12, rfl, ⟨z2, o2, n2, e2, l2⟩, g12⟩
      have P12 := Lib.hid (P11.out.grown0 g12)
      have G12 := Lib.hid (gb_trans G11.out g12)
      have hp3 : 3 ≤ P := P12.out.q.rg.m.pm.lo
      have Z2 : z2 = [1] := n2.ser (nf_one (by omega)) l2 (by simp; omega) PB.out ((Eqn.of_eqv e2).trans ((Eqn.cut P n z1).symm.trans ((Eqn.of_eqv E1.out).trans ((Eqn.of_eqv (Eqv.of_eq P fun x => Int.mul_comm _ _)).trans (IZ.out.trans (Eqn.of_eqv (Eqv.of_eq P fun x => by simp [ev])))))))
      have GB := gb_alloc (gb_refl w12 none) (Obj.cells #[.int .u64 1] 53)
      have SM := Lib.hid (same_c _ x12 _ [1] [1] ((Z2 ▸ o2.sl).grown0 GB) (sl_lit w12 53 #[.int .u64 1] [1] 1 rfl (ws_one (by decide) (by decide)) rfl (by decide)))
      rw [decide_eq_true rfl] at SM
      have G13 := Lib.hid (gb_trans G12.out GB)
      clear CU o2 n2 e2 l2 g12 GB Z2 hp3
      go_wp2
      refine ⟨P12.out.sf2, ?_⟩
      refine Canon.segs_end _ _ _ (by kernel_rfl) ?_
      go_wp2
      refine ⟨by kernel_rfl, by kernel_rfl, by kernel_rfl, ?_⟩
      go_wp2_with fail
      refine (SM.out).mono ?_
      rintro e w13 ⟨rfl, g13⟩
      have G14 := Lib.hid (gb_trans G13.out g13)
      go_wp2_with fail
      refine (WK.out _ G14.out).mono ?_
      rintro e w14 ⟨rfl, g14⟩
      go_wp2
      go_ret
      exact ⟨rfl, gb_trans G14.out g14⟩
  · go_wp2_with fail
    refine (WK.out _ G10.out).mono ?_
    rintro e w11 ⟨rfl, g11⟩
    go_wp2
    go_ret
    exact ⟨rfl, gb_trans G10.out g11⟩
end Go.Proofs.YtimmpojeddcfnaaGreatDoor

/- Arguments: a table; rows of rows. -/
namespace Go.Proofs.YtimmpojeddcfnaaGreatDoor
open Go.RowKit Go.Deep Go.ChangeShapes Go.WideShapes

theorem tab_cell {H : Type} {enc : TypeId × Value → H} {w : World} {base : Nat} {sp : Nat → Bool} {held : Bool} {cs : List Value} {xs : List (DataW H × List MemPlace)} {n : Nat} (hl : cs.length = 11) (hxs : xs.length = 11) (i : Nat) (hi : i < 11)
    (g : DataW.trod enc Tryz.prog w base sp held n 3 ((cs.drop i).take (Tryz.prog.cellsOf 3)) = xs[i]?) : ∃ z : Int, cs.getD i undef = .int .i64 z := by
  rw [show Tryz.prog.cellsOf 3 = 1 by kernel_rfl, take1_drop cs i undef (by omega), List.getElem?_eq_getElem (by omega)] at g
  obtain ⟨z, hz, _⟩ := DataW.trod_int Tryz.underlying3 g
  exact ⟨z, by simpa using hz⟩
set_option maxRecDepth 100000 in
theorem open_tab {H : Type} {enc : TypeId × Value → H} {w : World} {base b0 : Nat} {sp : Nat → Bool} {held : Bool} {r : Reach} {v : Value} {d : DataW H} {ps : List MemPlace} (hval : Value.okWide Tryz.prog w r b0 23 v)
    (hd : DataW.Trod enc Tryz.prog w base sp held 23 v d ps) : ∃ t : Tb, v = t.v := by
  obtain ⟨cs, rfl, hsz⟩ := okWide_struct Tryz.underlying23 hval
  obtain ⟨fuel, hf⟩ := hd
  obtain ⟨xs, n, _, _, hl, hxl, hx⟩ := DataW.trod_struct Tryz.underlying23 hf
  rw [show Tryz.prog.cellsOf 23 = 11 by kernel_rfl] at hsz hl
  have hl' : cs.toList.length = 11 := hl
  have hxl' : xs.length = 11 := hxl
  obtain ⟨z0, h0⟩ := tab_cell hl' hxl' 0 (by decide) (hx 0 _ rfl)
  obtain ⟨z1, h1⟩ := tab_cell hl' hxl' 1 (by decide) (hx 1 _ rfl)
  obtain ⟨z2, h2⟩ := tab_cell hl' hxl' 2 (by decide) (hx 2 _ rfl)
  obtain ⟨z3, h3⟩ := tab_cell hl' hxl' 3 (by decide) (hx 3 _ rfl)
  obtain ⟨z4, h4⟩ := tab_cell hl' hxl' 4 (by decide) (hx 4 _ rfl)
  obtain ⟨z5, h5⟩ := tab_cell hl' hxl' 5 (by decide) (hx 5 _ rfl)
  obtain ⟨z6, h6⟩ := tab_cell hl' hxl' 6 (by decide) (hx 6 _ rfl)
  obtain ⟨z7, h7⟩ := tab_cell hl' hxl' 7 (by decide) (hx 7 _ rfl)
  obtain ⟨z8, h8⟩ := tab_cell hl' hxl' 8 (by decide) (hx 8 _ rfl)
  obtain ⟨z9, h9⟩ := tab_cell hl' hxl' 9 (by decide) (hx 9 _ rfl)
  obtain ⟨z10, h10⟩ := tab_cell hl' hxl' 10 (by decide) (hx 10 _ rfl)
  refine ⟨⟨z0, z1, z2, z3, z4, z5, z6, z7, z8, z9, z10⟩, ?_⟩
  obtain ⟨l⟩ := cs
  have hl11 : l.length = 11 := by simpa using hsz
  match l, hl11 with
  | [a0, a1, a2, a3, a4, a5, a6, a7, a8, a9, a10], _ =>
    obtain rfl : a0 = _ := h0
    obtain rfl : a1 = _ := h1
    obtain rfl : a2 = _ := h2
    obtain rfl : a3 = _ := h3
    obtain rfl : a4 = _ := h4
    obtain rfl : a5 = _ := h5
    obtain rfl : a6 = _ := h6
    obtain rfl : a7 = _ := h7
    obtain rfl : a8 = _ := h8
    obtain rfl : a9 = _ := h9
    obtain rfl : a10 = _ := h10
    rfl
end Go.Proofs.YtimmpojeddcfnaaGreatDoor
