/- Contracts of the program's functions, and plain laws (Pol8, Pol9, Pol10, Pol11, Pol12, Pol13, Pol16, Pol14, Pol15, Pri4, Pol17, Law24, Tabs, Rows4, Law24b, Law24c, Law24d, Law24e, Law24f, TabR), for every input that their premises let in. -/
import Derived.Test.YtimmpojeddcfnaaGreatDoorV4
import Derived.Test.YtimmpojeddcfnaaGreatDoorV2
import Derived.Test.YtimmpojeddcfnaaGreatDoorV3
import Derived.Test.YtimmpojeddcfnaaGreatDoorV1
import Derived.WalkKit
import Derived.Deep.Fields
import Derived.Deep.Matrix
/- Engines of polynomials: products in two pieces. -/
namespace Go.Proofs.YtimmpojeddcfnaaGreatDoor
open Go.RowKit

/-- Where an engine's parts lie. -/
structure Pix where
  r : Nat
  q : Nat
  k0 : Nat
  k1 : Nat
  k2 : Nat
  k3 : Nat
  k4 : Nat
  k5 : Nat
  k6 : Nat
  k7 : Nat
  k8 : Nat
  k9 : Nat
  g0 : Nat
  g1 : Nat
  g2 : Nat
  g3 : Nat
  gm : Nat
/-- Block g is an engine of polynomials over the residues of p, of table u. -/
structure Pq (w : World) (u : Tb) (p : Int) (g : Nat) (I : Pix) (a : Int) (c : Mc) : Prop where
  pe : Pe w p g I.r I.q I.k0 I.k1 I.k2 I.k3 I.k4 I.k5 I.k6 I.k7 I.k8 I.k9 I.g0
  en : En w u I.g0 I.g1 I.g2 I.g3 I.gm a c
theorem Pq.grown0 {w w' : World} {u : Tb} {p : Int} {g : Nat} {I : Pix} {a : Int} {c : Mc} (h : Pq w u p g I a c) (k : w.grownBy w' none) : Pq w' u p g I a c := ⟨h.pe.grown0 k, h.en.grown0 k⟩
theorem Pq.rg {w : World} {u : Tb} {p : Int} {g : Nat} {I : Pix} {a : Int} {c : Mc} (h : Pq w u p g I a c) : Rg w I.r I.q p := h.pe.rg
theorem Pq.cell {w : World} {u : Tb} {p : Int} {g : Nat} {I : Pix} {a : Int} {c : Mc} (h : Pq w u p g I a c) (j : Nat) (hj : 3 ≤ j) : w.cell? ⟨I.gm, j, none⟩ = u.vs[j - 3]? := by
  rw [h.en.m.rest j hj, h.en.t]
  unfold tbT
  rw [if_pos hj]
theorem ev_moved (xs : List Int) (k : Nat) (x : Int) : ev (if xs = [] then [] else List.replicate k 0 ++ xs) x = x ^ k * ev xs x := by
  split
  · rename_i h; rw [h]; simp [ev]
  · rw [ev_append, ev_zeros, List.length_replicate, Int.zero_add]
theorem moved_len (xs : List Int) (k : Nat) : (if xs = [] then [] else List.replicate k 0 ++ xs).length ≤ k + xs.length := by
  split
  · simp
  · simp
theorem ev_cut2 (xs : List Int) (k : Nat) (hk : k ≤ xs.length) (x : Int) : ev (xs.take k) x + x ^ k * ev ((xs.take xs.length).drop k) x = ev xs x := by
  rw [List.take_length]; exact (ev_cut xs k hk x).symm
/-- Two pieces each: what the product is made of. -/
theorem kara_id (A0 A1 B0 B1 Y : Int) : A0 * B0 + Y * ((A0 + A1) * (B0 + B1) - (A0 * B0 + A1 * B1)) + Y * Y * (A1 * B1) = (A0 + Y * A1) * (B0 + Y * B1) := by grind
theorem IsP.ev_mul {p : Int} {F G H : Int → Int} (h : IsP F) (k : Eqv p G H) : Eqv p (fun x => F x * G x) (fun x => F x * H x) := by
  obtain ⟨K, hK, e⟩ := k
  exact ⟨_, h.mul hK, fun x => by
    show F x * G x = F x * H x + p * (F x * K x)
    rw [e x]; grind⟩
theorem Eqv.of_fn {p : Int} {F G H : Int → Int} (h : Eqv p G H) (e : ∀ x, F x = G x) : Eqv p F H := (Eqv.of_eq p e).trans h
set_option maxRecDepth 100000 in
set_option maxHeartbeats 20000000 in
theorem kara_any (u : Tb) (p : Int) (g : Nat) (I : Pix) (hu : TbOk u) : ∀ (N : Nat) (w : World) (a : Int) (c : Mc) (U V : Value) (XS YS : List Int), Pq w u p g I a c → Sl w U XS → Sl w V YS → XS.length + YS.length ≤ N → N ≤ 4000 →
    Calls Tryz.prog 72 #[.pointer (some ⟨g, 0, none⟩), U, V] w fun e w' => ∃ x, e = .returned x ∧ Po w' w.heap.size x p (fun z => ev XS z * ev YS z) (XS.length + YS.length) ∧ w.grownBy w' none := by
  intro N
  induction N using Nat.strongRecOn with
  | ind N ih =>
  intro w a c U V XS YS hP hU hV hN hN4
  have key : ∀ (S T : Value) (AS BS : List Int), Sl w S AS → Sl w T BS → BS.length ≤ AS.length → AS.length + BS.length ≤ N → ∀ U V : Value, ((U = S ∧ V = T) ∨ (U = T ∧ V = S ∧ BS.length < AS.length)) →
      Calls Tryz.prog 72 #[.pointer (some ⟨g, 0, none⟩), U, V] w fun e w' => ∃ x, e = .returned x ∧ Po w' w.heap.size x p (fun z => ev AS z * ev BS z) (AS.length + BS.length) ∧ w.grownBy w' none := by
    clear hU hV hN U V XS YS
    intro S T AS BS hS hT hle hN U V hs
    have HP := Lib.hid hP
    have IH := Lib.hid ih
    have HS := Lib.hid hS
    have HT := Lib.hid hT
    have hp := hP.rg.m.neg0
    have ep := hu.ep
    obtain ⟨A, ca, rfl, hca, hca2⟩ := hS.form
    obtain ⟨B, cb, rfl, hcb, hcb2⟩ := hT.form
    obtain ⟨n, hn⟩ : ∃ n, n = AS.length := ⟨_, rfl⟩
    obtain ⟨m, hm⟩ : ∃ n, n = BS.length := ⟨_, rfl⟩
    rw [← hn] at hca hle hN hs HS ⊢
    rw [← hm] at hcb hle hN hs HT ⊢
    have HNn := Lib.hid hn
    have HMm := Lib.hid hm
    clear hP ih hS hT hn hm
    obtain ⟨pl, hpl⟩ : ∃ pl, pl = u.ep := ⟨_, rfl⟩
    rw [← hpl] at ep
    have HPL := Lib.hid hpl
    clear hpl
    have t1 := HP.out.pe.e1
    have t2 := HP.out.pe.ch.c0
    have t3 := HP.out.pe.ch.c1
    have t4 := HP.out.pe.ch.c2
    have t5 := HP.out.pe.ch.c3
    have t6 := HP.out.pe.ch.c4
    have t7 := HP.out.pe.ch.c5
    have t8 := HP.out.pe.ch.c6
    have t9 := HP.out.pe.ch.c7
    have t10 := HP.out.pe.ch.c8
    have t11 := HP.out.pe.ch.c9
    have t12 := HP.out.en.e.h0
    have t13 := HP.out.en.e.h1
    have t14 := HP.out.en.e.h2
    have t15 := HP.out.en.e.h3
    have t16 := HP.out.cell 10 (by decide)
    rw [show u.vs[10 - 3]? = some (.int .i64 u.ep) from rfl, ← HPL.out] at t16
    have t0 := HP.out.pe.e0
    obtain ⟨U0, n', cu, hU, V0, m', cv, hV⟩ : ∃ U0 n' cu, U = .slice U0 n' cu ∧ ∃ V0 m' cv, V = .slice V0 m' cv := by
      rcases hs with ⟨rfl, rfl⟩ | ⟨rfl, rfl, hlt⟩
      · exact ⟨_, _, _, rfl, _, _, _, rfl⟩
      · exact ⟨_, _, _, rfl, _, _, _, rfl⟩
    subst hU hV
    have HSS := Lib.hid hs
    clear hs
    go_enter Tryz.func72, Tryz.ntmps72
    go_upto_if 20 with fail
    go_cut [1, 2] from 16 to 22 (fun v1 v2 wx => v1 = .slice A n ca ∧ v2 = .slice B m cb ∧ w = wx)
    case first =>
      rcases HSS.out with ⟨h1, h2⟩ | ⟨h1, h2, hlt⟩
      · simp only [Value.slice.injEq] at h1 h2
        obtain ⟨rfl, rfl, rfl⟩ := h1
        obtain ⟨rfl, rfl, rfl⟩ := h2
        have hd : decide ((n' : Int) < (m' : Int)) = false := decide_eq_false (by omega)
        go_wp2_with fail
        go_meet
        exact ⟨rfl, rfl, rfl⟩
      · simp only [Value.slice.injEq] at h1 h2
        obtain ⟨rfl, rfl, rfl⟩ := h1
        obtain ⟨rfl, rfl, rfl⟩ := h2
        have hd : decide ((n' : Int) < (m' : Int)) = true := decide_eq_true (by omega)
        go_wp2_with fail
        go_meet
        exact ⟨rfl, rfl, rfl⟩
    case rest =>
      obtain ⟨rfl, rfl, hw⟩ := hcut
      subst hw
      by_cases hsm : (m : Int) < pl
      · have TM := Lib.hid (ptimes_c w I.r I.q p _ _ AS BS HP.out.rg HS.out HT.out (by rw [← HNn.out]; omega) (by rw [← HMm.out]; omega))
        rw [← HNn.out, ← HMm.out] at TM
        clear IH
        go_wp2_with fail
        refine (TM.out).mono ?_
        rintro e w1 ⟨x, rfl, po, g1⟩
        go_wp2
        go_ret
        exact ⟨_, rfl, po, g1⟩
      · obtain ⟨N1, hN1⟩ : ∃ z, z = n + 1 := ⟨_, rfl⟩
        obtain ⟨h, hh⟩ : ∃ z, z = N1 / 2 := ⟨_, rfl⟩
        have eN1 : (n : Int) + 1 = (N1 : Int) := by omega
        have eh : (N1 : Int) / 2 = (h : Int) := by omega
        have hm4 : 4 ≤ m := by omega
        have hhn : h ≤ n := by omega
        have h2a : n ≤ 2 * h := by omega
        have h2b : 2 * h ≤ n + 1 := by omega
        obtain ⟨b, o, rfl, sl1⟩ := HS.out.mid h n (by omega) hhn (Nat.le_refl n)
        have S1 := Lib.hid sl1
        have S0 := Lib.hid (HS.out.take h hhn)
        have RG := Lib.hid (fun W (k : w.grownBy W none) => HP.out.rg.grown0 k)
        have PQ := Lib.hid (fun W (k : w.grownBy W none) => HP.out.grown0 k)
        have E0 := Lib.hid (fun W (k : w.grownBy W none) => gb_cell0 k HP.out.pe.e0)
        have SFo : Hid (∀ W, w.grownBy W none → Canon.SF [(⟨g, 0, none⟩, .pointer (some ⟨I.r, 0, none⟩))] W) := Lib.hid (fun W k => Canon.sf_cons (E0.out W k) (Canon.sf_nil _))
        have SFp : Hid (∀ W, w.grownBy W none → Canon.SF [(⟨g, 0, none⟩, .pointer (some ⟨I.r, 0, none⟩)), (⟨g, 0, none⟩, .pointer (some ⟨I.r, 0, none⟩))] W) := Lib.hid (fun W k => Canon.sf_cons (E0.out W k) (Canon.sf_cons (E0.out W k) (Canon.sf_nil _)))
        have NM := Lib.hid (pnorm_c w.drew I.r I.q p _ (AS.take h) (RG.out _ (gb_drew (gb_refl w none))) (S0.out.grown0 (gb_drew (gb_refl w none))) (by rw [List.length_take]; omega))
        have HH := Lib.hid hh
        have HN1 := Lib.hid hN1
        clear sl1 hh hN1
        go_wp2
        clear t1 t2 t3 t4 t5 t6 t7 t8 t9 t10 t11 t12 t13 t14 t15
        clear t16 eN1 eh
        refine Canon.region_canon (by kernel_rfl) (by kernel_rfl) ?_
        go_wp2_with fail
        refine (NM.out).mono ?_
        rintro e w1 ⟨x0, rfl, ⟨za, oa, na, ea, la⟩, g1⟩
        have G1 := Lib.hid (gb_trans (gb_drew (gb_refl w none)) g1)
        obtain ⟨A0, c0, rfl, b01, b02⟩ := oa.fm
        have hl0 : za.length ≤ h := by rw [List.length_take] at la; omega
        obtain ⟨l0, hl0'⟩ : ∃ z, z = za.length := ⟨_, rfl⟩
        rw [← hl0'] at b01 hl0 oa ⊢
        have SA := Lib.hid oa.sl
        have EA := Lib.hid ea
        have L0 := Lib.hid hl0'
        clear NM oa na ea la g1 hl0' t0
        go_wp2
        refine ⟨by kernel_rfl, ?_⟩
        by_cases hmh : m ≤ h
        · go_wp2
          have t0 := E0.out _ G1.out
          refine Canon.region_held [105] _ (by kernel_rfl) (by kernel_rfl) (SFo.out _ G1.out) ?_
          have k1 := IH.out (l0 + m) (by omega) w1.drew a c _ _ za BS (PQ.out _ (gb_drew G1.out)) (SA.out.grown0 (gb_drew (gb_refl w1 none))) (HT.out.grown0 (gb_drew G1.out)) (by rw [← L0.out, ← HMm.out]; exact Nat.le_refl _) (by omega)
          have K1 := Lib.hid k1
          clear k1
          refine Canon.segs_at 7 _ _ _ (by kernel_rfl) ?_
          simp only [List.take_succ_cons, List.take_zero, List.drop_succ_cons, List.drop_zero]
          go_wp2_with fail
          refine (K1.out).mono ?_
          rintro e w2 ⟨x2, rfl, ⟨zb, ob, nb, eb, lb⟩, g2⟩
          rw [← L0.out, ← HMm.out] at lb
          have G2 := Lib.hid (gb_trans (gb_drew G1.out) g2)
          obtain ⟨A2, c2, rfl, b21, b22⟩ := ob.fm
          obtain ⟨l2, hl2⟩ : ∃ z, z = zb.length := ⟨_, rfl⟩
          rw [← hl2] at b21 ob lb ⊢
          have SB := Lib.hid ob.sl
          have EB := Lib.hid eb
          have L2 := Lib.hid hl2
          have F2 := Lib.hid (SFo.out _ G2.out)
          clear K1 ob nb eb g2 hl2
          go_wp2
          refine ⟨F2.out, ?_⟩
          have k2 := IH.out (n - h + m) (by omega) w2 a c _ _ ((AS.take n).drop h) BS (PQ.out _ G2.out) (S1.out.grown0 G2.out) (HT.out.grown0 G2.out) (by rw [List.length_drop, List.length_take, ← HNn.out, ← HMm.out]; omega) (by omega)
          have K2 := Lib.hid k2
          clear k2 F2
          refine Canon.segs_at 4 _ _ _ (by kernel_rfl) ?_
          simp only [List.take_succ_cons, List.take_zero, List.drop_succ_cons, List.drop_zero]
          go_wp2_with fail
          refine (K2.out).mono ?_
          rintro e w3 ⟨x3, rfl, ⟨zc, oc, nc, ec, lc⟩, g3⟩
          rw [List.length_drop, List.length_take, ← HNn.out, ← HMm.out] at lc
          have G3 := Lib.hid (gb_trans G2.out g3)
          have SB3 := Lib.hid (SB.out.grown0 g3)
          have SC := Lib.hid oc.sl
          have EC := Lib.hid ec
          have F3 := Lib.hid (SFo.out _ G3.out)
          have MV := Lib.hid (pmoved_c w3 g x3 zc h oc.sl (by omega) (by omega))
          clear K2 oc nc ec g3 SB
          go_wp2
          refine ⟨F3.out, ?_⟩
          refine Canon.segs_at 1 _ _ _ (by kernel_rfl) ?_
          simp only [List.take_succ_cons, List.take_zero, List.drop_succ_cons, List.drop_zero]
          go_wp2_with fail
          refine (MV.out).mono ?_
          rintro e w4 ⟨x4, rfl, od, g4⟩
          have G4 := Lib.hid (gb_trans G3.out g4)
          have SB4 := Lib.hid (SB3.out.grown0 g4)
          have F4 := Lib.hid (SFo.out _ G4.out)
          obtain ⟨zd, hzd⟩ : ∃ zd, zd = (if zc = [] then [] else List.replicate h 0 ++ zc) := ⟨_, rfl⟩
          have ed : ∀ z, ev zd z = z ^ h * ev zc z := fun z => by rw [hzd]; exact ev_moved zc h z
          have ld : zd.length ≤ n + m := by rw [hzd]; have := moved_len zc h; omega
          rw [← hzd] at od
          obtain ⟨A4, c4, rfl, b41, b42⟩ := od.fm
          obtain ⟨l4, hl4⟩ : ∃ z, z = zd.length := ⟨_, rfl⟩
          rw [← hl4] at b41 od ld ⊢
          have SD := Lib.hid od.sl
          have ED := Lib.hid ed
          have L4 := Lib.hid hl4
          clear MV F3 SB3 od g4 hzd ed hl4
          go_wp2
          refine ⟨F4.out, ?_⟩
          have P2 := Lib.hid (pts2 w4 24 _ _ zb zd SB4.out SD.out)
          have GA := Lib.hid (gb_alloc (gb_refl w4 none) (Obj.cells #[.slice A2 l2 c2, .slice A4 l4 c4] 24))
          have F5 := Lib.hid (SFo.out _ (gb_trans G4.out GA.out))
          refine Canon.segs_at 0 _ _ _ (by kernel_rfl) ?_
          simp only [List.take_succ_cons, List.take_zero, List.drop_succ_cons, List.drop_zero]
          go_wp2
          refine ⟨F5.out, ?_⟩
          refine Canon.segs_at 0 _ _ _ (by kernel_rfl) ?_
          simp only [List.take_succ_cons, List.take_zero, List.drop_succ_cons, List.drop_zero]
          have PL := Lib.hid (pplus_c _ I.r I.q p _ 2 (n + m) _ _ (RG.out _ (gb_trans G4.out GA.out)) P2.out (fun j hj => by
            rcases (show j = 0 ∨ j = 1 by omega) with rfl | rfl
            · show zb.length ≤ n + m
              rw [← L2.out]; omega
            · show zd.length ≤ n + m
              rw [← L4.out]; omega) (by omega) (by omega))
          go_wp2_with fail
          refine (PL.out).mono ?_
          rintro e w6 ⟨x6, rfl, po, g6⟩
          have G6 := Lib.hid (gb_trans (gb_trans G4.out GA.out) g6)
          have F6 := Lib.hid (SFo.out _ G6.out)
          have PO := Lib.hid po
          clear PL po g6
          go_wp2
          refine ⟨F6.out, ?_⟩
          refine Canon.segs_end _ _ _ (by kernel_rfl) ?_
          go_wp2
          refine ⟨by kernel_rfl, by kernel_rfl, by kernel_rfl, ?_⟩
          go_wp2
          go_ret
          refine ⟨_, rfl, (PO.out.fn ?_ (Nat.le_refl _)).mono (gb_trans G4.out GA.out).size, G6.out⟩
          have q1 := (EB.out.trans (EA.out.mul (Eqv.refl p (ev BS)) (isP_ev _) (isP_ev _)))
          have q2 := ((isP_pow h).ev_mul EC.out)
          refine ((q1.add q2).trans (Eqv.of_eq p fun z => ?_)).of_fn fun z => ?_
          · rw [HNn.out]
            have := ev_cut2 AS h (by rw [← HNn.out]; exact hhn) z
            rw [← this]; grind
          · show 0 + ev zb z + ev zd z = _
            rw [ED.out z]; simp
        · have hmh' : h < m := by omega
          have b1 := HT.out.mid h m (by omega) (by omega) (Nat.le_refl m)
          obtain ⟨bb, oo, rfl, sl2⟩ := b1
          have S3 := Lib.hid sl2
          have S2 := Lib.hid (HT.out.take h (by omega))
          have NM := Lib.hid (pnorm_c w1.drew I.r I.q p _ (BS.take h) (RG.out _ (gb_drew G1.out)) (S2.out.grown0 (gb_drew G1.out)) (by rw [List.length_take]; omega))
          clear sl2
          go_wp2
          have t0 := E0.out _ G1.out
          refine Canon.region_canon (by kernel_rfl) (by kernel_rfl) ?_
          go_wp2_with fail
          refine (NM.out).mono ?_
          rintro e w2 ⟨x1, rfl, ⟨zb, ob, nb, eb, lb⟩, g2⟩
          have G2 := Lib.hid (gb_trans (gb_drew G1.out) g2)
          obtain ⟨A1, c1, rfl, b11, b12⟩ := ob.fm
          have hl1 : zb.length ≤ h := by rw [List.length_take] at lb; omega
          obtain ⟨l1, hl1'⟩ : ∃ z, z = zb.length := ⟨_, rfl⟩
          rw [← hl1'] at b11 hl1 ob ⊢
          have SB := Lib.hid ob.sl
          have SA2 := Lib.hid (SA.out.grown0 (gb_trans (gb_drew (gb_refl w1 none)) g2))
          have EB := Lib.hid eb
          have L1 := Lib.hid hl1'
          clear NM ob nb eb lb g2 hl1' t0 SA
          go_wp2
          refine ⟨by kernel_rfl, ?_⟩
          have k1 := IH.out (l0 + l1) (by omega) w2 a c _ _ za zb (PQ.out _ G2.out) SA2.out SB.out (by rw [← L0.out, ← L1.out]; exact Nat.le_refl _) (by omega)
          have K1 := Lib.hid k1
          clear k1
          go_wp2_with fail
          refine (K1.out).mono ?_
          rintro e w3 ⟨x3, rfl, ⟨zl, ol, nl, el, ll⟩, g3⟩
          rw [← L0.out, ← L1.out] at ll
          have G3 := Lib.hid (gb_trans G2.out g3)
          have SA3 := Lib.hid (SA2.out.grown0 g3)
          have SB3 := Lib.hid (SB.out.grown0 g3)
          have SL := Lib.hid ol.sl
          have EL := Lib.hid el
          have k2 := IH.out (n - h + (m - h)) (by omega) w3 a c _ _ ((AS.take n).drop h) ((BS.take m).drop h) (PQ.out _ G3.out) (S1.out.grown0 G3.out) (S3.out.grown0 G3.out) (by rw [List.length_drop, List.length_take, List.length_drop, List.length_take, ← HNn.out, ← HMm.out]; omega) (by omega)
          have K2 := Lib.hid k2
          clear K1 k2 ol nl el g3 SA2 SB
          go_wp2_with fail
          refine (K2.out).mono ?_
          rintro e w4 ⟨x4, rfl, ⟨zh, oh, nh, eh, lh⟩, g4⟩
          rw [List.length_drop, List.length_take, List.length_drop, List.length_take, ← HNn.out, ← HMm.out] at lh
          have G4 := Lib.hid (gb_trans G3.out g4)
          have SA4 := Lib.hid (SA3.out.grown0 g4)
          have SB4 := Lib.hid (SB3.out.grown0 g4)
          have SL4 := Lib.hid (SL.out.grown0 g4)
          have SH := Lib.hid oh.sl
          have EH := Lib.hid eh
          clear K2 oh nh eh g4 SA3 SB3 SL
          have PL1 := Lib.hid (fun (W : World) (V : Value) (k : w.grownBy W none) (q : Pts W V 2 (fun j => [.slice A0 l0 c0, Value.slice (some ⟨b, o + h, none⟩) (n - h) (ca - h)].getD j (.slice A0 l0 c0)) (fun j => [za, (AS.take n).drop h].getD j [])) => pplus_c W I.r I.q p V 2 h _ _ (RG.out W k) q (fun j hj => by
            rcases (show j = 0 ∨ j = 1 by omega) with rfl | rfl
            · show za.length ≤ h
              rw [← L0.out]; exact hl0
            · show ((AS.take n).drop h).length ≤ h
              rw [List.length_drop, List.length_take, ← HNn.out]; omega) (by omega) (by omega))
          have PL2 := Lib.hid (fun (W : World) (V : Value) (k : w.grownBy W none) (q : Pts W V 2 (fun j => [.slice A1 l1 c1, Value.slice (some ⟨bb, oo + h, none⟩) (m - h) (cb - h)].getD j (.slice A1 l1 c1)) (fun j => [zb, (BS.take m).drop h].getD j [])) => pplus_c W I.r I.q p V 2 h _ _ (RG.out W k) q (fun j hj => by
            rcases (show j = 0 ∨ j = 1 by omega) with rfl | rfl
            · show zb.length ≤ h
              rw [← L1.out]; exact hl1
            · show ((BS.take m).drop h).length ≤ h
              rw [List.length_drop, List.length_take, ← HMm.out]; omega) (by omega) (by omega))
          have KK := Lib.hid (fun (W : World) (X Y : Value) (xs ys : List Int) (k : w.grownBy W none) (sx : Sl W X xs) (sy : Sl W Y ys) (hx : xs.length ≤ h) (hy : ys.length ≤ h) => IH.out (2 * h) (by omega) W a c X Y xs ys (PQ.out W k) sx sy (by omega) (by omega))
          have FN : Hid (∀ xs ys : List Int, Eqv p (ev xs) (smF (fun j => ev ([za, (AS.take n).drop h].getD j [])) 2) → Eqv p (ev ys) (smF (fun j => ev ([zb, (BS.take m).drop h].getD j [])) 2) → Eqv p (fun z => ev xs z * ev ys z) (fun z => (ev za z + ev ((AS.take n).drop h) z) * (ev zb z + ev ((BS.take m).drop h) z))) :=
            Lib.hid (fun xs ys e1 e2 => (Eqv.rows e1 e2).trans (Eqv.of_eq p fun z => by simp [smF]))
          have PA := Lib.hid (fun (W : World) (k : w4.grownBy W none) => pts2 W 24 (.slice A0 l0 c0) (Value.slice (some ⟨b, o + h, none⟩) (n - h) (ca - h)) za ((AS.take n).drop h) (SA4.out.grown0 k) (S1.out.grown0 (gb_trans G4.out k)))
          have PB := Lib.hid (fun (W : World) (k : w4.grownBy W none) => pts2 W 24 (.slice A1 l1 c1) (Value.slice (some ⟨bb, oo + h, none⟩) (m - h) (cb - h)) zb ((BS.take m).drop h) (SB4.out.grown0 k) (S3.out.grown0 (gb_trans G4.out k)))
          go_upto_region 11 with fail
          go_cut [14] from 138 to 155 (fun v14 wx => Po wx w4.heap.size v14 p (fun z => (ev za z + ev ((AS.take n).drop h) z) * (ev zb z + ev ((BS.take m).drop h) z)) (2 * h) ∧ w4.grownBy wx none)
          case first =>
            have t0 := E0.out _ G4.out
            refine Canon.region_s [142, 150] _ 15 [[0, 1, 2, 3, 4, 5, 6, 13, 14], [7], [8, 9, 10, 11, 12], [16, 17, 18]] (by kernel_rfl) (by kernel_rfl) (SFp.out _ G4.out) ?_
            simp only [Canon.segT, Canon.operL, List.filterMap_cons, List.filterMap_nil, List.getElem?_toArray, List.getElem?_cons_zero, List.getElem?_cons_succ, List.flatten_cons, List.flatten_nil, List.nil_append, List.cons_append]
            refine Canon.segs_end _ _ _ (by kernel_rfl) ?_
            go_wp2
            refine ⟨fun _ => ?_, ?_⟩
            · have D0 := gb_drew (gb_refl w4 none)
              have PB1 := PB.out _ D0
              have D1 := gb_alloc D0 (Obj.cells #[.slice A1 l1 c1, Value.slice (some ⟨bb, oo + h, none⟩) (m - h) (cb - h)] 24)
              have PA1 := PA.out _ D1
              rw [alloc_sz] at PA1
              have D2 := gb_alloc D1 (Obj.cells #[.slice A0 l0 c0, Value.slice (some ⟨b, o + h, none⟩) (n - h) (ca - h)] 24)
              have HB := Lib.hid (PB1.grown0 (gb_alloc (gb_refl _ none) (Obj.cells #[.slice A0 l0 c0, Value.slice (some ⟨b, o + h, none⟩) (n - h) (ca - h)] 24)))
              have HA := Lib.hid PA1
              have H1 := Lib.hid D1
              have H2 := Lib.hid D2
              clear D0 D1 D2 PB1 PA1
              refine Canon.segs_at 0 _ _ _ (by kernel_rfl) ?_
              simp only [List.take_succ_cons, List.take_zero, List.drop_succ_cons, List.drop_zero]
              go_wp2
              refine ⟨SFp.out _ (gb_trans G4.out H1.out), ?_⟩
              refine Canon.segs_at 0 _ _ _ (by kernel_rfl) ?_
              simp only [List.take_succ_cons, List.take_zero, List.drop_succ_cons, List.drop_zero]
              go_wp2
              refine ⟨SFp.out _ (gb_trans G4.out H2.out), ?_⟩
              refine Canon.segs_at 0 _ _ _ (by kernel_rfl) ?_
              simp only [List.take_succ_cons, List.take_zero, List.drop_succ_cons, List.drop_zero]
              go_wp2_with fail
              refine (PL1.out _ _ (gb_trans G4.out H2.out) HA.out).mono ?_
              rintro e w5 ⟨x5, rfl, ⟨xa, oxa, nxa, exa, la2⟩, g5⟩
              have G5 := Lib.hid (gb_trans H2.out g5)
              have SX := Lib.hid oxa.sl
              have HB5 := Lib.hid (HB.out.grown0 g5)
              clear oxa nxa g5
              go_wp2
              refine ⟨SFp.out _ (gb_trans G4.out G5.out), ?_⟩
              have t0 := E0.out _ (gb_trans G4.out G5.out)
              refine Canon.segs_at 4 _ _ _ (by kernel_rfl) ?_
              simp only [List.take_succ_cons, List.take_zero, List.drop_succ_cons, List.drop_zero]
              go_wp2_with fail
              refine (PL2.out _ _ (gb_trans G4.out G5.out) HB5.out).mono ?_
              rintro e w6 ⟨x6, rfl, ⟨xb, oxb, nxb, exb, lb2⟩, g6⟩
              have G6 := Lib.hid (gb_trans G5.out g6)
              have SX6 := Lib.hid (SX.out.grown0 g6)
              have SY6 := Lib.hid oxb.sl
              clear oxb nxb g6
              go_wp2
              refine ⟨SFp.out _ (gb_trans G4.out G6.out), ?_⟩
              refine Canon.segs_at 0 _ _ _ (by kernel_rfl) ?_
              simp only [List.take_succ_cons, List.take_zero, List.drop_succ_cons, List.drop_zero]
              go_wp2_with fail
              refine (KK.out _ _ _ xa xb (gb_trans G4.out G6.out) SX6.out SY6.out la2 lb2).mono ?_
              rintro e w7 ⟨x7, rfl, po, g7⟩
              have G7 := Lib.hid (gb_trans G6.out g7)
              have F7 := Lib.hid (SFp.out _ (gb_trans G4.out G7.out))
              have PO := Lib.hid ((po.fn (L' := 2 * h) (FN.out _ _ exa exb) (by omega)).mono G6.out.size)
              clear po g7
              go_wp2
              refine ⟨F7.out, ?_⟩
              refine Canon.segs_end _ _ _ (by kernel_rfl) ?_
              go_wp2
              refine ⟨Canon.endOk (by kernel_rfl) (by kernel_rfl) (by kernel_rfl), ?_⟩
              go_wp2_with fail
              go_meet
              exact ⟨PO.out, G7.out⟩
            · have D0 := gb_drew (gb_refl w4 none)
              have PA1 := PA.out _ D0
              have D1 := gb_alloc D0 (Obj.cells #[.slice A0 l0 c0, Value.slice (some ⟨b, o + h, none⟩) (n - h) (ca - h)] 24)
              have HA := Lib.hid PA1
              have H1 := Lib.hid D1
              clear D0 D1 PA1
              refine Canon.segs_at 0 _ _ _ (by kernel_rfl) ?_
              simp only [List.take_succ_cons, List.take_zero, List.drop_succ_cons, List.drop_zero]
              go_wp2
              refine ⟨SFp.out _ (gb_trans G4.out H1.out), ?_⟩
              refine Canon.segs_end _ _ _ (by kernel_rfl) ?_
              go_wp2
              refine ⟨fun _ => ?_, ?_⟩
              · have PB1 := PB.out _ H1.out
                rw [alloc_sz] at PB1
                have D2 := gb_alloc H1.out (Obj.cells #[.slice A1 l1 c1, Value.slice (some ⟨bb, oo + h, none⟩) (m - h) (cb - h)] 24)
                have HA2 := Lib.hid (HA.out.grown0 (gb_alloc (gb_refl _ none) (Obj.cells #[.slice A1 l1 c1, Value.slice (some ⟨bb, oo + h, none⟩) (m - h) (cb - h)] 24)))
                have HB := Lib.hid PB1
                have H2 := Lib.hid D2
                clear D2 PB1
                refine Canon.segs_at 0 _ _ _ (by kernel_rfl) ?_
                simp only [List.take_succ_cons, List.take_zero, List.drop_succ_cons, List.drop_zero]
                go_wp2
                refine ⟨SFp.out _ (gb_trans G4.out H2.out), ?_⟩
                refine Canon.segs_at 0 _ _ _ (by kernel_rfl) ?_
                simp only [List.take_succ_cons, List.take_zero, List.drop_succ_cons, List.drop_zero]
                go_wp2_with fail
                refine (PL1.out _ _ (gb_trans G4.out H2.out) HA2.out).mono ?_
                rintro e w5 ⟨x5, rfl, ⟨xa, oxa, nxa, exa, la2⟩, g5⟩
                have G5 := Lib.hid (gb_trans H2.out g5)
                have SX := Lib.hid oxa.sl
                have HB5 := Lib.hid (HB.out.grown0 g5)
                clear oxa nxa g5
                go_wp2
                refine ⟨SFp.out _ (gb_trans G4.out G5.out), ?_⟩
                have t0 := E0.out _ (gb_trans G4.out G5.out)
                refine Canon.segs_at 4 _ _ _ (by kernel_rfl) ?_
                simp only [List.take_succ_cons, List.take_zero, List.drop_succ_cons, List.drop_zero]
                go_wp2_with fail
                refine (PL2.out _ _ (gb_trans G4.out G5.out) HB5.out).mono ?_
                rintro e w6 ⟨x6, rfl, ⟨xb, oxb, nxb, exb, lb2⟩, g6⟩
                have G6 := Lib.hid (gb_trans G5.out g6)
                have SX6 := Lib.hid (SX.out.grown0 g6)
                have SY6 := Lib.hid oxb.sl
                clear oxb nxb g6
                go_wp2
                refine ⟨SFp.out _ (gb_trans G4.out G6.out), ?_⟩
                refine Canon.segs_at 0 _ _ _ (by kernel_rfl) ?_
                simp only [List.take_succ_cons, List.take_zero, List.drop_succ_cons, List.drop_zero]
                go_wp2_with fail
                refine (KK.out _ _ _ xa xb (gb_trans G4.out G6.out) SX6.out SY6.out la2 lb2).mono ?_
                rintro e w7 ⟨x7, rfl, po, g7⟩
                have G7 := Lib.hid (gb_trans G6.out g7)
                have F7 := Lib.hid (SFp.out _ (gb_trans G4.out G7.out))
                have PO := Lib.hid ((po.fn (L' := 2 * h) (FN.out _ _ exa exb) (by omega)).mono G6.out.size)
                clear po g7
                go_wp2
                refine ⟨F7.out, ?_⟩
                refine Canon.segs_end _ _ _ (by kernel_rfl) ?_
                go_wp2
                refine ⟨Canon.endOk (by kernel_rfl) (by kernel_rfl) (by kernel_rfl), ?_⟩
                go_wp2_with fail
                go_meet
                exact ⟨PO.out, G7.out⟩
              · skip
                refine Canon.segs_at 0 _ _ _ (by kernel_rfl) ?_
                simp only [List.take_succ_cons, List.take_zero, List.drop_succ_cons, List.drop_zero]
                go_wp2_with fail
                refine (PL1.out _ _ (gb_trans G4.out H1.out) HA.out).mono ?_
                rintro e w5 ⟨x5, rfl, ⟨xa, oxa, nxa, exa, la2⟩, g5⟩
                have G5 := Lib.hid (gb_trans H1.out g5)
                have SX := Lib.hid oxa.sl
                clear oxa nxa g5
                go_wp2
                refine ⟨SFp.out _ (gb_trans G4.out G5.out), ?_⟩
                have t0 := E0.out _ (gb_trans G4.out G5.out)
                refine Canon.segs_end _ _ _ (by kernel_rfl) ?_
                go_wp2
                refine ⟨fun h0 => absurd rfl h0, ?_⟩
                have PB1 := PB.out _ G5.out
                have D2 := gb_alloc G5.out (Obj.cells #[.slice A1 l1 c1, Value.slice (some ⟨bb, oo + h, none⟩) (m - h) (cb - h)] 24)
                have HB := Lib.hid PB1
                have H2 := Lib.hid D2
                have SX5 := Lib.hid (SX.out.grown0 (gb_alloc (gb_refl _ none) (Obj.cells #[.slice A1 l1 c1, Value.slice (some ⟨bb, oo + h, none⟩) (m - h) (cb - h)] 24)))
                clear D2 PB1
                refine Canon.segs_at 0 _ _ _ (by kernel_rfl) ?_
                simp only [List.take_succ_cons, List.take_zero, List.drop_succ_cons, List.drop_zero]
                go_wp2
                refine ⟨SFp.out _ (gb_trans G4.out H2.out), ?_⟩
                refine Canon.segs_at 0 _ _ _ (by kernel_rfl) ?_
                simp only [List.take_succ_cons, List.take_zero, List.drop_succ_cons, List.drop_zero]
                go_wp2_with fail
                refine (PL2.out _ _ (gb_trans G4.out H2.out) HB.out).mono ?_
                rintro e w6 ⟨x6, rfl, ⟨xb, oxb, nxb, exb, lb2⟩, g6⟩
                have G6 := Lib.hid (gb_trans H2.out g6)
                have SX6 := Lib.hid (SX5.out.grown0 g6)
                have SY6 := Lib.hid oxb.sl
                clear oxb nxb g6
                go_wp2
                refine ⟨SFp.out _ (gb_trans G4.out G6.out), ?_⟩
                refine Canon.segs_at 0 _ _ _ (by kernel_rfl) ?_
                simp only [List.take_succ_cons, List.take_zero, List.drop_succ_cons, List.drop_zero]
                go_wp2_with fail
                refine (KK.out _ _ _ xa xb (gb_trans G4.out G6.out) SX6.out SY6.out la2 lb2).mono ?_
                rintro e w7 ⟨x7, rfl, po, g7⟩
                have G7 := Lib.hid (gb_trans G6.out g7)
                have F7 := Lib.hid (SFp.out _ (gb_trans G4.out G7.out))
                have PO := Lib.hid ((po.fn (L' := 2 * h) (FN.out _ _ exa exb) (by omega)).mono G6.out.size)
                clear po g7
                go_wp2
                refine ⟨F7.out, ?_⟩
                refine Canon.segs_end _ _ _ (by kernel_rfl) ?_
                go_wp2
                refine ⟨Canon.endOk (by kernel_rfl) (by kernel_rfl) (by kernel_rfl), ?_⟩
                go_wp2_with fail
                go_meet
                exact ⟨PO.out, G7.out⟩
          case rest =>
            obtain ⟨⟨zo, oo', no, eo, lo⟩, gc⟩ := hcut
            have GC := Lib.hid (gb_trans G4.out gc)
            have SO := Lib.hid oo'.sl
            have EO := Lib.hid eo
            have SL5 := Lib.hid (SL4.out.grown0 gc)
            have SH5 := Lib.hid (SH.out.grown0 gc)
            clear oo' no eo gc PL1 PL2 KK FN PA PB SL4 SH SA4 SB4
            obtain ⟨A3, c3, rfl, b31, b32⟩ := SL5.out.form
            obtain ⟨A4, c4, rfl, b41, b42⟩ := SH5.out.form
            obtain ⟨l3, hl3⟩ : ∃ z, z = zl.length := ⟨_, rfl⟩
            obtain ⟨l4, hl4⟩ : ∃ z, z = zh.length := ⟨_, rfl⟩
            rw [← hl3] at b31 ll SL5 ⊢
            rw [← hl4] at b41 lh SH5 ⊢
            have L3 := Lib.hid hl3
            have L4 := Lib.hid hl4
            clear hl3 hl4
            have t0 := E0.out _ GC.out
            have PS := Lib.hid (pts2 wc.drew 24 (.slice A3 l3 c3) (.slice A4 l4 c4) zl zh (SL5.out.grown0 (gb_drew (gb_refl wc none))) (SH5.out.grown0 (gb_drew (gb_refl wc none))))
            have GB := Lib.hid (gb_alloc (gb_drew GC.out) (Obj.cells #[.slice A3 l3 c3, .slice A4 l4 c4] 24))
            have GB1 := Lib.hid (gb_alloc (gb_drew (gb_refl wc none)) (Obj.cells #[.slice A3 l3 c3, .slice A4 l4 c4] 24))
            have PL := Lib.hid (pplus_c _ I.r I.q p _ 2 (2 * h) _ _ (RG.out _ GB.out) PS.out (fun j hj => by
              rcases (show j = 0 ∨ j = 1 by omega) with rfl | rfl
              · show zl.length ≤ 2 * h
                rw [← L3.out]; omega
              · show zh.length ≤ 2 * h
                rw [← L4.out]; omega) (by omega) (by omega))
            go_wp2
            refine Canon.region_held [159, 164] _ (by kernel_rfl) (by kernel_rfl) (SFp.out _ GC.out) ?_
            refine Canon.segs_at 11 _ _ _ (by kernel_rfl) ?_
            simp only [List.take_succ_cons, List.take_zero, List.drop_succ_cons, List.drop_zero]
            go_wp2
            refine ⟨SFp.out _ GB.out, ?_⟩
            refine Canon.segs_at 0 _ _ _ (by kernel_rfl) ?_
            simp only [List.take_succ_cons, List.take_zero, List.drop_succ_cons, List.drop_zero]
            go_wp2_with fail
            refine (PL.out).mono ?_
            rintro e w5 ⟨x5, rfl, ⟨zs, os, ns, es, ls⟩, g5⟩
            have G5 := Lib.hid (gb_trans GB.out g5)
            have ES := Lib.hid es
            have MN := Lib.hid (pminus_c w5 I.r I.q p _ x5 zo zs (RG.out _ G5.out) (SO.out.grown0 (gb_trans GB1.out g5)) os.sl (by omega) (by omega))
            have SL6 := Lib.hid (SL5.out.grown0 (gb_trans GB1.out g5))
            have SH6 := Lib.hid (SH5.out.grown0 (gb_trans GB1.out g5))
            clear PL PS os ns es g5 SL5 SH5 SO
            go_wp2
            refine ⟨SFp.out _ G5.out, ?_⟩
            refine Canon.segs_at 0 _ _ _ (by kernel_rfl) ?_
            simp only [List.take_succ_cons, List.take_zero, List.drop_succ_cons, List.drop_zero]
            go_wp2_with fail
            refine (MN.out).mono ?_
            rintro e w6 ⟨x6, rfl, ⟨zm, om, nm, em, lm⟩, g6⟩
            have G6 := Lib.hid (gb_trans G5.out g6)
            have EM := Lib.hid em
            have SM := Lib.hid om.sl
            have SL7 := Lib.hid (SL6.out.grown0 g6)
            have SH7 := Lib.hid (SH6.out.grown0 g6)
            clear MN om nm em g6 SL6 SH6 GB GB1 t0
            go_wp2
            refine ⟨SFp.out _ G6.out, ?_⟩
            refine Canon.segs_end _ _ _ (by kernel_rfl) ?_
            go_wp2
            refine ⟨by kernel_rfl, by kernel_rfl, by kernel_rfl, ?_⟩
            have t0 := E0.out _ G6.out
            obtain ⟨H2, hH2⟩ : ∃ z, z = 2 * h := ⟨_, rfl⟩
            have eH2 : 2 * (h : Int) = (H2 : Int) := by omega
            have bH2 : H2 ≤ 5000 := by omega
            have HH2 := Lib.hid hH2
            have lm2 : zm.length ≤ 2 * h := by omega
            have MV := Lib.hid (pmoved_c w6.drew g x6 zm h (SM.out.grown0 (gb_drew (gb_refl w6 none))) (by omega) (by omega))
            go_wp2
            refine Canon.region_held [173] _ (by kernel_rfl) (by kernel_rfl) (SFo.out _ G6.out) ?_
            refine Canon.segs_at 8 _ _ _ (by kernel_rfl) ?_
            simp only [List.take_succ_cons, List.take_zero, List.drop_succ_cons, List.drop_zero]
            go_wp2_with fail
            refine (MV.out).mono ?_
            rintro e w7 ⟨x7, rfl, o7, g7⟩
            have G7 := Lib.hid (gb_trans (gb_drew G6.out) g7)
            have G67 := Lib.hid (gb_trans (gb_drew (gb_refl w6 none)) g7)
            obtain ⟨z7, hz7⟩ : ∃ zd, zd = (if zm = [] then [] else List.replicate h 0 ++ zm) := ⟨_, rfl⟩
            have e7 : ∀ z, ev z7 z = z ^ h * ev zm z := fun z => by rw [hz7]; exact ev_moved zm h z
            have l7 : z7.length ≤ n + m := by rw [hz7]; have := moved_len zm h; omega
            rw [← hz7] at o7
            obtain ⟨A7, c7, rfl, b71, b72⟩ := o7.fm
            obtain ⟨n7, hn7⟩ : ∃ z, z = z7.length := ⟨_, rfl⟩
            rw [← hn7] at b71 o7 l7 ⊢
            have S7 := Lib.hid o7.sl
            have E7 := Lib.hid e7
            have N7 := Lib.hid hn7
            have MV2 := Lib.hid (pmoved_c w7 g (.slice A4 l4 c4) zh H2 (SH7.out.grown0 G67.out) (by rw [← L4.out]; omega) (by omega))
            clear hH2 MV o7 e7 hz7 hn7
            go_wp2
            refine ⟨SFo.out _ G7.out, ?_⟩
            refine Canon.segs_at 4 _ _ _ (by kernel_rfl) ?_
            simp only [List.take_succ_cons, List.take_zero, List.drop_succ_cons, List.drop_zero]
            go_wp2_with fail
            refine (MV2.out).mono ?_
            rintro e w8 ⟨x8, rfl, o8, g8⟩
            have G8 := Lib.hid (gb_trans G7.out g8)
            obtain ⟨z8, hz8⟩ : ∃ zd, zd = (if zh = [] then [] else List.replicate H2 0 ++ zh) := ⟨_, rfl⟩
            have e8 : ∀ z, ev z8 z = z ^ H2 * ev zh z := fun z => by rw [hz8]; exact ev_moved zh H2 z
            have l8 : z8.length ≤ n + m := by rw [hz8]; have := moved_len zh H2; have := L4.out; have := HH2.out; omega
            rw [← hz8] at o8
            obtain ⟨A8, c8, rfl, b81, b82⟩ := o8.fm
            obtain ⟨n8, hn8⟩ : ∃ z, z = z8.length := ⟨_, rfl⟩
            rw [← hn8] at b81 o8 l8 ⊢
            have S8 := Lib.hid o8.sl
            have S78 := Lib.hid (S7.out.grown0 g8)
            have SL8 := Lib.hid (SL7.out.grown0 (gb_trans G67.out g8))
            have E8 := Lib.hid e8
            have N8 := Lib.hid hn8
            clear MV2 o8 e8 hz8 hn8 g8 g7
            go_wp2
            clear eH2
            refine ⟨SFo.out _ G8.out, ?_⟩
            have PS := Lib.hid (pts3 w8 24 (.slice A3 l3 c3) (.slice A7 n7 c7) (.slice A8 n8 c8) zl z7 z8 SL8.out S78.out S8.out)
            have GB := Lib.hid (gb_alloc G8.out (Obj.cells #[.slice A3 l3 c3, .slice A7 n7 c7, .slice A8 n8 c8] 24))
            refine Canon.segs_at 0 _ _ _ (by kernel_rfl) ?_
            simp only [List.take_succ_cons, List.take_zero, List.drop_succ_cons, List.drop_zero]
            go_wp2
            refine ⟨SFo.out _ GB.out, ?_⟩
            refine Canon.segs_at 0 _ _ _ (by kernel_rfl) ?_
            simp only [List.take_succ_cons, List.take_zero, List.drop_succ_cons, List.drop_zero]
            have PL := Lib.hid (pplus_c _ I.r I.q p _ 3 (n + m) _ _ (RG.out _ GB.out) PS.out (fun j hj => by
              rcases (show j = 0 ∨ j = 1 ∨ j = 2 by omega) with rfl | rfl | rfl
              · show zl.length ≤ n + m
                rw [← L3.out]; omega
              · show z7.length ≤ n + m
                rw [← N7.out]; exact l7
              · show z8.length ≤ n + m
                rw [← N8.out]; exact l8) (by omega) (by omega))
            go_wp2_with fail
            refine (PL.out).mono ?_
            rintro e w9 ⟨x9, rfl, po, g9⟩
            have G9 := Lib.hid (gb_trans GB.out g9)
            have PO := Lib.hid po
            clear PL po g9
            go_wp2
            refine ⟨SFo.out _ G9.out, ?_⟩
            refine Canon.segs_end _ _ _ (by kernel_rfl) ?_
            go_wp2
            refine ⟨by kernel_rfl, by kernel_rfl, by kernel_rfl, ?_⟩
            go_wp2
            go_ret
            refine ⟨_, rfl, (PO.out.fn ?_ (Nat.le_refl _)).mono GB.out.size, G9.out⟩
            have q0 := EL.out.trans (Eqv.rows EA.out EB.out)
            have q2 := EH.out
            have qa : Eqv p (fun z => (ev za z + ev ((AS.take n).drop h) z) * (ev zb z + ev ((BS.take m).drop h) z)) (fun z => (ev (AS.take h) z + ev ((AS.take n).drop h) z) * (ev (BS.take h) z + ev ((BS.take m).drop h) z)) :=
              (EA.out.add (Eqv.refl p _)).mul (EB.out.add (Eqv.refl p _)) ((isP_ev _).add (isP_ev _)) ((isP_ev _).add (isP_ev _))
            have q1 := EO.out.trans qa
            have qs : Eqv p (ev zs) (fun z => ev zl z + ev zh z) := ES.out.fn fun z => by simp [smF]
            have qm := EM.out.trans (q1.sub (qs.trans (q0.add q2)))
            have q7 := (isP_pow h).ev_mul qm
            have q8 := (isP_pow H2).ev_mul q2
            refine (((q0.add q7).add q8).trans (Eqv.of_eq p fun z => ?_)).of_fn fun z => ?_
            · have u1 := ev_cut2 AS h (by rw [← HNn.out]; exact hhn) z
              have u2 := ev_cut2 BS h (by rw [← HMm.out]; omega) z
              rw [← HNn.out] at u1
              rw [← HMm.out] at u2
              have u3 : z ^ H2 = z ^ h * z ^ h := by rw [HH2.out, ← Int.pow_add]; congr 1; omega
              show _ + z ^ h * _ + z ^ H2 * _ = _
              rw [u3, ← u1, ← u2]
              exact kara_id _ _ _ _ _
            · show 0 + ev zl z + ev z7 z + ev z8 z = _
              rw [E7.out z, E8.out z]; simp
  rcases Nat.lt_or_ge XS.length YS.length with h | h
  · exact (key V U YS XS hV hU (by omega) (by omega) U V (.inr ⟨rfl, rfl, h⟩)).mono fun e w' ⟨x, e1, po, k⟩ => ⟨x, e1, po.fn (Eqv.of_eq p fun z => Int.mul_comm _ _) (by omega), k⟩
  · exact key U V XS YS hU hV h (by omega) U V (.inl ⟨rfl, rfl⟩)
end Go.Proofs.YtimmpojeddcfnaaGreatDoor

/- Engines of polynomials: products by one product of naturals. -/
namespace Go.Proofs.YtimmpojeddcfnaaGreatDoor
open Go.RowKit

set_option maxRecDepth 100000 in
set_option maxHeartbeats 2000000 in
theorem packed_c (w : World) (u : Value) (xs : List Int) (k : Nat) (hu : Sl w u xs) (hl : xs.length ≤ 100000) (hk0 : 0 < k) (hk : k ≤ 100) :
    Calls Tryz.prog 75 #[u, .int .i64 k] w fun e w' => ∃ x os, e = .returned x ∧ Own w' w.heap.size x os ∧ Pk xs k xs.length os ∧ w.grownBy w' none := by
  obtain ⟨A, ca, rfl, hca, _⟩ := hu.form
  have HU := Lib.hid hu
  obtain ⟨n, hn⟩ : ∃ n, n = xs.length := ⟨_, rfl⟩
  rw [← hn] at hca hl ⊢
  obtain ⟨M, hM⟩ : ∃ M, M = k * n := ⟨_, rfl⟩
  have bM : M ≤ 100 * 100000 := by rw [hM]; exact Nat.mul_le_mul hk hl
  have eM : (k : Int) * (n : Int) = (M : Int) := by rw [hM]; exact (Int.natCast_mul _ _).symm
  have mk := make64 29 (by kernel_rfl) M M (M : Int) (M : Int) (by omega) (by omega) (by omega) (by omega)
  have OW := Lib.hid (own_made w w.heap.size M M (Nat.le_refl _) (by omega) (by omega))
  have G0 := Lib.hid (gb_alloc (gb_refl w none) (Obj.cells (madeCells #[.int .u64 0] M) 53))
  have P0 : Hid (Pk xs k 0 (List.replicate M 0) ∧ ∀ j, rd (List.replicate M 0) j = 0) := Lib.hid ⟨by rw [hM, hn]; exact Pk.start _ _, fun j => by rw [rd_replicate]⟩
  have HN := Lib.hid hn
  have HM := Lib.hid hM
  clear hu hn hM
  go_enter Tryz.func75, Tryz.ntmps75
  go_wp2
  clear mk eM
  go_loopw [15] (fun v15 wr => ∃ (i : Nat) (os : List Int), v15 = .int .i64 i ∧ i ≤ n ∧ (Pk xs k i os ∧ ∀ j, k * i ≤ j → rd os j = 0) ∧ Own wr w.heap.size (.slice (some ⟨w.heap.size, 0, none⟩) M M) os ∧ w.grownBy wr none) (fun v15 _ => n - (intOf v15).toNat)
  case atStart => exact ⟨0, _, rfl, by omega, ⟨P0.out.1, fun j _ => P0.out.2 j⟩, OW.out, G0.out⟩
  case round =>
    clear OW G0 P0
    obtain ⟨i, os, rfl, hi, pk, ow, G⟩ := hrel
    have PK := Lib.hid pk
    have OW := Lib.hid ow
    have GG := Lib.hid G
    clear pk ow G
    by_cases hlt : i < n
    · obtain ⟨b, o, rfl, hci⟩ := (HU.out.grown0 GG.out).at i (by rw [← HN.out]; exact hlt)
      have hx0 := rd_w HU.out.ws i
      obtain ⟨x, hx⟩ : ∃ x, x = rd xs i := ⟨_, rfl⟩
      rw [← hx] at hci hx0
      obtain ⟨K, hK⟩ : ∃ K, K = k * i := ⟨_, rfl⟩
      have eK : (k : Int) * (i : Int) = (K : Int) := by rw [hK]; exact (Int.natCast_mul _ _).symm
      have hKM : K < M := by rw [hK, HM.out]; exact Nat.mul_lt_mul_of_pos_left hlt hk0
      have fr := OW.out.free K
      have ce := OW.out.cell K (by rw [PK.out.1.len, ← HN.out, ← HM.out]; exact hKM)
      have ST := Lib.hid (PK.out.1.step hk0 HU.out.ws (by rw [← HN.out]; exact hlt) (PK.out.2 _ (Nat.le_refl _)))
      rw [← hx, ← hK] at ST
      have ZZ : Hid (∀ j, k * (i + 1) ≤ j → rd (os.set K x) j = 0) := Lib.hid (fun j hj => by
        have e : k * (i + 1) = k * i + k := Nat.mul_succ _ _
        rw [rd_set_ne (by omega)]
        exact PK.out.2 j (by omega))
      clear hx hK
      go_wp2
      clear eK
      go_roundw
      case rel => exact ⟨i + 1, _, by go_num, by omega, ⟨ST.out, ZZ.out⟩, OW.out.store K hx0.1 hx0.2, gb_set (p := ⟨w.heap.size, K, none⟩) GG.out (Nat.le_refl _) _⟩
      case measure => simp [intOf]; omega
    · obtain rfl : i = n := by omega
      go_wp2
      go_ret
      exact ⟨_, os, rfl, OW.out, PK.out.1, GG.out⟩
theorem bitsLen_c (a : Int) (ha : 0 ≤ a) (ha' : a < 18446744073709551616) (w : World) :
    Calls Tryz.prog 74 #[.int .u64 a] w fun e w' => e = .returned (.int .i64 (blen a.toNat)) ∧ w' = w := by
  have HL := Lib.hid (len64_c a ha ha' w)
  obtain ⟨l, hl⟩ : ∃ l, l = blen a.toNat := ⟨_, rfl⟩
  rw [← hl] at HL ⊢
  clear hl
  go_enter Tryz.func74, Tryz.ntmps74
  go_wp2_with fail
  refine (HL.out).mono ?_
  rintro e w1 ⟨rfl, h1⟩
  subst h1
  go_wp2
  go_ret
  exact ⟨rfl, rfl⟩
/-- The words of one coefficient, read one by one. -/
def wd (X : List Int) (s j t : Nat) : Int := if t < j then rd X (s + t) else 0
theorem wd_w {X : List Int} (h : Ws X) (s j t : Nat) : 0 ≤ wd X s j t ∧ wd X s j t < 18446744073709551616 := by
  unfold wd
  split
  · exact rd_w h _
  · exact ⟨by decide, by decide⟩
theorem wd_set {X : List Int} {s j t : Nat} (h : t ≠ j) : wd X s (j + 1) t = wd X s j t := by
  unfold wd
  by_cases h1 : t < j
  · rw [if_pos h1, if_pos (by omega)]
  · rw [if_neg h1, if_neg (by omega)]
theorem wd_self (X : List Int) (s j : Nat) : wd X s (j + 1) j = rd X (s + j) := by
  unfold wd
  rw [if_pos (by omega)]
def wds (X : List Int) (s j : Nat) : List Value := [.int .u64 (wd X s j 0), .int .u64 (wd X s j 1), .int .u64 (wd X s j 2)]
theorem wds_set {X : List Int} {s j : Nat} (h : j < 3) : (wds X s j).set j (.int .u64 (rd X (s + j))) = wds X s (j + 1) := by
  unfold wds
  rcases (show j = 0 ∨ j = 1 ∨ j = 2 by omega) with rfl | rfl | rfl
  · rw [wd_self, wd_set (t := 1) (by decide), wd_set (t := 2) (by decide)]; rfl
  · rw [wd_self, wd_set (t := 0) (by decide), wd_set (t := 2) (by decide)]; rfl
  · rw [wd_self, wd_set (t := 0) (by decide), wd_set (t := 1) (by decide)]; rfl
theorem wds_get {X : List Int} {s j : Nat} (t : Nat) (h : t < 3) : (wds X s j)[t]? = some (.int .u64 (wd X s j t)) := by
  rcases (show t = 0 ∨ t = 1 ∨ t = 2 by omega) with rfl | rfl | rfl <;> rfl
/-- All words of it are read. -/
theorem wds_last {X : List Int} {s j k : Nat} (hk : 0 < k) (hk3 : k ≤ 3) (hj : j ≤ k) (h : j = k ∨ X.length ≤ s + j) :
    ev ((X.drop s).take k) 18446744073709551616 = wd X s j 0 + 18446744073709551616 * (wd X s j 1 + 18446744073709551616 * wd X s j 2) := by
  have e : ∀ t, wd X s j t = if t < k then rd X (s + t) else 0 := fun t => by
    unfold wd
    by_cases h1 : t < j
    · rw [if_pos h1, if_pos (by omega)]
    · rw [if_neg h1]
      by_cases h2 : t < k
      · rw [if_pos h2, rd_beyond]
        omega
      · rw [if_neg h2]
  exact kron3 X s hk hk3 (by rw [e, if_pos hk]; rfl) (e 1) (e 2)
set_option maxRecDepth 100000 in
set_option maxHeartbeats 20000000 in
theorem kron_c {u : Tb} (hu : TbOk u) (w : World) (p : Int) (g : Nat) (I : Pix) (a : Int) (c : Mc) (U V : Value) (XS YS : List Int) (h : Pq w u p g I a c) (hd : Db w) (ha : a ≤ 900000000000000) (hU : Sl w U XS) (hV : Sl w V YS) (hl : XS.length + YS.length ≤ 340) :
    Calls Tryz.prog 30 #[.pointer (some ⟨g, 0, none⟩), U, V] w fun e w' => ∃ x a' c', e = .returned x ∧ Po w' w.heap.size x p (fun z => ev XS z * ev YS z) (XS.length + YS.length) ∧ Pq w' u p g I a' c' ∧ a' ≤ a + 10000000 ∧ w.grownBy w' (some I.gm) := by
  have hp := h.rg.m.neg0
  have hp3 := h.rg.m.pm.lo
  have hp' := h.rg.m.pm.hi
  have N1 := Lib.hid (pnorm_c w.drew I.r I.q p U XS h.rg.drew (hU.grown0 (gb_drew (gb_refl w none))) (by omega))
  have N2 := Lib.hid (fun w1 (k : w.grownBy w1 none) => pnorm_c w1 I.r I.q p V YS (h.rg.grown0 k) (hV.grown0 k) (by omega))
  have HP := Lib.hid h
  have HD := Lib.hid hd
  have HA := Lib.hid ha
  have t0 := h.pe.e0
  have SFo : Hid (∀ W, w.grownBy W none → Canon.SF [(⟨g, 0, none⟩, .pointer (some ⟨I.r, 0, none⟩))] W) := Lib.hid (fun W k => Canon.sf_cons (gb_cell0 k h.pe.e0) (Canon.sf_nil _))
  clear hU hV h hd ha
  go_enter Tryz.func30, Tryz.ntmps30
  go_wp2
  refine Canon.region_held [23] _ (by kernel_rfl) (by kernel_rfl) (SFo.out _ (gb_refl _ _)) ?_
  refine Canon.segs_at 5 _ _ _ (by kernel_rfl) ?_
  simp only [List.take_succ_cons, List.take_zero, List.drop_succ_cons, List.drop_zero]
  go_wp2_with fail
  refine (N1.out).mono ?_
  rintro e w1 ⟨x1, rfl, ⟨za, oa, na, ea, la⟩, g1⟩
  have G1 := Lib.hid (gb_trans (gb_drew (gb_refl w none)) g1)
  clear t0
  have t0 := gb_cell0 G1.out HP.out.pe.e0
  clear N1 g1
  go_wp2
  refine ⟨SFo.out _ G1.out, ?_⟩
  refine Canon.segs_at 5 _ _ _ (by kernel_rfl) ?_
  simp only [List.take_succ_cons, List.take_zero, List.drop_succ_cons, List.drop_zero]
  go_wp2_with fail
  refine (N2.out _ G1.out).mono ?_
  rintro e w2 ⟨x2, rfl, ⟨zb, ob, nb, eb, lb⟩, g2⟩
  have G2 := Lib.hid (gb_trans G1.out g2)
  have SA := Lib.hid (oa.sl.grown0 g2)
  have SB := Lib.hid ob.sl
  have E0 := Lib.hid (Eqv.rows ea eb)
  obtain ⟨A, ca, rfl, hca, hca2⟩ := oa.fm
  obtain ⟨B, cb, rfl, hcb, hcb2⟩ := ob.fm
  have RA := Lib.hid na
  have RB := Lib.hid nb
  clear N2 oa ob na nb ea eb g2 t0
  obtain ⟨la', ha⟩ : ∃ z, z = za.length := ⟨_, rfl⟩
  obtain ⟨lb', hb⟩ : ∃ z, z = zb.length := ⟨_, rfl⟩
  rw [← ha] at hca la SA
  rw [← hb] at hcb lb SB
  have LA := Lib.hid ha
  have LB := Lib.hid hb
  rw [← ha, ← hb]
  clear ha hb
  go_wp2
  refine ⟨SFo.out _ G2.out, ?_⟩
  refine Canon.segs_end _ _ _ (by kernel_rfl) ?_
  go_wp2
  refine ⟨by kernel_rfl, by kernel_rfl, by kernel_rfl, ?_⟩
  by_cases ha0 : la' = 0
  · subst ha0
    have EZ := Lib.hid (List.eq_nil_of_length_eq_zero LA.out.symm)
    go_wp2
    go_ret
    exact ⟨_, a, c, rfl, po_nil _ _ _ _ ((Eqv.of_eq p fun x => by rw [EZ.out]; simp [ev]).trans E0.out), HP.out.grown0 G2.out, by omega, gb_none G2.out _⟩
  by_cases hb0 : lb' = 0
  · subst hb0
    have EZ := Lib.hid (List.eq_nil_of_length_eq_zero LB.out.symm)
    have a0' : ((la' : Int) == 0) = false := by simp; omega
    go_wp2
    go_ret
    exact ⟨_, a, c, rfl, po_nil _ _ _ _ ((Eqv.of_eq p fun x => by rw [EZ.out]; simp [ev]).trans E0.out), HP.out.grown0 G2.out, by omega, gb_none G2.out _⟩
  have a0' : ((la' : Int) == 0) = false := by simp; omega
  have b0' : ((lb' : Int) == 0) = false := by simp; omega
  obtain ⟨m, hm⟩ : ∃ m, m = min la' lb' := ⟨_, rfl⟩
  obtain ⟨lp, hlp⟩ : ∃ l, l = blen (p - 1).toNat := ⟨_, rfl⟩
  obtain ⟨lm, hlm⟩ : ∃ l, l = blen m := ⟨_, rfl⟩
  obtain ⟨L2, hL2⟩ : ∃ l, l = 2 * lp := ⟨_, rfl⟩
  obtain ⟨D, hD⟩ : ∃ D, D = L2 + lm := ⟨_, rfl⟩
  obtain ⟨D63, hD63⟩ : ∃ z, z = D + 63 := ⟨_, rfl⟩
  obtain ⟨k, hk⟩ : ∃ k, k = D63 / 64 := ⟨_, rfl⟩
  have blp : 1 ≤ lp ∧ lp ≤ 62 := by
    rw [hlp]
    constructor
    · have := blen_lt (p - 1).toNat
      by_cases h0 : blen (p - 1).toNat = 0
      · rw [h0] at this; omega
      · omega
    · exact blen_le _ 62 (by omega)
  have blm : lm ≤ 9 := by rw [hlm]; exact blen_le _ 9 (by omega)
  have bk : 0 < k ∧ k ≤ 3 := by omega
  have KW : Hid ((m : Int) * (p * p) < 18446744073709551616 ^ k) := Lib.hid (by
    have h1 : p.toNat ≤ 2 ^ lp := by rw [hlp]; have := blen_lt (p - 1).toNat; omega
    have h2 : m < 2 ^ lm := by rw [hlm]; exact blen_lt m
    have := kron_words (k := k) h1 h2 (by rw [hk, hD63, hD, hL2])
    rwa [show ((p.toNat : Nat) : Int) = p by omega] at this)
  have KM : Hid (m = min la' lb') := Lib.hid hm
  have e2 : 2 * (lp : Int) = (L2 : Int) := by omega
  have e3 : (L2 : Int) + (lm : Int) = (D : Int) := by omega
  have e4 : (D : Int) + 63 = (D63 : Int) := by omega
  have e5 : (D63 : Int) / 64 = (k : Int) := by omega
  have LP := Lib.hid (fun w => len64_c (p - 1) (by omega) (by omega) w)
  have LM := Lib.hid (fun w => bitsLen_c (m : Int) (by omega) (by omega) w)
  rw [Int.toNat_natCast, ← hlm] at LM
  rw [← hlp] at LP
  have bm : m ≤ 340 := by omega
  have bL2 : L2 ≤ 124 := by omega
  have bD : D ≤ 133 := by omega
  have bD63 : D63 ≤ 196 := by omega
  have MP := Lib.hid (modP_c w2 I.q p (HP.out.rg.m.grown0 G2.out))
  clear hlp hlm hL2 hD hD63 hk
  have t0 := gb_cell0 G2.out HP.out.pe.e0
  have r0 := gb_cell0 G2.out HP.out.rg.c
  go_upto_region 4 with fail
  go_cut [7] from 34 to 52 (fun v7 wx => v7 = .int .i64 D ∧ w2 = wx)
  case first =>
    rcases Nat.lt_trichotomy la' lb' with hlt | heq | hgt
    · obtain rfl : m = la' := by omega
      clear hm
      go_wp2_with fail
      refine (MP.out).mono ?_
      rintro e w3 ⟨rfl, h3⟩
      subst h3
      go_wp2_with fail
      refine (LP.out _).mono ?_
      rintro e w3 ⟨rfl, h3⟩
      subst h3
      go_wp2_with fail
      refine (LM.out _).mono ?_
      rintro e w3 ⟨rfl, h3⟩
      subst h3
      go_wp2_with fail
      go_meet
      exact ⟨rfl, rfl⟩
    · subst heq
      obtain rfl : m = la' := by omega
      clear hm
      go_wp2_with fail
      refine (MP.out).mono ?_
      rintro e w3 ⟨rfl, h3⟩
      subst h3
      go_wp2_with fail
      refine (LP.out _).mono ?_
      rintro e w3 ⟨rfl, h3⟩
      subst h3
      go_wp2_with fail
      refine (LM.out _).mono ?_
      rintro e w3 ⟨rfl, h3⟩
      subst h3
      go_wp2_with fail
      go_meet
      exact ⟨rfl, rfl⟩
    · obtain rfl : m = lb' := by omega
      clear hm
      go_wp2_with fail
      refine (MP.out).mono ?_
      rintro e w3 ⟨rfl, h3⟩
      subst h3
      go_wp2_with fail
      refine (LP.out _).mono ?_
      rintro e w3 ⟨rfl, h3⟩
      subst h3
      go_wp2_with fail
      refine (LM.out _).mono ?_
      rintro e w3 ⟨rfl, h3⟩
      subst h3
      go_wp2_with fail
      go_meet
      exact ⟨rfl, rfl⟩
  case rest =>
    obtain ⟨rfl, hw⟩ := hcut
    subst hw
    clear LP LM MP e2 e3 r0 t0 a0' b0' hm
    have bal : k * la' + k * lb' ≤ 1020 := by
      have : k * la' + k * lb' = k * (la' + lb') := (Nat.mul_add _ _ _).symm
      have h2 : k * (la' + lb') ≤ 3 * 340 := Nat.mul_le_mul bk.2 (by omega)
      omega
    have P1 := Lib.hid (packed_c w2.drew _ za k (SA.out.grown0 (gb_drew (gb_refl w2 none))) (by rw [← LA.out]; omega) bk.1 (by omega))
    have P2 := Lib.hid (fun w3 (j : w2.grownBy w3 none) => packed_c w3 _ zb k (SB.out.grown0 j) (by rw [← LB.out]; omega) bk.1 (by omega))
    have PW := Lib.hid (fun W (j : w2.grownBy W none) => HP.out.grown0 (gb_trans G2.out j))
    have SFc : Hid (∀ W, Pe W p g I.r I.q I.k0 I.k1 I.k2 I.k3 I.k4 I.k5 I.k6 I.k7 I.k8 I.k9 I.g0 → Canon.SF [(⟨g, 1, none⟩, .pointer (some ⟨I.k0, 0, none⟩)), (⟨I.k0, 0, none⟩, .pointer (some ⟨I.k1, 0, none⟩)), (⟨I.k1, 0, none⟩, .pointer (some ⟨I.k2, 0, none⟩)), (⟨I.k2, 0, none⟩, .pointer (some ⟨I.k3, 0, none⟩)), (⟨I.k3, 0, none⟩, .pointer (some ⟨I.k4, 0, none⟩)), (⟨I.k4, 0, none⟩, .pointer (some ⟨I.k5, 0, none⟩)), (⟨I.k5, 0, none⟩, .pointer (some ⟨I.k6, 0, none⟩)), (⟨I.k6, 0, none⟩, .pointer (some ⟨I.k7, 0, none⟩)), (⟨I.k7, 0, none⟩, .pointer (some ⟨I.k8, 0, none⟩)), (⟨I.k8, 0, none⟩, .pointer (some ⟨I.k9, 0, none⟩)), (⟨I.k9, 0, none⟩, .pointer (some ⟨I.g0, 0, none⟩))] W) := Lib.hid (fun W h => by
      exact Canon.sf_cons h.e1 (Canon.sf_cons h.ch.c0 (Canon.sf_cons h.ch.c1 (Canon.sf_cons h.ch.c2 (Canon.sf_cons h.ch.c3 (Canon.sf_cons h.ch.c4 (Canon.sf_cons h.ch.c5 (Canon.sf_cons h.ch.c6 (Canon.sf_cons h.ch.c7 (Canon.sf_cons h.ch.c8 (Canon.sf_cons h.ch.c9 (Canon.sf_nil _))))))))))))
    have HQ := PW.out w2 (gb_refl _ _)
    have t1 := HQ.pe.e1
    have t2 := HQ.pe.ch.c0
    have t3 := HQ.pe.ch.c1
    have t4 := HQ.pe.ch.c2
    have t5 := HQ.pe.ch.c3
    have t6 := HQ.pe.ch.c4
    have t7 := HQ.pe.ch.c5
    have t8 := HQ.pe.ch.c6
    have t9 := HQ.pe.ch.c7
    have t10 := HQ.pe.ch.c8
    have t11 := HQ.pe.ch.c9
    clear HQ
    go_wp2
    refine Canon.region_held [59, 62, 65, 68, 71, 74, 77, 80, 83, 86, 89] _ (by kernel_rfl) (by kernel_rfl) (SFc.out _ (PW.out _ (gb_refl _ _)).pe) ?_
    refine Canon.segs_at 36 _ _ _ (by kernel_rfl) ?_
    simp only [List.take_succ_cons, List.take_zero, List.drop_succ_cons, List.drop_zero]
    go_wp2_with fail
    refine (P1.out).mono ?_
    rintro e w3 ⟨x3, pa, rfl, op, pk1, g3⟩
    have G3 := Lib.hid (gb_trans (gb_drew (gb_refl w2 none)) g3)
    have SP := Lib.hid op.sl
    have PK1 := Lib.hid pk1
    clear op pk1 g3 P1 t1 t2 t3 t4 t5 t6 t7 t8 t9 t10 t11
    go_wp2
    refine ⟨SFc.out _ (PW.out _ G3.out).pe, ?_⟩
    refine Canon.segs_at 2 _ _ _ (by kernel_rfl) ?_
    simp only [List.take_succ_cons, List.take_zero, List.drop_succ_cons, List.drop_zero]
    go_wp2_with fail
    refine (P2.out _ G3.out).mono ?_
    rintro e w4 ⟨x4, pb, rfl, oq, pk2, g4⟩
    have G4 := Lib.hid (gb_trans G3.out g4)
    have SP4 := Lib.hid (SP.out.grown0 g4)
    have SQ := Lib.hid oq.sl
    have PK2 := Lib.hid pk2
    clear oq pk2 g4 P2 SP
    go_wp2
    refine ⟨SFc.out _ (PW.out _ G4.out).pe, ?_⟩
    refine Canon.segs_at 0 _ _ _ (by kernel_rfl) ?_
    simp only [List.take_succ_cons, List.take_zero, List.drop_succ_cons, List.drop_zero]
    have HQ := PW.out w4 G4.out
    have ML := Lib.hid (HQ.en.mul2 hu (HD.out.grown0 (gb_trans G2.out G4.out)) HA.out SP4.out SQ.out (HQ.en.off SP4.out) (HQ.en.off SQ.out) (by rw [PK1.out.len, PK2.out.len, ← LA.out, ← LB.out]; omega))
    clear HQ
    go_wp2_with fail
    refine (ML.out).mono ?_
    rintro e w5 ⟨x5, c', a', rfl, wo, en, ha', g5⟩
    have EN := Lib.hid en
    have HA' := Lib.hid ha'
    have G5 := Lib.hid g5
    have PE5 := Lib.hid ((PW.out w4 G4.out).pe.grown (PW.out w4 G4.out).en.m g5)
    obtain ⟨X, ox, nx, vx⟩ := wo
    have SX := Lib.hid ox.sl
    obtain ⟨CX, cx, rfl, hcx, hcx2⟩ := ox.fm
    have VX : Hid (val 18446744073709551616 X = val (18446744073709551616 ^ k) za * val (18446744073709551616 ^ k) zb) := Lib.hid (by
      rw [← PK1.out.last SA.out.ws, ← PK2.out.last SB.out.ws]; exact vx)
    have SA5 := Lib.hid ((PW.out w4 G4.out).en.sl (SA.out.grown0 G4.out) g5)
    clear ML en ha' g5 ox nx vx
    obtain ⟨lx, hlx⟩ : ∃ z, z = X.length := ⟨_, rfl⟩
    rw [← hlx] at hcx SX ⊢
    have LX := Lib.hid hlx
    clear hlx
    go_wp2
    refine ⟨SFc.out _ PE5.out, ?_⟩
    refine Canon.segs_end _ _ _ (by kernel_rfl) ?_
    go_wp2
    refine ⟨by kernel_rfl, by kernel_rfl, by kernel_rfl, ?_⟩
    obtain ⟨n, hn⟩ : ∃ n, n + 1 = la' + lb' := ⟨la' + lb' - 1, by omega⟩
    have en : (la' : Int) + (lb' : Int) - 1 = (n : Int) := by omega
    have mk := make64 24 (by kernel_rfl) n n (n : Int) (n : Int) (by omega) (by omega) (by omega) (by omega)
    have OW := Lib.hid (own_made w5 w5.heap.size n n (Nat.le_refl _) (by omega) (by omega))
    have G0 := Lib.hid (gb_alloc (gb_refl w5 none) (Obj.cells (madeCells #[.int .u64 0] n) 53))
    have KR : Hid (∀ i, ev ((X.drop (k * i)).take k) 18446744073709551616 = rd (pmul za zb) i) := Lib.hid (fun i => kron SA.out.ws SB.out.ws SX.out.ws (M := p * p) (Int.mul_nonneg (by omega) (by omega)) (fun i j => by
      have h1 := RA.out.rd hp i
      have h2 := RB.out.rd hp j
      exact ⟨Int.mul_nonneg h1.1 h2.1, Int.mul_le_mul (by omega) (by omega) h2.1 (by omega)⟩) (by rw [← LA.out, ← LB.out, ← KM.out]; exact KW.out) VX.out i)
    have HNn := Lib.hid hn
    have bn : n ≤ 1000 := by omega
    clear hn SFc e4 e5
    go_wp2
    clear mk en
    go_loopw [106] (fun v106 wr => ∃ (i : Nat) (os : List Int), v106 = .int .i64 i ∧ i ≤ n ∧ Mp (fun j => rd (pmul za zb) j % p) n i os ∧ Own wr w5.heap.size (.slice (some ⟨w5.heap.size, 0, none⟩) n n) os ∧ w5.grownBy wr none) (fun v106 _ => n - (intOf v106).toNat)
    case atStart => exact ⟨0, _, rfl, by omega, Mp.start _ n, OW.out, G0.out⟩
    case round =>
      clear OW G0
      obtain ⟨i, os, rfl, hi, mp, ow, G⟩ := hrel
      obtain ⟨wq, rfl⟩ : ∃ wq : World, wq = wr := ⟨_, rfl⟩
      have MP := Lib.hid mp
      have OW := Lib.hid ow
      have GG := Lib.hid G
      clear mp ow G
      by_cases hlt : i < n
      · obtain ⟨S, hS⟩ : ∃ S, S = k * i := ⟨_, rfl⟩
        have eS : (k : Int) * (i : Int) = (S : Int) := by rw [hS]; exact (Int.natCast_mul _ _).symm
        have bS : S ≤ 3000 := by
          have : k * i ≤ 3 * 1000 := Nat.mul_le_mul bk.2 (by omega)
          omega
        have HS := Lib.hid hS
        have C0 := cs_new wq #[.int .u64 0, .int .u64 0, .int .u64 0] 144
        have GA := gb_alloc (gb_refl wq none) (Obj.cells #[.int .u64 0, .int .u64 0, .int .u64 0] 144)
        have C1 : Hid (Cs (wq.alloc (Obj.cells #[.int .u64 0, .int .u64 0, .int .u64 0] 144)) wq.heap.size (wds X S 0)) := Lib.hid C0
        have OW1 := Lib.hid (OW.out.grown0 GA)
        have GG1 := Lib.hid (gb_trans GG.out GA)
        have hbs : Hid (w5.heap.size < wq.heap.size) := Lib.hid OW.out.base_le.2
        clear hS C0 GA
        go_wp2
        go_loopw [13] (fun v13 ws => ∃ (j : Nat), v13 = .int .i64 j ∧ j ≤ k ∧ Cs ws wq.heap.size (wds X S j) ∧ Own ws w5.heap.size (.slice (some ⟨w5.heap.size, 0, none⟩) n n) os ∧ w5.grownBy ws none) (fun v13 _ => k - (intOf v13).toNat)
        case atStart => exact ⟨0, rfl, by omega, C1.out, OW1.out, GG1.out⟩
        case round =>
          clear C1 OW1 GG1
          obtain ⟨j, rfl, hj, cs, ow, G⟩ := hrel
          obtain ⟨ws, rfl⟩ : ∃ ws : World, ws = wr := ⟨_, rfl⟩
          have CS := Lib.hid cs
          have OW2 := Lib.hid ow
          have GG2 := Lib.hid G
          clear cs ow G
          by_cases hstep : j < k ∧ S + j < lx
          · obtain ⟨h1, h2⟩ := hstep
            obtain ⟨bX, oX, rfl, hcX⟩ := (SX.out.grown0 GG2.out).at (S + j) (by rw [← LX.out]; exact h2)
            have hx0 := rd_w SX.out.ws (S + j)
            obtain ⟨x, hx⟩ : ∃ x, x = rd X (S + j) := ⟨_, rfl⟩
            rw [← hx] at hcX hx0
            have cj := CS.out.cell j (wds_get j (by omega))
            have fj := CS.out.free j (wds_get j (by omega))
            have CN := Lib.hid (CS.out.set j (.int .u64 x))
            rw [hx, wds_set (by omega), ← hx] at CN
            have d1 : decide ((j : Int) < (k : Int)) = true := decide_eq_true (by omega)
            have d2 : decide ((S : Int) + (j : Int) < (lx : Int)) = true := decide_eq_true (by omega)
            clear hx
            go_wp2
            go_roundw
            case rel => exact ⟨j + 1, by go_num, by omega, CN.out, OW2.out.grown (gb_rowC (gb_refl _ _) j _) (by right; simp [Value.ownBlock]; have := hbs.out; omega), gb_set (p := ⟨wq.heap.size, j, none⟩) GG2.out (by have := hbs.out; show w5.heap.size ≤ wq.heap.size; omega) _⟩
            case measure => simp [intOf]; omega
          · have KV : ev ((X.drop S).take k) 18446744073709551616 = rd (pmul za zb) i := by rw [HS.out]; exact KR.out i
            by_cases h1 : j < k
            · have h2 : ¬ S + j < lx := fun h => hstep ⟨h1, h⟩
              have KE := wds_last (X := X) (s := S) (j := j) bk.1 bk.2 hj (.inr (by rw [← LX.out]; omega))
              have d1 : decide ((j : Int) < (k : Int)) = true := decide_eq_true (by omega)
              have d2 : decide ((S : Int) + (j : Int) < (lx : Int)) = false := decide_eq_false (by omega)
              have c0 := CS.out.cell 0 (wds_get 0 (by decide))
              have c1 := CS.out.cell 1 (wds_get 1 (by decide))
              have c2 := CS.out.cell 2 (wds_get 2 (by decide))
              have w0 := wd_w SX.out.ws S j 0
              have w1' := wd_w SX.out.ws S j 1
              have w2' := wd_w SX.out.ws S j 2
              rw [KE] at KV
              obtain ⟨y0, hy0⟩ : ∃ y, y = wd X S j 0 := ⟨_, rfl⟩
              obtain ⟨y1, hy1⟩ : ∃ y, y = wd X S j 1 := ⟨_, rfl⟩
              obtain ⟨y2, hy2⟩ : ∃ y, y = wd X S j 2 := ⟨_, rfl⟩
              rw [← hy0] at c0 w0 KV
              rw [← hy1] at c1 w1' KV
              rw [← hy2] at c2 w2' KV
              have PEs := PE5.out.grown0 GG2.out
              have RS := Lib.hid (residue_c ws p g I.r I.q y0 y1 y2 PEs.e0 PEs.rg w0 w1' w2')
              rw [KV] at RS
              clear hy0 hy1 hy2 PEs KE KV
              go_wp2_with fail
              refine (RS.out).mono ?_
              rintro e wa ⟨rfl, ga⟩
              have OW3 := Lib.hid (OW2.out.grown0 ga)
              have GG3 := Lib.hid (gb_trans GG2.out ga)
              have fr := OW3.out.free i
              have ce := OW3.out.cell i (by rw [MP.out.len]; exact hlt)
              have mm := mod_nn (x := rd (pmul za zb) i) hp
              have MS := Lib.hid (MP.out.step hlt)
              obtain ⟨y, hy⟩ : ∃ y, y = rd (pmul za zb) i % p := ⟨_, rfl⟩
              rw [← hy] at mm MS ⊢
              clear RS ga OW2 GG2 c0 c1 c2 CS hy
              go_wp2
              clear eS
              go_roundw
              case rel => exact ⟨i + 1, _, by go_num, by omega, MS.out, OW3.out.store i mm.1 (by omega), gb_set (p := ⟨w5.heap.size, i, none⟩) GG3.out (Nat.le_refl _) _⟩
              case measure => simp [intOf]; omega
            · obtain rfl : j = k := by omega
              have KE := wds_last (X := X) (s := S) (j := j) bk.1 bk.2 hj (.inl rfl)
              have c0 := CS.out.cell 0 (wds_get 0 (by decide))
              have c1 := CS.out.cell 1 (wds_get 1 (by decide))
              have c2 := CS.out.cell 2 (wds_get 2 (by decide))
              have w0 := wd_w SX.out.ws S j 0
              have w1' := wd_w SX.out.ws S j 1
              have w2' := wd_w SX.out.ws S j 2
              rw [KE] at KV
              obtain ⟨y0, hy0⟩ : ∃ y, y = wd X S j 0 := ⟨_, rfl⟩
              obtain ⟨y1, hy1⟩ : ∃ y, y = wd X S j 1 := ⟨_, rfl⟩
              obtain ⟨y2, hy2⟩ : ∃ y, y = wd X S j 2 := ⟨_, rfl⟩
              rw [← hy0] at c0 w0 KV
              rw [← hy1] at c1 w1' KV
              rw [← hy2] at c2 w2' KV
              have PEs := PE5.out.grown0 GG2.out
              have RS := Lib.hid (residue_c ws p g I.r I.q y0 y1 y2 PEs.e0 PEs.rg w0 w1' w2')
              rw [KV] at RS
              clear hy0 hy1 hy2 PEs KE KV
              go_wp2_with fail
              refine (RS.out).mono ?_
              rintro e wa ⟨rfl, ga⟩
              have OW3 := Lib.hid (OW2.out.grown0 ga)
              have GG3 := Lib.hid (gb_trans GG2.out ga)
              have fr := OW3.out.free i
              have ce := OW3.out.cell i (by rw [MP.out.len]; exact hlt)
              have mm := mod_nn (x := rd (pmul za zb) i) hp
              have MS := Lib.hid (MP.out.step hlt)
              obtain ⟨y, hy⟩ : ∃ y, y = rd (pmul za zb) i % p := ⟨_, rfl⟩
              rw [← hy] at mm MS ⊢
              clear RS ga OW2 GG2 c0 c1 c2 CS hy
              go_wp2
              clear eS
              go_roundw
              case rel => exact ⟨i + 1, _, by go_num, by omega, MS.out, OW3.out.store i mm.1 (by omega), gb_set (p := ⟨w5.heap.size, i, none⟩) GG3.out (Nat.le_refl _) _⟩
              case measure => simp [intOf]; omega
      · obtain rfl : i = n := by omega
        have NF := Lib.hid (pnorm_c wq I.r I.q p _ os (PE5.out.grown0 GG.out).rg OW.out.sl (by rw [MP.out.len]; omega))
        have q0 := (PE5.out.grown0 GG.out).e0
        go_wp2_with fail
        refine (NF.out).mono ?_
        rintro e w6 ⟨x6, rfl, po, g6⟩
        go_wp2
        go_ret
        have G6 := gb_trans GG.out g6
        refine ⟨_, a', c', rfl, (po.fn (L' := XS.length + YS.length) ?_ (by rw [MP.out.len]; have := HNn.out; omega)).mono (Nat.le_trans (gb_trans G2.out G4.out).size (Nat.le_trans G5.out.size GG.out.size)), ⟨PE5.out.grown0 G6, EN.out.grown0 G6⟩, HA'.out, gb_trans (gb_trans (gb_none (gb_trans G2.out G4.out) _) G5.out) (gb_none G6 _)⟩
        have e1 : Eqv p (ev os) (ev (pmul za zb)) := MP.out.eqv (fun j _ => Cg.mod _ _) (by rw [pmul_len za zb (by rw [← LA.out]; omega) (by rw [← LB.out]; omega), ← LA.out, ← LB.out]; have := HNn.out; omega)
        exact (e1.fn fun z => ev_pmul za zb z).trans E0.out
end Go.Proofs.YtimmpojeddcfnaaGreatDoor

/- Engines of polynomials: products by transforms; by the table. -/
namespace Go.Proofs.YtimmpojeddcfnaaGreatDoor
open Go.RowKit

theorem sumI_first (f : Nat → Int) : ∀ n, sumI f (n + 1) = f 0 + sumI (fun t => f (t + 1)) n
  | 0 => by simp [sumI]
  | n + 1 => by
    have := sumI_first f n
    rw [sumI, this, sumI]; omega
theorem rd_pmul : ∀ (a b : List Int) (k : Nat), rd (pmul a b) k = cv (rd a) (rd b) k
  | [], b, k => by
    have : ∀ n, sumI (fun t => rd [] t * rd b (k - t)) n = 0 := fun n => by
      induction n with
      | zero => rfl
      | succ n ih => rw [sumI, ih, rd_nil]; simp
    rw [pmul, rd_nil]
    exact (this _).symm
  | c :: a, b, 0 => by
    rw [pmul, rd_padd, rd_pscl, rd_cons0]
    unfold cv
    simp [sumI, rd_cons0]
  | c :: a, b, k + 1 => by
    rw [pmul, rd_padd, rd_pscl, rd_cons1, rd_pmul a b k]
    unfold cv
    have e := sumI_first (fun t => rd (c :: a) t * rd b (k + 1 - t)) (k + 1)
    have : sumI (fun t => rd (c :: a) (t + 1) * rd b (k + 1 - (t + 1))) (k + 1) = sumI (fun t => rd a t * rd b (k - t)) (k + 1) := sumI_congr _ fun t _ => by
      rw [rd_cons1, show k + 1 - (t + 1) = k - t by omega]
    rw [e, this]; rfl
theorem cv_nn {a b : List Int} (ha : Ws a) (hb : Ws b) (k : Nat) : 0 ≤ cv (rd a) (rd b) k := sumI_nonneg _ fun t _ => Int.mul_nonneg (rd_w ha t).1 (rd_w hb _).1
theorem tr_le {n m : Nat} (h : n + m ≤ 1024) : transf n m 3 ≤ 100000 := by
  unfold transf
  obtain ⟨L, hL⟩ : ∃ L, L = blen (n + m - 1) := ⟨_, rfl⟩
  obtain ⟨N, hN⟩ : ∃ N, N = 2 ^ L := ⟨_, rfl⟩
  have hL10 : L ≤ 10 := by rw [hL]; exact blen10 h
  have hN10 : N ≤ 1024 := by rw [hN]; exact Nat.pow_le_pow_right (by decide) hL10
  rw [← hL, ← hN]
  have h1 : 3 * (N / 2) ≤ 3 * 512 := Nat.mul_le_mul (Nat.le_refl _) (by omega)
  have h2 : 3 * (N / 2) * L ≤ 1536 * 10 := Nat.mul_le_mul h1 hL10
  omega
set_option maxRecDepth 100000 in
set_option maxHeartbeats 20000000 in
theorem ntt_c {u : Tb} (_hu : TbOk u) (w : World) (p : Int) (g : Nat) (I : Pix) (a : Int) (c : Mc) (U V : Value) (XS YS : List Int) (h : Pq w u p g I a c) (hd : Db w) (ha : a ≤ 900000000000000) (hU : Sl w U XS) (hV : Sl w V YS) (hl : XS.length + YS.length ≤ 340) :
    Calls Tryz.prog 31 #[.pointer (some ⟨g, 0, none⟩), U, V] w fun e w' => ∃ x a' c', e = .returned x ∧ Po w' w.heap.size x p (fun z => ev XS z * ev YS z) (XS.length + YS.length) ∧ Pq w' u p g I a' c' ∧ a' ≤ a + 10000000 ∧ w.grownBy w' (some I.gm) := by
  have hp := h.rg.m.neg0
  have hp3 := h.rg.m.pm.lo
  have hp' := h.rg.m.pm.hi
  have N1 := Lib.hid (pnorm_c w.drew I.r I.q p U XS h.rg.drew (hU.grown0 (gb_drew (gb_refl w none))) (by omega))
  have N2 := Lib.hid (fun w1 (k : w.grownBy w1 none) => pnorm_c w1 I.r I.q p V YS (h.rg.grown0 k) (hV.grown0 k) (by omega))
  have HP := Lib.hid h
  have HD := Lib.hid hd
  have HA := Lib.hid ha
  have t0 := h.pe.e0
  have SFo : Hid (∀ W, w.grownBy W none → Canon.SF [(⟨g, 0, none⟩, .pointer (some ⟨I.r, 0, none⟩))] W) := Lib.hid (fun W k => Canon.sf_cons (gb_cell0 k h.pe.e0) (Canon.sf_nil _))
  clear hU hV h hd ha
  go_enter Tryz.func31, Tryz.ntmps31
  go_wp2
  refine Canon.region_held [21] _ (by kernel_rfl) (by kernel_rfl) (SFo.out _ (gb_refl _ _)) ?_
  refine Canon.segs_at 5 _ _ _ (by kernel_rfl) ?_
  simp only [List.take_succ_cons, List.take_zero, List.drop_succ_cons, List.drop_zero]
  go_wp2_with fail
  refine (N1.out).mono ?_
  rintro e w1 ⟨x1, rfl, ⟨za, oa, na, ea, la⟩, g1⟩
  have G1 := Lib.hid (gb_trans (gb_drew (gb_refl w none)) g1)
  clear t0
  have t0 := gb_cell0 G1.out HP.out.pe.e0
  clear N1 g1
  go_wp2
  refine ⟨SFo.out _ G1.out, ?_⟩
  refine Canon.segs_at 5 _ _ _ (by kernel_rfl) ?_
  simp only [List.take_succ_cons, List.take_zero, List.drop_succ_cons, List.drop_zero]
  go_wp2_with fail
  refine (N2.out _ G1.out).mono ?_
  rintro e w2 ⟨x2, rfl, ⟨zb, ob, nb, eb, lb⟩, g2⟩
  have G2 := Lib.hid (gb_trans G1.out g2)
  have SA := Lib.hid (oa.sl.grown0 g2)
  have SB := Lib.hid ob.sl
  have E0 := Lib.hid (Eqv.rows ea eb)
  obtain ⟨A, ca, rfl, hca, hca2⟩ := oa.fm
  obtain ⟨B, cb, rfl, hcb, hcb2⟩ := ob.fm
  have RA := Lib.hid na
  have RB := Lib.hid nb
  clear N2 oa ob na nb ea eb g2 t0
  obtain ⟨la', ha⟩ : ∃ z, z = za.length := ⟨_, rfl⟩
  obtain ⟨lb', hb⟩ : ∃ z, z = zb.length := ⟨_, rfl⟩
  rw [← ha] at hca la SA
  rw [← hb] at hcb lb SB
  have LA := Lib.hid ha
  have LB := Lib.hid hb
  rw [← ha, ← hb]
  clear ha hb
  go_wp2
  refine ⟨SFo.out _ G2.out, ?_⟩
  refine Canon.segs_end _ _ _ (by kernel_rfl) ?_
  go_wp2
  refine ⟨by kernel_rfl, by kernel_rfl, by kernel_rfl, ?_⟩
  by_cases ha0 : la' = 0
  · subst ha0
    have EZ := Lib.hid (List.eq_nil_of_length_eq_zero LA.out.symm)
    go_wp2
    go_ret
    exact ⟨_, a, c, rfl, po_nil _ _ _ _ ((Eqv.of_eq p fun x => by rw [EZ.out]; simp [ev]).trans E0.out), HP.out.grown0 G2.out, by omega, gb_none G2.out _⟩
  by_cases hb0 : lb' = 0
  · subst hb0
    have EZ := Lib.hid (List.eq_nil_of_length_eq_zero LB.out.symm)
    have a0' : ((la' : Int) == 0) = false := by simp; omega
    go_wp2
    go_ret
    exact ⟨_, a, c, rfl, po_nil _ _ _ _ ((Eqv.of_eq p fun x => by rw [EZ.out]; simp [ev]).trans E0.out), HP.out.grown0 G2.out, by omega, gb_none G2.out _⟩
  have a0' : ((la' : Int) == 0) = false := by simp; omega
  have b0' : ((lb' : Int) == 0) = false := by simp; omega
  have HQ := HP.out.grown0 G2.out
  have OA := (HQ.en.off SA.out).resolve_left (fun e => ha0 (by rw [LA.out, e]; rfl))
  have OB := (HQ.en.off SB.out).resolve_left (fun e => hb0 (by rw [LB.out, e]; rfl))
  have WD := Lib.hid (words_c w2 I.gm a 0 c _ _ za zb HQ.en.m (HD.out.grown0 G2.out) (by have := HA.out; omega) SA.out SB.out (by rw [← LA.out]; omega) (by rw [← LB.out]; omega) (by rw [← LA.out, ← LB.out]; omega) OA OB)
  rw [← LA.out, ← LB.out] at WD
  obtain ⟨n, hn⟩ : ∃ n, n = la' + lb' - 1 := ⟨_, rfl⟩
  rw [← hn] at WD
  have HN := Lib.hid hn
  have bn : n ≤ 1000 := by omega
  have t1 := HQ.pe.e1
  have t2 := HQ.pe.ch.c0
  have t3 := HQ.pe.ch.c1
  have t4 := HQ.pe.ch.c2
  have t5 := HQ.pe.ch.c3
  have t6 := HQ.pe.ch.c4
  have t7 := HQ.pe.ch.c5
  have t8 := HQ.pe.ch.c6
  have t9 := HQ.pe.ch.c7
  have t10 := HQ.pe.ch.c8
  have t11 := HQ.pe.ch.c9
  have t12 := HQ.en.e.h0
  have t13 := HQ.en.e.h1
  have t14 := HQ.en.e.h2
  have t15 := HQ.en.e.h3
  clear OA OB hn
  go_wp2_with fail
  refine (WD.out).mono ?_
  rintro e w5 ⟨gl, os, rfl, ol, jo, mt, hgl, g5⟩
  clear t1 t2 t3 t4 t5 t6 t7 t8 t9 t10 t11 t12 t13 t14 t15
  have EN := Lib.hid (⟨HQ.en.e.grown g5, mt, HQ.en.t⟩ : En w5 u I.g0 I.g1 I.g2 I.g3 I.gm _ c)
  have PE5 := Lib.hid (HQ.pe.grown HQ.en.m g5)
  have TR : Hid (a + ((transf la' lb' 3 : Nat) : Int) ≤ a + 10000000) := Lib.hid (by have := tr_le (n := la') (m := lb') (by omega); omega)
  have G5 := Lib.hid g5
  have OL := Lib.hid ol
  have JO := Lib.hid jo
  have mk := make64 24 (by kernel_rfl) n n (n : Int) (n : Int) (by omega) (by omega) (by omega) (by omega)
  have OW := Lib.hid (own_made w5 w5.heap.size n n (Nat.le_refl _) (by omega) (by omega))
  have G0 := Lib.hid (gb_alloc (gb_refl w5 none) (Obj.cells (madeCells #[.int .u64 0] n) 53))
  have KR : Hid (∀ i, i < n → ((t3 os i : Nat) : Int) = rd (pmul za zb) i) := Lib.hid (fun i hi => by
    rw [rd_pmul, JO.out.v i hi]
    have := cv_nn SA.out.ws SB.out.ws i
    omega)
  clear HQ WD ol jo mt hgl g5 a0' b0'
  go_wp2
  clear mk
  go_loopw [97] (fun v97 wr => ∃ (i : Nat) (ys : List Int), v97 = .int .i64 i ∧ i ≤ n ∧ Mp (fun j => rd (pmul za zb) j % p) n i ys ∧ Own wr w5.heap.size (.slice (some ⟨w5.heap.size, 0, none⟩) n n) ys ∧ w5.grownBy wr none) (fun v97 _ => n - (intOf v97).toNat)
  case atStart => exact ⟨0, _, rfl, by omega, Mp.start _ n, OW.out, G0.out⟩
  case round =>
    clear OW G0
    obtain ⟨i, ys, rfl, hi, mp, ow, G⟩ := hrel
    obtain ⟨wq, rfl⟩ : ∃ wq : World, wq = wr := ⟨_, rfl⟩
    have MP := Lib.hid mp
    have OW := Lib.hid ow
    have GG := Lib.hid G
    clear mp ow G
    by_cases hlt : i < n
    · have OL3 := OL.out.grown0 GG.out
      have d0 := OL3.cell3 i hlt 0 (by decide)
      rw [Nat.add_zero] at d0
      have d1 := OL3.cell3 i hlt 1 (by decide)
      have d2 := OL3.cell3 i hlt 2 (by decide)
      have KV := KR.out i hlt
      have KV2 : ((t3 os i : Nat) : Int) = rd os (i * 3) + 18446744073709551616 * (rd os (i * 3 + 1) + 18446744073709551616 * rd os (i * 3 + 2)) := by
        show ((val 18446744073709551616 (ts3 os i) : Nat) : Int) = _
        rw [ev_val (fun c hc => (ts3_ws JO.out.ws i c hc).1), Nat.mul_comm i 3]
        simp [ev, ts3]
      rw [KV2] at KV
      have w0 := rd_w JO.out.ws (i * 3)
      have w1' := rd_w JO.out.ws (i * 3 + 1)
      have w2' := rd_w JO.out.ws (i * 3 + 2)
      obtain ⟨y0, hy0⟩ : ∃ y, y = rd os (i * 3) := ⟨_, rfl⟩
      obtain ⟨y1, hy1⟩ : ∃ y, y = rd os (i * 3 + 1) := ⟨_, rfl⟩
      obtain ⟨y2, hy2⟩ : ∃ y, y = rd os (i * 3 + 2) := ⟨_, rfl⟩
      rw [← hy0] at d0 w0 KV
      rw [← hy1] at d1 w1' KV
      rw [← hy2] at d2 w2' KV
      have GA := gb_alloc (gb_refl wq none) (Obj.cells #[.int .u64 y0, .int .u64 y1, .int .u64 y2] 144)
      have C0 := cs_new wq #[.int .u64 y0, .int .u64 y1, .int .u64 y2] 144
      have c0 := C0.cell 0 rfl
      have c1 := C0.cell 1 rfl
      have c2 := C0.cell 2 rfl
      have PEs := PE5.out.grown0 (gb_trans GG.out GA)
      have RS := Lib.hid (residue_c _ p g I.r I.q y0 y1 y2 PEs.e0 PEs.rg w0 w1' w2')
      rw [KV] at RS
      have HGA := Lib.hid GA
      clear hy0 hy1 hy2 PEs KV KV2 C0 GA OL3
      go_wp2_with fail
      refine (RS.out).mono ?_
      rintro e wa ⟨rfl, ga⟩
      have OW3 := Lib.hid ((OW.out.grown0 HGA.out).grown0 ga)
      have GG3 := Lib.hid (gb_trans (gb_trans GG.out HGA.out) ga)
      have fr := OW3.out.free i
      have ce := OW3.out.cell i (by rw [MP.out.len]; exact hlt)
      have mm := mod_nn (x := rd (pmul za zb) i) hp
      have MS := Lib.hid (MP.out.step hlt)
      obtain ⟨y, hy⟩ : ∃ y, y = rd (pmul za zb) i % p := ⟨_, rfl⟩
      rw [← hy] at mm MS ⊢
      clear RS ga HGA c0 c1 c2 d0 d1 d2 hy OW GG
      go_wp2
      go_roundw
      case rel => exact ⟨i + 1, _, by go_num, by omega, MS.out, OW3.out.store i mm.1 (by omega), gb_set (p := ⟨w5.heap.size, i, none⟩) GG3.out (Nat.le_refl _) _⟩
      case measure => simp [intOf]; omega
    · obtain rfl : i = n := by omega
      have NF := Lib.hid (pnorm_c wq I.r I.q p _ ys (PE5.out.grown0 GG.out).rg OW.out.sl (by rw [MP.out.len]; omega))
      have q0 := (PE5.out.grown0 GG.out).e0
      go_wp2_with fail
      refine (NF.out).mono ?_
      rintro e w6 ⟨x6, rfl, po, g6⟩
      go_wp2
      go_ret
      have G6 := gb_trans GG.out g6
      refine ⟨_, _, c, rfl, (po.fn (L' := XS.length + YS.length) ?_ (by rw [MP.out.len]; have := HN.out; omega)).mono (Nat.le_trans G2.out.size (Nat.le_trans G5.out.size GG.out.size)), ⟨PE5.out.grown0 G6, EN.out.grown0 G6⟩, TR.out, gb_trans (gb_trans (gb_none G2.out _) G5.out) (gb_none G6 _)⟩
      have e1 : Eqv p (ev ys) (ev (pmul za zb)) := MP.out.eqv (fun j _ => Cg.mod _ _) (by rw [pmul_len za zb (by rw [← LA.out]; omega) (by rw [← LB.out]; omega), ← LA.out, ← LB.out, ← HN.out]; exact Nat.le_refl _)
      exact (e1.fn fun z => ev_pmul za zb z).trans E0.out
end Go.Proofs.YtimmpojeddcfnaaGreatDoor

/- Engines of polynomials: products by the table; squares. -/
namespace Go.Proofs.YtimmpojeddcfnaaGreatDoor
open Go.RowKit

set_option maxRecDepth 100000 in
set_option maxHeartbeats 20000000 in
theorem pemul_c {u : Tb} (hu : TbOk u) (w : World) (p : Int) (g : Nat) (I : Pix) (a : Int) (c : Mc) (U V : Value) (XS YS : List Int) (h : Pq w u p g I a c) (hd : Db w) (ha : a ≤ 900000000000000) (hU : Sl w U XS) (hV : Sl w V YS) (hl : XS.length + YS.length ≤ 340) :
    Calls Tryz.prog 29 #[.pointer (some ⟨g, 0, none⟩), U, V] w fun e w' => ∃ x a' c', e = .returned x ∧ Po w' w.heap.size x p (fun z => ev XS z * ev YS z) (XS.length + YS.length) ∧ Pq w' u p g I a' c' ∧ a' ≤ a + 10000000 ∧ w.grownBy w' (some I.gm) := by
  have hp := h.rg.m.neg0
  have hp3 := h.rg.m.pm.lo
  have hp' := h.rg.m.pm.hi
  have N1 := Lib.hid (pnorm_c w.drew I.r I.q p U XS h.rg.drew (hU.grown0 (gb_drew (gb_refl w none))) (by omega))
  have N2 := Lib.hid (fun w1 (k : w.grownBy w1 none) => pnorm_c w1 I.r I.q p V YS (h.rg.grown0 k) (hV.grown0 k) (by omega))
  have HP := Lib.hid h
  have HD := Lib.hid hd
  have HA := Lib.hid ha
  have t0 := h.pe.e0
  have SFo : Hid (∀ W, w.grownBy W none → Canon.SF [(⟨g, 0, none⟩, .pointer (some ⟨I.r, 0, none⟩))] W) := Lib.hid (fun W k => Canon.sf_cons (gb_cell0 k h.pe.e0) (Canon.sf_nil _))
  clear hU hV h hd ha
  go_enter Tryz.func29, Tryz.ntmps29
  go_wp2
  refine Canon.region_held [18] _ (by kernel_rfl) (by kernel_rfl) (SFo.out _ (gb_refl _ _)) ?_
  refine Canon.segs_at 5 _ _ _ (by kernel_rfl) ?_
  simp only [List.take_succ_cons, List.take_zero, List.drop_succ_cons, List.drop_zero]
  go_wp2_with fail
  refine (N1.out).mono ?_
  rintro e w1 ⟨x1, rfl, ⟨za, oa, na, ea, la⟩, g1⟩
  have G1 := Lib.hid (gb_trans (gb_drew (gb_refl w none)) g1)
  clear t0
  have t0 := gb_cell0 G1.out HP.out.pe.e0
  clear N1 g1
  go_wp2
  refine ⟨SFo.out _ G1.out, ?_⟩
  refine Canon.segs_at 5 _ _ _ (by kernel_rfl) ?_
  simp only [List.take_succ_cons, List.take_zero, List.drop_succ_cons, List.drop_zero]
  go_wp2_with fail
  refine (N2.out _ G1.out).mono ?_
  rintro e w2 ⟨x2, rfl, ⟨zb, ob, nb, eb, lb⟩, g2⟩
  have G2 := Lib.hid (gb_trans G1.out g2)
  have SA := Lib.hid (oa.sl.grown0 g2)
  have SB := Lib.hid ob.sl
  have E0 := Lib.hid (Eqv.rows ea eb)
  obtain ⟨A, ca, rfl, hca, hca2⟩ := oa.fm
  obtain ⟨B, cb, rfl, hcb, hcb2⟩ := ob.fm
  have RA := Lib.hid na
  have RB := Lib.hid nb
  clear N2 oa ob na nb ea eb g2 t0
  obtain ⟨la', ha⟩ : ∃ z, z = za.length := ⟨_, rfl⟩
  obtain ⟨lb', hb⟩ : ∃ z, z = zb.length := ⟨_, rfl⟩
  rw [← ha] at hca la SA
  rw [← hb] at hcb lb SB
  have LA := Lib.hid ha
  have LB := Lib.hid hb
  rw [← ha, ← hb]
  clear ha hb
  go_wp2
  refine ⟨SFo.out _ G2.out, ?_⟩
  refine Canon.segs_end _ _ _ (by kernel_rfl) ?_
  go_wp2
  refine ⟨by kernel_rfl, by kernel_rfl, by kernel_rfl, ?_⟩
  have HQ := HP.out.grown0 G2.out
  obtain ⟨m, hm⟩ : ∃ m, m = min la' lb' := ⟨_, rfl⟩
  have HM := Lib.hid hm
  have t1 := HQ.pe.e1
  have t2 := HQ.pe.ch.c0
  have t3 := HQ.pe.ch.c1
  have t4 := HQ.pe.ch.c2
  have t5 := HQ.pe.ch.c3
  have t6 := HQ.pe.ch.c4
  have t7 := HQ.pe.ch.c5
  have t8 := HQ.pe.ch.c6
  have t9 := HQ.pe.ch.c7
  have t10 := HQ.pe.ch.c8
  have t11 := HQ.pe.ch.c9
  have t12 := HQ.en.e.h0
  have t13 := HQ.en.e.h1
  have t14 := HQ.en.e.h2
  have t15 := HQ.en.e.h3
  have s3 := HQ.cell 3 (by decide)
  have s4 := HQ.cell 4 (by decide)
  have s5 := HQ.cell 5 (by decide)
  have s6 := HQ.cell 6 (by decide)
  have s7 := HQ.cell 7 (by decide)
  have s8 := HQ.cell 8 (by decide)
  have s9 := HQ.cell 9 (by decide)
  have s10 := HQ.cell 10 (by decide)
  have s11 := HQ.cell 11 (by decide)
  have s12 := HQ.cell 12 (by decide)
  have s13 := HQ.cell 13 (by decide)
  rw [show u.vs[3 - 3]? = some (.int .i64 u.eb) from rfl] at s3
  rw [show u.vs[4 - 3]? = some (.int .i64 u.et) from rfl] at s4
  rw [show u.vs[5 - 3]? = some (.int .i64 u.en) from rfl] at s5
  rw [show u.vs[6 - 3]? = some (.int .i64 u.ed) from rfl] at s6
  rw [show u.vs[7 - 3]? = some (.int .i64 u.er) from rfl] at s7
  rw [show u.vs[8 - 3]? = some (.int .i64 u.el) from rfl] at s8
  rw [show u.vs[9 - 3]? = some (.int .i64 u.ex) from rfl] at s9
  rw [show u.vs[10 - 3]? = some (.int .i64 u.ep) from rfl] at s10
  rw [show u.vs[11 - 3]? = some (.int .i64 u.ek) from rfl] at s11
  rw [show u.vs[12 - 3]? = some (.int .i64 u.es) from rfl] at s12
  rw [show u.vs[13 - 3]? = some (.int .i64 u.ee) from rfl] at s13
  clear hm
  go_upto_region 3 with fail
  have CT := cs_new w2 #[.int .i64 u.eb, .int .i64 u.et, .int .i64 u.en, .int .i64 u.ed, .int .i64 u.er, .int .i64 u.el, .int .i64 u.ex, .int .i64 u.ep, .int .i64 u.ek, .int .i64 u.es, .int .i64 u.ee] 23
  have GA := gb_alloc (gb_refl w2 none) (Obj.cells #[.int .i64 u.eb, .int .i64 u.et, .int .i64 u.en, .int .i64 u.ed, .int .i64 u.er, .int .i64 u.el, .int .i64 u.ex, .int .i64 u.ep, .int .i64 u.ek, .int .i64 u.es, .int .i64 u.ee] 23)
  have HCT := Lib.hid CT
  have HGA := Lib.hid GA
  clear CT GA
  go_cut [8] from 70 to 74 (fun v8 wx => v8 = .int .i64 m ∧ w2.alloc (Obj.cells #[.int .i64 u.eb, .int .i64 u.et, .int .i64 u.en, .int .i64 u.ed, .int .i64 u.er, .int .i64 u.el, .int .i64 u.ex, .int .i64 u.ep, .int .i64 u.ek, .int .i64 u.es, .int .i64 u.ee] 23) = wx)
  case first =>
    clear t1 t2 t3 t4 t5 t6 t7 t8 t9 t10 t11 t12 t13 t14 t15
    clear s3 s4 s5 s6 s7 s8 s9 s10 s11 s12 s13
    rcases Nat.lt_trichotomy la' lb' with hlt | heq | hgt
    · obtain rfl : m = la' := by have := HM.out; omega
      clear HM
      go_wp2_with fail
      go_meet
      exact ⟨rfl, rfl⟩
    · subst heq
      obtain rfl : m = la' := by have := HM.out; omega
      clear HM
      go_wp2_with fail
      go_meet
      exact ⟨rfl, rfl⟩
    · obtain rfl : m = lb' := by have := HM.out; omega
      clear HM
      go_wp2_with fail
      go_meet
      exact ⟨rfl, rfl⟩
  case rest =>
    clear t1 t2 t3 t4 t5 t6 t7 t8 t9 t10 t11 t12 t13 t14 t15
    clear s3 s4 s5 s6 s7 s8 s9 s10 s11 s12 s13
    obtain ⟨rfl, hw⟩ := hcut
    rw [hw] at HCT HGA
    clear hw
    have G3 := Lib.hid (gb_trans G2.out HGA.out)
    have SA3 := Lib.hid (SA.out.grown0 HGA.out)
    have SB3 := Lib.hid (SB.out.grown0 HGA.out)
    have HP3 := Lib.hid (HQ.grown0 HGA.out)
    have C := Lib.hid HCT.out
    have hA : Hid (a ≤ 900000000000000) := HA
    clear HQ HGA HCT SA SB
    have q2 := C.out.cell 2 rfl
    have q7 := C.out.cell 7 rfl
    have q8 := C.out.cell 8 rfl
    obtain ⟨vp, hvp⟩ : ∃ z, z = u.ep := ⟨_, rfl⟩
    obtain ⟨vk, hvk⟩ : ∃ z, z = u.ek := ⟨_, rfl⟩
    obtain ⟨vn, hvn⟩ : ∃ z, z = u.en := ⟨_, rfl⟩
    rw [← hvp] at q7
    rw [← hvk] at q8
    rw [← hvn] at q2
    clear hvp hvk hvn
    have FIN : Hid (∀ (w' : World) (x : Value) (base L : Nat), Po w' base x p (fun z => ev za z * ev zb z) L → w.heap.size ≤ base → L ≤ la' + lb' → Po w' w.heap.size x p (fun z => ev XS z * ev YS z) (XS.length + YS.length)) :=
      Lib.hid (fun w' x base L po hb hL => (po.fn E0.out (by omega)).mono hb)
    by_cases h1 : (m : Int) < vp
    · have TM := Lib.hid (ptimes_c wc I.r I.q p _ _ za zb HP3.out.rg SA3.out SB3.out (by rw [← LA.out]; omega) (by rw [← LB.out]; omega))
      rw [← LA.out, ← LB.out] at TM
      have t0 := HP3.out.pe.e0
      go_wp2_with fail
      refine (TM.out).mono ?_
      rintro e w4 ⟨x4, rfl, po, g4⟩
      go_wp2
      go_ret
      exact ⟨_, a, c, rfl, FIN.out _ _ _ _ po G3.out.size (Nat.le_refl _), HP3.out.grown0 g4, by omega, gb_none (gb_trans G3.out g4) _⟩
    · by_cases h2 : (m : Int) < vk
      · have KM := Lib.hid (kara_any u p g I hu (la' + lb') wc a c _ _ za zb HP3.out SA3.out SB3.out (by rw [← LA.out, ← LB.out]; exact Nat.le_refl _) (by omega))
        rw [← LA.out, ← LB.out] at KM
        go_wp2_with fail
        refine (KM.out).mono ?_
        rintro e w4 ⟨x4, rfl, po, g4⟩
        go_wp2
        go_ret
        exact ⟨_, a, c, rfl, FIN.out _ _ _ _ po G3.out.size (Nat.le_refl _), HP3.out.grown0 g4, by omega, gb_none (gb_trans G3.out g4) _⟩
      · obtain ⟨sm, hsm⟩ : ∃ z, z = la' + lb' := ⟨_, rfl⟩
        have esm : (la' : Int) + (lb' : Int) = (sm : Int) := by omega
        have HSM := Lib.hid hsm
        clear hsm
        by_cases h3 : vn ≤ (sm : Int)
        · have NM := Lib.hid (ntt_c hu wc p g I a c _ _ za zb HP3.out (HD.out.grown0 G3.out) HA.out SA3.out SB3.out (by rw [← LA.out, ← LB.out]; omega))
          rw [← LA.out, ← LB.out] at NM
          go_wp2_with fail
          refine (NM.out).mono ?_
          rintro e w4 ⟨x4, a', c', rfl, po, pq, ha', g4⟩
          go_wp2
          go_ret
          exact ⟨_, a', c', rfl, FIN.out _ _ _ _ po G3.out.size (Nat.le_refl _), pq, ha', gb_trans (gb_none G3.out _) g4⟩
        · have KM := Lib.hid (kron_c hu wc p g I a c _ _ za zb HP3.out (HD.out.grown0 G3.out) HA.out SA3.out SB3.out (by rw [← LA.out, ← LB.out]; omega))
          rw [← LA.out, ← LB.out] at KM
          go_wp2_with fail
          refine (KM.out).mono ?_
          rintro e w4 ⟨x4, a', c', rfl, po, pq, ha', g4⟩
          go_wp2
          go_ret
          exact ⟨_, a', c', rfl, FIN.out _ _ _ _ po G3.out.size (Nat.le_refl _), pq, ha', gb_trans (gb_none G3.out _) g4⟩
end Go.Proofs.YtimmpojeddcfnaaGreatDoor

/- Engines of polynomials: squares, by each way, products of several. -/
namespace Go.Proofs.YtimmpojeddcfnaaGreatDoor
open Go.RowKit

theorem Pq.sl {w w' : World} {u : Tb} {p : Int} {g : Nat} {I : Pix} {a : Int} {c : Mc} (h : Pq w u p g I a c) {v : Value} {xs : List Int} (s : Sl w v xs) (k : w.grownBy w' (some I.gm)) : Sl w' v xs := h.en.sl s k
theorem Pq.pn {w w' : World} {u : Tb} {p : Int} {g : Nat} {I : Pix} {a : Int} {c : Mc} (h : Pq w u p g I a c) {v : Value} {q : Int} {F : Int → Int} {L : Nat} (s : Pn w v q F L) (k : w.grownBy w' (some I.gm)) : Pn w' v q F L := by
  obtain ⟨zs, h1, h2⟩ := s; exact ⟨zs, h.sl h1 k, h2⟩
/-- No row of rows lies in the meter's block. -/
theorem Pq.offT {w : World} {u : Tb} {p : Int} {g : Nat} {I : Pix} {a : Int} {c : Mc} (h : Pq w u p g I a c) {v : Value} {n : Nat} {V : Nat → Value} {X : Nat → List Int} (s : Pts w v n V X) (hn : 0 < n) : Off v I.gm := by
  obtain ⟨A, k, rfl, _, _, h4⟩ := s.c
  obtain ⟨b, o, rfl, hc⟩ := h4 hn
  have hx := hc 0 (by omega)
  rw [Nat.add_zero] at hx
  obtain ⟨A', c', e, _⟩ := (s.s 0 hn).form
  rw [e] at hx
  intro b' hb' e'
  simp only [Value.ownBlock, Option.some.injEq] at hb'
  subst hb'
  subst e'
  have kind : ∀ z, World.cell? w ⟨I.gm, o, none⟩ ≠ some (.int .i64 z) := fun z hz => by
    rw [hx] at hz
    simp at hz
  by_cases o3 : 3 ≤ o
  · have hr := h.cell o o3
    rw [hx] at hr
    obtain ⟨z, hz⟩ := vs_int u (o - 3) hr.symm
    simp at hz
  · rcases (show o = 0 ∨ o = 1 ∨ o = 2 by omega) with rfl | rfl | rfl
    · exact kind _ h.en.m.c0
    · exact kind _ h.en.m.c1
    · exact kind _ h.en.m.c2
theorem Pq.pts {w w' : World} {u : Tb} {p : Int} {g : Nat} {I : Pix} {a : Int} {c : Mc} (h : Pq w u p g I a c) {v : Value} {n : Nat} {V : Nat → Value} {X : Nat → List Int} (s : Pts w v n V X) (hn : 0 < n) (k : w.grownBy w' (some I.gm)) : Pts w' v n V X :=
  s.growngX (h.offT s hn) (fun j hj => h.en.off (s.s j hj)) k
theorem nf_one {p : Int} (hp : 1 < p) : Nf p [1] := ⟨fun c hc => by obtain rfl := List.mem_singleton.1 hc; omega, rfl⟩
theorem prF_shift (G : Nat → Int → Int) (h : Nat) (x : Int) : ∀ n, prF (fun j => G (h + j)) 0 n x = prF G h n x
  | 0 => rfl
  | n + 1 => by rw [prF, prF, prF_shift G h x n, Nat.zero_add]
theorem psqr_c {u : Tb} (hu : TbOk u) (w : World) (p : Int) (g : Nat) (I : Pix) (a : Int) (c : Mc) (U : Value) (XS : List Int) (h : Pq w u p g I a c) (hd : Db w) (ha : a ≤ 900000000000000) (hU : Sl w U XS) (hl : XS.length + XS.length ≤ 340) :
    Calls Tryz.prog 32 #[.pointer (some ⟨g, 0, none⟩), U] w fun e w' => ∃ x a' c', e = .returned x ∧ Po w' w.heap.size x p (fun z => ev XS z * ev XS z) (XS.length + XS.length) ∧ Pq w' u p g I a' c' ∧ a' ≤ a + 10000000 ∧ w.grownBy w' (some I.gm) := by
  have M := Lib.hid (pemul_c hu w p g I a c U U XS XS h hd ha hU hU hl)
  clear h hd ha hU
  go_enter Tryz.func32, Tryz.ntmps32
  go_wp2_with fail
  refine (M.out).mono ?_
  rintro e w1 ⟨x, a', c', rfl, po, pq, ha', g1⟩
  go_wp2
  go_ret
  exact ⟨x, a', c', rfl, po, pq, ha', g1⟩
theorem phand_c (w : World) (u : Tb) (p : Int) (g : Nat) (I : Pix) (a : Int) (c : Mc) (U V : Value) (XS YS : List Int) (h : Pq w u p g I a c) (hU : Sl w U XS) (hV : Sl w V YS) (hl : XS.length + YS.length ≤ 2000) :
    Calls Tryz.prog 37 #[.pointer (some ⟨g, 0, none⟩), U, V] w fun e w' => ∃ x, e = .returned x ∧ Po w' w.heap.size x p (fun z => ev XS z * ev YS z) (XS.length + YS.length) ∧ w.grownBy w' none := by
  have M := Lib.hid (ptimes_c w I.r I.q p U V XS YS h.rg hU hV (by omega) (by omega))
  have t0 := h.pe.e0
  clear h hU hV
  go_enter Tryz.func37, Tryz.ntmps37
  go_wp2_with fail
  refine (M.out).mono ?_
  rintro e w1 ⟨x, rfl, po, g1⟩
  go_wp2
  go_ret
  exact ⟨x, rfl, po, g1⟩
theorem pkara_c {u : Tb} (hu : TbOk u) (w : World) (p : Int) (g : Nat) (I : Pix) (a : Int) (c : Mc) (U V : Value) (XS YS : List Int) (h : Pq w u p g I a c) (hU : Sl w U XS) (hV : Sl w V YS) (hl : XS.length + YS.length ≤ 2000) :
    Calls Tryz.prog 35 #[.pointer (some ⟨g, 0, none⟩), U, V] w fun e w' => ∃ x, e = .returned x ∧ Po w' w.heap.size x p (fun z => ev XS z * ev YS z) (XS.length + YS.length) ∧ w.grownBy w' none := by
  have N1 := Lib.hid (pnorm_c w.drew I.r I.q p U XS h.rg.drew (hU.grown0 (gb_drew (gb_refl w none))) (by omega))
  have N2 := Lib.hid (fun w1 (k : w.grownBy w1 none) => pnorm_c w1 I.r I.q p V YS (h.rg.grown0 k) (hV.grown0 k) (by omega))
  have HP := Lib.hid h
  have t0 := h.pe.e0
  have SFo : Hid (∀ W, w.grownBy W none → Canon.SF [(⟨g, 0, none⟩, .pointer (some ⟨I.r, 0, none⟩))] W) := Lib.hid (fun W k => Canon.sf_cons (gb_cell0 k h.pe.e0) (Canon.sf_nil _))
  clear hU hV h
  go_enter Tryz.func35, Tryz.ntmps35
  go_wp2
  refine Canon.region_held [17] _ (by kernel_rfl) (by kernel_rfl) (SFo.out _ (gb_refl _ _)) ?_
  refine Canon.segs_at 6 _ _ _ (by kernel_rfl) ?_
  simp only [List.take_succ_cons, List.take_zero, List.drop_succ_cons, List.drop_zero]
  go_wp2_with fail
  refine (N1.out).mono ?_
  rintro e w1 ⟨x1, rfl, ⟨za, oa, na, ea, la⟩, g1⟩
  have G1 := Lib.hid (gb_trans (gb_drew (gb_refl w none)) g1)
  clear t0
  have t0 := gb_cell0 G1.out HP.out.pe.e0
  clear N1
  go_wp2
  refine ⟨SFo.out _ G1.out, ?_⟩
  refine Canon.segs_at 5 _ _ _ (by kernel_rfl) ?_
  simp only [List.take_succ_cons, List.take_zero, List.drop_succ_cons, List.drop_zero]
  go_wp2_with fail
  refine (N2.out _ G1.out).mono ?_
  rintro e w2 ⟨x2, rfl, ⟨zb, ob, nb, eb, lb⟩, g2⟩
  have G2 := Lib.hid (gb_trans G1.out g2)
  have E0 := Lib.hid (Eqv.rows ea eb)
  have KR := Lib.hid (kara_any u p g I hu (za.length + zb.length) w2 a c _ _ za zb (HP.out.grown0 G2.out) (oa.sl.grown0 g2) ob.sl (Nat.le_refl _) (by omega))
  have LL := Lib.hid (And.intro la lb)
  clear N2 oa ob na nb ea eb g1 g2 la lb t0
  go_wp2
  refine ⟨SFo.out _ G2.out, ?_⟩
  refine Canon.segs_at 0 _ _ _ (by kernel_rfl) ?_
  simp only [List.take_succ_cons, List.take_zero, List.drop_succ_cons, List.drop_zero]
  go_wp2_with fail
  refine (KR.out).mono ?_
  rintro e w3 ⟨x3, rfl, po, g3⟩
  have G3 := Lib.hid (gb_trans G2.out g3)
  have PO := Lib.hid ((po.fn (L' := XS.length + YS.length) E0.out (by have := LL.out; omega)).mono G2.out.size)
  clear KR po g3
  go_wp2
  refine ⟨SFo.out _ G3.out, ?_⟩
  refine Canon.segs_end _ _ _ (by kernel_rfl) ?_
  go_wp2
  refine ⟨by kernel_rfl, by kernel_rfl, by kernel_rfl, ?_⟩
  go_wp2
  go_ret
  exact ⟨_, rfl, PO.out, G3.out⟩
end Go.Proofs.YtimmpojeddcfnaaGreatDoor

/- Engines of polynomials: products of several; powers. -/
namespace Go.Proofs.YtimmpojeddcfnaaGreatDoor
open Go.RowKit

theorem Db.gm {w w' : World} {u : Tb} {p : Int} {g : Nat} {I : Pix} {a : Int} {c : Mc} (h : Pq w u p g I a c) (hd : Db w) (k : w.grownBy w' (some I.gm)) : Db w' := hd.grown h.en.m k
theorem pn_one (w : World) (t : TypeId) {p : Int} (hp : 1 < p) : Pn (w.alloc (Obj.cells #[.int .u64 1] t)) (.slice (some ⟨w.heap.size, 0, none⟩) 1 1) p (fun _ => 1) 1 :=
  ⟨[1], sl_lit w t #[.int .u64 1] [1] 1 rfl (ws_one (by decide) (by decide)) rfl (by decide), nf_one hp, Eqv.of_eq p fun x => by simp [ev], Nat.le_refl _⟩
set_option maxRecDepth 100000 in
set_option maxHeartbeats 4000000 in
theorem pall_any {u : Tb} (hu : TbOk u) (p : Int) (g : Nat) (I : Pix) : ∀ (n : Nat), n ≤ 300 → ∀ (w : World) (a : Int) (c : Mc) (v : Value) (V : Nat → Value) (X : Nat → List Int), Pq w u p g I a c → Db w → a + (n : Int) * 100000000 ≤ 900000000000000 →
    Pts w v n V X → tot X 0 n + n ≤ 330 →
    Calls Tryz.prog 41 #[.pointer (some ⟨g, 0, none⟩), v] w fun e w' => ∃ x a' c', e = .returned x ∧ Pn w' x p (prF (fun j => ev (X j)) 0 n) (tot X 0 n + max n 1) ∧ Pq w' u p g I a' c' ∧ (a' ≤ a + (n : Int) * 100000000 ∧ (0 < n → a' + 10000000 ≤ a + (n : Int) * 100000000)) ∧ w.grownBy w' (some I.gm) := by
  intro n
  induction n using Nat.strongRecOn with
  | _ n ih =>
    intro hn1 w a c v V X hP hd ha hp hl
    have hp3 := hP.rg.m.pm.lo
    have HPP := Lib.hid hp
    obtain ⟨A, ca, rfl, hca, _, h4⟩ := hp.c
    by_cases n0 : n = 0
    · subst n0
      have GA := Lib.hid (gb_alloc (gb_refl w none) (Obj.cells #[.int .u64 1] 53))
      have PO := Lib.hid (pn_one w 53 (p := p) (by omega))
      have HP := Lib.hid hP
      clear ih h4 hP hd ha hl hp HPP
      go_enter Tryz.func41, Tryz.ntmps41
      go_wp2
      go_ret
      exact ⟨_, a, c, rfl, PO.out, HP.out.grown0 GA.out, by omega, gb_none GA.out _⟩
    by_cases n1 : n = 1
    · subst n1
      have e1 : tot X 0 1 = (X 0).length := by simp [tot]
      have NO := Lib.hid (pnorm_c w.drew I.r I.q p (V 0) (X 0) hP.rg.drew ((hp.s 0 (by decide)).grown0 (gb_drew (gb_refl w none))) (by omega))
      obtain ⟨bA, oA, rfl, hc⟩ := h4 (by decide)
      have c0 := hc 0 (by decide)
      rw [Nat.add_zero] at c0
      obtain ⟨V0, hV0⟩ : ∃ z, z = V 0 := ⟨_, rfl⟩
      rw [← hV0] at NO c0
      have HP := Lib.hid hP
      have t0 := hP.pe.e0
      have E1 := Lib.hid e1
      clear ih h4 hP hd ha hl hp HPP hc hV0 e1
      go_enter Tryz.func41, Tryz.ntmps41
      go_wp2
      refine Canon.region_canon (by kernel_rfl) (by kernel_rfl) ?_
      go_wp2_with fail
      refine (NO.out).mono ?_
      rintro e w1 ⟨x, rfl, po, g1⟩
      go_wp2
      refine ⟨by kernel_rfl, ?_⟩
      go_wp2
      go_ret
      have G1 := gb_trans (gb_drew (gb_refl w none)) g1
      exact ⟨_, a, c, rfl, po.pn.fn (Eqv.of_eq p fun x => by simp [prF]) (by rw [E1.out]; omega), HP.out.grown0 G1, by omega, gb_none G1 _⟩
    obtain ⟨bA, oA, rfl, _⟩ := h4 (by omega)
    obtain ⟨h, hh⟩ : ∃ h, h = n / 2 := ⟨_, rfl⟩
    have eH : (n : Int) / 2 = (h : Int) := by omega
    have q0 : ((n : Int) == 0) = false := by simp; omega
    have q1 : ((n : Int) == 1) = false := by simp; omega
    have q0' : (n == 0) = false := by simp; omega
    have q1' : (n == 1) = false := by simp; omega
    have hhn : h < n := by omega
    have h1h : 1 ≤ h := by omega
    have hp2 := hp.back hhn
    have GD := gb_drew (gb_refl w none)
    have TT := tot_add X 0 h (n - h)
    rw [show h + (n - h) = n by omega, Nat.zero_add] at TT
    have I1 := ih h hhn (by omega) w.drew a c (.slice (some ⟨bA, oA, none⟩) h ca) V X (hP.grown0 GD) (hd.grown0 GD) (by omega) ((hp.front (by omega)).grown0 GD) (by omega)
    have I2 := fun (w1 : World) (G : w.grownBy w1 (some I.gm)) (a1 : Int) (c1 : Mc) (m1 : Pq w1 u p g I a1 c1) (ha1 : a1 ≤ a + (h : Int) * 100000000 ∧ (0 < h → a1 + 10000000 ≤ a + (h : Int) * 100000000)) => ih (n - h) (by omega) (by omega) w1 a1 c1 (.slice (some ⟨bA, oA + h, none⟩) (n - h) (ca - h)) (fun j => V (h + j)) (fun j => X (h + j)) m1 (hd.gm hP G) (by omega) (hP.pts hp2 (by omega) G) (by rw [tot_shift]; omega)
    have FC : Hid (∀ x, prF (fun j => ev (X j)) 0 n x = prF (fun j => ev (X j)) 0 h x * prF (fun j => ev (X (h + j))) 0 (n - h) x) := Lib.hid (fun x => by
      have := prF_cut (fun j => ev (X j)) 0 h (n - h) x
      rw [show h + (n - h) = n by omega, Nat.zero_add, ← prF_shift (fun j => ev (X j)) h x (n - h)] at this
      exact this)
    have TL : Hid (tot X 0 n = tot X 0 h + tot (fun j => X (h + j)) 0 (n - h)) := Lib.hid (by rw [tot_shift]; exact TT)
    have HI1 := Lib.hid I1
    have HI2 := Lib.hid I2
    have HP := Lib.hid hP
    have HD := Lib.hid hd
    have HA := Lib.hid ha
    have HB : Hid (tot X 0 n + n ≤ 330) := Lib.hid hl
    clear ih hp hp2 hP hd hl I1 I2 TT h4 ha hh HPP GD
    go_enter Tryz.func41, Tryz.ntmps41
    go_wp2_with fail
    refine Canon.region_canon (by kernel_rfl) (by kernel_rfl) ?_
    go_wp2_with fail
    refine (HI1.out).mono ?_
    rintro e w1 ⟨x1, a1, c1, rfl, ⟨z1, s1, n1', e1, l1⟩, m1, ha1, g1'⟩
    have G1 := Lib.hid (gb_trans (gb_none (gb_drew (gb_refl w none)) (some I.gm)) g1')
    have S1 := Lib.hid s1
    have E1 := Lib.hid e1
    have L1 := Lib.hid l1
    have M1 := Lib.hid m1
    have HI3 := Lib.hid (HI2.out w1 G1.out a1 c1 m1 ha1)
    have A1 := Lib.hid ha1
    clear s1 n1' e1 l1 m1 ha1 g1' HI1 HI2
    go_wp2_with fail
    refine (HI3.out).mono ?_
    rintro e w2 ⟨x2, a2, c2, rfl, ⟨z2, s2, n2', e2, l2⟩, m2, ha2, g2'⟩
    have G2 := Lib.hid (gb_trans G1.out g2')
    have S1' := M1.out.sl S1.out g2'
    have MM := Lib.hid (pemul_c hu w2 p g I a2 c2 x1 x2 z1 z2 m2 (HD.out.gm HP.out G2.out) (by have := A1.out; have := HA.out; omega) S1' s2 (by have := L1.out; have := TL.out; have := HB.out; omega))
    have E2 := Lib.hid e2
    have L2 := Lib.hid l2
    have A2 := Lib.hid ha2
    clear S1' HI3 s2 n2' e2 l2 m2 ha2 g2' S1 M1
    go_wp2_with fail
    refine (MM.out).mono ?_
    rintro e w3 ⟨x3, a3, c3, rfl, po, m3, ha3, g3'⟩
    have G3 := Lib.hid (gb_trans G2.out g3')
    have PO := Lib.hid po
    have M3 := Lib.hid m3
    have A3 := Lib.hid ha3
    clear MM po m3 ha3 g3'
    go_wp2
    refine ⟨by kernel_rfl, ?_⟩
    go_wp2
    go_ret
    refine ⟨_, a3, c3, rfl, PO.out.pn.fn (((Eqv.rows E1.out E2.out).fn fun x => (FC.out x).symm)) ?_, M3.out, ?_, G3.out⟩
    · have := L1.out
      have := L2.out
      have := TL.out
      omega
    · have := A1.out
      have := A2.out
      have := A3.out
      omega
theorem pow_rows {p : Int} {F : Int → Int} {a b : List Int} {m n : Nat} (h : Eqv p (ev a) (fun z => F z ^ m)) (k : Eqv p (ev b) (fun z => F z ^ n)) : Eqv p (fun z => ev a z * ev b z) (fun z => F z ^ (m + n)) :=
  (Eqv.rows h k).fn fun _ => (Int.pow_add _ _ _).symm
set_option maxRecDepth 100000 in
set_option maxHeartbeats 4000000 in
theorem pepow_c {u : Tb} (hu : TbOk u) (w : World) (p : Int) (g : Nat) (I : Pix) (a : Int) (c : Mc) (U : Value) (XS : List Int) (n : Int) (h : Pq w u p g I a c) (hd : Db w) (ha : a + 20000000 * n ≤ 800000000000000) (ha0 : a ≤ 800000000000000) (hU : Sl w U XS) (hn : n ≤ 64) (hn0 : -9223372036854775808 ≤ n) (hl : XS.length * n.toNat ≤ 150) (hl1 : XS.length ≤ 1000) :
    Calls Tryz.prog 43 #[.pointer (some ⟨g, 0, none⟩), U, .int .i64 n] w fun e w' => ∃ x a' c', e = .returned x ∧ Pn w' x p (fun z => ev XS z ^ n.toNat) (XS.length * n.toNat + 1) ∧ Pq w' u p g I a' c' ∧ a' ≤ a + 20000000 * n.toNat ∧ w.grownBy w' (some I.gm) := by
  have hp3 := h.rg.m.pm.lo
  obtain ⟨N, hN⟩ : ∃ N, N = n.toNat := ⟨_, rfl⟩
  obtain ⟨L, hL⟩ : ∃ L, L = XS.length := ⟨_, rfl⟩
  rw [← hN, ← hL] at hl
  rw [← hL] at hl1
  rw [← hN, ← hL]
  have GA := gb_alloc (gb_refl w none) (Obj.cells #[.int .u64 1] 53)
  have PO := pn_one w 53 (p := p) (by omega)
  obtain ⟨w1, hw1⟩ : ∃ w1, w1 = w.alloc (Obj.cells #[.int .u64 1] 53) := ⟨_, rfl⟩
  have NM := Lib.hid (pnorm_c _ I.r I.q p U XS (h.rg.grown0 GA) (hU.grown0 GA) (by omega))
  have HP := Lib.hid h
  have HD := Lib.hid hd
  have HA : Hid (a + 20000000 * (N : Int) ≤ 800000000000000 ∧ N ≤ 64) := Lib.hid (by omega)
  have t0 := gb_cell0 GA h.pe.e0
  have HG := Lib.hid GA
  have HO := Lib.hid PO
  have HL := Lib.hid hl
  have HLX := Lib.hid hL
  have HNn := Lib.hid hN
  clear h hd ha hU PO GA hw1 hl hL
  go_enter Tryz.func43, Tryz.ntmps43
  go_wp2_with fail
  refine (NM.out).mono ?_
  rintro e w2 ⟨x2, rfl, po2, g2⟩
  have G2 := Lib.hid (gb_trans HG.out g2)
  have O2 := Lib.hid (HO.out.grown0 g2)
  have P2 := Lib.hid po2.pn
  clear NM po2 g2 HO HG t0
  go_upto_region 3 with fail
  go_cut [2] from 15 to 17 (fun v2 wx => v2 = .int .i64 N ∧ w2 = wx)
  case first =>
    rcases (show n < 0 ∨ n = 0 ∨ 0 < n by omega) with hlt | heq | hgt
    · obtain rfl : N = 0 := by omega
      clear hN
      go_wp2_with fail
      go_meet
      exact ⟨rfl, rfl⟩
    · obtain rfl : N = 0 := by omega
      subst heq
      clear hN
      go_wp2_with fail
      go_meet
      exact ⟨rfl, rfl⟩
    · have e : n = (N : Int) := by omega
      have hN64 : (N : Int) ≤ 64 := by omega
      have hN1 : 0 < (N : Int) := by omega
      clear hN HNn
      subst e
      by_cases h64 : N = 64
      · subst h64
        go_wp2_with fail
        all_goals (go_meet; exact ⟨rfl, rfl⟩)
      · have hN65 : (N : Int) < 64 := by omega
        go_wp2_with fail
        all_goals (go_meet; exact ⟨rfl, rfl⟩)
  case rest =>
    obtain ⟨rfl, hw⟩ := hcut
    subst hw
    have R0 : Hid (0 + 1 * N = N ∧ L * 1 = L ∧ L * 0 + 1 = 1) := Lib.hid (by omega)
    have P3 := Lib.hid (P2.out.fn (G := fun z => ev XS z ^ 1) (L' := L * 1) (Eqv.of_eq p fun z => by show ev XS z = ev XS z ^ (0 + 1); rw [Int.pow_succ, Int.pow_zero, Int.one_mul]) (by rw [HLX.out]; omega))
    have O3 := Lib.hid (O2.out.fn (G := fun z => ev XS z ^ 0) (L' := L * 0 + 1) (Eqv.of_eq p fun z => (Int.pow_zero _).symm) (by omega))
    have Q3 := Lib.hid (HP.out.grown0 G2.out)
    have G3 := Lib.hid (gb_none G2.out (some I.gm))
    clear P2 O2 hN
    go_wp2
    go_loopw [1, 2, 7] (fun v1 v2 v7 wr => ∃ (m t e : Nat) (a' : Int) (c' : Mc), v2 = .int .i64 m ∧ m ≤ 64 ∧ e + t * m = N ∧ Pn wr v7 p (fun z => ev XS z ^ e) (L * e + 1) ∧ Pn wr v1 p (fun z => ev XS z ^ t) (L * t) ∧ Pq wr u p g I a' c' ∧ a' + 20000000 * (m : Int) ≤ a + 20000000 * (N : Int) ∧ w.grownBy wr (some I.gm)) (fun _ v2 _ _ => (intOf v2).toNat)
    case atStart => exact ⟨N, 1, 0, a, c, rfl, HA.out.2, R0.out.1, O3.out, P3.out, Q3.out, Int.le_refl _, G3.out⟩
    case round =>
      clear P3 O3 Q3 G3 R0
      obtain ⟨m, t, e, a', c', rfl, hm, het, po, pa, pq, ha', G⟩ := hrel
      obtain ⟨wq, rfl⟩ : ∃ wq : World, wq = wr := ⟨_, rfl⟩
      have GG := Lib.hid G
      have PO := Lib.hid po
      have PA := Lib.hid pa
      have PQ := Lib.hid pq
      have HE := Lib.hid het
      have HB := Lib.hid ha'
      clear G po pa pq het ha'
      by_cases m0 : m = 0
      · subst m0
        have e1 : Hid (e = N) := Lib.hid (by have := HE.out; omega)
        go_wp2
        go_ret
        have he := e1.out
        subst he
        exact ⟨_, a', c', rfl, PO.out, PQ.out, by have := HB.out; omega, GG.out⟩
      · obtain ⟨zo, so, no, eo, lo⟩ := PO.out
        obtain ⟨za, sa, na, ea, la⟩ := PA.out
        have tm : t ≤ t * m := Nat.le_mul_of_pos_right t (by omega)
        have teN : e + t ≤ N := by have := HE.out; omega
        have l1 : L * (e + t) ≤ 150 := Nat.le_trans (Nat.mul_le_mul (Nat.le_refl _) teN) HL.out
        have l2 : L * (e + t) = L * e + L * t := Nat.mul_add _ _ _
        have mpos : 0 < m := by omega
        by_cases hodd : m % 2 = 1
        · have q1 : ((m : Int) % 2 == 1) = true := by simp; omega
          have MM := Lib.hid (pemul_c hu wq p g I a' c' _ _ zo za PQ.out (HD.out.gm HP.out GG.out) (by have := HB.out; have := HA.out; omega) so sa (by omega))
          go_wp2_with fail
          refine (MM.out).mono ?_
          rintro e w3 ⟨x3, a3, c3, rfl, po3, pq3, ha3, g3⟩
          have G3 := Lib.hid (gb_trans GG.out g3)
          have PO3 := Lib.hid (po3.pn.fn (L' := L * (e + t) + 1) (pow_rows eo ea) (by omega))
          have SA3 := Lib.hid (PQ.out.sl sa g3)
          have Q3 := Lib.hid pq3
          have A3 := Lib.hid ha3
          clear MM po3 pq3 ha3 g3
          by_cases h1 : m = 1
          · subst h1
            have R1 : Hid (e + t + t * 0 = N) := Lib.hid (by have := HE.out; omega)
            go_wp2
            go_roundw
            case rel => exact ⟨0, t, e + t, a3, c3, by go_num, by omega, R1.out, PO3.out, ⟨za, SA3.out, na, ea, la⟩, Q3.out, by have := HB.out; have := A3.out; omega, G3.out⟩
            case measure => simp [intOf]
          · obtain ⟨k, hk⟩ : ∃ k, m = 2 * k + 1 := ⟨m / 2, by omega⟩
            have hk0 : 0 < k := by omega
            have HK := Lib.hid hk
            have e3 : t * (2 * k + 1) = t + (t + t) * k := by grind
            have R1 : Hid (e + t + (t + t) * k = N) := Lib.hid (by have := HE.out; rw [hk, e3] at this; omega)
            have tk : t + t ≤ (t + t) * k := Nat.le_mul_of_pos_right _ hk0
            have l3 : L * (t + t) ≤ 150 := Nat.le_trans (Nat.mul_le_mul (Nat.le_refl _) (by have := R1.out; omega)) HL.out
            have l4 : L * (t + t) = L * t + L * t := Nat.mul_add _ _ _
            have q2 : (1 : Int) < (m : Int) := by omega
            clear hk e3
            have MS := Lib.hid (psqr_c hu w3 p g I a3 c3 _ za Q3.out (HD.out.gm HP.out G3.out) (by have := HB.out; have := HA.out; have := A3.out; omega) SA3.out (by omega))
            go_wp2_with fail
            refine (MS.out).mono ?_
            rintro e w4 ⟨x4, a4, c4, rfl, po4, pq4, ha4, g4⟩
            have G4 := Lib.hid (gb_trans G3.out g4)
            have PA4 := Lib.hid (po4.pn.fn (L' := L * (t + t)) (pow_rows ea ea) (by omega))
            have PO4 := Lib.hid (Q3.out.pn PO3.out g4)
            have Q4 := Lib.hid pq4
            have A4 := Lib.hid ha4
            clear MS po4 pq4 ha4 g4 l3 l4 tk
            go_wp2
            go_roundw
            case rel => exact ⟨k, t + t, e + t, a4, c4, by rw [HK.out]; go_num, by have := HK.out; omega, R1.out, PO4.out, PA4.out, Q4.out, by have := HB.out; have := A3.out; have := A4.out; have := HK.out; omega, G4.out⟩
            case measure => have := HK.out; simp [intOf]; omega
        · have q1 : ((m : Int) % 2 == 1) = false := by simp; omega
          obtain ⟨k, hk⟩ : ∃ k, m = 2 * k := ⟨m / 2, by omega⟩
          have hk0 : 0 < k := by omega
          have HK := Lib.hid hk
          have e3 : t * (2 * k) = (t + t) * k := by grind
          have R1 : Hid (e + (t + t) * k = N) := Lib.hid (by have := HE.out; rw [hk, e3] at this; omega)
          have tk : t + t ≤ (t + t) * k := Nat.le_mul_of_pos_right _ hk0
          have l3 : L * (t + t) ≤ 150 := Nat.le_trans (Nat.mul_le_mul (Nat.le_refl _) (by have := R1.out; omega)) HL.out
          have l4 : L * (t + t) = L * t + L * t := Nat.mul_add _ _ _
          have q2 : (1 : Int) < (m : Int) := by omega
          clear hk e3
          have MS := Lib.hid (psqr_c hu wq p g I a' c' _ za PQ.out (HD.out.gm HP.out GG.out) (by have := HB.out; have := HA.out; omega) sa (by omega))
          go_wp2_with fail
          refine (MS.out).mono ?_
          rintro e w4 ⟨x4, a4, c4, rfl, po4, pq4, ha4, g4⟩
          have G4 := Lib.hid (gb_trans GG.out g4)
          have PA4 := Lib.hid (po4.pn.fn (L' := L * (t + t)) (pow_rows ea ea) (by omega))
          have PO4 := Lib.hid (PQ.out.pn PO.out g4)
          have Q4 := Lib.hid pq4
          have A4 := Lib.hid ha4
          clear MS po4 pq4 ha4 g4 l3 l4 tk
          go_wp2
          go_roundw
          case rel => exact ⟨k, t + t, e, a4, c4, by rw [HK.out]; go_num, by have := HK.out; omega, R1.out, PO4.out, PA4.out, Q4.out, by have := HB.out; have := A4.out; have := HK.out; omega, G4.out⟩
          case measure => have := HK.out; simp [intOf]; omega
end Go.Proofs.YtimmpojeddcfnaaGreatDoor

/- The document's polynomials over residues: normal, products. -/
namespace Go.Proofs.YtimmpojeddcfnaaGreatDoor
open Go.RowKit

theorem rReds_c (w : World) (v : Value) (xs : List Int) (p : Int) (hp : 0 < p) (hp' : p < 4611686018427387904) (hv : Sl w v xs) (hl : xs.length ≤ 1000000) :
    Calls Tryz.prog 120 #[v, .int .u64 p] w fun e w' => ∃ x os, e = .returned x ∧ Own w' w.heap.size x os ∧ Mp (fun j => rd xs j % p) xs.length xs.length os ∧ w.grownBy w' none := by
  obtain ⟨A, c, rfl, hnc, hc⟩ := hv.form
  have HV := Lib.hid hv
  obtain ⟨n, hn⟩ : ∃ n, n = xs.length := ⟨_, rfl⟩
  rw [← hn] at hnc hl ⊢
  have mk := make64 24 (by kernel_rfl) n n (n : Int) (n : Int) (by omega) (by omega) (by omega) (by omega)
  have OW := Lib.hid (own_made w w.heap.size n n (Nat.le_refl _) (by omega) (by omega))
  have G0 := Lib.hid (gb_alloc (gb_refl w none) (Obj.cells (madeCells #[.int .u64 0] n) 53))
  have HN := Lib.hid hn
  clear hv hn
  go_enter Tryz.func120, Tryz.ntmps120
  go_wp2
  clear mk
  go_loopw [6] (fun v6 wr => ∃ (i : Nat) (os : List Int), v6 = .int .i64 i ∧ i ≤ n ∧ Mp (fun j => rd xs j % p) n i os ∧ Own wr w.heap.size (.slice (some ⟨w.heap.size, 0, none⟩) n n) os ∧ w.grownBy wr none) (fun v6 _ => n - (intOf v6).toNat)
  case atStart => exact ⟨0, _, rfl, by omega, Mp.start _ n, OW.out, G0.out⟩
  case round =>
    clear OW G0
    obtain ⟨i, os, rfl, hi, mp, ow, G⟩ := hrel
    have MP := Lib.hid mp
    have OW := Lib.hid ow
    have GG := Lib.hid G
    clear mp ow G
    by_cases hlt : i < n
    · obtain ⟨b, o, rfl, hci⟩ := (HV.out.grown0 GG.out).at i (by rw [← HN.out]; exact hlt)
      have hr := rd_w HV.out.ws i
      have fr := OW.out.free i
      have ce := OW.out.cell i (by rw [MP.out.len]; exact hlt)
      have MS := Lib.hid (MP.out.step hlt)
      have mm := mod_nn (x := rd xs i) hp
      obtain ⟨x, hx⟩ : ∃ x, x = rd xs i := ⟨_, rfl⟩
      rw [← hx] at hci hr MS mm
      clear hx
      go_wp2
      go_roundw
      case rel => exact ⟨i + 1, _, by go_num, by omega, MS.out, OW.out.store i mm.1 (by omega), gb_set (p := ⟨w.heap.size, i, none⟩) GG.out (Nat.le_refl _) _⟩
      case measure => simp [intOf]; omega
    · obtain rfl : i = n := by omega
      go_wp2
      go_ret
      exact ⟨_, os, rfl, OW.out, MP.out, GG.out⟩
theorem rNorm_c (w : World) (v : Value) (xs : List Int) (p : Int) (hp : 0 < p) (hp' : p < 4611686018427387904) (hv : Sl w v xs) (hl : xs.length ≤ 1000000) :
    Calls Tryz.prog 78 #[v, .int .u64 p] w fun e w' => ∃ x, e = .returned x ∧ Po w' w.heap.size x p (ev xs) xs.length ∧ w.grownBy w' none := by
  have RD := Lib.hid (rReds_c w v xs p hp hp' hv hl)
  clear hv
  go_enter Tryz.func78, Tryz.ntmps78
  go_wp2_with fail
  refine (RD.out).mono ?_
  rintro e w1 ⟨x1, os, rfl, ow, mp, g1⟩
  obtain ⟨A, c, rfl, b1, b2⟩ := ow.fm
  have h4 := fun j (hj : j < os.length) => ow.sl.at j hj
  have hr0 : ∀ j, os.length ≤ j → rd os j = 0 := fun j hj => rd_beyond hj
  have ht : ∀ k, k ≤ os.length → (∀ j, k ≤ j → rd os j = 0) → (k = 0 ∨ rd os (k - 1) ≠ 0) → k = (trimZ os).length := fun k hk h0 h1 => by
    rw [← take_trimZ (by omega) h0 h1, List.length_take]; omega
  have PO := Lib.hid (ow.po (L := xs.length) (mp.r hp (fun j _ => mod_nn hp) (Nat.le_refl _)) (mp.eqv (fun j _ => Cg.mod _ _) (Nat.le_refl _)) (by rw [mp.len]; exact Nat.le_refl _))
  obtain ⟨n, hn⟩ : ∃ n, n = os.length := ⟨_, rfl⟩
  obtain ⟨T, hT⟩ : ∃ T, T = (trimZ os).length := ⟨_, rfl⟩
  rw [← hT] at ht PO
  rw [← hn] at ht h4 hr0 b1 ⊢
  have HT := Lib.hid ht
  have HR := Lib.hid hr0
  have H4 := Lib.hid h4
  have G1 := Lib.hid g1
  clear ht hr0 h4 g1 RD ow mp hn hT
  go_wp2
  go_loopw [5] (fun v5 wr => ∃ k : Nat, v5 = .slice A k c ∧ k ≤ n ∧ (∀ j, k ≤ j → rd os j = 0) ∧ w1 = wr) (fun v5 _ => slenP v5)
  case atStart => exact ⟨n, rfl, Nat.le_refl _, HR.out, rfl⟩
  case round =>
    clear HR
    obtain ⟨k, rfl, hk, hz, hw⟩ := hrel
    subst hw
    have HZ := Lib.hid hz
    clear hz
    by_cases hk0 : k = 0
    · subst hk0
      have ht := HT.out 0 (by omega) HZ.out (Or.inl rfl)
      subst ht
      clear H4 HT
      go_wp2
      go_ret
      exact ⟨_, rfl, PO.out, G1.out⟩
    · obtain ⟨j, rfl⟩ : ∃ j, k = j + 1 := ⟨k - 1, by omega⟩
      obtain ⟨b, o, rfl, hci⟩ := H4.out j (by omega)
      have ej : ((j + 1 : Nat) : Int) - 1 = (j : Int) := by omega
      by_cases hx : rd os j = 0
      · rw [hx] at hci
        go_wp2
        go_roundw
        case rel => exact ⟨j, by simp, by omega, fun i hi => by
          by_cases e : i = j
          · rw [e]; exact hx
          · exact HZ.out i (by omega), by trivial⟩
        case measure => simp [slenP]
      · have ht := HT.out (j + 1) (by omega) HZ.out (Or.inr hx)
        subst ht
        obtain ⟨z, hz⟩ : ∃ z, z = rd os j := ⟨_, rfl⟩
        rw [← hz] at hci hx
        clear hz HT H4
        go_wp2
        go_ret
        exact ⟨_, rfl, PO.out, G1.out⟩
set_option maxRecDepth 100000 in
set_option maxHeartbeats 4000000 in
theorem rConv_c (w : World) (u v : Value) (xs ys : List Int) (n : Nat) (p : Int) (hp3 : 3 ≤ p) (hp' : p < 4611686018427387904) (hu : Sl w u xs) (hv : Sl w v ys) (hn : n = xs.length + ys.length) (hl : n ≤ 100000) :
    Calls Tryz.prog 79 #[u, v, .int .i64 n, .int .u64 p] w fun e w' => ∃ x os, e = .returned x ∧ Own w' w.heap.size x os ∧ Smp p n (fun z => ev xs z * ev ys z) os ∧ w.grownBy w' none := by
  have hp : 0 < p := by omega
  have SA := Lib.hid hu
  have SB := Lib.hid hv
  obtain ⟨A, ca, rfl, hca, _⟩ := hu.form
  obtain ⟨B, cb, rfl, hcb, _⟩ := hv.form
  obtain ⟨a, ha⟩ : ∃ z, z = xs.length := ⟨_, rfl⟩
  obtain ⟨b, hb⟩ : ∃ z, z = ys.length := ⟨_, rfl⟩
  rw [← ha] at hca hn SA
  rw [← hb] at hcb hn SB
  rw [← ha, ← hb]
  have mk := make64 24 (by kernel_rfl) n n (n : Int) (n : Int) (by omega) (by omega) (by omega) (by omega)
  have OW := Lib.hid (own_made w w.heap.size n n (Nat.le_refl _) (by omega) (by omega))
  have G0 := Lib.hid (gb_alloc (gb_refl w none) (Obj.cells (madeCells #[.int .u64 0] n) 53))
  have S0 : Hid (Smp p n (fun x => ev (xs.take 0) x * ev ys x) (List.replicate n 0)) := Lib.hid ((Smp.start hp n).fn fun x => by simp [ev])
  have HN := Lib.hid hn
  have HA := Lib.hid ha
  have HB := Lib.hid hb
  clear hu hv ha hb hn
  go_enter Tryz.func79, Tryz.ntmps79
  go_wp2
  clear mk
  go_loopw [10] (fun v10 wr => ∃ (i : Nat) (os : List Int), v10 = .int .i64 i ∧ i ≤ a ∧ Smp p n (fun x => ev (xs.take i) x * ev ys x) os ∧ Own wr w.heap.size (.slice (some ⟨w.heap.size, 0, none⟩) n n) os ∧ w.grownBy wr none) (fun v10 _ => a - (intOf v10).toNat)
  case atStart => exact ⟨0, _, rfl, by omega, S0.out, OW.out, G0.out⟩
  case round =>
    clear OW G0 S0
    obtain ⟨i, os, rfl, hi, sm, ow, G⟩ := hrel
    obtain ⟨wq, rfl⟩ : ∃ wq : World, wq = wr := ⟨_, rfl⟩
    have SM := Lib.hid sm
    have OW := Lib.hid ow
    have GG := Lib.hid G
    clear sm ow G
    by_cases hlt : i < a
    · have hx0 := rd_w SA.out.ws i
      obtain ⟨x, hx⟩ : ∃ x, x = rd xs i := ⟨_, rfl⟩
      rw [← hx] at hx0
      have HX := Lib.hid hx
      have S1 : Hid (Smp p n (fun z => ev (xs.take i) z * ev ys z + x * z ^ i * ev (ys.take 0) z) os) := Lib.hid (SM.out.fn fun z => by simp [ev])
      clear hx
      go_wp2
      go_loopw [11] (fun v11 ws => ∃ (j : Nat) (os : List Int), v11 = .int .i64 j ∧ j ≤ b ∧ Smp p n (fun z => ev (xs.take i) z * ev ys z + x * z ^ i * ev (ys.take j) z) os ∧ Own ws w.heap.size (.slice (some ⟨w.heap.size, 0, none⟩) n n) os ∧ w.grownBy ws none) (fun v11 _ => b - (intOf v11).toNat)
      case atStart => exact ⟨0, os, rfl, by omega, S1.out, OW.out, GG.out⟩
      case round =>
        clear S1 SM OW GG
        obtain ⟨j, os, rfl, hj, sm, ow, G⟩ := hrel
        obtain ⟨ws, rfl⟩ : ∃ ws : World, ws = wr := ⟨_, rfl⟩
        have SM := Lib.hid sm
        have OW := Lib.hid ow
        have GG := Lib.hid G
        clear sm ow G
        by_cases hlj : j < b
        · obtain ⟨bA, oA, rfl, hci⟩ := (SA.out.grown0 GG.out).at i (by rw [← HA.out]; exact hlt)
          obtain ⟨bF, oF, rfl, hcj⟩ := (SB.out.grown0 GG.out).at j (by rw [← HB.out]; exact hlj)
          rw [← HX.out] at hci
          obtain ⟨k, hk⟩ : ∃ k, k = i + j := ⟨_, rfl⟩
          have hkn : k < n := by have := HN.out; omega
          have ek : (i : Int) + (j : Int) = (k : Int) := by omega
          have em : (k : Int) % (n : Int) = (k : Int) := Int.emod_eq_of_lt (by omega) (by omega)
          have et : (k : Int).tmod (n : Int) = (k : Int) := Int.tmod_eq_of_lt (by omega) (by omega)
          have HK := Lib.hid hk
          have hy0 := rd_w SB.out.ws j
          obtain ⟨y, hy⟩ : ∃ x, x = rd ys j := ⟨_, rfl⟩
          rw [← hy] at hcj hy0
          have HY := Lib.hid hy
          have ce := OW.out.cell k (by rw [SM.out.len]; exact hkn)
          have hz0 := SM.out.rd hkn
          obtain ⟨z, hz⟩ : ∃ x, x = rd os k := ⟨_, rfl⟩
          rw [← hz] at ce hz0
          have HZ := Lib.hid hz
          have ML := Lib.hid (refMul_c ws.drew p x y (by omega) (by omega) hx0.1 hy0.1)
          have AD := Lib.hid (fun w3 => refAdd_c w3 p z (x * y % p) (by omega) (by omega) hz0.1 (mod_nn hp).1)
          have HF := Lib.hid (Canon.sf_cons ce (Canon.sf_nil _))
          clear hk hy hz
          go_wp2
          refine Canon.region_held_l [37] _ (by kernel_rfl) (by kernel_rfl) (by kernel_rfl) HF.out ?_
          refine Canon.segl_at 15 _ _ _ (by kernel_rfl) (by kernel_rfl) ?_
          simp only [List.take_succ_cons, List.take_zero, List.drop_succ_cons, List.drop_zero]
          go_wp2_with fail
          refine (ML.out).mono ?_
          rintro e wa ⟨rfl, ga⟩
          have F2 := Lib.hid (Canon.sf_grown0 HF.out.drew ga)
          clear ML HF
          go_wp2
          refine ⟨F2.out, ?_⟩
          refine Canon.segl_at 1 _ _ _ (by kernel_rfl) (by kernel_rfl) ?_
          simp only [List.take_succ_cons, List.take_zero, List.drop_succ_cons, List.drop_zero]
          go_wp2_with fail
          refine (AD.out _).mono ?_
          rintro e wb ⟨rfl, gb⟩
          have F3 := Lib.hid (Canon.sf_grown0 F2.out gb)
          have OW2 := Lib.hid ((OW.out.drew.grown0 ga).grown0 gb)
          have GB := Lib.hid (gb_trans (gb_trans (gb_drew GG.out) ga) gb)
          have mm := mod_nn (x := z + x * y % p) hp
          have et2 : (z + x * y % p) % p = (z + x * y) % p := Int.add_emod_emod ..
          have ET := Lib.hid et2
          have st := (SM.out.step hp hkn (t := x * y) (v := (z + x * y % p) % p) (by rw [← HZ.out, ET.out])).fn (G := fun z => ev (xs.take i) z * ev ys z + x * z ^ i * ev (ys.take (j + 1)) z) (fun t => by
            rw [ev_take_succ, ← HY.out, HK.out, Int.pow_add]; grind)
          obtain ⟨q, hq⟩ : ∃ q, q = (z + x * y % p) % p := ⟨_, rfl⟩
          rw [← hq] at mm st ⊢
          have ST := Lib.hid st
          clear AD F2 ga gb ce hcj hci OW GG st et2 ET hq
          go_wp2
          refine ⟨F3.out, ?_⟩
          have fr2 := OW2.out.free k
          have ce2 := OW2.out.cell k (by rw [SM.out.len]; exact hkn)
          refine Canon.segl_last 1 _ _ _ (by kernel_rfl) (by kernel_rfl) ?_
          go_wp2
          refine ⟨by kernel_rfl, by kernel_rfl, by kernel_rfl, ?_⟩
          go_wp2
          clear ek em et
          go_roundw
          case rel => exact ⟨j + 1, _, by go_num, by omega, ST.out, OW2.out.store k mm.1 (by omega), gb_set (p := ⟨w.heap.size, k, none⟩) GB.out (Nat.le_refl _) _⟩
          case measure => simp [intOf]; omega
        · obtain rfl : j = b := by omega
          have S2 : Hid (Smp p n (fun x => ev (xs.take (i + 1)) x * ev ys x) os) := Lib.hid (SM.out.fn fun z => by
            rw [ev_take_of (a := ys) (by rw [HB.out]; exact Nat.le_refl _), ev_take_succ, ← HX.out]; grind)
          go_wp2
          go_roundw
          case rel => exact ⟨i + 1, _, by go_num, by omega, S2.out, OW.out, GG.out⟩
          case measure => simp [intOf]; omega
    · obtain rfl : i = a := by omega
      have S3 : Hid (Smp p n (fun x => ev xs x * ev ys x) os) := Lib.hid (SM.out.fn fun z => by rw [ev_take_of (a := xs) (by rw [HA.out]; exact Nat.le_refl _)])
      go_wp2
      go_ret
      exact ⟨_, os, rfl, OW.out, S3.out, GG.out⟩
end Go.Proofs.YtimmpojeddcfnaaGreatDoor

/- Engines of polynomials: how they are made. -/
namespace Go.Proofs.YtimmpojeddcfnaaGreatDoor
open Go.RowKit

/-- A chain of engines, each of which points to the next one. -/
def ChL (w : World) : List Nat → Nat → Prop
  | [], _ => True
  | k :: ks, g0 => w.cell? ⟨k, 0, none⟩ = some (.pointer (some ⟨ks.headD g0, 0, none⟩)) ∧ ChL w ks g0
theorem ChL.grown0 {w w' : World} : ∀ {ks : List Nat} {g0 : Nat}, ChL w ks g0 → w.grownBy w' none → ChL w' ks g0
  | [], _, _, _ => trivial
  | _ :: _, _, h, g => ⟨gb_cell0 g h.1, h.2.grown0 g⟩
def NewK (n : Nat) (t : Tb) (w : World) (e : Ending) (w' : World) : Prop := ∃ ks g0 g1 g2 g3 gm, ks.length = n ∧ e = .returned (.pointer (some ⟨ks.headD g0, 0, none⟩)) ∧ ChL w' ks g0 ∧ En w' t.clamp g0 g1 g2 g3 gm 0 ⟨0, tbT t.clamp⟩ ∧ w.heap.size ≤ gm ∧ w.grownBy w' none
theorem mulK_c (w : World) (t : Tb) : Calls Tryz.prog 16 #[t.v] w fun e w' => NewK 0 t w e w' :=
  (En.new w t).mono fun _ _ ⟨g0, g1, g2, g3, gm, e1, e2, e3, e4⟩ => ⟨[], g0, g1, g2, g3, gm, rfl, e1, trivial, e2, e3, e4⟩
set_option maxRecDepth 100000 in
theorem divsK_c (w : World) (t : Tb) : Calls Tryz.prog 204 #[t.v] w fun e w' => NewK 1 t w e w' := by
  have HI := Lib.hid (fun w => mulK_c w t)
  have C0 := cs_new w #[.int .i64 t.eb, .int .i64 t.et, .int .i64 t.en, .int .i64 t.ed, .int .i64 t.er, .int .i64 t.el, .int .i64 t.ex, .int .i64 t.ep, .int .i64 t.ek, .int .i64 t.es, .int .i64 t.ee] 23
  have hg := gb_alloc (gb_refl w none) (Obj.cells #[.int .i64 t.eb, .int .i64 t.et, .int .i64 t.en, .int .i64 t.ed, .int .i64 t.er, .int .i64 t.el, .int .i64 t.ex, .int .i64 t.ep, .int .i64 t.ek, .int .i64 t.es, .int .i64 t.ee] 23)
  have HG := Lib.hid hg
  have HC0 := Lib.hid C0
  clear C0 hg
  go_enter Tryz.func204, Tryz.ntmps204
  have c0 := HC0.out.cell 0 rfl
  have c1 := HC0.out.cell 1 rfl
  have c2 := HC0.out.cell 2 rfl
  have c3 := HC0.out.cell 3 rfl
  have c4 := HC0.out.cell 4 rfl
  have c5 := HC0.out.cell 5 rfl
  have c6 := HC0.out.cell 6 rfl
  have c7 := HC0.out.cell 7 rfl
  have c8 := HC0.out.cell 8 rfl
  have c9 := HC0.out.cell 9 rfl
  have c10 := HC0.out.cell 10 rfl
  go_wp2_with fail
  refine (HI.out _).mono ?_
  rintro e w2 ⟨ks, g0, g1, g2, g3, gm, hl, rfl, ch, en, hg, g2'⟩
  obtain ⟨k, hk⟩ : ∃ k, k = ks.headD g0 := ⟨_, rfl⟩
  rw [← hk]
  have HK := Lib.hid hk
  have G2 := Lib.hid (gb_trans HG.out g2')
  have K2 := Lib.hid (And.intro ch en)
  have HH : Hid (w.heap.size ≤ gm ∧ ks.length = 0) := Lib.hid ⟨Nat.le_trans HG.out.size hg, hl⟩
  clear c0 c1 c2 c3 c4 c5 c6 c7 c8 c9 c10 HC0 g2' ch en hg hl hk
  go_wp2
  go_ret
  have ga := gb_alloc (gb_refl w2 none) (Obj.cells #[.pointer (some ⟨k, 0, none⟩)] 139)
  refine ⟨w2.heap.size :: ks, g0, g1, g2, g3, gm, by simp [HH.out.2], rfl, ⟨?_, K2.out.1.grown0 ga⟩, K2.out.2.grown0 ga, HH.out.1, gb_alloc G2.out _⟩
  rw [← HK.out]
  exact (cs_new w2 _ _).cell 0 rfl
set_option maxRecDepth 100000 in
theorem recipK_c (w : World) (t : Tb) : Calls Tryz.prog 203 #[t.v] w fun e w' => NewK 2 t w e w' := by
  have HI := Lib.hid (fun w => divsK_c w t)
  have C0 := cs_new w #[.int .i64 t.eb, .int .i64 t.et, .int .i64 t.en, .int .i64 t.ed, .int .i64 t.er, .int .i64 t.el, .int .i64 t.ex, .int .i64 t.ep, .int .i64 t.ek, .int .i64 t.es, .int .i64 t.ee] 23
  have hg := gb_alloc (gb_refl w none) (Obj.cells #[.int .i64 t.eb, .int .i64 t.et, .int .i64 t.en, .int .i64 t.ed, .int .i64 t.er, .int .i64 t.el, .int .i64 t.ex, .int .i64 t.ep, .int .i64 t.ek, .int .i64 t.es, .int .i64 t.ee] 23)
  have HG := Lib.hid hg
  have HC0 := Lib.hid C0
  clear C0 hg
  go_enter Tryz.func203, Tryz.ntmps203
  have c0 := HC0.out.cell 0 rfl
  have c1 := HC0.out.cell 1 rfl
  have c2 := HC0.out.cell 2 rfl
  have c3 := HC0.out.cell 3 rfl
  have c4 := HC0.out.cell 4 rfl
  have c5 := HC0.out.cell 5 rfl
  have c6 := HC0.out.cell 6 rfl
  have c7 := HC0.out.cell 7 rfl
  have c8 := HC0.out.cell 8 rfl
  have c9 := HC0.out.cell 9 rfl
  have c10 := HC0.out.cell 10 rfl
  go_wp2_with fail
  refine (HI.out _).mono ?_
  rintro e w2 ⟨ks, g0, g1, g2, g3, gm, hl, rfl, ch, en, hg, g2'⟩
  obtain ⟨k, hk⟩ : ∃ k, k = ks.headD g0 := ⟨_, rfl⟩
  rw [← hk]
  have HK := Lib.hid hk
  have G2 := Lib.hid (gb_trans HG.out g2')
  have K2 := Lib.hid (And.intro ch en)
  have HH : Hid (w.heap.size ≤ gm ∧ ks.length = 1) := Lib.hid ⟨Nat.le_trans HG.out.size hg, hl⟩
  clear c0 c1 c2 c3 c4 c5 c6 c7 c8 c9 c10 HC0 g2' ch en hg hl hk
  go_wp2
  go_ret
  have ga := gb_alloc (gb_refl w2 none) (Obj.cells #[.pointer (some ⟨k, 0, none⟩)] 137)
  refine ⟨w2.heap.size :: ks, g0, g1, g2, g3, gm, by simp [HH.out.2], rfl, ⟨?_, K2.out.1.grown0 ga⟩, K2.out.2.grown0 ga, HH.out.1, gb_alloc G2.out _⟩
  rw [← HK.out]
  exact (cs_new w2 _ _).cell 0 rfl
set_option maxRecDepth 100000 in
theorem divK_c (w : World) (t : Tb) : Calls Tryz.prog 202 #[t.v] w fun e w' => NewK 3 t w e w' := by
  have HI := Lib.hid (fun w => recipK_c w t)
  have C0 := cs_new w #[.int .i64 t.eb, .int .i64 t.et, .int .i64 t.en, .int .i64 t.ed, .int .i64 t.er, .int .i64 t.el, .int .i64 t.ex, .int .i64 t.ep, .int .i64 t.ek, .int .i64 t.es, .int .i64 t.ee] 23
  have hg := gb_alloc (gb_refl w none) (Obj.cells #[.int .i64 t.eb, .int .i64 t.et, .int .i64 t.en, .int .i64 t.ed, .int .i64 t.er, .int .i64 t.el, .int .i64 t.ex, .int .i64 t.ep, .int .i64 t.ek, .int .i64 t.es, .int .i64 t.ee] 23)
  have HG := Lib.hid hg
  have HC0 := Lib.hid C0
  clear C0 hg
  go_enter Tryz.func202, Tryz.ntmps202
  have c0 := HC0.out.cell 0 rfl
  have c1 := HC0.out.cell 1 rfl
  have c2 := HC0.out.cell 2 rfl
  have c3 := HC0.out.cell 3 rfl
  have c4 := HC0.out.cell 4 rfl
  have c5 := HC0.out.cell 5 rfl
  have c6 := HC0.out.cell 6 rfl
  have c7 := HC0.out.cell 7 rfl
  have c8 := HC0.out.cell 8 rfl
  have c9 := HC0.out.cell 9 rfl
  have c10 := HC0.out.cell 10 rfl
  go_wp2_with fail
  refine (HI.out _).mono ?_
  rintro e w2 ⟨ks, g0, g1, g2, g3, gm, hl, rfl, ch, en, hg, g2'⟩
  obtain ⟨k, hk⟩ : ∃ k, k = ks.headD g0 := ⟨_, rfl⟩
  rw [← hk]
  have HK := Lib.hid hk
  have G2 := Lib.hid (gb_trans HG.out g2')
  have K2 := Lib.hid (And.intro ch en)
  have HH : Hid (w.heap.size ≤ gm ∧ ks.length = 2) := Lib.hid ⟨Nat.le_trans HG.out.size hg, hl⟩
  clear c0 c1 c2 c3 c4 c5 c6 c7 c8 c9 c10 HC0 g2' ch en hg hl hk
  go_wp2
  go_ret
  have ga := gb_alloc (gb_refl w2 none) (Obj.cells #[.pointer (some ⟨k, 0, none⟩)] 134)
  refine ⟨w2.heap.size :: ks, g0, g1, g2, g3, gm, by simp [HH.out.2], rfl, ⟨?_, K2.out.1.grown0 ga⟩, K2.out.2.grown0 ga, HH.out.1, gb_alloc G2.out _⟩
  rw [← HK.out]
  exact (cs_new w2 _ _).cell 0 rfl
set_option maxRecDepth 100000 in
theorem rootK_c (w : World) (t : Tb) : Calls Tryz.prog 200 #[t.v] w fun e w' => NewK 4 t w e w' := by
  have HI := Lib.hid (fun w => divK_c w t)
  have C0 := cs_new w #[.int .i64 t.eb, .int .i64 t.et, .int .i64 t.en, .int .i64 t.ed, .int .i64 t.er, .int .i64 t.el, .int .i64 t.ex, .int .i64 t.ep, .int .i64 t.ek, .int .i64 t.es, .int .i64 t.ee] 23
  have hg := gb_alloc (gb_refl w none) (Obj.cells #[.int .i64 t.eb, .int .i64 t.et, .int .i64 t.en, .int .i64 t.ed, .int .i64 t.er, .int .i64 t.el, .int .i64 t.ex, .int .i64 t.ep, .int .i64 t.ek, .int .i64 t.es, .int .i64 t.ee] 23)
  have HG := Lib.hid hg
  have HC0 := Lib.hid C0
  clear C0 hg
  go_enter Tryz.func200, Tryz.ntmps200
  have c0 := HC0.out.cell 0 rfl
  have c1 := HC0.out.cell 1 rfl
  have c2 := HC0.out.cell 2 rfl
  have c3 := HC0.out.cell 3 rfl
  have c4 := HC0.out.cell 4 rfl
  have c5 := HC0.out.cell 5 rfl
  have c6 := HC0.out.cell 6 rfl
  have c7 := HC0.out.cell 7 rfl
  have c8 := HC0.out.cell 8 rfl
  have c9 := HC0.out.cell 9 rfl
  have c10 := HC0.out.cell 10 rfl
  go_wp2_with fail
  refine (HI.out _).mono ?_
  rintro e w2 ⟨ks, g0, g1, g2, g3, gm, hl, rfl, ch, en, hg, g2'⟩
  obtain ⟨k, hk⟩ : ∃ k, k = ks.headD g0 := ⟨_, rfl⟩
  rw [← hk]
  have HK := Lib.hid hk
  have G2 := Lib.hid (gb_trans HG.out g2')
  have K2 := Lib.hid (And.intro ch en)
  have HH : Hid (w.heap.size ≤ gm ∧ ks.length = 3) := Lib.hid ⟨Nat.le_trans HG.out.size hg, hl⟩
  clear c0 c1 c2 c3 c4 c5 c6 c7 c8 c9 c10 HC0 g2' ch en hg hl hk
  go_wp2
  go_ret
  have ga := gb_alloc (gb_refl w2 none) (Obj.cells #[.pointer (some ⟨k, 0, none⟩)] 131)
  refine ⟨w2.heap.size :: ks, g0, g1, g2, g3, gm, by simp [HH.out.2], rfl, ⟨?_, K2.out.1.grown0 ga⟩, K2.out.2.grown0 ga, HH.out.1, gb_alloc G2.out _⟩
  rw [← HK.out]
  exact (cs_new w2 _ _).cell 0 rfl
set_option maxRecDepth 100000 in
theorem radixK_c (w : World) (t : Tb) : Calls Tryz.prog 195 #[t.v] w fun e w' => NewK 5 t w e w' := by
  have HI := Lib.hid (fun w => rootK_c w t)
  have C0 := cs_new w #[.int .i64 t.eb, .int .i64 t.et, .int .i64 t.en, .int .i64 t.ed, .int .i64 t.er, .int .i64 t.el, .int .i64 t.ex, .int .i64 t.ep, .int .i64 t.ek, .int .i64 t.es, .int .i64 t.ee] 23
  have hg := gb_alloc (gb_refl w none) (Obj.cells #[.int .i64 t.eb, .int .i64 t.et, .int .i64 t.en, .int .i64 t.ed, .int .i64 t.er, .int .i64 t.el, .int .i64 t.ex, .int .i64 t.ep, .int .i64 t.ek, .int .i64 t.es, .int .i64 t.ee] 23)
  have HG := Lib.hid hg
  have HC0 := Lib.hid C0
  clear C0 hg
  go_enter Tryz.func195, Tryz.ntmps195
  have c0 := HC0.out.cell 0 rfl
  have c1 := HC0.out.cell 1 rfl
  have c2 := HC0.out.cell 2 rfl
  have c3 := HC0.out.cell 3 rfl
  have c4 := HC0.out.cell 4 rfl
  have c5 := HC0.out.cell 5 rfl
  have c6 := HC0.out.cell 6 rfl
  have c7 := HC0.out.cell 7 rfl
  have c8 := HC0.out.cell 8 rfl
  have c9 := HC0.out.cell 9 rfl
  have c10 := HC0.out.cell 10 rfl
  go_wp2_with fail
  refine (HI.out _).mono ?_
  rintro e w2 ⟨ks, g0, g1, g2, g3, gm, hl, rfl, ch, en, hg, g2'⟩
  obtain ⟨k, hk⟩ : ∃ k, k = ks.headD g0 := ⟨_, rfl⟩
  rw [← hk]
  have HK := Lib.hid hk
  have G2 := Lib.hid (gb_trans HG.out g2')
  have K2 := Lib.hid (And.intro ch en)
  have HH : Hid (w.heap.size ≤ gm ∧ ks.length = 4) := Lib.hid ⟨Nat.le_trans HG.out.size hg, hl⟩
  clear c0 c1 c2 c3 c4 c5 c6 c7 c8 c9 c10 HC0 g2' ch en hg hl hk
  go_wp2
  go_ret
  have ga := gb_alloc (gb_refl w2 none) (Obj.cells #[.pointer (some ⟨k, 0, none⟩)] 128)
  refine ⟨w2.heap.size :: ks, g0, g1, g2, g3, gm, by simp [HH.out.2], rfl, ⟨?_, K2.out.1.grown0 ga⟩, K2.out.2.grown0 ga, HH.out.1, gb_alloc G2.out _⟩
  rw [← HK.out]
  exact (cs_new w2 _ _).cell 0 rfl
set_option maxRecDepth 100000 in
theorem numK_c (w : World) (t : Tb) : Calls Tryz.prog 190 #[t.v] w fun e w' => NewK 6 t w e w' := by
  have HI := Lib.hid (fun w => radixK_c w t)
  have C0 := cs_new w #[.int .i64 t.eb, .int .i64 t.et, .int .i64 t.en, .int .i64 t.ed, .int .i64 t.er, .int .i64 t.el, .int .i64 t.ex, .int .i64 t.ep, .int .i64 t.ek, .int .i64 t.es, .int .i64 t.ee] 23
  have hg := gb_alloc (gb_refl w none) (Obj.cells #[.int .i64 t.eb, .int .i64 t.et, .int .i64 t.en, .int .i64 t.ed, .int .i64 t.er, .int .i64 t.el, .int .i64 t.ex, .int .i64 t.ep, .int .i64 t.ek, .int .i64 t.es, .int .i64 t.ee] 23)
  have HG := Lib.hid hg
  have HC0 := Lib.hid C0
  clear C0 hg
  go_enter Tryz.func190, Tryz.ntmps190
  have c0 := HC0.out.cell 0 rfl
  have c1 := HC0.out.cell 1 rfl
  have c2 := HC0.out.cell 2 rfl
  have c3 := HC0.out.cell 3 rfl
  have c4 := HC0.out.cell 4 rfl
  have c5 := HC0.out.cell 5 rfl
  have c6 := HC0.out.cell 6 rfl
  have c7 := HC0.out.cell 7 rfl
  have c8 := HC0.out.cell 8 rfl
  have c9 := HC0.out.cell 9 rfl
  have c10 := HC0.out.cell 10 rfl
  go_wp2_with fail
  refine (HI.out _).mono ?_
  rintro e w2 ⟨ks, g0, g1, g2, g3, gm, hl, rfl, ch, en, hg, g2'⟩
  obtain ⟨k, hk⟩ : ∃ k, k = ks.headD g0 := ⟨_, rfl⟩
  rw [← hk]
  have HK := Lib.hid hk
  have G2 := Lib.hid (gb_trans HG.out g2')
  have K2 := Lib.hid (And.intro ch en)
  have HH : Hid (w.heap.size ≤ gm ∧ ks.length = 5) := Lib.hid ⟨Nat.le_trans HG.out.size hg, hl⟩
  clear c0 c1 c2 c3 c4 c5 c6 c7 c8 c9 c10 HC0 g2' ch en hg hl hk
  go_wp2
  go_ret
  have ga := gb_alloc (gb_refl w2 none) (Obj.cells #[.pointer (some ⟨k, 0, none⟩)] 125)
  refine ⟨w2.heap.size :: ks, g0, g1, g2, g3, gm, by simp [HH.out.2], rfl, ⟨?_, K2.out.1.grown0 ga⟩, K2.out.2.grown0 ga, HH.out.1, gb_alloc G2.out _⟩
  rw [← HK.out]
  exact (cs_new w2 _ _).cell 0 rfl
set_option maxRecDepth 100000 in
theorem powerK_c (w : World) (t : Tb) : Calls Tryz.prog 182 #[t.v] w fun e w' => NewK 7 t w e w' := by
  have HI := Lib.hid (fun w => numK_c w t)
  have C0 := cs_new w #[.int .i64 t.eb, .int .i64 t.et, .int .i64 t.en, .int .i64 t.ed, .int .i64 t.er, .int .i64 t.el, .int .i64 t.ex, .int .i64 t.ep, .int .i64 t.ek, .int .i64 t.es, .int .i64 t.ee] 23
  have hg := gb_alloc (gb_refl w none) (Obj.cells #[.int .i64 t.eb, .int .i64 t.et, .int .i64 t.en, .int .i64 t.ed, .int .i64 t.er, .int .i64 t.el, .int .i64 t.ex, .int .i64 t.ep, .int .i64 t.ek, .int .i64 t.es, .int .i64 t.ee] 23)
  have HG := Lib.hid hg
  have HC0 := Lib.hid C0
  clear C0 hg
  go_enter Tryz.func182, Tryz.ntmps182
  have c0 := HC0.out.cell 0 rfl
  have c1 := HC0.out.cell 1 rfl
  have c2 := HC0.out.cell 2 rfl
  have c3 := HC0.out.cell 3 rfl
  have c4 := HC0.out.cell 4 rfl
  have c5 := HC0.out.cell 5 rfl
  have c6 := HC0.out.cell 6 rfl
  have c7 := HC0.out.cell 7 rfl
  have c8 := HC0.out.cell 8 rfl
  have c9 := HC0.out.cell 9 rfl
  have c10 := HC0.out.cell 10 rfl
  go_wp2_with fail
  refine (HI.out _).mono ?_
  rintro e w2 ⟨ks, g0, g1, g2, g3, gm, hl, rfl, ch, en, hg, g2'⟩
  obtain ⟨k, hk⟩ : ∃ k, k = ks.headD g0 := ⟨_, rfl⟩
  rw [← hk]
  have HK := Lib.hid hk
  have G2 := Lib.hid (gb_trans HG.out g2')
  have K2 := Lib.hid (And.intro ch en)
  have HH : Hid (w.heap.size ≤ gm ∧ ks.length = 6) := Lib.hid ⟨Nat.le_trans HG.out.size hg, hl⟩
  clear c0 c1 c2 c3 c4 c5 c6 c7 c8 c9 c10 HC0 g2' ch en hg hl hk
  go_wp2
  go_ret
  have ga := gb_alloc (gb_refl w2 none) (Obj.cells #[.pointer (some ⟨k, 0, none⟩)] 122)
  refine ⟨w2.heap.size :: ks, g0, g1, g2, g3, gm, by simp [HH.out.2], rfl, ⟨?_, K2.out.1.grown0 ga⟩, K2.out.2.grown0 ga, HH.out.1, gb_alloc G2.out _⟩
  rw [← HK.out]
  exact (cs_new w2 _ _).cell 0 rfl
set_option maxRecDepth 100000 in
theorem gcdK_c (w : World) (t : Tb) : Calls Tryz.prog 154 #[t.v] w fun e w' => NewK 8 t w e w' := by
  have HI := Lib.hid (fun w => powerK_c w t)
  have C0 := cs_new w #[.int .i64 t.eb, .int .i64 t.et, .int .i64 t.en, .int .i64 t.ed, .int .i64 t.er, .int .i64 t.el, .int .i64 t.ex, .int .i64 t.ep, .int .i64 t.ek, .int .i64 t.es, .int .i64 t.ee] 23
  have hg := gb_alloc (gb_refl w none) (Obj.cells #[.int .i64 t.eb, .int .i64 t.et, .int .i64 t.en, .int .i64 t.ed, .int .i64 t.er, .int .i64 t.el, .int .i64 t.ex, .int .i64 t.ep, .int .i64 t.ek, .int .i64 t.es, .int .i64 t.ee] 23)
  have HG := Lib.hid hg
  have HC0 := Lib.hid C0
  clear C0 hg
  go_enter Tryz.func154, Tryz.ntmps154
  have c0 := HC0.out.cell 0 rfl
  have c1 := HC0.out.cell 1 rfl
  have c2 := HC0.out.cell 2 rfl
  have c3 := HC0.out.cell 3 rfl
  have c4 := HC0.out.cell 4 rfl
  have c5 := HC0.out.cell 5 rfl
  have c6 := HC0.out.cell 6 rfl
  have c7 := HC0.out.cell 7 rfl
  have c8 := HC0.out.cell 8 rfl
  have c9 := HC0.out.cell 9 rfl
  have c10 := HC0.out.cell 10 rfl
  go_wp2_with fail
  refine (HI.out _).mono ?_
  rintro e w2 ⟨ks, g0, g1, g2, g3, gm, hl, rfl, ch, en, hg, g2'⟩
  obtain ⟨k, hk⟩ : ∃ k, k = ks.headD g0 := ⟨_, rfl⟩
  rw [← hk]
  have HK := Lib.hid hk
  have G2 := Lib.hid (gb_trans HG.out g2')
  have K2 := Lib.hid (And.intro ch en)
  have HH : Hid (w.heap.size ≤ gm ∧ ks.length = 7) := Lib.hid ⟨Nat.le_trans HG.out.size hg, hl⟩
  clear c0 c1 c2 c3 c4 c5 c6 c7 c8 c9 c10 HC0 g2' ch en hg hl hk
  go_wp2
  go_ret
  have ga := gb_alloc (gb_refl w2 none) (Obj.cells #[.pointer (some ⟨k, 0, none⟩)] 119)
  refine ⟨w2.heap.size :: ks, g0, g1, g2, g3, gm, by simp [HH.out.2], rfl, ⟨?_, K2.out.1.grown0 ga⟩, K2.out.2.grown0 ga, HH.out.1, gb_alloc G2.out _⟩
  rw [← HK.out]
  exact (cs_new w2 _ _).cell 0 rfl
set_option maxRecDepth 100000 in
theorem hgcdK_c (w : World) (t : Tb) : Calls Tryz.prog 112 #[t.v] w fun e w' => NewK 9 t w e w' := by
  have HI := Lib.hid (fun w => gcdK_c w t)
  have C0 := cs_new w #[.int .i64 t.eb, .int .i64 t.et, .int .i64 t.en, .int .i64 t.ed, .int .i64 t.er, .int .i64 t.el, .int .i64 t.ex, .int .i64 t.ep, .int .i64 t.ek, .int .i64 t.es, .int .i64 t.ee] 23
  have hg := gb_alloc (gb_refl w none) (Obj.cells #[.int .i64 t.eb, .int .i64 t.et, .int .i64 t.en, .int .i64 t.ed, .int .i64 t.er, .int .i64 t.el, .int .i64 t.ex, .int .i64 t.ep, .int .i64 t.ek, .int .i64 t.es, .int .i64 t.ee] 23)
  have HG := Lib.hid hg
  have HC0 := Lib.hid C0
  clear C0 hg
  go_enter Tryz.func112, Tryz.ntmps112
  have c0 := HC0.out.cell 0 rfl
  have c1 := HC0.out.cell 1 rfl
  have c2 := HC0.out.cell 2 rfl
  have c3 := HC0.out.cell 3 rfl
  have c4 := HC0.out.cell 4 rfl
  have c5 := HC0.out.cell 5 rfl
  have c6 := HC0.out.cell 6 rfl
  have c7 := HC0.out.cell 7 rfl
  have c8 := HC0.out.cell 8 rfl
  have c9 := HC0.out.cell 9 rfl
  have c10 := HC0.out.cell 10 rfl
  go_wp2_with fail
  refine (HI.out _).mono ?_
  rintro e w2 ⟨ks, g0, g1, g2, g3, gm, hl, rfl, ch, en, hg, g2'⟩
  obtain ⟨k, hk⟩ : ∃ k, k = ks.headD g0 := ⟨_, rfl⟩
  rw [← hk]
  have HK := Lib.hid hk
  have G2 := Lib.hid (gb_trans HG.out g2')
  have K2 := Lib.hid (And.intro ch en)
  have HH : Hid (w.heap.size ≤ gm ∧ ks.length = 8) := Lib.hid ⟨Nat.le_trans HG.out.size hg, hl⟩
  clear c0 c1 c2 c3 c4 c5 c6 c7 c8 c9 c10 HC0 g2' ch en hg hl hk
  go_wp2
  go_ret
  have ga := gb_alloc (gb_refl w2 none) (Obj.cells #[.pointer (some ⟨k, 0, none⟩)] 116)
  refine ⟨w2.heap.size :: ks, g0, g1, g2, g3, gm, by simp [HH.out.2], rfl, ⟨?_, K2.out.1.grown0 ga⟩, K2.out.2.grown0 ga, HH.out.1, gb_alloc G2.out _⟩
  rw [← HK.out]
  exact (cs_new w2 _ _).cell 0 rfl
set_option maxRecDepth 100000 in
theorem modnK_c (w : World) (t : Tb) : Calls Tryz.prog 66 #[t.v] w fun e w' => NewK 10 t w e w' := by
  have HI := Lib.hid (fun w => hgcdK_c w t)
  have C0 := cs_new w #[.int .i64 t.eb, .int .i64 t.et, .int .i64 t.en, .int .i64 t.ed, .int .i64 t.er, .int .i64 t.el, .int .i64 t.ex, .int .i64 t.ep, .int .i64 t.ek, .int .i64 t.es, .int .i64 t.ee] 23
  have hg := gb_alloc (gb_refl w none) (Obj.cells #[.int .i64 t.eb, .int .i64 t.et, .int .i64 t.en, .int .i64 t.ed, .int .i64 t.er, .int .i64 t.el, .int .i64 t.ex, .int .i64 t.ep, .int .i64 t.ek, .int .i64 t.es, .int .i64 t.ee] 23)
  have HG := Lib.hid hg
  have HC0 := Lib.hid C0
  clear C0 hg
  go_enter Tryz.func66, Tryz.ntmps66
  have c0 := HC0.out.cell 0 rfl
  have c1 := HC0.out.cell 1 rfl
  have c2 := HC0.out.cell 2 rfl
  have c3 := HC0.out.cell 3 rfl
  have c4 := HC0.out.cell 4 rfl
  have c5 := HC0.out.cell 5 rfl
  have c6 := HC0.out.cell 6 rfl
  have c7 := HC0.out.cell 7 rfl
  have c8 := HC0.out.cell 8 rfl
  have c9 := HC0.out.cell 9 rfl
  have c10 := HC0.out.cell 10 rfl
  go_wp2_with fail
  refine (HI.out _).mono ?_
  rintro e w2 ⟨ks, g0, g1, g2, g3, gm, hl, rfl, ch, en, hg, g2'⟩
  obtain ⟨k, hk⟩ : ∃ k, k = ks.headD g0 := ⟨_, rfl⟩
  rw [← hk]
  have HK := Lib.hid hk
  have G2 := Lib.hid (gb_trans HG.out g2')
  have K2 := Lib.hid (And.intro ch en)
  have HH : Hid (w.heap.size ≤ gm ∧ ks.length = 9) := Lib.hid ⟨Nat.le_trans HG.out.size hg, hl⟩
  clear c0 c1 c2 c3 c4 c5 c6 c7 c8 c9 c10 HC0 g2' ch en hg hl hk
  go_wp2
  go_ret
  have ga := gb_alloc (gb_refl w2 none) (Obj.cells #[.pointer (some ⟨k, 0, none⟩)] 113)
  refine ⟨w2.heap.size :: ks, g0, g1, g2, g3, gm, by simp [HH.out.2], rfl, ⟨?_, K2.out.1.grown0 ga⟩, K2.out.2.grown0 ga, HH.out.1, gb_alloc G2.out _⟩
  rw [← HK.out]
  exact (cs_new w2 _ _).cell 0 rfl
theorem ChL.ch {w : World} {ks : List Nat} {g0 : Nat} (h : ChL w ks g0) (hl : ks.length = 10) : ∃ k0 k1 k2 k3 k4 k5 k6 k7 k8 k9, ks = [k0, k1, k2, k3, k4, k5, k6, k7, k8, k9] ∧ Ch w k0 k1 k2 k3 k4 k5 k6 k7 k8 k9 g0 := by
  match ks, hl with
  | [k0, k1, k2, k3, k4, k5, k6, k7, k8, k9], _ =>
    obtain ⟨h0, h1, h2, h3, h4, h5, h6, h7, h8, h9, _⟩ := h
    exact ⟨k0, k1, k2, k3, k4, k5, k6, k7, k8, k9, rfl, h0, h1, h2, h3, h4, h5, h6, h7, h8, h9⟩
end Go.Proofs.YtimmpojeddcfnaaGreatDoor

/- Engines of polynomials: rings and engines are made. -/
namespace Go.Proofs.YtimmpojeddcfnaaGreatDoor
open Go.RowKit

theorem polypNew_ok (w : World) (p : Nat) (hp : Pm p) (hi : isP p = true) (hd : Db w) :
    Calls Tryz.prog 65 #[.int .u64 p] w fun e w' => ∃ r q, e = .returned (.tuple #[.pointer (some ⟨r, 0, none⟩), .int .i64 0]) ∧ Rg w' r q p ∧ w.grownBy w' none := by
  have PM := Lib.hid (pmod_ok w p hp hi hd)
  obtain ⟨P, hP⟩ : ∃ P : Int, P = (p : Int) := ⟨_, rfl⟩
  rw [← hP] at PM ⊢
  clear hp hi hd hP
  go_enter Tryz.func65, Tryz.ntmps65
  go_wp2_with fail
  refine (PM.out).mono ?_
  rintro e w1 ⟨q, rfl, md, _, g1⟩
  have MD := Lib.hid md
  have G1 := Lib.hid g1
  clear md g1 PM
  go_wp2
  go_ret2
  have ga := gb_alloc (gb_refl w1 none) (Obj.cells #[.pointer (some ⟨q, 0, none⟩)] 66)
  exact ⟨_, q, rfl, ⟨(cs_new w1 _ _).cell 0 rfl, MD.out.grown0 ga⟩, gb_trans G1.out ga⟩
theorem polypNew_no (w : World) (p : Nat) (p64 : p < 2 ^ 64) (h : ¬ (Pm p ∧ isP p = true)) (hd : Db w) :
    Calls Tryz.prog 65 #[.int .u64 p] w fun e w' => e = .returned (.tuple #[.pointer none, .int .i64 3]) ∧ w.grownBy w' none := by
  have PM := Lib.hid (pmod_no w p p64 h hd)
  obtain ⟨P, hP⟩ : ∃ P : Int, P = (p : Int) := ⟨_, rfl⟩
  rw [← hP] at PM ⊢
  clear h hd p64 hP
  go_enter Tryz.func65, Tryz.ntmps65
  go_wp2_with fail
  refine (PM.out).mono ?_
  rintro e w1 ⟨rfl, g1⟩
  go_wp2
  go_ret2
  exact ⟨rfl, g1⟩
set_option maxRecDepth 100000 in
theorem pmulNew_ok (w : World) (t : Tb) (p : Nat) (hp : Pm p) (hi : isP p = true) (hd : Db w) :
    Calls Tryz.prog 24 #[t.v, .int .u64 p] w fun e w' => ∃ g I, e = .returned (.tuple #[.pointer (some ⟨g, 0, none⟩), .int .i64 0]) ∧ Pq w' t.clamp p g I 0 ⟨0, tbT t.clamp⟩ ∧ w.heap.size ≤ I.gm ∧ w.grownBy w' none := by
  have C0 := cs_new w #[.int .i64 t.eb, .int .i64 t.et, .int .i64 t.en, .int .i64 t.ed, .int .i64 t.er, .int .i64 t.el, .int .i64 t.ex, .int .i64 t.ep, .int .i64 t.ek, .int .i64 t.es, .int .i64 t.ee] 23
  have hg := gb_alloc (gb_refl w none) (Obj.cells #[.int .i64 t.eb, .int .i64 t.et, .int .i64 t.en, .int .i64 t.ed, .int .i64 t.er, .int .i64 t.el, .int .i64 t.ex, .int .i64 t.ep, .int .i64 t.ek, .int .i64 t.es, .int .i64 t.ee] 23)
  have RN := Lib.hid (polypNew_ok _ p hp hi (hd.grown0 hg))
  have HI := Lib.hid (fun w => modnK_c w t)
  have HG := Lib.hid hg
  have HC0 := Lib.hid C0
  obtain ⟨P, hP⟩ : ∃ P : Int, P = (p : Int) := ⟨_, rfl⟩
  rw [← hP] at RN ⊢
  clear C0 hg hp hi hd hP
  go_enter Tryz.func24, Tryz.ntmps24
  go_wp2_with fail
  refine (RN.out).mono ?_
  rintro e w1 ⟨r, q, rfl, rg, g1⟩
  have RG := Lib.hid rg
  have G1 := Lib.hid (gb_trans HG.out g1)
  have C1 := HC0.out.grown0 g1
  have c0 := C1.cell 0 rfl
  have c1 := C1.cell 1 rfl
  have c2 := C1.cell 2 rfl
  have c3 := C1.cell 3 rfl
  have c4 := C1.cell 4 rfl
  have c5 := C1.cell 5 rfl
  have c6 := C1.cell 6 rfl
  have c7 := C1.cell 7 rfl
  have c8 := C1.cell 8 rfl
  have c9 := C1.cell 9 rfl
  have c10 := C1.cell 10 rfl
  clear rg g1 RN C1
  go_wp2_with fail
  refine (HI.out _).mono ?_
  rintro e w2 ⟨ks, g0, g1, g2, g3, gm, hl, rfl, ch, en, hg, g2'⟩
  obtain ⟨k0, k1, k2, k3, k4, k5, k6, k7, k8, k9, rfl, ch'⟩ := ch.ch hl
  have G2 := Lib.hid (gb_trans G1.out g2')
  have K2 := Lib.hid (And.intro ch' en)
  have R2 := Lib.hid (RG.out.grown0 g2')
  have HH : Hid (w.heap.size ≤ gm) := Lib.hid (Nat.le_trans G1.out.size hg)
  clear c0 c1 c2 c3 c4 c5 c6 c7 c8 c9 c10 HC0 g2' ch ch' en hg hl HI
  simp only [List.headD_cons]
  go_wp2
  go_ret2
  have ga := gb_alloc (gb_refl w2 none) (Obj.cells #[.pointer (some ⟨r, 0, none⟩), .pointer (some ⟨k0, 0, none⟩)] 63)
  have C := cs_new w2 #[.pointer (some ⟨r, 0, none⟩), .pointer (some ⟨k0, 0, none⟩)] 63
  exact ⟨_, ⟨r, q, k0, k1, k2, k3, k4, k5, k6, k7, k8, k9, g0, g1, g2, g3, gm⟩, rfl, ⟨⟨C.cell 0 rfl, C.cell 1 rfl, R2.out.grown0 ga, K2.out.1.grown0 ga⟩, K2.out.2.grown0 ga⟩, HH.out, gb_trans G2.out ga⟩
set_option maxRecDepth 100000 in
theorem pmulNew_no (w : World) (t : Tb) (p : Nat) (p64 : p < 2 ^ 64) (h : ¬ (Pm p ∧ isP p = true)) (hd : Db w) :
    Calls Tryz.prog 24 #[t.v, .int .u64 p] w fun e w' => e = .returned (.tuple #[.pointer none, .int .i64 3]) ∧ w.grownBy w' none := by
  have hg := gb_alloc (gb_refl w none) (Obj.cells #[.int .i64 t.eb, .int .i64 t.et, .int .i64 t.en, .int .i64 t.ed, .int .i64 t.er, .int .i64 t.el, .int .i64 t.ex, .int .i64 t.ep, .int .i64 t.ek, .int .i64 t.es, .int .i64 t.ee] 23)
  have RN := Lib.hid (polypNew_no _ p p64 h (hd.grown0 hg))
  have HG := Lib.hid hg
  obtain ⟨P, hP⟩ : ∃ P : Int, P = (p : Int) := ⟨_, rfl⟩
  rw [← hP] at RN ⊢
  clear hg h hd p64 hP
  go_enter Tryz.func24, Tryz.ntmps24
  go_wp2_with fail
  refine (RN.out).mono ?_
  rintro e w1 ⟨rfl, g1⟩
  go_wp2
  go_ret2
  exact ⟨rfl, gb_trans HG.out g1⟩
end Go.Proofs.YtimmpojeddcfnaaGreatDoor

/- Primes: the document's test. -/
namespace Go.Proofs.YtimmpojeddcfnaaGreatDoor
open Go.RowKit

set_option maxRecDepth 100000 in
theorem refWit_c (w : World) (a n : Int) (d s : Nat) (a0 : 0 ≤ a) (n0 : 1 < n) (n1 : n < 18446744073709551616) (hd : d < 2 ^ 64) (hs0 : 0 < s) (hs : s ≤ 64) (hx0 : a ^ d % n ≠ 0) :
    Calls Tryz.prog 113 #[.int .u64 a, .int .u64 d, .int .i64 s, .int .u64 n] w fun e w' => e = .returned (.bool (!wit a n d s)) ∧ w.grownBy w' none := by
  obtain ⟨W, hW⟩ : ∃ W, W = wit a n d s := ⟨_, rfl⟩
  have x0 := Int.emod_nonneg (a ^ d) (show n ≠ 0 by omega)
  have x1 := Int.emod_lt_of_pos (a ^ d) (show 0 < n by omega)
  rw [← hW]
  unfold wit at hW
  have P := fun w => refPow_c w n a d (by omega) n1 a0 hd
  obtain ⟨x, hx⟩ : ∃ x, x = a ^ d % n := ⟨_, rfl⟩
  rw [← hx] at hW x0 x1 P hx0
  have HP := Lib.hid P
  have hn0 : n ≠ 0 := by omega
  clear hx P
  by_cases h2 : x = 1
  · have fin : W = false := by rw [hW, if_pos (Or.inr (Or.inl h2))]
    subst h2
    subst fin
    clear hW
    go_enter Tryz.func113, Tryz.ntmps113
    go_wp2_with fail
    refine (HP.out _).mono ?_
    rintro e w1 ⟨rfl, g1⟩
    go_wp2
    go_ret
    exact ⟨rfl, g1⟩
  · by_cases h3 : x = n - 1
    · have fin : W = false := by rw [hW, if_pos (Or.inr (Or.inr h3))]
      subst fin
      have hb2 : (x == 1) = false := by simpa using h2
      have hb3 : (x == n - 1) = true := by simpa using h3
      clear hW h2 h3
      go_enter Tryz.func113, Tryz.ntmps113
      go_wp2_with fail
      refine (HP.out _).mono ?_
      rintro e w1 ⟨rfl, g1⟩
      go_wp2
      go_ret
      exact ⟨rfl, g1⟩
    · rw [if_neg (by omega)] at hW
      have HW := Lib.hid hW
      have hb2 : (x == 1) = false := by simpa using h2
      have hb3 : (x == n - 1) = false := by simpa using h3
      clear hW
      go_enter Tryz.func113, Tryz.ntmps113
      go_wp2_with fail
      refine (HP.out _).mono ?_
      rintro e w1 ⟨rfl, g1⟩
      clear HP
      go_wp2
      clear hb2 hb3
      go_loopw [9, 10] (fun v9 v10 wr => ∃ (i : Nat) (y : Int), v9 = .int .u64 y ∧ v10 = .int .i64 i ∧ 1 ≤ i ∧ i ≤ s ∧ 0 ≤ y ∧ y < n ∧ W = mrL n (s - i) y ∧ w.grownBy wr none) (fun _ v10 _ => s - (intOf v10).toNat)
      case atStart => exact ⟨1, x, rfl, rfl, by omega, by omega, x0, x1, HW.out, g1⟩
      case round =>
        clear HW x0 x1 h2 h3 g1 hx0
        obtain ⟨i, y, rfl, rfl, hi1, hi, y0, y1, hW, G⟩ := hrel
        by_cases hit : i < s
        · obtain ⟨c, hc⟩ : ∃ c, s - i = c + 1 := ⟨s - i - 1, by omega⟩
          rw [hc, mrL] at hW
          have hc2 : c = s - (i + 1) := by omega
          have HC := Lib.hid hc2
          have z0 := Int.emod_nonneg (y * y) hn0
          have z1 := Int.emod_lt_of_pos (y * y) (show 0 < n by omega)
          have P := fun w => refMul_c w n y y (by omega) n1 y0 y0
          obtain ⟨z, hz⟩ : ∃ z, z = y * y % n := ⟨_, rfl⟩
          rw [← hz] at hW z0 z1 P
          have HP := Lib.hid P
          clear hz P hc hc2
          by_cases h3 : z = n - 1
          · rw [if_pos h3] at hW
            subst hW
            have hb3 : (z == n - 1) = true := by simpa using h3
            clear h3
            go_wp2_with fail
            refine (HP.out _).mono ?_
            rintro e w2 ⟨rfl, g2⟩
            go_wp2
            go_ret
            exact ⟨rfl, gb_trans G g2⟩
          · rw [if_neg h3] at hW
            have HW := Lib.hid hW
            have hb3 : (z == n - 1) = false := by simpa using h3
            clear h3 hW
            go_wp2_with fail
            refine (HP.out _).mono ?_
            rintro e w2 ⟨rfl, g2⟩
            go_wp2
            clear hb3
            go_roundw
            case rel => exact ⟨i + 1, z, rfl, by go_num, by omega, by omega, z0, z1, by rw [← HC.out]; exact HW.out, gb_trans G g2⟩
            case measure => simp [intOf]; omega
        · obtain rfl : i = s := by omega
          rw [Nat.sub_self, mrL] at hW
          subst hW
          go_wp2
          go_ret
          exact ⟨rfl, G⟩
theorem small_cop : ∀ p ∈ smallP, ∀ r, r < p → r ≠ 0 → Nat.gcd r p = 1 := by decide
theorem small_pow {n p d : Nat} (hp : p ∈ smallP) (hn : 1 < n) (h : n % p ≠ 0) : (p : Int) ^ d % n ≠ 0 := by
  have hp0 : 0 < p := by
    have : ∀ p ∈ smallP, 0 < p := by decide
    exact this p hp
  have hc : Nat.Coprime p n := by
    show Nat.gcd p n = 1
    rw [Nat.gcd_rec, small_cop p hp _ (Nat.mod_lt _ hp0) h]
  have hc2 : Nat.Coprime (p ^ d) n := Nat.Coprime.pow_left d hc
  intro e
  have e2 : ((p ^ d % n : Nat) : Int) = 0 := by rw [Int.natCast_emod, Int.natCast_pow]; exact e
  have e3 : p ^ d % n = 0 := by omega
  have hdv := Nat.dvd_of_mod_eq_zero e3
  have h1 : Nat.gcd (p ^ d) n = n := Nat.gcd_eq_right hdv
  have h2 : Nat.gcd (p ^ d) n = 1 := hc2
  omega
theorem tzF_succ (k m : Nat) : tzF (k + 1) m = if m % 2 = 1 then (0, m) else ((tzF k (m / 2)).1 + 1, (tzF k (m / 2)).2) := rfl
def smallL : List Value := smallP.map fun p => .int .u64 (p : Nat)
theorem smallL_at (i : Nat) (hi : i < 12) : smallL[i]? = some (.int .u64 ((smallP.getD i 1 : Nat) : Int)) := by
  unfold smallL
  rw [List.getElem?_map, List.getD_eq_getElem?_getD, List.getElem?_eq_getElem (show i < smallP.length from hi)]; rfl
theorem smallP_mem (i : Nat) (hi : i < 12) : smallP.getD i 1 ∈ smallP := by
  rw [List.getD_eq_getElem?_getD, List.getElem?_eq_getElem (show i < smallP.length from hi)]
  exact List.getElem_mem _
set_option maxRecDepth 100000 in
set_option maxHeartbeats 2000000 in
theorem refPrime_c (w : World) (n : Nat) (hn : n < 2 ^ 64) :
    Calls Tryz.prog 68 #[.int .u64 n] w fun e w' => e = .returned (.bool (isP n)) ∧ w.grownBy w' none := by
  by_cases h2 : n < 2
  · have fin : isP n = false := by unfold isP; rw [if_pos h2]
    rw [fin]
    clear fin hn
    go_enter Tryz.func68, Tryz.ntmps68
    go_wp2
    go_ret
    exact ⟨rfl, gb_alloc (gb_refl _ _) _⟩
  · have hit : ∀ i, i < 12 → (∀ j, j < i → n % smallP.getD j 1 ≠ 0) → n % smallP.getD i 1 = 0 → isP n = (n == smallP.getD i 1) := fun i hi h k => by
      unfold isP; rw [if_neg h2, divB_hit hi h k]
    have non : (∀ j, j < 12 → n % smallP.getD j 1 ≠ 0) → isP n = smallP.all fun p => !wit p n (tz (n - 1)).2 (tz (n - 1)).1 := fun h => by
      unfold isP; rw [if_neg h2, divB_none h]
    have tf : (∀ j, j < 12 → n % smallP.getD j 1 ≠ 0) → 0 < (tz (n - 1)).1 ∧ (tz (n - 1)).1 ≤ 64 ∧ (tz (n - 1)).2 < 2 ^ 64 ∧ (n - 1) / 2 ^ (tz (n - 1)).1 = (tz (n - 1)).2 := fun h =>
      tz_facts (by have := h 0 (by decide); simp [smallP] at this; omega) hn (h 0 (by decide))
    have HIT := Lib.hid hit
    have NON := Lib.hid non
    have TF := Lib.hid tf
    have HN := Lib.hid hn
    clear hit non tf hn
    have h2' : ¬ (n : Int) < 2 := by omega
    go_enter Tryz.func68, Tryz.ntmps68
    go_wp2
    go_loopw [4] (fun v4 wr => ∃ i : Nat, v4 = .int .i64 i ∧ i ≤ 12 ∧ (∀ j, j < i → n % smallP.getD j 1 ≠ 0) ∧ Cs wr w.heap.size smallL ∧ w.grownBy wr none) (fun v4 _ => 12 - (intOf v4).toNat)
    case atStart => exact ⟨0, rfl, by omega, fun j hj => by omega, cs_new _ _ _, gb_alloc (gb_refl _ _) _⟩
    case round =>
      obtain ⟨i, rfl, hi, hs, C, G⟩ := hrel
      have HS := Lib.hid hs
      clear hs
      by_cases hi12 : i < 12
      · have ci := C.cell i (smallL_at i hi12)
        obtain ⟨p1, p2⟩ := smallP_at i hi12
        have ht := HIT.out i hi12 HS.out
        have hstep : n % smallP.getD i 1 ≠ 0 → ∀ j, j < i + 1 → n % smallP.getD j 1 ≠ 0 := fun h j hj => by
          by_cases e : j = i
          · rw [e]; exact h
          · exact HS.out j (by omega)
        obtain ⟨p, hp⟩ : ∃ p, p = smallP.getD i 1 := ⟨_, rfl⟩
        rw [← hp] at ci p1 p2 ht hstep
        have HST := Lib.hid hstep
        have HT := Lib.hid ht
        clear hp hstep ht
        have em : (n : Int) % (p : Int) = ((n % p : Nat) : Int) := by rw [Int.natCast_emod]
        by_cases hz : n % p = 0
        · have ht := HT.out hz
          rw [hz] at em
          have hb : (((n : Int) == (p : Int))) = isP n := by
            rw [ht]
            by_cases e : n = p
            · rw [e]; simp
            · have : ¬ (n : Int) = (p : Int) := by omega
              rw [beq_eq_false_iff_ne.2 this, beq_eq_false_iff_ne.2 e]
          obtain ⟨b, hbb⟩ : ∃ b, b = isP n := ⟨_, rfl⟩
          rw [← hbb] at hb
          have HB := Lib.hid hbb
          clear ht hbb
          go_wp2
          go_ret
          exact ⟨by rw [← HB.out]; rfl, G⟩
        · have em0 : ¬ (n : Int) % (p : Int) = 0 := by omega
          have hb : ((n : Int) % (p : Int) == 0) = false := by simpa using em0
          have nx := HST.out hz
          have NX := Lib.hid nx
          have CC := Lib.hid C
          clear nx em C
          go_wp2
          clear hb em0
          go_roundw
          case rel => exact ⟨i + 1, by go_num, by omega, NX.out, CC.out, G⟩
          case measure => simp [intOf]; omega
      · have e12 : (i : Int) = 12 := by omega
        have hs12 : ∀ j, j < 12 → n % smallP.getD j 1 ≠ 0 := fun j hj => HS.out j (by omega)
        rw [e12]
        replace HS := Lib.hid hs12
        clear e12 hs12 hi hi12
        have nn := NON.out HS.out
        obtain ⟨t0, t1, t2, t3⟩ := TF.out HS.out
        have n37 := big_of h2 HS.out
        obtain ⟨m, hm⟩ : ∃ m, m = n - 1 := ⟨_, rfl⟩
        rw [← hm] at nn t0 t1 t2 t3
        have m64 : m < 2 ^ 64 := by have := HN.out; omega
        have em : (n : Int) - 1 = (m : Int) := by omega
        have hm0 : 0 < m := by omega
        have hwm : IntKind.u64.wrap (m : Int) = (m : Int) := by rw [IntKind.wrap_u64]; omega
        obtain ⟨s, hs⟩ : ∃ s, s = (tz m).1 := ⟨_, rfl⟩
        obtain ⟨d, hd⟩ : ∃ d, d = (tz m).2 := ⟨_, rfl⟩
        rw [← hs, ← hd] at nn
        rw [← hs] at t0 t1 t3
        rw [← hd] at t2 t3
        have n64 : (n : Int) < 18446744073709551616 := by have := HN.out; omega
        have X : ∀ w (i : Nat), i < 12 → Calls Tryz.prog 113 #[.int .u64 (smallP.getD i 1 : Nat), .int .u64 d, .int .i64 s, .int .u64 n] w fun e w' => e = .returned (.bool (!wit (smallP.getD i 1 : Nat) n d s)) ∧ w.grownBy w' none := fun w i h =>
          refWit_c w _ n d s (by omega) (by omega) n64 t2 t0 t1 (small_pow (smallP_mem i h) (by omega) (HS.out i h))
        have HX := Lib.hid X
        have HNN := Lib.hid nn
        have HM := Lib.hid m64
        have CC := Lib.hid C
        have hsd : tzF 64 m = (s, d) := by rw [hs, hd]; rfl
        have HSD := Lib.hid hsd
        clear hs hd hm X nn t0 t1 t2 t3 n64 m64 C hsd
        go_wp2
        clear em hwm
        obtain ⟨wo, rfl⟩ : ∃ wo : World, wo = wr := ⟨_, rfl⟩
        go_loopw [5, 6] (fun v5 v6 wr => ∃ a k : Nat, v5 = .int .u64 a ∧ v6 = .int .i64 k ∧ k ≤ 63 ∧ 0 < a ∧ a < 2 ^ (64 - k) ∧ tzF 64 m = (k + (tzF (64 - k) a).1, (tzF (64 - k) a).2) ∧ wr = wo) (fun v5 _ _ => (intOf v5).toNat)
        case atStart => exact ⟨m, 0, rfl, rfl, by omega, hm0, HM.out, by rw [Nat.zero_add], rfl⟩
        case round =>
          obtain ⟨a, k, rfl, rfl, hk, ha0, hak, hT, rfl⟩ := hrel
          obtain ⟨j, hj⟩ : ∃ j, 64 - k = j + 1 := ⟨63 - k, by omega⟩
          have ha64 : a < 2 ^ 64 := Nat.lt_of_lt_of_le hak (Nat.pow_le_pow_right (by decide) (by omega))
          have hw : IntKind.u64.wrap ((a : Int) / 2) = ((a / 2 : Nat) : Int) := by rw [IntKind.wrap_u64]; omega
          rw [hj] at hT hak
          rw [tzF_succ j a] at hT
          by_cases hodd : a % 2 = 1
          · rw [if_pos hodd, HSD.out] at hT
            simp only [Prod.mk.injEq, Nat.add_zero] at hT
            obtain ⟨rfl, rfl⟩ := hT
            have hb : ((d : Int) % 2 == 0) = false := by
              have : ¬ (d : Int) % 2 = 0 := by omega
              simpa using this
            have hw3 : 0 < (d : Int) := by omega
            clear hak ha64 hj hk ha0 hodd hw
            go_wp2
            clear hb hw3
            obtain ⟨wp, rfl⟩ : ∃ wp : World, wp = wr := ⟨_, rfl⟩
            go_loopw [7] (fun v7 wr => ∃ i : Nat, v7 = .int .i64 i ∧ i ≤ 12 ∧ (∀ j, j < i → wit (smallP.getD j 1 : Nat) n d s = false) ∧ wp.grownBy wr none) (fun v7 _ => 12 - (intOf v7).toNat)
            case atStart => exact ⟨0, rfl, by omega, fun j hj => by omega, gb_refl _ _⟩
            case round =>
              obtain ⟨i, rfl, hi, hs, R⟩ := hrel
              have HS2 := Lib.hid hs
              clear hs
              by_cases hi12 : i < 12
              · have ci := (CC.out.grown0 R).cell i (smallL_at i hi12)
                obtain ⟨p1, p2⟩ := smallP_at i hi12
                have ht : wit (smallP.getD i 1 : Nat) n d s = true → isP n = false := fun h => by
                  rw [HNN.out]
                  exact all_hit (i := i) hi12 (by rw [h]; rfl)
                have hstep : wit (smallP.getD i 1 : Nat) n d s = false → ∀ j, j < i + 1 → wit (smallP.getD j 1 : Nat) n d s = false := fun h j hj => by
                  by_cases e : j = i
                  · rw [e]; exact h
                  · exact HS2.out j (by omega)
                have X := fun w => HX.out w i hi12
                obtain ⟨p, hp⟩ : ∃ p, p = smallP.getD i 1 := ⟨_, rfl⟩
                rw [← hp] at ci p1 p2 ht hstep X
                obtain ⟨b, hb⟩ : ∃ b, b = wit (p : Nat) n d s := ⟨_, rfl⟩
                rw [← hb] at ht hstep X
                have HST := Lib.hid hstep
                have HT2 := Lib.hid ht
                have HX2 := Lib.hid X
                clear hp hstep ht X hb
                go_wp2_with fail
                refine (HX2.out _).mono ?_
                rintro e w2 ⟨rfl, g2⟩
                cases b with
                | true =>
                  have fin := HT2.out rfl
                  have FIN := Lib.hid fin
                  clear fin
                  go_wp2
                  go_ret
                  exact ⟨by rw [FIN.out]; rfl, gb_trans (gb_trans G R) g2⟩
                | false =>
                  have nx := HST.out rfl
                  have NX := Lib.hid nx
                  clear nx
                  go_wp2
                  go_roundw
                  case rel => exact ⟨i + 1, by go_num, by omega, NX.out, gb_trans R g2⟩
                  case measure => simp [intOf]; omega
              · obtain rfl : i = 12 := by omega
                have fin : isP n = true := by
                  rw [HNN.out]
                  exact all_none (fun j hj => by rw [HS2.out j hj]; rfl)
                have FIN := Lib.hid fin
                clear fin
                go_wp2
                go_ret
                exact ⟨by rw [FIN.out]; rfl, gb_trans G R⟩
          · rw [if_neg hodd] at hT
            have hev : (a : Int) % 2 = 0 := by omega
            have hb : ((a : Int) % 2 == 0) = true := by simpa using hev
            have nx : tzF 64 m = (k + 1 + (tzF (64 - (k + 1)) (a / 2)).1, (tzF (64 - (k + 1)) (a / 2)).2) := by
              rw [hT, show 64 - (k + 1) = j by omega]
              congr 1; omega
            have hjl : a / 2 < 2 ^ (64 - (k + 1)) := by
              rw [show 64 - (k + 1) = j by omega]
              rw [Nat.pow_succ] at hak; omega
            have hk2 : k + 1 ≤ 63 := by
              by_cases q : k + 1 ≤ 63
              · exact q
              · rw [show j = 0 by omega] at hak; simp at hak; omega
            have NX := Lib.hid nx
            have HJ := Lib.hid hjl
            have HA := Lib.hid ha0
            clear nx hjl hT hak ha64 hev hj
            go_wp2
            clear hb
            go_roundw
            case rel => exact ⟨a / 2, k + 1, by rfl, by go_num, hk2, by omega, HJ.out, NX.out, by trivial⟩
            case measure => simp [intOf]; omega
end Go.Proofs.YtimmpojeddcfnaaGreatDoor

/- The document's products of polynomials; its primes; which moduli may be. -/
namespace Go.Proofs.YtimmpojeddcfnaaGreatDoor
open Go.RowKit

set_option maxRecDepth 100000 in
theorem rMul_c (w : World) (u v : Value) (xs ys : List Int) (p : Int) (hp3 : 3 ≤ p) (hp' : p < 4611686018427387904) (hu : Sl w u xs) (hv : Sl w v ys) (hl : xs.length + ys.length ≤ 100000) :
    Calls Tryz.prog 34 #[u, v, .int .u64 p] w fun e w' => ∃ x, e = .returned x ∧ Po w' w.heap.size x p (fun z => ev xs z * ev ys z) (xs.length + ys.length) ∧ w.grownBy w' none := by
  obtain ⟨A, ca, rfl, hca, _⟩ := hu.form
  obtain ⟨B, cb, rfl, hcb, _⟩ := hv.form
  by_cases ha : xs = []
  · subst ha
    clear hu hv
    go_enter Tryz.func34, Tryz.ntmps34
    go_wp2
    go_ret
    exact ⟨_, rfl, po_nil _ _ _ _ (Eqv.of_eq p fun x => by simp [ev]), gb_refl _ _⟩
  by_cases hb : ys = []
  · subst hb
    have ha0 : xs.length ≠ 0 := fun e => ha (List.eq_nil_of_length_eq_zero e)
    obtain ⟨a, hal⟩ : ∃ z, z = xs.length := ⟨_, rfl⟩
    rw [← hal] at hca ha0 ⊢
    have a0' : ((a : Int) == 0) = false := by simp; omega
    clear hu hv
    go_enter Tryz.func34, Tryz.ntmps34
    go_wp2
    go_ret
    exact ⟨_, rfl, po_nil _ _ _ _ (Eqv.of_eq p fun x => by simp [ev]), gb_refl _ _⟩
  have ha0 : xs.length ≠ 0 := fun e => ha (List.eq_nil_of_length_eq_zero e)
  have hb0 : ys.length ≠ 0 := fun e => hb (List.eq_nil_of_length_eq_zero e)
  have CV := fun n hn => rConv_c w _ _ xs ys n p hp3 hp' hu hv hn (by omega)
  obtain ⟨a, hal⟩ : ∃ z, z = xs.length := ⟨_, rfl⟩
  obtain ⟨b, hbl⟩ : ∃ z, z = ys.length := ⟨_, rfl⟩
  rw [← hal] at hca ha0 CV hl
  rw [← hbl] at hcb hb0 CV hl
  rw [← hal, ← hbl]
  obtain ⟨n, hn⟩ : ∃ n, n = a + b := ⟨_, rfl⟩
  have CV2 := Lib.hid (CV n hn)
  have en : (a : Int) + (b : Int) = (n : Int) := by omega
  have a0' : ((a : Int) == 0) = false := by simp; omega
  have b0' : ((b : Int) == 0) = false := by simp; omega
  have HN := Lib.hid hn
  have bn : n ≤ 100000 := by omega
  clear hu hv CV hn ha hb hal hbl
  go_enter Tryz.func34, Tryz.ntmps34
  go_wp2_with fail
  refine (CV2.out).mono ?_
  rintro e w1 ⟨x1, os, rfl, ow, sm, g1⟩
  have NM := Lib.hid (rNorm_c w1 x1 os p (by omega) hp' ow.sl (by rw [sm.len]; omega))
  have G1 := Lib.hid g1
  have SM := Lib.hid sm
  clear CV2 ow sm g1
  go_wp2_with fail
  refine (NM.out).mono ?_
  rintro e w2 ⟨x2, rfl, po, g2⟩
  go_wp2
  go_ret
  exact ⟨_, rfl, (po.fn (L' := a + b) SM.out.e (by rw [SM.out.len]; have := HN.out; omega)).mono G1.out.size, gb_trans G1.out g2⟩
set_option maxRecDepth 100000 in
theorem rProd_c (w : World) (n : Nat) (v : Value) (V : Nat → Value) (X : Nat → List Int) (p : Int) (hp3 : 3 ≤ p) (hp' : p < 4611686018427387904) (h : Pts w v n V X) (hl : tot X 0 n ≤ 10000) :
    Calls Tryz.prog 42 #[v, .int .u64 p] w fun e w' => ∃ x, e = .returned x ∧ Pn w' x p (prF (fun j => ev (X j)) 0 n) (tot X 0 n + 1) ∧ w.grownBy w' none := by
  have HP := Lib.hid h
  obtain ⟨A, ca, rfl, hca, _, h4⟩ := h.c
  have H4 := Lib.hid h4
  have GA := Lib.hid (gb_alloc (gb_refl w none) (Obj.cells #[.int .u64 1] 53))
  have PO := Lib.hid (pn_one w 53 (p := p) (by omega))
  have TM : Hid (∀ i, i < n → tot X 0 i + (X i).length ≤ tot X 0 n) := Lib.hid (fun i hi => by
    have h1 := tot_add X 0 (i + 1) (n - (i + 1))
    rw [show i + 1 + (n - (i + 1)) = n by omega] at h1
    have h2 : tot X 0 (i + 1) = tot X 0 i + (X (0 + i)).length := rfl
    rw [Nat.zero_add] at h2
    omega)
  have HL := Lib.hid hl
  clear h h4 hl
  go_enter Tryz.func42, Tryz.ntmps42
  go_wp2
  go_loopw [5, 6] (fun v5 v6 wr => ∃ (i : Nat), v6 = .int .i64 i ∧ i ≤ n ∧ Pn wr v5 p (prF (fun j => ev (X j)) 0 i) (tot X 0 i + 1) ∧ w.grownBy wr none) (fun _ v6 _ => n - (intOf v6).toNat)
  case atStart => exact ⟨0, rfl, by omega, PO.out, GA.out⟩
  case round =>
    clear PO GA
    obtain ⟨i, rfl, hi, po, G⟩ := hrel
    have PO := Lib.hid po
    have GG := Lib.hid G
    clear po G
    by_cases hlt : i < n
    · obtain ⟨bA, oA, rfl, hc⟩ := H4.out (by omega)
      have c0 := gb_cell0 GG.out (hc i (by omega))
      obtain ⟨zs, so, no, eo, lo⟩ := PO.out
      have tm := TM.out i hlt
      have ML := Lib.hid (rMul_c wr _ (V i) zs (X i) p hp3 hp' so ((HP.out.s i hlt).grown0 GG.out) (by have := HL.out; omega))
      have FN : Hid (Eqv p (fun z => ev zs z * ev (X i) z) (prF (fun j => ev (X j)) 0 (i + 1))) := Lib.hid ((Eqv.rows eo (Eqv.refl p (ev (X i)))).fn fun z => by
        show _ = prF _ 0 i z * ev (X (0 + i)) z
        rw [Nat.zero_add])
      have LN : Hid (zs.length + (X i).length ≤ tot X 0 (i + 1) + 1) := Lib.hid (by
        have h2 : tot X 0 (i + 1) = tot X 0 i + (X (0 + i)).length := rfl
        rw [Nat.zero_add] at h2
        omega)
      obtain ⟨Vi, hVi⟩ : ∃ z, z = V i := ⟨_, rfl⟩
      rw [← hVi] at c0 ML
      clear so no eo lo hc hVi
      go_wp2_with fail
      refine (ML.out).mono ?_
      rintro e w1 ⟨x1, rfl, po1, g1⟩
      have P1 := Lib.hid (po1.pn.fn FN.out LN.out)
      have G1 := Lib.hid (gb_trans GG.out g1)
      clear po1 g1 ML c0
      go_wp2
      go_roundw
      case rel => exact ⟨i + 1, by go_num, by omega, P1.out, G1.out⟩
      case measure => simp [intOf]; omega
    · obtain rfl : i = n := by omega
      go_wp2
      go_ret
      exact ⟨_, rfl, PO.out, GG.out⟩
theorem modulus_c (w : World) (p : Nat) (hp : p < 2 ^ 64) :
    Calls Tryz.prog 25 #[.int .u64 p] w fun e w' => ((Pm p ∧ isP p = true) → e = .returned (.bool true)) ∧ (¬ (Pm p ∧ isP p = true) → e = .returned (.bool false)) ∧ w.grownBy w' none := by
  have MY := fun w => may_c w (p : Int) (by omega)
  have RP := fun w => refPrime_c w p hp
  obtain ⟨b, hb⟩ : ∃ b, b = isP p := ⟨_, rfl⟩
  rw [← hb] at RP ⊢
  obtain ⟨P, hP⟩ : ∃ P : Int, P = (p : Int) := ⟨_, rfl⟩
  rw [← hP] at MY RP ⊢
  have P0 : 0 ≤ P := by omega
  have HRP := Lib.hid RP
  by_cases h : Pm P
  · have MY2 : ∀ w, Calls Tryz.prog 67 #[.int .u64 P] w fun e w' => e = .returned (.bool true) ∧ w' = w := fun w => (MY w).mono fun e w' ⟨h1, _, h3⟩ => ⟨h1 h, h3⟩
    have HMY := Lib.hid MY2
    have HH := Lib.hid h
    clear MY MY2 RP hb hP hp h
    go_enter Tryz.func25, Tryz.ntmps25
    go_wp2_with fail
    refine (HMY.out _).mono ?_
    rintro e w1 ⟨rfl, h1⟩
    subst h1
    go_wp2_with fail
    refine (HRP.out _).mono ?_
    rintro e w2 ⟨rfl, g2⟩
    cases b
    · go_wp2
      go_ret
      exact ⟨fun h => by simp at h, fun _ => rfl, g2⟩
    · go_wp2
      go_ret
      exact ⟨fun _ => rfl, fun h => by first | exact absurd HH.out h | exact absurd ⟨HH.out, rfl⟩ h, g2⟩
  · have MY2 : ∀ w, Calls Tryz.prog 67 #[.int .u64 P] w fun e w' => e = .returned (.bool false) ∧ w' = w := fun w => (MY w).mono fun e w' ⟨_, h1, h3⟩ => ⟨h1 h, h3⟩
    have HMY := Lib.hid MY2
    have HH := Lib.hid h
    clear MY MY2 RP HRP hb hP hp h
    go_enter Tryz.func25, Tryz.ntmps25
    go_wp2_with fail
    refine (HMY.out _).mono ?_
    rintro e w1 ⟨rfl, h1⟩
    subst h1
    go_wp2
    go_ret
    exact ⟨fun h => absurd h.1 HH.out, fun _ => rfl, gb_refl _ _⟩
def pr12 : List Nat := [3, 5, 7, 17, 97, 257, 65537, 998244353, 4294967291, 4611686018427387847, 4179340454199820289, 1000003]
def pr12B (p : Nat) : Bool := decide (3 ≤ p) && decide (p < 4611686018427387904) && decide (p % 2 = 1) && isF p
theorem pr12_ok : ((List.range 12).all fun i => pr12B (pr12.getD i 0)) = true := by decide +kernel
theorem pr12_at (i : Nat) (hi : i < 12) : Pm ((pr12.getD i 0 : Nat) : Int) ∧ isP (pr12.getD i 0) = true := by
  have h := List.all_eq_true.1 pr12_ok i (List.mem_range.2 hi)
  unfold pr12B at h
  simp only [Bool.and_eq_true, decide_eq_true_eq] at h
  obtain ⟨⟨⟨h1, h2⟩, h3⟩, h4⟩ := h
  exact ⟨⟨by omega, by omega, by omega⟩, by rw [isF_eq (by omega)]; exact h4⟩
/-- The prime by a number. -/
def P23 (k : Int) : Nat := pr12.getD (k % 12).toNat 0
set_option maxRecDepth 100000 in
theorem prime23_c (w : World) (k : Int) (hk : 0 ≤ k ∧ k < 18446744073709551616) :
    Calls Tryz.prog 69 #[.int .u64 k] w fun e w' => ∃ p : Nat, e = .returned (.int .u64 p) ∧ Pm (p : Int) ∧ isP p = true ∧ (p ∈ pr12 ∧ p = P23 k) ∧ w.grownBy w' none := by
  obtain ⟨i, hi⟩ : ∃ i : Nat, (i : Int) = k % 12 := ⟨(k % 12).toNat, by omega⟩
  have hi12 : i < 12 := by omega
  have C0 := cs_new w #[.int .u64 3, .int .u64 5, .int .u64 7, .int .u64 17, .int .u64 97, .int .u64 257, .int .u64 65537, .int .u64 998244353, .int .u64 4294967291, .int .u64 4611686018427387847, .int .u64 4179340454199820289, .int .u64 1000003] 53
  have G0 := Lib.hid (gb_alloc (gb_refl w none) (Obj.cells #[.int .u64 3, .int .u64 5, .int .u64 7, .int .u64 17, .int .u64 97, .int .u64 257, .int .u64 65537, .int .u64 998244353, .int .u64 4294967291, .int .u64 4611686018427387847, .int .u64 4179340454199820289, .int .u64 1000003] 53))
  have cc := C0.cell i (v := .int .u64 ((pr12.getD i 0 : Nat) : Int)) (by
    rcases (show i = 0 ∨ i = 1 ∨ i = 2 ∨ i = 3 ∨ i = 4 ∨ i = 5 ∨ i = 6 ∨ i = 7 ∨ i = 8 ∨ i = 9 ∨ i = 10 ∨ i = 11 by omega) with rfl | rfl | rfl | rfl | rfl | rfl | rfl | rfl | rfl | rfl | rfl | rfl <;> rfl)
  have OK := pr12_at i hi12
  have hm : pr12.getD i 0 ∈ pr12 := by
    rw [List.getD_eq_getElem?_getD, List.getElem?_eq_getElem (show i < pr12.length from hi12)]
    exact List.getElem_mem _
  obtain ⟨q, hq⟩ : ∃ q, q = pr12.getD i 0 := ⟨_, rfl⟩
  have hq2 : q = P23 k := by
    unfold P23
    rw [hq, ← hi]; rfl
  rw [← hq] at cc OK hm
  have HO := Lib.hid (And.intro OK (And.intro hm hq2))
  have em : k % 12 = (i : Int) := hi.symm
  clear C0 OK hm hq hq2 hi
  go_enter Tryz.func69, Tryz.ntmps69
  go_wp2
  go_ret
  exact ⟨q, rfl, HO.out.1.1, HO.out.1.2, HO.out.2, G0.out⟩
end Go.Proofs.YtimmpojeddcfnaaGreatDoor

/- Chapter 24: products of polynomials: what its statements share; over which moduli there are engines. -/
namespace Go.Proofs.YtimmpojeddcfnaaGreatDoor
open Go.RowKit

theorem po_lit {w : World} {base : Nat} {v : Value} {p : Int} {F : Int → Int} {L : Nat} (h : Po w base v p F L) {xs : List Int} (hp : 0 < p) (hx : Nf p xs) (e : Eqv p (ev xs) F) : Sl w v xs := by
  obtain ⟨zs, ow, nz, ez, _⟩ := h
  obtain rfl := nz.one hx hp ez e
  exact ow.sl
theorem nf_201 : Nf 3 [2, 0, 1] := ⟨fun c hc => by
  simp only [List.mem_cons, List.not_mem_nil, or_false] at hc
  rcases hc with rfl | rfl | rfl <;> decide, rfl⟩
theorem eq_201 : Eqv 3 (ev [2, 0, 1]) (fun z => ev [1, 1] z * ev [2, 1] z) := ⟨fun z => -z, isP_x.neg, fun z => by simp only [ev]; grind⟩
theorem pm_3 : Pm ((3 : Nat) : Int) := ⟨by decide, by decide, by decide⟩
theorem isP_3 : isP 3 = true := by rw [isF_eq (by decide)]; decide +kernel
set_option maxRecDepth 100000 in
set_option maxHeartbeats 2000000 in
theorem wakes24_c (w : World) (hd : Db w) : Calls Tryz.prog 27 #[] w fun e w' => e = .returned (.bool true) ∧ w.grownBy w' none := by
  have NW : Calls Tryz.prog 24 #[.agg #[.int .i64 0, .int .i64 0, .int .i64 0, .int .i64 0, .int .i64 0, .int .i64 0, .int .i64 0, .int .i64 0, .int .i64 0, .int .i64 0, .int .i64 0], .int .u64 3] w fun e w' => ∃ g I, e = .returned (.tuple #[.pointer (some ⟨g, 0, none⟩), .int .i64 0]) ∧ Pq w' (Tb.clamp ⟨0, 0, 0, 0, 0, 0, 0, 0, 0, 0, 0⟩) 3 g I 0 ⟨0, tbT (Tb.clamp ⟨0, 0, 0, 0, 0, 0, 0, 0, 0, 0, 0⟩)⟩ ∧ w.heap.size ≤ I.gm ∧ w.grownBy w' none :=
    pmulNew_ok w ⟨0, 0, 0, 0, 0, 0, 0, 0, 0, 0, 0⟩ 3 pm_3 isP_3 hd
  have TO := Lib.hid (Tb.clamp_ok ⟨0, 0, 0, 0, 0, 0, 0, 0, 0, 0, 0⟩)
  obtain ⟨u, hu⟩ : ∃ u, u = Tb.clamp ⟨0, 0, 0, 0, 0, 0, 0, 0, 0, 0, 0⟩ := ⟨_, rfl⟩
  rw [← hu] at NW TO
  have HN := Lib.hid NW
  have HD := Lib.hid hd
  clear NW hd hu
  go_enter Tryz.func27, Tryz.ntmps27
  go_wp2_with fail
  refine (HN.out).mono ?_
  rintro e w1 ⟨g, I, rfl, pq, hg, g1⟩
  have PQ := Lib.hid pq
  have G1 := Lib.hid g1
  have HG := Lib.hid hg
  have GA := gb_alloc (gb_alloc (gb_refl w1 none) (Obj.cells #[.int .u64 1, .int .u64 1] 53)) (Obj.cells #[.int .u64 2, .int .u64 1] 53)
  have S1 := (sl_lit w1 53 #[.int .u64 1, .int .u64 1] [1, 1] 2 rfl (ws_append (ws_one (by decide) (by decide)) (ws_one (by decide) (by decide))) rfl (by decide)).grown0 (gb_alloc (gb_refl _ none) (Obj.cells #[.int .u64 2, .int .u64 1] 53))
  have S2 := sl_lit (w1.alloc (Obj.cells #[.int .u64 1, .int .u64 1] 53)) 53 #[.int .u64 2, .int .u64 1] [2, 1] 2 rfl (ws_append (ws_one (by decide) (by decide)) (ws_one (by decide) (by decide))) rfl (by decide)
  rw [alloc_sz] at S2
  have ML := Lib.hid (pemul_c TO.out _ 3 g I 0 _ _ _ [1, 1] [2, 1] (pq.grown0 GA) (HD.out.grown0 (gb_trans g1 GA)) (by decide) S1 S2 (by decide))
  have HGA := Lib.hid (gb_trans g1 GA)
  clear S1 S2 GA pq g1 hg HN
  go_wp2_with fail
  refine (ML.out).mono ?_
  rintro e w2 ⟨x, a', c', rfl, po, _, _, g2⟩
  have G2 := Lib.hid (gb_new HGA.out g2 (fun i hi => by cases hi; exact HG.out))
  have X2 := Lib.hid (po_lit po (by decide) nf_201 eq_201)
  clear ML po g2
  have GB := gb_alloc (gb_refl w2 none) (Obj.cells #[.int .u64 2, .int .u64 0, .int .u64 1] 53)
  have SM := Lib.hid (same_c _ x _ [2, 0, 1] [2, 0, 1] (X2.out.grown0 GB) (sl_lit w2 53 #[.int .u64 2, .int .u64 0, .int .u64 1] [2, 0, 1] 3 rfl (ws_append (ws_one (by decide) (by decide)) (ws_append (ws_one (by decide) (by decide)) (ws_one (by decide) (by decide)))) rfl (by decide)))
  rw [decide_eq_true rfl] at SM
  have HGB := Lib.hid (gb_trans G2.out GB)
  clear GB
  go_wp2_with fail
  refine (SM.out).mono ?_
  rintro e w3 ⟨rfl, g3⟩
  go_wp2
  go_ret
  exact ⟨rfl, gb_trans HGB.out g3⟩
set_option maxRecDepth 100000 in
theorem engine24_c (w : World) (t : Tb) (k : Int) (hk : 0 ≤ k ∧ k < 18446744073709551616) (hd : Db w) :
    Calls Tryz.prog 28 #[t.v, .int .u64 k] w fun e w' => ∃ (p g : Nat) (I : Pix), e = .returned (.tuple #[.pointer (some ⟨g, 0, none⟩), .int .u64 p]) ∧ Pm (p : Int) ∧ (p ∈ pr12 ∧ p = P23 k) ∧ Pq w' t.clamp p g I 0 ⟨0, tbT t.clamp⟩ ∧ w.heap.size ≤ I.gm ∧ w.grownBy w' none := by
  have C0 := cs_new w #[.int .i64 t.eb, .int .i64 t.et, .int .i64 t.en, .int .i64 t.ed, .int .i64 t.er, .int .i64 t.el, .int .i64 t.ex, .int .i64 t.ep, .int .i64 t.ek, .int .i64 t.es, .int .i64 t.ee] 23
  have hg := gb_alloc (gb_refl w none) (Obj.cells #[.int .i64 t.eb, .int .i64 t.et, .int .i64 t.en, .int .i64 t.ed, .int .i64 t.er, .int .i64 t.el, .int .i64 t.ex, .int .i64 t.ep, .int .i64 t.ek, .int .i64 t.es, .int .i64 t.ee] 23)
  have PR := Lib.hid (fun w => prime23_c w k hk)
  have NW := Lib.hid (fun w p h1 h2 h3 => pmulNew_ok w t p h1 h2 h3)
  have HD := Lib.hid hd
  have HG := Lib.hid hg
  have HC0 := Lib.hid C0
  clear C0 hg hd
  go_enter Tryz.func28, Tryz.ntmps28
  go_wp2_with fail
  refine (PR.out _).mono ?_
  rintro e w1 ⟨p, rfl, pm, ip, hm, g1⟩
  have G1 := Lib.hid (gb_trans HG.out g1)
  have NW1 := Lib.hid (NW.out w1 p pm ip (HD.out.grown0 G1.out))
  have C1 := HC0.out.grown0 g1
  have HM := Lib.hid (And.intro pm hm)
  have c0 := C1.cell 0 rfl
  have c1 := C1.cell 1 rfl
  have c2 := C1.cell 2 rfl
  have c3 := C1.cell 3 rfl
  have c4 := C1.cell 4 rfl
  have c5 := C1.cell 5 rfl
  have c6 := C1.cell 6 rfl
  have c7 := C1.cell 7 rfl
  have c8 := C1.cell 8 rfl
  have c9 := C1.cell 9 rfl
  have c10 := C1.cell 10 rfl
  obtain ⟨P, hP⟩ : ∃ P : Int, P = (p : Int) := ⟨_, rfl⟩
  rw [← hP] at NW1 ⊢
  have HP := Lib.hid hP
  clear g1 PR NW C1 pm ip hm hP
  go_wp2_with fail
  refine (NW1.out).mono ?_
  rintro e w2 ⟨g, I, rfl, pq, hg, g2⟩
  clear c0 c1 c2 c3 c4 c5 c6 c7 c8 c9 c10
  have KK := Lib.hid (And.intro pq (And.intro (Nat.le_trans G1.out.size hg) (gb_trans G1.out g2)))
  clear pq hg g2 NW1
  go_wp2
  go_ret2
  refine ⟨p, g, I, by rw [HP.out]; rfl, HM.out.1, HM.out.2, ?_, KK.out.2.1, KK.out.2.2⟩
  rw [← HP.out]
  exact KK.out.1
set_option maxRecDepth 100000 in
theorem PmulNews_walk (t : Tb) (p0 : Int) (w : World) (h : 0 ≤ p0 ∧ p0 < 18446744073709551616) (hd : Db w) :
    Calls Tryz.prog 4 #[t.v, .int .u64 p0] w fun e w' => e = .returned (.bool true) ∧ w.grownBy w' none := by
  obtain ⟨p, hp⟩ := nat_of h.1
  have p64 : p < 2 ^ 64 := by omega
  have C0 := cs_new w #[.int .i64 t.eb, .int .i64 t.et, .int .i64 t.en, .int .i64 t.ed, .int .i64 t.er, .int .i64 t.el, .int .i64 t.ex, .int .i64 t.ep, .int .i64 t.ek, .int .i64 t.es, .int .i64 t.ee] 23
  have hg := gb_alloc (gb_refl w none) (Obj.cells #[.int .i64 t.eb, .int .i64 t.et, .int .i64 t.en, .int .i64 t.ed, .int .i64 t.er, .int .i64 t.el, .int .i64 t.ex, .int .i64 t.ep, .int .i64 t.ek, .int .i64 t.es, .int .i64 t.ee] 23)
  have MD := fun w => modulus_c w p p64
  have HD := Lib.hid hd
  by_cases hok : Pm (p : Int) ∧ isP p = true
  · have NW := pmulNew_ok _ t p hok.1 hok.2 (hd.grown0 hg)
    have MD2 : ∀ w, Calls Tryz.prog 25 #[.int .u64 p] w fun e w' => e = .returned (.bool true) ∧ w.grownBy w' none := fun w => (MD w).mono fun e w' ⟨h1, _, h3⟩ => ⟨h1 hok, h3⟩
    rw [← hp] at NW MD2
    have HN := Lib.hid NW
    have HM := Lib.hid MD2
    have HG := Lib.hid hg
    have HC0 := Lib.hid C0
    clear C0 hg MD MD2 NW hok hp p64 hd
    go_enter Tryz.func4, Tryz.ntmps4
    have c0 := HC0.out.cell 0 rfl
    have c1 := HC0.out.cell 1 rfl
    have c2 := HC0.out.cell 2 rfl
    have c3 := HC0.out.cell 3 rfl
    have c4 := HC0.out.cell 4 rfl
    have c5 := HC0.out.cell 5 rfl
    have c6 := HC0.out.cell 6 rfl
    have c7 := HC0.out.cell 7 rfl
    have c8 := HC0.out.cell 8 rfl
    have c9 := HC0.out.cell 9 rfl
    have c10 := HC0.out.cell 10 rfl
    go_wp2_with fail
    refine (HN.out).mono ?_
    rintro e w1 ⟨g, I, rfl, pq, _, g1⟩
    clear c0 c1 c2 c3 c4 c5 c6 c7 c8 c9 c10
    have G1 := Lib.hid (gb_trans HG.out g1)
    have PQ := Lib.hid pq
    clear HN pq g1 HC0
    go_wp2_with fail
    refine (HM.out _).mono ?_
    rintro e w2 ⟨rfl, g2⟩
    have G2 := Lib.hid (gb_trans G1.out g2)
    have Q2 := Lib.hid (PQ.out.grown0 g2)
    have e0 := Q2.out.pe.e0
    have e1 := Q2.out.pe.e1
    have r0 := Q2.out.pe.rg.c
    have PP := Lib.hid (modP_c w2 I.q p0 Q2.out.rg.m)
    clear g2 HM
    go_wp2_with fail
    refine (PP.out).mono ?_
    rintro e w3 ⟨rfl, h3⟩
    subst h3
    have WK := Lib.hid (wakes24_c w3 (HD.out.grown0 G2.out))
    go_wp2_with fail
    refine (WK.out).mono ?_
    rintro e w4 ⟨rfl, g4⟩
    go_wp2
    go_ret
    exact ⟨rfl, gb_trans G2.out g4⟩
  · have NW := pmulNew_no _ t p p64 hok (hd.grown0 hg)
    have MD2 : ∀ w, Calls Tryz.prog 25 #[.int .u64 p] w fun e w' => e = .returned (.bool false) ∧ w.grownBy w' none := fun w => (MD w).mono fun e w' ⟨_, h1, h3⟩ => ⟨h1 hok, h3⟩
    rw [← hp] at NW MD2
    have HN := Lib.hid NW
    have HM := Lib.hid MD2
    have HG := Lib.hid hg
    have HC0 := Lib.hid C0
    clear C0 hg MD MD2 NW hok hp p64 hd
    go_enter Tryz.func4, Tryz.ntmps4
    have c0 := HC0.out.cell 0 rfl
    have c1 := HC0.out.cell 1 rfl
    have c2 := HC0.out.cell 2 rfl
    have c3 := HC0.out.cell 3 rfl
    have c4 := HC0.out.cell 4 rfl
    have c5 := HC0.out.cell 5 rfl
    have c6 := HC0.out.cell 6 rfl
    have c7 := HC0.out.cell 7 rfl
    have c8 := HC0.out.cell 8 rfl
    have c9 := HC0.out.cell 9 rfl
    have c10 := HC0.out.cell 10 rfl
    go_wp2_with fail
    refine (HN.out).mono ?_
    rintro e w1 ⟨rfl, g1⟩
    clear c0 c1 c2 c3 c4 c5 c6 c7 c8 c9 c10
    have G1 := Lib.hid (gb_trans HG.out g1)
    clear HN g1 HC0
    go_wp2_with fail
    refine (HM.out _).mono ?_
    rintro e w2 ⟨rfl, g2⟩
    have G2 := Lib.hid (gb_trans G1.out g2)
    have WK := Lib.hid (wakes24_c w2 (HD.out.grown0 G2.out))
    clear g2 HM
    go_wp2_with fail
    refine (WK.out).mono ?_
    rintro e w4 ⟨rfl, g4⟩
    go_wp2
    go_ret
    exact ⟨rfl, gb_trans G2.out g4⟩
end Go.Proofs.YtimmpojeddcfnaaGreatDoor

/- Arguments: a table; rows of rows. -/
namespace Go.Proofs.YtimmpojeddcfnaaGreatDoor
open Go.RowKit Go.Deep Go.ChangeShapes Go.WideShapes

theorem tab_cell {H : Type} {enc : TypeId × Value → H} {w : World} {base : Nat} {sp : Nat → Bool} {held : Bool} {cs : List Value} {xs : List (DataW H × List MemPlace)} {n : Nat} (hl : cs.length = 11) (hxs : xs.length = 11) (i : Nat) (hi : i < 11)
    (g : DataW.trod enc Tryz.prog w base sp held n 3 ((cs.drop i).take (Tryz.prog.cellsOf 3)) = xs[i]?) : ∃ z : Int, cs.getD i undef = .int .i64 z := by
  rw [show Tryz.prog.cellsOf 3 = 1 by kernel_rfl, take1_drop cs i undef (by omega), List.getElem?_eq_getElem (by omega)] at g
  obtain ⟨z, hz, _⟩ := DataW.trod_int Tryz.underlying3 g
  exact ⟨z, by simpa using hz⟩
set_option maxRecDepth 100000 in
theorem open_tab {H : Type} {enc : TypeId × Value → H} {w : World} {base b0 : Nat} {sp : Nat → Bool} {held : Bool} {r : Reach} {v : Value} {d : DataW H} {ps : List MemPlace} (hval : Value.okWide Tryz.prog w r b0 23 v)
    (hd : DataW.Trod enc Tryz.prog w base sp held 23 v d ps) : ∃ t : Tb, v = t.v := by
  obtain ⟨cs, rfl, hsz⟩ := okWide_struct Tryz.underlying23 hval
  obtain ⟨fuel, hf⟩ := hd
  obtain ⟨xs, n, _, _, hl, hxl, hx⟩ := DataW.trod_struct Tryz.underlying23 hf
  rw [show Tryz.prog.cellsOf 23 = 11 by kernel_rfl] at hsz hl
  have hl' : cs.toList.length = 11 := hl
  have hxl' : xs.length = 11 := hxl
  obtain ⟨z0, h0⟩ := tab_cell hl' hxl' 0 (by decide) (hx 0 _ rfl)
  obtain ⟨z1, h1⟩ := tab_cell hl' hxl' 1 (by decide) (hx 1 _ rfl)
  obtain ⟨z2, h2⟩ := tab_cell hl' hxl' 2 (by decide) (hx 2 _ rfl)
  obtain ⟨z3, h3⟩ := tab_cell hl' hxl' 3 (by decide) (hx 3 _ rfl)
  obtain ⟨z4, h4⟩ := tab_cell hl' hxl' 4 (by decide) (hx 4 _ rfl)
  obtain ⟨z5, h5⟩ := tab_cell hl' hxl' 5 (by decide) (hx 5 _ rfl)
  obtain ⟨z6, h6⟩ := tab_cell hl' hxl' 6 (by decide) (hx 6 _ rfl)
  obtain ⟨z7, h7⟩ := tab_cell hl' hxl' 7 (by decide) (hx 7 _ rfl)
  obtain ⟨z8, h8⟩ := tab_cell hl' hxl' 8 (by decide) (hx 8 _ rfl)
  obtain ⟨z9, h9⟩ := tab_cell hl' hxl' 9 (by decide) (hx 9 _ rfl)
  obtain ⟨z10, h10⟩ := tab_cell hl' hxl' 10 (by decide) (hx 10 _ rfl)
  refine ⟨⟨z0, z1, z2, z3, z4, z5, z6, z7, z8, z9, z10⟩, ?_⟩
  obtain ⟨l⟩ := cs
  have hl11 : l.length = 11 := by simpa using hsz
  match l, hl11 with
  | [a0, a1, a2, a3, a4, a5, a6, a7, a8, a9, a10], _ =>
    obtain rfl : a0 = _ := h0
    obtain rfl : a1 = _ := h1
    obtain rfl : a2 = _ := h2
    obtain rfl : a3 = _ := h3
    obtain rfl : a4 = _ := h4
    obtain rfl : a5 = _ := h5
    obtain rfl : a6 = _ := h6
    obtain rfl : a7 = _ := h7
    obtain rfl : a8 = _ := h8
    obtain rfl : a9 = _ := h9
    obtain rfl : a10 = _ := h10
    rfl
end Go.Proofs.YtimmpojeddcfnaaGreatDoor

/- Rows of rows: cut, as naturals, their product. -/
namespace Go.Proofs.YtimmpojeddcfnaaGreatDoor
open Go.RowKit

/-- A row of rows, of the call's own. -/
def OwnT (e : TypeId) (w : World) (base : Nat) (v : Value) (vs : List Value) : Prop := w.ownsRow base e 1 v vs.length vs
theorem ownt_nil (e : TypeId) (w : World) (base : Nat) : OwnT e w base (.slice none 0 0) [] := ⟨rfl, .inl ⟨rfl, rfl⟩⟩
theorem OwnT.grown0 {e : TypeId} {w w' : World} {base : Nat} {v : Value} {vs : List Value} (h : OwnT e w base v vs) (hg : w.grownBy w' none) : OwnT e w' base v vs :=
  World.ownsRow.kept h hg (by cases v.ownBlock <;> simp)
theorem OwnT.lt {e : TypeId} {w : World} {base : Nat} {v : Value} {vs : List Value} (h : OwnT e w base v vs) : ∀ k, v.ownBlock = some k → base ≤ k ∧ k < w.heap.size := World.ownsRow.lt h
theorem OwnT.cells {e : TypeId} {w : World} {base : Nat} {v : Value} {vs : List Value} (h : OwnT e w base v vs) : Cells w v vs.length 1 (fun j => vs.getD j undef) := by
  rcases h.2 with ⟨rfl, h2⟩ | ⟨g, cap, cur, rfl, hg, hh, h1, h2, _⟩
  · obtain rfl := List.eq_nil_of_length_eq_zero h2
    exact ⟨none, 0, rfl, by simp, by omega, fun h => by simp at h⟩
  · refine ⟨_, cap, rfl, h1, by simpa [maxLen] using h2, fun _ => ⟨g, 0, rfl, fun j hj => ?_⟩⟩
    have := World.ownsRow.cellAt h j (by omega)
    rw [Nat.mul_one] at hj
    show w.cell? ⟨g, 0 + j, none⟩ = some (vs.getD j undef)
    rw [Nat.zero_add, this, List.getD_eq_getElem?_getD, List.getElem?_eq_getElem hj]
    rfl
theorem ownt_append {el : TypeId} (hel : (Tryz.prog.info? el).map (fun i => (i.zero, i.size, i.bytes)) = some (some (.slice none 0 0), 1, 24)) {w : World} {base : Nat} {ops : Array Oper} {rest : List Oper} {o : Oper} {a : Act} {Q : Exit → Act → World → Prop} (t : TypeId) (ht : Tryz.prog.underlying t = some (.slice el))
    (s x : Operand) (hgd : o.guard = none) (ho : o.op = .call { callee := .builtin .append, args := #[s, x], argTypes := #[t, t] })
    (v : Value) (vs : List Value) (hs : a.eval s = v) (hown : OwnT el w base v vs)
    (g : Nat) (A : Option Addr) (n c : Nat) (hx : a.eval x = .slice (some ⟨g, 0, none⟩) 1 1) (hc : w.cell? ⟨g, 0, none⟩ = some (.slice A n c)) (hb : vs.length ≤ 1000000) (hbase : base ≤ w.heap.size)
    (h : ∀ v' w', OwnT el w' base v' (vs ++ [.slice A n c]) → w.grownBy w' v.ownBlock → wpList Tryz.prog ops Q rest (a.put o.dst v') w') : wpList Tryz.prog ops Q (o :: rest) a w := by
  obtain ⟨i, hi, he⟩ := Option.map_eq_some_iff.1 hel
  simp only [Prod.mk.injEq] at he
  refine wpList_append_own w hgd s x t ho base el i (.slice none 0 0) 1 24 ht hi he.1 he.2.1 he.2.2 rfl (by decide) v vs.length vs hs hown ⟨g, 0, none⟩ 1 1 [.slice A n c] hx rfl (fun j u hu => ?_) (fun u hu => ?_) (by unfold maxLen; omega) (by omega) hbase ?_
  · cases j with
    | zero => obtain rfl := Option.some.inj hu; exact hc
    | succ j => simp at hu
  · obtain rfl := List.mem_singleton.1 hu
    rfl
  · intro v' w' h2 h3 _
    refine h v' w' ?_ h3
    show World.ownsRow _ _ _ _ _ (vs ++ [_]).length _
    rw [List.length_append]
    exact h2
theorem OwnT.pts {e : TypeId} {w : World} {base n : Nat} {v : Value} {vs : List Value} {X : Nat → List Int} (h : OwnT e w base v vs) (hn : vs.length = n) (hs : ∀ j, j < n → Sl w (vs.getD j undef) (X j)) : Pts w v n (fun j => vs.getD j undef) X := by
  subst hn
  exact ⟨h.cells, hs⟩
theorem OwnT.ptsOf {e : TypeId} {w : World} {base n : Nat} {v : Value} {V : Nat → Value} {X : Nat → List Int} (h : OwnT e w base v ((List.range n).map V)) (hs : ∀ j, j < n → Sl w (V j) (X j)) : Pts w v n V X := by
  have hV : ∀ j, j < n → ((List.range n).map V).getD j undef = V j := fun j hj => by
    rw [List.getD_eq_getElem?_getD, List.getElem?_map, List.getElem?_range hj]; rfl
  have hp := h.pts (n := n) (by simp) (X := X) (fun j hj => by rw [hV j hj]; exact hs j hj)
  obtain ⟨A, c, e1, h1, h2, h3⟩ := hp.c
  refine ⟨⟨A, c, e1, h1, h2, fun h0 => ?_⟩, hs⟩
  obtain ⟨b, o, hA, hc⟩ := h3 h0
  exact ⟨b, o, hA, fun j hj => by rw [hc j hj]; exact congrArg some (hV j (by omega))⟩
/-- A row cut. -/
def cutV (v : Value) (n : Nat) : Value := match v with
  | .slice A m c => .slice A (min m n) c
  | v => v
theorem Sl.cutV {w : World} {v : Value} {xs : List Int} (h : Sl w v xs) (n : Nat) : Sl w (cutV v n) (xs.take n) := by
  obtain ⟨A, c, rfl, _, _⟩ := h.form
  have := h.take (min xs.length n) (by omega)
  rw [Nat.min_comm, ← List.take_eq_take_min] at this
  rw [Nat.min_comm] at this
  exact this
theorem cut2_c (w : World) (v : Value) (xs : List Int) (n : Nat) (hn : n ≤ 1000000) (h : Sl w v xs) :
    Calls Tryz.prog 15 #[v, .int .i64 n] w fun e w' => e = .returned (cutV v n) ∧ w' = w := by
  obtain ⟨A, c, rfl, h1, h2⟩ := h.form
  obtain ⟨m, hm⟩ : ∃ m, m = xs.length := ⟨_, rfl⟩
  rw [← hm] at h1 h
  show Calls _ _ _ _ fun e w' => e = .returned (.slice A (min xs.length n) c) ∧ w' = w
  rw [← hm]
  clear h hm
  by_cases hle : n < m
  · rw [show min m n = n by omega]
    go_enter Tryz.func15, Tryz.ntmps15
    go_wp2
    go_ret
    exact ⟨rfl, rfl⟩
  · rw [show min m n = m by omega]
    go_enter Tryz.func15, Tryz.ntmps15
    go_wp2 <;> (go_ret; exact ⟨rfl, rfl⟩)
theorem cuts_c (w : World) (n r k : Nat) (v : Value) (V : Nat → Value) (X : Nat → List Int) (h : Pts w v r V X) (hk : k ≤ 1000) (hn : n ≤ 1000000) :
    Calls Tryz.prog 40 #[v, .int .i64 k, .int .i64 n] w fun e w' => ∃ u, e = .returned u ∧ Pts w' u (min r k) (fun j => cutV (V j) n) (fun j => (X j).take n) ∧ w.grownBy w' none := by
  have HP := Lib.hid h
  obtain ⟨A, ca, rfl, hca, _, h4⟩ := h.c
  have H4 := Lib.hid h4
  clear h h4
  go_enter Tryz.func40, Tryz.ntmps40
  go_wp2
  go_loopw [7, 8] (fun v3 v4 wr => ∃ (i : Nat), v4 = .int .i64 i ∧ i ≤ r ∧ i ≤ k ∧ OwnT 24 wr w.heap.size v3 ((List.range i).map (fun j => cutV (V j) n)) ∧ w.grownBy wr none) (fun _ v4 _ => r - (intOf v4).toNat)
  case atStart => exact ⟨0, rfl, by omega, by omega, ownt_nil _ _ _, gb_refl _ _⟩
  case round =>
    obtain ⟨i, rfl, hi, hik, ow, G⟩ := hrel
    have OV := Lib.hid ow
    have GG := Lib.hid G
    clear ow G
    have E1 : Hid (∀ u, min r k = i → OwnT 24 wr w.heap.size u ((List.range i).map (fun j => cutV (V j) n)) → Pts wr u (min r k) (fun j => cutV (V j) n) (fun j => (X j).take n)) := Lib.hid (fun u e o => by
      rw [e]
      exact o.ptsOf (fun j hj => ((HP.out.s j (by omega)).cutV n).grown0 GG.out))
    by_cases hlt : i < r
    · by_cases hkk : i < k
      · obtain ⟨bA, oA, rfl, hc⟩ := H4.out (by omega)
        have sv := HP.out.s i hlt
        have c0 := hc i (by omega)
        obtain ⟨F, f, e, _, _⟩ := (sv.cutV n).form
        have e' := Lib.hid e
        obtain ⟨z, hz⟩ : ∃ z, z = ((X i).take n).length := ⟨_, rfl⟩
        rw [← hz] at e'
        have CU := cut2_c wr (V i) (X i) n hn (sv.grown0 GG.out)
        rw [e'.out] at CU
        have HCU := Lib.hid CU
        have c0' := gb_cell0 GG.out c0
        have hlen : ((List.range i).map (fun j => cutV (V j) n)).length ≤ 1000000 := by rw [List.length_map, List.length_range]; omega
        clear sv c0 e hc hz CU E1
        go_wp2_with fail
        refine (HCU.out).mono ?_
        rintro e w1 ⟨rfl, hw⟩
        subst hw
        clear HCU
        go_wp2_with (at_builtin; refine ownt_append (by kernel_rfl) 78 (by kernel_rfl) (.tmp 20) (.tmp 27) rfl rfl _ _ rfl (OV.out.grown0 (gb_alloc (gb_refl w1 none) _)) _ _ _ _ rfl ((cs_new w1 _ _).cell 0 rfl) hlen (Nat.le_trans GG.out.size (gb_alloc (gb_refl w1 none) _).size) ?_; intro v3' w3 ow3 g3)
        have ga := gb_alloc (gb_refl w1 none) (Obj.cells #[.slice F z f] 24)
        refine ⟨⟨i + 1, by go_num, by omega, by omega, ?_, gb_new (gb_trans GG.out ga) g3 (fun b hb => ((OV.out.grown0 ga).lt b hb).1)⟩, by show r - ((i : Int) + 1).toNat < r - (i : Int).toNat; omega⟩
        rw [List.range_succ, List.map_append, List.map_cons, List.map_nil, e'.out]
        exact ow3
      · go_wp2
        go_ret
        exact ⟨_, rfl, E1.out _ (by omega) OV.out, GG.out⟩
    · go_wp2
      go_ret
      exact ⟨_, rfl, E1.out _ (by omega) OV.out, GG.out⟩
end Go.Proofs.YtimmpojeddcfnaaGreatDoor

/- Chapter 24: the product of any polynomials. -/
namespace Go.Proofs.YtimmpojeddcfnaaGreatDoor
open Go.RowKit

theorem psame_c (w : World) (u v : Value) (p : Int) (F : Int → Int) (L L' : Nat) (h : Pn w u p F L) (k : Pn w v p F L') (hp : 0 < p) : Calls Tryz.prog 17 #[u, v] w fun e w' => e = .returned (.bool true) ∧ w.grownBy w' none := by
  obtain ⟨zs, s1, s2, _, _⟩ := h.same k hp
  have := same_c w u v zs zs s1 s2
  rwa [decide_eq_true rfl] at this
theorem Pq.ptsA {w w' : World} {u : Tb} {p : Int} {g : Nat} {I : Pix} {a : Int} {c : Mc} (h : Pq w u p g I a c) {v : Value} {n : Nat} {V : Nat → Value} {X : Nat → List Int} (s : Pts w v n V X) (k : w.grownBy w' (some I.gm)) : Pts w' v n V X := by
  by_cases hn : 0 < n
  · exact h.pts s hn k
  · obtain ⟨A, ca, e, h1, h2, _⟩ := s.c
    exact ⟨⟨A, ca, e, h1, h2, fun h0 => absurd h0 hn⟩, fun j hj => absurd hj (by omega)⟩
theorem Pq.other {w w' : World} {u u' : Tb} {p p' : Int} {g g' : Nat} {I J : Pix} {a a' : Int} {c c' : Mc} (h : Pq w u p g I a c) (k : Pq w u' p' g' J a' c') (hne : I.gm ≠ J.gm) (j : w.grownBy w' (some J.gm)) : Pq w' u p g I a c :=
  ⟨h.pe.grown k.en.m j, h.en.other k.en hne j⟩
theorem pm_pos {p : Nat} (h : Pm (p : Int)) : 0 < (p : Int) := by have := h.lo; omega
theorem tot_cap {X : Nat → List Int} {L : Nat} (h : ∀ j, (X j).length ≤ L) (i : Nat) : ∀ n, tot X i n ≤ n * L
  | 0 => by simp [tot]
  | n + 1 => by
    have h1 := tot_cap h i n
    have h2 : tot X i (n + 1) = tot X i n + (X (i + n)).length := rfl
    have h3 := h (i + n)
    have h4 : (n + 1) * L = n * L + L := Nat.succ_mul _ _
    omega
set_option maxRecDepth 100000 in
set_option maxHeartbeats 4000000 in
theorem PmulAlls_walk (t : Tb) (k : Int) (v : Value) (n : Nat) (V : Nat → Value) (X : Nat → List Int) (w : World) (hk : 0 ≤ k ∧ k < 18446744073709551616) (hp : Pts w v n V X) (hd : Db w) :
    Calls Tryz.prog 8 #[t.v, .int .u64 k, v] w fun e w' => e = .returned (.bool true) ∧ w.grownBy w' none := by
  have C0 := cs_new w #[.int .i64 t.eb, .int .i64 t.et, .int .i64 t.en, .int .i64 t.ed, .int .i64 t.er, .int .i64 t.el, .int .i64 t.ex, .int .i64 t.ep, .int .i64 t.ek, .int .i64 t.es, .int .i64 t.ee] 23
  have hg := gb_alloc (gb_refl w none) (Obj.cells #[.int .i64 t.eb, .int .i64 t.et, .int .i64 t.en, .int .i64 t.ed, .int .i64 t.er, .int .i64 t.el, .int .i64 t.ex, .int .i64 t.ep, .int .i64 t.ek, .int .i64 t.es, .int .i64 t.ee] 23)
  have HG := Lib.hid hg
  have HC0 := Lib.hid C0
  clear C0 hg
  have CA := Lib.hid (fun w1 (g : w.grownBy w1 none) => cuts_c w1 10 n 7 v V X (hp.grown0 g) (by decide) (by decide))
  have EG := Lib.hid (fun w1 h => engine24_c w1 t k hk h)
  have HD := Lib.hid hd
  clear hp hd
  go_enter Tryz.func8, Tryz.ntmps8
  go_wp2_with fail
  refine (CA.out _ HG.out).mono ?_
  rintro e w1 ⟨u, rfl, pt, g1⟩
  have G1 := Lib.hid (gb_trans HG.out g1)
  have PT := Lib.hid pt
  have HC1 := Lib.hid (HC0.out.grown0 g1)
  obtain ⟨m, hm⟩ : ∃ m, m = min n 7 := ⟨_, rfl⟩
  have hm7 : m ≤ 7 := by omega
  rw [← hm] at PT
  have HL : Hid (∀ j, ((X j).take 10).length ≤ 10) := Lib.hid (fun j => by rw [List.length_take]; omega)
  obtain ⟨Y, hY⟩ : ∃ Y : Nat → List Int, Y = fun j => (X j).take 10 := ⟨_, rfl⟩
  obtain ⟨U', hU⟩ : ∃ Y : Nat → Value, Y = fun j => cutV (V j) 10 := ⟨_, rfl⟩
  rw [← hY, ← hU] at PT
  have HL2 : Hid (tot Y 0 m ≤ 70) := Lib.hid (by
    have := tot_cap (X := Y) (L := 10) (by rw [hY]; exact HL.out) 0 m
    omega)
  clear hY hU pt g1 HC0 CA hm HL
  have E1 := Lib.hid (EG.out w1 (HD.out.grown0 G1.out))
  have c0 := HC1.out.cell 0 rfl
  have c1 := HC1.out.cell 1 rfl
  have c2 := HC1.out.cell 2 rfl
  have c3 := HC1.out.cell 3 rfl
  have c4 := HC1.out.cell 4 rfl
  have c5 := HC1.out.cell 5 rfl
  have c6 := HC1.out.cell 6 rfl
  have c7 := HC1.out.cell 7 rfl
  have c8 := HC1.out.cell 8 rfl
  have c9 := HC1.out.cell 9 rfl
  have c10 := HC1.out.cell 10 rfl
  go_wp2_with fail
  refine (E1.out).mono ?_
  rintro e w2 ⟨p, g, I, rfl, pm, -, pq, hg, g2⟩
  clear c0 c1 c2 c3 c4 c5 c6 c7 c8 c9 c10
  have PM := Lib.hid pm
  have PQ := Lib.hid pq
  have HGM := Lib.hid (Nat.le_trans G1.out.size hg)
  have G2 := Lib.hid (gb_trans G1.out g2)
  have PT2 := Lib.hid (PT.out.grown0 g2)
  have AL := Lib.hid (pall_any t.clamp_ok p g I m (by omega) w2 0 _ u U' Y pq (HD.out.grown0 G2.out) (by omega) PT2.out (by have := HL2.out; omega))
  clear pm pq hg g2 E1 EG PT HC1
  go_wp2_with fail
  refine (AL.out).mono ?_
  rintro e w3 ⟨x3, a3, c3, rfl, po, pq3, _, g3⟩
  have G3 := Lib.hid (gb_new G2.out g3 (fun i hi => by cases hi; exact HGM.out))
  have PO := Lib.hid po
  have RP := Lib.hid (rProd_c w3 m u U' Y p PM.out.lo PM.out.hi (PQ.out.ptsA PT2.out g3) (by have := HL2.out; omega))
  clear po pq3 g3 AL
  obtain ⟨P, hP⟩ : ∃ P : Int, P = (p : Int) := ⟨_, rfl⟩
  rw [← hP] at RP PO ⊢
  have hp0 : 0 < P := by rw [hP]; exact pm_pos PM.out
  clear hP
  go_wp2_with fail
  refine (RP.out).mono ?_
  rintro e w4 ⟨x4, rfl, po4, g4⟩
  have G4 := Lib.hid (gb_trans G3.out g4)
  have SM := Lib.hid (psame_c w4 x3 x4 P _ _ _ (PO.out.grown0 g4) po4 hp0)
  clear RP po4 g4
  go_wp2_with fail
  refine (SM.out).mono ?_
  rintro e w5 ⟨rfl, g5⟩
  have G5 := Lib.hid (gb_trans G4.out g5)
  have WK := Lib.hid (wakes24_c w5 (HD.out.grown0 G5.out))
  clear SM g5
  go_wp2_with fail
  refine (WK.out).mono ?_
  rintro e w6 ⟨rfl, g6⟩
  go_wp2
  go_ret
  exact ⟨rfl, gb_trans G5.out g6⟩
end Go.Proofs.YtimmpojeddcfnaaGreatDoor

/- Chapter 24: squares, small powers; two tables. -/
namespace Go.Proofs.YtimmpojeddcfnaaGreatDoor
open Go.RowKit

theorem cut_len (xs : List Int) (n : Nat) : (xs.take n).length ≤ n := by rw [List.length_take]; omega
set_option maxRecDepth 100000 in
set_option maxHeartbeats 4000000 in
theorem PmulSquares_walk (t : Tb) (k : Int) (v : Value) (xs0 : List Int) (n0 : Int) (w : World) (hk : 0 ≤ k ∧ k < 18446744073709551616) (hv : Sl w v xs0) (hn0 : -9223372036854775808 ≤ n0 ∧ n0 ≤ 9223372036854775807) (hd : Db w) :
    Calls Tryz.prog 9 #[t.v, .int .u64 k, v, .int .i64 n0] w fun e w' => e = .returned (.bool true) ∧ w.grownBy w' none := by
  have C0 := cs_new w #[.int .i64 t.eb, .int .i64 t.et, .int .i64 t.en, .int .i64 t.ed, .int .i64 t.er, .int .i64 t.el, .int .i64 t.ex, .int .i64 t.ep, .int .i64 t.ek, .int .i64 t.es, .int .i64 t.ee] 23
  have hg := gb_alloc (gb_refl w none) (Obj.cells #[.int .i64 t.eb, .int .i64 t.et, .int .i64 t.en, .int .i64 t.ed, .int .i64 t.er, .int .i64 t.el, .int .i64 t.ex, .int .i64 t.ep, .int .i64 t.ek, .int .i64 t.es, .int .i64 t.ee] 23)
  have HG := Lib.hid hg
  have HC0 := Lib.hid C0
  clear C0 hg
  have CA := Lib.hid (cut_c _ v xs0 12 (by decide) (hv.grown0 HG.out))
  have EG := Lib.hid (fun w1 h => engine24_c w1 t k hk h)
  have HD := Lib.hid hd
  have WI := Lib.hid (fun w => within_c n0 12 (by decide) (by decide) w)
  obtain ⟨n, hn⟩ : ∃ n : Int, n = (if n0 > 12 then n0 % 12 else n0) := ⟨_, rfl⟩
  have bn : n ≤ 12 ∧ -9223372036854775808 ≤ n := by
    rw [hn]; split <;> omega
  have HN : Hid ((12 < n0 → n0 % 12 = n) ∧ (¬ 12 < n0 → n0 = n)) := Lib.hid (by
    rw [hn]
    exact ⟨fun h => by rw [if_pos h], fun h => by rw [if_neg h]⟩)
  obtain ⟨N, hN⟩ : ∃ N, N = n.toNat := ⟨_, rfl⟩
  have bN : N ≤ 12 := by omega
  clear hv hd hn
  go_enter Tryz.func9, Tryz.ntmps9
  go_wp2_with fail
  refine (CA.out).mono ?_
  rintro e w1 ⟨u, rfl, s1, hw⟩
  subst hw
  have S1 := Lib.hid s1
  have LX := cut_len xs0 12
  obtain ⟨xs, hxs⟩ : ∃ xs, xs = xs0.take 12 := ⟨_, rfl⟩
  rw [← hxs] at S1 LX
  have E1 := Lib.hid (EG.out _ (HD.out.grown0 HG.out))
  clear s1 CA hxs
  have c0 := HC0.out.cell 0 rfl
  have c1 := HC0.out.cell 1 rfl
  have c2 := HC0.out.cell 2 rfl
  have c3 := HC0.out.cell 3 rfl
  have c4 := HC0.out.cell 4 rfl
  have c5 := HC0.out.cell 5 rfl
  have c6 := HC0.out.cell 6 rfl
  have c7 := HC0.out.cell 7 rfl
  have c8 := HC0.out.cell 8 rfl
  have c9 := HC0.out.cell 9 rfl
  have c10 := HC0.out.cell 10 rfl
  go_wp2_with fail
  refine (E1.out).mono ?_
  rintro e w2 ⟨p, g, I, rfl, pm, -, pq, hg, g2⟩
  clear c0 c1 c2 c3 c4 c5 c6 c7 c8 c9 c10
  have PM := Lib.hid pm
  have PQ := Lib.hid pq
  have HGM := Lib.hid (Nat.le_trans HG.out.size hg)
  have G2 := Lib.hid (gb_trans HG.out g2)
  have S2 := Lib.hid (S1.out.grown0 g2)
  obtain ⟨P, hP⟩ : ∃ P : Int, P = (p : Int) := ⟨_, rfl⟩
  have PB : Hid (3 ≤ P ∧ P < 4611686018427387904) := Lib.hid (by rw [hP]; exact ⟨pm.lo, pm.hi⟩)
  rw [← hP] at PQ ⊢
  clear pm pq hg g2 E1 EG HC0 S1 hP
  go_upto_if 24 with fail
  go_cut [3] from 24 to 26 (fun v3 wx => v3 = .int .i64 n ∧ w2 = wx)
  case first =>
    by_cases h12 : 12 < n0
    · have e := HN.out.1 h12
      go_wp2_with fail
      refine (WI.out _).mono ?_
      rintro e w3 ⟨rfl, hw⟩
      subst hw
      rw [e]
      go_wp2_with fail
      go_meet
      exact ⟨rfl, rfl⟩
    · have e : n0 = n := HN.out.2 (by omega)
      subst e
      go_wp2_with fail
      go_meet
      exact ⟨rfl, rfl⟩
  case rest =>
    obtain ⟨rfl, hw⟩ := hcut
    subst hw
    have GA := Lib.hid (gb_alloc (gb_refl w2 none) (Obj.cells #[.int .u64 1] 53))
    have PO := Lib.hid (pn_one w2 53 (p := P) (by have := PB.out; omega))
    have P0 := Lib.hid (PO.out.fn (G := fun z => ev xs z ^ 0) (L' := 12 * 0 + 1) (Eqv.of_eq P fun z => (Int.pow_zero _).symm) (by omega))
    have HNN := Lib.hid hN
    clear PO WI hN HN
    go_wp2
    go_loopw [11, 12] (fun v11 v12 wr => ∃ (i : Nat) (xo : Value), xo = v11 ∧ v12 = .int .i64 i ∧ i ≤ N ∧ Pn wr xo P (fun z => ev xs z ^ i) (12 * i + 1) ∧ w2.grownBy wr none) (fun _ v12 _ => N - (intOf v12).toNat)
    case atStart => exact ⟨0, _, rfl, rfl, by omega, P0.out, GA.out⟩
    case round =>
      clear P0 GA
      obtain ⟨i, xo, rfl, rfl, hi, po, G⟩ := hrel
      obtain ⟨wq, rfl⟩ : ∃ wq : World, wq = wr := ⟨_, rfl⟩
      have PO := Lib.hid po
      have GG := Lib.hid G
      clear po G
      by_cases hlt : (i : Int) < n
      · have hiN : i < N := by have := HNN.out; omega
        obtain ⟨zs, so, no, eo, lo⟩ := PO.out
        have ML := Lib.hid (rMul_c wq _ u zs xs P PB.out.1 PB.out.2 so (S2.out.grown0 GG.out) (by omega))
        have FN : Hid (Eqv P (fun z => ev zs z * ev xs z) (fun z => ev xs z ^ (i + 1))) := Lib.hid ((Eqv.rows eo (Eqv.refl P (ev xs))).fn fun z => (Int.pow_succ _ _).symm)
        have LN : Hid (zs.length + xs.length ≤ 12 * (i + 1) + 1) := Lib.hid (by omega)
        clear so no eo lo
        go_wp2_with fail
        refine (ML.out).mono ?_
        rintro e w3 ⟨x3, rfl, po1, g1⟩
        have P1 := Lib.hid (po1.pn.fn FN.out LN.out)
        have G1 := Lib.hid (gb_trans GG.out g1)
        clear po1 g1 ML
        go_wp2
        go_roundw
        case rel => exact ⟨i + 1, _, rfl, by go_num, hiN, P1.out, G1.out⟩
        case measure => simp [intOf]; omega
      · have hiN : i = N := by have := HNN.out; omega
        have PO2 : Hid (Pn wq xo P (fun z => ev xs z ^ n.toNat) (12 * i + 1)) := Lib.hid (by rw [← HNN.out, ← hiN]; exact PO.out)
        have G3 := Lib.hid (gb_trans G2.out GG.out)
        have SQ := Lib.hid (psqr_c t.clamp_ok wq P g I 0 _ u xs (PQ.out.grown0 GG.out) (HD.out.grown0 G3.out) (by decide) (S2.out.grown0 GG.out) (by omega))
        clear PO hiN
        go_wp2_with fail
        refine (SQ.out).mono ?_
        rintro e w4 ⟨x4, a4, c4, rfl, po4, pq4, ha4, g4⟩
        have G4 := Lib.hid (gb_new G3.out g4 (fun i hi => by cases hi; exact HGM.out))
        have PO4 := Lib.hid po4.pn
        have Q4 := Lib.hid pq4
        have A4 := Lib.hid ha4
        have PO3 := Lib.hid ((PQ.out.grown0 GG.out).pn PO2.out g4)
        have S4 := Lib.hid ((PQ.out.grown0 GG.out).sl (S2.out.grown0 GG.out) g4)
        have RM := Lib.hid (rMul_c w4 u u xs xs P PB.out.1 PB.out.2 S4.out S4.out (by omega))
        clear SQ po4 pq4 ha4 g4 PO2
        go_wp2_with fail
        refine (RM.out).mono ?_
        rintro e w5 ⟨x5, rfl, po5, g5⟩
        have G5 := Lib.hid (gb_trans G4.out g5)
        have SM := Lib.hid (psame_c w5 x4 x5 P _ _ _ (PO4.out.grown0 g5) po5.pn (by have := PB.out; omega))
        have S5 := Lib.hid (S4.out.grown0 g5)
        have Q5 := Lib.hid (Q4.out.grown0 g5)
        have PO5 := Lib.hid (PO3.out.grown0 g5)
        clear RM po5 g5 PO4 S4 Q4 PO3
        go_wp2_with fail
        refine (SM.out).mono ?_
        rintro e w6 ⟨rfl, g6⟩
        have G6 := Lib.hid (gb_trans G5.out g6)
        have hl12 : xs.length * n.toNat ≤ 150 := by
          have : xs.length * n.toNat ≤ 12 * 12 := Nat.mul_le_mul LX (by omega)
          omega
        have PW := Lib.hid (pepow_c t.clamp_ok w6 P g I a4 c4 u xs n (Q5.out.grown0 g6) (HD.out.grown0 G6.out) (by have := A4.out; omega) (by have := A4.out; omega) (S5.out.grown0 g6) (by omega) bn.2 hl12 (by omega))
        have Q6 := Lib.hid (Q5.out.grown0 g6)
        have PO6 := Lib.hid (PO5.out.grown0 g6)
        clear SM g6 S5 Q5 PO5
        go_wp2_with fail
        refine (PW.out).mono ?_
        rintro e w7 ⟨x7, a7, c7, rfl, po7, _, _, g7⟩
        have G7 := Lib.hid (gb_new G6.out g7 (fun i hi => by cases hi; exact HGM.out))
        have SM := Lib.hid (psame_c w7 x7 xo P _ _ _ po7 (Q6.out.pn PO6.out g7) (by have := PB.out; omega))
        clear PW po7 g7
        go_wp2_with fail
        refine (SM.out).mono ?_
        rintro e w8 ⟨rfl, g8⟩
        have G8 := Lib.hid (gb_trans G7.out g8)
        have WK := Lib.hid (wakes24_c w8 (HD.out.grown0 G8.out))
        clear SM g8
        go_wp2_with fail
        refine (WK.out).mono ?_
        rintro e w9 ⟨rfl, g9⟩
        go_wp2
        go_ret
        exact ⟨rfl, gb_trans G8.out g9⟩
end Go.Proofs.YtimmpojeddcfnaaGreatDoor

/- Chapter 24: two tables; the greatest coefficients; each way. -/
namespace Go.Proofs.YtimmpojeddcfnaaGreatDoor
open Go.RowKit

theorem Pn.comm {w : World} {v : Value} {p : Int} {F G : Int → Int} {L : Nat} (h : Pn w v p (fun z => F z * G z) L) : Pn w v p (fun z => G z * F z) L := h.fn (Eqv.of_eq p fun _ => Int.mul_comm _ _) (Nat.le_refl _)
set_option maxRecDepth 100000 in
set_option maxHeartbeats 8000000 in
theorem PmulTables_walk (t t' : Tb) (k : Int) (va : Value) (al0 : List Int) (vb : Value) (bl0 : List Int) (w : World) (hk : 0 ≤ k ∧ k < 18446744073709551616) (ha : Sl w va al0) (hb : Sl w vb bl0) (hd : Db w) :
    Calls Tryz.prog 5 #[t.v, t'.v, .int .u64 k, va, vb] w fun e w' => e = .returned (.bool true) ∧ w.grownBy w' none := by
  have C0 := cs_new w #[.int .i64 t.eb, .int .i64 t.et, .int .i64 t.en, .int .i64 t.ed, .int .i64 t.er, .int .i64 t.el, .int .i64 t.ex, .int .i64 t.ep, .int .i64 t.ek, .int .i64 t.es, .int .i64 t.ee] 23
  have hg := gb_alloc (gb_refl w none) (Obj.cells #[.int .i64 t.eb, .int .i64 t.et, .int .i64 t.en, .int .i64 t.ed, .int .i64 t.er, .int .i64 t.el, .int .i64 t.ex, .int .i64 t.ep, .int .i64 t.ek, .int .i64 t.es, .int .i64 t.ee] 23)
  have D0 := cs_new (w.alloc (Obj.cells #[.int .i64 t.eb, .int .i64 t.et, .int .i64 t.en, .int .i64 t.ed, .int .i64 t.er, .int .i64 t.el, .int .i64 t.ex, .int .i64 t.ep, .int .i64 t.ek, .int .i64 t.es, .int .i64 t.ee] 23)) #[.int .i64 t'.eb, .int .i64 t'.et, .int .i64 t'.en, .int .i64 t'.ed, .int .i64 t'.er, .int .i64 t'.el, .int .i64 t'.ex, .int .i64 t'.ep, .int .i64 t'.ek, .int .i64 t'.es, .int .i64 t'.ee] 23
  have hg2 := gb_alloc hg (Obj.cells #[.int .i64 t'.eb, .int .i64 t'.et, .int .i64 t'.en, .int .i64 t'.ed, .int .i64 t'.er, .int .i64 t'.el, .int .i64 t'.ex, .int .i64 t'.ep, .int .i64 t'.ek, .int .i64 t'.es, .int .i64 t'.ee] 23)
  rw [alloc_sz] at D0
  have HC0 := Lib.hid (C0.grown0 (gb_alloc (gb_refl _ none) (Obj.cells #[.int .i64 t'.eb, .int .i64 t'.et, .int .i64 t'.en, .int .i64 t'.ed, .int .i64 t'.er, .int .i64 t'.el, .int .i64 t'.ex, .int .i64 t'.ep, .int .i64 t'.ek, .int .i64 t'.es, .int .i64 t'.ee] 23)))
  have HD0 := Lib.hid D0
  have HG := Lib.hid hg2
  have CA := Lib.hid (cut_c _ va al0 120 (by decide) (ha.grown0 hg2))
  have CB := Lib.hid (cut_c _ vb bl0 120 (by decide) (hb.grown0 hg2))
  have EG := Lib.hid (fun w1 h => engine24_c w1 t k hk h)
  have EF := Lib.hid (fun w1 h => engine24_c w1 t' k hk h)
  have HD := Lib.hid hd
  clear C0 D0 hg hg2 ha hb hd
  go_enter Tryz.func5, Tryz.ntmps5
  go_wp2_with fail
  refine (CA.out).mono ?_
  rintro e w1 ⟨u, rfl, s1, hw⟩
  subst hw
  go_wp2_with fail
  refine (CB.out).mono ?_
  rintro e w1 ⟨v, rfl, s2, hw⟩
  subst hw
  have LA := cut_len al0 120
  have LB := cut_len bl0 120
  obtain ⟨xs, hxs⟩ : ∃ xs, xs = al0.take 120 := ⟨_, rfl⟩
  obtain ⟨ys, hys⟩ : ∃ xs, xs = bl0.take 120 := ⟨_, rfl⟩
  rw [← hxs] at s1 LA
  rw [← hys] at s2 LB
  have S1 := Lib.hid s1
  have S2 := Lib.hid s2
  have E1 := Lib.hid (EG.out _ (HD.out.grown0 HG.out))
  clear s1 s2 CA CB hxs hys
  have c0 := HC0.out.cell 0 rfl
  have c1 := HC0.out.cell 1 rfl
  have c2 := HC0.out.cell 2 rfl
  have c3 := HC0.out.cell 3 rfl
  have c4 := HC0.out.cell 4 rfl
  have c5 := HC0.out.cell 5 rfl
  have c6 := HC0.out.cell 6 rfl
  have c7 := HC0.out.cell 7 rfl
  have c8 := HC0.out.cell 8 rfl
  have c9 := HC0.out.cell 9 rfl
  have c10 := HC0.out.cell 10 rfl
  go_wp2_with fail
  refine (E1.out).mono ?_
  rintro e w2 ⟨p, g, I, rfl, pm, hpk, pq, hg, g2⟩
  clear c0 c1 c2 c3 c4 c5 c6 c7 c8 c9 c10
  have G2 := Lib.hid (gb_trans HG.out g2)
  have PQ := Lib.hid pq
  have HI := Lib.hid (Nat.le_trans HG.out.size hg)
  have HPK := Lib.hid hpk.2
  have HD2 := Lib.hid (HD0.out.grown0 g2)
  have E2 := Lib.hid (EF.out _ (HD.out.grown0 G2.out))
  have T1 := Lib.hid (S1.out.grown0 g2)
  have T2 := Lib.hid (S2.out.grown0 g2)
  have HIl := Lib.hid (PQ.out.en.lt)
  obtain ⟨P, hP⟩ : ∃ P : Int, P = (p : Int) := ⟨_, rfl⟩
  have PB : Hid (0 < P) := Lib.hid (by rw [hP]; exact pm_pos pm)
  have HPP := Lib.hid hP
  rw [← hP] at PQ ⊢
  clear pm pq hg g2 E1 EG HC0 S1 S2 hpk hP HD0
  have c0 := HD2.out.cell 0 rfl
  have c1 := HD2.out.cell 1 rfl
  have c2 := HD2.out.cell 2 rfl
  have c3 := HD2.out.cell 3 rfl
  have c4 := HD2.out.cell 4 rfl
  have c5 := HD2.out.cell 5 rfl
  have c6 := HD2.out.cell 6 rfl
  have c7 := HD2.out.cell 7 rfl
  have c8 := HD2.out.cell 8 rfl
  have c9 := HD2.out.cell 9 rfl
  have c10 := HD2.out.cell 10 rfl
  go_wp2_with fail
  refine (E2.out).mono ?_
  rintro e w3 ⟨p', f, J, rfl, _, hpk, pf, hf, g3⟩
  clear c0 c1 c2 c3 c4 c5 c6 c7 c8 c9 c10
  have e' : p' = p := by rw [hpk.2, ← HPK.out]
  subst e'
  have G3 := Lib.hid (gb_trans G2.out g3)
  have PF := Lib.hid pf
  have HJ := Lib.hid (Nat.le_trans G2.out.size hf)
  have HIJ : Hid (I.gm ≠ J.gm) := Lib.hid (by have := HIl.out; omega)
  have PQ3 := Lib.hid (PQ.out.grown0 g3)
  have T1' := Lib.hid (T1.out.grown0 g3)
  have T2' := Lib.hid (T2.out.grown0 g3)
  rw [← HPP.out] at PF ⊢
  clear pf hf g3 E2 EF HD2 T1 T2 hpk PQ HPK HPP
  have M1 := Lib.hid (pemul_c t.clamp_ok w3 P g I 0 _ u v xs ys PQ3.out (HD.out.grown0 G3.out) (by decide) T1'.out T2'.out (by omega))
  go_wp2_with fail
  refine (M1.out).mono ?_
  rintro e w4 ⟨x4, a4, c4, rfl, po4, pq4, ha4, g4⟩
  have G4 := Lib.hid (gb_new G3.out g4 (fun i hi => by cases hi; exact HI.out))
  have X4 := Lib.hid po4.pn
  have Q4 := Lib.hid pq4
  have A4 := Lib.hid ha4
  have F4 := Lib.hid (PF.out.other PQ3.out (Ne.symm HIJ.out) g4)
  have U4 := Lib.hid (PQ3.out.sl T1'.out g4)
  have V4 := Lib.hid (PQ3.out.sl T2'.out g4)
  have M2 := Lib.hid (pemul_c t'.clamp_ok w4 P f J 0 _ v u ys xs F4.out (HD.out.grown0 G4.out) (by decide) V4.out U4.out (by omega))
  clear M1 po4 pq4 ha4 g4 PQ3 PF T1' T2'
  go_wp2_with fail
  refine (M2.out).mono ?_
  rintro e w5 ⟨x5, a5, c5, rfl, po5, pq5, ha5, g5⟩
  have G5 := Lib.hid (gb_new G4.out g5 (fun i hi => by cases hi; exact HJ.out))
  have F5 := Lib.hid pq5
  have A5 := Lib.hid ha5
  have Q5 := Lib.hid (Q4.out.other F4.out HIJ.out g5)
  have X5 := Lib.hid (F4.out.pn X4.out g5)
  have U5 := Lib.hid (F4.out.sl U4.out g5)
  have V5 := Lib.hid (F4.out.sl V4.out g5)
  have SM := Lib.hid (psame_c w5 x4 x5 P _ _ _ X5.out (Pn.comm po5.pn) PB.out)
  clear M2 po5 pq5 ha5 g5 Q4 F4 X4 U4 V4
  go_wp2_with fail
  refine (SM.out).mono ?_
  rintro e w6 ⟨rfl, g6⟩
  have G6 := Lib.hid (gb_trans G5.out g6)
  have F6 := Lib.hid (F5.out.grown0 g6)
  have Q6 := Lib.hid (Q5.out.grown0 g6)
  have X6 := Lib.hid (X5.out.grown0 g6)
  have U6 := Lib.hid (U5.out.grown0 g6)
  have V6 := Lib.hid (V5.out.grown0 g6)
  have M3 := Lib.hid (kron_c t'.clamp_ok w6 P f J a5 c5 u v xs ys F6.out (HD.out.grown0 G6.out) (by have := A5.out; omega) U6.out V6.out (by omega))
  clear SM g6 F5 Q5 X5 U5 V5
  go_wp2_with fail
  refine (M3.out).mono ?_
  rintro e w7 ⟨x7, a7, c7, rfl, po7, pq7, ha7, g7⟩
  have G7 := Lib.hid (gb_new G6.out g7 (fun i hi => by cases hi; exact HJ.out))
  have F7 := Lib.hid pq7
  have A7 := Lib.hid ha7
  have Q7 := Lib.hid (Q6.out.other F6.out HIJ.out g7)
  have X7 := Lib.hid (F6.out.pn X6.out g7)
  have U7 := Lib.hid (F6.out.sl U6.out g7)
  have V7 := Lib.hid (F6.out.sl V6.out g7)
  have SM := Lib.hid (psame_c w7 x4 x7 P _ _ _ X7.out po7.pn PB.out)
  clear M3 po7 pq7 ha7 g7 Q6 F6 X6 U6 V6
  go_wp2_with fail
  refine (SM.out).mono ?_
  rintro e w8 ⟨rfl, g8⟩
  have G8 := Lib.hid (gb_trans G7.out g8)
  have F8 := Lib.hid (F7.out.grown0 g8)
  have Q8 := Lib.hid (Q7.out.grown0 g8)
  have X8 := Lib.hid (X7.out.grown0 g8)
  have U8 := Lib.hid (U7.out.grown0 g8)
  have V8 := Lib.hid (V7.out.grown0 g8)
  have M4 := Lib.hid (ntt_c t.clamp_ok w8 P g I a4 c4 u v xs ys Q8.out (HD.out.grown0 G8.out) (by have := A4.out; omega) U8.out V8.out (by omega))
  clear SM g8 F7 Q7 X7 U7 V7
  go_wp2_with fail
  refine (M4.out).mono ?_
  rintro e w9 ⟨x9, a9, c9, rfl, po9, pq9, ha9, g9⟩
  have G9 := Lib.hid (gb_new G8.out g9 (fun i hi => by cases hi; exact HI.out))
  have Q9 := Lib.hid pq9
  have A9 := Lib.hid ha9
  have F9 := Lib.hid (F8.out.other Q8.out (Ne.symm HIJ.out) g9)
  have X9 := Lib.hid (Q8.out.pn X8.out g9)
  have U9 := Lib.hid (Q8.out.sl U8.out g9)
  have SM := Lib.hid (psame_c w9 x4 x9 P _ _ _ X9.out po9.pn PB.out)
  clear M4 po9 pq9 ha9 g9 Q8 F8 X8 U8 V8
  go_wp2_with fail
  refine (SM.out).mono ?_
  rintro e w10 ⟨rfl, g10⟩
  have G10 := Lib.hid (gb_trans G9.out g10)
  have F10 := Lib.hid (F9.out.grown0 g10)
  have Q10 := Lib.hid (Q9.out.grown0 g10)
  have U10 := Lib.hid (U9.out.grown0 g10)
  have M5 := Lib.hid (psqr_c t.clamp_ok w10 P g I a9 c9 u xs Q10.out (HD.out.grown0 G10.out) (by have := A4.out; have := A9.out; omega) U10.out (by omega))
  clear SM g10 F9 Q9 X9 U9
  go_wp2_with fail
  refine (M5.out).mono ?_
  rintro e w11 ⟨x11, a11, c11, rfl, po11, pq11, ha11, g11⟩
  have G11 := Lib.hid (gb_new G10.out g11 (fun i hi => by cases hi; exact HI.out))
  have X11 := Lib.hid po11.pn
  have F11 := Lib.hid (F10.out.other Q10.out (Ne.symm HIJ.out) g11)
  have U11 := Lib.hid (Q10.out.sl U10.out g11)
  have M6 := Lib.hid (pemul_c t'.clamp_ok w11 P f J a7 c7 u u xs xs F11.out (HD.out.grown0 G11.out) (by have := A5.out; have := A7.out; omega) U11.out U11.out (by omega))
  clear M5 po11 pq11 ha11 g11 Q10 F10 U10
  go_wp2_with fail
  refine (M6.out).mono ?_
  rintro e w12 ⟨x12, a12, c12, rfl, po12, pq12, ha12, g12⟩
  have G12 := Lib.hid (gb_new G11.out g12 (fun i hi => by cases hi; exact HJ.out))
  have SM := Lib.hid (psame_c w12 x11 x12 P _ _ _ (F11.out.pn X11.out g12) po12.pn PB.out)
  clear M6 po12 pq12 ha12 g12 F11 U11 X11
  go_wp2_with fail
  refine (SM.out).mono ?_
  rintro e w13 ⟨rfl, g13⟩
  have G13 := Lib.hid (gb_trans G12.out g13)
  have WK := Lib.hid (wakes24_c w13 (HD.out.grown0 G13.out))
  clear SM g13
  go_wp2_with fail
  refine (WK.out).mono ?_
  rintro e w14 ⟨rfl, g14⟩
  go_wp2
  go_ret
  exact ⟨rfl, gb_trans G13.out g14⟩
end Go.Proofs.YtimmpojeddcfnaaGreatDoor

/- Chapter 24: the greatest coefficients; each way. -/
namespace Go.Proofs.YtimmpojeddcfnaaGreatDoor
open Go.RowKit

theorem own_twoP (w : World) (n m : Nat) (hn : n ≤ 1000000) (hm : m ≤ 1000000) : Own (((w.alloc (.cells (madeCells #[.int .u64 0] n) 53)).alloc (.cells (madeCells #[.int .u64 0] m) 53)).drew) w.heap.size (.slice (some ⟨w.heap.size, 0, none⟩) n n) (List.replicate n 0) ∧
    Own (((w.alloc (.cells (madeCells #[.int .u64 0] n) 53)).alloc (.cells (madeCells #[.int .u64 0] m) 53)).drew) w.heap.size (.slice (some ⟨w.heap.size + 1, 0, none⟩) m m) (List.replicate m 0) := by
  have e : (w.alloc (.cells (madeCells #[.int .u64 0] n) 53)).heap.size = w.heap.size + 1 := by simp
  have h1 := (own_made w w.heap.size n n (Nat.le_refl _) (Nat.le_refl _) (by omega)).alloc (.cells (madeCells #[.int .u64 0] m) 53)
  have h2 := own_made (w.alloc (.cells (madeCells #[.int .u64 0] n) 53)) w.heap.size m m (by rw [e]; omega) (Nat.le_refl _) (by omega)
  rw [e] at h2
  exact ⟨h1.drew, h2.drew⟩
set_option maxRecDepth 100000 in
set_option maxHeartbeats 8000000 in
theorem PmulGreat_walk (t : Tb) (k n0 k0 : Int) (w : World) (hk : 0 ≤ k ∧ k < 18446744073709551616) (_hn : -9223372036854775808 ≤ n0 ∧ n0 ≤ 9223372036854775807) (_hk : -9223372036854775808 ≤ k0 ∧ k0 ≤ 9223372036854775807) (hd : Db w) :
    Calls Tryz.prog 6 #[t.v, .int .u64 k, .int .i64 n0, .int .i64 k0] w fun e w' => e = .returned (.bool true) ∧ w.grownBy w' none := by
  have C0 := cs_new w #[.int .i64 t.eb, .int .i64 t.et, .int .i64 t.en, .int .i64 t.ed, .int .i64 t.er, .int .i64 t.el, .int .i64 t.ex, .int .i64 t.ep, .int .i64 t.ek, .int .i64 t.es, .int .i64 t.ee] 23
  have hg := gb_alloc (gb_refl w none) (Obj.cells #[.int .i64 t.eb, .int .i64 t.et, .int .i64 t.en, .int .i64 t.ed, .int .i64 t.er, .int .i64 t.el, .int .i64 t.ex, .int .i64 t.ep, .int .i64 t.ek, .int .i64 t.es, .int .i64 t.ee] 23)
  have HG := Lib.hid hg
  have HC0 := Lib.hid C0
  clear C0 hg
  obtain ⟨n, hn1⟩ : ∃ n : Nat, (n : Int) = 1 + n0 % 50 := ⟨(1 + n0 % 50).toNat, by omega⟩
  obtain ⟨m, hm1⟩ : ∃ n : Nat, (n : Int) = 1 + k0 % 50 := ⟨(1 + k0 % 50).toNat, by omega⟩
  have en : 1 + n0 % 50 = (n : Int) := hn1.symm
  have em : 1 + k0 % 50 = (m : Int) := hm1.symm
  have bn : 0 < n ∧ n ≤ 50 := by omega
  have bm : 0 < m ∧ m ≤ 50 := by omega
  have mk1 := make64 24 (by kernel_rfl) n n (n : Int) (n : Int) (by omega) (by omega) (by omega) (by omega)
  have mk2 := make64 24 (by kernel_rfl) m m (m : Int) (m : Int) (by omega) (by omega) (by omega) (by omega)
  have EG := Lib.hid (fun w1 h => engine24_c w1 t k hk h)
  have HD := Lib.hid hd
  have W1 := Lib.hid (fun w => within_c n0 50 (by decide) (by decide) w)
  have W2 := Lib.hid (fun w => within_c k0 50 (by decide) (by decide) w)
  have E1 := Lib.hid (EG.out _ (HD.out.grown0 HG.out))
  clear hn1 hm1 hd _hn _hk EG
  go_enter Tryz.func6, Tryz.ntmps6
  have c0 := HC0.out.cell 0 rfl
  have c1 := HC0.out.cell 1 rfl
  have c2 := HC0.out.cell 2 rfl
  have c3 := HC0.out.cell 3 rfl
  have c4 := HC0.out.cell 4 rfl
  have c5 := HC0.out.cell 5 rfl
  have c6 := HC0.out.cell 6 rfl
  have c7 := HC0.out.cell 7 rfl
  have c8 := HC0.out.cell 8 rfl
  have c9 := HC0.out.cell 9 rfl
  have c10 := HC0.out.cell 10 rfl
  go_wp2_with fail
  refine (E1.out).mono ?_
  rintro e w1 ⟨p, g, I, rfl, pm, -, pq, hg, g1⟩
  clear c0 c1 c2 c3 c4 c5 c6 c7 c8 c9 c10
  have G1 := Lib.hid (gb_trans HG.out g1)
  have Q1 := Lib.hid pq
  have HI := Lib.hid (Nat.le_trans HG.out.size hg)
  obtain ⟨P, hP⟩ : ∃ P : Int, P = (p : Int) := ⟨_, rfl⟩
  have PB : Hid (0 < P) := Lib.hid (by rw [hP]; exact pm_pos pm)
  have hp3 : 3 ≤ P := by rw [hP]; exact pm.lo
  have hp4 : P < 4611686018427387904 := by rw [hP]; exact pm.hi
  rw [← hP] at Q1 ⊢
  clear pm pq hg g1 E1 HC0 hP
  go_wp2_with fail
  refine (W1.out _).mono ?_
  rintro e w2 ⟨rfl, hw1⟩
  subst hw1
  go_wp2_with fail
  refine (W2.out _).mono ?_
  rintro e w3 ⟨rfl, hw1⟩
  subst hw1
  obtain ⟨w1, rfl⟩ : ∃ w1 : World, w1 = w3 := ⟨_, rfl⟩
  have O2 := Lib.hid (own_twoP w1 n m (by omega) (by omega))
  have O3 := Lib.hid (own_twoP w1 m n (by omega) (by omega))
  go_upto_region 5 with fail
  go_cut [11, 12] from 30 to 33 (fun v5 v6 wc => ∃ ga gb, v5 = .slice (some ⟨ga, 0, none⟩) n n ∧ v6 = .slice (some ⟨gb, 0, none⟩) m m ∧ ga ≠ gb ∧ Own wc w1.heap.size (.slice (some ⟨ga, 0, none⟩) n n) (List.replicate n 0) ∧ Own wc w1.heap.size (.slice (some ⟨gb, 0, none⟩) m m) (List.replicate m 0) ∧ w1.grownBy wc none)
  case first =>
    go_region
    all_goals (go_wp2_with fail)
    all_goals (go_meet)
    · obtain ⟨o1, o2⟩ := O2.out
      exact ⟨_, _, rfl, rfl, by omega, o1, o2, gb_drew (gb_alloc (gb_alloc (gb_refl w1 none) _) _)⟩
    · obtain ⟨o1, o2⟩ := O3.out
      exact ⟨_, _, rfl, rfl, by omega, o2, o1, gb_drew (gb_alloc (gb_alloc (gb_refl w1 none) _) _)⟩
  case rest =>
    obtain ⟨ga, gb, rfl, rfl, hne, oa, ob, GC⟩ := hcut
    clear O2 O3 mk1 mk2 W1 W2 en em
    have OA := Lib.hid oa
    have OB := Lib.hid ob
    clear oa ob
    go_wp2
    go_loopw [13] (fun v13 wr => ∃ (i : Nat) (xs ys : List Int), v13 = .int .i64 i ∧ i ≤ n ∧ Own wr w1.heap.size (.slice (some ⟨ga, 0, none⟩) n n) xs ∧ Own wr w1.heap.size (.slice (some ⟨gb, 0, none⟩) m m) ys ∧ w1.grownBy wr none) (fun v13 _ => n - (intOf v13).toNat)
    case atStart => exact ⟨0, _, _, rfl, by omega, OA.out, OB.out, GC⟩
    case round =>
      clear OA OB GC
      obtain ⟨i, xs, ys, rfl, hi, oa, ob, G⟩ := hrel
      have OA := Lib.hid oa
      have OB := Lib.hid ob
      have BG := Lib.hid (And.intro oa.base_le.1 ob.base_le.1)
      have GG := Lib.hid G
      clear oa ob G
      by_cases hlt : i < n
      · have fr := OA.out.free i
        have ce := OA.out.cell i (by rw [← OA.out.len]; exact hlt)
        obtain ⟨y, hy⟩ : ∃ y, y = rd xs i := ⟨_, rfl⟩
        rw [← hy] at ce
        clear hy
        go_wp2
        go_roundw
        case rel => exact ⟨i + 1, _, _, by go_num, by omega, OA.out.store i (by omega) (by omega), OB.out.past (gb_rowC (gb_refl _ (some ga)) i _) (Ne.symm hne), gb_set (p := ⟨ga, i, none⟩) GG.out BG.out.1 _⟩
        case measure => simp [intOf]; omega
      · obtain rfl : i = n := by omega
        clear hi hlt
        obtain ⟨wo, rfl⟩ : ∃ wo : World, wo = wr := ⟨_, rfl⟩
        go_wp2
        go_loopw [14] (fun v14 wr => ∃ (j : Nat) (ys : List Int), v14 = .int .i64 j ∧ j ≤ m ∧ Own wr w1.heap.size (.slice (some ⟨ga, 0, none⟩) i i) xs ∧ Own wr w1.heap.size (.slice (some ⟨gb, 0, none⟩) m m) ys ∧ w1.grownBy wr none) (fun v14 _ => m - (intOf v14).toNat)
        case atStart => exact ⟨0, _, rfl, by omega, OA.out, OB.out, GG.out⟩
        case round =>
          clear OA OB GG
          obtain ⟨j, ys, rfl, hj, oa, ob, G⟩ := hrel
          obtain ⟨w2, rfl⟩ : ∃ w2 : World, w2 = wr := ⟨_, rfl⟩
          have OA := Lib.hid oa
          have OB := Lib.hid ob
          have GG := Lib.hid G
          clear oa ob G
          by_cases hlt : j < m
          · have fr := OB.out.free j
            have ce := OB.out.cell j (by rw [← OB.out.len]; exact hlt)
            obtain ⟨y, hy⟩ : ∃ y, y = rd ys j := ⟨_, rfl⟩
            rw [← hy] at ce
            clear hy
            go_wp2
            go_roundw
            case rel => exact ⟨j + 1, _, by go_num, by omega, OA.out.past (gb_rowC (gb_refl _ (some gb)) j _) hne, OB.out.store j (by omega) (by omega), gb_set (p := ⟨gb, j, none⟩) GG.out BG.out.2 _⟩
            case measure => simp [intOf]; omega
          · obtain rfl : j = m := by omega
            clear hj hlt
            have LA : xs.length = i := OA.out.len.symm
            have LB : ys.length = j := OB.out.len.symm
            have LL : Hid (xs.length + ys.length ≤ 100) := Lib.hid (by omega)
            have G2 := Lib.hid (gb_trans G1.out GG.out)
            have Q2 := Lib.hid (Q1.out.grown0 GG.out)
            have U2 := Lib.hid OA.out.sl
            have V2 := Lib.hid OB.out.sl
            have RM := Lib.hid (rMul_c w2 _ _ xs ys P hp3 hp4 U2.out V2.out (by omega))
            clear OA OB GG BG LA LB hne
            go_wp2_with fail
            refine (RM.out).mono ?_
            rintro e w3 ⟨x3, rfl, po3, gq⟩
            have G3 := Lib.hid (gb_trans G2.out gq)
            have Q3 := Lib.hid (Q2.out.grown0 gq)
            have U3 := Lib.hid (U2.out.grown0 gq)
            have V3 := Lib.hid (V2.out.grown0 gq)
            have X3 := Lib.hid po3.pn
            clear RM po3 gq Q2 U2 V2
            have M1 := Lib.hid (pemul_c t.clamp_ok w3 P g I 0 _ _ _ xs ys Q3.out (HD.out.grown0 G3.out) (by decide) U3.out V3.out (by have := LL.out; omega))
            go_wp2_with fail
            refine (M1.out).mono ?_
            rintro e w4 ⟨x4, a4, c4, rfl, po, pq, ha, gq⟩
            have G4 := Lib.hid (gb_new G3.out gq (fun i hi => by cases hi; exact HI.out))
            have Q4 := Lib.hid pq
            have A4 := Lib.hid ha
            have X4 := Lib.hid (Q3.out.pn X3.out gq)
            have U4 := Lib.hid (Q3.out.sl U3.out gq)
            have V4 := Lib.hid (Q3.out.sl V3.out gq)
            have SM := Lib.hid (psame_c w4 x3 x4 P _ _ _ X4.out po.pn PB.out)
            clear M1 po pq ha gq Q3 X3 U3 V3
            go_wp2_with fail
            refine (SM.out).mono ?_
            rintro e w5 ⟨rfl, gq⟩
            have G5 := Lib.hid (gb_trans G4.out gq)
            have Q5 := Lib.hid (Q4.out.grown0 gq)
            have X5 := Lib.hid (X4.out.grown0 gq)
            have U5 := Lib.hid (U4.out.grown0 gq)
            have V5 := Lib.hid (V4.out.grown0 gq)
            clear SM gq Q4 X4 U4 V4
            have M1 := Lib.hid (kron_c t.clamp_ok w5 P g I a4 c4 _ _ xs ys Q5.out (HD.out.grown0 G5.out) (by have := A4.out; omega) U5.out V5.out (by have := LL.out; omega))
            go_wp2_with fail
            refine (M1.out).mono ?_
            rintro e w6 ⟨x6, a6, c6, rfl, po, pq, ha, gq⟩
            have G6 := Lib.hid (gb_new G5.out gq (fun i hi => by cases hi; exact HI.out))
            have Q6 := Lib.hid pq
            have A6 := Lib.hid ha
            have X6 := Lib.hid (Q5.out.pn X5.out gq)
            have U6 := Lib.hid (Q5.out.sl U5.out gq)
            have V6 := Lib.hid (Q5.out.sl V5.out gq)
            have SM := Lib.hid (psame_c w6 x3 x6 P _ _ _ X6.out po.pn PB.out)
            clear M1 po pq ha gq Q5 X5 U5 V5
            go_wp2_with fail
            refine (SM.out).mono ?_
            rintro e w7 ⟨rfl, gq⟩
            have G7 := Lib.hid (gb_trans G6.out gq)
            have Q7 := Lib.hid (Q6.out.grown0 gq)
            have X7 := Lib.hid (X6.out.grown0 gq)
            have U7 := Lib.hid (U6.out.grown0 gq)
            have V7 := Lib.hid (V6.out.grown0 gq)
            clear SM gq Q6 X6 U6 V6
            have M1 := Lib.hid (ntt_c t.clamp_ok w7 P g I a6 c6 _ _ xs ys Q7.out (HD.out.grown0 G7.out) (by have := A4.out; have := A6.out; omega) U7.out V7.out (by have := LL.out; omega))
            go_wp2_with fail
            refine (M1.out).mono ?_
            rintro e w8 ⟨x8, a8, c8, rfl, po, pq, ha, gq⟩
            have G8 := Lib.hid (gb_new G7.out gq (fun i hi => by cases hi; exact HI.out))
            have Q8 := Lib.hid pq
            have A8 := Lib.hid ha
            have X8 := Lib.hid (Q7.out.pn X7.out gq)
            have U8 := Lib.hid (Q7.out.sl U7.out gq)
            have V8 := Lib.hid (Q7.out.sl V7.out gq)
            have SM := Lib.hid (psame_c w8 x3 x8 P _ _ _ X8.out po.pn PB.out)
            clear M1 po pq ha gq Q7 X7 U7 V7
            go_wp2_with fail
            refine (SM.out).mono ?_
            rintro e w9 ⟨rfl, gq⟩
            have G9 := Lib.hid (gb_trans G8.out gq)
            have Q9 := Lib.hid (Q8.out.grown0 gq)
            have X9 := Lib.hid (X8.out.grown0 gq)
            have U9 := Lib.hid (U8.out.grown0 gq)
            have V9 := Lib.hid (V8.out.grown0 gq)
            clear SM gq Q8 X8 U8 V8
            have M1 := Lib.hid (pkara_c t.clamp_ok w9 P g I a8 c8 _ _ xs ys Q9.out U9.out V9.out (by have := LL.out; omega))
            go_wp2_with fail
            refine (M1.out).mono ?_
            rintro e w10 ⟨x10, rfl, po, g'⟩
            have G10 := Lib.hid (gb_trans G9.out g')
            have SM := Lib.hid (psame_c w10 x3 x10 P _ _ _ (X9.out.grown0 g') po.pn PB.out)
            clear M1 po g' Q9 X9 U9 V9
            go_wp2_with fail
            refine (SM.out).mono ?_
            rintro e w11 ⟨rfl, g'⟩
            have G11 := Lib.hid (gb_trans G10.out g')
            have WK := Lib.hid (wakes24_c w11 (HD.out.grown0 G11.out))
            clear SM g'
            go_wp2_with fail
            refine (WK.out).mono ?_
            rintro e w12 ⟨rfl, g'⟩
            go_wp2
            go_ret
            exact ⟨rfl, gb_trans G11.out g'⟩
end Go.Proofs.YtimmpojeddcfnaaGreatDoor

/- Chapter 24: each way. -/
namespace Go.Proofs.YtimmpojeddcfnaaGreatDoor
open Go.RowKit

set_option maxRecDepth 100000 in
set_option maxHeartbeats 8000000 in
theorem PmulWays_walk (t : Tb) (k : Int) (va : Value) (al0 : List Int) (vb : Value) (bl0 : List Int) (w : World) (hk : 0 ≤ k ∧ k < 18446744073709551616) (ha : Sl w va al0) (hb : Sl w vb bl0) (hd : Db w) :
    Calls Tryz.prog 7 #[t.v, .int .u64 k, va, vb] w fun e w' => e = .returned (.bool true) ∧ w.grownBy w' none := by
  have C0 := cs_new w #[.int .i64 t.eb, .int .i64 t.et, .int .i64 t.en, .int .i64 t.ed, .int .i64 t.er, .int .i64 t.el, .int .i64 t.ex, .int .i64 t.ep, .int .i64 t.ek, .int .i64 t.es, .int .i64 t.ee] 23
  have hg := gb_alloc (gb_refl w none) (Obj.cells #[.int .i64 t.eb, .int .i64 t.et, .int .i64 t.en, .int .i64 t.ed, .int .i64 t.er, .int .i64 t.el, .int .i64 t.ex, .int .i64 t.ep, .int .i64 t.ek, .int .i64 t.es, .int .i64 t.ee] 23)
  have HG := Lib.hid hg
  have HC0 := Lib.hid C0
  clear C0 hg
  have CA := Lib.hid (cut_c _ va al0 40 (by decide) (ha.grown0 HG.out))
  have CB := Lib.hid (cut_c _ vb bl0 40 (by decide) (hb.grown0 HG.out))
  have EG := Lib.hid (fun w1 h => engine24_c w1 t k hk h)
  have HD := Lib.hid hd
  clear ha hb hd
  go_enter Tryz.func7, Tryz.ntmps7
  go_wp2_with fail
  refine (CA.out).mono ?_
  rintro e w1 ⟨u, rfl, s1, hw⟩
  subst hw
  go_wp2_with fail
  refine (CB.out).mono ?_
  rintro e w1 ⟨v, rfl, s2, hw⟩
  subst hw
  have LA := cut_len al0 40
  have LB := cut_len bl0 40
  obtain ⟨xs, hxs⟩ : ∃ xs, xs = al0.take 40 := ⟨_, rfl⟩
  obtain ⟨ys, hys⟩ : ∃ xs, xs = bl0.take 40 := ⟨_, rfl⟩
  rw [← hxs] at s1 LA
  rw [← hys] at s2 LB
  have LL : Hid (xs.length ≤ 40 ∧ ys.length ≤ 40) := Lib.hid (by omega)
  have S1 := Lib.hid s1
  have S2 := Lib.hid s2
  have HD1 := Lib.hid (HD.out.grown0 HG.out)
  have E1 := Lib.hid (EG.out _ HD1.out)
  clear HD s1 s2 CA CB hxs hys EG LA LB
  have c0 := HC0.out.cell 0 rfl
  have c1 := HC0.out.cell 1 rfl
  have c2 := HC0.out.cell 2 rfl
  have c3 := HC0.out.cell 3 rfl
  have c4 := HC0.out.cell 4 rfl
  have c5 := HC0.out.cell 5 rfl
  have c6 := HC0.out.cell 6 rfl
  have c7 := HC0.out.cell 7 rfl
  have c8 := HC0.out.cell 8 rfl
  have c9 := HC0.out.cell 9 rfl
  have c10 := HC0.out.cell 10 rfl
  go_wp2_with fail
  refine (E1.out).mono ?_
  rintro e w2 ⟨p, g, I, rfl, pm, -, pq, hg, g2⟩
  clear c0 c1 c2 c3 c4 c5 c6 c7 c8 c9 c10
  have G2 := Lib.hid g2
  have PQ := Lib.hid pq
  have HI := Lib.hid hg
  have T1 := Lib.hid (S1.out.grown0 g2)
  have T2 := Lib.hid (S2.out.grown0 g2)
  have HIl := Lib.hid (PQ.out.en.lt)
  obtain ⟨P, hP⟩ : ∃ P : Int, P = (p : Int) := ⟨_, rfl⟩
  have PB : Hid (0 < P) := Lib.hid (by rw [hP]; exact pm_pos pm)
  have hp3 : 3 ≤ P := by rw [hP]; exact pm.lo
  have hp4 : P < 4611686018427387904 := by rw [hP]; exact pm.hi
  rw [← hP] at PQ ⊢
  clear pm pq hg g2 E1 HC0 hP
  have LE1 := Lib.hid (lend_c w2 _ xs T1.out (by have := LL.out.1; omega))
  go_wp2_with fail
  refine (LE1.out).mono ?_
  rintro e w3 ⟨gx, os, rfl, ox, le, g3⟩
  have OX := Lib.hid ox
  have LX := Lib.hid le
  have G3 := Lib.hid g3
  have LE2 := Lib.hid (lend_c w3 _ ys (T2.out.grown0 g3) (by have := LL.out.2; omega))
  clear LE1 ox le g3
  go_wp2_with fail
  refine (LE2.out).mono ?_
  rintro e w4 ⟨gy, os2, rfl, oy, le2, g4⟩
  have R4 := Lib.hid (gb_trans G3.out g4)
  have G4 := Lib.hid (gb_trans G2.out R4.out)
  have BX : Hid (gx ≠ I.gm ∧ gy ≠ I.gm ∧ gx < w4.heap.size ∧ gy < w4.heap.size) := Lib.hid (by
    have h1 := OX.out.base_le; have h2 := oy.base_le; have h3 := HIl.out; have h4 := G3.out.size; have h5 := g4.size
    omega)
  have OX4 := Lib.hid (OX.out.grown0 g4)
  have OY4 := Lib.hid oy
  have LY := Lib.hid le2
  have T1' := Lib.hid (T1.out.grown0 R4.out)
  have T2' := Lib.hid (T2.out.grown0 R4.out)
  have U4 := Lib.hid (LX.out.sl OX4.out)
  have V4 := Lib.hid (LY.out.sl OY4.out)
  have Q4 := Lib.hid (PQ.out.grown0 R4.out)
  have RM := Lib.hid (rMul_c w4 _ _ xs ys P hp3 hp4 T1'.out T2'.out (by have := LL.out; omega))
  clear oy le2 g4 LE2 OX PQ T1 T2 G3
  go_wp2_with fail
  refine (RM.out).mono ?_
  rintro e w5 ⟨x5, rfl, po5, g5⟩
  have G5 := Lib.hid (gb_trans G4.out g5)
  have R5 := Lib.hid (g5)
  have Q5 := Lib.hid (Q4.out.grown0 g5)
  have U5 := Lib.hid (U4.out.grown0 g5)
  have V5 := Lib.hid (V4.out.grown0 g5)
  have X5 := Lib.hid po5.pn
  clear RM po5 g5 Q4 U4 V4
  have M1 := Lib.hid (pemul_c t.clamp_ok w5 P g I 0 _ _ _ xs ys Q5.out (HD1.out.grown0 G5.out) (by decide) U5.out V5.out (by have := LL.out; omega))
  go_wp2_with fail
  refine (M1.out).mono ?_
  rintro e w6 ⟨m, a6, c6, rfl, po, pq, ha, g6⟩
  have G6 := Lib.hid (gb_new G5.out g6 (fun i hi => by cases hi; exact HI.out))
  have R6 := Lib.hid (gb_trans (gb_new (gb_refl _ (some I.gm)) R5.out (fun i hi => by cases hi)) g6)
  have PO := Lib.hid po
  have Q6 := Lib.hid pq
  have A6 := Lib.hid ha
  have X6 := Lib.hid (Q5.out.pn X5.out g6)
  have U6 := Lib.hid (Q5.out.sl U5.out g6)
  have V6 := Lib.hid (Q5.out.sl V5.out g6)
  have Z6 := Lib.hid (R5.out.size)
  have SM := Lib.hid (psame_c w6 x5 m P _ _ _ X6.out po.pn PB.out)
  clear M1 po pq ha g6 Q5 X5 U5 V5 R5
  go_wp2_with fail
  refine (SM.out).mono ?_
  rintro e w7 ⟨rfl, g7⟩
  have G7 := Lib.hid (gb_trans G6.out g7)
  have R7 := Lib.hid (gb_new (gb_refl _ (some I.gm)) g7 (fun i hi => by cases hi))
  have Q7 := Lib.hid (Q6.out.grown0 g7)
  have X7 := Lib.hid (X6.out.grown0 g7)
  have U7 := Lib.hid (U6.out.grown0 g7)
  have V7 := Lib.hid (V6.out.grown0 g7)
  clear SM g7 Q6 X6 U6 V6
  have M1 := Lib.hid (phand_c w7 _ P g I a6 c6 _ _ xs ys Q7.out U7.out V7.out (by have := LL.out; omega))
  go_wp2_with fail
  refine (M1.out).mono ?_
  rintro e w8 ⟨x8, rfl, po, gq⟩
  have G8 := Lib.hid (gb_trans G7.out gq)
  have R8 := Lib.hid (gb_new R7.out gq (fun i hi => by cases hi))
  have Q8 := Lib.hid (Q7.out.grown0 gq)
  have X8 := Lib.hid (X7.out.grown0 gq)
  have U8 := Lib.hid (U7.out.grown0 gq)
  have V8 := Lib.hid (V7.out.grown0 gq)
  have SM := Lib.hid (psame_c w8 x5 x8 P _ _ _ X8.out po.pn PB.out)
  clear M1 po gq Q7 X7 U7 V7 R7
  go_wp2_with fail
  refine (SM.out).mono ?_
  rintro e w9 ⟨rfl, gq⟩
  have G9 := Lib.hid (gb_trans G8.out gq)
  have R9 := Lib.hid (gb_new R8.out gq (fun i hi => by cases hi))
  have Q9 := Lib.hid (Q8.out.grown0 gq)
  have X9 := Lib.hid (X8.out.grown0 gq)
  have U9 := Lib.hid (U8.out.grown0 gq)
  have V9 := Lib.hid (V8.out.grown0 gq)
  clear SM gq Q8 X8 U8 V8 R8
  have M1 := Lib.hid (pkara_c t.clamp_ok w9 P g I a6 c6 _ _ xs ys Q9.out U9.out V9.out (by have := LL.out; omega))
  go_wp2_with fail
  refine (M1.out).mono ?_
  rintro e w10 ⟨x10, rfl, po, gq⟩
  have G10 := Lib.hid (gb_trans G9.out gq)
  have R10 := Lib.hid (gb_new R9.out gq (fun i hi => by cases hi))
  have Q10 := Lib.hid (Q9.out.grown0 gq)
  have X10 := Lib.hid (X9.out.grown0 gq)
  have U10 := Lib.hid (U9.out.grown0 gq)
  have V10 := Lib.hid (V9.out.grown0 gq)
  have SM := Lib.hid (psame_c w10 x5 x10 P _ _ _ X10.out po.pn PB.out)
  clear M1 po gq Q9 X9 U9 V9 R9
  go_wp2_with fail
  refine (SM.out).mono ?_
  rintro e w11 ⟨rfl, gq⟩
  have G11 := Lib.hid (gb_trans G10.out gq)
  have R11 := Lib.hid (gb_new R10.out gq (fun i hi => by cases hi))
  have Q11 := Lib.hid (Q10.out.grown0 gq)
  have X11 := Lib.hid (X10.out.grown0 gq)
  have U11 := Lib.hid (U10.out.grown0 gq)
  have V11 := Lib.hid (V10.out.grown0 gq)
  clear SM gq Q10 X10 U10 V10 R10
  have M1 := Lib.hid (kron_c t.clamp_ok w11 P g I a6 c6 _ _ xs ys Q11.out (HD1.out.grown0 G11.out) (by have := A6.out; omega) U11.out V11.out (by have := LL.out; omega))
  go_wp2_with fail
  refine (M1.out).mono ?_
  rintro e w12 ⟨x12, a12, c12, rfl, po, pq, ha, gq⟩
  have G12 := Lib.hid (gb_new G11.out gq (fun i hi => by cases hi; exact HI.out))
  have R12 := Lib.hid (gb_trans R11.out gq)
  have Q12 := Lib.hid pq
  have A12 := Lib.hid ha
  have X12 := Lib.hid (Q11.out.pn X11.out gq)
  have U12 := Lib.hid (Q11.out.sl U11.out gq)
  have V12 := Lib.hid (Q11.out.sl V11.out gq)
  have SM := Lib.hid (psame_c w12 x5 x12 P _ _ _ X12.out po.pn PB.out)
  clear M1 po pq ha gq Q11 X11 U11 V11 R11
  go_wp2_with fail
  refine (SM.out).mono ?_
  rintro e w13 ⟨rfl, gq⟩
  have G13 := Lib.hid (gb_trans G12.out gq)
  have R13 := Lib.hid (gb_new R12.out gq (fun i hi => by cases hi))
  have Q13 := Lib.hid (Q12.out.grown0 gq)
  have X13 := Lib.hid (X12.out.grown0 gq)
  have U13 := Lib.hid (U12.out.grown0 gq)
  have V13 := Lib.hid (V12.out.grown0 gq)
  clear SM gq Q12 X12 U12 V12 R12
  have M1 := Lib.hid (ntt_c t.clamp_ok w13 P g I a12 c12 _ _ xs ys Q13.out (HD1.out.grown0 G13.out) (by have := A6.out; have := A12.out; omega) U13.out V13.out (by have := LL.out; omega))
  go_wp2_with fail
  refine (M1.out).mono ?_
  rintro e w14 ⟨x14, a14, c14, rfl, po, pq, ha, gq⟩
  have G14 := Lib.hid (gb_new G13.out gq (fun i hi => by cases hi; exact HI.out))
  have R14 := Lib.hid (gb_trans R13.out gq)
  have Q14 := Lib.hid pq
  have A14 := Lib.hid ha
  have X14 := Lib.hid (Q13.out.pn X13.out gq)
  have U14 := Lib.hid (Q13.out.sl U13.out gq)
  have V14 := Lib.hid (Q13.out.sl V13.out gq)
  have SM := Lib.hid (psame_c w14 x5 x14 P _ _ _ X14.out po.pn PB.out)
  clear M1 po pq ha gq Q13 X13 U13 V13 R13
  go_wp2_with fail
  refine (SM.out).mono ?_
  rintro e w15 ⟨rfl, gq⟩
  have G15 := Lib.hid (gb_trans G14.out gq)
  have R15 := Lib.hid (gb_new R14.out gq (fun i hi => by cases hi))
  have Q15 := Lib.hid (Q14.out.grown0 gq)
  have X15 := Lib.hid (X14.out.grown0 gq)
  have U15 := Lib.hid (U14.out.grown0 gq)
  have V15 := Lib.hid (V14.out.grown0 gq)
  clear SM gq Q14 X14 U14 V14 R14
  clear Q15 X15 U15 V15 A6 A12 A14
  obtain ⟨zs, oz, -⟩ := PO.out
  have OZ := Lib.hid oz
  clear oz PO
  have NB : Hid (∀ b, m.ownBlock = some b → w4.heap.size ≤ b) := Lib.hid (fun b hb => Nat.le_trans Z6.out (OZ.out.lt b hb).1)
  have NG : Hid (m.ownBlock = none ∨ m.ownBlock ≠ some I.gm) := Lib.hid (by
    by_cases h : m.ownBlock = some I.gm
    · have := NB.out _ h; have := BX.out; have h4 := HIl.out; have := R4.out.size; omega
    · exact .inr h)
  have OZ15 := Lib.hid (OZ.out.grown R15.out NG.out)
  have OX15 := Lib.hid ((OX4.out.past R6.out BX.out.1).past R15.out BX.out.1)
  have OY15 := Lib.hid ((OY4.out.past R6.out BX.out.2.1).past R15.out BX.out.2.1)
  clear OX4 OY4 R6 OZ R15 NG T1' T2'
  have SO := Lib.hid (spoilW_c w15 _ m zs OZ15.out)
  go_wp2_with fail
  refine (SO.out).mono ?_
  rintro e w16 ⟨rfl, gz⟩
  have G16 := Lib.hid (gb_new G15.out gz (fun b hb => Nat.le_trans G4.out.size (NB.out b hb)))
  have OX16 := Lib.hid (OX15.out.grown gz (by
    by_cases h : m.ownBlock = some gx
    · have := NB.out gx h; have := BX.out.2.2.1; omega
    · exact .inr (by simp only [Value.ownBlock]; exact fun e => h e.symm)))
  have OY16 := Lib.hid (OY15.out.grown gz (by
    by_cases h : m.ownBlock = some gy
    · have := NB.out gy h; have := BX.out.2.2.2; omega
    · exact .inr (by simp only [Value.ownBlock]; exact fun e => h e.symm)))
  have IA := Lib.hid (intact_c w16 _ gx u xs os (S1.out.grown0 G16.out) OX16.out LX.out (by have := LL.out.1; omega))
  clear SO gz OX15 OY15 OZ15 NB
  go_wp2_with fail
  refine (IA.out).mono ?_
  rintro e w17 ⟨rfl, gz⟩
  have G17 := Lib.hid (gb_trans G16.out gz)
  have IB := Lib.hid (intact_c w17 _ gy v ys os2 (S2.out.grown0 G17.out) (OY16.out.grown0 gz) LY.out (by have := LL.out.2; omega))
  clear IA gz OX16 OY16
  go_wp2_with fail
  refine (IB.out).mono ?_
  rintro e w18 ⟨rfl, gz⟩
  have G18 := Lib.hid (gb_trans G17.out gz)
  have WK := Lib.hid (wakes24_c w18 (HD1.out.grown0 G18.out))
  clear IB gz
  go_wp2_with fail
  refine (WK.out).mono ?_
  rintro e w19 ⟨rfl, gz⟩
  go_wp2
  go_ret
  exact ⟨rfl, gb_trans HG.out (gb_trans G18.out gz)⟩
end Go.Proofs.YtimmpojeddcfnaaGreatDoor

/- An argument: rows of rows. -/
namespace Go.Proofs.YtimmpojeddcfnaaGreatDoor
open Go.RowKit Go.Deep Go.ChangeShapes Go.WideShapes

set_option maxRecDepth 100000 in
theorem open_rows {H : Type} {enc : TypeId × Value → H} {w : World} {base b0 : Nat} {held : Bool} {r : Reach} {v : Value} {d : DataW H} {ps : List MemPlace} (hval : Value.okWide Tryz.prog w r b0 78 v)
    (hd : DataW.Trod enc Tryz.prog w base (fun _ => true) held 78 v d ps) : ∃ n V X, Pts w v n V X := by
  obtain ⟨a, len, cap, rfl⟩ := okWide_slice Tryz.underlying78 hval
  obtain ⟨fuel, hf⟩ := hd
  rcases open_int_rows Tryz.underlying78 Tryz.underlying24 Tryz.underlying53 (by kernel_rfl) (by kernel_rfl) hf with ⟨hcs, _⟩ | ⟨x, l, c, A, L, C, Z, hcs, _, hl, hm, _, hall⟩
  · simp [Value.cells] at hcs
    obtain ⟨rfl, rfl, rfl⟩ := hcs
    exact ⟨0, fun _ => undef, fun _ => [], cells_none _ _ _, fun j hj => by omega⟩
  · simp [Value.cells] at hcs
    obtain ⟨rfl, rfl, rfl⟩ := hcs
    refine ⟨len, fun j => .slice (A j) (L j) (C j), fun j => (Z j).take (L j), cells_of hl hm (by decide) (fun j hj => (hall j (by omega)).1), fun j hj => ?_⟩
    obtain ⟨_, h1, h2, h3, h4, h5, h6⟩ := hall j (by omega)
    cases hA : A j with
    | none =>
      have hc := h5 hA
      have hl0 : L j = 0 := by omega
      rw [hc, hl0, List.take_zero]
      exact sl_none _
    | some y =>
      exact sl_of_cells h1 h2 h3 (fun i hi => (h6 y hA).2 i (by omega)) h4
end Go.Proofs.YtimmpojeddcfnaaGreatDoor
