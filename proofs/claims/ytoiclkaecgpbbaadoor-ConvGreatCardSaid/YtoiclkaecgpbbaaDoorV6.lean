/- Contracts of the program's functions, and plain laws (Law09d, Law09e), for every input that their premises let in. -/
import Derived.Test.YtoiclkaecgpbbaaDoorV3
import Derived.Test.YtoiclkaecgpbbaaDoorV5
/- Chapter 9: products and squares by transforms. -/
namespace Go.Proofs.YtoiclkaecgpbbaaDoor
open Go.RowKit

set_option maxRecDepth 100000 in
set_option maxHeartbeats 4000000 in
theorem ConvMuls_walk (va : Value) (al0 : List Int) (vb : Value) (bl0 : List Int) (w : World) (ha : Sl w va al0) (hb : Sl w vb bl0) (hd : Db w) :
    Calls Tryd.prog 11 #[va, vb] w fun e w' => e = .returned (.bool true) ∧ w.grownBy w' none := by
  have CA := Lib.hid (cut_c w va al0 40 (by decide) ha)
  have CB := Lib.hid (cut_c w vb bl0 40 (by decide) hb)
  obtain ⟨A, ca, rfl, _, _⟩ := ha.form
  obtain ⟨B, cb, rfl, _, _⟩ := hb.form
  have HD := Lib.hid hd
  clear ha hb hd
  go_enter Tryd.func11, Tryd.ntmps11
  go_wp2_with fail
  refine (CA.out).mono ?_
  rintro e w1 ⟨ua, rfl, ha, hw1⟩
  subst hw1
  go_wp2_with fail
  refine (CB.out).mono ?_
  rintro e w1 ⟨ub, rfl, hb, hw1⟩
  subst hw1
  obtain ⟨al, hal⟩ : ∃ l, l = al0.take 40 := ⟨_, rfl⟩
  obtain ⟨bl, hbl⟩ : ∃ l, l = bl0.take 40 := ⟨_, rfl⟩
  rw [← hal] at ha
  rw [← hbl] at hb
  have la : al.length ≤ 40 := by rw [hal, List.length_take]; omega
  have lb : bl.length ≤ 40 := by rw [hbl, List.length_take]; omega
  clear hal hbl CA CB
  obtain ⟨A', ca', rfl, hca, hca2⟩ := ha.form
  obtain ⟨B', cb', rfl, hcb, hcb2⟩ := hb.form
  obtain ⟨n, hn⟩ : ∃ n, n = al.length := ⟨_, rfl⟩
  obtain ⟨m, hm⟩ : ∃ m, m = bl.length := ⟨_, rfl⟩
  have MM := Lib.hid (mt_newg w1 w1.heap.size #[.int .i64 0, .int .i64 0, .int .i64 0] 64 rfl rfl rfl rfl rfl)
  have GA := gb_alloc (gb_refl w1 none) (Obj.cells #[.int .i64 0, .int .i64 0, .int .i64 0] 64)
  have hs : w1.heap.size < (w1.alloc (Obj.cells #[.int .i64 0, .int .i64 0, .int .i64 0] 64)).heap.size := by simp
  have HA1 := Lib.hid ha
  have HB1 := Lib.hid hb
  have HAa := ha.grown0 GA
  have HBa := hb.grown0 GA
  rw [← hn] at HAa ha HA1
  rw [← hm] at HBa hb HB1
  have LA := lend_c _ _ al HAa (by omega)
  have HGA := Lib.hid GA
  have HS := Lib.hid hs
  have HAH := Lib.hid HAa
  have HBH := Lib.hid HBa
  rw [← hn] at hca la LA ⊢
  rw [← hm] at hcb lb ⊢
  have HLA := Lib.hid LA
  have HN := Lib.hid hn
  have HM := Lib.hid hm
  clear GA hs HAa HBa ha hb LA hn hm
  go_wp2_with fail
  refine (HLA.out).mono ?_
  rintro e w2 ⟨gx, os, rfl, ox, le, g2⟩
  have LB := lend_c w2 _ bl (HBH.out.grown0 g2) (by rw [← HM.out]; omega)
  rw [← HM.out] at LB
  have HLB := Lib.hid LB
  have OX := Lib.hid ox
  have LX := Lib.hid le
  have G2 := Lib.hid g2
  clear ox le g2 LB HLA
  go_wp2_with fail
  refine (HLB.out).mono ?_
  rintro e w3 ⟨gy, os2, rfl, oy, le2, g3⟩
  have OY := Lib.hid oy
  have LY := Lib.hid le2
  have G3 := Lib.hid (gb_trans G2.out g3)
  have OX3 := Lib.hid (OX.out.grown0 g3)
  have MT := Lib.hid (MM.out.grown G3.out)
  have GW3 := Lib.hid (gb_trans HGA.out G3.out)
  have HD3 := Lib.hid (HD.out.grown0 GW3.out)
  have BX : Hid (gx ≠ w1.heap.size ∧ gy ≠ w1.heap.size ∧ gx < w3.heap.size ∧ gy < w3.heap.size ∧ w1.heap.size ≤ gx ∧ w1.heap.size ≤ gy) := Lib.hid (by
    have h1 := OX.out.base_le; have h2 := OY.out.base_le; have h3 := HS.out; have h4 := G2.out.size; have h5 := g3.size
    omega)
  have SX := LX.out.sl (by rw [← HN.out]; exact OX3.out)
  have SY := LY.out.sl (by rw [← HM.out]; exact OY.out)
  rw [← HN.out] at SX
  rw [← HM.out] at SY
  clear oy le2 g3 HLB OX MM HAH HBH G2
  by_cases h0 : n = 0 ∨ m = 0
  · have NO := Lib.hid (convMul_no w3 w1.heap.size _ _ al bl SX SY (by rw [← HN.out, ← HM.out]; exact h0))
    go_wp2_with fail
    refine (NO.out).mono ?_
    rintro e w4 ⟨rfl, g4⟩
    have G4 := Lib.hid (gb_trans GW3.out g4)
    have WK := Lib.hid (fun w => wakes09_c w)
    clear g4 NO SX SY
    rcases h0 with rfl | rfl
    · go_wp2_with fail
      refine (WK.out _).mono ?_
      rintro e w5 ⟨rfl, g5⟩
      go_wp2
      go_ret
      exact ⟨rfl, gb_trans G4.out g5⟩
    · by_cases h1 : n = 0
      · subst h1
        go_wp2_with fail
        refine (WK.out _).mono ?_
        rintro e w5 ⟨rfl, g5⟩
        go_wp2
        go_ret
        exact ⟨rfl, gb_trans G4.out g5⟩
      · have h1' : ¬ (n : Int) = 0 := by omega
        go_wp2_with fail
        refine (WK.out _).mono ?_
        rintro e w5 ⟨rfl, g5⟩
        go_wp2
        go_ret
        exact ⟨rfl, gb_trans G4.out g5⟩
  · have n0 : 0 < n := by omega
    have m0 : 0 < m := by omega
    have n1 : ((n : Int) == 0) = false := by have : ¬ (n : Int) = 0 := by omega
                                             simpa using this
    have m1 : ((m : Int) == 0) = false := by have : ¬ (m : Int) = 0 := by omega
                                             simpa using this
    clear h0
    have CM := convMul_c w3 w1.heap.size 0 0 0 _ _ al bl MT.out HD3.out (by decide) SX SY (by rw [← HN.out]; exact n0) (by rw [← HM.out]; exact m0) (by rw [← HN.out, ← HM.out]; omega) (off_some BX.out.1) (off_some BX.out.2.1)
    rw [← HN.out, ← HM.out] at CM
    have TC : ∀ w, Calls Tryd.prog 43 #[.int .i64 n, .int .i64 m, .int .i64 3] w fun e w' => e = .returned (.int .i64 (transf n m 3 : Nat)) ∧ w' = w := fun w => transform_cost_c w n m 3 n0 m0 (by decide) (by omega)
    obtain ⟨K, hK⟩ : ∃ K : Int, K = ((transf n m 3 : Nat) : Int) := ⟨_, rfl⟩
    rw [← hK] at CM TC
    have HCM := Lib.hid CM
    have HTC := Lib.hid TC
    clear CM TC hK SX SY
    go_wp2_with fail
    refine (HCM.out).mono ?_
    rintro e w4 ⟨x, rfl, wo, m4, g4⟩
    have WO := Lib.hid wo
    have M4 := Lib.hid m4
    have G4 := Lib.hid g4
    have GW4 := Lib.hid (gb_new GW3.out g4 (fun i hi => by cases hi; exact Nat.le_refl _))
    have OX4 := Lib.hid (OX3.out.past g4 BX.out.1)
    have OY4 := Lib.hid (OY.out.past g4 BX.out.2.1)
    clear wo m4 g4 HCM OX3 OY MT HGA HD3 HD G3
    have FA := Lib.hid (from_c w4 _ al 40 (HA1.out.grown0 GW4.out) (by rw [← HN.out]; exact la) (by decide))
    go_wp2_with fail
    refine (FA.out).mono ?_
    rintro e w5 ⟨pa, rfl, na, g5⟩
    have NA := Lib.hid na
    have G5 := Lib.hid g5
    have FB := Lib.hid (from_c w5 _ bl 40 ((HB1.out.grown0 GW4.out).grown0 g5) (by rw [← HM.out]; exact lb) (by decide))
    clear na g5 FA
    go_wp2_with fail
    refine (FB.out).mono ?_
    rintro e w6 ⟨pb, rfl, nb, g6⟩
    have MU := Lib.hid (mul_c w6 pa pb _ _ _ _ (NA.out.grown0 g6) nb (by decide) (by decide))
    have G6 := Lib.hid (gb_trans G5.out g6)
    clear nb g6 FB NA G5
    go_wp2_with fail
    refine (MU.out).mono ?_
    rintro e w7 ⟨pp, rfl, np, g7⟩
    have SM := Lib.hid (same2_c w7 pp x _ _ np ((WO.out.grown0 (gb_trans G6.out g7)).wd) (by decide))
    have G7 := Lib.hid (gb_trans G6.out g7)
    clear np g7 MU G6
    go_wp2_with fail
    refine (SM.out).mono ?_
    rintro e w8 ⟨rfl, g8⟩
    have G8 := Lib.hid (gb_trans G7.out g8)
    have MK := Lib.hid (muls_c w8 w1.heap.size _ 0 0 (M4.out.grown G8.out))
    clear g8 G7 SM
    have e0 : (0 : Int) + K = K := Int.zero_add K
    go_wp2_with fail
    refine (MK.out).mono ?_
    rintro e w9 ⟨rfl, hw9⟩
    subst hw9
    go_wp2_with fail
    refine (HTC.out _).mono ?_
    rintro e w9 ⟨rfl, hw9⟩
    subst hw9
    obtain ⟨zs, oz, _, _⟩ := WO.out
    have SO := Lib.hid (spoilW_c w9 _ x zs (oz.grown0 G8.out))
    have OZ := Lib.hid oz
    clear oz WO MK HTC M4
    go_wp2_with fail
    refine (SO.out).mono ?_
    rintro e w10 ⟨rfl, g10⟩
    have NB : Hid (∀ b, x.ownBlock = some b → w3.heap.size ≤ b) := Lib.hid (fun b hb => (OZ.out.lt b hb).1)
    have GW10 := Lib.hid (gb_new (gb_trans GW4.out G8.out) g10 (fun b hb => Nat.le_trans GW3.out.size (NB.out b hb)))
    have OX5 := Lib.hid ((OX4.out.grown0 G8.out).grown g10 (by
      by_cases h : x.ownBlock = some gx
      · have := NB.out gx h; have := BX.out.2.2.1; omega
      · exact .inr (by simp only [Value.ownBlock]; exact fun e => h e.symm)))
    have OY5 := Lib.hid ((OY4.out.grown0 G8.out).grown g10 (by
      by_cases h : x.ownBlock = some gy
      · have := NB.out gy h; have := BX.out.2.2.2.1; omega
      · exact .inr (by simp only [Value.ownBlock]; exact fun e => h e.symm)))
    have IA := intact_c w10 _ gx (.slice A' n ca') al os (HA1.out.grown0 GW10.out) (by rw [← HN.out]; exact OX5.out) LX.out (by rw [← HN.out]; omega)
    rw [← HN.out] at IA
    have HIA := Lib.hid IA
    clear IA g10 SO OX4 OY4 GW4 G8 OZ
    go_wp2_with fail
    refine (HIA.out).mono ?_
    rintro e w11 ⟨rfl, g11⟩
    have IB := intact_c w11 _ gy (.slice B' m cb') bl os2 ((HB1.out.grown0 GW10.out).grown0 g11) (by rw [← HM.out]; exact OY5.out.grown0 g11) LY.out (by rw [← HM.out]; omega)
    rw [← HM.out] at IB
    have HIB := Lib.hid IB
    have GW11 := Lib.hid (gb_trans GW10.out g11)
    clear IB g11 HIA OX5 OY5 GW10
    go_wp2_with fail
    refine (HIB.out).mono ?_
    rintro e w12 ⟨rfl, g12⟩
    have WK := Lib.hid (wakes09_c w12)
    go_wp2_with fail
    refine (WK.out).mono ?_
    rintro e w13 ⟨rfl, g13⟩
    go_wp2
    go_ret
    exact ⟨rfl, gb_trans (gb_trans GW11.out g12) g13⟩
set_option maxRecDepth 100000 in
set_option maxHeartbeats 4000000 in
theorem ConvSquares_walk (va : Value) (al0 : List Int) (w : World) (ha : Sl w va al0) (hd : Db w) :
    Calls Tryd.prog 12 #[va] w fun e w' => e = .returned (.bool true) ∧ w.grownBy w' none := by
  have CA := Lib.hid (cut_c w va al0 50 (by decide) ha)
  obtain ⟨A, ca, rfl, _, _⟩ := ha.form
  have HD := Lib.hid hd
  clear ha hd
  go_enter Tryd.func12, Tryd.ntmps12
  go_wp2_with fail
  refine (CA.out).mono ?_
  rintro e w1 ⟨ua, rfl, ha, hw1⟩
  subst hw1
  obtain ⟨al, hal⟩ : ∃ l, l = al0.take 50 := ⟨_, rfl⟩
  rw [← hal] at ha
  have la : al.length ≤ 50 := by rw [hal, List.length_take]; omega
  clear hal CA
  obtain ⟨A', ca', rfl, hca, hca2⟩ := ha.form
  obtain ⟨n, hn⟩ : ∃ n, n = al.length := ⟨_, rfl⟩
  have MM := Lib.hid (mt_newg w1 w1.heap.size #[.int .i64 0, .int .i64 0, .int .i64 0] 64 rfl rfl rfl rfl rfl)
  have GA := gb_alloc (gb_refl w1 none) (Obj.cells #[.int .i64 0, .int .i64 0, .int .i64 0] 64)
  have hs : w1.heap.size < (w1.alloc (Obj.cells #[.int .i64 0, .int .i64 0, .int .i64 0] 64)).heap.size := by simp
  have HA1 := Lib.hid ha
  have HAa := ha.grown0 GA
  rw [← hn] at HAa ha HA1
  have LA := lend_c _ _ al HAa (by omega)
  have HGA := Lib.hid GA
  have HS := Lib.hid hs
  rw [← hn] at hca la LA ⊢
  have HLA := Lib.hid LA
  have HN := Lib.hid hn
  clear GA hs HAa ha LA hn
  go_wp2_with fail
  refine (HLA.out).mono ?_
  rintro e w3 ⟨gx, os, rfl, ox, le, g3⟩
  have OX3 := Lib.hid ox
  have LX := Lib.hid le
  have G3 := Lib.hid g3
  have MT := Lib.hid (MM.out.grown G3.out)
  have GW3 := Lib.hid (gb_trans HGA.out G3.out)
  have HD3 := Lib.hid (HD.out.grown0 GW3.out)
  have BX : Hid (gx ≠ w1.heap.size ∧ gx < w3.heap.size ∧ w1.heap.size ≤ gx) := Lib.hid (by
    have h1 := OX3.out.base_le; have h3 := HS.out
    omega)
  have SX := LX.out.sl (by rw [← HN.out]; exact OX3.out)
  rw [← HN.out] at SX
  clear ox le g3 HLA MM
  by_cases h0 : n = 0
  · have NO := Lib.hid (convSqr_no w3 w1.heap.size _ al SX (by rw [← HN.out]; exact h0))
    subst h0
    go_wp2_with fail
    refine (NO.out).mono ?_
    rintro e w4 ⟨rfl, g4⟩
    have G4 := Lib.hid (gb_trans GW3.out g4)
    have WK := Lib.hid (fun w => wakes09_c w)
    clear g4 NO SX
    go_wp2_with fail
    refine (WK.out _).mono ?_
    rintro e w5 ⟨rfl, g5⟩
    go_wp2
    go_ret
    exact ⟨rfl, gb_trans G4.out g5⟩
  · have n0 : 0 < n := by omega
    have n1 : ((n : Int) == 0) = false := by have : ¬ (n : Int) = 0 := by omega
                                             simpa using this
    clear h0
    have CM := convSqr_c w3 w1.heap.size 0 0 0 _ al MT.out HD3.out (by decide) SX (by rw [← HN.out]; exact n0) (by rw [← HN.out]; omega) (off_some BX.out.1)
    rw [← HN.out] at CM
    have TC : ∀ w, Calls Tryd.prog 43 #[.int .i64 n, .int .i64 n, .int .i64 2] w fun e w' => e = .returned (.int .i64 (transf n n 2 : Nat)) ∧ w' = w := fun w => transform_cost_c w n n 2 n0 n0 (by decide) (by omega)
    obtain ⟨K, hK⟩ : ∃ K : Int, K = ((transf n n 2 : Nat) : Int) := ⟨_, rfl⟩
    rw [← hK] at CM TC
    have HCM := Lib.hid CM
    have HTC := Lib.hid TC
    clear CM TC hK SX
    go_wp2_with fail
    refine (HCM.out).mono ?_
    rintro e w4 ⟨x, rfl, wo, m4, g4⟩
    have WO := Lib.hid wo
    have M4 := Lib.hid m4
    have GW4 := Lib.hid (gb_new GW3.out g4 (fun i hi => by cases hi; exact Nat.le_refl _))
    have OX4 := Lib.hid (OX3.out.past g4 BX.out.1)
    clear wo m4 g4 HCM OX3 MT HGA HD3 HD G3
    have FA := Lib.hid (from_c w4 _ al 50 (HA1.out.grown0 GW4.out) (by rw [← HN.out]; exact la) (by decide))
    go_wp2_with fail
    refine (FA.out).mono ?_
    rintro e w5 ⟨pa, rfl, na, g5⟩
    have NA := Lib.hid na
    have G5 := Lib.hid g5
    have FB := Lib.hid (from_c w5 _ al 50 ((HA1.out.grown0 GW4.out).grown0 g5) (by rw [← HN.out]; exact la) (by decide))
    clear na g5 FA
    go_wp2_with fail
    refine (FB.out).mono ?_
    rintro e w6 ⟨pb, rfl, nb, g6⟩
    have MU := Lib.hid (mul_c w6 pa pb _ _ _ _ (NA.out.grown0 g6) nb (by decide) (by decide))
    have G6 := Lib.hid (gb_trans G5.out g6)
    clear nb g6 FB NA G5
    go_wp2_with fail
    refine (MU.out).mono ?_
    rintro e w7 ⟨pp, rfl, np, g7⟩
    have SM := Lib.hid (same2_c w7 pp x _ _ np ((WO.out.grown0 (gb_trans G6.out g7)).wd) (by decide))
    have G7 := Lib.hid (gb_trans G6.out g7)
    clear np g7 MU G6
    go_wp2_with fail
    refine (SM.out).mono ?_
    rintro e w8 ⟨rfl, g8⟩
    have G8 := Lib.hid (gb_trans G7.out g8)
    have MK := Lib.hid (muls_c w8 w1.heap.size _ 0 0 (M4.out.grown G8.out))
    clear g8 G7 SM
    have e0 : (0 : Int) + K = K := Int.zero_add K
    go_wp2_with fail
    refine (MK.out).mono ?_
    rintro e w9 ⟨rfl, hw9⟩
    subst hw9
    go_wp2_with fail
    refine (HTC.out _).mono ?_
    rintro e w9 ⟨rfl, hw9⟩
    subst hw9
    obtain ⟨zs, oz, _, _⟩ := WO.out
    have SO := Lib.hid (spoilW_c w9 _ x zs (oz.grown0 G8.out))
    have OZ := Lib.hid oz
    clear oz WO MK HTC M4
    go_wp2_with fail
    refine (SO.out).mono ?_
    rintro e w10 ⟨rfl, g10⟩
    have NB : Hid (∀ b, x.ownBlock = some b → w3.heap.size ≤ b) := Lib.hid (fun b hb => (OZ.out.lt b hb).1)
    have GW10 := Lib.hid (gb_new (gb_trans GW4.out G8.out) g10 (fun b hb => Nat.le_trans GW3.out.size (NB.out b hb)))
    have OX5 := Lib.hid ((OX4.out.grown0 G8.out).grown g10 (by
      by_cases h : x.ownBlock = some gx
      · have := NB.out gx h; have := BX.out.2.1; omega
      · exact .inr (by simp only [Value.ownBlock]; exact fun e => h e.symm)))
    have IA := intact_c w10 _ gx (.slice A' n ca') al os (HA1.out.grown0 GW10.out) (by rw [← HN.out]; exact OX5.out) LX.out (by rw [← HN.out]; omega)
    rw [← HN.out] at IA
    have HIA := Lib.hid IA
    clear IA g10 SO OX4 GW4 G8 OZ
    go_wp2_with fail
    refine (HIA.out).mono ?_
    rintro e w11 ⟨rfl, g11⟩
    have GW11 := Lib.hid (gb_trans GW10.out g11)
    have WK := Lib.hid (wakes09_c w11)
    clear g11 HIA OX5 GW10
    go_wp2_with fail
    refine (WK.out).mono ?_
    rintro e w13 ⟨rfl, g13⟩
    go_wp2
    go_ret
    exact ⟨rfl, gb_trans GW11.out g13⟩
theorem transf_le {n m k : Nat} (h : n + m ≤ 1024) (hk : k ≤ 3) : transf n m k ≤ 100000 := by
  unfold transf
  obtain ⟨L, hL⟩ : ∃ L, L = blen (n + m - 1) := ⟨_, rfl⟩
  obtain ⟨N, hN⟩ : ∃ N, N = 2 ^ L := ⟨_, rfl⟩
  have hL10 : L ≤ 10 := by rw [hL]; exact blen10 h
  have hN10 : N ≤ 1024 := by rw [hN]; exact Nat.pow_le_pow_right (by decide) hL10
  rw [← hL, ← hN]
  have h1 : k * (N / 2) ≤ 3 * 512 := Nat.mul_le_mul hk (by omega)
  have h2 : k * (N / 2) * L ≤ 1536 * 10 := Nat.mul_le_mul h1 hL10
  omega
theorem own_two2 (w : World) (n m : Nat) (hn : n ≤ 1000000) (hm : m ≤ 1000000) : Own (((w.alloc (.cells (madeCells #[.int .u64 0] n) 22)).alloc (.cells (madeCells #[.int .u64 0] m) 22)).drew) w.heap.size (.slice (some ⟨w.heap.size, 0, none⟩) n n) (List.replicate n 0) ∧
    Own (((w.alloc (.cells (madeCells #[.int .u64 0] n) 22)).alloc (.cells (madeCells #[.int .u64 0] m) 22)).drew) w.heap.size (.slice (some ⟨w.heap.size + 1, 0, none⟩) m m) (List.replicate m 0) := by
  have e : (w.alloc (.cells (madeCells #[.int .u64 0] n) 22)).heap.size = w.heap.size + 1 := by simp
  have h1 := (own_made w w.heap.size n n (Nat.le_refl _) (Nat.le_refl _) (by omega)).alloc (.cells (madeCells #[.int .u64 0] m) 22)
  have h2 := own_made (w.alloc (.cells (madeCells #[.int .u64 0] n) 22)) w.heap.size m m (by rw [e]; omega) (Nat.le_refl _) (by omega)
  rw [e] at h2
  exact ⟨h1.drew, h2.drew⟩
set_option maxRecDepth 100000 in
set_option maxHeartbeats 4000000 in
theorem ConvGreat_walk (n0 k0 : Int) (w : World) (_hn : -9223372036854775808 ≤ n0 ∧ n0 ≤ 9223372036854775807) (_hk : -9223372036854775808 ≤ k0 ∧ k0 ≤ 9223372036854775807) (hd : Db w) :
    Calls Tryd.prog 13 #[.int .i64 n0, .int .i64 k0] w fun e w' => e = .returned (.bool true) ∧ w.grownBy w' none := by
  obtain ⟨n, hn1⟩ : ∃ n : Nat, (n : Int) = 1 + n0 % 60 := ⟨(1 + n0 % 60).toNat, by omega⟩
  obtain ⟨m, hm1⟩ : ∃ n : Nat, (n : Int) = 1 + k0 % 60 := ⟨(1 + k0 % 60).toNat, by omega⟩
  have en : 1 + n0 % 60 = (n : Int) := hn1.symm
  have em : 1 + k0 % 60 = (m : Int) := hm1.symm
  have bn : 0 < n ∧ n ≤ 60 := by omega
  have bm : 0 < m ∧ m ≤ 60 := by omega
  have mk1 := make64 36 (by kernel_rfl) n n (n : Int) (n : Int) (by omega) (by omega) (by omega) (by omega)
  have mk2 := make64 36 (by kernel_rfl) m m (m : Int) (m : Int) (by omega) (by omega) (by omega) (by omega)
  have O2 := Lib.hid (own_two2 w n m (by omega) (by omega))
  have O3 := Lib.hid (own_two2 w m n (by omega) (by omega))
  have HD := Lib.hid hd
  have W1 := Lib.hid (fun w => within_c n0 60 (by decide) (by decide) w)
  have W2 := Lib.hid (fun w => within_c k0 60 (by decide) (by decide) w)
  clear hn1 hm1 hd _hn _hk
  go_enter Tryd.func13, Tryd.ntmps13
  go_wp2_with fail
  refine (W1.out _).mono ?_
  rintro e w1 ⟨rfl, hw1⟩
  subst hw1
  go_wp2_with fail
  refine (W2.out _).mono ?_
  rintro e w1 ⟨rfl, hw1⟩
  subst hw1
  go_upto_region 2 with fail
  go_cut [5, 6] from 20 to 23 (fun v5 v6 wc => ∃ ga gb, v5 = .slice (some ⟨ga, 0, none⟩) n n ∧ v6 = .slice (some ⟨gb, 0, none⟩) m m ∧ ga ≠ gb ∧ Own wc w1.heap.size (.slice (some ⟨ga, 0, none⟩) n n) (List.replicate n 0) ∧ Own wc w1.heap.size (.slice (some ⟨gb, 0, none⟩) m m) (List.replicate m 0) ∧ w1.grownBy wc none)
  case first =>
    go_region
    all_goals (go_wp2_with fail)
    all_goals (go_meet)
    · obtain ⟨o1, o2⟩ := O2.out
      exact ⟨_, _, rfl, rfl, by omega, o1, o2, gb_drew (gb_alloc (gb_alloc (gb_refl w1 none) _) _)⟩
    · obtain ⟨o1, o2⟩ := O3.out
      exact ⟨_, _, rfl, rfl, by omega, o2, o1, gb_drew (gb_alloc (gb_alloc (gb_refl w1 none) _) _)⟩
  case rest =>
    obtain ⟨ga, gb, rfl, rfl, hne, oa, ob, GC⟩ := hcut
    clear O2 O3 mk1 mk2 W1 W2 en em
    have OA := Lib.hid oa
    have OB := Lib.hid ob
    clear oa ob
    go_wp2
    go_loopw [7] (fun v7 wr => ∃ (i : Nat) (xs ys : List Int), v7 = .int .i64 i ∧ i ≤ n ∧ Own wr w1.heap.size (.slice (some ⟨ga, 0, none⟩) n n) xs ∧ Own wr w1.heap.size (.slice (some ⟨gb, 0, none⟩) m m) ys ∧ w1.grownBy wr none) (fun v7 _ => n - (intOf v7).toNat)
    case atStart => exact ⟨0, _, _, rfl, by omega, OA.out, OB.out, GC⟩
    case round =>
      clear OA OB GC
      obtain ⟨i, xs, ys, rfl, hi, oa, ob, G⟩ := hrel
      have OA := Lib.hid oa
      have OB := Lib.hid ob
      have BG := Lib.hid (And.intro oa.base_le.1 ob.base_le.1)
      have GG := Lib.hid G
      clear oa ob G
      by_cases hlt : i < n
      · have fr := OA.out.free i
        have ce := OA.out.cell i (by rw [← OA.out.len]; exact hlt)
        obtain ⟨y, hy⟩ : ∃ y, y = rd xs i := ⟨_, rfl⟩
        rw [← hy] at ce
        clear hy
        go_wp2
        go_roundw
        case rel => exact ⟨i + 1, _, ys, by go_num, by omega, OA.out.store i (by decide) (by decide), OB.out.past (gb_rowC (gb_refl _ (some ga)) i _) (Ne.symm hne), gb_set (p := ⟨ga, i, none⟩) GG.out BG.out.1 _⟩
        case measure => simp [intOf]; omega
      · obtain rfl : i = n := by omega
        clear hi hlt
        obtain ⟨wo, rfl⟩ : ∃ wo : World, wo = wr := ⟨_, rfl⟩
        go_wp2
        go_loopw [8] (fun v8 wr => ∃ (j : Nat) (ys : List Int), v8 = .int .i64 j ∧ j ≤ m ∧ Own wr w1.heap.size (.slice (some ⟨ga, 0, none⟩) i i) xs ∧ Own wr w1.heap.size (.slice (some ⟨gb, 0, none⟩) m m) ys ∧ w1.grownBy wr none) (fun v8 _ => m - (intOf v8).toNat)
        case atStart => exact ⟨0, _, rfl, by omega, OA.out, OB.out, GG.out⟩
        case round =>
          clear OA OB GG
          obtain ⟨j, ys, rfl, hj, oa, ob, G⟩ := hrel
          have OA := Lib.hid oa
          have OB := Lib.hid ob
          have GG := Lib.hid G
          clear oa ob G
          by_cases hlt : j < m
          · have fr := OB.out.free j
            have ce := OB.out.cell j (by rw [← OB.out.len]; exact hlt)
            obtain ⟨y, hy⟩ : ∃ y, y = rd ys j := ⟨_, rfl⟩
            rw [← hy] at ce
            clear hy
            go_wp2
            go_roundw
            case rel => exact ⟨j + 1, _, by go_num, by omega, OA.out.past (gb_rowC (gb_refl _ (some gb)) j _) hne, OB.out.store j (by decide) (by decide), gb_set (p := ⟨gb, j, none⟩) GG.out BG.out.2 _⟩
            case measure => simp [intOf]; omega
          · obtain rfl : j = m := by omega
            clear hj hlt
            have LA : Hid (xs.length = i) := Lib.hid OA.out.len.symm
            have LB : Hid (ys.length = j) := Lib.hid OB.out.len.symm
            have HSZ : Hid (w1.heap.size ≤ wr.heap.size) := Lib.hid GG.out.size
            have NG : Hid (ga < wr.heap.size ∧ gb < wr.heap.size) := Lib.hid ⟨OA.out.base_le.2, OB.out.base_le.2⟩
            have GA := gb_alloc (gb_refl wr none) (Obj.cells #[.int .i64 0, .int .i64 0, .int .i64 0] 64)
            have CM := convMul_c _ wr.heap.size 0 0 0 _ _ xs ys (mt_newg wr wr.heap.size #[.int .i64 0, .int .i64 0, .int .i64 0] 64 rfl rfl rfl rfl rfl) (HD.out.grown0 (gb_trans GG.out GA)) (by decide) (OA.out.grown0 GA).sl (OB.out.grown0 GA).sl (by rw [LA.out]; exact bn.1) (by rw [LB.out]; exact bm.1) (by rw [LA.out, LB.out]; omega)
              (off_some (by have := NG.out; omega)) (off_some (by have := NG.out; omega))
            obtain ⟨K, hK⟩ : ∃ K, K = transf xs.length ys.length 3 := ⟨_, rfl⟩
            have bK : K ≤ 100000 := by rw [hK]; exact transf_le (by rw [LA.out, LB.out]; omega) (by decide)
            rw [← hK] at CM
            have HCM := Lib.hid CM
            have HGA := Lib.hid GA
            clear CM GA hK
            go_wp2_with fail
            refine (HCM.out).mono ?_
            rintro e w4 ⟨x, rfl, wo, m4, g4⟩
            have WO := Lib.hid wo
            have M4 := Lib.hid m4
            have GX4 := Lib.hid (gb_new HGA.out g4 (fun i hi => by cases hi; exact Nat.le_refl _))
            have SA4 := Lib.hid (OA.out.grown0 GX4.out).sl
            have SB4 := Lib.hid (OB.out.grown0 GX4.out).sl
            have GW4 := Lib.hid (gb_trans GG.out GX4.out)
            have CS := convSqr_c w4 wr.heap.size _ 0 0 _ xs M4.out (HD.out.grown0 GW4.out) (by omega) SA4.out (by rw [LA.out]; exact bn.1) (by rw [LA.out]; omega) (off_some (by have := NG.out; omega))
            have HCS := Lib.hid CS
            clear CS wo m4 g4 HCM GG HGA
            go_wp2_with fail
            refine (HCS.out).mono ?_
            rintro e w5 ⟨y, rfl, wo, m5, g5⟩
            have WY := Lib.hid wo
            have GX5 := Lib.hid (gb_new GX4.out g5 (fun i hi => by cases hi; exact Nat.le_refl _))
            have NB : Hid (x.ownBlock = none ∨ x.ownBlock ≠ some wr.heap.size) := Lib.hid (by
              obtain ⟨zs, oz, _⟩ := WO.out
              have h1 := oz.lt wr.heap.size
              by_cases h : x.ownBlock = some wr.heap.size
              · have := (h1 h).1; simp at this; omega
              · exact .inr h)
            have WX5 : Hid (Wd w5 x (val B64 xs * val B64 ys)) := Lib.hid (by
              obtain ⟨zs, oz, nz, hv⟩ := WO.out
              exact ⟨zs, (oz.grown g5 NB.out).sl, nz, hv⟩)
            have SA5 := Lib.hid (OA.out.grown0 GX5.out).sl
            have SB5 := Lib.hid (OB.out.grown0 GX5.out).sl
            have GW5 := Lib.hid (gb_new GW4.out g5 (fun i hi => by cases hi; exact HSZ.out))
            clear wo m5 g5 HCS WO M4 SA4 SB4
            have FA := Lib.hid (from_c w5 _ xs 60 SA5.out (by rw [LA.out]; omega) (by decide))
            go_wp2_with fail
            refine (FA.out).mono ?_
            rintro e w6 ⟨pa, rfl, na, g6⟩
            have NA := Lib.hid na
            have FB := Lib.hid (from_c w6 _ ys 60 (SB5.out.grown0 g6) (by rw [LB.out]; omega) (by decide))
            have G6 := Lib.hid g6
            clear na g6 FA
            go_wp2_with fail
            refine (FB.out).mono ?_
            rintro e w7 ⟨pb, rfl, nb, g7⟩
            have MU := Lib.hid (mul_c w7 pa pb _ _ _ _ (NA.out.grown0 g7) nb (by decide) (by decide))
            have G7 := Lib.hid (gb_trans G6.out g7)
            clear nb g7 FB NA G6
            go_wp2_with fail
            refine (MU.out).mono ?_
            rintro e w8 ⟨pp, rfl, np, g8⟩
            have SM := Lib.hid (same2_c w8 pp x _ _ np (WX5.out.grown0 (gb_trans G7.out g8)) (by decide))
            have G8 := Lib.hid (gb_trans G7.out g8)
            clear np g8 MU G7
            go_wp2_with fail
            refine (SM.out).mono ?_
            rintro e w9 ⟨rfl, g9⟩
            have G9 := Lib.hid (gb_trans G8.out g9)
            have FC := Lib.hid (from_c w9 _ xs 60 (SA5.out.grown0 G9.out) (by rw [LA.out]; omega) (by decide))
            clear g9 G8 SM
            go_wp2_with fail
            refine (FC.out).mono ?_
            rintro e w10 ⟨pc, rfl, nc, g10⟩
            have NC := Lib.hid nc
            have G10 := Lib.hid (gb_trans G9.out g10)
            have FD := Lib.hid (from_c w10 _ xs 60 (SA5.out.grown0 G10.out) (by rw [LA.out]; omega) (by decide))
            clear nc g10 FC
            go_wp2_with fail
            refine (FD.out).mono ?_
            rintro e w11 ⟨pd, rfl, nd, g11⟩
            have MU := Lib.hid (mul_c w11 pc pd _ _ _ _ (NC.out.grown0 g11) nd (by decide) (by decide))
            have G11 := Lib.hid (gb_trans G10.out g11)
            clear nd g11 FD NC G10
            go_wp2_with fail
            refine (MU.out).mono ?_
            rintro e w12 ⟨qq, rfl, nq, g12⟩
            have G12 := Lib.hid (gb_trans G11.out g12)
            have SM := Lib.hid (same2_c w12 qq y _ _ nq ((WY.out.grown0 G12.out).wd) (by decide))
            clear nq g12 MU G11
            go_wp2_with fail
            refine (SM.out).mono ?_
            rintro e w13 ⟨rfl, g13⟩
            have WK := Lib.hid (wakes09_c w13)
            have G13 := Lib.hid (gb_trans G12.out g13)
            clear g13 SM G12
            go_wp2_with fail
            refine (WK.out).mono ?_
            rintro e w14 ⟨rfl, g14⟩
            go_wp2
            go_ret
            exact ⟨rfl, gb_trans (gb_trans GW5.out G13.out) g14⟩
end Go.Proofs.YtoiclkaecgpbbaaDoor

/- Chapter 9: sums of products. -/
namespace Go.Proofs.YtoiclkaecgpbbaaDoor
open Go.RowKit

/-- The k-th sum of products, as far as the i-th one. -/
def pS (xs ys : List Int) (k : Nat) : Nat → Nat
  | 0 => 0
  | i + 1 => pS xs ys k i + if i ≤ k then (rd xs i).toNat * (rd ys (k - i)).toNat else 0
theorem pS_int {xs ys : List Int} (hx : Ws xs) (hy : Ws ys) (k : Nat) : ∀ i, ((pS xs ys k i : Nat) : Int) = sumI (fun t => if t ≤ k then rd xs t * rd ys (k - t) else 0) i
  | 0 => rfl
  | i + 1 => by
    rw [pS, sumI, ← pS_int hx hy k i, Int.natCast_add]
    congr 1
    split
    · rw [Int.natCast_mul, Int.toNat_of_nonneg (rd_w hx i).1, Int.toNat_of_nonneg (rd_w hy _).1]
    · rfl
theorem pS_all {xs ys : List Int} (hx : Ws xs) (hy : Ws ys) (k : Nat) : pS xs ys k xs.length = (cv (rd xs) (rd ys) k).toNat := by
  have e := pS_int hx hy k xs.length
  have h : sumI (fun t => if t ≤ k then rd xs t * rd ys (k - t) else 0) xs.length = cv (rd xs) (rd ys) k := by
    have h1 : cv (rd xs) (rd ys) k = sumI (fun t => if t ≤ k then rd xs t * rd ys (k - t) else 0) (k + 1) := by
      unfold cv
      exact sumI_congr _ fun t ht => by rw [if_pos (by omega)]
    rw [h1]
    rcases Nat.le_total xs.length (k + 1) with h2 | h2
    · exact (sumI_tail _ h2 fun t a _ => by split <;> simp [rd_beyond a]).symm
    · exact sumI_tail _ h2 fun t a _ => by rw [if_neg (by omega)]
  rw [← h, ← e]
  rfl
theorem pS_hit {xs ys : List Int} {k i : Nat} (h : i ≤ k) : pS xs ys k (i + 1) = pS xs ys k i + (rd xs i).toNat * (rd ys (k - i)).toNat := by rw [pS, if_pos h]
theorem pS_miss {xs ys : List Int} {k i : Nat} (h : ¬ (i ≤ k ∧ k - i < ys.length)) : pS xs ys k (i + 1) = pS xs ys k i := by
  rw [pS]
  split
  · rw [rd_beyond (xs := ys) (by omega)]; simp
  · rfl
theorem cmpI_self (m : Nat) : cmpI m m = 0 := by unfold cmpI; rw [if_neg (by omega), if_neg (by omega)]
set_option maxRecDepth 100000 in
set_option maxHeartbeats 4000000 in
theorem ConvWords_walk (va : Value) (al0 : List Int) (vb : Value) (bl0 : List Int) (w : World) (ha : Sl w va al0) (hb : Sl w vb bl0) (hd : Db w) :
    Calls Tryd.prog 10 #[va, vb] w fun e w' => e = .returned (.bool true) ∧ w.grownBy w' none := by
  have CA := Lib.hid (cut_c w va al0 24 (by decide) ha)
  have CB := Lib.hid (cut_c w vb bl0 24 (by decide) hb)
  obtain ⟨A, ca, rfl, _, _⟩ := ha.form
  obtain ⟨B, cb, rfl, _, _⟩ := hb.form
  have HD := Lib.hid hd
  clear ha hb hd
  go_enter Tryd.func10, Tryd.ntmps10
  go_wp2_with fail
  refine (CA.out).mono ?_
  rintro e w1 ⟨ua, rfl, ha, hw1⟩
  subst hw1
  go_wp2_with fail
  refine (CB.out).mono ?_
  rintro e w1 ⟨ub, rfl, hb, hw1⟩
  subst hw1
  obtain ⟨al, hal⟩ : ∃ l, l = al0.take 24 := ⟨_, rfl⟩
  obtain ⟨bl, hbl⟩ : ∃ l, l = bl0.take 24 := ⟨_, rfl⟩
  rw [← hal] at ha
  rw [← hbl] at hb
  have la : al.length ≤ 24 := by rw [hal, List.length_take]; omega
  have lb : bl.length ≤ 24 := by rw [hbl, List.length_take]; omega
  clear hal hbl CA CB
  obtain ⟨A', ca', rfl, hca, hca2⟩ := ha.form
  obtain ⟨B', cb', rfl, hcb, hcb2⟩ := hb.form
  obtain ⟨n, hn⟩ : ∃ n, n = al.length := ⟨_, rfl⟩
  obtain ⟨m, hm⟩ : ∃ m, m = bl.length := ⟨_, rfl⟩
  have MM := Lib.hid (mt_newg w1 w1.heap.size #[.int .i64 0, .int .i64 0, .int .i64 0] 64 rfl rfl rfl rfl rfl)
  have GA := gb_alloc (gb_refl w1 none) (Obj.cells #[.int .i64 0, .int .i64 0, .int .i64 0] 64)
  have hs : w1.heap.size < (w1.alloc (Obj.cells #[.int .i64 0, .int .i64 0, .int .i64 0] 64)).heap.size := by simp
  have HA1 := Lib.hid ha
  have HB1 := Lib.hid hb
  have HAa := ha.grown0 GA
  have HBa := hb.grown0 GA
  rw [← hn] at HAa ha HA1
  rw [← hm] at HBa hb HB1
  have LA := lend_c _ _ al HAa (by omega)
  have HGA := Lib.hid GA
  have HS := Lib.hid hs
  have HAH := Lib.hid HAa
  have HBH := Lib.hid HBa
  rw [← hn] at hca la LA ⊢
  rw [← hm] at hcb lb ⊢
  have HLA := Lib.hid LA
  have HN := Lib.hid hn
  have HM := Lib.hid hm
  clear GA hs HAa HBa ha hb LA hn hm
  go_wp2_with fail
  refine (HLA.out).mono ?_
  rintro e w2 ⟨gx, os, rfl, ox, le, g2⟩
  have LB := lend_c w2 _ bl (HBH.out.grown0 g2) (by rw [← HM.out]; omega)
  rw [← HM.out] at LB
  have HLB := Lib.hid LB
  have OX := Lib.hid ox
  have LX := Lib.hid le
  have G2 := Lib.hid g2
  clear ox le g2 LB HLA
  go_wp2_with fail
  refine (HLB.out).mono ?_
  rintro e w3 ⟨gy, os2, rfl, oy, le2, g3⟩
  have OY := Lib.hid oy
  have LY := Lib.hid le2
  have G3 := Lib.hid (gb_trans G2.out g3)
  have OX3 := Lib.hid (OX.out.grown0 g3)
  have MT := Lib.hid (MM.out.grown G3.out)
  have GW3 := Lib.hid (gb_trans HGA.out G3.out)
  have HD3 := Lib.hid (HD.out.grown0 GW3.out)
  have BX : Hid (gx ≠ w1.heap.size ∧ gy ≠ w1.heap.size ∧ gx < w3.heap.size ∧ gy < w3.heap.size ∧ w1.heap.size ≤ gx ∧ w1.heap.size ≤ gy) := Lib.hid (by
    have h1 := OX.out.base_le; have h2 := OY.out.base_le; have h3 := HS.out; have h4 := G2.out.size; have h5 := g3.size
    omega)
  have SX := LX.out.sl (by rw [← HN.out]; exact OX3.out)
  have SY := LY.out.sl (by rw [← HM.out]; exact OY.out)
  rw [← HN.out] at SX
  rw [← HM.out] at SY
  clear oy le2 g3 HLB OX MM HAH HBH G2
  by_cases h0 : n = 0 ∨ m = 0
  · have NO := Lib.hid (words_no w3 w1.heap.size _ _ al bl SX SY (by rw [← HN.out, ← HM.out]; exact h0))
    go_wp2_with fail
    refine (NO.out).mono ?_
    rintro e w4 ⟨rfl, g4⟩
    have G4 := Lib.hid (gb_trans GW3.out g4)
    have WK := Lib.hid (fun w => wakes09_c w)
    clear g4 NO SX SY
    rcases h0 with rfl | rfl
    · go_wp2_with fail
      refine (WK.out _).mono ?_
      rintro e w5 ⟨rfl, g5⟩
      go_wp2
      go_ret
      exact ⟨rfl, gb_trans G4.out g5⟩
    · by_cases h1 : n = 0
      · subst h1
        go_wp2_with fail
        refine (WK.out _).mono ?_
        rintro e w5 ⟨rfl, g5⟩
        go_wp2
        go_ret
        exact ⟨rfl, gb_trans G4.out g5⟩
      · have h1' : ¬ (n : Int) = 0 := by omega
        go_wp2_with fail
        refine (WK.out _).mono ?_
        rintro e w5 ⟨rfl, g5⟩
        go_wp2
        go_ret
        exact ⟨rfl, gb_trans G4.out g5⟩
  · have n0 : 0 < n := by omega
    have m0 : 0 < m := by omega
    have n1 : ((n : Int) == 0) = false := by have : ¬ (n : Int) = 0 := by omega
                                             simpa using this
    have m1 : ((m : Int) == 0) = false := by have : ¬ (m : Int) = 0 := by omega
                                             simpa using this
    clear h0
    have CM := words_c w3 w1.heap.size 0 0 0 _ _ al bl MT.out HD3.out (by decide) SX SY (by rw [← HN.out]; exact n0) (by rw [← HM.out]; exact m0) (by rw [← HN.out, ← HM.out]; omega) (off_some BX.out.1) (off_some BX.out.2.1)
    rw [← HN.out, ← HM.out] at CM
    have TC : ∀ w, Calls Tryd.prog 43 #[.int .i64 n, .int .i64 m, .int .i64 3] w fun e w' => e = .returned (.int .i64 (transf n m 3 : Nat)) ∧ w' = w := fun w => transform_cost_c w n m 3 n0 m0 (by decide) (by omega)
    obtain ⟨K, hK⟩ : ∃ K : Int, K = ((transf n m 3 : Nat) : Int) := ⟨_, rfl⟩
    obtain ⟨N, hN⟩ : ∃ N, N = n + m - 1 := ⟨_, rfl⟩
    rw [← hK] at CM TC
    rw [← hN] at CM
    have eN : (n : Int) + (m : Int) - 1 = (N : Int) := by omega
    have bN : N ≤ 48 := by omega
    have HCM := Lib.hid CM
    have HTC := Lib.hid TC
    clear CM TC hK SX SY hN
    go_wp2_with fail
    refine (HCM.out).mono ?_
    rintro e w4 ⟨gl, ts, rfl, ol, jo, m4, hgl, g4⟩
    have OL := Lib.hid ol
    have JO := Lib.hid jo
    have M4 := Lib.hid m4
    have GW4 := Lib.hid (gb_new GW3.out g4 (fun i hi => by cases hi; exact Nat.le_refl _))
    have OX4 := Lib.hid (OX3.out.past g4 BX.out.1)
    have OY4 := Lib.hid (OY.out.past g4 BX.out.2.1)
    clear ol jo m4 hgl g4 HCM OX3 OY MT HGA HD3 HD G3
    have MK := Lib.hid (muls_c w4 w1.heap.size _ 0 0 M4.out)
    have e0 : (0 : Int) + K = K := Int.zero_add K
    go_wp2_with fail
    refine (MK.out).mono ?_
    rintro e w9 ⟨rfl, hw9⟩
    subst hw9
    go_wp2_with fail
    refine (HTC.out _).mono ?_
    rintro e w9 ⟨rfl, hw9⟩
    subst hw9
    clear MK HTC M4
    go_wp2
    go_loopw [10] (fun v10 wr => ∃ k : Nat, v10 = .int .i64 k ∧ k ≤ N ∧ w9.grownBy wr none) (fun v10 _ => N - (intOf v10).toNat)
    case atStart => exact ⟨0, rfl, by omega, gb_refl _ _⟩
    case round =>
      obtain ⟨k, rfl, hk, G⟩ := hrel
      obtain ⟨wk, rfl⟩ : ∃ wo : World, wo = wr := ⟨_, rfl⟩
      have GK := Lib.hid G
      clear G
      by_cases hlt : k < N
      · go_wp2
        go_loopw [11, 12] (fun v11 v12 wr => ∃ i : Nat, v12 = .int .i64 i ∧ i ≤ n ∧ Nm wr v11 (pS al bl k i) (5 + i) ∧ wk.grownBy wr none) (fun _ v12 _ => n - (intOf v12).toNat)
        case atStart => exact ⟨0, rfl, by omega, nm_nil _ _, gb_refl _ _⟩
        case round =>
          obtain ⟨i, rfl, hi, nm, G⟩ := hrel
          have NM := Lib.hid nm
          have GG := Lib.hid (gb_trans GK.out G)
          have GI := Lib.hid G
          clear nm G
          by_cases hin : i < n
          · by_cases hj : i ≤ k ∧ k - i < m
            · obtain ⟨hj1, hj2⟩ := hj
              obtain ⟨j, hj⟩ : ∃ j, j = k - i := ⟨_, rfl⟩
              have ej : (k : Int) - (i : Int) = (j : Int) := by omega
              rw [← hj] at hj2
              obtain ⟨bA, oA, rfl, cA⟩ := ((HA1.out.grown0 GW4.out).grown0 GG.out).at i (by rw [← HN.out]; exact hin)
              obtain ⟨bB, oB, rfl, cB⟩ := ((HB1.out.grown0 GW4.out).grown0 GG.out).at j (by rw [← HM.out]; exact hj2)
              have ps := pS_hit (xs := al) (ys := bl) hj1
              rw [← hj] at ps
              obtain ⟨x, hx⟩ : ∃ x, x = rd al i := ⟨_, rfl⟩
              obtain ⟨y, hy⟩ : ∃ x, x = rd bl j := ⟨_, rfl⟩
              have bx : 0 ≤ x ∧ x < 18446744073709551616 := by rw [hx]; exact rd_w HA1.out.ws i
              have bY : 0 ≤ y ∧ y < 18446744073709551616 := by rw [hy]; exact rd_w HB1.out.ws j
              rw [← hx] at cA ps
              rw [← hy] at cB ps
              have HPS := Lib.hid ps
              have hF : Canon.SF [(⟨bA, oA + i, none⟩, .int .u64 x), (⟨bB, oB + j, none⟩, .int .u64 y)] wr := Canon.sf_cons cA (Canon.sf_cons cB (Canon.sf_nil _))
              have HF := Lib.hid hF
              clear hF ps hx hy hj
              go_wp2
              refine Canon.region_held [99, 104] _ (by kernel_rfl) (by kernel_rfl) HF.out ?_
              refine Canon.segs_at 5 _ _ _ (by kernel_rfl) ?_
              simp only [List.take_succ_cons, List.take_zero, List.drop_succ_cons, List.drop_zero]
              have S1 := Lib.hid (small_c wr.drew x bx.1 bx.2)
              go_wp2_with fail
              refine (S1.out).mono ?_
              rintro e wa ⟨pa, rfl, na, ga⟩
              have cB2 := gb_cell0 ga (gb_cell0 (gb_drew (gb_refl _ none)) cB)
              have NA := Lib.hid na
              have G1 := Lib.hid (gb_trans (gb_drew (gb_refl wr none)) ga)
              have HF1 := Lib.hid (Canon.sf_grown0 HF.out.drew ga)
              clear na ga cA cB S1
              go_wp2
              refine ⟨HF1.out, ?_⟩
              refine Canon.segs_at 4 _ _ _ (by kernel_rfl) ?_
              simp only [List.take_succ_cons, List.take_zero, List.drop_succ_cons, List.drop_zero]
              have S2 := Lib.hid (small_c wa y bY.1 bY.2)
              go_wp2_with fail
              refine (S2.out).mono ?_
              rintro e wb ⟨pb, rfl, nb, gb⟩
              have MU := Lib.hid (mul_c wb pa pb _ _ _ _ (NA.out.grown0 gb) nb (by decide) (by decide))
              have G2 := Lib.hid (gb_trans G1.out gb)
              have HF2 := Lib.hid (Canon.sf_grown0 HF1.out gb)
              clear nb gb cB2 S2 NA
              go_wp2
              refine ⟨HF2.out, ?_⟩
              refine Canon.segs_at 0 _ _ _ (by kernel_rfl) ?_
              simp only [List.take_succ_cons, List.take_zero, List.drop_succ_cons, List.drop_zero]
              go_wp2_with fail
              refine (MU.out).mono ?_
              rintro e wc ⟨pc, rfl, nc, gc⟩
              have AD := Lib.hid (add_c wc _ pc _ _ _ _ (NM.out.grown0 (gb_trans G2.out gc)) nc (by omega) (by decide))
              have G3 := Lib.hid (gb_trans G2.out gc)
              have HF3 := Lib.hid (Canon.sf_grown0 HF2.out gc)
              clear nc gc MU
              go_wp2
              refine ⟨HF3.out, ?_⟩
              refine Canon.segs_at 0 _ _ _ (by kernel_rfl) ?_
              simp only [List.take_succ_cons, List.take_zero, List.drop_succ_cons, List.drop_zero]
              go_wp2_with fail
              refine (AD.out).mono ?_
              rintro e wd ⟨pd, rfl, nd, gd⟩
              rw [← HPS.out] at nd
              have ND := Lib.hid nd
              have G4 := Lib.hid (gb_trans G3.out gd)
              have HF4 := Lib.hid (Canon.sf_grown0 HF3.out gd)
              clear nd gd AD
              go_wp2
              refine ⟨HF4.out, ?_⟩
              refine Canon.segs_end _ _ _ (by kernel_rfl) ?_
              go_wp2
              refine ⟨by kernel_rfl, by kernel_rfl, by kernel_rfl, ?_⟩
              clear HF HF1 HF2 HF3 HF4
              go_wp2
              go_roundw
              case rel => exact ⟨i + 1, by go_num, by omega, ND.out.mono (by omega), gb_trans GI.out G4.out⟩
              case measure => simp [intOf]; omega
            · have ps := pS_miss (xs := al) (ys := bl) (k := k) (i := i) (by rw [← HM.out]; exact hj)
              have HPS := Lib.hid ps
              clear ps
              by_cases hk : i ≤ k
              · have hj' : ¬ k - i < m := fun h => hj ⟨hk, h⟩
                go_wp2
                go_roundw
                case rel => exact ⟨i + 1, by go_num, by omega, by rw [HPS.out]; exact NM.out.mono (by omega), GI.out⟩
                case measure => simp [intOf]; omega
              · clear hj
                go_wp2
                go_roundw
                case rel => exact ⟨i + 1, by go_num, by omega, by rw [HPS.out]; exact NM.out.mono (by omega), GI.out⟩
                case measure => simp [intOf]; omega
          · obtain rfl : i = n := by omega
            have OLR := OL.out.grown0 GG.out
            have c0 := OLR.cell3 k hlt 0 (by decide)
            have c1 := OLR.cell3 k hlt 1 (by decide)
            have c2 := OLR.cell3 k hlt 2 (by decide)
            rw [Nat.add_zero] at c0
            have wt := OLR.2.1
            have et := JO.out.v k hlt
            have ep := pS_all HA1.out.ws HB1.out.ws k
            rw [← HN.out, ← et] at ep
            unfold t3 at ep
            rw [Nat.mul_comm 3 k] at ep
            have b0 := rd_w wt (k * 3)
            have b1 := rd_w wt (k * 3 + 1)
            have b2 := rd_w wt (k * 3 + 2)
            obtain ⟨x0, hx0⟩ : ∃ x, x = rd ts (k * 3) := ⟨_, rfl⟩
            obtain ⟨x1, hx1⟩ : ∃ x, x = rd ts (k * 3 + 1) := ⟨_, rfl⟩
            obtain ⟨x2, hx2⟩ : ∃ x, x = rd ts (k * 3 + 2) := ⟨_, rfl⟩
            rw [← hx0] at c0 ep b0
            rw [← hx1] at c1 ep b1
            rw [← hx2] at c2 ep b2
            have T3 := Lib.hid (three_c wr x0 x1 x2 b0 b1 b2)
            have EP := Lib.hid ep
            clear hx0 hx1 hx2 ep et wt OLR
            go_wp2_with fail
            refine (T3.out).mono ?_
            rintro e wa ⟨pt, rfl, nt, ga⟩
            have nt' : Nm wa pt (pS al bl k i) 6 := by rw [EP.out]; exact nt
            have CC := Lib.hid (cmp_c wa _ pt _ _ _ _ (NM.out.grown0 ga) nt')
            rw [cmpI_self] at CC
            have G1 := Lib.hid (gb_trans GG.out ga)
            clear nt nt' ga c0 c1 c2
            go_wp2_with fail
            refine (CC.out).mono ?_
            rintro e wb ⟨rfl, gb⟩
            go_wp2
            go_roundw
            case rel => exact ⟨k + 1, by go_num, by omega, gb_trans G1.out gb⟩
            case measure => simp [intOf]; omega
      · obtain rfl : k = N := by omega
        have IA := intact_c wk _ gx (.slice A' n ca') al os ((HA1.out.grown0 GW4.out).grown0 GK.out) (by rw [← HN.out]; exact OX4.out.grown0 GK.out) LX.out (by rw [← HN.out]; omega)
        rw [← HN.out] at IA
        have HIA := Lib.hid IA
        clear IA
        go_wp2_with fail
        refine (HIA.out).mono ?_
        rintro e w11 ⟨rfl, g11⟩
        have IB := intact_c w11 _ gy (.slice B' m cb') bl os2 (((HB1.out.grown0 GW4.out).grown0 GK.out).grown0 g11) (by rw [← HM.out]; exact (OY4.out.grown0 GK.out).grown0 g11) LY.out (by rw [← HM.out]; omega)
        rw [← HM.out] at IB
        have HIB := Lib.hid IB
        have GW11 := Lib.hid (gb_trans (gb_trans GW4.out GK.out) g11)
        clear IB g11 HIA
        go_wp2_with fail
        refine (HIB.out).mono ?_
        rintro e w12 ⟨rfl, g12⟩
        have WK := Lib.hid (wakes09_c w12)
        go_wp2_with fail
        refine (WK.out).mono ?_
        rintro e w13 ⟨rfl, g13⟩
        go_wp2
        go_ret
        exact ⟨rfl, gb_trans (gb_trans GW11.out g12) g13⟩
end Go.Proofs.YtoiclkaecgpbbaaDoor
