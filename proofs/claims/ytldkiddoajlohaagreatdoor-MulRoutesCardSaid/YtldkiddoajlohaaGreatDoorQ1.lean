/- Contracts of the program's functions, and plain laws (Mul9, RCost, RSqr, Law12, Eng2, Law12f, Tabs), for every input that their premises let in. -/
import Derived.Test.YtldkiddoajlohaaGreatDoorV5
import Derived.Test.YtldkiddoajlohaaGreatDoorV3
import Derived.Test.YtldkiddoajlohaaGreatDoorV4
import Derived.Test.YtldkiddoajlohaaGreatDoorV1
import Derived.WalkKit
import Derived.Deep.Fields
import Derived.Deep.Matrix
/- Products of rows that may be empty; an engine and its state. -/
namespace Go.Proofs.YtldkiddoajlohaaGreatDoor
open Go.RowKit

theorem Sl.offX {w w' : World} {v : Value} {xs : List Int} {gm : Nat} (h : Sl w v xs) (ho : xs = [] ∨ Off v gm) (g : w.grownBy w' (some gm)) : Sl w' v xs := by
  rcases ho with rfl | ho
  · obtain ⟨A, c, e, h1, h2, h3, _⟩ := h
    exact ⟨A, c, e, h1, h2, h3, fun h => by simp at h⟩
  · exact h.off ho g
theorem Sl.offN {w : World} {v : Value} {xs : List Int} {gm : Nat} (h : Sl w v xs) (hg : w.heap.size ≤ gm) : xs = [] ∨ Off v gm := by
  cases xs with
  | nil => exact .inl rfl
  | cons x xs =>
    right
    obtain ⟨A, c, rfl, h1, h2, h3, h4⟩ := h
    obtain ⟨b, o, rfl, hc⟩ := h4 (by simp)
    have := World.block_lt_of_cell? w _ (hc 0 (by simp))
    exact fun b' hb' => by
      simp only [Value.ownBlock, Option.some.injEq] at hb'
      simp only at this
      omega
theorem Pts.growngX {w w' : World} {v : Value} {n gm : Nat} {V : Nat → Value} {X : Nat → List Int} (h : Pts w v n V X) (ho : Off v gm) (hV : ∀ j, j < n → X j = [] ∨ Off (V j) gm) (g : w.grownBy w' (some gm)) : Pts w' v n V X :=
  ⟨h.c.growng ho g, fun j hj => (h.s j hj).offX (hV j hj) g⟩
set_option maxRecDepth 100000 in
set_option maxHeartbeats 4000000 in
theorem product_all2 {t : Tb} (ht : TbOk t) : ∀ (n : Nat), n ≤ 1000 → ∀ (w : World) (g0 g1 g2 g3 gm : Nat) (a b : Int) (c : Mc) (v : Value) (V : Nat → Value) (X : Nat → List Int), Eng w g0 g1 g2 g3 gm → Db w → Mt w gm a b c → c.T = tbT t → b ≤ 900 → a + (n : Int) * 100000000 ≤ 900000000000000 →
    Pts w v n V X → Off v gm → (∀ j, j < n → X j = [] ∨ Off (V j) gm) → tot X 0 n ≤ 1000 →
    Calls Tryz.prog 16 #[.pointer (some ⟨g0, 0, none⟩), v] w fun e w' => ∃ x c' a', e = .returned x ∧ Wo w' w.heap.size x (prV (fun j => val B64 (X j)) 0 n) ∧ Mt w' gm a' b c' ∧ (a' ≤ a + (n : Int) * 100000000 ∧ (0 < n → a' + 10000000 ≤ a + (n : Int) * 100000000)) ∧ c'.T = tbT t ∧ w.grownBy w' (some gm) := by
  intro n
  induction n using Nat.strongRecOn with
  | _ n ih =>
    intro hn1 w g0 g1 g2 g3 gm a b c v V X he hd hm hT hb ha hp ho hV hl
    have hgm : gm < w.heap.size := World.block_lt_of_cell? w _ hm.c0
    obtain ⟨A, ca, rfl, hca, _, h4⟩ := hp.c
    by_cases n0 : n = 0
    · subst n0
      have ON := Lib.hid (lone_c w 1 (by decide) (by decide))
      have HM := Lib.hid hm
      have HT := Lib.hid hT
      have HH : Hid (a ≤ a + ((0 : Nat) : Int) * 100000000 ∧ (0 < 0 → a + 10000000 ≤ a + ((0 : Nat) : Int) * 100000000)) := Lib.hid (by omega)
      clear ih hp h4 hm hT he hd ha hl hV ho
      go_enter Tryz.func16, Tryz.ntmps16
      go_wp2_with fail
      refine (ON.out).mono ?_
      rintro e w1 ⟨x, rfl, o1, g1'⟩
      have KK := Lib.hid (And.intro o1 g1')
      clear o1 g1' ON
      go_wp2
      go_ret
      exact ⟨x, c, a, rfl, KK.out.1, HM.out.grown KK.out.2, HH.out, HT.out, gb_none KK.out.2 _⟩
    by_cases n1 : n = 1
    · subst n1
      have e1 : tot X 0 1 = (X 0).length := by simp [tot]
      have NO := Lib.hid (lnorm_c w (V 0) (X 0) (hp.s 0 (by decide)) (by omega))
      obtain ⟨bA, oA, rfl, hc⟩ := h4 (by decide)
      have c0 := hc 0 (by decide)
      rw [Nat.add_zero] at c0
      obtain ⟨V0, hV0⟩ : ∃ z, z = V 0 := ⟨_, rfl⟩
      rw [← hV0] at NO c0
      have HM := Lib.hid hm
      have HT := Lib.hid hT
      have HH : Hid (a ≤ a + ((1 : Nat) : Int) * 100000000 ∧ (0 < 1 → a + 10000000 ≤ a + ((1 : Nat) : Int) * 100000000)) := Lib.hid (by omega)
      have HX : Hid (prV (fun j => val B64 (X j)) 0 1 = val B64 (trimZ (X 0))) := Lib.hid (by rw [val_trimZ]; simp [prV])
      clear ih hp h4 hm hT he hd ha hl hV ho hc hV0
      go_enter Tryz.func16, Tryz.ntmps16
      go_wp2_with fail
      refine (NO.out).mono ?_
      rintro e w1 ⟨x, rfl, o1, g1'⟩
      have KK := Lib.hid (And.intro o1 g1')
      clear o1 g1' NO
      go_wp2
      go_ret
      exact ⟨x, c, a, rfl, ⟨_, KK.out.1, trimZ_nz _, HX.out.symm⟩, HM.out.grown KK.out.2, HH.out, HT.out, gb_none KK.out.2 _⟩
    obtain ⟨bA, oA, rfl, _⟩ := h4 (by omega)
    obtain ⟨h, hh⟩ : ∃ h, h = n / 2 := ⟨_, rfl⟩
    have eH : (n : Int) / 2 = (h : Int) := by omega
    have q0 : ((n : Int) == 0) = false := by simp; omega
    have q1 : ((n : Int) == 1) = false := by simp; omega
    have q0' : (n == 0) = false := by simp; omega
    have q1' : (n == 1) = false := by simp; omega
    have hhn : h < n := by omega
    have hp2 := hp.back hhn
    have GD := gb_drew (gb_refl w none)
    have I1 := ih h hhn (by omega) w.drew g0 g1 g2 g3 gm a b c (.slice (some ⟨bA, oA, none⟩) h ca) V X he.drew (hd.grown0 GD) hm.drew hT hb (by omega) ((hp.front (by omega)).grown0 GD) ho (fun j hj => hV j (by omega)) (by have := tot_add X 0 h (n - h); rw [show h + (n - h) = n by omega] at this; omega)
    have I2 := fun (w1 : World) (G : w.grownBy w1 (some gm)) (a1 : Int) (c1 : Mc) (m1 : Mt w1 gm a1 b c1) (h1 : c1.T = tbT t) (ha1 : a1 ≤ a + (h : Int) * 100000000 ∧ (0 < h → a1 + 10000000 ≤ a + (h : Int) * 100000000)) => ih (n - h) (by omega) (by omega) w1 g0 g1 g2 g3 gm a1 b c1 (.slice (some ⟨bA, oA + h, none⟩) (n - h) (ca - h)) (fun j => V (h + j)) (fun j => X (h + j)) (he.grown G) (hd.grown hm G) m1 h1 hb (by omega) (hp2.growngX (fun b' hb' => ho b' hb') (fun j hj => hV (h + j) (by omega)) G) (fun b' hb' => ho b' hb') (fun j hj => hV (h + j) (by omega)) (by rw [tot_shift]; have := tot_add X 0 h (n - h); rw [show h + (n - h) = n by omega] at this; rw [Nat.zero_add] at this; omega)
    have PV : prV (fun j => val B64 (X j)) 0 n = prV (fun j => val B64 (X j)) 0 h * prV (fun j => val B64 (X j)) h (n - h) := by
      have := prV_add (fun j => val B64 (X j)) 0 h (n - h)
      rw [show h + (n - h) = n by omega, Nat.zero_add] at this
      exact this
    have L1 := prV_lt (X := X) (i := 0) h (fun j hj => by rw [Nat.zero_add]; exact (hp.s j (by omega)).ws) (by omega)
    have L2 := prV_lt (X := X) (i := h) (n - h) (fun j hj => (hp.s (h + j) (by omega)).ws) (by omega)
    have TT := tot_add X 0 h (n - h)
    rw [show h + (n - h) = n by omega, Nat.zero_add] at TT
    obtain ⟨T1, hT1⟩ : ∃ T, T = tot X 0 h := ⟨_, rfl⟩
    obtain ⟨T2, hT2⟩ : ∃ T, T = tot X h (n - h) := ⟨_, rfl⟩
    rw [← hT1, ← hT2] at TT
    rw [← hT1] at L1
    rw [← hT2] at L2
    have b12 : T1 + T2 ≤ 1000 := by omega
    have SH := prV_shift (fun j => val B64 (X j)) h (n - h)
    rw [PV]
    obtain ⟨P1, hP1⟩ : ∃ P, P = prV (fun j => val B64 (X j)) 0 h := ⟨_, rfl⟩
    obtain ⟨P2, hP2⟩ : ∃ P, P = prV (fun j => val B64 (X j)) h (n - h) := ⟨_, rfl⟩
    rw [← hP2] at SH
    simp only [SH] at I2
    rw [← hP1] at I1 L1
    rw [← hP2] at L2
    rw [← hP1, ← hP2]
    have HL := Lib.hid (And.intro L1 L2)
    have HI1 := Lib.hid I1
    have HI2 := Lib.hid I2
    have HGM := Lib.hid hgm
    have HE := Lib.hid he
    have HD := Lib.hid hd
    have HM := Lib.hid hm
    have HB := Lib.hid hb
    have HA := Lib.hid ha
    have HN : Hid (h < n ∧ 1 ≤ h) := Lib.hid (by omega)
    clear ih hp hp2 hm he hd ho hV hl I1 I2 PV L1 L2 TT SH hT1 hT2 hP1 hP2 h4 hgm hb ha hh hT
    go_enter Tryz.func16, Tryz.ntmps16
    go_wp2_with fail
    refine Canon.region_canon (by kernel_rfl) (by kernel_rfl) ?_
    go_wp2_with fail
    refine (HI1.out).mono ?_
    rintro e w1 ⟨x1, c1, a1, rfl, o1, m1, ha1, t1, g1'⟩
    have G1 := Lib.hid (gb_trans (gb_none (gb_drew (gb_refl w none)) (some gm)) g1')
    have O1 : Hid (Wo w1 w.heap.size x1 P1) := Lib.hid o1
    have A1 := Lib.hid ha1
    have HI3 := Lib.hid (HI2.out w1 G1.out a1 c1 m1 t1 ha1)
    clear o1 m1 ha1 t1 g1' HI1 HI2
    go_wp2_with fail
    refine (HI3.out).mono ?_
    rintro e w2 ⟨x2, c2, a2, rfl, o2, m2, ha2, t2, g2'⟩
    have BG : Hid (gm < w1.heap.size) := Lib.hid (Nat.lt_of_lt_of_le HGM.out G1.out.size)
    have O1' := Lib.hid (O1.out.past HGM.out g2')
    have O2 := Lib.hid o2
    have A2 := Lib.hid ha2
    have G2 := Lib.hid (gb_trans G1.out g2')
    obtain ⟨z1, s1, l1, v1⟩ := O1'.out.get HL.out.1
    obtain ⟨z2, s2, l2, v2⟩ := O2.out.get HL.out.2
    have r1 := trimZ_len z1
    have r2 := trimZ_len z2
    have N1 := mulE_c ht w2 g0 g1 g2 g3 gm a2 b c2 x1 x2 z1 z2 (HE.out.grown G2.out) (HD.out.grown HM.out G2.out) m2 t2 HB.out (by
      have h1 := A1.out
      have h2 := A2.out
      have h3 := HA.out
      have h4 := HN.out
      omega) s1 s2 (O1'.out.off HGM.out) (O2.out.off BG.out) (by omega)
    rw [v1, v2] at N1
    have KC := cost_lim ht (n := (trimZ z1).length) (m := (trimZ z2).length) (by omega)
    obtain ⟨k, hk⟩ : ∃ k, k = cost t (trimZ z1).length (trimZ z2).length := ⟨_, rfl⟩
    rw [← hk] at N1 KC
    have HN1 := Lib.hid N1
    have HKC := Lib.hid KC
    clear N1 KC hk s1 l1 v1 s2 l2 v2 r1 r2 o2 m2 ha2 t2 g2' HI3
    go_wp2_with fail
    refine (HN1.out).mono ?_
    rintro e w3 ⟨x, c3, rfl, o3, m3, cc, g3'⟩
    have KK : Hid (Wo w3 w.heap.size x (P1 * P2) ∧ Mt w3 gm (a2 + (k : Int)) b c3 ∧ (a2 + (k : Int) ≤ a + (n : Int) * 100000000 ∧ (0 < n → a2 + (k : Int) + 10000000 ≤ a + (n : Int) * 100000000)) ∧ c3.T = tbT t ∧ w.grownBy w3 (some gm)) := Lib.hid ⟨o3.mono G2.out.size, m3, (by
      have h1 := A1.out
      have h2 := A2.out
      have h4 := HN.out
      have h5 := HKC.out
      have h6 : ((n - h : Nat) : Int) = (n : Int) - (h : Int) := by omega
      rw [h6] at h2
      omega), cc.1, gb_trans G2.out g3'⟩
    clear o3 m3 cc g3' HN1 O1 O1' O2 A1 A2
    go_wp2
    refine ⟨by kernel_rfl, ?_⟩
    go_wp2
    go_ret
    exact ⟨x, c3, _, rfl, KK.out⟩
theorem trimZ_nil : trimZ [] = [] := rfl
/-- A product of rows, noughts on top or not, empty or not. -/
theorem mulX_c {t : Tb} (ht : TbOk t) (w : World) (g0 g1 g2 g3 gm : Nat) (a b : Int) (c : Mc) (va vb : Value) (al bl : List Int) (he : Eng w g0 g1 g2 g3 gm) (hd : Db w)
    (hm : Mt w gm a b c) (hT : c.T = tbT t) (hb : b ≤ 900) (ha0 : a ≤ 900000000000000) (ha : Sl w va al) (hb' : Sl w vb bl) (hna : al = [] ∨ Off va gm) (hnb : bl = [] ∨ Off vb gm) (hl : (trimZ al).length + (trimZ bl).length ≤ 1024) :
    Calls Tryz.prog 20 #[.pointer (some ⟨g0, 0, none⟩), va, vb] w fun e w' => ∃ x c', e = .returned x ∧ Got w gm a b c (tbT t) (cost t (trimZ al).length (trimZ bl).length) ((lev (max (trimZ al).length (trimZ bl).length) : Nat) : Int) (val B64 al * val B64 bl) w' x c' := by
  by_cases hoo : Off va gm ∧ Off vb gm
  · exact mulE_c ht w g0 g1 g2 g3 gm a b c va vb al bl he hd hm hT hb ha0 ha hb' hoo.1 hoo.2 hl
  have hz : al = [] ∨ bl = [] := by
    rcases hna with h | h
    · exact .inl h
    · rcases hnb with h' | h'
      · exact .inr h'
      · exact absurd ⟨h, h'⟩ hoo
  have hmin : min (trimZ al).length (trimZ bl).length = 0 := by
    rcases hz with h | h <;> subst h
    · show min ([] : List Int).length _ = 0; simp
    · show min _ ([] : List Int).length = 0; simp
  obtain ⟨A, ca, rfl, hca, _⟩ := ha.form
  obtain ⟨B, cb, rfl, hcb, _⟩ := hb'.form
  have W1 := Lib.hid (mwords_c w _ _ _ _ ha)
  have W2 := Lib.hid (mwords_c w _ _ _ _ hb')
  have sa := ha.take (trimZ al).length (trimZ_len al)
  have sb := hb'.take (trimZ bl).length (trimZ_len bl)
  rw [take_trimZ_len] at sa sb
  have l1 := trimZ_len al
  have l2 := trimZ_len bl
  have r0 : rt t (max (trimZ al).length (trimZ bl).length) (min (trimZ al).length (trimZ bl).length) = 0 := by unfold rt; rw [if_pos hmin]
  have T := times_go w g0 g1 g2 g3 gm a b c t _ _ (trimZ al) (trimZ bl) 0 (cost t (trimZ al).length (trimZ bl).length) ((lev (max (trimZ al).length (trimZ bl).length) : Nat) : Int) (val B64 al * val B64 bl) he hm hT ht sa sb (by omega) (by omega) r0 (by
    intro W1 G1
    refine (gone0_c W1 g0 _ _ _ _ (sa.grown0 G1) (sb.grown0 G1)).mono ?_
    rintro e w' ⟨rfl, rfl⟩
    have c0 : cost t (trimZ al).length (trimZ bl).length = 0 := by rw [cost_mm]; exact cost_0 (by omega) r0
    refine ⟨.slice none 0 0, c, rfl, ⟨[], own_nil _ _, nz_nil, ?_⟩, ?_, ⟨hT, Int.le_refl _, .inl (Int.le_refl _)⟩, gb_refl _ _⟩
    · rcases hz with h | h <;> subst h <;> simp [val]
    · rw [c0, show a + ((0 : Nat) : Int) = a by omega]; exact hm.grown G1)
  have HT := Lib.hid T
  obtain ⟨n, hn⟩ : ∃ n, n = al.length := ⟨_, rfl⟩
  obtain ⟨m, hm'⟩ : ∃ m, m = bl.length := ⟨_, rfl⟩
  rw [← hn] at W1 hca ⊢
  rw [← hm'] at W2 hcb ⊢
  obtain ⟨p, hp⟩ : ∃ p, p = (trimZ al).length := ⟨_, rfl⟩
  obtain ⟨q, hq⟩ : ∃ p, p = (trimZ bl).length := ⟨_, rfl⟩
  rw [← hp] at W1 HT
  rw [← hq] at W2 HT
  rw [← hp, ← hq]
  have hpn : p ≤ n := by rw [hp, hn]; exact trimZ_len _
  have hqm : q ≤ m := by rw [hq, hm']; exact trimZ_len _
  clear hn hm' hp hq T sa sb ha hb' hna hnb hm he hd l1 l2 hz hmin r0 hoo
  go_enter Tryz.func20, Tryz.ntmps20
  go_wp2_with fail
  refine (W1.out).mono ?_
  rintro e w1 ⟨rfl, hw⟩
  subst hw
  go_wp2_with fail
  refine (W2.out).mono ?_
  rintro e w2 ⟨rfl, hw⟩
  subst hw
  go_wp2_with fail
  refine (HT.out).mono ?_
  rintro e w3 ⟨x, c', rfl, k⟩
  have KK := Lib.hid k
  clear k HT W1 W2
  go_wp2
  go_ret
  exact ⟨x, c', rfl, KK.out⟩
theorem sqrX_c {t : Tb} (ht : TbOk t) (w : World) (g0 g1 g2 g3 gm : Nat) (a b : Int) (c : Mc) (va : Value) (al : List Int) (he : Eng w g0 g1 g2 g3 gm) (hd : Db w)
    (hm : Mt w gm a b c) (hT : c.T = tbT t) (hb : b ≤ 900) (ha0 : a ≤ 900000000000000) (ha : Sl w va al) (hna : al = [] ∨ Off va gm) (hl : (trimZ al).length ≤ 512) :
    Calls Tryz.prog 35 #[.pointer (some ⟨g0, 0, none⟩), va] w fun e w' => ∃ x c', e = .returned x ∧ Got w gm a b c (tbT t) (sq t (trimZ al).length) ((lev (trimZ al).length : Nat) : Int) (val B64 al * val B64 al) w' x c' := by
  rcases hna with rfl | ho
  · obtain ⟨A, ca, rfl, hca, _⟩ := ha.form
    have W1 := Lib.hid (mwords_c w _ _ _ _ ha)
    have sa := ha.take (trimZ []).length (trimZ_len [])
    have r0 : rt t ([] : List Int).length ([] : List Int).length = 0 := by unfold rt; simp
    have sa' : Sl w (.slice A 0 ca) [] := sa
    have G0 : ∀ W1, w.grownBy W1 none → Calls Tryz.prog 45 #[.pointer (some ⟨g0, 0, none⟩), .slice A 0 ca, .slice A 0 ca] W1 fun e w' => ∃ x c', e = .returned x ∧ Got W1 gm a b c (tbT t) 0 0 0 w' x c' := fun W1 G1 =>
      times_go W1 g0 g1 g2 g3 gm a b c t _ _ [] [] 0 0 0 0 (he.grown0 G1) (hm.grown G1) hT ht (sa'.grown0 G1) (sa'.grown0 G1) (by decide) (by decide) (by unfold rt; simp) (by
        intro W2 G2
        refine (gone0_c W2 g0 _ _ _ _ ((sa'.grown0 G1).grown0 G2) ((sa'.grown0 G1).grown0 G2)).mono ?_
        rintro e w' ⟨rfl, rfl⟩
        refine ⟨.slice none 0 0, c, rfl, ⟨[], own_nil _ _, nz_nil, rfl⟩, ?_, ⟨hT, Int.le_refl _, .inl (Int.le_refl _)⟩, gb_refl _ _⟩
        rw [show a + ((0 : Nat) : Int) = a by omega]; exact (hm.grown G1).grown G2)
    have HT := Lib.hid (square_0 w g0 g1 g2 g3 gm a b c t (.slice A 0 ca) [] 0 0 0 he hm hT ht sa' (by decide) r0 G0)
    have HS : Hid (sq t (trimZ []).length = 0) := Lib.hid (sq_0 (by unfold rt; simp [trimZ_nil]))
    rw [HS.out]
    have hv : val B64 [] * val B64 [] = 0 := rfl
    rw [hv]
    have W1' : Hid (Calls Tryz.prog 46 #[.slice A 0 ca] w fun e w' => e = .returned (.slice A 0 ca) ∧ w' = w) := W1
    have HL : Hid ((0 : Int) ≤ ((lev (trimZ []).length : Nat) : Int)) := Lib.hid (by omega)
    clear W1 sa sa' r0 G0 ha hm he hd hv
    go_enter Tryz.func35, Tryz.ntmps35
    go_wp2_with fail
    refine (W1'.out).mono ?_
    rintro e w1 ⟨rfl, hw⟩
    subst hw
    go_wp2_with fail
    refine (HT.out).mono ?_
    rintro e w3 ⟨x, c', rfl, k⟩
    have KK := Lib.hid (k.mono HL.out)
    clear k HT W1'
    go_wp2
    go_ret
    exact ⟨x, c', rfl, KK.out⟩
  · exact sqrE_c ht w g0 g1 g2 g3 gm a b c va al he hd hm hT hb ha0 ha ho hl
/-- An engine, and what it has spent. -/
structure En (w : World) (u : Tb) (g0 g1 g2 g3 gm : Nat) (a : Int) (c : Mc) : Prop where
  e : Eng w g0 g1 g2 g3 gm
  m : Mt w gm a 0 c
  t : c.T = tbT u
theorem En.grown0 {w w' : World} {u : Tb} {g0 g1 g2 g3 gm : Nat} {a : Int} {c : Mc} (h : En w u g0 g1 g2 g3 gm a c) (g : w.grownBy w' none) : En w' u g0 g1 g2 g3 gm a c := ⟨h.e.grown0 g, h.m.grown g, h.t⟩
theorem En.drew {w : World} {u : Tb} {g0 g1 g2 g3 gm : Nat} {a : Int} {c : Mc} (h : En w u g0 g1 g2 g3 gm a c) : En w.drew u g0 g1 g2 g3 gm a c := h.grown0 (gb_drew (gb_refl _ none))
theorem En.other {w w' : World} {u v : Tb} {g0 g1 g2 g3 gm k0 k1 k2 k3 km : Nat} {a a' : Int} {c c' : Mc} (h : En w u g0 g1 g2 g3 gm a c) (k : En w v k0 k1 k2 k3 km a' c') (hne : gm ≠ km) (g : w.grownBy w' (some km)) : En w' u g0 g1 g2 g3 gm a c :=
  ⟨⟨gb_cell g h.e.h0 (by have := Md.ptr_ne h.e.h0 k.m; simpa using this), gb_cell g h.e.h1 (by have := Md.ptr_ne h.e.h1 k.m; simpa using this), gb_cell g h.e.h2 (by have := Md.ptr_ne h.e.h2 k.m; simpa using this), gb_cell g h.e.h3 (by have := Md.ptr_ne h.e.h3 k.m; simpa using this), h.e.n0, h.e.n1, h.e.n2, h.e.n3⟩,
    h.m.rowo g (by simpa using hne), h.t⟩
theorem En.lt {w : World} {u : Tb} {g0 g1 g2 g3 gm : Nat} {a : Int} {c : Mc} (h : En w u g0 g1 g2 g3 gm a c) : gm < w.heap.size := World.block_lt_of_cell? w _ h.m.c0
theorem En.mul {u : Tb} (hu : TbOk u) {w : World} {g0 g1 g2 g3 gm : Nat} {a : Int} {c : Mc} (h : En w u g0 g1 g2 g3 gm a c) (hd : Db w) (ha0 : a ≤ 900000000000000) {va vb : Value} {al bl : List Int} (ha : Sl w va al) (hb : Sl w vb bl) (hna : al = [] ∨ Off va gm) (hnb : bl = [] ∨ Off vb gm) (hl : al.length + bl.length ≤ 1024) :
    Calls Tryz.prog 20 #[.pointer (some ⟨g0, 0, none⟩), va, vb] w fun e w' => ∃ x c', e = .returned x ∧ Wo w' w.heap.size x (val B64 al * val B64 bl) ∧ En w' u g0 g1 g2 g3 gm (a + ((cost u (trimZ al).length (trimZ bl).length : Nat) : Int)) c' ∧ w.grownBy w' (some gm) :=
  (mulX_c hu w g0 g1 g2 g3 gm a 0 c va vb al bl h.e hd h.m h.t (by decide) ha0 ha hb hna hnb (by have := trimZ_len al; have := trimZ_len bl; omega)).mono fun _ _ ⟨x, c', e1, k⟩ => ⟨x, c', e1, k.1, ⟨h.e.grown k.2.2.2, k.2.1, k.2.2.1.1⟩, k.2.2.2⟩
theorem En.sqr {u : Tb} (hu : TbOk u) {w : World} {g0 g1 g2 g3 gm : Nat} {a : Int} {c : Mc} (h : En w u g0 g1 g2 g3 gm a c) (hd : Db w) (ha0 : a ≤ 900000000000000) {va : Value} {al : List Int} (ha : Sl w va al) (hna : al = [] ∨ Off va gm) (hl : al.length ≤ 512) :
    Calls Tryz.prog 35 #[.pointer (some ⟨g0, 0, none⟩), va] w fun e w' => ∃ x c', e = .returned x ∧ Wo w' w.heap.size x (val B64 al * val B64 al) ∧ En w' u g0 g1 g2 g3 gm (a + ((sq u (trimZ al).length : Nat) : Int)) c' ∧ w.grownBy w' (some gm) :=
  (sqrX_c hu w g0 g1 g2 g3 gm a 0 c va al h.e hd h.m h.t (by decide) ha0 ha hna (by have := trimZ_len al; omega)).mono fun _ _ ⟨x, c', e1, k⟩ => ⟨x, c', e1, k.1, ⟨h.e.grown k.2.2.2, k.2.1, k.2.2.1.1⟩, k.2.2.2⟩
theorem En.new (w : World) (t : Tb) : Calls Tryz.prog 12 #[t.v] w fun e w' => ∃ g0 g1 g2 g3 gm, e = .returned (.pointer (some ⟨g0, 0, none⟩)) ∧ En w' t.clamp g0 g1 g2 g3 gm 0 ⟨0, tbT t.clamp⟩ ∧ w.heap.size ≤ gm ∧ w.grownBy w' none :=
  (mulNew_c w t).mono fun _ _ ⟨g0, g1, g2, g3, gm, e1, e2, e3, e4, e5⟩ => ⟨g0, g1, g2, g3, gm, e1, ⟨e2, e4, rfl⟩, e3, e5⟩
theorem Wo.same {w w' : World} {b b' n : Nat} {u v : Value} (h : Wo w b u n) (k : Wo w' b' v n) : ∃ zs, Sl w u zs ∧ Sl w' v zs ∧ Nz zs ∧ val B64 zs = n := by
  obtain ⟨zs, ow, nz, hv⟩ := h
  obtain ⟨ys, ow', nz', hv'⟩ := k
  obtain rfl := dg_ext (B := B64) (by decide) ow.ws.dg ow'.ws.dg nz nz' (hv.trans hv'.symm)
  exact ⟨zs, ow.sl, ow'.sl, nz, hv⟩
end Go.Proofs.YtldkiddoajlohaaGreatDoor

/- The reference's costs. -/
namespace Go.Proofs.YtldkiddoajlohaaGreatDoor
open Go.RowKit

theorem blen_eq {x l : Nat} (h1 : x < 2 ^ l) (h2 : l = 0 ∨ 2 ^ (l - 1) ≤ x) : blen x = l := by
  have a := blen_le x l h1
  rcases h2 with rfl | h2
  · omega
  · rcases Nat.lt_or_ge (blen x) l with h | h
    · have b := blen_lt x
      have c := Nat.pow_le_pow_right (n := 2) (by decide) (show blen x ≤ l - 1 by omega)
      omega
    · omega
set_option maxRecDepth 100000 in
theorem rtransf_c (w : World) (n m k : Nat) (hn : 0 < n) (hm : 0 < m) (hk : k ≤ 3) (h : n + m ≤ 1024) : Calls Tryz.prog 50 #[.int .i64 n, .int .i64 m, .int .i64 k] w fun e w' => e = .returned (.int .i64 (transf n m k : Nat)) ∧ w.grownBy w' none := by
  obtain ⟨s, hs⟩ : ∃ s, s = n + m := ⟨_, rfl⟩
  have es : (n : Int) + (m : Int) = (s : Int) := by omega
  have p1 : ((n : Int) < 1) = False := by simp; omega
  have p2 : ((m : Int) < 1) = False := by simp; omega
  have p3 : ((16384 : Int) < (n : Int)) = False := by simp; omega
  have p4 : ((16384 : Int) < (m : Int)) = False := by simp; omega
  have p5 : ((3 : Int) < (k : Int)) = False := by simp; omega
  have HS := Lib.hid hs
  have hs2 : 2 ≤ s ∧ s ≤ 1024 := by omega
  obtain ⟨T, hT⟩ : ∃ T, T = transf n m k := ⟨_, rfl⟩
  rw [← hT]
  have HT := Lib.hid hT
  clear hs hT
  go_enter Tryz.func50, Tryz.ntmps50
  go_wp2
  go_loopw [7, 8] (fun v7 v8 wr => ∃ (S l : Nat), v7 = .int .i64 S ∧ v8 = .int .i64 l ∧ S = 2 ^ l ∧ (l = 0 ∨ 2 ^ (l - 1) < s) ∧ S ≤ 2048 ∧ l ≤ 11 ∧ 1 ≤ S ∧ w.grownBy wr none) (fun v7 _ _ => s - (intOf v7).toNat)
  case atStart => exact ⟨1, 0, rfl, rfl, rfl, .inl rfl, by decide, by decide, by decide, gb_refl _ _⟩
  case round =>
    obtain ⟨S, l, rfl, rfl, hS, hl, hS2, hl2, hS1, G⟩ := hrel
    have HP := Lib.hid (And.intro hS hl)
    have GG := Lib.hid G
    clear hS hl G
    by_cases hlt : S < s
    · obtain ⟨S2, h2⟩ : ∃ z, z = 2 * S := ⟨_, rfl⟩
      have e2 : 2 * (S : Int) = (S2 : Int) := by omega
      have HS2 := Lib.hid h2
      clear h2
      go_wp2
      go_roundw
      case rel =>
        have e1 := HP.out.1
        have e3 := HS2.out
        have l10 : l ≤ 10 := by
          rcases Nat.lt_or_ge l 11 with h | h
          · omega
          · have := Nat.pow_le_pow_right (n := 2) (by decide) h
            omega
        exact ⟨S2, l + 1, rfl, by go_num, by rw [Nat.pow_succ]; omega, .inr (by rw [Nat.add_sub_cancel]; omega), by omega, by omega, by omega, GG.out⟩
      case measure => have e3 := HS2.out; simp [intOf]; omega
    · have HL : Hid (blen (n + m - 1) = l) := Lib.hid (blen_eq (by have := HP.out.1; have := HS.out; omega) (by
        rcases HP.out.2 with h | h
        · exact .inl h
        · right; have := HS.out; omega))
      obtain ⟨H, hH⟩ : ∃ H : Nat, H = S / 2 := ⟨_, rfl⟩
      have eH : (S : Int) / 2 = (H : Int) := by omega
      have k1 : k * H ≤ 3 * 1024 := Nat.mul_le_mul hk (by omega)
      obtain ⟨P, hP⟩ : ∃ P : Nat, P = k * H := ⟨_, rfl⟩
      have eP : (k : Int) * (H : Int) = (P : Int) := by rw [hP, Int.natCast_mul]
      have k2 : P * l ≤ 3072 * 11 := Nat.mul_le_mul (by omega) hl2
      obtain ⟨Q, hQ⟩ : ∃ Q : Nat, Q = P * l := ⟨_, rfl⟩
      have eQ : (P : Int) * (l : Int) = (Q : Int) := by rw [hQ, Int.natCast_mul]
      have etr : (T : Int) = 3 * ((Q : Int) + 2 * (S : Int)) + 6 * (S : Int) := by
        rw [HT.out]
        unfold transf
        rw [HL.out, ← HP.out.1, ← hH, ← hP, ← hQ]; omega
      have bQ : Q ≤ 33792 := by omega
      have bP : P ≤ 3072 := by omega
      have HE := Lib.hid etr
      clear hH hP hQ etr k1 k2
      go_wp2
      go_ret
      exact ⟨by rw [HE.out]; rfl, GG.out⟩
set_option maxRecDepth 100000 in
set_option maxHeartbeats 8000000 in
theorem rcost_all (t : Tb) : ∀ (s n m : Nat), n + m ≤ s → s ≤ 1024 → ∀ (w : World), Calls Tryz.prog 25 #[t.v, .int .i64 n, .int .i64 m] w fun e w' => e = .returned (.int .i64 (cost t.clamp n m)) ∧ w.grownBy w' none := by
  intro s
  induction s using Nat.strongRecOn with
  | _ s ih =>
    intro n m hnm hs w
    have IH : ∀ p q, p + q < n + m → ∀ (w : World), Calls Tryz.prog 25 #[t.v, .int .i64 p, .int .i64 q] w fun e w' => e = .returned (.int .i64 (cost t.clamp p q)) ∧ w.grownBy w' none := fun p q h => ih (p + q) (by omega) p q (Nat.le_refl _) (by omega)
    clear ih
    rcases Nat.lt_or_ge n m with hlt | hMN
    · have hMN : n ≤ m := Nat.le_of_lt hlt
      rw [cost_comm]
      have HR := Lib.hid (fun w => rroute_c w t m n (by omega) (by omega))
      rw [Nat.max_eq_left hMN, Nat.min_eq_right hMN] at HR
      have hcase : rt t.clamp m n = 0 ∨ rt t.clamp m n = 1 ∨ rt t.clamp m n = 2 ∨ rt t.clamp m n = 3 ∨ rt t.clamp m n = 4 ∨ rt t.clamp m n = 5 := by have := rt_le t.clamp m n; omega
      obtain ⟨K, hK⟩ : ∃ K, K = cost t.clamp m n := ⟨_, rfl⟩
      have bK : K ≤ 10000000 := by rw [hK]; exact cost_lim t.clamp_ok (by omega)
      rw [← hK]
      rcases hcase with cc | cc | cc | cc | cc | cc
      · rw [cc] at HR
        rw [cost_0 hMN cc] at hK
        subst hK
        clear cc IH
        have C0 := cs_new w #[.int .i64 t.eb, .int .i64 t.et, .int .i64 t.en, .int .i64 t.ed, .int .i64 t.er, .int .i64 t.el, .int .i64 t.ex, .int .i64 t.ep, .int .i64 t.ek, .int .i64 t.es, .int .i64 t.ee] 23
        have hg := gb_alloc (gb_refl w none) (Obj.cells #[.int .i64 t.eb, .int .i64 t.et, .int .i64 t.en, .int .i64 t.ed, .int .i64 t.er, .int .i64 t.el, .int .i64 t.ex, .int .i64 t.ep, .int .i64 t.ek, .int .i64 t.es, .int .i64 t.ee] 23)
        have HG := Lib.hid hg
        have HC0 := Lib.hid C0
        clear C0 hg
        go_enter Tryz.func25, Tryz.ntmps25
        have c0 := HC0.out.cell 0 rfl
        have c1 := HC0.out.cell 1 rfl
        have c2 := HC0.out.cell 2 rfl
        have c3 := HC0.out.cell 3 rfl
        have c4 := HC0.out.cell 4 rfl
        have c5 := HC0.out.cell 5 rfl
        have c6 := HC0.out.cell 6 rfl
        have c7 := HC0.out.cell 7 rfl
        have c8 := HC0.out.cell 8 rfl
        have c9 := HC0.out.cell 9 rfl
        have c10 := HC0.out.cell 10 rfl
        go_wp2_with fail
        refine (HR.out _).mono ?_
        rintro e w2 ⟨rfl, g2⟩
        have HC2 := Lib.hid (HC0.out.grown0 g2)
        have G2 := Lib.hid (gb_trans HG.out g2)
        clear c0 c1 c2 c3 c4 c5 c6 c7 c8 c9 c10 HC0 g2 HG HR
        go_wp2
        go_ret
        exact ⟨rfl, G2.out⟩
      · rw [cc] at HR
        rw [cost_1 hMN cc] at hK
        have eK : (m : Int) * (n : Int) = (K : Int) := by rw [hK, Int.natCast_mul]
        clear cc IH hK
        have C0 := cs_new w #[.int .i64 t.eb, .int .i64 t.et, .int .i64 t.en, .int .i64 t.ed, .int .i64 t.er, .int .i64 t.el, .int .i64 t.ex, .int .i64 t.ep, .int .i64 t.ek, .int .i64 t.es, .int .i64 t.ee] 23
        have hg := gb_alloc (gb_refl w none) (Obj.cells #[.int .i64 t.eb, .int .i64 t.et, .int .i64 t.en, .int .i64 t.ed, .int .i64 t.er, .int .i64 t.el, .int .i64 t.ex, .int .i64 t.ep, .int .i64 t.ek, .int .i64 t.es, .int .i64 t.ee] 23)
        have HG := Lib.hid hg
        have HC0 := Lib.hid C0
        clear C0 hg
        go_enter Tryz.func25, Tryz.ntmps25
        have c0 := HC0.out.cell 0 rfl
        have c1 := HC0.out.cell 1 rfl
        have c2 := HC0.out.cell 2 rfl
        have c3 := HC0.out.cell 3 rfl
        have c4 := HC0.out.cell 4 rfl
        have c5 := HC0.out.cell 5 rfl
        have c6 := HC0.out.cell 6 rfl
        have c7 := HC0.out.cell 7 rfl
        have c8 := HC0.out.cell 8 rfl
        have c9 := HC0.out.cell 9 rfl
        have c10 := HC0.out.cell 10 rfl
        go_wp2_with fail
        refine (HR.out _).mono ?_
        rintro e w2 ⟨rfl, g2⟩
        have HC2 := Lib.hid (HC0.out.grown0 g2)
        have G2 := Lib.hid (gb_trans HG.out g2)
        clear c0 c1 c2 c3 c4 c5 c6 c7 c8 c9 c10 HC0 g2 HG HR
        go_wp2
        go_ret
        exact ⟨rfl, G2.out⟩
      · have q := rt_2 cc
        have b4 := t.clamp_ok.eb.1
        have lt := Nat.mod_lt m q.1
        rw [cc] at HR
        rw [cost_2 t.clamp_ok hMN cc] at hK
        have HI1 := Lib.hid (fun w => IH n n (by omega) w)
        have HI2 := Lib.hid (fun w => IH n (m % n) (by omega) w)
        rw [cost_comm t.clamp n (m % n)] at HI2
        obtain ⟨k1, hk1⟩ : ∃ k, k = cost t.clamp n n := ⟨_, rfl⟩
        obtain ⟨k2, hk2⟩ : ∃ k, k = cost t.clamp (m % n) n := ⟨_, rfl⟩
        rw [← hk1, ← hk2] at hK
        rw [← hk1] at HI1
        rw [← hk2] at HI2
        obtain ⟨D, hD⟩ : ∃ D, D = m / n := ⟨_, rfl⟩
        obtain ⟨R, hRR⟩ : ∃ D, D = m % n := ⟨_, rfl⟩
        obtain ⟨J, hJ⟩ : ∃ J, J = D * k1 := ⟨_, rfl⟩
        unfold pall at hK
        rw [← hD, ← hRR, ← hJ] at hK
        rw [← hRR] at HI2
        have eD : (m : Int) / (n : Int) = (D : Int) := by rw [hD]; exact (Int.natCast_ediv _ _).symm
        have eD2 : (m : Int).tdiv (n : Int) = (D : Int) := by rw [Int.tdiv_eq_ediv_of_nonneg (by omega)]; exact eD
        have eR : (m : Int) % (n : Int) = (R : Int) := by rw [hRR]; exact (Int.natCast_emod _ _).symm
        have eR2 : (m : Int).tmod (n : Int) = (R : Int) := by rw [Int.tmod_eq_emod_of_nonneg (by omega)]; exact eR
        have m0 : ((n : Int) == 0) = false := by
          have : ¬ (n : Int) = 0 := by omega
          simpa using this
        have eJ : (D : Int) * (k1 : Int) = (J : Int) := by rw [hJ, Int.natCast_mul]
        have bJ : J ≤ 10000000 := by omega
        have bD : D ≤ 1024 := by rw [hD]; exact Nat.le_trans (Nat.div_le_self _ _) (by omega)
        have bR : R ≤ 1024 := by omega
        have bk1 : k1 ≤ 10000000 := by rw [hk1]; exact cost_lim t.clamp_ok (by omega)
        have bk2 : k2 ≤ 10000000 := by rw [hk2]; exact cost_lim t.clamp_ok (by omega)
        clear cc IH hk1 hk2 hD hRR hJ lt
        by_cases hR0 : 0 < R
        · rw [if_pos hR0] at hK
          have eKK : (J : Int) + (k2 : Int) = (K : Int) := by omega
          clear hK
          have C0 := cs_new w #[.int .i64 t.eb, .int .i64 t.et, .int .i64 t.en, .int .i64 t.ed, .int .i64 t.er, .int .i64 t.el, .int .i64 t.ex, .int .i64 t.ep, .int .i64 t.ek, .int .i64 t.es, .int .i64 t.ee] 23
          have hg := gb_alloc (gb_refl w none) (Obj.cells #[.int .i64 t.eb, .int .i64 t.et, .int .i64 t.en, .int .i64 t.ed, .int .i64 t.er, .int .i64 t.el, .int .i64 t.ex, .int .i64 t.ep, .int .i64 t.ek, .int .i64 t.es, .int .i64 t.ee] 23)
          have HG := Lib.hid hg
          have HC0 := Lib.hid C0
          clear C0 hg
          go_enter Tryz.func25, Tryz.ntmps25
          have c0 := HC0.out.cell 0 rfl
          have c1 := HC0.out.cell 1 rfl
          have c2 := HC0.out.cell 2 rfl
          have c3 := HC0.out.cell 3 rfl
          have c4 := HC0.out.cell 4 rfl
          have c5 := HC0.out.cell 5 rfl
          have c6 := HC0.out.cell 6 rfl
          have c7 := HC0.out.cell 7 rfl
          have c8 := HC0.out.cell 8 rfl
          have c9 := HC0.out.cell 9 rfl
          have c10 := HC0.out.cell 10 rfl
          go_wp2_with fail
          refine (HR.out _).mono ?_
          rintro e w2 ⟨rfl, g2⟩
          have HC2 := Lib.hid (HC0.out.grown0 g2)
          have G2 := Lib.hid (gb_trans HG.out g2)
          clear c0 c1 c2 c3 c4 c5 c6 c7 c8 c9 c10 HC0 g2 HG HR
          go_wp2
          refine Canon.region_canon (by kernel_rfl) (by kernel_rfl) ?_
          have c0 := HC2.out.drew.cell 0 rfl
          have c1 := HC2.out.drew.cell 1 rfl
          have c2 := HC2.out.drew.cell 2 rfl
          have c3 := HC2.out.drew.cell 3 rfl
          have c4 := HC2.out.drew.cell 4 rfl
          have c5 := HC2.out.drew.cell 5 rfl
          have c6 := HC2.out.drew.cell 6 rfl
          have c7 := HC2.out.drew.cell 7 rfl
          have c8 := HC2.out.drew.cell 8 rfl
          have c9 := HC2.out.drew.cell 9 rfl
          have c10 := HC2.out.drew.cell 10 rfl
          go_wp2_with fail
          refine (HI1.out _).mono ?_
          rintro e w3 ⟨rfl, g3⟩
          have HC3 := Lib.hid (HC2.out.drew.grown0 g3)
          have G3 := Lib.hid (gb_trans (gb_drew G2.out) g3)
          clear c0 c1 c2 c3 c4 c5 c6 c7 c8 c9 c10 HC2 g3 G2 HI1
          go_wp2
          refine ⟨by kernel_rfl, ?_⟩
          go_wp2
          refine Canon.region_canon (by kernel_rfl) (by kernel_rfl) ?_
          have c0 := HC3.out.drew.cell 0 rfl
          have c1 := HC3.out.drew.cell 1 rfl
          have c2 := HC3.out.drew.cell 2 rfl
          have c3 := HC3.out.drew.cell 3 rfl
          have c4 := HC3.out.drew.cell 4 rfl
          have c5 := HC3.out.drew.cell 5 rfl
          have c6 := HC3.out.drew.cell 6 rfl
          have c7 := HC3.out.drew.cell 7 rfl
          have c8 := HC3.out.drew.cell 8 rfl
          have c9 := HC3.out.drew.cell 9 rfl
          have c10 := HC3.out.drew.cell 10 rfl
          go_wp2_with fail
          refine (HI2.out _).mono ?_
          rintro e w4 ⟨rfl, g4⟩
          have G4 := Lib.hid (gb_trans (gb_drew G3.out) g4)
          clear c0 c1 c2 c3 c4 c5 c6 c7 c8 c9 c10 HC3 g4 G3 HI2
          go_wp2
          refine ⟨by kernel_rfl, ?_⟩
          go_wp2
          go_ret
          exact ⟨rfl, G4.out⟩
        · obtain rfl : R = 0 := by omega
          rw [if_neg hR0, Nat.add_zero] at hK
          subst hK
          have C0 := cs_new w #[.int .i64 t.eb, .int .i64 t.et, .int .i64 t.en, .int .i64 t.ed, .int .i64 t.er, .int .i64 t.el, .int .i64 t.ex, .int .i64 t.ep, .int .i64 t.ek, .int .i64 t.es, .int .i64 t.ee] 23
          have hg := gb_alloc (gb_refl w none) (Obj.cells #[.int .i64 t.eb, .int .i64 t.et, .int .i64 t.en, .int .i64 t.ed, .int .i64 t.er, .int .i64 t.el, .int .i64 t.ex, .int .i64 t.ep, .int .i64 t.ek, .int .i64 t.es, .int .i64 t.ee] 23)
          have HG := Lib.hid hg
          have HC0 := Lib.hid C0
          clear C0 hg
          go_enter Tryz.func25, Tryz.ntmps25
          have c0 := HC0.out.cell 0 rfl
          have c1 := HC0.out.cell 1 rfl
          have c2 := HC0.out.cell 2 rfl
          have c3 := HC0.out.cell 3 rfl
          have c4 := HC0.out.cell 4 rfl
          have c5 := HC0.out.cell 5 rfl
          have c6 := HC0.out.cell 6 rfl
          have c7 := HC0.out.cell 7 rfl
          have c8 := HC0.out.cell 8 rfl
          have c9 := HC0.out.cell 9 rfl
          have c10 := HC0.out.cell 10 rfl
          go_wp2_with fail
          refine (HR.out _).mono ?_
          rintro e w2 ⟨rfl, g2⟩
          have HC2 := Lib.hid (HC0.out.grown0 g2)
          have G2 := Lib.hid (gb_trans HG.out g2)
          clear c0 c1 c2 c3 c4 c5 c6 c7 c8 c9 c10 HC0 g2 HG HR
          go_wp2
          refine Canon.region_canon (by kernel_rfl) (by kernel_rfl) ?_
          have c0 := HC2.out.drew.cell 0 rfl
          have c1 := HC2.out.drew.cell 1 rfl
          have c2 := HC2.out.drew.cell 2 rfl
          have c3 := HC2.out.drew.cell 3 rfl
          have c4 := HC2.out.drew.cell 4 rfl
          have c5 := HC2.out.drew.cell 5 rfl
          have c6 := HC2.out.drew.cell 6 rfl
          have c7 := HC2.out.drew.cell 7 rfl
          have c8 := HC2.out.drew.cell 8 rfl
          have c9 := HC2.out.drew.cell 9 rfl
          have c10 := HC2.out.drew.cell 10 rfl
          go_wp2_with fail
          refine (HI1.out _).mono ?_
          rintro e w3 ⟨rfl, g3⟩
          have G3 := Lib.hid (gb_trans (gb_drew G2.out) g3)
          clear c0 c1 c2 c3 c4 c5 c6 c7 c8 c9 c10 HC2 g3 G2 HI1
          go_wp2
          refine ⟨by kernel_rfl, ?_⟩
          go_wp2
          go_ret
          exact ⟨rfl, G3.out⟩
      · have q := rt_3 cc
        have b4 := t.clamp_ok.eb.1
        rw [cc] at HR
        rw [cost_3 t.clamp_ok hMN cc] at hK
        have I1 := fun w => IH ((m + 1) / 2) ((m + 1) / 2) (by omega) w
        have I2 := fun w => IH (m - (m + 1) / 2) (n - (m + 1) / 2) (by omega) w
        have I3 := fun w => IH ((m + 1) / 2 + 1) ((m + 1) / 2 + 1) (by omega) w
        obtain ⟨h, hh⟩ : ∃ q, q = (m + 1) / 2 := ⟨_, rfl⟩
        obtain ⟨p, hp⟩ : ∃ q, q = m - h := ⟨_, rfl⟩
        obtain ⟨q', hq⟩ : ∃ q, q = n - h := ⟨_, rfl⟩
        obtain ⟨H, hH⟩ : ∃ H, H = h + 1 := ⟨_, rfl⟩
        have e1 : ((m : Int) + 1) / 2 = (h : Int) := by omega
        have e2 : (m : Int) - (h : Int) = (p : Int) := by omega
        have e3 : (n : Int) - (h : Int) = (q' : Int) := by omega
        have e4 : (h : Int) + 1 = (H : Int) := by omega
        rw [← hh] at I1 I2 I3 hK
        rw [← hp, ← hq] at I2 hK
        rw [← hH] at I3 hK
        obtain ⟨k1, hk1⟩ : ∃ k, k = cost t.clamp h h := ⟨_, rfl⟩
        obtain ⟨k2, hk2⟩ : ∃ k, k = cost t.clamp p q' := ⟨_, rfl⟩
        obtain ⟨k3, hk3⟩ : ∃ k, k = cost t.clamp H H := ⟨_, rfl⟩
        rw [← hk1, ← hk2, ← hk3] at hK
        rw [← hk1] at I1
        rw [← hk2] at I2
        rw [← hk3] at I3
        obtain ⟨k12, hk12⟩ : ∃ k, k = k1 + k2 := ⟨_, rfl⟩
        have f1 : (k1 : Int) + (k2 : Int) = (k12 : Int) := by omega
        have f2 : (k12 : Int) + (k3 : Int) = (K : Int) := by omega
        have bb : h ≤ 1024 ∧ p ≤ 1024 ∧ q' ≤ 1024 ∧ H ≤ 1025 ∧ k1 ≤ 10000000 ∧ k2 ≤ 10000000 ∧ k3 ≤ 10000000 ∧ k12 ≤ 10000000 := by omega
        have HI1 := Lib.hid I1
        have HI2 := Lib.hid I2
        have HI3 := Lib.hid I3
        clear cc IH hK hk1 hk2 hk3 hk12 hh hp hq hH I1 I2 I3
        have C0 := cs_new w #[.int .i64 t.eb, .int .i64 t.et, .int .i64 t.en, .int .i64 t.ed, .int .i64 t.er, .int .i64 t.el, .int .i64 t.ex, .int .i64 t.ep, .int .i64 t.ek, .int .i64 t.es, .int .i64 t.ee] 23
        have hg := gb_alloc (gb_refl w none) (Obj.cells #[.int .i64 t.eb, .int .i64 t.et, .int .i64 t.en, .int .i64 t.ed, .int .i64 t.er, .int .i64 t.el, .int .i64 t.ex, .int .i64 t.ep, .int .i64 t.ek, .int .i64 t.es, .int .i64 t.ee] 23)
        have HG := Lib.hid hg
        have HC0 := Lib.hid C0
        clear C0 hg
        go_enter Tryz.func25, Tryz.ntmps25
        have c0 := HC0.out.cell 0 rfl
        have c1 := HC0.out.cell 1 rfl
        have c2 := HC0.out.cell 2 rfl
        have c3 := HC0.out.cell 3 rfl
        have c4 := HC0.out.cell 4 rfl
        have c5 := HC0.out.cell 5 rfl
        have c6 := HC0.out.cell 6 rfl
        have c7 := HC0.out.cell 7 rfl
        have c8 := HC0.out.cell 8 rfl
        have c9 := HC0.out.cell 9 rfl
        have c10 := HC0.out.cell 10 rfl
        go_wp2_with fail
        refine (HR.out _).mono ?_
        rintro e w2 ⟨rfl, g2⟩
        have HC2 := Lib.hid (HC0.out.grown0 g2)
        have G2 := Lib.hid (gb_trans HG.out g2)
        clear c0 c1 c2 c3 c4 c5 c6 c7 c8 c9 c10 HC0 g2 HG HR
        go_wp2
        have HSF : Hid (∀ W, Cs W w.heap.size t.vs → Canon.SF [(⟨w.heap.size, 0, none⟩, t.v), (⟨w.heap.size, 0, none⟩, t.v)] W) := Lib.hid (fun W C => Canon.sf_agg (fun j u h => C.at0 j h) (Canon.sf_agg (fun j u h => C.at0 j h) (Canon.sf_nil _)))
        refine Canon.region_held [56, 65] _ (by kernel_rfl) (by kernel_rfl) (HSF.out _ HC2.out) ?_
        have c0 := HC2.out.drew.cell 0 rfl
        have c1 := HC2.out.drew.cell 1 rfl
        have c2 := HC2.out.drew.cell 2 rfl
        have c3 := HC2.out.drew.cell 3 rfl
        have c4 := HC2.out.drew.cell 4 rfl
        have c5 := HC2.out.drew.cell 5 rfl
        have c6 := HC2.out.drew.cell 6 rfl
        have c7 := HC2.out.drew.cell 7 rfl
        have c8 := HC2.out.drew.cell 8 rfl
        have c9 := HC2.out.drew.cell 9 rfl
        have c10 := HC2.out.drew.cell 10 rfl
        refine Canon.segs_at 3 _ _ _ (by kernel_rfl) ?_
        simp only [List.take_succ_cons, List.take_zero, List.drop_succ_cons, List.drop_zero]
        go_wp2_with fail
        refine (HI1.out _).mono ?_
        rintro e w3 ⟨rfl, g3⟩
        have HC3 := Lib.hid (HC2.out.drew.grown0 g3)
        have G3 := Lib.hid (gb_trans (gb_drew G2.out) g3)
        clear c0 c1 c2 c3 c4 c5 c6 c7 c8 c9 c10 HC2 g3 G2 HI1
        go_wp2
        refine ⟨HSF.out _ HC3.out, ?_⟩
        have c0 := HC3.out.cell 0 rfl
        have c1 := HC3.out.cell 1 rfl
        have c2 := HC3.out.cell 2 rfl
        have c3 := HC3.out.cell 3 rfl
        have c4 := HC3.out.cell 4 rfl
        have c5 := HC3.out.cell 5 rfl
        have c6 := HC3.out.cell 6 rfl
        have c7 := HC3.out.cell 7 rfl
        have c8 := HC3.out.cell 8 rfl
        have c9 := HC3.out.cell 9 rfl
        have c10 := HC3.out.cell 10 rfl
        refine Canon.segs_at 7 _ _ _ (by kernel_rfl) ?_
        simp only [List.take_succ_cons, List.take_zero, List.drop_succ_cons, List.drop_zero]
        go_wp2_with fail
        refine (HI2.out _).mono ?_
        rintro e w4 ⟨rfl, g4⟩
        have HC4 := Lib.hid (HC3.out.grown0 g4)
        have G4 := Lib.hid (gb_trans G3.out g4)
        clear c0 c1 c2 c3 c4 c5 c6 c7 c8 c9 c10 HC3 g4 G3 HI2
        go_wp2
        refine ⟨HSF.out _ HC4.out, ?_⟩
        have c0 := HC4.out.cell 0 rfl
        have c1 := HC4.out.cell 1 rfl
        have c2 := HC4.out.cell 2 rfl
        have c3 := HC4.out.cell 3 rfl
        have c4 := HC4.out.cell 4 rfl
        have c5 := HC4.out.cell 5 rfl
        have c6 := HC4.out.cell 6 rfl
        have c7 := HC4.out.cell 7 rfl
        have c8 := HC4.out.cell 8 rfl
        have c9 := HC4.out.cell 9 rfl
        have c10 := HC4.out.cell 10 rfl
        refine Canon.segs_at 6 _ _ _ (by kernel_rfl) ?_
        simp only [List.take_succ_cons, List.take_zero, List.drop_succ_cons, List.drop_zero]
        go_wp2_with fail
        refine (HI3.out _).mono ?_
        rintro e w5 ⟨rfl, g5⟩
        have HC5 := Lib.hid (HC4.out.grown0 g5)
        have G5 := Lib.hid (gb_trans G4.out g5)
        clear c0 c1 c2 c3 c4 c5 c6 c7 c8 c9 c10 HC4 g5 G4 HI3
        go_wp2
        refine ⟨HSF.out _ HC5.out, ?_⟩
        refine Canon.segs_end _ _ _ (by kernel_rfl) ?_
        go_wp2
        refine ⟨by kernel_rfl, by kernel_rfl, by kernel_rfl, ?_⟩
        go_wp2
        go_ret
        exact ⟨rfl, G5.out⟩
      · have q := rt_4 cc
        have b4 := t.clamp_ok.eb.1
        rw [cc] at HR
        rw [cost_4 t.clamp_ok hMN cc] at hK
        have I1 := fun w => IH ((m + 2) / 3) ((m + 2) / 3) (by omega) w
        have I2 := fun w => IH ((m + 2) / 3 + 1) ((m + 2) / 3 + 1) (by omega) w
        have I3 := fun w => IH (m - 2 * ((m + 2) / 3)) (n - 2 * ((m + 2) / 3)) (by omega) w
        obtain ⟨h, hh⟩ : ∃ q, q = (m + 2) / 3 := ⟨_, rfl⟩
        obtain ⟨h2, hh2⟩ : ∃ q, q = 2 * h := ⟨_, rfl⟩
        obtain ⟨p, hp⟩ : ∃ q, q = m - h2 := ⟨_, rfl⟩
        obtain ⟨q', hq⟩ : ∃ q, q = n - h2 := ⟨_, rfl⟩
        obtain ⟨H, hH⟩ : ∃ H, H = h + 1 := ⟨_, rfl⟩
        have e1 : ((m : Int) + 2) / 3 = (h : Int) := by omega
        have e1' : 2 * (h : Int) = (h2 : Int) := by omega
        have e2 : (m : Int) - (h2 : Int) = (p : Int) := by omega
        have e3 : (n : Int) - (h2 : Int) = (q' : Int) := by omega
        have e4 : (h : Int) + 1 = (H : Int) := by omega
        rw [← hh] at I1 I2 I3 hK
        rw [← hh2] at I3 hK
        rw [← hp, ← hq] at I3 hK
        rw [← hH] at I2 hK
        obtain ⟨k1, hk1⟩ : ∃ k, k = cost t.clamp h h := ⟨_, rfl⟩
        obtain ⟨k2, hk2⟩ : ∃ k, k = cost t.clamp H H := ⟨_, rfl⟩
        obtain ⟨k3, hk3⟩ : ∃ k, k = cost t.clamp p q' := ⟨_, rfl⟩
        rw [← hk1, ← hk2, ← hk3] at hK
        rw [← hk1] at I1
        rw [← hk2] at I2
        rw [← hk3] at I3
        obtain ⟨k22, hk22⟩ : ∃ k, k = 3 * k2 := ⟨_, rfl⟩
        obtain ⟨k12, hk12⟩ : ∃ k, k = k1 + k22 := ⟨_, rfl⟩
        have f0 : 3 * (k2 : Int) = (k22 : Int) := by omega
        have f1 : (k1 : Int) + (k22 : Int) = (k12 : Int) := by omega
        have f2 : (k12 : Int) + (k3 : Int) = (K : Int) := by omega
        have bb : h ≤ 1024 ∧ h2 ≤ 1024 ∧ p ≤ 1024 ∧ q' ≤ 1024 ∧ H ≤ 1025 ∧ k1 ≤ 10000000 ∧ k2 ≤ 10000000 ∧ k3 ≤ 10000000 ∧ k12 ≤ 10000000 ∧ k22 ≤ 10000000 := by omega
        have HI1 := Lib.hid I1
        have HI2 := Lib.hid I2
        have HI3 := Lib.hid I3
        clear cc IH hK hk1 hk2 hk3 hk12 hk22 hh hh2 hp hq hH I1 I2 I3
        have C0 := cs_new w #[.int .i64 t.eb, .int .i64 t.et, .int .i64 t.en, .int .i64 t.ed, .int .i64 t.er, .int .i64 t.el, .int .i64 t.ex, .int .i64 t.ep, .int .i64 t.ek, .int .i64 t.es, .int .i64 t.ee] 23
        have hg := gb_alloc (gb_refl w none) (Obj.cells #[.int .i64 t.eb, .int .i64 t.et, .int .i64 t.en, .int .i64 t.ed, .int .i64 t.er, .int .i64 t.el, .int .i64 t.ex, .int .i64 t.ep, .int .i64 t.ek, .int .i64 t.es, .int .i64 t.ee] 23)
        have HG := Lib.hid hg
        have HC0 := Lib.hid C0
        clear C0 hg
        go_enter Tryz.func25, Tryz.ntmps25
        have c0 := HC0.out.cell 0 rfl
        have c1 := HC0.out.cell 1 rfl
        have c2 := HC0.out.cell 2 rfl
        have c3 := HC0.out.cell 3 rfl
        have c4 := HC0.out.cell 4 rfl
        have c5 := HC0.out.cell 5 rfl
        have c6 := HC0.out.cell 6 rfl
        have c7 := HC0.out.cell 7 rfl
        have c8 := HC0.out.cell 8 rfl
        have c9 := HC0.out.cell 9 rfl
        have c10 := HC0.out.cell 10 rfl
        go_wp2_with fail
        refine (HR.out _).mono ?_
        rintro e w2 ⟨rfl, g2⟩
        have HC2 := Lib.hid (HC0.out.grown0 g2)
        have G2 := Lib.hid (gb_trans HG.out g2)
        clear c0 c1 c2 c3 c4 c5 c6 c7 c8 c9 c10 HC0 g2 HG HR
        go_wp2
        have HSF : Hid (∀ W, Cs W w.heap.size t.vs → Canon.SF [(⟨w.heap.size, 0, none⟩, t.v), (⟨w.heap.size, 0, none⟩, t.v)] W) := Lib.hid (fun W C => Canon.sf_agg (fun j u h => C.at0 j h) (Canon.sf_agg (fun j u h => C.at0 j h) (Canon.sf_nil _)))
        refine Canon.region_held [81, 89] _ (by kernel_rfl) (by kernel_rfl) (HSF.out _ HC2.out) ?_
        have c0 := HC2.out.drew.cell 0 rfl
        have c1 := HC2.out.drew.cell 1 rfl
        have c2 := HC2.out.drew.cell 2 rfl
        have c3 := HC2.out.drew.cell 3 rfl
        have c4 := HC2.out.drew.cell 4 rfl
        have c5 := HC2.out.drew.cell 5 rfl
        have c6 := HC2.out.drew.cell 6 rfl
        have c7 := HC2.out.drew.cell 7 rfl
        have c8 := HC2.out.drew.cell 8 rfl
        have c9 := HC2.out.drew.cell 9 rfl
        have c10 := HC2.out.drew.cell 10 rfl
        refine Canon.segs_at 3 _ _ _ (by kernel_rfl) ?_
        simp only [List.take_succ_cons, List.take_zero, List.drop_succ_cons, List.drop_zero]
        go_wp2_with fail
        refine (HI1.out _).mono ?_
        rintro e w3 ⟨rfl, g3⟩
        have HC3 := Lib.hid (HC2.out.drew.grown0 g3)
        have G3 := Lib.hid (gb_trans (gb_drew G2.out) g3)
        clear c0 c1 c2 c3 c4 c5 c6 c7 c8 c9 c10 HC2 g3 G2 HI1
        go_wp2
        refine ⟨HSF.out _ HC3.out, ?_⟩
        have c0 := HC3.out.cell 0 rfl
        have c1 := HC3.out.cell 1 rfl
        have c2 := HC3.out.cell 2 rfl
        have c3 := HC3.out.cell 3 rfl
        have c4 := HC3.out.cell 4 rfl
        have c5 := HC3.out.cell 5 rfl
        have c6 := HC3.out.cell 6 rfl
        have c7 := HC3.out.cell 7 rfl
        have c8 := HC3.out.cell 8 rfl
        have c9 := HC3.out.cell 9 rfl
        have c10 := HC3.out.cell 10 rfl
        refine Canon.segs_at 5 _ _ _ (by kernel_rfl) ?_
        simp only [List.take_succ_cons, List.take_zero, List.drop_succ_cons, List.drop_zero]
        go_wp2_with fail
        refine (HI2.out _).mono ?_
        rintro e w4 ⟨rfl, g4⟩
        have HC4 := Lib.hid (HC3.out.grown0 g4)
        have G4 := Lib.hid (gb_trans G3.out g4)
        clear c0 c1 c2 c3 c4 c5 c6 c7 c8 c9 c10 HC3 g4 G3 HI2
        go_wp2
        refine ⟨HSF.out _ HC4.out, ?_⟩
        have c0 := HC4.out.cell 0 rfl
        have c1 := HC4.out.cell 1 rfl
        have c2 := HC4.out.cell 2 rfl
        have c3 := HC4.out.cell 3 rfl
        have c4 := HC4.out.cell 4 rfl
        have c5 := HC4.out.cell 5 rfl
        have c6 := HC4.out.cell 6 rfl
        have c7 := HC4.out.cell 7 rfl
        have c8 := HC4.out.cell 8 rfl
        have c9 := HC4.out.cell 9 rfl
        have c10 := HC4.out.cell 10 rfl
        refine Canon.segs_at 11 _ _ _ (by kernel_rfl) ?_
        simp only [List.take_succ_cons, List.take_zero, List.drop_succ_cons, List.drop_zero]
        go_wp2_with fail
        refine (HI3.out _).mono ?_
        rintro e w5 ⟨rfl, g5⟩
        have HC5 := Lib.hid (HC4.out.grown0 g5)
        have G5 := Lib.hid (gb_trans G4.out g5)
        clear c0 c1 c2 c3 c4 c5 c6 c7 c8 c9 c10 HC4 g5 G4 HI3
        go_wp2
        refine ⟨HSF.out _ HC5.out, ?_⟩
        refine Canon.segs_end _ _ _ (by kernel_rfl) ?_
        go_wp2
        refine ⟨by kernel_rfl, by kernel_rfl, by kernel_rfl, ?_⟩
        go_wp2
        go_ret
        exact ⟨rfl, G5.out⟩
      · have q := rt_5 cc
        have b4 := t.clamp_ok.eb.1
        rw [cc] at HR
        rw [cost_5 hMN cc] at hK
        have TR : Hid (∀ w, Calls Tryz.prog 50 #[.int .i64 m, .int .i64 n, .int .i64 3] w fun e w' => e = .returned (.int .i64 (K : Nat)) ∧ w.grownBy w' none) := Lib.hid (fun w => by rw [hK]; exact rtransf_c w m n 3 (by omega) (by omega) (by decide) (by omega))
        clear cc IH hK
        have C0 := cs_new w #[.int .i64 t.eb, .int .i64 t.et, .int .i64 t.en, .int .i64 t.ed, .int .i64 t.er, .int .i64 t.el, .int .i64 t.ex, .int .i64 t.ep, .int .i64 t.ek, .int .i64 t.es, .int .i64 t.ee] 23
        have hg := gb_alloc (gb_refl w none) (Obj.cells #[.int .i64 t.eb, .int .i64 t.et, .int .i64 t.en, .int .i64 t.ed, .int .i64 t.er, .int .i64 t.el, .int .i64 t.ex, .int .i64 t.ep, .int .i64 t.ek, .int .i64 t.es, .int .i64 t.ee] 23)
        have HG := Lib.hid hg
        have HC0 := Lib.hid C0
        clear C0 hg
        go_enter Tryz.func25, Tryz.ntmps25
        have c0 := HC0.out.cell 0 rfl
        have c1 := HC0.out.cell 1 rfl
        have c2 := HC0.out.cell 2 rfl
        have c3 := HC0.out.cell 3 rfl
        have c4 := HC0.out.cell 4 rfl
        have c5 := HC0.out.cell 5 rfl
        have c6 := HC0.out.cell 6 rfl
        have c7 := HC0.out.cell 7 rfl
        have c8 := HC0.out.cell 8 rfl
        have c9 := HC0.out.cell 9 rfl
        have c10 := HC0.out.cell 10 rfl
        go_wp2_with fail
        refine (HR.out _).mono ?_
        rintro e w2 ⟨rfl, g2⟩
        have HC2 := Lib.hid (HC0.out.grown0 g2)
        have G2 := Lib.hid (gb_trans HG.out g2)
        clear c0 c1 c2 c3 c4 c5 c6 c7 c8 c9 c10 HC0 g2 HG HR
        go_wp2_with fail
        refine (TR.out _).mono ?_
        rintro e w3 ⟨rfl, g3⟩
        have G3 := Lib.hid (gb_trans G2.out g3)
        clear g3 TR
        go_wp2
        go_ret
        exact ⟨rfl, G3.out⟩
    · have h' : ¬ n < m := by omega
      have HR := Lib.hid (fun w => rroute_c w t n m (by omega) (by omega))
      rw [Nat.max_eq_left hMN, Nat.min_eq_right hMN] at HR
      have hcase : rt t.clamp n m = 0 ∨ rt t.clamp n m = 1 ∨ rt t.clamp n m = 2 ∨ rt t.clamp n m = 3 ∨ rt t.clamp n m = 4 ∨ rt t.clamp n m = 5 := by have := rt_le t.clamp n m; omega
      obtain ⟨K, hK⟩ : ∃ K, K = cost t.clamp n m := ⟨_, rfl⟩
      have bK : K ≤ 10000000 := by rw [hK]; exact cost_lim t.clamp_ok (by omega)
      rw [← hK]
      rcases hcase with cc | cc | cc | cc | cc | cc
      · rw [cc] at HR
        rw [cost_0 hMN cc] at hK
        subst hK
        clear cc IH
        have C0 := cs_new w #[.int .i64 t.eb, .int .i64 t.et, .int .i64 t.en, .int .i64 t.ed, .int .i64 t.er, .int .i64 t.el, .int .i64 t.ex, .int .i64 t.ep, .int .i64 t.ek, .int .i64 t.es, .int .i64 t.ee] 23
        have hg := gb_alloc (gb_refl w none) (Obj.cells #[.int .i64 t.eb, .int .i64 t.et, .int .i64 t.en, .int .i64 t.ed, .int .i64 t.er, .int .i64 t.el, .int .i64 t.ex, .int .i64 t.ep, .int .i64 t.ek, .int .i64 t.es, .int .i64 t.ee] 23)
        have HG := Lib.hid hg
        have HC0 := Lib.hid C0
        clear C0 hg
        go_enter Tryz.func25, Tryz.ntmps25
        have c0 := HC0.out.cell 0 rfl
        have c1 := HC0.out.cell 1 rfl
        have c2 := HC0.out.cell 2 rfl
        have c3 := HC0.out.cell 3 rfl
        have c4 := HC0.out.cell 4 rfl
        have c5 := HC0.out.cell 5 rfl
        have c6 := HC0.out.cell 6 rfl
        have c7 := HC0.out.cell 7 rfl
        have c8 := HC0.out.cell 8 rfl
        have c9 := HC0.out.cell 9 rfl
        have c10 := HC0.out.cell 10 rfl
        go_wp2_with fail
        refine (HR.out _).mono ?_
        rintro e w2 ⟨rfl, g2⟩
        have HC2 := Lib.hid (HC0.out.grown0 g2)
        have G2 := Lib.hid (gb_trans HG.out g2)
        clear c0 c1 c2 c3 c4 c5 c6 c7 c8 c9 c10 HC0 g2 HG HR
        go_wp2
        go_ret
        exact ⟨rfl, G2.out⟩
      · rw [cc] at HR
        rw [cost_1 hMN cc] at hK
        have eK : (n : Int) * (m : Int) = (K : Int) := by rw [hK, Int.natCast_mul]
        clear cc IH hK
        have C0 := cs_new w #[.int .i64 t.eb, .int .i64 t.et, .int .i64 t.en, .int .i64 t.ed, .int .i64 t.er, .int .i64 t.el, .int .i64 t.ex, .int .i64 t.ep, .int .i64 t.ek, .int .i64 t.es, .int .i64 t.ee] 23
        have hg := gb_alloc (gb_refl w none) (Obj.cells #[.int .i64 t.eb, .int .i64 t.et, .int .i64 t.en, .int .i64 t.ed, .int .i64 t.er, .int .i64 t.el, .int .i64 t.ex, .int .i64 t.ep, .int .i64 t.ek, .int .i64 t.es, .int .i64 t.ee] 23)
        have HG := Lib.hid hg
        have HC0 := Lib.hid C0
        clear C0 hg
        go_enter Tryz.func25, Tryz.ntmps25
        have c0 := HC0.out.cell 0 rfl
        have c1 := HC0.out.cell 1 rfl
        have c2 := HC0.out.cell 2 rfl
        have c3 := HC0.out.cell 3 rfl
        have c4 := HC0.out.cell 4 rfl
        have c5 := HC0.out.cell 5 rfl
        have c6 := HC0.out.cell 6 rfl
        have c7 := HC0.out.cell 7 rfl
        have c8 := HC0.out.cell 8 rfl
        have c9 := HC0.out.cell 9 rfl
        have c10 := HC0.out.cell 10 rfl
        go_wp2_with fail
        refine (HR.out _).mono ?_
        rintro e w2 ⟨rfl, g2⟩
        have HC2 := Lib.hid (HC0.out.grown0 g2)
        have G2 := Lib.hid (gb_trans HG.out g2)
        clear c0 c1 c2 c3 c4 c5 c6 c7 c8 c9 c10 HC0 g2 HG HR
        go_wp2
        go_ret
        exact ⟨rfl, G2.out⟩
      · have q := rt_2 cc
        have b4 := t.clamp_ok.eb.1
        have lt := Nat.mod_lt n q.1
        rw [cc] at HR
        rw [cost_2 t.clamp_ok hMN cc] at hK
        have HI1 := Lib.hid (fun w => IH m m (by omega) w)
        have HI2 := Lib.hid (fun w => IH m (n % m) (by omega) w)
        rw [cost_comm t.clamp m (n % m)] at HI2
        obtain ⟨k1, hk1⟩ : ∃ k, k = cost t.clamp m m := ⟨_, rfl⟩
        obtain ⟨k2, hk2⟩ : ∃ k, k = cost t.clamp (n % m) m := ⟨_, rfl⟩
        rw [← hk1, ← hk2] at hK
        rw [← hk1] at HI1
        rw [← hk2] at HI2
        obtain ⟨D, hD⟩ : ∃ D, D = n / m := ⟨_, rfl⟩
        obtain ⟨R, hRR⟩ : ∃ D, D = n % m := ⟨_, rfl⟩
        obtain ⟨J, hJ⟩ : ∃ J, J = D * k1 := ⟨_, rfl⟩
        unfold pall at hK
        rw [← hD, ← hRR, ← hJ] at hK
        rw [← hRR] at HI2
        have eD : (n : Int) / (m : Int) = (D : Int) := by rw [hD]; exact (Int.natCast_ediv _ _).symm
        have eD2 : (n : Int).tdiv (m : Int) = (D : Int) := by rw [Int.tdiv_eq_ediv_of_nonneg (by omega)]; exact eD
        have eR : (n : Int) % (m : Int) = (R : Int) := by rw [hRR]; exact (Int.natCast_emod _ _).symm
        have eR2 : (n : Int).tmod (m : Int) = (R : Int) := by rw [Int.tmod_eq_emod_of_nonneg (by omega)]; exact eR
        have m0 : ((m : Int) == 0) = false := by
          have : ¬ (m : Int) = 0 := by omega
          simpa using this
        have eJ : (D : Int) * (k1 : Int) = (J : Int) := by rw [hJ, Int.natCast_mul]
        have bJ : J ≤ 10000000 := by omega
        have bD : D ≤ 1024 := by rw [hD]; exact Nat.le_trans (Nat.div_le_self _ _) (by omega)
        have bR : R ≤ 1024 := by omega
        have bk1 : k1 ≤ 10000000 := by rw [hk1]; exact cost_lim t.clamp_ok (by omega)
        have bk2 : k2 ≤ 10000000 := by rw [hk2]; exact cost_lim t.clamp_ok (by omega)
        clear cc IH hk1 hk2 hD hRR hJ lt
        by_cases hR0 : 0 < R
        · rw [if_pos hR0] at hK
          have eKK : (J : Int) + (k2 : Int) = (K : Int) := by omega
          clear hK
          have C0 := cs_new w #[.int .i64 t.eb, .int .i64 t.et, .int .i64 t.en, .int .i64 t.ed, .int .i64 t.er, .int .i64 t.el, .int .i64 t.ex, .int .i64 t.ep, .int .i64 t.ek, .int .i64 t.es, .int .i64 t.ee] 23
          have hg := gb_alloc (gb_refl w none) (Obj.cells #[.int .i64 t.eb, .int .i64 t.et, .int .i64 t.en, .int .i64 t.ed, .int .i64 t.er, .int .i64 t.el, .int .i64 t.ex, .int .i64 t.ep, .int .i64 t.ek, .int .i64 t.es, .int .i64 t.ee] 23)
          have HG := Lib.hid hg
          have HC0 := Lib.hid C0
          clear C0 hg
          go_enter Tryz.func25, Tryz.ntmps25
          have c0 := HC0.out.cell 0 rfl
          have c1 := HC0.out.cell 1 rfl
          have c2 := HC0.out.cell 2 rfl
          have c3 := HC0.out.cell 3 rfl
          have c4 := HC0.out.cell 4 rfl
          have c5 := HC0.out.cell 5 rfl
          have c6 := HC0.out.cell 6 rfl
          have c7 := HC0.out.cell 7 rfl
          have c8 := HC0.out.cell 8 rfl
          have c9 := HC0.out.cell 9 rfl
          have c10 := HC0.out.cell 10 rfl
          go_wp2_with fail
          refine (HR.out _).mono ?_
          rintro e w2 ⟨rfl, g2⟩
          have HC2 := Lib.hid (HC0.out.grown0 g2)
          have G2 := Lib.hid (gb_trans HG.out g2)
          clear c0 c1 c2 c3 c4 c5 c6 c7 c8 c9 c10 HC0 g2 HG HR
          go_wp2
          refine Canon.region_canon (by kernel_rfl) (by kernel_rfl) ?_
          have c0 := HC2.out.drew.cell 0 rfl
          have c1 := HC2.out.drew.cell 1 rfl
          have c2 := HC2.out.drew.cell 2 rfl
          have c3 := HC2.out.drew.cell 3 rfl
          have c4 := HC2.out.drew.cell 4 rfl
          have c5 := HC2.out.drew.cell 5 rfl
          have c6 := HC2.out.drew.cell 6 rfl
          have c7 := HC2.out.drew.cell 7 rfl
          have c8 := HC2.out.drew.cell 8 rfl
          have c9 := HC2.out.drew.cell 9 rfl
          have c10 := HC2.out.drew.cell 10 rfl
          go_wp2_with fail
          refine (HI1.out _).mono ?_
          rintro e w3 ⟨rfl, g3⟩
          have HC3 := Lib.hid (HC2.out.drew.grown0 g3)
          have G3 := Lib.hid (gb_trans (gb_drew G2.out) g3)
          clear c0 c1 c2 c3 c4 c5 c6 c7 c8 c9 c10 HC2 g3 G2 HI1
          go_wp2
          refine ⟨by kernel_rfl, ?_⟩
          go_wp2
          refine Canon.region_canon (by kernel_rfl) (by kernel_rfl) ?_
          have c0 := HC3.out.drew.cell 0 rfl
          have c1 := HC3.out.drew.cell 1 rfl
          have c2 := HC3.out.drew.cell 2 rfl
          have c3 := HC3.out.drew.cell 3 rfl
          have c4 := HC3.out.drew.cell 4 rfl
          have c5 := HC3.out.drew.cell 5 rfl
          have c6 := HC3.out.drew.cell 6 rfl
          have c7 := HC3.out.drew.cell 7 rfl
          have c8 := HC3.out.drew.cell 8 rfl
          have c9 := HC3.out.drew.cell 9 rfl
          have c10 := HC3.out.drew.cell 10 rfl
          go_wp2_with fail
          refine (HI2.out _).mono ?_
          rintro e w4 ⟨rfl, g4⟩
          have G4 := Lib.hid (gb_trans (gb_drew G3.out) g4)
          clear c0 c1 c2 c3 c4 c5 c6 c7 c8 c9 c10 HC3 g4 G3 HI2
          go_wp2
          refine ⟨by kernel_rfl, ?_⟩
          go_wp2
          go_ret
          exact ⟨rfl, G4.out⟩
        · obtain rfl : R = 0 := by omega
          rw [if_neg hR0, Nat.add_zero] at hK
          subst hK
          have C0 := cs_new w #[.int .i64 t.eb, .int .i64 t.et, .int .i64 t.en, .int .i64 t.ed, .int .i64 t.er, .int .i64 t.el, .int .i64 t.ex, .int .i64 t.ep, .int .i64 t.ek, .int .i64 t.es, .int .i64 t.ee] 23
          have hg := gb_alloc (gb_refl w none) (Obj.cells #[.int .i64 t.eb, .int .i64 t.et, .int .i64 t.en, .int .i64 t.ed, .int .i64 t.er, .int .i64 t.el, .int .i64 t.ex, .int .i64 t.ep, .int .i64 t.ek, .int .i64 t.es, .int .i64 t.ee] 23)
          have HG := Lib.hid hg
          have HC0 := Lib.hid C0
          clear C0 hg
          go_enter Tryz.func25, Tryz.ntmps25
          have c0 := HC0.out.cell 0 rfl
          have c1 := HC0.out.cell 1 rfl
          have c2 := HC0.out.cell 2 rfl
          have c3 := HC0.out.cell 3 rfl
          have c4 := HC0.out.cell 4 rfl
          have c5 := HC0.out.cell 5 rfl
          have c6 := HC0.out.cell 6 rfl
          have c7 := HC0.out.cell 7 rfl
          have c8 := HC0.out.cell 8 rfl
          have c9 := HC0.out.cell 9 rfl
          have c10 := HC0.out.cell 10 rfl
          go_wp2_with fail
          refine (HR.out _).mono ?_
          rintro e w2 ⟨rfl, g2⟩
          have HC2 := Lib.hid (HC0.out.grown0 g2)
          have G2 := Lib.hid (gb_trans HG.out g2)
          clear c0 c1 c2 c3 c4 c5 c6 c7 c8 c9 c10 HC0 g2 HG HR
          go_wp2
          refine Canon.region_canon (by kernel_rfl) (by kernel_rfl) ?_
          have c0 := HC2.out.drew.cell 0 rfl
          have c1 := HC2.out.drew.cell 1 rfl
          have c2 := HC2.out.drew.cell 2 rfl
          have c3 := HC2.out.drew.cell 3 rfl
          have c4 := HC2.out.drew.cell 4 rfl
          have c5 := HC2.out.drew.cell 5 rfl
          have c6 := HC2.out.drew.cell 6 rfl
          have c7 := HC2.out.drew.cell 7 rfl
          have c8 := HC2.out.drew.cell 8 rfl
          have c9 := HC2.out.drew.cell 9 rfl
          have c10 := HC2.out.drew.cell 10 rfl
          go_wp2_with fail
          refine (HI1.out _).mono ?_
          rintro e w3 ⟨rfl, g3⟩
          have G3 := Lib.hid (gb_trans (gb_drew G2.out) g3)
          clear c0 c1 c2 c3 c4 c5 c6 c7 c8 c9 c10 HC2 g3 G2 HI1
          go_wp2
          refine ⟨by kernel_rfl, ?_⟩
          go_wp2
          go_ret
          exact ⟨rfl, G3.out⟩
      · have q := rt_3 cc
        have b4 := t.clamp_ok.eb.1
        rw [cc] at HR
        rw [cost_3 t.clamp_ok hMN cc] at hK
        have I1 := fun w => IH ((n + 1) / 2) ((n + 1) / 2) (by omega) w
        have I2 := fun w => IH (n - (n + 1) / 2) (m - (n + 1) / 2) (by omega) w
        have I3 := fun w => IH ((n + 1) / 2 + 1) ((n + 1) / 2 + 1) (by omega) w
        obtain ⟨h, hh⟩ : ∃ q, q = (n + 1) / 2 := ⟨_, rfl⟩
        obtain ⟨p, hp⟩ : ∃ q, q = n - h := ⟨_, rfl⟩
        obtain ⟨q', hq⟩ : ∃ q, q = m - h := ⟨_, rfl⟩
        obtain ⟨H, hH⟩ : ∃ H, H = h + 1 := ⟨_, rfl⟩
        have e1 : ((n : Int) + 1) / 2 = (h : Int) := by omega
        have e2 : (n : Int) - (h : Int) = (p : Int) := by omega
        have e3 : (m : Int) - (h : Int) = (q' : Int) := by omega
        have e4 : (h : Int) + 1 = (H : Int) := by omega
        rw [← hh] at I1 I2 I3 hK
        rw [← hp, ← hq] at I2 hK
        rw [← hH] at I3 hK
        obtain ⟨k1, hk1⟩ : ∃ k, k = cost t.clamp h h := ⟨_, rfl⟩
        obtain ⟨k2, hk2⟩ : ∃ k, k = cost t.clamp p q' := ⟨_, rfl⟩
        obtain ⟨k3, hk3⟩ : ∃ k, k = cost t.clamp H H := ⟨_, rfl⟩
        rw [← hk1, ← hk2, ← hk3] at hK
        rw [← hk1] at I1
        rw [← hk2] at I2
        rw [← hk3] at I3
        obtain ⟨k12, hk12⟩ : ∃ k, k = k1 + k2 := ⟨_, rfl⟩
        have f1 : (k1 : Int) + (k2 : Int) = (k12 : Int) := by omega
        have f2 : (k12 : Int) + (k3 : Int) = (K : Int) := by omega
        have bb : h ≤ 1024 ∧ p ≤ 1024 ∧ q' ≤ 1024 ∧ H ≤ 1025 ∧ k1 ≤ 10000000 ∧ k2 ≤ 10000000 ∧ k3 ≤ 10000000 ∧ k12 ≤ 10000000 := by omega
        have HI1 := Lib.hid I1
        have HI2 := Lib.hid I2
        have HI3 := Lib.hid I3
        clear cc IH hK hk1 hk2 hk3 hk12 hh hp hq hH I1 I2 I3
        have C0 := cs_new w #[.int .i64 t.eb, .int .i64 t.et, .int .i64 t.en, .int .i64 t.ed, .int .i64 t.er, .int .i64 t.el, .int .i64 t.ex, .int .i64 t.ep, .int .i64 t.ek, .int .i64 t.es, .int .i64 t.ee] 23
        have hg := gb_alloc (gb_refl w none) (Obj.cells #[.int .i64 t.eb, .int .i64 t.et, .int .i64 t.en, .int .i64 t.ed, .int .i64 t.er, .int .i64 t.el, .int .i64 t.ex, .int .i64 t.ep, .int .i64 t.ek, .int .i64 t.es, .int .i64 t.ee] 23)
        have HG := Lib.hid hg
        have HC0 := Lib.hid C0
        clear C0 hg
        go_enter Tryz.func25, Tryz.ntmps25
        have c0 := HC0.out.cell 0 rfl
        have c1 := HC0.out.cell 1 rfl
        have c2 := HC0.out.cell 2 rfl
        have c3 := HC0.out.cell 3 rfl
        have c4 := HC0.out.cell 4 rfl
        have c5 := HC0.out.cell 5 rfl
        have c6 := HC0.out.cell 6 rfl
        have c7 := HC0.out.cell 7 rfl
        have c8 := HC0.out.cell 8 rfl
        have c9 := HC0.out.cell 9 rfl
        have c10 := HC0.out.cell 10 rfl
        go_wp2_with fail
        refine (HR.out _).mono ?_
        rintro e w2 ⟨rfl, g2⟩
        have HC2 := Lib.hid (HC0.out.grown0 g2)
        have G2 := Lib.hid (gb_trans HG.out g2)
        clear c0 c1 c2 c3 c4 c5 c6 c7 c8 c9 c10 HC0 g2 HG HR
        go_wp2
        have HSF : Hid (∀ W, Cs W w.heap.size t.vs → Canon.SF [(⟨w.heap.size, 0, none⟩, t.v), (⟨w.heap.size, 0, none⟩, t.v)] W) := Lib.hid (fun W C => Canon.sf_agg (fun j u h => C.at0 j h) (Canon.sf_agg (fun j u h => C.at0 j h) (Canon.sf_nil _)))
        refine Canon.region_held [56, 65] _ (by kernel_rfl) (by kernel_rfl) (HSF.out _ HC2.out) ?_
        have c0 := HC2.out.drew.cell 0 rfl
        have c1 := HC2.out.drew.cell 1 rfl
        have c2 := HC2.out.drew.cell 2 rfl
        have c3 := HC2.out.drew.cell 3 rfl
        have c4 := HC2.out.drew.cell 4 rfl
        have c5 := HC2.out.drew.cell 5 rfl
        have c6 := HC2.out.drew.cell 6 rfl
        have c7 := HC2.out.drew.cell 7 rfl
        have c8 := HC2.out.drew.cell 8 rfl
        have c9 := HC2.out.drew.cell 9 rfl
        have c10 := HC2.out.drew.cell 10 rfl
        refine Canon.segs_at 3 _ _ _ (by kernel_rfl) ?_
        simp only [List.take_succ_cons, List.take_zero, List.drop_succ_cons, List.drop_zero]
        go_wp2_with fail
        refine (HI1.out _).mono ?_
        rintro e w3 ⟨rfl, g3⟩
        have HC3 := Lib.hid (HC2.out.drew.grown0 g3)
        have G3 := Lib.hid (gb_trans (gb_drew G2.out) g3)
        clear c0 c1 c2 c3 c4 c5 c6 c7 c8 c9 c10 HC2 g3 G2 HI1
        go_wp2
        refine ⟨HSF.out _ HC3.out, ?_⟩
        have c0 := HC3.out.cell 0 rfl
        have c1 := HC3.out.cell 1 rfl
        have c2 := HC3.out.cell 2 rfl
        have c3 := HC3.out.cell 3 rfl
        have c4 := HC3.out.cell 4 rfl
        have c5 := HC3.out.cell 5 rfl
        have c6 := HC3.out.cell 6 rfl
        have c7 := HC3.out.cell 7 rfl
        have c8 := HC3.out.cell 8 rfl
        have c9 := HC3.out.cell 9 rfl
        have c10 := HC3.out.cell 10 rfl
        refine Canon.segs_at 7 _ _ _ (by kernel_rfl) ?_
        simp only [List.take_succ_cons, List.take_zero, List.drop_succ_cons, List.drop_zero]
        go_wp2_with fail
        refine (HI2.out _).mono ?_
        rintro e w4 ⟨rfl, g4⟩
        have HC4 := Lib.hid (HC3.out.grown0 g4)
        have G4 := Lib.hid (gb_trans G3.out g4)
        clear c0 c1 c2 c3 c4 c5 c6 c7 c8 c9 c10 HC3 g4 G3 HI2
        go_wp2
        refine ⟨HSF.out _ HC4.out, ?_⟩
        have c0 := HC4.out.cell 0 rfl
        have c1 := HC4.out.cell 1 rfl
        have c2 := HC4.out.cell 2 rfl
        have c3 := HC4.out.cell 3 rfl
        have c4 := HC4.out.cell 4 rfl
        have c5 := HC4.out.cell 5 rfl
        have c6 := HC4.out.cell 6 rfl
        have c7 := HC4.out.cell 7 rfl
        have c8 := HC4.out.cell 8 rfl
        have c9 := HC4.out.cell 9 rfl
        have c10 := HC4.out.cell 10 rfl
        refine Canon.segs_at 6 _ _ _ (by kernel_rfl) ?_
        simp only [List.take_succ_cons, List.take_zero, List.drop_succ_cons, List.drop_zero]
        go_wp2_with fail
        refine (HI3.out _).mono ?_
        rintro e w5 ⟨rfl, g5⟩
        have HC5 := Lib.hid (HC4.out.grown0 g5)
        have G5 := Lib.hid (gb_trans G4.out g5)
        clear c0 c1 c2 c3 c4 c5 c6 c7 c8 c9 c10 HC4 g5 G4 HI3
        go_wp2
        refine ⟨HSF.out _ HC5.out, ?_⟩
        refine Canon.segs_end _ _ _ (by kernel_rfl) ?_
        go_wp2
        refine ⟨by kernel_rfl, by kernel_rfl, by kernel_rfl, ?_⟩
        go_wp2
        go_ret
        exact ⟨rfl, G5.out⟩
      · have q := rt_4 cc
        have b4 := t.clamp_ok.eb.1
        rw [cc] at HR
        rw [cost_4 t.clamp_ok hMN cc] at hK
        have I1 := fun w => IH ((n + 2) / 3) ((n + 2) / 3) (by omega) w
        have I2 := fun w => IH ((n + 2) / 3 + 1) ((n + 2) / 3 + 1) (by omega) w
        have I3 := fun w => IH (n - 2 * ((n + 2) / 3)) (m - 2 * ((n + 2) / 3)) (by omega) w
        obtain ⟨h, hh⟩ : ∃ q, q = (n + 2) / 3 := ⟨_, rfl⟩
        obtain ⟨h2, hh2⟩ : ∃ q, q = 2 * h := ⟨_, rfl⟩
        obtain ⟨p, hp⟩ : ∃ q, q = n - h2 := ⟨_, rfl⟩
        obtain ⟨q', hq⟩ : ∃ q, q = m - h2 := ⟨_, rfl⟩
        obtain ⟨H, hH⟩ : ∃ H, H = h + 1 := ⟨_, rfl⟩
        have e1 : ((n : Int) + 2) / 3 = (h : Int) := by omega
        have e1' : 2 * (h : Int) = (h2 : Int) := by omega
        have e2 : (n : Int) - (h2 : Int) = (p : Int) := by omega
        have e3 : (m : Int) - (h2 : Int) = (q' : Int) := by omega
        have e4 : (h : Int) + 1 = (H : Int) := by omega
        rw [← hh] at I1 I2 I3 hK
        rw [← hh2] at I3 hK
        rw [← hp, ← hq] at I3 hK
        rw [← hH] at I2 hK
        obtain ⟨k1, hk1⟩ : ∃ k, k = cost t.clamp h h := ⟨_, rfl⟩
        obtain ⟨k2, hk2⟩ : ∃ k, k = cost t.clamp H H := ⟨_, rfl⟩
        obtain ⟨k3, hk3⟩ : ∃ k, k = cost t.clamp p q' := ⟨_, rfl⟩
        rw [← hk1, ← hk2, ← hk3] at hK
        rw [← hk1] at I1
        rw [← hk2] at I2
        rw [← hk3] at I3
        obtain ⟨k22, hk22⟩ : ∃ k, k = 3 * k2 := ⟨_, rfl⟩
        obtain ⟨k12, hk12⟩ : ∃ k, k = k1 + k22 := ⟨_, rfl⟩
        have f0 : 3 * (k2 : Int) = (k22 : Int) := by omega
        have f1 : (k1 : Int) + (k22 : Int) = (k12 : Int) := by omega
        have f2 : (k12 : Int) + (k3 : Int) = (K : Int) := by omega
        have bb : h ≤ 1024 ∧ h2 ≤ 1024 ∧ p ≤ 1024 ∧ q' ≤ 1024 ∧ H ≤ 1025 ∧ k1 ≤ 10000000 ∧ k2 ≤ 10000000 ∧ k3 ≤ 10000000 ∧ k12 ≤ 10000000 ∧ k22 ≤ 10000000 := by omega
        have HI1 := Lib.hid I1
        have HI2 := Lib.hid I2
        have HI3 := Lib.hid I3
        clear cc IH hK hk1 hk2 hk3 hk12 hk22 hh hh2 hp hq hH I1 I2 I3
        have C0 := cs_new w #[.int .i64 t.eb, .int .i64 t.et, .int .i64 t.en, .int .i64 t.ed, .int .i64 t.er, .int .i64 t.el, .int .i64 t.ex, .int .i64 t.ep, .int .i64 t.ek, .int .i64 t.es, .int .i64 t.ee] 23
        have hg := gb_alloc (gb_refl w none) (Obj.cells #[.int .i64 t.eb, .int .i64 t.et, .int .i64 t.en, .int .i64 t.ed, .int .i64 t.er, .int .i64 t.el, .int .i64 t.ex, .int .i64 t.ep, .int .i64 t.ek, .int .i64 t.es, .int .i64 t.ee] 23)
        have HG := Lib.hid hg
        have HC0 := Lib.hid C0
        clear C0 hg
        go_enter Tryz.func25, Tryz.ntmps25
        have c0 := HC0.out.cell 0 rfl
        have c1 := HC0.out.cell 1 rfl
        have c2 := HC0.out.cell 2 rfl
        have c3 := HC0.out.cell 3 rfl
        have c4 := HC0.out.cell 4 rfl
        have c5 := HC0.out.cell 5 rfl
        have c6 := HC0.out.cell 6 rfl
        have c7 := HC0.out.cell 7 rfl
        have c8 := HC0.out.cell 8 rfl
        have c9 := HC0.out.cell 9 rfl
        have c10 := HC0.out.cell 10 rfl
        go_wp2_with fail
        refine (HR.out _).mono ?_
        rintro e w2 ⟨rfl, g2⟩
        have HC2 := Lib.hid (HC0.out.grown0 g2)
        have G2 := Lib.hid (gb_trans HG.out g2)
        clear c0 c1 c2 c3 c4 c5 c6 c7 c8 c9 c10 HC0 g2 HG HR
        go_wp2
        have HSF : Hid (∀ W, Cs W w.heap.size t.vs → Canon.SF [(⟨w.heap.size, 0, none⟩, t.v), (⟨w.heap.size, 0, none⟩, t.v)] W) := Lib.hid (fun W C => Canon.sf_agg (fun j u h => C.at0 j h) (Canon.sf_agg (fun j u h => C.at0 j h) (Canon.sf_nil _)))
        refine Canon.region_held [81, 89] _ (by kernel_rfl) (by kernel_rfl) (HSF.out _ HC2.out) ?_
        have c0 := HC2.out.drew.cell 0 rfl
        have c1 := HC2.out.drew.cell 1 rfl
        have c2 := HC2.out.drew.cell 2 rfl
        have c3 := HC2.out.drew.cell 3 rfl
        have c4 := HC2.out.drew.cell 4 rfl
        have c5 := HC2.out.drew.cell 5 rfl
        have c6 := HC2.out.drew.cell 6 rfl
        have c7 := HC2.out.drew.cell 7 rfl
        have c8 := HC2.out.drew.cell 8 rfl
        have c9 := HC2.out.drew.cell 9 rfl
        have c10 := HC2.out.drew.cell 10 rfl
        refine Canon.segs_at 3 _ _ _ (by kernel_rfl) ?_
        simp only [List.take_succ_cons, List.take_zero, List.drop_succ_cons, List.drop_zero]
        go_wp2_with fail
        refine (HI1.out _).mono ?_
        rintro e w3 ⟨rfl, g3⟩
        have HC3 := Lib.hid (HC2.out.drew.grown0 g3)
        have G3 := Lib.hid (gb_trans (gb_drew G2.out) g3)
        clear c0 c1 c2 c3 c4 c5 c6 c7 c8 c9 c10 HC2 g3 G2 HI1
        go_wp2
        refine ⟨HSF.out _ HC3.out, ?_⟩
        have c0 := HC3.out.cell 0 rfl
        have c1 := HC3.out.cell 1 rfl
        have c2 := HC3.out.cell 2 rfl
        have c3 := HC3.out.cell 3 rfl
        have c4 := HC3.out.cell 4 rfl
        have c5 := HC3.out.cell 5 rfl
        have c6 := HC3.out.cell 6 rfl
        have c7 := HC3.out.cell 7 rfl
        have c8 := HC3.out.cell 8 rfl
        have c9 := HC3.out.cell 9 rfl
        have c10 := HC3.out.cell 10 rfl
        refine Canon.segs_at 5 _ _ _ (by kernel_rfl) ?_
        simp only [List.take_succ_cons, List.take_zero, List.drop_succ_cons, List.drop_zero]
        go_wp2_with fail
        refine (HI2.out _).mono ?_
        rintro e w4 ⟨rfl, g4⟩
        have HC4 := Lib.hid (HC3.out.grown0 g4)
        have G4 := Lib.hid (gb_trans G3.out g4)
        clear c0 c1 c2 c3 c4 c5 c6 c7 c8 c9 c10 HC3 g4 G3 HI2
        go_wp2
        refine ⟨HSF.out _ HC4.out, ?_⟩
        have c0 := HC4.out.cell 0 rfl
        have c1 := HC4.out.cell 1 rfl
        have c2 := HC4.out.cell 2 rfl
        have c3 := HC4.out.cell 3 rfl
        have c4 := HC4.out.cell 4 rfl
        have c5 := HC4.out.cell 5 rfl
        have c6 := HC4.out.cell 6 rfl
        have c7 := HC4.out.cell 7 rfl
        have c8 := HC4.out.cell 8 rfl
        have c9 := HC4.out.cell 9 rfl
        have c10 := HC4.out.cell 10 rfl
        refine Canon.segs_at 11 _ _ _ (by kernel_rfl) ?_
        simp only [List.take_succ_cons, List.take_zero, List.drop_succ_cons, List.drop_zero]
        go_wp2_with fail
        refine (HI3.out _).mono ?_
        rintro e w5 ⟨rfl, g5⟩
        have HC5 := Lib.hid (HC4.out.grown0 g5)
        have G5 := Lib.hid (gb_trans G4.out g5)
        clear c0 c1 c2 c3 c4 c5 c6 c7 c8 c9 c10 HC4 g5 G4 HI3
        go_wp2
        refine ⟨HSF.out _ HC5.out, ?_⟩
        refine Canon.segs_end _ _ _ (by kernel_rfl) ?_
        go_wp2
        refine ⟨by kernel_rfl, by kernel_rfl, by kernel_rfl, ?_⟩
        go_wp2
        go_ret
        exact ⟨rfl, G5.out⟩
      · have q := rt_5 cc
        have b4 := t.clamp_ok.eb.1
        rw [cc] at HR
        rw [cost_5 hMN cc] at hK
        have TR : Hid (∀ w, Calls Tryz.prog 50 #[.int .i64 n, .int .i64 m, .int .i64 3] w fun e w' => e = .returned (.int .i64 (K : Nat)) ∧ w.grownBy w' none) := Lib.hid (fun w => by rw [hK]; exact rtransf_c w n m 3 (by omega) (by omega) (by decide) (by omega))
        clear cc IH hK
        have C0 := cs_new w #[.int .i64 t.eb, .int .i64 t.et, .int .i64 t.en, .int .i64 t.ed, .int .i64 t.er, .int .i64 t.el, .int .i64 t.ex, .int .i64 t.ep, .int .i64 t.ek, .int .i64 t.es, .int .i64 t.ee] 23
        have hg := gb_alloc (gb_refl w none) (Obj.cells #[.int .i64 t.eb, .int .i64 t.et, .int .i64 t.en, .int .i64 t.ed, .int .i64 t.er, .int .i64 t.el, .int .i64 t.ex, .int .i64 t.ep, .int .i64 t.ek, .int .i64 t.es, .int .i64 t.ee] 23)
        have HG := Lib.hid hg
        have HC0 := Lib.hid C0
        clear C0 hg
        go_enter Tryz.func25, Tryz.ntmps25
        have c0 := HC0.out.cell 0 rfl
        have c1 := HC0.out.cell 1 rfl
        have c2 := HC0.out.cell 2 rfl
        have c3 := HC0.out.cell 3 rfl
        have c4 := HC0.out.cell 4 rfl
        have c5 := HC0.out.cell 5 rfl
        have c6 := HC0.out.cell 6 rfl
        have c7 := HC0.out.cell 7 rfl
        have c8 := HC0.out.cell 8 rfl
        have c9 := HC0.out.cell 9 rfl
        have c10 := HC0.out.cell 10 rfl
        go_wp2_with fail
        refine (HR.out _).mono ?_
        rintro e w2 ⟨rfl, g2⟩
        have HC2 := Lib.hid (HC0.out.grown0 g2)
        have G2 := Lib.hid (gb_trans HG.out g2)
        clear c0 c1 c2 c3 c4 c5 c6 c7 c8 c9 c10 HC0 g2 HG HR
        go_wp2_with fail
        refine (TR.out _).mono ?_
        rintro e w3 ⟨rfl, g3⟩
        have G3 := Lib.hid (gb_trans G2.out g3)
        clear g3 TR
        go_wp2
        go_ret
        exact ⟨rfl, G3.out⟩
end Go.Proofs.YtldkiddoajlohaaGreatDoor

/- The reference's costs of squares. -/
namespace Go.Proofs.YtldkiddoajlohaaGreatDoor
open Go.RowKit

set_option maxRecDepth 100000 in
set_option maxHeartbeats 8000000 in
theorem rsq_all (t : Tb) : ∀ (n : Nat), n ≤ 512 → ∀ (w : World), Calls Tryz.prog 39 #[t.v, .int .i64 n] w fun e w' => e = .returned (.int .i64 (sq t.clamp n)) ∧ w.grownBy w' none := by
  intro n
  induction n using Nat.strongRecOn with
  | _ n ih =>
    intro hs w
    have IH : ∀ p, p < n → ∀ (w : World), Calls Tryz.prog 39 #[t.v, .int .i64 p] w fun e w' => e = .returned (.int .i64 (sq t.clamp p)) ∧ w.grownBy w' none := fun p h => ih p h (by omega)
    clear ih
    have HR := Lib.hid (fun w => rroute_c w t n n (by omega) (by omega))
    rw [Nat.max_self, Nat.min_self] at HR
    have hcase : rt t.clamp n n = 0 ∨ rt t.clamp n n = 1 ∨ rt t.clamp n n = 2 ∨ rt t.clamp n n = 3 ∨ rt t.clamp n n = 4 ∨ rt t.clamp n n = 5 := by have := rt_le t.clamp n n; omega
    obtain ⟨K, hK⟩ : ∃ K, K = sq t.clamp n := ⟨_, rfl⟩
    have bK : K ≤ 10000000 := by rw [hK]; exact sq_lim t.clamp_ok hs
    rw [← hK]
    rcases hcase with cc | cc | cc | cc | cc | cc
    · rw [cc] at HR
      rw [sq_0 cc] at hK
      subst hK
      clear cc IH
      have C0 := cs_new w #[.int .i64 t.eb, .int .i64 t.et, .int .i64 t.en, .int .i64 t.ed, .int .i64 t.er, .int .i64 t.el, .int .i64 t.ex, .int .i64 t.ep, .int .i64 t.ek, .int .i64 t.es, .int .i64 t.ee] 23
      have hg := gb_alloc (gb_refl w none) (Obj.cells #[.int .i64 t.eb, .int .i64 t.et, .int .i64 t.en, .int .i64 t.ed, .int .i64 t.er, .int .i64 t.el, .int .i64 t.ex, .int .i64 t.ep, .int .i64 t.ek, .int .i64 t.es, .int .i64 t.ee] 23)
      have HG := Lib.hid hg
      have HC0 := Lib.hid C0
      clear C0 hg
      go_enter Tryz.func39, Tryz.ntmps39
      have c0 := HC0.out.cell 0 rfl
      have c1 := HC0.out.cell 1 rfl
      have c2 := HC0.out.cell 2 rfl
      have c3 := HC0.out.cell 3 rfl
      have c4 := HC0.out.cell 4 rfl
      have c5 := HC0.out.cell 5 rfl
      have c6 := HC0.out.cell 6 rfl
      have c7 := HC0.out.cell 7 rfl
      have c8 := HC0.out.cell 8 rfl
      have c9 := HC0.out.cell 9 rfl
      have c10 := HC0.out.cell 10 rfl
      go_wp2_with fail
      refine (HR.out _).mono ?_
      rintro e w2 ⟨rfl, g2⟩
      have HC2 := Lib.hid (HC0.out.grown0 g2)
      have G2 := Lib.hid (gb_trans HG.out g2)
      clear c0 c1 c2 c3 c4 c5 c6 c7 c8 c9 c10 HC0 g2 HG HR
      go_wp2
      go_ret
      exact ⟨rfl, G2.out⟩
    · rw [cc] at HR
      rw [sq_1 cc] at hK
      obtain ⟨N1, hN1⟩ : ∃ z, z = n + 1 := ⟨_, rfl⟩
      obtain ⟨Q, hQ⟩ : ∃ z, z = n * N1 := ⟨_, rfl⟩
      rw [← hN1, ← hQ] at hK
      have bQ : Q ≤ 513 * 513 := by rw [hQ]; exact Nat.mul_le_mul (by omega) (by omega)
      have eN1 : (n : Int) + 1 = (N1 : Int) := by omega
      have eQ : (n : Int) * (N1 : Int) = (Q : Int) := by rw [hQ]; exact (Int.natCast_mul _ _).symm
      have eK : (Q : Int) / 2 = (K : Int) := by omega
      clear cc IH hK hQ hN1
      have C0 := cs_new w #[.int .i64 t.eb, .int .i64 t.et, .int .i64 t.en, .int .i64 t.ed, .int .i64 t.er, .int .i64 t.el, .int .i64 t.ex, .int .i64 t.ep, .int .i64 t.ek, .int .i64 t.es, .int .i64 t.ee] 23
      have hg := gb_alloc (gb_refl w none) (Obj.cells #[.int .i64 t.eb, .int .i64 t.et, .int .i64 t.en, .int .i64 t.ed, .int .i64 t.er, .int .i64 t.el, .int .i64 t.ex, .int .i64 t.ep, .int .i64 t.ek, .int .i64 t.es, .int .i64 t.ee] 23)
      have HG := Lib.hid hg
      have HC0 := Lib.hid C0
      clear C0 hg
      go_enter Tryz.func39, Tryz.ntmps39
      have c0 := HC0.out.cell 0 rfl
      have c1 := HC0.out.cell 1 rfl
      have c2 := HC0.out.cell 2 rfl
      have c3 := HC0.out.cell 3 rfl
      have c4 := HC0.out.cell 4 rfl
      have c5 := HC0.out.cell 5 rfl
      have c6 := HC0.out.cell 6 rfl
      have c7 := HC0.out.cell 7 rfl
      have c8 := HC0.out.cell 8 rfl
      have c9 := HC0.out.cell 9 rfl
      have c10 := HC0.out.cell 10 rfl
      go_wp2_with fail
      refine (HR.out _).mono ?_
      rintro e w2 ⟨rfl, g2⟩
      have HC2 := Lib.hid (HC0.out.grown0 g2)
      have G2 := Lib.hid (gb_trans HG.out g2)
      clear c0 c1 c2 c3 c4 c5 c6 c7 c8 c9 c10 HC0 g2 HG HR
      go_wp2
      go_ret
      exact ⟨rfl, G2.out⟩
    · have q := rt_2 cc
      have b4 := t.clamp_ok.eb.1
      omega
    · have q := rt_3 cc
      have b4 := t.clamp_ok.eb.1
      rw [cc] at HR
      rw [sq_3 t.clamp_ok cc] at hK
      have I1 := fun w => IH ((n + 1) / 2) (by omega) w
      have I2 := fun w => IH (n - (n + 1) / 2) (by omega) w
      have I3 := fun w => IH ((n + 1) / 2 + 1) (by omega) w
      obtain ⟨h, hh⟩ : ∃ q, q = (n + 1) / 2 := ⟨_, rfl⟩
      obtain ⟨p, hp⟩ : ∃ q, q = n - h := ⟨_, rfl⟩
      obtain ⟨H, hH⟩ : ∃ H, H = h + 1 := ⟨_, rfl⟩
      have e1 : ((n : Int) + 1) / 2 = (h : Int) := by omega
      have e2 : (n : Int) - (h : Int) = (p : Int) := by omega
      have e4 : (h : Int) + 1 = (H : Int) := by omega
      rw [← hh] at I1 I2 I3 hK
      rw [← hp] at I2 hK
      rw [← hH] at I3 hK
      obtain ⟨k1, hk1⟩ : ∃ k, k = sq t.clamp h := ⟨_, rfl⟩
      obtain ⟨k2, hk2⟩ : ∃ k, k = sq t.clamp p := ⟨_, rfl⟩
      obtain ⟨k3, hk3⟩ : ∃ k, k = sq t.clamp H := ⟨_, rfl⟩
      rw [← hk1, ← hk2, ← hk3] at hK
      rw [← hk1] at I1
      rw [← hk2] at I2
      rw [← hk3] at I3
      obtain ⟨k12, hk12⟩ : ∃ k, k = k1 + k2 := ⟨_, rfl⟩
      have f1 : (k1 : Int) + (k2 : Int) = (k12 : Int) := by omega
      have f2 : (k12 : Int) + (k3 : Int) = (K : Int) := by omega
      have bb : h ≤ 1024 ∧ p ≤ 1024 ∧ H ≤ 1025 ∧ k1 ≤ 10000000 ∧ k2 ≤ 10000000 ∧ k3 ≤ 10000000 ∧ k12 ≤ 10000000 := by omega
      have HI1 := Lib.hid I1
      have HI2 := Lib.hid I2
      have HI3 := Lib.hid I3
      clear cc IH hK hk1 hk2 hk3 hk12 hh hp hH I1 I2 I3
      have C0 := cs_new w #[.int .i64 t.eb, .int .i64 t.et, .int .i64 t.en, .int .i64 t.ed, .int .i64 t.er, .int .i64 t.el, .int .i64 t.ex, .int .i64 t.ep, .int .i64 t.ek, .int .i64 t.es, .int .i64 t.ee] 23
      have hg := gb_alloc (gb_refl w none) (Obj.cells #[.int .i64 t.eb, .int .i64 t.et, .int .i64 t.en, .int .i64 t.ed, .int .i64 t.er, .int .i64 t.el, .int .i64 t.ex, .int .i64 t.ep, .int .i64 t.ek, .int .i64 t.es, .int .i64 t.ee] 23)
      have HG := Lib.hid hg
      have HC0 := Lib.hid C0
      clear C0 hg
      go_enter Tryz.func39, Tryz.ntmps39
      have c0 := HC0.out.cell 0 rfl
      have c1 := HC0.out.cell 1 rfl
      have c2 := HC0.out.cell 2 rfl
      have c3 := HC0.out.cell 3 rfl
      have c4 := HC0.out.cell 4 rfl
      have c5 := HC0.out.cell 5 rfl
      have c6 := HC0.out.cell 6 rfl
      have c7 := HC0.out.cell 7 rfl
      have c8 := HC0.out.cell 8 rfl
      have c9 := HC0.out.cell 9 rfl
      have c10 := HC0.out.cell 10 rfl
      go_wp2_with fail
      refine (HR.out _).mono ?_
      rintro e w2 ⟨rfl, g2⟩
      have HC2 := Lib.hid (HC0.out.grown0 g2)
      have G2 := Lib.hid (gb_trans HG.out g2)
      clear c0 c1 c2 c3 c4 c5 c6 c7 c8 c9 c10 HC0 g2 HG HR
      go_wp2
      have HSF : Hid (∀ W, Cs W w.heap.size t.vs → Canon.SF [(⟨w.heap.size, 0, none⟩, t.v), (⟨w.heap.size, 0, none⟩, t.v)] W) := Lib.hid (fun W C => Canon.sf_agg (fun j u h => C.at0 j h) (Canon.sf_agg (fun j u h => C.at0 j h) (Canon.sf_nil _)))
      refine Canon.region_held [26, 32] _ (by kernel_rfl) (by kernel_rfl) (HSF.out _ HC2.out) ?_
      have c0 := HC2.out.drew.cell 0 rfl
      have c1 := HC2.out.drew.cell 1 rfl
      have c2 := HC2.out.drew.cell 2 rfl
      have c3 := HC2.out.drew.cell 3 rfl
      have c4 := HC2.out.drew.cell 4 rfl
      have c5 := HC2.out.drew.cell 5 rfl
      have c6 := HC2.out.drew.cell 6 rfl
      have c7 := HC2.out.drew.cell 7 rfl
      have c8 := HC2.out.drew.cell 8 rfl
      have c9 := HC2.out.drew.cell 9 rfl
      have c10 := HC2.out.drew.cell 10 rfl
      refine Canon.segs_at 2 _ _ _ (by kernel_rfl) ?_
      simp only [List.take_succ_cons, List.take_zero, List.drop_succ_cons, List.drop_zero]
      go_wp2_with fail
      refine (HI1.out _).mono ?_
      rintro e w3 ⟨rfl, g3⟩
      have HC3 := Lib.hid (HC2.out.drew.grown0 g3)
      have G3 := Lib.hid (gb_trans (gb_drew G2.out) g3)
      clear c0 c1 c2 c3 c4 c5 c6 c7 c8 c9 c10 HC2 g3 G2 HI1
      go_wp2
      refine ⟨HSF.out _ HC3.out, ?_⟩
      have c0 := HC3.out.cell 0 rfl
      have c1 := HC3.out.cell 1 rfl
      have c2 := HC3.out.cell 2 rfl
      have c3 := HC3.out.cell 3 rfl
      have c4 := HC3.out.cell 4 rfl
      have c5 := HC3.out.cell 5 rfl
      have c6 := HC3.out.cell 6 rfl
      have c7 := HC3.out.cell 7 rfl
      have c8 := HC3.out.cell 8 rfl
      have c9 := HC3.out.cell 9 rfl
      have c10 := HC3.out.cell 10 rfl
      refine Canon.segs_at 4 _ _ _ (by kernel_rfl) ?_
      simp only [List.take_succ_cons, List.take_zero, List.drop_succ_cons, List.drop_zero]
      go_wp2_with fail
      refine (HI2.out _).mono ?_
      rintro e w4 ⟨rfl, g4⟩
      have HC4 := Lib.hid (HC3.out.grown0 g4)
      have G4 := Lib.hid (gb_trans G3.out g4)
      clear c0 c1 c2 c3 c4 c5 c6 c7 c8 c9 c10 HC3 g4 G3 HI2
      go_wp2
      refine ⟨HSF.out _ HC4.out, ?_⟩
      have c0 := HC4.out.cell 0 rfl
      have c1 := HC4.out.cell 1 rfl
      have c2 := HC4.out.cell 2 rfl
      have c3 := HC4.out.cell 3 rfl
      have c4 := HC4.out.cell 4 rfl
      have c5 := HC4.out.cell 5 rfl
      have c6 := HC4.out.cell 6 rfl
      have c7 := HC4.out.cell 7 rfl
      have c8 := HC4.out.cell 8 rfl
      have c9 := HC4.out.cell 9 rfl
      have c10 := HC4.out.cell 10 rfl
      refine Canon.segs_at 4 _ _ _ (by kernel_rfl) ?_
      simp only [List.take_succ_cons, List.take_zero, List.drop_succ_cons, List.drop_zero]
      go_wp2_with fail
      refine (HI3.out _).mono ?_
      rintro e w5 ⟨rfl, g5⟩
      have HC5 := Lib.hid (HC4.out.grown0 g5)
      have G5 := Lib.hid (gb_trans G4.out g5)
      clear c0 c1 c2 c3 c4 c5 c6 c7 c8 c9 c10 HC4 g5 G4 HI3
      go_wp2
      refine ⟨HSF.out _ HC5.out, ?_⟩
      refine Canon.segs_end _ _ _ (by kernel_rfl) ?_
      go_wp2
      refine ⟨by kernel_rfl, by kernel_rfl, by kernel_rfl, ?_⟩
      go_wp2
      go_ret
      exact ⟨rfl, G5.out⟩
    · have q := rt_4 cc
      have b4 := t.clamp_ok.eb.1
      rw [cc] at HR
      rw [sq_4 t.clamp_ok cc] at hK
      have I1 := fun w => IH ((n + 2) / 3) (by omega) w
      have I2 := fun w => IH ((n + 2) / 3 + 1) (by omega) w
      have I3 := fun w => IH (n - 2 * ((n + 2) / 3)) (by omega) w
      obtain ⟨h, hh⟩ : ∃ q, q = (n + 2) / 3 := ⟨_, rfl⟩
      obtain ⟨h2, hh2⟩ : ∃ q, q = 2 * h := ⟨_, rfl⟩
      obtain ⟨p, hp⟩ : ∃ q, q = n - h2 := ⟨_, rfl⟩
      obtain ⟨H, hH⟩ : ∃ H, H = h + 1 := ⟨_, rfl⟩
      have e1 : ((n : Int) + 2) / 3 = (h : Int) := by omega
      have e1' : 2 * (h : Int) = (h2 : Int) := by omega
      have e2 : (n : Int) - (h2 : Int) = (p : Int) := by omega
      have e4 : (h : Int) + 1 = (H : Int) := by omega
      rw [← hh] at I1 I2 I3 hK
      rw [← hh2] at I3 hK
      rw [← hp] at I3 hK
      rw [← hH] at I2 hK
      obtain ⟨k1, hk1⟩ : ∃ k, k = sq t.clamp h := ⟨_, rfl⟩
      obtain ⟨k2, hk2⟩ : ∃ k, k = sq t.clamp H := ⟨_, rfl⟩
      obtain ⟨k3, hk3⟩ : ∃ k, k = sq t.clamp p := ⟨_, rfl⟩
      rw [← hk1, ← hk2, ← hk3] at hK
      rw [← hk1] at I1
      rw [← hk2] at I2
      rw [← hk3] at I3
      obtain ⟨k22, hk22⟩ : ∃ k, k = 3 * k2 := ⟨_, rfl⟩
      obtain ⟨k12, hk12⟩ : ∃ k, k = k1 + k22 := ⟨_, rfl⟩
      have f0 : 3 * (k2 : Int) = (k22 : Int) := by omega
      have f1 : (k1 : Int) + (k22 : Int) = (k12 : Int) := by omega
      have f2 : (k12 : Int) + (k3 : Int) = (K : Int) := by omega
      have bb : h ≤ 1024 ∧ h2 ≤ 1024 ∧ p ≤ 1024 ∧ H ≤ 1025 ∧ k1 ≤ 10000000 ∧ k2 ≤ 10000000 ∧ k3 ≤ 10000000 ∧ k12 ≤ 10000000 ∧ k22 ≤ 10000000 := by omega
      have HI1 := Lib.hid I1
      have HI2 := Lib.hid I2
      have HI3 := Lib.hid I3
      clear cc IH hK hk1 hk2 hk3 hk12 hk22 hh hh2 hp hH I1 I2 I3
      have C0 := cs_new w #[.int .i64 t.eb, .int .i64 t.et, .int .i64 t.en, .int .i64 t.ed, .int .i64 t.er, .int .i64 t.el, .int .i64 t.ex, .int .i64 t.ep, .int .i64 t.ek, .int .i64 t.es, .int .i64 t.ee] 23
      have hg := gb_alloc (gb_refl w none) (Obj.cells #[.int .i64 t.eb, .int .i64 t.et, .int .i64 t.en, .int .i64 t.ed, .int .i64 t.er, .int .i64 t.el, .int .i64 t.ex, .int .i64 t.ep, .int .i64 t.ek, .int .i64 t.es, .int .i64 t.ee] 23)
      have HG := Lib.hid hg
      have HC0 := Lib.hid C0
      clear C0 hg
      go_enter Tryz.func39, Tryz.ntmps39
      have c0 := HC0.out.cell 0 rfl
      have c1 := HC0.out.cell 1 rfl
      have c2 := HC0.out.cell 2 rfl
      have c3 := HC0.out.cell 3 rfl
      have c4 := HC0.out.cell 4 rfl
      have c5 := HC0.out.cell 5 rfl
      have c6 := HC0.out.cell 6 rfl
      have c7 := HC0.out.cell 7 rfl
      have c8 := HC0.out.cell 8 rfl
      have c9 := HC0.out.cell 9 rfl
      have c10 := HC0.out.cell 10 rfl
      go_wp2_with fail
      refine (HR.out _).mono ?_
      rintro e w2 ⟨rfl, g2⟩
      have HC2 := Lib.hid (HC0.out.grown0 g2)
      have G2 := Lib.hid (gb_trans HG.out g2)
      clear c0 c1 c2 c3 c4 c5 c6 c7 c8 c9 c10 HC0 g2 HG HR
      go_wp2
      have HSF : Hid (∀ W, Cs W w.heap.size t.vs → Canon.SF [(⟨w.heap.size, 0, none⟩, t.v), (⟨w.heap.size, 0, none⟩, t.v)] W) := Lib.hid (fun W C => Canon.sf_agg (fun j u h => C.at0 j h) (Canon.sf_agg (fun j u h => C.at0 j h) (Canon.sf_nil _)))
      refine Canon.region_held [45, 51] _ (by kernel_rfl) (by kernel_rfl) (HSF.out _ HC2.out) ?_
      have c0 := HC2.out.drew.cell 0 rfl
      have c1 := HC2.out.drew.cell 1 rfl
      have c2 := HC2.out.drew.cell 2 rfl
      have c3 := HC2.out.drew.cell 3 rfl
      have c4 := HC2.out.drew.cell 4 rfl
      have c5 := HC2.out.drew.cell 5 rfl
      have c6 := HC2.out.drew.cell 6 rfl
      have c7 := HC2.out.drew.cell 7 rfl
      have c8 := HC2.out.drew.cell 8 rfl
      have c9 := HC2.out.drew.cell 9 rfl
      have c10 := HC2.out.drew.cell 10 rfl
      refine Canon.segs_at 2 _ _ _ (by kernel_rfl) ?_
      simp only [List.take_succ_cons, List.take_zero, List.drop_succ_cons, List.drop_zero]
      go_wp2_with fail
      refine (HI1.out _).mono ?_
      rintro e w3 ⟨rfl, g3⟩
      have HC3 := Lib.hid (HC2.out.drew.grown0 g3)
      have G3 := Lib.hid (gb_trans (gb_drew G2.out) g3)
      clear c0 c1 c2 c3 c4 c5 c6 c7 c8 c9 c10 HC2 g3 G2 HI1
      go_wp2
      refine ⟨HSF.out _ HC3.out, ?_⟩
      have c0 := HC3.out.cell 0 rfl
      have c1 := HC3.out.cell 1 rfl
      have c2 := HC3.out.cell 2 rfl
      have c3 := HC3.out.cell 3 rfl
      have c4 := HC3.out.cell 4 rfl
      have c5 := HC3.out.cell 5 rfl
      have c6 := HC3.out.cell 6 rfl
      have c7 := HC3.out.cell 7 rfl
      have c8 := HC3.out.cell 8 rfl
      have c9 := HC3.out.cell 9 rfl
      have c10 := HC3.out.cell 10 rfl
      refine Canon.segs_at 3 _ _ _ (by kernel_rfl) ?_
      simp only [List.take_succ_cons, List.take_zero, List.drop_succ_cons, List.drop_zero]
      go_wp2_with fail
      refine (HI2.out _).mono ?_
      rintro e w4 ⟨rfl, g4⟩
      have HC4 := Lib.hid (HC3.out.grown0 g4)
      have G4 := Lib.hid (gb_trans G3.out g4)
      clear c0 c1 c2 c3 c4 c5 c6 c7 c8 c9 c10 HC3 g4 G3 HI2
      go_wp2
      refine ⟨HSF.out _ HC4.out, ?_⟩
      have c0 := HC4.out.cell 0 rfl
      have c1 := HC4.out.cell 1 rfl
      have c2 := HC4.out.cell 2 rfl
      have c3 := HC4.out.cell 3 rfl
      have c4 := HC4.out.cell 4 rfl
      have c5 := HC4.out.cell 5 rfl
      have c6 := HC4.out.cell 6 rfl
      have c7 := HC4.out.cell 7 rfl
      have c8 := HC4.out.cell 8 rfl
      have c9 := HC4.out.cell 9 rfl
      have c10 := HC4.out.cell 10 rfl
      refine Canon.segs_at 7 _ _ _ (by kernel_rfl) ?_
      simp only [List.take_succ_cons, List.take_zero, List.drop_succ_cons, List.drop_zero]
      go_wp2_with fail
      refine (HI3.out _).mono ?_
      rintro e w5 ⟨rfl, g5⟩
      have HC5 := Lib.hid (HC4.out.grown0 g5)
      have G5 := Lib.hid (gb_trans G4.out g5)
      clear c0 c1 c2 c3 c4 c5 c6 c7 c8 c9 c10 HC4 g5 G4 HI3
      go_wp2
      refine ⟨HSF.out _ HC5.out, ?_⟩
      refine Canon.segs_end _ _ _ (by kernel_rfl) ?_
      go_wp2
      refine ⟨by kernel_rfl, by kernel_rfl, by kernel_rfl, ?_⟩
      go_wp2
      go_ret
      exact ⟨rfl, G5.out⟩
    · have q := rt_5 cc
      have b4 := t.clamp_ok.eb.1
      rw [cc] at HR
      rw [sq_5 cc] at hK
      have TR : Hid (∀ w, Calls Tryz.prog 50 #[.int .i64 n, .int .i64 n, .int .i64 2] w fun e w' => e = .returned (.int .i64 (K : Nat)) ∧ w.grownBy w' none) := Lib.hid (fun w => by rw [hK]; exact rtransf_c w n n 2 (by omega) (by omega) (by decide) (by omega))
      clear cc IH hK
      have C0 := cs_new w #[.int .i64 t.eb, .int .i64 t.et, .int .i64 t.en, .int .i64 t.ed, .int .i64 t.er, .int .i64 t.el, .int .i64 t.ex, .int .i64 t.ep, .int .i64 t.ek, .int .i64 t.es, .int .i64 t.ee] 23
      have hg := gb_alloc (gb_refl w none) (Obj.cells #[.int .i64 t.eb, .int .i64 t.et, .int .i64 t.en, .int .i64 t.ed, .int .i64 t.er, .int .i64 t.el, .int .i64 t.ex, .int .i64 t.ep, .int .i64 t.ek, .int .i64 t.es, .int .i64 t.ee] 23)
      have HG := Lib.hid hg
      have HC0 := Lib.hid C0
      clear C0 hg
      go_enter Tryz.func39, Tryz.ntmps39
      have c0 := HC0.out.cell 0 rfl
      have c1 := HC0.out.cell 1 rfl
      have c2 := HC0.out.cell 2 rfl
      have c3 := HC0.out.cell 3 rfl
      have c4 := HC0.out.cell 4 rfl
      have c5 := HC0.out.cell 5 rfl
      have c6 := HC0.out.cell 6 rfl
      have c7 := HC0.out.cell 7 rfl
      have c8 := HC0.out.cell 8 rfl
      have c9 := HC0.out.cell 9 rfl
      have c10 := HC0.out.cell 10 rfl
      go_wp2_with fail
      refine (HR.out _).mono ?_
      rintro e w2 ⟨rfl, g2⟩
      have HC2 := Lib.hid (HC0.out.grown0 g2)
      have G2 := Lib.hid (gb_trans HG.out g2)
      clear c0 c1 c2 c3 c4 c5 c6 c7 c8 c9 c10 HC0 g2 HG HR
      go_wp2_with fail
      refine (TR.out _).mono ?_
      rintro e w3 ⟨rfl, g3⟩
      have G3 := Lib.hid (gb_trans G2.out g3)
      clear g3 TR
      go_wp2
      go_ret
      exact ⟨rfl, G3.out⟩
end Go.Proofs.YtldkiddoajlohaaGreatDoor

/- Chapter 12: what its statements share. -/
namespace Go.Proofs.YtldkiddoajlohaaGreatDoor
open Go.RowKit

theorem blen_half {n : Nat} (h : 0 < n) : blen n = blen (n / 2) + 1 := by
  by_cases h1 : n = 1
  · subst h1
    exact blen_eq (by decide) (.inr (by decide))
  · exact blen_div 1 n (by omega)
theorem lwords_c (w : World) (v : Value) (xs : List Int) (h : Sl w v xs) : Calls Tryz.prog 21 #[v] w fun e w' => e = .returned (.int .i64 (trimZ xs).length) ∧ w' = w := by
  have HN := Lib.hid (nlen_c w v xs h)
  obtain ⟨A, c, rfl, _, _⟩ := h.form
  obtain ⟨p, hp⟩ : ∃ p, p = (trimZ xs).length := ⟨_, rfl⟩
  rw [← hp] at HN ⊢
  clear h hp
  go_enter Tryz.func21, Tryz.ntmps21
  go_wp2_with fail
  refine (HN.out).mono ?_
  rintro e w1 ⟨rfl, hw⟩
  go_wp2
  go_ret
  exact ⟨rfl, by first | exact hw | rfl⟩
theorem ldeep_c (w : World) (n : Nat) (hn : n ≤ 1024) : Calls Tryz.prog 27 #[.int .i64 n] w fun e w' => e = .returned (.int .i64 ((4 + 2 * blen n : Nat) : Int)) ∧ w.grownBy w' none := by
  have b0 := blen_le n 11 (by omega)
  obtain ⟨D, hD⟩ : ∃ D, D = 4 + 2 * blen n := ⟨_, rfl⟩
  rw [← hD]
  have bD : D ≤ 26 := by omega
  have HD := Lib.hid hD
  clear hD b0
  go_enter Tryz.func27, Tryz.ntmps27
  go_wp2
  go_loopw [0, 3] (fun v0 v3 wr => ∃ (k d : Nat), v0 = .int .i64 k ∧ v3 = .int .i64 d ∧ k ≤ 1024 ∧ d + 2 * blen k = D ∧ w.grownBy wr none) (fun v0 _ _ => (intOf v0).toNat)
  case atStart => exact ⟨n, 4, rfl, rfl, hn, HD.out.symm, gb_refl _ _⟩
  case round =>
    obtain ⟨k, d, rfl, rfl, hk, hd, G⟩ := hrel
    have HH := Lib.hid hd
    have bd : d ≤ 26 := by omega
    clear hd
    by_cases h0 : k = 0
    · subst h0
      have e : d = D := by have := HH.out; rw [show blen 0 = 0 from rfl] at this; omega
      subst e
      go_wp2
      go_ret
      exact ⟨rfl, G⟩
    · obtain ⟨k2, h2⟩ : ∃ z, z = k / 2 := ⟨_, rfl⟩
      have e2 : (k : Int) / 2 = (k2 : Int) := by omega
      have kp : 0 < k := by omega
      have HB : Hid (blen k = blen k2 + 1) := Lib.hid (by rw [h2]; exact blen_half kp)
      have lt : k2 < k := by omega
      clear h0 h2
      go_wp2
      go_roundw
      case rel => exact ⟨k2, d + 2, rfl, by go_num, by omega, by have := HH.out; have := HB.out; omega, G⟩
      case measure => simp [intOf]; omega
theorem lfrom_c (w : World) (v : Value) (xs : List Int) (L : Nat) (h : Sl w v xs) (hL : xs.length ≤ L) (hL1 : L ≤ 1000000) :
    Calls Tryz.prog 23 #[v] w fun e w' => ∃ u, e = .returned u ∧ Nm w' u (val B64 xs) (2 * L) ∧ w.grownBy w' none := by
  have HF := Lib.hid (from_c w v xs L h hL hL1)
  obtain ⟨A, c, rfl, _, _⟩ := h.form
  clear h
  go_enter Tryz.func23, Tryz.ntmps23
  go_wp2_with fail
  refine (HF.out).mono ?_
  rintro e w1 ⟨u, rfl, k⟩
  have KK := Lib.hid k
  clear k
  go_wp2
  go_ret
  exact ⟨u, rfl, KK.out⟩
theorem ws_1 {x : Int} (h : 0 ≤ x ∧ x < 18446744073709551616) : Ws [x] := fun y hy => by obtain rfl := List.mem_singleton.1 hy; exact h
theorem pts_lit3 (w : World) (x y z : Int) (hx : 0 ≤ x ∧ x < 18446744073709551616) (hy : 0 ≤ y ∧ y < 18446744073709551616) (hz : 0 ≤ z ∧ z < 18446744073709551616) :
    Pts ((((w.alloc (Obj.cells #[.int .u64 x] 79)).alloc (Obj.cells #[.int .u64 y] 79)).alloc (Obj.cells #[.int .u64 z] 79)).alloc (Obj.cells #[.slice (some ⟨w.heap.size, 0, none⟩) 1 1, .slice (some ⟨w.heap.size + 1, 0, none⟩) 1 1, .slice (some ⟨w.heap.size + 1 + 1, 0, none⟩) 1 1] 34))
      (.slice (some ⟨w.heap.size + 1 + 1 + 1, 0, none⟩) 3 3) 3 (fun j => [Value.slice (some ⟨w.heap.size, 0, none⟩) 1 1, .slice (some ⟨w.heap.size + 1, 0, none⟩) 1 1, .slice (some ⟨w.heap.size + 1 + 1, 0, none⟩) 1 1].getD j (.slice (some ⟨w.heap.size, 0, none⟩) 1 1)) (fun j => [[x], [y], [z]].getD j []) := by
  have s1 := sl_lit w 79 #[.int .u64 x] [x] 1 rfl (ws_1 hx) rfl (by decide)
  have s2 := sl_lit (w.alloc (Obj.cells #[.int .u64 x] 79)) 79 #[.int .u64 y] [y] 1 rfl (ws_1 hy) rfl (by decide)
  have s3 := sl_lit ((w.alloc (Obj.cells #[.int .u64 x] 79)).alloc (Obj.cells #[.int .u64 y] 79)) 79 #[.int .u64 z] [z] 1 rfl (ws_1 hz) rfl (by decide)
  rw [alloc_sz] at s2
  rw [alloc_sz, alloc_sz] at s3
  have P := pts3 (((w.alloc (Obj.cells #[.int .u64 x] 79)).alloc (Obj.cells #[.int .u64 y] 79)).alloc (Obj.cells #[.int .u64 z] 79)) 34 _ _ _ [x] [y] [z] ((s1.grown0 (gb_alloc (gb_refl _ none) _)).grown0 (gb_alloc (gb_refl _ none) _)) (s2.grown0 (gb_alloc (gb_refl _ none) _)) s3
  rw [alloc_sz, alloc_sz, alloc_sz] at P
  exact P
theorem Wo.lit {w : World} {base n : Nat} {v : Value} (h : Wo w base v n) {xs : List Int} (hw : Ws xs) (nz : Nz xs) (hv : val B64 xs = n) : Sl w v xs := by
  obtain ⟨zs, ow, nz', hv'⟩ := h
  obtain rfl := dg_ext (B := B64) (by decide) ow.ws.dg hw.dg nz' nz (hv'.trans hv.symm)
  exact ow.sl
set_option maxRecDepth 100000 in
theorem wakes12_c (w : World) (hd : Db w) : Calls Tryz.prog 17 #[] w fun e w' => e = .returned (.bool true) ∧ w.grownBy w' none := by
  have NW : Calls Tryz.prog 12 #[.agg #[.int .i64 0, .int .i64 0, .int .i64 0, .int .i64 0, .int .i64 0, .int .i64 0, .int .i64 0, .int .i64 0, .int .i64 0, .int .i64 0, .int .i64 0]] w fun e w' => ∃ g0 g1 g2 g3 gm, e = .returned (.pointer (some ⟨g0, 0, none⟩)) ∧ Eng w' g0 g1 g2 g3 gm ∧ w.heap.size ≤ gm ∧ Mt w' gm 0 0 ⟨0, tbT (Tb.clamp ⟨0, 0, 0, 0, 0, 0, 0, 0, 0, 0, 0⟩)⟩ ∧ w.grownBy w' none := mulNew_c w ⟨0, 0, 0, 0, 0, 0, 0, 0, 0, 0, 0⟩
  have HN := Lib.hid NW
  have HD := Lib.hid hd
  clear NW hd
  go_enter Tryz.func17, Tryz.ntmps17
  go_wp2_with fail
  refine (HN.out).mono ?_
  rintro e w1 ⟨g0, g1, g2, g3, gm, rfl, eg, hg, mt, g⟩
  have HE := Lib.hid eg
  have MT := Lib.hid mt
  have G1 := Lib.hid g
  have HGM : Hid (gm < w1.heap.size) := Lib.hid (World.block_lt_of_cell? w1 _ mt.c0)
  have HG := Lib.hid hg
  clear eg hg mt g HN
  have GA := gb_alloc (gb_alloc (gb_alloc (gb_alloc (gb_refl w1 none) (Obj.cells #[.int .u64 2] 79)) (Obj.cells #[.int .u64 3] 79)) (Obj.cells #[.int .u64 7] 79)) (Obj.cells #[.slice (some ⟨w1.heap.size, 0, none⟩) 1 1, .slice (some ⟨w1.heap.size + 1, 0, none⟩) 1 1, .slice (some ⟨w1.heap.size + 1 + 1, 0, none⟩) 1 1] 34)
  have PT := pts_lit3 w1 2 3 7 (by decide) (by decide) (by decide)
  have P1 := Lib.hid (product_all (Tb.clamp_ok ⟨0, 0, 0, 0, 0, 0, 0, 0, 0, 0, 0⟩) 3 (by decide) _ g0 g1 g2 g3 gm 0 0 _ _ _ _ (HE.out.grown0 GA) (HD.out.grown0 (gb_trans G1.out GA)) (MT.out.grown GA) rfl (by decide) (by decide) PT (off_some (by have := HGM.out; omega)) (fun j hj => by
    have h := HGM.out
    rcases (show j = 0 ∨ j = 1 ∨ j = 2 by omega) with rfl | rfl | rfl
    · exact off_some (by omega)
    · exact off_some (by omega)
    · exact off_some (by omega)) (by decide))
  have GAA := Lib.hid (gb_trans G1.out GA)
  have HEA := Lib.hid (HE.out.grown0 GA)
  have HDA := Lib.hid (HD.out.grown0 (gb_trans G1.out GA))
  have MTA := Lib.hid (MT.out.grown GA)
  clear PT GA
  go_wp2_with fail
  refine (P1.out).mono ?_
  rintro e w2 ⟨x, c2, a2, rfl, o2, m2, ha2, t2, g2'⟩
  have X2 := Lib.hid (o2.lit (xs := [42]) (ws_1 (by decide)) rfl rfl)
  have M2 := Lib.hid m2
  have A2 := Lib.hid ha2
  have T2 := Lib.hid t2
  have E2 := Lib.hid (HEA.out.grown g2')
  have D2 := Lib.hid (HDA.out.grown MTA.out g2')
  have G2 := Lib.hid (gb_new GAA.out g2' (fun i hi => by cases hi; exact HG.out))
  clear o2 m2 ha2 t2 g2' P1 HEA HDA MTA GAA
  have GB := gb_alloc (gb_refl w2 none) (Obj.cells #[.int .u64 42] 79)
  have S1 := Lib.hid (same_c _ x _ [42] [42] (X2.out.grown0 GB) (sl_lit w2 79 #[.int .u64 42] [42] 1 rfl (ws_1 (by decide)) rfl (by decide)))
  rw [decide_eq_true rfl] at S1
  have G2B := Lib.hid (gb_trans G2.out GB)
  have GBH := Lib.hid GB
  clear GB
  go_wp2_with fail
  refine (S1.out).mono ?_
  rintro e w3 ⟨rfl, g3'⟩
  have GC := gb_trans GBH.out g3'
  have P2 := Lib.hid (product_all (Tb.clamp_ok ⟨0, 0, 0, 0, 0, 0, 0, 0, 0, 0, 0⟩) 0 (by decide) w3 g0 g1 g2 g3 gm a2 0 c2 (.slice none 0 0) (fun _ => undef) (fun _ => []) (E2.out.grown0 GC) (D2.out.grown0 GC) (M2.out.grown GC) T2.out (by decide) (by have := A2.out.1; omega) ⟨cells_none _ _ _, fun j hj => by omega⟩ (fun b hb => by simp [Value.ownBlock] at hb) (fun j hj => by omega) (by decide))
  have G3 := Lib.hid (gb_trans G2B.out g3')
  have MM := Lib.hid (M2.out.grown GC)
  clear GC g3' S1 E2 D2 M2 A2 G2B
  go_wp2_with fail
  refine (P2.out).mono ?_
  rintro e w4 ⟨x2, c4, a4, rfl, o4, m4, ha4, t4, g4'⟩
  have X4 := Lib.hid (o4.lit (xs := [1]) (ws_1 (by decide)) rfl rfl)
  have G4 := Lib.hid (gb_new G3.out g4' (fun i hi => by cases hi; exact HG.out))
  clear o4 m4 ha4 t4 g4' P2
  have GB := gb_alloc (gb_refl w4 none) (Obj.cells #[.int .u64 1] 79)
  have S2 := Lib.hid (same_c _ x2 _ [1] [1] (X4.out.grown0 GB) (sl_lit w4 79 #[.int .u64 1] [1] 1 rfl (ws_1 (by decide)) rfl (by decide)))
  rw [decide_eq_true rfl] at S2
  have G4B := Lib.hid (gb_trans G4.out GB)
  clear GB
  go_wp2_with fail
  refine (S2.out).mono ?_
  rintro e w5 ⟨rfl, g5'⟩
  have G5 := Lib.hid (gb_trans G4B.out g5')
  clear g5' S2
  go_wp2
  go_ret
  exact ⟨rfl, G5.out⟩
end Go.Proofs.YtldkiddoajlohaaGreatDoor

/- Engines: products of any rows. -/
namespace Go.Proofs.YtldkiddoajlohaaGreatDoor
open Go.RowKit

theorem En.mul2 {u : Tb} (hu : TbOk u) {w : World} {g0 g1 g2 g3 gm : Nat} {a : Int} {c : Mc} (h : En w u g0 g1 g2 g3 gm a c) (hd : Db w) (ha0 : a ≤ 900000000000000) {va vb : Value} {al bl : List Int} (ha : Sl w va al) (hb : Sl w vb bl) (hna : al = [] ∨ Off va gm) (hnb : bl = [] ∨ Off vb gm) (hl : al.length + bl.length ≤ 1024) :
    Calls Tryz.prog 20 #[.pointer (some ⟨g0, 0, none⟩), va, vb] w fun e w' => ∃ x c' a', e = .returned x ∧ Wo w' w.heap.size x (val B64 al * val B64 bl) ∧ En w' u g0 g1 g2 g3 gm a' c' ∧ a' ≤ a + 10000000 ∧ w.grownBy w' (some gm) :=
  (h.mul hu hd ha0 ha hb hna hnb hl).mono fun _ _ ⟨x, c', e1, k1, k2, k3⟩ => ⟨x, c', _, e1, k1, k2, by
    have := cost_lim hu (n := (trimZ al).length) (m := (trimZ bl).length) (by have := trimZ_len al; have := trimZ_len bl; omega)
    omega, k3⟩
theorem En.sqr2 {u : Tb} (hu : TbOk u) {w : World} {g0 g1 g2 g3 gm : Nat} {a : Int} {c : Mc} (h : En w u g0 g1 g2 g3 gm a c) (hd : Db w) (ha0 : a ≤ 900000000000000) {va : Value} {al : List Int} (ha : Sl w va al) (hna : al = [] ∨ Off va gm) (hl : al.length ≤ 512) :
    Calls Tryz.prog 35 #[.pointer (some ⟨g0, 0, none⟩), va] w fun e w' => ∃ x c' a', e = .returned x ∧ Wo w' w.heap.size x (val B64 al * val B64 al) ∧ En w' u g0 g1 g2 g3 gm a' c' ∧ a' ≤ a + 10000000 ∧ w.grownBy w' (some gm) :=
  (h.sqr hu hd ha0 ha hna hl).mono fun _ _ ⟨x, c', e1, k1, k2, k3⟩ => ⟨x, c', _, e1, k1, k2, by
    have := sq_lim hu (n := (trimZ al).length) (by have := trimZ_len al; omega)
    omega, k3⟩
theorem En.prod {u : Tb} (hu : TbOk u) {w : World} {g0 g1 g2 g3 gm : Nat} {a : Int} {c : Mc} (h : En w u g0 g1 g2 g3 gm a c) (hd : Db w) {n : Nat} (hn : n ≤ 1000) (ha0 : a + (n : Int) * 100000000 ≤ 900000000000000) {v : Value} {V : Nat → Value} {X : Nat → List Int} (hp : Pts w v n V X) (ho : Off v gm) (hV : ∀ j, j < n → X j = [] ∨ Off (V j) gm) (hl : tot X 0 n ≤ 1000) :
    Calls Tryz.prog 16 #[.pointer (some ⟨g0, 0, none⟩), v] w fun e w' => ∃ x c' a', e = .returned x ∧ Wo w' w.heap.size x (prV (fun j => val B64 (X j)) 0 n) ∧ En w' u g0 g1 g2 g3 gm a' c' ∧ a' ≤ a + (n : Int) * 100000000 ∧ w.grownBy w' (some gm) :=
  (product_all2 hu n hn w g0 g1 g2 g3 gm a 0 c v V X h.e hd h.m h.t (by decide) ha0 hp ho hV hl).mono fun _ _ ⟨x, c', a', e1, k1, k2, k3, k4, k5⟩ => ⟨x, c', a', e1, k1, ⟨h.e.grown k5, k2, k4⟩, k3.1, k5⟩
theorem vs_int (u : Tb) (j : Nat) {v : Value} (h : u.vs[j]? = some v) : ∃ z, v = .int .i64 z := by
  have hj : j < 11 := by
    have := (List.getElem?_eq_some_iff.1 h).1
    exact this
  rcases (show j = 0 ∨ j = 1 ∨ j = 2 ∨ j = 3 ∨ j = 4 ∨ j = 5 ∨ j = 6 ∨ j = 7 ∨ j = 8 ∨ j = 9 ∨ j = 10 by omega) with rfl | rfl | rfl | rfl | rfl | rfl | rfl | rfl | rfl | rfl | rfl <;> exact ⟨_, (Option.some.inj h).symm⟩
/-- No row lies in a meter's block. -/
theorem En.off {u : Tb} {w : World} {g0 g1 g2 g3 gm : Nat} {a : Int} {c : Mc} (h : En w u g0 g1 g2 g3 gm a c) {v : Value} {xs : List Int} (s : Sl w v xs) : xs = [] ∨ Off v gm := by
  cases xs with
  | nil => exact .inl rfl
  | cons x xs =>
    right
    obtain ⟨A, k, rfl, h1, h2, h3, h4⟩ := s
    obtain ⟨b, o, rfl, hc⟩ := h4 (by simp)
    have hx := hc 0 (by simp)
    rw [Nat.add_zero] at hx
    intro b' hb' e
    simp only [Value.ownBlock, Option.some.injEq] at hb'
    subst hb'
    subst e
    have kind : ∀ z, World.cell? w ⟨b, o, none⟩ ≠ some (.int .i64 z) := fun z hz => by
      rw [hx] at hz
      simp at hz
    by_cases o3 : 3 ≤ o
    · have hr := h.m.rest o o3
      rw [h.t] at hr
      unfold tbT at hr
      rw [if_pos o3, hx] at hr
      obtain ⟨z, hz⟩ := vs_int u (o - 3) hr.symm
      simp at hz
    · rcases (show o = 0 ∨ o = 1 ∨ o = 2 by omega) with rfl | rfl | rfl
      · exact kind _ h.m.c0
      · exact kind _ h.m.c1
      · exact kind _ h.m.c2
theorem En.sl {u : Tb} {w w' : World} {g0 g1 g2 g3 gm : Nat} {a : Int} {c : Mc} (h : En w u g0 g1 g2 g3 gm a c) {v : Value} {xs : List Int} (s : Sl w v xs) (g : w.grownBy w' (some gm)) : Sl w' v xs := s.offX (h.off s) g
theorem En.nm {u : Tb} {w w' : World} {g0 g1 g2 g3 gm : Nat} {a : Int} {c : Mc} (h : En w u g0 g1 g2 g3 gm a c) {v : Value} {n L : Nat} (s : Nm w v n L) (g : w.grownBy w' (some gm)) : Nm w' v n L := by
  obtain ⟨xs, h1, h2⟩ := s; exact ⟨xs, h.sl h1 g, h2⟩
end Go.Proofs.YtldkiddoajlohaaGreatDoor

/- Chapter 12: products by each route. -/
namespace Go.Proofs.YtldkiddoajlohaaGreatDoor
open Go.RowKit

/-- Where a route can go. -/
def mb (n m r : Nat) : Bool := decide (0 < m) && (r == 1 || r == 2 || (r == 3 && decide ((n + 1) / 2 < m)) || (r == 4 && decide (2 * ((n + 2) / 3) < m)) || r == 5)
theorem mb_iff (n m r : Nat) : mb n m r = true ↔ 0 < m ∧ feas r n m := by
  unfold mb feas
  simp only [Bool.and_eq_true, Bool.or_eq_true, decide_eq_true_eq, beq_iff_eq]
  omega
theorem mb_false {n m r : Nat} (h : mb n m r = false) : m = 0 ∨ ¬ feas r n m := by
  rcases Nat.eq_zero_or_pos m with hz | hz
  · exact .inl hz
  · right
    intro hf
    rw [(mb_iff n m r).2 ⟨hz, hf⟩] at h
    cases h
theorem En.byYes {u : Tb} (hu : TbOk u) {w : World} {g0 g1 g2 g3 gm : Nat} {a : Int} {c : Mc} (h : En w u g0 g1 g2 g3 gm a c) (hd : Db w) (ha0 : a ≤ 900000000000000) {va vb : Value} {al bl : List Int} (ha : Sl w va al) (hb : Sl w vb bl) (hl : al.length + bl.length ≤ 500) {r : Int} (h0 : 0 < min (trimZ al).length (trimZ bl).length) (hf : feas r (max (trimZ al).length (trimZ bl).length) (min (trimZ al).length (trimZ bl).length)) :
    Calls Tryz.prog 31 #[.pointer (some ⟨g0, 0, none⟩), .int .i64 r, va, vb] w fun e w' => ∃ x c' a', e = .returned (.tuple #[x, .bool true]) ∧ Wo w' w.heap.size x (val B64 al * val B64 bl) ∧ En w' u g0 g1 g2 g3 gm a' c' ∧ a' ≤ a + 100000000 ∧ w.grownBy w' (some gm) := by
  have n1 : al ≠ [] := fun e => by rw [e] at h0; simp [trimZ_nil] at h0
  have n2 : bl ≠ [] := fun e => by rw [e] at h0; simp [trimZ_nil] at h0
  have o1 : Off va gm := (h.off ha).resolve_left n1
  have o2 : Off vb gm := (h.off hb).resolve_left n2
  exact (by_yes hu w g0 g1 g2 g3 gm a 0 c va vb al bl r h.e hd h.m h.t (by decide) ha0 ha hb o1 o2 hl h0 hf).mono fun _ _ ⟨x, c', k, e1, hk, q⟩ => ⟨x, c', _, e1, q.1, ⟨h.e.grown q.2.2.2, q.2.1, q.2.2.1.1⟩, by omega, q.2.2.2⟩
set_option maxRecDepth 100000 in
set_option maxHeartbeats 4000000 in
theorem MulRoutes_walk (t : Tb) (va : Value) (al0 : List Int) (vb : Value) (bl0 : List Int) (r0 : Int) (w : World) (ha : Sl w va al0) (hb : Sl w vb bl0) (hr0 : -9223372036854775808 ≤ r0 ∧ r0 ≤ 9223372036854775807) (hd : Db w) :
    Calls Tryz.prog 5 #[t.v, va, vb, .int .i64 r0] w fun e w' => e = .returned (.bool true) ∧ w.grownBy w' none := by
  have C0 := cs_new w #[.int .i64 t.eb, .int .i64 t.et, .int .i64 t.en, .int .i64 t.ed, .int .i64 t.er, .int .i64 t.el, .int .i64 t.ex, .int .i64 t.ep, .int .i64 t.ek, .int .i64 t.es, .int .i64 t.ee] 23
  have hg := gb_alloc (gb_refl w none) (Obj.cells #[.int .i64 t.eb, .int .i64 t.et, .int .i64 t.en, .int .i64 t.ed, .int .i64 t.er, .int .i64 t.el, .int .i64 t.ex, .int .i64 t.ep, .int .i64 t.ek, .int .i64 t.es, .int .i64 t.ee] 23)
  have HG := Lib.hid hg
  have HC0 := Lib.hid C0
  have CA := Lib.hid (fun w1 (g : w.grownBy w1 none) => cut_c w1 va al0 60 (by decide) (ha.grown0 g))
  have CB := Lib.hid (fun w1 (g : w.grownBy w1 none) => cut_c w1 vb bl0 60 (by decide) (hb.grown0 g))
  obtain ⟨A, ca, rfl, _, _⟩ := ha.form
  obtain ⟨B, cb, rfl, _, _⟩ := hb.form
  have HD := Lib.hid hd
  clear ha hb hd C0 hg
  go_enter Tryz.func5, Tryz.ntmps5
  go_wp2_with fail
  refine (CA.out _ HG.out).mono ?_
  rintro e w1 ⟨ua, rfl, ha, hw1⟩
  rw [← hw1] at HG HC0 ha
  clear hw1
  go_wp2_with fail
  refine (CB.out _ HG.out).mono ?_
  rintro e w2 ⟨ub, rfl, hb, hw1⟩
  subst hw1
  obtain ⟨al, hal⟩ : ∃ l, l = al0.take 60 := ⟨_, rfl⟩
  obtain ⟨bl, hbl⟩ : ∃ l, l = bl0.take 60 := ⟨_, rfl⟩
  rw [← hal] at ha
  rw [← hbl] at hb
  have ll : Hid (al.length ≤ 60 ∧ bl.length ≤ 60) := Lib.hid (by rw [hal, hbl, List.length_take, List.length_take]; omega)
  clear hal hbl CA CB
  obtain ⟨A', ca', rfl, hca, _⟩ := ha.form
  obtain ⟨B', cb', rfl, hcb, _⟩ := hb.form
  have HA := Lib.hid ha
  have HB := Lib.hid hb
  have HD2 := Lib.hid (HD.out.grown0 HG.out)
  have NW := Lib.hid (fun w => En.new w t)
  obtain ⟨n, hn⟩ : ∃ n, n = al.length := ⟨_, rfl⟩
  obtain ⟨m, hm⟩ : ∃ n, n = bl.length := ⟨_, rfl⟩
  rw [← hn] at HA hca ⊢
  rw [← hm] at HB hcb ⊢
  clear HD ha hb hn hm
  have U := Lib.hid t.clamp_ok
  have c0 := HC0.out.cell 0 rfl
  have c1 := HC0.out.cell 1 rfl
  have c2 := HC0.out.cell 2 rfl
  have c3 := HC0.out.cell 3 rfl
  have c4 := HC0.out.cell 4 rfl
  have c5 := HC0.out.cell 5 rfl
  have c6 := HC0.out.cell 6 rfl
  have c7 := HC0.out.cell 7 rfl
  have c8 := HC0.out.cell 8 rfl
  have c9 := HC0.out.cell 9 rfl
  have c10 := HC0.out.cell 10 rfl
  go_wp2_with fail
  refine (NW.out _).mono ?_
  rintro e w3 ⟨g0, g1, g2, g3, gm, rfl, en, hgm, g3'⟩
  clear c0 c1 c2 c3 c4 c5 c6 c7 c8 c9 c10
  have E3 := Lib.hid en
  have G3 := Lib.hid g3'
  have HGM := Lib.hid hgm
  clear en g3' hgm NW HC0
  have FA := Lib.hid (lfrom_c w3 _ al 60 (HA.out.grown0 G3.out) (by have := ll.out; omega) (by decide))
  go_wp2_with fail
  refine (FA.out).mono ?_
  rintro e w4 ⟨y1, rfl, n1, g4⟩
  have NA := Lib.hid n1
  have F4 := Lib.hid g4
  have FB := Lib.hid (lfrom_c w4 _ bl 60 ((HB.out.grown0 G3.out).grown0 g4) (by have := ll.out; omega) (by decide))
  clear n1 g4 FA
  go_wp2_with fail
  refine (FB.out).mono ?_
  rintro e w5 ⟨y2, rfl, n2, g5⟩
  have MU := Lib.hid (mul_c w5 y1 y2 _ _ _ _ (NA.out.grown0 g5) n2 (by decide) (by decide))
  have F5 := Lib.hid (gb_trans F4.out g5)
  clear n2 g5 FB NA F4
  go_wp2_with fail
  refine (MU.out).mono ?_
  rintro e w9 ⟨pp, rfl, np, g6⟩
  have NP := Lib.hid np
  have F9 := gb_trans F5.out g6
  have G9 := Lib.hid (gb_trans G3.out F9)
  have E9 := Lib.hid (E3.out.grown0 F9)
  clear np g6 MU F5 F9 E3
  have WA := fun w' (g : w2.grownBy w' none) => lwords_c w' _ al (HA.out.grown0 g)
  have WB := fun w' (g : w2.grownBy w' none) => lwords_c w' _ bl (HB.out.grown0 g)
  have l1 := trimZ_len al
  have l2 := trimZ_len bl
  obtain ⟨p, hp⟩ : ∃ p, p = (trimZ al).length := ⟨_, rfl⟩
  obtain ⟨q, hq⟩ : ∃ p, p = (trimZ bl).length := ⟨_, rfl⟩
  rw [← hp] at l1 WA
  rw [← hq] at l2 WB
  have bpq : p ≤ 60 ∧ q ≤ 60 := by have := ll.out; omega
  have HPQ := Lib.hid (And.intro hp hq)
  have HWA := Lib.hid WA
  have HWB := Lib.hid WB
  clear hp hq WA WB l1 l2
  go_wp2_with fail
  refine (HWA.out w9 G9.out).mono ?_
  rintro e wx ⟨rfl, hw⟩
  rw [hw]
  clear hw
  go_wp2_with fail
  refine (HWB.out w9 G9.out).mono ?_
  rintro e wx ⟨rfl, hw⟩
  rw [hw]
  clear hw
  rcases Nat.lt_trichotomy p q with hpq | hpq | hpq
  · have q1 : (p < q) = True := by simp; exact hpq
    have q2 : (q < p) = False := by simp; omega
    go_wp2_with fail
    refine (HWA.out w9 G9.out).mono ?_
    rintro e wx ⟨rfl, hw⟩
    rw [hw]
    clear hw HWA
    go_wp2_with fail
    refine (HWB.out w9 G9.out).mono ?_
    rintro e wx ⟨rfl, hw⟩
    rw [hw]
    clear hw HWB
    obtain ⟨H2, hH2⟩ : ∃ H, H = (q + 1) / 2 := ⟨_, rfl⟩
    obtain ⟨K, hK⟩ : ∃ H, H = (q + 2) / 3 := ⟨_, rfl⟩
    have eH2 : ((q : Int) + 1) / 2 = (H2 : Int) := by omega
    have eK : ((q : Int) + 2) / 3 = (K : Int) := by omega
    obtain ⟨K2, hK2⟩ : ∃ H, H = 2 * K := ⟨_, rfl⟩
    have eK2 : 2 * (K : Int) = (K2 : Int) := by omega
    by_cases hM0 : p = 0
    · have f1 : (0 < p) = False := by simp; exact hM0
      have HL : Hid (∀ r, r < 6 → ([.bool false, .bool false, .bool false, .bool false, .bool false, .bool false] : List Value)[r]? = some (.bool (mb q p r))) := Lib.hid (fun r hr => by
        have e0 : mb q p 0 = false := by rw [Bool.eq_iff_iff, mb_iff]; unfold feas; simp
        have e1 : mb q p 1 = false := by rw [Bool.eq_iff_iff, mb_iff]; unfold feas; simp; try omega
        have e2 : mb q p 2 = false := by rw [Bool.eq_iff_iff, mb_iff]; unfold feas; simp; try omega
        have e3 : mb q p 3 = false := by rw [Bool.eq_iff_iff, mb_iff]; unfold feas; simp; try omega
        have e4 : mb q p 4 = false := by rw [Bool.eq_iff_iff, mb_iff]; unfold feas; simp; try omega
        have e5 : mb q p 5 = false := by rw [Bool.eq_iff_iff, mb_iff]; unfold feas; simp; try omega
        rcases (show r = 0 ∨ r = 1 ∨ r = 2 ∨ r = 3 ∨ r = 4 ∨ r = 5 by omega) with rfl | rfl | rfl | rfl | rfl | rfl
        · rw [e0]; rfl
        · rw [e1]; rfl
        · rw [e2]; rfl
        · rw [e3]; rfl
        · rw [e4]; rfl
        · rw [e5]; rfl)
      clear hH2 hK hK2
      go_wp2
      clear eH2 eK eK2
      have CAA := Lib.hid (cs_new w9 #[.bool false, .bool false, .bool false, .bool false, .bool false, .bool false] 66)
      have GAA := Lib.hid (gb_alloc (gb_refl w9 none) (Obj.cells #[.bool false, .bool false, .bool false, .bool false, .bool false, .bool false] 66))
      go_loopw [14] (fun v14 wr => ∃ (r : Nat) (a : Int) (c : Mc), v14 = .int .i64 r ∧ r ≤ 6 ∧ En wr t.clamp g0 g1 g2 g3 gm a c ∧ a ≤ (r : Int) * 100000000 ∧ Cs wr w9.heap.size [.bool false, .bool false, .bool false, .bool false, .bool false, .bool false] ∧ Nm wr pp (val B64 al * val B64 bl) (2 * 60 + 2 * 60) ∧ w2.grownBy wr none) (fun v14 _ => 6 - (intOf v14).toNat)
      case atStart => exact ⟨0, 0, _, rfl, by decide, E9.out.grown0 GAA.out, by decide, CAA.out, NP.out.grown0 GAA.out, gb_trans G9.out GAA.out⟩
      case round =>
        obtain ⟨r, a, c, rfl, hr, en, ha, cs, np, G⟩ := hrel
        have EN := Lib.hid en
        have CS := Lib.hid cs
        have NPR := Lib.hid np
        have GG := Lib.hid G
        have AA := Lib.hid ha
        clear en cs np G ha
        by_cases hr6 : r < 6
        · have hc := CS.out.cell r (HL.out r hr6)
          by_cases hmb : mb q p r = true
          · have BY := EN.out.byYes U.out (HD2.out.grown0 GG.out) (by have := AA.out; omega) (HA.out.grown0 GG.out) (HB.out.grown0 GG.out) (r := (r : Int)) (by have := ll.out; omega) (by rw [← HPQ.out.1, ← HPQ.out.2]; have := ((mb_iff _ _ _).1 hmb).1; omega) (by
              rw [← HPQ.out.1, ← HPQ.out.2, show max p q = q by omega, show min p q = p by omega]
              exact ((mb_iff _ _ _).1 hmb).2)
            have HBY := Lib.hid BY
            have HC := Lib.hid (HL.out r hr6)
            rw [hmb] at HC
            clear BY hc hmb
            go_wp2_with fail
            refine (HBY.out).mono ?_
            rintro e w10 ⟨x, c10, a10, rfl, o10, en, ha10, g10⟩
            have E10 := Lib.hid en
            have A10 : Hid (a10 ≤ ((r + 1 : Nat) : Int) * 100000000) := Lib.hid (by have := AA.out; omega)
            have G10 := Lib.hid (gb_new GG.out g10 (fun i hi => by cases hi; exact HGM.out))
            have hne9 : w9.heap.size ≠ gm := by
              have := E9.out.lt
              omega
            have CS10 := Lib.hid (CS.out.grown g10 (by simpa using hne9))
            have NP10 := Lib.hid (EN.out.nm NPR.out g10)
            have SM := Lib.hid (same2_c w10 pp x _ _ NP10.out o10.wd (by decide))
            obtain ⟨X, nx, cx, rfl⟩ := o10.form
            have hc := CS10.out.cell r HC.out
            clear o10 en ha10 g10 HBY
            go_wp2_with fail
            refine (SM.out).mono ?_
            rintro e w11 ⟨rfl, g11⟩
            have G11 := Lib.hid (gb_trans G10.out g11)
            have E11 := Lib.hid (E10.out.grown0 g11)
            have CS11 := Lib.hid (CS10.out.grown0 g11)
            have NP11 := Lib.hid (NP10.out.grown0 g11)
            clear g11 SM hc E10 CS10 NP10 G10
            go_wp2
            go_roundw
            case rel => exact ⟨r + 1, a10, c10, by go_num, by omega, E11.out, A10.out, CS11.out, NP11.out, G11.out⟩
            case measure => simp [intOf]; omega
          · have hmf : mb q p r = false := by simpa using hmb
            have BY := by_no wr g0 g1 g2 g3 gm _ _ al bl (r : Int) EN.out.e (HA.out.grown0 GG.out) (HB.out.grown0 GG.out) (by have := ll.out; omega) (by
              rw [← HPQ.out.1, ← HPQ.out.2, show max p q = q by omega, show min p q = p by omega]
              exact mb_false hmf)
            have HBY := Lib.hid BY
            rw [hmf] at hc
            clear BY hmf hmb
            go_wp2_with fail
            refine (HBY.out).mono ?_
            rintro e wx ⟨rfl, hw⟩
            rw [hw]
            clear hw HBY
            go_wp2
            clear hc
            go_roundw
            case rel => exact ⟨r + 1, a, c, by go_num, by omega, EN.out, by have := AA.out; omega, CS.out, NPR.out, GG.out⟩
            case measure => simp [intOf]; omega
        · obtain rfl : r = 6 := by omega
          by_cases hin : 1 ≤ r0 ∧ r0 ≤ 5
          · obtain ⟨k, hk⟩ : ∃ k : Nat, (k : Int) = r0 := ⟨r0.toNat, by omega⟩
            have p1 : (r0 < 1) = False := by simp; omega
            have p2 : ((5 : Int) < r0) = False := by simp; omega
            subst hk
            have hk6 : k < 6 := by omega
            by_cases hmb : mb q p k = true
            · have BY := EN.out.byYes U.out (HD2.out.grown0 GG.out) (by have := AA.out; omega) (HA.out.grown0 GG.out) (HB.out.grown0 GG.out) (r := (k : Int)) (by have := ll.out; omega) (by rw [← HPQ.out.1, ← HPQ.out.2]; have := ((mb_iff _ _ _).1 hmb).1; omega) (by
                rw [← HPQ.out.1, ← HPQ.out.2, show max p q = q by omega, show min p q = p by omega]
                exact ((mb_iff _ _ _).1 hmb).2)
              have HBY := Lib.hid BY
              have HC := Lib.hid (HL.out k hk6)
              rw [hmb] at HC
              clear BY hmb
              go_wp2_with fail
              refine (HBY.out).mono ?_
              rintro e w10 ⟨x, c10, a10, rfl, o10, en, ha10, g10⟩
              have G10 := Lib.hid (gb_new GG.out g10 (fun i hi => by cases hi; exact HGM.out))
              have hne9 : w9.heap.size ≠ gm := by
                have := E9.out.lt
                omega
              have hc := (CS.out.grown g10 (by simpa using hne9)).cell k HC.out
              have WK := Lib.hid (wakes12_c w10 (HD2.out.grown0 G10.out))
              obtain ⟨X, nx, cx, rfl⟩ := o10.form
              clear o10 en ha10 g10 HBY
              go_wp2_with fail
              refine (WK.out).mono ?_
              rintro e w11 ⟨rfl, g11⟩
              go_wp2
              go_ret
              exact ⟨rfl, gb_trans HG.out (gb_trans G10.out g11)⟩
            · have hmf : mb q p k = false := by simpa using hmb
              have BY := by_no wr g0 g1 g2 g3 gm _ _ al bl (k : Int) EN.out.e (HA.out.grown0 GG.out) (HB.out.grown0 GG.out) (by have := ll.out; omega) (by
                rw [← HPQ.out.1, ← HPQ.out.2, show max p q = q by omega, show min p q = p by omega]
                exact mb_false hmf)
              have HBY := Lib.hid BY
              have hc := CS.out.cell k (HL.out k hk6)
              rw [hmf] at hc
              have WK := Lib.hid (wakes12_c wr (HD2.out.grown0 GG.out))
              clear BY hmf hmb
              go_wp2_with fail
              refine (HBY.out).mono ?_
              rintro e wx ⟨rfl, hw⟩
              rw [hw]
              clear hw HBY
              go_wp2_with fail
              refine (WK.out).mono ?_
              rintro e w11 ⟨rfl, g11⟩
              go_wp2
              go_ret
              exact ⟨rfl, gb_trans HG.out (gb_trans GG.out g11)⟩
          · have BY := by_no wr g0 g1 g2 g3 gm _ _ al bl r0 EN.out.e (HA.out.grown0 GG.out) (HB.out.grown0 GG.out) (by have := ll.out; omega) (.inr (by unfold feas; omega))
            have HBY := Lib.hid BY
            have WK := Lib.hid (wakes12_c wr (HD2.out.grown0 GG.out))
            clear BY
            go_wp2_with fail
            refine (HBY.out).mono ?_
            rintro e wx ⟨rfl, hw⟩
            rw [hw]
            clear hw HBY
            by_cases h1 : r0 < 1
            · have p1 : (r0 < 1) = True := by simp; exact h1
              go_wp2_with fail
              refine (WK.out).mono ?_
              rintro e w11 ⟨rfl, g11⟩
              go_wp2
              go_ret
              exact ⟨rfl, gb_trans HG.out (gb_trans GG.out g11)⟩
            · have p1 : (r0 < 1) = False := by simp; omega
              have p2 : ((5 : Int) < r0) = True := by simp; omega
              go_wp2_with fail
              refine (WK.out).mono ?_
              rintro e w11 ⟨rfl, g11⟩
              go_wp2
              go_ret
              exact ⟨rfl, gb_trans HG.out (gb_trans GG.out g11)⟩
    · have f1 : (0 < p) = True := by simp; omega
      by_cases h3 : H2 < p
      · have f3 : (H2 < p) = True := by simp; exact h3
        by_cases h4 : K2 < p
        · have f4 : (K2 < p) = True := by simp; exact h4
          have HL : Hid (∀ r, r < 6 → ([.bool false, .bool true, .bool true, .bool true, .bool true, .bool true] : List Value)[r]? = some (.bool (mb q p r))) := Lib.hid (fun r hr => by
            have e0 : mb q p 0 = false := by rw [Bool.eq_iff_iff, mb_iff]; unfold feas; simp
            have e1 : mb q p 1 = true := by rw [Bool.eq_iff_iff, mb_iff]; unfold feas; simp; try omega
            have e2 : mb q p 2 = true := by rw [Bool.eq_iff_iff, mb_iff]; unfold feas; simp; try omega
            have e3 : mb q p 3 = true := by rw [Bool.eq_iff_iff, mb_iff]; unfold feas; simp; try omega
            have e4 : mb q p 4 = true := by rw [Bool.eq_iff_iff, mb_iff]; unfold feas; simp; try omega
            have e5 : mb q p 5 = true := by rw [Bool.eq_iff_iff, mb_iff]; unfold feas; simp; try omega
            rcases (show r = 0 ∨ r = 1 ∨ r = 2 ∨ r = 3 ∨ r = 4 ∨ r = 5 by omega) with rfl | rfl | rfl | rfl | rfl | rfl
            · rw [e0]; rfl
            · rw [e1]; rfl
            · rw [e2]; rfl
            · rw [e3]; rfl
            · rw [e4]; rfl
            · rw [e5]; rfl)
          clear hH2 hK hK2
          go_wp2
          clear eH2 eK eK2
          have CAA := Lib.hid (cs_new w9 #[.bool false, .bool true, .bool true, .bool true, .bool true, .bool true] 66)
          have GAA := Lib.hid (gb_alloc (gb_refl w9 none) (Obj.cells #[.bool false, .bool true, .bool true, .bool true, .bool true, .bool true] 66))
          go_loopw [14] (fun v14 wr => ∃ (r : Nat) (a : Int) (c : Mc), v14 = .int .i64 r ∧ r ≤ 6 ∧ En wr t.clamp g0 g1 g2 g3 gm a c ∧ a ≤ (r : Int) * 100000000 ∧ Cs wr w9.heap.size [.bool false, .bool true, .bool true, .bool true, .bool true, .bool true] ∧ Nm wr pp (val B64 al * val B64 bl) (2 * 60 + 2 * 60) ∧ w2.grownBy wr none) (fun v14 _ => 6 - (intOf v14).toNat)
          case atStart => exact ⟨0, 0, _, rfl, by decide, E9.out.grown0 GAA.out, by decide, CAA.out, NP.out.grown0 GAA.out, gb_trans G9.out GAA.out⟩
          case round =>
            obtain ⟨r, a, c, rfl, hr, en, ha, cs, np, G⟩ := hrel
            have EN := Lib.hid en
            have CS := Lib.hid cs
            have NPR := Lib.hid np
            have GG := Lib.hid G
            have AA := Lib.hid ha
            clear en cs np G ha
            by_cases hr6 : r < 6
            · have hc := CS.out.cell r (HL.out r hr6)
              by_cases hmb : mb q p r = true
              · have BY := EN.out.byYes U.out (HD2.out.grown0 GG.out) (by have := AA.out; omega) (HA.out.grown0 GG.out) (HB.out.grown0 GG.out) (r := (r : Int)) (by have := ll.out; omega) (by rw [← HPQ.out.1, ← HPQ.out.2]; have := ((mb_iff _ _ _).1 hmb).1; omega) (by
                  rw [← HPQ.out.1, ← HPQ.out.2, show max p q = q by omega, show min p q = p by omega]
                  exact ((mb_iff _ _ _).1 hmb).2)
                have HBY := Lib.hid BY
                have HC := Lib.hid (HL.out r hr6)
                rw [hmb] at HC
                clear BY hc hmb
                go_wp2_with fail
                refine (HBY.out).mono ?_
                rintro e w10 ⟨x, c10, a10, rfl, o10, en, ha10, g10⟩
                have E10 := Lib.hid en
                have A10 : Hid (a10 ≤ ((r + 1 : Nat) : Int) * 100000000) := Lib.hid (by have := AA.out; omega)
                have G10 := Lib.hid (gb_new GG.out g10 (fun i hi => by cases hi; exact HGM.out))
                have hne9 : w9.heap.size ≠ gm := by
                  have := E9.out.lt
                  omega
                have CS10 := Lib.hid (CS.out.grown g10 (by simpa using hne9))
                have NP10 := Lib.hid (EN.out.nm NPR.out g10)
                have SM := Lib.hid (same2_c w10 pp x _ _ NP10.out o10.wd (by decide))
                obtain ⟨X, nx, cx, rfl⟩ := o10.form
                have hc := CS10.out.cell r HC.out
                clear o10 en ha10 g10 HBY
                go_wp2_with fail
                refine (SM.out).mono ?_
                rintro e w11 ⟨rfl, g11⟩
                have G11 := Lib.hid (gb_trans G10.out g11)
                have E11 := Lib.hid (E10.out.grown0 g11)
                have CS11 := Lib.hid (CS10.out.grown0 g11)
                have NP11 := Lib.hid (NP10.out.grown0 g11)
                clear g11 SM hc E10 CS10 NP10 G10
                go_wp2
                go_roundw
                case rel => exact ⟨r + 1, a10, c10, by go_num, by omega, E11.out, A10.out, CS11.out, NP11.out, G11.out⟩
                case measure => simp [intOf]; omega
              · have hmf : mb q p r = false := by simpa using hmb
                have BY := by_no wr g0 g1 g2 g3 gm _ _ al bl (r : Int) EN.out.e (HA.out.grown0 GG.out) (HB.out.grown0 GG.out) (by have := ll.out; omega) (by
                  rw [← HPQ.out.1, ← HPQ.out.2, show max p q = q by omega, show min p q = p by omega]
                  exact mb_false hmf)
                have HBY := Lib.hid BY
                rw [hmf] at hc
                clear BY hmf hmb
                go_wp2_with fail
                refine (HBY.out).mono ?_
                rintro e wx ⟨rfl, hw⟩
                rw [hw]
                clear hw HBY
                go_wp2
                clear hc
                go_roundw
                case rel => exact ⟨r + 1, a, c, by go_num, by omega, EN.out, by have := AA.out; omega, CS.out, NPR.out, GG.out⟩
                case measure => simp [intOf]; omega
            · obtain rfl : r = 6 := by omega
              by_cases hin : 1 ≤ r0 ∧ r0 ≤ 5
              · obtain ⟨k, hk⟩ : ∃ k : Nat, (k : Int) = r0 := ⟨r0.toNat, by omega⟩
                have p1 : (r0 < 1) = False := by simp; omega
                have p2 : ((5 : Int) < r0) = False := by simp; omega
                subst hk
                have hk6 : k < 6 := by omega
                by_cases hmb : mb q p k = true
                · have BY := EN.out.byYes U.out (HD2.out.grown0 GG.out) (by have := AA.out; omega) (HA.out.grown0 GG.out) (HB.out.grown0 GG.out) (r := (k : Int)) (by have := ll.out; omega) (by rw [← HPQ.out.1, ← HPQ.out.2]; have := ((mb_iff _ _ _).1 hmb).1; omega) (by
                    rw [← HPQ.out.1, ← HPQ.out.2, show max p q = q by omega, show min p q = p by omega]
                    exact ((mb_iff _ _ _).1 hmb).2)
                  have HBY := Lib.hid BY
                  have HC := Lib.hid (HL.out k hk6)
                  rw [hmb] at HC
                  clear BY hmb
                  go_wp2_with fail
                  refine (HBY.out).mono ?_
                  rintro e w10 ⟨x, c10, a10, rfl, o10, en, ha10, g10⟩
                  have G10 := Lib.hid (gb_new GG.out g10 (fun i hi => by cases hi; exact HGM.out))
                  have hne9 : w9.heap.size ≠ gm := by
                    have := E9.out.lt
                    omega
                  have hc := (CS.out.grown g10 (by simpa using hne9)).cell k HC.out
                  have WK := Lib.hid (wakes12_c w10 (HD2.out.grown0 G10.out))
                  obtain ⟨X, nx, cx, rfl⟩ := o10.form
                  clear o10 en ha10 g10 HBY
                  go_wp2_with fail
                  refine (WK.out).mono ?_
                  rintro e w11 ⟨rfl, g11⟩
                  go_wp2
                  go_ret
                  exact ⟨rfl, gb_trans HG.out (gb_trans G10.out g11)⟩
                · have hmf : mb q p k = false := by simpa using hmb
                  have BY := by_no wr g0 g1 g2 g3 gm _ _ al bl (k : Int) EN.out.e (HA.out.grown0 GG.out) (HB.out.grown0 GG.out) (by have := ll.out; omega) (by
                    rw [← HPQ.out.1, ← HPQ.out.2, show max p q = q by omega, show min p q = p by omega]
                    exact mb_false hmf)
                  have HBY := Lib.hid BY
                  have hc := CS.out.cell k (HL.out k hk6)
                  rw [hmf] at hc
                  have WK := Lib.hid (wakes12_c wr (HD2.out.grown0 GG.out))
                  clear BY hmf hmb
                  go_wp2_with fail
                  refine (HBY.out).mono ?_
                  rintro e wx ⟨rfl, hw⟩
                  rw [hw]
                  clear hw HBY
                  go_wp2_with fail
                  refine (WK.out).mono ?_
                  rintro e w11 ⟨rfl, g11⟩
                  go_wp2
                  go_ret
                  exact ⟨rfl, gb_trans HG.out (gb_trans GG.out g11)⟩
              · have BY := by_no wr g0 g1 g2 g3 gm _ _ al bl r0 EN.out.e (HA.out.grown0 GG.out) (HB.out.grown0 GG.out) (by have := ll.out; omega) (.inr (by unfold feas; omega))
                have HBY := Lib.hid BY
                have WK := Lib.hid (wakes12_c wr (HD2.out.grown0 GG.out))
                clear BY
                go_wp2_with fail
                refine (HBY.out).mono ?_
                rintro e wx ⟨rfl, hw⟩
                rw [hw]
                clear hw HBY
                by_cases h1 : r0 < 1
                · have p1 : (r0 < 1) = True := by simp; exact h1
                  go_wp2_with fail
                  refine (WK.out).mono ?_
                  rintro e w11 ⟨rfl, g11⟩
                  go_wp2
                  go_ret
                  exact ⟨rfl, gb_trans HG.out (gb_trans GG.out g11)⟩
                · have p1 : (r0 < 1) = False := by simp; omega
                  have p2 : ((5 : Int) < r0) = True := by simp; omega
                  go_wp2_with fail
                  refine (WK.out).mono ?_
                  rintro e w11 ⟨rfl, g11⟩
                  go_wp2
                  go_ret
                  exact ⟨rfl, gb_trans HG.out (gb_trans GG.out g11)⟩
        · have f4 : (K2 < p) = False := by simp; omega
          have HL : Hid (∀ r, r < 6 → ([.bool false, .bool true, .bool true, .bool true, .bool false, .bool true] : List Value)[r]? = some (.bool (mb q p r))) := Lib.hid (fun r hr => by
            have e0 : mb q p 0 = false := by rw [Bool.eq_iff_iff, mb_iff]; unfold feas; simp
            have e1 : mb q p 1 = true := by rw [Bool.eq_iff_iff, mb_iff]; unfold feas; simp; try omega
            have e2 : mb q p 2 = true := by rw [Bool.eq_iff_iff, mb_iff]; unfold feas; simp; try omega
            have e3 : mb q p 3 = true := by rw [Bool.eq_iff_iff, mb_iff]; unfold feas; simp; try omega
            have e4 : mb q p 4 = false := by rw [Bool.eq_iff_iff, mb_iff]; unfold feas; simp; try omega
            have e5 : mb q p 5 = true := by rw [Bool.eq_iff_iff, mb_iff]; unfold feas; simp; try omega
            rcases (show r = 0 ∨ r = 1 ∨ r = 2 ∨ r = 3 ∨ r = 4 ∨ r = 5 by omega) with rfl | rfl | rfl | rfl | rfl | rfl
            · rw [e0]; rfl
            · rw [e1]; rfl
            · rw [e2]; rfl
            · rw [e3]; rfl
            · rw [e4]; rfl
            · rw [e5]; rfl)
          clear hH2 hK hK2
          go_wp2
          clear eH2 eK eK2
          have CAA := Lib.hid (cs_new w9 #[.bool false, .bool true, .bool true, .bool true, .bool false, .bool true] 66)
          have GAA := Lib.hid (gb_alloc (gb_refl w9 none) (Obj.cells #[.bool false, .bool true, .bool true, .bool true, .bool false, .bool true] 66))
          go_loopw [14] (fun v14 wr => ∃ (r : Nat) (a : Int) (c : Mc), v14 = .int .i64 r ∧ r ≤ 6 ∧ En wr t.clamp g0 g1 g2 g3 gm a c ∧ a ≤ (r : Int) * 100000000 ∧ Cs wr w9.heap.size [.bool false, .bool true, .bool true, .bool true, .bool false, .bool true] ∧ Nm wr pp (val B64 al * val B64 bl) (2 * 60 + 2 * 60) ∧ w2.grownBy wr none) (fun v14 _ => 6 - (intOf v14).toNat)
          case atStart => exact ⟨0, 0, _, rfl, by decide, E9.out.grown0 GAA.out, by decide, CAA.out, NP.out.grown0 GAA.out, gb_trans G9.out GAA.out⟩
          case round =>
            obtain ⟨r, a, c, rfl, hr, en, ha, cs, np, G⟩ := hrel
            have EN := Lib.hid en
            have CS := Lib.hid cs
            have NPR := Lib.hid np
            have GG := Lib.hid G
            have AA := Lib.hid ha
            clear en cs np G ha
            by_cases hr6 : r < 6
            · have hc := CS.out.cell r (HL.out r hr6)
              by_cases hmb : mb q p r = true
              · have BY := EN.out.byYes U.out (HD2.out.grown0 GG.out) (by have := AA.out; omega) (HA.out.grown0 GG.out) (HB.out.grown0 GG.out) (r := (r : Int)) (by have := ll.out; omega) (by rw [← HPQ.out.1, ← HPQ.out.2]; have := ((mb_iff _ _ _).1 hmb).1; omega) (by
                  rw [← HPQ.out.1, ← HPQ.out.2, show max p q = q by omega, show min p q = p by omega]
                  exact ((mb_iff _ _ _).1 hmb).2)
                have HBY := Lib.hid BY
                have HC := Lib.hid (HL.out r hr6)
                rw [hmb] at HC
                clear BY hc hmb
                go_wp2_with fail
                refine (HBY.out).mono ?_
                rintro e w10 ⟨x, c10, a10, rfl, o10, en, ha10, g10⟩
                have E10 := Lib.hid en
                have A10 : Hid (a10 ≤ ((r + 1 : Nat) : Int) * 100000000) := Lib.hid (by have := AA.out; omega)
                have G10 := Lib.hid (gb_new GG.out g10 (fun i hi => by cases hi; exact HGM.out))
                have hne9 : w9.heap.size ≠ gm := by
                  have := E9.out.lt
                  omega
                have CS10 := Lib.hid (CS.out.grown g10 (by simpa using hne9))
                have NP10 := Lib.hid (EN.out.nm NPR.out g10)
                have SM := Lib.hid (same2_c w10 pp x _ _ NP10.out o10.wd (by decide))
                obtain ⟨X, nx, cx, rfl⟩ := o10.form
                have hc := CS10.out.cell r HC.out
                clear o10 en ha10 g10 HBY
                go_wp2_with fail
                refine (SM.out).mono ?_
                rintro e w11 ⟨rfl, g11⟩
                have G11 := Lib.hid (gb_trans G10.out g11)
                have E11 := Lib.hid (E10.out.grown0 g11)
                have CS11 := Lib.hid (CS10.out.grown0 g11)
                have NP11 := Lib.hid (NP10.out.grown0 g11)
                clear g11 SM hc E10 CS10 NP10 G10
                go_wp2
                go_roundw
                case rel => exact ⟨r + 1, a10, c10, by go_num, by omega, E11.out, A10.out, CS11.out, NP11.out, G11.out⟩
                case measure => simp [intOf]; omega
              · have hmf : mb q p r = false := by simpa using hmb
                have BY := by_no wr g0 g1 g2 g3 gm _ _ al bl (r : Int) EN.out.e (HA.out.grown0 GG.out) (HB.out.grown0 GG.out) (by have := ll.out; omega) (by
                  rw [← HPQ.out.1, ← HPQ.out.2, show max p q = q by omega, show min p q = p by omega]
                  exact mb_false hmf)
                have HBY := Lib.hid BY
                rw [hmf] at hc
                clear BY hmf hmb
                go_wp2_with fail
                refine (HBY.out).mono ?_
                rintro e wx ⟨rfl, hw⟩
                rw [hw]
                clear hw HBY
                go_wp2
                clear hc
                go_roundw
                case rel => exact ⟨r + 1, a, c, by go_num, by omega, EN.out, by have := AA.out; omega, CS.out, NPR.out, GG.out⟩
                case measure => simp [intOf]; omega
            · obtain rfl : r = 6 := by omega
              by_cases hin : 1 ≤ r0 ∧ r0 ≤ 5
              · obtain ⟨k, hk⟩ : ∃ k : Nat, (k : Int) = r0 := ⟨r0.toNat, by omega⟩
                have p1 : (r0 < 1) = False := by simp; omega
                have p2 : ((5 : Int) < r0) = False := by simp; omega
                subst hk
                have hk6 : k < 6 := by omega
                by_cases hmb : mb q p k = true
                · have BY := EN.out.byYes U.out (HD2.out.grown0 GG.out) (by have := AA.out; omega) (HA.out.grown0 GG.out) (HB.out.grown0 GG.out) (r := (k : Int)) (by have := ll.out; omega) (by rw [← HPQ.out.1, ← HPQ.out.2]; have := ((mb_iff _ _ _).1 hmb).1; omega) (by
                    rw [← HPQ.out.1, ← HPQ.out.2, show max p q = q by omega, show min p q = p by omega]
                    exact ((mb_iff _ _ _).1 hmb).2)
                  have HBY := Lib.hid BY
                  have HC := Lib.hid (HL.out k hk6)
                  rw [hmb] at HC
                  clear BY hmb
                  go_wp2_with fail
                  refine (HBY.out).mono ?_
                  rintro e w10 ⟨x, c10, a10, rfl, o10, en, ha10, g10⟩
                  have G10 := Lib.hid (gb_new GG.out g10 (fun i hi => by cases hi; exact HGM.out))
                  have hne9 : w9.heap.size ≠ gm := by
                    have := E9.out.lt
                    omega
                  have hc := (CS.out.grown g10 (by simpa using hne9)).cell k HC.out
                  have WK := Lib.hid (wakes12_c w10 (HD2.out.grown0 G10.out))
                  obtain ⟨X, nx, cx, rfl⟩ := o10.form
                  clear o10 en ha10 g10 HBY
                  go_wp2_with fail
                  refine (WK.out).mono ?_
                  rintro e w11 ⟨rfl, g11⟩
                  go_wp2
                  go_ret
                  exact ⟨rfl, gb_trans HG.out (gb_trans G10.out g11)⟩
                · have hmf : mb q p k = false := by simpa using hmb
                  have BY := by_no wr g0 g1 g2 g3 gm _ _ al bl (k : Int) EN.out.e (HA.out.grown0 GG.out) (HB.out.grown0 GG.out) (by have := ll.out; omega) (by
                    rw [← HPQ.out.1, ← HPQ.out.2, show max p q = q by omega, show min p q = p by omega]
                    exact mb_false hmf)
                  have HBY := Lib.hid BY
                  have hc := CS.out.cell k (HL.out k hk6)
                  rw [hmf] at hc
                  have WK := Lib.hid (wakes12_c wr (HD2.out.grown0 GG.out))
                  clear BY hmf hmb
                  go_wp2_with fail
                  refine (HBY.out).mono ?_
                  rintro e wx ⟨rfl, hw⟩
                  rw [hw]
                  clear hw HBY
                  go_wp2_with fail
                  refine (WK.out).mono ?_
                  rintro e w11 ⟨rfl, g11⟩
                  go_wp2
                  go_ret
                  exact ⟨rfl, gb_trans HG.out (gb_trans GG.out g11)⟩
              · have BY := by_no wr g0 g1 g2 g3 gm _ _ al bl r0 EN.out.e (HA.out.grown0 GG.out) (HB.out.grown0 GG.out) (by have := ll.out; omega) (.inr (by unfold feas; omega))
                have HBY := Lib.hid BY
                have WK := Lib.hid (wakes12_c wr (HD2.out.grown0 GG.out))
                clear BY
                go_wp2_with fail
                refine (HBY.out).mono ?_
                rintro e wx ⟨rfl, hw⟩
                rw [hw]
                clear hw HBY
                by_cases h1 : r0 < 1
                · have p1 : (r0 < 1) = True := by simp; exact h1
                  go_wp2_with fail
                  refine (WK.out).mono ?_
                  rintro e w11 ⟨rfl, g11⟩
                  go_wp2
                  go_ret
                  exact ⟨rfl, gb_trans HG.out (gb_trans GG.out g11)⟩
                · have p1 : (r0 < 1) = False := by simp; omega
                  have p2 : ((5 : Int) < r0) = True := by simp; omega
                  go_wp2_with fail
                  refine (WK.out).mono ?_
                  rintro e w11 ⟨rfl, g11⟩
                  go_wp2
                  go_ret
                  exact ⟨rfl, gb_trans HG.out (gb_trans GG.out g11)⟩
      · have f3 : (H2 < p) = False := by simp; omega
        by_cases h4 : K2 < p
        · exfalso
          omega
        · have f4 : (K2 < p) = False := by simp; omega
          have HL : Hid (∀ r, r < 6 → ([.bool false, .bool true, .bool true, .bool false, .bool false, .bool true] : List Value)[r]? = some (.bool (mb q p r))) := Lib.hid (fun r hr => by
            have e0 : mb q p 0 = false := by rw [Bool.eq_iff_iff, mb_iff]; unfold feas; simp
            have e1 : mb q p 1 = true := by rw [Bool.eq_iff_iff, mb_iff]; unfold feas; simp; try omega
            have e2 : mb q p 2 = true := by rw [Bool.eq_iff_iff, mb_iff]; unfold feas; simp; try omega
            have e3 : mb q p 3 = false := by rw [Bool.eq_iff_iff, mb_iff]; unfold feas; simp; try omega
            have e4 : mb q p 4 = false := by rw [Bool.eq_iff_iff, mb_iff]; unfold feas; simp; try omega
            have e5 : mb q p 5 = true := by rw [Bool.eq_iff_iff, mb_iff]; unfold feas; simp; try omega
            rcases (show r = 0 ∨ r = 1 ∨ r = 2 ∨ r = 3 ∨ r = 4 ∨ r = 5 by omega) with rfl | rfl | rfl | rfl | rfl | rfl
            · rw [e0]; rfl
            · rw [e1]; rfl
            · rw [e2]; rfl
            · rw [e3]; rfl
            · rw [e4]; rfl
            · rw [e5]; rfl)
          clear hH2 hK hK2
          go_wp2
          clear eH2 eK eK2
          have CAA := Lib.hid (cs_new w9 #[.bool false, .bool true, .bool true, .bool false, .bool false, .bool true] 66)
          have GAA := Lib.hid (gb_alloc (gb_refl w9 none) (Obj.cells #[.bool false, .bool true, .bool true, .bool false, .bool false, .bool true] 66))
          go_loopw [14] (fun v14 wr => ∃ (r : Nat) (a : Int) (c : Mc), v14 = .int .i64 r ∧ r ≤ 6 ∧ En wr t.clamp g0 g1 g2 g3 gm a c ∧ a ≤ (r : Int) * 100000000 ∧ Cs wr w9.heap.size [.bool false, .bool true, .bool true, .bool false, .bool false, .bool true] ∧ Nm wr pp (val B64 al * val B64 bl) (2 * 60 + 2 * 60) ∧ w2.grownBy wr none) (fun v14 _ => 6 - (intOf v14).toNat)
          case atStart => exact ⟨0, 0, _, rfl, by decide, E9.out.grown0 GAA.out, by decide, CAA.out, NP.out.grown0 GAA.out, gb_trans G9.out GAA.out⟩
          case round =>
            obtain ⟨r, a, c, rfl, hr, en, ha, cs, np, G⟩ := hrel
            have EN := Lib.hid en
            have CS := Lib.hid cs
            have NPR := Lib.hid np
            have GG := Lib.hid G
            have AA := Lib.hid ha
            clear en cs np G ha
            by_cases hr6 : r < 6
            · have hc := CS.out.cell r (HL.out r hr6)
              by_cases hmb : mb q p r = true
              · have BY := EN.out.byYes U.out (HD2.out.grown0 GG.out) (by have := AA.out; omega) (HA.out.grown0 GG.out) (HB.out.grown0 GG.out) (r := (r : Int)) (by have := ll.out; omega) (by rw [← HPQ.out.1, ← HPQ.out.2]; have := ((mb_iff _ _ _).1 hmb).1; omega) (by
                  rw [← HPQ.out.1, ← HPQ.out.2, show max p q = q by omega, show min p q = p by omega]
                  exact ((mb_iff _ _ _).1 hmb).2)
                have HBY := Lib.hid BY
                have HC := Lib.hid (HL.out r hr6)
                rw [hmb] at HC
                clear BY hc hmb
                go_wp2_with fail
                refine (HBY.out).mono ?_
                rintro e w10 ⟨x, c10, a10, rfl, o10, en, ha10, g10⟩
                have E10 := Lib.hid en
                have A10 : Hid (a10 ≤ ((r + 1 : Nat) : Int) * 100000000) := Lib.hid (by have := AA.out; omega)
                have G10 := Lib.hid (gb_new GG.out g10 (fun i hi => by cases hi; exact HGM.out))
                have hne9 : w9.heap.size ≠ gm := by
                  have := E9.out.lt
                  omega
                have CS10 := Lib.hid (CS.out.grown g10 (by simpa using hne9))
                have NP10 := Lib.hid (EN.out.nm NPR.out g10)
                have SM := Lib.hid (same2_c w10 pp x _ _ NP10.out o10.wd (by decide))
                obtain ⟨X, nx, cx, rfl⟩ := o10.form
                have hc := CS10.out.cell r HC.out
                clear o10 en ha10 g10 HBY
                go_wp2_with fail
                refine (SM.out).mono ?_
                rintro e w11 ⟨rfl, g11⟩
                have G11 := Lib.hid (gb_trans G10.out g11)
                have E11 := Lib.hid (E10.out.grown0 g11)
                have CS11 := Lib.hid (CS10.out.grown0 g11)
                have NP11 := Lib.hid (NP10.out.grown0 g11)
                clear g11 SM hc E10 CS10 NP10 G10
                go_wp2
                go_roundw
                case rel => exact ⟨r + 1, a10, c10, by go_num, by omega, E11.out, A10.out, CS11.out, NP11.out, G11.out⟩
                case measure => simp [intOf]; omega
              · have hmf : mb q p r = false := by simpa using hmb
                have BY := by_no wr g0 g1 g2 g3 gm _ _ al bl (r : Int) EN.out.e (HA.out.grown0 GG.out) (HB.out.grown0 GG.out) (by have := ll.out; omega) (by
                  rw [← HPQ.out.1, ← HPQ.out.2, show max p q = q by omega, show min p q = p by omega]
                  exact mb_false hmf)
                have HBY := Lib.hid BY
                rw [hmf] at hc
                clear BY hmf hmb
                go_wp2_with fail
                refine (HBY.out).mono ?_
                rintro e wx ⟨rfl, hw⟩
                rw [hw]
                clear hw HBY
                go_wp2
                clear hc
                go_roundw
                case rel => exact ⟨r + 1, a, c, by go_num, by omega, EN.out, by have := AA.out; omega, CS.out, NPR.out, GG.out⟩
                case measure => simp [intOf]; omega
            · obtain rfl : r = 6 := by omega
              by_cases hin : 1 ≤ r0 ∧ r0 ≤ 5
              · obtain ⟨k, hk⟩ : ∃ k : Nat, (k : Int) = r0 := ⟨r0.toNat, by omega⟩
                have p1 : (r0 < 1) = False := by simp; omega
                have p2 : ((5 : Int) < r0) = False := by simp; omega
                subst hk
                have hk6 : k < 6 := by omega
                by_cases hmb : mb q p k = true
                · have BY := EN.out.byYes U.out (HD2.out.grown0 GG.out) (by have := AA.out; omega) (HA.out.grown0 GG.out) (HB.out.grown0 GG.out) (r := (k : Int)) (by have := ll.out; omega) (by rw [← HPQ.out.1, ← HPQ.out.2]; have := ((mb_iff _ _ _).1 hmb).1; omega) (by
                    rw [← HPQ.out.1, ← HPQ.out.2, show max p q = q by omega, show min p q = p by omega]
                    exact ((mb_iff _ _ _).1 hmb).2)
                  have HBY := Lib.hid BY
                  have HC := Lib.hid (HL.out k hk6)
                  rw [hmb] at HC
                  clear BY hmb
                  go_wp2_with fail
                  refine (HBY.out).mono ?_
                  rintro e w10 ⟨x, c10, a10, rfl, o10, en, ha10, g10⟩
                  have G10 := Lib.hid (gb_new GG.out g10 (fun i hi => by cases hi; exact HGM.out))
                  have hne9 : w9.heap.size ≠ gm := by
                    have := E9.out.lt
                    omega
                  have hc := (CS.out.grown g10 (by simpa using hne9)).cell k HC.out
                  have WK := Lib.hid (wakes12_c w10 (HD2.out.grown0 G10.out))
                  obtain ⟨X, nx, cx, rfl⟩ := o10.form
                  clear o10 en ha10 g10 HBY
                  go_wp2_with fail
                  refine (WK.out).mono ?_
                  rintro e w11 ⟨rfl, g11⟩
                  go_wp2
                  go_ret
                  exact ⟨rfl, gb_trans HG.out (gb_trans G10.out g11)⟩
                · have hmf : mb q p k = false := by simpa using hmb
                  have BY := by_no wr g0 g1 g2 g3 gm _ _ al bl (k : Int) EN.out.e (HA.out.grown0 GG.out) (HB.out.grown0 GG.out) (by have := ll.out; omega) (by
                    rw [← HPQ.out.1, ← HPQ.out.2, show max p q = q by omega, show min p q = p by omega]
                    exact mb_false hmf)
                  have HBY := Lib.hid BY
                  have hc := CS.out.cell k (HL.out k hk6)
                  rw [hmf] at hc
                  have WK := Lib.hid (wakes12_c wr (HD2.out.grown0 GG.out))
                  clear BY hmf hmb
                  go_wp2_with fail
                  refine (HBY.out).mono ?_
                  rintro e wx ⟨rfl, hw⟩
                  rw [hw]
                  clear hw HBY
                  go_wp2_with fail
                  refine (WK.out).mono ?_
                  rintro e w11 ⟨rfl, g11⟩
                  go_wp2
                  go_ret
                  exact ⟨rfl, gb_trans HG.out (gb_trans GG.out g11)⟩
              · have BY := by_no wr g0 g1 g2 g3 gm _ _ al bl r0 EN.out.e (HA.out.grown0 GG.out) (HB.out.grown0 GG.out) (by have := ll.out; omega) (.inr (by unfold feas; omega))
                have HBY := Lib.hid BY
                have WK := Lib.hid (wakes12_c wr (HD2.out.grown0 GG.out))
                clear BY
                go_wp2_with fail
                refine (HBY.out).mono ?_
                rintro e wx ⟨rfl, hw⟩
                rw [hw]
                clear hw HBY
                by_cases h1 : r0 < 1
                · have p1 : (r0 < 1) = True := by simp; exact h1
                  go_wp2_with fail
                  refine (WK.out).mono ?_
                  rintro e w11 ⟨rfl, g11⟩
                  go_wp2
                  go_ret
                  exact ⟨rfl, gb_trans HG.out (gb_trans GG.out g11)⟩
                · have p1 : (r0 < 1) = False := by simp; omega
                  have p2 : ((5 : Int) < r0) = True := by simp; omega
                  go_wp2_with fail
                  refine (WK.out).mono ?_
                  rintro e w11 ⟨rfl, g11⟩
                  go_wp2
                  go_ret
                  exact ⟨rfl, gb_trans HG.out (gb_trans GG.out g11)⟩
  · subst hpq
    go_wp2_with fail
    refine (HWA.out w9 G9.out).mono ?_
    rintro e wx ⟨rfl, hw⟩
    rw [hw]
    clear hw HWA
    go_wp2_with fail
    refine (HWB.out w9 G9.out).mono ?_
    rintro e wx ⟨rfl, hw⟩
    rw [hw]
    clear hw HWB
    obtain ⟨H2, hH2⟩ : ∃ H, H = (p + 1) / 2 := ⟨_, rfl⟩
    obtain ⟨K, hK⟩ : ∃ H, H = (p + 2) / 3 := ⟨_, rfl⟩
    have eH2 : ((p : Int) + 1) / 2 = (H2 : Int) := by omega
    have eK : ((p : Int) + 2) / 3 = (K : Int) := by omega
    obtain ⟨K2, hK2⟩ : ∃ H, H = 2 * K := ⟨_, rfl⟩
    have eK2 : 2 * (K : Int) = (K2 : Int) := by omega
    by_cases hM0 : p = 0
    · have f1 : (0 < p) = False := by simp; exact hM0
      have HL : Hid (∀ r, r < 6 → ([.bool false, .bool false, .bool false, .bool false, .bool false, .bool false] : List Value)[r]? = some (.bool (mb p p r))) := Lib.hid (fun r hr => by
        have e0 : mb p p 0 = false := by rw [Bool.eq_iff_iff, mb_iff]; unfold feas; simp
        have e1 : mb p p 1 = false := by rw [Bool.eq_iff_iff, mb_iff]; unfold feas; simp; try omega
        have e2 : mb p p 2 = false := by rw [Bool.eq_iff_iff, mb_iff]; unfold feas; simp; try omega
        have e3 : mb p p 3 = false := by rw [Bool.eq_iff_iff, mb_iff]; unfold feas; simp; try omega
        have e4 : mb p p 4 = false := by rw [Bool.eq_iff_iff, mb_iff]; unfold feas; simp; try omega
        have e5 : mb p p 5 = false := by rw [Bool.eq_iff_iff, mb_iff]; unfold feas; simp; try omega
        rcases (show r = 0 ∨ r = 1 ∨ r = 2 ∨ r = 3 ∨ r = 4 ∨ r = 5 by omega) with rfl | rfl | rfl | rfl | rfl | rfl
        · rw [e0]; rfl
        · rw [e1]; rfl
        · rw [e2]; rfl
        · rw [e3]; rfl
        · rw [e4]; rfl
        · rw [e5]; rfl)
      clear hH2 hK hK2
      go_wp2
      clear eH2 eK eK2
      have CAA := Lib.hid (cs_new w9 #[.bool false, .bool false, .bool false, .bool false, .bool false, .bool false] 66)
      have GAA := Lib.hid (gb_alloc (gb_refl w9 none) (Obj.cells #[.bool false, .bool false, .bool false, .bool false, .bool false, .bool false] 66))
      go_loopw [14] (fun v14 wr => ∃ (r : Nat) (a : Int) (c : Mc), v14 = .int .i64 r ∧ r ≤ 6 ∧ En wr t.clamp g0 g1 g2 g3 gm a c ∧ a ≤ (r : Int) * 100000000 ∧ Cs wr w9.heap.size [.bool false, .bool false, .bool false, .bool false, .bool false, .bool false] ∧ Nm wr pp (val B64 al * val B64 bl) (2 * 60 + 2 * 60) ∧ w2.grownBy wr none) (fun v14 _ => 6 - (intOf v14).toNat)
      case atStart => exact ⟨0, 0, _, rfl, by decide, E9.out.grown0 GAA.out, by decide, CAA.out, NP.out.grown0 GAA.out, gb_trans G9.out GAA.out⟩
      case round =>
        obtain ⟨r, a, c, rfl, hr, en, ha, cs, np, G⟩ := hrel
        have EN := Lib.hid en
        have CS := Lib.hid cs
        have NPR := Lib.hid np
        have GG := Lib.hid G
        have AA := Lib.hid ha
        clear en cs np G ha
        by_cases hr6 : r < 6
        · have hc := CS.out.cell r (HL.out r hr6)
          by_cases hmb : mb p p r = true
          · have BY := EN.out.byYes U.out (HD2.out.grown0 GG.out) (by have := AA.out; omega) (HA.out.grown0 GG.out) (HB.out.grown0 GG.out) (r := (r : Int)) (by have := ll.out; omega) (by rw [← HPQ.out.1, ← HPQ.out.2]; have := ((mb_iff _ _ _).1 hmb).1; omega) (by
              rw [← HPQ.out.1, ← HPQ.out.2, show max p p = p by omega, show min p p = p by omega]
              exact ((mb_iff _ _ _).1 hmb).2)
            have HBY := Lib.hid BY
            have HC := Lib.hid (HL.out r hr6)
            rw [hmb] at HC
            clear BY hc hmb
            go_wp2_with fail
            refine (HBY.out).mono ?_
            rintro e w10 ⟨x, c10, a10, rfl, o10, en, ha10, g10⟩
            have E10 := Lib.hid en
            have A10 : Hid (a10 ≤ ((r + 1 : Nat) : Int) * 100000000) := Lib.hid (by have := AA.out; omega)
            have G10 := Lib.hid (gb_new GG.out g10 (fun i hi => by cases hi; exact HGM.out))
            have hne9 : w9.heap.size ≠ gm := by
              have := E9.out.lt
              omega
            have CS10 := Lib.hid (CS.out.grown g10 (by simpa using hne9))
            have NP10 := Lib.hid (EN.out.nm NPR.out g10)
            have SM := Lib.hid (same2_c w10 pp x _ _ NP10.out o10.wd (by decide))
            obtain ⟨X, nx, cx, rfl⟩ := o10.form
            have hc := CS10.out.cell r HC.out
            clear o10 en ha10 g10 HBY
            go_wp2_with fail
            refine (SM.out).mono ?_
            rintro e w11 ⟨rfl, g11⟩
            have G11 := Lib.hid (gb_trans G10.out g11)
            have E11 := Lib.hid (E10.out.grown0 g11)
            have CS11 := Lib.hid (CS10.out.grown0 g11)
            have NP11 := Lib.hid (NP10.out.grown0 g11)
            clear g11 SM hc E10 CS10 NP10 G10
            go_wp2
            go_roundw
            case rel => exact ⟨r + 1, a10, c10, by go_num, by omega, E11.out, A10.out, CS11.out, NP11.out, G11.out⟩
            case measure => simp [intOf]; omega
          · have hmf : mb p p r = false := by simpa using hmb
            have BY := by_no wr g0 g1 g2 g3 gm _ _ al bl (r : Int) EN.out.e (HA.out.grown0 GG.out) (HB.out.grown0 GG.out) (by have := ll.out; omega) (by
              rw [← HPQ.out.1, ← HPQ.out.2, show max p p = p by omega, show min p p = p by omega]
              exact mb_false hmf)
            have HBY := Lib.hid BY
            rw [hmf] at hc
            clear BY hmf hmb
            go_wp2_with fail
            refine (HBY.out).mono ?_
            rintro e wx ⟨rfl, hw⟩
            rw [hw]
            clear hw HBY
            go_wp2
            clear hc
            go_roundw
            case rel => exact ⟨r + 1, a, c, by go_num, by omega, EN.out, by have := AA.out; omega, CS.out, NPR.out, GG.out⟩
            case measure => simp [intOf]; omega
        · obtain rfl : r = 6 := by omega
          by_cases hin : 1 ≤ r0 ∧ r0 ≤ 5
          · obtain ⟨k, hk⟩ : ∃ k : Nat, (k : Int) = r0 := ⟨r0.toNat, by omega⟩
            have p1 : (r0 < 1) = False := by simp; omega
            have p2 : ((5 : Int) < r0) = False := by simp; omega
            subst hk
            have hk6 : k < 6 := by omega
            by_cases hmb : mb p p k = true
            · have BY := EN.out.byYes U.out (HD2.out.grown0 GG.out) (by have := AA.out; omega) (HA.out.grown0 GG.out) (HB.out.grown0 GG.out) (r := (k : Int)) (by have := ll.out; omega) (by rw [← HPQ.out.1, ← HPQ.out.2]; have := ((mb_iff _ _ _).1 hmb).1; omega) (by
                rw [← HPQ.out.1, ← HPQ.out.2, show max p p = p by omega, show min p p = p by omega]
                exact ((mb_iff _ _ _).1 hmb).2)
              have HBY := Lib.hid BY
              have HC := Lib.hid (HL.out k hk6)
              rw [hmb] at HC
              clear BY hmb
              go_wp2_with fail
              refine (HBY.out).mono ?_
              rintro e w10 ⟨x, c10, a10, rfl, o10, en, ha10, g10⟩
              have G10 := Lib.hid (gb_new GG.out g10 (fun i hi => by cases hi; exact HGM.out))
              have hne9 : w9.heap.size ≠ gm := by
                have := E9.out.lt
                omega
              have hc := (CS.out.grown g10 (by simpa using hne9)).cell k HC.out
              have WK := Lib.hid (wakes12_c w10 (HD2.out.grown0 G10.out))
              obtain ⟨X, nx, cx, rfl⟩ := o10.form
              clear o10 en ha10 g10 HBY
              go_wp2_with fail
              refine (WK.out).mono ?_
              rintro e w11 ⟨rfl, g11⟩
              go_wp2
              go_ret
              exact ⟨rfl, gb_trans HG.out (gb_trans G10.out g11)⟩
            · have hmf : mb p p k = false := by simpa using hmb
              have BY := by_no wr g0 g1 g2 g3 gm _ _ al bl (k : Int) EN.out.e (HA.out.grown0 GG.out) (HB.out.grown0 GG.out) (by have := ll.out; omega) (by
                rw [← HPQ.out.1, ← HPQ.out.2, show max p p = p by omega, show min p p = p by omega]
                exact mb_false hmf)
              have HBY := Lib.hid BY
              have hc := CS.out.cell k (HL.out k hk6)
              rw [hmf] at hc
              have WK := Lib.hid (wakes12_c wr (HD2.out.grown0 GG.out))
              clear BY hmf hmb
              go_wp2_with fail
              refine (HBY.out).mono ?_
              rintro e wx ⟨rfl, hw⟩
              rw [hw]
              clear hw HBY
              go_wp2_with fail
              refine (WK.out).mono ?_
              rintro e w11 ⟨rfl, g11⟩
              go_wp2
              go_ret
              exact ⟨rfl, gb_trans HG.out (gb_trans GG.out g11)⟩
          · have BY := by_no wr g0 g1 g2 g3 gm _ _ al bl r0 EN.out.e (HA.out.grown0 GG.out) (HB.out.grown0 GG.out) (by have := ll.out; omega) (.inr (by unfold feas; omega))
            have HBY := Lib.hid BY
            have WK := Lib.hid (wakes12_c wr (HD2.out.grown0 GG.out))
            clear BY
            go_wp2_with fail
            refine (HBY.out).mono ?_
            rintro e wx ⟨rfl, hw⟩
            rw [hw]
            clear hw HBY
            by_cases h1 : r0 < 1
            · have p1 : (r0 < 1) = True := by simp; exact h1
              go_wp2_with fail
              refine (WK.out).mono ?_
              rintro e w11 ⟨rfl, g11⟩
              go_wp2
              go_ret
              exact ⟨rfl, gb_trans HG.out (gb_trans GG.out g11)⟩
            · have p1 : (r0 < 1) = False := by simp; omega
              have p2 : ((5 : Int) < r0) = True := by simp; omega
              go_wp2_with fail
              refine (WK.out).mono ?_
              rintro e w11 ⟨rfl, g11⟩
              go_wp2
              go_ret
              exact ⟨rfl, gb_trans HG.out (gb_trans GG.out g11)⟩
    · have f1 : (0 < p) = True := by simp; omega
      by_cases h3 : H2 < p
      · have f3 : (H2 < p) = True := by simp; exact h3
        by_cases h4 : K2 < p
        · have f4 : (K2 < p) = True := by simp; exact h4
          have HL : Hid (∀ r, r < 6 → ([.bool false, .bool true, .bool true, .bool true, .bool true, .bool true] : List Value)[r]? = some (.bool (mb p p r))) := Lib.hid (fun r hr => by
            have e0 : mb p p 0 = false := by rw [Bool.eq_iff_iff, mb_iff]; unfold feas; simp
            have e1 : mb p p 1 = true := by rw [Bool.eq_iff_iff, mb_iff]; unfold feas; simp; try omega
            have e2 : mb p p 2 = true := by rw [Bool.eq_iff_iff, mb_iff]; unfold feas; simp; try omega
            have e3 : mb p p 3 = true := by rw [Bool.eq_iff_iff, mb_iff]; unfold feas; simp; try omega
            have e4 : mb p p 4 = true := by rw [Bool.eq_iff_iff, mb_iff]; unfold feas; simp; try omega
            have e5 : mb p p 5 = true := by rw [Bool.eq_iff_iff, mb_iff]; unfold feas; simp; try omega
            rcases (show r = 0 ∨ r = 1 ∨ r = 2 ∨ r = 3 ∨ r = 4 ∨ r = 5 by omega) with rfl | rfl | rfl | rfl | rfl | rfl
            · rw [e0]; rfl
            · rw [e1]; rfl
            · rw [e2]; rfl
            · rw [e3]; rfl
            · rw [e4]; rfl
            · rw [e5]; rfl)
          clear hH2 hK hK2
          go_wp2
          clear eH2 eK eK2
          have CAA := Lib.hid (cs_new w9 #[.bool false, .bool true, .bool true, .bool true, .bool true, .bool true] 66)
          have GAA := Lib.hid (gb_alloc (gb_refl w9 none) (Obj.cells #[.bool false, .bool true, .bool true, .bool true, .bool true, .bool true] 66))
          go_loopw [14] (fun v14 wr => ∃ (r : Nat) (a : Int) (c : Mc), v14 = .int .i64 r ∧ r ≤ 6 ∧ En wr t.clamp g0 g1 g2 g3 gm a c ∧ a ≤ (r : Int) * 100000000 ∧ Cs wr w9.heap.size [.bool false, .bool true, .bool true, .bool true, .bool true, .bool true] ∧ Nm wr pp (val B64 al * val B64 bl) (2 * 60 + 2 * 60) ∧ w2.grownBy wr none) (fun v14 _ => 6 - (intOf v14).toNat)
          case atStart => exact ⟨0, 0, _, rfl, by decide, E9.out.grown0 GAA.out, by decide, CAA.out, NP.out.grown0 GAA.out, gb_trans G9.out GAA.out⟩
          case round =>
            obtain ⟨r, a, c, rfl, hr, en, ha, cs, np, G⟩ := hrel
            have EN := Lib.hid en
            have CS := Lib.hid cs
            have NPR := Lib.hid np
            have GG := Lib.hid G
            have AA := Lib.hid ha
            clear en cs np G ha
            by_cases hr6 : r < 6
            · have hc := CS.out.cell r (HL.out r hr6)
              by_cases hmb : mb p p r = true
              · have BY := EN.out.byYes U.out (HD2.out.grown0 GG.out) (by have := AA.out; omega) (HA.out.grown0 GG.out) (HB.out.grown0 GG.out) (r := (r : Int)) (by have := ll.out; omega) (by rw [← HPQ.out.1, ← HPQ.out.2]; have := ((mb_iff _ _ _).1 hmb).1; omega) (by
                  rw [← HPQ.out.1, ← HPQ.out.2, show max p p = p by omega, show min p p = p by omega]
                  exact ((mb_iff _ _ _).1 hmb).2)
                have HBY := Lib.hid BY
                have HC := Lib.hid (HL.out r hr6)
                rw [hmb] at HC
                clear BY hc hmb
                go_wp2_with fail
                refine (HBY.out).mono ?_
                rintro e w10 ⟨x, c10, a10, rfl, o10, en, ha10, g10⟩
                have E10 := Lib.hid en
                have A10 : Hid (a10 ≤ ((r + 1 : Nat) : Int) * 100000000) := Lib.hid (by have := AA.out; omega)
                have G10 := Lib.hid (gb_new GG.out g10 (fun i hi => by cases hi; exact HGM.out))
                have hne9 : w9.heap.size ≠ gm := by
                  have := E9.out.lt
                  omega
                have CS10 := Lib.hid (CS.out.grown g10 (by simpa using hne9))
                have NP10 := Lib.hid (EN.out.nm NPR.out g10)
                have SM := Lib.hid (same2_c w10 pp x _ _ NP10.out o10.wd (by decide))
                obtain ⟨X, nx, cx, rfl⟩ := o10.form
                have hc := CS10.out.cell r HC.out
                clear o10 en ha10 g10 HBY
                go_wp2_with fail
                refine (SM.out).mono ?_
                rintro e w11 ⟨rfl, g11⟩
                have G11 := Lib.hid (gb_trans G10.out g11)
                have E11 := Lib.hid (E10.out.grown0 g11)
                have CS11 := Lib.hid (CS10.out.grown0 g11)
                have NP11 := Lib.hid (NP10.out.grown0 g11)
                clear g11 SM hc E10 CS10 NP10 G10
                go_wp2
                go_roundw
                case rel => exact ⟨r + 1, a10, c10, by go_num, by omega, E11.out, A10.out, CS11.out, NP11.out, G11.out⟩
                case measure => simp [intOf]; omega
              · have hmf : mb p p r = false := by simpa using hmb
                have BY := by_no wr g0 g1 g2 g3 gm _ _ al bl (r : Int) EN.out.e (HA.out.grown0 GG.out) (HB.out.grown0 GG.out) (by have := ll.out; omega) (by
                  rw [← HPQ.out.1, ← HPQ.out.2, show max p p = p by omega, show min p p = p by omega]
                  exact mb_false hmf)
                have HBY := Lib.hid BY
                rw [hmf] at hc
                clear BY hmf hmb
                go_wp2_with fail
                refine (HBY.out).mono ?_
                rintro e wx ⟨rfl, hw⟩
                rw [hw]
                clear hw HBY
                go_wp2
                clear hc
                go_roundw
                case rel => exact ⟨r + 1, a, c, by go_num, by omega, EN.out, by have := AA.out; omega, CS.out, NPR.out, GG.out⟩
                case measure => simp [intOf]; omega
            · obtain rfl : r = 6 := by omega
              by_cases hin : 1 ≤ r0 ∧ r0 ≤ 5
              · obtain ⟨k, hk⟩ : ∃ k : Nat, (k : Int) = r0 := ⟨r0.toNat, by omega⟩
                have p1 : (r0 < 1) = False := by simp; omega
                have p2 : ((5 : Int) < r0) = False := by simp; omega
                subst hk
                have hk6 : k < 6 := by omega
                by_cases hmb : mb p p k = true
                · have BY := EN.out.byYes U.out (HD2.out.grown0 GG.out) (by have := AA.out; omega) (HA.out.grown0 GG.out) (HB.out.grown0 GG.out) (r := (k : Int)) (by have := ll.out; omega) (by rw [← HPQ.out.1, ← HPQ.out.2]; have := ((mb_iff _ _ _).1 hmb).1; omega) (by
                    rw [← HPQ.out.1, ← HPQ.out.2, show max p p = p by omega, show min p p = p by omega]
                    exact ((mb_iff _ _ _).1 hmb).2)
                  have HBY := Lib.hid BY
                  have HC := Lib.hid (HL.out k hk6)
                  rw [hmb] at HC
                  clear BY hmb
                  go_wp2_with fail
                  refine (HBY.out).mono ?_
                  rintro e w10 ⟨x, c10, a10, rfl, o10, en, ha10, g10⟩
                  have G10 := Lib.hid (gb_new GG.out g10 (fun i hi => by cases hi; exact HGM.out))
                  have hne9 : w9.heap.size ≠ gm := by
                    have := E9.out.lt
                    omega
                  have hc := (CS.out.grown g10 (by simpa using hne9)).cell k HC.out
                  have WK := Lib.hid (wakes12_c w10 (HD2.out.grown0 G10.out))
                  obtain ⟨X, nx, cx, rfl⟩ := o10.form
                  clear o10 en ha10 g10 HBY
                  go_wp2_with fail
                  refine (WK.out).mono ?_
                  rintro e w11 ⟨rfl, g11⟩
                  go_wp2
                  go_ret
                  exact ⟨rfl, gb_trans HG.out (gb_trans G10.out g11)⟩
                · have hmf : mb p p k = false := by simpa using hmb
                  have BY := by_no wr g0 g1 g2 g3 gm _ _ al bl (k : Int) EN.out.e (HA.out.grown0 GG.out) (HB.out.grown0 GG.out) (by have := ll.out; omega) (by
                    rw [← HPQ.out.1, ← HPQ.out.2, show max p p = p by omega, show min p p = p by omega]
                    exact mb_false hmf)
                  have HBY := Lib.hid BY
                  have hc := CS.out.cell k (HL.out k hk6)
                  rw [hmf] at hc
                  have WK := Lib.hid (wakes12_c wr (HD2.out.grown0 GG.out))
                  clear BY hmf hmb
                  go_wp2_with fail
                  refine (HBY.out).mono ?_
                  rintro e wx ⟨rfl, hw⟩
                  rw [hw]
                  clear hw HBY
                  go_wp2_with fail
                  refine (WK.out).mono ?_
                  rintro e w11 ⟨rfl, g11⟩
                  go_wp2
                  go_ret
                  exact ⟨rfl, gb_trans HG.out (gb_trans GG.out g11)⟩
              · have BY := by_no wr g0 g1 g2 g3 gm _ _ al bl r0 EN.out.e (HA.out.grown0 GG.out) (HB.out.grown0 GG.out) (by have := ll.out; omega) (.inr (by unfold feas; omega))
                have HBY := Lib.hid BY
                have WK := Lib.hid (wakes12_c wr (HD2.out.grown0 GG.out))
                clear BY
                go_wp2_with fail
                refine (HBY.out).mono ?_
                rintro e wx ⟨rfl, hw⟩
                rw [hw]
                clear hw HBY
                by_cases h1 : r0 < 1
                · have p1 : (r0 < 1) = True := by simp; exact h1
                  go_wp2_with fail
                  refine (WK.out).mono ?_
                  rintro e w11 ⟨rfl, g11⟩
                  go_wp2
                  go_ret
                  exact ⟨rfl, gb_trans HG.out (gb_trans GG.out g11)⟩
                · have p1 : (r0 < 1) = False := by simp; omega
                  have p2 : ((5 : Int) < r0) = True := by simp; omega
                  go_wp2_with fail
                  refine (WK.out).mono ?_
                  rintro e w11 ⟨rfl, g11⟩
                  go_wp2
                  go_ret
                  exact ⟨rfl, gb_trans HG.out (gb_trans GG.out g11)⟩
        · have f4 : (K2 < p) = False := by simp; omega
          have HL : Hid (∀ r, r < 6 → ([.bool false, .bool true, .bool true, .bool true, .bool false, .bool true] : List Value)[r]? = some (.bool (mb p p r))) := Lib.hid (fun r hr => by
            have e0 : mb p p 0 = false := by rw [Bool.eq_iff_iff, mb_iff]; unfold feas; simp
            have e1 : mb p p 1 = true := by rw [Bool.eq_iff_iff, mb_iff]; unfold feas; simp; try omega
            have e2 : mb p p 2 = true := by rw [Bool.eq_iff_iff, mb_iff]; unfold feas; simp; try omega
            have e3 : mb p p 3 = true := by rw [Bool.eq_iff_iff, mb_iff]; unfold feas; simp; try omega
            have e4 : mb p p 4 = false := by rw [Bool.eq_iff_iff, mb_iff]; unfold feas; simp; try omega
            have e5 : mb p p 5 = true := by rw [Bool.eq_iff_iff, mb_iff]; unfold feas; simp; try omega
            rcases (show r = 0 ∨ r = 1 ∨ r = 2 ∨ r = 3 ∨ r = 4 ∨ r = 5 by omega) with rfl | rfl | rfl | rfl | rfl | rfl
            · rw [e0]; rfl
            · rw [e1]; rfl
            · rw [e2]; rfl
            · rw [e3]; rfl
            · rw [e4]; rfl
            · rw [e5]; rfl)
          clear hH2 hK hK2
          go_wp2
          clear eH2 eK eK2
          have CAA := Lib.hid (cs_new w9 #[.bool false, .bool true, .bool true, .bool true, .bool false, .bool true] 66)
          have GAA := Lib.hid (gb_alloc (gb_refl w9 none) (Obj.cells #[.bool false, .bool true, .bool true, .bool true, .bool false, .bool true] 66))
          go_loopw [14] (fun v14 wr => ∃ (r : Nat) (a : Int) (c : Mc), v14 = .int .i64 r ∧ r ≤ 6 ∧ En wr t.clamp g0 g1 g2 g3 gm a c ∧ a ≤ (r : Int) * 100000000 ∧ Cs wr w9.heap.size [.bool false, .bool true, .bool true, .bool true, .bool false, .bool true] ∧ Nm wr pp (val B64 al * val B64 bl) (2 * 60 + 2 * 60) ∧ w2.grownBy wr none) (fun v14 _ => 6 - (intOf v14).toNat)
          case atStart => exact ⟨0, 0, _, rfl, by decide, E9.out.grown0 GAA.out, by decide, CAA.out, NP.out.grown0 GAA.out, gb_trans G9.out GAA.out⟩
          case round =>
            obtain ⟨r, a, c, rfl, hr, en, ha, cs, np, G⟩ := hrel
            have EN := Lib.hid en
            have CS := Lib.hid cs
            have NPR := Lib.hid np
            have GG := Lib.hid G
            have AA := Lib.hid ha
            clear en cs np G ha
            by_cases hr6 : r < 6
            · have hc := CS.out.cell r (HL.out r hr6)
              by_cases hmb : mb p p r = true
              · have BY := EN.out.byYes U.out (HD2.out.grown0 GG.out) (by have := AA.out; omega) (HA.out.grown0 GG.out) (HB.out.grown0 GG.out) (r := (r : Int)) (by have := ll.out; omega) (by rw [← HPQ.out.1, ← HPQ.out.2]; have := ((mb_iff _ _ _).1 hmb).1; omega) (by
                  rw [← HPQ.out.1, ← HPQ.out.2, show max p p = p by omega, show min p p = p by omega]
                  exact ((mb_iff _ _ _).1 hmb).2)
                have HBY := Lib.hid BY
                have HC := Lib.hid (HL.out r hr6)
                rw [hmb] at HC
                clear BY hc hmb
                go_wp2_with fail
                refine (HBY.out).mono ?_
                rintro e w10 ⟨x, c10, a10, rfl, o10, en, ha10, g10⟩
                have E10 := Lib.hid en
                have A10 : Hid (a10 ≤ ((r + 1 : Nat) : Int) * 100000000) := Lib.hid (by have := AA.out; omega)
                have G10 := Lib.hid (gb_new GG.out g10 (fun i hi => by cases hi; exact HGM.out))
                have hne9 : w9.heap.size ≠ gm := by
                  have := E9.out.lt
                  omega
                have CS10 := Lib.hid (CS.out.grown g10 (by simpa using hne9))
                have NP10 := Lib.hid (EN.out.nm NPR.out g10)
                have SM := Lib.hid (same2_c w10 pp x _ _ NP10.out o10.wd (by decide))
                obtain ⟨X, nx, cx, rfl⟩ := o10.form
                have hc := CS10.out.cell r HC.out
                clear o10 en ha10 g10 HBY
                go_wp2_with fail
                refine (SM.out).mono ?_
                rintro e w11 ⟨rfl, g11⟩
                have G11 := Lib.hid (gb_trans G10.out g11)
                have E11 := Lib.hid (E10.out.grown0 g11)
                have CS11 := Lib.hid (CS10.out.grown0 g11)
                have NP11 := Lib.hid (NP10.out.grown0 g11)
                clear g11 SM hc E10 CS10 NP10 G10
                go_wp2
                go_roundw
                case rel => exact ⟨r + 1, a10, c10, by go_num, by omega, E11.out, A10.out, CS11.out, NP11.out, G11.out⟩
                case measure => simp [intOf]; omega
              · have hmf : mb p p r = false := by simpa using hmb
                have BY := by_no wr g0 g1 g2 g3 gm _ _ al bl (r : Int) EN.out.e (HA.out.grown0 GG.out) (HB.out.grown0 GG.out) (by have := ll.out; omega) (by
                  rw [← HPQ.out.1, ← HPQ.out.2, show max p p = p by omega, show min p p = p by omega]
                  exact mb_false hmf)
                have HBY := Lib.hid BY
                rw [hmf] at hc
                clear BY hmf hmb
                go_wp2_with fail
                refine (HBY.out).mono ?_
                rintro e wx ⟨rfl, hw⟩
                rw [hw]
                clear hw HBY
                go_wp2
                clear hc
                go_roundw
                case rel => exact ⟨r + 1, a, c, by go_num, by omega, EN.out, by have := AA.out; omega, CS.out, NPR.out, GG.out⟩
                case measure => simp [intOf]; omega
            · obtain rfl : r = 6 := by omega
              by_cases hin : 1 ≤ r0 ∧ r0 ≤ 5
              · obtain ⟨k, hk⟩ : ∃ k : Nat, (k : Int) = r0 := ⟨r0.toNat, by omega⟩
                have p1 : (r0 < 1) = False := by simp; omega
                have p2 : ((5 : Int) < r0) = False := by simp; omega
                subst hk
                have hk6 : k < 6 := by omega
                by_cases hmb : mb p p k = true
                · have BY := EN.out.byYes U.out (HD2.out.grown0 GG.out) (by have := AA.out; omega) (HA.out.grown0 GG.out) (HB.out.grown0 GG.out) (r := (k : Int)) (by have := ll.out; omega) (by rw [← HPQ.out.1, ← HPQ.out.2]; have := ((mb_iff _ _ _).1 hmb).1; omega) (by
                    rw [← HPQ.out.1, ← HPQ.out.2, show max p p = p by omega, show min p p = p by omega]
                    exact ((mb_iff _ _ _).1 hmb).2)
                  have HBY := Lib.hid BY
                  have HC := Lib.hid (HL.out k hk6)
                  rw [hmb] at HC
                  clear BY hmb
                  go_wp2_with fail
                  refine (HBY.out).mono ?_
                  rintro e w10 ⟨x, c10, a10, rfl, o10, en, ha10, g10⟩
                  have G10 := Lib.hid (gb_new GG.out g10 (fun i hi => by cases hi; exact HGM.out))
                  have hne9 : w9.heap.size ≠ gm := by
                    have := E9.out.lt
                    omega
                  have hc := (CS.out.grown g10 (by simpa using hne9)).cell k HC.out
                  have WK := Lib.hid (wakes12_c w10 (HD2.out.grown0 G10.out))
                  obtain ⟨X, nx, cx, rfl⟩ := o10.form
                  clear o10 en ha10 g10 HBY
                  go_wp2_with fail
                  refine (WK.out).mono ?_
                  rintro e w11 ⟨rfl, g11⟩
                  go_wp2
                  go_ret
                  exact ⟨rfl, gb_trans HG.out (gb_trans G10.out g11)⟩
                · have hmf : mb p p k = false := by simpa using hmb
                  have BY := by_no wr g0 g1 g2 g3 gm _ _ al bl (k : Int) EN.out.e (HA.out.grown0 GG.out) (HB.out.grown0 GG.out) (by have := ll.out; omega) (by
                    rw [← HPQ.out.1, ← HPQ.out.2, show max p p = p by omega, show min p p = p by omega]
                    exact mb_false hmf)
                  have HBY := Lib.hid BY
                  have hc := CS.out.cell k (HL.out k hk6)
                  rw [hmf] at hc
                  have WK := Lib.hid (wakes12_c wr (HD2.out.grown0 GG.out))
                  clear BY hmf hmb
                  go_wp2_with fail
                  refine (HBY.out).mono ?_
                  rintro e wx ⟨rfl, hw⟩
                  rw [hw]
                  clear hw HBY
                  go_wp2_with fail
                  refine (WK.out).mono ?_
                  rintro e w11 ⟨rfl, g11⟩
                  go_wp2
                  go_ret
                  exact ⟨rfl, gb_trans HG.out (gb_trans GG.out g11)⟩
              · have BY := by_no wr g0 g1 g2 g3 gm _ _ al bl r0 EN.out.e (HA.out.grown0 GG.out) (HB.out.grown0 GG.out) (by have := ll.out; omega) (.inr (by unfold feas; omega))
                have HBY := Lib.hid BY
                have WK := Lib.hid (wakes12_c wr (HD2.out.grown0 GG.out))
                clear BY
                go_wp2_with fail
                refine (HBY.out).mono ?_
                rintro e wx ⟨rfl, hw⟩
                rw [hw]
                clear hw HBY
                by_cases h1 : r0 < 1
                · have p1 : (r0 < 1) = True := by simp; exact h1
                  go_wp2_with fail
                  refine (WK.out).mono ?_
                  rintro e w11 ⟨rfl, g11⟩
                  go_wp2
                  go_ret
                  exact ⟨rfl, gb_trans HG.out (gb_trans GG.out g11)⟩
                · have p1 : (r0 < 1) = False := by simp; omega
                  have p2 : ((5 : Int) < r0) = True := by simp; omega
                  go_wp2_with fail
                  refine (WK.out).mono ?_
                  rintro e w11 ⟨rfl, g11⟩
                  go_wp2
                  go_ret
                  exact ⟨rfl, gb_trans HG.out (gb_trans GG.out g11)⟩
      · have f3 : (H2 < p) = False := by simp; omega
        by_cases h4 : K2 < p
        · exfalso
          omega
        · have f4 : (K2 < p) = False := by simp; omega
          have HL : Hid (∀ r, r < 6 → ([.bool false, .bool true, .bool true, .bool false, .bool false, .bool true] : List Value)[r]? = some (.bool (mb p p r))) := Lib.hid (fun r hr => by
            have e0 : mb p p 0 = false := by rw [Bool.eq_iff_iff, mb_iff]; unfold feas; simp
            have e1 : mb p p 1 = true := by rw [Bool.eq_iff_iff, mb_iff]; unfold feas; simp; try omega
            have e2 : mb p p 2 = true := by rw [Bool.eq_iff_iff, mb_iff]; unfold feas; simp; try omega
            have e3 : mb p p 3 = false := by rw [Bool.eq_iff_iff, mb_iff]; unfold feas; simp; try omega
            have e4 : mb p p 4 = false := by rw [Bool.eq_iff_iff, mb_iff]; unfold feas; simp; try omega
            have e5 : mb p p 5 = true := by rw [Bool.eq_iff_iff, mb_iff]; unfold feas; simp; try omega
            rcases (show r = 0 ∨ r = 1 ∨ r = 2 ∨ r = 3 ∨ r = 4 ∨ r = 5 by omega) with rfl | rfl | rfl | rfl | rfl | rfl
            · rw [e0]; rfl
            · rw [e1]; rfl
            · rw [e2]; rfl
            · rw [e3]; rfl
            · rw [e4]; rfl
            · rw [e5]; rfl)
          clear hH2 hK hK2
          go_wp2
          clear eH2 eK eK2
          have CAA := Lib.hid (cs_new w9 #[.bool false, .bool true, .bool true, .bool false, .bool false, .bool true] 66)
          have GAA := Lib.hid (gb_alloc (gb_refl w9 none) (Obj.cells #[.bool false, .bool true, .bool true, .bool false, .bool false, .bool true] 66))
          go_loopw [14] (fun v14 wr => ∃ (r : Nat) (a : Int) (c : Mc), v14 = .int .i64 r ∧ r ≤ 6 ∧ En wr t.clamp g0 g1 g2 g3 gm a c ∧ a ≤ (r : Int) * 100000000 ∧ Cs wr w9.heap.size [.bool false, .bool true, .bool true, .bool false, .bool false, .bool true] ∧ Nm wr pp (val B64 al * val B64 bl) (2 * 60 + 2 * 60) ∧ w2.grownBy wr none) (fun v14 _ => 6 - (intOf v14).toNat)
          case atStart => exact ⟨0, 0, _, rfl, by decide, E9.out.grown0 GAA.out, by decide, CAA.out, NP.out.grown0 GAA.out, gb_trans G9.out GAA.out⟩
          case round =>
            obtain ⟨r, a, c, rfl, hr, en, ha, cs, np, G⟩ := hrel
            have EN := Lib.hid en
            have CS := Lib.hid cs
            have NPR := Lib.hid np
            have GG := Lib.hid G
            have AA := Lib.hid ha
            clear en cs np G ha
            by_cases hr6 : r < 6
            · have hc := CS.out.cell r (HL.out r hr6)
              by_cases hmb : mb p p r = true
              · have BY := EN.out.byYes U.out (HD2.out.grown0 GG.out) (by have := AA.out; omega) (HA.out.grown0 GG.out) (HB.out.grown0 GG.out) (r := (r : Int)) (by have := ll.out; omega) (by rw [← HPQ.out.1, ← HPQ.out.2]; have := ((mb_iff _ _ _).1 hmb).1; omega) (by
                  rw [← HPQ.out.1, ← HPQ.out.2, show max p p = p by omega, show min p p = p by omega]
                  exact ((mb_iff _ _ _).1 hmb).2)
                have HBY := Lib.hid BY
                have HC := Lib.hid (HL.out r hr6)
                rw [hmb] at HC
                clear BY hc hmb
                go_wp2_with fail
                refine (HBY.out).mono ?_
                rintro e w10 ⟨x, c10, a10, rfl, o10, en, ha10, g10⟩
                have E10 := Lib.hid en
                have A10 : Hid (a10 ≤ ((r + 1 : Nat) : Int) * 100000000) := Lib.hid (by have := AA.out; omega)
                have G10 := Lib.hid (gb_new GG.out g10 (fun i hi => by cases hi; exact HGM.out))
                have hne9 : w9.heap.size ≠ gm := by
                  have := E9.out.lt
                  omega
                have CS10 := Lib.hid (CS.out.grown g10 (by simpa using hne9))
                have NP10 := Lib.hid (EN.out.nm NPR.out g10)
                have SM := Lib.hid (same2_c w10 pp x _ _ NP10.out o10.wd (by decide))
                obtain ⟨X, nx, cx, rfl⟩ := o10.form
                have hc := CS10.out.cell r HC.out
                clear o10 en ha10 g10 HBY
                go_wp2_with fail
                refine (SM.out).mono ?_
                rintro e w11 ⟨rfl, g11⟩
                have G11 := Lib.hid (gb_trans G10.out g11)
                have E11 := Lib.hid (E10.out.grown0 g11)
                have CS11 := Lib.hid (CS10.out.grown0 g11)
                have NP11 := Lib.hid (NP10.out.grown0 g11)
                clear g11 SM hc E10 CS10 NP10 G10
                go_wp2
                go_roundw
                case rel => exact ⟨r + 1, a10, c10, by go_num, by omega, E11.out, A10.out, CS11.out, NP11.out, G11.out⟩
                case measure => simp [intOf]; omega
              · have hmf : mb p p r = false := by simpa using hmb
                have BY := by_no wr g0 g1 g2 g3 gm _ _ al bl (r : Int) EN.out.e (HA.out.grown0 GG.out) (HB.out.grown0 GG.out) (by have := ll.out; omega) (by
                  rw [← HPQ.out.1, ← HPQ.out.2, show max p p = p by omega, show min p p = p by omega]
                  exact mb_false hmf)
                have HBY := Lib.hid BY
                rw [hmf] at hc
                clear BY hmf hmb
                go_wp2_with fail
                refine (HBY.out).mono ?_
                rintro e wx ⟨rfl, hw⟩
                rw [hw]
                clear hw HBY
                go_wp2
                clear hc
                go_roundw
                case rel => exact ⟨r + 1, a, c, by go_num, by omega, EN.out, by have := AA.out; omega, CS.out, NPR.out, GG.out⟩
                case measure => simp [intOf]; omega
            · obtain rfl : r = 6 := by omega
              by_cases hin : 1 ≤ r0 ∧ r0 ≤ 5
              · obtain ⟨k, hk⟩ : ∃ k : Nat, (k : Int) = r0 := ⟨r0.toNat, by omega⟩
                have p1 : (r0 < 1) = False := by simp; omega
                have p2 : ((5 : Int) < r0) = False := by simp; omega
                subst hk
                have hk6 : k < 6 := by omega
                by_cases hmb : mb p p k = true
                · have BY := EN.out.byYes U.out (HD2.out.grown0 GG.out) (by have := AA.out; omega) (HA.out.grown0 GG.out) (HB.out.grown0 GG.out) (r := (k : Int)) (by have := ll.out; omega) (by rw [← HPQ.out.1, ← HPQ.out.2]; have := ((mb_iff _ _ _).1 hmb).1; omega) (by
                    rw [← HPQ.out.1, ← HPQ.out.2, show max p p = p by omega, show min p p = p by omega]
                    exact ((mb_iff _ _ _).1 hmb).2)
                  have HBY := Lib.hid BY
                  have HC := Lib.hid (HL.out k hk6)
                  rw [hmb] at HC
                  clear BY hmb
                  go_wp2_with fail
                  refine (HBY.out).mono ?_
                  rintro e w10 ⟨x, c10, a10, rfl, o10, en, ha10, g10⟩
                  have G10 := Lib.hid (gb_new GG.out g10 (fun i hi => by cases hi; exact HGM.out))
                  have hne9 : w9.heap.size ≠ gm := by
                    have := E9.out.lt
                    omega
                  have hc := (CS.out.grown g10 (by simpa using hne9)).cell k HC.out
                  have WK := Lib.hid (wakes12_c w10 (HD2.out.grown0 G10.out))
                  obtain ⟨X, nx, cx, rfl⟩ := o10.form
                  clear o10 en ha10 g10 HBY
                  go_wp2_with fail
                  refine (WK.out).mono ?_
                  rintro e w11 ⟨rfl, g11⟩
                  go_wp2
                  go_ret
                  exact ⟨rfl, gb_trans HG.out (gb_trans G10.out g11)⟩
                · have hmf : mb p p k = false := by simpa using hmb
                  have BY := by_no wr g0 g1 g2 g3 gm _ _ al bl (k : Int) EN.out.e (HA.out.grown0 GG.out) (HB.out.grown0 GG.out) (by have := ll.out; omega) (by
                    rw [← HPQ.out.1, ← HPQ.out.2, show max p p = p by omega, show min p p = p by omega]
                    exact mb_false hmf)
                  have HBY := Lib.hid BY
                  have hc := CS.out.cell k (HL.out k hk6)
                  rw [hmf] at hc
                  have WK := Lib.hid (wakes12_c wr (HD2.out.grown0 GG.out))
                  clear BY hmf hmb
                  go_wp2_with fail
                  refine (HBY.out).mono ?_
                  rintro e wx ⟨rfl, hw⟩
                  rw [hw]
                  clear hw HBY
                  go_wp2_with fail
                  refine (WK.out).mono ?_
                  rintro e w11 ⟨rfl, g11⟩
                  go_wp2
                  go_ret
                  exact ⟨rfl, gb_trans HG.out (gb_trans GG.out g11)⟩
              · have BY := by_no wr g0 g1 g2 g3 gm _ _ al bl r0 EN.out.e (HA.out.grown0 GG.out) (HB.out.grown0 GG.out) (by have := ll.out; omega) (.inr (by unfold feas; omega))
                have HBY := Lib.hid BY
                have WK := Lib.hid (wakes12_c wr (HD2.out.grown0 GG.out))
                clear BY
                go_wp2_with fail
                refine (HBY.out).mono ?_
                rintro e wx ⟨rfl, hw⟩
                rw [hw]
                clear hw HBY
                by_cases h1 : r0 < 1
                · have p1 : (r0 < 1) = True := by simp; exact h1
                  go_wp2_with fail
                  refine (WK.out).mono ?_
                  rintro e w11 ⟨rfl, g11⟩
                  go_wp2
                  go_ret
                  exact ⟨rfl, gb_trans HG.out (gb_trans GG.out g11)⟩
                · have p1 : (r0 < 1) = False := by simp; omega
                  have p2 : ((5 : Int) < r0) = True := by simp; omega
                  go_wp2_with fail
                  refine (WK.out).mono ?_
                  rintro e w11 ⟨rfl, g11⟩
                  go_wp2
                  go_ret
                  exact ⟨rfl, gb_trans HG.out (gb_trans GG.out g11)⟩
  · have q1 : (p < q) = False := by simp; omega
    have q2 : (q < p) = True := by simp; exact hpq
    go_wp2_with fail
    refine (HWA.out w9 G9.out).mono ?_
    rintro e wx ⟨rfl, hw⟩
    rw [hw]
    clear hw HWA
    go_wp2_with fail
    refine (HWB.out w9 G9.out).mono ?_
    rintro e wx ⟨rfl, hw⟩
    rw [hw]
    clear hw HWB
    obtain ⟨H2, hH2⟩ : ∃ H, H = (p + 1) / 2 := ⟨_, rfl⟩
    obtain ⟨K, hK⟩ : ∃ H, H = (p + 2) / 3 := ⟨_, rfl⟩
    have eH2 : ((p : Int) + 1) / 2 = (H2 : Int) := by omega
    have eK : ((p : Int) + 2) / 3 = (K : Int) := by omega
    obtain ⟨K2, hK2⟩ : ∃ H, H = 2 * K := ⟨_, rfl⟩
    have eK2 : 2 * (K : Int) = (K2 : Int) := by omega
    by_cases hM0 : q = 0
    · have f1 : (0 < q) = False := by simp; exact hM0
      have HL : Hid (∀ r, r < 6 → ([.bool false, .bool false, .bool false, .bool false, .bool false, .bool false] : List Value)[r]? = some (.bool (mb p q r))) := Lib.hid (fun r hr => by
        have e0 : mb p q 0 = false := by rw [Bool.eq_iff_iff, mb_iff]; unfold feas; simp
        have e1 : mb p q 1 = false := by rw [Bool.eq_iff_iff, mb_iff]; unfold feas; simp; try omega
        have e2 : mb p q 2 = false := by rw [Bool.eq_iff_iff, mb_iff]; unfold feas; simp; try omega
        have e3 : mb p q 3 = false := by rw [Bool.eq_iff_iff, mb_iff]; unfold feas; simp; try omega
        have e4 : mb p q 4 = false := by rw [Bool.eq_iff_iff, mb_iff]; unfold feas; simp; try omega
        have e5 : mb p q 5 = false := by rw [Bool.eq_iff_iff, mb_iff]; unfold feas; simp; try omega
        rcases (show r = 0 ∨ r = 1 ∨ r = 2 ∨ r = 3 ∨ r = 4 ∨ r = 5 by omega) with rfl | rfl | rfl | rfl | rfl | rfl
        · rw [e0]; rfl
        · rw [e1]; rfl
        · rw [e2]; rfl
        · rw [e3]; rfl
        · rw [e4]; rfl
        · rw [e5]; rfl)
      clear hH2 hK hK2
      go_wp2
      clear eH2 eK eK2
      have CAA := Lib.hid (cs_new w9 #[.bool false, .bool false, .bool false, .bool false, .bool false, .bool false] 66)
      have GAA := Lib.hid (gb_alloc (gb_refl w9 none) (Obj.cells #[.bool false, .bool false, .bool false, .bool false, .bool false, .bool false] 66))
      go_loopw [14] (fun v14 wr => ∃ (r : Nat) (a : Int) (c : Mc), v14 = .int .i64 r ∧ r ≤ 6 ∧ En wr t.clamp g0 g1 g2 g3 gm a c ∧ a ≤ (r : Int) * 100000000 ∧ Cs wr w9.heap.size [.bool false, .bool false, .bool false, .bool false, .bool false, .bool false] ∧ Nm wr pp (val B64 al * val B64 bl) (2 * 60 + 2 * 60) ∧ w2.grownBy wr none) (fun v14 _ => 6 - (intOf v14).toNat)
      case atStart => exact ⟨0, 0, _, rfl, by decide, E9.out.grown0 GAA.out, by decide, CAA.out, NP.out.grown0 GAA.out, gb_trans G9.out GAA.out⟩
      case round =>
        obtain ⟨r, a, c, rfl, hr, en, ha, cs, np, G⟩ := hrel
        have EN := Lib.hid en
        have CS := Lib.hid cs
        have NPR := Lib.hid np
        have GG := Lib.hid G
        have AA := Lib.hid ha
        clear en cs np G ha
        by_cases hr6 : r < 6
        · have hc := CS.out.cell r (HL.out r hr6)
          by_cases hmb : mb p q r = true
          · have BY := EN.out.byYes U.out (HD2.out.grown0 GG.out) (by have := AA.out; omega) (HA.out.grown0 GG.out) (HB.out.grown0 GG.out) (r := (r : Int)) (by have := ll.out; omega) (by rw [← HPQ.out.1, ← HPQ.out.2]; have := ((mb_iff _ _ _).1 hmb).1; omega) (by
              rw [← HPQ.out.1, ← HPQ.out.2, show max p q = p by omega, show min p q = q by omega]
              exact ((mb_iff _ _ _).1 hmb).2)
            have HBY := Lib.hid BY
            have HC := Lib.hid (HL.out r hr6)
            rw [hmb] at HC
            clear BY hc hmb
            go_wp2_with fail
            refine (HBY.out).mono ?_
            rintro e w10 ⟨x, c10, a10, rfl, o10, en, ha10, g10⟩
            have E10 := Lib.hid en
            have A10 : Hid (a10 ≤ ((r + 1 : Nat) : Int) * 100000000) := Lib.hid (by have := AA.out; omega)
            have G10 := Lib.hid (gb_new GG.out g10 (fun i hi => by cases hi; exact HGM.out))
            have hne9 : w9.heap.size ≠ gm := by
              have := E9.out.lt
              omega
            have CS10 := Lib.hid (CS.out.grown g10 (by simpa using hne9))
            have NP10 := Lib.hid (EN.out.nm NPR.out g10)
            have SM := Lib.hid (same2_c w10 pp x _ _ NP10.out o10.wd (by decide))
            obtain ⟨X, nx, cx, rfl⟩ := o10.form
            have hc := CS10.out.cell r HC.out
            clear o10 en ha10 g10 HBY
            go_wp2_with fail
            refine (SM.out).mono ?_
            rintro e w11 ⟨rfl, g11⟩
            have G11 := Lib.hid (gb_trans G10.out g11)
            have E11 := Lib.hid (E10.out.grown0 g11)
            have CS11 := Lib.hid (CS10.out.grown0 g11)
            have NP11 := Lib.hid (NP10.out.grown0 g11)
            clear g11 SM hc E10 CS10 NP10 G10
            go_wp2
            go_roundw
            case rel => exact ⟨r + 1, a10, c10, by go_num, by omega, E11.out, A10.out, CS11.out, NP11.out, G11.out⟩
            case measure => simp [intOf]; omega
          · have hmf : mb p q r = false := by simpa using hmb
            have BY := by_no wr g0 g1 g2 g3 gm _ _ al bl (r : Int) EN.out.e (HA.out.grown0 GG.out) (HB.out.grown0 GG.out) (by have := ll.out; omega) (by
              rw [← HPQ.out.1, ← HPQ.out.2, show max p q = p by omega, show min p q = q by omega]
              exact mb_false hmf)
            have HBY := Lib.hid BY
            rw [hmf] at hc
            clear BY hmf hmb
            go_wp2_with fail
            refine (HBY.out).mono ?_
            rintro e wx ⟨rfl, hw⟩
            rw [hw]
            clear hw HBY
            go_wp2
            clear hc
            go_roundw
            case rel => exact ⟨r + 1, a, c, by go_num, by omega, EN.out, by have := AA.out; omega, CS.out, NPR.out, GG.out⟩
            case measure => simp [intOf]; omega
        · obtain rfl : r = 6 := by omega
          by_cases hin : 1 ≤ r0 ∧ r0 ≤ 5
          · obtain ⟨k, hk⟩ : ∃ k : Nat, (k : Int) = r0 := ⟨r0.toNat, by omega⟩
            have p1 : (r0 < 1) = False := by simp; omega
            have p2 : ((5 : Int) < r0) = False := by simp; omega
            subst hk
            have hk6 : k < 6 := by omega
            by_cases hmb : mb p q k = true
            · have BY := EN.out.byYes U.out (HD2.out.grown0 GG.out) (by have := AA.out; omega) (HA.out.grown0 GG.out) (HB.out.grown0 GG.out) (r := (k : Int)) (by have := ll.out; omega) (by rw [← HPQ.out.1, ← HPQ.out.2]; have := ((mb_iff _ _ _).1 hmb).1; omega) (by
                rw [← HPQ.out.1, ← HPQ.out.2, show max p q = p by omega, show min p q = q by omega]
                exact ((mb_iff _ _ _).1 hmb).2)
              have HBY := Lib.hid BY
              have HC := Lib.hid (HL.out k hk6)
              rw [hmb] at HC
              clear BY hmb
              go_wp2_with fail
              refine (HBY.out).mono ?_
              rintro e w10 ⟨x, c10, a10, rfl, o10, en, ha10, g10⟩
              have G10 := Lib.hid (gb_new GG.out g10 (fun i hi => by cases hi; exact HGM.out))
              have hne9 : w9.heap.size ≠ gm := by
                have := E9.out.lt
                omega
              have hc := (CS.out.grown g10 (by simpa using hne9)).cell k HC.out
              have WK := Lib.hid (wakes12_c w10 (HD2.out.grown0 G10.out))
              obtain ⟨X, nx, cx, rfl⟩ := o10.form
              clear o10 en ha10 g10 HBY
              go_wp2_with fail
              refine (WK.out).mono ?_
              rintro e w11 ⟨rfl, g11⟩
              go_wp2
              go_ret
              exact ⟨rfl, gb_trans HG.out (gb_trans G10.out g11)⟩
            · have hmf : mb p q k = false := by simpa using hmb
              have BY := by_no wr g0 g1 g2 g3 gm _ _ al bl (k : Int) EN.out.e (HA.out.grown0 GG.out) (HB.out.grown0 GG.out) (by have := ll.out; omega) (by
                rw [← HPQ.out.1, ← HPQ.out.2, show max p q = p by omega, show min p q = q by omega]
                exact mb_false hmf)
              have HBY := Lib.hid BY
              have hc := CS.out.cell k (HL.out k hk6)
              rw [hmf] at hc
              have WK := Lib.hid (wakes12_c wr (HD2.out.grown0 GG.out))
              clear BY hmf hmb
              go_wp2_with fail
              refine (HBY.out).mono ?_
              rintro e wx ⟨rfl, hw⟩
              rw [hw]
              clear hw HBY
              go_wp2_with fail
              refine (WK.out).mono ?_
              rintro e w11 ⟨rfl, g11⟩
              go_wp2
              go_ret
              exact ⟨rfl, gb_trans HG.out (gb_trans GG.out g11)⟩
          · have BY := by_no wr g0 g1 g2 g3 gm _ _ al bl r0 EN.out.e (HA.out.grown0 GG.out) (HB.out.grown0 GG.out) (by have := ll.out; omega) (.inr (by unfold feas; omega))
            have HBY := Lib.hid BY
            have WK := Lib.hid (wakes12_c wr (HD2.out.grown0 GG.out))
            clear BY
            go_wp2_with fail
            refine (HBY.out).mono ?_
            rintro e wx ⟨rfl, hw⟩
            rw [hw]
            clear hw HBY
            by_cases h1 : r0 < 1
            · have p1 : (r0 < 1) = True := by simp; exact h1
              go_wp2_with fail
              refine (WK.out).mono ?_
              rintro e w11 ⟨rfl, g11⟩
              go_wp2
              go_ret
              exact ⟨rfl, gb_trans HG.out (gb_trans GG.out g11)⟩
            · have p1 : (r0 < 1) = False := by simp; omega
              have p2 : ((5 : Int) < r0) = True := by simp; omega
              go_wp2_with fail
              refine (WK.out).mono ?_
              rintro e w11 ⟨rfl, g11⟩
              go_wp2
              go_ret
              exact ⟨rfl, gb_trans HG.out (gb_trans GG.out g11)⟩
    · have f1 : (0 < q) = True := by simp; omega
      by_cases h3 : H2 < q
      · have f3 : (H2 < q) = True := by simp; exact h3
        by_cases h4 : K2 < q
        · have f4 : (K2 < q) = True := by simp; exact h4
          have HL : Hid (∀ r, r < 6 → ([.bool false, .bool true, .bool true, .bool true, .bool true, .bool true] : List Value)[r]? = some (.bool (mb p q r))) := Lib.hid (fun r hr => by
            have e0 : mb p q 0 = false := by rw [Bool.eq_iff_iff, mb_iff]; unfold feas; simp
            have e1 : mb p q 1 = true := by rw [Bool.eq_iff_iff, mb_iff]; unfold feas; simp; try omega
            have e2 : mb p q 2 = true := by rw [Bool.eq_iff_iff, mb_iff]; unfold feas; simp; try omega
            have e3 : mb p q 3 = true := by rw [Bool.eq_iff_iff, mb_iff]; unfold feas; simp; try omega
            have e4 : mb p q 4 = true := by rw [Bool.eq_iff_iff, mb_iff]; unfold feas; simp; try omega
            have e5 : mb p q 5 = true := by rw [Bool.eq_iff_iff, mb_iff]; unfold feas; simp; try omega
            rcases (show r = 0 ∨ r = 1 ∨ r = 2 ∨ r = 3 ∨ r = 4 ∨ r = 5 by omega) with rfl | rfl | rfl | rfl | rfl | rfl
            · rw [e0]; rfl
            · rw [e1]; rfl
            · rw [e2]; rfl
            · rw [e3]; rfl
            · rw [e4]; rfl
            · rw [e5]; rfl)
          clear hH2 hK hK2
          go_wp2
          clear eH2 eK eK2
          have CAA := Lib.hid (cs_new w9 #[.bool false, .bool true, .bool true, .bool true, .bool true, .bool true] 66)
          have GAA := Lib.hid (gb_alloc (gb_refl w9 none) (Obj.cells #[.bool false, .bool true, .bool true, .bool true, .bool true, .bool true] 66))
          go_loopw [14] (fun v14 wr => ∃ (r : Nat) (a : Int) (c : Mc), v14 = .int .i64 r ∧ r ≤ 6 ∧ En wr t.clamp g0 g1 g2 g3 gm a c ∧ a ≤ (r : Int) * 100000000 ∧ Cs wr w9.heap.size [.bool false, .bool true, .bool true, .bool true, .bool true, .bool true] ∧ Nm wr pp (val B64 al * val B64 bl) (2 * 60 + 2 * 60) ∧ w2.grownBy wr none) (fun v14 _ => 6 - (intOf v14).toNat)
          case atStart => exact ⟨0, 0, _, rfl, by decide, E9.out.grown0 GAA.out, by decide, CAA.out, NP.out.grown0 GAA.out, gb_trans G9.out GAA.out⟩
          case round =>
            obtain ⟨r, a, c, rfl, hr, en, ha, cs, np, G⟩ := hrel
            have EN := Lib.hid en
            have CS := Lib.hid cs
            have NPR := Lib.hid np
            have GG := Lib.hid G
            have AA := Lib.hid ha
            clear en cs np G ha
            by_cases hr6 : r < 6
            · have hc := CS.out.cell r (HL.out r hr6)
              by_cases hmb : mb p q r = true
              · have BY := EN.out.byYes U.out (HD2.out.grown0 GG.out) (by have := AA.out; omega) (HA.out.grown0 GG.out) (HB.out.grown0 GG.out) (r := (r : Int)) (by have := ll.out; omega) (by rw [← HPQ.out.1, ← HPQ.out.2]; have := ((mb_iff _ _ _).1 hmb).1; omega) (by
                  rw [← HPQ.out.1, ← HPQ.out.2, show max p q = p by omega, show min p q = q by omega]
                  exact ((mb_iff _ _ _).1 hmb).2)
                have HBY := Lib.hid BY
                have HC := Lib.hid (HL.out r hr6)
                rw [hmb] at HC
                clear BY hc hmb
                go_wp2_with fail
                refine (HBY.out).mono ?_
                rintro e w10 ⟨x, c10, a10, rfl, o10, en, ha10, g10⟩
                have E10 := Lib.hid en
                have A10 : Hid (a10 ≤ ((r + 1 : Nat) : Int) * 100000000) := Lib.hid (by have := AA.out; omega)
                have G10 := Lib.hid (gb_new GG.out g10 (fun i hi => by cases hi; exact HGM.out))
                have hne9 : w9.heap.size ≠ gm := by
                  have := E9.out.lt
                  omega
                have CS10 := Lib.hid (CS.out.grown g10 (by simpa using hne9))
                have NP10 := Lib.hid (EN.out.nm NPR.out g10)
                have SM := Lib.hid (same2_c w10 pp x _ _ NP10.out o10.wd (by decide))
                obtain ⟨X, nx, cx, rfl⟩ := o10.form
                have hc := CS10.out.cell r HC.out
                clear o10 en ha10 g10 HBY
                go_wp2_with fail
                refine (SM.out).mono ?_
                rintro e w11 ⟨rfl, g11⟩
                have G11 := Lib.hid (gb_trans G10.out g11)
                have E11 := Lib.hid (E10.out.grown0 g11)
                have CS11 := Lib.hid (CS10.out.grown0 g11)
                have NP11 := Lib.hid (NP10.out.grown0 g11)
                clear g11 SM hc E10 CS10 NP10 G10
                go_wp2
                go_roundw
                case rel => exact ⟨r + 1, a10, c10, by go_num, by omega, E11.out, A10.out, CS11.out, NP11.out, G11.out⟩
                case measure => simp [intOf]; omega
              · have hmf : mb p q r = false := by simpa using hmb
                have BY := by_no wr g0 g1 g2 g3 gm _ _ al bl (r : Int) EN.out.e (HA.out.grown0 GG.out) (HB.out.grown0 GG.out) (by have := ll.out; omega) (by
                  rw [← HPQ.out.1, ← HPQ.out.2, show max p q = p by omega, show min p q = q by omega]
                  exact mb_false hmf)
                have HBY := Lib.hid BY
                rw [hmf] at hc
                clear BY hmf hmb
                go_wp2_with fail
                refine (HBY.out).mono ?_
                rintro e wx ⟨rfl, hw⟩
                rw [hw]
                clear hw HBY
                go_wp2
                clear hc
                go_roundw
                case rel => exact ⟨r + 1, a, c, by go_num, by omega, EN.out, by have := AA.out; omega, CS.out, NPR.out, GG.out⟩
                case measure => simp [intOf]; omega
            · obtain rfl : r = 6 := by omega
              by_cases hin : 1 ≤ r0 ∧ r0 ≤ 5
              · obtain ⟨k, hk⟩ : ∃ k : Nat, (k : Int) = r0 := ⟨r0.toNat, by omega⟩
                have p1 : (r0 < 1) = False := by simp; omega
                have p2 : ((5 : Int) < r0) = False := by simp; omega
                subst hk
                have hk6 : k < 6 := by omega
                by_cases hmb : mb p q k = true
                · have BY := EN.out.byYes U.out (HD2.out.grown0 GG.out) (by have := AA.out; omega) (HA.out.grown0 GG.out) (HB.out.grown0 GG.out) (r := (k : Int)) (by have := ll.out; omega) (by rw [← HPQ.out.1, ← HPQ.out.2]; have := ((mb_iff _ _ _).1 hmb).1; omega) (by
                    rw [← HPQ.out.1, ← HPQ.out.2, show max p q = p by omega, show min p q = q by omega]
                    exact ((mb_iff _ _ _).1 hmb).2)
                  have HBY := Lib.hid BY
                  have HC := Lib.hid (HL.out k hk6)
                  rw [hmb] at HC
                  clear BY hmb
                  go_wp2_with fail
                  refine (HBY.out).mono ?_
                  rintro e w10 ⟨x, c10, a10, rfl, o10, en, ha10, g10⟩
                  have G10 := Lib.hid (gb_new GG.out g10 (fun i hi => by cases hi; exact HGM.out))
                  have hne9 : w9.heap.size ≠ gm := by
                    have := E9.out.lt
                    omega
                  have hc := (CS.out.grown g10 (by simpa using hne9)).cell k HC.out
                  have WK := Lib.hid (wakes12_c w10 (HD2.out.grown0 G10.out))
                  obtain ⟨X, nx, cx, rfl⟩ := o10.form
                  clear o10 en ha10 g10 HBY
                  go_wp2_with fail
                  refine (WK.out).mono ?_
                  rintro e w11 ⟨rfl, g11⟩
                  go_wp2
                  go_ret
                  exact ⟨rfl, gb_trans HG.out (gb_trans G10.out g11)⟩
                · have hmf : mb p q k = false := by simpa using hmb
                  have BY := by_no wr g0 g1 g2 g3 gm _ _ al bl (k : Int) EN.out.e (HA.out.grown0 GG.out) (HB.out.grown0 GG.out) (by have := ll.out; omega) (by
                    rw [← HPQ.out.1, ← HPQ.out.2, show max p q = p by omega, show min p q = q by omega]
                    exact mb_false hmf)
                  have HBY := Lib.hid BY
                  have hc := CS.out.cell k (HL.out k hk6)
                  rw [hmf] at hc
                  have WK := Lib.hid (wakes12_c wr (HD2.out.grown0 GG.out))
                  clear BY hmf hmb
                  go_wp2_with fail
                  refine (HBY.out).mono ?_
                  rintro e wx ⟨rfl, hw⟩
                  rw [hw]
                  clear hw HBY
                  go_wp2_with fail
                  refine (WK.out).mono ?_
                  rintro e w11 ⟨rfl, g11⟩
                  go_wp2
                  go_ret
                  exact ⟨rfl, gb_trans HG.out (gb_trans GG.out g11)⟩
              · have BY := by_no wr g0 g1 g2 g3 gm _ _ al bl r0 EN.out.e (HA.out.grown0 GG.out) (HB.out.grown0 GG.out) (by have := ll.out; omega) (.inr (by unfold feas; omega))
                have HBY := Lib.hid BY
                have WK := Lib.hid (wakes12_c wr (HD2.out.grown0 GG.out))
                clear BY
                go_wp2_with fail
                refine (HBY.out).mono ?_
                rintro e wx ⟨rfl, hw⟩
                rw [hw]
                clear hw HBY
                by_cases h1 : r0 < 1
                · have p1 : (r0 < 1) = True := by simp; exact h1
                  go_wp2_with fail
                  refine (WK.out).mono ?_
                  rintro e w11 ⟨rfl, g11⟩
                  go_wp2
                  go_ret
                  exact ⟨rfl, gb_trans HG.out (gb_trans GG.out g11)⟩
                · have p1 : (r0 < 1) = False := by simp; omega
                  have p2 : ((5 : Int) < r0) = True := by simp; omega
                  go_wp2_with fail
                  refine (WK.out).mono ?_
                  rintro e w11 ⟨rfl, g11⟩
                  go_wp2
                  go_ret
                  exact ⟨rfl, gb_trans HG.out (gb_trans GG.out g11)⟩
        · have f4 : (K2 < q) = False := by simp; omega
          have HL : Hid (∀ r, r < 6 → ([.bool false, .bool true, .bool true, .bool true, .bool false, .bool true] : List Value)[r]? = some (.bool (mb p q r))) := Lib.hid (fun r hr => by
            have e0 : mb p q 0 = false := by rw [Bool.eq_iff_iff, mb_iff]; unfold feas; simp
            have e1 : mb p q 1 = true := by rw [Bool.eq_iff_iff, mb_iff]; unfold feas; simp; try omega
            have e2 : mb p q 2 = true := by rw [Bool.eq_iff_iff, mb_iff]; unfold feas; simp; try omega
            have e3 : mb p q 3 = true := by rw [Bool.eq_iff_iff, mb_iff]; unfold feas; simp; try omega
            have e4 : mb p q 4 = false := by rw [Bool.eq_iff_iff, mb_iff]; unfold feas; simp; try omega
            have e5 : mb p q 5 = true := by rw [Bool.eq_iff_iff, mb_iff]; unfold feas; simp; try omega
            rcases (show r = 0 ∨ r = 1 ∨ r = 2 ∨ r = 3 ∨ r = 4 ∨ r = 5 by omega) with rfl | rfl | rfl | rfl | rfl | rfl
            · rw [e0]; rfl
            · rw [e1]; rfl
            · rw [e2]; rfl
            · rw [e3]; rfl
            · rw [e4]; rfl
            · rw [e5]; rfl)
          clear hH2 hK hK2
          go_wp2
          clear eH2 eK eK2
          have CAA := Lib.hid (cs_new w9 #[.bool false, .bool true, .bool true, .bool true, .bool false, .bool true] 66)
          have GAA := Lib.hid (gb_alloc (gb_refl w9 none) (Obj.cells #[.bool false, .bool true, .bool true, .bool true, .bool false, .bool true] 66))
          go_loopw [14] (fun v14 wr => ∃ (r : Nat) (a : Int) (c : Mc), v14 = .int .i64 r ∧ r ≤ 6 ∧ En wr t.clamp g0 g1 g2 g3 gm a c ∧ a ≤ (r : Int) * 100000000 ∧ Cs wr w9.heap.size [.bool false, .bool true, .bool true, .bool true, .bool false, .bool true] ∧ Nm wr pp (val B64 al * val B64 bl) (2 * 60 + 2 * 60) ∧ w2.grownBy wr none) (fun v14 _ => 6 - (intOf v14).toNat)
          case atStart => exact ⟨0, 0, _, rfl, by decide, E9.out.grown0 GAA.out, by decide, CAA.out, NP.out.grown0 GAA.out, gb_trans G9.out GAA.out⟩
          case round =>
            obtain ⟨r, a, c, rfl, hr, en, ha, cs, np, G⟩ := hrel
            have EN := Lib.hid en
            have CS := Lib.hid cs
            have NPR := Lib.hid np
            have GG := Lib.hid G
            have AA := Lib.hid ha
            clear en cs np G ha
            by_cases hr6 : r < 6
            · have hc := CS.out.cell r (HL.out r hr6)
              by_cases hmb : mb p q r = true
              · have BY := EN.out.byYes U.out (HD2.out.grown0 GG.out) (by have := AA.out; omega) (HA.out.grown0 GG.out) (HB.out.grown0 GG.out) (r := (r : Int)) (by have := ll.out; omega) (by rw [← HPQ.out.1, ← HPQ.out.2]; have := ((mb_iff _ _ _).1 hmb).1; omega) (by
                  rw [← HPQ.out.1, ← HPQ.out.2, show max p q = p by omega, show min p q = q by omega]
                  exact ((mb_iff _ _ _).1 hmb).2)
                have HBY := Lib.hid BY
                have HC := Lib.hid (HL.out r hr6)
                rw [hmb] at HC
                clear BY hc hmb
                go_wp2_with fail
                refine (HBY.out).mono ?_
                rintro e w10 ⟨x, c10, a10, rfl, o10, en, ha10, g10⟩
                have E10 := Lib.hid en
                have A10 : Hid (a10 ≤ ((r + 1 : Nat) : Int) * 100000000) := Lib.hid (by have := AA.out; omega)
                have G10 := Lib.hid (gb_new GG.out g10 (fun i hi => by cases hi; exact HGM.out))
                have hne9 : w9.heap.size ≠ gm := by
                  have := E9.out.lt
                  omega
                have CS10 := Lib.hid (CS.out.grown g10 (by simpa using hne9))
                have NP10 := Lib.hid (EN.out.nm NPR.out g10)
                have SM := Lib.hid (same2_c w10 pp x _ _ NP10.out o10.wd (by decide))
                obtain ⟨X, nx, cx, rfl⟩ := o10.form
                have hc := CS10.out.cell r HC.out
                clear o10 en ha10 g10 HBY
                go_wp2_with fail
                refine (SM.out).mono ?_
                rintro e w11 ⟨rfl, g11⟩
                have G11 := Lib.hid (gb_trans G10.out g11)
                have E11 := Lib.hid (E10.out.grown0 g11)
                have CS11 := Lib.hid (CS10.out.grown0 g11)
                have NP11 := Lib.hid (NP10.out.grown0 g11)
                clear g11 SM hc E10 CS10 NP10 G10
                go_wp2
                go_roundw
                case rel => exact ⟨r + 1, a10, c10, by go_num, by omega, E11.out, A10.out, CS11.out, NP11.out, G11.out⟩
                case measure => simp [intOf]; omega
              · have hmf : mb p q r = false := by simpa using hmb
                have BY := by_no wr g0 g1 g2 g3 gm _ _ al bl (r : Int) EN.out.e (HA.out.grown0 GG.out) (HB.out.grown0 GG.out) (by have := ll.out; omega) (by
                  rw [← HPQ.out.1, ← HPQ.out.2, show max p q = p by omega, show min p q = q by omega]
                  exact mb_false hmf)
                have HBY := Lib.hid BY
                rw [hmf] at hc
                clear BY hmf hmb
                go_wp2_with fail
                refine (HBY.out).mono ?_
                rintro e wx ⟨rfl, hw⟩
                rw [hw]
                clear hw HBY
                go_wp2
                clear hc
                go_roundw
                case rel => exact ⟨r + 1, a, c, by go_num, by omega, EN.out, by have := AA.out; omega, CS.out, NPR.out, GG.out⟩
                case measure => simp [intOf]; omega
            · obtain rfl : r = 6 := by omega
              by_cases hin : 1 ≤ r0 ∧ r0 ≤ 5
              · obtain ⟨k, hk⟩ : ∃ k : Nat, (k : Int) = r0 := ⟨r0.toNat, by omega⟩
                have p1 : (r0 < 1) = False := by simp; omega
                have p2 : ((5 : Int) < r0) = False := by simp; omega
                subst hk
                have hk6 : k < 6 := by omega
                by_cases hmb : mb p q k = true
                · have BY := EN.out.byYes U.out (HD2.out.grown0 GG.out) (by have := AA.out; omega) (HA.out.grown0 GG.out) (HB.out.grown0 GG.out) (r := (k : Int)) (by have := ll.out; omega) (by rw [← HPQ.out.1, ← HPQ.out.2]; have := ((mb_iff _ _ _).1 hmb).1; omega) (by
                    rw [← HPQ.out.1, ← HPQ.out.2, show max p q = p by omega, show min p q = q by omega]
                    exact ((mb_iff _ _ _).1 hmb).2)
                  have HBY := Lib.hid BY
                  have HC := Lib.hid (HL.out k hk6)
                  rw [hmb] at HC
                  clear BY hmb
                  go_wp2_with fail
                  refine (HBY.out).mono ?_
                  rintro e w10 ⟨x, c10, a10, rfl, o10, en, ha10, g10⟩
                  have G10 := Lib.hid (gb_new GG.out g10 (fun i hi => by cases hi; exact HGM.out))
                  have hne9 : w9.heap.size ≠ gm := by
                    have := E9.out.lt
                    omega
                  have hc := (CS.out.grown g10 (by simpa using hne9)).cell k HC.out
                  have WK := Lib.hid (wakes12_c w10 (HD2.out.grown0 G10.out))
                  obtain ⟨X, nx, cx, rfl⟩ := o10.form
                  clear o10 en ha10 g10 HBY
                  go_wp2_with fail
                  refine (WK.out).mono ?_
                  rintro e w11 ⟨rfl, g11⟩
                  go_wp2
                  go_ret
                  exact ⟨rfl, gb_trans HG.out (gb_trans G10.out g11)⟩
                · have hmf : mb p q k = false := by simpa using hmb
                  have BY := by_no wr g0 g1 g2 g3 gm _ _ al bl (k : Int) EN.out.e (HA.out.grown0 GG.out) (HB.out.grown0 GG.out) (by have := ll.out; omega) (by
                    rw [← HPQ.out.1, ← HPQ.out.2, show max p q = p by omega, show min p q = q by omega]
                    exact mb_false hmf)
                  have HBY := Lib.hid BY
                  have hc := CS.out.cell k (HL.out k hk6)
                  rw [hmf] at hc
                  have WK := Lib.hid (wakes12_c wr (HD2.out.grown0 GG.out))
                  clear BY hmf hmb
                  go_wp2_with fail
                  refine (HBY.out).mono ?_
                  rintro e wx ⟨rfl, hw⟩
                  rw [hw]
                  clear hw HBY
                  go_wp2_with fail
                  refine (WK.out).mono ?_
                  rintro e w11 ⟨rfl, g11⟩
                  go_wp2
                  go_ret
                  exact ⟨rfl, gb_trans HG.out (gb_trans GG.out g11)⟩
              · have BY := by_no wr g0 g1 g2 g3 gm _ _ al bl r0 EN.out.e (HA.out.grown0 GG.out) (HB.out.grown0 GG.out) (by have := ll.out; omega) (.inr (by unfold feas; omega))
                have HBY := Lib.hid BY
                have WK := Lib.hid (wakes12_c wr (HD2.out.grown0 GG.out))
                clear BY
                go_wp2_with fail
                refine (HBY.out).mono ?_
                rintro e wx ⟨rfl, hw⟩
                rw [hw]
                clear hw HBY
                by_cases h1 : r0 < 1
                · have p1 : (r0 < 1) = True := by simp; exact h1
                  go_wp2_with fail
                  refine (WK.out).mono ?_
                  rintro e w11 ⟨rfl, g11⟩
                  go_wp2
                  go_ret
                  exact ⟨rfl, gb_trans HG.out (gb_trans GG.out g11)⟩
                · have p1 : (r0 < 1) = False := by simp; omega
                  have p2 : ((5 : Int) < r0) = True := by simp; omega
                  go_wp2_with fail
                  refine (WK.out).mono ?_
                  rintro e w11 ⟨rfl, g11⟩
                  go_wp2
                  go_ret
                  exact ⟨rfl, gb_trans HG.out (gb_trans GG.out g11)⟩
      · have f3 : (H2 < q) = False := by simp; omega
        by_cases h4 : K2 < q
        · exfalso
          omega
        · have f4 : (K2 < q) = False := by simp; omega
          have HL : Hid (∀ r, r < 6 → ([.bool false, .bool true, .bool true, .bool false, .bool false, .bool true] : List Value)[r]? = some (.bool (mb p q r))) := Lib.hid (fun r hr => by
            have e0 : mb p q 0 = false := by rw [Bool.eq_iff_iff, mb_iff]; unfold feas; simp
            have e1 : mb p q 1 = true := by rw [Bool.eq_iff_iff, mb_iff]; unfold feas; simp; try omega
            have e2 : mb p q 2 = true := by rw [Bool.eq_iff_iff, mb_iff]; unfold feas; simp; try omega
            have e3 : mb p q 3 = false := by rw [Bool.eq_iff_iff, mb_iff]; unfold feas; simp; try omega
            have e4 : mb p q 4 = false := by rw [Bool.eq_iff_iff, mb_iff]; unfold feas; simp; try omega
            have e5 : mb p q 5 = true := by rw [Bool.eq_iff_iff, mb_iff]; unfold feas; simp; try omega
            rcases (show r = 0 ∨ r = 1 ∨ r = 2 ∨ r = 3 ∨ r = 4 ∨ r = 5 by omega) with rfl | rfl | rfl | rfl | rfl | rfl
            · rw [e0]; rfl
            · rw [e1]; rfl
            · rw [e2]; rfl
            · rw [e3]; rfl
            · rw [e4]; rfl
            · rw [e5]; rfl)
          clear hH2 hK hK2
          go_wp2
          clear eH2 eK eK2
          have CAA := Lib.hid (cs_new w9 #[.bool false, .bool true, .bool true, .bool false, .bool false, .bool true] 66)
          have GAA := Lib.hid (gb_alloc (gb_refl w9 none) (Obj.cells #[.bool false, .bool true, .bool true, .bool false, .bool false, .bool true] 66))
          go_loopw [14] (fun v14 wr => ∃ (r : Nat) (a : Int) (c : Mc), v14 = .int .i64 r ∧ r ≤ 6 ∧ En wr t.clamp g0 g1 g2 g3 gm a c ∧ a ≤ (r : Int) * 100000000 ∧ Cs wr w9.heap.size [.bool false, .bool true, .bool true, .bool false, .bool false, .bool true] ∧ Nm wr pp (val B64 al * val B64 bl) (2 * 60 + 2 * 60) ∧ w2.grownBy wr none) (fun v14 _ => 6 - (intOf v14).toNat)
          case atStart => exact ⟨0, 0, _, rfl, by decide, E9.out.grown0 GAA.out, by decide, CAA.out, NP.out.grown0 GAA.out, gb_trans G9.out GAA.out⟩
          case round =>
            obtain ⟨r, a, c, rfl, hr, en, ha, cs, np, G⟩ := hrel
            have EN := Lib.hid en
            have CS := Lib.hid cs
            have NPR := Lib.hid np
            have GG := Lib.hid G
            have AA := Lib.hid ha
            clear en cs np G ha
            by_cases hr6 : r < 6
            · have hc := CS.out.cell r (HL.out r hr6)
              by_cases hmb : mb p q r = true
              · have BY := EN.out.byYes U.out (HD2.out.grown0 GG.out) (by have := AA.out; omega) (HA.out.grown0 GG.out) (HB.out.grown0 GG.out) (r := (r : Int)) (by have := ll.out; omega) (by rw [← HPQ.out.1, ← HPQ.out.2]; have := ((mb_iff _ _ _).1 hmb).1; omega) (by
                  rw [← HPQ.out.1, ← HPQ.out.2, show max p q = p by omega, show min p q = q by omega]
                  exact ((mb_iff _ _ _).1 hmb).2)
                have HBY := Lib.hid BY
                have HC := Lib.hid (HL.out r hr6)
                rw [hmb] at HC
                clear BY hc hmb
                go_wp2_with fail
                refine (HBY.out).mono ?_
                rintro e w10 ⟨x, c10, a10, rfl, o10, en, ha10, g10⟩
                have E10 := Lib.hid en
                have A10 : Hid (a10 ≤ ((r + 1 : Nat) : Int) * 100000000) := Lib.hid (by have := AA.out; omega)
                have G10 := Lib.hid (gb_new GG.out g10 (fun i hi => by cases hi; exact HGM.out))
                have hne9 : w9.heap.size ≠ gm := by
                  have := E9.out.lt
                  omega
                have CS10 := Lib.hid (CS.out.grown g10 (by simpa using hne9))
                have NP10 := Lib.hid (EN.out.nm NPR.out g10)
                have SM := Lib.hid (same2_c w10 pp x _ _ NP10.out o10.wd (by decide))
                obtain ⟨X, nx, cx, rfl⟩ := o10.form
                have hc := CS10.out.cell r HC.out
                clear o10 en ha10 g10 HBY
                go_wp2_with fail
                refine (SM.out).mono ?_
                rintro e w11 ⟨rfl, g11⟩
                have G11 := Lib.hid (gb_trans G10.out g11)
                have E11 := Lib.hid (E10.out.grown0 g11)
                have CS11 := Lib.hid (CS10.out.grown0 g11)
                have NP11 := Lib.hid (NP10.out.grown0 g11)
                clear g11 SM hc E10 CS10 NP10 G10
                go_wp2
                go_roundw
                case rel => exact ⟨r + 1, a10, c10, by go_num, by omega, E11.out, A10.out, CS11.out, NP11.out, G11.out⟩
                case measure => simp [intOf]; omega
              · have hmf : mb p q r = false := by simpa using hmb
                have BY := by_no wr g0 g1 g2 g3 gm _ _ al bl (r : Int) EN.out.e (HA.out.grown0 GG.out) (HB.out.grown0 GG.out) (by have := ll.out; omega) (by
                  rw [← HPQ.out.1, ← HPQ.out.2, show max p q = p by omega, show min p q = q by omega]
                  exact mb_false hmf)
                have HBY := Lib.hid BY
                rw [hmf] at hc
                clear BY hmf hmb
                go_wp2_with fail
                refine (HBY.out).mono ?_
                rintro e wx ⟨rfl, hw⟩
                rw [hw]
                clear hw HBY
                go_wp2
                clear hc
                go_roundw
                case rel => exact ⟨r + 1, a, c, by go_num, by omega, EN.out, by have := AA.out; omega, CS.out, NPR.out, GG.out⟩
                case measure => simp [intOf]; omega
            · obtain rfl : r = 6 := by omega
              by_cases hin : 1 ≤ r0 ∧ r0 ≤ 5
              · obtain ⟨k, hk⟩ : ∃ k : Nat, (k : Int) = r0 := ⟨r0.toNat, by omega⟩
                have p1 : (r0 < 1) = False := by simp; omega
                have p2 : ((5 : Int) < r0) = False := by simp; omega
                subst hk
                have hk6 : k < 6 := by omega
                by_cases hmb : mb p q k = true
                · have BY := EN.out.byYes U.out (HD2.out.grown0 GG.out) (by have := AA.out; omega) (HA.out.grown0 GG.out) (HB.out.grown0 GG.out) (r := (k : Int)) (by have := ll.out; omega) (by rw [← HPQ.out.1, ← HPQ.out.2]; have := ((mb_iff _ _ _).1 hmb).1; omega) (by
                    rw [← HPQ.out.1, ← HPQ.out.2, show max p q = p by omega, show min p q = q by omega]
                    exact ((mb_iff _ _ _).1 hmb).2)
                  have HBY := Lib.hid BY
                  have HC := Lib.hid (HL.out k hk6)
                  rw [hmb] at HC
                  clear BY hmb
                  go_wp2_with fail
                  refine (HBY.out).mono ?_
                  rintro e w10 ⟨x, c10, a10, rfl, o10, en, ha10, g10⟩
                  have G10 := Lib.hid (gb_new GG.out g10 (fun i hi => by cases hi; exact HGM.out))
                  have hne9 : w9.heap.size ≠ gm := by
                    have := E9.out.lt
                    omega
                  have hc := (CS.out.grown g10 (by simpa using hne9)).cell k HC.out
                  have WK := Lib.hid (wakes12_c w10 (HD2.out.grown0 G10.out))
                  obtain ⟨X, nx, cx, rfl⟩ := o10.form
                  clear o10 en ha10 g10 HBY
                  go_wp2_with fail
                  refine (WK.out).mono ?_
                  rintro e w11 ⟨rfl, g11⟩
                  go_wp2
                  go_ret
                  exact ⟨rfl, gb_trans HG.out (gb_trans G10.out g11)⟩
                · have hmf : mb p q k = false := by simpa using hmb
                  have BY := by_no wr g0 g1 g2 g3 gm _ _ al bl (k : Int) EN.out.e (HA.out.grown0 GG.out) (HB.out.grown0 GG.out) (by have := ll.out; omega) (by
                    rw [← HPQ.out.1, ← HPQ.out.2, show max p q = p by omega, show min p q = q by omega]
                    exact mb_false hmf)
                  have HBY := Lib.hid BY
                  have hc := CS.out.cell k (HL.out k hk6)
                  rw [hmf] at hc
                  have WK := Lib.hid (wakes12_c wr (HD2.out.grown0 GG.out))
                  clear BY hmf hmb
                  go_wp2_with fail
                  refine (HBY.out).mono ?_
                  rintro e wx ⟨rfl, hw⟩
                  rw [hw]
                  clear hw HBY
                  go_wp2_with fail
                  refine (WK.out).mono ?_
                  rintro e w11 ⟨rfl, g11⟩
                  go_wp2
                  go_ret
                  exact ⟨rfl, gb_trans HG.out (gb_trans GG.out g11)⟩
              · have BY := by_no wr g0 g1 g2 g3 gm _ _ al bl r0 EN.out.e (HA.out.grown0 GG.out) (HB.out.grown0 GG.out) (by have := ll.out; omega) (.inr (by unfold feas; omega))
                have HBY := Lib.hid BY
                have WK := Lib.hid (wakes12_c wr (HD2.out.grown0 GG.out))
                clear BY
                go_wp2_with fail
                refine (HBY.out).mono ?_
                rintro e wx ⟨rfl, hw⟩
                rw [hw]
                clear hw HBY
                by_cases h1 : r0 < 1
                · have p1 : (r0 < 1) = True := by simp; exact h1
                  go_wp2_with fail
                  refine (WK.out).mono ?_
                  rintro e w11 ⟨rfl, g11⟩
                  go_wp2
                  go_ret
                  exact ⟨rfl, gb_trans HG.out (gb_trans GG.out g11)⟩
                · have p1 : (r0 < 1) = False := by simp; omega
                  have p2 : ((5 : Int) < r0) = True := by simp; omega
                  go_wp2_with fail
                  refine (WK.out).mono ?_
                  rintro e w11 ⟨rfl, g11⟩
                  go_wp2
                  go_ret
                  exact ⟨rfl, gb_trans HG.out (gb_trans GG.out g11)⟩
end Go.Proofs.YtldkiddoajlohaaGreatDoor

/- Arguments: a table; rows of rows. -/
namespace Go.Proofs.YtldkiddoajlohaaGreatDoor
open Go.RowKit Go.Deep Go.ChangeShapes Go.WideShapes

theorem tab_cell {H : Type} {enc : TypeId × Value → H} {w : World} {base : Nat} {sp : Nat → Bool} {held : Bool} {cs : List Value} {xs : List (DataW H × List MemPlace)} {n : Nat} (hl : cs.length = 11) (hxs : xs.length = 11) (i : Nat) (hi : i < 11)
    (g : DataW.trod enc Tryz.prog w base sp held n 3 ((cs.drop i).take (Tryz.prog.cellsOf 3)) = xs[i]?) : ∃ z : Int, cs.getD i undef = .int .i64 z := by
  rw [show Tryz.prog.cellsOf 3 = 1 by kernel_rfl, take1_drop cs i undef (by omega), List.getElem?_eq_getElem (by omega)] at g
  obtain ⟨z, hz, _⟩ := DataW.trod_int Tryz.underlying3 g
  exact ⟨z, by simpa using hz⟩
set_option maxRecDepth 100000 in
theorem open_tab {H : Type} {enc : TypeId × Value → H} {w : World} {base b0 : Nat} {sp : Nat → Bool} {held : Bool} {r : Reach} {v : Value} {d : DataW H} {ps : List MemPlace} (hval : Value.okWide Tryz.prog w r b0 23 v)
    (hd : DataW.Trod enc Tryz.prog w base sp held 23 v d ps) : ∃ t : Tb, v = t.v := by
  obtain ⟨cs, rfl, hsz⟩ := okWide_struct Tryz.underlying23 hval
  obtain ⟨fuel, hf⟩ := hd
  obtain ⟨xs, n, _, _, hl, hxl, hx⟩ := DataW.trod_struct Tryz.underlying23 hf
  rw [show Tryz.prog.cellsOf 23 = 11 by kernel_rfl] at hsz hl
  have hl' : cs.toList.length = 11 := hl
  have hxl' : xs.length = 11 := hxl
  obtain ⟨z0, h0⟩ := tab_cell hl' hxl' 0 (by decide) (hx 0 _ rfl)
  obtain ⟨z1, h1⟩ := tab_cell hl' hxl' 1 (by decide) (hx 1 _ rfl)
  obtain ⟨z2, h2⟩ := tab_cell hl' hxl' 2 (by decide) (hx 2 _ rfl)
  obtain ⟨z3, h3⟩ := tab_cell hl' hxl' 3 (by decide) (hx 3 _ rfl)
  obtain ⟨z4, h4⟩ := tab_cell hl' hxl' 4 (by decide) (hx 4 _ rfl)
  obtain ⟨z5, h5⟩ := tab_cell hl' hxl' 5 (by decide) (hx 5 _ rfl)
  obtain ⟨z6, h6⟩ := tab_cell hl' hxl' 6 (by decide) (hx 6 _ rfl)
  obtain ⟨z7, h7⟩ := tab_cell hl' hxl' 7 (by decide) (hx 7 _ rfl)
  obtain ⟨z8, h8⟩ := tab_cell hl' hxl' 8 (by decide) (hx 8 _ rfl)
  obtain ⟨z9, h9⟩ := tab_cell hl' hxl' 9 (by decide) (hx 9 _ rfl)
  obtain ⟨z10, h10⟩ := tab_cell hl' hxl' 10 (by decide) (hx 10 _ rfl)
  refine ⟨⟨z0, z1, z2, z3, z4, z5, z6, z7, z8, z9, z10⟩, ?_⟩
  obtain ⟨l⟩ := cs
  have hl11 : l.length = 11 := by simpa using hsz
  match l, hl11 with
  | [a0, a1, a2, a3, a4, a5, a6, a7, a8, a9, a10], _ =>
    obtain rfl : a0 = _ := h0
    obtain rfl : a1 = _ := h1
    obtain rfl : a2 = _ := h2
    obtain rfl : a3 = _ := h3
    obtain rfl : a4 = _ := h4
    obtain rfl : a5 = _ := h5
    obtain rfl : a6 = _ := h6
    obtain rfl : a7 = _ := h7
    obtain rfl : a8 = _ := h8
    obtain rfl : a9 = _ := h9
    obtain rfl : a10 = _ := h10
    rfl
end Go.Proofs.YtldkiddoajlohaaGreatDoor
