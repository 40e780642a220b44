/- Contracts of the program's functions, and plain laws (Mul9, RCost, RSqr, Law12, Eng2, Zeros, Canon4, Law12h, Tabs), for every input that their premises let in. -/
import Derived.Test.YtldkiddoajlohaaGreatDoorV5
import Derived.Test.YtldkiddoajlohaaGreatDoorV3
import Derived.Test.YtldkiddoajlohaaGreatDoorV1
import Derived.Lib.AppendZeros
import Derived.Lib.AppendZerosOnto
import Derived.Test.YtldkiddoajlohaaGreatDoorV4
import Derived.WalkKit
import Derived.Deep.Fields
import Derived.Deep.Matrix
/- Products of rows that may be empty; an engine and its state. -/
namespace Go.Proofs.YtldkiddoajlohaaGreatDoor
open Go.RowKit

theorem Sl.offX {w w' : World} {v : Value} {xs : List Int} {gm : Nat} (h : Sl w v xs) (ho : xs = [] ∨ Off v gm) (g : w.grownBy w' (some gm)) : Sl w' v xs := by
  rcases ho with rfl | ho
  · obtain ⟨A, c, e, h1, h2, h3, _⟩ := h
    exact ⟨A, c, e, h1, h2, h3, fun h => by simp at h⟩
  · exact h.off ho g
theorem Sl.offN {w : World} {v : Value} {xs : List Int} {gm : Nat} (h : Sl w v xs) (hg : w.heap.size ≤ gm) : xs = [] ∨ Off v gm := by
  cases xs with
  | nil => exact .inl rfl
  | cons x xs =>
    right
    obtain ⟨A, c, rfl, h1, h2, h3, h4⟩ := h
    obtain ⟨b, o, rfl, hc⟩ := h4 (by simp)
    have := World.block_lt_of_cell? w _ (hc 0 (by simp))
    exact fun b' hb' => by
      simp only [Value.ownBlock, Option.some.injEq] at hb'
      simp only at this
      omega
theorem Pts.growngX {w w' : World} {v : Value} {n gm : Nat} {V : Nat → Value} {X : Nat → List Int} (h : Pts w v n V X) (ho : Off v gm) (hV : ∀ j, j < n → X j = [] ∨ Off (V j) gm) (g : w.grownBy w' (some gm)) : Pts w' v n V X :=
  ⟨h.c.growng ho g, fun j hj => (h.s j hj).offX (hV j hj) g⟩
set_option maxRecDepth 100000 in
set_option maxHeartbeats 4000000 in
theorem product_all2 {t : Tb} (ht : TbOk t) : ∀ (n : Nat), n ≤ 1000 → ∀ (w : World) (g0 g1 g2 g3 gm : Nat) (a b : Int) (c : Mc) (v : Value) (V : Nat → Value) (X : Nat → List Int), Eng w g0 g1 g2 g3 gm → Db w → Mt w gm a b c → c.T = tbT t → b ≤ 900 → a + (n : Int) * 100000000 ≤ 900000000000000 →
    Pts w v n V X → Off v gm → (∀ j, j < n → X j = [] ∨ Off (V j) gm) → tot X 0 n ≤ 1000 →
    Calls Tryz.prog 16 #[.pointer (some ⟨g0, 0, none⟩), v] w fun e w' => ∃ x c' a', e = .returned x ∧ Wo w' w.heap.size x (prV (fun j => val B64 (X j)) 0 n) ∧ Mt w' gm a' b c' ∧ (a' ≤ a + (n : Int) * 100000000 ∧ (0 < n → a' + 10000000 ≤ a + (n : Int) * 100000000)) ∧ c'.T = tbT t ∧ w.grownBy w' (some gm) := by
  intro n
  induction n using Nat.strongRecOn with
  | _ n ih =>
    intro hn1 w g0 g1 g2 g3 gm a b c v V X he hd hm hT hb ha hp ho hV hl
    have hgm : gm < w.heap.size := World.block_lt_of_cell? w _ hm.c0
    obtain ⟨A, ca, rfl, hca, _, h4⟩ := hp.c
    by_cases n0 : n = 0
    · subst n0
      have ON := Lib.hid (lone_c w 1 (by decide) (by decide))
      have HM := Lib.hid hm
      have HT := Lib.hid hT
      have HH : Hid (a ≤ a + ((0 : Nat) : Int) * 100000000 ∧ (0 < 0 → a + 10000000 ≤ a + ((0 : Nat) : Int) * 100000000)) := Lib.hid (by omega)
      clear ih hp h4 hm hT he hd ha hl hV ho
      go_enter Tryz.func16, Tryz.ntmps16
      go_wp2_with fail
      refine (ON.out).mono ?_
      rintro e w1 ⟨x, rfl, o1, g1'⟩
      have KK := Lib.hid (And.intro o1 g1')
      clear o1 g1' ON
      go_wp2
      go_ret
      exact ⟨x, c, a, rfl, KK.out.1, HM.out.grown KK.out.2, HH.out, HT.out, gb_none KK.out.2 _⟩
    by_cases n1 : n = 1
    · subst n1
      have e1 : tot X 0 1 = (X 0).length := by simp [tot]
      have NO := Lib.hid (lnorm_c w (V 0) (X 0) (hp.s 0 (by decide)) (by omega))
      obtain ⟨bA, oA, rfl, hc⟩ := h4 (by decide)
      have c0 := hc 0 (by decide)
      rw [Nat.add_zero] at c0
      obtain ⟨V0, hV0⟩ : ∃ z, z = V 0 := ⟨_, rfl⟩
      rw [← hV0] at NO c0
      have HM := Lib.hid hm
      have HT := Lib.hid hT
      have HH : Hid (a ≤ a + ((1 : Nat) : Int) * 100000000 ∧ (0 < 1 → a + 10000000 ≤ a + ((1 : Nat) : Int) * 100000000)) := Lib.hid (by omega)
      have HX : Hid (prV (fun j => val B64 (X j)) 0 1 = val B64 (trimZ (X 0))) := Lib.hid (by rw [val_trimZ]; simp [prV])
      clear ih hp h4 hm hT he hd ha hl hV ho hc hV0
      go_enter Tryz.func16, Tryz.ntmps16
      go_wp2_with fail
      refine (NO.out).mono ?_
      rintro e w1 ⟨x, rfl, o1, g1'⟩
      have KK := Lib.hid (And.intro o1 g1')
      clear o1 g1' NO
      go_wp2
      go_ret
      exact ⟨x, c, a, rfl, ⟨_, KK.out.1, trimZ_nz _, HX.out.symm⟩, HM.out.grown KK.out.2, HH.out, HT.out, gb_none KK.out.2 _⟩
    obtain ⟨bA, oA, rfl, _⟩ := h4 (by omega)
    obtain ⟨h, hh⟩ : ∃ h, h = n / 2 := ⟨_, rfl⟩
    have eH : (n : Int) / 2 = (h : Int) := by omega
    have q0 : ((n : Int) == 0) = false := by simp; omega
    have q1 : ((n : Int) == 1) = false := by simp; omega
    have q0' : (n == 0) = false := by simp; omega
    have q1' : (n == 1) = false := by simp; omega
    have hhn : h < n := by omega
    have hp2 := hp.back hhn
    have GD := gb_drew (gb_refl w none)
    have I1 := ih h hhn (by omega) w.drew g0 g1 g2 g3 gm a b c (.slice (some ⟨bA, oA, none⟩) h ca) V X he.drew (hd.grown0 GD) hm.drew hT hb (by omega) ((hp.front (by omega)).grown0 GD) ho (fun j hj => hV j (by omega)) (by have := tot_add X 0 h (n - h); rw [show h + (n - h) = n by omega] at this; omega)
    have I2 := fun (w1 : World) (G : w.grownBy w1 (some gm)) (a1 : Int) (c1 : Mc) (m1 : Mt w1 gm a1 b c1) (h1 : c1.T = tbT t) (ha1 : a1 ≤ a + (h : Int) * 100000000 ∧ (0 < h → a1 + 10000000 ≤ a + (h : Int) * 100000000)) => ih (n - h) (by omega) (by omega) w1 g0 g1 g2 g3 gm a1 b c1 (.slice (some ⟨bA, oA + h, none⟩) (n - h) (ca - h)) (fun j => V (h + j)) (fun j => X (h + j)) (he.grown G) (hd.grown hm G) m1 h1 hb (by omega) (hp2.growngX (fun b' hb' => ho b' hb') (fun j hj => hV (h + j) (by omega)) G) (fun b' hb' => ho b' hb') (fun j hj => hV (h + j) (by omega)) (by rw [tot_shift]; have := tot_add X 0 h (n - h); rw [show h + (n - h) = n by omega] at this; rw [Nat.zero_add] at this; omega)
    have PV : prV (fun j => val B64 (X j)) 0 n = prV (fun j => val B64 (X j)) 0 h * prV (fun j => val B64 (X j)) h (n - h) := by
      have := prV_add (fun j => val B64 (X j)) 0 h (n - h)
      rw [show h + (n - h) = n by omega, Nat.zero_add] at this
      exact this
    have L1 := prV_lt (X := X) (i := 0) h (fun j hj => by rw [Nat.zero_add]; exact (hp.s j (by omega)).ws) (by omega)
    have L2 := prV_lt (X := X) (i := h) (n - h) (fun j hj => (hp.s (h + j) (by omega)).ws) (by omega)
    have TT := tot_add X 0 h (n - h)
    rw [show h + (n - h) = n by omega, Nat.zero_add] at TT
    obtain ⟨T1, hT1⟩ : ∃ T, T = tot X 0 h := ⟨_, rfl⟩
    obtain ⟨T2, hT2⟩ : ∃ T, T = tot X h (n - h) := ⟨_, rfl⟩
    rw [← hT1, ← hT2] at TT
    rw [← hT1] at L1
    rw [← hT2] at L2
    have b12 : T1 + T2 ≤ 1000 := by omega
    have SH := prV_shift (fun j => val B64 (X j)) h (n - h)
    rw [PV]
    obtain ⟨P1, hP1⟩ : ∃ P, P = prV (fun j => val B64 (X j)) 0 h := ⟨_, rfl⟩
    obtain ⟨P2, hP2⟩ : ∃ P, P = prV (fun j => val B64 (X j)) h (n - h) := ⟨_, rfl⟩
    rw [← hP2] at SH
    simp only [SH] at I2
    rw [← hP1] at I1 L1
    rw [← hP2] at L2
    rw [← hP1, ← hP2]
    have HL := Lib.hid (And.intro L1 L2)
    have HI1 := Lib.hid I1
    have HI2 := Lib.hid I2
    have HGM := Lib.hid hgm
    have HE := Lib.hid he
    have HD := Lib.hid hd
    have HM := Lib.hid hm
    have HB := Lib.hid hb
    have HA := Lib.hid ha
    have HN : Hid (h < n ∧ 1 ≤ h) := Lib.hid (by omega)
    clear ih hp hp2 hm he hd ho hV hl I1 I2 PV L1 L2 TT SH hT1 hT2 hP1 hP2 h4 hgm hb ha hh hT
    go_enter Tryz.func16, Tryz.ntmps16
    go_wp2_with fail
    refine Canon.region_canon (by kernel_rfl) (by kernel_rfl) ?_
    go_wp2_with fail
    refine (HI1.out).mono ?_
    rintro e w1 ⟨x1, c1, a1, rfl, o1, m1, ha1, t1, g1'⟩
    have G1 := Lib.hid (gb_trans (gb_none (gb_drew (gb_refl w none)) (some gm)) g1')
    have O1 : Hid (Wo w1 w.heap.size x1 P1) := Lib.hid o1
    have A1 := Lib.hid ha1
    have HI3 := Lib.hid (HI2.out w1 G1.out a1 c1 m1 t1 ha1)
    clear o1 m1 ha1 t1 g1' HI1 HI2
    go_wp2_with fail
    refine (HI3.out).mono ?_
    rintro e w2 ⟨x2, c2, a2, rfl, o2, m2, ha2, t2, g2'⟩
    have BG : Hid (gm < w1.heap.size) := Lib.hid (Nat.lt_of_lt_of_le HGM.out G1.out.size)
    have O1' := Lib.hid (O1.out.past HGM.out g2')
    have O2 := Lib.hid o2
    have A2 := Lib.hid ha2
    have G2 := Lib.hid (gb_trans G1.out g2')
    obtain ⟨z1, s1, l1, v1⟩ := O1'.out.get HL.out.1
    obtain ⟨z2, s2, l2, v2⟩ := O2.out.get HL.out.2
    have r1 := trimZ_len z1
    have r2 := trimZ_len z2
    have N1 := mulE_c ht w2 g0 g1 g2 g3 gm a2 b c2 x1 x2 z1 z2 (HE.out.grown G2.out) (HD.out.grown HM.out G2.out) m2 t2 HB.out (by
      have h1 := A1.out
      have h2 := A2.out
      have h3 := HA.out
      have h4 := HN.out
      omega) s1 s2 (O1'.out.off HGM.out) (O2.out.off BG.out) (by omega)
    rw [v1, v2] at N1
    have KC := cost_lim ht (n := (trimZ z1).length) (m := (trimZ z2).length) (by omega)
    obtain ⟨k, hk⟩ : ∃ k, k = cost t (trimZ z1).length (trimZ z2).length := ⟨_, rfl⟩
    rw [← hk] at N1 KC
    have HN1 := Lib.hid N1
    have HKC := Lib.hid KC
    clear N1 KC hk s1 l1 v1 s2 l2 v2 r1 r2 o2 m2 ha2 t2 g2' HI3
    go_wp2_with fail
    refine (HN1.out).mono ?_
    rintro e w3 ⟨x, c3, rfl, o3, m3, cc, g3'⟩
    have KK : Hid (Wo w3 w.heap.size x (P1 * P2) ∧ Mt w3 gm (a2 + (k : Int)) b c3 ∧ (a2 + (k : Int) ≤ a + (n : Int) * 100000000 ∧ (0 < n → a2 + (k : Int) + 10000000 ≤ a + (n : Int) * 100000000)) ∧ c3.T = tbT t ∧ w.grownBy w3 (some gm)) := Lib.hid ⟨o3.mono G2.out.size, m3, (by
      have h1 := A1.out
      have h2 := A2.out
      have h4 := HN.out
      have h5 := HKC.out
      have h6 : ((n - h : Nat) : Int) = (n : Int) - (h : Int) := by omega
      rw [h6] at h2
      omega), cc.1, gb_trans G2.out g3'⟩
    clear o3 m3 cc g3' HN1 O1 O1' O2 A1 A2
    go_wp2
    refine ⟨by kernel_rfl, ?_⟩
    go_wp2
    go_ret
    exact ⟨x, c3, _, rfl, KK.out⟩
theorem trimZ_nil : trimZ [] = [] := rfl
/-- A product of rows, noughts on top or not, empty or not. -/
theorem mulX_c {t : Tb} (ht : TbOk t) (w : World) (g0 g1 g2 g3 gm : Nat) (a b : Int) (c : Mc) (va vb : Value) (al bl : List Int) (he : Eng w g0 g1 g2 g3 gm) (hd : Db w)
    (hm : Mt w gm a b c) (hT : c.T = tbT t) (hb : b ≤ 900) (ha0 : a ≤ 900000000000000) (ha : Sl w va al) (hb' : Sl w vb bl) (hna : al = [] ∨ Off va gm) (hnb : bl = [] ∨ Off vb gm) (hl : (trimZ al).length + (trimZ bl).length ≤ 1024) :
    Calls Tryz.prog 20 #[.pointer (some ⟨g0, 0, none⟩), va, vb] w fun e w' => ∃ x c', e = .returned x ∧ Got w gm a b c (tbT t) (cost t (trimZ al).length (trimZ bl).length) ((lev (max (trimZ al).length (trimZ bl).length) : Nat) : Int) (val B64 al * val B64 bl) w' x c' := by
  by_cases hoo : Off va gm ∧ Off vb gm
  · exact mulE_c ht w g0 g1 g2 g3 gm a b c va vb al bl he hd hm hT hb ha0 ha hb' hoo.1 hoo.2 hl
  have hz : al = [] ∨ bl = [] := by
    rcases hna with h | h
    · exact .inl h
    · rcases hnb with h' | h'
      · exact .inr h'
      · exact absurd ⟨h, h'⟩ hoo
  have hmin : min (trimZ al).length (trimZ bl).length = 0 := by
    rcases hz with h | h <;> subst h
    · show min ([] : List Int).length _ = 0; simp
    · show min _ ([] : List Int).length = 0; simp
  obtain ⟨A, ca, rfl, hca, _⟩ := ha.form
  obtain ⟨B, cb, rfl, hcb, _⟩ := hb'.form
  have W1 := Lib.hid (mwords_c w _ _ _ _ ha)
  have W2 := Lib.hid (mwords_c w _ _ _ _ hb')
  have sa := ha.take (trimZ al).length (trimZ_len al)
  have sb := hb'.take (trimZ bl).length (trimZ_len bl)
  rw [take_trimZ_len] at sa sb
  have l1 := trimZ_len al
  have l2 := trimZ_len bl
  have r0 : rt t (max (trimZ al).length (trimZ bl).length) (min (trimZ al).length (trimZ bl).length) = 0 := by unfold rt; rw [if_pos hmin]
  have T := times_go w g0 g1 g2 g3 gm a b c t _ _ (trimZ al) (trimZ bl) 0 (cost t (trimZ al).length (trimZ bl).length) ((lev (max (trimZ al).length (trimZ bl).length) : Nat) : Int) (val B64 al * val B64 bl) he hm hT ht sa sb (by omega) (by omega) r0 (by
    intro W1 G1
    refine (gone0_c W1 g0 _ _ _ _ (sa.grown0 G1) (sb.grown0 G1)).mono ?_
    rintro e w' ⟨rfl, rfl⟩
    have c0 : cost t (trimZ al).length (trimZ bl).length = 0 := by rw [cost_mm]; exact cost_0 (by omega) r0
    refine ⟨.slice none 0 0, c, rfl, ⟨[], own_nil _ _, nz_nil, ?_⟩, ?_, ⟨hT, Int.le_refl _, .inl (Int.le_refl _)⟩, gb_refl _ _⟩
    · rcases hz with h | h <;> subst h <;> simp [val]
    · rw [c0, show a + ((0 : Nat) : Int) = a by omega]; exact hm.grown G1)
  have HT := Lib.hid T
  obtain ⟨n, hn⟩ : ∃ n, n = al.length := ⟨_, rfl⟩
  obtain ⟨m, hm'⟩ : ∃ m, m = bl.length := ⟨_, rfl⟩
  rw [← hn] at W1 hca ⊢
  rw [← hm'] at W2 hcb ⊢
  obtain ⟨p, hp⟩ : ∃ p, p = (trimZ al).length := ⟨_, rfl⟩
  obtain ⟨q, hq⟩ : ∃ p, p = (trimZ bl).length := ⟨_, rfl⟩
  rw [← hp] at W1 HT
  rw [← hq] at W2 HT
  rw [← hp, ← hq]
  have hpn : p ≤ n := by rw [hp, hn]; exact trimZ_len _
  have hqm : q ≤ m := by rw [hq, hm']; exact trimZ_len _
  clear hn hm' hp hq T sa sb ha hb' hna hnb hm he hd l1 l2 hz hmin r0 hoo
  go_enter Tryz.func20, Tryz.ntmps20
  go_wp2_with fail
  refine (W1.out).mono ?_
  rintro e w1 ⟨rfl, hw⟩
  subst hw
  go_wp2_with fail
  refine (W2.out).mono ?_
  rintro e w2 ⟨rfl, hw⟩
  subst hw
  go_wp2_with fail
  refine (HT.out).mono ?_
  rintro e w3 ⟨x, c', rfl, k⟩
  have KK := Lib.hid k
  clear k HT W1 W2
  go_wp2
  go_ret
  exact ⟨x, c', rfl, KK.out⟩
theorem sqrX_c {t : Tb} (ht : TbOk t) (w : World) (g0 g1 g2 g3 gm : Nat) (a b : Int) (c : Mc) (va : Value) (al : List Int) (he : Eng w g0 g1 g2 g3 gm) (hd : Db w)
    (hm : Mt w gm a b c) (hT : c.T = tbT t) (hb : b ≤ 900) (ha0 : a ≤ 900000000000000) (ha : Sl w va al) (hna : al = [] ∨ Off va gm) (hl : (trimZ al).length ≤ 512) :
    Calls Tryz.prog 35 #[.pointer (some ⟨g0, 0, none⟩), va] w fun e w' => ∃ x c', e = .returned x ∧ Got w gm a b c (tbT t) (sq t (trimZ al).length) ((lev (trimZ al).length : Nat) : Int) (val B64 al * val B64 al) w' x c' := by
  rcases hna with rfl | ho
  · obtain ⟨A, ca, rfl, hca, _⟩ := ha.form
    have W1 := Lib.hid (mwords_c w _ _ _ _ ha)
    have sa := ha.take (trimZ []).length (trimZ_len [])
    have r0 : rt t ([] : List Int).length ([] : List Int).length = 0 := by unfold rt; simp
    have sa' : Sl w (.slice A 0 ca) [] := sa
    have G0 : ∀ W1, w.grownBy W1 none → Calls Tryz.prog 45 #[.pointer (some ⟨g0, 0, none⟩), .slice A 0 ca, .slice A 0 ca] W1 fun e w' => ∃ x c', e = .returned x ∧ Got W1 gm a b c (tbT t) 0 0 0 w' x c' := fun W1 G1 =>
      times_go W1 g0 g1 g2 g3 gm a b c t _ _ [] [] 0 0 0 0 (he.grown0 G1) (hm.grown G1) hT ht (sa'.grown0 G1) (sa'.grown0 G1) (by decide) (by decide) (by unfold rt; simp) (by
        intro W2 G2
        refine (gone0_c W2 g0 _ _ _ _ ((sa'.grown0 G1).grown0 G2) ((sa'.grown0 G1).grown0 G2)).mono ?_
        rintro e w' ⟨rfl, rfl⟩
        refine ⟨.slice none 0 0, c, rfl, ⟨[], own_nil _ _, nz_nil, rfl⟩, ?_, ⟨hT, Int.le_refl _, .inl (Int.le_refl _)⟩, gb_refl _ _⟩
        rw [show a + ((0 : Nat) : Int) = a by omega]; exact (hm.grown G1).grown G2)
    have HT := Lib.hid (square_0 w g0 g1 g2 g3 gm a b c t (.slice A 0 ca) [] 0 0 0 he hm hT ht sa' (by decide) r0 G0)
    have HS : Hid (sq t (trimZ []).length = 0) := Lib.hid (sq_0 (by unfold rt; simp [trimZ_nil]))
    rw [HS.out]
    have hv : val B64 [] * val B64 [] = 0 := rfl
    rw [hv]
    have W1' : Hid (Calls Tryz.prog 46 #[.slice A 0 ca] w fun e w' => e = .returned (.slice A 0 ca) ∧ w' = w) := W1
    have HL : Hid ((0 : Int) ≤ ((lev (trimZ []).length : Nat) : Int)) := Lib.hid (by omega)
    clear W1 sa sa' r0 G0 ha hm he hd hv
    go_enter Tryz.func35, Tryz.ntmps35
    go_wp2_with fail
    refine (W1'.out).mono ?_
    rintro e w1 ⟨rfl, hw⟩
    subst hw
    go_wp2_with fail
    refine (HT.out).mono ?_
    rintro e w3 ⟨x, c', rfl, k⟩
    have KK := Lib.hid (k.mono HL.out)
    clear k HT W1'
    go_wp2
    go_ret
    exact ⟨x, c', rfl, KK.out⟩
  · exact sqrE_c ht w g0 g1 g2 g3 gm a b c va al he hd hm hT hb ha0 ha ho hl
/-- An engine, and what it has spent. -/
structure En (w : World) (u : Tb) (g0 g1 g2 g3 gm : Nat) (a : Int) (c : Mc) : Prop where
  e : Eng w g0 g1 g2 g3 gm
  m : Mt w gm a 0 c
  t : c.T = tbT u
theorem En.grown0 {w w' : World} {u : Tb} {g0 g1 g2 g3 gm : Nat} {a : Int} {c : Mc} (h : En w u g0 g1 g2 g3 gm a c) (g : w.grownBy w' none) : En w' u g0 g1 g2 g3 gm a c := ⟨h.e.grown0 g, h.m.grown g, h.t⟩
theorem En.drew {w : World} {u : Tb} {g0 g1 g2 g3 gm : Nat} {a : Int} {c : Mc} (h : En w u g0 g1 g2 g3 gm a c) : En w.drew u g0 g1 g2 g3 gm a c := h.grown0 (gb_drew (gb_refl _ none))
theorem En.other {w w' : World} {u v : Tb} {g0 g1 g2 g3 gm k0 k1 k2 k3 km : Nat} {a a' : Int} {c c' : Mc} (h : En w u g0 g1 g2 g3 gm a c) (k : En w v k0 k1 k2 k3 km a' c') (hne : gm ≠ km) (g : w.grownBy w' (some km)) : En w' u g0 g1 g2 g3 gm a c :=
  ⟨⟨gb_cell g h.e.h0 (by have := Md.ptr_ne h.e.h0 k.m; simpa using this), gb_cell g h.e.h1 (by have := Md.ptr_ne h.e.h1 k.m; simpa using this), gb_cell g h.e.h2 (by have := Md.ptr_ne h.e.h2 k.m; simpa using this), gb_cell g h.e.h3 (by have := Md.ptr_ne h.e.h3 k.m; simpa using this), h.e.n0, h.e.n1, h.e.n2, h.e.n3⟩,
    h.m.rowo g (by simpa using hne), h.t⟩
theorem En.lt {w : World} {u : Tb} {g0 g1 g2 g3 gm : Nat} {a : Int} {c : Mc} (h : En w u g0 g1 g2 g3 gm a c) : gm < w.heap.size := World.block_lt_of_cell? w _ h.m.c0
theorem En.mul {u : Tb} (hu : TbOk u) {w : World} {g0 g1 g2 g3 gm : Nat} {a : Int} {c : Mc} (h : En w u g0 g1 g2 g3 gm a c) (hd : Db w) (ha0 : a ≤ 900000000000000) {va vb : Value} {al bl : List Int} (ha : Sl w va al) (hb : Sl w vb bl) (hna : al = [] ∨ Off va gm) (hnb : bl = [] ∨ Off vb gm) (hl : al.length + bl.length ≤ 1024) :
    Calls Tryz.prog 20 #[.pointer (some ⟨g0, 0, none⟩), va, vb] w fun e w' => ∃ x c', e = .returned x ∧ Wo w' w.heap.size x (val B64 al * val B64 bl) ∧ En w' u g0 g1 g2 g3 gm (a + ((cost u (trimZ al).length (trimZ bl).length : Nat) : Int)) c' ∧ w.grownBy w' (some gm) :=
  (mulX_c hu w g0 g1 g2 g3 gm a 0 c va vb al bl h.e hd h.m h.t (by decide) ha0 ha hb hna hnb (by have := trimZ_len al; have := trimZ_len bl; omega)).mono fun _ _ ⟨x, c', e1, k⟩ => ⟨x, c', e1, k.1, ⟨h.e.grown k.2.2.2, k.2.1, k.2.2.1.1⟩, k.2.2.2⟩
theorem En.sqr {u : Tb} (hu : TbOk u) {w : World} {g0 g1 g2 g3 gm : Nat} {a : Int} {c : Mc} (h : En w u g0 g1 g2 g3 gm a c) (hd : Db w) (ha0 : a ≤ 900000000000000) {va : Value} {al : List Int} (ha : Sl w va al) (hna : al = [] ∨ Off va gm) (hl : al.length ≤ 512) :
    Calls Tryz.prog 35 #[.pointer (some ⟨g0, 0, none⟩), va] w fun e w' => ∃ x c', e = .returned x ∧ Wo w' w.heap.size x (val B64 al * val B64 al) ∧ En w' u g0 g1 g2 g3 gm (a + ((sq u (trimZ al).length : Nat) : Int)) c' ∧ w.grownBy w' (some gm) :=
  (sqrX_c hu w g0 g1 g2 g3 gm a 0 c va al h.e hd h.m h.t (by decide) ha0 ha hna (by have := trimZ_len al; omega)).mono fun _ _ ⟨x, c', e1, k⟩ => ⟨x, c', e1, k.1, ⟨h.e.grown k.2.2.2, k.2.1, k.2.2.1.1⟩, k.2.2.2⟩
theorem En.new (w : World) (t : Tb) : Calls Tryz.prog 12 #[t.v] w fun e w' => ∃ g0 g1 g2 g3 gm, e = .returned (.pointer (some ⟨g0, 0, none⟩)) ∧ En w' t.clamp g0 g1 g2 g3 gm 0 ⟨0, tbT t.clamp⟩ ∧ w.heap.size ≤ gm ∧ w.grownBy w' none :=
  (mulNew_c w t).mono fun _ _ ⟨g0, g1, g2, g3, gm, e1, e2, e3, e4, e5⟩ => ⟨g0, g1, g2, g3, gm, e1, ⟨e2, e4, rfl⟩, e3, e5⟩
theorem Wo.same {w w' : World} {b b' n : Nat} {u v : Value} (h : Wo w b u n) (k : Wo w' b' v n) : ∃ zs, Sl w u zs ∧ Sl w' v zs ∧ Nz zs ∧ val B64 zs = n := by
  obtain ⟨zs, ow, nz, hv⟩ := h
  obtain ⟨ys, ow', nz', hv'⟩ := k
  obtain rfl := dg_ext (B := B64) (by decide) ow.ws.dg ow'.ws.dg nz nz' (hv.trans hv'.symm)
  exact ⟨zs, ow.sl, ow'.sl, nz, hv⟩
end Go.Proofs.YtldkiddoajlohaaGreatDoor

/- The reference's costs. -/
namespace Go.Proofs.YtldkiddoajlohaaGreatDoor
open Go.RowKit

theorem blen_eq {x l : Nat} (h1 : x < 2 ^ l) (h2 : l = 0 ∨ 2 ^ (l - 1) ≤ x) : blen x = l := by
  have a := blen_le x l h1
  rcases h2 with rfl | h2
  · omega
  · rcases Nat.lt_or_ge (blen x) l with h | h
    · have b := blen_lt x
      have c := Nat.pow_le_pow_right (n := 2) (by decide) (show blen x ≤ l - 1 by omega)
      omega
    · omega
set_option maxRecDepth 100000 in
theorem rtransf_c (w : World) (n m k : Nat) (hn : 0 < n) (hm : 0 < m) (hk : k ≤ 3) (h : n + m ≤ 1024) : Calls Tryz.prog 50 #[.int .i64 n, .int .i64 m, .int .i64 k] w fun e w' => e = .returned (.int .i64 (transf n m k : Nat)) ∧ w.grownBy w' none := by
  obtain ⟨s, hs⟩ : ∃ s, s = n + m := ⟨_, rfl⟩
  have es : (n : Int) + (m : Int) = (s : Int) := by omega
  have p1 : ((n : Int) < 1) = False := by simp; omega
  have p2 : ((m : Int) < 1) = False := by simp; omega
  have p3 : ((16384 : Int) < (n : Int)) = False := by simp; omega
  have p4 : ((16384 : Int) < (m : Int)) = False := by simp; omega
  have p5 : ((3 : Int) < (k : Int)) = False := by simp; omega
  have HS := Lib.hid hs
  have hs2 : 2 ≤ s ∧ s ≤ 1024 := by omega
  obtain ⟨T, hT⟩ : ∃ T, T = transf n m k := ⟨_, rfl⟩
  rw [← hT]
  have HT := Lib.hid hT
  clear hs hT
  go_enter Tryz.func50, Tryz.ntmps50
  go_wp2
  go_loopw [7, 8] (fun v7 v8 wr => ∃ (S l : Nat), v7 = .int .i64 S ∧ v8 = .int .i64 l ∧ S = 2 ^ l ∧ (l = 0 ∨ 2 ^ (l - 1) < s) ∧ S ≤ 2048 ∧ l ≤ 11 ∧ 1 ≤ S ∧ w.grownBy wr none) (fun v7 _ _ => s - (intOf v7).toNat)
  case atStart => exact ⟨1, 0, rfl, rfl, rfl, .inl rfl, by decide, by decide, by decide, gb_refl _ _⟩
  case round =>
    obtain ⟨S, l, rfl, rfl, hS, hl, hS2, hl2, hS1, G⟩ := hrel
    have HP := Lib.hid (And.intro hS hl)
    have GG := Lib.hid G
    clear hS hl G
    by_cases hlt : S < s
    · obtain ⟨S2, h2⟩ : ∃ z, z = 2 * S := ⟨_, rfl⟩
      have e2 : 2 * (S : Int) = (S2 : Int) := by omega
      have HS2 := Lib.hid h2
      clear h2
      go_wp2
      go_roundw
      case rel =>
        have e1 := HP.out.1
        have e3 := HS2.out
        have l10 : l ≤ 10 := by
          rcases Nat.lt_or_ge l 11 with h | h
          · omega
          · have := Nat.pow_le_pow_right (n := 2) (by decide) h
            omega
        exact ⟨S2, l + 1, rfl, by go_num, by rw [Nat.pow_succ]; omega, .inr (by rw [Nat.add_sub_cancel]; omega), by omega, by omega, by omega, GG.out⟩
      case measure => have e3 := HS2.out; simp [intOf]; omega
    · have HL : Hid (blen (n + m - 1) = l) := Lib.hid (blen_eq (by have := HP.out.1; have := HS.out; omega) (by
        rcases HP.out.2 with h | h
        · exact .inl h
        · right; have := HS.out; omega))
      obtain ⟨H, hH⟩ : ∃ H : Nat, H = S / 2 := ⟨_, rfl⟩
      have eH : (S : Int) / 2 = (H : Int) := by omega
      have k1 : k * H ≤ 3 * 1024 := Nat.mul_le_mul hk (by omega)
      obtain ⟨P, hP⟩ : ∃ P : Nat, P = k * H := ⟨_, rfl⟩
      have eP : (k : Int) * (H : Int) = (P : Int) := by rw [hP, Int.natCast_mul]
      have k2 : P * l ≤ 3072 * 11 := Nat.mul_le_mul (by omega) hl2
      obtain ⟨Q, hQ⟩ : ∃ Q : Nat, Q = P * l := ⟨_, rfl⟩
      have eQ : (P : Int) * (l : Int) = (Q : Int) := by rw [hQ, Int.natCast_mul]
      have etr : (T : Int) = 3 * ((Q : Int) + 2 * (S : Int)) + 6 * (S : Int) := by
        rw [HT.out]
        unfold transf
        rw [HL.out, ← HP.out.1, ← hH, ← hP, ← hQ]; omega
      have bQ : Q ≤ 33792 := by omega
      have bP : P ≤ 3072 := by omega
      have HE := Lib.hid etr
      clear hH hP hQ etr k1 k2
      go_wp2
      go_ret
      exact ⟨by rw [HE.out]; rfl, GG.out⟩
set_option maxRecDepth 100000 in
set_option maxHeartbeats 8000000 in
theorem rcost_all (t : Tb) : ∀ (s n m : Nat), n + m ≤ s → s ≤ 1024 → ∀ (w : World), Calls Tryz.prog 25 #[t.v, .int .i64 n, .int .i64 m] w fun e w' => e = .returned (.int .i64 (cost t.clamp n m)) ∧ w.grownBy w' none := by
  intro s
  induction s using Nat.strongRecOn with
  | _ s ih =>
    intro n m hnm hs w
    have IH : ∀ p q, p + q < n + m → ∀ (w : World), Calls Tryz.prog 25 #[t.v, .int .i64 p, .int .i64 q] w fun e w' => e = .returned (.int .i64 (cost t.clamp p q)) ∧ w.grownBy w' none := fun p q h => ih (p + q) (by omega) p q (Nat.le_refl _) (by omega)
    clear ih
    rcases Nat.lt_or_ge n m with hlt | hMN
    · have hMN : n ≤ m := Nat.le_of_lt hlt
      rw [cost_comm]
      have HR := Lib.hid (fun w => rroute_c w t m n (by omega) (by omega))
      rw [Nat.max_eq_left hMN, Nat.min_eq_right hMN] at HR
      have hcase : rt t.clamp m n = 0 ∨ rt t.clamp m n = 1 ∨ rt t.clamp m n = 2 ∨ rt t.clamp m n = 3 ∨ rt t.clamp m n = 4 ∨ rt t.clamp m n = 5 := by have := rt_le t.clamp m n; omega
      obtain ⟨K, hK⟩ : ∃ K, K = cost t.clamp m n := ⟨_, rfl⟩
      have bK : K ≤ 10000000 := by rw [hK]; exact cost_lim t.clamp_ok (by omega)
      rw [← hK]
      rcases hcase with cc | cc | cc | cc | cc | cc
      · rw [cc] at HR
        rw [cost_0 hMN cc] at hK
        subst hK
        clear cc IH
        have C0 := cs_new w #[.int .i64 t.eb, .int .i64 t.et, .int .i64 t.en, .int .i64 t.ed, .int .i64 t.er, .int .i64 t.el, .int .i64 t.ex, .int .i64 t.ep, .int .i64 t.ek, .int .i64 t.es, .int .i64 t.ee] 23
        have hg := gb_alloc (gb_refl w none) (Obj.cells #[.int .i64 t.eb, .int .i64 t.et, .int .i64 t.en, .int .i64 t.ed, .int .i64 t.er, .int .i64 t.el, .int .i64 t.ex, .int .i64 t.ep, .int .i64 t.ek, .int .i64 t.es, .int .i64 t.ee] 23)
        have HG := Lib.hid hg
        have HC0 := Lib.hid C0
        clear C0 hg
        go_enter Tryz.func25, Tryz.ntmps25
        have c0 := HC0.out.cell 0 rfl
        have c1 := HC0.out.cell 1 rfl
        have c2 := HC0.out.cell 2 rfl
        have c3 := HC0.out.cell 3 rfl
        have c4 := HC0.out.cell 4 rfl
        have c5 := HC0.out.cell 5 rfl
        have c6 := HC0.out.cell 6 rfl
        have c7 := HC0.out.cell 7 rfl
        have c8 := HC0.out.cell 8 rfl
        have c9 := HC0.out.cell 9 rfl
        have c10 := HC0.out.cell 10 rfl
        go_wp2_with fail
        refine (HR.out _).mono ?_
        rintro e w2 ⟨rfl, g2⟩
        have HC2 := Lib.hid (HC0.out.grown0 g2)
        have G2 := Lib.hid (gb_trans HG.out g2)
        clear c0 c1 c2 c3 c4 c5 c6 c7 c8 c9 c10 HC0 g2 HG HR
        go_wp2
        go_ret
        exact ⟨rfl, G2.out⟩
      · rw [cc] at HR
        rw [cost_1 hMN cc] at hK
        have eK : (m : Int) * (n : Int) = (K : Int) := by rw [hK, Int.natCast_mul]
        clear cc IH hK
        have C0 := cs_new w #[.int .i64 t.eb, .int .i64 t.et, .int .i64 t.en, .int .i64 t.ed, .int .i64 t.er, .int .i64 t.el, .int .i64 t.ex, .int .i64 t.ep, .int .i64 t.ek, .int .i64 t.es, .int .i64 t.ee] 23
        have hg := gb_alloc (gb_refl w none) (Obj.cells #[.int .i64 t.eb, .int .i64 t.et, .int .i64 t.en, .int .i64 t.ed, .int .i64 t.er, .int .i64 t.el, .int .i64 t.ex, .int .i64 t.ep, .int .i64 t.ek, .int .i64 t.es, .int .i64 t.ee] 23)
        have HG := Lib.hid hg
        have HC0 := Lib.hid C0
        clear C0 hg
        go_enter Tryz.func25, Tryz.ntmps25
        have c0 := HC0.out.cell 0 rfl
        have c1 := HC0.out.cell 1 rfl
        have c2 := HC0.out.cell 2 rfl
        have c3 := HC0.out.cell 3 rfl
        have c4 := HC0.out.cell 4 rfl
        have c5 := HC0.out.cell 5 rfl
        have c6 := HC0.out.cell 6 rfl
        have c7 := HC0.out.cell 7 rfl
        have c8 := HC0.out.cell 8 rfl
        have c9 := HC0.out.cell 9 rfl
        have c10 := HC0.out.cell 10 rfl
        go_wp2_with fail
        refine (HR.out _).mono ?_
        rintro e w2 ⟨rfl, g2⟩
        have HC2 := Lib.hid (HC0.out.grown0 g2)
        have G2 := Lib.hid (gb_trans HG.out g2)
        clear c0 c1 c2 c3 c4 c5 c6 c7 c8 c9 c10 HC0 g2 HG HR
        go_wp2
        go_ret
        exact ⟨rfl, G2.out⟩
      · have q := rt_2 cc
        have b4 := t.clamp_ok.eb.1
        have lt := Nat.mod_lt m q.1
        rw [cc] at HR
        rw [cost_2 t.clamp_ok hMN cc] at hK
        have HI1 := Lib.hid (fun w => IH n n (by omega) w)
        have HI2 := Lib.hid (fun w => IH n (m % n) (by omega) w)
        rw [cost_comm t.clamp n (m % n)] at HI2
        obtain ⟨k1, hk1⟩ : ∃ k, k = cost t.clamp n n := ⟨_, rfl⟩
        obtain ⟨k2, hk2⟩ : ∃ k, k = cost t.clamp (m % n) n := ⟨_, rfl⟩
        rw [← hk1, ← hk2] at hK
        rw [← hk1] at HI1
        rw [← hk2] at HI2
        obtain ⟨D, hD⟩ : ∃ D, D = m / n := ⟨_, rfl⟩
        obtain ⟨R, hRR⟩ : ∃ D, D = m % n := ⟨_, rfl⟩
        obtain ⟨J, hJ⟩ : ∃ J, J = D * k1 := ⟨_, rfl⟩
        unfold pall at hK
        rw [← hD, ← hRR, ← hJ] at hK
        rw [← hRR] at HI2
        have eD : (m : Int) / (n : Int) = (D : Int) := by rw [hD]; exact (Int.natCast_ediv _ _).symm
        have eD2 : (m : Int).tdiv (n : Int) = (D : Int) := by rw [Int.tdiv_eq_ediv_of_nonneg (by omega)]; exact eD
        have eR : (m : Int) % (n : Int) = (R : Int) := by rw [hRR]; exact (Int.natCast_emod _ _).symm
        have eR2 : (m : Int).tmod (n : Int) = (R : Int) := by rw [Int.tmod_eq_emod_of_nonneg (by omega)]; exact eR
        have m0 : ((n : Int) == 0) = false := by
          have : ¬ (n : Int) = 0 := by omega
          simpa using this
        have eJ : (D : Int) * (k1 : Int) = (J : Int) := by rw [hJ, Int.natCast_mul]
        have bJ : J ≤ 10000000 := by omega
        have bD : D ≤ 1024 := by rw [hD]; exact Nat.le_trans (Nat.div_le_self _ _) (by omega)
        have bR : R ≤ 1024 := by omega
        have bk1 : k1 ≤ 10000000 := by rw [hk1]; exact cost_lim t.clamp_ok (by omega)
        have bk2 : k2 ≤ 10000000 := by rw [hk2]; exact cost_lim t.clamp_ok (by omega)
        clear cc IH hk1 hk2 hD hRR hJ lt
        by_cases hR0 : 0 < R
        · rw [if_pos hR0] at hK
          have eKK : (J : Int) + (k2 : Int) = (K : Int) := by omega
          clear hK
          have C0 := cs_new w #[.int .i64 t.eb, .int .i64 t.et, .int .i64 t.en, .int .i64 t.ed, .int .i64 t.er, .int .i64 t.el, .int .i64 t.ex, .int .i64 t.ep, .int .i64 t.ek, .int .i64 t.es, .int .i64 t.ee] 23
          have hg := gb_alloc (gb_refl w none) (Obj.cells #[.int .i64 t.eb, .int .i64 t.et, .int .i64 t.en, .int .i64 t.ed, .int .i64 t.er, .int .i64 t.el, .int .i64 t.ex, .int .i64 t.ep, .int .i64 t.ek, .int .i64 t.es, .int .i64 t.ee] 23)
          have HG := Lib.hid hg
          have HC0 := Lib.hid C0
          clear C0 hg
          go_enter Tryz.func25, Tryz.ntmps25
          have c0 := HC0.out.cell 0 rfl
          have c1 := HC0.out.cell 1 rfl
          have c2 := HC0.out.cell 2 rfl
          have c3 := HC0.out.cell 3 rfl
          have c4 := HC0.out.cell 4 rfl
          have c5 := HC0.out.cell 5 rfl
          have c6 := HC0.out.cell 6 rfl
          have c7 := HC0.out.cell 7 rfl
          have c8 := HC0.out.cell 8 rfl
          have c9 := HC0.out.cell 9 rfl
          have c10 := HC0.out.cell 10 rfl
          go_wp2_with fail
          refine (HR.out _).mono ?_
          rintro e w2 ⟨rfl, g2⟩
          have HC2 := Lib.hid (HC0.out.grown0 g2)
          have G2 := Lib.hid (gb_trans HG.out g2)
          clear c0 c1 c2 c3 c4 c5 c6 c7 c8 c9 c10 HC0 g2 HG HR
          go_wp2
          refine Canon.region_canon (by kernel_rfl) (by kernel_rfl) ?_
          have c0 := HC2.out.drew.cell 0 rfl
          have c1 := HC2.out.drew.cell 1 rfl
          have c2 := HC2.out.drew.cell 2 rfl
          have c3 := HC2.out.drew.cell 3 rfl
          have c4 := HC2.out.drew.cell 4 rfl
          have c5 := HC2.out.drew.cell 5 rfl
          have c6 := HC2.out.drew.cell 6 rfl
          have c7 := HC2.out.drew.cell 7 rfl
          have c8 := HC2.out.drew.cell 8 rfl
          have c9 := HC2.out.drew.cell 9 rfl
          have c10 := HC2.out.drew.cell 10 rfl
          go_wp2_with fail
          refine (HI1.out _).mono ?_
          rintro e w3 ⟨rfl, g3⟩
          have HC3 := Lib.hid (HC2.out.drew.grown0 g3)
          have G3 := Lib.hid (gb_trans (gb_drew G2.out) g3)
          clear c0 c1 c2 c3 c4 c5 c6 c7 c8 c9 c10 HC2 g3 G2 HI1
          go_wp2
          refine ⟨by kernel_rfl, ?_⟩
          go_wp2
          refine Canon.region_canon (by kernel_rfl) (by kernel_rfl) ?_
          have c0 := HC3.out.drew.cell 0 rfl
          have c1 := HC3.out.drew.cell 1 rfl
          have c2 := HC3.out.drew.cell 2 rfl
          have c3 := HC3.out.drew.cell 3 rfl
          have c4 := HC3.out.drew.cell 4 rfl
          have c5 := HC3.out.drew.cell 5 rfl
          have c6 := HC3.out.drew.cell 6 rfl
          have c7 := HC3.out.drew.cell 7 rfl
          have c8 := HC3.out.drew.cell 8 rfl
          have c9 := HC3.out.drew.cell 9 rfl
          have c10 := HC3.out.drew.cell 10 rfl
          go_wp2_with fail
          refine (HI2.out _).mono ?_
          rintro e w4 ⟨rfl, g4⟩
          have G4 := Lib.hid (gb_trans (gb_drew G3.out) g4)
          clear c0 c1 c2 c3 c4 c5 c6 c7 c8 c9 c10 HC3 g4 G3 HI2
          go_wp2
          refine ⟨by kernel_rfl, ?_⟩
          go_wp2
          go_ret
          exact ⟨rfl, G4.out⟩
        · obtain rfl : R = 0 := by omega
          rw [if_neg hR0, Nat.add_zero] at hK
          subst hK
          have C0 := cs_new w #[.int .i64 t.eb, .int .i64 t.et, .int .i64 t.en, .int .i64 t.ed, .int .i64 t.er, .int .i64 t.el, .int .i64 t.ex, .int .i64 t.ep, .int .i64 t.ek, .int .i64 t.es, .int .i64 t.ee] 23
          have hg := gb_alloc (gb_refl w none) (Obj.cells #[.int .i64 t.eb, .int .i64 t.et, .int .i64 t.en, .int .i64 t.ed, .int .i64 t.er, .int .i64 t.el, .int .i64 t.ex, .int .i64 t.ep, .int .i64 t.ek, .int .i64 t.es, .int .i64 t.ee] 23)
          have HG := Lib.hid hg
          have HC0 := Lib.hid C0
          clear C0 hg
          go_enter Tryz.func25, Tryz.ntmps25
          have c0 := HC0.out.cell 0 rfl
          have c1 := HC0.out.cell 1 rfl
          have c2 := HC0.out.cell 2 rfl
          have c3 := HC0.out.cell 3 rfl
          have c4 := HC0.out.cell 4 rfl
          have c5 := HC0.out.cell 5 rfl
          have c6 := HC0.out.cell 6 rfl
          have c7 := HC0.out.cell 7 rfl
          have c8 := HC0.out.cell 8 rfl
          have c9 := HC0.out.cell 9 rfl
          have c10 := HC0.out.cell 10 rfl
          go_wp2_with fail
          refine (HR.out _).mono ?_
          rintro e w2 ⟨rfl, g2⟩
          have HC2 := Lib.hid (HC0.out.grown0 g2)
          have G2 := Lib.hid (gb_trans HG.out g2)
          clear c0 c1 c2 c3 c4 c5 c6 c7 c8 c9 c10 HC0 g2 HG HR
          go_wp2
          refine Canon.region_canon (by kernel_rfl) (by kernel_rfl) ?_
          have c0 := HC2.out.drew.cell 0 rfl
          have c1 := HC2.out.drew.cell 1 rfl
          have c2 := HC2.out.drew.cell 2 rfl
          have c3 := HC2.out.drew.cell 3 rfl
          have c4 := HC2.out.drew.cell 4 rfl
          have c5 := HC2.out.drew.cell 5 rfl
          have c6 := HC2.out.drew.cell 6 rfl
          have c7 := HC2.out.drew.cell 7 rfl
          have c8 := HC2.out.drew.cell 8 rfl
          have c9 := HC2.out.drew.cell 9 rfl
          have c10 := HC2.out.drew.cell 10 rfl
          go_wp2_with fail
          refine (HI1.out _).mono ?_
          rintro e w3 ⟨rfl, g3⟩
          have G3 := Lib.hid (gb_trans (gb_drew G2.out) g3)
          clear c0 c1 c2 c3 c4 c5 c6 c7 c8 c9 c10 HC2 g3 G2 HI1
          go_wp2
          refine ⟨by kernel_rfl, ?_⟩
          go_wp2
          go_ret
          exact ⟨rfl, G3.out⟩
      · have q := rt_3 cc
        have b4 := t.clamp_ok.eb.1
        rw [cc] at HR
        rw [cost_3 t.clamp_ok hMN cc] at hK
        have I1 := fun w => IH ((m + 1) / 2) ((m + 1) / 2) (by omega) w
        have I2 := fun w => IH (m - (m + 1) / 2) (n - (m + 1) / 2) (by omega) w
        have I3 := fun w => IH ((m + 1) / 2 + 1) ((m + 1) / 2 + 1) (by omega) w
        obtain ⟨h, hh⟩ : ∃ q, q = (m + 1) / 2 := ⟨_, rfl⟩
        obtain ⟨p, hp⟩ : ∃ q, q = m - h := ⟨_, rfl⟩
        obtain ⟨q', hq⟩ : ∃ q, q = n - h := ⟨_, rfl⟩
        obtain ⟨H, hH⟩ : ∃ H, H = h + 1 := ⟨_, rfl⟩
        have e1 : ((m : Int) + 1) / 2 = (h : Int) := by omega
        have e2 : (m : Int) - (h : Int) = (p : Int) := by omega
        have e3 : (n : Int) - (h : Int) = (q' : Int) := by omega
        have e4 : (h : Int) + 1 = (H : Int) := by omega
        rw [← hh] at I1 I2 I3 hK
        rw [← hp, ← hq] at I2 hK
        rw [← hH] at I3 hK
        obtain ⟨k1, hk1⟩ : ∃ k, k = cost t.clamp h h := ⟨_, rfl⟩
        obtain ⟨k2, hk2⟩ : ∃ k, k = cost t.clamp p q' := ⟨_, rfl⟩
        obtain ⟨k3, hk3⟩ : ∃ k, k = cost t.clamp H H := ⟨_, rfl⟩
        rw [← hk1, ← hk2, ← hk3] at hK
        rw [← hk1] at I1
        rw [← hk2] at I2
        rw [← hk3] at I3
        obtain ⟨k12, hk12⟩ : ∃ k, k = k1 + k2 := ⟨_, rfl⟩
        have f1 : (k1 : Int) + (k2 : Int) = (k12 : Int) := by omega
        have f2 : (k12 : Int) + (k3 : Int) = (K : Int) := by omega
        have bb : h ≤ 1024 ∧ p ≤ 1024 ∧ q' ≤ 1024 ∧ H ≤ 1025 ∧ k1 ≤ 10000000 ∧ k2 ≤ 10000000 ∧ k3 ≤ 10000000 ∧ k12 ≤ 10000000 := by omega
        have HI1 := Lib.hid I1
        have HI2 := Lib.hid I2
        have HI3 := Lib.hid I3
        clear cc IH hK hk1 hk2 hk3 hk12 hh hp hq hH I1 I2 I3
        have C0 := cs_new w #[.int .i64 t.eb, .int .i64 t.et, .int .i64 t.en, .int .i64 t.ed, .int .i64 t.er, .int .i64 t.el, .int .i64 t.ex, .int .i64 t.ep, .int .i64 t.ek, .int .i64 t.es, .int .i64 t.ee] 23
        have hg := gb_alloc (gb_refl w none) (Obj.cells #[.int .i64 t.eb, .int .i64 t.et, .int .i64 t.en, .int .i64 t.ed, .int .i64 t.er, .int .i64 t.el, .int .i64 t.ex, .int .i64 t.ep, .int .i64 t.ek, .int .i64 t.es, .int .i64 t.ee] 23)
        have HG := Lib.hid hg
        have HC0 := Lib.hid C0
        clear C0 hg
        go_enter Tryz.func25, Tryz.ntmps25
        have c0 := HC0.out.cell 0 rfl
        have c1 := HC0.out.cell 1 rfl
        have c2 := HC0.out.cell 2 rfl
        have c3 := HC0.out.cell 3 rfl
        have c4 := HC0.out.cell 4 rfl
        have c5 := HC0.out.cell 5 rfl
        have c6 := HC0.out.cell 6 rfl
        have c7 := HC0.out.cell 7 rfl
        have c8 := HC0.out.cell 8 rfl
        have c9 := HC0.out.cell 9 rfl
        have c10 := HC0.out.cell 10 rfl
        go_wp2_with fail
        refine (HR.out _).mono ?_
        rintro e w2 ⟨rfl, g2⟩
        have HC2 := Lib.hid (HC0.out.grown0 g2)
        have G2 := Lib.hid (gb_trans HG.out g2)
        clear c0 c1 c2 c3 c4 c5 c6 c7 c8 c9 c10 HC0 g2 HG HR
        go_wp2
        have HSF : Hid (∀ W, Cs W w.heap.size t.vs → Canon.SF [(⟨w.heap.size, 0, none⟩, t.v), (⟨w.heap.size, 0, none⟩, t.v)] W) := Lib.hid (fun W C => Canon.sf_agg (fun j u h => C.at0 j h) (Canon.sf_agg (fun j u h => C.at0 j h) (Canon.sf_nil _)))
        refine Canon.region_held [56, 65] _ (by kernel_rfl) (by kernel_rfl) (HSF.out _ HC2.out) ?_
        have c0 := HC2.out.drew.cell 0 rfl
        have c1 := HC2.out.drew.cell 1 rfl
        have c2 := HC2.out.drew.cell 2 rfl
        have c3 := HC2.out.drew.cell 3 rfl
        have c4 := HC2.out.drew.cell 4 rfl
        have c5 := HC2.out.drew.cell 5 rfl
        have c6 := HC2.out.drew.cell 6 rfl
        have c7 := HC2.out.drew.cell 7 rfl
        have c8 := HC2.out.drew.cell 8 rfl
        have c9 := HC2.out.drew.cell 9 rfl
        have c10 := HC2.out.drew.cell 10 rfl
        refine Canon.segs_at 3 _ _ _ (by kernel_rfl) ?_
        simp only [List.take_succ_cons, List.take_zero, List.drop_succ_cons, List.drop_zero]
        go_wp2_with fail
        refine (HI1.out _).mono ?_
        rintro e w3 ⟨rfl, g3⟩
        have HC3 := Lib.hid (HC2.out.drew.grown0 g3)
        have G3 := Lib.hid (gb_trans (gb_drew G2.out) g3)
        clear c0 c1 c2 c3 c4 c5 c6 c7 c8 c9 c10 HC2 g3 G2 HI1
        go_wp2
        refine ⟨HSF.out _ HC3.out, ?_⟩
        have c0 := HC3.out.cell 0 rfl
        have c1 := HC3.out.cell 1 rfl
        have c2 := HC3.out.cell 2 rfl
        have c3 := HC3.out.cell 3 rfl
        have c4 := HC3.out.cell 4 rfl
        have c5 := HC3.out.cell 5 rfl
        have c6 := HC3.out.cell 6 rfl
        have c7 := HC3.out.cell 7 rfl
        have c8 := HC3.out.cell 8 rfl
        have c9 := HC3.out.cell 9 rfl
        have c10 := HC3.out.cell 10 rfl
        refine Canon.segs_at 7 _ _ _ (by kernel_rfl) ?_
        simp only [List.take_succ_cons, List.take_zero, List.drop_succ_cons, List.drop_zero]
        go_wp2_with fail
        refine (HI2.out _).mono ?_
        rintro e w4 ⟨rfl, g4⟩
        have HC4 := Lib.hid (HC3.out.grown0 g4)
        have G4 := Lib.hid (gb_trans G3.out g4)
        clear c0 c1 c2 c3 c4 c5 c6 c7 c8 c9 c10 HC3 g4 G3 HI2
        go_wp2
        refine ⟨HSF.out _ HC4.out, ?_⟩
        have c0 := HC4.out.cell 0 rfl
        have c1 := HC4.out.cell 1 rfl
        have c2 := HC4.out.cell 2 rfl
        have c3 := HC4.out.cell 3 rfl
        have c4 := HC4.out.cell 4 rfl
        have c5 := HC4.out.cell 5 rfl
        have c6 := HC4.out.cell 6 rfl
        have c7 := HC4.out.cell 7 rfl
        have c8 := HC4.out.cell 8 rfl
        have c9 := HC4.out.cell 9 rfl
        have c10 := HC4.out.cell 10 rfl
        refine Canon.segs_at 6 _ _ _ (by kernel_rfl) ?_
        simp only [List.take_succ_cons, List.take_zero, List.drop_succ_cons, List.drop_zero]
        go_wp2_with fail
        refine (HI3.out _).mono ?_
        rintro e w5 ⟨rfl, g5⟩
        have HC5 := Lib.hid (HC4.out.grown0 g5)
        have G5 := Lib.hid (gb_trans G4.out g5)
        clear c0 c1 c2 c3 c4 c5 c6 c7 c8 c9 c10 HC4 g5 G4 HI3
        go_wp2
        refine ⟨HSF.out _ HC5.out, ?_⟩
        refine Canon.segs_end _ _ _ (by kernel_rfl) ?_
        go_wp2
        refine ⟨by kernel_rfl, by kernel_rfl, by kernel_rfl, ?_⟩
        go_wp2
        go_ret
        exact ⟨rfl, G5.out⟩
      · have q := rt_4 cc
        have b4 := t.clamp_ok.eb.1
        rw [cc] at HR
        rw [cost_4 t.clamp_ok hMN cc] at hK
        have I1 := fun w => IH ((m + 2) / 3) ((m + 2) / 3) (by omega) w
        have I2 := fun w => IH ((m + 2) / 3 + 1) ((m + 2) / 3 + 1) (by omega) w
        have I3 := fun w => IH (m - 2 * ((m + 2) / 3)) (n - 2 * ((m + 2) / 3)) (by omega) w
        obtain ⟨h, hh⟩ : ∃ q, q = (m + 2) / 3 := ⟨_, rfl⟩
        obtain ⟨h2, hh2⟩ : ∃ q, q = 2 * h := ⟨_, rfl⟩
        obtain ⟨p, hp⟩ : ∃ q, q = m - h2 := ⟨_, rfl⟩
        obtain ⟨q', hq⟩ : ∃ q, q = n - h2 := ⟨_, rfl⟩
        obtain ⟨H, hH⟩ : ∃ H, H = h + 1 := ⟨_, rfl⟩
        have e1 : ((m : Int) + 2) / 3 = (h : Int) := by omega
        have e1' : 2 * (h : Int) = (h2 : Int) := by omega
        have e2 : (m : Int) - (h2 : Int) = (p : Int) := by omega
        have e3 : (n : Int) - (h2 : Int) = (q' : Int) := by omega
        have e4 : (h : Int) + 1 = (H : Int) := by omega
        rw [← hh] at I1 I2 I3 hK
        rw [← hh2] at I3 hK
        rw [← hp, ← hq] at I3 hK
        rw [← hH] at I2 hK
        obtain ⟨k1, hk1⟩ : ∃ k, k = cost t.clamp h h := ⟨_, rfl⟩
        obtain ⟨k2, hk2⟩ : ∃ k, k = cost t.clamp H H := ⟨_, rfl⟩
        obtain ⟨k3, hk3⟩ : ∃ k, k = cost t.clamp p q' := ⟨_, rfl⟩
        rw [← hk1, ← hk2, ← hk3] at hK
        rw [← hk1] at I1
        rw [← hk2] at I2
        rw [← hk3] at I3
        obtain ⟨k22, hk22⟩ : ∃ k, k = 3 * k2 := ⟨_, rfl⟩
        obtain ⟨k12, hk12⟩ : ∃ k, k = k1 + k22 := ⟨_, rfl⟩
        have f0 : 3 * (k2 : Int) = (k22 : Int) := by omega
        have f1 : (k1 : Int) + (k22 : Int) = (k12 : Int) := by omega
        have f2 : (k12 : Int) + (k3 : Int) = (K : Int) := by omega
        have bb : h ≤ 1024 ∧ h2 ≤ 1024 ∧ p ≤ 1024 ∧ q' ≤ 1024 ∧ H ≤ 1025 ∧ k1 ≤ 10000000 ∧ k2 ≤ 10000000 ∧ k3 ≤ 10000000 ∧ k12 ≤ 10000000 ∧ k22 ≤ 10000000 := by omega
        have HI1 := Lib.hid I1
        have HI2 := Lib.hid I2
        have HI3 := Lib.hid I3
        clear cc IH hK hk1 hk2 hk3 hk12 hk22 hh hh2 hp hq hH I1 I2 I3
        have C0 := cs_new w #[.int .i64 t.eb, .int .i64 t.et, .int .i64 t.en, .int .i64 t.ed, .int .i64 t.er, .int .i64 t.el, .int .i64 t.ex, .int .i64 t.ep, .int .i64 t.ek, .int .i64 t.es, .int .i64 t.ee] 23
        have hg := gb_alloc (gb_refl w none) (Obj.cells #[.int .i64 t.eb, .int .i64 t.et, .int .i64 t.en, .int .i64 t.ed, .int .i64 t.er, .int .i64 t.el, .int .i64 t.ex, .int .i64 t.ep, .int .i64 t.ek, .int .i64 t.es, .int .i64 t.ee] 23)
        have HG := Lib.hid hg
        have HC0 := Lib.hid C0
        clear C0 hg
        go_enter Tryz.func25, Tryz.ntmps25
        have c0 := HC0.out.cell 0 rfl
        have c1 := HC0.out.cell 1 rfl
        have c2 := HC0.out.cell 2 rfl
        have c3 := HC0.out.cell 3 rfl
        have c4 := HC0.out.cell 4 rfl
        have c5 := HC0.out.cell 5 rfl
        have c6 := HC0.out.cell 6 rfl
        have c7 := HC0.out.cell 7 rfl
        have c8 := HC0.out.cell 8 rfl
        have c9 := HC0.out.cell 9 rfl
        have c10 := HC0.out.cell 10 rfl
        go_wp2_with fail
        refine (HR.out _).mono ?_
        rintro e w2 ⟨rfl, g2⟩
        have HC2 := Lib.hid (HC0.out.grown0 g2)
        have G2 := Lib.hid (gb_trans HG.out g2)
        clear c0 c1 c2 c3 c4 c5 c6 c7 c8 c9 c10 HC0 g2 HG HR
        go_wp2
        have HSF : Hid (∀ W, Cs W w.heap.size t.vs → Canon.SF [(⟨w.heap.size, 0, none⟩, t.v), (⟨w.heap.size, 0, none⟩, t.v)] W) := Lib.hid (fun W C => Canon.sf_agg (fun j u h => C.at0 j h) (Canon.sf_agg (fun j u h => C.at0 j h) (Canon.sf_nil _)))
        refine Canon.region_held [81, 89] _ (by kernel_rfl) (by kernel_rfl) (HSF.out _ HC2.out) ?_
        have c0 := HC2.out.drew.cell 0 rfl
        have c1 := HC2.out.drew.cell 1 rfl
        have c2 := HC2.out.drew.cell 2 rfl
        have c3 := HC2.out.drew.cell 3 rfl
        have c4 := HC2.out.drew.cell 4 rfl
        have c5 := HC2.out.drew.cell 5 rfl
        have c6 := HC2.out.drew.cell 6 rfl
        have c7 := HC2.out.drew.cell 7 rfl
        have c8 := HC2.out.drew.cell 8 rfl
        have c9 := HC2.out.drew.cell 9 rfl
        have c10 := HC2.out.drew.cell 10 rfl
        refine Canon.segs_at 3 _ _ _ (by kernel_rfl) ?_
        simp only [List.take_succ_cons, List.take_zero, List.drop_succ_cons, List.drop_zero]
        go_wp2_with fail
        refine (HI1.out _).mono ?_
        rintro e w3 ⟨rfl, g3⟩
        have HC3 := Lib.hid (HC2.out.drew.grown0 g3)
        have G3 := Lib.hid (gb_trans (gb_drew G2.out) g3)
        clear c0 c1 c2 c3 c4 c5 c6 c7 c8 c9 c10 HC2 g3 G2 HI1
        go_wp2
        refine ⟨HSF.out _ HC3.out, ?_⟩
        have c0 := HC3.out.cell 0 rfl
        have c1 := HC3.out.cell 1 rfl
        have c2 := HC3.out.cell 2 rfl
        have c3 := HC3.out.cell 3 rfl
        have c4 := HC3.out.cell 4 rfl
        have c5 := HC3.out.cell 5 rfl
        have c6 := HC3.out.cell 6 rfl
        have c7 := HC3.out.cell 7 rfl
        have c8 := HC3.out.cell 8 rfl
        have c9 := HC3.out.cell 9 rfl
        have c10 := HC3.out.cell 10 rfl
        refine Canon.segs_at 5 _ _ _ (by kernel_rfl) ?_
        simp only [List.take_succ_cons, List.take_zero, List.drop_succ_cons, List.drop_zero]
        go_wp2_with fail
        refine (HI2.out _).mono ?_
        rintro e w4 ⟨rfl, g4⟩
        have HC4 := Lib.hid (HC3.out.grown0 g4)
        have G4 := Lib.hid (gb_trans G3.out g4)
        clear c0 c1 c2 c3 c4 c5 c6 c7 c8 c9 c10 HC3 g4 G3 HI2
        go_wp2
        refine ⟨HSF.out _ HC4.out, ?_⟩
        have c0 := HC4.out.cell 0 rfl
        have c1 := HC4.out.cell 1 rfl
        have c2 := HC4.out.cell 2 rfl
        have c3 := HC4.out.cell 3 rfl
        have c4 := HC4.out.cell 4 rfl
        have c5 := HC4.out.cell 5 rfl
        have c6 := HC4.out.cell 6 rfl
        have c7 := HC4.out.cell 7 rfl
        have c8 := HC4.out.cell 8 rfl
        have c9 := HC4.out.cell 9 rfl
        have c10 := HC4.out.cell 10 rfl
        refine Canon.segs_at 11 _ _ _ (by kernel_rfl) ?_
        simp only [List.take_succ_cons, List.take_zero, List.drop_succ_cons, List.drop_zero]
        go_wp2_with fail
        refine (HI3.out _).mono ?_
        rintro e w5 ⟨rfl, g5⟩
        have HC5 := Lib.hid (HC4.out.grown0 g5)
        have G5 := Lib.hid (gb_trans G4.out g5)
        clear c0 c1 c2 c3 c4 c5 c6 c7 c8 c9 c10 HC4 g5 G4 HI3
        go_wp2
        refine ⟨HSF.out _ HC5.out, ?_⟩
        refine Canon.segs_end _ _ _ (by kernel_rfl) ?_
        go_wp2
        refine ⟨by kernel_rfl, by kernel_rfl, by kernel_rfl, ?_⟩
        go_wp2
        go_ret
        exact ⟨rfl, G5.out⟩
      · have q := rt_5 cc
        have b4 := t.clamp_ok.eb.1
        rw [cc] at HR
        rw [cost_5 hMN cc] at hK
        have TR : Hid (∀ w, Calls Tryz.prog 50 #[.int .i64 m, .int .i64 n, .int .i64 3] w fun e w' => e = .returned (.int .i64 (K : Nat)) ∧ w.grownBy w' none) := Lib.hid (fun w => by rw [hK]; exact rtransf_c w m n 3 (by omega) (by omega) (by decide) (by omega))
        clear cc IH hK
        have C0 := cs_new w #[.int .i64 t.eb, .int .i64 t.et, .int .i64 t.en, .int .i64 t.ed, .int .i64 t.er, .int .i64 t.el, .int .i64 t.ex, .int .i64 t.ep, .int .i64 t.ek, .int .i64 t.es, .int .i64 t.ee] 23
        have hg := gb_alloc (gb_refl w none) (Obj.cells #[.int .i64 t.eb, .int .i64 t.et, .int .i64 t.en, .int .i64 t.ed, .int .i64 t.er, .int .i64 t.el, .int .i64 t.ex, .int .i64 t.ep, .int .i64 t.ek, .int .i64 t.es, .int .i64 t.ee] 23)
        have HG := Lib.hid hg
        have HC0 := Lib.hid C0
        clear C0 hg
        go_enter Tryz.func25, Tryz.ntmps25
        have c0 := HC0.out.cell 0 rfl
        have c1 := HC0.out.cell 1 rfl
        have c2 := HC0.out.cell 2 rfl
        have c3 := HC0.out.cell 3 rfl
        have c4 := HC0.out.cell 4 rfl
        have c5 := HC0.out.cell 5 rfl
        have c6 := HC0.out.cell 6 rfl
        have c7 := HC0.out.cell 7 rfl
        have c8 := HC0.out.cell 8 rfl
        have c9 := HC0.out.cell 9 rfl
        have c10 := HC0.out.cell 10 rfl
        go_wp2_with fail
        refine (HR.out _).mono ?_
        rintro e w2 ⟨rfl, g2⟩
        have HC2 := Lib.hid (HC0.out.grown0 g2)
        have G2 := Lib.hid (gb_trans HG.out g2)
        clear c0 c1 c2 c3 c4 c5 c6 c7 c8 c9 c10 HC0 g2 HG HR
        go_wp2_with fail
        refine (TR.out _).mono ?_
        rintro e w3 ⟨rfl, g3⟩
        have G3 := Lib.hid (gb_trans G2.out g3)
        clear g3 TR
        go_wp2
        go_ret
        exact ⟨rfl, G3.out⟩
    · have h' : ¬ n < m := by omega
      have HR := Lib.hid (fun w => rroute_c w t n m (by omega) (by omega))
      rw [Nat.max_eq_left hMN, Nat.min_eq_right hMN] at HR
      have hcase : rt t.clamp n m = 0 ∨ rt t.clamp n m = 1 ∨ rt t.clamp n m = 2 ∨ rt t.clamp n m = 3 ∨ rt t.clamp n m = 4 ∨ rt t.clamp n m = 5 := by have := rt_le t.clamp n m; omega
      obtain ⟨K, hK⟩ : ∃ K, K = cost t.clamp n m := ⟨_, rfl⟩
      have bK : K ≤ 10000000 := by rw [hK]; exact cost_lim t.clamp_ok (by omega)
      rw [← hK]
      rcases hcase with cc | cc | cc | cc | cc | cc
      · rw [cc] at HR
        rw [cost_0 hMN cc] at hK
        subst hK
        clear cc IH
        have C0 := cs_new w #[.int .i64 t.eb, .int .i64 t.et, .int .i64 t.en, .int .i64 t.ed, .int .i64 t.er, .int .i64 t.el, .int .i64 t.ex, .int .i64 t.ep, .int .i64 t.ek, .int .i64 t.es, .int .i64 t.ee] 23
        have hg := gb_alloc (gb_refl w none) (Obj.cells #[.int .i64 t.eb, .int .i64 t.et, .int .i64 t.en, .int .i64 t.ed, .int .i64 t.er, .int .i64 t.el, .int .i64 t.ex, .int .i64 t.ep, .int .i64 t.ek, .int .i64 t.es, .int .i64 t.ee] 23)
        have HG := Lib.hid hg
        have HC0 := Lib.hid C0
        clear C0 hg
        go_enter Tryz.func25, Tryz.ntmps25
        have c0 := HC0.out.cell 0 rfl
        have c1 := HC0.out.cell 1 rfl
        have c2 := HC0.out.cell 2 rfl
        have c3 := HC0.out.cell 3 rfl
        have c4 := HC0.out.cell 4 rfl
        have c5 := HC0.out.cell 5 rfl
        have c6 := HC0.out.cell 6 rfl
        have c7 := HC0.out.cell 7 rfl
        have c8 := HC0.out.cell 8 rfl
        have c9 := HC0.out.cell 9 rfl
        have c10 := HC0.out.cell 10 rfl
        go_wp2_with fail
        refine (HR.out _).mono ?_
        rintro e w2 ⟨rfl, g2⟩
        have HC2 := Lib.hid (HC0.out.grown0 g2)
        have G2 := Lib.hid (gb_trans HG.out g2)
        clear c0 c1 c2 c3 c4 c5 c6 c7 c8 c9 c10 HC0 g2 HG HR
        go_wp2
        go_ret
        exact ⟨rfl, G2.out⟩
      · rw [cc] at HR
        rw [cost_1 hMN cc] at hK
        have eK : (n : Int) * (m : Int) = (K : Int) := by rw [hK, Int.natCast_mul]
        clear cc IH hK
        have C0 := cs_new w #[.int .i64 t.eb, .int .i64 t.et, .int .i64 t.en, .int .i64 t.ed, .int .i64 t.er, .int .i64 t.el, .int .i64 t.ex, .int .i64 t.ep, .int .i64 t.ek, .int .i64 t.es, .int .i64 t.ee] 23
        have hg := gb_alloc (gb_refl w none) (Obj.cells #[.int .i64 t.eb, .int .i64 t.et, .int .i64 t.en, .int .i64 t.ed, .int .i64 t.er, .int .i64 t.el, .int .i64 t.ex, .int .i64 t.ep, .int .i64 t.ek, .int .i64 t.es, .int .i64 t.ee] 23)
        have HG := Lib.hid hg
        have HC0 := Lib.hid C0
        clear C0 hg
        go_enter Tryz.func25, Tryz.ntmps25
        have c0 := HC0.out.cell 0 rfl
        have c1 := HC0.out.cell 1 rfl
        have c2 := HC0.out.cell 2 rfl
        have c3 := HC0.out.cell 3 rfl
        have c4 := HC0.out.cell 4 rfl
        have c5 := HC0.out.cell 5 rfl
        have c6 := HC0.out.cell 6 rfl
        have c7 := HC0.out.cell 7 rfl
        have c8 := HC0.out.cell 8 rfl
        have c9 := HC0.out.cell 9 rfl
        have c10 := HC0.out.cell 10 rfl
        go_wp2_with fail
        refine (HR.out _).mono ?_
        rintro e w2 ⟨rfl, g2⟩
        have HC2 := Lib.hid (HC0.out.grown0 g2)
        have G2 := Lib.hid (gb_trans HG.out g2)
        clear c0 c1 c2 c3 c4 c5 c6 c7 c8 c9 c10 HC0 g2 HG HR
        go_wp2
        go_ret
        exact ⟨rfl, G2.out⟩
      · have q := rt_2 cc
        have b4 := t.clamp_ok.eb.1
        have lt := Nat.mod_lt n q.1
        rw [cc] at HR
        rw [cost_2 t.clamp_ok hMN cc] at hK
        have HI1 := Lib.hid (fun w => IH m m (by omega) w)
        have HI2 := Lib.hid (fun w => IH m (n % m) (by omega) w)
        rw [cost_comm t.clamp m (n % m)] at HI2
        obtain ⟨k1, hk1⟩ : ∃ k, k = cost t.clamp m m := ⟨_, rfl⟩
        obtain ⟨k2, hk2⟩ : ∃ k, k = cost t.clamp (n % m) m := ⟨_, rfl⟩
        rw [← hk1, ← hk2] at hK
        rw [← hk1] at HI1
        rw [← hk2] at HI2
        obtain ⟨D, hD⟩ : ∃ D, D = n / m := ⟨_, rfl⟩
        obtain ⟨R, hRR⟩ : ∃ D, D = n % m := ⟨_, rfl⟩
        obtain ⟨J, hJ⟩ : ∃ J, J = D * k1 := ⟨_, rfl⟩
        unfold pall at hK
        rw [← hD, ← hRR, ← hJ] at hK
        rw [← hRR] at HI2
        have eD : (n : Int) / (m : Int) = (D : Int) := by rw [hD]; exact (Int.natCast_ediv _ _).symm
        have eD2 : (n : Int).tdiv (m : Int) = (D : Int) := by rw [Int.tdiv_eq_ediv_of_nonneg (by omega)]; exact eD
        have eR : (n : Int) % (m : Int) = (R : Int) := by rw [hRR]; exact (Int.natCast_emod _ _).symm
        have eR2 : (n : Int).tmod (m : Int) = (R : Int) := by rw [Int.tmod_eq_emod_of_nonneg (by omega)]; exact eR
        have m0 : ((m : Int) == 0) = false := by
          have : ¬ (m : Int) = 0 := by omega
          simpa using this
        have eJ : (D : Int) * (k1 : Int) = (J : Int) := by rw [hJ, Int.natCast_mul]
        have bJ : J ≤ 10000000 := by omega
        have bD : D ≤ 1024 := by rw [hD]; exact Nat.le_trans (Nat.div_le_self _ _) (by omega)
        have bR : R ≤ 1024 := by omega
        have bk1 : k1 ≤ 10000000 := by rw [hk1]; exact cost_lim t.clamp_ok (by omega)
        have bk2 : k2 ≤ 10000000 := by rw [hk2]; exact cost_lim t.clamp_ok (by omega)
        clear cc IH hk1 hk2 hD hRR hJ lt
        by_cases hR0 : 0 < R
        · rw [if_pos hR0] at hK
          have eKK : (J : Int) + (k2 : Int) = (K : Int) := by omega
          clear hK
          have C0 := cs_new w #[.int .i64 t.eb, .int .i64 t.et, .int .i64 t.en, .int .i64 t.ed, .int .i64 t.er, .int .i64 t.el, .int .i64 t.ex, .int .i64 t.ep, .int .i64 t.ek, .int .i64 t.es, .int .i64 t.ee] 23
          have hg := gb_alloc (gb_refl w none) (Obj.cells #[.int .i64 t.eb, .int .i64 t.et, .int .i64 t.en, .int .i64 t.ed, .int .i64 t.er, .int .i64 t.el, .int .i64 t.ex, .int .i64 t.ep, .int .i64 t.ek, .int .i64 t.es, .int .i64 t.ee] 23)
          have HG := Lib.hid hg
          have HC0 := Lib.hid C0
          clear C0 hg
          go_enter Tryz.func25, Tryz.ntmps25
          have c0 := HC0.out.cell 0 rfl
          have c1 := HC0.out.cell 1 rfl
          have c2 := HC0.out.cell 2 rfl
          have c3 := HC0.out.cell 3 rfl
          have c4 := HC0.out.cell 4 rfl
          have c5 := HC0.out.cell 5 rfl
          have c6 := HC0.out.cell 6 rfl
          have c7 := HC0.out.cell 7 rfl
          have c8 := HC0.out.cell 8 rfl
          have c9 := HC0.out.cell 9 rfl
          have c10 := HC0.out.cell 10 rfl
          go_wp2_with fail
          refine (HR.out _).mono ?_
          rintro e w2 ⟨rfl, g2⟩
          have HC2 := Lib.hid (HC0.out.grown0 g2)
          have G2 := Lib.hid (gb_trans HG.out g2)
          clear c0 c1 c2 c3 c4 c5 c6 c7 c8 c9 c10 HC0 g2 HG HR
          go_wp2
          refine Canon.region_canon (by kernel_rfl) (by kernel_rfl) ?_
          have c0 := HC2.out.drew.cell 0 rfl
          have c1 := HC2.out.drew.cell 1 rfl
          have c2 := HC2.out.drew.cell 2 rfl
          have c3 := HC2.out.drew.cell 3 rfl
          have c4 := HC2.out.drew.cell 4 rfl
          have c5 := HC2.out.drew.cell 5 rfl
          have c6 := HC2.out.drew.cell 6 rfl
          have c7 := HC2.out.drew.cell 7 rfl
          have c8 := HC2.out.drew.cell 8 rfl
          have c9 := HC2.out.drew.cell 9 rfl
          have c10 := HC2.out.drew.cell 10 rfl
          go_wp2_with fail
          refine (HI1.out _).mono ?_
          rintro e w3 ⟨rfl, g3⟩
          have HC3 := Lib.hid (HC2.out.drew.grown0 g3)
          have G3 := Lib.hid (gb_trans (gb_drew G2.out) g3)
          clear c0 c1 c2 c3 c4 c5 c6 c7 c8 c9 c10 HC2 g3 G2 HI1
          go_wp2
          refine ⟨by kernel_rfl, ?_⟩
          go_wp2
          refine Canon.region_canon (by kernel_rfl) (by kernel_rfl) ?_
          have c0 := HC3.out.drew.cell 0 rfl
          have c1 := HC3.out.drew.cell 1 rfl
          have c2 := HC3.out.drew.cell 2 rfl
          have c3 := HC3.out.drew.cell 3 rfl
          have c4 := HC3.out.drew.cell 4 rfl
          have c5 := HC3.out.drew.cell 5 rfl
          have c6 := HC3.out.drew.cell 6 rfl
          have c7 := HC3.out.drew.cell 7 rfl
          have c8 := HC3.out.drew.cell 8 rfl
          have c9 := HC3.out.drew.cell 9 rfl
          have c10 := HC3.out.drew.cell 10 rfl
          go_wp2_with fail
          refine (HI2.out _).mono ?_
          rintro e w4 ⟨rfl, g4⟩
          have G4 := Lib.hid (gb_trans (gb_drew G3.out) g4)
          clear c0 c1 c2 c3 c4 c5 c6 c7 c8 c9 c10 HC3 g4 G3 HI2
          go_wp2
          refine ⟨by kernel_rfl, ?_⟩
          go_wp2
          go_ret
          exact ⟨rfl, G4.out⟩
        · obtain rfl : R = 0 := by omega
          rw [if_neg hR0, Nat.add_zero] at hK
          subst hK
          have C0 := cs_new w #[.int .i64 t.eb, .int .i64 t.et, .int .i64 t.en, .int .i64 t.ed, .int .i64 t.er, .int .i64 t.el, .int .i64 t.ex, .int .i64 t.ep, .int .i64 t.ek, .int .i64 t.es, .int .i64 t.ee] 23
          have hg := gb_alloc (gb_refl w none) (Obj.cells #[.int .i64 t.eb, .int .i64 t.et, .int .i64 t.en, .int .i64 t.ed, .int .i64 t.er, .int .i64 t.el, .int .i64 t.ex, .int .i64 t.ep, .int .i64 t.ek, .int .i64 t.es, .int .i64 t.ee] 23)
          have HG := Lib.hid hg
          have HC0 := Lib.hid C0
          clear C0 hg
          go_enter Tryz.func25, Tryz.ntmps25
          have c0 := HC0.out.cell 0 rfl
          have c1 := HC0.out.cell 1 rfl
          have c2 := HC0.out.cell 2 rfl
          have c3 := HC0.out.cell 3 rfl
          have c4 := HC0.out.cell 4 rfl
          have c5 := HC0.out.cell 5 rfl
          have c6 := HC0.out.cell 6 rfl
          have c7 := HC0.out.cell 7 rfl
          have c8 := HC0.out.cell 8 rfl
          have c9 := HC0.out.cell 9 rfl
          have c10 := HC0.out.cell 10 rfl
          go_wp2_with fail
          refine (HR.out _).mono ?_
          rintro e w2 ⟨rfl, g2⟩
          have HC2 := Lib.hid (HC0.out.grown0 g2)
          have G2 := Lib.hid (gb_trans HG.out g2)
          clear c0 c1 c2 c3 c4 c5 c6 c7 c8 c9 c10 HC0 g2 HG HR
          go_wp2
          refine Canon.region_canon (by kernel_rfl) (by kernel_rfl) ?_
          have c0 := HC2.out.drew.cell 0 rfl
          have c1 := HC2.out.drew.cell 1 rfl
          have c2 := HC2.out.drew.cell 2 rfl
          have c3 := HC2.out.drew.cell 3 rfl
          have c4 := HC2.out.drew.cell 4 rfl
          have c5 := HC2.out.drew.cell 5 rfl
          have c6 := HC2.out.drew.cell 6 rfl
          have c7 := HC2.out.drew.cell 7 rfl
          have c8 := HC2.out.drew.cell 8 rfl
          have c9 := HC2.out.drew.cell 9 rfl
          have c10 := HC2.out.drew.cell 10 rfl
          go_wp2_with fail
          refine (HI1.out _).mono ?_
          rintro e w3 ⟨rfl, g3⟩
          have G3 := Lib.hid (gb_trans (gb_drew G2.out) g3)
          clear c0 c1 c2 c3 c4 c5 c6 c7 c8 c9 c10 HC2 g3 G2 HI1
          go_wp2
          refine ⟨by kernel_rfl, ?_⟩
          go_wp2
          go_ret
          exact ⟨rfl, G3.out⟩
      · have q := rt_3 cc
        have b4 := t.clamp_ok.eb.1
        rw [cc] at HR
        rw [cost_3 t.clamp_ok hMN cc] at hK
        have I1 := fun w => IH ((n + 1) / 2) ((n + 1) / 2) (by omega) w
        have I2 := fun w => IH (n - (n + 1) / 2) (m - (n + 1) / 2) (by omega) w
        have I3 := fun w => IH ((n + 1) / 2 + 1) ((n + 1) / 2 + 1) (by omega) w
        obtain ⟨h, hh⟩ : ∃ q, q = (n + 1) / 2 := ⟨_, rfl⟩
        obtain ⟨p, hp⟩ : ∃ q, q = n - h := ⟨_, rfl⟩
        obtain ⟨q', hq⟩ : ∃ q, q = m - h := ⟨_, rfl⟩
        obtain ⟨H, hH⟩ : ∃ H, H = h + 1 := ⟨_, rfl⟩
        have e1 : ((n : Int) + 1) / 2 = (h : Int) := by omega
        have e2 : (n : Int) - (h : Int) = (p : Int) := by omega
        have e3 : (m : Int) - (h : Int) = (q' : Int) := by omega
        have e4 : (h : Int) + 1 = (H : Int) := by omega
        rw [← hh] at I1 I2 I3 hK
        rw [← hp, ← hq] at I2 hK
        rw [← hH] at I3 hK
        obtain ⟨k1, hk1⟩ : ∃ k, k = cost t.clamp h h := ⟨_, rfl⟩
        obtain ⟨k2, hk2⟩ : ∃ k, k = cost t.clamp p q' := ⟨_, rfl⟩
        obtain ⟨k3, hk3⟩ : ∃ k, k = cost t.clamp H H := ⟨_, rfl⟩
        rw [← hk1, ← hk2, ← hk3] at hK
        rw [← hk1] at I1
        rw [← hk2] at I2
        rw [← hk3] at I3
        obtain ⟨k12, hk12⟩ : ∃ k, k = k1 + k2 := ⟨_, rfl⟩
        have f1 : (k1 : Int) + (k2 : Int) = (k12 : Int) := by omega
        have f2 : (k12 : Int) + (k3 : Int) = (K : Int) := by omega
        have bb : h ≤ 1024 ∧ p ≤ 1024 ∧ q' ≤ 1024 ∧ H ≤ 1025 ∧ k1 ≤ 10000000 ∧ k2 ≤ 10000000 ∧ k3 ≤ 10000000 ∧ k12 ≤ 10000000 := by omega
        have HI1 := Lib.hid I1
        have HI2 := Lib.hid I2
        have HI3 := Lib.hid I3
        clear cc IH hK hk1 hk2 hk3 hk12 hh hp hq hH I1 I2 I3
        have C0 := cs_new w #[.int .i64 t.eb, .int .i64 t.et, .int .i64 t.en, .int .i64 t.ed, .int .i64 t.er, .int .i64 t.el, .int .i64 t.ex, .int .i64 t.ep, .int .i64 t.ek, .int .i64 t.es, .int .i64 t.ee] 23
        have hg := gb_alloc (gb_refl w none) (Obj.cells #[.int .i64 t.eb, .int .i64 t.et, .int .i64 t.en, .int .i64 t.ed, .int .i64 t.er, .int .i64 t.el, .int .i64 t.ex, .int .i64 t.ep, .int .i64 t.ek, .int .i64 t.es, .int .i64 t.ee] 23)
        have HG := Lib.hid hg
        have HC0 := Lib.hid C0
        clear C0 hg
        go_enter Tryz.func25, Tryz.ntmps25
        have c0 := HC0.out.cell 0 rfl
        have c1 := HC0.out.cell 1 rfl
        have c2 := HC0.out.cell 2 rfl
        have c3 := HC0.out.cell 3 rfl
        have c4 := HC0.out.cell 4 rfl
        have c5 := HC0.out.cell 5 rfl
        have c6 := HC0.out.cell 6 rfl
        have c7 := HC0.out.cell 7 rfl
        have c8 := HC0.out.cell 8 rfl
        have c9 := HC0.out.cell 9 rfl
        have c10 := HC0.out.cell 10 rfl
        go_wp2_with fail
        refine (HR.out _).mono ?_
        rintro e w2 ⟨rfl, g2⟩
        have HC2 := Lib.hid (HC0.out.grown0 g2)
        have G2 := Lib.hid (gb_trans HG.out g2)
        clear c0 c1 c2 c3 c4 c5 c6 c7 c8 c9 c10 HC0 g2 HG HR
        go_wp2
        have HSF : Hid (∀ W, Cs W w.heap.size t.vs → Canon.SF [(⟨w.heap.size, 0, none⟩, t.v), (⟨w.heap.size, 0, none⟩, t.v)] W) := Lib.hid (fun W C => Canon.sf_agg (fun j u h => C.at0 j h) (Canon.sf_agg (fun j u h => C.at0 j h) (Canon.sf_nil _)))
        refine Canon.region_held [56, 65] _ (by kernel_rfl) (by kernel_rfl) (HSF.out _ HC2.out) ?_
        have c0 := HC2.out.drew.cell 0 rfl
        have c1 := HC2.out.drew.cell 1 rfl
        have c2 := HC2.out.drew.cell 2 rfl
        have c3 := HC2.out.drew.cell 3 rfl
        have c4 := HC2.out.drew.cell 4 rfl
        have c5 := HC2.out.drew.cell 5 rfl
        have c6 := HC2.out.drew.cell 6 rfl
        have c7 := HC2.out.drew.cell 7 rfl
        have c8 := HC2.out.drew.cell 8 rfl
        have c9 := HC2.out.drew.cell 9 rfl
        have c10 := HC2.out.drew.cell 10 rfl
        refine Canon.segs_at 3 _ _ _ (by kernel_rfl) ?_
        simp only [List.take_succ_cons, List.take_zero, List.drop_succ_cons, List.drop_zero]
        go_wp2_with fail
        refine (HI1.out _).mono ?_
        rintro e w3 ⟨rfl, g3⟩
        have HC3 := Lib.hid (HC2.out.drew.grown0 g3)
        have G3 := Lib.hid (gb_trans (gb_drew G2.out) g3)
        clear c0 c1 c2 c3 c4 c5 c6 c7 c8 c9 c10 HC2 g3 G2 HI1
        go_wp2
        refine ⟨HSF.out _ HC3.out, ?_⟩
        have c0 := HC3.out.cell 0 rfl
        have c1 := HC3.out.cell 1 rfl
        have c2 := HC3.out.cell 2 rfl
        have c3 := HC3.out.cell 3 rfl
        have c4 := HC3.out.cell 4 rfl
        have c5 := HC3.out.cell 5 rfl
        have c6 := HC3.out.cell 6 rfl
        have c7 := HC3.out.cell 7 rfl
        have c8 := HC3.out.cell 8 rfl
        have c9 := HC3.out.cell 9 rfl
        have c10 := HC3.out.cell 10 rfl
        refine Canon.segs_at 7 _ _ _ (by kernel_rfl) ?_
        simp only [List.take_succ_cons, List.take_zero, List.drop_succ_cons, List.drop_zero]
        go_wp2_with fail
        refine (HI2.out _).mono ?_
        rintro e w4 ⟨rfl, g4⟩
        have HC4 := Lib.hid (HC3.out.grown0 g4)
        have G4 := Lib.hid (gb_trans G3.out g4)
        clear c0 c1 c2 c3 c4 c5 c6 c7 c8 c9 c10 HC3 g4 G3 HI2
        go_wp2
        refine ⟨HSF.out _ HC4.out, ?_⟩
        have c0 := HC4.out.cell 0 rfl
        have c1 := HC4.out.cell 1 rfl
        have c2 := HC4.out.cell 2 rfl
        have c3 := HC4.out.cell 3 rfl
        have c4 := HC4.out.cell 4 rfl
        have c5 := HC4.out.cell 5 rfl
        have c6 := HC4.out.cell 6 rfl
        have c7 := HC4.out.cell 7 rfl
        have c8 := HC4.out.cell 8 rfl
        have c9 := HC4.out.cell 9 rfl
        have c10 := HC4.out.cell 10 rfl
        refine Canon.segs_at 6 _ _ _ (by kernel_rfl) ?_
        simp only [List.take_succ_cons, List.take_zero, List.drop_succ_cons, List.drop_zero]
        go_wp2_with fail
        refine (HI3.out _).mono ?_
        rintro e w5 ⟨rfl, g5⟩
        have HC5 := Lib.hid (HC4.out.grown0 g5)
        have G5 := Lib.hid (gb_trans G4.out g5)
        clear c0 c1 c2 c3 c4 c5 c6 c7 c8 c9 c10 HC4 g5 G4 HI3
        go_wp2
        refine ⟨HSF.out _ HC5.out, ?_⟩
        refine Canon.segs_end _ _ _ (by kernel_rfl) ?_
        go_wp2
        refine ⟨by kernel_rfl, by kernel_rfl, by kernel_rfl, ?_⟩
        go_wp2
        go_ret
        exact ⟨rfl, G5.out⟩
      · have q := rt_4 cc
        have b4 := t.clamp_ok.eb.1
        rw [cc] at HR
        rw [cost_4 t.clamp_ok hMN cc] at hK
        have I1 := fun w => IH ((n + 2) / 3) ((n + 2) / 3) (by omega) w
        have I2 := fun w => IH ((n + 2) / 3 + 1) ((n + 2) / 3 + 1) (by omega) w
        have I3 := fun w => IH (n - 2 * ((n + 2) / 3)) (m - 2 * ((n + 2) / 3)) (by omega) w
        obtain ⟨h, hh⟩ : ∃ q, q = (n + 2) / 3 := ⟨_, rfl⟩
        obtain ⟨h2, hh2⟩ : ∃ q, q = 2 * h := ⟨_, rfl⟩
        obtain ⟨p, hp⟩ : ∃ q, q = n - h2 := ⟨_, rfl⟩
        obtain ⟨q', hq⟩ : ∃ q, q = m - h2 := ⟨_, rfl⟩
        obtain ⟨H, hH⟩ : ∃ H, H = h + 1 := ⟨_, rfl⟩
        have e1 : ((n : Int) + 2) / 3 = (h : Int) := by omega
        have e1' : 2 * (h : Int) = (h2 : Int) := by omega
        have e2 : (n : Int) - (h2 : Int) = (p : Int) := by omega
        have e3 : (m : Int) - (h2 : Int) = (q' : Int) := by omega
        have e4 : (h : Int) + 1 = (H : Int) := by omega
        rw [← hh] at I1 I2 I3 hK
        rw [← hh2] at I3 hK
        rw [← hp, ← hq] at I3 hK
        rw [← hH] at I2 hK
        obtain ⟨k1, hk1⟩ : ∃ k, k = cost t.clamp h h := ⟨_, rfl⟩
        obtain ⟨k2, hk2⟩ : ∃ k, k = cost t.clamp H H := ⟨_, rfl⟩
        obtain ⟨k3, hk3⟩ : ∃ k, k = cost t.clamp p q' := ⟨_, rfl⟩
        rw [← hk1, ← hk2, ← hk3] at hK
        rw [← hk1] at I1
        rw [← hk2] at I2
        rw [← hk3] at I3
        obtain ⟨k22, hk22⟩ : ∃ k, k = 3 * k2 := ⟨_, rfl⟩
        obtain ⟨k12, hk12⟩ : ∃ k, k = k1 + k22 := ⟨_, rfl⟩
        have f0 : 3 * (k2 : Int) = (k22 : Int) := by omega
        have f1 : (k1 : Int) + (k22 : Int) = (k12 : Int) := by omega
        have f2 : (k12 : Int) + (k3 : Int) = (K : Int) := by omega
        have bb : h ≤ 1024 ∧ h2 ≤ 1024 ∧ p ≤ 1024 ∧ q' ≤ 1024 ∧ H ≤ 1025 ∧ k1 ≤ 10000000 ∧ k2 ≤ 10000000 ∧ k3 ≤ 10000000 ∧ k12 ≤ 10000000 ∧ k22 ≤ 10000000 := by omega
        have HI1 := Lib.hid I1
        have HI2 := Lib.hid I2
        have HI3 := Lib.hid I3
        clear cc IH hK hk1 hk2 hk3 hk12 hk22 hh hh2 hp hq hH I1 I2 I3
        have C0 := cs_new w #[.int .i64 t.eb, .int .i64 t.et, .int .i64 t.en, .int .i64 t.ed, .int .i64 t.er, .int .i64 t.el, .int .i64 t.ex, .int .i64 t.ep, .int .i64 t.ek, .int .i64 t.es, .int .i64 t.ee] 23
        have hg := gb_alloc (gb_refl w none) (Obj.cells #[.int .i64 t.eb, .int .i64 t.et, .int .i64 t.en, .int .i64 t.ed, .int .i64 t.er, .int .i64 t.el, .int .i64 t.ex, .int .i64 t.ep, .int .i64 t.ek, .int .i64 t.es, .int .i64 t.ee] 23)
        have HG := Lib.hid hg
        have HC0 := Lib.hid C0
        clear C0 hg
        go_enter Tryz.func25, Tryz.ntmps25
        have c0 := HC0.out.cell 0 rfl
        have c1 := HC0.out.cell 1 rfl
        have c2 := HC0.out.cell 2 rfl
        have c3 := HC0.out.cell 3 rfl
        have c4 := HC0.out.cell 4 rfl
        have c5 := HC0.out.cell 5 rfl
        have c6 := HC0.out.cell 6 rfl
        have c7 := HC0.out.cell 7 rfl
        have c8 := HC0.out.cell 8 rfl
        have c9 := HC0.out.cell 9 rfl
        have c10 := HC0.out.cell 10 rfl
        go_wp2_with fail
        refine (HR.out _).mono ?_
        rintro e w2 ⟨rfl, g2⟩
        have HC2 := Lib.hid (HC0.out.grown0 g2)
        have G2 := Lib.hid (gb_trans HG.out g2)
        clear c0 c1 c2 c3 c4 c5 c6 c7 c8 c9 c10 HC0 g2 HG HR
        go_wp2
        have HSF : Hid (∀ W, Cs W w.heap.size t.vs → Canon.SF [(⟨w.heap.size, 0, none⟩, t.v), (⟨w.heap.size, 0, none⟩, t.v)] W) := Lib.hid (fun W C => Canon.sf_agg (fun j u h => C.at0 j h) (Canon.sf_agg (fun j u h => C.at0 j h) (Canon.sf_nil _)))
        refine Canon.region_held [81, 89] _ (by kernel_rfl) (by kernel_rfl) (HSF.out _ HC2.out) ?_
        have c0 := HC2.out.drew.cell 0 rfl
        have c1 := HC2.out.drew.cell 1 rfl
        have c2 := HC2.out.drew.cell 2 rfl
        have c3 := HC2.out.drew.cell 3 rfl
        have c4 := HC2.out.drew.cell 4 rfl
        have c5 := HC2.out.drew.cell 5 rfl
        have c6 := HC2.out.drew.cell 6 rfl
        have c7 := HC2.out.drew.cell 7 rfl
        have c8 := HC2.out.drew.cell 8 rfl
        have c9 := HC2.out.drew.cell 9 rfl
        have c10 := HC2.out.drew.cell 10 rfl
        refine Canon.segs_at 3 _ _ _ (by kernel_rfl) ?_
        simp only [List.take_succ_cons, List.take_zero, List.drop_succ_cons, List.drop_zero]
        go_wp2_with fail
        refine (HI1.out _).mono ?_
        rintro e w3 ⟨rfl, g3⟩
        have HC3 := Lib.hid (HC2.out.drew.grown0 g3)
        have G3 := Lib.hid (gb_trans (gb_drew G2.out) g3)
        clear c0 c1 c2 c3 c4 c5 c6 c7 c8 c9 c10 HC2 g3 G2 HI1
        go_wp2
        refine ⟨HSF.out _ HC3.out, ?_⟩
        have c0 := HC3.out.cell 0 rfl
        have c1 := HC3.out.cell 1 rfl
        have c2 := HC3.out.cell 2 rfl
        have c3 := HC3.out.cell 3 rfl
        have c4 := HC3.out.cell 4 rfl
        have c5 := HC3.out.cell 5 rfl
        have c6 := HC3.out.cell 6 rfl
        have c7 := HC3.out.cell 7 rfl
        have c8 := HC3.out.cell 8 rfl
        have c9 := HC3.out.cell 9 rfl
        have c10 := HC3.out.cell 10 rfl
        refine Canon.segs_at 5 _ _ _ (by kernel_rfl) ?_
        simp only [List.take_succ_cons, List.take_zero, List.drop_succ_cons, List.drop_zero]
        go_wp2_with fail
        refine (HI2.out _).mono ?_
        rintro e w4 ⟨rfl, g4⟩
        have HC4 := Lib.hid (HC3.out.grown0 g4)
        have G4 := Lib.hid (gb_trans G3.out g4)
        clear c0 c1 c2 c3 c4 c5 c6 c7 c8 c9 c10 HC3 g4 G3 HI2
        go_wp2
        refine ⟨HSF.out _ HC4.out, ?_⟩
        have c0 := HC4.out.cell 0 rfl
        have c1 := HC4.out.cell 1 rfl
        have c2 := HC4.out.cell 2 rfl
        have c3 := HC4.out.cell 3 rfl
        have c4 := HC4.out.cell 4 rfl
        have c5 := HC4.out.cell 5 rfl
        have c6 := HC4.out.cell 6 rfl
        have c7 := HC4.out.cell 7 rfl
        have c8 := HC4.out.cell 8 rfl
        have c9 := HC4.out.cell 9 rfl
        have c10 := HC4.out.cell 10 rfl
        refine Canon.segs_at 11 _ _ _ (by kernel_rfl) ?_
        simp only [List.take_succ_cons, List.take_zero, List.drop_succ_cons, List.drop_zero]
        go_wp2_with fail
        refine (HI3.out _).mono ?_
        rintro e w5 ⟨rfl, g5⟩
        have HC5 := Lib.hid (HC4.out.grown0 g5)
        have G5 := Lib.hid (gb_trans G4.out g5)
        clear c0 c1 c2 c3 c4 c5 c6 c7 c8 c9 c10 HC4 g5 G4 HI3
        go_wp2
        refine ⟨HSF.out _ HC5.out, ?_⟩
        refine Canon.segs_end _ _ _ (by kernel_rfl) ?_
        go_wp2
        refine ⟨by kernel_rfl, by kernel_rfl, by kernel_rfl, ?_⟩
        go_wp2
        go_ret
        exact ⟨rfl, G5.out⟩
      · have q := rt_5 cc
        have b4 := t.clamp_ok.eb.1
        rw [cc] at HR
        rw [cost_5 hMN cc] at hK
        have TR : Hid (∀ w, Calls Tryz.prog 50 #[.int .i64 n, .int .i64 m, .int .i64 3] w fun e w' => e = .returned (.int .i64 (K : Nat)) ∧ w.grownBy w' none) := Lib.hid (fun w => by rw [hK]; exact rtransf_c w n m 3 (by omega) (by omega) (by decide) (by omega))
        clear cc IH hK
        have C0 := cs_new w #[.int .i64 t.eb, .int .i64 t.et, .int .i64 t.en, .int .i64 t.ed, .int .i64 t.er, .int .i64 t.el, .int .i64 t.ex, .int .i64 t.ep, .int .i64 t.ek, .int .i64 t.es, .int .i64 t.ee] 23
        have hg := gb_alloc (gb_refl w none) (Obj.cells #[.int .i64 t.eb, .int .i64 t.et, .int .i64 t.en, .int .i64 t.ed, .int .i64 t.er, .int .i64 t.el, .int .i64 t.ex, .int .i64 t.ep, .int .i64 t.ek, .int .i64 t.es, .int .i64 t.ee] 23)
        have HG := Lib.hid hg
        have HC0 := Lib.hid C0
        clear C0 hg
        go_enter Tryz.func25, Tryz.ntmps25
        have c0 := HC0.out.cell 0 rfl
        have c1 := HC0.out.cell 1 rfl
        have c2 := HC0.out.cell 2 rfl
        have c3 := HC0.out.cell 3 rfl
        have c4 := HC0.out.cell 4 rfl
        have c5 := HC0.out.cell 5 rfl
        have c6 := HC0.out.cell 6 rfl
        have c7 := HC0.out.cell 7 rfl
        have c8 := HC0.out.cell 8 rfl
        have c9 := HC0.out.cell 9 rfl
        have c10 := HC0.out.cell 10 rfl
        go_wp2_with fail
        refine (HR.out _).mono ?_
        rintro e w2 ⟨rfl, g2⟩
        have HC2 := Lib.hid (HC0.out.grown0 g2)
        have G2 := Lib.hid (gb_trans HG.out g2)
        clear c0 c1 c2 c3 c4 c5 c6 c7 c8 c9 c10 HC0 g2 HG HR
        go_wp2_with fail
        refine (TR.out _).mono ?_
        rintro e w3 ⟨rfl, g3⟩
        have G3 := Lib.hid (gb_trans G2.out g3)
        clear g3 TR
        go_wp2
        go_ret
        exact ⟨rfl, G3.out⟩
end Go.Proofs.YtldkiddoajlohaaGreatDoor

/- The reference's costs of squares. -/
namespace Go.Proofs.YtldkiddoajlohaaGreatDoor
open Go.RowKit

set_option maxRecDepth 100000 in
set_option maxHeartbeats 8000000 in
theorem rsq_all (t : Tb) : ∀ (n : Nat), n ≤ 512 → ∀ (w : World), Calls Tryz.prog 39 #[t.v, .int .i64 n] w fun e w' => e = .returned (.int .i64 (sq t.clamp n)) ∧ w.grownBy w' none := by
  intro n
  induction n using Nat.strongRecOn with
  | _ n ih =>
    intro hs w
    have IH : ∀ p, p < n → ∀ (w : World), Calls Tryz.prog 39 #[t.v, .int .i64 p] w fun e w' => e = .returned (.int .i64 (sq t.clamp p)) ∧ w.grownBy w' none := fun p h => ih p h (by omega)
    clear ih
    have HR := Lib.hid (fun w => rroute_c w t n n (by omega) (by omega))
    rw [Nat.max_self, Nat.min_self] at HR
    have hcase : rt t.clamp n n = 0 ∨ rt t.clamp n n = 1 ∨ rt t.clamp n n = 2 ∨ rt t.clamp n n = 3 ∨ rt t.clamp n n = 4 ∨ rt t.clamp n n = 5 := by have := rt_le t.clamp n n; omega
    obtain ⟨K, hK⟩ : ∃ K, K = sq t.clamp n := ⟨_, rfl⟩
    have bK : K ≤ 10000000 := by rw [hK]; exact sq_lim t.clamp_ok hs
    rw [← hK]
    rcases hcase with cc | cc | cc | cc | cc | cc
    · rw [cc] at HR
      rw [sq_0 cc] at hK
      subst hK
      clear cc IH
      have C0 := cs_new w #[.int .i64 t.eb, .int .i64 t.et, .int .i64 t.en, .int .i64 t.ed, .int .i64 t.er, .int .i64 t.el, .int .i64 t.ex, .int .i64 t.ep, .int .i64 t.ek, .int .i64 t.es, .int .i64 t.ee] 23
      have hg := gb_alloc (gb_refl w none) (Obj.cells #[.int .i64 t.eb, .int .i64 t.et, .int .i64 t.en, .int .i64 t.ed, .int .i64 t.er, .int .i64 t.el, .int .i64 t.ex, .int .i64 t.ep, .int .i64 t.ek, .int .i64 t.es, .int .i64 t.ee] 23)
      have HG := Lib.hid hg
      have HC0 := Lib.hid C0
      clear C0 hg
      go_enter Tryz.func39, Tryz.ntmps39
      have c0 := HC0.out.cell 0 rfl
      have c1 := HC0.out.cell 1 rfl
      have c2 := HC0.out.cell 2 rfl
      have c3 := HC0.out.cell 3 rfl
      have c4 := HC0.out.cell 4 rfl
      have c5 := HC0.out.cell 5 rfl
      have c6 := HC0.out.cell 6 rfl
      have c7 := HC0.out.cell 7 rfl
      have c8 := HC0.out.cell 8 rfl
      have c9 := HC0.out.cell 9 rfl
      have c10 := HC0.out.cell 10 rfl
      go_wp2_with fail
      refine (HR.out _).mono ?_
      rintro e w2 ⟨rfl, g2⟩
      have HC2 := Lib.hid (HC0.out.grown0 g2)
      have G2 := Lib.hid (gb_trans HG.out g2)
      clear c0 c1 c2 c3 c4 c5 c6 c7 c8 c9 c10 HC0 g2 HG HR
      go_wp2
      go_ret
      exact ⟨rfl, G2.out⟩
    · rw [cc] at HR
      rw [sq_1 cc] at hK
      obtain ⟨N1, hN1⟩ : ∃ z, z = n + 1 := ⟨_, rfl⟩
      obtain ⟨Q, hQ⟩ : ∃ z, z = n * N1 := ⟨_, rfl⟩
      rw [← hN1, ← hQ] at hK
      have bQ : Q ≤ 513 * 513 := by rw [hQ]; exact Nat.mul_le_mul (by omega) (by omega)
      have eN1 : (n : Int) + 1 = (N1 : Int) := by omega
      have eQ : (n : Int) * (N1 : Int) = (Q : Int) := by rw [hQ]; exact (Int.natCast_mul _ _).symm
      have eK : (Q : Int) / 2 = (K : Int) := by omega
      clear cc IH hK hQ hN1
      have C0 := cs_new w #[.int .i64 t.eb, .int .i64 t.et, .int .i64 t.en, .int .i64 t.ed, .int .i64 t.er, .int .i64 t.el, .int .i64 t.ex, .int .i64 t.ep, .int .i64 t.ek, .int .i64 t.es, .int .i64 t.ee] 23
      have hg := gb_alloc (gb_refl w none) (Obj.cells #[.int .i64 t.eb, .int .i64 t.et, .int .i64 t.en, .int .i64 t.ed, .int .i64 t.er, .int .i64 t.el, .int .i64 t.ex, .int .i64 t.ep, .int .i64 t.ek, .int .i64 t.es, .int .i64 t.ee] 23)
      have HG := Lib.hid hg
      have HC0 := Lib.hid C0
      clear C0 hg
      go_enter Tryz.func39, Tryz.ntmps39
      have c0 := HC0.out.cell 0 rfl
      have c1 := HC0.out.cell 1 rfl
      have c2 := HC0.out.cell 2 rfl
      have c3 := HC0.out.cell 3 rfl
      have c4 := HC0.out.cell 4 rfl
      have c5 := HC0.out.cell 5 rfl
      have c6 := HC0.out.cell 6 rfl
      have c7 := HC0.out.cell 7 rfl
      have c8 := HC0.out.cell 8 rfl
      have c9 := HC0.out.cell 9 rfl
      have c10 := HC0.out.cell 10 rfl
      go_wp2_with fail
      refine (HR.out _).mono ?_
      rintro e w2 ⟨rfl, g2⟩
      have HC2 := Lib.hid (HC0.out.grown0 g2)
      have G2 := Lib.hid (gb_trans HG.out g2)
      clear c0 c1 c2 c3 c4 c5 c6 c7 c8 c9 c10 HC0 g2 HG HR
      go_wp2
      go_ret
      exact ⟨rfl, G2.out⟩
    · have q := rt_2 cc
      have b4 := t.clamp_ok.eb.1
      omega
    · have q := rt_3 cc
      have b4 := t.clamp_ok.eb.1
      rw [cc] at HR
      rw [sq_3 t.clamp_ok cc] at hK
      have I1 := fun w => IH ((n + 1) / 2) (by omega) w
      have I2 := fun w => IH (n - (n + 1) / 2) (by omega) w
      have I3 := fun w => IH ((n + 1) / 2 + 1) (by omega) w
      obtain ⟨h, hh⟩ : ∃ q, q = (n + 1) / 2 := ⟨_, rfl⟩
      obtain ⟨p, hp⟩ : ∃ q, q = n - h := ⟨_, rfl⟩
      obtain ⟨H, hH⟩ : ∃ H, H = h + 1 := ⟨_, rfl⟩
      have e1 : ((n : Int) + 1) / 2 = (h : Int) := by omega
      have e2 : (n : Int) - (h : Int) = (p : Int) := by omega
      have e4 : (h : Int) + 1 = (H : Int) := by omega
      rw [← hh] at I1 I2 I3 hK
      rw [← hp] at I2 hK
      rw [← hH] at I3 hK
      obtain ⟨k1, hk1⟩ : ∃ k, k = sq t.clamp h := ⟨_, rfl⟩
      obtain ⟨k2, hk2⟩ : ∃ k, k = sq t.clamp p := ⟨_, rfl⟩
      obtain ⟨k3, hk3⟩ : ∃ k, k = sq t.clamp H := ⟨_, rfl⟩
      rw [← hk1, ← hk2, ← hk3] at hK
      rw [← hk1] at I1
      rw [← hk2] at I2
      rw [← hk3] at I3
      obtain ⟨k12, hk12⟩ : ∃ k, k = k1 + k2 := ⟨_, rfl⟩
      have f1 : (k1 : Int) + (k2 : Int) = (k12 : Int) := by omega
      have f2 : (k12 : Int) + (k3 : Int) = (K : Int) := by omega
      have bb : h ≤ 1024 ∧ p ≤ 1024 ∧ H ≤ 1025 ∧ k1 ≤ 10000000 ∧ k2 ≤ 10000000 ∧ k3 ≤ 10000000 ∧ k12 ≤ 10000000 := by omega
      have HI1 := Lib.hid I1
      have HI2 := Lib.hid I2
      have HI3 := Lib.hid I3
      clear cc IH hK hk1 hk2 hk3 hk12 hh hp hH I1 I2 I3
      have C0 := cs_new w #[.int .i64 t.eb, .int .i64 t.et, .int .i64 t.en, .int .i64 t.ed, .int .i64 t.er, .int .i64 t.el, .int .i64 t.ex, .int .i64 t.ep, .int .i64 t.ek, .int .i64 t.es, .int .i64 t.ee] 23
      have hg := gb_alloc (gb_refl w none) (Obj.cells #[.int .i64 t.eb, .int .i64 t.et, .int .i64 t.en, .int .i64 t.ed, .int .i64 t.er, .int .i64 t.el, .int .i64 t.ex, .int .i64 t.ep, .int .i64 t.ek, .int .i64 t.es, .int .i64 t.ee] 23)
      have HG := Lib.hid hg
      have HC0 := Lib.hid C0
      clear C0 hg
      go_enter Tryz.func39, Tryz.ntmps39
      have c0 := HC0.out.cell 0 rfl
      have c1 := HC0.out.cell 1 rfl
      have c2 := HC0.out.cell 2 rfl
      have c3 := HC0.out.cell 3 rfl
      have c4 := HC0.out.cell 4 rfl
      have c5 := HC0.out.cell 5 rfl
      have c6 := HC0.out.cell 6 rfl
      have c7 := HC0.out.cell 7 rfl
      have c8 := HC0.out.cell 8 rfl
      have c9 := HC0.out.cell 9 rfl
      have c10 := HC0.out.cell 10 rfl
      go_wp2_with fail
      refine (HR.out _).mono ?_
      rintro e w2 ⟨rfl, g2⟩
      have HC2 := Lib.hid (HC0.out.grown0 g2)
      have G2 := Lib.hid (gb_trans HG.out g2)
      clear c0 c1 c2 c3 c4 c5 c6 c7 c8 c9 c10 HC0 g2 HG HR
      go_wp2
      have HSF : Hid (∀ W, Cs W w.heap.size t.vs → Canon.SF [(⟨w.heap.size, 0, none⟩, t.v), (⟨w.heap.size, 0, none⟩, t.v)] W) := Lib.hid (fun W C => Canon.sf_agg (fun j u h => C.at0 j h) (Canon.sf_agg (fun j u h => C.at0 j h) (Canon.sf_nil _)))
      refine Canon.region_held [26, 32] _ (by kernel_rfl) (by kernel_rfl) (HSF.out _ HC2.out) ?_
      have c0 := HC2.out.drew.cell 0 rfl
      have c1 := HC2.out.drew.cell 1 rfl
      have c2 := HC2.out.drew.cell 2 rfl
      have c3 := HC2.out.drew.cell 3 rfl
      have c4 := HC2.out.drew.cell 4 rfl
      have c5 := HC2.out.drew.cell 5 rfl
      have c6 := HC2.out.drew.cell 6 rfl
      have c7 := HC2.out.drew.cell 7 rfl
      have c8 := HC2.out.drew.cell 8 rfl
      have c9 := HC2.out.drew.cell 9 rfl
      have c10 := HC2.out.drew.cell 10 rfl
      refine Canon.segs_at 2 _ _ _ (by kernel_rfl) ?_
      simp only [List.take_succ_cons, List.take_zero, List.drop_succ_cons, List.drop_zero]
      go_wp2_with fail
      refine (HI1.out _).mono ?_
      rintro e w3 ⟨rfl, g3⟩
      have HC3 := Lib.hid (HC2.out.drew.grown0 g3)
      have G3 := Lib.hid (gb_trans (gb_drew G2.out) g3)
      clear c0 c1 c2 c3 c4 c5 c6 c7 c8 c9 c10 HC2 g3 G2 HI1
      go_wp2
      refine ⟨HSF.out _ HC3.out, ?_⟩
      have c0 := HC3.out.cell 0 rfl
      have c1 := HC3.out.cell 1 rfl
      have c2 := HC3.out.cell 2 rfl
      have c3 := HC3.out.cell 3 rfl
      have c4 := HC3.out.cell 4 rfl
      have c5 := HC3.out.cell 5 rfl
      have c6 := HC3.out.cell 6 rfl
      have c7 := HC3.out.cell 7 rfl
      have c8 := HC3.out.cell 8 rfl
      have c9 := HC3.out.cell 9 rfl
      have c10 := HC3.out.cell 10 rfl
      refine Canon.segs_at 4 _ _ _ (by kernel_rfl) ?_
      simp only [List.take_succ_cons, List.take_zero, List.drop_succ_cons, List.drop_zero]
      go_wp2_with fail
      refine (HI2.out _).mono ?_
      rintro e w4 ⟨rfl, g4⟩
      have HC4 := Lib.hid (HC3.out.grown0 g4)
      have G4 := Lib.hid (gb_trans G3.out g4)
      clear c0 c1 c2 c3 c4 c5 c6 c7 c8 c9 c10 HC3 g4 G3 HI2
      go_wp2
      refine ⟨HSF.out _ HC4.out, ?_⟩
      have c0 := HC4.out.cell 0 rfl
      have c1 := HC4.out.cell 1 rfl
      have c2 := HC4.out.cell 2 rfl
      have c3 := HC4.out.cell 3 rfl
      have c4 := HC4.out.cell 4 rfl
      have c5 := HC4.out.cell 5 rfl
      have c6 := HC4.out.cell 6 rfl
      have c7 := HC4.out.cell 7 rfl
      have c8 := HC4.out.cell 8 rfl
      have c9 := HC4.out.cell 9 rfl
      have c10 := HC4.out.cell 10 rfl
      refine Canon.segs_at 4 _ _ _ (by kernel_rfl) ?_
      simp only [List.take_succ_cons, List.take_zero, List.drop_succ_cons, List.drop_zero]
      go_wp2_with fail
      refine (HI3.out _).mono ?_
      rintro e w5 ⟨rfl, g5⟩
      have HC5 := Lib.hid (HC4.out.grown0 g5)
      have G5 := Lib.hid (gb_trans G4.out g5)
      clear c0 c1 c2 c3 c4 c5 c6 c7 c8 c9 c10 HC4 g5 G4 HI3
      go_wp2
      refine ⟨HSF.out _ HC5.out, ?_⟩
      refine Canon.segs_end _ _ _ (by kernel_rfl) ?_
      go_wp2
      refine ⟨by kernel_rfl, by kernel_rfl, by kernel_rfl, ?_⟩
      go_wp2
      go_ret
      exact ⟨rfl, G5.out⟩
    · have q := rt_4 cc
      have b4 := t.clamp_ok.eb.1
      rw [cc] at HR
      rw [sq_4 t.clamp_ok cc] at hK
      have I1 := fun w => IH ((n + 2) / 3) (by omega) w
      have I2 := fun w => IH ((n + 2) / 3 + 1) (by omega) w
      have I3 := fun w => IH (n - 2 * ((n + 2) / 3)) (by omega) w
      obtain ⟨h, hh⟩ : ∃ q, q = (n + 2) / 3 := ⟨_, rfl⟩
      obtain ⟨h2, hh2⟩ : ∃ q, q = 2 * h := ⟨_, rfl⟩
      obtain ⟨p, hp⟩ : ∃ q, q = n - h2 := ⟨_, rfl⟩
      obtain ⟨H, hH⟩ : ∃ H, H = h + 1 := ⟨_, rfl⟩
      have e1 : ((n : Int) + 2) / 3 = (h : Int) := by omega
      have e1' : 2 * (h : Int) = (h2 : Int) := by omega
      have e2 : (n : Int) - (h2 : Int) = (p : Int) := by omega
      have e4 : (h : Int) + 1 = (H : Int) := by omega
      rw [← hh] at I1 I2 I3 hK
      rw [← hh2] at I3 hK
      rw [← hp] at I3 hK
      rw [← hH] at I2 hK
      obtain ⟨k1, hk1⟩ : ∃ k, k = sq t.clamp h := ⟨_, rfl⟩
      obtain ⟨k2, hk2⟩ : ∃ k, k = sq t.clamp H := ⟨_, rfl⟩
      obtain ⟨k3, hk3⟩ : ∃ k, k = sq t.clamp p := ⟨_, rfl⟩
      rw [← hk1, ← hk2, ← hk3] at hK
      rw [← hk1] at I1
      rw [← hk2] at I2
      rw [← hk3] at I3
      obtain ⟨k22, hk22⟩ : ∃ k, k = 3 * k2 := ⟨_, rfl⟩
      obtain ⟨k12, hk12⟩ : ∃ k, k = k1 + k22 := ⟨_, rfl⟩
      have f0 : 3 * (k2 : Int) = (k22 : Int) := by omega
      have f1 : (k1 : Int) + (k22 : Int) = (k12 : Int) := by omega
      have f2 : (k12 : Int) + (k3 : Int) = (K : Int) := by omega
      have bb : h ≤ 1024 ∧ h2 ≤ 1024 ∧ p ≤ 1024 ∧ H ≤ 1025 ∧ k1 ≤ 10000000 ∧ k2 ≤ 10000000 ∧ k3 ≤ 10000000 ∧ k12 ≤ 10000000 ∧ k22 ≤ 10000000 := by omega
      have HI1 := Lib.hid I1
      have HI2 := Lib.hid I2
      have HI3 := Lib.hid I3
      clear cc IH hK hk1 hk2 hk3 hk12 hk22 hh hh2 hp hH I1 I2 I3
      have C0 := cs_new w #[.int .i64 t.eb, .int .i64 t.et, .int .i64 t.en, .int .i64 t.ed, .int .i64 t.er, .int .i64 t.el, .int .i64 t.ex, .int .i64 t.ep, .int .i64 t.ek, .int .i64 t.es, .int .i64 t.ee] 23
      have hg := gb_alloc (gb_refl w none) (Obj.cells #[.int .i64 t.eb, .int .i64 t.et, .int .i64 t.en, .int .i64 t.ed, .int .i64 t.er, .int .i64 t.el, .int .i64 t.ex, .int .i64 t.ep, .int .i64 t.ek, .int .i64 t.es, .int .i64 t.ee] 23)
      have HG := Lib.hid hg
      have HC0 := Lib.hid C0
      clear C0 hg
      go_enter Tryz.func39, Tryz.ntmps39
      have c0 := HC0.out.cell 0 rfl
      have c1 := HC0.out.cell 1 rfl
      have c2 := HC0.out.cell 2 rfl
      have c3 := HC0.out.cell 3 rfl
      have c4 := HC0.out.cell 4 rfl
      have c5 := HC0.out.cell 5 rfl
      have c6 := HC0.out.cell 6 rfl
      have c7 := HC0.out.cell 7 rfl
      have c8 := HC0.out.cell 8 rfl
      have c9 := HC0.out.cell 9 rfl
      have c10 := HC0.out.cell 10 rfl
      go_wp2_with fail
      refine (HR.out _).mono ?_
      rintro e w2 ⟨rfl, g2⟩
      have HC2 := Lib.hid (HC0.out.grown0 g2)
      have G2 := Lib.hid (gb_trans HG.out g2)
      clear c0 c1 c2 c3 c4 c5 c6 c7 c8 c9 c10 HC0 g2 HG HR
      go_wp2
      have HSF : Hid (∀ W, Cs W w.heap.size t.vs → Canon.SF [(⟨w.heap.size, 0, none⟩, t.v), (⟨w.heap.size, 0, none⟩, t.v)] W) := Lib.hid (fun W C => Canon.sf_agg (fun j u h => C.at0 j h) (Canon.sf_agg (fun j u h => C.at0 j h) (Canon.sf_nil _)))
      refine Canon.region_held [45, 51] _ (by kernel_rfl) (by kernel_rfl) (HSF.out _ HC2.out) ?_
      have c0 := HC2.out.drew.cell 0 rfl
      have c1 := HC2.out.drew.cell 1 rfl
      have c2 := HC2.out.drew.cell 2 rfl
      have c3 := HC2.out.drew.cell 3 rfl
      have c4 := HC2.out.drew.cell 4 rfl
      have c5 := HC2.out.drew.cell 5 rfl
      have c6 := HC2.out.drew.cell 6 rfl
      have c7 := HC2.out.drew.cell 7 rfl
      have c8 := HC2.out.drew.cell 8 rfl
      have c9 := HC2.out.drew.cell 9 rfl
      have c10 := HC2.out.drew.cell 10 rfl
      refine Canon.segs_at 2 _ _ _ (by kernel_rfl) ?_
      simp only [List.take_succ_cons, List.take_zero, List.drop_succ_cons, List.drop_zero]
      go_wp2_with fail
      refine (HI1.out _).mono ?_
      rintro e w3 ⟨rfl, g3⟩
      have HC3 := Lib.hid (HC2.out.drew.grown0 g3)
      have G3 := Lib.hid (gb_trans (gb_drew G2.out) g3)
      clear c0 c1 c2 c3 c4 c5 c6 c7 c8 c9 c10 HC2 g3 G2 HI1
      go_wp2
      refine ⟨HSF.out _ HC3.out, ?_⟩
      have c0 := HC3.out.cell 0 rfl
      have c1 := HC3.out.cell 1 rfl
      have c2 := HC3.out.cell 2 rfl
      have c3 := HC3.out.cell 3 rfl
      have c4 := HC3.out.cell 4 rfl
      have c5 := HC3.out.cell 5 rfl
      have c6 := HC3.out.cell 6 rfl
      have c7 := HC3.out.cell 7 rfl
      have c8 := HC3.out.cell 8 rfl
      have c9 := HC3.out.cell 9 rfl
      have c10 := HC3.out.cell 10 rfl
      refine Canon.segs_at 3 _ _ _ (by kernel_rfl) ?_
      simp only [List.take_succ_cons, List.take_zero, List.drop_succ_cons, List.drop_zero]
      go_wp2_with fail
      refine (HI2.out _).mono ?_
      rintro e w4 ⟨rfl, g4⟩
      have HC4 := Lib.hid (HC3.out.grown0 g4)
      have G4 := Lib.hid (gb_trans G3.out g4)
      clear c0 c1 c2 c3 c4 c5 c6 c7 c8 c9 c10 HC3 g4 G3 HI2
      go_wp2
      refine ⟨HSF.out _ HC4.out, ?_⟩
      have c0 := HC4.out.cell 0 rfl
      have c1 := HC4.out.cell 1 rfl
      have c2 := HC4.out.cell 2 rfl
      have c3 := HC4.out.cell 3 rfl
      have c4 := HC4.out.cell 4 rfl
      have c5 := HC4.out.cell 5 rfl
      have c6 := HC4.out.cell 6 rfl
      have c7 := HC4.out.cell 7 rfl
      have c8 := HC4.out.cell 8 rfl
      have c9 := HC4.out.cell 9 rfl
      have c10 := HC4.out.cell 10 rfl
      refine Canon.segs_at 7 _ _ _ (by kernel_rfl) ?_
      simp only [List.take_succ_cons, List.take_zero, List.drop_succ_cons, List.drop_zero]
      go_wp2_with fail
      refine (HI3.out _).mono ?_
      rintro e w5 ⟨rfl, g5⟩
      have HC5 := Lib.hid (HC4.out.grown0 g5)
      have G5 := Lib.hid (gb_trans G4.out g5)
      clear c0 c1 c2 c3 c4 c5 c6 c7 c8 c9 c10 HC4 g5 G4 HI3
      go_wp2
      refine ⟨HSF.out _ HC5.out, ?_⟩
      refine Canon.segs_end _ _ _ (by kernel_rfl) ?_
      go_wp2
      refine ⟨by kernel_rfl, by kernel_rfl, by kernel_rfl, ?_⟩
      go_wp2
      go_ret
      exact ⟨rfl, G5.out⟩
    · have q := rt_5 cc
      have b4 := t.clamp_ok.eb.1
      rw [cc] at HR
      rw [sq_5 cc] at hK
      have TR : Hid (∀ w, Calls Tryz.prog 50 #[.int .i64 n, .int .i64 n, .int .i64 2] w fun e w' => e = .returned (.int .i64 (K : Nat)) ∧ w.grownBy w' none) := Lib.hid (fun w => by rw [hK]; exact rtransf_c w n n 2 (by omega) (by omega) (by decide) (by omega))
      clear cc IH hK
      have C0 := cs_new w #[.int .i64 t.eb, .int .i64 t.et, .int .i64 t.en, .int .i64 t.ed, .int .i64 t.er, .int .i64 t.el, .int .i64 t.ex, .int .i64 t.ep, .int .i64 t.ek, .int .i64 t.es, .int .i64 t.ee] 23
      have hg := gb_alloc (gb_refl w none) (Obj.cells #[.int .i64 t.eb, .int .i64 t.et, .int .i64 t.en, .int .i64 t.ed, .int .i64 t.er, .int .i64 t.el, .int .i64 t.ex, .int .i64 t.ep, .int .i64 t.ek, .int .i64 t.es, .int .i64 t.ee] 23)
      have HG := Lib.hid hg
      have HC0 := Lib.hid C0
      clear C0 hg
      go_enter Tryz.func39, Tryz.ntmps39
      have c0 := HC0.out.cell 0 rfl
      have c1 := HC0.out.cell 1 rfl
      have c2 := HC0.out.cell 2 rfl
      have c3 := HC0.out.cell 3 rfl
      have c4 := HC0.out.cell 4 rfl
      have c5 := HC0.out.cell 5 rfl
      have c6 := HC0.out.cell 6 rfl
      have c7 := HC0.out.cell 7 rfl
      have c8 := HC0.out.cell 8 rfl
      have c9 := HC0.out.cell 9 rfl
      have c10 := HC0.out.cell 10 rfl
      go_wp2_with fail
      refine (HR.out _).mono ?_
      rintro e w2 ⟨rfl, g2⟩
      have HC2 := Lib.hid (HC0.out.grown0 g2)
      have G2 := Lib.hid (gb_trans HG.out g2)
      clear c0 c1 c2 c3 c4 c5 c6 c7 c8 c9 c10 HC0 g2 HG HR
      go_wp2_with fail
      refine (TR.out _).mono ?_
      rintro e w3 ⟨rfl, g3⟩
      have G3 := Lib.hid (gb_trans G2.out g3)
      clear g3 TR
      go_wp2
      go_ret
      exact ⟨rfl, G3.out⟩
end Go.Proofs.YtldkiddoajlohaaGreatDoor

/- Chapter 12: what its statements share. -/
namespace Go.Proofs.YtldkiddoajlohaaGreatDoor
open Go.RowKit

theorem blen_half {n : Nat} (h : 0 < n) : blen n = blen (n / 2) + 1 := by
  by_cases h1 : n = 1
  · subst h1
    exact blen_eq (by decide) (.inr (by decide))
  · exact blen_div 1 n (by omega)
theorem lwords_c (w : World) (v : Value) (xs : List Int) (h : Sl w v xs) : Calls Tryz.prog 21 #[v] w fun e w' => e = .returned (.int .i64 (trimZ xs).length) ∧ w' = w := by
  have HN := Lib.hid (nlen_c w v xs h)
  obtain ⟨A, c, rfl, _, _⟩ := h.form
  obtain ⟨p, hp⟩ : ∃ p, p = (trimZ xs).length := ⟨_, rfl⟩
  rw [← hp] at HN ⊢
  clear h hp
  go_enter Tryz.func21, Tryz.ntmps21
  go_wp2_with fail
  refine (HN.out).mono ?_
  rintro e w1 ⟨rfl, hw⟩
  go_wp2
  go_ret
  exact ⟨rfl, by first | exact hw | rfl⟩
theorem ldeep_c (w : World) (n : Nat) (hn : n ≤ 1024) : Calls Tryz.prog 27 #[.int .i64 n] w fun e w' => e = .returned (.int .i64 ((4 + 2 * blen n : Nat) : Int)) ∧ w.grownBy w' none := by
  have b0 := blen_le n 11 (by omega)
  obtain ⟨D, hD⟩ : ∃ D, D = 4 + 2 * blen n := ⟨_, rfl⟩
  rw [← hD]
  have bD : D ≤ 26 := by omega
  have HD := Lib.hid hD
  clear hD b0
  go_enter Tryz.func27, Tryz.ntmps27
  go_wp2
  go_loopw [0, 3] (fun v0 v3 wr => ∃ (k d : Nat), v0 = .int .i64 k ∧ v3 = .int .i64 d ∧ k ≤ 1024 ∧ d + 2 * blen k = D ∧ w.grownBy wr none) (fun v0 _ _ => (intOf v0).toNat)
  case atStart => exact ⟨n, 4, rfl, rfl, hn, HD.out.symm, gb_refl _ _⟩
  case round =>
    obtain ⟨k, d, rfl, rfl, hk, hd, G⟩ := hrel
    have HH := Lib.hid hd
    have bd : d ≤ 26 := by omega
    clear hd
    by_cases h0 : k = 0
    · subst h0
      have e : d = D := by have := HH.out; rw [show blen 0 = 0 from rfl] at this; omega
      subst e
      go_wp2
      go_ret
      exact ⟨rfl, G⟩
    · obtain ⟨k2, h2⟩ : ∃ z, z = k / 2 := ⟨_, rfl⟩
      have e2 : (k : Int) / 2 = (k2 : Int) := by omega
      have kp : 0 < k := by omega
      have HB : Hid (blen k = blen k2 + 1) := Lib.hid (by rw [h2]; exact blen_half kp)
      have lt : k2 < k := by omega
      clear h0 h2
      go_wp2
      go_roundw
      case rel => exact ⟨k2, d + 2, rfl, by go_num, by omega, by have := HH.out; have := HB.out; omega, G⟩
      case measure => simp [intOf]; omega
theorem lfrom_c (w : World) (v : Value) (xs : List Int) (L : Nat) (h : Sl w v xs) (hL : xs.length ≤ L) (hL1 : L ≤ 1000000) :
    Calls Tryz.prog 23 #[v] w fun e w' => ∃ u, e = .returned u ∧ Nm w' u (val B64 xs) (2 * L) ∧ w.grownBy w' none := by
  have HF := Lib.hid (from_c w v xs L h hL hL1)
  obtain ⟨A, c, rfl, _, _⟩ := h.form
  clear h
  go_enter Tryz.func23, Tryz.ntmps23
  go_wp2_with fail
  refine (HF.out).mono ?_
  rintro e w1 ⟨u, rfl, k⟩
  have KK := Lib.hid k
  clear k
  go_wp2
  go_ret
  exact ⟨u, rfl, KK.out⟩
theorem ws_1 {x : Int} (h : 0 ≤ x ∧ x < 18446744073709551616) : Ws [x] := fun y hy => by obtain rfl := List.mem_singleton.1 hy; exact h
theorem pts_lit3 (w : World) (x y z : Int) (hx : 0 ≤ x ∧ x < 18446744073709551616) (hy : 0 ≤ y ∧ y < 18446744073709551616) (hz : 0 ≤ z ∧ z < 18446744073709551616) :
    Pts ((((w.alloc (Obj.cells #[.int .u64 x] 79)).alloc (Obj.cells #[.int .u64 y] 79)).alloc (Obj.cells #[.int .u64 z] 79)).alloc (Obj.cells #[.slice (some ⟨w.heap.size, 0, none⟩) 1 1, .slice (some ⟨w.heap.size + 1, 0, none⟩) 1 1, .slice (some ⟨w.heap.size + 1 + 1, 0, none⟩) 1 1] 34))
      (.slice (some ⟨w.heap.size + 1 + 1 + 1, 0, none⟩) 3 3) 3 (fun j => [Value.slice (some ⟨w.heap.size, 0, none⟩) 1 1, .slice (some ⟨w.heap.size + 1, 0, none⟩) 1 1, .slice (some ⟨w.heap.size + 1 + 1, 0, none⟩) 1 1].getD j (.slice (some ⟨w.heap.size, 0, none⟩) 1 1)) (fun j => [[x], [y], [z]].getD j []) := by
  have s1 := sl_lit w 79 #[.int .u64 x] [x] 1 rfl (ws_1 hx) rfl (by decide)
  have s2 := sl_lit (w.alloc (Obj.cells #[.int .u64 x] 79)) 79 #[.int .u64 y] [y] 1 rfl (ws_1 hy) rfl (by decide)
  have s3 := sl_lit ((w.alloc (Obj.cells #[.int .u64 x] 79)).alloc (Obj.cells #[.int .u64 y] 79)) 79 #[.int .u64 z] [z] 1 rfl (ws_1 hz) rfl (by decide)
  rw [alloc_sz] at s2
  rw [alloc_sz, alloc_sz] at s3
  have P := pts3 (((w.alloc (Obj.cells #[.int .u64 x] 79)).alloc (Obj.cells #[.int .u64 y] 79)).alloc (Obj.cells #[.int .u64 z] 79)) 34 _ _ _ [x] [y] [z] ((s1.grown0 (gb_alloc (gb_refl _ none) _)).grown0 (gb_alloc (gb_refl _ none) _)) (s2.grown0 (gb_alloc (gb_refl _ none) _)) s3
  rw [alloc_sz, alloc_sz, alloc_sz] at P
  exact P
theorem Wo.lit {w : World} {base n : Nat} {v : Value} (h : Wo w base v n) {xs : List Int} (hw : Ws xs) (nz : Nz xs) (hv : val B64 xs = n) : Sl w v xs := by
  obtain ⟨zs, ow, nz', hv'⟩ := h
  obtain rfl := dg_ext (B := B64) (by decide) ow.ws.dg hw.dg nz' nz (hv'.trans hv.symm)
  exact ow.sl
set_option maxRecDepth 100000 in
theorem wakes12_c (w : World) (hd : Db w) : Calls Tryz.prog 17 #[] w fun e w' => e = .returned (.bool true) ∧ w.grownBy w' none := by
  have NW : Calls Tryz.prog 12 #[.agg #[.int .i64 0, .int .i64 0, .int .i64 0, .int .i64 0, .int .i64 0, .int .i64 0, .int .i64 0, .int .i64 0, .int .i64 0, .int .i64 0, .int .i64 0]] w fun e w' => ∃ g0 g1 g2 g3 gm, e = .returned (.pointer (some ⟨g0, 0, none⟩)) ∧ Eng w' g0 g1 g2 g3 gm ∧ w.heap.size ≤ gm ∧ Mt w' gm 0 0 ⟨0, tbT (Tb.clamp ⟨0, 0, 0, 0, 0, 0, 0, 0, 0, 0, 0⟩)⟩ ∧ w.grownBy w' none := mulNew_c w ⟨0, 0, 0, 0, 0, 0, 0, 0, 0, 0, 0⟩
  have HN := Lib.hid NW
  have HD := Lib.hid hd
  clear NW hd
  go_enter Tryz.func17, Tryz.ntmps17
  go_wp2_with fail
  refine (HN.out).mono ?_
  rintro e w1 ⟨g0, g1, g2, g3, gm, rfl, eg, hg, mt, g⟩
  have HE := Lib.hid eg
  have MT := Lib.hid mt
  have G1 := Lib.hid g
  have HGM : Hid (gm < w1.heap.size) := Lib.hid (World.block_lt_of_cell? w1 _ mt.c0)
  have HG := Lib.hid hg
  clear eg hg mt g HN
  have GA := gb_alloc (gb_alloc (gb_alloc (gb_alloc (gb_refl w1 none) (Obj.cells #[.int .u64 2] 79)) (Obj.cells #[.int .u64 3] 79)) (Obj.cells #[.int .u64 7] 79)) (Obj.cells #[.slice (some ⟨w1.heap.size, 0, none⟩) 1 1, .slice (some ⟨w1.heap.size + 1, 0, none⟩) 1 1, .slice (some ⟨w1.heap.size + 1 + 1, 0, none⟩) 1 1] 34)
  have PT := pts_lit3 w1 2 3 7 (by decide) (by decide) (by decide)
  have P1 := Lib.hid (product_all (Tb.clamp_ok ⟨0, 0, 0, 0, 0, 0, 0, 0, 0, 0, 0⟩) 3 (by decide) _ g0 g1 g2 g3 gm 0 0 _ _ _ _ (HE.out.grown0 GA) (HD.out.grown0 (gb_trans G1.out GA)) (MT.out.grown GA) rfl (by decide) (by decide) PT (off_some (by have := HGM.out; omega)) (fun j hj => by
    have h := HGM.out
    rcases (show j = 0 ∨ j = 1 ∨ j = 2 by omega) with rfl | rfl | rfl
    · exact off_some (by omega)
    · exact off_some (by omega)
    · exact off_some (by omega)) (by decide))
  have GAA := Lib.hid (gb_trans G1.out GA)
  have HEA := Lib.hid (HE.out.grown0 GA)
  have HDA := Lib.hid (HD.out.grown0 (gb_trans G1.out GA))
  have MTA := Lib.hid (MT.out.grown GA)
  clear PT GA
  go_wp2_with fail
  refine (P1.out).mono ?_
  rintro e w2 ⟨x, c2, a2, rfl, o2, m2, ha2, t2, g2'⟩
  have X2 := Lib.hid (o2.lit (xs := [42]) (ws_1 (by decide)) rfl rfl)
  have M2 := Lib.hid m2
  have A2 := Lib.hid ha2
  have T2 := Lib.hid t2
  have E2 := Lib.hid (HEA.out.grown g2')
  have D2 := Lib.hid (HDA.out.grown MTA.out g2')
  have G2 := Lib.hid (gb_new GAA.out g2' (fun i hi => by cases hi; exact HG.out))
  clear o2 m2 ha2 t2 g2' P1 HEA HDA MTA GAA
  have GB := gb_alloc (gb_refl w2 none) (Obj.cells #[.int .u64 42] 79)
  have S1 := Lib.hid (same_c _ x _ [42] [42] (X2.out.grown0 GB) (sl_lit w2 79 #[.int .u64 42] [42] 1 rfl (ws_1 (by decide)) rfl (by decide)))
  rw [decide_eq_true rfl] at S1
  have G2B := Lib.hid (gb_trans G2.out GB)
  have GBH := Lib.hid GB
  clear GB
  go_wp2_with fail
  refine (S1.out).mono ?_
  rintro e w3 ⟨rfl, g3'⟩
  have GC := gb_trans GBH.out g3'
  have P2 := Lib.hid (product_all (Tb.clamp_ok ⟨0, 0, 0, 0, 0, 0, 0, 0, 0, 0, 0⟩) 0 (by decide) w3 g0 g1 g2 g3 gm a2 0 c2 (.slice none 0 0) (fun _ => undef) (fun _ => []) (E2.out.grown0 GC) (D2.out.grown0 GC) (M2.out.grown GC) T2.out (by decide) (by have := A2.out.1; omega) ⟨cells_none _ _ _, fun j hj => by omega⟩ (fun b hb => by simp [Value.ownBlock] at hb) (fun j hj => by omega) (by decide))
  have G3 := Lib.hid (gb_trans G2B.out g3')
  have MM := Lib.hid (M2.out.grown GC)
  clear GC g3' S1 E2 D2 M2 A2 G2B
  go_wp2_with fail
  refine (P2.out).mono ?_
  rintro e w4 ⟨x2, c4, a4, rfl, o4, m4, ha4, t4, g4'⟩
  have X4 := Lib.hid (o4.lit (xs := [1]) (ws_1 (by decide)) rfl rfl)
  have G4 := Lib.hid (gb_new G3.out g4' (fun i hi => by cases hi; exact HG.out))
  clear o4 m4 ha4 t4 g4' P2
  have GB := gb_alloc (gb_refl w4 none) (Obj.cells #[.int .u64 1] 79)
  have S2 := Lib.hid (same_c _ x2 _ [1] [1] (X4.out.grown0 GB) (sl_lit w4 79 #[.int .u64 1] [1] 1 rfl (ws_1 (by decide)) rfl (by decide)))
  rw [decide_eq_true rfl] at S2
  have G4B := Lib.hid (gb_trans G4.out GB)
  clear GB
  go_wp2_with fail
  refine (S2.out).mono ?_
  rintro e w5 ⟨rfl, g5'⟩
  have G5 := Lib.hid (gb_trans G4B.out g5')
  clear g5' S2
  go_wp2
  go_ret
  exact ⟨rfl, G5.out⟩
end Go.Proofs.YtldkiddoajlohaaGreatDoor

/- Engines: products of any rows. -/
namespace Go.Proofs.YtldkiddoajlohaaGreatDoor
open Go.RowKit

theorem En.mul2 {u : Tb} (hu : TbOk u) {w : World} {g0 g1 g2 g3 gm : Nat} {a : Int} {c : Mc} (h : En w u g0 g1 g2 g3 gm a c) (hd : Db w) (ha0 : a ≤ 900000000000000) {va vb : Value} {al bl : List Int} (ha : Sl w va al) (hb : Sl w vb bl) (hna : al = [] ∨ Off va gm) (hnb : bl = [] ∨ Off vb gm) (hl : al.length + bl.length ≤ 1024) :
    Calls Tryz.prog 20 #[.pointer (some ⟨g0, 0, none⟩), va, vb] w fun e w' => ∃ x c' a', e = .returned x ∧ Wo w' w.heap.size x (val B64 al * val B64 bl) ∧ En w' u g0 g1 g2 g3 gm a' c' ∧ a' ≤ a + 10000000 ∧ w.grownBy w' (some gm) :=
  (h.mul hu hd ha0 ha hb hna hnb hl).mono fun _ _ ⟨x, c', e1, k1, k2, k3⟩ => ⟨x, c', _, e1, k1, k2, by
    have := cost_lim hu (n := (trimZ al).length) (m := (trimZ bl).length) (by have := trimZ_len al; have := trimZ_len bl; omega)
    omega, k3⟩
theorem En.sqr2 {u : Tb} (hu : TbOk u) {w : World} {g0 g1 g2 g3 gm : Nat} {a : Int} {c : Mc} (h : En w u g0 g1 g2 g3 gm a c) (hd : Db w) (ha0 : a ≤ 900000000000000) {va : Value} {al : List Int} (ha : Sl w va al) (hna : al = [] ∨ Off va gm) (hl : al.length ≤ 512) :
    Calls Tryz.prog 35 #[.pointer (some ⟨g0, 0, none⟩), va] w fun e w' => ∃ x c' a', e = .returned x ∧ Wo w' w.heap.size x (val B64 al * val B64 al) ∧ En w' u g0 g1 g2 g3 gm a' c' ∧ a' ≤ a + 10000000 ∧ w.grownBy w' (some gm) :=
  (h.sqr hu hd ha0 ha hna hl).mono fun _ _ ⟨x, c', e1, k1, k2, k3⟩ => ⟨x, c', _, e1, k1, k2, by
    have := sq_lim hu (n := (trimZ al).length) (by have := trimZ_len al; omega)
    omega, k3⟩
theorem En.prod {u : Tb} (hu : TbOk u) {w : World} {g0 g1 g2 g3 gm : Nat} {a : Int} {c : Mc} (h : En w u g0 g1 g2 g3 gm a c) (hd : Db w) {n : Nat} (hn : n ≤ 1000) (ha0 : a + (n : Int) * 100000000 ≤ 900000000000000) {v : Value} {V : Nat → Value} {X : Nat → List Int} (hp : Pts w v n V X) (ho : Off v gm) (hV : ∀ j, j < n → X j = [] ∨ Off (V j) gm) (hl : tot X 0 n ≤ 1000) :
    Calls Tryz.prog 16 #[.pointer (some ⟨g0, 0, none⟩), v] w fun e w' => ∃ x c' a', e = .returned x ∧ Wo w' w.heap.size x (prV (fun j => val B64 (X j)) 0 n) ∧ En w' u g0 g1 g2 g3 gm a' c' ∧ a' ≤ a + (n : Int) * 100000000 ∧ w.grownBy w' (some gm) :=
  (product_all2 hu n hn w g0 g1 g2 g3 gm a 0 c v V X h.e hd h.m h.t (by decide) ha0 hp ho hV hl).mono fun _ _ ⟨x, c', a', e1, k1, k2, k3, k4, k5⟩ => ⟨x, c', a', e1, k1, ⟨h.e.grown k5, k2, k4⟩, k3.1, k5⟩
theorem vs_int (u : Tb) (j : Nat) {v : Value} (h : u.vs[j]? = some v) : ∃ z, v = .int .i64 z := by
  have hj : j < 11 := by
    have := (List.getElem?_eq_some_iff.1 h).1
    exact this
  rcases (show j = 0 ∨ j = 1 ∨ j = 2 ∨ j = 3 ∨ j = 4 ∨ j = 5 ∨ j = 6 ∨ j = 7 ∨ j = 8 ∨ j = 9 ∨ j = 10 by omega) with rfl | rfl | rfl | rfl | rfl | rfl | rfl | rfl | rfl | rfl | rfl <;> exact ⟨_, (Option.some.inj h).symm⟩
/-- No row lies in a meter's block. -/
theorem En.off {u : Tb} {w : World} {g0 g1 g2 g3 gm : Nat} {a : Int} {c : Mc} (h : En w u g0 g1 g2 g3 gm a c) {v : Value} {xs : List Int} (s : Sl w v xs) : xs = [] ∨ Off v gm := by
  cases xs with
  | nil => exact .inl rfl
  | cons x xs =>
    right
    obtain ⟨A, k, rfl, h1, h2, h3, h4⟩ := s
    obtain ⟨b, o, rfl, hc⟩ := h4 (by simp)
    have hx := hc 0 (by simp)
    rw [Nat.add_zero] at hx
    intro b' hb' e
    simp only [Value.ownBlock, Option.some.injEq] at hb'
    subst hb'
    subst e
    have kind : ∀ z, World.cell? w ⟨b, o, none⟩ ≠ some (.int .i64 z) := fun z hz => by
      rw [hx] at hz
      simp at hz
    by_cases o3 : 3 ≤ o
    · have hr := h.m.rest o o3
      rw [h.t] at hr
      unfold tbT at hr
      rw [if_pos o3, hx] at hr
      obtain ⟨z, hz⟩ := vs_int u (o - 3) hr.symm
      simp at hz
    · rcases (show o = 0 ∨ o = 1 ∨ o = 2 by omega) with rfl | rfl | rfl
      · exact kind _ h.m.c0
      · exact kind _ h.m.c1
      · exact kind _ h.m.c2
theorem En.sl {u : Tb} {w w' : World} {g0 g1 g2 g3 gm : Nat} {a : Int} {c : Mc} (h : En w u g0 g1 g2 g3 gm a c) {v : Value} {xs : List Int} (s : Sl w v xs) (g : w.grownBy w' (some gm)) : Sl w' v xs := s.offX (h.off s) g
theorem En.nm {u : Tb} {w w' : World} {g0 g1 g2 g3 gm : Nat} {a : Int} {c : Mc} (h : En w u g0 g1 g2 g3 gm a c) {v : Value} {n L : Nat} (s : Nm w v n L) (g : w.grownBy w' (some gm)) : Nm w' v n L := by
  obtain ⟨xs, h1, h2⟩ := s; exact ⟨xs, h.sl h1 g, h2⟩
end Go.Proofs.YtldkiddoajlohaaGreatDoor

/- Noughts behind a row of the call's own: append of a made row. -/
namespace Go.Proofs.YtldkiddoajlohaaGreatDoor
open Go.RowKit

theorem zeroCells_one (z : Value) (k : Nat) : Builtin.zeroCells #[z] k = (List.replicate k z).toArray := by
  apply Array.ext
  · simp [Builtin.zeroCells]
  · intro i h1 h2
    simp [Builtin.zeroCells, Nat.mod_one]
section
variable {P : Program} (w : World)
theorem run_append_own_zeros (base : Nat) (t tn ty e : TypeId) (i : TypeInfo) (z : Value) (bytes : Nat) (kn kq : IntKind) (ht : P.underlying t = some (.slice e)) (htn : P.underlying tn = some (.int kn)) (hi : P.info? e = some i) (hz : i.zero = some z)
    (hsize : i.size = 1) (hby : i.bytes = bytes) (hzs : z.cells = #[z]) (hz1 : z.oneCell' = true)
    (v : Value) (n : Nat) (xs : List Value) (hown : w.ownsRow base e 1 v n xs) (k : Nat)
    (h63 : n + k ≤ maxLen) (hbytes : (n + k) * bytes ≤ 140737488355328) (hbase : base ≤ w.heap.size) :
    ∃ v' w', (Builtin.append_ #[t, tn] ty #[v, .int kq k]).run P w = .ok v' w' ∧ w'.ownsRow base e 1 v' (n + k) (xs ++ List.replicate k z) ∧ w.grownBy w' v.ownBlock := by
  subst hby
  have hsmall : n + k ≤ 9223372036854775807 := by simp only [maxLen] at h63; omega
  have hl0 : xs.length = n := by simpa using hown.1
  have hlen : (xs ++ List.replicate k z).length = n + k := by rw [List.length_append, hl0, List.length_replicate]
  have hcells : Builtin.zeroCells z.cells k = (List.replicate k z).toArray := by rw [hzs]; exact zeroCells_one z k
  have hw : IntKind.i64.wrap (k : Int) = k := by rw [IntKind.wrap_i64]; omega
  have hneg : ¬ ((k : Int) < 0) := by omega
  have kb : k * i.bytes ≤ 140737488355328 := Nat.le_trans (Nat.mul_le_mul_right _ (by omega)) hbytes
  have h48i : ¬ (281474976710656 < (k : Int) * (i.bytes : Int)) := by rw [← Int.natCast_mul]; omega
  have grown : ∀ (old : Nat), old < n + k → ∀ (row : Option Nat),
      (w.drew.alloc (.cells (xs.toArray ++ Builtin.zeroCells z.cells k ++ Builtin.zeroCells z.cells (grownCap w (n + k) old e - (n + k))) e)).ownsRow base e 1
        (.slice (some ⟨w.heap.size, 0, none⟩) (n + k) (grownCap w (n + k) old e)) (n + k) (xs ++ List.replicate k z) ∧
      w.grownBy (w.drew.alloc (.cells (xs.toArray ++ Builtin.zeroCells z.cells k ++ Builtin.zeroCells z.cells (grownCap w (n + k) old e - (n + k))) e)) row := by
    intro old ho row
    have hge := grownCap_ge w (n + k) old e
    have hcm : grownCap w (n + k) old e ≤ maxLen := grownCap_le_maxLen w (n + k) old e h63
    refine ⟨⟨by rw [hlen, Nat.mul_one], .inr ⟨w.heap.size, _, _, rfl, hbase, heap_alloc_new w.drew _, hge, hcm, ?_, ?_⟩⟩, ⟨rfl, rfl, rfl, by simp, fun k' hk' _ => heap_alloc_old w.drew _ hk'⟩⟩
    · simp only [Array.size_append, List.size_toArray, size_zeroCells, hzs, hl0, List.length_singleton]
      omega
    · rw [hcells]
      simp only [Array.toList_append, Nat.mul_one]
      rw [← hlen]
      exact List.take_left
  rcases hown.2 with ⟨rfl, rfl⟩ | ⟨g, cap, cur, rfl, hbg, hg, hnc, hcm, hcs, htake⟩
  · have hx : xs = [] := List.eq_nil_of_length_eq_zero hl0
    subst hx
    by_cases hk : k = 0
    · subst hk
      refine ⟨.slice none 0 0, w, ?_, World.ownsRow_nil w base e 1, ⟨rfl, rfl, rfl, Nat.le_refl _, fun _ _ _ => rfl⟩⟩
      simp [Builtin.append_, run_underlying ht, run_underlying htn, sizeOf, typeInfo, hi, asInt, asIntOf, IntKind.wrap_i64]
    · have hr := Lib.run_append_nil_zeros (P := P) w t tn ty e i z kq kn ht htn hi hz k (by omega) (by omega) (by omega) (by omega)
      have hgr := grown 0 (by omega) (Value.ownBlock (.slice none 0 0))
      simp only [Nat.zero_add, Array.empty_append] at hgr ⊢
      exact ⟨_, _, hr, hgr.1, hgr.2⟩
  · by_cases hroom : n + k ≤ cap
    · refine ⟨.slice (some ⟨g, 0, none⟩) (n + k) cap, w.setRow g (cur.toList.take n ++ List.replicate k z ++ cur.toList.drop (n + k)).toArray, ?_, ⟨by rw [hlen, Nat.mul_one], .inr ⟨g, cap, _, rfl, hbg, setRow_heap w g cur _ e _ hg, hroom, hcm, ?_, ?_⟩⟩, ⟨rfl, rfl, rfl, by simp, fun k hk => fun hk2 => setRow_other w g k _ (fun e => hk2 (by simp [Value.ownBlock, e]))⟩⟩
      · have hst := run_storeCells_at P g n e (List.replicate k z) 0 cur w hg (by simp; omega) (fun u hu => by rw [List.eq_of_mem_replicate hu]; exact hz1)
        simp only [Nat.add_zero, List.length_replicate] at hst
        by_cases hk : k = 0
        · subst hk
          simp [Builtin.append_, run_underlying ht, run_underlying htn, sizeOf, typeInfo, hi, asInt, asIntOf, IntKind.wrap_i64, hsize, hnc, Addr.add_lit] at hst ⊢
          rw [hst]
          rfl
        · simp [Builtin.append_, run_underlying ht, run_underlying htn, sizeOf, typeInfo, zeroValue, hz, hi, asInt, asIntOf, hw, hneg, h48i, hk, hsize, hroom, hcells, Addr.add_lit, hst]
      · simp only [List.size_toArray, List.length_append, List.length_take, List.length_drop, Array.length_toList, List.length_replicate]
        omega
      · have ht' : cur.toList.take n = xs := by rw [Nat.mul_one] at htake; exact htake
        rw [ht', Nat.mul_one, ← hlen]
        exact List.take_left
    · have hold : (Builtin.firstCells i.size n (.slice (some ⟨g, 0, none⟩) n cap)).run P w.drew = .ok xs.toArray w.drew := by
        rw [hsize]
        exact run_firstCells_some w.drew 1 n ⟨g, 0, none⟩ n cap xs (by rw [hl0, Nat.mul_one]) (fun j u hu => hown.cells (g := g) rfl j u hu)
      have hk : 0 < k := by omega
      have hr := Lib.run_append_grow_zeros (P := P) w t tn ty e i z kq kn ht htn hi hz (some ⟨g, 0, none⟩) n cap xs hold k hk (by omega) (by omega) (by omega) (by omega) (growslice_fits (by omega) hbytes)
      have hgr := grown cap (by omega) (Value.ownBlock (.slice (some ⟨g, 0, none⟩) n cap))
      exact ⟨_, _, hr, hgr.1, hgr.2⟩
end
theorem own_zeros {w : World} {base : Nat} {ops : Array Oper} {rest : List Oper} {o : Oper} {a : Act} {Q : Exit → Act → World → Prop} (t tn : TypeId) (ht : Tryz.prog.underlying t = some (.slice 79)) (htn : Tryz.prog.underlying tn = some (.int .i64))
    (s x : Operand) (hgd : o.guard = none) (ho : o.op = .call { callee := .builtin .append, args := #[s, x], argTypes := #[t, tn] })
    (v : Value) (xs : List Int) (hs : a.eval s = v) (hown : Own w base v xs)
    (k : Nat) (hx : a.eval x = .int .i64 k) (hb : xs.length + k ≤ 1000000000000) (hbase : base ≤ w.heap.size)
    (h : ∀ v' w', Own w' base v' (xs ++ List.replicate k 0) → w.grownBy w' v.ownBlock → wpList Tryz.prog ops Q rest (a.put o.dst v') w') : wpList Tryz.prog ops Q (o :: rest) a w := by
  obtain ⟨i, hi, he⟩ := Option.map_eq_some_iff.1 info_u64
  simp only [Prod.mk.injEq] at he
  obtain ⟨v', w', hr, h1, h2⟩ := run_append_own_zeros (P := Tryz.prog) w base t tn o.type 79 i (.int .u64 0) 8 .i64 .i64 ht htn hi he.1 he.2.1 he.2.2 rfl rfl v xs.length (nums xs) hown.1 k (by unfold maxLen; omega) (by omega) hbase
  refine Lib.wpList_append_run w hgd s x t tn ho v (.int .i64 k) hs hx v' w' hr (h v' w' ⟨?_, ?_⟩ h2)
  · have e : nums (xs ++ List.replicate k 0) = nums xs ++ List.replicate k (.int .u64 0) := by unfold nums; simp
    rw [e, List.length_append, List.length_replicate]
    exact h1
  · intro y hy
    rcases List.mem_append.1 hy with hy | hy
    · exact hown.ws y hy
    · rw [List.eq_of_mem_replicate hy]; decide
end Go.Proofs.YtldkiddoajlohaaGreatDoor

/- The law with held cells, of which the last operation may write into one. -/
namespace Go.Proofs.YtldkiddoajlohaaGreatDoor.Canon
open Go

section
variable {P : Program} {ops : Array Oper} {H : List Nat} {F : List (Addr × Value)}

/-- Behind each operation with an effect, but the last one, the cells are asked for. -/
def segl (P : Program) (ops : Array Oper) (F : List (Addr × Value)) (K : Act → World → Prop) : List Oper → Act → World → Prop
  | [], a, w => K a w
  | o :: l, a, w => wpList P ops (Only (if (effB o && !l.isEmpty) = true then (fun a w => SF F w ∧ segl P ops F K l a w) else segl P ops F K l)) [o] a w
theorem segl_step {K : Act → World → Prop} {o : Oper} {l : List Oper} {a : Act} {w : World} (hs : SF F w) (hc : Cal P ops o a) (h : segl P ops F K (o :: l) a w) :
    Step P ops o (fun a w => (l ≠ [] → SF F w) ∧ segl P ops F K l a w) a w := by
  have h1 := step_of_one h
  cases he : effB o with
  | true =>
    cases l with
    | nil =>
      rw [he, if_neg (by decide)] at h1
      exact h1.mono fun a1 v w1 _ h2 => ⟨fun k => absurd rfl k, h2⟩
    | cons o' l' =>
      rw [he, if_pos (show (true && !(o' :: l').isEmpty) = true from rfl)] at h1
      exact h1.mono fun a1 v w1 _ h2 => ⟨fun _ => h2.1, h2.2⟩
  | false =>
    rw [he, if_neg (by simp)] at h1
    unfold effB at he
    simp only [Bool.not_eq_false', Bool.or_eq_true] at he
    rcases he with hp | hl
    · obtain ⟨v, hy, hK⟩ := h1.yields hp hc
      rcases hy with ⟨hw, hr⟩ | ⟨hw, rfl⟩
      · unfold Step; rw [if_pos hw, hr w]; exact ⟨fun _ => hs, hK⟩
      · unfold Step; rw [if_neg (by rw [hw]; decide)]; exact ⟨fun _ => hs, hK⟩
    · rcases h1.loads hl with ⟨hw, v, hr, hK⟩ | ⟨hw, hK⟩
      · exact Step.of_loads hw hr ⟨fun _ => hs, hK⟩
      · unfold Wants at hw; unfold Step; rw [if_neg hw]; exact ⟨fun _ => hs, hK⟩

/-- There is an end, and its frame differs in the slots of the operations alone. -/
theorem segl_out {K : Act → World → Prop} : ∀ (l : List Oper) (a : Act) (w : World), segl P ops F K l a w →
    ∃ (a' : Act) (w' : World), K a' w' ∧ ∀ t, (∀ o ∈ l, o.dst ≠ some t) → a'.tmps[t]? = a.tmps[t]? := by
  intro l
  induction l with
  | nil => intro a w h; exact ⟨a, w, h, fun _ _ => rfl⟩
  | cons o l ih =>
    intro a w h
    obtain ⟨a1, v, w1, e1, h1⟩ := (step_of_one h).out
    have h1' : segl P ops F K l (a1.put o.dst v) w1 := by
      split at h1
      · exact h1.2
      · exact h1
    obtain ⟨a', w', hK, hag⟩ := ih _ _ h1'
    refine ⟨a', w', hK, fun t ht => (hag t fun o' ho' => ht o' (List.mem_cons_of_mem _ ho')).trans ?_⟩
    have hne := ht o List.mem_cons_self
    cases hd : o.dst with
    | none => simp [Act.put, e1]
    | some d =>
      have hdt : d ≠ t := fun e => hne (by rw [hd, e])
      simp [Act.put, e1, Array.getElem?_setIfInBounds_ne hdt]

/-- The last one waits for all others. -/
def lastB (ops : Array Oper) : Bool := decide (0 < ops.size) && (List.range (ops.size - 1)).all fun j => ((masksFrom [] ops.toList).getD (ops.size - 1) 0).testBit j
theorem main_order_l {z : Nat} {oz : Oper} (hzo : ops[z]? = some oz) (hz : z + 1 = ops.size) {ms : List Nat} (hlast : ∀ j, j < z → (ms.getD z 0).testBit j = true) {Q : Exit → Act → World → Prop} (hl : low ops = true) (hj : justified ms ops = true) (hu : unordered H ms ops = true) (hp : ∀ (i : Nat) (o : Oper), ops[i]? = some o → plain o = true) :
    ∀ (fuel : Nat) (listed : Array Bool) (c : List Nat) (a : Act) (w : World), fuel = c.length → listed.size = ops.size →
      (∀ i, i ∈ c ++ [z] ↔ i < ops.size ∧ listed.getD i false = false) → (c ++ [z]).Pairwise (· < ·) → Closed ops listed →
      Run P ops H F c (fun a w => Step P ops oz (fun a w => Q .normal a w) a w) a w → wpAny P .any ops Q (fuel + 1) listed a w := by
  intro fuel
  induction fuel with
  | zero =>
    intro listed c a w hlen hsz hmem _ _ h
    obtain rfl : c = [] := List.eq_nil_of_length_eq_zero hlen.symm
    have hzn : z < ops.size := by omega
    have hlst : ∀ i, i < ops.size → listed.getD i true = listed.getD i false := fun i hi => by
      rw [Array.getD_eq_getD_getElem?, Array.getD_eq_getD_getElem?, Array.getElem?_eq_getElem (by omega)]; rfl
    have hzl := ((hmem z).1 (by simp)).2
    have hoth : ∀ k, k < ops.size → k ≠ z → listed.getD k false = true := fun k hk hne => by
      cases hb : listed.getD k false with
      | true => rfl
      | false =>
        have := (hmem k).2 ⟨hk, hb⟩
        simp at this
        exact absurd this hne
    refine ⟨fun hr => ?_, fun i hi => ?_⟩
    · exfalso
      have : z ∈ Region.ready .any ops listed := mem_ready.2 ⟨by rw [hlst z hzn]; exact hzl, oz, hzo, fun e he hb => by
        have hlo := low_spec hl hzo he hb
        exact hoth e.on (by omega) (by omega)⟩
      rw [hr] at this
      cases this
    · obtain ⟨h0, o, ho, hall⟩ := mem_ready.1 hi
      have hin : i < ops.size := (Array.getElem?_eq_some_iff.1 ho).1
      have hiz : i = z := by
        by_cases e : i = z
        · exact e
        · rw [hlst i hin, hoth i hin e] at h0; cases h0
      subst hiz
      obtain rfl : o = oz := Option.some.inj (ho.symm.trans hzo)
      refine Step.wpOp ho h |> wpOp_mono fun a1 w1 h1 => ?_
      refine main_order (F := F) (H := H) hl hj hu hp 0 _ [] a1 w1 rfl (by simpa using hsz) (fun k => ?_) List.Pairwise.nil ?_ h1
      · constructor
        · intro hk; cases hk
        · rintro ⟨hk, hb⟩
          by_cases hki : k = i
          · subst hki; simp [show k < listed.size by omega] at hb
          · rw [getD_set_ne false (Ne.symm hki), hoth k hk hki] at hb; cases hb
      · intro k ok hok hlk e he hb
        have hlo := low_spec hl hok he hb
        have hkn : k < ops.size := (Array.getElem?_eq_some_iff.1 hok).1
        rw [getD_set_ne false (by omega)]
        exact hoth e.on (by omega) (by omega)
  | succ fuel ih =>
    intro listed c a w hlen hsz hmem hsort hcl h
    have hlst : ∀ i, i < ops.size → listed.getD i true = listed.getD i false := fun i hi => by
      rw [Array.getD_eq_getD_getElem?, Array.getD_eq_getD_getElem?, Array.getElem?_eq_getElem (by omega)]; rfl
    have hlt : ∀ i, i ∈ c → i < ops.size := fun i hi => ((hmem i).1 (List.mem_append_left _ hi)).1
    have hltz : ∀ i, i ∈ c → i < z := fun i hi => (List.pairwise_append.1 hsort).2.2 i hi z (by simp)
    have hsortc := (List.pairwise_append.1 hsort).1
    refine ⟨fun hr => ?_, fun i hi => ?_⟩
    · exfalso
      cases c with
      | nil => simp at hlen
      | cons i c =>
        have hi := (hmem i).1 (by simp)
        have ho : ops[i]? = some ops[i] := Array.getElem?_eq_getElem hi.1
        have : i ∈ Region.ready .any ops listed := mem_ready.2 ⟨by rw [hlst i hi.1]; exact hi.2, ops[i], ho, fun e he hb => by
          have hlo := low_spec hl ho he hb
          cases hb2 : listed.getD e.on false with
          | true => rfl
          | false =>
            have hm := (hmem e.on).2 ⟨by omega, hb2⟩
            rcases List.mem_cons.1 hm with h1 | h1
            · omega
            · have := List.rel_of_pairwise_cons hsort h1; omega⟩
        rw [hr] at this
        cases this
    · obtain ⟨h0, o, ho, hall⟩ := mem_ready.1 hi
      have hin : i < ops.size := (Array.getElem?_eq_some_iff.1 ho).1
      have hicz : i ∈ c ++ [z] := (hmem i).2 ⟨hin, by rw [← hlst i hin]; exact h0⟩
      have hiz : i ≠ z := by
        intro e
        subst e
        cases c with
        | nil => simp at hlen
        | cons j c =>
          have hji := hltz j (by simp)
          have := bit_listed hl hj hcl i o ho hall j hji (hlast j hji)
          rw [((hmem j).1 (by simp)).2] at this
          cases this
      have hic : i ∈ c := by
        rcases List.mem_append.1 hicz with h1 | h1
        · exact h1
        · exact absurd (by simpa using h1) hiz
      obtain ⟨c1, c2, rfl⟩ := List.append_of_mem hic
      have hs := List.pairwise_append.1 hsortc
      have hfront := run_front ho (hp i o ho) c2 c1 (fun j hj1 => by
        have hjn := hlt j (by simp [hj1])
        have hoj : ops[j]? = some ops[j] := Array.getElem?_eq_getElem hjn
        have hji : j < i := hs.2.2 j hj1 i List.mem_cons_self
        refine ⟨ops[j], hoj, hp j _ hoj, pairs hu ho hoj hji ?_⟩
        cases hb : (ms.getD i 0).testBit j with
        | false => rfl
        | true =>
          have := bit_listed hl hj hcl i o ho hall j hji hb
          rw [((hmem j).1 (by simp [hj1])).2] at this
          cases this) a w h
      simp only [Run, ho] at hfront
      refine hfront.2.2.wpOp ho |> wpOp_mono fun a1 w1 h1 => ?_
      have hset : ∀ k, (listed.setIfInBounds i true).getD k false = if k = i then true else listed.getD k false := fun k => by
        by_cases hk : k = i
        · subst hk; rw [if_pos rfl]; simp [show k < listed.size by omega]
        · rw [if_neg hk, getD_set_ne false (Ne.symm hk)]
      have hnotin : i ∉ c1 ++ c2 := by
        intro hm
        rcases List.mem_append.1 hm with h2 | h2
        · have := hs.2.2 i h2 i List.mem_cons_self; omega
        · have := List.rel_of_pairwise_cons hs.2.1 h2; omega
      refine ih (listed.setIfInBounds i true) (c1 ++ c2) a1 w1 (by simp at hlen ⊢; omega) (by simpa using hsz) (fun k => ?_) ?_ ?_ h1.2
      · rw [hset k]
        by_cases hk : k = i
        · subst hk; simp only [if_true]
          exact ⟨fun hm => by
            rcases List.mem_append.1 hm with h2 | h2
            · exact absurd h2 hnotin
            · exact absurd (by simpa using h2) hiz, fun hm => by simp at hm⟩
        · rw [if_neg hk, ← hmem k]
          simp [hk]
      · refine List.pairwise_append.2 ⟨List.pairwise_append.2 ⟨hs.1, (List.pairwise_cons.1 hs.2.1).2, fun x hx y hy => hs.2.2 x hx y (List.mem_cons_of_mem _ hy)⟩, List.pairwise_singleton _ _, fun x hx y hy => ?_⟩
        obtain rfl : y = z := by simpa using hy
        refine hltz x ?_
        rcases List.mem_append.1 hx with h2 | h2
        · simp [h2]
        · simp [h2]
      · intro k ok hok hlk e he hb
        rw [hset] at hlk ⊢
        by_cases hei : e.on = i
        · rw [if_pos hei]
        · rw [if_neg hei]
          by_cases hk : k = i
          · subst hk
            have : ok = o := Option.some.inj (hok.symm.trans ho)
            subst this
            exact hall e he hb
          · rw [if_neg hk] at hlk
            exact hcl k ok hok hlk e he hb
theorem to_run_l {oz : Oper} {K : Act → World → Prop} (hst : static P ops = true) (hsd : steady H ops = true) :
    ∀ (l : List Oper) (i : Nat) (a : Act) (w : World), l ++ [oz] = ops.toList.drop i → SF F w → segl P ops F (fun a w => shapes P ops a = true ∧ heldAddrs ops H a = F.map (fun q => some q.1) ∧ heldFits P ops H F a = true ∧ K a w) (l ++ [oz]) a w →
      Run P ops H F (List.range' i l.length) (fun a w => Step P ops oz K a w) a w := by
  intro l
  induction l with
  | nil =>
    intro i a w _ _ h
    have h1 := step_of_one h
    rw [if_neg (by simp)] at h1
    exact h1.mono fun a1 v w1 _ h2 => h2.2.2.2
  | cons o l ih =>
    intro i a w hl hsf h
    have ho : ops[i]? = some o := by
      have := congrArg (·[0]?) hl
      simpa using this.symm
    have hl' : l ++ [oz] = ops.toList.drop (i + 1) := by
      have := congrArg List.tail hl
      simpa [List.tail_drop] using this
    have hmem : o ∈ ops.toList := List.mem_of_getElem? (by simpa using ho : ops.toList[i]? = some o)
    have hcal : Cal2 P ops H F o a := by
      cases hn : wants2 H o with
      | false =>
        unfold wants2 at hn
        rw [Bool.or_eq_false_iff] at hn
        exact ⟨cal_static hst hmem hn.1 a, fun hh => by rw [hn.2] at hh; cases hh⟩
      | true =>
        obtain ⟨a', w', ⟨hsh, hha, hft, _⟩, hag⟩ := segl_out _ _ _ h
        have hlook : ∀ t ∈ o.looksAt ops, a'.tmps[t]? = a.tmps[t]? := fun t ht => hag t fun o' ho' hd => by
          have h1 := all_zip hsd ho
          simp only [hn, Bool.not_true, Bool.false_or] at h1
          have ho'' : o' ∈ ops.toList.drop i := by rw [← hl]; exact ho'
          obtain ⟨k, hk⟩ := List.mem_iff_getElem?.1 ho''
          rw [List.getElem?_drop] at hk
          have h2 := all_zip (p := fun (o', k) => decide (k < i) || (match o'.dst with | some d => !(o.looksAt ops).contains d | none => true)) h1 (i := i + k) (o := o') (by simpa using hk)
          simp [hd] at h2
          rcases h2 with h2 | h2
          · omega
          · exact h2 ht
        have hw : Region.wanted o (yielded ops a'.tmps) = Region.wanted o (yielded ops a.tmps) := by
          unfold Region.wanted
          cases hg : o.guard with
          | none => rfl
          | some gw =>
            obtain ⟨g, want⟩ := gw
            have : yielded ops a'.tmps g = yielded ops a.tmps g := by
              unfold yielded
              cases ht : (ops[g]?).bind (·.dst) with
              | none => rfl
              | some t =>
                have := hlook t (List.mem_append_right _ (by simp [hg, ht]))
                simp [this]
            simp only [this]
        have hag2 : Agree (ops := ops) o a' a := Agree.symm ⟨fun x hx => by
          cases x with
          | tmp t =>
            have := hlook t (List.mem_append_left _ (List.mem_filterMap.2 ⟨.tmp t, by simpa using hx, rfl⟩))
            simp [Act.eval, this]
          | _ => rfl, hw⟩
        refine hag2.cal2 ⟨?_, fun hh hwa => ?_⟩
        · cases hne : needs o with
          | false => exact cal_static hst hmem hne a'
          | true =>
            intro hk hwa
            have := List.all_eq_true.1 hsh o hmem
            unfold Wants at hwa
            simpa [hne, hwa] using this
        · have hin : o ∈ ops.toList.filter (fun o => heldB H o && Region.wanted o (yielded ops a'.tmps)) := List.mem_filter.2 ⟨hmem, by unfold Wants at hwa; simp [hh, hwa]⟩
          have hha2 : (ops.toList.filter (fun o => heldB H o && Region.wanted o (yielded ops a'.tmps))).map (fun o => addrOf a'.eval o) = F.map (fun q => some q.1) := by
            rw [← hha]
            unfold heldAddrs
            induction ops.toList with
            | nil => rfl
            | cons x l ih =>
              rw [List.filterMap_cons, List.filter_cons]
              by_cases hx : (heldB H x && Region.wanted x (yielded ops a'.tmps)) = true
              · rw [if_pos hx, if_pos hx, List.map_cons, ih]
              · rw [if_neg hx, if_neg hx, ih]
          obtain ⟨k, hk⟩ := List.mem_iff_getElem?.1 hin
          have hk2 := congrArg (·[k]?) hha2
          simp only [List.getElem?_map, hk, Option.map_some] at hk2
          cases hq : F[k]? with
          | none => rw [hq] at hk2; cases hk2
          | some q =>
            rw [hq] at hk2
            have he : addrOf a'.eval o = some q.1 := by simpa using hk2
            refine ⟨q, List.mem_of_getElem? hq, he, ?_⟩
            have hz : (o, q) ∈ (ops.toList.filter (fun o => heldB H o && Region.wanted o (yielded ops a'.tmps))).zip F := List.mem_of_getElem? (i := k) (by rw [List.getElem?_zip_eq_some]; exact ⟨hk, hq⟩)
            exact List.all_eq_true.1 hft (o, q) hz
    simp only [List.length_cons, List.range'_succ, Run, ho]
    exact ⟨hsf, hcal, (segl_step hsf hcal.1 h).mono fun a1 v w1 _ h1 => ⟨h1.1 (by simp), ih (i + 1) _ _ hl' (h1.1 (by simp)) h1.2⟩⟩

theorem region_of_l {id : Nat} {Q : Exit → Act → World → Prop} {a : Act} {w : World} (hm : P.follows .mixedOrders = true) (hc : check P H ops = true) (hla : lastB ops = true) (hs : SF F w.drew)
    (h : segl P ops F (fun a w => shapes P ops a = true ∧ heldAddrs ops H a = F.map (fun q => some q.1) ∧ heldFits P ops H F a = true ∧ Q .normal a w) ops.toList a w.drew) : (Code.region id ops true).wp P Q a w := by
  unfold check at hc
  simp only [Bool.and_eq_true] at hc
  obtain ⟨⟨⟨⟨hl, hj⟩, hu⟩, hst⟩, hsd⟩ := hc
  unfold lastB at hla
  simp only [Bool.and_eq_true, decide_eq_true_eq, List.all_eq_true, List.mem_range] at hla
  obtain ⟨h0, hlast⟩ := hla
  refine wp_region_any hm ?_
  have hzo : ops[ops.size - 1]? = some ops[ops.size - 1] := Array.getElem?_eq_getElem (by omega)
  have hsplit : ops.toList.dropLast ++ [ops[ops.size - 1]] = ops.toList := by
    have hne : ops.toList ≠ [] := by intro e; have := congrArg List.length e; rw [Array.length_toList, List.length_nil] at this; omega
    have := List.dropLast_concat_getLast hne
    rw [List.getLast_eq_getElem] at this
    simpa using this
  have hlen : ops.toList.dropLast.length = ops.size - 1 := by simp
  have hr := to_run_l (P := P) (oz := ops[ops.size - 1]) (K := fun a w => Q .normal a w) hst hsd ops.toList.dropLast 0 a w.drew (by rw [hsplit]; simp) hs (by rw [hsplit]; exact h)
  rw [hlen] at hr
  have hg : ∀ i, (Array.replicate ops.size false).getD i false = false := fun i => by
    rw [Array.getD_eq_getD_getElem?, Array.getElem?_replicate]; split <;> rfl
  have hmo := main_order_l (F := F) hzo (by omega) hlast hl hj hu (fun i o ho => by
    have hmem : o ∈ ops.toList := List.mem_of_getElem? (by simpa using ho : ops.toList[i]? = some o)
    have := List.all_eq_true.1 hst o hmem
    simp only [Bool.and_eq_true] at this
    exact this.1) (ops.size - 1) (Array.replicate ops.size false) (List.range' 0 (ops.size - 1)) a w.drew (by simp) (by simp) (fun i => by
      rw [hg]
      have e : i ∈ List.range' 0 (ops.size - 1) ↔ i < ops.size - 1 := by simp [List.mem_range']
      rw [List.mem_append, e, List.mem_singleton]
      constructor
      · intro h; exact ⟨by omega, rfl⟩
      · rintro ⟨h, _⟩; omega) (by
      refine List.pairwise_append.2 ⟨List.pairwise_lt_range', List.pairwise_singleton _ _, fun x hx y hy => ?_⟩
      obtain rfl : y = ops.size - 1 := by simpa using hy
      simp [List.mem_range'] at hx
      omega) (fun i o ho hl => by rw [hg] at hl; exact absurd hl (by decide)) hr
  rw [show ops.size - 1 + 1 = ops.size by omega] at hmo
  exact hmo
theorem segl_at {K : Act → World → Prop} : ∀ (n : Nat) (l : List Oper) (a : Act) (w : World), cutOk n l = true → decide (n + 1 < l.length) = true →
    wpList P ops (Only fun a w => SF F w ∧ segl P ops F K (l.drop (n + 1)) a w) (l.take (n + 1)) a w → segl P ops F K l a w := by
  intro n
  induction n with
  | zero =>
    intro l a w hc hn h
    cases l with
    | nil => cases hc
    | cons o l =>
      unfold segl
      have hl : l.isEmpty = false := by cases l <;> simp_all
      rw [hl, if_pos (show (effB o && !false) = true by simp; exact hc)]
      exact h
  | succ n ih =>
    intro l a w hc hn h
    cases l with
    | nil => cases hc
    | cons o l =>
      simp only [cutOk, Bool.and_eq_true, Bool.not_eq_true'] at hc
      unfold segl
      rw [if_neg (by rw [hc.1]; simp)]
      exact one_of_step ((step_of_list h).mono fun a1 v w1 _ h1 => ih l _ _ hc.2 (by simpa using hn) h1)
theorem segl_last {K : Act → World → Prop} : ∀ (n : Nat) (l : List Oper) (a : Act) (w : World), cutOk n l = true → n + 1 = l.length →
    wpList P ops (Only K) l a w → segl P ops F K l a w := by
  intro n
  induction n with
  | zero =>
    intro l a w hc hn h
    cases l with
    | nil => cases hc
    | cons o l =>
      obtain rfl : l = [] := by simpa using hn
      unfold segl
      rw [if_neg (by simp)]
      exact h
  | succ n ih =>
    intro l a w hc hn h
    cases l with
    | nil => cases hc
    | cons o l =>
      simp only [cutOk, Bool.and_eq_true, Bool.not_eq_true'] at hc
      unfold segl
      rw [if_neg (by rw [hc.1]; simp)]
      exact one_of_step ((step_of_list h).mono fun a1 v w1 _ h1 => ih l _ _ hc.2 (by simpa using hn) h1)
/-- The law with cells that are held; the last operation may write into them. -/
theorem region_held_l (H : List Nat) (F : List (Addr × Value)) {id : Nat} {Q : Exit → Act → World → Prop} {a : Act} {w : World} (hm : P.follows .mixedOrders = true) (hc : check P H ops = true) (hla : lastB ops = true) (hs : SF F w)
    (h : segl P ops F (fun a w => shapes P ops a = true ∧ heldAddrs ops H a = F.map (fun q => some q.1) ∧ heldFits P ops H F a = true ∧ Q .normal a w) ops.toList a w.drew) : (Code.region id ops true).wp P Q a w :=
  region_of_l hm hc hla hs h
end
end Go.Proofs.YtldkiddoajlohaaGreatDoor.Canon

/- Chapter 12: noughts on top, and a 0. -/
namespace Go.Proofs.YtldkiddoajlohaaGreatDoor
open Go.RowKit

theorem val_zeros (xs : List Int) (k : Nat) : val B64 (xs ++ List.replicate k 0) = val B64 xs := by
  rw [val_append, val_replicate, Nat.mul_zero, Nat.add_zero]
theorem trimZ_ext {xs ys : List Int} (hx : Ws xs) (hy : Ws ys) (h : val B64 xs = val B64 ys) : trimZ xs = trimZ ys :=
  dg_ext (B := B64) (by decide) (trimZ_dg hx.dg) (trimZ_dg hy.dg) (nz_trimZ _) (nz_trimZ _) (by rw [val_trimZ, val_trimZ]; exact h)
theorem copy_c (w : World) (v : Value) (xs : List Int) (h : Sl w v xs) (hl : xs.length ≤ 1000000) :
    Calls Tryz.prog 37 #[v] w fun e w' => ∃ x, e = .returned x ∧ Own w' w.heap.size x xs ∧ w.grownBy w' none := by
  have HS := Lib.hid h
  have HL := Lib.hid hl
  obtain ⟨A, c, rfl, _, _⟩ := h.form
  obtain ⟨n, hn⟩ : ∃ n, n = xs.length := ⟨_, rfl⟩
  rw [← hn] at HS ⊢
  clear h hl hn
  go_enter Tryz.func37, Tryz.ntmps37
  go_wp2_with (at_builtin; refine own_append_sl 29 (by kernel_rfl) (.const (.slice none 0 0)) (.tmp 3) rfl rfl _ [] rfl (own_nil _ _) _ xs rfl HS.out (by have := HL.out; show 0 + _ ≤ _; omega) (Nat.le_refl _) ?_; intro v1 w1 ow1 g1)
  go_ret
  exact ⟨_, rfl, ow1, g1⟩
theorem sf_eng (W : World) (k0 k1 k2 k3 km : Nat) (h : Eng W k0 k1 k2 k3 km) :
    Canon.SF [((⟨k0, 0, none⟩ : Addr), .pointer (some ⟨k1, 0, none⟩)), (⟨k1, 0, none⟩, .pointer (some ⟨k2, 0, none⟩)), (⟨k2, 0, none⟩, .pointer (some ⟨k3, 0, none⟩)), (⟨k3, 0, none⟩, .pointer (some ⟨km, 0, none⟩)),
      (⟨k0, 0, none⟩, .pointer (some ⟨k1, 0, none⟩)), (⟨k1, 0, none⟩, .pointer (some ⟨k2, 0, none⟩)), (⟨k2, 0, none⟩, .pointer (some ⟨k3, 0, none⟩)), (⟨k3, 0, none⟩, .pointer (some ⟨km, 0, none⟩))] W :=
  Canon.sf_cons h.h0 (Canon.sf_cons h.h1 (Canon.sf_cons h.h2 (Canon.sf_cons h.h3 (Canon.sf_cons h.h0 (Canon.sf_cons h.h1 (Canon.sf_cons h.h2 (Canon.sf_cons h.h3 (Canon.sf_nil _))))))))
set_option maxRecDepth 100000 in
set_option maxHeartbeats 4000000 in
theorem MulNoughts_walk (t : Tb) (va : Value) (al0 : List Int) (vb : Value) (bl0 : List Int) (n0 m0 : Int) (w : World) (ha : Sl w va al0) (hb : Sl w vb bl0) (_hn : -9223372036854775808 ≤ n0 ∧ n0 ≤ 9223372036854775807) (_hm : -9223372036854775808 ≤ m0 ∧ m0 ≤ 9223372036854775807) (hd : Db w) :
    Calls Tryz.prog 8 #[t.v, va, vb, .int .i64 n0, .int .i64 m0] w fun e w' => e = .returned (.bool true) ∧ w.grownBy w' none := by
  have C0 := cs_new w #[.int .i64 t.eb, .int .i64 t.et, .int .i64 t.en, .int .i64 t.ed, .int .i64 t.er, .int .i64 t.el, .int .i64 t.ex, .int .i64 t.ep, .int .i64 t.ek, .int .i64 t.es, .int .i64 t.ee] 23
  have hg := gb_alloc (gb_refl w none) (Obj.cells #[.int .i64 t.eb, .int .i64 t.et, .int .i64 t.en, .int .i64 t.ed, .int .i64 t.er, .int .i64 t.el, .int .i64 t.ex, .int .i64 t.ep, .int .i64 t.ek, .int .i64 t.es, .int .i64 t.ee] 23)
  have HG := Lib.hid hg
  have HC0 := Lib.hid C0
  obtain ⟨k, hk⟩ : ∃ k : Nat, n0 % 50 = (k : Int) := ⟨(n0 % 50).toNat, by omega⟩
  obtain ⟨l, hl⟩ : ∃ k : Nat, m0 % 50 = (k : Int) := ⟨(m0 % 50).toNat, by omega⟩
  have bk : k < 50 := by omega
  have bl : l < 50 := by omega
  have WN : ∀ w, Calls Tryz.prog 38 #[.int .i64 n0, .int .i64 50] w fun e w' => e = .returned (.int .i64 k) ∧ w' = w := fun w => by
    have := within_c n0 50 (by decide) (by decide) w
    rw [hk] at this; exact this
  have WM : ∀ w, Calls Tryz.prog 38 #[.int .i64 m0, .int .i64 50] w fun e w' => e = .returned (.int .i64 l) ∧ w' = w := fun w => by
    have := within_c m0 50 (by decide) (by decide) w
    rw [hl] at this; exact this
  have HWN := Lib.hid WN
  have HWM := Lib.hid WM
  have BKL : Hid (k < 50 ∧ l < 50) := Lib.hid ⟨bk, bl⟩
  have CA := Lib.hid (fun w1 (g : w.grownBy w1 none) => cut_c w1 va al0 40 (by decide) (ha.grown0 g))
  have CB := Lib.hid (fun w1 (g : w.grownBy w1 none) => cut_c w1 vb bl0 40 (by decide) (hb.grown0 g))
  obtain ⟨A, ca, rfl, _, _⟩ := ha.form
  obtain ⟨B, cb, rfl, _, _⟩ := hb.form
  have HD := Lib.hid hd
  clear ha hb hd C0 hg hk hl bk bl WN WM _hn _hm
  go_enter Tryz.func8, Tryz.ntmps8
  go_wp2_with fail
  refine (CA.out _ HG.out).mono ?_
  rintro e w1 ⟨ua, rfl, ha, hw1⟩
  rw [← hw1] at HG HC0 ha
  clear hw1
  go_wp2_with fail
  refine (CB.out _ HG.out).mono ?_
  rintro e w2 ⟨ub, rfl, hb, hw1⟩
  subst hw1
  obtain ⟨al, hal⟩ : ∃ l, l = al0.take 40 := ⟨_, rfl⟩
  obtain ⟨bl, hbl⟩ : ∃ l, l = bl0.take 40 := ⟨_, rfl⟩
  rw [← hal] at ha
  rw [← hbl] at hb
  have ll : Hid (al.length ≤ 40 ∧ bl.length ≤ 40) := Lib.hid (by rw [hal, hbl, List.length_take, List.length_take]; omega)
  clear hal hbl CA CB
  obtain ⟨A', ca', rfl, hca, _⟩ := ha.form
  obtain ⟨B', cb', rfl, hcb, _⟩ := hb.form
  have HA := Lib.hid ha
  have HB := Lib.hid hb
  have HD2 := Lib.hid (HD.out.grown0 HG.out)
  have NW := Lib.hid (fun w => En.new w t)
  obtain ⟨n, hn⟩ : ∃ n, n = al.length := ⟨_, rfl⟩
  obtain ⟨m, hm⟩ : ∃ n, n = bl.length := ⟨_, rfl⟩
  rw [← hn] at HA hca ⊢
  rw [← hm] at HB hcb ⊢
  clear HD ha hb hn hm
  have U := Lib.hid t.clamp_ok
  have HSF : Hid (∀ W, Cs W w.heap.size t.vs → Canon.SF [(⟨w.heap.size, 0, none⟩, t.v)] W) := Lib.hid (fun W C => Canon.sf_agg (fun j u h => C.at0 j h) (Canon.sf_nil _))
  go_wp2
  refine Canon.region_held [22] _ (by kernel_rfl) (by kernel_rfl) (HSF.out _ HC0.out) ?_
  have HC0 := Lib.hid HC0.out.drew
  have G2 := Lib.hid (gb_drew (gb_refl w2 none))
  obtain ⟨wd, hwd⟩ : ∃ W, W = w2.drew := ⟨_, rfl⟩
  rw [← hwd] at HC0 G2 ⊢
  clear hwd
  refine Canon.segs_at 1 _ _ _ (by kernel_rfl) ?_
  simp only [List.take_succ_cons, List.take_zero, List.drop_succ_cons, List.drop_zero]
  have c0 := HC0.out.cell 0 rfl
  have c1 := HC0.out.cell 1 rfl
  have c2 := HC0.out.cell 2 rfl
  have c3 := HC0.out.cell 3 rfl
  have c4 := HC0.out.cell 4 rfl
  have c5 := HC0.out.cell 5 rfl
  have c6 := HC0.out.cell 6 rfl
  have c7 := HC0.out.cell 7 rfl
  have c8 := HC0.out.cell 8 rfl
  have c9 := HC0.out.cell 9 rfl
  have c10 := HC0.out.cell 10 rfl
  go_wp2_with fail
  refine (NW.out _).mono ?_
  rintro e w3 ⟨g0, g1, g2, g3, gm, rfl, en, hgm, g3'⟩
  clear c0 c1 c2 c3 c4 c5 c6 c7 c8 c9 c10
  have E3 := Lib.hid en
  have G3 := Lib.hid (gb_trans G2.out g3')
  have HC3 := Lib.hid (HC0.out.grown0 g3')
  have HGM : Hid (w2.heap.size ≤ gm) := Lib.hid (by have := G2.out.size; omega)
  clear en g3' hgm HC0 G2
  go_wp2
  refine ⟨HSF.out _ HC3.out, ?_⟩
  refine Canon.segs_at 1 _ _ _ (by kernel_rfl) ?_
  simp only [List.take_succ_cons, List.take_zero, List.drop_succ_cons, List.drop_zero]
  have c0 := HC3.out.cell 0 rfl
  have c1 := HC3.out.cell 1 rfl
  have c2 := HC3.out.cell 2 rfl
  have c3 := HC3.out.cell 3 rfl
  have c4 := HC3.out.cell 4 rfl
  have c5 := HC3.out.cell 5 rfl
  have c6 := HC3.out.cell 6 rfl
  have c7 := HC3.out.cell 7 rfl
  have c8 := HC3.out.cell 8 rfl
  have c9 := HC3.out.cell 9 rfl
  have c10 := HC3.out.cell 10 rfl
  go_wp2_with fail
  refine (NW.out _).mono ?_
  rintro e w4 ⟨k0, k1, k2, k3, km, rfl, fn, hkm, g4⟩
  clear c0 c1 c2 c3 c4 c5 c6 c7 c8 c9 c10
  have E4 := Lib.hid (E3.out.grown0 g4)
  have F4 := Lib.hid fn
  have G4 := Lib.hid (gb_trans G3.out g4)
  have HKM : Hid (w2.heap.size ≤ km ∧ gm ≠ km) := Lib.hid (by
    have := E3.out.lt; have := G3.out.size; omega)
  have HC4 := Lib.hid (HC3.out.grown0 g4)
  clear fn g4 hkm HC3 NW E3 G3
  go_wp2
  refine ⟨HSF.out _ HC4.out, ?_⟩
  refine Canon.segs_end _ _ _ (by kernel_rfl) ?_
  go_wp2
  refine ⟨by kernel_rfl, by kernel_rfl, by kernel_rfl, ?_⟩
  clear HSF HC4
  have CP := Lib.hid (copy_c w4 _ al (HA.out.grown0 G4.out) (by have := ll.out; omega))
  go_wp2_with fail
  refine (CP.out).mono ?_
  rintro e w5 ⟨x5, rfl, o5, g5⟩
  have O5 := Lib.hid o5
  have G5 := Lib.hid (gb_trans G4.out g5)
  have F5 := Lib.hid g5
  clear o5 g5 CP
  go_wp2_with fail
  refine (HWN.out _).mono ?_
  rintro e w5' ⟨rfl, hw⟩
  rw [hw]
  clear hw HWN
  go_wp2_with (at_builtin; refine own_zeros 29 3 (by kernel_rfl) (by kernel_rfl) (.tmp 31) (.tmp 33) rfl rfl _ al rfl O5.out k rfl (by have := ll.out; have := BKL.out; omega) F5.out.size ?_; intro x6 w6 ow6 g6)
  have O6 := Lib.hid ow6
  have G6 := Lib.hid (gb_new G5.out g6 (fun b hb => by have := (O5.out.lt b hb).1; have := G4.out.size; omega))
  have F6 := Lib.hid (gb_new F5.out g6 (fun b hb => (O5.out.lt b hb).1))
  clear ow6 g6 O5 G5 F5
  have CP := Lib.hid (copy_c w6 _ bl (HB.out.grown0 G6.out) (by have := ll.out; omega))
  go_wp2_with fail
  refine (CP.out).mono ?_
  rintro e w7 ⟨y5, rfl, o7, g7⟩
  have O7 := Lib.hid o7
  have G7 := Lib.hid (gb_trans G6.out g7)
  have O6' := Lib.hid O6.out
  have O6 := Lib.hid (O6.out.grown0 g7)
  have F7 := Lib.hid g7
  clear o7 g7 CP
  go_wp2_with fail
  refine (HWM.out _).mono ?_
  rintro e w7' ⟨rfl, hw⟩
  rw [hw]
  clear hw
  go_wp2_with (at_builtin; refine own_zeros 29 3 (by kernel_rfl) (by kernel_rfl) (.tmp 36) (.tmp 38) rfl rfl _ bl rfl O7.out l rfl (by have := ll.out; have := BKL.out; omega) F7.out.size ?_; intro y8 w8 ow8 g8)
  have g8 : w7.grownBy w8 y5.ownBlock := g8
  have O8 := Lib.hid ow8
  have G8 := Lib.hid (gb_new G7.out g8 (fun b hb => by have := (O7.out.lt b hb).1; have := G6.out.size; omega))
  have F8 := Lib.hid (gb_trans F6.out (gb_new F7.out g8 (fun b hb => (O7.out.lt b hb).1)))
  have O6 := Lib.hid (O6.out.grown g8 (by
    cases h : y5.ownBlock with
    | none => cases x6.ownBlock <;> simp
    | some b =>
      cases h2 : x6.ownBlock with
      | none => simp
      | some b2 =>
        have h3 := (O7.out.lt b h).1
        have h4 := (O6'.out.lt b2 h2).2
        right
        intro e
        have := Option.some.inj e
        omega))
  have SX := O6.out.sl
  have SY := O8.out.sl
  obtain ⟨xl, hxl⟩ : ∃ z, z = al ++ List.replicate k 0 := ⟨_, rfl⟩
  obtain ⟨yl, hyl⟩ : ∃ z, z = bl ++ List.replicate l 0 := ⟨_, rfl⟩
  have hvx : val B64 xl = val B64 al := by rw [hxl]; exact val_zeros _ _
  have hvy : val B64 yl = val B64 bl := by rw [hyl]; exact val_zeros _ _
  rw [← hxl] at SX
  rw [← hyl] at SY
  have htx : trimZ xl = trimZ al := trimZ_ext SX.ws HA.out.ws hvx
  have hty : trimZ yl = trimZ bl := trimZ_ext SY.ws HB.out.ws hvy
  have LX : Hid (xl.length ≤ 90 ∧ yl.length ≤ 90) := Lib.hid (by
    rw [hxl, hyl, List.length_append, List.length_append, List.length_replicate, List.length_replicate]
    have := ll.out; have := BKL.out; omega)
  have HSX := Lib.hid SX
  have HSY := Lib.hid SY
  have HVX := Lib.hid hvx
  have HVY := Lib.hid hvy
  have HTX := Lib.hid htx
  have HTY := Lib.hid hty
  have E8 := Lib.hid (E4.out.grown0 F8.out)
  have F8' := Lib.hid (F4.out.grown0 F8.out)
  clear hxl hyl hvx hvy htx hty SX SY ow8 g8 O6 O7 O8 G7 F7 E4 F4 F6 G6 O6'
  have LA := Lib.hid (val_lt (B := B64) HA.out.ws.dg)
  have LB := Lib.hid (val_lt (B := B64) HB.out.ws.dg)
  obtain ⟨VA, hVA⟩ : ∃ z, z = val B64 al := ⟨_, rfl⟩
  obtain ⟨VB, hVB⟩ : ∃ z, z = val B64 bl := ⟨_, rfl⟩
  obtain ⟨p, hp⟩ : ∃ p, p = (trimZ al).length := ⟨_, rfl⟩
  obtain ⟨q, hq⟩ : ∃ p, p = (trimZ bl).length := ⟨_, rfl⟩
  have HSF : Hid (∀ W, Eng W k0 k1 k2 k3 km → _) := Lib.hid (fun W => sf_eng W k0 k1 k2 k3 km)
  go_wp2
  refine Canon.region_held [70, 73, 76, 79, 115, 118, 121, 124] _ (by kernel_rfl) (by kernel_rfl) (HSF.out _ F8'.out.e) ?_
  have G8 := Lib.hid (gb_drew G8.out)
  have E8 := Lib.hid E8.out.drew
  have F8' := Lib.hid F8'.out.drew
  have HSX := Lib.hid (HSX.out.grown0 (gb_drew (gb_refl w8 none)))
  have HSY := Lib.hid (HSY.out.grown0 (gb_drew (gb_refl w8 none)))
  obtain ⟨wd, hwd⟩ : ∃ W, W = w8.drew := ⟨_, rfl⟩
  rw [← hwd] at G8 E8 F8' HSX HSY ⊢
  clear hwd
  refine Canon.segs_at 3 _ _ _ (by kernel_rfl) ?_
  simp only [List.append_eq, List.cons_append, List.nil_append, List.take_succ_cons, List.take_zero, List.drop_succ_cons, List.drop_zero]
  have N1 := E8.out.mul U.out (HD2.out.grown0 G8.out) (by decide) HSX.out HSY.out (E8.out.off HSX.out) (E8.out.off HSY.out) (by have := LX.out; omega)
  rw [HVX.out, HVY.out, HTX.out, HTY.out, ← hVA, ← hVB, ← hp, ← hq] at N1
  have cb1 := cost_lim U.out (n := p) (m := q) (by rw [hp, hq]; have := trimZ_len al; have := trimZ_len bl; have := ll.out; omega)
  have c0 : cost t.clamp p 0 = 0 := by
    have h : rt t.clamp p 0 = 0 := by unfold rt; rw [if_pos rfl]
    exact cost_0 (Nat.zero_le _) h
  have C0 := Lib.hid c0
  have sb1 : sq t.clamp p ≤ 10000000 := sq_lim U.out (by rw [hp]; have := trimZ_len al; have := ll.out; omega)
  obtain ⟨z, hz⟩ : ∃ z : Int, z = 0 + ((cost t.clamp p q : Nat) : Int) := ⟨_, rfl⟩
  have bz : Hid (z ≤ 10000000) := Lib.hid (by omega)
  obtain ⟨z2, hz2⟩ : ∃ z2 : Int, z2 = z + ((sq t.clamp p : Nat) : Int) := ⟨_, rfl⟩
  have bz2 : Hid (z2 ≤ 20000000) := Lib.hid (by have := bz.out; omega)
  rw [← hz] at N1
  have HN := Lib.hid N1
  have HZ := Lib.hid hz
  have HZ2 := Lib.hid hz2
  have HP := Lib.hid (And.intro hp hq)
  have HVA := Lib.hid (And.intro hVA hVB)
  rw [← hVA] at LA
  rw [← hVB] at LB
  clear N1 hz hz2 cb1 sb1 c0 hp hq hVA hVB
  go_wp2_with fail
  refine (HN.out).mono ?_
  rintro e w9 ⟨x9, c9, rfl, o9, en, g9⟩
  have G9 := Lib.hid (gb_new G8.out g9 (fun i hi => by cases hi; exact HGM.out))
  have E9 := Lib.hid en
  have F9 := Lib.hid (F8'.out.other E8.out (Ne.symm HKM.out.2) g9)
  have O9 := Lib.hid o9
  have HSX := Lib.hid (E8.out.sl HSX.out g9)
  have B8 : Hid (km < wd.heap.size) := Lib.hid F8'.out.lt
  clear o9 en g9 HN E8 F8'
  go_wp2
  refine ⟨HSF.out _ F9.out.e, ?_⟩
  refine Canon.segs_at 3 _ _ _ (by kernel_rfl) ?_
  simp only [List.take_succ_cons, List.take_zero, List.drop_succ_cons, List.drop_zero]
  have SA := HA.out.grown0 G9.out
  have SB := HB.out.grown0 G9.out
  have N1 := F9.out.mul U.out (HD2.out.grown0 G9.out) (by decide) SA SB (F9.out.off SA) (F9.out.off SB) (by have := ll.out; omega)
  rw [← HVA.out.1, ← HVA.out.2, ← HP.out.1, ← HP.out.2, ← HZ.out] at N1
  have HN := Lib.hid N1
  clear N1 SA SB
  go_wp2_with fail
  refine (HN.out).mono ?_
  rintro e w10 ⟨x10, c10, rfl, o10, en, g10⟩
  have G10 := Lib.hid (gb_new G9.out g10 (fun i hi => by cases hi; exact HKM.out.1))
  have F10 := Lib.hid en
  have E10 := Lib.hid (E9.out.other F9.out HKM.out.2 g10)
  have HSX := Lib.hid (F9.out.sl HSX.out g10)
  obtain ⟨zs, sz1, sz2, _, _⟩ := (O9.out.past B8.out g10).same o10
  have SM := Lib.hid (same_c w10 x9 x10 zs zs sz1 sz2)
  rw [decide_eq_true rfl] at SM
  clear o10 en g10 HN E9 F9 O9 sz1 sz2 B8
  go_wp2
  refine ⟨HSF.out _ F10.out.e, ?_⟩
  refine Canon.segs_at 0 _ _ _ (by kernel_rfl) ?_
  simp only [List.take_succ_cons, List.take_zero, List.drop_succ_cons, List.drop_zero]
  go_wp2_with fail
  refine (SM.out).mono ?_
  rintro e w11 ⟨rfl, g11⟩
  have G11 := Lib.hid (gb_trans G10.out g11)
  have E11 := Lib.hid (E10.out.grown0 g11)
  have F11 := Lib.hid (F10.out.grown0 g11)
  have HSX := Lib.hid (HSX.out.grown0 g11)
  clear g11 SM E10 F10
  go_wp2
  refine ⟨HSF.out _ F11.out.e, ?_⟩
  refine Canon.segs_at 17 _ _ _ (by kernel_rfl) ?_
  simp only [List.take_succ_cons, List.take_zero, List.drop_succ_cons, List.drop_zero]
  have h0 := E11.out.e.h0
  have h1 := E11.out.e.h1
  have h2 := E11.out.e.h2
  have h3 := E11.out.e.h3
  have MK := Lib.hid (muls_c w11 gm _ _ c9 E11.out.m)
  go_wp2_with fail
  refine (MK.out).mono ?_
  rintro e wx ⟨rfl, hw⟩
  rw [hw]
  clear hw MK h0 h1 h2 h3
  go_wp2
  refine ⟨HSF.out _ F11.out.e, ?_⟩
  refine Canon.segs_at 15 _ _ _ (by kernel_rfl) ?_
  simp only [List.take_succ_cons, List.take_zero, List.drop_succ_cons, List.drop_zero]
  have h0 := F11.out.e.h0
  have h1 := F11.out.e.h1
  have h2 := F11.out.e.h2
  have h3 := F11.out.e.h3
  have MK := Lib.hid (muls_c w11 km _ _ c10 F11.out.m)
  go_wp2_with fail
  refine (MK.out).mono ?_
  rintro e wx ⟨rfl, hw⟩
  rw [hw]
  clear hw MK h0 h1 h2 h3
  go_wp2
  refine ⟨HSF.out _ F11.out.e, ?_⟩
  refine Canon.segs_at 5 _ _ _ (by kernel_rfl) ?_
  simp only [List.take_succ_cons, List.take_zero, List.drop_succ_cons, List.drop_zero]
  have N1 := E11.out.sqr U.out (HD2.out.grown0 G11.out) (by have := bz.out; omega) HSX.out (E11.out.off HSX.out) (by have := LX.out; omega)
  rw [HVX.out, HTX.out, ← HVA.out.1, ← HP.out.1, ← HZ2.out] at N1
  have HN := Lib.hid N1
  clear N1
  go_wp2_with fail
  refine (HN.out).mono ?_
  rintro e w12 ⟨x12, c12, rfl, o12, en, g12⟩
  have G12 := Lib.hid (gb_new G11.out g12 (fun i hi => by cases hi; exact HGM.out))
  have E12 := Lib.hid en
  have F12 := Lib.hid (F11.out.other E11.out (Ne.symm HKM.out.2) g12)
  have O12 := Lib.hid o12
  have HSX := Lib.hid (E11.out.sl HSX.out g12)
  have B11 : Hid (km < w11.heap.size) := Lib.hid F11.out.lt
  clear o12 en g12 HN E11 F11
  go_wp2
  refine ⟨HSF.out _ F12.out.e, ?_⟩
  refine Canon.segs_at 2 _ _ _ (by kernel_rfl) ?_
  simp only [List.take_succ_cons, List.take_zero, List.drop_succ_cons, List.drop_zero]
  have SA := HA.out.grown0 G12.out
  have N1 := F12.out.sqr U.out (HD2.out.grown0 G12.out) (by have := bz.out; omega) SA (F12.out.off SA) (by have := ll.out; omega)
  rw [← HVA.out.1, ← HP.out.1, ← HZ2.out] at N1
  have HN := Lib.hid N1
  clear N1 SA
  go_wp2_with fail
  refine (HN.out).mono ?_
  rintro e w13 ⟨x13, c13, rfl, o13, en, g13⟩
  have G13 := Lib.hid (gb_new G12.out g13 (fun i hi => by cases hi; exact HKM.out.1))
  have F13 := Lib.hid en
  have E13 := Lib.hid (E12.out.other F12.out HKM.out.2 g13)
  have HSX := Lib.hid (F12.out.sl HSX.out g13)
  obtain ⟨zs2, sz1, sz2, _, _⟩ := (O12.out.past B11.out g13).same o13
  have SM := Lib.hid (same_c w13 x12 x13 zs2 zs2 sz1 sz2)
  rw [decide_eq_true rfl] at SM
  clear o13 en g13 HN E12 F12 O12 sz1 sz2 B11
  go_wp2
  refine ⟨HSF.out _ F13.out.e, ?_⟩
  refine Canon.segs_at 0 _ _ _ (by kernel_rfl) ?_
  simp only [List.take_succ_cons, List.take_zero, List.drop_succ_cons, List.drop_zero]
  go_wp2_with fail
  refine (SM.out).mono ?_
  rintro e w14 ⟨rfl, g14⟩
  have G14 := Lib.hid (gb_trans G13.out g14)
  have E14 := Lib.hid (E13.out.grown0 g14)
  have F14 := Lib.hid (F13.out.grown0 g14)
  have HSX := Lib.hid (HSX.out.grown0 g14)
  clear g14 SM E13 F13
  go_wp2
  refine ⟨HSF.out _ F14.out.e, ?_⟩
  refine Canon.segs_at 18 _ _ _ (by kernel_rfl) ?_
  simp only [List.take_succ_cons, List.take_zero, List.drop_succ_cons, List.drop_zero]
  have h0 := E14.out.e.h0
  have h1 := E14.out.e.h1
  have h2 := E14.out.e.h2
  have h3 := E14.out.e.h3
  have MK := Lib.hid (muls_c w14 gm _ _ c12 E14.out.m)
  go_wp2_with fail
  refine (MK.out).mono ?_
  rintro e wx ⟨rfl, hw⟩
  rw [hw]
  clear hw MK h0 h1 h2 h3
  go_wp2
  refine ⟨HSF.out _ F14.out.e, ?_⟩
  refine Canon.segs_at 15 _ _ _ (by kernel_rfl) ?_
  simp only [List.take_succ_cons, List.take_zero, List.drop_succ_cons, List.drop_zero]
  have h0 := F14.out.e.h0
  have h1 := F14.out.e.h1
  have h2 := F14.out.e.h2
  have h3 := F14.out.e.h3
  have MK := Lib.hid (muls_c w14 km _ _ c13 F14.out.m)
  go_wp2_with fail
  refine (MK.out).mono ?_
  rintro e wx ⟨rfl, hw⟩
  rw [hw]
  clear hw MK h0 h1 h2 h3
  go_wp2
  refine ⟨HSF.out _ F14.out.e, ?_⟩
  refine Canon.segs_end _ _ _ (by kernel_rfl) ?_
  go_wp2
  refine ⟨by kernel_rfl, by kernel_rfl, by kernel_rfl, ?_⟩
  clear HSF F14
  have h0 := E14.out.e.h0
  have h1 := E14.out.e.h1
  have h2 := E14.out.e.h2
  have h3 := E14.out.e.h3
  have MK := Lib.hid (muls_c w14 gm _ _ c12 E14.out.m)
  go_wp2_with fail
  refine (MK.out).mono ?_
  rintro e wx ⟨rfl, hw⟩
  rw [hw]
  clear hw MK h0 h1 h2 h3
  go_wp2_with fail
  refine (HWM.out _).mono ?_
  rintro e wx ⟨rfl, hw⟩
  rw [hw]
  clear hw HWM
  have hl50 : l < 50 := BKL.out.2
  have mk := make64 29 (by kernel_rfl) l l (l : Int) (l : Int) rfl rfl (Nat.le_refl _) (by omega)
  have SZ := Lib.hid (own_made w14 w14.heap.size l l (Nat.le_refl _) (Nat.le_refl _) (by omega)).sl
  have GA := Lib.hid (gb_alloc (gb_refl w14 none) (Obj.cells (madeCells #[.int .u64 0] l) 79))
  have hz0 : trimZ (List.replicate l (0 : Int)) = [] := by
    have := trimZ_ext (xs := List.replicate l 0) (ys := []) SZ.out.ws ws_nil (by rw [val_replicate]; rfl)
    rw [this]; rfl
  have G15 := gb_trans G14.out GA.out
  have N1 := (E14.out.grown0 GA.out).mul U.out (HD2.out.grown0 G15) (by have := bz2.out; omega) (HSX.out.grown0 GA.out) SZ.out ((E14.out.grown0 GA.out).off (HSX.out.grown0 GA.out)) ((E14.out.grown0 GA.out).off SZ.out) (by rw [List.length_replicate]; have := LX.out; omega)
  rw [HTX.out, hz0, ← HP.out.1, List.length_nil, C0.out, val_replicate, Nat.mul_zero, show z2 + ((0 : Nat) : Int) = z2 by omega] at N1
  have HN := Lib.hid N1
  have HG15 := Lib.hid G15
  clear N1 hz0 G15 hl50
  go_wp2_with fail
  refine (HN.out).mono ?_
  rintro e w15 ⟨x15, c15, rfl, o15, en, g15⟩
  have G15 := Lib.hid (gb_new HG15.out g15 (fun i hi => by cases hi; exact HGM.out))
  have E15 := Lib.hid en
  obtain ⟨zs3, s15, l15, _⟩ := o15.get (N := 0) (by decide)
  obtain rfl := List.eq_nil_of_length_eq_zero (Nat.le_zero.1 l15)
  obtain ⟨A15, d15, rfl, _, _⟩ := s15.form
  clear o15 en g15 HN s15 l15 mk SZ GA HG15 E14
  have sq00 : sq t.clamp 0 = 0 := sq_0 (by unfold rt; rw [if_pos rfl])
  have N1 := E15.out.sqr U.out (HD2.out.grown0 G15.out) (by have := bz2.out; omega) (sl_none w15) (.inl rfl) (by decide)
  rw [trimZ_nil, List.length_nil, sq00, show z2 + ((0 : Nat) : Int) = z2 by omega] at N1
  have HN := Lib.hid N1
  clear N1 sq00
  go_wp2_with fail
  refine (HN.out).mono ?_
  rintro e w16 ⟨x16, c16, rfl, o16, en, g16⟩
  have G16 := Lib.hid (gb_new G15.out g16 (fun i hi => by cases hi; exact HGM.out))
  have E16 := Lib.hid en
  obtain ⟨zs4, s16, l16, _⟩ := o16.get (N := 0) (by decide)
  obtain rfl := List.eq_nil_of_length_eq_zero (Nat.le_zero.1 l16)
  obtain ⟨A16, d16, rfl, _, _⟩ := s16.form
  clear o16 en g16 HN s16 l16 E15
  have h0 := E16.out.e.h0
  have h1 := E16.out.e.h1
  have h2 := E16.out.e.h2
  have h3 := E16.out.e.h3
  have MK := Lib.hid (muls_c w16 gm _ _ c16 E16.out.m)
  go_wp2_with fail
  refine (MK.out).mono ?_
  rintro e wx ⟨rfl, hw⟩
  rw [hw]
  clear hw MK h0 h1 h2 h3
  have WK := Lib.hid (wakes12_c w16 (HD2.out.grown0 G16.out))
  go_wp2_with fail
  refine (WK.out).mono ?_
  rintro e w17 ⟨rfl, g17⟩
  go_wp2
  go_ret
  exact ⟨rfl, gb_trans HG.out (gb_trans G16.out g17)⟩
end Go.Proofs.YtldkiddoajlohaaGreatDoor

/- Arguments: a table; rows of rows. -/
namespace Go.Proofs.YtldkiddoajlohaaGreatDoor
open Go.RowKit Go.Deep Go.ChangeShapes Go.WideShapes

theorem tab_cell {H : Type} {enc : TypeId × Value → H} {w : World} {base : Nat} {sp : Nat → Bool} {held : Bool} {cs : List Value} {xs : List (DataW H × List MemPlace)} {n : Nat} (hl : cs.length = 11) (hxs : xs.length = 11) (i : Nat) (hi : i < 11)
    (g : DataW.trod enc Tryz.prog w base sp held n 3 ((cs.drop i).take (Tryz.prog.cellsOf 3)) = xs[i]?) : ∃ z : Int, cs.getD i undef = .int .i64 z := by
  rw [show Tryz.prog.cellsOf 3 = 1 by kernel_rfl, take1_drop cs i undef (by omega), List.getElem?_eq_getElem (by omega)] at g
  obtain ⟨z, hz, _⟩ := DataW.trod_int Tryz.underlying3 g
  exact ⟨z, by simpa using hz⟩
set_option maxRecDepth 100000 in
theorem open_tab {H : Type} {enc : TypeId × Value → H} {w : World} {base b0 : Nat} {sp : Nat → Bool} {held : Bool} {r : Reach} {v : Value} {d : DataW H} {ps : List MemPlace} (hval : Value.okWide Tryz.prog w r b0 23 v)
    (hd : DataW.Trod enc Tryz.prog w base sp held 23 v d ps) : ∃ t : Tb, v = t.v := by
  obtain ⟨cs, rfl, hsz⟩ := okWide_struct Tryz.underlying23 hval
  obtain ⟨fuel, hf⟩ := hd
  obtain ⟨xs, n, _, _, hl, hxl, hx⟩ := DataW.trod_struct Tryz.underlying23 hf
  rw [show Tryz.prog.cellsOf 23 = 11 by kernel_rfl] at hsz hl
  have hl' : cs.toList.length = 11 := hl
  have hxl' : xs.length = 11 := hxl
  obtain ⟨z0, h0⟩ := tab_cell hl' hxl' 0 (by decide) (hx 0 _ rfl)
  obtain ⟨z1, h1⟩ := tab_cell hl' hxl' 1 (by decide) (hx 1 _ rfl)
  obtain ⟨z2, h2⟩ := tab_cell hl' hxl' 2 (by decide) (hx 2 _ rfl)
  obtain ⟨z3, h3⟩ := tab_cell hl' hxl' 3 (by decide) (hx 3 _ rfl)
  obtain ⟨z4, h4⟩ := tab_cell hl' hxl' 4 (by decide) (hx 4 _ rfl)
  obtain ⟨z5, h5⟩ := tab_cell hl' hxl' 5 (by decide) (hx 5 _ rfl)
  obtain ⟨z6, h6⟩ := tab_cell hl' hxl' 6 (by decide) (hx 6 _ rfl)
  obtain ⟨z7, h7⟩ := tab_cell hl' hxl' 7 (by decide) (hx 7 _ rfl)
  obtain ⟨z8, h8⟩ := tab_cell hl' hxl' 8 (by decide) (hx 8 _ rfl)
  obtain ⟨z9, h9⟩ := tab_cell hl' hxl' 9 (by decide) (hx 9 _ rfl)
  obtain ⟨z10, h10⟩ := tab_cell hl' hxl' 10 (by decide) (hx 10 _ rfl)
  refine ⟨⟨z0, z1, z2, z3, z4, z5, z6, z7, z8, z9, z10⟩, ?_⟩
  obtain ⟨l⟩ := cs
  have hl11 : l.length = 11 := by simpa using hsz
  match l, hl11 with
  | [a0, a1, a2, a3, a4, a5, a6, a7, a8, a9, a10], _ =>
    obtain rfl : a0 = _ := h0
    obtain rfl : a1 = _ := h1
    obtain rfl : a2 = _ := h2
    obtain rfl : a3 = _ := h3
    obtain rfl : a4 = _ := h4
    obtain rfl : a5 = _ := h5
    obtain rfl : a6 = _ := h6
    obtain rfl : a7 = _ := h7
    obtain rfl : a8 = _ := h8
    obtain rfl : a9 = _ := h9
    obtain rfl : a10 = _ := h10
    rfl
end Go.Proofs.YtldkiddoajlohaaGreatDoor
