/- Contracts of the program's functions, and plain laws (Mul2, Mul3, Mul4, Cost, Mul5, DigQ, School2, Mul6, Mul7, Mul8, RTab1, RTab2), for every input that their premises let in. -/
import Derived.Test.YtldkiddoajlohaaGreatDoorV4
import Derived.Test.YtldkiddoajlohaaGreatDoorV3
import Derived.Test.YtldkiddoajlohaaGreatDoorV2
import Derived.Laws.Bits64b
/- Products in pieces. -/
namespace Go.Proofs.YtldkiddoajlohaaGreatDoor
open Go.RowKit

set_option maxRecDepth 100000 in
set_option maxHeartbeats 8000000 in
theorem pieces_c (w : World) (g0 gm fk : Nat) (a b d : Int) (c : Mc) (T : Nat → Option Value) (va vb : Value) (al bl : List Int) (k1 k2 : Nat)
    (hfk : fk = 45) (hm : Mt w gm a b c) (hT : c.T = T) (_hd : 0 ≤ d) (ha0 : a + ((pall (max al.length bl.length) (min al.length bl.length) k1 k2 : Nat) : Int) ≤ 1000000000000000) (ha : Sl w va al) (hb : Sl w vb bl) (hna : Off va gm) (hnb : Off vb gm) (hl : al.length ≤ 4096) (hl2 : bl.length ≤ 4096)
    (hx : 0 < min al.length bl.length)
    (i1 : InC w gm fk #[.pointer (some ⟨g0, 0, none⟩)] b T (min al.length bl.length) (min al.length bl.length) k1 d)
    (i2 : 0 < max al.length bl.length % min al.length bl.length → InC w gm fk #[.pointer (some ⟨g0, 0, none⟩)] b T (max al.length bl.length % min al.length bl.length) (min al.length bl.length) k2 d) :
    Calls Tryz.prog 69 #[.pointer (some ⟨g0, 0, none⟩), va, vb, .int .i64 ((min al.length bl.length : Nat) : Int)] w fun e w' => ∃ x c', e = .returned x ∧ Wo w' w.heap.size x (val B64 al * val B64 bl) ∧ Mt w' gm (a + ((pall (max al.length bl.length) (min al.length bl.length) k1 k2 : Nat) : Int)) b c' ∧
      (c'.T = T ∧ c.v ≤ c'.v ∧ (c'.v ≤ c.v ∨ c'.v ≤ b + d)) ∧ w.grownBy w' (some gm) := by
  have hgm : gm < w.heap.size := World.block_lt_of_cell? w _ hm.c0
  obtain ⟨A, ca, rfl, hca, _⟩ := ha.form
  obtain ⟨B, cb, rfl, hcb, _⟩ := hb.form
  have HGM := Lib.hid hgm
  have HM := Lib.hid hm
  have HT := Lib.hid hT
  have WA := Lib.hid ha.ws
  have WB := Lib.hid hb.ws
  obtain ⟨n, hn⟩ : ∃ n, n = al.length := ⟨_, rfl⟩
  obtain ⟨m, hm'⟩ : ∃ m, m = bl.length := ⟨_, rfl⟩
  rw [← hn, ← hm'] at hx i1 i2 ha0 ⊢
  rw [← hn] at ha hna hl hca
  rw [← hm'] at hb hnb hl2 hcb
  have HNL := Lib.hid hn
  have HML := Lib.hid hm'
  subst hfk
  clear hgm hm hT
  by_cases hlt0 : n < m
  · rw [Nat.min_eq_left (by omega)] at hx i1
    rw [Nat.min_eq_left (by omega), Nat.max_eq_right (by omega)] at i2 ha0 ⊢
    have R0 := Lib.hid (((Rw.nil w gm).add hb hnb).add ha hna)
    have HI1 := Lib.hid i1
    have HI2 := Lib.hid i2
    have HA0 := Lib.hid ha0
    clear ha hb hna hnb hn hm' i1 i2 ha0
    have HM0 : Hid (Mt w gm (a + ((pcost m n k1 k2 0 : Nat) : Int)) b c) := Lib.hid (by rw [pcost_0]; simpa using HM.out)
    go_enter Tryz.func69, Tryz.ntmps69
    go_wp2
    go_loopw [9, 10] (fun v9 v10 wr => ∃ (i F : Nat) (L : List (Value × Nat)) (c' : Mc), v10 = .int .i64 F ∧ F = n * i ∧ L.length = i ∧ F < m + n ∧ PcL bl (val B64 al) n L ∧ OwnV wr w.heap.size v9 (L.map (·.1)) ∧ Wv wr w.heap.size L ∧ Mt wr gm (a + ((pcost m n k1 k2 i : Nat) : Int)) b c' ∧ (c'.T = T ∧ c.v ≤ c'.v ∧ (c'.v ≤ c.v ∨ c'.v ≤ b + d)) ∧ w.grownBy wr (some gm)) (fun _ v10 _ => (m + n) - (intOf v10).toNat)
    case atStart => exact ⟨0, 0, [], c, rfl, (Nat.mul_zero _).symm, rfl, by omega, PcL.nil _ _ _, ownv_nil _ _, Wv.nil _ _, HM0.out, ⟨HT.out, by omega, .inl (by omega)⟩, gb_refl _ _⟩
    case round =>
      obtain ⟨i, F, L, c', rfl, hF, hL, hFn, pl, ow, wv, mt, cc, G⟩ := hrel
      have PL := Lib.hid pl
      have OV := Lib.hid ow
      have WV := Lib.hid wv
      have M := Lib.hid mt
      have CC := Lib.hid cc
      have GG := Lib.hid G
      have HL := Lib.hid hL
      have HF := Lib.hid hF
      clear pl ow wv mt cc G hL hF
      have HGM2 : Hid (∀ {W : World}, w.grownBy W (some gm) → gm < W.heap.size) := Lib.hid (fun g => Nat.lt_of_lt_of_le HGM.out g.size)
      have bi : i ≤ 8192 := by
        have h1 := HF.out
        have h2 : i ≤ n * i := Nat.le_mul_of_pos_left i hx
        omega
      by_cases hlt : F < m
      · obtain ⟨E, hE⟩ : ∃ E, E = F + n := ⟨_, rfl⟩
        have eE : (F : Int) + (n : Int) = (E : Int) := by omega
        rcases Nat.lt_trichotomy E m with hEn | hEn | hEn
        · have PE : Hid ((bl.take E).drop F = (bl.drop (n * i)).take n) := Lib.hid (by
            rw [← HF.out, List.drop_take]; congr 1; omega)
          have HPC : Hid (pcost m n k1 k2 (i + 1) = pcost m n k1 k2 i + k1) := Lib.hid (pcost_full (by rw [Nat.mul_add, Nat.mul_one, ← HF.out, ← hE]; omega))
          have qm : (E < m) = True := by simp; exact hEn
          have PLN : Hid (E - F = n) := Lib.hid (by omega)
          have HEE := Lib.hid hE
          clear hE
          obtain ⟨bA, oA, rfl, hs⟩ := ((R0.out.grown GG.out).at 0 rfl).mid F E (by omega) (by omega) (by have := (HML).out; omega)
          have HS := Lib.hid hs
          obtain ⟨P, hP⟩ : ∃ P, P = (bl.take E).drop F := ⟨_, rfl⟩
          rw [← hP] at HS PE
          have lP : P.length = E - F := by rw [hP, List.length_drop, List.length_take]; have := (HML).out; omega
          have LP := Lib.hid lP
          clear hs hP lP
          go_wp2_with (at_builtin; refine own_append_sl 34 (by kernel_rfl) (.const (.slice none 0 0)) (.tmp 35) rfl rfl _ [] rfl (own_nil _ _) _ P rfl HS.out (by have := LP.out; show 0 + _ ≤ _; omega) (Nat.le_refl _) ?_; intro v1 w1 ow1 g1)
          have G1 := Lib.hid (gb_trans GG.out (gb_none g1 (some gm)))
          have V1 := Lib.hid (And.intro ow1.sl (show Off v1 gm from fun b hb e => by have := (ow1.lt b hb).1; have := HGM2.out GG.out; omega))
          have N1 := (HI1.out) w1 v1 (.slice A n ca) P al _ _ G1.out (M.out.grown g1) CC.out.1 (by have := HA0.out; have := HPC.out; have := pcost_le (k1 := k1) (k2 := k2) (n := m) (m := n) (i := i + 1) (by omega) (by rw [Nat.mul_add, Nat.mul_one, ← HF.out]; omega); omega) V1.out.1 ((R0.out.grown G1.out).at 1 rfl) (LP.out.trans PLN.out) (HNL).out.symm V1.out.2 ((R0.out.grown G1.out).off 1 rfl)
          rw [PE.out] at N1
          have HN1 := Lib.hid N1
          have OV1 := Lib.hid (OV.out.grown0 g1)
          have WV1 := Lib.hid (WV.out.grown0 g1)
          have BS : Hid (w.heap.size ≤ w1.heap.size) := Lib.hid G1.out.size
          clear N1 ow1 g1 OV WV M GG HS
          refine (HN1.out).mono ?_
          rintro e w2 ⟨x, c2, rfl, ox, mx, cx, g2⟩
          obtain ⟨X, nx, cx', rfl⟩ := ox.form
          have OV2 := Lib.hid (OV1.out.growng g2 HGM.out)
          have WV2 := Lib.hid ((WV1.out.growng g2 HGM.out).add ox BS.out)
          have M2 := Lib.hid mx
          have G2 := Lib.hid (gb_trans G1.out g2)
          have CC2 : Hid (c2.T = T ∧ c.v ≤ c2.v ∧ (c2.v ≤ c.v ∨ c2.v ≤ b + d)) := Lib.hid (by have := CC.out; refine ⟨cx.1, ?_⟩; omega)
          clear ox mx cx g2 OV1 WV1 G1 V1 HN1 CC
          go_wp2_with (at_builtin; refine ownv_append 32 (by kernel_rfl) (.tmp 25) (.tmp 39) rfl rfl _ _ rfl (OV2.out.grown0 (gb_alloc (gb_refl w2 none) _)) _ _ _ _ rfl ((cs_new w2 _ _).cell 0 rfl) (by have := HL.out; rw [List.length_map]; omega) (Nat.le_trans G2.out.size (gb_alloc (gb_refl w2 none) _).size) ?_; intro v3 w3 ow3 g3)
          have g3' : (w2.alloc (Obj.cells #[.slice X nx cx'] 34)).grownBy w3 u9.ownBlock := g3
          have ga := gb_alloc (gb_refl w2 none) (Obj.cells #[.slice X nx cx'] 34)
          have OVa := OV2.out.grown0 ga
          have hne : some gm ≠ u9.ownBlock := fun e => by have := (OVa.lt gm e.symm).1; have := HGM.out; omega
          have mm : Mt w3 gm (a + ((pcost m n k1 k2 (i + 1) : Nat) : Int)) b c2 := by
            have e : a + ((pcost m n k1 k2 (i + 1) : Nat) : Int) = a + ((pcost m n k1 k2 i : Nat) : Int) + (k1 : Int) := by rw [HPC.out]; omega
            rw [e]
            exact (M2.out.grown ga).rowo g3' hne
          have he := HEE.out
          refine ⟨⟨i + 1, E, _, c2, rfl, by rw [Nat.mul_add, Nat.mul_one, ← HF.out]; exact HEE.out, by rw [List.length_append, HL.out]; rfl, by omega, PL.out.add HL.out _, by rw [List.map_append]; exact ow3, (WV2.out.grown0 ga).append OVa g3', mm, CC2.out, gb_new (gb_trans G2.out (gb_none ga _)) g3' (fun k e => (OVa.lt k e).1)⟩, by simp [intOf]; omega⟩
        · have PE : Hid ((bl.take m).drop F = (bl.drop (n * i)).take n) := Lib.hid (by
            rw [← HF.out, List.drop_take]; congr 1; omega)
          have HPC : Hid (pcost m n k1 k2 (i + 1) = pcost m n k1 k2 i + k1) := Lib.hid (pcost_full (by rw [Nat.mul_add, Nat.mul_one, ← HF.out, ← hE]; omega))
          have qm : (E < m) = False := by simp; omega
          have HEE := Lib.hid hE
          have PLN : Hid (m - F = n) := Lib.hid (by omega)
          clear hE hEn
          obtain ⟨bA, oA, rfl, hs⟩ := ((R0.out.grown GG.out).at 0 rfl).mid F m (by omega) (by omega) (by have := (HML).out; omega)
          have HS := Lib.hid hs
          obtain ⟨P, hP⟩ : ∃ P, P = (bl.take m).drop F := ⟨_, rfl⟩
          rw [← hP] at HS PE
          have lP : P.length = m - F := by rw [hP, List.length_drop, List.length_take]; have := (HML).out; omega
          have LP := Lib.hid lP
          clear hs hP lP
          go_wp2_with (at_builtin; refine own_append_sl 34 (by kernel_rfl) (.const (.slice none 0 0)) (.tmp 35) rfl rfl _ [] rfl (own_nil _ _) _ P rfl HS.out (by have := LP.out; show 0 + _ ≤ _; omega) (Nat.le_refl _) ?_; intro v1 w1 ow1 g1)
          have G1 := Lib.hid (gb_trans GG.out (gb_none g1 (some gm)))
          have V1 := Lib.hid (And.intro ow1.sl (show Off v1 gm from fun b hb e => by have := (ow1.lt b hb).1; have := HGM2.out GG.out; omega))
          have N1 := (HI1.out) w1 v1 (.slice A n ca) P al _ _ G1.out (M.out.grown g1) CC.out.1 (by have := HA0.out; have := HPC.out; have := pcost_le (k1 := k1) (k2 := k2) (n := m) (m := n) (i := i + 1) (by omega) (by rw [Nat.mul_add, Nat.mul_one, ← HF.out]; omega); omega) V1.out.1 ((R0.out.grown G1.out).at 1 rfl) (LP.out.trans PLN.out) (HNL).out.symm V1.out.2 ((R0.out.grown G1.out).off 1 rfl)
          rw [PE.out] at N1
          have HN1 := Lib.hid N1
          have OV1 := Lib.hid (OV.out.grown0 g1)
          have WV1 := Lib.hid (WV.out.grown0 g1)
          have BS : Hid (w.heap.size ≤ w1.heap.size) := Lib.hid G1.out.size
          clear N1 ow1 g1 OV WV M GG HS
          refine (HN1.out).mono ?_
          rintro e w2 ⟨x, c2, rfl, ox, mx, cx, g2⟩
          obtain ⟨X, nx, cx', rfl⟩ := ox.form
          have OV2 := Lib.hid (OV1.out.growng g2 HGM.out)
          have WV2 := Lib.hid ((WV1.out.growng g2 HGM.out).add ox BS.out)
          have M2 := Lib.hid mx
          have G2 := Lib.hid (gb_trans G1.out g2)
          have CC2 : Hid (c2.T = T ∧ c.v ≤ c2.v ∧ (c2.v ≤ c.v ∨ c2.v ≤ b + d)) := Lib.hid (by have := CC.out; refine ⟨cx.1, ?_⟩; omega)
          clear ox mx cx g2 OV1 WV1 G1 V1 HN1 CC
          go_wp2_with (at_builtin; refine ownv_append 32 (by kernel_rfl) (.tmp 25) (.tmp 39) rfl rfl _ _ rfl (OV2.out.grown0 (gb_alloc (gb_refl w2 none) _)) _ _ _ _ rfl ((cs_new w2 _ _).cell 0 rfl) (by have := HL.out; rw [List.length_map]; omega) (Nat.le_trans G2.out.size (gb_alloc (gb_refl w2 none) _).size) ?_; intro v3 w3 ow3 g3)
          have g3' : (w2.alloc (Obj.cells #[.slice X nx cx'] 34)).grownBy w3 u9.ownBlock := g3
          have ga := gb_alloc (gb_refl w2 none) (Obj.cells #[.slice X nx cx'] 34)
          have OVa := OV2.out.grown0 ga
          have hne : some gm ≠ u9.ownBlock := fun e => by have := (OVa.lt gm e.symm).1; have := HGM.out; omega
          have mm : Mt w3 gm (a + ((pcost m n k1 k2 (i + 1) : Nat) : Int)) b c2 := by
            have e : a + ((pcost m n k1 k2 (i + 1) : Nat) : Int) = a + ((pcost m n k1 k2 i : Nat) : Int) + (k1 : Int) := by rw [HPC.out]; omega
            rw [e]
            exact (M2.out.grown ga).rowo g3' hne
          have he := HEE.out
          refine ⟨⟨i + 1, E, _, c2, rfl, by rw [Nat.mul_add, Nat.mul_one, ← HF.out]; exact HEE.out, by rw [List.length_append, HL.out]; rfl, by omega, PL.out.add HL.out _, by rw [List.map_append]; exact ow3, (WV2.out.grown0 ga).append OVa g3', mm, CC2.out, gb_new (gb_trans G2.out (gb_none ga _)) g3' (fun k e => (OVa.lt k e).1)⟩, by simp [intOf]; omega⟩
        · have PE : Hid ((bl.take m).drop F = (bl.drop (n * i)).take n) := Lib.hid (by
            rw [← HF.out, List.drop_take, List.take_of_length_le (by rw [List.length_drop]; have := (HML).out; omega), List.take_of_length_le (by rw [List.length_drop]; have := (HML).out; omega)])
          have HPC : Hid (pcost m n k1 k2 (i + 1) = pcost m n k1 k2 i + k2) := Lib.hid (pcost_last (by rw [← HF.out]; exact hlt) (by rw [Nat.mul_add, Nat.mul_one, ← HF.out, ← hE]; omega))
          have HMD : Hid (m % n = m - F) := Lib.hid (by
            have e1 : m / n = i := by
              rw [Nat.div_eq_iff hx, Nat.mul_comm i n, ← HF.out]; omega
            have e2 := Nat.div_add_mod m n
            rw [e1, ← HF.out] at e2
            omega)
          have PLN : Hid (m - F = m % n) := Lib.hid HMD.out.symm
          have HI3 := Lib.hid (HI2.out (by rw [HMD.out]; omega))
          have qm : (E < m) = False := by simp; omega
          have HEE := Lib.hid hE
          clear hE
          obtain ⟨bA, oA, rfl, hs⟩ := ((R0.out.grown GG.out).at 0 rfl).mid F m (by omega) (by omega) (by have := (HML).out; omega)
          have HS := Lib.hid hs
          obtain ⟨P, hP⟩ : ∃ P, P = (bl.take m).drop F := ⟨_, rfl⟩
          rw [← hP] at HS PE
          have lP : P.length = m - F := by rw [hP, List.length_drop, List.length_take]; have := (HML).out; omega
          have LP := Lib.hid lP
          clear hs hP lP
          go_wp2_with (at_builtin; refine own_append_sl 34 (by kernel_rfl) (.const (.slice none 0 0)) (.tmp 35) rfl rfl _ [] rfl (own_nil _ _) _ P rfl HS.out (by have := LP.out; show 0 + _ ≤ _; omega) (Nat.le_refl _) ?_; intro v1 w1 ow1 g1)
          have G1 := Lib.hid (gb_trans GG.out (gb_none g1 (some gm)))
          have V1 := Lib.hid (And.intro ow1.sl (show Off v1 gm from fun b hb e => by have := (ow1.lt b hb).1; have := HGM2.out GG.out; omega))
          have N1 := (HI3.out) w1 v1 (.slice A n ca) P al _ _ G1.out (M.out.grown g1) CC.out.1 (by have := HA0.out; have := HPC.out; have := pcost_le (k1 := k1) (k2 := k2) (n := m) (m := n) (i := i + 1) (by omega) (by rw [Nat.mul_add, Nat.mul_one, ← HF.out]; omega); omega) V1.out.1 ((R0.out.grown G1.out).at 1 rfl) (LP.out.trans PLN.out) (HNL).out.symm V1.out.2 ((R0.out.grown G1.out).off 1 rfl)
          rw [PE.out] at N1
          have HN1 := Lib.hid N1
          have OV1 := Lib.hid (OV.out.grown0 g1)
          have WV1 := Lib.hid (WV.out.grown0 g1)
          have BS : Hid (w.heap.size ≤ w1.heap.size) := Lib.hid G1.out.size
          clear N1 ow1 g1 OV WV M GG HS
          refine (HN1.out).mono ?_
          rintro e w2 ⟨x, c2, rfl, ox, mx, cx, g2⟩
          obtain ⟨X, nx, cx', rfl⟩ := ox.form
          have OV2 := Lib.hid (OV1.out.growng g2 HGM.out)
          have WV2 := Lib.hid ((WV1.out.growng g2 HGM.out).add ox BS.out)
          have M2 := Lib.hid mx
          have G2 := Lib.hid (gb_trans G1.out g2)
          have CC2 : Hid (c2.T = T ∧ c.v ≤ c2.v ∧ (c2.v ≤ c.v ∨ c2.v ≤ b + d)) := Lib.hid (by have := CC.out; refine ⟨cx.1, ?_⟩; omega)
          clear ox mx cx g2 OV1 WV1 G1 V1 HN1 CC
          go_wp2_with (at_builtin; refine ownv_append 32 (by kernel_rfl) (.tmp 25) (.tmp 39) rfl rfl _ _ rfl (OV2.out.grown0 (gb_alloc (gb_refl w2 none) _)) _ _ _ _ rfl ((cs_new w2 _ _).cell 0 rfl) (by have := HL.out; rw [List.length_map]; omega) (Nat.le_trans G2.out.size (gb_alloc (gb_refl w2 none) _).size) ?_; intro v3 w3 ow3 g3)
          have g3' : (w2.alloc (Obj.cells #[.slice X nx cx'] 34)).grownBy w3 u9.ownBlock := g3
          have ga := gb_alloc (gb_refl w2 none) (Obj.cells #[.slice X nx cx'] 34)
          have OVa := OV2.out.grown0 ga
          have hne : some gm ≠ u9.ownBlock := fun e => by have := (OVa.lt gm e.symm).1; have := HGM.out; omega
          have mm : Mt w3 gm (a + ((pcost m n k1 k2 (i + 1) : Nat) : Int)) b c2 := by
            have e : a + ((pcost m n k1 k2 (i + 1) : Nat) : Int) = a + ((pcost m n k1 k2 i : Nat) : Int) + (k2 : Int) := by rw [HPC.out]; omega
            rw [e]
            exact (M2.out.grown ga).rowo g3' hne
          have he := HEE.out
          refine ⟨⟨i + 1, E, _, c2, rfl, by rw [Nat.mul_add, Nat.mul_one, ← HF.out]; exact HEE.out, by rw [List.length_append, HL.out]; rfl, by omega, PL.out.add HL.out _, by rw [List.map_append]; exact ow3, (WV2.out.grown0 ga).append OVa g3', mm, CC2.out, gb_new (gb_trans G2.out (gb_none ga _)) g3' (fun k e => (OVa.lt k e).1)⟩, by simp [intOf]; omega⟩
      · have HE : Hid (pcost m n k1 k2 i = pall m n k1 k2) := Lib.hid (pcost_end hx (by rw [← HF.out]; omega) (by rw [← HF.out]; exact hFn))
        obtain ⟨X, pt, lx, jv⟩ := WV.out.parts PL.out OV.out (WB).out (WA).out (HNL).out.symm (by rw [HL.out, ← HF.out, ← (HML).out]; omega)
        rw [HL.out] at pt lx jv
        have JN := ljoin_c wr n i u9 _ X pt (by omega) (by omega) (fun j hj => by have := lx j hj; omega)
        rw [jv] at JN
        have HJN := Lib.hid JN
        clear JN pt lx jv
        go_wp2_with fail
        refine (HJN.out).mono ?_
        rintro e w2 ⟨x, rfl, o2, g2⟩
        have KK : Hid (Wo w2 w.heap.size x (val B64 bl * val B64 al) ∧ Mt w2 gm (a + ((pall m n k1 k2 : Nat) : Int)) b c' ∧ w.grownBy w2 (some gm)) := Lib.hid
          ⟨o2.mono GG.out.size, by rw [← HE.out]; exact M.out.grown g2, gb_trans GG.out (gb_none g2 (some gm))⟩
        clear o2 g2 HJN
        go_wp2
        go_ret
        exact ⟨x, c', rfl, by first | exact KK.out.1 | (rw [Nat.mul_comm]; exact KK.out.1), KK.out.2.1, CC.out, KK.out.2.2⟩
  · rw [Nat.min_eq_right (by omega)] at hx i1
    rw [Nat.min_eq_right (by omega), Nat.max_eq_left (by omega)] at i2 ha0 ⊢
    have R0 := Lib.hid (((Rw.nil w gm).add ha hna).add hb hnb)
    have HI1 := Lib.hid i1
    have HI2 := Lib.hid i2
    have HA0 := Lib.hid ha0
    clear ha hb hna hnb hn hm' i1 i2 ha0
    have HM0 : Hid (Mt w gm (a + ((pcost n m k1 k2 0 : Nat) : Int)) b c) := Lib.hid (by rw [pcost_0]; simpa using HM.out)
    go_enter Tryz.func69, Tryz.ntmps69
    go_wp2
    go_loopw [9, 10] (fun v9 v10 wr => ∃ (i F : Nat) (L : List (Value × Nat)) (c' : Mc), v10 = .int .i64 F ∧ F = m * i ∧ L.length = i ∧ F < n + m ∧ PcL al (val B64 bl) m L ∧ OwnV wr w.heap.size v9 (L.map (·.1)) ∧ Wv wr w.heap.size L ∧ Mt wr gm (a + ((pcost n m k1 k2 i : Nat) : Int)) b c' ∧ (c'.T = T ∧ c.v ≤ c'.v ∧ (c'.v ≤ c.v ∨ c'.v ≤ b + d)) ∧ w.grownBy wr (some gm)) (fun _ v10 _ => (n + m) - (intOf v10).toNat)
    case atStart => exact ⟨0, 0, [], c, rfl, (Nat.mul_zero _).symm, rfl, by omega, PcL.nil _ _ _, ownv_nil _ _, Wv.nil _ _, HM0.out, ⟨HT.out, by omega, .inl (by omega)⟩, gb_refl _ _⟩
    case round =>
      obtain ⟨i, F, L, c', rfl, hF, hL, hFn, pl, ow, wv, mt, cc, G⟩ := hrel
      have PL := Lib.hid pl
      have OV := Lib.hid ow
      have WV := Lib.hid wv
      have M := Lib.hid mt
      have CC := Lib.hid cc
      have GG := Lib.hid G
      have HL := Lib.hid hL
      have HF := Lib.hid hF
      clear pl ow wv mt cc G hL hF
      have HGM2 : Hid (∀ {W : World}, w.grownBy W (some gm) → gm < W.heap.size) := Lib.hid (fun g => Nat.lt_of_lt_of_le HGM.out g.size)
      have bi : i ≤ 8192 := by
        have h1 := HF.out
        have h2 : i ≤ m * i := Nat.le_mul_of_pos_left i hx
        omega
      by_cases hlt : F < n
      · obtain ⟨E, hE⟩ : ∃ E, E = F + m := ⟨_, rfl⟩
        have eE : (F : Int) + (m : Int) = (E : Int) := by omega
        rcases Nat.lt_trichotomy E n with hEn | hEn | hEn
        · have PE : Hid ((al.take E).drop F = (al.drop (m * i)).take m) := Lib.hid (by
            rw [← HF.out, List.drop_take]; congr 1; omega)
          have HPC : Hid (pcost n m k1 k2 (i + 1) = pcost n m k1 k2 i + k1) := Lib.hid (pcost_full (by rw [Nat.mul_add, Nat.mul_one, ← HF.out, ← hE]; omega))
          have qm : (E < n) = True := by simp; exact hEn
          have PLN : Hid (E - F = m) := Lib.hid (by omega)
          have HEE := Lib.hid hE
          clear hE
          obtain ⟨bA, oA, rfl, hs⟩ := ((R0.out.grown GG.out).at 0 rfl).mid F E (by omega) (by omega) (by have := (HNL).out; omega)
          have HS := Lib.hid hs
          obtain ⟨P, hP⟩ : ∃ P, P = (al.take E).drop F := ⟨_, rfl⟩
          rw [← hP] at HS PE
          have lP : P.length = E - F := by rw [hP, List.length_drop, List.length_take]; have := (HNL).out; omega
          have LP := Lib.hid lP
          clear hs hP lP
          go_wp2_with (at_builtin; refine own_append_sl 34 (by kernel_rfl) (.const (.slice none 0 0)) (.tmp 35) rfl rfl _ [] rfl (own_nil _ _) _ P rfl HS.out (by have := LP.out; show 0 + _ ≤ _; omega) (Nat.le_refl _) ?_; intro v1 w1 ow1 g1)
          have G1 := Lib.hid (gb_trans GG.out (gb_none g1 (some gm)))
          have V1 := Lib.hid (And.intro ow1.sl (show Off v1 gm from fun b hb e => by have := (ow1.lt b hb).1; have := HGM2.out GG.out; omega))
          have N1 := (HI1.out) w1 v1 (.slice B m cb) P bl _ _ G1.out (M.out.grown g1) CC.out.1 (by have := HA0.out; have := HPC.out; have := pcost_le (k1 := k1) (k2 := k2) (n := n) (m := m) (i := i + 1) (by omega) (by rw [Nat.mul_add, Nat.mul_one, ← HF.out]; omega); omega) V1.out.1 ((R0.out.grown G1.out).at 1 rfl) (LP.out.trans PLN.out) (HML).out.symm V1.out.2 ((R0.out.grown G1.out).off 1 rfl)
          rw [PE.out] at N1
          have HN1 := Lib.hid N1
          have OV1 := Lib.hid (OV.out.grown0 g1)
          have WV1 := Lib.hid (WV.out.grown0 g1)
          have BS : Hid (w.heap.size ≤ w1.heap.size) := Lib.hid G1.out.size
          clear N1 ow1 g1 OV WV M GG HS
          refine (HN1.out).mono ?_
          rintro e w2 ⟨x, c2, rfl, ox, mx, cx, g2⟩
          obtain ⟨X, nx, cx', rfl⟩ := ox.form
          have OV2 := Lib.hid (OV1.out.growng g2 HGM.out)
          have WV2 := Lib.hid ((WV1.out.growng g2 HGM.out).add ox BS.out)
          have M2 := Lib.hid mx
          have G2 := Lib.hid (gb_trans G1.out g2)
          have CC2 : Hid (c2.T = T ∧ c.v ≤ c2.v ∧ (c2.v ≤ c.v ∨ c2.v ≤ b + d)) := Lib.hid (by have := CC.out; refine ⟨cx.1, ?_⟩; omega)
          clear ox mx cx g2 OV1 WV1 G1 V1 HN1 CC
          go_wp2_with (at_builtin; refine ownv_append 32 (by kernel_rfl) (.tmp 25) (.tmp 39) rfl rfl _ _ rfl (OV2.out.grown0 (gb_alloc (gb_refl w2 none) _)) _ _ _ _ rfl ((cs_new w2 _ _).cell 0 rfl) (by have := HL.out; rw [List.length_map]; omega) (Nat.le_trans G2.out.size (gb_alloc (gb_refl w2 none) _).size) ?_; intro v3 w3 ow3 g3)
          have g3' : (w2.alloc (Obj.cells #[.slice X nx cx'] 34)).grownBy w3 u9.ownBlock := g3
          have ga := gb_alloc (gb_refl w2 none) (Obj.cells #[.slice X nx cx'] 34)
          have OVa := OV2.out.grown0 ga
          have hne : some gm ≠ u9.ownBlock := fun e => by have := (OVa.lt gm e.symm).1; have := HGM.out; omega
          have mm : Mt w3 gm (a + ((pcost n m k1 k2 (i + 1) : Nat) : Int)) b c2 := by
            have e : a + ((pcost n m k1 k2 (i + 1) : Nat) : Int) = a + ((pcost n m k1 k2 i : Nat) : Int) + (k1 : Int) := by rw [HPC.out]; omega
            rw [e]
            exact (M2.out.grown ga).rowo g3' hne
          have he := HEE.out
          refine ⟨⟨i + 1, E, _, c2, rfl, by rw [Nat.mul_add, Nat.mul_one, ← HF.out]; exact HEE.out, by rw [List.length_append, HL.out]; rfl, by omega, PL.out.add HL.out _, by rw [List.map_append]; exact ow3, (WV2.out.grown0 ga).append OVa g3', mm, CC2.out, gb_new (gb_trans G2.out (gb_none ga _)) g3' (fun k e => (OVa.lt k e).1)⟩, by simp [intOf]; omega⟩
        · have PE : Hid ((al.take n).drop F = (al.drop (m * i)).take m) := Lib.hid (by
            rw [← HF.out, List.drop_take]; congr 1; omega)
          have HPC : Hid (pcost n m k1 k2 (i + 1) = pcost n m k1 k2 i + k1) := Lib.hid (pcost_full (by rw [Nat.mul_add, Nat.mul_one, ← HF.out, ← hE]; omega))
          have qm : (E < n) = False := by simp; omega
          have HEE := Lib.hid hE
          have PLN : Hid (n - F = m) := Lib.hid (by omega)
          clear hE hEn
          obtain ⟨bA, oA, rfl, hs⟩ := ((R0.out.grown GG.out).at 0 rfl).mid F n (by omega) (by omega) (by have := (HNL).out; omega)
          have HS := Lib.hid hs
          obtain ⟨P, hP⟩ : ∃ P, P = (al.take n).drop F := ⟨_, rfl⟩
          rw [← hP] at HS PE
          have lP : P.length = n - F := by rw [hP, List.length_drop, List.length_take]; have := (HNL).out; omega
          have LP := Lib.hid lP
          clear hs hP lP
          go_wp2_with (at_builtin; refine own_append_sl 34 (by kernel_rfl) (.const (.slice none 0 0)) (.tmp 35) rfl rfl _ [] rfl (own_nil _ _) _ P rfl HS.out (by have := LP.out; show 0 + _ ≤ _; omega) (Nat.le_refl _) ?_; intro v1 w1 ow1 g1)
          have G1 := Lib.hid (gb_trans GG.out (gb_none g1 (some gm)))
          have V1 := Lib.hid (And.intro ow1.sl (show Off v1 gm from fun b hb e => by have := (ow1.lt b hb).1; have := HGM2.out GG.out; omega))
          have N1 := (HI1.out) w1 v1 (.slice B m cb) P bl _ _ G1.out (M.out.grown g1) CC.out.1 (by have := HA0.out; have := HPC.out; have := pcost_le (k1 := k1) (k2 := k2) (n := n) (m := m) (i := i + 1) (by omega) (by rw [Nat.mul_add, Nat.mul_one, ← HF.out]; omega); omega) V1.out.1 ((R0.out.grown G1.out).at 1 rfl) (LP.out.trans PLN.out) (HML).out.symm V1.out.2 ((R0.out.grown G1.out).off 1 rfl)
          rw [PE.out] at N1
          have HN1 := Lib.hid N1
          have OV1 := Lib.hid (OV.out.grown0 g1)
          have WV1 := Lib.hid (WV.out.grown0 g1)
          have BS : Hid (w.heap.size ≤ w1.heap.size) := Lib.hid G1.out.size
          clear N1 ow1 g1 OV WV M GG HS
          refine (HN1.out).mono ?_
          rintro e w2 ⟨x, c2, rfl, ox, mx, cx, g2⟩
          obtain ⟨X, nx, cx', rfl⟩ := ox.form
          have OV2 := Lib.hid (OV1.out.growng g2 HGM.out)
          have WV2 := Lib.hid ((WV1.out.growng g2 HGM.out).add ox BS.out)
          have M2 := Lib.hid mx
          have G2 := Lib.hid (gb_trans G1.out g2)
          have CC2 : Hid (c2.T = T ∧ c.v ≤ c2.v ∧ (c2.v ≤ c.v ∨ c2.v ≤ b + d)) := Lib.hid (by have := CC.out; refine ⟨cx.1, ?_⟩; omega)
          clear ox mx cx g2 OV1 WV1 G1 V1 HN1 CC
          go_wp2_with (at_builtin; refine ownv_append 32 (by kernel_rfl) (.tmp 25) (.tmp 39) rfl rfl _ _ rfl (OV2.out.grown0 (gb_alloc (gb_refl w2 none) _)) _ _ _ _ rfl ((cs_new w2 _ _).cell 0 rfl) (by have := HL.out; rw [List.length_map]; omega) (Nat.le_trans G2.out.size (gb_alloc (gb_refl w2 none) _).size) ?_; intro v3 w3 ow3 g3)
          have g3' : (w2.alloc (Obj.cells #[.slice X nx cx'] 34)).grownBy w3 u9.ownBlock := g3
          have ga := gb_alloc (gb_refl w2 none) (Obj.cells #[.slice X nx cx'] 34)
          have OVa := OV2.out.grown0 ga
          have hne : some gm ≠ u9.ownBlock := fun e => by have := (OVa.lt gm e.symm).1; have := HGM.out; omega
          have mm : Mt w3 gm (a + ((pcost n m k1 k2 (i + 1) : Nat) : Int)) b c2 := by
            have e : a + ((pcost n m k1 k2 (i + 1) : Nat) : Int) = a + ((pcost n m k1 k2 i : Nat) : Int) + (k1 : Int) := by rw [HPC.out]; omega
            rw [e]
            exact (M2.out.grown ga).rowo g3' hne
          have he := HEE.out
          refine ⟨⟨i + 1, E, _, c2, rfl, by rw [Nat.mul_add, Nat.mul_one, ← HF.out]; exact HEE.out, by rw [List.length_append, HL.out]; rfl, by omega, PL.out.add HL.out _, by rw [List.map_append]; exact ow3, (WV2.out.grown0 ga).append OVa g3', mm, CC2.out, gb_new (gb_trans G2.out (gb_none ga _)) g3' (fun k e => (OVa.lt k e).1)⟩, by simp [intOf]; omega⟩
        · have PE : Hid ((al.take n).drop F = (al.drop (m * i)).take m) := Lib.hid (by
            rw [← HF.out, List.drop_take, List.take_of_length_le (by rw [List.length_drop]; have := (HNL).out; omega), List.take_of_length_le (by rw [List.length_drop]; have := (HNL).out; omega)])
          have HPC : Hid (pcost n m k1 k2 (i + 1) = pcost n m k1 k2 i + k2) := Lib.hid (pcost_last (by rw [← HF.out]; exact hlt) (by rw [Nat.mul_add, Nat.mul_one, ← HF.out, ← hE]; omega))
          have HMD : Hid (n % m = n - F) := Lib.hid (by
            have e1 : n / m = i := by
              rw [Nat.div_eq_iff hx, Nat.mul_comm i m, ← HF.out]; omega
            have e2 := Nat.div_add_mod n m
            rw [e1, ← HF.out] at e2
            omega)
          have PLN : Hid (n - F = n % m) := Lib.hid HMD.out.symm
          have HI3 := Lib.hid (HI2.out (by rw [HMD.out]; omega))
          have qm : (E < n) = False := by simp; omega
          have HEE := Lib.hid hE
          clear hE
          obtain ⟨bA, oA, rfl, hs⟩ := ((R0.out.grown GG.out).at 0 rfl).mid F n (by omega) (by omega) (by have := (HNL).out; omega)
          have HS := Lib.hid hs
          obtain ⟨P, hP⟩ : ∃ P, P = (al.take n).drop F := ⟨_, rfl⟩
          rw [← hP] at HS PE
          have lP : P.length = n - F := by rw [hP, List.length_drop, List.length_take]; have := (HNL).out; omega
          have LP := Lib.hid lP
          clear hs hP lP
          go_wp2_with (at_builtin; refine own_append_sl 34 (by kernel_rfl) (.const (.slice none 0 0)) (.tmp 35) rfl rfl _ [] rfl (own_nil _ _) _ P rfl HS.out (by have := LP.out; show 0 + _ ≤ _; omega) (Nat.le_refl _) ?_; intro v1 w1 ow1 g1)
          have G1 := Lib.hid (gb_trans GG.out (gb_none g1 (some gm)))
          have V1 := Lib.hid (And.intro ow1.sl (show Off v1 gm from fun b hb e => by have := (ow1.lt b hb).1; have := HGM2.out GG.out; omega))
          have N1 := (HI3.out) w1 v1 (.slice B m cb) P bl _ _ G1.out (M.out.grown g1) CC.out.1 (by have := HA0.out; have := HPC.out; have := pcost_le (k1 := k1) (k2 := k2) (n := n) (m := m) (i := i + 1) (by omega) (by rw [Nat.mul_add, Nat.mul_one, ← HF.out]; omega); omega) V1.out.1 ((R0.out.grown G1.out).at 1 rfl) (LP.out.trans PLN.out) (HML).out.symm V1.out.2 ((R0.out.grown G1.out).off 1 rfl)
          rw [PE.out] at N1
          have HN1 := Lib.hid N1
          have OV1 := Lib.hid (OV.out.grown0 g1)
          have WV1 := Lib.hid (WV.out.grown0 g1)
          have BS : Hid (w.heap.size ≤ w1.heap.size) := Lib.hid G1.out.size
          clear N1 ow1 g1 OV WV M GG HS
          refine (HN1.out).mono ?_
          rintro e w2 ⟨x, c2, rfl, ox, mx, cx, g2⟩
          obtain ⟨X, nx, cx', rfl⟩ := ox.form
          have OV2 := Lib.hid (OV1.out.growng g2 HGM.out)
          have WV2 := Lib.hid ((WV1.out.growng g2 HGM.out).add ox BS.out)
          have M2 := Lib.hid mx
          have G2 := Lib.hid (gb_trans G1.out g2)
          have CC2 : Hid (c2.T = T ∧ c.v ≤ c2.v ∧ (c2.v ≤ c.v ∨ c2.v ≤ b + d)) := Lib.hid (by have := CC.out; refine ⟨cx.1, ?_⟩; omega)
          clear ox mx cx g2 OV1 WV1 G1 V1 HN1 CC
          go_wp2_with (at_builtin; refine ownv_append 32 (by kernel_rfl) (.tmp 25) (.tmp 39) rfl rfl _ _ rfl (OV2.out.grown0 (gb_alloc (gb_refl w2 none) _)) _ _ _ _ rfl ((cs_new w2 _ _).cell 0 rfl) (by have := HL.out; rw [List.length_map]; omega) (Nat.le_trans G2.out.size (gb_alloc (gb_refl w2 none) _).size) ?_; intro v3 w3 ow3 g3)
          have g3' : (w2.alloc (Obj.cells #[.slice X nx cx'] 34)).grownBy w3 u9.ownBlock := g3
          have ga := gb_alloc (gb_refl w2 none) (Obj.cells #[.slice X nx cx'] 34)
          have OVa := OV2.out.grown0 ga
          have hne : some gm ≠ u9.ownBlock := fun e => by have := (OVa.lt gm e.symm).1; have := HGM.out; omega
          have mm : Mt w3 gm (a + ((pcost n m k1 k2 (i + 1) : Nat) : Int)) b c2 := by
            have e : a + ((pcost n m k1 k2 (i + 1) : Nat) : Int) = a + ((pcost n m k1 k2 i : Nat) : Int) + (k2 : Int) := by rw [HPC.out]; omega
            rw [e]
            exact (M2.out.grown ga).rowo g3' hne
          have he := HEE.out
          refine ⟨⟨i + 1, E, _, c2, rfl, by rw [Nat.mul_add, Nat.mul_one, ← HF.out]; exact HEE.out, by rw [List.length_append, HL.out]; rfl, by omega, PL.out.add HL.out _, by rw [List.map_append]; exact ow3, (WV2.out.grown0 ga).append OVa g3', mm, CC2.out, gb_new (gb_trans G2.out (gb_none ga _)) g3' (fun k e => (OVa.lt k e).1)⟩, by simp [intOf]; omega⟩
      · have HE : Hid (pcost n m k1 k2 i = pall n m k1 k2) := Lib.hid (pcost_end hx (by rw [← HF.out]; omega) (by rw [← HF.out]; exact hFn))
        obtain ⟨X, pt, lx, jv⟩ := WV.out.parts PL.out OV.out (WA).out (WB).out (HML).out.symm (by rw [HL.out, ← HF.out, ← (HNL).out]; omega)
        rw [HL.out] at pt lx jv
        have JN := ljoin_c wr m i u9 _ X pt (by omega) (by omega) (fun j hj => by have := lx j hj; omega)
        rw [jv] at JN
        have HJN := Lib.hid JN
        clear JN pt lx jv
        go_wp2_with fail
        refine (HJN.out).mono ?_
        rintro e w2 ⟨x, rfl, o2, g2⟩
        have KK : Hid (Wo w2 w.heap.size x (val B64 al * val B64 bl) ∧ Mt w2 gm (a + ((pall n m k1 k2 : Nat) : Int)) b c' ∧ w.grownBy w2 (some gm)) := Lib.hid
          ⟨o2.mono GG.out.size, by rw [← HE.out]; exact M.out.grown g2, gb_trans GG.out (gb_none g2 (some gm))⟩
        clear o2 g2 HJN
        go_wp2
        go_ret
        exact ⟨x, c', rfl, by first | exact KK.out.1 | (rw [Nat.mul_comm]; exact KK.out.1), KK.out.2.1, CC.out, KK.out.2.2⟩
end Go.Proofs.YtldkiddoajlohaaGreatDoor

/- Products by a route. -/
namespace Go.Proofs.YtldkiddoajlohaaGreatDoor
open Go.RowKit

theorem InC.grown {w w' : World} {gm fk p q k : Nat} {fs : Array Value} {b d : Int} {T : Nat → Option Value} (h : InC w gm fk fs b T p q k d) (g : w.grownBy w' (some gm)) : InC w' gm fk fs b T p q k d :=
  fun W va vb al bl a c G => h W va vb al bl a c (gb_trans g G)
theorem InC.mono {w : World} {gm fk p q k : Nat} {fs : Array Value} {b d d' : Int} {T : Nat → Option Value} (h : InC w gm fk fs b T p q k d) (hd : d ≤ d') : InC w gm fk fs b T p q k d' :=
  fun W va vb al bl a c G m hT hk sa sb la lb oa ob => (h W va vb al bl a c G m hT hk sa sb la lb oa ob).mono fun e w' ⟨x, c', e1, e2, e3, e4, e5⟩ => ⟨x, c', e1, e2, e3, ⟨e4.1, e4.2.1, by have := e4.2.2; omega⟩, e5⟩
/-- A product of so much, by so many word products, at most D levels deeper. -/
def Got (w : World) (gm : Nat) (a b : Int) (c : Mc) (T : Nat → Option Value) (k : Nat) (D : Int) (P : Nat) (w' : World) (x : Value) (c' : Mc) : Prop :=
  Wo w' w.heap.size x P ∧ Mt w' gm (a + (k : Int)) b c' ∧ (c'.T = T ∧ c.v ≤ c'.v ∧ (c'.v ≤ c.v ∨ c'.v ≤ b + D)) ∧ w.grownBy w' (some gm)
theorem Got.from {w w1 w' : World} {gm k P : Nat} {a b D : Int} {c c' : Mc} {T : Nat → Option Value} {x : Value} (h : Got w1 gm a b c T k D P w' x c') (g : w.grownBy w1 none) : Got w gm a b c T k D P w' x c' :=
  ⟨h.1.mono g.size, h.2.1, h.2.2.1, gb_trans (gb_none g _) h.2.2.2⟩
theorem Got.then {w w' w2 : World} {gm k P : Nat} {a b D : Int} {c c' : Mc} {T : Nat → Option Value} {x : Value} (h : Got w gm a b c T k D P w' x c') (g : w'.grownBy w2 none) : Got w gm a b c T k D P w2 x c' :=
  ⟨h.1.grown0 g, h.2.1.grown g, h.2.2.1, gb_trans h.2.2.2 (gb_none g _)⟩
set_option maxRecDepth 100000 in
set_option maxHeartbeats 8000000 in
theorem block_c (w : World) (g0 g1 g2 g3 gm : Nat) (a b d : Int) (c : Mc) (T : Nat → Option Value) (va vb : Value) (al bl : List Int) (k1 k2 : Nat) (he : Eng w g0 g1 g2 g3 gm)
    (hm : Mt w gm a b c) (hT : c.T = T) (hd : 0 ≤ d) (hb1 : b ≤ 1000000) (ha0 : a + ((pall (max al.length bl.length) (min al.length bl.length) k1 k2 : Nat) : Int) ≤ 1000000000000000) (ha : Sl w va al) (hb : Sl w vb bl) (hna : Off va gm) (hnb : Off vb gm) (hl : al.length ≤ 4096) (hl2 : bl.length ≤ 4096)
    (hx : 0 < min al.length bl.length)
    (i1 : InC w gm 45 #[.pointer (some ⟨g0, 0, none⟩)] (b + 1) T (min al.length bl.length) (min al.length bl.length) k1 d)
    (i2 : 0 < max al.length bl.length % min al.length bl.length → InC w gm 45 #[.pointer (some ⟨g0, 0, none⟩)] (b + 1) T (max al.length bl.length % min al.length bl.length) (min al.length bl.length) k2 d) :
    Calls Tryz.prog 60 #[.pointer (some ⟨g0, 0, none⟩), va, vb] w fun e w' => ∃ x c', e = .returned x ∧ Got w gm a b c T (pall (max al.length bl.length) (min al.length bl.length) k1 k2) (1 + d) (val B64 al * val B64 bl) w' x c' := by
  have hgm : gm < w.heap.size := World.block_lt_of_cell? w _ hm.c0
  obtain ⟨A, ca, rfl, hca, _⟩ := ha.form
  obtain ⟨B, cb, rfl, hcb, _⟩ := hb.form
  have EN := enter_c w gm a b c hm (by omega)
  have b0 := hm.b0
  have a0 := hm.a0
  have HEN := Lib.hid EN
  have HGM := Lib.hid hgm
  have HT := Lib.hid hT
  have HE := Lib.hid he
  have R0 := Lib.hid (((Rw.nil w gm).add ha hna).add hb hnb)
  have eb : (if b + 1 > 0 then b + 1 - 1 else 0) = b := by split <;> omega
  clear EN hm hgm hT ha hb hna hnb he
  obtain ⟨n, hn⟩ : ∃ n, n = al.length := ⟨_, rfl⟩
  obtain ⟨m, hm'⟩ : ∃ m, m = bl.length := ⟨_, rfl⟩
  rw [← hn] at hca
  rw [← hm'] at hcb
  rw [← hn, ← hm']
  rcases Nat.lt_trichotomy n m with h | h | h
  · have q1 : (n < m) = True := by simp; exact h
    have q2 : (m < n) = False := by simp; omega
    have HP := Lib.hid (fun (w1 : World) (G : w.grownBy w1 (some gm)) (c1 : Mc) (m1 : Mt w1 gm a (b + 1) c1) (h1 : c1.T = T) => pieces_c w1 g0 gm 45 a (b + 1) d c1 T _ _ al bl k1 k2 rfl m1 h1 hd ha0 (R0.out.grown G |>.at 0 rfl) (R0.out.grown G |>.at 1 rfl) (R0.out.off 0 rfl) (R0.out.off 1 rfl) hl hl2 hx (i1.grown G) (fun h => (i2 h).grown G))
    rw [← hn, ← hm', Nat.min_eq_left (Nat.le_of_lt h)] at HP
    obtain ⟨K, hK⟩ : ∃ K, K = pall (max al.length bl.length) (min al.length bl.length) k1 k2 := ⟨_, rfl⟩
    rw [← hn, ← hm', Nat.min_eq_left (Nat.le_of_lt h)] at hK
    rw [Nat.min_eq_left (Nat.le_of_lt h)]
    rw [← hK] at HP ⊢
    clear i1 i2 ha0 hx hK
    clear hn hm'
    have h0 := HE.out.h0
    have h1 := HE.out.h1
    have h2 := HE.out.h2
    have h3 := HE.out.h3
    go_enter Tryz.func60, Tryz.ntmps60
    go_wp2_with fail
    refine (HEN.out).mono ?_
    rintro e w1 ⟨rfl, m1, mo⟩
    have M1 := Lib.hid m1
    have G1 := Lib.hid mo.gb
    clear m1 mo HEN h0 h1 h2 h3
    go_wp2_with fail
    refine (HP.out w1 G1.out _ M1.out HT.out).mono ?_
    rintro e w2 ⟨x, c2, rfl, o2, m2, cc, g2⟩
    have HLV := Lib.hid (leave_c w2 gm _ _ c2 m2 (by omega))
    rw [eb] at HLV
    have O2 := Lib.hid o2
    have CC := Lib.hid cc
    have G2 := Lib.hid (gb_trans G1.out g2)
    have BG : Hid (gm < w1.heap.size ∧ w.heap.size ≤ w1.heap.size) := Lib.hid ⟨Nat.lt_of_lt_of_le HGM.out G1.out.size, G1.out.size⟩
    clear o2 m2 cc g2 HP
    have E2 := HE.out.grown G2.out
    have h0 := E2.h0
    have h1 := E2.h1
    have h2 := E2.h2
    have h3 := E2.h3
    clear E2
    go_wp2_with fail
    refine (HLV.out).mono ?_
    rintro e w3 ⟨rfl, m3, mo⟩
    have KK : Hid (Got w gm a b c T K (1 + d) (val B64 al * val B64 bl) w3 x c2) := Lib.hid ⟨(O2.out.past BG.out.1 mo.gb).mono BG.out.2, m3, (by
      have t1 := CC.out
      have t4 : (c.up (b + 1)).v = if b + 1 > c.v then b + 1 else c.v := rfl
      refine ⟨t1.1, ?_⟩
      split at t4 <;> omega), gb_trans G2.out mo.gb⟩
    clear m3 mo HLV h0 h1 h2 h3
    go_wp2
    go_ret
    exact ⟨x, c2, rfl, KK.out⟩
  · have hc : n ≤ m := Nat.le_of_eq h
    have HEQ := Lib.hid h
    clear h
    have q2 : (m < n) = False := by simp; exact Nat.le_of_eq HEQ.out
    have q1 : (n < m) = False := by simp; exact Nat.le_of_eq HEQ.out.symm
    have HP := Lib.hid (fun (w1 : World) (G : w.grownBy w1 (some gm)) (c1 : Mc) (m1 : Mt w1 gm a (b + 1) c1) (h1 : c1.T = T) => pieces_c w1 g0 gm 45 a (b + 1) d c1 T _ _ al bl k1 k2 rfl m1 h1 hd ha0 (R0.out.grown G |>.at 0 rfl) (R0.out.grown G |>.at 1 rfl) (R0.out.off 0 rfl) (R0.out.off 1 rfl) hl hl2 hx (i1.grown G) (fun h => (i2 h).grown G))
    rw [← hn, ← hm', Nat.min_eq_left hc] at HP
    obtain ⟨K, hK⟩ : ∃ K, K = pall (max al.length bl.length) (min al.length bl.length) k1 k2 := ⟨_, rfl⟩
    rw [← hn, ← hm', Nat.min_eq_left hc] at hK
    rw [Nat.min_eq_left hc]
    rw [← hK] at HP ⊢
    clear i1 i2 ha0 hx hK
    clear hn hm'
    have h0 := HE.out.h0
    have h1 := HE.out.h1
    have h2 := HE.out.h2
    have h3 := HE.out.h3
    go_enter Tryz.func60, Tryz.ntmps60
    go_wp2_with fail
    refine (HEN.out).mono ?_
    rintro e w1 ⟨rfl, m1, mo⟩
    have M1 := Lib.hid m1
    have G1 := Lib.hid mo.gb
    clear m1 mo HEN h0 h1 h2 h3
    go_wp2_with fail
    refine (HP.out w1 G1.out _ M1.out HT.out).mono ?_
    rintro e w2 ⟨x, c2, rfl, o2, m2, cc, g2⟩
    have HLV := Lib.hid (leave_c w2 gm _ _ c2 m2 (by omega))
    rw [eb] at HLV
    have O2 := Lib.hid o2
    have CC := Lib.hid cc
    have G2 := Lib.hid (gb_trans G1.out g2)
    have BG : Hid (gm < w1.heap.size ∧ w.heap.size ≤ w1.heap.size) := Lib.hid ⟨Nat.lt_of_lt_of_le HGM.out G1.out.size, G1.out.size⟩
    clear o2 m2 cc g2 HP
    have E2 := HE.out.grown G2.out
    have h0 := E2.h0
    have h1 := E2.h1
    have h2 := E2.h2
    have h3 := E2.h3
    clear E2
    go_wp2_with fail
    refine (HLV.out).mono ?_
    rintro e w3 ⟨rfl, m3, mo⟩
    have KK : Hid (Got w gm a b c T K (1 + d) (val B64 al * val B64 bl) w3 x c2) := Lib.hid ⟨(O2.out.past BG.out.1 mo.gb).mono BG.out.2, m3, (by
      have t1 := CC.out
      have t4 : (c.up (b + 1)).v = if b + 1 > c.v then b + 1 else c.v := rfl
      refine ⟨t1.1, ?_⟩
      split at t4 <;> omega), gb_trans G2.out mo.gb⟩
    clear m3 mo HLV h0 h1 h2 h3
    go_wp2
    go_ret
    exact ⟨x, c2, rfl, KK.out⟩
  · have q1 : (m < n) = True := by simp; exact h
    have q2 : (n < m) = False := by simp; omega
    have HP := Lib.hid (fun (w1 : World) (G : w.grownBy w1 (some gm)) (c1 : Mc) (m1 : Mt w1 gm a (b + 1) c1) (h1 : c1.T = T) => pieces_c w1 g0 gm 45 a (b + 1) d c1 T _ _ al bl k1 k2 rfl m1 h1 hd ha0 (R0.out.grown G |>.at 0 rfl) (R0.out.grown G |>.at 1 rfl) (R0.out.off 0 rfl) (R0.out.off 1 rfl) hl hl2 hx (i1.grown G) (fun h => (i2 h).grown G))
    rw [← hn, ← hm', Nat.min_eq_right (Nat.le_of_lt h)] at HP
    obtain ⟨K, hK⟩ : ∃ K, K = pall (max al.length bl.length) (min al.length bl.length) k1 k2 := ⟨_, rfl⟩
    rw [← hn, ← hm', Nat.min_eq_right (Nat.le_of_lt h)] at hK
    rw [Nat.min_eq_right (Nat.le_of_lt h)]
    rw [← hK] at HP ⊢
    clear i1 i2 ha0 hx hK
    clear hn hm'
    have h0 := HE.out.h0
    have h1 := HE.out.h1
    have h2 := HE.out.h2
    have h3 := HE.out.h3
    go_enter Tryz.func60, Tryz.ntmps60
    go_wp2_with fail
    refine (HEN.out).mono ?_
    rintro e w1 ⟨rfl, m1, mo⟩
    have M1 := Lib.hid m1
    have G1 := Lib.hid mo.gb
    clear m1 mo HEN h0 h1 h2 h3
    go_wp2_with fail
    refine (HP.out w1 G1.out _ M1.out HT.out).mono ?_
    rintro e w2 ⟨x, c2, rfl, o2, m2, cc, g2⟩
    have HLV := Lib.hid (leave_c w2 gm _ _ c2 m2 (by omega))
    rw [eb] at HLV
    have O2 := Lib.hid o2
    have CC := Lib.hid cc
    have G2 := Lib.hid (gb_trans G1.out g2)
    have BG : Hid (gm < w1.heap.size ∧ w.heap.size ≤ w1.heap.size) := Lib.hid ⟨Nat.lt_of_lt_of_le HGM.out G1.out.size, G1.out.size⟩
    clear o2 m2 cc g2 HP
    have E2 := HE.out.grown G2.out
    have h0 := E2.h0
    have h1 := E2.h1
    have h2 := E2.h2
    have h3 := E2.h3
    clear E2
    go_wp2_with fail
    refine (HLV.out).mono ?_
    rintro e w3 ⟨rfl, m3, mo⟩
    have KK : Hid (Got w gm a b c T K (1 + d) (val B64 al * val B64 bl) w3 x c2) := Lib.hid ⟨(O2.out.past BG.out.1 mo.gb).mono BG.out.2, m3, (by
      have t1 := CC.out
      have t4 : (c.up (b + 1)).v = if b + 1 > c.v then b + 1 else c.v := rfl
      refine ⟨t1.1, ?_⟩
      split at t4 <;> omega), gb_trans G2.out mo.gb⟩
    clear m3 mo HLV h0 h1 h2 h3
    go_wp2
    go_ret
    exact ⟨x, c2, rfl, KK.out⟩
end Go.Proofs.YtldkiddoajlohaaGreatDoor

/- Products by each route; products by lengths. -/
namespace Go.Proofs.YtldkiddoajlohaaGreatDoor
open Go.RowKit

theorem times_ent (args : Array Value) (w : World) : (callFunc 45 args).run Tryz.prog w = .ok (.enter 45 args) w := enter_of Tryz.func45 (by kernel_rfl) rfl args w
set_option maxRecDepth 100000 in
theorem gone0_c (w : World) (g0 : Nat) (va vb : Value) (al bl : List Int) (ha : Sl w va al) (hb : Sl w vb bl) :
    Calls Tryz.prog 51 #[.pointer (some ⟨g0, 0, none⟩), .int .i64 0, va, vb] w fun e w' => e = .returned (.tuple #[.slice none 0 0, .bool true]) ∧ w' = w := by
  obtain ⟨A, ca, rfl, hca, _⟩ := ha.form
  obtain ⟨B, cb, rfl, hcb, _⟩ := hb.form
  clear ha hb
  go_enter Tryz.func51, Tryz.ntmps51
  go_wp2
  go_ret2
  exact ⟨rfl, rfl⟩
set_option maxRecDepth 100000 in
theorem gone1_c (w : World) (g0 g1 g2 g3 gm : Nat) (a b : Int) (c : Mc) (T : Nat → Option Value) (va vb : Value) (al bl : List Int) (he : Eng w g0 g1 g2 g3 gm)
    (hm : Mt w gm a b c) (hT : c.T = T) (ha0 : a ≤ 1000000000000000) (ha : Sl w va al) (hb : Sl w vb bl) (hna : Off va gm) (hnb : Off vb gm) (hl : al.length ≤ 4096) (hl2 : bl.length ≤ 4096) :
    Calls Tryz.prog 51 #[.pointer (some ⟨g0, 0, none⟩), .int .i64 1, va, vb] w fun e w' => ∃ x c', e = .returned (.tuple #[x, .bool true]) ∧ Got w gm a b c T (al.length * bl.length) 0 (val B64 al * val B64 bl) w' x c' := by
  have HS := Lib.hid (smul_c w g3 gm a b c va vb al bl he.h3 hm ha0 ha hb hna hnb (by omega) (by omega))
  have HT := Lib.hid hT
  clear hT hna hnb
  obtain ⟨A, ca, rfl, hca, _⟩ := ha.form
  obtain ⟨B, cb, rfl, hcb, _⟩ := hb.form
  have h0 := he.h0
  have h1 := he.h1
  have h2 := he.h2
  have h3 := he.h3
  clear he ha hb hm
  go_enter Tryz.func51, Tryz.ntmps51
  go_wp2_with fail
  refine (HS.out).mono ?_
  rintro e w1 ⟨x, rfl, o1, m1, g1'⟩
  have KK : Hid (Got w gm a b c T (al.length * bl.length) 0 (val B64 al * val B64 bl) w1 x c) := Lib.hid ⟨o1, m1, ⟨HT.out, Int.le_refl _, .inl (Int.le_refl _)⟩, g1'⟩
  clear o1 m1 g1' HS h0 h1 h2 h3
  go_wp2
  go_ret2
  exact ⟨x, c, rfl, KK.out⟩
set_option maxRecDepth 100000 in
theorem gone2_c (w : World) (g0 g1 g2 g3 gm : Nat) (a b d : Int) (c : Mc) (T : Nat → Option Value) (va vb : Value) (al bl : List Int) (k1 k2 : Nat) (he : Eng w g0 g1 g2 g3 gm)
    (hm : Mt w gm a b c) (hT : c.T = T) (hd : 0 ≤ d) (hb1 : b ≤ 1000000) (ha0 : a + ((pall (max al.length bl.length) (min al.length bl.length) k1 k2 : Nat) : Int) ≤ 1000000000000000) (ha : Sl w va al) (hb : Sl w vb bl) (hna : Off va gm) (hnb : Off vb gm) (hl : al.length ≤ 4096) (hl2 : bl.length ≤ 4096)
    (hx : 0 < min al.length bl.length)
    (i1 : InC w gm 45 #[.pointer (some ⟨g0, 0, none⟩)] (b + 1) T (min al.length bl.length) (min al.length bl.length) k1 d)
    (i2 : 0 < max al.length bl.length % min al.length bl.length → InC w gm 45 #[.pointer (some ⟨g0, 0, none⟩)] (b + 1) T (max al.length bl.length % min al.length bl.length) (min al.length bl.length) k2 d) :
    Calls Tryz.prog 51 #[.pointer (some ⟨g0, 0, none⟩), .int .i64 2, va, vb] w fun e w' => ∃ x c', e = .returned (.tuple #[x, .bool true]) ∧ Got w gm a b c T (pall (max al.length bl.length) (min al.length bl.length) k1 k2) (1 + d) (val B64 al * val B64 bl) w' x c' := by
  have HS := Lib.hid (block_c w g0 g1 g2 g3 gm a b d c T va vb al bl k1 k2 he hm hT hd hb1 ha0 ha hb hna hnb hl hl2 hx i1 i2)
  clear hT hna hnb i1 i2 ha0 hx
  obtain ⟨A, ca, rfl, hca, _⟩ := ha.form
  obtain ⟨B, cb, rfl, hcb, _⟩ := hb.form
  have h0 := he.h0
  have h1 := he.h1
  have h2 := he.h2
  have h3 := he.h3
  clear he ha hb hm
  go_enter Tryz.func51, Tryz.ntmps51
  go_wp2_with fail
  refine (HS.out).mono ?_
  rintro e w1 ⟨x, c1, rfl, k⟩
  have KK := Lib.hid k
  clear k HS h0 h1 h2 h3
  go_wp2
  go_ret2
  exact ⟨x, c1, rfl, KK.out⟩
set_option maxRecDepth 100000 in
theorem gone3_c (w : World) (g0 g1 g2 g3 gm : Nat) (a b d : Int) (c : Mc) (T : Nat → Option Value) (va vb : Value) (al bl : List Int) (k1 k2 k3 : Nat) (he : Eng w g0 g1 g2 g3 gm)
    (hm : Mt w gm a b c) (hT : c.T = T) (hd : 0 ≤ d) (hb1 : b ≤ 1000000) (ha0 : a + ((k1 + k2 + k3 : Nat) : Int) ≤ 1000000000000000) (ha : Sl w va al) (hb : Sl w vb bl) (hna : Off va gm) (hnb : Off vb gm) (hl : al.length ≤ 4096) (hl2 : bl.length ≤ 4096)
    (hx : (max al.length bl.length + 1) / 2 < min al.length bl.length)
    (i1 : InC w gm 45 #[.pointer (some ⟨g0, 0, none⟩)] (b + 1) T ((max al.length bl.length + 1) / 2) ((max al.length bl.length + 1) / 2) k1 d)
    (i2 : InC w gm 45 #[.pointer (some ⟨g0, 0, none⟩)] (b + 1) T (max al.length bl.length - (max al.length bl.length + 1) / 2) (min al.length bl.length - (max al.length bl.length + 1) / 2) k2 d)
    (i3 : InC w gm 45 #[.pointer (some ⟨g0, 0, none⟩)] (b + 1) T ((max al.length bl.length + 1) / 2 + 1) ((max al.length bl.length + 1) / 2 + 1) k3 d) :
    Calls Tryz.prog 51 #[.pointer (some ⟨g0, 0, none⟩), .int .i64 3, va, vb] w fun e w' => ∃ x c', e = .returned (.tuple #[x, .bool true]) ∧ Got w gm a b c T (k1 + k2 + k3) (1 + d) (val B64 al * val B64 bl) w' x c' := by
  have HS := Lib.hid (kara_c w g2 g3 gm 45 #[.pointer (some ⟨g0, 0, none⟩)] a b d c T va vb al bl k1 k2 k3 he.h2 he.h3 hm hT hd hb1 ha0 ha hb hna hnb (by omega) (by omega) hx times_ent i1 i2 i3)
  clear hT hna hnb i1 i2 i3 ha0 hx
  obtain ⟨A, ca, rfl, hca, _⟩ := ha.form
  obtain ⟨B, cb, rfl, hcb, _⟩ := hb.form
  have h0 := he.h0
  have h1 := he.h1
  have h2 := he.h2
  have h3 := he.h3
  clear he ha hb hm
  go_enter Tryz.func51, Tryz.ntmps51
  go_wp2_with fail
  refine (HS.out).mono ?_
  rintro e w1 ⟨x, c1, rfl, k⟩
  have KK : Hid (Got w gm a b c T (k1 + k2 + k3) (1 + d) (val B64 al * val B64 bl) w1 x c1) := Lib.hid k
  clear k HS h0 h1 h2 h3
  go_wp2
  go_ret2
  exact ⟨x, c1, rfl, KK.out⟩
set_option maxRecDepth 100000 in
theorem gone3_no (w : World) (g0 g1 g2 g3 gm : Nat) (va vb : Value) (al bl : List Int) (he : Eng w g0 g1 g2 g3 gm) (ha : Sl w va al) (hb : Sl w vb bl) (hl : al.length ≤ 4096) (hl2 : bl.length ≤ 4096) (hx : min al.length bl.length ≤ (max al.length bl.length + 1) / 2) :
    Calls Tryz.prog 51 #[.pointer (some ⟨g0, 0, none⟩), .int .i64 3, va, vb] w fun e w' => e = .returned (.tuple #[.slice none 0 0, .bool false]) ∧ w' = w := by
  have HS := Lib.hid (kara_no w g2 va vb (.func (.func 45) #[.pointer (some ⟨g0, 0, none⟩)] #[]) al bl ha hb hx (by omega) (by omega))
  have hm := hx
  obtain ⟨A, ca, rfl, hca, _⟩ := ha.form
  obtain ⟨B, cb, rfl, hcb, _⟩ := hb.form
  have h0 := he.h0
  have h1 := he.h1
  have h2 := he.h2
  have h3 := he.h3
  clear he ha hb hm
  clear hx
  go_enter Tryz.func51, Tryz.ntmps51
  go_wp2_with fail
  refine (HS.out).mono ?_
  rintro e w1 ⟨rfl, hw⟩
  clear HS h0 h1 h2 h3
  go_wp2
  go_ret2
  exact ⟨rfl, by first | exact hw | rfl⟩
set_option maxRecDepth 100000 in
theorem gone4_c (w : World) (g0 g1 g2 g3 gm : Nat) (a b d : Int) (c : Mc) (T : Nat → Option Value) (va vb : Value) (al bl : List Int) (k1 k2 k3 : Nat) (he : Eng w g0 g1 g2 g3 gm)
    (hm : Mt w gm a b c) (hT : c.T = T) (hd : 0 ≤ d) (hb1 : b ≤ 1000000) (ha0 : a + ((k1 + k2 + k2 + k2 + k3 : Nat) : Int) ≤ 1000000000000000) (ha : Sl w va al) (hb : Sl w vb bl) (hna : Off va gm) (hnb : Off vb gm) (hl : al.length ≤ 4096) (hl2 : bl.length ≤ 4096)
    (hx : 2 * ((max al.length bl.length + 2) / 3) < min al.length bl.length)
    (i1 : InC w gm 45 #[.pointer (some ⟨g0, 0, none⟩)] (b + 1) T ((max al.length bl.length + 2) / 3) ((max al.length bl.length + 2) / 3) k1 d)
    (i2 : InC w gm 45 #[.pointer (some ⟨g0, 0, none⟩)] (b + 1) T ((max al.length bl.length + 2) / 3 + 1) ((max al.length bl.length + 2) / 3 + 1) k2 d)
    (i3 : InC w gm 45 #[.pointer (some ⟨g0, 0, none⟩)] (b + 1) T (max al.length bl.length - 2 * ((max al.length bl.length + 2) / 3)) (min al.length bl.length - 2 * ((max al.length bl.length + 2) / 3)) k3 d) :
    Calls Tryz.prog 51 #[.pointer (some ⟨g0, 0, none⟩), .int .i64 4, va, vb] w fun e w' => ∃ x c', e = .returned (.tuple #[x, .bool true]) ∧ Got w gm a b c T (k1 + k2 + k2 + k2 + k3) (1 + d) (val B64 al * val B64 bl) w' x c' := by
  have HS := Lib.hid (toom_c w g1 g2 g3 gm 45 #[.pointer (some ⟨g0, 0, none⟩)] a b d c T va vb al bl k1 k2 k3 he.h1 he.h2 he.h3 hm hT hd hb1 ha0 ha hb hna hnb (by omega) (by omega) hx times_ent i1 i2 i3)
  clear hT hna hnb i1 i2 i3 ha0 hx
  obtain ⟨A, ca, rfl, hca, _⟩ := ha.form
  obtain ⟨B, cb, rfl, hcb, _⟩ := hb.form
  have h0 := he.h0
  have h1 := he.h1
  have h2 := he.h2
  have h3 := he.h3
  clear he ha hb hm
  go_enter Tryz.func51, Tryz.ntmps51
  go_wp2_with fail
  refine (HS.out).mono ?_
  rintro e w1 ⟨x, c1, rfl, k⟩
  have KK : Hid (Got w gm a b c T (k1 + k2 + k2 + k2 + k3) (1 + d) (val B64 al * val B64 bl) w1 x c1) := Lib.hid k
  clear k HS h0 h1 h2 h3
  go_wp2
  go_ret2
  exact ⟨x, c1, rfl, KK.out⟩
set_option maxRecDepth 100000 in
theorem gone4_no (w : World) (g0 g1 g2 g3 gm : Nat) (va vb : Value) (al bl : List Int) (he : Eng w g0 g1 g2 g3 gm) (ha : Sl w va al) (hb : Sl w vb bl) (hl : al.length ≤ 4096) (hl2 : bl.length ≤ 4096) (hx : min al.length bl.length ≤ 2 * ((max al.length bl.length + 2) / 3)) :
    Calls Tryz.prog 51 #[.pointer (some ⟨g0, 0, none⟩), .int .i64 4, va, vb] w fun e w' => e = .returned (.tuple #[.slice none 0 0, .bool false]) ∧ w' = w := by
  have HS := Lib.hid (toom_no w g1 va vb (.func (.func 45) #[.pointer (some ⟨g0, 0, none⟩)] #[]) al bl ha hb hx (by omega) (by omega))
  have hm := hx
  obtain ⟨A, ca, rfl, hca, _⟩ := ha.form
  obtain ⟨B, cb, rfl, hcb, _⟩ := hb.form
  have h0 := he.h0
  have h1 := he.h1
  have h2 := he.h2
  have h3 := he.h3
  clear he ha hb hm
  clear hx
  go_enter Tryz.func51, Tryz.ntmps51
  go_wp2_with fail
  refine (HS.out).mono ?_
  rintro e w1 ⟨rfl, hw⟩
  clear HS h0 h1 h2 h3
  go_wp2
  go_ret2
  exact ⟨rfl, by first | exact hw | rfl⟩
set_option maxRecDepth 100000 in
theorem gone5_c (w : World) (g0 g1 g2 g3 gm : Nat) (a b : Int) (c : Mc) (T : Nat → Option Value) (va vb : Value) (al bl : List Int) (he : Eng w g0 g1 g2 g3 gm) (hdb : Db w)
    (hm : Mt w gm a b c) (hT : c.T = T) (ha0 : a ≤ 1000000000000000) (ha : Sl w va al) (hb : Sl w vb bl) (hna : Off va gm) (hnb : Off vb gm) (hla : 0 < al.length) (hlb : 0 < bl.length) (hl : al.length + bl.length ≤ 1024) :
    Calls Tryz.prog 51 #[.pointer (some ⟨g0, 0, none⟩), .int .i64 5, va, vb] w fun e w' => ∃ x c', e = .returned (.tuple #[x, .bool true]) ∧ Got w gm a b c T (transf al.length bl.length 3) 0 (val B64 al * val B64 bl) w' x c' := by
  have HS := Lib.hid (convMul_c w gm a b c va vb al bl hm hdb ha0 ha hb hla hlb hl hna hnb)
  have HT := Lib.hid hT
  clear hT hna hnb hdb
  obtain ⟨A, ca, rfl, hca, _⟩ := ha.form
  obtain ⟨B, cb, rfl, hcb, _⟩ := hb.form
  have h0 := he.h0
  have h1 := he.h1
  have h2 := he.h2
  have h3 := he.h3
  clear he ha hb hm
  go_enter Tryz.func51, Tryz.ntmps51
  go_wp2_with fail
  refine (HS.out).mono ?_
  rintro e w1 ⟨x, rfl, o1, m1, g1'⟩
  have KK : Hid (Got w gm a b c T (transf al.length bl.length 3) 0 (val B64 al * val B64 bl) w1 x c) := Lib.hid ⟨o1, m1, ⟨HT.out, Int.le_refl _, .inl (Int.le_refl _)⟩, g1'⟩
  clear o1 m1 g1' HS h0 h1 h2 h3
  go_wp2
  go_ret2
  exact ⟨x, c, rfl, KK.out⟩
set_option maxRecDepth 100000 in
theorem gone_bad (w : World) (g0 : Nat) (r : Int) (va vb : Value) (al bl : List Int) (ha : Sl w va al) (hb : Sl w vb bl) (hr : r < 0 ∨ 5 < r) :
    Calls Tryz.prog 51 #[.pointer (some ⟨g0, 0, none⟩), .int .i64 r, va, vb] w fun e w' => e = .returned (.tuple #[.slice none 0 0, .bool false]) ∧ w' = w := by
  obtain ⟨A, ca, rfl, hca, _⟩ := ha.form
  obtain ⟨B, cb, rfl, hcb, _⟩ := hb.form
  have q0 : (r == 0) = false := by simp; omega
  have q1 : (r == 1) = false := by simp; omega
  have q2 : (r == 2) = false := by simp; omega
  have q3 : (r == 3) = false := by simp; omega
  have q4 : (r == 4) = false := by simp; omega
  have q5 : (r == 5) = false := by simp; omega
  clear ha hb hr
  go_enter Tryz.func51, Tryz.ntmps51
  go_wp2
  go_ret2
  exact ⟨rfl, rfl⟩
set_option maxRecDepth 100000 in
theorem times_go (w : World) (g0 g1 g2 g3 gm : Nat) (a b : Int) (c : Mc) (t : Tb) (va vb : Value) (al bl : List Int) (r k : Nat) (D : Int) (P : Nat) (he : Eng w g0 g1 g2 g3 gm)
    (hm : Mt w gm a b c) (hT : c.T = tbT t) (ht : TbOk t) (ha : Sl w va al) (hb : Sl w vb bl) (hl : al.length ≤ 4096) (hl2 : bl.length ≤ 4096)
    (hr : rt t (max al.length bl.length) (min al.length bl.length) = r)
    (HG : ∀ W1, w.grownBy W1 none → Calls Tryz.prog 51 #[.pointer (some ⟨g0, 0, none⟩), .int .i64 r, va, vb] W1 fun e w' => ∃ x c', e = .returned (.tuple #[x, .bool true]) ∧ Got W1 gm a b c (tbT t) k D P w' x c') :
    Calls Tryz.prog 45 #[.pointer (some ⟨g0, 0, none⟩), va, vb] w fun e w' => ∃ x c', e = .returned x ∧ Got w gm a b c (tbT t) k D P w' x c' := by
  have HR := Lib.hid (tuneRoute_c w gm t a b c al.length bl.length hm hT ht (by omega) (by omega))
  rw [hr] at HR
  have HGG := Lib.hid HG
  obtain ⟨A, ca, rfl, hca, _⟩ := ha.form
  obtain ⟨B, cb, rfl, hcb, _⟩ := hb.form
  obtain ⟨n, hn⟩ : ∃ n, n = al.length := ⟨_, rfl⟩
  obtain ⟨m, hm'⟩ : ∃ m, m = bl.length := ⟨_, rfl⟩
  rw [← hn, ← hm'] at HR HGG ⊢
  rw [← hn] at hca hl
  rw [← hm'] at hcb hl2
  have h0 := he.h0
  have h1 := he.h1
  have h2 := he.h2
  have h3 := he.h3
  clear he ha hb hm hr HG hn hm' hT ht
  go_enter Tryz.func45, Tryz.ntmps45
  go_wp2_with fail
  refine (HR.out).mono ?_
  rintro e w1 ⟨rfl, g1'⟩
  have G1 := Lib.hid g1'
  clear g1' HR h0 h1 h2 h3
  go_wp2_with fail
  refine (HGG.out _ G1.out).mono ?_
  rintro e w2 ⟨x, c2, rfl, k⟩
  have KK := Lib.hid (k.from G1.out)
  clear k HGG
  go_wp2
  go_ret
  exact ⟨x, c2, rfl, KK.out⟩
end Go.Proofs.YtldkiddoajlohaaGreatDoor

/- What products cost. Plain. -/
namespace Go.Proofs.YtldkiddoajlohaaGreatDoor
open Go.RowKit

/-- What a product of n by m words costs; f: no fewer than the words together. -/
def costF (t : Tb) : Nat → Nat → Nat → Nat
  | 0, _, _ => 0
  | f + 1, n, m =>
    if rt t (max n m) (min n m) = 1 then max n m * min n m
    else if rt t (max n m) (min n m) = 2 then pall (max n m) (min n m) (costF t f (min n m) (min n m)) (costF t f (max n m % min n m) (min n m))
    else if rt t (max n m) (min n m) = 3 then costF t f ((max n m + 1) / 2) ((max n m + 1) / 2) + costF t f (max n m - (max n m + 1) / 2) (min n m - (max n m + 1) / 2) + costF t f ((max n m + 1) / 2 + 1) ((max n m + 1) / 2 + 1)
    else if rt t (max n m) (min n m) = 4 then costF t f ((max n m + 2) / 3) ((max n m + 2) / 3) + costF t f ((max n m + 2) / 3 + 1) ((max n m + 2) / 3 + 1) + costF t f ((max n m + 2) / 3 + 1) ((max n m + 2) / 3 + 1) + costF t f ((max n m + 2) / 3 + 1) ((max n m + 2) / 3 + 1) + costF t f (max n m - 2 * ((max n m + 2) / 3)) (min n m - 2 * ((max n m + 2) / 3))
    else if rt t (max n m) (min n m) = 5 then transf (max n m) (min n m) 3
    else 0
/-- What each route asks for. -/
theorem rt_0 {t : Tb} {n m : Nat} (h : rt t n m = 0) : m = 0 := by
  by_cases hm : m = 0
  · exact hm
  · unfold rt at h
    rw [if_neg hm] at h
    repeat' split at h
    all_goals omega
theorem rt_1 {t : Tb} {n m : Nat} (h : rt t n m = 1) : 0 < m ∧ (m : Int) < t.eb := by
  unfold rt at h; repeat' split at h <;> first | omega | skip
theorem rt_2 {t : Tb} {n m : Nat} (h : rt t n m = 2) : 0 < m ∧ t.eb ≤ (m : Int) ∧ 2 * m ≤ n + 1 := by
  unfold rt at h; repeat' split at h <;> first | omega | skip
theorem rt_3 {t : Tb} {n m : Nat} (h : rt t n m = 3) : 0 < m ∧ t.eb ≤ (m : Int) ∧ n + 1 < 2 * m ∧ ((m : Int) < t.et ∨ ((n + m : Nat) : Int) < t.en) := by
  unfold rt at h; repeat' split at h <;> first | omega | skip
theorem rt_4 {t : Tb} {n m : Nat} (h : rt t n m = 4) : 0 < m ∧ t.eb ≤ (m : Int) ∧ n + 1 < 2 * m ∧ t.et ≤ (m : Int) ∧ ((n + m : Nat) : Int) < t.en ∧ 2 * ((n + 2) / 3) < m := by
  unfold rt at h; repeat' split at h <;> first | omega | skip
theorem rt_5 {t : Tb} {n m : Nat} (h : rt t n m = 5) : 0 < m ∧ t.eb ≤ (m : Int) ∧ n + 1 < 2 * m ∧ t.et ≤ (m : Int) ∧ t.en ≤ ((n + m : Nat) : Int) := by
  unfold rt at h; repeat' split at h <;> first | omega | skip
theorem costF_eq {t : Tb} (ht : TbOk t) : ∀ (s n m f g : Nat), n + m ≤ s → n + m < f → n + m < g → costF t f n m = costF t g n m := by
  intro s
  induction s with
  | zero =>
    intro n m f g h1 h2 h3
    obtain ⟨f, rfl⟩ : ∃ k, f = k + 1 := ⟨f - 1, by omega⟩
    obtain ⟨g, rfl⟩ : ∃ k, g = k + 1 := ⟨g - 1, by omega⟩
    obtain rfl : n = 0 := by omega
    obtain rfl : m = 0 := by omega
    have r0 : rt t (max 0 0) (min 0 0) = 0 := by unfold rt; simp
    unfold costF
    rw [r0]
    rfl
  | succ s ih =>
    intro n m f g h1 h2 h3
    obtain ⟨f, rfl⟩ : ∃ k, f = k + 1 := ⟨f - 1, by omega⟩
    obtain ⟨g, rfl⟩ : ∃ k, g = k + 1 := ⟨g - 1, by omega⟩
    have b4 := ht.eb.1
    unfold costF
    obtain ⟨N, hN⟩ : ∃ N, N = max n m := ⟨_, rfl⟩
    obtain ⟨M, hM⟩ : ∃ N, N = min n m := ⟨_, rfl⟩
    have hs : N + M = n + m := by omega
    have hMN : M ≤ N := by omega
    rw [← hN, ← hM]
    by_cases c1 : rt t N M = 1
    · rw [if_pos c1, if_pos c1]
    rw [if_neg c1, if_neg c1]
    by_cases c2 : rt t N M = 2
    · have q := rt_2 c2
      have lt := Nat.mod_lt N q.1
      rw [if_pos c2, if_pos c2, ih M M f g (by omega) (by omega) (by omega), ih (N % M) M f g (by omega) (by omega) (by omega)]
    rw [if_neg c2, if_neg c2]
    by_cases c3 : rt t N M = 3
    · have q := rt_3 c3
      rw [if_pos c3, if_pos c3, ih ((N + 1) / 2) ((N + 1) / 2) f g (by omega) (by omega) (by omega), ih (N - (N + 1) / 2) (M - (N + 1) / 2) f g (by omega) (by omega) (by omega), ih ((N + 1) / 2 + 1) ((N + 1) / 2 + 1) f g (by omega) (by omega) (by omega)]
    rw [if_neg c3, if_neg c3]
    by_cases c4 : rt t N M = 4
    · have q := rt_4 c4
      rw [if_pos c4, if_pos c4, ih ((N + 2) / 3) ((N + 2) / 3) f g (by omega) (by omega) (by omega), ih ((N + 2) / 3 + 1) ((N + 2) / 3 + 1) f g (by omega) (by omega) (by omega), ih (N - 2 * ((N + 2) / 3)) (M - 2 * ((N + 2) / 3)) f g (by omega) (by omega) (by omega)]
    rw [if_neg c4, if_neg c4]
def cost (t : Tb) (n m : Nat) : Nat := costF t (n + m + 1) n m
theorem costF_cost {t : Tb} (ht : TbOk t) {f n m : Nat} (h : n + m < f) : costF t f n m = cost t n m := costF_eq ht (n + m) n m f _ (Nat.le_refl _) h (Nat.lt_succ_self _)
theorem costF_comm (t : Tb) : ∀ f n m, costF t f n m = costF t f m n
  | 0, _, _ => rfl
  | f + 1, n, m => by unfold costF; rw [Nat.max_comm, Nat.min_comm]
theorem cost_comm (t : Tb) (n m : Nat) : cost t n m = cost t m n := by unfold cost; rw [Nat.add_comm n m]; exact costF_comm t _ n m
/-- The cost, for n the greater one. -/
theorem cost_1 {t : Tb} {n m : Nat} (hnm : m ≤ n) (h : rt t n m = 1) : cost t n m = n * m := by
  unfold cost costF; rw [Nat.max_eq_left hnm, Nat.min_eq_right hnm, if_pos h]
theorem cost_2 {t : Tb} (ht : TbOk t) {n m : Nat} (hnm : m ≤ n) (h : rt t n m = 2) : cost t n m = pall n m (cost t m m) (cost t (n % m) m) := by
  have q := rt_2 h
  have b4 := ht.eb.1
  have lt := Nat.mod_lt n q.1
  unfold cost costF
  rw [Nat.max_eq_left hnm, Nat.min_eq_right hnm, if_neg (by omega), if_pos h]
  exact congr (congrArg (pall n m) (costF_cost ht (by omega))) (costF_cost ht (by omega))
theorem cost_3 {t : Tb} (ht : TbOk t) {n m : Nat} (hnm : m ≤ n) (h : rt t n m = 3) : cost t n m = cost t ((n + 1) / 2) ((n + 1) / 2) + cost t (n - (n + 1) / 2) (m - (n + 1) / 2) + cost t ((n + 1) / 2 + 1) ((n + 1) / 2 + 1) := by
  have q := rt_3 h
  have b4 := ht.eb.1
  conv => lhs; unfold cost costF
  rw [Nat.max_eq_left hnm, Nat.min_eq_right hnm, if_neg (by omega), if_neg (by omega), if_pos h, costF_cost ht (by omega), costF_cost ht (by omega), costF_cost ht (by omega)]
theorem cost_4 {t : Tb} (ht : TbOk t) {n m : Nat} (hnm : m ≤ n) (h : rt t n m = 4) : cost t n m = cost t ((n + 2) / 3) ((n + 2) / 3) + cost t ((n + 2) / 3 + 1) ((n + 2) / 3 + 1) + cost t ((n + 2) / 3 + 1) ((n + 2) / 3 + 1) + cost t ((n + 2) / 3 + 1) ((n + 2) / 3 + 1) + cost t (n - 2 * ((n + 2) / 3)) (m - 2 * ((n + 2) / 3)) := by
  have q := rt_4 h
  have b4 := ht.eb.1
  conv => lhs; unfold cost costF
  rw [Nat.max_eq_left hnm, Nat.min_eq_right hnm, if_neg (by omega), if_neg (by omega), if_neg (by omega), if_pos h, costF_cost ht (by omega), costF_cost ht (by omega), costF_cost ht (by omega)]
theorem cost_5 {t : Tb} {n m : Nat} (hnm : m ≤ n) (h : rt t n m = 5) : cost t n m = transf n m 3 := by
  unfold cost costF; rw [Nat.max_eq_left hnm, Nat.min_eq_right hnm, if_neg (by omega), if_neg (by omega), if_neg (by omega), if_neg (by omega), if_pos h]
theorem cost_0 {t : Tb} {n m : Nat} (hnm : m ≤ n) (h : rt t n m = 0) : cost t n m = 0 := by
  unfold cost costF; rw [Nat.max_eq_left hnm, Nat.min_eq_right hnm, if_neg (by omega), if_neg (by omega), if_neg (by omega), if_neg (by omega), if_neg (by omega)]
theorem cost_small {t : Tb} (ht : TbOk t) {n : Nat} (h : n ≤ 3) : cost t n n = n * n := by
  have b4 := ht.eb.1
  by_cases h0 : n = 0
  · subst h0
    exact cost_0 (Nat.le_refl _) (by unfold rt; simp)
  · refine cost_1 (Nat.le_refl _) ?_
    unfold rt
    rw [if_neg h0, if_pos (by omega)]
theorem cost_bal {t : Tb} (ht : TbOk t) : ∀ n, (((n + n : Nat) : Int) < t.en ∨ (n : Int) < t.et) → cost t n n ≤ 2 * (n * n) := by
  intro n
  induction n using Nat.strongRecOn with
  | _ n ih =>
    intro hn
    have b4 := ht.eb.1
    have b12 := ht.et.1
    have hr := rt_le t n n
    have hcase : rt t n n = 0 ∨ rt t n n = 1 ∨ rt t n n = 2 ∨ rt t n n = 3 ∨ rt t n n = 4 ∨ rt t n n = 5 := by omega
    rcases hcase with c | c | c | c | c | c
    · rw [cost_0 (Nat.le_refl _) c]; omega
    · rw [cost_1 (Nat.le_refl _) c]; omega
    · have := rt_2 c; omega
    · have q := rt_3 c
      rw [cost_3 ht (Nat.le_refl _) c]
      obtain ⟨h, hh⟩ : ∃ h, h = (n + 1) / 2 := ⟨_, rfl⟩
      rw [← hh]
      have i1 := ih h (by omega) (by omega)
      have i2 := ih (n - h) (by omega) (by omega)
      have i3 := ih (h + 1) (by omega) (by omega)
      by_cases h9 : 9 ≤ n
      · rcases (show n = 2 * h ∨ n = 2 * h - 1 by omega) with e | e
        · rw [show n - h = h by omega] at i2 ⊢
          have e1 : n * n = 4 * (h * h) := by rw [e]; grind
          have e2 : (h + 1) * (h + 1) = h * h + 2 * h + 1 := by grind
          have e3 : 4 * h ≤ h * h := Nat.mul_le_mul_right h (by omega)
          omega
        · obtain ⟨k, rfl⟩ : ∃ k, h = k + 1 := ⟨h - 1, by omega⟩
          rw [show n - (k + 1) = k by omega] at i2 ⊢
          have e1 : n * n = 4 * (k * k) + 4 * k + 1 := by rw [e, show 2 * (k + 1) - 1 = 2 * k + 1 by omega]; grind
          have e2 : (k + 1) * (k + 1) = k * k + 2 * k + 1 := by grind
          have e3 : (k + 1 + 1) * (k + 1 + 1) = k * k + 4 * k + 4 := by grind
          have e4 : 4 * k ≤ k * k := Nat.mul_le_mul_right k (by omega)
          omega
      · have s2 := cost_small ht (n := 2) (by omega)
        have s3 := cost_small ht (n := 3) (by omega)
        rcases (show n = 4 ∨ n = 5 ∨ n = 6 ∨ n = 7 ∨ n = 8 by omega) with rfl | rfl | rfl | rfl | rfl
        · obtain rfl : h = 2 := by omega
          simp only [Nat.reduceSub, Nat.reduceAdd, Nat.reduceMul] at *
          omega
        · obtain rfl : h = 3 := by omega
          simp only [Nat.reduceSub, Nat.reduceAdd, Nat.reduceMul] at *
          omega
        · obtain rfl : h = 3 := by omega
          simp only [Nat.reduceSub, Nat.reduceAdd, Nat.reduceMul] at *
          omega
        · obtain rfl : h = 4 := by omega
          simp only [Nat.reduceSub, Nat.reduceAdd, Nat.reduceMul] at *
          omega
        · obtain rfl : h = 4 := by omega
          simp only [Nat.reduceSub, Nat.reduceAdd, Nat.reduceMul] at *
          omega
    · have q := rt_4 c
      rw [cost_4 ht (Nat.le_refl _) c]
      obtain ⟨k, hk⟩ : ∃ k, k = (n + 2) / 3 := ⟨_, rfl⟩
      rw [← hk]
      have i1 := ih k (by omega) (by omega)
      have i2 := ih (k + 1) (by omega) (by omega)
      have i3 := ih (n - 2 * k) (by omega) (by omega)
      obtain ⟨j, rfl⟩ : ∃ j, k = j + 1 := ⟨k - 1, by omega⟩
      have e1 : (j + 1) * (j + 1) = j * j + 2 * j + 1 := by grind
      have e2 : (j + 1 + 1) * (j + 1 + 1) = j * j + 4 * j + 4 := by grind
      have e3 : (n - 2 * (j + 1)) * (n - 2 * (j + 1)) ≤ (j + 1) * (j + 1) := Nat.mul_le_mul (by omega) (by omega)
      have e4 : (3 * j + 1) * (3 * j + 1) ≤ n * n := Nat.mul_le_mul (by omega) (by omega)
      have e5 : (3 * j + 1) * (3 * j + 1) = 9 * (j * j) + 6 * j + 1 := by grind
      by_cases hj : j = 3
      · subst hj
        obtain rfl : n = 12 := by omega
        omega
      · have e6 : 4 * j ≤ j * j := Nat.mul_le_mul_right j (by omega)
        omega
    · have q := rt_5 c; omega
theorem blen_ge (x : Nat) (h : 0 < x) : 2 ^ (blen x - 1) ≤ x := by
  unfold blen
  rw [if_neg (by omega), Nat.add_sub_cancel]
  exact Nat.log2_self_le (by omega)
theorem transf_le {n m : Nat} (hm : m ≤ n) (h1 : n + 1 < 2 * m) (h2 : 64 ≤ n + m) (h3 : n + m ≤ 1024) : transf n m 3 ≤ 8 * (n * m) := by
  obtain ⟨e, rfl⟩ : ∃ e, n = m + e := ⟨n - m, by omega⟩
  have q9 : 2 * ((m + e + m) * (m + e + m)) ≤ 9 * ((m + e) * m) := by
    obtain ⟨d, rfl⟩ : ∃ d, m = e + d := ⟨m - e, by omega⟩
    have x1 : (e + d + e + (e + d)) * (e + d + e + (e + d)) = 9 * (e * e) + 12 * (e * d) + 4 * (d * d) := by grind
    have x2 : (e + d + e) * (e + d) = 2 * (e * e) + 3 * (e * d) + d * d := by grind
    rw [x1, x2]
    omega
  obtain ⟨s, hs⟩ : ∃ s, s = m + e + m := ⟨_, rfl⟩
  obtain ⟨W, hW⟩ : ∃ W, W = (m + e) * m := ⟨_, rfl⟩
  unfold transf
  rw [← hs] at q9 h2 h3 ⊢
  rw [← hW] at q9 ⊢
  obtain ⟨L, hL⟩ : ∃ L, L = blen (s - 1) := ⟨_, rfl⟩
  have l1 := blen_lt (s - 1)
  have l2 := blen_ge (s - 1) (by omega)
  have l3 := blen_le (s - 1) 10 (by omega)
  rw [← hL] at l1 l2 l3 ⊢
  clear hL
  have l4 : 6 ≤ L := by
    rcases Nat.lt_or_ge L 6 with h | h
    · have := Nat.pow_le_pow_right (n := 2) (by decide) (show L ≤ 5 by omega)
      omega
    · exact h
  rcases (show L = 6 ∨ L = 7 ∨ L = 8 ∨ L = 9 ∨ L = 10 by omega) with rfl | rfl | rfl | rfl | rfl
  · have := Nat.mul_le_mul (show 64 ≤ s by omega) (show 64 ≤ s by omega)
    simp only [Nat.reducePow, Nat.reduceMul, Nat.reduceDiv, Nat.reduceAdd] at *
    omega
  · have := Nat.mul_le_mul (show 65 ≤ s by simp at l2; omega) (show 65 ≤ s by simp at l2; omega)
    simp only [Nat.reducePow, Nat.reduceMul, Nat.reduceDiv, Nat.reduceAdd] at *
    omega
  · have := Nat.mul_le_mul (show 129 ≤ s by simp at l2; omega) (show 129 ≤ s by simp at l2; omega)
    simp only [Nat.reducePow, Nat.reduceMul, Nat.reduceDiv, Nat.reduceAdd] at *
    omega
  · have := Nat.mul_le_mul (show 257 ≤ s by simp at l2; omega) (show 257 ≤ s by simp at l2; omega)
    simp only [Nat.reducePow, Nat.reduceMul, Nat.reduceDiv, Nat.reduceAdd] at *
    omega
  · have := Nat.mul_le_mul (show 513 ≤ s by simp at l2; omega) (show 513 ≤ s by simp at l2; omega)
    simp only [Nat.reducePow, Nat.reduceMul, Nat.reduceDiv, Nat.reduceAdd] at *
    omega
theorem pall_le {n m k1 k2 : Nat} (h1 : k1 ≤ 8 * (m * m)) (h2 : k2 ≤ 8 * (n % m * m)) : pall n m k1 k2 ≤ 8 * (n * m) := by
  have e := Nat.div_add_mod n m
  have e1 : n / m * k1 ≤ n / m * (8 * (m * m)) := Nat.mul_le_mul_left _ h1
  have e2 : n / m * (8 * (m * m)) = 8 * (m * (n / m) * m) := by grind
  have e3 : n * m = m * (n / m) * m + n % m * m := by rw [← Nat.add_mul, e]
  unfold pall
  split <;> omega
theorem cost_le {t : Tb} (ht : TbOk t) : ∀ (s n m : Nat), n + m ≤ s → s ≤ 1024 → cost t n m ≤ 8 * (n * m) := by
  intro s
  induction s with
  | zero =>
    intro n m h _
    obtain rfl : n = 0 := by omega
    obtain rfl : m = 0 := by omega
    rw [cost_small ht (by omega)]
    omega
  | succ s ih =>
    have main : ∀ n m, m ≤ n → n + m ≤ s + 1 → s + 1 ≤ 1024 → cost t n m ≤ 8 * (n * m) := by
      intro n m hmn h1 h2
      have b4 := ht.eb.1
      have b64 := ht.en.1
      have hr := rt_le t n m
      have hcase : rt t n m = 0 ∨ rt t n m = 1 ∨ rt t n m = 2 ∨ rt t n m = 3 ∨ rt t n m = 4 ∨ rt t n m = 5 := by omega
      rcases hcase with c | c | c | c | c | c
      · rw [cost_0 hmn c]; omega
      · rw [cost_1 hmn c]; omega
      · have q := rt_2 c
        have lt := Nat.mod_lt n q.1
        rw [cost_2 ht hmn c]
        exact pall_le (ih m m (by omega) (by omega)) (ih (n % m) m (by omega) (by omega))
      · have q := rt_3 c
        rw [cost_3 ht hmn c]
        obtain ⟨h, hh⟩ : ∃ h, h = (n + 1) / 2 := ⟨_, rfl⟩
        rw [← hh]
        have i1 := cost_bal ht h (by omega)
        have i2 := ih (n - h) (m - h) (by omega) (by omega)
        have i3 := cost_bal ht (h + 1) (by omega)
        obtain ⟨p, rfl⟩ : ∃ p, n = h + p := ⟨n - h, by omega⟩
        obtain ⟨q', rfl⟩ : ∃ p, m = h + p := ⟨m - h, by omega⟩
        rw [Nat.add_sub_cancel_left, Nat.add_sub_cancel_left] at i2 ⊢
        have e1 : (h + p) * (h + q') = h * h + h * p + h * q' + p * q' := by grind
        have e2 : (h + 1) * (h + 1) = h * h + 2 * h + 1 := by grind
        have e3 : 2 * h ≤ h * h := Nat.mul_le_mul_right h (by omega)
        omega
      · have q := rt_4 c
        rw [cost_4 ht hmn c]
        obtain ⟨k, hk⟩ : ∃ k, k = (n + 2) / 3 := ⟨_, rfl⟩
        rw [← hk]
        have i1 := cost_bal ht k (by omega)
        have i2 := ih (n - 2 * k) (m - 2 * k) (by omega) (by omega)
        have i3 := cost_bal ht (k + 1) (by omega)
        obtain ⟨p, rfl⟩ : ∃ p, n = 2 * k + p := ⟨n - 2 * k, by omega⟩
        obtain ⟨q', rfl⟩ : ∃ p, m = 2 * k + p := ⟨m - 2 * k, by omega⟩
        rw [Nat.add_sub_cancel_left, Nat.add_sub_cancel_left] at i2 ⊢
        have e1 : (2 * k + p) * (2 * k + q') = 4 * (k * k) + 2 * (k * p) + 2 * (k * q') + p * q' := by grind
        have e2 : (k + 1) * (k + 1) = k * k + 2 * k + 1 := by grind
        have e3 : 2 * k ≤ k * k := Nat.mul_le_mul_right k (by omega)
        omega
      · have q := rt_5 c
        rw [cost_5 hmn c]
        exact transf_le hmn q.2.2.1 (by omega) (by omega)
    intro n m h1 h2
    rcases Nat.le_total m n with h | h
    · exact main n m h h1 h2
    · rw [cost_comm, Nat.mul_comm n m]
      exact main m n h (by omega) h2
theorem cost_lim {t : Tb} (ht : TbOk t) {n m : Nat} (h : n + m ≤ 1024) : cost t n m ≤ 10000000 := by
  have h1 := cost_le ht 1024 n m h (by omega)
  have h2 : n * m ≤ 1024 * 1024 := Nat.mul_le_mul (by omega) (by omega)
  omega
/-- What the square of n words costs. -/
def sqF (t : Tb) : Nat → Nat → Nat
  | 0, _ => 0
  | f + 1, n =>
    if rt t n n = 1 then n * (n + 1) / 2
    else if rt t n n = 3 then sqF t f ((n + 1) / 2) + sqF t f (n - (n + 1) / 2) + sqF t f ((n + 1) / 2 + 1)
    else if rt t n n = 4 then sqF t f ((n + 2) / 3) + sqF t f ((n + 2) / 3 + 1) + sqF t f ((n + 2) / 3 + 1) + sqF t f ((n + 2) / 3 + 1) + sqF t f (n - 2 * ((n + 2) / 3))
    else if rt t n n = 5 then transf n n 2
    else 0
theorem sqF_eq {t : Tb} (ht : TbOk t) : ∀ (s n f g : Nat), n ≤ s → n < f → n < g → sqF t f n = sqF t g n := by
  intro s
  induction s with
  | zero =>
    intro n f g h1 h2 h3
    obtain ⟨f, rfl⟩ : ∃ k, f = k + 1 := ⟨f - 1, by omega⟩
    obtain ⟨g, rfl⟩ : ∃ k, g = k + 1 := ⟨g - 1, by omega⟩
    obtain rfl : n = 0 := by omega
    have r0 : rt t 0 0 = 0 := by unfold rt; simp
    unfold sqF
    rw [r0]
    rfl
  | succ s ih =>
    intro n f g h1 h2 h3
    obtain ⟨f, rfl⟩ : ∃ k, f = k + 1 := ⟨f - 1, by omega⟩
    obtain ⟨g, rfl⟩ : ∃ k, g = k + 1 := ⟨g - 1, by omega⟩
    have b4 := ht.eb.1
    unfold sqF
    by_cases c1 : rt t n n = 1
    · rw [if_pos c1, if_pos c1]
    rw [if_neg c1, if_neg c1]
    by_cases c3 : rt t n n = 3
    · have q := rt_3 c3
      rw [if_pos c3, if_pos c3, ih ((n + 1) / 2) f g (by omega) (by omega) (by omega), ih (n - (n + 1) / 2) f g (by omega) (by omega) (by omega), ih ((n + 1) / 2 + 1) f g (by omega) (by omega) (by omega)]
    rw [if_neg c3, if_neg c3]
    by_cases c4 : rt t n n = 4
    · have q := rt_4 c4
      rw [if_pos c4, if_pos c4, ih ((n + 2) / 3) f g (by omega) (by omega) (by omega), ih ((n + 2) / 3 + 1) f g (by omega) (by omega) (by omega), ih (n - 2 * ((n + 2) / 3)) f g (by omega) (by omega) (by omega)]
    rw [if_neg c4, if_neg c4]
def sq (t : Tb) (n : Nat) : Nat := sqF t (n + 1) n
theorem sqF_sq {t : Tb} (ht : TbOk t) {f n : Nat} (h : n < f) : sqF t f n = sq t n := sqF_eq ht n n f _ (Nat.le_refl _) h (Nat.lt_succ_self _)
theorem sq_1 {t : Tb} {n : Nat} (h : rt t n n = 1) : sq t n = n * (n + 1) / 2 := by unfold sq sqF; rw [if_pos h]
theorem sq_3 {t : Tb} (ht : TbOk t) {n : Nat} (h : rt t n n = 3) : sq t n = sq t ((n + 1) / 2) + sq t (n - (n + 1) / 2) + sq t ((n + 1) / 2 + 1) := by
  have q := rt_3 h
  have b4 := ht.eb.1
  conv => lhs; unfold sq sqF
  rw [if_neg (by omega), if_pos h, sqF_sq ht (by omega), sqF_sq ht (by omega), sqF_sq ht (by omega)]
theorem sq_4 {t : Tb} (ht : TbOk t) {n : Nat} (h : rt t n n = 4) : sq t n = sq t ((n + 2) / 3) + sq t ((n + 2) / 3 + 1) + sq t ((n + 2) / 3 + 1) + sq t ((n + 2) / 3 + 1) + sq t (n - 2 * ((n + 2) / 3)) := by
  have q := rt_4 h
  have b4 := ht.eb.1
  conv => lhs; unfold sq sqF
  rw [if_neg (by omega), if_neg (by omega), if_pos h, sqF_sq ht (by omega), sqF_sq ht (by omega), sqF_sq ht (by omega)]
theorem sq_5 {t : Tb} {n : Nat} (h : rt t n n = 5) : sq t n = transf n n 2 := by unfold sq sqF; rw [if_neg (by omega), if_neg (by omega), if_neg (by omega), if_pos h]
theorem sq_0 {t : Tb} {n : Nat} (h : rt t n n = 0) : sq t n = 0 := by unfold sq sqF; rw [if_neg (by omega), if_neg (by omega), if_neg (by omega), if_neg (by omega)]
theorem sq_le {t : Tb} (ht : TbOk t) : ∀ n, sq t n ≤ cost t n n := by
  intro n
  induction n using Nat.strongRecOn with
  | _ n ih =>
    have b4 := ht.eb.1
    have hr := rt_le t n n
    have hcase : rt t n n = 0 ∨ rt t n n = 1 ∨ rt t n n = 2 ∨ rt t n n = 3 ∨ rt t n n = 4 ∨ rt t n n = 5 := by omega
    rcases hcase with c | c | c | c | c | c
    · rw [sq_0 c]; omega
    · rw [cost_1 (Nat.le_refl _) c, sq_1 c]
      rcases Nat.eq_zero_or_pos n with rfl | hp
      · omega
      · have : n * (n + 1) ≤ n * (2 * n) := Nat.mul_le_mul_left n (by omega)
        have e : n * (2 * n) = 2 * (n * n) := by grind
        omega
    · have := rt_2 c; omega
    · have q := rt_3 c
      rw [cost_3 ht (Nat.le_refl _) c, sq_3 ht c]
      have i1 := ih ((n + 1) / 2) (by omega)
      have i2 := ih (n - (n + 1) / 2) (by omega)
      have i3 := ih ((n + 1) / 2 + 1) (by omega)
      omega
    · have q := rt_4 c
      rw [cost_4 ht (Nat.le_refl _) c, sq_4 ht c]
      have i1 := ih ((n + 2) / 3) (by omega)
      have i2 := ih ((n + 2) / 3 + 1) (by omega)
      have i3 := ih (n - 2 * ((n + 2) / 3)) (by omega)
      omega
    · rw [cost_5 (Nat.le_refl _) c, sq_5 c]
      unfold transf
      obtain ⟨S, hS⟩ : ∃ S, S = 2 ^ blen (n + n - 1) / 2 := ⟨_, rfl⟩
      rw [← hS]
      have := Nat.mul_le_mul_right (blen (n + n - 1)) (Nat.mul_le_mul_right S (show 2 ≤ 3 by decide))
      omega
theorem sq_lim {t : Tb} (ht : TbOk t) {n : Nat} (h : n ≤ 512) : sq t n ≤ 10000000 := Nat.le_trans (sq_le ht n) (cost_lim ht (by omega))
/-- How many levels a product of words no more than n each goes down. -/
def lev (n : Nat) : Nat := blen (n - 3)
theorem blen_mono {x y : Nat} (h : x ≤ y) : blen x ≤ blen y := blen_le _ _ (Nat.lt_of_le_of_lt h (blen_lt y))
theorem lev_mono {x y : Nat} (h : x ≤ y) : lev x ≤ lev y := blen_mono (by omega)
theorem lev_half {n : Nat} (h : 4 ≤ n) : 1 + lev ((n + 1) / 2 + 1) ≤ lev n := by
  unfold lev
  by_cases h4 : n = 4
  · subst h4
    have e0 : blen 0 = 0 := rfl
    have e1 := blen_lt 1
    show 1 + blen 0 ≤ blen 1
    rw [e0]
    rcases Nat.eq_zero_or_pos (blen 1) with hz | hz
    · rw [hz] at e1; omega
    · omega
  have e := blen_div 1 (n - 3) (by omega)
  rw [e]
  have : blen ((n + 1) / 2 + 1 - 3) ≤ blen ((n - 3) / 2 ^ 1) := blen_mono (by omega)
  omega
theorem lev_le (n : Nat) (h : n ≤ 1024) : lev n ≤ 11 := blen_le _ 11 (by omega)
end Go.Proofs.YtldkiddoajlohaaGreatDoor

/- Products of any two: by the table. -/
namespace Go.Proofs.YtldkiddoajlohaaGreatDoor
open Go.RowKit

theorem Got.mono {w w' : World} {gm k P : Nat} {a b D D' : Int} {c c' : Mc} {T : Nat → Option Value} {x : Value} (h : Got w gm a b c T k D P w' x c') (hd : D ≤ D') : Got w gm a b c T k D' P w' x c' :=
  ⟨h.1, h.2.1, ⟨h.2.2.1.1, h.2.2.1.2.1, by have := h.2.2.1.2.2; omega⟩, h.2.2.2⟩
theorem cost_mm (t : Tb) (n m : Nat) : cost t n m = cost t (max n m) (min n m) := by
  rcases Nat.le_total m n with h | h
  · rw [Nat.max_eq_left h, Nat.min_eq_right h]
  · rw [Nat.max_eq_right h, Nat.min_eq_left h, cost_comm]
theorem transf_mm (n m k : Nat) : transf n m k = transf (max n m) (min n m) k := by
  unfold transf; rw [show max n m + min n m = n + m by omega]
theorem mul_mm (n m : Nat) : n * m = max n m * min n m := by
  rcases Nat.le_total m n with h | h
  · rw [Nat.max_eq_left h, Nat.min_eq_right h]
  · rw [Nat.max_eq_right h, Nat.min_eq_left h, Nat.mul_comm]
theorem val_zero_of {al bl : List Int} (h : min al.length bl.length = 0) : val B64 al * val B64 bl = 0 := by
  by_cases ha : al.length = 0
  · rw [List.eq_nil_of_length_eq_zero ha]; simp [val]
  · rw [List.eq_nil_of_length_eq_zero (show bl.length = 0 by omega)]; simp [val]
/-- The laid tables, whatever grows. -/
def DbG (w : World) (gm : Nat) : Prop := ∀ W, w.grownBy W (some gm) → Db W
theorem DbG.grown {w w' : World} {gm : Nat} (h : DbG w gm) (g : w.grownBy w' (some gm)) : DbG w' gm := fun W G => h W (gb_trans g G)
theorem DbG.of {w : World} {gm : Nat} {a b : Int} {c : Mc} (h : Db w) (m : Mt w gm a b c) : DbG w gm := fun _ g => h.grown m g
theorem times_all {t : Tb} (ht : TbOk t) : ∀ (s n m : Nat), n + m ≤ s → s ≤ 1024 → ∀ (w : World) (g0 g1 g2 g3 gm : Nat) (b : Int), Eng w g0 g1 g2 g3 gm → DbG w gm → b + ((lev (max n m) : Nat) : Int) ≤ 1000 →
    InC w gm 45 #[.pointer (some ⟨g0, 0, none⟩)] b (tbT t) n m (cost t n m) ((lev (max n m) : Nat) : Int) := by
  intro s
  induction s using Nat.strongRecOn with
  | _ s ih =>
    intro n m hnm hs w g0 g1 g2 g3 gm b he hdb hb W va vb al bl a c G hM hT hk sa sb la lb oa ob
    rw [show (#[.pointer (some ⟨g0, 0, none⟩)] ++ #[va, vb] : Array Value) = #[.pointer (some ⟨g0, 0, none⟩), va, vb] by simp]
    have heW := he.grown G
    have hdW := hdb.grown G
    obtain ⟨K, hK⟩ : ∃ K, K = cost t n m := ⟨_, rfl⟩
    obtain ⟨D, hD⟩ : ∃ D, D = lev (max n m) := ⟨_, rfl⟩
    rw [← hK] at hk ⊢
    rw [← hD] at hb ⊢
    rw [cost_mm] at hK
    refine (times_go W g0 g1 g2 g3 gm a b c t va vb al bl (rt t (max al.length bl.length) (min al.length bl.length)) K (D : Int) (val B64 al * val B64 bl) heW hM hT ht sa sb (by omega) (by omega) rfl ?_).mono (fun e w' k => k)
    intro W1 G1
    have e1 := heW.grown0 G1
    have d1 := hdW.grown (gb_none G1 (some gm))
    have m1 := hM.grown G1
    have sa1 := sa.grown0 G1
    have sb1 := sb.grown0 G1
    subst la lb
    obtain ⟨N, hN⟩ : ∃ N, N = max al.length bl.length := ⟨_, rfl⟩
    obtain ⟨M, hMm⟩ : ∃ N, N = min al.length bl.length := ⟨_, rfl⟩
    rw [← hN, ← hMm] at hK ⊢
    rw [← hN] at hD
    have hMN : M ≤ N := by omega
    have b4 := ht.eb.1
    have hr := rt_le t N M
    have IH : ∀ p q d, p + q < al.length + bl.length → 0 ≤ d → ((lev (max p q) : Nat) : Int) ≤ d → d + 1 = (D : Int) → InC W1 gm 45 #[.pointer (some ⟨g0, 0, none⟩)] (b + 1) (tbT t) p q (cost t p q) d := fun p q d h1 h2 h3 h4 =>
      (ih (p + q) (by omega) p q (Nat.le_refl _) (by omega) W1 g0 g1 g2 g3 gm (b + 1) e1 d1 (by omega)).mono h3
    have bb := hM.b0
    have LV : 4 ≤ N → ∀ p q, p ≤ (N + 1) / 2 + 1 → q ≤ (N + 1) / 2 + 1 → ((lev (max p q) : Nat) : Int) ≤ (D : Int) - 1 ∧ 1 ≤ (D : Int) := fun h4 p q hp hq => by
      have h1 := lev_half h4
      have h2 := lev_mono (show max p q ≤ (N + 1) / 2 + 1 by omega)
      omega
    have hcase : rt t N M = 0 ∨ rt t N M = 1 ∨ rt t N M = 2 ∨ rt t N M = 3 ∨ rt t N M = 4 ∨ rt t N M = 5 := by omega
    rcases hcase with cc | cc | cc | cc | cc | cc
    · rw [cc]
      rw [cost_0 hMN cc] at hK
      refine (gone0_c W1 g0 va vb al bl sa1 sb1).mono ?_
      rintro e w' ⟨rfl, rfl⟩
      refine ⟨.slice none 0 0, c, rfl, ⟨[], own_nil _ _, nz_nil, ?_⟩, ?_, ⟨hT, Int.le_refl _, .inl (Int.le_refl _)⟩, gb_refl _ _⟩
      · rw [val_zero_of (by have := rt_0 cc; omega)]; rfl
      · rw [hK, show a + ((0 : Nat) : Int) = a by omega]; exact m1
    · rw [cc]
      rw [cost_1 hMN cc, hN, hMm, ← mul_mm] at hK
      rw [hK]
      exact (gone1_c W1 g0 g1 g2 g3 gm a b c (tbT t) va vb al bl e1 m1 hT (by omega) sa1 sb1 oa ob (by omega) (by omega)).mono fun e w' ⟨x, c', h1, h2⟩ => ⟨x, c', h1, h2.mono (by omega)⟩
    · have q := rt_2 cc
      have lt := Nat.mod_lt N q.1
      rw [cc]
      rw [cost_2 ht hMN cc] at hK
      have l1 := LV (by omega) M M (by omega) (by omega)
      have l2 := LV (by omega) (N % M) M (by omega) (by omega)
      have := gone2_c W1 g0 g1 g2 g3 gm a b ((D : Int) - 1) c (tbT t) va vb al bl (cost t M M) (cost t (N % M) M) e1 m1 hT (by omega) (by omega) (by rw [← hN, ← hMm, ← hK]; exact hk) sa1 sb1 oa ob (by omega) (by omega) (by rw [← hMm]; exact q.1) (by rw [← hMm]; exact IH _ _ _ (by omega) (by omega) l1.1 (by omega)) (fun _ => by rw [← hMm, ← hN]; exact IH _ _ _ (by omega) (by omega) l2.1 (by omega))
      rw [← hN, ← hMm, ← hK] at this
      exact this.mono fun e w' ⟨x, c', h1, h2⟩ => ⟨x, c', h1, h2.mono (by omega)⟩
    · have q := rt_3 cc
      rw [cc]
      rw [cost_3 ht hMN cc] at hK
      have l1 := LV (by omega) ((N + 1) / 2) ((N + 1) / 2) (by omega) (by omega)
      have l2 := LV (by omega) (N - (N + 1) / 2) (M - (N + 1) / 2) (by omega) (by omega)
      have l3 := LV (by omega) ((N + 1) / 2 + 1) ((N + 1) / 2 + 1) (by omega) (by omega)
      have := gone3_c W1 g0 g1 g2 g3 gm a b ((D : Int) - 1) c (tbT t) va vb al bl _ _ _ e1 m1 hT (by omega) (by omega) (by rw [← hK]; exact hk) sa1 sb1 oa ob (by omega) (by omega) (by rw [← hMm, ← hN]; omega) (by rw [← hN]; exact IH _ _ _ (by omega) (by omega) l1.1 (by omega)) (by rw [← hMm, ← hN]; exact IH _ _ _ (by omega) (by omega) l2.1 (by omega)) (by rw [← hN]; exact IH _ _ _ (by omega) (by omega) l3.1 (by omega))
      rw [← hK] at this
      exact this.mono fun e w' ⟨x, c', h1, h2⟩ => ⟨x, c', h1, h2.mono (by omega)⟩
    · have q := rt_4 cc
      rw [cc]
      rw [cost_4 ht hMN cc] at hK
      have l1 := LV (by omega) ((N + 2) / 3) ((N + 2) / 3) (by omega) (by omega)
      have l2 := LV (by omega) ((N + 2) / 3 + 1) ((N + 2) / 3 + 1) (by omega) (by omega)
      have l3 := LV (by omega) (N - 2 * ((N + 2) / 3)) (M - 2 * ((N + 2) / 3)) (by omega) (by omega)
      have := gone4_c W1 g0 g1 g2 g3 gm a b ((D : Int) - 1) c (tbT t) va vb al bl _ _ _ e1 m1 hT (by omega) (by omega) (by rw [← hK]; exact hk) sa1 sb1 oa ob (by omega) (by omega) (by rw [← hMm, ← hN]; omega) (by rw [← hN]; exact IH _ _ _ (by omega) (by omega) l1.1 (by omega)) (by rw [← hN]; exact IH _ _ _ (by omega) (by omega) l2.1 (by omega)) (by rw [← hMm, ← hN]; exact IH _ _ _ (by omega) (by omega) l3.1 (by omega))
      rw [← hK] at this
      exact this.mono fun e w' ⟨x, c', h1, h2⟩ => ⟨x, c', h1, h2.mono (by omega)⟩
    · have q := rt_5 cc
      rw [cc]
      rw [cost_5 hMN cc, hN, hMm, ← transf_mm] at hK
      rw [hK]
      exact (gone5_c W1 g0 g1 g2 g3 gm a b c (tbT t) va vb al bl e1 (d1 _ (gb_refl _ _)) m1 hT (by omega) sa1 sb1 oa ob (by omega) (by omega) (by omega)).mono fun e w' ⟨x, c', h1, h2⟩ => ⟨x, c', h1, h2.mono (by omega)⟩
end Go.Proofs.YtldkiddoajlohaaGreatDoor

/- Digits of words: squares by hand. Plain. -/
namespace Go.Proofs.YtldkiddoajlohaaGreatDoor
open Go.RowKit

/-- The products of unlike words of which one is among the first i. -/
def crs (xs : List Int) : Nat → Nat
  | 0 => 0
  | i + 1 => crs xs i + 18446744073709551616 ^ i * ((rd xs i).toNat * (18446744073709551616 ^ (i + 1) * val 18446744073709551616 (xs.drop (i + 1))))
/-- The squares of the first i words. -/
def sqs (xs : List Int) : Nat → Nat
  | 0 => 0
  | i + 1 => sqs xs i + 18446744073709551616 ^ (2 * i) * ((rd xs i).toNat * (rd xs i).toNat)
theorem crs_succ (xs : List Int) (i : Nat) : crs xs (i + 1) = crs xs i + 18446744073709551616 ^ i * ((rd xs i).toNat * (18446744073709551616 ^ (i + 1) * val 18446744073709551616 (xs.drop (i + 1)))) := rfl
theorem sqs_succ (xs : List Int) (i : Nat) : sqs xs (i + 1) = sqs xs i + 18446744073709551616 ^ (2 * i) * ((rd xs i).toNat * (rd xs i).toNat) := rfl
theorem drop_val (xs : List Int) (i : Nat) (hi : i < xs.length) : val 18446744073709551616 (xs.drop i) = (rd xs i).toNat + 18446744073709551616 * val 18446744073709551616 (xs.drop (i + 1)) := by
  rw [List.drop_eq_getElem_cons hi]
  have e : xs[i] = rd xs i := by unfold rd; rw [List.getD_eq_getElem?_getD, List.getElem?_eq_getElem hi]; rfl
  rw [e]; rfl
theorem crs_sqs (xs : List Int) : ∀ i, i ≤ xs.length → 2 * crs xs i + sqs xs i + 18446744073709551616 ^ i * val 18446744073709551616 (xs.drop i) * (18446744073709551616 ^ i * val 18446744073709551616 (xs.drop i)) = val 18446744073709551616 xs * val 18446744073709551616 xs := by
  intro i
  induction i with
  | zero => intro _; simp [crs, sqs]
  | succ i ih =>
    intro hi
    rw [← ih (by omega), drop_val xs i (by omega)]
    obtain ⟨P, hP⟩ : ∃ P, P = 18446744073709551616 ^ i := ⟨_, rfl⟩
    have e1 : 18446744073709551616 ^ (i + 1) = P * 18446744073709551616 := by rw [hP]; exact Nat.pow_succ ..
    have e2 : 18446744073709551616 ^ (2 * i) = P * P := by rw [hP, Nat.two_mul, Nat.pow_add]
    rw [crs_succ, sqs_succ, e1, e2, ← hP]
    obtain ⟨X, hX⟩ : ∃ X, X = (rd xs i).toNat := ⟨_, rfl⟩
    obtain ⟨D, hD⟩ : ∃ X, X = val 18446744073709551616 (xs.drop (i + 1)) := ⟨_, rfl⟩
    obtain ⟨C, hC⟩ : ∃ X, X = crs xs i := ⟨_, rfl⟩
    obtain ⟨S, hS⟩ : ∃ X, X = sqs xs i := ⟨_, rfl⟩
    rw [← hX, ← hD, ← hC, ← hS]
    clear ih hX hD hC hS e1 e2 hP hi
    grind
theorem crs_all {xs : List Int} {n : Nat} (h : n = xs.length) : 2 * crs xs n + sqs xs n = val 18446744073709551616 xs * val 18446744073709551616 xs := by
  have := crs_sqs xs n (by omega)
  rw [List.drop_eq_nil_of_le (by omega)] at this
  simpa [val] using this
structure PqO (xs os : List Int) (n i : Nat) : Prop where
  len : os.length = 2 * n
  ws : Ws os
  z : ∀ k, i + n ≤ k → rd os k = 0
  v : val 18446744073709551616 os = crs xs i
structure PqI (xs os : List Int) (n i j : Nat) (x c : Int) : Prop where
  c0 : 0 ≤ c
  c1 : c < 18446744073709551616
  len : os.length = 2 * n
  ws : Ws os
  z : ∀ k, i + n ≤ k → rd os k = 0
  v : val 18446744073709551616 os + 18446744073709551616 ^ (i + j) * c.toNat + 18446744073709551616 ^ i * (x.toNat * val 18446744073709551616 (xs.take (i + 1))) = crs xs i + 18446744073709551616 ^ i * (x.toNat * val 18446744073709551616 (xs.take j))
theorem PqO.start (xs : List Int) (n : Nat) : PqO xs (List.replicate (2 * n) 0) n 0 := ⟨List.length_replicate, ws_replicate _, fun k _ => rd_zeros _ _, by rw [val_replicate]; simp [crs]⟩
theorem PqO.inner {xs os : List Int} {n i : Nat} (h : PqO xs os n i) (x : Int) : PqI xs os n i (i + 1) x 0 := ⟨by decide, by decide, h.len, h.ws, h.z, by rw [h.v, show (0 : Int).toNat = 0 from rfl, Nat.mul_zero, Nat.add_zero]⟩
theorem pq_arith {V V' P q t o c x y A D : Nat} (hs : V' + P * o = V + P * q) (hv : V + P * c + D = A) (k : q + 18446744073709551616 * t = o + x * y + c) : V' + P * 18446744073709551616 * t + D = A + P * (x * y) := by
  have h := congrArg (P * ·) k
  simp only [Nat.mul_add] at h
  rw [Nat.mul_assoc P 18446744073709551616 t]
  omega
theorem PqI.step {xs os : List Int} {n i j : Nat} {x y c r c' : Int} (h : PqI xs os n i j x c) (hx : 0 ≤ x) (hy : Ws xs) (hi : i < n) (hj : j < n) (ey : y = rd xs j) (br : 0 ≤ r ∧ r < 18446744073709551616) (bc : 0 ≤ c' ∧ c' < 18446744073709551616)
    (e : r + 18446744073709551616 * c' = rd os (i + j) + x * y + c) : PqI xs (os.set (i + j) r) n i (j + 1) x c' := by
  have y0 := rd_w hy j
  rw [← ey] at y0
  have o0 := rd_w h.ws (i + j)
  have c0 := h.c0
  have hk : i + j < os.length := by rw [h.len]; omega
  refine ⟨bc.1, bc.2, by rw [List.length_set, h.len], ws_set h.ws _ br.1 br.2, fun k hk => by rw [rd_set_ne (by omega)]; exact h.z k hk, ?_⟩
  have hv := val_set 18446744073709551616 hk r
  rw [val_take_any 18446744073709551616 xs j, ← ey, ← Nat.add_assoc i j 1, Nat.pow_succ, Nat.mul_add x.toNat, Nat.mul_add (18446744073709551616 ^ i), ← Nat.add_assoc]
  have e2 : 18446744073709551616 ^ i * (x.toNat * (18446744073709551616 ^ j * y.toNat)) = 18446744073709551616 ^ (i + j) * (x.toNat * y.toNat) := by
    rw [Nat.pow_add, Nat.mul_left_comm x.toNat, Nat.mul_assoc]
  rw [e2]
  refine pq_arith hv h.v ?_
  have exy : ((x.toNat * y.toNat : Nat) : Int) = x * y := by rw [Int.natCast_mul, Int.toNat_of_nonneg hx, Int.toNat_of_nonneg y0.1]
  omega
theorem PqI.last {xs os : List Int} {n i : Nat} {x c : Int} (h : PqI xs os n i n x c) (hi : i < n) (hn : n = xs.length) (ex : x = rd xs i) : PqO xs (os.set (i + n) c) n (i + 1) := by
  have c0 := h.c0
  have c1 := h.c1
  have hk : i + n < os.length := by rw [h.len]; omega
  refine ⟨by rw [List.length_set, h.len], ws_set h.ws _ c0 c1, fun k hk => by rw [rd_set_ne (by omega)]; exact h.z k (by omega), ?_⟩
  have hv := val_set 18446744073709551616 hk c
  rw [h.z (i + n) (Nat.le_refl _)] at hv
  have e0 : (0 : Int).toNat = 0 := rfl
  rw [e0, Nat.mul_zero, Nat.add_zero] at hv
  have e := h.v
  rw [List.take_of_length_le (Nat.le_of_eq hn.symm), ← hv, val_take_drop 18446744073709551616 xs (i + 1) (by omega), Nat.mul_add x.toNat, Nat.mul_add (18446744073709551616 ^ i), ex] at e
  show _ = crs xs i + _
  omega
/-- The first i pairs of words doubled, with squares. -/
structure PsI (xs o0 os : List Int) (n i : Nat) (c h : Int) : Prop where
  c0 : 0 ≤ c
  c1 : c ≤ 1
  h0 : 0 ≤ h
  h1 : h ≤ 1
  len : os.length = 2 * n
  ws : Ws os
  z : ∀ k, 2 * i ≤ k → rd os k = rd o0 k
  v : val 18446744073709551616 os + 18446744073709551616 ^ (2 * i) * (c.toNat + h.toNat) = val 18446744073709551616 o0 + val 18446744073709551616 (o0.take (2 * i)) + sqs xs i
theorem PsI.start {xs os : List Int} {n : Nat} (h : PqO xs os n n) : PsI xs os os n 0 0 0 := ⟨by decide, by decide, by decide, by decide, h.len, h.ws, fun _ _ => rfl, by simp [sqs, val]⟩
theorem ps_arith {V V1 V2 P x y s0 s1 c h c' h' A w : Nat} (q1 : V1 + P * x = V + P * s0) (q2 : V2 + P * 18446744073709551616 * y = V1 + P * 18446744073709551616 * s1) (hv : V + P * (c + h) = A)
    (k : s0 + 18446744073709551616 * s1 + 340282366920938463463374607431768211456 * (c' + h') = 2 * x + 36893488147419103232 * y + h + w + c) : V2 + P * 340282366920938463463374607431768211456 * (c' + h') = A + (P * x + P * 18446744073709551616 * y) + P * w := by
  have h := congrArg (P * ·) k
  simp only [Nat.mul_add] at h hv ⊢
  rw [Nat.mul_assoc P 18446744073709551616 y, Nat.mul_assoc P 18446744073709551616 s1] at q2
  rw [Nat.mul_assoc P 18446744073709551616 y, Nat.mul_assoc P 340282366920938463463374607431768211456, Nat.mul_assoc P 340282366920938463463374607431768211456]
  have e1 : P * (36893488147419103232 * y) = 2 * (P * (18446744073709551616 * y)) := by grind
  have e2 : P * (2 * x) = 2 * (P * x) := by grind
  omega
theorem PsI.step {xs o0 os : List Int} {n i : Nat} {c h x y w s0 s1 c' h' : Int} (p : PsI xs o0 os n i c h) (hx : Ws xs) (ho : Ws o0) (hi : i < n) (ex : x = rd o0 (2 * i)) (ey : y = rd o0 (2 * i + 1)) (ew : w = rd xs i) (b0 : 0 ≤ s0 ∧ s0 < 18446744073709551616) (b1 : 0 ≤ s1 ∧ s1 < 18446744073709551616) (bc : 0 ≤ c' ∧ c' ≤ 1) (bh : 0 ≤ h' ∧ h' ≤ 1)
    (e : s0 + 18446744073709551616 * s1 + 340282366920938463463374607431768211456 * (c' + h') = 2 * x + 36893488147419103232 * y + h + w * w + c) : PsI xs o0 ((os.set (2 * i) s0).set (2 * i + 1) s1) n (i + 1) c' h' := by
  have x0 := rd_w ho (2 * i)
  rw [← ex] at x0
  have y0 := rd_w ho (2 * i + 1)
  rw [← ey] at y0
  have w0 := rd_w hx i
  rw [← ew] at w0
  have c0 := p.c0
  have h0 := p.h0
  refine ⟨bc.1, bc.2, bh.1, bh.2, by rw [List.length_set, List.length_set, p.len], ws_set (ws_set p.ws _ b0.1 b0.2) _ b1.1 b1.2, fun k hk => by rw [rd_set_ne (by omega), rd_set_ne (by omega)]; exact p.z k (by omega), ?_⟩
  have q1 := val_set 18446744073709551616 (xs := os) (k := 2 * i) (by rw [p.len]; omega) s0
  have q2 := val_set 18446744073709551616 (xs := os.set (2 * i) s0) (k := 2 * i + 1) (by rw [List.length_set, p.len]; omega) s1
  rw [rd_set_ne (by omega), p.z (2 * i + 1) (by omega), ← ey, Nat.pow_succ] at q2
  rw [p.z (2 * i) (by omega), ← ex] at q1
  have t1 := val_take_any 18446744073709551616 o0 (2 * i)
  have t2 := val_take_any 18446744073709551616 o0 (2 * i + 1)
  rw [← ex] at t1
  rw [← ey, t1, Nat.pow_succ] at t2
  have eP : 18446744073709551616 ^ (2 * (i + 1)) = 18446744073709551616 ^ (2 * i) * 340282366920938463463374607431768211456 := by
    rw [Nat.mul_add, Nat.mul_one, Nat.pow_add]
  rw [eP, show 2 * (i + 1) = 2 * i + 1 + 1 by omega, t2]
  have eww : ((w.toNat * w.toNat : Nat) : Int) = w * w := by rw [Int.natCast_mul, Int.toNat_of_nonneg w0.1]
  have ee : s0.toNat + 18446744073709551616 * s1.toNat + 340282366920938463463374607431768211456 * (c'.toNat + h'.toNat) = 2 * x.toNat + 36893488147419103232 * y.toNat + h.toNat + w.toNat * w.toNat + c.toNat := by
    rw [← eww] at e
    clear q1 q2 t1 t2 eP eww
    obtain ⟨W, hW⟩ : ∃ W, W = w.toNat * w.toNat := ⟨_, rfl⟩
    rw [← hW] at e ⊢
    clear hW
    obtain ⟨_, rfl⟩ := Int.eq_ofNat_of_zero_le x0.1
    obtain ⟨_, rfl⟩ := Int.eq_ofNat_of_zero_le y0.1
    obtain ⟨_, rfl⟩ := Int.eq_ofNat_of_zero_le b0.1
    obtain ⟨_, rfl⟩ := Int.eq_ofNat_of_zero_le b1.1
    obtain ⟨_, rfl⟩ := Int.eq_ofNat_of_zero_le bc.1
    obtain ⟨_, rfl⟩ := Int.eq_ofNat_of_zero_le bh.1
    obtain ⟨_, rfl⟩ := Int.eq_ofNat_of_zero_le c0
    obtain ⟨_, rfl⟩ := Int.eq_ofNat_of_zero_le h0
    simp only [Int.toNat_natCast]
    omega
  have k := ps_arith q1 q2 p.v ee
  rw [k, sqs_succ, ← ew]
  clear k ee q1 q2 t1 t2 eP eww e x0 y0 w0 b0 b1
  omega
theorem PsI.last {xs o0 os : List Int} {n : Nat} {c h : Int} (p : PsI xs o0 os n n c h) (q : PqO xs o0 n n) (hx : Ws xs) (hn : n = xs.length) : val 18446744073709551616 os = val 18446744073709551616 xs * val 18446744073709551616 xs := by
  have e := p.v
  rw [List.take_of_length_le (by rw [q.len]; omega), q.v] at e
  have e2 := crs_all hn
  have lt := val_lt (B := 18446744073709551616) hx.dg
  rw [← hn] at lt
  have lt2 := Nat.mul_lt_mul_of_lt_of_lt lt lt
  rw [← Nat.pow_add, ← Nat.two_mul] at lt2
  have c0 := p.c0
  have h0 := p.h0
  by_cases hz : c.toNat + h.toNat = 0
  · rw [hz] at e; omega
  · have : 18446744073709551616 ^ (2 * n) * 1 ≤ 18446744073709551616 ^ (2 * n) * (c.toNat + h.toNat) := Nat.mul_le_mul_left _ (by omega)
    omega
/-- What the words come to. -/
theorem ps_words {x y w c h P hi lo X Y T1 s0 d T2 s1 c' : Int} (hx : 0 ≤ x ∧ x < 18446744073709551616) (hy : 0 ≤ y ∧ y < 18446744073709551616) (hw : 0 ≤ w ∧ w < 18446744073709551616) (hc : 0 ≤ c ∧ c ≤ 1) (hh : 0 ≤ h ∧ h ≤ 1)
    (eP : P = w * w) (ehi : hi = P / 18446744073709551616) (elo : lo = P % 18446744073709551616) (eX : X = x * 2 % 18446744073709551616 + h) (eY : Y = y * 2 % 18446744073709551616 + x / 9223372036854775808) (eT1 : T1 = X + lo + c) (es0 : s0 = T1 % 18446744073709551616) (ed : d = T1 / 18446744073709551616) (eT2 : T2 = Y + hi + d) (es1 : s1 = T2 % 18446744073709551616) (ec : c' = T2 / 18446744073709551616) :
    (0 ≤ hi ∧ hi < 18446744073709551616) ∧ (0 ≤ lo ∧ lo < 18446744073709551616) ∧ (0 ≤ X ∧ X < 18446744073709551616) ∧ (0 ≤ Y ∧ Y < 18446744073709551616) ∧ (0 ≤ d ∧ d ≤ 1) ∧ (0 ≤ s0 ∧ s0 < 18446744073709551616) ∧ (0 ≤ s1 ∧ s1 < 18446744073709551616) ∧ (0 ≤ c' ∧ c' ≤ 1) ∧ (0 ≤ y / 9223372036854775808 ∧ y / 9223372036854775808 ≤ 1) ∧ (0 ≤ x / 9223372036854775808 ∧ x / 9223372036854775808 ≤ 1) ∧ s0 + 18446744073709551616 * s1 + 340282366920938463463374607431768211456 * (c' + y / 9223372036854775808) = 2 * x + 36893488147419103232 * y + h + w * w + c := by
  have b0 : 0 ≤ P := by rw [eP]; exact Int.mul_nonneg hw.1 hw.1
  have b1 : P ≤ 340282366920938463426481119284349108225 := by
    have := Int.mul_le_mul (show w ≤ 18446744073709551615 by omega) (show w ≤ 18446744073709551615 by omega) hw.1 (by decide)
    rw [eP]; omega
  rw [← eP]
  clear eP hw
  obtain ⟨u, eu⟩ : ∃ u, u = x / 9223372036854775808 := ⟨_, rfl⟩
  obtain ⟨v, ev⟩ : ∃ u, u = y / 9223372036854775808 := ⟨_, rfl⟩
  have u0 : 0 ≤ u ∧ u ≤ 1 := by omega
  have v0 : 0 ≤ v ∧ v ≤ 1 := by omega
  have x2 : x * 2 % 18446744073709551616 = 2 * x - 18446744073709551616 * u := by omega
  have y2 : y * 2 % 18446744073709551616 = 2 * y - 18446744073709551616 * v := by omega
  have x3 : 0 ≤ 2 * x - 18446744073709551616 * u ∧ 2 * x - 18446744073709551616 * u ≤ 18446744073709551614 := by omega
  have y3 : 0 ≤ 2 * y - 18446744073709551616 * v ∧ 2 * y - 18446744073709551616 * v ≤ 18446744073709551614 := by omega
  have h1 : 0 ≤ hi ∧ hi ≤ 18446744073709551614 := by omega
  have l1 : 0 ≤ lo ∧ lo < 18446744073709551616 := by omega
  have q3 := Int.emod_add_mul_ediv P 18446744073709551616
  rw [← ehi, ← elo] at q3
  rw [x2] at eX
  rw [y2, ← eu] at eY
  rw [← eu, ← ev]
  clear ehi elo eu ev x2 y2 b0 b1
  have X0 : 0 ≤ X ∧ X < 18446744073709551616 := by omega
  have Y0 : 0 ≤ Y ∧ Y < 18446744073709551616 := by omega
  have d0 : 0 ≤ d ∧ d ≤ 1 := by omega
  have t0 : 0 ≤ s0 ∧ s0 < 18446744073709551616 := by omega
  have q1 := Int.emod_add_mul_ediv T1 18446744073709551616
  rw [← es0, ← ed] at q1
  clear es0 ed
  have c0 : 0 ≤ c' ∧ c' ≤ 1 := by omega
  have t1 : 0 ≤ s1 ∧ s1 < 18446744073709551616 := by omega
  have q2 := Int.emod_add_mul_ediv T2 18446744073709551616
  rw [← es1, ← ec] at q2
  clear es1 ec
  refine ⟨⟨h1.1, by omega⟩, l1, X0, Y0, d0, t0, t1, c0, v0, u0, ?_⟩
  omega
end Go.Proofs.YtldkiddoajlohaaGreatDoor

/- Squares by hand. -/
namespace Go.Proofs.YtldkiddoajlohaaGreatDoor
open Go.RowKit

theorem or_bit {X h : Int} (X0 : 0 ≤ X ∧ X < 18446744073709551616) (hX : X % 2 = 0) (h0 : 0 ≤ h ∧ h ≤ 1) : bits .or .u64 X h = X + h := by
  obtain ⟨x, rfl⟩ := Int.eq_ofNat_of_zero_le X0.1
  obtain ⟨k, rfl⟩ := Int.eq_ofNat_of_zero_le h0.1
  rw [bits_or_u64_nat _ _ (by omega) (by omega)]
  obtain ⟨t, rfl⟩ : ∃ t, x = 2 * t := ⟨x / 2, by omega⟩
  have := or_parts (s := 1) (o := k) (t := t) (by omega)
  rw [Nat.or_comm] at this
  rw [show (2 : Nat) * t = 2 ^ 1 * t from rfl, this]
  omega
set_option maxRecDepth 100000 in
set_option maxHeartbeats 8000000 in
theorem ssqr_c (w : World) (g3 gm : Nat) (a b : Int) (c : Mc) (va : Value) (al : List Int) (hg : w.cell? ⟨g3, 0, none⟩ = some (.pointer (some ⟨gm, 0, none⟩))) (hm : Mt w gm a b c) (ha0 : a ≤ 1000000000000000) (ha : Sl w va al) (hna : Off va gm) (hl : al.length ≤ 100000) :
    Calls Tryz.prog 67 #[.pointer (some ⟨g3, 0, none⟩), va] w fun e w' => ∃ x, e = .returned x ∧ Wo w' w.heap.size x (val B64 al * val B64 al) ∧ Mt w' gm (a + ((al.length * (al.length + 1) / 2 : Nat) : Int)) b c ∧ w.grownBy w' (some gm) := by
  obtain ⟨A, ca, rfl, hca, _⟩ := ha.form
  obtain ⟨n, hn⟩ : ∃ n, n = al.length := ⟨_, rfl⟩
  rw [← hn]
  rw [← hn] at ha hca hna hl
  obtain ⟨N1, hN1⟩ : ∃ z, z = n + 1 := ⟨_, rfl⟩
  obtain ⟨Q, hQ⟩ : ∃ z, z = n * N1 := ⟨_, rfl⟩
  obtain ⟨K, hK⟩ : ∃ z, z = Q / 2 := ⟨_, rfl⟩
  have bQ : Q ≤ 100001 * 100001 := by rw [hQ]; exact Nat.mul_le_mul (by omega) (by omega)
  have eN1 : (n : Int) + 1 = (N1 : Int) := by omega
  have eQ : (n : Int) * (N1 : Int) = (Q : Int) := by rw [hQ]; exact (Int.natCast_mul _ _).symm
  have eK : (Q : Int) / 2 = (K : Int) := by omega
  rw [← hN1, ← hQ, ← hK]
  have SP := spend_c w gm a b c (K : Int) hm (by omega) (by omega)
  have e2 : (if (K : Int) > 0 then a + (K : Int) else a) = a + (K : Int) := by split <;> omega
  rw [e2] at SP
  obtain ⟨N2, hN2⟩ : ∃ z, z = 2 * n := ⟨_, rfl⟩
  have eN2 : 2 * (n : Int) = (N2 : Int) := by omega
  have HN2 := Lib.hid hN2
  have HSP := Lib.hid SP
  have HA := Lib.hid ha
  have HN := Lib.hid hn
  have NA := Lib.hid hna
  have mk := make64 34 (by kernel_rfl) N2 N2 (N2 : Int) (N2 : Int) (by omega) (by omega) (by omega) (by omega)
  have a0 := hm.a0
  have bn2 : N2 ≤ 200000 := by omega
  clear SP ha hn hna hK hQ e2 hm hN1 hN2
  go_enter Tryz.func67, Tryz.ntmps67
  go_wp2_with fail
  refine (HSP.out).mono ?_
  rintro e w1 ⟨rfl, m1, mo⟩
  have M1 := Lib.hid m1
  have G1 := Lib.hid mo.gb
  have HA1 := Lib.hid (HA.out.off NA.out mo.gb)
  have OW := Lib.hid (own_made w1 w1.heap.size N2 N2 (Nat.le_refl _) (by omega) (by omega))
  have G0 := Lib.hid (gb_alloc (gb_refl w1 none) (Obj.cells (madeCells #[.int .u64 0] N2) 79))
  have ST0 : Hid (PqO al (List.replicate N2 0) n 0) := Lib.hid (by rw [HN2.out]; exact PqO.start _ _)
  clear m1 mo HSP HA
  go_wp2
  clear mk hg eN1 eQ eK eN2
  go_loopw [44] (fun v44 wr => ∃ (i : Nat) (os : List Int), v44 = .int .i64 i ∧ i ≤ n ∧ PqO al os n i ∧ Own wr w1.heap.size (.slice (some ⟨w1.heap.size, 0, none⟩) N2 N2) os ∧ w1.grownBy wr none) (fun v44 _ => n - (intOf v44).toNat)
  case atStart => exact ⟨0, _, rfl, by omega, ST0.out, OW.out, G0.out⟩
  case round =>
    clear OW G0 ST0
    obtain ⟨i, os, rfl, hi, po, ow, G⟩ := hrel
    have PO := Lib.hid po
    have OS := Lib.hid ow
    have GG := Lib.hid G
    clear po ow G
    obtain ⟨wo, rfl⟩ : ∃ wo : World, wo = wr := ⟨_, rfl⟩
    by_cases hin : i < n
    · obtain ⟨bA, oA, rfl, cA⟩ := (HA1.out.grown0 GG.out).at i (by rw [← HN.out]; exact hin)
      obtain ⟨x, hx⟩ : ∃ x, x = rd al i := ⟨_, rfl⟩
      have bx : 0 ≤ x ∧ x < 18446744073709551616 := by rw [hx]; exact rd_w HA1.out.ws i
      rw [← hx] at cA
      have HX := Lib.hid hx
      clear hx
      go_wp2
      clear cA
      go_loopw [9, 10] (fun v9 v10 ws => ∃ (j : Nat) (c : Int) (os : List Int), v9 = .int .u64 c ∧ v10 = .int .i64 j ∧ i < j ∧ j ≤ n ∧ PqI al os n i j x c ∧ Own ws w1.heap.size (.slice (some ⟨w1.heap.size, 0, none⟩) N2 N2) os ∧ w1.grownBy ws none) (fun _ v10 _ => n - (intOf v10).toNat)
      case atStart => exact ⟨i + 1, 0, os, rfl, by go_num, by omega, by omega, PO.out.inner x, OS.out, GG.out⟩
      case round =>
        clear PO OS GG
        obtain ⟨j, q, os, rfl, rfl, hij, hj, pi, ow, G⟩ := hrel
        have PI := Lib.hid pi
        have OS := Lib.hid ow
        have GG := Lib.hid G
        have q0 := pi.c0
        have q1 := pi.c1
        clear pi ow G
        by_cases hjm : j < n
        · obtain ⟨bB, oB, e', cB⟩ := (HA1.out.grown0 GG.out).at j (by rw [← HN.out]; exact hjm)
          obtain ⟨rfl, rfl⟩ : bB = bA ∧ oB = oA := by simp at e'; exact ⟨e'.1.symm, e'.2.symm⟩
          clear e'
          obtain ⟨y, hy⟩ : ∃ y, y = rd al j := ⟨_, rfl⟩
          obtain ⟨o, ho⟩ : ∃ y, y = rd os (i + j) := ⟨_, rfl⟩
          have bY : 0 ≤ y ∧ y < 18446744073709551616 := by rw [hy]; exact rd_w HA1.out.ws j
          have bo : 0 ≤ o ∧ o < 18446744073709551616 := by rw [ho]; exact rd_w PI.out.ws _
          rw [← hy] at cB
          have fr := OS.out.free (i + j)
          have ce := OS.out.cell (i + j) (by rw [PI.out.len]; omega)
          rw [← ho] at ce
          have hIJ : i + j < N2 := by rw [HN2.out]; omega
          have M64 := fun w => mul64_c x y bx.1 bx.2 bY.1 bY.2 w
          obtain ⟨P, hP⟩ : ∃ P, P = x * y := ⟨_, rfl⟩
          obtain ⟨h, hh⟩ : ∃ h, h = P / 18446744073709551616 := ⟨_, rfl⟩
          obtain ⟨l, hl'⟩ : ∃ h, h = P % 18446744073709551616 := ⟨_, rfl⟩
          obtain ⟨s, hs⟩ : ∃ h, h = (l + q) % 18446744073709551616 := ⟨_, rfl⟩
          obtain ⟨d, hd⟩ : ∃ h, h = (l + q) / 18446744073709551616 := ⟨_, rfl⟩
          obtain ⟨h1, hh1⟩ : ∃ z, z = h + d := ⟨_, rfl⟩
          obtain ⟨r, hr⟩ : ∃ h, h = (o + s) % 18446744073709551616 := ⟨_, rfl⟩
          obtain ⟨d2, hd2⟩ : ∃ h, h = (o + s) / 18446744073709551616 := ⟨_, rfl⟩
          obtain ⟨b1, b2, b3, b4, b5, b6, b7, b8, ee⟩ := pm_words bo bx bY ⟨q0, q1⟩ hP hh hl' hs hd hh1 hr hd2
          rw [← hP, ← hh, ← hl'] at M64
          have A1 : ∀ w, (callFunc 73 #[.int .u64 l, .int .u64 q, .int .u64 0]).run Tryz.prog w = .ok (.value (.tuple #[.int .u64 s, .int .u64 d])) w := fun w => by
            rw [add64_run l q 0 b2.1 q0 (by decide) (by decide), Int.add_zero, hs, hd]
          have A2 : ∀ w, (callFunc 73 #[.int .u64 o, .int .u64 s, .int .u64 0]).run Tryz.prog w = .ok (.value (.tuple #[.int .u64 r, .int .u64 d2])) w := fun w => by
            rw [add64_run o s 0 bo.1 b3.1 (by decide) (by decide), Int.add_zero, hr, hd2]
          have V1 : IntKind.u64.wrap (h + d) = h1 := by rw [hh1, IntKind.wrap_u64]; omega
          obtain ⟨q', hq'⟩ : ∃ z, z = h1 + d2 := ⟨_, rfl⟩
          have V2 : IntKind.u64.wrap (h1 + d2) = q' := by rw [hq', IntKind.wrap_u64]; omega
          rw [← hq'] at b8 ee
          have ST := Lib.hid (PI.out.step bx.1 HA1.out.ws hin hjm hy b6 b8 (by rw [← ho]; exact ee))
          have HM64 := Lib.hid M64
          clear hP hh hl' hs hd hh1 hr hd2 hq' hy ho ee M64
          go_wp2_with fail
          refine (HM64.out _).mono ?_
          rintro e w2 ⟨rfl, hw2⟩
          subst hw2
          go_wp2
          clear A1 A2 V1 V2 cB ce fr
          go_roundw
          case rel => exact ⟨j + 1, q', _, rfl, by go_num, by omega, by omega, ST.out, OS.out.store _ b6.1 b6.2, gb_set (p := ⟨w1.heap.size, i + j, none⟩) GG.out (Nat.le_refl _) _⟩
          case measure => simp [intOf]; omega
        · obtain rfl : j = n := by omega
          have fr := OS.out.free (i + j)
          have ce := OS.out.cell (i + j) (by rw [PI.out.len]; omega)
          obtain ⟨o, ho⟩ : ∃ y, y = rd os (i + j) := ⟨_, rfl⟩
          rw [← ho] at ce
          have hIJ : i + j < N2 := by rw [HN2.out]; omega
          have ST := Lib.hid (PI.out.last hin HN.out HX.out)
          clear ho
          go_wp2
          clear ce fr
          go_roundw
          case rel => exact ⟨i + 1, _, by go_num, by omega, ST.out, OS.out.store _ q0 q1, gb_set (p := ⟨w1.heap.size, i + j, none⟩) GG.out (Nat.le_refl _) _⟩
          case measure => simp [intOf]; omega
    · obtain rfl : i = n := by omega
      go_wp2
      go_loopw [15, 16, 102] (fun v15 v16 v102 ws => ∃ (k : Nat) (c h : Int) (zs : List Int), v15 = .int .u64 c ∧ v16 = .int .u64 h ∧ v102 = .int .i64 k ∧ k ≤ i ∧ PsI al os zs i k c h ∧ Own ws w1.heap.size (.slice (some ⟨w1.heap.size, 0, none⟩) N2 N2) zs ∧ w1.grownBy ws none) (fun _ _ v102 _ => i - (intOf v102).toNat)
      case atStart => exact ⟨0, 0, 0, os, rfl, rfl, rfl, by omega, PsI.start PO.out, OS.out, GG.out⟩
      case round =>
        obtain ⟨k, c0, h0, zs, rfl, rfl, rfl, hk, ps, ow, G⟩ := hrel
        have PS := Lib.hid ps
        have OS1 := Lib.hid ow
        have GG1 := Lib.hid G
        have bc : 0 ≤ c0 ∧ c0 ≤ 1 := ⟨ps.c0, ps.c1⟩
        have bh : 0 ≤ h0 ∧ h0 ≤ 1 := ⟨ps.h0, ps.h1⟩
        clear ps ow G
        by_cases hkn : k < i
        · obtain ⟨bA, oA, rfl, cA⟩ := (HA1.out.grown0 GG1.out).at k (by rw [← HN.out]; exact hkn)
          obtain ⟨v, hv⟩ : ∃ x, x = rd al k := ⟨_, rfl⟩
          have bv : 0 ≤ v ∧ v < 18446744073709551616 := by rw [hv]; exact rd_w HA1.out.ws k
          rw [← hv] at cA
          obtain ⟨I2, hI2⟩ : ∃ z, z = 2 * k := ⟨_, rfl⟩
          obtain ⟨I3, hI3⟩ : ∃ z, z = 2 * k + 1 := ⟨_, rfl⟩
          have eI2 : 2 * (k : Int) = (I2 : Int) := by omega
          have eI3 : (I2 : Int) + 1 = (I3 : Int) := by omega
          have bI : I2 < N2 ∧ I3 < N2 := by rw [HN2.out]; omega
          have ne23 : I2 ≠ I3 := by omega
          obtain ⟨x, hx⟩ : ∃ x, x = rd os (2 * k) := ⟨_, rfl⟩
          obtain ⟨y, hy⟩ : ∃ x, x = rd os (2 * k + 1) := ⟨_, rfl⟩
          have bx : 0 ≤ x ∧ x < 18446744073709551616 := by rw [hx]; exact rd_w PO.out.ws _
          have bY : 0 ≤ y ∧ y < 18446744073709551616 := by rw [hy]; exact rd_w PO.out.ws _
          have ce2 := OS1.out.cell I2 (by rw [PS.out.len]; omega)
          have ce3 := OS1.out.cell I3 (by rw [PS.out.len]; omega)
          rw [show rd zs I2 = x by rw [hx, hI2]; exact PS.out.z _ (by omega)] at ce2
          rw [show rd zs I3 = y by rw [hy, hI3]; exact PS.out.z _ (by omega)] at ce3
          have fr2 := OS1.out.free I2
          have fr3 := OS1.out.free I3
          have M64 := fun w => mul64_c v v bv.1 bv.2 bv.1 bv.2 w
          obtain ⟨P, hP⟩ : ∃ P, P = v * v := ⟨_, rfl⟩
          obtain ⟨hh, ehh⟩ : ∃ h, h = P / 18446744073709551616 := ⟨_, rfl⟩
          obtain ⟨l, el⟩ : ∃ h, h = P % 18446744073709551616 := ⟨_, rfl⟩
          obtain ⟨t, et⟩ : ∃ t, t = x * 2 % 18446744073709551616 := ⟨_, rfl⟩
          obtain ⟨t', et'⟩ : ∃ t, t = y * 2 % 18446744073709551616 := ⟨_, rfl⟩
          obtain ⟨u, eu⟩ : ∃ t, t = x / 9223372036854775808 := ⟨_, rfl⟩
          obtain ⟨u', eu'⟩ : ∃ t, t = y / 9223372036854775808 := ⟨_, rfl⟩
          obtain ⟨X, eX⟩ : ∃ z, z = t + h0 := ⟨_, rfl⟩
          obtain ⟨Y, eY⟩ : ∃ z, z = t' + u := ⟨_, rfl⟩
          obtain ⟨T1, eT1⟩ : ∃ z, z = X + l + c0 := ⟨_, rfl⟩
          obtain ⟨s0, es0⟩ : ∃ z, z = T1 % 18446744073709551616 := ⟨_, rfl⟩
          obtain ⟨d, ed⟩ : ∃ z, z = T1 / 18446744073709551616 := ⟨_, rfl⟩
          obtain ⟨T2, eT2⟩ : ∃ z, z = Y + hh + d := ⟨_, rfl⟩
          obtain ⟨s1, es1⟩ : ∃ z, z = T2 % 18446744073709551616 := ⟨_, rfl⟩
          obtain ⟨c1, ec1⟩ : ∃ z, z = T2 / 18446744073709551616 := ⟨_, rfl⟩
          obtain ⟨b1, b2, b3, b4, b5, b6, b7, b8, b9, b10, ee⟩ := ps_words bx bY bv bc bh hP ehh el (by rw [eX, et]) (by rw [eY, et', eu]) eT1 es0 ed eT2 es1 ec1
          rw [← eu'] at b9 ee
          rw [← eu] at b10
          rw [← hP, ← ehh, ← el] at M64
          have A1 : ∀ w, (callFunc 73 #[.int .u64 X, .int .u64 l, .int .u64 c0]).run Tryz.prog w = .ok (.value (.tuple #[.int .u64 s0, .int .u64 d])) w := fun w => by
            rw [add64_run X l c0 b3.1 b2.1 bc.1 bc.2, ← eT1, es0, ed]
          have A2 : ∀ w, (callFunc 73 #[.int .u64 Y, .int .u64 hh, .int .u64 d]).run Tryz.prog w = .ok (.value (.tuple #[.int .u64 s1, .int .u64 c1])) w := fun w => by
            rw [add64_run Y hh d b4.1 b1.1 b5.1 b5.2, ← eT2, es1, ec1]
          have W1 : IntKind.u64.wrap (x * 2) = t := by rw [et, IntKind.wrap_u64]
          have W2 : IntKind.u64.wrap (y * 2) = t' := by rw [et', IntKind.wrap_u64]
          have O1 : bits .or .u64 t h0 = X := by rw [eX]; exact or_bit (by omega) (by omega) bh
          have O2 : bits .or .u64 t' u = Y := by rw [eY]; exact or_bit (by omega) (by omega) b10
          have eu1 := eu.symm
          have eu2 := eu'.symm
          have ST := Lib.hid (PS.out.step HA1.out.ws PO.out.ws hkn hx hy hv b6 b7 b8 b9 ee)
          rw [← hI3, ← hI2] at ST
          have HM64 := Lib.hid M64
          clear hP ehh el et et' eu eu' eX eY eT1 es0 ed eT2 es1 ec1 hx hy hv ee M64 hI2 hI3
          go_wp2_with fail
          refine (HM64.out _).mono ?_
          rintro e w2 ⟨rfl, hw2⟩
          subst hw2
          go_wp2
          refine Canon.region_canon (by kernel_rfl) (by kernel_rfl) ?_
          go_wp2
          refine ⟨by kernel_rfl, ?_⟩
          go_wp2
          refine ⟨⟨k + 1, c1, u', _, rfl, rfl, by go_num, by omega, ST.out, ((OS1.out.store I2 b6.1 b6.2).store I3 b7.1 b7.2).drew, gb_drew (gb_set (p := ⟨w1.heap.size, I3, none⟩) (gb_set (p := ⟨w1.heap.size, I2, none⟩) GG1.out (Nat.le_refl _) _) (Nat.le_refl _) _)⟩, by simp [intOf]; omega⟩
        · obtain rfl : k = i := by omega
          have EV := Lib.hid (PS.out.last PO.out HA1.out.ws HN.out)
          have NO := Lib.hid (lnorm_c wr _ zs OS1.out.sl (by rw [PS.out.len]; omega))
          clear OS GG
          go_wp2_with fail
          refine (NO.out).mono ?_
          rintro e w3 ⟨z, rfl, oz, g3'⟩
          have OZ := Lib.hid oz
          have GZ := Lib.hid (gb_trans GG1.out g3')
          have BB : Hid (w.heap.size ≤ wr.heap.size) := Lib.hid (Nat.le_trans G1.out.size GG1.out.size)
          clear oz g3'
          go_wp2
          go_ret
          refine ⟨z, rfl, ⟨_, OZ.out.mono BB.out, trimZ_nz _, ?_⟩, M1.out.grown GZ.out, gb_trans G1.out (gb_none GZ.out _)⟩
          rw [val_trimZ]
          exact EV.out
end Go.Proofs.YtldkiddoajlohaaGreatDoor

/- Products and squares, noughts on top or not. -/
namespace Go.Proofs.YtldkiddoajlohaaGreatDoor
open Go.RowKit

theorem Off.len {A : Option Addr} {n c m c' gm : Nat} (h : Off (.slice A n c) gm) : Off (.slice A m c') gm := by
  cases A with
  | none => intro b hb; simp [Value.ownBlock] at hb
  | some x => exact h
theorem mwords_c (w : World) (A : Option Addr) (n c : Nat) (xs : List Int) (h : Sl w (.slice A n c) xs) :
    Calls Tryz.prog 46 #[.slice A n c] w fun e w' => e = .returned (.slice A (trimZ xs).length c) ∧ w' = w := by
  have HC := Lib.hid (nlen_c w _ xs h)
  obtain ⟨A', c', e, h1, h2, _⟩ := h
  simp only [Value.slice.injEq] at e
  obtain ⟨rfl, rfl, rfl⟩ := e
  have ht := trimZ_len xs
  obtain ⟨T, hT⟩ : ∃ T, T = (trimZ xs).length := ⟨_, rfl⟩
  obtain ⟨n, hn⟩ : ∃ n, n = xs.length := ⟨_, rfl⟩
  rw [← hn, ← hT] at HC
  rw [← hn] at h1 ht ⊢
  rw [← hT] at ht ⊢
  clear hn hT
  go_enter Tryz.func46, Tryz.ntmps46
  go_wp2_with fail
  refine (HC.out).mono ?_
  rintro e w1 ⟨rfl, hw⟩
  subst hw
  clear HC
  go_wp2
  go_ret
  exact ⟨rfl, rfl⟩
/-- A product of rows, noughts on top or not. -/
theorem mulE_c {t : Tb} (ht : TbOk t) (w : World) (g0 g1 g2 g3 gm : Nat) (a b : Int) (c : Mc) (va vb : Value) (al bl : List Int) (he : Eng w g0 g1 g2 g3 gm) (hd : Db w)
    (hm : Mt w gm a b c) (hT : c.T = tbT t) (hb : b ≤ 900) (ha0 : a ≤ 900000000000000) (ha : Sl w va al) (hb' : Sl w vb bl) (hna : Off va gm) (hnb : Off vb gm) (hl : (trimZ al).length + (trimZ bl).length ≤ 1024) :
    Calls Tryz.prog 20 #[.pointer (some ⟨g0, 0, none⟩), va, vb] w fun e w' => ∃ x c', e = .returned x ∧ Got w gm a b c (tbT t) (cost t (trimZ al).length (trimZ bl).length) ((lev (max (trimZ al).length (trimZ bl).length) : Nat) : Int) (val B64 al * val B64 bl) w' x c' := by
  obtain ⟨A, ca, rfl, hca, _⟩ := ha.form
  obtain ⟨B, cb, rfl, hcb, _⟩ := hb'.form
  have W1 := Lib.hid (mwords_c w _ _ _ _ ha)
  have W2 := Lib.hid (mwords_c w _ _ _ _ hb')
  have sa := ha.take (trimZ al).length (trimZ_len al)
  have sb := hb'.take (trimZ bl).length (trimZ_len bl)
  rw [take_trimZ_len] at sa sb
  have lv := lev_le (max (trimZ al).length (trimZ bl).length) (by omega)
  have cl := cost_lim ht hl
  have T := times_all ht _ _ _ (Nat.le_refl _) hl w g0 g1 g2 g3 gm b he (DbG.of hd hm) (by omega) w _ _ _ _ a c (gb_refl _ _) hm hT (by omega) sa sb rfl rfl hna.len hnb.len
  rw [val_trimZ, val_trimZ] at T
  have HT := Lib.hid T
  obtain ⟨n, hn⟩ : ∃ n, n = al.length := ⟨_, rfl⟩
  obtain ⟨m, hm'⟩ : ∃ m, m = bl.length := ⟨_, rfl⟩
  rw [← hn] at W1 hca ⊢
  rw [← hm'] at W2 hcb ⊢
  obtain ⟨p, hp⟩ : ∃ p, p = (trimZ al).length := ⟨_, rfl⟩
  obtain ⟨q, hq⟩ : ∃ p, p = (trimZ bl).length := ⟨_, rfl⟩
  rw [← hp] at W1 HT
  rw [← hq] at W2 HT
  rw [← hp, ← hq]
  have hpn : p ≤ n := by rw [hp, hn]; exact trimZ_len _
  have hqm : q ≤ m := by rw [hq, hm']; exact trimZ_len _
  clear hn hm' hp hq T sa sb ha hb' hna hnb hm he hd lv cl
  go_enter Tryz.func20, Tryz.ntmps20
  go_wp2_with fail
  refine (W1.out).mono ?_
  rintro e w1 ⟨rfl, hw⟩
  subst hw
  go_wp2_with fail
  refine (W2.out).mono ?_
  rintro e w2 ⟨rfl, hw⟩
  subst hw
  go_wp2_with fail
  refine (HT.out).mono ?_
  rintro e w3 ⟨x, c', rfl, k⟩
  have KK := Lib.hid k
  clear k HT W1 W2
  go_wp2
  go_ret
  exact ⟨x, c', rfl, KK.out⟩
theorem Got.of {w w' : World} {gm k P : Nat} {a b D : Int} {c c' : Mc} {T : Nat → Option Value} {x : Value} (h : Wo w' w.heap.size x P ∧ Mt w' gm (a + (k : Int)) b c' ∧ (c'.T = T ∧ c.v ≤ c'.v ∧ (c'.v ≤ c.v ∨ c'.v ≤ b + D)) ∧ w.grownBy w' (some gm)) : Got w gm a b c T k D P w' x c' := h
theorem InS.grown {w w' : World} {gm fk p k : Nat} {fs : Array Value} {b d : Int} {T : Nat → Option Value} (h : InS w gm fk fs b T p k d) (g : w.grownBy w' (some gm)) : InS w' gm fk fs b T p k d :=
  fun W va al a c G => h W va al a c (gb_trans g G)
theorem InS.mono {w : World} {gm fk p k : Nat} {fs : Array Value} {b d d' : Int} {T : Nat → Option Value} (h : InS w gm fk fs b T p k d) (hd : d ≤ d') : InS w gm fk fs b T p k d' :=
  fun W va al a c G m hT hk sa la oa => (h W va al a c G m hT hk sa la oa).mono fun e w' ⟨x, c', e1, e2, e3, e4, e5⟩ => ⟨x, c', e1, e2, e3, ⟨e4.1, e4.2.1, by have := e4.2.2; omega⟩, e5⟩
theorem square_ent (args : Array Value) (w : World) : (callFunc 52 args).run Tryz.prog w = .ok (.enter 52 args) w := enter_of Tryz.func52 (by kernel_rfl) rfl args w
set_option maxRecDepth 100000 in
theorem square_0 (w : World) (g0 g1 g2 g3 gm : Nat) (a b : Int) (c : Mc) (t : Tb) (va : Value) (al : List Int) (k : Nat) (D : Int) (P : Nat) (he : Eng w g0 g1 g2 g3 gm)
    (hm : Mt w gm a b c) (hT : c.T = tbT t) (ht : TbOk t) (ha : Sl w va al) (hl : al.length ≤ 4096) (hr : rt t al.length al.length = 0)
    (HG : ∀ W1, w.grownBy W1 none → Calls Tryz.prog 45 #[.pointer (some ⟨g0, 0, none⟩), va, va] W1 fun e w' => ∃ x c', e = .returned x ∧ Got W1 gm a b c (tbT t) k D P w' x c') :
    Calls Tryz.prog 52 #[.pointer (some ⟨g0, 0, none⟩), va] w fun e w' => ∃ x c', e = .returned x ∧ Got w gm a b c (tbT t) k D P w' x c' := by
  have HR := Lib.hid (tuneRoute_c w gm t a b c al.length al.length hm hT ht (by omega) (by omega))
  rw [Nat.max_self, Nat.min_self, hr] at HR
  have HGG := Lib.hid HG
  obtain ⟨A, ca, rfl, hca, _⟩ := ha.form
  have h0 := he.h0
  have h1 := he.h1
  have h2 := he.h2
  have h3 := he.h3
  have HE := Lib.hid he
  obtain ⟨n, hn⟩ : ∃ n, n = al.length := ⟨_, rfl⟩
  rw [← hn] at HR HGG ⊢
  rw [← hn] at hca hl
  clear he ha hm hr HG hn hT ht
  go_enter Tryz.func52, Tryz.ntmps52
  go_wp2_with fail
  refine (HR.out).mono ?_
  rintro e w1 ⟨rfl, g1'⟩
  have G1 := Lib.hid g1'
  clear h0 h1 h2 h3 HR
  have h0 := (HE.out.grown0 g1').h0
  have h1 := (HE.out.grown0 g1').h1
  have h2 := (HE.out.grown0 g1').h2
  have h3 := (HE.out.grown0 g1').h3
  clear g1' HE
  go_wp2_with fail
  refine (HGG.out _ G1.out).mono ?_
  rintro e w2 ⟨x, c2, rfl, k⟩
  have KK := Lib.hid (k.from G1.out)
  clear k HGG h0 h1 h2 h3
  go_wp2
  go_ret
  exact ⟨x, c2, rfl, KK.out⟩
set_option maxRecDepth 100000 in
theorem square_1 (w : World) (g0 g1 g2 g3 gm : Nat) (a b : Int) (c : Mc) (t : Tb) (va : Value) (al : List Int) (k : Nat) (D : Int) (P : Nat) (he : Eng w g0 g1 g2 g3 gm)
    (hm : Mt w gm a b c) (hT : c.T = tbT t) (ht : TbOk t) (ha : Sl w va al) (hl : al.length ≤ 4096) (hr : rt t al.length al.length = 1)
    (HG : ∀ W1, w.grownBy W1 none → Calls Tryz.prog 67 #[.pointer (some ⟨g3, 0, none⟩), va] W1 fun e w' => ∃ x c', e = .returned x ∧ Got W1 gm a b c (tbT t) k D P w' x c') :
    Calls Tryz.prog 52 #[.pointer (some ⟨g0, 0, none⟩), va] w fun e w' => ∃ x c', e = .returned x ∧ Got w gm a b c (tbT t) k D P w' x c' := by
  have HR := Lib.hid (tuneRoute_c w gm t a b c al.length al.length hm hT ht (by omega) (by omega))
  rw [Nat.max_self, Nat.min_self, hr] at HR
  have HGG := Lib.hid HG
  obtain ⟨A, ca, rfl, hca, _⟩ := ha.form
  have h0 := he.h0
  have h1 := he.h1
  have h2 := he.h2
  have h3 := he.h3
  have HE := Lib.hid he
  obtain ⟨n, hn⟩ : ∃ n, n = al.length := ⟨_, rfl⟩
  rw [← hn] at HR HGG ⊢
  rw [← hn] at hca hl
  clear he ha hm hr HG hn hT ht
  go_enter Tryz.func52, Tryz.ntmps52
  go_wp2_with fail
  refine (HR.out).mono ?_
  rintro e w1 ⟨rfl, g1'⟩
  have G1 := Lib.hid g1'
  clear h0 h1 h2 h3 HR
  have h0 := (HE.out.grown0 g1').h0
  have h1 := (HE.out.grown0 g1').h1
  have h2 := (HE.out.grown0 g1').h2
  have h3 := (HE.out.grown0 g1').h3
  clear g1' HE
  go_wp2_with fail
  refine (HGG.out _ G1.out).mono ?_
  rintro e w2 ⟨x, c2, rfl, k⟩
  have KK := Lib.hid (k.from G1.out)
  clear k HGG h0 h1 h2 h3
  go_wp2
  go_ret
  exact ⟨x, c2, rfl, KK.out⟩
set_option maxRecDepth 100000 in
theorem square_3 (w : World) (g0 g1 g2 g3 gm : Nat) (a b : Int) (c : Mc) (t : Tb) (va : Value) (al : List Int) (k : Nat) (D : Int) (P : Nat) (he : Eng w g0 g1 g2 g3 gm)
    (hm : Mt w gm a b c) (hT : c.T = tbT t) (ht : TbOk t) (ha : Sl w va al) (hl : al.length ≤ 4096) (hr : rt t al.length al.length = 3)
    (HG : ∀ W1, w.grownBy W1 none → Calls Tryz.prog 64 #[.pointer (some ⟨g2, 0, none⟩), va, .func (.func 52) #[.pointer (some ⟨g0, 0, none⟩)] #[]] W1 fun e w' => ∃ x c', e = .returned (.tuple #[x, .bool true]) ∧ Got W1 gm a b c (tbT t) k D P w' x c') :
    Calls Tryz.prog 52 #[.pointer (some ⟨g0, 0, none⟩), va] w fun e w' => ∃ x c', e = .returned x ∧ Got w gm a b c (tbT t) k D P w' x c' := by
  have HR := Lib.hid (tuneRoute_c w gm t a b c al.length al.length hm hT ht (by omega) (by omega))
  rw [Nat.max_self, Nat.min_self, hr] at HR
  have HGG := Lib.hid HG
  obtain ⟨A, ca, rfl, hca, _⟩ := ha.form
  have h0 := he.h0
  have h1 := he.h1
  have h2 := he.h2
  have h3 := he.h3
  have HE := Lib.hid he
  obtain ⟨n, hn⟩ : ∃ n, n = al.length := ⟨_, rfl⟩
  rw [← hn] at HR HGG ⊢
  rw [← hn] at hca hl
  clear he ha hm hr HG hn hT ht
  go_enter Tryz.func52, Tryz.ntmps52
  go_wp2_with fail
  refine (HR.out).mono ?_
  rintro e w1 ⟨rfl, g1'⟩
  have G1 := Lib.hid g1'
  clear h0 h1 h2 h3 HR
  have h0 := (HE.out.grown0 g1').h0
  have h1 := (HE.out.grown0 g1').h1
  have h2 := (HE.out.grown0 g1').h2
  have h3 := (HE.out.grown0 g1').h3
  clear g1' HE
  go_wp2_with fail
  refine (HGG.out _ G1.out).mono ?_
  rintro e w2 ⟨x, c2, rfl, k⟩
  have KK := Lib.hid (k.from G1.out)
  clear k HGG h0 h1 h2 h3
  go_wp2
  go_ret
  exact ⟨x, c2, rfl, KK.out⟩
set_option maxRecDepth 100000 in
theorem square_4 (w : World) (g0 g1 g2 g3 gm : Nat) (a b : Int) (c : Mc) (t : Tb) (va : Value) (al : List Int) (k : Nat) (D : Int) (P : Nat) (he : Eng w g0 g1 g2 g3 gm)
    (hm : Mt w gm a b c) (hT : c.T = tbT t) (ht : TbOk t) (ha : Sl w va al) (hl : al.length ≤ 4096) (hr : rt t al.length al.length = 4)
    (HG : ∀ W1, w.grownBy W1 none → Calls Tryz.prog 65 #[.pointer (some ⟨g1, 0, none⟩), va, .func (.func 52) #[.pointer (some ⟨g0, 0, none⟩)] #[]] W1 fun e w' => ∃ x c', e = .returned (.tuple #[x, .bool true]) ∧ Got W1 gm a b c (tbT t) k D P w' x c') :
    Calls Tryz.prog 52 #[.pointer (some ⟨g0, 0, none⟩), va] w fun e w' => ∃ x c', e = .returned x ∧ Got w gm a b c (tbT t) k D P w' x c' := by
  have HR := Lib.hid (tuneRoute_c w gm t a b c al.length al.length hm hT ht (by omega) (by omega))
  rw [Nat.max_self, Nat.min_self, hr] at HR
  have HGG := Lib.hid HG
  obtain ⟨A, ca, rfl, hca, _⟩ := ha.form
  have h0 := he.h0
  have h1 := he.h1
  have h2 := he.h2
  have h3 := he.h3
  have HE := Lib.hid he
  obtain ⟨n, hn⟩ : ∃ n, n = al.length := ⟨_, rfl⟩
  rw [← hn] at HR HGG ⊢
  rw [← hn] at hca hl
  clear he ha hm hr HG hn hT ht
  go_enter Tryz.func52, Tryz.ntmps52
  go_wp2_with fail
  refine (HR.out).mono ?_
  rintro e w1 ⟨rfl, g1'⟩
  have G1 := Lib.hid g1'
  clear h0 h1 h2 h3 HR
  have h0 := (HE.out.grown0 g1').h0
  have h1 := (HE.out.grown0 g1').h1
  have h2 := (HE.out.grown0 g1').h2
  have h3 := (HE.out.grown0 g1').h3
  clear g1' HE
  go_wp2_with fail
  refine (HGG.out _ G1.out).mono ?_
  rintro e w2 ⟨x, c2, rfl, k⟩
  have KK := Lib.hid (k.from G1.out)
  clear k HGG h0 h1 h2 h3
  go_wp2
  go_ret
  exact ⟨x, c2, rfl, KK.out⟩
set_option maxRecDepth 100000 in
theorem square_5 (w : World) (g0 g1 g2 g3 gm : Nat) (a b : Int) (c : Mc) (t : Tb) (va : Value) (al : List Int) (k : Nat) (D : Int) (P : Nat) (he : Eng w g0 g1 g2 g3 gm)
    (hm : Mt w gm a b c) (hT : c.T = tbT t) (ht : TbOk t) (ha : Sl w va al) (hl : al.length ≤ 4096) (hr : rt t al.length al.length = 5)
    (HG : ∀ W1, w.grownBy W1 none → Calls Tryz.prog 66 #[.pointer (some ⟨gm, 0, none⟩), va] W1 fun e w' => ∃ x c', e = .returned (.tuple #[x, .bool true]) ∧ Got W1 gm a b c (tbT t) k D P w' x c') :
    Calls Tryz.prog 52 #[.pointer (some ⟨g0, 0, none⟩), va] w fun e w' => ∃ x c', e = .returned x ∧ Got w gm a b c (tbT t) k D P w' x c' := by
  have HR := Lib.hid (tuneRoute_c w gm t a b c al.length al.length hm hT ht (by omega) (by omega))
  rw [Nat.max_self, Nat.min_self, hr] at HR
  have HGG := Lib.hid HG
  obtain ⟨A, ca, rfl, hca, _⟩ := ha.form
  have h0 := he.h0
  have h1 := he.h1
  have h2 := he.h2
  have h3 := he.h3
  have HE := Lib.hid he
  obtain ⟨n, hn⟩ : ∃ n, n = al.length := ⟨_, rfl⟩
  rw [← hn] at HR HGG ⊢
  rw [← hn] at hca hl
  clear he ha hm hr HG hn hT ht
  go_enter Tryz.func52, Tryz.ntmps52
  go_wp2_with fail
  refine (HR.out).mono ?_
  rintro e w1 ⟨rfl, g1'⟩
  have G1 := Lib.hid g1'
  clear h0 h1 h2 h3 HR
  have h0 := (HE.out.grown0 g1').h0
  have h1 := (HE.out.grown0 g1').h1
  have h2 := (HE.out.grown0 g1').h2
  have h3 := (HE.out.grown0 g1').h3
  clear g1' HE
  go_wp2_with fail
  refine (HGG.out _ G1.out).mono ?_
  rintro e w2 ⟨x, c2, rfl, k⟩
  have KK := Lib.hid (k.from G1.out)
  clear k HGG h0 h1 h2 h3
  go_wp2
  go_ret
  exact ⟨x, c2, rfl, KK.out⟩
theorem square_all {t : Tb} (ht : TbOk t) : ∀ (n : Nat), n ≤ 512 → ∀ (w : World) (g0 g1 g2 g3 gm : Nat) (b : Int), Eng w g0 g1 g2 g3 gm → DbG w gm → b + ((lev n : Nat) : Int) ≤ 1000 →
    InS w gm 52 #[.pointer (some ⟨g0, 0, none⟩)] b (tbT t) n (sq t n) ((lev n : Nat) : Int) := by
  intro n
  induction n using Nat.strongRecOn with
  | _ n ih =>
    intro hs w g0 g1 g2 g3 gm b he hdb hb W va al a c G hM hT hk sa la oa
    rw [show (#[.pointer (some ⟨g0, 0, none⟩)] ++ #[va] : Array Value) = #[.pointer (some ⟨g0, 0, none⟩), va] by simp]
    have heW := he.grown G
    have hdW := hdb.grown G
    have b4 := ht.eb.1
    have hr := rt_le t n n
    have bb := hM.b0
    subst la
    have IH : ∀ W1 p d, W.grownBy W1 none → p < al.length → 0 ≤ d → ((lev p : Nat) : Int) ≤ d → d + 1 = ((lev al.length : Nat) : Int) → InS W1 gm 52 #[.pointer (some ⟨g0, 0, none⟩)] (b + 1) (tbT t) p (sq t p) d := fun W1 p d G1 h1 h2 h3 h4 =>
      (ih p h1 (by omega) W1 g0 g1 g2 g3 gm (b + 1) (heW.grown0 G1) (hdW.grown (gb_none G1 (some gm))) (by omega)).mono h3
    have LV : 4 ≤ al.length → ∀ p, p ≤ (al.length + 1) / 2 + 1 → ((lev p : Nat) : Int) ≤ ((lev al.length : Nat) : Int) - 1 ∧ 1 ≤ ((lev al.length : Nat) : Int) := fun h4 p hp => by
      have h1 := lev_half h4
      have h2 := lev_mono hp
      omega
    have hcase : rt t al.length al.length = 0 ∨ rt t al.length al.length = 1 ∨ rt t al.length al.length = 2 ∨ rt t al.length al.length = 3 ∨ rt t al.length al.length = 4 ∨ rt t al.length al.length = 5 := by omega
    rcases hcase with cc | cc | cc | cc | cc | cc
    · have h0 := rt_0 cc
      have c0 : cost t al.length al.length = 0 := cost_0 (Nat.le_refl _) cc
      refine (square_0 W g0 g1 g2 g3 gm a b c t va al (sq t al.length) ((lev al.length : Nat) : Int) (val B64 al * val B64 al) heW hM hT ht sa (by omega) cc ?_).mono (fun e w' k => k)
      intro W1 G1
      rw [sq_0 cc]
      have := times_all ht _ al.length al.length (Nat.le_refl _) (by omega) W g0 g1 g2 g3 gm b heW hdW (by rw [Nat.max_self]; omega) W1 va va al al a c (gb_none G1 _) (hM.grown G1) hT (by rw [c0]; rw [sq_0 cc] at hk; exact hk) (sa.grown0 G1) (sa.grown0 G1) rfl rfl oa oa
      rw [c0, Nat.max_self] at this
      exact this.mono fun e w' k => k
    · refine (square_1 W g0 g1 g2 g3 gm a b c t va al (sq t al.length) ((lev al.length : Nat) : Int) (val B64 al * val B64 al) heW hM hT ht sa (by omega) cc ?_).mono (fun e w' k => k)
      intro W1 G1
      rw [sq_1 cc]
      exact (ssqr_c W1 g3 gm a b c va al (heW.grown0 G1).h3 (hM.grown G1) (by omega) (sa.grown0 G1) oa (by omega)).mono fun e w' ⟨x, e1, e2, e3, e4⟩ => ⟨x, c, e1, e2, e3, ⟨hT, Int.le_refl _, .inl (Int.le_refl _)⟩, e4⟩
    · have := rt_2 cc; omega
    · have q := rt_3 cc
      refine (square_3 W g0 g1 g2 g3 gm a b c t va al (sq t al.length) ((lev al.length : Nat) : Int) (val B64 al * val B64 al) heW hM hT ht sa (by omega) cc ?_).mono (fun e w' k => k)
      intro W1 G1
      have l1 := LV (by omega) ((al.length + 1) / 2) (by omega)
      have l2 := LV (by omega) (al.length - (al.length + 1) / 2) (by omega)
      have l3 := LV (by omega) ((al.length + 1) / 2 + 1) (by omega)
      rw [sq_3 ht cc] at hk ⊢
      exact (karaSqr_c W1 g2 g3 gm 52 #[.pointer (some ⟨g0, 0, none⟩)] a b (((lev al.length : Nat) : Int) - 1) c (tbT t) va al _ _ _ (heW.grown0 G1).h2 (heW.grown0 G1).h3 (hM.grown G1) hT (by omega) (by omega) hk (sa.grown0 G1) oa (by omega) (by omega) square_ent (IH W1 _ _ G1 (by omega) (by omega) l1.1 (by omega)) (IH W1 _ _ G1 (by omega) (by omega) l2.1 (by omega)) (IH W1 _ _ G1 (by omega) (by omega) l3.1 (by omega))).mono fun e w' ⟨x, c', h1, h2⟩ => ⟨x, c', h1, (Got.of h2).mono (by omega)⟩
    · have q := rt_4 cc
      refine (square_4 W g0 g1 g2 g3 gm a b c t va al (sq t al.length) ((lev al.length : Nat) : Int) (val B64 al * val B64 al) heW hM hT ht sa (by omega) cc ?_).mono (fun e w' k => k)
      intro W1 G1
      have l1 := LV (by omega) ((al.length + 2) / 3) (by omega)
      have l2 := LV (by omega) ((al.length + 2) / 3 + 1) (by omega)
      have l3 := LV (by omega) (al.length - 2 * ((al.length + 2) / 3)) (by omega)
      rw [sq_4 ht cc] at hk ⊢
      exact (toomSqr_c W1 g1 g2 g3 gm 52 #[.pointer (some ⟨g0, 0, none⟩)] a b (((lev al.length : Nat) : Int) - 1) c (tbT t) va al _ _ _ (heW.grown0 G1).h1 (heW.grown0 G1).h2 (heW.grown0 G1).h3 (hM.grown G1) hT (by omega) (by omega) hk (sa.grown0 G1) oa (by omega) (by omega) square_ent (IH W1 _ _ G1 (by omega) (by omega) l1.1 (by omega)) (IH W1 _ _ G1 (by omega) (by omega) l2.1 (by omega)) (IH W1 _ _ G1 (by omega) (by omega) l3.1 (by omega))).mono fun e w' ⟨x, c', h1, h2⟩ => ⟨x, c', h1, (Got.of h2).mono (by omega)⟩
    · have q := rt_5 cc
      refine (square_5 W g0 g1 g2 g3 gm a b c t va al (sq t al.length) ((lev al.length : Nat) : Int) (val B64 al * val B64 al) heW hM hT ht sa (by omega) cc ?_).mono (fun e w' k => k)
      intro W1 G1
      rw [sq_5 cc]
      exact (convSqr_c W1 gm a b c va al (hM.grown G1) (hdW _ (gb_none G1 _)) (by omega) (sa.grown0 G1) (by omega) (by omega) oa).mono fun e w' ⟨x, e1, e2, e3, e4⟩ => ⟨x, c, e1, e2, e3, ⟨hT, Int.le_refl _, .inl (Int.le_refl _)⟩, e4⟩
/-- A square of a row, noughts on top or not. -/
theorem sqrE_c {t : Tb} (ht : TbOk t) (w : World) (g0 g1 g2 g3 gm : Nat) (a b : Int) (c : Mc) (va : Value) (al : List Int) (he : Eng w g0 g1 g2 g3 gm) (hd : Db w)
    (hm : Mt w gm a b c) (hT : c.T = tbT t) (hb : b ≤ 900) (ha0 : a ≤ 900000000000000) (ha : Sl w va al) (hna : Off va gm) (hl : (trimZ al).length ≤ 512) :
    Calls Tryz.prog 35 #[.pointer (some ⟨g0, 0, none⟩), va] w fun e w' => ∃ x c', e = .returned x ∧ Got w gm a b c (tbT t) (sq t (trimZ al).length) ((lev (trimZ al).length : Nat) : Int) (val B64 al * val B64 al) w' x c' := by
  obtain ⟨A, ca, rfl, hca, _⟩ := ha.form
  have W1 := Lib.hid (mwords_c w _ _ _ _ ha)
  have sa := ha.take (trimZ al).length (trimZ_len al)
  rw [take_trimZ_len] at sa
  have lv := lev_le (trimZ al).length (by omega)
  have cl := sq_lim ht hl
  have T := square_all ht _ hl w g0 g1 g2 g3 gm b he (DbG.of hd hm) (by omega) w _ _ a c (gb_refl _ _) hm hT (by omega) sa rfl hna.len
  rw [val_trimZ] at T
  have HT := Lib.hid T
  obtain ⟨n, hn⟩ : ∃ n, n = al.length := ⟨_, rfl⟩
  rw [← hn] at W1 hca ⊢
  obtain ⟨p, hp⟩ : ∃ p, p = (trimZ al).length := ⟨_, rfl⟩
  rw [← hp] at W1 HT
  rw [← hp]
  have hpn : p ≤ n := by rw [hp, hn]; exact trimZ_len _
  clear hn hp T sa ha hna hm he hd lv cl
  go_enter Tryz.func35, Tryz.ntmps35
  go_wp2_with fail
  refine (W1.out).mono ?_
  rintro e w1 ⟨rfl, hw⟩
  subst hw
  go_wp2_with fail
  refine (HT.out).mono ?_
  rintro e w3 ⟨x, c', rfl, k⟩
  have KK := Lib.hid k
  clear k HT W1
  go_wp2
  go_ret
  exact ⟨x, c', rfl, KK.out⟩
end Go.Proofs.YtldkiddoajlohaaGreatDoor

/- Products by a route first; products of many. -/
namespace Go.Proofs.YtldkiddoajlohaaGreatDoor
open Go.RowKit

/-- Where a route can go. -/
def feas (r : Int) (n m : Nat) : Prop := r = 1 ∨ r = 2 ∨ (r = 3 ∧ (n + 1) / 2 < m) ∨ (r = 4 ∧ 2 * ((n + 2) / 3) < m) ∨ r = 5
theorem gone_by {t : Tb} (ht : TbOk t) (w : World) (g0 g1 g2 g3 gm : Nat) (a b : Int) (c : Mc) (va vb : Value) (al bl : List Int) (r : Int) (he : Eng w g0 g1 g2 g3 gm) (hd : Db w)
    (hm : Mt w gm a b c) (hT : c.T = tbT t) (hb : b ≤ 900) (ha0 : a ≤ 900000000000000) (ha : Sl w va al) (hb' : Sl w vb bl) (hna : Off va gm) (hnb : Off vb gm) (hl : al.length + bl.length ≤ 500) (h0 : 0 < min al.length bl.length) (hf : feas r (max al.length bl.length) (min al.length bl.length)) :
    Calls Tryz.prog 51 #[.pointer (some ⟨g0, 0, none⟩), .int .i64 r, va, vb] w fun e w' => ∃ x c' k, e = .returned (.tuple #[x, .bool true]) ∧ k ≤ 100000000 ∧ Got w gm a b c (tbT t) k 12 (val B64 al * val B64 bl) w' x c' := by
  have bb := hm.b0
  have dg := DbG.of hd hm
  obtain ⟨N, hN⟩ : ∃ N, N = max al.length bl.length := ⟨_, rfl⟩
  obtain ⟨M, hM⟩ : ∃ N, N = min al.length bl.length := ⟨_, rfl⟩
  rw [← hN, ← hM] at hf
  rw [← hM] at h0
  have IH : ∀ p q, p + q ≤ 1024 → InC w gm 45 #[.pointer (some ⟨g0, 0, none⟩)] (b + 1) (tbT t) p q (cost t p q) 11 := fun p q h =>
    (times_all ht (p + q) p q (Nat.le_refl _) h w g0 g1 g2 g3 gm (b + 1) he dg (by have := lev_le (max p q) (by omega); omega)).mono (by have := lev_le (max p q) (by omega); omega)
  have CL : ∀ p q, p + q ≤ 1024 → cost t p q ≤ 10000000 := fun p q h => cost_lim ht h
  rcases hf with rfl | rfl | ⟨rfl, hf⟩ | ⟨rfl, hf⟩ | rfl
  · have h2 : al.length * bl.length ≤ 500 * 500 := Nat.mul_le_mul (by omega) (by omega)
    exact (gone1_c w g0 g1 g2 g3 gm a b c (tbT t) va vb al bl he hm hT (by omega) ha hb' hna hnb (by omega) (by omega)).mono fun e w' ⟨x, c', e1, e2⟩ => ⟨x, c', _, e1, by omega, e2.mono (by decide)⟩
  · have lt := Nat.mod_lt N h0
    have hk : pall N M (cost t M M) (cost t (N % M) M) ≤ 10000000 := by
      have h1 := pall_le (n := N) (m := M) (cost_le ht 1024 M M (by omega) (by omega)) (cost_le ht 1024 (N % M) M (by omega) (by omega))
      have h2 : N * M ≤ 500 * 500 := Nat.mul_le_mul (by omega) (by omega)
      omega
    have := gone2_c w g0 g1 g2 g3 gm a b 11 c (tbT t) va vb al bl (cost t M M) (cost t (N % M) M) he hm hT (by decide) (by omega) (by rw [← hN, ← hM]; omega) ha hb' hna hnb (by omega) (by omega) (by rw [← hM]; exact h0) (by rw [← hM]; exact IH _ _ (by omega)) (fun _ => by rw [← hM, ← hN]; exact IH _ _ (by omega))
    rw [← hN, ← hM] at this
    exact this.mono fun e w' ⟨x, c', e1, e2⟩ => ⟨x, c', _, e1, by omega, e2⟩
  · have k1 := CL ((N + 1) / 2) ((N + 1) / 2) (by omega)
    have k2 := CL (N - (N + 1) / 2) (M - (N + 1) / 2) (by omega)
    have k3 := CL ((N + 1) / 2 + 1) ((N + 1) / 2 + 1) (by omega)
    have := gone3_c w g0 g1 g2 g3 gm a b 11 c (tbT t) va vb al bl (cost t ((N + 1) / 2) ((N + 1) / 2)) (cost t (N - (N + 1) / 2) (M - (N + 1) / 2)) (cost t ((N + 1) / 2 + 1) ((N + 1) / 2 + 1)) he hm hT (by decide) (by omega) (by omega) ha hb' hna hnb (by omega) (by omega) (by rw [← hN, ← hM]; exact hf) (by rw [← hN]; exact IH _ _ (by omega)) (by rw [← hN, ← hM]; exact IH _ _ (by omega)) (by rw [← hN]; exact IH _ _ (by omega))
    exact this.mono fun e w' ⟨x, c', e1, e2⟩ => ⟨x, c', _, e1, by omega, e2⟩
  · have k1 := CL ((N + 2) / 3) ((N + 2) / 3) (by omega)
    have k2 := CL ((N + 2) / 3 + 1) ((N + 2) / 3 + 1) (by omega)
    have k3 := CL (N - 2 * ((N + 2) / 3)) (M - 2 * ((N + 2) / 3)) (by omega)
    have := gone4_c w g0 g1 g2 g3 gm a b 11 c (tbT t) va vb al bl (cost t ((N + 2) / 3) ((N + 2) / 3)) (cost t ((N + 2) / 3 + 1) ((N + 2) / 3 + 1)) (cost t (N - 2 * ((N + 2) / 3)) (M - 2 * ((N + 2) / 3))) he hm hT (by decide) (by omega) (by omega) ha hb' hna hnb (by omega) (by omega) (by rw [← hN, ← hM]; exact hf) (by rw [← hN]; exact IH _ _ (by omega)) (by rw [← hN]; exact IH _ _ (by omega)) (by rw [← hN, ← hM]; exact IH _ _ (by omega))
    exact this.mono fun e w' ⟨x, c', e1, e2⟩ => ⟨x, c', _, e1, by omega, e2⟩
  · have q9 : transf al.length bl.length 3 ≤ 10000000 := by
      unfold transf
      have l1 := blen_le (al.length + bl.length - 1) 9 (by omega)
      have l2 := Nat.pow_le_pow_right (n := 2) (by decide) l1
      have l3 : 2 ^ blen (al.length + bl.length - 1) / 2 * blen (al.length + bl.length - 1) ≤ 256 * 9 := Nat.mul_le_mul (by omega) l1
      have l4 := Nat.mul_assoc 3 (2 ^ blen (al.length + bl.length - 1) / 2) (blen (al.length + bl.length - 1))
      omega
    exact (gone5_c w g0 g1 g2 g3 gm a b c (tbT t) va vb al bl he hd hm hT (by omega) ha hb' hna hnb (by omega) (by omega) (by omega)).mono fun e w' ⟨x, c', e1, e2⟩ => ⟨x, c', _, e1, by omega, e2.mono (by decide)⟩
set_option maxRecDepth 100000 in
theorem by_yes {t : Tb} (ht : TbOk t) (w : World) (g0 g1 g2 g3 gm : Nat) (a b : Int) (c : Mc) (va vb : Value) (al bl : List Int) (r : Int) (he : Eng w g0 g1 g2 g3 gm) (hd : Db w)
    (hm : Mt w gm a b c) (hT : c.T = tbT t) (hb : b ≤ 900) (ha0 : a ≤ 900000000000000) (ha : Sl w va al) (hb' : Sl w vb bl) (hna : Off va gm) (hnb : Off vb gm) (hl : al.length + bl.length ≤ 500) (h0 : 0 < min (trimZ al).length (trimZ bl).length) (hf : feas r (max (trimZ al).length (trimZ bl).length) (min (trimZ al).length (trimZ bl).length)) :
    Calls Tryz.prog 31 #[.pointer (some ⟨g0, 0, none⟩), .int .i64 r, va, vb] w fun e w' => ∃ x c' k, e = .returned (.tuple #[x, .bool true]) ∧ k ≤ 100000000 ∧ Got w gm a b c (tbT t) k 12 (val B64 al * val B64 bl) w' x c' := by
  obtain ⟨A, ca, rfl, hca, _⟩ := ha.form
  obtain ⟨B, cb, rfl, hcb, _⟩ := hb'.form
  have W1 := Lib.hid (mwords_c w _ _ _ _ ha)
  have W2 := Lib.hid (mwords_c w _ _ _ _ hb')
  have sa := ha.take (trimZ al).length (trimZ_len al)
  have sb := hb'.take (trimZ bl).length (trimZ_len bl)
  rw [take_trimZ_len] at sa sb
  have l1 := trimZ_len al
  have l2 := trimZ_len bl
  have T := gone_by ht w g0 g1 g2 g3 gm a b c _ _ _ _ r he hd hm hT hb ha0 sa sb hna.len hnb.len (by omega) h0 hf
  rw [val_trimZ, val_trimZ] at T
  have HT := Lib.hid T
  have r0 : (r == 0) = false := by
    have : r ≠ 0 := by rcases hf with h | h | h | h | h <;> omega
    simpa using this
  obtain ⟨n, hn⟩ : ∃ n, n = al.length := ⟨_, rfl⟩
  obtain ⟨m, hm'⟩ : ∃ m, m = bl.length := ⟨_, rfl⟩
  rw [← hn] at W1 hca ⊢
  rw [← hm'] at W2 hcb ⊢
  obtain ⟨p, hp⟩ : ∃ p, p = (trimZ al).length := ⟨_, rfl⟩
  obtain ⟨q, hq⟩ : ∃ p, p = (trimZ bl).length := ⟨_, rfl⟩
  have hpn : p ≤ n := by rw [hp, hn]; exact trimZ_len _
  have hqm : q ≤ m := by rw [hq, hm']; exact trimZ_len _
  rw [← hp, ← hq] at h0
  rw [← hp] at W1 HT
  rw [← hq] at W2 HT
  have p0 : (p == 0) = false := by simp; omega
  have q0 : (q == 0) = false := by simp; omega
  have p1 : ((p : Int) == 0) = false := by have : ¬ (p : Int) = 0 := by omega
                                           simpa using this
  have q1 : ((q : Int) == 0) = false := by have : ¬ (q : Int) = 0 := by omega
                                           simpa using this
  clear hn hm' hp hq T sa sb ha hb' hna hnb hm he hd l1 l2 hf hl h0
  go_enter Tryz.func31, Tryz.ntmps31
  go_wp2_with fail
  refine (W1.out).mono ?_
  rintro e w1 ⟨rfl, hw⟩
  subst hw
  go_wp2_with fail
  refine (W2.out).mono ?_
  rintro e w2 ⟨rfl, hw⟩
  subst hw
  go_wp2_with fail
  refine (HT.out).mono ?_
  rintro e w3 ⟨x, c', k, rfl, hk, kk⟩
  have KK := Lib.hid (And.intro hk kk)
  clear kk hk HT W1 W2
  go_wp2
  go_ret2
  exact ⟨x, c', k, rfl, KK.out⟩
set_option maxRecDepth 100000 in
theorem by_no (w : World) (g0 g1 g2 g3 gm : Nat) (va vb : Value) (al bl : List Int) (r : Int) (he : Eng w g0 g1 g2 g3 gm) (ha : Sl w va al) (hb' : Sl w vb bl) (hl : al.length + bl.length ≤ 500)
    (hf : min (trimZ al).length (trimZ bl).length = 0 ∨ ¬ feas r (max (trimZ al).length (trimZ bl).length) (min (trimZ al).length (trimZ bl).length)) :
    Calls Tryz.prog 31 #[.pointer (some ⟨g0, 0, none⟩), .int .i64 r, va, vb] w fun e w' => e = .returned (.tuple #[.slice none 0 0, .bool false]) ∧ w' = w := by
  have l1 := trimZ_len al
  have l2 := trimZ_len bl
  by_cases hr0 : r = 0
  · skip
    obtain ⟨A, ca, rfl, hca, _⟩ := ha.form
    obtain ⟨B, cb, rfl, hcb, _⟩ := hb'.form
    have W1 := Lib.hid (mwords_c w _ _ _ _ ha)
    have W2 := Lib.hid (mwords_c w _ _ _ _ hb')
    have sa := ha.take (trimZ al).length (trimZ_len al)
    have sb := hb'.take (trimZ bl).length (trimZ_len bl)
    rw [take_trimZ_len] at sa sb
    obtain ⟨n, hn⟩ : ∃ n, n = al.length := ⟨_, rfl⟩
    obtain ⟨m, hm'⟩ : ∃ m, m = bl.length := ⟨_, rfl⟩
    rw [← hn] at W1 hca ⊢
    rw [← hm'] at W2 hcb ⊢
    obtain ⟨p, hp⟩ : ∃ p, p = (trimZ al).length := ⟨_, rfl⟩
    obtain ⟨q, hq⟩ : ∃ p, p = (trimZ bl).length := ⟨_, rfl⟩
    have hpn : p ≤ n := by rw [hp, hn]; exact trimZ_len _
    have hqm : q ≤ m := by rw [hq, hm']; exact trimZ_len _
    rw [← hp] at W1
    rw [← hq] at W2
    subst hr0
    clear hn hm' hp hq sa sb ha hb' he l1 l2 hf hl
    go_enter Tryz.func31, Tryz.ntmps31
    go_wp2_with fail
    refine (W1.out).mono ?_
    rintro e w1 ⟨rfl, hw⟩
    subst hw
    go_wp2_with fail
    refine (W2.out).mono ?_
    rintro e w2 ⟨rfl, hw⟩
    subst hw
    clear W1 W2
    go_wp2
    go_ret2
    exact ⟨rfl, rfl⟩
  have r0 : (r == 0) = false := by simpa using hr0
  by_cases hp0 : (trimZ al).length = 0
  · skip
    obtain ⟨A, ca, rfl, hca, _⟩ := ha.form
    obtain ⟨B, cb, rfl, hcb, _⟩ := hb'.form
    have W1 := Lib.hid (mwords_c w _ _ _ _ ha)
    have W2 := Lib.hid (mwords_c w _ _ _ _ hb')
    have sa := ha.take (trimZ al).length (trimZ_len al)
    have sb := hb'.take (trimZ bl).length (trimZ_len bl)
    rw [take_trimZ_len] at sa sb
    obtain ⟨n, hn⟩ : ∃ n, n = al.length := ⟨_, rfl⟩
    obtain ⟨m, hm'⟩ : ∃ m, m = bl.length := ⟨_, rfl⟩
    rw [← hn] at W1 hca ⊢
    rw [← hm'] at W2 hcb ⊢
    obtain ⟨p, hp⟩ : ∃ p, p = (trimZ al).length := ⟨_, rfl⟩
    obtain ⟨q, hq⟩ : ∃ p, p = (trimZ bl).length := ⟨_, rfl⟩
    have hpn : p ≤ n := by rw [hp, hn]; exact trimZ_len _
    have hqm : q ≤ m := by rw [hq, hm']; exact trimZ_len _
    rw [← hp] at hp0
    rw [← hp] at W1
    rw [← hq] at W2
    clear hn hm' hp hq sa sb ha hb' he l1 l2 hf hl
    subst hp0
    go_enter Tryz.func31, Tryz.ntmps31
    go_wp2_with fail
    refine (W1.out).mono ?_
    rintro e w1 ⟨rfl, hw⟩
    subst hw
    go_wp2_with fail
    refine (W2.out).mono ?_
    rintro e w2 ⟨rfl, hw⟩
    subst hw
    clear W1 W2
    go_wp2
    go_ret2
    exact ⟨rfl, rfl⟩
  by_cases hq0 : (trimZ bl).length = 0
  · skip
    obtain ⟨A, ca, rfl, hca, _⟩ := ha.form
    obtain ⟨B, cb, rfl, hcb, _⟩ := hb'.form
    have W1 := Lib.hid (mwords_c w _ _ _ _ ha)
    have W2 := Lib.hid (mwords_c w _ _ _ _ hb')
    have sa := ha.take (trimZ al).length (trimZ_len al)
    have sb := hb'.take (trimZ bl).length (trimZ_len bl)
    rw [take_trimZ_len] at sa sb
    obtain ⟨n, hn⟩ : ∃ n, n = al.length := ⟨_, rfl⟩
    obtain ⟨m, hm'⟩ : ∃ m, m = bl.length := ⟨_, rfl⟩
    rw [← hn] at W1 hca ⊢
    rw [← hm'] at W2 hcb ⊢
    obtain ⟨p, hp⟩ : ∃ p, p = (trimZ al).length := ⟨_, rfl⟩
    obtain ⟨q, hq⟩ : ∃ p, p = (trimZ bl).length := ⟨_, rfl⟩
    have hpn : p ≤ n := by rw [hp, hn]; exact trimZ_len _
    have hqm : q ≤ m := by rw [hq, hm']; exact trimZ_len _
    rw [← hp] at hp0
    rw [← hq] at hq0
    rw [← hp] at W1
    rw [← hq] at W2
    have p0 : (p == 0) = false := by simp; omega
    have p1 : ((p : Int) == 0) = false := by have : ¬ (p : Int) = 0 := by omega
                                             simpa using this
    clear hn hm' hp hq sa sb ha hb' he l1 l2 hf hl
    subst hq0
    go_enter Tryz.func31, Tryz.ntmps31
    go_wp2_with fail
    refine (W1.out).mono ?_
    rintro e w1 ⟨rfl, hw⟩
    subst hw
    go_wp2_with fail
    refine (W2.out).mono ?_
    rintro e w2 ⟨rfl, hw⟩
    subst hw
    clear W1 W2
    go_wp2
    go_ret2
    exact ⟨rfl, rfl⟩
  have hnf : ¬ feas r (max (trimZ al).length (trimZ bl).length) (min (trimZ al).length (trimZ bl).length) := by
    rcases hf with h | h
    · omega
    · exact h
  obtain ⟨A, ca, rfl, hca, _⟩ := ha.form
  obtain ⟨B, cb, rfl, hcb, _⟩ := hb'.form
  have W1 := Lib.hid (mwords_c w _ _ _ _ ha)
  have W2 := Lib.hid (mwords_c w _ _ _ _ hb')
  have sa := ha.take (trimZ al).length (trimZ_len al)
  have sb := hb'.take (trimZ bl).length (trimZ_len bl)
  rw [take_trimZ_len] at sa sb
  have T : Calls Tryz.prog 51 #[.pointer (some ⟨g0, 0, none⟩), .int .i64 r, .slice A (trimZ al).length ca, .slice B (trimZ bl).length cb] w fun e w' => e = .returned (.tuple #[.slice none 0 0, .bool false]) ∧ w' = w := by
    by_cases h3 : r = 3
    · subst h3
      exact gone3_no w g0 g1 g2 g3 gm _ _ _ _ he sa sb (by omega) (by omega) (by
        rcases Nat.lt_or_ge ((max (trimZ al).length (trimZ bl).length + 1) / 2) (min (trimZ al).length (trimZ bl).length) with h | h
        · exact absurd (.inr (.inr (.inl ⟨rfl, h⟩))) hnf
        · exact h)
    by_cases h4 : r = 4
    · subst h4
      exact gone4_no w g0 g1 g2 g3 gm _ _ _ _ he sa sb (by omega) (by omega) (by
        rcases Nat.lt_or_ge (2 * ((max (trimZ al).length (trimZ bl).length + 2) / 3)) (min (trimZ al).length (trimZ bl).length) with h | h
        · exact absurd (.inr (.inr (.inr (.inl ⟨rfl, h⟩)))) hnf
        · exact h)
    have h1 : r ≠ 1 := fun h => hnf (.inl h)
    have h2 : r ≠ 2 := fun h => hnf (.inr (.inl h))
    have h5 : r ≠ 5 := fun h => hnf (.inr (.inr (.inr (.inr h))))
    exact gone_bad w g0 r _ _ _ _ sa sb (by omega)
  have HT := Lib.hid T
  obtain ⟨n, hn⟩ : ∃ n, n = al.length := ⟨_, rfl⟩
  obtain ⟨m, hm'⟩ : ∃ m, m = bl.length := ⟨_, rfl⟩
  rw [← hn] at W1 hca ⊢
  rw [← hm'] at W2 hcb ⊢
  obtain ⟨p, hp⟩ : ∃ p, p = (trimZ al).length := ⟨_, rfl⟩
  obtain ⟨q, hq⟩ : ∃ p, p = (trimZ bl).length := ⟨_, rfl⟩
  have hpn : p ≤ n := by rw [hp, hn]; exact trimZ_len _
  have hqm : q ≤ m := by rw [hq, hm']; exact trimZ_len _
  rw [← hp] at hp0
  rw [← hq] at hq0
  rw [← hp] at W1 HT
  rw [← hq] at W2 HT
  have p0 : (p == 0) = false := by simp; omega
  have q0 : (q == 0) = false := by simp; omega
  have p1 : ((p : Int) == 0) = false := by have : ¬ (p : Int) = 0 := by omega
                                           simpa using this
  have q1 : ((q : Int) == 0) = false := by have : ¬ (q : Int) = 0 := by omega
                                           simpa using this
  clear hn hm' hp hq T sa sb ha hb' he l1 l2 hf hl hnf hp0 hq0
  go_enter Tryz.func31, Tryz.ntmps31
  go_wp2_with fail
  refine (W1.out).mono ?_
  rintro e w1 ⟨rfl, hw⟩
  subst hw
  go_wp2_with fail
  refine (W2.out).mono ?_
  rintro e w2 ⟨rfl, hw⟩
  subst hw
  go_wp2_with fail
  refine (HT.out).mono ?_
  rintro e w3 ⟨rfl, hw⟩
  clear HT W1 W2
  go_wp2
  go_ret2
  exact ⟨rfl, by first | exact hw | rfl⟩
end Go.Proofs.YtldkiddoajlohaaGreatDoor

/- Products of many. -/
namespace Go.Proofs.YtldkiddoajlohaaGreatDoor
open Go.RowKit

/-- The product of n numbers from the i-th on. -/
def prV (f : Nat → Nat) (i : Nat) : Nat → Nat
  | 0 => 1
  | n + 1 => prV f i n * f (i + n)
theorem prV_add (f : Nat → Nat) (i h : Nat) : ∀ k, prV f i (h + k) = prV f i h * prV f (i + h) k
  | 0 => by simp [prV]
  | k + 1 => by
    show prV f i (h + k) * f (i + (h + k)) = _
    rw [prV_add f i h k, prV, Nat.mul_assoc, Nat.add_assoc]
theorem prV_shift (f : Nat → Nat) (h : Nat) : ∀ n, prV (fun j => f (h + j)) 0 n = prV f h n
  | 0 => rfl
  | n + 1 => by rw [prV, prV, prV_shift f h n, Nat.zero_add]
theorem prV_congr {f g : Nat → Nat} {i : Nat} : ∀ n, (∀ j, j < n → f (i + j) = g (i + j)) → prV f i n = prV g i n
  | 0, _ => rfl
  | n + 1, h => by rw [prV, prV, prV_congr n (fun j hj => h j (by omega)), h n (by omega)]
/-- How many words there are together. -/
def tot (X : Nat → List Int) (i : Nat) : Nat → Nat
  | 0 => 0
  | n + 1 => tot X i n + (X (i + n)).length
theorem tot_add (X : Nat → List Int) (i h : Nat) : ∀ k, tot X i (h + k) = tot X i h + tot X (i + h) k
  | 0 => by simp [tot]
  | k + 1 => by
    show tot X i (h + k) + (X (i + (h + k))).length = _
    rw [tot_add X i h k, tot, Nat.add_assoc, Nat.add_assoc]
theorem tot_shift (X : Nat → List Int) (h : Nat) : ∀ n, tot (fun j => X (h + j)) 0 n = tot X h n
  | 0 => rfl
  | n + 1 => by rw [tot, tot, tot_shift X h n, Nat.zero_add]
theorem prV_lt {X : Nat → List Int} {i : Nat} : ∀ n, (∀ j, j < n → Ws (X (i + j))) → 0 < n → prV (fun j => val B64 (X j)) i n < B64 ^ tot X i n
  | 0, _, h => absurd h (by decide)
  | 1, w, _ => by
    show 1 * val B64 (X (i + 0)) < B64 ^ (0 + (X (i + 0)).length)
    rw [Nat.one_mul, Nat.zero_add]
    exact val_lt (w 0 (by decide)).dg
  | n + 2, w, _ => by
    show prV _ i (n + 1) * val B64 (X (i + (n + 1))) < B64 ^ (tot X i (n + 1) + _)
    exact mul_lt_pow (prV_lt (n + 1) (fun j hj => w j (by omega)) (by omega)) (val_lt (w (n + 1) (by omega)).dg)
theorem Cells.growng {w w' : World} {v : Value} {n gm : Nat} {V : Nat → Value} (h : Cells w v n 1 V) (ho : Off v gm) (g : w.grownBy w' (some gm)) : Cells w' v n 1 V := by
  obtain ⟨A, c, rfl, h1, h2, h4⟩ := h
  refine ⟨A, c, rfl, h1, h2, fun hn => ?_⟩
  obtain ⟨b, o, rfl, hc⟩ := h4 hn
  exact ⟨b, o, rfl, fun j hj => gb_cell g (hc j hj) (by have := ho b rfl; simpa using this)⟩
theorem Pts.growng {w w' : World} {v : Value} {n gm : Nat} {V : Nat → Value} {X : Nat → List Int} (h : Pts w v n V X) (ho : Off v gm) (hV : ∀ j, j < n → Off (V j) gm) (g : w.grownBy w' (some gm)) : Pts w' v n V X :=
  ⟨h.c.growng ho g, fun j hj => (h.s j hj).off (hV j hj) g⟩
theorem Pts.front {w : World} {A : Option Addr} {n m c h : Nat} {V : Nat → Value} {X : Nat → List Int} (p : Pts w (.slice A m c) n V X) (hh : h ≤ n) : Pts w (.slice A h c) h V X := by
  refine ⟨?_, fun j hj => p.s j (by omega)⟩
  obtain ⟨A', c', e, h1, h2, h4⟩ := p.c
  simp only [Value.slice.injEq] at e
  obtain ⟨rfl, rfl, rfl⟩ := e
  refine ⟨_, _, rfl, by omega, h2, fun h0 => ?_⟩
  obtain ⟨b, o, hA, hc⟩ := h4 (by omega)
  exact ⟨b, o, hA, fun j hj => hc j (by omega)⟩
theorem Pts.back {w : World} {b o n m c h : Nat} {V : Nat → Value} {X : Nat → List Int} (p : Pts w (.slice (some ⟨b, o, none⟩) m c) n V X) (hh : h < n) : Pts w (.slice (some ⟨b, o + h, none⟩) (n - h) (c - h)) (n - h) (fun j => V (h + j)) (fun j => X (h + j)) := by
  refine ⟨?_, fun j hj => p.s (h + j) (by omega)⟩
  obtain ⟨A', c', e, h1, h2, h4⟩ := p.c
  simp only [Value.slice.injEq] at e
  obtain ⟨rfl, rfl, rfl⟩ := e
  refine ⟨_, _, rfl, by omega, by omega, fun h0 => ?_⟩
  obtain ⟨b', o', hA, hc⟩ := h4 (by omega)
  simp only [Option.some.injEq, Addr.mk.injEq, and_true] at hA
  obtain ⟨rfl, rfl⟩ := hA
  exact ⟨b, o + h, rfl, fun j hj => by rw [Nat.add_assoc]; exact hc (h + j) (by omega)⟩
set_option maxRecDepth 100000 in
set_option maxHeartbeats 4000000 in
theorem product_all {t : Tb} (ht : TbOk t) : ∀ (n : Nat), n ≤ 1000 → ∀ (w : World) (g0 g1 g2 g3 gm : Nat) (a b : Int) (c : Mc) (v : Value) (V : Nat → Value) (X : Nat → List Int), Eng w g0 g1 g2 g3 gm → Db w → Mt w gm a b c → c.T = tbT t → b ≤ 900 → a + (n : Int) * 100000000 ≤ 900000000000000 →
    Pts w v n V X → Off v gm → (∀ j, j < n → Off (V j) gm) → tot X 0 n ≤ 1000 →
    Calls Tryz.prog 16 #[.pointer (some ⟨g0, 0, none⟩), v] w fun e w' => ∃ x c' a', e = .returned x ∧ Wo w' w.heap.size x (prV (fun j => val B64 (X j)) 0 n) ∧ Mt w' gm a' b c' ∧ (a' ≤ a + (n : Int) * 100000000 ∧ (0 < n → a' + 10000000 ≤ a + (n : Int) * 100000000)) ∧ c'.T = tbT t ∧ w.grownBy w' (some gm) := by
  intro n
  induction n using Nat.strongRecOn with
  | _ n ih =>
    intro hn1 w g0 g1 g2 g3 gm a b c v V X he hd hm hT hb ha hp ho hV hl
    have hgm : gm < w.heap.size := World.block_lt_of_cell? w _ hm.c0
    obtain ⟨A, ca, rfl, hca, _, h4⟩ := hp.c
    by_cases n0 : n = 0
    · subst n0
      have ON := Lib.hid (lone_c w 1 (by decide) (by decide))
      have HM := Lib.hid hm
      have HT := Lib.hid hT
      have HH : Hid (a ≤ a + ((0 : Nat) : Int) * 100000000 ∧ (0 < 0 → a + 10000000 ≤ a + ((0 : Nat) : Int) * 100000000)) := Lib.hid (by omega)
      clear ih hp h4 hm hT he hd ha hl hV ho
      go_enter Tryz.func16, Tryz.ntmps16
      go_wp2_with fail
      refine (ON.out).mono ?_
      rintro e w1 ⟨x, rfl, o1, g1'⟩
      have KK := Lib.hid (And.intro o1 g1')
      clear o1 g1' ON
      go_wp2
      go_ret
      exact ⟨x, c, a, rfl, KK.out.1, HM.out.grown KK.out.2, HH.out, HT.out, gb_none KK.out.2 _⟩
    by_cases n1 : n = 1
    · subst n1
      have e1 : tot X 0 1 = (X 0).length := by simp [tot]
      have NO := Lib.hid (lnorm_c w (V 0) (X 0) (hp.s 0 (by decide)) (by omega))
      obtain ⟨bA, oA, rfl, hc⟩ := h4 (by decide)
      have c0 := hc 0 (by decide)
      rw [Nat.add_zero] at c0
      obtain ⟨V0, hV0⟩ : ∃ z, z = V 0 := ⟨_, rfl⟩
      rw [← hV0] at NO c0
      have HM := Lib.hid hm
      have HT := Lib.hid hT
      have HH : Hid (a ≤ a + ((1 : Nat) : Int) * 100000000 ∧ (0 < 1 → a + 10000000 ≤ a + ((1 : Nat) : Int) * 100000000)) := Lib.hid (by omega)
      have HX : Hid (prV (fun j => val B64 (X j)) 0 1 = val B64 (trimZ (X 0))) := Lib.hid (by rw [val_trimZ]; simp [prV])
      clear ih hp h4 hm hT he hd ha hl hV ho hc hV0
      go_enter Tryz.func16, Tryz.ntmps16
      go_wp2_with fail
      refine (NO.out).mono ?_
      rintro e w1 ⟨x, rfl, o1, g1'⟩
      have KK := Lib.hid (And.intro o1 g1')
      clear o1 g1' NO
      go_wp2
      go_ret
      exact ⟨x, c, a, rfl, ⟨_, KK.out.1, trimZ_nz _, HX.out.symm⟩, HM.out.grown KK.out.2, HH.out, HT.out, gb_none KK.out.2 _⟩
    obtain ⟨bA, oA, rfl, _⟩ := h4 (by omega)
    obtain ⟨h, hh⟩ : ∃ h, h = n / 2 := ⟨_, rfl⟩
    have eH : (n : Int) / 2 = (h : Int) := by omega
    have q0 : ((n : Int) == 0) = false := by simp; omega
    have q1 : ((n : Int) == 1) = false := by simp; omega
    have q0' : (n == 0) = false := by simp; omega
    have q1' : (n == 1) = false := by simp; omega
    have hhn : h < n := by omega
    have hp2 := hp.back hhn
    have GD := gb_drew (gb_refl w none)
    have I1 := ih h hhn (by omega) w.drew g0 g1 g2 g3 gm a b c (.slice (some ⟨bA, oA, none⟩) h ca) V X he.drew (hd.grown0 GD) hm.drew hT hb (by omega) ((hp.front (by omega)).grown0 GD) ho (fun j hj => hV j (by omega)) (by have := tot_add X 0 h (n - h); rw [show h + (n - h) = n by omega] at this; omega)
    have I2 := fun (w1 : World) (G : w.grownBy w1 (some gm)) (a1 : Int) (c1 : Mc) (m1 : Mt w1 gm a1 b c1) (h1 : c1.T = tbT t) (ha1 : a1 ≤ a + (h : Int) * 100000000 ∧ (0 < h → a1 + 10000000 ≤ a + (h : Int) * 100000000)) => ih (n - h) (by omega) (by omega) w1 g0 g1 g2 g3 gm a1 b c1 (.slice (some ⟨bA, oA + h, none⟩) (n - h) (ca - h)) (fun j => V (h + j)) (fun j => X (h + j)) (he.grown G) (hd.grown hm G) m1 h1 hb (by omega) (hp2.growng (fun b' hb' => ho b' hb') (fun j hj => hV (h + j) (by omega)) G) (fun b' hb' => ho b' hb') (fun j hj => hV (h + j) (by omega)) (by rw [tot_shift]; have := tot_add X 0 h (n - h); rw [show h + (n - h) = n by omega] at this; rw [Nat.zero_add] at this; omega)
    have PV : prV (fun j => val B64 (X j)) 0 n = prV (fun j => val B64 (X j)) 0 h * prV (fun j => val B64 (X j)) h (n - h) := by
      have := prV_add (fun j => val B64 (X j)) 0 h (n - h)
      rw [show h + (n - h) = n by omega, Nat.zero_add] at this
      exact this
    have L1 := prV_lt (X := X) (i := 0) h (fun j hj => by rw [Nat.zero_add]; exact (hp.s j (by omega)).ws) (by omega)
    have L2 := prV_lt (X := X) (i := h) (n - h) (fun j hj => (hp.s (h + j) (by omega)).ws) (by omega)
    have TT := tot_add X 0 h (n - h)
    rw [show h + (n - h) = n by omega, Nat.zero_add] at TT
    obtain ⟨T1, hT1⟩ : ∃ T, T = tot X 0 h := ⟨_, rfl⟩
    obtain ⟨T2, hT2⟩ : ∃ T, T = tot X h (n - h) := ⟨_, rfl⟩
    rw [← hT1, ← hT2] at TT
    rw [← hT1] at L1
    rw [← hT2] at L2
    have b12 : T1 + T2 ≤ 1000 := by omega
    have SH := prV_shift (fun j => val B64 (X j)) h (n - h)
    rw [PV]
    obtain ⟨P1, hP1⟩ : ∃ P, P = prV (fun j => val B64 (X j)) 0 h := ⟨_, rfl⟩
    obtain ⟨P2, hP2⟩ : ∃ P, P = prV (fun j => val B64 (X j)) h (n - h) := ⟨_, rfl⟩
    rw [← hP2] at SH
    simp only [SH] at I2
    rw [← hP1] at I1 L1
    rw [← hP2] at L2
    rw [← hP1, ← hP2]
    have HL := Lib.hid (And.intro L1 L2)
    have HI1 := Lib.hid I1
    have HI2 := Lib.hid I2
    have HGM := Lib.hid hgm
    have HE := Lib.hid he
    have HD := Lib.hid hd
    have HM := Lib.hid hm
    have HB := Lib.hid hb
    have HA := Lib.hid ha
    have HN : Hid (h < n ∧ 1 ≤ h) := Lib.hid (by omega)
    clear ih hp hp2 hm he hd ho hV hl I1 I2 PV L1 L2 TT SH hT1 hT2 hP1 hP2 h4 hgm hb ha hh hT
    go_enter Tryz.func16, Tryz.ntmps16
    go_wp2_with fail
    refine Canon.region_canon (by kernel_rfl) (by kernel_rfl) ?_
    go_wp2_with fail
    refine (HI1.out).mono ?_
    rintro e w1 ⟨x1, c1, a1, rfl, o1, m1, ha1, t1, g1'⟩
    have G1 := Lib.hid (gb_trans (gb_none (gb_drew (gb_refl w none)) (some gm)) g1')
    have O1 : Hid (Wo w1 w.heap.size x1 P1) := Lib.hid o1
    have A1 := Lib.hid ha1
    have HI3 := Lib.hid (HI2.out w1 G1.out a1 c1 m1 t1 ha1)
    clear o1 m1 ha1 t1 g1' HI1 HI2
    go_wp2_with fail
    refine (HI3.out).mono ?_
    rintro e w2 ⟨x2, c2, a2, rfl, o2, m2, ha2, t2, g2'⟩
    have BG : Hid (gm < w1.heap.size) := Lib.hid (Nat.lt_of_lt_of_le HGM.out G1.out.size)
    have O1' := Lib.hid (O1.out.past HGM.out g2')
    have O2 := Lib.hid o2
    have A2 := Lib.hid ha2
    have G2 := Lib.hid (gb_trans G1.out g2')
    obtain ⟨z1, s1, l1, v1⟩ := O1'.out.get HL.out.1
    obtain ⟨z2, s2, l2, v2⟩ := O2.out.get HL.out.2
    have r1 := trimZ_len z1
    have r2 := trimZ_len z2
    have N1 := mulE_c ht w2 g0 g1 g2 g3 gm a2 b c2 x1 x2 z1 z2 (HE.out.grown G2.out) (HD.out.grown HM.out G2.out) m2 t2 HB.out (by
      have h1 := A1.out
      have h2 := A2.out
      have h3 := HA.out
      have h4 := HN.out
      omega) s1 s2 (O1'.out.off HGM.out) (O2.out.off BG.out) (by omega)
    rw [v1, v2] at N1
    have KC := cost_lim ht (n := (trimZ z1).length) (m := (trimZ z2).length) (by omega)
    obtain ⟨k, hk⟩ : ∃ k, k = cost t (trimZ z1).length (trimZ z2).length := ⟨_, rfl⟩
    rw [← hk] at N1 KC
    have HN1 := Lib.hid N1
    have HKC := Lib.hid KC
    clear N1 KC hk s1 l1 v1 s2 l2 v2 r1 r2 o2 m2 ha2 t2 g2' HI3
    go_wp2_with fail
    refine (HN1.out).mono ?_
    rintro e w3 ⟨x, c3, rfl, o3, m3, cc, g3'⟩
    have KK : Hid (Wo w3 w.heap.size x (P1 * P2) ∧ Mt w3 gm (a2 + (k : Int)) b c3 ∧ (a2 + (k : Int) ≤ a + (n : Int) * 100000000 ∧ (0 < n → a2 + (k : Int) + 10000000 ≤ a + (n : Int) * 100000000)) ∧ c3.T = tbT t ∧ w.grownBy w3 (some gm)) := Lib.hid ⟨o3.mono G2.out.size, m3, (by
      have h1 := A1.out
      have h2 := A2.out
      have h4 := HN.out
      have h5 := HKC.out
      have h6 : ((n - h : Nat) : Int) = (n : Int) - (h : Int) := by omega
      rw [h6] at h2
      omega), cc.1, gb_trans G2.out g3'⟩
    clear o3 m3 cc g3' HN1 O1 O1' O2 A1 A2
    go_wp2
    refine ⟨by kernel_rfl, ?_⟩
    go_wp2
    go_ret
    exact ⟨x, c3, _, rfl, KK.out⟩
end Go.Proofs.YtldkiddoajlohaaGreatDoor

/- The reference's tables: entries within their ranges. -/
namespace Go.Proofs.YtldkiddoajlohaaGreatDoor
open Go.RowKit

theorem rwithin_c (w : World) (n l m : Int) (h : l ≤ m) : Calls Tryz.prog 74 #[.int .i64 n, .int .i64 l, .int .i64 m] w fun e w' => e = .returned (.int .i64 (clampI l m n)) ∧ w' = w := by
  by_cases h1 : n < l
  · have e : clampI l m n = l := by unfold clampI; rw [if_pos h1]
    rw [e]
    clear e
    have h2 : n < m := by omega
    go_enter Tryz.func74, Tryz.ntmps74
    go_wp2
    all_goals go_ret
    all_goals exact ⟨by simp; try omega, rfl⟩
  · by_cases h2 : m < n
    · have e : clampI l m n = m := by unfold clampI; rw [if_neg h1, if_pos h2]
      rw [e]
      clear e
      go_enter Tryz.func74, Tryz.ntmps74
      go_wp2
      all_goals go_ret
      all_goals exact ⟨by simp; try omega, rfl⟩
    · have e : clampI l m n = n := by unfold clampI; rw [if_neg h1, if_neg h2]
      rw [e]
      clear e
      go_enter Tryz.func74, Tryz.ntmps74
      go_wp2
      all_goals go_ret
      all_goals exact ⟨by simp; try omega, rfl⟩
set_option maxRecDepth 100000 in
set_option maxHeartbeats 4000000 in
theorem rclamp_c (w : World) (t : Tb) : Calls Tryz.prog 59 #[t.v] w fun e w' => e = .returned t.clamp.v ∧ w.grownBy w' none := by
  have H0 := Lib.hid (fun w => rwithin_c w t.eb 4 64 (by decide))
  have H1 := Lib.hid (fun w => rwithin_c w t.et 12 8192 (by decide))
  have H2 := Lib.hid (fun w => rwithin_c w t.en 64 16384 (by decide))
  have H3 := Lib.hid (fun w => rwithin_c w t.ed 4 1024 (by decide))
  have H4 := Lib.hid (fun w => rwithin_c w t.er 4 4096 (by decide))
  have H5 := Lib.hid (fun w => rwithin_c w t.el 2 1024 (by decide))
  have H6 := Lib.hid (fun w => rwithin_c w t.ex 2 1024 (by decide))
  have H7 := Lib.hid (fun w => rwithin_c w t.ep 4 256 (by decide))
  have H8 := Lib.hid (fun w => rwithin_c w t.ek 4 1024 (by decide))
  have H9 := Lib.hid (fun w => rwithin_c w t.es 2 1024 (by decide))
  have H10 := Lib.hid (fun w => rwithin_c w t.ee 2 256 (by decide))
  obtain ⟨u, hu⟩ : ∃ u, u = t.clamp := ⟨_, rfl⟩
  rw [← hu]
  rw [show clampI 4 64 t.eb = u.eb by rw [hu]; rfl] at H0
  rw [show clampI 12 8192 t.et = u.et by rw [hu]; rfl] at H1
  rw [show clampI 64 16384 t.en = u.en by rw [hu]; rfl] at H2
  rw [show clampI 4 1024 t.ed = u.ed by rw [hu]; rfl] at H3
  rw [show clampI 4 4096 t.er = u.er by rw [hu]; rfl] at H4
  rw [show clampI 2 1024 t.el = u.el by rw [hu]; rfl] at H5
  rw [show clampI 2 1024 t.ex = u.ex by rw [hu]; rfl] at H6
  rw [show clampI 4 256 t.ep = u.ep by rw [hu]; rfl] at H7
  rw [show clampI 4 1024 t.ek = u.ek by rw [hu]; rfl] at H8
  rw [show clampI 2 1024 t.es = u.es by rw [hu]; rfl] at H9
  rw [show clampI 2 256 t.ee = u.ee by rw [hu]; rfl] at H10
  clear hu
  have GA := gb_alloc (gb_refl w none) (Obj.cells #[.int .i64 t.eb, .int .i64 t.et, .int .i64 t.en, .int .i64 t.ed, .int .i64 t.er, .int .i64 t.el, .int .i64 t.ex, .int .i64 t.ep, .int .i64 t.ek, .int .i64 t.es, .int .i64 t.ee] 23)
  have C0 := cs_new w #[.int .i64 t.eb, .int .i64 t.et, .int .i64 t.en, .int .i64 t.ed, .int .i64 t.er, .int .i64 t.el, .int .i64 t.ex, .int .i64 t.ep, .int .i64 t.ek, .int .i64 t.es, .int .i64 t.ee] 23
  have GB := gb_alloc (gb_refl (w.alloc (Obj.cells #[.int .i64 t.eb, .int .i64 t.et, .int .i64 t.en, .int .i64 t.ed, .int .i64 t.er, .int .i64 t.el, .int .i64 t.ex, .int .i64 t.ep, .int .i64 t.ek, .int .i64 t.es, .int .i64 t.ee] 23)) none) (Obj.cells #[.int .i64 0, .int .i64 0, .int .i64 0, .int .i64 0, .int .i64 0, .int .i64 0, .int .i64 0, .int .i64 0, .int .i64 0, .int .i64 0, .int .i64 0] 23)
  have C1 := cs_new (w.alloc (Obj.cells #[.int .i64 t.eb, .int .i64 t.et, .int .i64 t.en, .int .i64 t.ed, .int .i64 t.er, .int .i64 t.el, .int .i64 t.ex, .int .i64 t.ep, .int .i64 t.ek, .int .i64 t.es, .int .i64 t.ee] 23)) #[.int .i64 0, .int .i64 0, .int .i64 0, .int .i64 0, .int .i64 0, .int .i64 0, .int .i64 0, .int .i64 0, .int .i64 0, .int .i64 0, .int .i64 0] 23
  have C0 := C0.grown0 GB
  have HC0 := Lib.hid C0
  have HC1 := Lib.hid C1
  have HG := Lib.hid (gb_trans GA GB)
  clear GA C0 GB C1
  rw [show (w.alloc (Obj.cells #[.int .i64 t.eb, .int .i64 t.et, .int .i64 t.en, .int .i64 t.ed, .int .i64 t.er, .int .i64 t.el, .int .i64 t.ex, .int .i64 t.ep, .int .i64 t.ek, .int .i64 t.es, .int .i64 t.ee] 23)).heap.size = w.heap.size + 1 from alloc_sz ..] at HC1
  go_enter Tryz.func59, Tryz.ntmps59
  go_wp2
  refine wp_gen (fun W => w.grownBy W none ∧ Cs W w.heap.size t.vs ∧ Cs W (w.heap.size + 1) _) ⟨HG.out, HC0.out, HC1.out⟩ ?_
  clear HG HC0 HC1
  rintro wr ⟨G, c0, c1⟩
  have HG := Lib.hid G
  have HC0 := Lib.hid c0
  have HC1 := Lib.hid c1
  clear G c0 c1
  have HSF := Lib.hid (show Canon.SF [(⟨w.heap.size, 1, none⟩, .int .i64 t.et), (⟨w.heap.size, 2, none⟩, .int .i64 t.en), (⟨w.heap.size, 3, none⟩, .int .i64 t.ed), (⟨w.heap.size, 4, none⟩, .int .i64 t.er), (⟨w.heap.size, 5, none⟩, .int .i64 t.el), (⟨w.heap.size, 6, none⟩, .int .i64 t.ex), (⟨w.heap.size, 7, none⟩, .int .i64 t.ep), (⟨w.heap.size, 8, none⟩, .int .i64 t.ek), (⟨w.heap.size, 9, none⟩, .int .i64 t.es), (⟨w.heap.size, 10, none⟩, .int .i64 t.ee)] wr from Canon.sf_cons (HC0.out.cell 1 rfl) (Canon.sf_cons (HC0.out.cell 2 rfl) (Canon.sf_cons (HC0.out.cell 3 rfl) (Canon.sf_cons (HC0.out.cell 4 rfl) (Canon.sf_cons (HC0.out.cell 5 rfl) (Canon.sf_cons (HC0.out.cell 6 rfl) (Canon.sf_cons (HC0.out.cell 7 rfl) (Canon.sf_cons (HC0.out.cell 8 rfl) (Canon.sf_cons (HC0.out.cell 9 rfl) (Canon.sf_cons (HC0.out.cell 10 rfl) (Canon.sf_nil _)))))))))))
  refine Canon.region_held [7, 10, 13, 16, 19, 22, 25, 28, 31, 34] _ (by kernel_rfl) (by kernel_rfl) HSF.out ?_
  have HC0 := Lib.hid HC0.out.drew
  have HC1 := Lib.hid HC1.out.drew
  have HG := Lib.hid (gb_drew HG.out)
  have HSF := Lib.hid HSF.out.drew
  obtain ⟨wd, hwd⟩ : ∃ W, W = wr.drew := ⟨_, rfl⟩
  rw [← hwd] at HC0 HC1 HG HSF ⊢
  clear hwd
  refine Canon.segs_at 2 _ _ _ (by kernel_rfl) ?_
  simp only [List.take_succ_cons, List.take_zero, List.drop_succ_cons, List.drop_zero]
  have c0 := HC0.out.cell 0 rfl
  go_wp2_with fail
  refine (H0.out _).mono ?_
  rintro e wx ⟨rfl, hwx⟩
  subst hwx
  clear c0 H0
  go_wp2
  refine ⟨HSF.out, ?_⟩
  refine Canon.segs_at 2 _ _ _ (by kernel_rfl) ?_
  simp only [List.take_succ_cons, List.take_zero, List.drop_succ_cons, List.drop_zero]
  have c0 := HC0.out.cell 1 rfl
  go_wp2_with fail
  refine (H1.out _).mono ?_
  rintro e wx ⟨rfl, hwx⟩
  subst hwx
  clear c0 H1
  go_wp2
  refine ⟨HSF.out, ?_⟩
  refine Canon.segs_at 2 _ _ _ (by kernel_rfl) ?_
  simp only [List.take_succ_cons, List.take_zero, List.drop_succ_cons, List.drop_zero]
  have c0 := HC0.out.cell 2 rfl
  go_wp2_with fail
  refine (H2.out _).mono ?_
  rintro e wx ⟨rfl, hwx⟩
  subst hwx
  clear c0 H2
  go_wp2
  refine ⟨HSF.out, ?_⟩
  refine Canon.segs_at 2 _ _ _ (by kernel_rfl) ?_
  simp only [List.take_succ_cons, List.take_zero, List.drop_succ_cons, List.drop_zero]
  have c0 := HC0.out.cell 3 rfl
  go_wp2_with fail
  refine (H3.out _).mono ?_
  rintro e wx ⟨rfl, hwx⟩
  subst hwx
  clear c0 H3
  go_wp2
  refine ⟨HSF.out, ?_⟩
  refine Canon.segs_at 2 _ _ _ (by kernel_rfl) ?_
  simp only [List.take_succ_cons, List.take_zero, List.drop_succ_cons, List.drop_zero]
  have c0 := HC0.out.cell 4 rfl
  go_wp2_with fail
  refine (H4.out _).mono ?_
  rintro e wx ⟨rfl, hwx⟩
  subst hwx
  clear c0 H4
  go_wp2
  refine ⟨HSF.out, ?_⟩
  refine Canon.segs_at 2 _ _ _ (by kernel_rfl) ?_
  simp only [List.take_succ_cons, List.take_zero, List.drop_succ_cons, List.drop_zero]
  have c0 := HC0.out.cell 5 rfl
  go_wp2_with fail
  refine (H5.out _).mono ?_
  rintro e wx ⟨rfl, hwx⟩
  subst hwx
  clear c0 H5
  go_wp2
  refine ⟨HSF.out, ?_⟩
  refine Canon.segs_at 2 _ _ _ (by kernel_rfl) ?_
  simp only [List.take_succ_cons, List.take_zero, List.drop_succ_cons, List.drop_zero]
  have c0 := HC0.out.cell 6 rfl
  go_wp2_with fail
  refine (H6.out _).mono ?_
  rintro e wx ⟨rfl, hwx⟩
  subst hwx
  clear c0 H6
  go_wp2
  refine ⟨HSF.out, ?_⟩
  refine Canon.segs_at 2 _ _ _ (by kernel_rfl) ?_
  simp only [List.take_succ_cons, List.take_zero, List.drop_succ_cons, List.drop_zero]
  have c0 := HC0.out.cell 7 rfl
  go_wp2_with fail
  refine (H7.out _).mono ?_
  rintro e wx ⟨rfl, hwx⟩
  subst hwx
  clear c0 H7
  go_wp2
  refine ⟨HSF.out, ?_⟩
  refine Canon.segs_at 2 _ _ _ (by kernel_rfl) ?_
  simp only [List.take_succ_cons, List.take_zero, List.drop_succ_cons, List.drop_zero]
  have c0 := HC0.out.cell 8 rfl
  go_wp2_with fail
  refine (H8.out _).mono ?_
  rintro e wx ⟨rfl, hwx⟩
  subst hwx
  clear c0 H8
  go_wp2
  refine ⟨HSF.out, ?_⟩
  refine Canon.segs_at 2 _ _ _ (by kernel_rfl) ?_
  simp only [List.take_succ_cons, List.take_zero, List.drop_succ_cons, List.drop_zero]
  have c0 := HC0.out.cell 9 rfl
  go_wp2_with fail
  refine (H9.out _).mono ?_
  rintro e wx ⟨rfl, hwx⟩
  subst hwx
  clear c0 H9
  go_wp2
  refine ⟨HSF.out, ?_⟩
  refine Canon.segs_at 2 _ _ _ (by kernel_rfl) ?_
  simp only [List.take_succ_cons, List.take_zero, List.drop_succ_cons, List.drop_zero]
  have c0 := HC0.out.cell 10 rfl
  go_wp2_with fail
  refine (H10.out _).mono ?_
  rintro e wx ⟨rfl, hwx⟩
  subst hwx
  clear c0 H10
  go_wp2
  refine ⟨HSF.out, ?_⟩
  refine Canon.segs_at 0 _ _ _ (by kernel_rfl) ?_
  simp only [List.take_succ_cons, List.take_zero, List.drop_succ_cons, List.drop_zero]
  go_wp2
  refine ⟨HSF.out, ?_⟩
  refine Canon.segs_at 0 _ _ _ (by kernel_rfl) ?_
  simp only [List.take_succ_cons, List.take_zero, List.drop_succ_cons, List.drop_zero]
  have f0 := HC1.out.free 0 rfl
  have q0 := HC1.out.cell 0 rfl
  have f1 := HC1.out.free 1 rfl
  have q1 := HC1.out.cell 1 rfl
  have f2 := HC1.out.free 2 rfl
  have q2 := HC1.out.cell 2 rfl
  have f3 := HC1.out.free 3 rfl
  have q3 := HC1.out.cell 3 rfl
  have f4 := HC1.out.free 4 rfl
  have q4 := HC1.out.cell 4 rfl
  have f5 := HC1.out.free 5 rfl
  have q5 := HC1.out.cell 5 rfl
  have f6 := HC1.out.free 6 rfl
  have q6 := HC1.out.cell 6 rfl
  have f7 := HC1.out.free 7 rfl
  have q7 := HC1.out.cell 7 rfl
  have f8 := HC1.out.free 8 rfl
  have q8 := HC1.out.cell 8 rfl
  have f9 := HC1.out.free 9 rfl
  have q9 := HC1.out.cell 9 rfl
  have f10 := HC1.out.free 10 rfl
  have q10 := HC1.out.cell 10 rfl
  go_wp2
  clear f0 q0 f1 q1 f2 q2 f3 q3 f4 q4 f5 q5 f6 q6 f7 q7 f8 q8 f9 q9 f10 q10
  have CN := (((((((((((HC1.out.set 0 (.int .i64 u.eb)).set 1 (.int .i64 u.et)).set 2 (.int .i64 u.en)).set 3 (.int .i64 u.ed)).set 4 (.int .i64 u.er)).set 5 (.int .i64 u.el)).set 6 (.int .i64 u.ex)).set 7 (.int .i64 u.ep)).set 8 (.int .i64 u.ek)).set 9 (.int .i64 u.es)).set 10 (.int .i64 u.ee))
  have GR := (gb_rowC (gb_rowC (gb_rowC (gb_rowC (gb_rowC (gb_rowC (gb_rowC (gb_rowC (gb_rowC (gb_rowC (gb_rowC (gb_refl wx (some (w.heap.size + 1))) 0 (.int .i64 u.eb)) 1 (.int .i64 u.et)) 2 (.int .i64 u.en)) 3 (.int .i64 u.ed)) 4 (.int .i64 u.er)) 5 (.int .i64 u.el)) 6 (.int .i64 u.ex)) 7 (.int .i64 u.ep)) 8 (.int .i64 u.ek)) 9 (.int .i64 u.es)) 10 (.int .i64 u.ee))
  have GN := (gb_set (p := ⟨w.heap.size + 1, 10, none⟩) (gb_set (p := ⟨w.heap.size + 1, 9, none⟩) (gb_set (p := ⟨w.heap.size + 1, 8, none⟩) (gb_set (p := ⟨w.heap.size + 1, 7, none⟩) (gb_set (p := ⟨w.heap.size + 1, 6, none⟩) (gb_set (p := ⟨w.heap.size + 1, 5, none⟩) (gb_set (p := ⟨w.heap.size + 1, 4, none⟩) (gb_set (p := ⟨w.heap.size + 1, 3, none⟩) (gb_set (p := ⟨w.heap.size + 1, 2, none⟩) (gb_set (p := ⟨w.heap.size + 1, 1, none⟩) (gb_set (p := ⟨w.heap.size + 1, 0, none⟩) HG.out (by show w.heap.size ≤ w.heap.size + 1; omega) (.int .i64 u.eb)) (by show w.heap.size ≤ w.heap.size + 1; omega) (.int .i64 u.et)) (by show w.heap.size ≤ w.heap.size + 1; omega) (.int .i64 u.en)) (by show w.heap.size ≤ w.heap.size + 1; omega) (.int .i64 u.ed)) (by show w.heap.size ≤ w.heap.size + 1; omega) (.int .i64 u.er)) (by show w.heap.size ≤ w.heap.size + 1; omega) (.int .i64 u.el)) (by show w.heap.size ≤ w.heap.size + 1; omega) (.int .i64 u.ex)) (by show w.heap.size ≤ w.heap.size + 1; omega) (.int .i64 u.ep)) (by show w.heap.size ≤ w.heap.size + 1; omega) (.int .i64 u.ek)) (by show w.heap.size ≤ w.heap.size + 1; omega) (.int .i64 u.es)) (by show w.heap.size ≤ w.heap.size + 1; omega) (.int .i64 u.ee))
  have HCN := Lib.hid CN
  have HGN := Lib.hid GN
  have HSF2 := Lib.hid (Canon.sf_grown HSF.out GR (fun q hq => by
    have : q.1.block = w.heap.size := by
      simp only [List.mem_cons, List.not_mem_nil, or_false] at hq
      rcases hq with rfl | rfl | rfl | rfl | rfl | rfl | rfl | rfl | rfl | rfl <;> rfl
    rw [this]; simp))
  clear CN GN GR HSF HC0 HC1 HG
  refine ⟨HSF2.out, ?_⟩
  refine Canon.segs_end _ _ _ (by kernel_rfl) ?_
  go_wp2
  refine ⟨by kernel_rfl, by kernel_rfl, by kernel_rfl, ?_⟩
  go_wp2
  refine bodyPost_ret (res_agg rfl HCN.out rfl (by kernel_rfl) (by kernel_rfl)) rfl ?_
  exact ⟨rfl, HGN.out⟩
end Go.Proofs.YtldkiddoajlohaaGreatDoor

/- The reference's routes. -/
namespace Go.Proofs.YtldkiddoajlohaaGreatDoor
open Go.RowKit

set_option maxRecDepth 100000 in
set_option maxHeartbeats 4000000 in
theorem rroute_c (w : World) (t : Tb) (n m : Nat) (hn : n ≤ 16384) (hm : m ≤ 16384) : Calls Tryz.prog 49 #[t.v, .int .i64 n, .int .i64 m] w fun e w' => e = .returned (.int .i64 (rt t.clamp (max n m) (min n m))) ∧ w.grownBy w' none := by
  have C0 := cs_new w #[.int .i64 t.eb, .int .i64 t.et, .int .i64 t.en, .int .i64 t.ed, .int .i64 t.er, .int .i64 t.el, .int .i64 t.ex, .int .i64 t.ep, .int .i64 t.ek, .int .i64 t.es, .int .i64 t.ee] 23
  have hg := gb_alloc (gb_refl w none) (Obj.cells #[.int .i64 t.eb, .int .i64 t.et, .int .i64 t.en, .int .i64 t.ed, .int .i64 t.er, .int .i64 t.el, .int .i64 t.ex, .int .i64 t.ep, .int .i64 t.ek, .int .i64 t.es, .int .i64 t.ee] 23)
  have HG := Lib.hid hg
  have HC0 := Lib.hid C0
  clear C0 hg
  have p1 : ((16384 : Int) < (n : Int)) = False := by simp; omega
  have p2 : ((16384 : Int) < (m : Int)) = False := by simp; omega
  rcases Nat.lt_or_ge n m with h | h
  · rw [Nat.max_eq_right (by omega), Nat.min_eq_left (by omega)]
    obtain ⟨K, hK⟩ : ∃ K, K = (m + 2) / 3 := ⟨_, rfl⟩
    have eK : ((m : Int) + 2) / 3 = (K : Int) := by omega
    have bK : K ≤ 5462 := by omega
    obtain ⟨r, hr⟩ : ∃ r, r = rt t.clamp m n := ⟨_, rfl⟩
    rw [← hr]
    have HC := Lib.hid (fun w => rclamp_c w t)
    obtain ⟨u, hu⟩ : ∃ u, u = t.clamp := ⟨_, rfl⟩
    rw [← hu] at HC hr
    unfold rt at hr
    rw [← hK] at hr
    clear hK hu
    by_cases h0 : n = 0
    · rw [if_pos h0] at hr
      subst hr
      subst h0
      clear eK
      go_enter Tryz.func49, Tryz.ntmps49
      have c0 := HC0.out.cell 0 rfl
      have c1 := HC0.out.cell 1 rfl
      have c2 := HC0.out.cell 2 rfl
      have c3 := HC0.out.cell 3 rfl
      have c4 := HC0.out.cell 4 rfl
      have c5 := HC0.out.cell 5 rfl
      have c6 := HC0.out.cell 6 rfl
      have c7 := HC0.out.cell 7 rfl
      have c8 := HC0.out.cell 8 rfl
      have c9 := HC0.out.cell 9 rfl
      have c10 := HC0.out.cell 10 rfl
      go_wp2_with fail
      refine (HC.out _).mono ?_
      rintro e w2 ⟨rfl, g2⟩
      have CB := Lib.hid (HC0.out.grown0 g2)
      have GN := gb_trans HG.out g2
      clear c0 c1 c2 c3 c4 c5 c6 c7 c8 c9 c10 HC0 g2
      have c0 := CB.out.cell 0 rfl
      have c1 := CB.out.cell 1 rfl
      have c2 := CB.out.cell 2 rfl
      have c3 := CB.out.cell 3 rfl
      have c4 := CB.out.cell 4 rfl
      have c5 := CB.out.cell 5 rfl
      have c6 := CB.out.cell 6 rfl
      have c7 := CB.out.cell 7 rfl
      have c8 := CB.out.cell 8 rfl
      have c9 := CB.out.cell 9 rfl
      have c10 := CB.out.cell 10 rfl
      have f0 := CB.out.free 0 rfl
      have f1 := CB.out.free 1 rfl
      have f2 := CB.out.free 2 rfl
      have f3 := CB.out.free 3 rfl
      have f4 := CB.out.free 4 rfl
      have f5 := CB.out.free 5 rfl
      have f6 := CB.out.free 6 rfl
      have f7 := CB.out.free 7 rfl
      have f8 := CB.out.free 8 rfl
      have f9 := CB.out.free 9 rfl
      have f10 := CB.out.free 10 rfl
      have GF := Lib.hid (gb_set (p := ⟨w.heap.size, 10, none⟩) (gb_set (p := ⟨w.heap.size, 9, none⟩) (gb_set (p := ⟨w.heap.size, 8, none⟩) (gb_set (p := ⟨w.heap.size, 7, none⟩) (gb_set (p := ⟨w.heap.size, 6, none⟩) (gb_set (p := ⟨w.heap.size, 5, none⟩) (gb_set (p := ⟨w.heap.size, 4, none⟩) (gb_set (p := ⟨w.heap.size, 3, none⟩) (gb_set (p := ⟨w.heap.size, 2, none⟩) (gb_set (p := ⟨w.heap.size, 1, none⟩) (gb_set (p := ⟨w.heap.size, 0, none⟩) GN (Nat.le_refl _) (.int .i64 u.eb)) (Nat.le_refl _) (.int .i64 u.et)) (Nat.le_refl _) (.int .i64 u.en)) (Nat.le_refl _) (.int .i64 u.ed)) (Nat.le_refl _) (.int .i64 u.er)) (Nat.le_refl _) (.int .i64 u.el)) (Nat.le_refl _) (.int .i64 u.ex)) (Nat.le_refl _) (.int .i64 u.ep)) (Nat.le_refl _) (.int .i64 u.ek)) (Nat.le_refl _) (.int .i64 u.es)) (Nat.le_refl _) (.int .i64 u.ee))
      clear GN
      go_wp2
      clear c0 c1 c2 c3 c4 c5 c6 c7 c8 c9 c10 f0 f1 f2 f3 f4 f5 f6 f7 f8 f9 f10
      go_ret
      exact ⟨rfl, GF.out⟩
    rw [if_neg h0] at hr
    have e0 : ((n : Int) == 0) = false := by
      have : ¬ (n : Int) = 0 := by omega
      simpa using this
    by_cases h1 : (n : Int) < u.eb
    · rw [if_pos h1] at hr
      subst hr
      go_enter Tryz.func49, Tryz.ntmps49
      have c0 := HC0.out.cell 0 rfl
      have c1 := HC0.out.cell 1 rfl
      have c2 := HC0.out.cell 2 rfl
      have c3 := HC0.out.cell 3 rfl
      have c4 := HC0.out.cell 4 rfl
      have c5 := HC0.out.cell 5 rfl
      have c6 := HC0.out.cell 6 rfl
      have c7 := HC0.out.cell 7 rfl
      have c8 := HC0.out.cell 8 rfl
      have c9 := HC0.out.cell 9 rfl
      have c10 := HC0.out.cell 10 rfl
      go_wp2_with fail
      refine (HC.out _).mono ?_
      rintro e w2 ⟨rfl, g2⟩
      have CB := Lib.hid (HC0.out.grown0 g2)
      have GN := gb_trans HG.out g2
      clear c0 c1 c2 c3 c4 c5 c6 c7 c8 c9 c10 HC0 g2
      have c0 := CB.out.cell 0 rfl
      have c1 := CB.out.cell 1 rfl
      have c2 := CB.out.cell 2 rfl
      have c3 := CB.out.cell 3 rfl
      have c4 := CB.out.cell 4 rfl
      have c5 := CB.out.cell 5 rfl
      have c6 := CB.out.cell 6 rfl
      have c7 := CB.out.cell 7 rfl
      have c8 := CB.out.cell 8 rfl
      have c9 := CB.out.cell 9 rfl
      have c10 := CB.out.cell 10 rfl
      have f0 := CB.out.free 0 rfl
      have f1 := CB.out.free 1 rfl
      have f2 := CB.out.free 2 rfl
      have f3 := CB.out.free 3 rfl
      have f4 := CB.out.free 4 rfl
      have f5 := CB.out.free 5 rfl
      have f6 := CB.out.free 6 rfl
      have f7 := CB.out.free 7 rfl
      have f8 := CB.out.free 8 rfl
      have f9 := CB.out.free 9 rfl
      have f10 := CB.out.free 10 rfl
      have GF := Lib.hid (gb_set (p := ⟨w.heap.size, 10, none⟩) (gb_set (p := ⟨w.heap.size, 9, none⟩) (gb_set (p := ⟨w.heap.size, 8, none⟩) (gb_set (p := ⟨w.heap.size, 7, none⟩) (gb_set (p := ⟨w.heap.size, 6, none⟩) (gb_set (p := ⟨w.heap.size, 5, none⟩) (gb_set (p := ⟨w.heap.size, 4, none⟩) (gb_set (p := ⟨w.heap.size, 3, none⟩) (gb_set (p := ⟨w.heap.size, 2, none⟩) (gb_set (p := ⟨w.heap.size, 1, none⟩) (gb_set (p := ⟨w.heap.size, 0, none⟩) GN (Nat.le_refl _) (.int .i64 u.eb)) (Nat.le_refl _) (.int .i64 u.et)) (Nat.le_refl _) (.int .i64 u.en)) (Nat.le_refl _) (.int .i64 u.ed)) (Nat.le_refl _) (.int .i64 u.er)) (Nat.le_refl _) (.int .i64 u.el)) (Nat.le_refl _) (.int .i64 u.ex)) (Nat.le_refl _) (.int .i64 u.ep)) (Nat.le_refl _) (.int .i64 u.ek)) (Nat.le_refl _) (.int .i64 u.es)) (Nat.le_refl _) (.int .i64 u.ee))
      clear GN
      go_wp2
      clear c0 c1 c2 c3 c4 c5 c6 c7 c8 c9 c10 f0 f1 f2 f3 f4 f5 f6 f7 f8 f9 f10
      go_ret
      exact ⟨rfl, GF.out⟩
    rw [if_neg h1] at hr
    by_cases h2 : 2 * n ≤ m + 1
    · rw [if_pos h2] at hr
      subst hr
      have e2 : 2 * (n : Int) ≤ (m : Int) + 1 := by omega
      go_enter Tryz.func49, Tryz.ntmps49
      have c0 := HC0.out.cell 0 rfl
      have c1 := HC0.out.cell 1 rfl
      have c2 := HC0.out.cell 2 rfl
      have c3 := HC0.out.cell 3 rfl
      have c4 := HC0.out.cell 4 rfl
      have c5 := HC0.out.cell 5 rfl
      have c6 := HC0.out.cell 6 rfl
      have c7 := HC0.out.cell 7 rfl
      have c8 := HC0.out.cell 8 rfl
      have c9 := HC0.out.cell 9 rfl
      have c10 := HC0.out.cell 10 rfl
      go_wp2_with fail
      refine (HC.out _).mono ?_
      rintro e w2 ⟨rfl, g2⟩
      have CB := Lib.hid (HC0.out.grown0 g2)
      have GN := gb_trans HG.out g2
      clear c0 c1 c2 c3 c4 c5 c6 c7 c8 c9 c10 HC0 g2
      have c0 := CB.out.cell 0 rfl
      have c1 := CB.out.cell 1 rfl
      have c2 := CB.out.cell 2 rfl
      have c3 := CB.out.cell 3 rfl
      have c4 := CB.out.cell 4 rfl
      have c5 := CB.out.cell 5 rfl
      have c6 := CB.out.cell 6 rfl
      have c7 := CB.out.cell 7 rfl
      have c8 := CB.out.cell 8 rfl
      have c9 := CB.out.cell 9 rfl
      have c10 := CB.out.cell 10 rfl
      have f0 := CB.out.free 0 rfl
      have f1 := CB.out.free 1 rfl
      have f2 := CB.out.free 2 rfl
      have f3 := CB.out.free 3 rfl
      have f4 := CB.out.free 4 rfl
      have f5 := CB.out.free 5 rfl
      have f6 := CB.out.free 6 rfl
      have f7 := CB.out.free 7 rfl
      have f8 := CB.out.free 8 rfl
      have f9 := CB.out.free 9 rfl
      have f10 := CB.out.free 10 rfl
      have GF := Lib.hid (gb_set (p := ⟨w.heap.size, 10, none⟩) (gb_set (p := ⟨w.heap.size, 9, none⟩) (gb_set (p := ⟨w.heap.size, 8, none⟩) (gb_set (p := ⟨w.heap.size, 7, none⟩) (gb_set (p := ⟨w.heap.size, 6, none⟩) (gb_set (p := ⟨w.heap.size, 5, none⟩) (gb_set (p := ⟨w.heap.size, 4, none⟩) (gb_set (p := ⟨w.heap.size, 3, none⟩) (gb_set (p := ⟨w.heap.size, 2, none⟩) (gb_set (p := ⟨w.heap.size, 1, none⟩) (gb_set (p := ⟨w.heap.size, 0, none⟩) GN (Nat.le_refl _) (.int .i64 u.eb)) (Nat.le_refl _) (.int .i64 u.et)) (Nat.le_refl _) (.int .i64 u.en)) (Nat.le_refl _) (.int .i64 u.ed)) (Nat.le_refl _) (.int .i64 u.er)) (Nat.le_refl _) (.int .i64 u.el)) (Nat.le_refl _) (.int .i64 u.ex)) (Nat.le_refl _) (.int .i64 u.ep)) (Nat.le_refl _) (.int .i64 u.ek)) (Nat.le_refl _) (.int .i64 u.es)) (Nat.le_refl _) (.int .i64 u.ee))
      clear GN
      go_wp2
      clear c0 c1 c2 c3 c4 c5 c6 c7 c8 c9 c10 f0 f1 f2 f3 f4 f5 f6 f7 f8 f9 f10
      go_ret
      exact ⟨rfl, GF.out⟩
    rw [if_neg h2] at hr
    have e2 : ¬ 2 * (n : Int) ≤ (m : Int) + 1 := by omega
    by_cases h3 : (n : Int) < u.et
    · rw [if_pos h3] at hr
      subst hr
      go_enter Tryz.func49, Tryz.ntmps49
      have c0 := HC0.out.cell 0 rfl
      have c1 := HC0.out.cell 1 rfl
      have c2 := HC0.out.cell 2 rfl
      have c3 := HC0.out.cell 3 rfl
      have c4 := HC0.out.cell 4 rfl
      have c5 := HC0.out.cell 5 rfl
      have c6 := HC0.out.cell 6 rfl
      have c7 := HC0.out.cell 7 rfl
      have c8 := HC0.out.cell 8 rfl
      have c9 := HC0.out.cell 9 rfl
      have c10 := HC0.out.cell 10 rfl
      go_wp2_with fail
      refine (HC.out _).mono ?_
      rintro e w2 ⟨rfl, g2⟩
      have CB := Lib.hid (HC0.out.grown0 g2)
      have GN := gb_trans HG.out g2
      clear c0 c1 c2 c3 c4 c5 c6 c7 c8 c9 c10 HC0 g2
      have c0 := CB.out.cell 0 rfl
      have c1 := CB.out.cell 1 rfl
      have c2 := CB.out.cell 2 rfl
      have c3 := CB.out.cell 3 rfl
      have c4 := CB.out.cell 4 rfl
      have c5 := CB.out.cell 5 rfl
      have c6 := CB.out.cell 6 rfl
      have c7 := CB.out.cell 7 rfl
      have c8 := CB.out.cell 8 rfl
      have c9 := CB.out.cell 9 rfl
      have c10 := CB.out.cell 10 rfl
      have f0 := CB.out.free 0 rfl
      have f1 := CB.out.free 1 rfl
      have f2 := CB.out.free 2 rfl
      have f3 := CB.out.free 3 rfl
      have f4 := CB.out.free 4 rfl
      have f5 := CB.out.free 5 rfl
      have f6 := CB.out.free 6 rfl
      have f7 := CB.out.free 7 rfl
      have f8 := CB.out.free 8 rfl
      have f9 := CB.out.free 9 rfl
      have f10 := CB.out.free 10 rfl
      have GF := Lib.hid (gb_set (p := ⟨w.heap.size, 10, none⟩) (gb_set (p := ⟨w.heap.size, 9, none⟩) (gb_set (p := ⟨w.heap.size, 8, none⟩) (gb_set (p := ⟨w.heap.size, 7, none⟩) (gb_set (p := ⟨w.heap.size, 6, none⟩) (gb_set (p := ⟨w.heap.size, 5, none⟩) (gb_set (p := ⟨w.heap.size, 4, none⟩) (gb_set (p := ⟨w.heap.size, 3, none⟩) (gb_set (p := ⟨w.heap.size, 2, none⟩) (gb_set (p := ⟨w.heap.size, 1, none⟩) (gb_set (p := ⟨w.heap.size, 0, none⟩) GN (Nat.le_refl _) (.int .i64 u.eb)) (Nat.le_refl _) (.int .i64 u.et)) (Nat.le_refl _) (.int .i64 u.en)) (Nat.le_refl _) (.int .i64 u.ed)) (Nat.le_refl _) (.int .i64 u.er)) (Nat.le_refl _) (.int .i64 u.el)) (Nat.le_refl _) (.int .i64 u.ex)) (Nat.le_refl _) (.int .i64 u.ep)) (Nat.le_refl _) (.int .i64 u.ek)) (Nat.le_refl _) (.int .i64 u.es)) (Nat.le_refl _) (.int .i64 u.ee))
      clear GN
      go_wp2
      clear c0 c1 c2 c3 c4 c5 c6 c7 c8 c9 c10 f0 f1 f2 f3 f4 f5 f6 f7 f8 f9 f10
      go_ret
      exact ⟨rfl, GF.out⟩
    rw [if_neg h3] at hr
    by_cases h4 : u.en ≤ ((m + n : Nat) : Int)
    · rw [if_pos h4] at hr
      subst hr
      have e4 : u.en ≤ (m : Int) + (n : Int) := by omega
      go_enter Tryz.func49, Tryz.ntmps49
      have c0 := HC0.out.cell 0 rfl
      have c1 := HC0.out.cell 1 rfl
      have c2 := HC0.out.cell 2 rfl
      have c3 := HC0.out.cell 3 rfl
      have c4 := HC0.out.cell 4 rfl
      have c5 := HC0.out.cell 5 rfl
      have c6 := HC0.out.cell 6 rfl
      have c7 := HC0.out.cell 7 rfl
      have c8 := HC0.out.cell 8 rfl
      have c9 := HC0.out.cell 9 rfl
      have c10 := HC0.out.cell 10 rfl
      go_wp2_with fail
      refine (HC.out _).mono ?_
      rintro e w2 ⟨rfl, g2⟩
      have CB := Lib.hid (HC0.out.grown0 g2)
      have GN := gb_trans HG.out g2
      clear c0 c1 c2 c3 c4 c5 c6 c7 c8 c9 c10 HC0 g2
      have c0 := CB.out.cell 0 rfl
      have c1 := CB.out.cell 1 rfl
      have c2 := CB.out.cell 2 rfl
      have c3 := CB.out.cell 3 rfl
      have c4 := CB.out.cell 4 rfl
      have c5 := CB.out.cell 5 rfl
      have c6 := CB.out.cell 6 rfl
      have c7 := CB.out.cell 7 rfl
      have c8 := CB.out.cell 8 rfl
      have c9 := CB.out.cell 9 rfl
      have c10 := CB.out.cell 10 rfl
      have f0 := CB.out.free 0 rfl
      have f1 := CB.out.free 1 rfl
      have f2 := CB.out.free 2 rfl
      have f3 := CB.out.free 3 rfl
      have f4 := CB.out.free 4 rfl
      have f5 := CB.out.free 5 rfl
      have f6 := CB.out.free 6 rfl
      have f7 := CB.out.free 7 rfl
      have f8 := CB.out.free 8 rfl
      have f9 := CB.out.free 9 rfl
      have f10 := CB.out.free 10 rfl
      have GF := Lib.hid (gb_set (p := ⟨w.heap.size, 10, none⟩) (gb_set (p := ⟨w.heap.size, 9, none⟩) (gb_set (p := ⟨w.heap.size, 8, none⟩) (gb_set (p := ⟨w.heap.size, 7, none⟩) (gb_set (p := ⟨w.heap.size, 6, none⟩) (gb_set (p := ⟨w.heap.size, 5, none⟩) (gb_set (p := ⟨w.heap.size, 4, none⟩) (gb_set (p := ⟨w.heap.size, 3, none⟩) (gb_set (p := ⟨w.heap.size, 2, none⟩) (gb_set (p := ⟨w.heap.size, 1, none⟩) (gb_set (p := ⟨w.heap.size, 0, none⟩) GN (Nat.le_refl _) (.int .i64 u.eb)) (Nat.le_refl _) (.int .i64 u.et)) (Nat.le_refl _) (.int .i64 u.en)) (Nat.le_refl _) (.int .i64 u.ed)) (Nat.le_refl _) (.int .i64 u.er)) (Nat.le_refl _) (.int .i64 u.el)) (Nat.le_refl _) (.int .i64 u.ex)) (Nat.le_refl _) (.int .i64 u.ep)) (Nat.le_refl _) (.int .i64 u.ek)) (Nat.le_refl _) (.int .i64 u.es)) (Nat.le_refl _) (.int .i64 u.ee))
      clear GN
      go_wp2
      clear c0 c1 c2 c3 c4 c5 c6 c7 c8 c9 c10 f0 f1 f2 f3 f4 f5 f6 f7 f8 f9 f10
      go_ret
      exact ⟨rfl, GF.out⟩
    rw [if_neg h4] at hr
    have e4 : ¬ u.en ≤ (m : Int) + (n : Int) := by omega
    by_cases h5 : 2 * K < n
    · rw [if_pos h5] at hr
      subst hr
      have e5 : 2 * (K : Int) < (n : Int) := by omega
      go_enter Tryz.func49, Tryz.ntmps49
      have c0 := HC0.out.cell 0 rfl
      have c1 := HC0.out.cell 1 rfl
      have c2 := HC0.out.cell 2 rfl
      have c3 := HC0.out.cell 3 rfl
      have c4 := HC0.out.cell 4 rfl
      have c5 := HC0.out.cell 5 rfl
      have c6 := HC0.out.cell 6 rfl
      have c7 := HC0.out.cell 7 rfl
      have c8 := HC0.out.cell 8 rfl
      have c9 := HC0.out.cell 9 rfl
      have c10 := HC0.out.cell 10 rfl
      go_wp2_with fail
      refine (HC.out _).mono ?_
      rintro e w2 ⟨rfl, g2⟩
      have CB := Lib.hid (HC0.out.grown0 g2)
      have GN := gb_trans HG.out g2
      clear c0 c1 c2 c3 c4 c5 c6 c7 c8 c9 c10 HC0 g2
      have c0 := CB.out.cell 0 rfl
      have c1 := CB.out.cell 1 rfl
      have c2 := CB.out.cell 2 rfl
      have c3 := CB.out.cell 3 rfl
      have c4 := CB.out.cell 4 rfl
      have c5 := CB.out.cell 5 rfl
      have c6 := CB.out.cell 6 rfl
      have c7 := CB.out.cell 7 rfl
      have c8 := CB.out.cell 8 rfl
      have c9 := CB.out.cell 9 rfl
      have c10 := CB.out.cell 10 rfl
      have f0 := CB.out.free 0 rfl
      have f1 := CB.out.free 1 rfl
      have f2 := CB.out.free 2 rfl
      have f3 := CB.out.free 3 rfl
      have f4 := CB.out.free 4 rfl
      have f5 := CB.out.free 5 rfl
      have f6 := CB.out.free 6 rfl
      have f7 := CB.out.free 7 rfl
      have f8 := CB.out.free 8 rfl
      have f9 := CB.out.free 9 rfl
      have f10 := CB.out.free 10 rfl
      have GF := Lib.hid (gb_set (p := ⟨w.heap.size, 10, none⟩) (gb_set (p := ⟨w.heap.size, 9, none⟩) (gb_set (p := ⟨w.heap.size, 8, none⟩) (gb_set (p := ⟨w.heap.size, 7, none⟩) (gb_set (p := ⟨w.heap.size, 6, none⟩) (gb_set (p := ⟨w.heap.size, 5, none⟩) (gb_set (p := ⟨w.heap.size, 4, none⟩) (gb_set (p := ⟨w.heap.size, 3, none⟩) (gb_set (p := ⟨w.heap.size, 2, none⟩) (gb_set (p := ⟨w.heap.size, 1, none⟩) (gb_set (p := ⟨w.heap.size, 0, none⟩) GN (Nat.le_refl _) (.int .i64 u.eb)) (Nat.le_refl _) (.int .i64 u.et)) (Nat.le_refl _) (.int .i64 u.en)) (Nat.le_refl _) (.int .i64 u.ed)) (Nat.le_refl _) (.int .i64 u.er)) (Nat.le_refl _) (.int .i64 u.el)) (Nat.le_refl _) (.int .i64 u.ex)) (Nat.le_refl _) (.int .i64 u.ep)) (Nat.le_refl _) (.int .i64 u.ek)) (Nat.le_refl _) (.int .i64 u.es)) (Nat.le_refl _) (.int .i64 u.ee))
      clear GN
      go_wp2
      clear c0 c1 c2 c3 c4 c5 c6 c7 c8 c9 c10 f0 f1 f2 f3 f4 f5 f6 f7 f8 f9 f10
      go_ret
      exact ⟨rfl, GF.out⟩
    rw [if_neg h5] at hr
    subst hr
    have e5 : ¬ 2 * (K : Int) < (n : Int) := by omega
    go_enter Tryz.func49, Tryz.ntmps49
    have c0 := HC0.out.cell 0 rfl
    have c1 := HC0.out.cell 1 rfl
    have c2 := HC0.out.cell 2 rfl
    have c3 := HC0.out.cell 3 rfl
    have c4 := HC0.out.cell 4 rfl
    have c5 := HC0.out.cell 5 rfl
    have c6 := HC0.out.cell 6 rfl
    have c7 := HC0.out.cell 7 rfl
    have c8 := HC0.out.cell 8 rfl
    have c9 := HC0.out.cell 9 rfl
    have c10 := HC0.out.cell 10 rfl
    go_wp2_with fail
    refine (HC.out _).mono ?_
    rintro e w2 ⟨rfl, g2⟩
    have CB := Lib.hid (HC0.out.grown0 g2)
    have GN := gb_trans HG.out g2
    clear c0 c1 c2 c3 c4 c5 c6 c7 c8 c9 c10 HC0 g2
    have c0 := CB.out.cell 0 rfl
    have c1 := CB.out.cell 1 rfl
    have c2 := CB.out.cell 2 rfl
    have c3 := CB.out.cell 3 rfl
    have c4 := CB.out.cell 4 rfl
    have c5 := CB.out.cell 5 rfl
    have c6 := CB.out.cell 6 rfl
    have c7 := CB.out.cell 7 rfl
    have c8 := CB.out.cell 8 rfl
    have c9 := CB.out.cell 9 rfl
    have c10 := CB.out.cell 10 rfl
    have f0 := CB.out.free 0 rfl
    have f1 := CB.out.free 1 rfl
    have f2 := CB.out.free 2 rfl
    have f3 := CB.out.free 3 rfl
    have f4 := CB.out.free 4 rfl
    have f5 := CB.out.free 5 rfl
    have f6 := CB.out.free 6 rfl
    have f7 := CB.out.free 7 rfl
    have f8 := CB.out.free 8 rfl
    have f9 := CB.out.free 9 rfl
    have f10 := CB.out.free 10 rfl
    have GF := Lib.hid (gb_set (p := ⟨w.heap.size, 10, none⟩) (gb_set (p := ⟨w.heap.size, 9, none⟩) (gb_set (p := ⟨w.heap.size, 8, none⟩) (gb_set (p := ⟨w.heap.size, 7, none⟩) (gb_set (p := ⟨w.heap.size, 6, none⟩) (gb_set (p := ⟨w.heap.size, 5, none⟩) (gb_set (p := ⟨w.heap.size, 4, none⟩) (gb_set (p := ⟨w.heap.size, 3, none⟩) (gb_set (p := ⟨w.heap.size, 2, none⟩) (gb_set (p := ⟨w.heap.size, 1, none⟩) (gb_set (p := ⟨w.heap.size, 0, none⟩) GN (Nat.le_refl _) (.int .i64 u.eb)) (Nat.le_refl _) (.int .i64 u.et)) (Nat.le_refl _) (.int .i64 u.en)) (Nat.le_refl _) (.int .i64 u.ed)) (Nat.le_refl _) (.int .i64 u.er)) (Nat.le_refl _) (.int .i64 u.el)) (Nat.le_refl _) (.int .i64 u.ex)) (Nat.le_refl _) (.int .i64 u.ep)) (Nat.le_refl _) (.int .i64 u.ek)) (Nat.le_refl _) (.int .i64 u.es)) (Nat.le_refl _) (.int .i64 u.ee))
    clear GN
    go_wp2
    clear c0 c1 c2 c3 c4 c5 c6 c7 c8 c9 c10 f0 f1 f2 f3 f4 f5 f6 f7 f8 f9 f10
    go_ret
    exact ⟨rfl, GF.out⟩
  · have h' : ¬ n < m := by omega
    rw [Nat.max_eq_left (by omega), Nat.min_eq_right (by omega)]
    obtain ⟨K, hK⟩ : ∃ K, K = (n + 2) / 3 := ⟨_, rfl⟩
    have eK : ((n : Int) + 2) / 3 = (K : Int) := by omega
    have bK : K ≤ 5462 := by omega
    obtain ⟨r, hr⟩ : ∃ r, r = rt t.clamp n m := ⟨_, rfl⟩
    rw [← hr]
    have HC := Lib.hid (fun w => rclamp_c w t)
    obtain ⟨u, hu⟩ : ∃ u, u = t.clamp := ⟨_, rfl⟩
    rw [← hu] at HC hr
    unfold rt at hr
    rw [← hK] at hr
    clear hK hu
    by_cases h0 : m = 0
    · rw [if_pos h0] at hr
      subst hr
      subst h0
      clear eK
      go_enter Tryz.func49, Tryz.ntmps49
      have c0 := HC0.out.cell 0 rfl
      have c1 := HC0.out.cell 1 rfl
      have c2 := HC0.out.cell 2 rfl
      have c3 := HC0.out.cell 3 rfl
      have c4 := HC0.out.cell 4 rfl
      have c5 := HC0.out.cell 5 rfl
      have c6 := HC0.out.cell 6 rfl
      have c7 := HC0.out.cell 7 rfl
      have c8 := HC0.out.cell 8 rfl
      have c9 := HC0.out.cell 9 rfl
      have c10 := HC0.out.cell 10 rfl
      go_wp2_with fail
      refine (HC.out _).mono ?_
      rintro e w2 ⟨rfl, g2⟩
      have CB := Lib.hid (HC0.out.grown0 g2)
      have GN := gb_trans HG.out g2
      clear c0 c1 c2 c3 c4 c5 c6 c7 c8 c9 c10 HC0 g2
      have c0 := CB.out.cell 0 rfl
      have c1 := CB.out.cell 1 rfl
      have c2 := CB.out.cell 2 rfl
      have c3 := CB.out.cell 3 rfl
      have c4 := CB.out.cell 4 rfl
      have c5 := CB.out.cell 5 rfl
      have c6 := CB.out.cell 6 rfl
      have c7 := CB.out.cell 7 rfl
      have c8 := CB.out.cell 8 rfl
      have c9 := CB.out.cell 9 rfl
      have c10 := CB.out.cell 10 rfl
      have f0 := CB.out.free 0 rfl
      have f1 := CB.out.free 1 rfl
      have f2 := CB.out.free 2 rfl
      have f3 := CB.out.free 3 rfl
      have f4 := CB.out.free 4 rfl
      have f5 := CB.out.free 5 rfl
      have f6 := CB.out.free 6 rfl
      have f7 := CB.out.free 7 rfl
      have f8 := CB.out.free 8 rfl
      have f9 := CB.out.free 9 rfl
      have f10 := CB.out.free 10 rfl
      have GF := Lib.hid (gb_set (p := ⟨w.heap.size, 10, none⟩) (gb_set (p := ⟨w.heap.size, 9, none⟩) (gb_set (p := ⟨w.heap.size, 8, none⟩) (gb_set (p := ⟨w.heap.size, 7, none⟩) (gb_set (p := ⟨w.heap.size, 6, none⟩) (gb_set (p := ⟨w.heap.size, 5, none⟩) (gb_set (p := ⟨w.heap.size, 4, none⟩) (gb_set (p := ⟨w.heap.size, 3, none⟩) (gb_set (p := ⟨w.heap.size, 2, none⟩) (gb_set (p := ⟨w.heap.size, 1, none⟩) (gb_set (p := ⟨w.heap.size, 0, none⟩) GN (Nat.le_refl _) (.int .i64 u.eb)) (Nat.le_refl _) (.int .i64 u.et)) (Nat.le_refl _) (.int .i64 u.en)) (Nat.le_refl _) (.int .i64 u.ed)) (Nat.le_refl _) (.int .i64 u.er)) (Nat.le_refl _) (.int .i64 u.el)) (Nat.le_refl _) (.int .i64 u.ex)) (Nat.le_refl _) (.int .i64 u.ep)) (Nat.le_refl _) (.int .i64 u.ek)) (Nat.le_refl _) (.int .i64 u.es)) (Nat.le_refl _) (.int .i64 u.ee))
      clear GN
      go_wp2
      clear c0 c1 c2 c3 c4 c5 c6 c7 c8 c9 c10 f0 f1 f2 f3 f4 f5 f6 f7 f8 f9 f10
      go_ret
      exact ⟨rfl, GF.out⟩
    rw [if_neg h0] at hr
    have e0 : ((m : Int) == 0) = false := by
      have : ¬ (m : Int) = 0 := by omega
      simpa using this
    by_cases h1 : (m : Int) < u.eb
    · rw [if_pos h1] at hr
      subst hr
      go_enter Tryz.func49, Tryz.ntmps49
      have c0 := HC0.out.cell 0 rfl
      have c1 := HC0.out.cell 1 rfl
      have c2 := HC0.out.cell 2 rfl
      have c3 := HC0.out.cell 3 rfl
      have c4 := HC0.out.cell 4 rfl
      have c5 := HC0.out.cell 5 rfl
      have c6 := HC0.out.cell 6 rfl
      have c7 := HC0.out.cell 7 rfl
      have c8 := HC0.out.cell 8 rfl
      have c9 := HC0.out.cell 9 rfl
      have c10 := HC0.out.cell 10 rfl
      go_wp2_with fail
      refine (HC.out _).mono ?_
      rintro e w2 ⟨rfl, g2⟩
      have CB := Lib.hid (HC0.out.grown0 g2)
      have GN := gb_trans HG.out g2
      clear c0 c1 c2 c3 c4 c5 c6 c7 c8 c9 c10 HC0 g2
      have c0 := CB.out.cell 0 rfl
      have c1 := CB.out.cell 1 rfl
      have c2 := CB.out.cell 2 rfl
      have c3 := CB.out.cell 3 rfl
      have c4 := CB.out.cell 4 rfl
      have c5 := CB.out.cell 5 rfl
      have c6 := CB.out.cell 6 rfl
      have c7 := CB.out.cell 7 rfl
      have c8 := CB.out.cell 8 rfl
      have c9 := CB.out.cell 9 rfl
      have c10 := CB.out.cell 10 rfl
      have f0 := CB.out.free 0 rfl
      have f1 := CB.out.free 1 rfl
      have f2 := CB.out.free 2 rfl
      have f3 := CB.out.free 3 rfl
      have f4 := CB.out.free 4 rfl
      have f5 := CB.out.free 5 rfl
      have f6 := CB.out.free 6 rfl
      have f7 := CB.out.free 7 rfl
      have f8 := CB.out.free 8 rfl
      have f9 := CB.out.free 9 rfl
      have f10 := CB.out.free 10 rfl
      have GF := Lib.hid (gb_set (p := ⟨w.heap.size, 10, none⟩) (gb_set (p := ⟨w.heap.size, 9, none⟩) (gb_set (p := ⟨w.heap.size, 8, none⟩) (gb_set (p := ⟨w.heap.size, 7, none⟩) (gb_set (p := ⟨w.heap.size, 6, none⟩) (gb_set (p := ⟨w.heap.size, 5, none⟩) (gb_set (p := ⟨w.heap.size, 4, none⟩) (gb_set (p := ⟨w.heap.size, 3, none⟩) (gb_set (p := ⟨w.heap.size, 2, none⟩) (gb_set (p := ⟨w.heap.size, 1, none⟩) (gb_set (p := ⟨w.heap.size, 0, none⟩) GN (Nat.le_refl _) (.int .i64 u.eb)) (Nat.le_refl _) (.int .i64 u.et)) (Nat.le_refl _) (.int .i64 u.en)) (Nat.le_refl _) (.int .i64 u.ed)) (Nat.le_refl _) (.int .i64 u.er)) (Nat.le_refl _) (.int .i64 u.el)) (Nat.le_refl _) (.int .i64 u.ex)) (Nat.le_refl _) (.int .i64 u.ep)) (Nat.le_refl _) (.int .i64 u.ek)) (Nat.le_refl _) (.int .i64 u.es)) (Nat.le_refl _) (.int .i64 u.ee))
      clear GN
      go_wp2
      clear c0 c1 c2 c3 c4 c5 c6 c7 c8 c9 c10 f0 f1 f2 f3 f4 f5 f6 f7 f8 f9 f10
      go_ret
      exact ⟨rfl, GF.out⟩
    rw [if_neg h1] at hr
    by_cases h2 : 2 * m ≤ n + 1
    · rw [if_pos h2] at hr
      subst hr
      have e2 : 2 * (m : Int) ≤ (n : Int) + 1 := by omega
      go_enter Tryz.func49, Tryz.ntmps49
      have c0 := HC0.out.cell 0 rfl
      have c1 := HC0.out.cell 1 rfl
      have c2 := HC0.out.cell 2 rfl
      have c3 := HC0.out.cell 3 rfl
      have c4 := HC0.out.cell 4 rfl
      have c5 := HC0.out.cell 5 rfl
      have c6 := HC0.out.cell 6 rfl
      have c7 := HC0.out.cell 7 rfl
      have c8 := HC0.out.cell 8 rfl
      have c9 := HC0.out.cell 9 rfl
      have c10 := HC0.out.cell 10 rfl
      go_wp2_with fail
      refine (HC.out _).mono ?_
      rintro e w2 ⟨rfl, g2⟩
      have CB := Lib.hid (HC0.out.grown0 g2)
      have GN := gb_trans HG.out g2
      clear c0 c1 c2 c3 c4 c5 c6 c7 c8 c9 c10 HC0 g2
      have c0 := CB.out.cell 0 rfl
      have c1 := CB.out.cell 1 rfl
      have c2 := CB.out.cell 2 rfl
      have c3 := CB.out.cell 3 rfl
      have c4 := CB.out.cell 4 rfl
      have c5 := CB.out.cell 5 rfl
      have c6 := CB.out.cell 6 rfl
      have c7 := CB.out.cell 7 rfl
      have c8 := CB.out.cell 8 rfl
      have c9 := CB.out.cell 9 rfl
      have c10 := CB.out.cell 10 rfl
      have f0 := CB.out.free 0 rfl
      have f1 := CB.out.free 1 rfl
      have f2 := CB.out.free 2 rfl
      have f3 := CB.out.free 3 rfl
      have f4 := CB.out.free 4 rfl
      have f5 := CB.out.free 5 rfl
      have f6 := CB.out.free 6 rfl
      have f7 := CB.out.free 7 rfl
      have f8 := CB.out.free 8 rfl
      have f9 := CB.out.free 9 rfl
      have f10 := CB.out.free 10 rfl
      have GF := Lib.hid (gb_set (p := ⟨w.heap.size, 10, none⟩) (gb_set (p := ⟨w.heap.size, 9, none⟩) (gb_set (p := ⟨w.heap.size, 8, none⟩) (gb_set (p := ⟨w.heap.size, 7, none⟩) (gb_set (p := ⟨w.heap.size, 6, none⟩) (gb_set (p := ⟨w.heap.size, 5, none⟩) (gb_set (p := ⟨w.heap.size, 4, none⟩) (gb_set (p := ⟨w.heap.size, 3, none⟩) (gb_set (p := ⟨w.heap.size, 2, none⟩) (gb_set (p := ⟨w.heap.size, 1, none⟩) (gb_set (p := ⟨w.heap.size, 0, none⟩) GN (Nat.le_refl _) (.int .i64 u.eb)) (Nat.le_refl _) (.int .i64 u.et)) (Nat.le_refl _) (.int .i64 u.en)) (Nat.le_refl _) (.int .i64 u.ed)) (Nat.le_refl _) (.int .i64 u.er)) (Nat.le_refl _) (.int .i64 u.el)) (Nat.le_refl _) (.int .i64 u.ex)) (Nat.le_refl _) (.int .i64 u.ep)) (Nat.le_refl _) (.int .i64 u.ek)) (Nat.le_refl _) (.int .i64 u.es)) (Nat.le_refl _) (.int .i64 u.ee))
      clear GN
      go_wp2
      clear c0 c1 c2 c3 c4 c5 c6 c7 c8 c9 c10 f0 f1 f2 f3 f4 f5 f6 f7 f8 f9 f10
      go_ret
      exact ⟨rfl, GF.out⟩
    rw [if_neg h2] at hr
    have e2 : ¬ 2 * (m : Int) ≤ (n : Int) + 1 := by omega
    by_cases h3 : (m : Int) < u.et
    · rw [if_pos h3] at hr
      subst hr
      go_enter Tryz.func49, Tryz.ntmps49
      have c0 := HC0.out.cell 0 rfl
      have c1 := HC0.out.cell 1 rfl
      have c2 := HC0.out.cell 2 rfl
      have c3 := HC0.out.cell 3 rfl
      have c4 := HC0.out.cell 4 rfl
      have c5 := HC0.out.cell 5 rfl
      have c6 := HC0.out.cell 6 rfl
      have c7 := HC0.out.cell 7 rfl
      have c8 := HC0.out.cell 8 rfl
      have c9 := HC0.out.cell 9 rfl
      have c10 := HC0.out.cell 10 rfl
      go_wp2_with fail
      refine (HC.out _).mono ?_
      rintro e w2 ⟨rfl, g2⟩
      have CB := Lib.hid (HC0.out.grown0 g2)
      have GN := gb_trans HG.out g2
      clear c0 c1 c2 c3 c4 c5 c6 c7 c8 c9 c10 HC0 g2
      have c0 := CB.out.cell 0 rfl
      have c1 := CB.out.cell 1 rfl
      have c2 := CB.out.cell 2 rfl
      have c3 := CB.out.cell 3 rfl
      have c4 := CB.out.cell 4 rfl
      have c5 := CB.out.cell 5 rfl
      have c6 := CB.out.cell 6 rfl
      have c7 := CB.out.cell 7 rfl
      have c8 := CB.out.cell 8 rfl
      have c9 := CB.out.cell 9 rfl
      have c10 := CB.out.cell 10 rfl
      have f0 := CB.out.free 0 rfl
      have f1 := CB.out.free 1 rfl
      have f2 := CB.out.free 2 rfl
      have f3 := CB.out.free 3 rfl
      have f4 := CB.out.free 4 rfl
      have f5 := CB.out.free 5 rfl
      have f6 := CB.out.free 6 rfl
      have f7 := CB.out.free 7 rfl
      have f8 := CB.out.free 8 rfl
      have f9 := CB.out.free 9 rfl
      have f10 := CB.out.free 10 rfl
      have GF := Lib.hid (gb_set (p := ⟨w.heap.size, 10, none⟩) (gb_set (p := ⟨w.heap.size, 9, none⟩) (gb_set (p := ⟨w.heap.size, 8, none⟩) (gb_set (p := ⟨w.heap.size, 7, none⟩) (gb_set (p := ⟨w.heap.size, 6, none⟩) (gb_set (p := ⟨w.heap.size, 5, none⟩) (gb_set (p := ⟨w.heap.size, 4, none⟩) (gb_set (p := ⟨w.heap.size, 3, none⟩) (gb_set (p := ⟨w.heap.size, 2, none⟩) (gb_set (p := ⟨w.heap.size, 1, none⟩) (gb_set (p := ⟨w.heap.size, 0, none⟩) GN (Nat.le_refl _) (.int .i64 u.eb)) (Nat.le_refl _) (.int .i64 u.et)) (Nat.le_refl _) (.int .i64 u.en)) (Nat.le_refl _) (.int .i64 u.ed)) (Nat.le_refl _) (.int .i64 u.er)) (Nat.le_refl _) (.int .i64 u.el)) (Nat.le_refl _) (.int .i64 u.ex)) (Nat.le_refl _) (.int .i64 u.ep)) (Nat.le_refl _) (.int .i64 u.ek)) (Nat.le_refl _) (.int .i64 u.es)) (Nat.le_refl _) (.int .i64 u.ee))
      clear GN
      go_wp2
      clear c0 c1 c2 c3 c4 c5 c6 c7 c8 c9 c10 f0 f1 f2 f3 f4 f5 f6 f7 f8 f9 f10
      go_ret
      exact ⟨rfl, GF.out⟩
    rw [if_neg h3] at hr
    by_cases h4 : u.en ≤ ((n + m : Nat) : Int)
    · rw [if_pos h4] at hr
      subst hr
      have e4 : u.en ≤ (n : Int) + (m : Int) := by omega
      go_enter Tryz.func49, Tryz.ntmps49
      have c0 := HC0.out.cell 0 rfl
      have c1 := HC0.out.cell 1 rfl
      have c2 := HC0.out.cell 2 rfl
      have c3 := HC0.out.cell 3 rfl
      have c4 := HC0.out.cell 4 rfl
      have c5 := HC0.out.cell 5 rfl
      have c6 := HC0.out.cell 6 rfl
      have c7 := HC0.out.cell 7 rfl
      have c8 := HC0.out.cell 8 rfl
      have c9 := HC0.out.cell 9 rfl
      have c10 := HC0.out.cell 10 rfl
      go_wp2_with fail
      refine (HC.out _).mono ?_
      rintro e w2 ⟨rfl, g2⟩
      have CB := Lib.hid (HC0.out.grown0 g2)
      have GN := gb_trans HG.out g2
      clear c0 c1 c2 c3 c4 c5 c6 c7 c8 c9 c10 HC0 g2
      have c0 := CB.out.cell 0 rfl
      have c1 := CB.out.cell 1 rfl
      have c2 := CB.out.cell 2 rfl
      have c3 := CB.out.cell 3 rfl
      have c4 := CB.out.cell 4 rfl
      have c5 := CB.out.cell 5 rfl
      have c6 := CB.out.cell 6 rfl
      have c7 := CB.out.cell 7 rfl
      have c8 := CB.out.cell 8 rfl
      have c9 := CB.out.cell 9 rfl
      have c10 := CB.out.cell 10 rfl
      have f0 := CB.out.free 0 rfl
      have f1 := CB.out.free 1 rfl
      have f2 := CB.out.free 2 rfl
      have f3 := CB.out.free 3 rfl
      have f4 := CB.out.free 4 rfl
      have f5 := CB.out.free 5 rfl
      have f6 := CB.out.free 6 rfl
      have f7 := CB.out.free 7 rfl
      have f8 := CB.out.free 8 rfl
      have f9 := CB.out.free 9 rfl
      have f10 := CB.out.free 10 rfl
      have GF := Lib.hid (gb_set (p := ⟨w.heap.size, 10, none⟩) (gb_set (p := ⟨w.heap.size, 9, none⟩) (gb_set (p := ⟨w.heap.size, 8, none⟩) (gb_set (p := ⟨w.heap.size, 7, none⟩) (gb_set (p := ⟨w.heap.size, 6, none⟩) (gb_set (p := ⟨w.heap.size, 5, none⟩) (gb_set (p := ⟨w.heap.size, 4, none⟩) (gb_set (p := ⟨w.heap.size, 3, none⟩) (gb_set (p := ⟨w.heap.size, 2, none⟩) (gb_set (p := ⟨w.heap.size, 1, none⟩) (gb_set (p := ⟨w.heap.size, 0, none⟩) GN (Nat.le_refl _) (.int .i64 u.eb)) (Nat.le_refl _) (.int .i64 u.et)) (Nat.le_refl _) (.int .i64 u.en)) (Nat.le_refl _) (.int .i64 u.ed)) (Nat.le_refl _) (.int .i64 u.er)) (Nat.le_refl _) (.int .i64 u.el)) (Nat.le_refl _) (.int .i64 u.ex)) (Nat.le_refl _) (.int .i64 u.ep)) (Nat.le_refl _) (.int .i64 u.ek)) (Nat.le_refl _) (.int .i64 u.es)) (Nat.le_refl _) (.int .i64 u.ee))
      clear GN
      go_wp2
      clear c0 c1 c2 c3 c4 c5 c6 c7 c8 c9 c10 f0 f1 f2 f3 f4 f5 f6 f7 f8 f9 f10
      go_ret
      exact ⟨rfl, GF.out⟩
    rw [if_neg h4] at hr
    have e4 : ¬ u.en ≤ (n : Int) + (m : Int) := by omega
    by_cases h5 : 2 * K < m
    · rw [if_pos h5] at hr
      subst hr
      have e5 : 2 * (K : Int) < (m : Int) := by omega
      go_enter Tryz.func49, Tryz.ntmps49
      have c0 := HC0.out.cell 0 rfl
      have c1 := HC0.out.cell 1 rfl
      have c2 := HC0.out.cell 2 rfl
      have c3 := HC0.out.cell 3 rfl
      have c4 := HC0.out.cell 4 rfl
      have c5 := HC0.out.cell 5 rfl
      have c6 := HC0.out.cell 6 rfl
      have c7 := HC0.out.cell 7 rfl
      have c8 := HC0.out.cell 8 rfl
      have c9 := HC0.out.cell 9 rfl
      have c10 := HC0.out.cell 10 rfl
      go_wp2_with fail
      refine (HC.out _).mono ?_
      rintro e w2 ⟨rfl, g2⟩
      have CB := Lib.hid (HC0.out.grown0 g2)
      have GN := gb_trans HG.out g2
      clear c0 c1 c2 c3 c4 c5 c6 c7 c8 c9 c10 HC0 g2
      have c0 := CB.out.cell 0 rfl
      have c1 := CB.out.cell 1 rfl
      have c2 := CB.out.cell 2 rfl
      have c3 := CB.out.cell 3 rfl
      have c4 := CB.out.cell 4 rfl
      have c5 := CB.out.cell 5 rfl
      have c6 := CB.out.cell 6 rfl
      have c7 := CB.out.cell 7 rfl
      have c8 := CB.out.cell 8 rfl
      have c9 := CB.out.cell 9 rfl
      have c10 := CB.out.cell 10 rfl
      have f0 := CB.out.free 0 rfl
      have f1 := CB.out.free 1 rfl
      have f2 := CB.out.free 2 rfl
      have f3 := CB.out.free 3 rfl
      have f4 := CB.out.free 4 rfl
      have f5 := CB.out.free 5 rfl
      have f6 := CB.out.free 6 rfl
      have f7 := CB.out.free 7 rfl
      have f8 := CB.out.free 8 rfl
      have f9 := CB.out.free 9 rfl
      have f10 := CB.out.free 10 rfl
      have GF := Lib.hid (gb_set (p := ⟨w.heap.size, 10, none⟩) (gb_set (p := ⟨w.heap.size, 9, none⟩) (gb_set (p := ⟨w.heap.size, 8, none⟩) (gb_set (p := ⟨w.heap.size, 7, none⟩) (gb_set (p := ⟨w.heap.size, 6, none⟩) (gb_set (p := ⟨w.heap.size, 5, none⟩) (gb_set (p := ⟨w.heap.size, 4, none⟩) (gb_set (p := ⟨w.heap.size, 3, none⟩) (gb_set (p := ⟨w.heap.size, 2, none⟩) (gb_set (p := ⟨w.heap.size, 1, none⟩) (gb_set (p := ⟨w.heap.size, 0, none⟩) GN (Nat.le_refl _) (.int .i64 u.eb)) (Nat.le_refl _) (.int .i64 u.et)) (Nat.le_refl _) (.int .i64 u.en)) (Nat.le_refl _) (.int .i64 u.ed)) (Nat.le_refl _) (.int .i64 u.er)) (Nat.le_refl _) (.int .i64 u.el)) (Nat.le_refl _) (.int .i64 u.ex)) (Nat.le_refl _) (.int .i64 u.ep)) (Nat.le_refl _) (.int .i64 u.ek)) (Nat.le_refl _) (.int .i64 u.es)) (Nat.le_refl _) (.int .i64 u.ee))
      clear GN
      go_wp2
      clear c0 c1 c2 c3 c4 c5 c6 c7 c8 c9 c10 f0 f1 f2 f3 f4 f5 f6 f7 f8 f9 f10
      go_ret
      exact ⟨rfl, GF.out⟩
    rw [if_neg h5] at hr
    subst hr
    have e5 : ¬ 2 * (K : Int) < (m : Int) := by omega
    go_enter Tryz.func49, Tryz.ntmps49
    have c0 := HC0.out.cell 0 rfl
    have c1 := HC0.out.cell 1 rfl
    have c2 := HC0.out.cell 2 rfl
    have c3 := HC0.out.cell 3 rfl
    have c4 := HC0.out.cell 4 rfl
    have c5 := HC0.out.cell 5 rfl
    have c6 := HC0.out.cell 6 rfl
    have c7 := HC0.out.cell 7 rfl
    have c8 := HC0.out.cell 8 rfl
    have c9 := HC0.out.cell 9 rfl
    have c10 := HC0.out.cell 10 rfl
    go_wp2_with fail
    refine (HC.out _).mono ?_
    rintro e w2 ⟨rfl, g2⟩
    have CB := Lib.hid (HC0.out.grown0 g2)
    have GN := gb_trans HG.out g2
    clear c0 c1 c2 c3 c4 c5 c6 c7 c8 c9 c10 HC0 g2
    have c0 := CB.out.cell 0 rfl
    have c1 := CB.out.cell 1 rfl
    have c2 := CB.out.cell 2 rfl
    have c3 := CB.out.cell 3 rfl
    have c4 := CB.out.cell 4 rfl
    have c5 := CB.out.cell 5 rfl
    have c6 := CB.out.cell 6 rfl
    have c7 := CB.out.cell 7 rfl
    have c8 := CB.out.cell 8 rfl
    have c9 := CB.out.cell 9 rfl
    have c10 := CB.out.cell 10 rfl
    have f0 := CB.out.free 0 rfl
    have f1 := CB.out.free 1 rfl
    have f2 := CB.out.free 2 rfl
    have f3 := CB.out.free 3 rfl
    have f4 := CB.out.free 4 rfl
    have f5 := CB.out.free 5 rfl
    have f6 := CB.out.free 6 rfl
    have f7 := CB.out.free 7 rfl
    have f8 := CB.out.free 8 rfl
    have f9 := CB.out.free 9 rfl
    have f10 := CB.out.free 10 rfl
    have GF := Lib.hid (gb_set (p := ⟨w.heap.size, 10, none⟩) (gb_set (p := ⟨w.heap.size, 9, none⟩) (gb_set (p := ⟨w.heap.size, 8, none⟩) (gb_set (p := ⟨w.heap.size, 7, none⟩) (gb_set (p := ⟨w.heap.size, 6, none⟩) (gb_set (p := ⟨w.heap.size, 5, none⟩) (gb_set (p := ⟨w.heap.size, 4, none⟩) (gb_set (p := ⟨w.heap.size, 3, none⟩) (gb_set (p := ⟨w.heap.size, 2, none⟩) (gb_set (p := ⟨w.heap.size, 1, none⟩) (gb_set (p := ⟨w.heap.size, 0, none⟩) GN (Nat.le_refl _) (.int .i64 u.eb)) (Nat.le_refl _) (.int .i64 u.et)) (Nat.le_refl _) (.int .i64 u.en)) (Nat.le_refl _) (.int .i64 u.ed)) (Nat.le_refl _) (.int .i64 u.er)) (Nat.le_refl _) (.int .i64 u.el)) (Nat.le_refl _) (.int .i64 u.ex)) (Nat.le_refl _) (.int .i64 u.ep)) (Nat.le_refl _) (.int .i64 u.ek)) (Nat.le_refl _) (.int .i64 u.es)) (Nat.le_refl _) (.int .i64 u.ee))
    clear GN
    go_wp2
    clear c0 c1 c2 c3 c4 c5 c6 c7 c8 c9 c10 f0 f1 f2 f3 f4 f5 f6 f7 f8 f9 f10
    go_ret
    exact ⟨rfl, GF.out⟩
end Go.Proofs.YtldkiddoajlohaaGreatDoor
