/- Chapter 8: transforms: the statements. -/
import Derived.Test.YtoiclkaecgpbbaaDoorNtt11
namespace Go.Proofs.YtoiclkaecgpbbaaDoor
open Go.RowKit

theorem Own.past {w w' : World} {base g n c gm : Nat} {xs : List Int} (h : Own w base (.slice (some ⟨g, 0, none⟩) n c) xs) (k : w.grownBy w' (some gm)) (hne : g ≠ gm) : Own w' base (.slice (some ⟨g, 0, none⟩) n c) xs :=
  h.grown k (.inr (by simp [Value.ownBlock]; exact hne))
theorem Le.take {xs os : List Int} (h : Le xs os) : os.take xs.length = xs := by
  refine rd_ext (by rw [List.length_take, h.len]; omega) fun j hj => ?_
  rw [List.length_take] at hj
  rw [← h.lo j (by omega)]
  unfold rd
  rw [List.getD_eq_getElem?_getD, List.getD_eq_getElem?_getD, List.getElem?_take, if_pos (by omega)]
theorem Own.lent {w : World} {base g n : Nat} {xs os : List Int} (h : Own w base (.slice (some ⟨g, 0, none⟩) (n + 4) (n + 4)) os) (l : Le xs os) (hn : xs.length = n) : Sl w (.slice (some ⟨g, 0, none⟩) n (n + 4)) xs := by
  subst hn
  have := h.take xs.length (by rw [l.len]; omega)
  rw [l.take] at this
  exact this.sl
theorem lv_ft {p : Int} {a : Nat → Int} {r : Int} {L : Nat} {os fs : List Int} (h : Lv p a r L L os) (hf : fs.length = 2 ^ L) (k : ∀ i, i < 2 ^ L → rd fs i = ft a r (2 ^ L) i % p) : os = fs := by
  refine rd_ext (by rw [h.len, hf]) fun j hj => ?_
  rw [h.len] at hj
  rw [k j hj]
  have h1 : rd os j % p = ft a r (2 ^ L) j % p := h.ft j hj
  have b := h.bd j
  rw [← h1, Int.emod_eq_of_lt b.1 b.2]
theorem shl_i64 (L : Nat) (hL : L ≤ 10) : IntKind.i64.wrap (2 ^ L) = ((2 ^ L : Nat) : Int) ∧ IntKind.i64.wrap (1 * 2 ^ L) = ((2 ^ L : Nat) : Int) := by
  have h1 : (2 : Nat) ^ L ≤ 2 ^ 10 := Nat.pow_le_pow_right (by decide) hL
  have eq : (2 : Int) ^ L = ((2 ^ L : Nat) : Int) := by rw [Int.natCast_pow]; rfl
  have : IntKind.i64.wrap (2 ^ L) = ((2 ^ L : Nat) : Int) := by
    rw [eq]
    obtain ⟨q, hq⟩ : ∃ q, q = 2 ^ L := ⟨_, rfl⟩
    rw [← hq] at h1 ⊢
    rw [IntKind.wrap_i64]; omega
  exact ⟨this, by rw [Int.one_mul]; exact this⟩
theorem forwardN_c (w : World) (t gm : Nat) (p r z a b c : Int) (L N : Nat) (hN : N = 2 ^ L) (v : Value) (xs : List Int) (h : Pl w t gm p r z L) (hm : Mt w gm a b c) (ha : a ≤ 1000000000000000000) (hv : Sl w v xs) (hl : xs.length = N) :
    Calls Tryd.prog 27 #[.pointer (some ⟨t, 0, none⟩), v] w fun e w' => ∃ g os, e = .returned (.tuple #[.slice (some ⟨g, 0, none⟩) N N, .bool true]) ∧ Own w' w.heap.size (.slice (some ⟨g, 0, none⟩) N N) os ∧ Lv p (rd xs) r L L os ∧
      Mt w' gm (a + ((N / 2 * L : Nat) : Int)) b c ∧ w.heap.size ≤ g ∧ w.grownBy w' (some gm) := by
  subst hN
  exact forwardT_c w t gm p r z a b c L v xs h hm ha hv hl
theorem intactN_c (w : World) (base g N : Nat) (v : Value) (xs os : List Int) (hN : xs.length = N) (h : Sl w v xs) (ho : Own w base (.slice (some ⟨g, 0, none⟩) (N + 4) (N + 4)) os) (hl : Le xs os) (hn : N ≤ 1000000) :
    Calls Tryd.prog 32 #[.slice (some ⟨g, 0, none⟩) N (N + 4), v] w fun e w' => e = .returned (.bool true) ∧ w.grownBy w' none := by
  subst hN
  exact intact_c w base g v xs os h ho hl hn
set_option maxRecDepth 100000 in
set_option maxHeartbeats 4000000 in
theorem NttForwards_walk (k log : Int) (v : Value) (xs : List Int) (more : Int) (w : World) (hk : -9223372036854775808 ≤ k ∧ k ≤ 9223372036854775807) (hl : -9223372036854775808 ≤ log ∧ log ≤ 9223372036854775807) (hv : Sl w v xs) (_hm : -9223372036854775808 ≤ more ∧ more ≤ 9223372036854775807) (hd : Db w) :
    Calls Tryd.prog 7 #[.int .i64 k, .int .i64 log, v, .int .i64 more] w fun e w' => e = .returned (.bool true) ∧ w.grownBy w' none := by
  have PC := Lib.hid (plan_c w k log hk hl hd)
  have HD := Lib.hid hd
  have HV := Lib.hid hv
  clear hk hl hd hv
  go_enter Tryd.func7, Tryd.ntmps7
  go_wp2_with fail
  refine (PC.out).mono ?_
  rintro e w1 ⟨t, gm, p, L, x0, z, rfl, ok, hL, pl, mt, hgm, ht, g1⟩
  have OK := Lib.hid ok
  have PL := Lib.hid pl
  have G1 := Lib.hid g1
  have HGM := Lib.hid hgm
  have S1 := Lib.hid (World.block_lt_of_cell? w1 _ mt.c0)
  have HV1 := Lib.hid (HV.out.grown0 g1)
  have MT0 := Lib.hid mt
  clear ok pl g1 hgm ht mt PC HV
  obtain ⟨sh1, sh2⟩ := shl_i64 L (by omega)
  have n32 : 2 ^ L ≤ 2 ^ 5 := Nat.pow_le_pow_right (by decide) hL
  obtain ⟨N, hN⟩ : ∃ N, N = 2 ^ L := ⟨_, rfl⟩
  rw [← hN] at sh1 sh2 n32
  have HN := Lib.hid hN
  clear hN
  have RR := fun w => refRoot_c w p L x0 OK.out
  have plo := OK.out.pm.lo
  have phi := OK.out.pm.hi
  have pl := PL.out
  obtain ⟨r, hr⟩ : ∃ r, r = rootOf p L x0 := ⟨_, rfl⟩
  have r0 := OK.out.bd.1
  obtain ⟨P, hP⟩ : ∃ P : Int, P = (p : Int) := ⟨_, rfl⟩
  rw [← hr, ← hP] at RR pl
  rw [← hP] at plo phi ⊢
  rw [← hr] at r0
  have HRR := Lib.hid RR
  have PL := Lib.hid pl
  clear hP hr RR pl
  go_wp2_with fail
  refine (row_c w1 v xs N HV1.out (by omega)).mono ?_
  rintro e w2 ⟨ga, rfl, oa, g2⟩
  have la := rowOf_len xs N
  obtain ⟨al, has⟩ : ∃ al, al = rowOf xs N := ⟨_, rfl⟩
  rw [← has] at oa la
  have OA := Lib.hid oa
  have LA := Lib.hid la
  have G2 := Lib.hid g2
  have M2 := Lib.hid (MT0.out.grown g2)
  have BA := Lib.hid oa.base_le
  clear has oa la g2 HV1 MT0
  go_wp2_with fail
  refine (lend_c w2 _ al OA.out.sl (by rw [LA.out]; omega)).mono ?_
  rintro e w3 ⟨gx, os, rfl, ox, le, g3⟩
  rw [LA.out] at ox ⊢
  have OX := Lib.hid ox
  have LE := Lib.hid le
  have OA3 := Lib.hid (OA.out.grown0 g3)
  have GP3 := Lib.hid (gb_none (gb_trans G2.out g3) (some gm))
  have M3 := Lib.hid (M2.out.grown g3)
  have BX := Lib.hid ox.base_le
  have SX := Lib.hid (ox.lent le LA.out)
  have nax : ga ≠ gm ∧ gx ≠ gm ∧ gm < w3.heap.size ∧ w1.heap.size ≤ w3.heap.size := by
    have h1 := S1.out; have h2 := BA.out; have h3 := BX.out; have h4 := G2.out.size; have h5 := g3.size
    omega
  have NAX := Lib.hid nax
  clear ox le g3 OA M2 G2 nax BA
  go_wp2_with fail
  refine (forwardN_c w3 t gm P r z 0 0 0 L N HN.out _ al (PL.out.grown GP3.out) M3.out (by decide) SX.out LA.out).mono ?_
  rintro e w4 ⟨gb, bs, rfl, ob, lv, m4, hgb, g4⟩
  have OB := Lib.hid ob
  have LV := Lib.hid lv
  have M4 := Lib.hid m4
  have G4 := Lib.hid g4
  have GP4 := Lib.hid (gb_trans GP3.out g4)
  have OX4 := Lib.hid (OX.out.past g4 NAX.out.2.1)
  have OA4 := Lib.hid (OA3.out.past g4 NAX.out.1)
  have NB : Hid (gb ≠ gx ∧ gb ≠ ga ∧ gb ≠ gm) := Lib.hid (by have := NAX.out; have := BX.out; have h5 := OA3.out.base_le.2; omega)
  have HGB := Lib.hid hgb
  clear ob lv m4 g4 OX OA3 M3 SX hgb
  go_wp2_with fail
  refine (HRR.out _).mono ?_
  rintro e w5 ⟨rfl, g5⟩
  go_wp2_with fail
  refine (refForward_c _ _ al P r N (OA4.out.grown0 g5).sl LA.out (by omega) plo phi r0).mono ?_
  rintro e w6 ⟨gf, fs, rfl, of, fl, fv, g6⟩
  have bf : bs = fs := lv_ft LV.out (by rw [fl, HN.out]) (by rw [← HN.out]; exact fv)
  subst bf
  have G46 := Lib.hid (gb_trans g5 g6)
  have OF := Lib.hid of
  clear of fl fv g5 g6 LV
  go_wp2_with fail
  refine (same_c _ _ _ _ _ (OB.out.grown0 G46.out).sl OF.out.sl).mono ?_
  rintro e w7 ⟨rfl, g7⟩
  rw [show decide (bs = bs) = true from decide_eq_true rfl]
  have G47 := Lib.hid (gb_trans G46.out g7)
  clear OF G46 g7
  have M7 := Lib.hid (M4.out.grown G47.out)
  go_wp2_with fail
  refine (muls_c _ gm _ _ _ M7.out).mono ?_
  rintro e w8 ⟨rfl, hw8⟩
  subst hw8
  obtain ⟨h, hh⟩ : ∃ h, h = N / 2 := ⟨_, rfl⟩
  obtain ⟨m, hmm⟩ : ∃ m, m = h * L := ⟨_, rfl⟩
  have eh : (N : Int) / 2 = (h : Int) := by omega
  have em : (h : Int) * (L : Int) = (m : Int) := by rw [hmm, Int.natCast_mul]
  have m160 : m ≤ 16 * 5 := by rw [hmm]; exact Nat.mul_le_mul (by omega) hL
  rw [← hh, ← hmm, Int.zero_add]
  have HMM := Lib.hid hmm
  have HHH := Lib.hid hh
  clear hh hmm
  go_wp2_with fail
  refine (intactN_c _ w2.heap.size gx N _ al os LA.out (OA4.out.grown0 G47.out).sl (OX4.out.grown0 G47.out) LE.out (by omega)).mono ?_
  rintro e w9 ⟨rfl, g9⟩
  have G49 := Lib.hid (gb_trans G47.out g9)
  clear eh em M7 g9 G47
  go_wp2_with fail
  refine (spoil_c _ w3.heap.size gb N bs (OB.out.grown0 G49.out) (by omega)).mono ?_
  rintro e e10w ⟨rfl, g10⟩
  have GP10 := Lib.hid (gb_new (gb_trans GP4.out (gb_none G49.out (some gm))) g10 (fun i hi => by cases hi; have := NAX.out.2.2.2; have := HGB.out; omega))
  have OA10 := Lib.hid ((OA4.out.grown0 G49.out).past g10 (Ne.symm NB.out.2.1))
  have OX10 := Lib.hid ((OX4.out.grown0 G49.out).past g10 (Ne.symm NB.out.1))
  obtain ⟨a4, ha4, m10⟩ : ∃ a : Int, a ≤ 1000 ∧ Mt e10w gm a 0 0 := ⟨_, by rw [← HHH.out, ← HMM.out]; omega, (M4.out.grown G49.out).row g10 (Ne.symm NB.out.2.2)⟩
  have M10 := Lib.hid m10
  clear g10 G49 GP4 OA4 OX4 M4 OB m10 HHH HMM
  go_wp2_with fail
  refine (within_c more 40 (by decide) (by decide) _).mono ?_
  rintro e w11 ⟨rfl, hw11⟩
  subst hw11
  obtain ⟨q, hq⟩ : ∃ q : Nat, (q : Int) = more % 40 := ⟨(more % 40).toNat, by omega⟩
  have hq40 : q < 40 := by omega
  rw [← hq]
  clear hq _hm
  go_wp2_with fail
  refine (row_c _ _ al q OA10.out.sl (by omega)).mono ?_
  rintro e w12 ⟨gc, rfl, oc, g12⟩
  have lc := rowOf_len al q
  obtain ⟨cl', hcl⟩ : ∃ cl', cl' = rowOf al q := ⟨_, rfl⟩
  rw [← hcl] at oc lc
  have OC := Lib.hid oc
  have LC := Lib.hid lc
  have GP12 := Lib.hid (gb_trans GP10.out (gb_none g12 (some gm)))
  have OA12 := Lib.hid (OA10.out.grown0 g12)
  have OX12 := Lib.hid (OX10.out.grown0 g12)
  have M12 := Lib.hid (M10.out.grown g12)
  clear hcl oc lc g12 OA10 OX10 M10 GP10
  by_cases hqn : q = N
  · subst hqn
    go_wp2_with fail
    refine (forwardN_c _ t gm P r z _ 0 0 L q HN.out _ cl' (PL.out.grown GP12.out) M12.out (by omega) OC.out.sl LC.out).mono ?_
    rintro e w13 ⟨gd, ds, rfl, _, _, _, _, g13⟩
    have GP13 := Lib.hid (gb_trans GP12.out g13)
    go_wp2_with fail
    refine (intactN_c _ w2.heap.size gx q _ al os LA.out (OA12.out.past g13 NAX.out.1).sl (OX12.out.past g13 NAX.out.2.1) LE.out (by omega)).mono ?_
    rintro e w14 ⟨rfl, g14⟩
    have GF := Lib.hid (gb_new G1.out (gb_trans GP13.out (gb_none g14 (some gm))) (fun i hi => by cases hi; exact HGM.out))
    clear g13 g14 GP13
    go_wp2_with fail
    refine (wakes08_c _ (HD.out.grown0 GF.out)).mono ?_
    rintro e w15 ⟨rfl, g15⟩
    go_wp2
    go_ret
    exact ⟨rfl, gb_trans GF.out g15⟩
  · have hqi : ((q : Int) == (N : Int)) = false := by
      have : ¬ (q : Int) = (N : Int) := by omega
      simpa using this
    go_wp2_with fail
    refine (forwardF_c _ t gm P r z L _ cl' (PL.out.grown GP12.out) OC.out.sl (by rw [LC.out, ← HN.out]; exact hqn)).mono ?_
    rintro e w13 ⟨rfl, hw13⟩
    subst hw13
    go_wp2_with fail
    refine (intactN_c _ w2.heap.size gx N _ al os LA.out OA12.out.sl OX12.out LE.out (by omega)).mono ?_
    rintro e w14 ⟨rfl, g14⟩
    have GF := Lib.hid (gb_new G1.out (gb_trans GP12.out (gb_none g14 (some gm))) (fun i hi => by cases hi; exact HGM.out))
    clear g14
    go_wp2_with fail
    refine (wakes08_c _ (HD.out.grown0 GF.out)).mono ?_
    rintro e w15 ⟨rfl, g15⟩
    go_wp2
    go_ret
    exact ⟨rfl, gb_trans GF.out g15⟩
theorem back_one {p : Int} {f : Nat → Int} {r z : Int} {L : Nat} {bs cs fs : List Int} (po : p % 2 = 1) (p0 : 0 < p) (hi : Cg p (z * r) 1) (hn : L ≠ 0 → Cg p (r ^ 2 ^ (L - 1)) (-1)) (h1 : Lv p f r L L bs) (h2 : Iv p (rd bs) z L cs) (hf : fs.length = 2 ^ L) (k : ∀ i, i < 2 ^ L → rd fs i = f i % p) : cs = fs := by
  refine rd_ext (by rw [h2.len, hf]) fun j hj => ?_
  rw [h2.len] at hj
  rw [k j hj]
  have b := h2.bd j hj
  have e1 := ft_back f (rd bs) (w := r) (z := z) ((Cg.of_eq (Int.mul_comm r z)).trans hi) hn (fun k hk => h1.ft k hk) j hj
  have e2 := (h2.v j hj).trans (e1.trans (Cg.of_eq (Int.mul_comm _ _)))
  rw [Int.natCast_pow] at e2
  exact (Cg.cancel po p0 L e2).eq_mod b.1 b.2
theorem back_two {p : Int} {f : Nat → Int} {r z : Int} {L : Nat} {ds es fs : List Int} (po : p % 2 = 1) (p0 : 0 < p) (hi : Cg p (z * r) 1) (hn : L ≠ 0 → Cg p (r ^ 2 ^ (L - 1)) (-1)) (h1 : Iv p f z L ds) (h2 : Lv p (rd ds) r L L es) (hf : fs.length = 2 ^ L) (k : ∀ i, i < 2 ^ L → rd fs i = f i % p) : es = fs := by
  refine rd_ext (by rw [h2.len, hf]) fun j hj => ?_
  rw [h2.len] at hj
  rw [k j hj]
  have b := h2.bd j
  have e1 := ft_back f (fun k => rd ds k * ((2 ^ L : Nat) : Int)) (w := z) (z := r) hi (fun k => inv_neg ((Cg.of_eq (Int.mul_comm r z)).trans hi) (hn k)) (fun k hk => h1.v k hk) j hj
  have e3 : ft (fun k => rd ds k * ((2 ^ L : Nat) : Int)) r (2 ^ L) j = ((2 ^ L : Nat) : Int) * ft (rd ds) r (2 ^ L) j := by
    unfold ft
    rw [← sumI_mul]
    exact sumI_congr _ fun k _ => by
      show rd ds k * ((2 ^ L : Nat) : Int) * r ^ (j * k) = _
      rw [Int.mul_comm (rd ds k) ((2 ^ L : Nat) : Int), Int.mul_assoc]
  rw [e3] at e1
  have e2 := ((h2.ft j hj).mull ((2 ^ L : Nat) : Int)).trans e1
  rw [Int.mul_comm, Int.mul_comm _ (f j), Int.natCast_pow] at e2
  exact (Cg.cancel po p0 L e2).eq_mod b.1 b.2
theorem inverseN_c (w : World) (t gm : Nat) (p r z a b c : Int) (L N : Nat) (hN : N = 2 ^ L) (v : Value) (xs : List Int) (h : Pl w t gm p r z L) (hm : Mt w gm a b c) (ha : a ≤ 100000000000000000) (hv : Sl w v xs) (hl : xs.length = N) :
    Calls Tryd.prog 38 #[.pointer (some ⟨t, 0, none⟩), v] w fun e w' => ∃ g os, e = .returned (.tuple #[.slice (some ⟨g, 0, none⟩) N N, .bool true]) ∧ Own w' w.heap.size (.slice (some ⟨g, 0, none⟩) N N) os ∧ Iv p (rd xs) z L os ∧
      Mt w' gm (a + ((N / 2 * L : Nat) : Int) + (N : Int)) b c ∧ w.heap.size ≤ g ∧ w.grownBy w' (some gm) := by
  subst hN
  exact inverseT_c w t gm p r z a b c L v xs h hm ha hv hl
theorem half_two {N L : Nat} (hN : N = 2 ^ L) : N / 2 * L + N / 2 * L = N * L := by
  cases L with
  | zero => simp
  | succ L =>
    have : N = 2 * 2 ^ L := by rw [hN, Nat.pow_succ]; omega
    rw [← Nat.add_mul]
    congr 1; omega
set_option maxRecDepth 100000 in
set_option maxHeartbeats 4000000 in
theorem NttBack_walk (k log : Int) (v : Value) (xs : List Int) (w : World) (hk : -9223372036854775808 ≤ k ∧ k ≤ 9223372036854775807) (hl : -9223372036854775808 ≤ log ∧ log ≤ 9223372036854775807) (hv : Sl w v xs) (hd : Db w) :
    Calls Tryd.prog 9 #[.int .i64 k, .int .i64 log, v] w fun e w' => e = .returned (.bool true) ∧ w.grownBy w' none := by
  have PC := Lib.hid (plan_c w k log hk hl hd)
  have HD := Lib.hid hd
  have HV := Lib.hid hv
  clear hk hl hd hv
  go_enter Tryd.func9, Tryd.ntmps9
  go_wp2_with fail
  refine (PC.out).mono ?_
  rintro e w1 ⟨t, gm, p, L, x0, z, rfl, ok, hL, pl, mt, hgm, ht, g1⟩
  have OK := Lib.hid ok
  have PL := Lib.hid pl
  have G1 := Lib.hid g1
  have HGM := Lib.hid hgm
  have S1 := Lib.hid (World.block_lt_of_cell? w1 _ mt.c0)
  have HV1 := Lib.hid (HV.out.grown0 g1)
  have MT0 := Lib.hid mt
  clear ok pl g1 hgm ht mt PC HV
  obtain ⟨sh1, sh2⟩ := shl_i64 L (by omega)
  have n32 : 2 ^ L ≤ 2 ^ 5 := Nat.pow_le_pow_right (by decide) hL
  obtain ⟨N, hN⟩ : ∃ N, N = 2 ^ L := ⟨_, rfl⟩
  rw [← hN] at sh1 sh2 n32
  have HN := Lib.hid hN
  clear hN
  have plo := OK.out.pm.lo
  have phi := OK.out.pm.hi
  have podd := OK.out.pm.odd
  have pl := PL.out
  have inv := pl.inv
  have neg := pl.neg
  obtain ⟨r, hr⟩ : ∃ r, r = rootOf p L x0 := ⟨_, rfl⟩
  obtain ⟨P, hP⟩ : ∃ P : Int, P = (p : Int) := ⟨_, rfl⟩
  rw [← hr, ← hP] at pl inv neg
  rw [← hP] at plo phi podd ⊢
  have PL := Lib.hid pl
  have INV := Lib.hid inv
  have NEG := Lib.hid neg
  have PODD := Lib.hid podd
  clear hP hr pl inv neg podd OK
  go_wp2_with fail
  refine (row_c w1 v xs N HV1.out (by omega)).mono ?_
  rintro e w2 ⟨ga, rfl, oa, g2⟩
  have la := rowOf_len xs N
  obtain ⟨al, has⟩ : ∃ al, al = rowOf xs N := ⟨_, rfl⟩
  rw [← has] at oa la
  have OA := Lib.hid oa
  have LA := Lib.hid la
  have G2 := Lib.hid (gb_none g2 (some gm))
  have M2 := Lib.hid (MT0.out.grown g2)
  have NA : Hid (ga ≠ gm ∧ gm < w2.heap.size) := Lib.hid (by have := S1.out; have := oa.base_le; have := g2.size; omega)
  clear has oa la g2 HV1 MT0
  go_wp2_with fail
  refine (forwardN_c w2 t gm P r z 0 0 0 L N HN.out _ al (PL.out.grown G2.out) M2.out (by decide) OA.out.sl LA.out).mono ?_
  rintro e w3 ⟨gb, bs, rfl, ob, lv, m3, hgb, g3⟩
  have OB := Lib.hid ob
  have LV := Lib.hid lv
  have M3 := Lib.hid m3
  have G3 := Lib.hid (gb_trans G2.out g3)
  have OA3 := Lib.hid (OA.out.past g3 NA.out.1)
  have LB : Hid (bs.length = N) := Lib.hid (by rw [lv.len, HN.out])
  have S3 : Hid (gm < w3.heap.size) := Lib.hid (by have := NA.out.2; have := g3.size; omega)
  clear ob lv m3 hgb g3 OA M2 G2
  obtain ⟨h, hh⟩ : ∃ h, h = N / 2 * L := ⟨_, rfl⟩
  have h80 : h ≤ 16 * 5 := by rw [hh]; exact Nat.mul_le_mul (by omega) hL
  obtain ⟨nl, hnl⟩ : ∃ nl, nl = N * L := ⟨_, rfl⟩
  have enl : (N : Int) * (L : Int) = (nl : Int) := by rw [hnl, Int.natCast_mul]
  have hhn : h + h = nl := by rw [hh, hnl]; exact half_two HN.out
  have HH := Lib.hid hh
  clear hh hnl
  go_wp2_with fail
  refine (inverseN_c w3 t gm P r z _ 0 0 L N HN.out _ bs (PL.out.grown G3.out) M3.out (by rw [← HH.out]; omega) OB.out.sl LB.out).mono ?_
  rintro e w4 ⟨gc, cs, rfl, oc, iv, m4, hgc, g4⟩
  rw [← HH.out] at m4
  have em : (0 : Int) + (h : Int) + (h : Int) + (N : Int) = (nl : Int) + (N : Int) := by omega
  rw [em] at m4
  have OC := Lib.hid oc
  have IV := Lib.hid iv
  have M4 := Lib.hid m4
  have G4 := Lib.hid (gb_trans G3.out g4)
  have OA4 := Lib.hid (OA3.out.past g4 NA.out.1)
  have S4 : Hid (gm < w4.heap.size) := Lib.hid (by have := S3.out; have := g4.size; omega)
  clear oc iv m4 hgc g4 OA3 M3 G3 em OB LB
  go_wp2_with fail
  refine (reds_c w4 _ al P N OA4.out.sl LA.out (by omega) plo phi).mono ?_
  rintro e w5 ⟨gf, fs, rfl, of, fl, fv, g5⟩
  have bf : cs = fs := back_one PODD.out (by omega) INV.out NEG.out LV.out IV.out (by rw [fl, HN.out]) (by rw [← HN.out]; exact fv)
  have FL := Lib.hid fl
  have FV := Lib.hid fv
  have OF := Lib.hid of
  have G5 := Lib.hid g5
  subst bf
  clear of fl fv g5 LV IV
  go_wp2_with fail
  refine (same_c _ _ _ _ _ (OC.out.grown0 G5.out).sl OF.out.sl).mono ?_
  rintro e w6 ⟨rfl, g6⟩
  rw [show decide (cs = cs) = true from decide_eq_true rfl]
  have G6 := Lib.hid (gb_trans G5.out g6)
  clear g6 OF OC G5
  go_wp2_with fail
  refine (muls_c _ gm _ _ _ (M4.out.grown G6.out)).mono ?_
  rintro e w7 ⟨rfl, hw7⟩
  subst hw7
  have OA6 := Lib.hid (OA4.out.grown0 G6.out)
  have M6 := Lib.hid (M4.out.grown G6.out)
  have GP6 := Lib.hid (gb_trans G4.out (gb_none G6.out (some gm)))
  clear OA4 M4 G4 G6
  have hsz : (nl : Int) + (N : Int) ≤ 1000 := by omega
  go_wp2_with fail
  refine (inverseN_c _ t gm P r z _ 0 0 L N HN.out _ al (PL.out.grown GP6.out) M6.out (by omega) OA6.out.sl LA.out).mono ?_
  rintro e w8 ⟨gd, ds, rfl, od, iv, m8, hgd, g8⟩
  have OD := Lib.hid od
  have IV := Lib.hid iv
  have M8 := Lib.hid m8
  have GP8 := Lib.hid (gb_trans GP6.out g8)
  have OA8 := Lib.hid (OA6.out.past g8 NA.out.1)
  have LD : Hid (ds.length = N) := Lib.hid (by rw [iv.len, HN.out])
  clear od iv m8 hgd g8 OA6 M6 GP6
  go_wp2_with fail
  refine (forwardN_c _ t gm P r z _ 0 0 L N HN.out _ ds (PL.out.grown GP8.out) M8.out (by rw [← HH.out]; omega) OD.out.sl LD.out).mono ?_
  rintro e w9 ⟨ge, es, rfl, oe, lv, _, _, g9⟩
  have OE := Lib.hid oe
  have LV := Lib.hid lv
  have GP9 := Lib.hid (gb_trans GP8.out g9)
  have OA9 := Lib.hid (OA8.out.past g9 NA.out.1)
  clear oe lv g9 OA8 M8 GP8 OD LD
  go_wp2_with fail
  refine (reds_c _ _ al P N OA9.out.sl LA.out (by omega) plo phi).mono ?_
  rintro e w10 ⟨gh, hs, rfl, oh, hl, hv, g10⟩
  have ef : es = hs := back_two PODD.out (by omega) INV.out NEG.out IV.out LV.out (by rw [hl, HN.out]) (by rw [← HN.out]; exact hv)
  have OH := Lib.hid oh
  have G10 := Lib.hid g10
  subst ef
  clear oh hl hv g10 LV IV
  go_wp2_with fail
  refine (same_c _ _ _ _ _ (OE.out.grown0 G10.out).sl OH.out.sl).mono ?_
  rintro e w11 ⟨rfl, g11⟩
  rw [show decide (es = es) = true from decide_eq_true rfl]
  have GF := Lib.hid (gb_new G1.out (gb_trans GP9.out (gb_none (gb_trans G10.out g11) (some gm))) (fun i hi => by cases hi; exact HGM.out))
  clear g11 G10 OH OE GP9
  go_wp2_with fail
  refine (wakes08_c _ (HD.out.grown0 GF.out)).mono ?_
  rintro e w12 ⟨rfl, g12⟩
  go_wp2
  go_ret
  exact ⟨rfl, gb_trans GF.out g12⟩
end Go.Proofs.YtoiclkaecgpbbaaDoor
