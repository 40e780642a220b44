/- Transforms: a new plan. -/
import Derived.Test.YtoiclkaecgpbbaaDoorNtt4
import Derived.Test.YtoiclkaecgpbbaaDoorPri3
import Derived.Test.YtoiclkaecgpbbaaDoorConv2
namespace Go.Proofs.YtoiclkaecgpbbaaDoor
open Go.RowKit

theorem gcd_of {p r y : Int} (h : Cg p (r * y) 1) : Int.gcd p r = 1 := by
  have h1 : p ∣ r * y - 1 := Int.dvd_of_emod_eq_zero (Int.emod_eq_emod_iff_emod_sub_eq_zero.1 h)
  have h2 : ((Int.gcd p r : Nat) : Int) ∣ p := Int.gcd_dvd_left ..
  have h3 : ((Int.gcd p r : Nat) : Int) ∣ r := Int.gcd_dvd_right ..
  have h4 : ((Int.gcd p r : Nat) : Int) ∣ r * y - (r * y - 1) := Int.dvd_sub (Int.dvd_trans h3 (Int.dvd_mul_right _ _)) (Int.dvd_trans h2 h1)
  rw [show r * y - (r * y - 1) = 1 by omega] at h4
  have := Int.eq_one_of_dvd_one (by omega) h4
  omega
/-- What is asked of a prime and a length, that there be a plan. -/
structure Ok (p log x0 : Nat) : Prop where
  pm : Pm p
  is : isP p = true
  l10 : log ≤ 10
  div : (p - 1) % 2 ^ log = 0
  x2 : 2 ≤ x0
  x64 : x0 < 2 ^ 63
  x : (x0 : Int) ^ ((p - 1) / 2) % p = p - 1
  no : ∀ x, 2 ≤ x → x < x0 → (x : Int) ^ ((p - 1) / 2) % p ≠ p - 1
/-- The root. -/
def rootOf (p log x0 : Nat) : Int := if log = 0 then 1 else (x0 : Int) ^ ((p - 1) / 2 ^ log) % p
theorem Ok.neg {p log x0 : Nat} (h : Ok p log x0) (hl : log ≠ 0) : Cg p (rootOf p log x0 ^ 2 ^ (log - 1)) (-1) := by
  unfold rootOf
  rw [if_neg hl]
  have h1 := (Cg.mod (p : Int) ((x0 : Int) ^ ((p - 1) / 2 ^ log))).pow (2 ^ (log - 1))
  refine h1.trans ?_
  rw [← Int.pow_mul]
  have e : (p - 1) / 2 ^ log * 2 ^ (log - 1) = (p - 1) / 2 := by
    obtain ⟨k, hk⟩ := Nat.dvd_of_mod_eq_zero h.div
    obtain ⟨l, rfl⟩ : ∃ l, log = l + 1 := ⟨log - 1, by omega⟩
    rw [hk, Nat.mul_div_cancel_left _ (Nat.pow_pos (by decide)), Nat.add_sub_cancel, Nat.pow_succ, Nat.mul_comm (2 ^ l) 2, Nat.mul_assoc, Nat.mul_div_cancel_left _ (by decide), Nat.mul_comm]
  rw [e]
  have h2 := h.x
  have h3 : Cg p ((x0 : Int) ^ ((p - 1) / 2)) ((p : Int) - 1) := by
    have := (Cg.mod (p : Int) ((x0 : Int) ^ ((p - 1) / 2))).symm
    rw [h2] at this
    exact this
  refine h3.trans ?_
  have := Cg.add_mult (p : Int) (-1) 1
  rw [show (-1 : Int) + (p : Int) * 1 = (p : Int) - 1 by omega] at this
  exact this
theorem Ok.bd {p log x0 : Nat} (h : Ok p log x0) : 0 ≤ rootOf p log x0 ∧ rootOf p log x0 < p := by
  have := h.pm.lo
  unfold rootOf
  split
  · omega
  · exact ⟨Int.emod_nonneg _ (by omega), Int.emod_lt_of_pos _ (by omega)⟩
theorem Ok.gcd {p log x0 : Nat} (h : Ok p log x0) : Int.gcd p (rootOf p log x0) = 1 := by
  by_cases hl : log = 0
  · have : rootOf p log x0 = 1 := by unfold rootOf; rw [if_pos hl]
    rw [this]
    exact gcd_of (y := 1) (Cg.refl _ _)
  · have h1 := h.neg hl
    have h2 := h1.mul h1
    rw [← Int.pow_add] at h2
    obtain ⟨k, hk⟩ : ∃ k, 2 ^ (log - 1) + 2 ^ (log - 1) = k + 1 := ⟨2 ^ (log - 1) + 2 ^ (log - 1) - 1, by have : 0 < 2 ^ (log - 1) := Nat.pow_pos (by decide); omega⟩
    rw [hk, Int.pow_succ, Int.mul_comm] at h2
    exact gcd_of (h2.trans (Cg.of_eq (by decide)))
theorem two_gcd {p : Int} (hp : p % 2 = 1) (L : Nat) : Int.gcd p ((2 ^ L : Nat) : Int) = 1 := by
  have h : Nat.Coprime p.natAbs 2 := by
    have : p.natAbs % 2 = 1 := by omega
    show Nat.gcd _ 2 = 1
    rw [Nat.gcd_comm, Nat.gcd_rec, this]; rfl
  have h2 := Nat.Coprime.pow_right L h
  show Nat.gcd p.natAbs ((2 ^ L : Nat) : Int).natAbs = 1
  rw [Int.natAbs_natCast]
  exact h2
set_option maxRecDepth 100000 in
set_option maxHeartbeats 4000000 in
theorem new_c (w : World) (gm p log x0 : Nat) (h : Ok p log x0) (hgm : gm < w.heap.size) (hd : Db w) :
    Calls Tryd.prog 60 #[.pointer (some ⟨gm, 0, none⟩), .int .u64 p, .int .i64 log] w fun e w' => ∃ t z, e = .returned (.tuple #[.pointer (some ⟨t, 0, none⟩), .int .i64 0]) ∧ Pl w' t gm p (rootOf p log x0) z log ∧ w.heap.size ≤ t ∧ w.grownBy w' none := by
  have R := root_c w p log x0 h.pm h.is (by have := h.l10; omega) h.div h.x2 h.x64 h.x h.no hd
  change Calls Tryd.prog 55 _ w (fun e w' => e = .returned (.tuple #[.int .u64 (rootOf p log x0), .int .i64 0]) ∧ w.grownBy w' none) at R
  have M := fun w => modNew_ok w p h.pm
  have neg := h.neg
  have bd := h.bd
  have gc := h.gcd
  have g2 := two_gcd h.pm.odd log
  have h10 := h.l10
  have p3 := h.pm.lo
  have p62 := h.pm.hi
  obtain ⟨r, hr⟩ : ∃ r, r = rootOf p log x0 := ⟨_, rfl⟩
  obtain ⟨P, hP⟩ : ∃ P : Int, P = (p : Int) := ⟨_, rfl⟩
  rw [← hr, ← hP] at R neg bd gc ⊢
  rw [← hP] at M g2 p3 p62
  obtain ⟨q, hq⟩ : ∃ q, q = 2 ^ log := ⟨_, rfl⟩
  have hq10 : q ≤ 1024 := by rw [hq]; exact Nat.pow_le_pow_right (by decide) h10
  have hq0 : 0 < q := by rw [hq]; exact Nat.pow_pos (by decide)
  have eq : (2 : Int) ^ log = (q : Int) := by rw [hq, Int.natCast_pow]; rfl
  have hw1 : IntKind.u64.wrap (2 ^ log) = (q : Int) := by rw [eq, IntKind.wrap_u64]; omega
  have hw2 : IntKind.u64.wrap (1 * 2 ^ log) = (q : Int) := by rw [Int.one_mul]; exact hw1
  rw [← hq] at g2
  obtain ⟨hf, hhf⟩ : ∃ y, y = q / 2 := ⟨_, rfl⟩
  have eh : (q : Int) / 2 = (hf : Int) := by omega
  have HR := Lib.hid R
  have HM := Lib.hid M
  have NEG := Lib.hid neg
  have BD := Lib.hid bd
  have GC := Lib.hid gc
  have G2 := Lib.hid g2
  have HQ := Lib.hid hq
  have HHF := Lib.hid hhf
  have HGM := Lib.hid hgm
  have r0 := bd.1
  clear R M neg bd gc g2 h hr hP hq eq hhf hd hgm
  go_enter Tryd.func60, Tryd.ntmps60
  go_wp2_with fail
  refine (HR.out).mono ?_
  rintro e w1 ⟨rfl, k1⟩
  go_wp2_with fail
  refine (HM.out _).mono ?_
  rintro e w2 ⟨g0, rfl, md, hg0, k2⟩
  have C0 := cs_new w2 #[.pointer (some ⟨g0, 0, none⟩), .pointer (some ⟨gm, 0, none⟩), .int .i64 log, .slice none 0 0, .slice none 0 0, .slice none 0 0, .slice none 0 0, .int .u64 0] 59
  have M0 := md.grown0 (gb_alloc (gb_refl w2 none) (Obj.cells #[.pointer (some ⟨g0, 0, none⟩), .pointer (some ⟨gm, 0, none⟩), .int .i64 log, .slice none 0 0, .slice none 0 0, .slice none 0 0, .slice none 0 0, .int .u64 0] 59))
  have KA := Lib.hid (gb_alloc (gb_trans k1 k2) (Obj.cells #[.pointer (some ⟨g0, 0, none⟩), .pointer (some ⟨gm, 0, none⟩), .int .i64 log, .slice none 0 0, .slice none 0 0, .slice none 0 0, .slice none 0 0, .int .u64 0] 59))
  have hgt : g0 < w2.heap.size := World.block_lt_of_cell? w2 _ md.c0
  have hts : w.heap.size ≤ w2.heap.size := (gb_trans k1 k2).size
  have hgg : gm ≠ g0 := by have := HGM.out; have := k1.size; omega
  have h7 : w2.heap.size < (w2.alloc (Obj.cells #[.pointer (some ⟨g0, 0, none⟩), .pointer (some ⟨gm, 0, none⟩), .int .i64 log, .slice none 0 0, .slice none 0 0, .slice none 0 0, .slice none 0 0, .int .u64 0] 59)).heap.size := by simp
  have H7 := Lib.hid h7
  have CC := Lib.hid C0
  have MM := Lib.hid M0
  obtain ⟨t, ht⟩ : ∃ t, t = w2.heap.size := ⟨_, rfl⟩
  have HT := Lib.hid ht
  have HTS := Lib.hid hts
  have HGG := Lib.hid hgg
  have HGT := Lib.hid hgt
  clear C0 M0 md hg0 k1 k2 hgt hts hgg h7 ht
  have mdr : ∀ W u j, Md W g0 P → Md (W.setCell ⟨w2.heap.size, j, none⟩ u) g0 P := fun W u j h => h.grown (gb_rowC (gb_refl W (some w2.heap.size)) j u) (by have := HGT.out; simp; omega)
  have MDR := Lib.hid mdr
  clear mdr
  go_wp2_with fail
  refine (modInv_c _ g0 P (q : Int) MM.out (by omega)).mono ?_
  rintro e w3 ⟨⟨u, f, rfl, I⟩, k3⟩
  obtain ⟨rfl, un0, un1, uc⟩ := I.is G2.out
  have C1 := Lib.hid (CC.out.grown0 k3)
  have M1 := Lib.hid (MDR.out _ (.int .u64 u) 7 (MM.out.grown0 k3))
  have K1 := Lib.hid (gb_set (p := ⟨w2.heap.size, 7, none⟩) (gb_trans KA.out k3) HTS.out (.int .u64 u))
  have S1 : w2.heap.size < w3.heap.size := Nat.lt_of_lt_of_le H7.out k3.size
  have c7 := C1.out.cell 7 rfl
  have f7 := C1.out.free 7 rfl
  have UC := Lib.hid uc
  clear I k3 uc CC MM KA
  go_wp2_with fail
  refine (modInv_c _ g0 P r M1.out r0).mono ?_
  rintro e w4 ⟨⟨z, f, rfl, I⟩, k4⟩
  obtain ⟨rfl, z0, z1, zc⟩ := I.is GC.out
  have C2 := Lib.hid ((C1.out.set 7 (.int .u64 u)).grown0 k4)
  have M2 := Lib.hid (M1.out.grown0 k4)
  have K2 := Lib.hid (gb_trans K1.out k4)
  have S2 : w2.heap.size < w4.heap.size := by have := k4.size; simp at this; omega
  have ZC := Lib.hid zc
  clear I k4 zc C1 M1 K1 c7 f7 S1
  go_wp2_with fail
  refine (powers_c _ g0 P r hf M2.out r0 (by omega)).mono ?_
  rintro e w5 ⟨b1, b2, rfl, pw1, k5⟩
  have C3 := Lib.hid (C2.out.grown0 k5)
  have c3 := C3.out.cell 3 rfl
  have f3 := C3.out.free 3 rfl
  have c5 := C3.out.cell 5 rfl
  have f5 := C3.out.free 5 rfl
  have S3 : w2.heap.size < w5.heap.size := by have := k5.size; omega
  have g1 := gb_rowC (gb_rowC (gb_refl w5 (some w2.heap.size)) 3 (.slice (some ⟨b1, 0, none⟩) hf hf)) 5 (.slice (some ⟨b2, 0, none⟩) hf hf)
  have C4 := Lib.hid ((C3.out.set 3 (.slice (some ⟨b1, 0, none⟩) hf hf)).set 5 (.slice (some ⟨b2, 0, none⟩) hf hf))
  have M4 := Lib.hid (MDR.out _ (.slice (some ⟨b2, 0, none⟩) hf hf) 5 (MDR.out _ (.slice (some ⟨b1, 0, none⟩) hf hf) 3 (M2.out.grown0 k5)))
  have P1 := Lib.hid ((pw1 gm (by have := HGM.out; have := HTS.out; omega)).two (pw1 w2.heap.size S2) g1)
  have P1t := Lib.hid ((pw1 w2.heap.size S2).two (pw1 w2.heap.size S2) g1)
  have K3 := Lib.hid (gb_set (p := ⟨w2.heap.size, 5, none⟩) (gb_set (p := ⟨w2.heap.size, 3, none⟩) (gb_trans K2.out k5) HTS.out (.slice (some ⟨b1, 0, none⟩) hf hf)) HTS.out (.slice (some ⟨b2, 0, none⟩) hf hf))
  clear pw1 k5 g1 C2 M2 K2 S2 C3
  go_wp2_with fail
  refine (powers_c _ g0 P z hf M4.out z0 (by omega)).mono ?_
  rintro e w6 ⟨b3, b4, rfl, pw2, k6⟩
  have C5 := Lib.hid (C4.out.grown0 k6)
  clear c3 f3 c5 f5
  have c4 := C5.out.cell 4 rfl
  have f4 := C5.out.free 4 rfl
  have c6 := C5.out.cell 6 rfl
  have f6 := C5.out.free 6 rfl
  have S4 : w2.heap.size < ((w5.setCell ⟨w2.heap.size, 3, none⟩ (.slice (some ⟨b1, 0, none⟩) hf hf)).setCell ⟨w2.heap.size, 5, none⟩ (.slice (some ⟨b2, 0, none⟩) hf hf)).heap.size := by simpa using S3
  have g2 := gb_rowC (gb_rowC (gb_refl w6 (some w2.heap.size)) 4 (.slice (some ⟨b3, 0, none⟩) hf hf)) 6 (.slice (some ⟨b4, 0, none⟩) hf hf)
  have CF := (C5.out.set 4 (.slice (some ⟨b3, 0, none⟩) hf hf)).set 6 (.slice (some ⟨b4, 0, none⟩) hf hf)
  have MF := MDR.out _ (.slice (some ⟨b4, 0, none⟩) hf hf) 6 (MDR.out _ (.slice (some ⟨b3, 0, none⟩) hf hf) 4 (M4.out.grown0 k6))
  have PA := (P1.out.grown0 k6).two (P1t.out.grown0 k6) g2
  have PB := (pw2 gm (by have := HGM.out; have := HTS.out; omega)).two (pw2 w2.heap.size S4) g2
  have KF := gb_set (p := ⟨w2.heap.size, 6, none⟩) (gb_set (p := ⟨w2.heap.size, 4, none⟩) (gb_trans K3.out k6) HTS.out (.slice (some ⟨b3, 0, none⟩) hf hf)) HTS.out (.slice (some ⟨b4, 0, none⟩) hf hf)
  have PL : Pl ((w6.setCell ⟨w2.heap.size, 4, none⟩ (.slice (some ⟨b3, 0, none⟩) hf hf)).setCell ⟨w2.heap.size, 6, none⟩ (.slice (some ⟨b4, 0, none⟩) hf hf)) w2.heap.size gm P r z log :=
    ⟨⟨g0, CF.cell 0 rfl, MF, Ne.symm HGG.out⟩, CF.cell 1 rfl, CF.cell 2 rfl, ⟨(.slice (some ⟨b1, 0, none⟩) hf hf), (.slice (some ⟨b2, 0, none⟩) hf hf), CF.cell 3 rfl, CF.cell 5 rfl, by rw [← HQ.out, ← HHF.out]; exact PA⟩, ⟨(.slice (some ⟨b3, 0, none⟩) hf hf), (.slice (some ⟨b4, 0, none⟩) hf hf), CF.cell 4 rfl, CF.cell 6 rfl, by rw [← HQ.out, ← HHF.out]; exact PB⟩,
      ⟨u, CF.cell 7 rfl, un0, un1, by rw [← HQ.out]; exact UC.out⟩, by have := HGM.out; have := HTS.out; omega, h10, BD.out, ⟨z0, z1⟩, ZC.out, NEG.out⟩
  have PLH := Lib.hid PL
  have KFH := Lib.hid KF
  clear PL KF PA PB CF MF g2 pw2 k6
  go_wp2
  go_ret2
  exact ⟨w2.heap.size, z, rfl, PLH.out, HTS.out, KFH.out⟩
end Go.Proofs.YtoiclkaecgpbbaaDoor
