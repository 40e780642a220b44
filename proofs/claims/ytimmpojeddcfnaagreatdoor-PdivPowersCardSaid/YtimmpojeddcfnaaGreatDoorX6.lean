/- Contracts of the program's functions, and plain laws (Rdm5, Rdm6, Law25f), for every input that their premises let in. -/
import Derived.Test.YtimmpojeddcfnaaGreatDoorX5
import Derived.Test.YtimmpojeddcfnaaGreatDoorX2
set_option maxRecDepth 100000
set_option maxHeartbeats 8000000
namespace Go.Proofs.YtimmpojeddcfnaaGreatDoor
open Go.RowKit
theorem val_top {xs : List Int} (h : Ws xs) {k : Nat} (hk : k < xs.length) (hz : ∀ j, k < j → rd xs j = 0) : val B64 xs < 2 ^ (64 * k + blen (rd xs k).toNat) := by
 have e1 : xs.take (k + 1) = trimZ xs ∨ val B64 (xs.drop (k + 1)) = 0 := .inr (by
  have hz' : ∀ (l : List Int), (∀ j, rd l j = 0) → val B64 l = 0 := fun l hl => by
   rw [← val_trimZ, trimZ_zero l hl]; rfl
  exact hz' _ fun j => by rw [rd_dropk]; exact hz _ (by omega))
 rcases e1 with e | e
 ·have hd := h.dg
  have h2 := val_take_succ B64 hk
  have h3 := val_take_lt (B := B64) (by decide) hd k
  have h4 := blen_lt (rd xs k).toNat
  rw [← val_trimZ, ← e, h2, Nat.pow_add, Nat.pow_mul]
  have h5 : B64 ^ k * ((rd xs k).toNat + 1) ≤ B64 ^ k * 2 ^ blen (rd xs k).toNat := Nat.mul_le_mul_left _ h4
  rw [Nat.mul_add, Nat.mul_one] at h5
  show _ < B64 ^ k * _
  omega
 ·have hd := h.dg
  have h1 := val_take_drop B64 xs (k + 1) (by omega)
  rw [e, Nat.mul_zero, Nat.add_zero] at h1
  have h2 := val_take_succ B64 hk
  have h3 := val_take_lt (B := B64) (by decide) hd k
  have h4 := blen_lt (rd xs k).toNat
  rw [h1, h2, Nat.pow_add, Nat.pow_mul]
  have h5 : B64 ^ k * ((rd xs k).toNat + 1) ≤ B64 ^ k * 2 ^ blen (rd xs k).toNat := Nat.mul_le_mul_left _ h4
  rw [Nat.mul_add, Nat.mul_one] at h5
  show _ < B64 ^ k * _
  omega
theorem bit_word (x y r : Nat) (hr : r < 64) : (x + 18446744073709551616 * y) / 2 ^ r % 2 = x / 2 ^ r % 2 := by
 have e : 18446744073709551616 * y = 2 ^ r * (2 ^ (64 - r) * y) := by
  rw [← Nat.mul_assoc, ← Nat.pow_add, show r + (64 - r) = 64 by omega]
 rw [e, Nat.add_mul_div_left _ _ (Nat.two_pow_pos r)]
 have e2 : 2 ^ (64 - r) * y = 2 * (2 ^ (63 - r) * y) := by
  rw [← Nat.mul_assoc, show 64 - r = 63 - r + 1 by omega, Nat.pow_succ, Nat.mul_comm (2 ^ (63 - r)) 2]
 rw [e2, Nat.add_mul_mod_self_left]
theorem val_bitW {xs : List Int} (h : Ws xs) {q r : Nat} (hq : q < xs.length) (hr : r < 64) : val B64 xs / 2 ^ (64 * q + r) % 2 = (rd xs q).toNat / 2 ^ r % 2 := by
 have hd := h.dg
 rw [val_take_drop B64 xs q (by omega), val_drop B64 hq]
 have h3 := val_take_lt (B := B64) (by decide) hd q
 have eB : (B64 : Nat) ^ q = 2 ^ (64 * q) := by rw [Nat.pow_mul]
 have h4 : val B64 (xs.take q) < 2 ^ (64 * q) := eB ▸ h3
 rw [Nat.pow_add, ← Nat.div_div_eq_div_mul, eB, Nat.add_mul_div_left _ _ (Nat.two_pow_pos _), Nat.div_eq_of_lt h4, Nat.zero_add]
 exact bit_word _ _ r hr
theorem val_bit0 {xs : List Int} (h : Ws xs) {i : Nat} (hi : xs.length ≤ i / 64) : val B64 xs / 2 ^ i % 2 = 0 := by
 have h1 : val B64 xs < B64 ^ xs.length := val_lt h.dg
 have e : (B64 : Nat) ^ xs.length = 2 ^ (64 * xs.length) := by rw [Nat.pow_mul]
 obtain ⟨V, hV⟩ : ∃ V, V = val B64 xs := ⟨_, rfl⟩
 rw [e, ← hV] at h1
 rw [← hV]
 have h3 : 2 ^ (64 * xs.length) ≤ 2 ^ i := Nat.pow_le_pow_right (by decide) (by omega)
 obtain ⟨W, hW⟩ : ∃ W, W = 2 ^ i := ⟨_, rfl⟩
 rw [← hW] at h3 ⊢
 rw [Nat.div_eq_of_lt (Nat.lt_of_lt_of_le h1 h3)]
theorem nbits_c (w : World) (v : Value) (xs : List Int) (h : Sl w v xs) (hl : xs.length ≤ 1000) :
  Calls Tryz.prog 98 #[v] w fun e w' => ∃ b : Nat, e = .returned (.int .i64 b) ∧ val B64 xs < 2 ^ b ∧ b ≤ 64 * xs.length ∧ w' = w := by
 have LN := lk (nlen_c w v xs h)
 have HV := lk h
 obtain ⟨A, c, rfl, hnc, _⟩ := h.form
 have tl := trimZ_len xs
 obtain ⟨k, hk⟩ : ∃ k, k = (trimZ xs).length := ⟨_, rfl⟩
 have hz : Hid (∀ j, k ≤ j → rd xs j = 0) := lk (fun j hj => by
  have e := take_trimZ_len xs
  have : rd (trimZ xs) j = rd xs j := rd_of_ev (fun x => ev_trimZ xs x) j
  rw [← this]; exact rd_beyond (by omega))
 rw [← hk] at LN tl
 have HK := lk hk
 obtain ⟨n, hn⟩ : ∃ n, n = xs.length := ⟨_, rfl⟩
 rw [← hn] at LN HV hnc tl hl ⊢
 have HN := lk hn
 clear h hk hn
 go_enter Tryz.func98, Tryz.ntmps98
 go_wp2_with fail
 refine (LN.out).mono ?_
 rintro e w1 ⟨rfl, hw⟩
 subst hw
 by_cases k0 : k = 0
 ·subst k0
  clear LN
  go_wp2
  go_ret
  refine ⟨0, rfl, ?_, by omega, rfl⟩
  have e : trimZ xs = [] := List.length_eq_zero_iff.1 HK.out.symm
  rw [← val_trimZ, e]; decide
 ·have kb : ((k : Int) == 0) = false := by simp; omega
  obtain ⟨j, hj⟩ : ∃ j, k = j + 1 := ⟨k - 1, by omega⟩
  have ej : (k : Int) - 1 = (j : Int) := by omega
  have hjk : j < k := by omega
  obtain ⟨b, o, rfl, hci⟩ := HV.out.at j (by rw [← HN.out]; omega)
  have x0 := rd_w HV.out.ws j
  have VT := lk (val_top HV.out.ws (k := j) (by rw [← HN.out]; omega) (fun i hi => hz.out i (by omega)))
  obtain ⟨x, hx⟩ : ∃ x, x = rd xs j := ⟨_, rfl⟩
  rw [← hx] at hci x0 VT
  have LE := lk (len64_c x x0.1 x0.2 w1)
  have bl := blen_le x.toNat 64 (by omega)
  obtain ⟨y, hy⟩ : ∃ y, y = blen x.toNat := ⟨_, rfl⟩
  rw [← hy] at LE VT bl
  obtain ⟨z, hz'⟩ : ∃ z, z = 64 * j + y := ⟨_, rfl⟩
  have ey : 64 * (j : Int) + (y : Int) = (z : Int) := by omega
  have zb : z ≤ 64 * n := by omega
  rw [← hz'] at VT
  clear hx hj LN hy hz'
  go_wp2_with fail
  refine (LE.out).mono ?_
  rintro e w2 ⟨rfl, hw⟩
  subst hw
  go_wp2
  go_ret
  exact ⟨z, rfl, VT.out, zb, rfl⟩
theorem nbit_c (w : World) (v : Value) (xs : List Int) (i : Nat) (hi : i ≤ 100000) (h : Sl w v xs) :
  Calls Tryz.prog 99 #[v, .int .i64 i] w fun e w' => e = .returned (.int .u64 (val B64 xs / 2 ^ i % 2 : Nat)) ∧ w' = w := by
 have HV := lk h
 obtain ⟨A, c, rfl, hnc, _⟩ := h.form
 obtain ⟨n, hn⟩ : ∃ n, n = xs.length := ⟨_, rfl⟩
 rw [← hn] at HV hnc ⊢
 have HN := lk hn
 clear h hn
 obtain ⟨q, hq⟩ : ∃ q, q = i / 64 := ⟨_, rfl⟩
 obtain ⟨r, hr⟩ : ∃ q, q = i % 64 := ⟨_, rfl⟩
 have e1 : Int.tdiv (i : Int) 64 = (q : Int) := by rw [Int.tdiv_eq_ediv_of_nonneg (by omega)]; omega
 have e2 : Int.tmod (i : Int) 64 = (r : Int) := by rw [Int.tmod_eq_emod_of_nonneg (by omega)]; omega
 have e3 : (i : Int) / 64 = (q : Int) := by omega
 have e4 : (i : Int) % 64 = (r : Int) := by omega
 have r64 : r < 64 := by omega
 have q2 : q ≤ 2000 := by omega
 have ei : i = 64 * q + r := by omega
 have EI := lk ei
 clear ei
 by_cases hlt : q < n
 ·obtain ⟨b, o, rfl, hci⟩ := HV.out.at q (by rw [← HN.out]; exact hlt)
  have x0 := rd_w HV.out.ws q
  have VB := lk (val_bitW HV.out.ws (q := q) (r := r) (by rw [← HN.out]; exact hlt) r64)
  rw [← EI.out] at VB
  obtain ⟨x, hx⟩ : ∃ x, x = rd xs q := ⟨_, rfl⟩
  rw [← hx] at hci x0 VB
  obtain ⟨y, rfl⟩ : ∃ y : Nat, x = (y : Int) := ⟨x.toNat, by omega⟩
  have BT := lk (bit1N y r (by omega))
  rw [Int.toNat_natCast] at VB
  clear hx hq hr
  go_enter Tryz.func99, Tryz.ntmps99
  go_wp2
  rw [VB.out, ← BT.out]
  go_ret
  exact ⟨rfl, rfl⟩
 ·have VB := lk (val_bit0 HV.out.ws (i := i) (by rw [← HN.out, ← hq]; omega))
  rw [VB.out]
  clear hq hr
  go_enter Tryz.func99, Tryz.ntmps99
  go_wp2
  go_ret
  exact ⟨rfl, rfl⟩
def Cm (p : Int) (zb : List Int) (F : Int → Int) (r : List Int) : Prop := ∃ Q, IsP Q ∧ Eqv p F (fun x => Q x * ev zb x + ev r x)
theorem Cm.self (p : Int) (zb r : List Int) : Cm p zb (ev r) r := ⟨fun _ => 0, isP_const 0, Eqv.of_eq p fun x => by simp⟩
theorem cm_alg (F G Q Q' b r s q t K1 K2 K3 K4 p z : Int) (h1 : F = Q * b + r + p * K1) (h2 : G = Q' * b + s + p * K2) (h3 : z = q * b + t + p * K3) (h4 : z = r * s + p * K4) :
  F * G = (Q * Q' * b + Q * s + r * Q' + q) * b + t + p * (K1 * (Q' * b + s + p * K2) + K2 * (Q * b + r) + K3 - K4) := by
 have e : r * s = q * b + t + p * K3 - p * K4 := by omega
 rw [h1, h2]
 have : (Q * b + r + p * K1) * (Q' * b + s + p * K2) = (Q * Q' * b + Q * s + r * Q') * b + r * s + p * (K1 * (Q' * b + s + p * K2) + K2 * (Q * b + r)) := by grind
 rw [this, e]; grind
theorem Rm.mul {p : Int} {zb r s z q t : List Int} {F G : Int → Int} (h : Cm p zb F r) (k : Cm p zb G s) (ez : Eqv p (ev z) (fun x => ev r x * ev s x)) (e : Eqv p (ev z) (fun x => ev q x * ev zb x + ev t x)) (nt : Nf p t) (lt : t.length < zb.length) : Rm p zb (fun x => F x * G x) t := by
 obtain ⟨Q, iQ, K1, i1, e1⟩ := h
 obtain ⟨Q', iQ', K2, i2, e2⟩ := k
 obtain ⟨K3, i3, e3⟩ := e
 obtain ⟨K4, i4, e4⟩ := ez
 refine ⟨nt, lt, fun x => Q x * Q' x * ev zb x + Q x * ev s x + ev r x * Q' x + ev q x, ((((iQ.mul iQ').mul (isP_ev zb)).add (iQ.mul (isP_ev s))).add ((isP_ev r).mul iQ')).add (isP_ev q), fun x => K1 x * (Q' x * ev zb x + ev s x + p * K2 x) + K2 x * (Q x * ev zb x + ev r x) + K3 x - K4 x, ?_, fun x => cm_alg _ _ _ _ _ _ _ _ _ _ _ _ _ _ _ (e1 x) (e2 x) (e3 x) (e4 x)⟩
 exact (((i1.mul (((iQ'.mul (isP_ev zb)).add (isP_ev s)).add (i2.scl p))).add (i2.mul ((iQ.mul (isP_ev zb)).add (isP_ev r)))).add i3).sub i4
theorem Rm.start {p : Int} {zb q t xs : List Int} (e : Eqv p (ev xs) (fun x => ev q x * ev zb x + ev t x)) (nt : Nf p t) (lt : t.length < zb.length) : Rm p zb (ev xs) t := ⟨nt, lt, ev q, isP_ev q, e⟩
theorem Rm.eq {p : Int} {zb r : List Int} {F G : Int → Int} (h : Rm p zb F r) (e : ∀ x, G x = F x) : Rm p zb G r := by
 obtain ⟨Q, iQ, f⟩ := h.e
 exact ⟨h.n, h.l, Q, iQ, (Eqv.of_eq p e).trans f⟩
theorem pow_bit (F : Int → Int) (n j : Nat) (x : Int) : F x ^ (n / 2 ^ j) = F x ^ (n / 2 ^ (j + 1)) * F x ^ (n / 2 ^ (j + 1)) * F x ^ (n / 2 ^ j % 2) := by
 rw [← Int.pow_add, ← Int.pow_add]
 congr 1
 rw [Nat.pow_succ, ← Nat.div_div_eq_div_mul]; omega
theorem sl_one (w : World) (t : TypeId) : Sl (w.alloc (Obj.cells #[.int .u64 1] t)) (.slice (some ⟨w.heap.size, 0, none⟩) 1 1) [1] := sl_lit w t #[.int .u64 1] [1] 1 rfl (ws_one (by decide) (by decide)) rfl (by decide)
theorem rPowMod_c (w : World) (u n v : Value) (xs ns ys zb : List Int) (p : Int) (hp3 : 3 ≤ p) (hp' : p < 4611686018427387904) (hF : ∀ x, 0 < x → x < p → Int.gcd p x = 1) (hu : Sl w u xs) (hn : Sl w n ns) (hv : Sl w v ys) (hl : xs.length ≤ 100) (hln : ns.length ≤ 100) (hl2 : ys.length ≤ 100) (nb : Nf p zb) (eb : Eqv p (ev zb) (ev ys)) (lb : 0 < zb.length) (llb : zb.length ≤ ys.length) :
  Calls Tryz.prog 57 #[u, n, v, .int .u64 p] w fun e w' => ∃ x r, e = .returned x ∧ Sl w' x r ∧ Rm p zb (fun z => ev xs z ^ val B64 ns) r ∧ w.grownBy w' none := by
 have HU := lk hu
 have HN := lk hn
 have HV := lk hv
 have NB := lk (And.intro nb eb)
 have LB := lk lb
 have DM := lk (fun w1 x zs (h : Sl w1 x zs) (k : w.grownBy w1 none) (hl : zs.length ≤ 4000) => rDivMod_c w1 x v zs ys zb p hp3 hp' hF h (hv.grown0 k) hl (by omega) nb eb lb)
 have BT := lk (fun w1 (k : w.grownBy w1 none) (i : Nat) (hi : i ≤ 100000) => nbit_c w1 n ns i hi (hn.grown0 k))
 have ga := ju (jr w none) (Obj.cells #[.int .u64 1] 53)
 have GA := lk ga
 have D0 := lk (DM.out _ _ _ (sl_one w 53) ga (by decide))
 have BI := lk (fun w1 (k : w.grownBy w1 none) => nbits_c w1 n ns (hn.grown0 k) (by omega))
 obtain ⟨N, hN⟩ : ∃ N, N = val B64 ns := ⟨_, rfl⟩
 rw [← hN] at BI BT ⊢
 clear hu hn hv nb eb lb hF ga hN
 go_enter Tryz.func57, Tryz.ntmps57
 go_wp2_with fail
 refine (D0.out).mono ?_
 rintro e w1 ⟨vq, vr, zq, zr, rfl, -, ⟨sr, nr⟩, lr, -, er, g1⟩
 have G1 := lk (jt GA.out g1)
 have R1 := lk sr
 have M1 := lk (Rm.start er nr lr)
 clear sr nr lr er g1 D0
 go_wp2_with fail
 refine (BI.out w1 G1.out).mono ?_
 rintro e w1' ⟨b, rfl, hb, hbl, hw⟩
 subst hw
 obtain ⟨w1, rfl⟩ : ∃ w3 : World, w3 = w1' := ⟨_, rfl⟩
 have b2 : b ≤ 10000 := by omega
 have M0 : Hid (Rm p zb (fun z => ev xs z ^ (N / 2 ^ b)) zr) := lk (M1.out.eq fun z => by rw [Nat.div_eq_of_lt hb]; simp [ev])
 clear hb hbl BI M1
 go_wp2
 go_loopw [10, 11] (fun v10 v11 wr => ∃ (j : Nat) (r : List Int) (xv : Value), xv = v10 ∧ v11 = .int .i64 ((j : Int) - 1) ∧ j ≤ b ∧ Sl wr xv r ∧ Rm p zb (fun z => ev xs z ^ (N / 2 ^ j)) r ∧ w1.grownBy wr none) (fun _ v11 _ => (intOf v11 + 1).toNat)
 case atStart => exact ⟨b, zr, _, rfl, rfl, Nat.le_refl _, R1.out, M0.out, jr _ _⟩
 case round =>
  clear R1 M0
  obtain ⟨j, r, xv, rfl, rfl, hj, sr, mr, G⟩ := hrel
  obtain ⟨wq, rfl⟩ : ∃ wq : World, wq = wr := ⟨_, rfl⟩
  have SR := lk sr
  have MR := lk mr
  have GG := lk (jt G1.out G)
  have GQ := lk G
  clear sr mr G
  by_cases hj0 : j = 0
  ·subst hj0
   have FIN : Hid (Rm p zb (fun z => ev xs z ^ N) r) := lk (MR.out.eq fun z => by simp)
   clear MR
   go_wp2
   go_ret
   exact ⟨_, r, rfl, SR.out, FIN.out, GG.out⟩
  ·obtain ⟨i, hi⟩ : ∃ i, j = i + 1 := ⟨j - 1, by omega⟩
   have ej : (j : Int) - 1 = (i : Int) := by omega
   have ib : i ≤ 10000 := by omega
   have lr := MR.out.l
   have ML := lk (rMul_c wq xv xv r r p hp3 hp' SR.out SR.out (by omega))
   have HI := lk hi
   clear hi
   go_wp2_with fail
   refine (ML.out).mono ?_
   rintro e w2 ⟨x2, rfl, ⟨z2, o2, n2, e2, l2⟩, g2⟩
   have G2 := lk (jt GG.out g2)
   have GQ2 := lk (jt GQ.out g2)
   have D2 := lk (DM.out w2 x2 z2 o2.sl G2.out (by omega))
   have E2 := lk e2
   clear ML o2 n2 e2 l2 g2
   go_wp2_with fail
   refine (D2.out).mono ?_
   rintro e w3 ⟨vq, vr, zq, zs, rfl, -, ⟨s3, n3⟩, l3, -, e3, g3⟩
   have G3 := lk (jt G2.out g3)
   have GQ3 := lk (jt GQ2.out g3)
   have S3 := lk s3
   have M3 := lk (Rm.mul MR.out.e MR.out.e E2.out e3 n3 l3)
   have B3 := lk (BT.out w3 G3.out i (by omega))
   have hb : N / 2 ^ i % 2 = 0 ∨ N / 2 ^ i % 2 = 1 := by omega
   clear D2 s3 n3 l3 e3 g3 G2 GQ2 E2
   rcases hb with hb | hb
   ·rw [hb] at B3
    have M4 : Hid (Rm p zb (fun z => ev xs z ^ (N / 2 ^ i)) zs) := lk (M3.out.eq fun z => by rw [pow_bit, hb, HI.out]; simp)
    clear hb M3
    go_wp2_with fail
    refine (B3.out).mono ?_
    rintro e w4 ⟨rfl, hw⟩
    subst hw
    go_wp2
    go_roundw
    case rel => exact ⟨i, zs, _, rfl, by go_num, by have := HI.out; omega, S3.out, M4.out, GQ3.out⟩
    case measure => simp [intOf]; omega
   ·rw [hb] at B3
    go_wp2_with fail
    refine (B3.out).mono ?_
    rintro e w4 ⟨rfl, hw⟩
    subst hw
    obtain ⟨w3, rfl⟩ : ∃ w5 : World, w5 = w4 := ⟨_, rfl⟩
    have ls := M3.out.l
    have ML := lk (rMul_c w3 vr u zs xs p hp3 hp' S3.out (HU.out.grown0 G3.out) (by omega))
    have HB := lk hb
    clear B3 hb
    go_wp2_with fail
    refine (ML.out).mono ?_
    rintro e w5 ⟨x5, rfl, ⟨z5, o5, n5, e5, l5⟩, g5⟩
    have G5 := lk (jt G3.out g5)
    have GQ5 := lk (jt GQ3.out g5)
    have D5 := lk (DM.out w5 x5 z5 o5.sl G5.out (by omega))
    have E5 := lk e5
    clear ML o5 n5 e5 l5 g5
    go_wp2_with fail
    refine (D5.out).mono ?_
    rintro e w6 ⟨vq6, vr6, zq6, zt, rfl, -, ⟨s6, n6⟩, l6, -, e6, g6⟩
    have GQ6 := lk (jt GQ5.out g6)
    have S6 := lk s6
    have M6 : Hid (Rm p zb (fun z => ev xs z ^ (N / 2 ^ i)) zt) := lk ((Rm.mul M3.out.e (Cm.self p zb xs) E5.out e6 n6 l6).eq fun z => by
     show ev xs z ^ (N / 2 ^ i) = ev xs z ^ (N / 2 ^ j) * ev xs z ^ (N / 2 ^ j) * ev xs z
     rw [pow_bit (ev xs) N i z, HB.out, HI.out, Int.pow_succ (ev xs z) 0, Int.pow_zero, Int.one_mul])
    clear D5 s6 n6 l6 e6 g6 E5 G5 GQ5 M3
    go_wp2
    go_roundw
    case rel => exact ⟨i, zt, _, rfl, by go_num, by have := HI.out; omega, S6.out, M6.out, GQ6.out⟩
    case measure => simp [intOf]; omega
theorem pdpow0_c {u : Tb} (hu : TbOk u) (p : Int) (hF : ∀ x, 0 < x → x < p → Int.gcd p x = 1) (d g : Nat) (I : Pix) (w : World) (a : Int) (c : Mc) (U n V : Value) (xs ys : List Int) (h : Pd w u p d g I a c) (hd : Db w) (ha : a ≤ 800000000000000) (hU : Sl w U xs) (hV : Sl w V ys) (hl : xs.length ≤ 100) (hl2 : ys.length ≤ 100) (eb : Eqv p (ev []) (ev ys)) :
  Calls Tryz.prog 56 #[.pointer (some ⟨d, 0, none⟩), U, n, V] w fun e w' => e = .returned (.tuple #[.slice none 0 0, .int .i64 2]) ∧ w.grownBy w' (some I.gm) := by
 have hp := h.q.rg.m.neg0
 have A1 := lk (divmod_c hu p hF d g I w a c U V xs ys h hd ha hU hV (by omega) (by omega))
 clear h hU hV
 go_enter Tryz.func56, Tryz.ntmps56
 go_wp2_with fail
 refine (A1.out).mono ?_
 rintro e w1 ⟨q1, r1, e1, a1, c1, rfl, dm, p1, ha1, g1⟩
 obtain ⟨zb, n1, f1, _, h4⟩ := dm
 obtain rfl := n1.one (nf_nil p) hp f1 eb
 rcases h4 with ⟨_, rfl, rfl, rfl⟩ | ⟨h, _⟩
 ·have G1 := lk g1
  clear A1 g1 n1 f1 p1 ha1
  go_wp2
  go_ret2
  exact ⟨rfl, G1.out⟩
 ·simp at h
theorem pdpow_c {u : Tb} (hu : TbOk u) (p : Int) (hF : ∀ x, 0 < x → x < p → Int.gcd p x = 1) (d g : Nat) (I : Pix) (w : World) (a : Int) (c : Mc) (U n V : Value) (xs ns ys zb : List Int) (h : Pd w u p d g I a c) (hd : Db w) (ha : a ≤ 600000000000000) (hU : Sl w U xs) (hn : Sl w n ns) (hV : Sl w V ys) (hl : xs.length ≤ 60) (hln : ns.length ≤ 100) (hl2 : ys.length ≤ 60) (nb : Nf p zb) (eb : Eqv p (ev zb) (ev ys)) (lb : 0 < zb.length) (llb : zb.length ≤ ys.length) :
  Calls Tryz.prog 56 #[.pointer (some ⟨d, 0, none⟩), U, n, V] w fun e w' => ∃ x r, e = .returned (.tuple #[x, .int .i64 0]) ∧ Sl w' x r ∧ Rm p zb (fun z => ev xs z ^ val B64 ns) r ∧ w.grownBy w' (some I.gm) := by
 have hp := h.q.rg.m.neg0
 have HN := lk (fun w1 (k : w.grownBy w1 (some I.gm)) => h.q.sl hn k)
 have HV := lk (fun w1 (k : w.grownBy w1 (some I.gm)) => h.q.sl hV k)
 have HD := lk (fun w1 (k : w.grownBy w1 (some I.gm)) => Db.gm h.q hd k)
 have NB := lk (And.intro nb eb)
 have LB := lk lb
 have A1 := lk (divmod_c hu p hF d g I w a c U V xs ys h hd (by omega) hU hV (by omega) (by omega))
 have DMc := lk (fun w1 a1 c1 x zs (q : Pd w1 u p d g I a1 c1) (h1 : a1 ≤ 800000000000000) (hx : Sl w1 x zs) (k : w.grownBy w1 (some I.gm)) (hl : zs.length ≤ 150) => divmod_c hu p hF d g I w1 a1 c1 x V zs ys q (HD.out w1 k) h1 hx (HV.out w1 k) hl (by omega))
 have BI := lk (fun w1 (k : w.grownBy w1 (some I.gm)) => nbits_c w1 n ns (HN.out w1 k) (by omega))
 have BT := lk (fun w1 (k : w.grownBy w1 (some I.gm)) (i : Nat) (hi : i ≤ 100000) => nbit_c w1 n ns i hi (HN.out w1 k))
 obtain ⟨N, hN⟩ : ∃ N, N = val B64 ns := ⟨_, rfl⟩
 rw [← hN] at BI BT ⊢
 clear hd hU hn hV nb eb lb hF hN h
 go_enter Tryz.func56, Tryz.ntmps56
 go_wp2_with fail
 refine (A1.out).mono ?_
 rintro e w1 ⟨q1, r1, e1, a1, c1, rfl, dm, p1, ha1, g1⟩
 obtain ⟨rfl, zq, zx, -, ⟨ox, nx⟩, lx, -, ex⟩ := dm.some hp NB.out.1 NB.out.2 LB.out
 have P1 := lk p1
 have SX := lk ox.sl
 have MX := lk (Rm.start ex nx lx)
 have G1 := lk g1
 have ga := ju (jr w1 none) (Obj.cells #[.int .u64 1] 53)
 have GA := lk ga
 have P1a := lk (p1.grown0 ga)
 have G1a := lk (jt g1 (jn ga (some I.gm)))
 have A2 := lk (DMc.out _ a1 c1 _ _ P1a.out (by omega) (sl_one w1 53) G1a.out (by decide))
 have HA1 := lk ha1
 clear A1 dm p1 ha1 g1 ox nx lx ex ga
 go_wp2_with fail
 refine (A2.out).mono ?_
 rintro e w2 ⟨q2, r2, e2, a2, c2, rfl, dm, p2, ha2, g2⟩
 obtain ⟨rfl, zq, zr, -, ⟨o2, n2⟩, l2, -, e2⟩ := dm.some hp NB.out.1 NB.out.2 LB.out
 have G2 := lk (jt G1a.out g2)
 have SX2 := lk (P1a.out.q.sl (SX.out.grown0 GA.out) g2)
 have P2 := lk p2
 have R2 := lk o2.sl
 have M2 := lk (Rm.start e2 n2 l2)
 have HA2 : Hid (a2 ≤ a + 8000000000) := lk (by have := HA1.out; omega)
 clear A2 dm p2 ha2 g2 o2 n2 l2 e2 P1 SX P1a G1a
 go_wp2_with fail
 refine (BI.out w2 G2.out).mono ?_
 rintro e w2' ⟨b, rfl, hb, hbl, hw⟩
 subst hw
 obtain ⟨w2, rfl⟩ : ∃ w3 : World, w3 = w2' := ⟨_, rfl⟩
 have b2 : b ≤ 10000 := by omega
 have M0 : Hid (Rm p zb (fun z => ev xs z ^ (N / 2 ^ b)) zr) := lk (M2.out.eq fun z => by rw [Nat.div_eq_of_lt hb]; simp [ev])
 clear hb hbl BI M2
 go_wp2
 go_loopw [14, 16] (fun v14 v16 wr => ∃ (j : Nat) (r : List Int) (xv : Value) (a' : Int) (c' : Mc), xv = v14 ∧ v16 = .int .i64 ((j : Int) - 1) ∧ j ≤ b ∧ Sl wr xv r ∧ Rm p zb (fun z => ev xs z ^ (N / 2 ^ j)) r ∧ Pd wr u p d g I a' c' ∧ a' ≤ a + 8000000000 + ((b : Int) - j) * 10000000000 ∧ w2.grownBy wr (some I.gm)) (fun _ v16 _ => (intOf v16 + 1).toNat)
 case atStart => exact ⟨b, zr, _, a2, c2, rfl, rfl, Nat.le_refl _, R2.out, M0.out, P2.out, by have := HA2.out; omega, jr _ _⟩
 case round =>
  clear R2 M0
  obtain ⟨j, r, xv, a', c', rfl, rfl, hj, sr, mr, pr, ha', G⟩ := hrel
  obtain ⟨wq, rfl⟩ : ∃ wq : World, wq = wr := ⟨_, rfl⟩
  have SR := lk sr
  have MR := lk mr
  have PR := lk pr
  have HA := lk ha'
  have GG := lk (jt G2.out G)
  have GQ := lk G
  clear sr mr pr ha' G
  by_cases hj0 : j = 0
  ·subst hj0
   have FIN : Hid (Rm p zb (fun z => ev xs z ^ N) r) := lk (MR.out.eq fun z => by simp)
   clear MR
   go_wp2
   go_ret2
   exact ⟨_, r, rfl, SR.out, FIN.out, GG.out⟩
  ·obtain ⟨i, hi⟩ : ∃ i, j = i + 1 := ⟨j - 1, by omega⟩
   have ej : (j : Int) - 1 = (i : Int) := by omega
   have ib : i ≤ 10000 := by omega
   have lr := MR.out.l
   have AB : Hid (a' ≤ 750000000000000) := lk (by have := HA.out; omega)
   have ML := lk (psqr_c hu wq p g I a' c' xv r PR.out.q (HD.out wq GG.out) (by have := AB.out; omega) SR.out (by omega))
   have HI := lk hi
   have t0 := PR.out.e
   clear hi
   go_wp2_with fail
   refine (ML.out).mono ?_
   rintro e w3 ⟨x3, a3, c3, rfl, ⟨z3, o3, n3, e3, l3⟩, q3, ha3, g3⟩
   have P3 := lk (PR.out.next g3 q3)
   have G3 := lk (jt GG.out g3)
   have GQ3 := lk (jt GQ.out g3)
   have D3 := lk (DMc.out w3 a3 c3 x3 z3 P3.out (by have := AB.out; omega) o3.sl G3.out (by omega))
   have E3 := lk e3
   have HA3 := lk ha3
   clear ML o3 n3 e3 l3 q3 ha3 g3 t0
   go_wp2_with fail
   refine (D3.out).mono ?_
   rintro e w4 ⟨vq, vr, err, a4, c4, rfl, dm, p4, ha4, g4⟩
   obtain ⟨rfl, zq, zs, -, ⟨o4, n4⟩, l4, -, e4⟩ := dm.some hp NB.out.1 NB.out.2 LB.out
   have G4 := lk (jt G3.out g4)
   have GQ4 := lk (jt GQ3.out g4)
   have S4 := lk o4.sl
   have P4 := lk p4
   have HA4 : Hid (a4 ≤ a' + 4010000000) := lk (by have := HA3.out; omega)
   have M4 := lk (Rm.mul MR.out.e MR.out.e E3.out e4 n4 l4)
   have B4 := lk (BT.out w4 G4.out i (by omega))
   have hb : N / 2 ^ i % 2 = 0 ∨ N / 2 ^ i % 2 = 1 := by omega
   clear D3 dm p4 ha4 o4 n4 l4 e4 g4 G3 GQ3 E3 P3 HA3
   rcases hb with hb | hb
   ·rw [hb] at B4
    have M5 : Hid (Rm p zb (fun z => ev xs z ^ (N / 2 ^ i)) zs) := lk (M4.out.eq fun z => by rw [pow_bit, hb, HI.out]; simp)
    clear hb M4
    go_wp2_with fail
    refine (B4.out).mono ?_
    rintro e w5 ⟨rfl, hw⟩
    subst hw
    go_wp2
    go_roundw
    case rel => exact ⟨i, zs, _, a4, c4, rfl, by go_num, by have := HI.out; omega, S4.out, M5.out, P4.out, by have := HA.out; have := HA4.out; have := HI.out; omega, GQ4.out⟩
    case measure => simp [intOf]; omega
   ·rw [hb] at B4
    go_wp2_with fail
    refine (B4.out).mono ?_
    rintro e w5 ⟨rfl, hw⟩
    subst hw
    obtain ⟨w4, rfl⟩ : ∃ w5' : World, w5' = w5 := ⟨_, rfl⟩
    have ls := M4.out.l
    have lx := MX.out.l
    have ML := lk (pemul_c hu w4 p g I a4 c4 vr r1 zs zx P4.out.q (HD.out w4 G4.out) (by have := AB.out; have := HA4.out; omega) S4.out (P2.out.q.sl SX2.out GQ4.out) (by omega))
    have HB := lk hb
    have t0 := P4.out.e
    clear B4 hb
    go_wp2_with fail
    refine (ML.out).mono ?_
    rintro e w6 ⟨x6, a6, c6, rfl, ⟨z6, o6, n6, e6, l6⟩, q6, ha6, g6⟩
    have P6 := lk (P4.out.next g6 q6)
    have G6 := lk (jt G4.out g6)
    have GQ6 := lk (jt GQ4.out g6)
    have D6 := lk (DMc.out w6 a6 c6 x6 z6 P6.out (by have := AB.out; have := HA4.out; omega) o6.sl G6.out (by omega))
    have E6 := lk e6
    have HA6 := lk ha6
    clear ML o6 n6 e6 l6 q6 ha6 g6 t0
    go_wp2_with fail
    refine (D6.out).mono ?_
    rintro e w7 ⟨vq7, vr7, err, a7, c7, rfl, dm, p7, ha7, g7⟩
    obtain ⟨rfl, zq7, zt, -, ⟨o7, n7⟩, l7, -, e7⟩ := dm.some hp NB.out.1 NB.out.2 LB.out
    have GQ7 := lk (jt GQ6.out g7)
    have S7 := lk o7.sl
    have P7 := lk p7
    have HA7 : Hid (a7 ≤ a' + 9000000000) := lk (by have := HA4.out; have := HA6.out; omega)
    have M7 : Hid (Rm p zb (fun z => ev xs z ^ (N / 2 ^ i)) zt) := lk ((Rm.mul M4.out.e MX.out.e E6.out e7 n7 l7).eq fun z => by
     show ev xs z ^ (N / 2 ^ i) = ev xs z ^ (N / 2 ^ j) * ev xs z ^ (N / 2 ^ j) * ev xs z
     rw [pow_bit (ev xs) N i z, HB.out, HI.out, Int.pow_succ (ev xs z) 0, Int.pow_zero, Int.one_mul])
    clear D6 dm p7 ha7 o7 n7 l7 e7 g7 E6 G6 GQ6 M4 P6 HA6
    go_wp2
    go_roundw
    case rel => exact ⟨i, zt, _, a7, c7, rfl, by go_num, by have := HI.out; omega, S7.out, M7.out, P7.out, by have := HA.out; have := HA7.out; have := HI.out; omega, GQ7.out⟩
    case measure => simp [intOf]; omega
theorem PdivPowers_walk (t : Tb) (k : Int) (va : Value) (al0 : List Int) (vn : Value) (nl0 : List Int) (vb : Value) (bl0 : List Int) (w : World) (hk : 0 ≤ k ∧ k < 18446744073709551616) (ha : Sl w va al0) (hn : Sl w vn nl0) (hb : Sl w vb bl0) (hd : Db w) :
  Calls Tryz.prog 14 #[t.v, .int .u64 k, va, vn, vb] w fun e w' => e = .returned (.bool true) ∧ w.grownBy w' none := by
 have C0 := cs_new w #[.int .i64 t.eb, .int .i64 t.et, .int .i64 t.en, .int .i64 t.ed, .int .i64 t.er, .int .i64 t.el, .int .i64 t.ex, .int .i64 t.ep, .int .i64 t.ek, .int .i64 t.es, .int .i64 t.ee] 23
 have hg := ju (jr w none) (Obj.cells #[.int .i64 t.eb, .int .i64 t.et, .int .i64 t.en, .int .i64 t.ed, .int .i64 t.er, .int .i64 t.el, .int .i64 t.ex, .int .i64 t.ep, .int .i64 t.ek, .int .i64 t.es, .int .i64 t.ee] 23)
 have HG := lk hg
 have HC0 := lk C0
 clear C0 hg
 have CA := lk (cut_c _ va al0 8 (by decide) (ha.grown0 HG.out))
 have CN := lk (cut_c _ vn nl0 2 (by decide) (hn.grown0 HG.out))
 have CB := lk (cut_c _ vb bl0 7 (by decide) (hb.grown0 HG.out))
 have EG := lk (fun w1 h => engine25_c w1 t k hk h)
 have HD := lk hd
 clear ha hn hb hd
 go_enter Tryz.func14, Tryz.ntmps14
 go_wp2_with fail
 refine (CA.out).mono ?_
 rintro e w1 ⟨u, rfl, s1, hw⟩
 subst hw
 go_wp2_with fail
 refine (CN.out).mono ?_
 rintro e w1 ⟨n, rfl, s3, hw⟩
 subst hw
 go_wp2_with fail
 refine (CB.out).mono ?_
 rintro e w1 ⟨v, rfl, s2, hw⟩
 subst hw
 have LA := cut_len al0 8
 have LN := cut_len nl0 2
 have LB := cut_len bl0 7
 obtain ⟨xs, hxs⟩ : ∃ xs, xs = al0.take 8 := ⟨_, rfl⟩
 obtain ⟨ns, hns⟩ : ∃ xs, xs = nl0.take 2 := ⟨_, rfl⟩
 obtain ⟨ys, hys⟩ : ∃ xs, xs = bl0.take 7 := ⟨_, rfl⟩
 rw [← hxs] at s1 LA
 rw [← hns] at s3 LN
 rw [← hys] at s2 LB
 have S1 := lk s1
 have S2 := lk s2
 have S3 := lk s3
 have E1 := lk (EG.out _ (HD.out.grown0 HG.out))
 clear s1 s2 s3 CA CB CN hxs hys hns
 have c0 := HC0.out.cell 0 rfl
 have c1 := HC0.out.cell 1 rfl
 have c2 := HC0.out.cell 2 rfl
 have c3 := HC0.out.cell 3 rfl
 have c4 := HC0.out.cell 4 rfl
 have c5 := HC0.out.cell 5 rfl
 have c6 := HC0.out.cell 6 rfl
 have c7 := HC0.out.cell 7 rfl
 have c8 := HC0.out.cell 8 rfl
 have c9 := HC0.out.cell 9 rfl
 have c10 := HC0.out.cell 10 rfl
 go_wp2_with fail
 refine (E1.out).mono ?_
 rintro e w2 ⟨p, d, g, I, rfl, pm, hpk, pq, hg, g2⟩
 clear c0 c1 c2 c3 c4 c5 c6 c7 c8 c9 c10
 have G2 := lk (jt HG.out g2)
 have PQ := lk pq
 have HI := lk (Nat.le_trans HG.out.size hg)
 have HPR := lk (pri12 p hpk.1)
 have HFL := lk (fld hpk.1)
 have T1 := lk (S1.out.grown0 g2)
 have T2 := lk (S2.out.grown0 g2)
 have T3 := lk (S3.out.grown0 g2)
 obtain ⟨P, hP⟩ : ∃ P : Int, P = (p : Int) := ⟨_, rfl⟩
 have PB : Hid (3 ≤ P ∧ P < 4611686018427387904) := lk (by rw [hP]; exact ⟨pm.lo, pm.hi⟩)
 have P0 : Hid (0 < P) := lk (by have := PB.out; omega)
 have HPP := lk hP
 rw [← hP] at HFL PQ ⊢
 have WK := lk (fun w11 (k : w.grownBy w11 none) => wakes25_c w11 (HD.out.grown0 k))
 obtain ⟨zb, nzb, ezb⟩ := nf_exists P0.out (isP_ev ys)
 have NB := lk (And.intro nzb ezb)
 have llb := nf_len P0.out nzb ezb
 obtain ⟨A, cA, rfl, _, _⟩ := T2.out.form
 clear pm pq hg g2 E1 EG HC0 S1 S2 S3 hpk hP nzb ezb
 obtain ⟨m, hm⟩ : ∃ n, n = ys.length := ⟨_, rfl⟩
 have LM := lk hm
 rw [← hm] at T2 llb LB ⊢
 clear hm
 by_cases h0 : zb.length = 0
 ·have hz : zb = [] := List.length_eq_zero_iff.1 h0
  subst hz
  have PW := lk (pdpow0_c t.clamp_ok P HFL.out d g I w2 0 _ u n (.slice A m cA) xs ys PQ.out (HD.out.grown0 G2.out) (by decide) T1.out T2.out (by omega) (by have := LM.out; omega) NB.out.2)
  clear h0
  go_wp2_with fail
  refine (PW.out).mono ?_
  rintro e w3 ⟨rfl, g3⟩
  have G3 := lk (gb_new G2.out g3 (fun i hi => by cases hi; exact HI.out))
  have DG := lk (rDeg_c w3 (.slice A m cA) ys P P0.out PB.out.2 (PQ.out.q.sl T2.out g3) (by have := LM.out; omega))
  clear PW g3
  go_wp2_with fail
  refine (DG.out).mono ?_
  rintro e w4 ⟨zb, rfl, nb, eb, lb, g4⟩
  obtain rfl := nb.one NB.out.1 P0.out eb NB.out.2
  have G4 := lk (jt G3.out g4)
  clear DG nb eb g4
  go_wp2_with fail
  refine (WK.out _ G4.out).mono ?_
  rintro e w5 ⟨rfl, g5⟩
  go_wp2
  go_ret
  exact ⟨rfl, jt G4.out g5⟩
 ·have lb0 : 0 < zb.length := by omega
  have PW := lk (pdpow_c t.clamp_ok P HFL.out d g I w2 0 _ u n (.slice A m cA) xs ns ys zb PQ.out (HD.out.grown0 G2.out) (by decide) T1.out T3.out T2.out (by omega) (by omega) (by have := LM.out; omega) NB.out.1 NB.out.2 lb0 (by have := LM.out; omega))
  go_wp2_with fail
  refine (PW.out).mono ?_
  rintro e w3 ⟨x3, r, rfl, s3, m3, g3⟩
  have G3 := lk (gb_new G2.out g3 (fun i hi => by cases hi; exact HI.out))
  have S3 := lk s3
  have M3 := lk m3
  have U1 := lk (PQ.out.q.sl T1.out g3)
  have U2 := lk (PQ.out.q.sl T2.out g3)
  have U3 := lk (PQ.out.q.sl T3.out g3)
  have DG := lk (rDeg_c w3 (.slice A m cA) ys P P0.out PB.out.2 U2.out (by have := LM.out; omega))
  clear PW g3 s3 m3 T1 T2 T3 PQ
  go_wp2_with fail
  refine (DG.out).mono ?_
  rintro e w4 ⟨yb, rfl, nb, eb, lb, g4⟩
  obtain rfl := nb.one NB.out.1 P0.out eb NB.out.2
  have G4 := lk (jt G3.out g4)
  have RP := lk (rPowMod_c w4 u n (.slice A m cA) xs ns ys yb P PB.out.1 PB.out.2 HFL.out (U1.out.grown0 g4) (U3.out.grown0 g4) (U2.out.grown0 g4) (by omega) (by omega) (by have := LM.out; omega) NB.out.1 NB.out.2 lb0 (by have := LM.out; omega))
  have S4 := lk (S3.out.grown0 g4)
  obtain ⟨l, hl⟩ : ∃ n, n = yb.length := ⟨_, rfl⟩
  rw [← hl] at lb0 h0 ⊢
  clear DG nb eb g4 U1 U2 U3 S3 hl llb
  go_wp2_with fail
  refine (RP.out).mono ?_
  rintro e w5 ⟨x5, r', rfl, s5, m5, g5⟩
  have e5 : r = r' := by
   have k1 := NB.out.1
   have k2 := M3.out
   rw [HPP.out] at k1 k2 m5
   exact k2.one HPR.out k1 m5
  subst e5
  have SM := lk (same_c w5 x3 x5 r r (S4.out.grown0 g5) s5)
  rw [decide_eq_true rfl] at SM
  have G5 := lk (jt G4.out g5)
  clear RP s5 m5 g5 S4
  go_wp2_with fail
  refine (SM.out).mono ?_
  rintro e w6 ⟨rfl, g6⟩
  have G6 := lk (jt G5.out g6)
  clear SM g6
  go_wp2_with fail
  refine (WK.out _ G6.out).mono ?_
  rintro e w7 ⟨rfl, g7⟩
  go_wp2
  go_ret
  exact ⟨rfl, jt G6.out g7⟩
end Go.Proofs.YtimmpojeddcfnaaGreatDoor
