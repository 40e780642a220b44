/- Contracts of the program's functions, and plain laws (Limb4, DigM, Conv5, Conv6, Conv7, Conv8, Keep3, School1, Kara1, DigS, Limb5, Kara2, DigT, Toom1, Toom2, Toom3, Toom4, Toom5, Kara3), for every input that their premises let in. -/
import Derived.Test.YtgalbnkcijmnnaaGreatDoorY2
import Derived.Laws.Bits64b
set_option maxRecDepth 100000
set_option maxHeartbeats 8000000
namespace Go.Proofs.YtgalbnkcijmnnaaGreatDoor
open Go.RowKit
theorem lwithin_c (w : World) (n m : Nat) (h : n ≤ m) : Calls Tryz.prog 185 #[.int .i64 n, .int .i64 m] w fun e w' => e = .returned (.int .i64 n) ∧ w' = w := by
 rcases Nat.eq_zero_or_pos n with rfl | hp
 ·go_enter Tryz.func185, Tryz.ntmps185
  go_wp2
  all_goals go_ret
  all_goals exact ⟨rfl, rfl⟩
 ·go_enter Tryz.func185, Tryz.ntmps185
  go_wp2
  all_goals go_ret
  all_goals exact ⟨rfl, rfl⟩
theorem ljoin_c (w : World) (k n : Nat) (v : Value) (V : Nat → Value) (X : Nat → List Int) (h : Pts w v n V X) (hk : k ≤ 16384) (hn : n ≤ 10000) (hl : ∀ j, j < n → (X j).length ≤ 100000) :
  Calls Tryz.prog 163 #[.int .i64 k, v] w fun e w' => ∃ x, e = .returned x ∧ Wo w' w.heap.size x (jS k (fun j => val B64 (X j)) n) ∧ w.grownBy w' none := by
 obtain ⟨A, cc, rfl, hc1, hc2, _⟩ := h.c
 have LW : Calls Tryz.prog 185 #[.int .i64 k, .int .i64 16384] w fun e w' => e = .returned (.int .i64 k) ∧ w' = w := lwithin_c w k 16384 hk
 obtain ⟨Y, hY⟩ : ∃ Y : Nat → List Int, Y = fun j => trimZ (X j) := ⟨_, rfl⟩
 have yl : ∀ j, (Y j).length = (trimZ (X j)).length := fun j => by rw [hY]
 have yw : ∀ j, j < n → Ws (Y j) := fun j hj => by rw [hY]; show Ws (trimZ (X j)); rw [← take_trimZ_len]; exact ws_take (h.s j hj).ws _
 have yv : jS k (fun j => val B64 (Y j)) n = jS k (fun j => val B64 (X j)) n := jS_congr n fun j _ => by rw [hY]; exact val_trimZ _ _
 have HLW := lk LW
 have HP := lk h
 have HL := lk hl
 have YL := lk yl
 have YW := lk yw
 have YV := lk yv
 have HY := lk hY
 clear h hl LW yl yw yv hY
 go_enter Tryz.func163, Tryz.ntmps163
 go_wp2_with fail
 refine (HLW.out).mono ?_
 rintro e w1 ⟨rfl, hw1⟩
 subst hw1
 go_wp2
 go_loopw [5, 19] (fun v5 v19 wr => ∃ (i N : Nat), v5 = .int .i64 N ∧ v19 = .int .i64 i ∧ i ≤ n ∧ N ≤ 163840000 + 100000 ∧ (∀ j, j < i → 0 < (Y j).length → k * j + (Y j).length ≤ N) ∧ wr = w1) (fun _ v19 _ => n - (intOf v19).toNat)
 case atStart => exact ⟨0, 0, rfl, rfl, by omega, by omega, fun j hj => by omega, rfl⟩
 case round =>
  obtain ⟨i, N, rfl, rfl, hi, hN, hm, rfl⟩ := hrel
  have HM := lk hm
  clear hm
  by_cases hin : i < n
  ·obtain ⟨b, o, rfl, cv⟩ := HP.out.at i hin
   have sv := HP.out.s i hin
   obtain ⟨Ai, ci, ev, hi1, hi2⟩ := sv.form
   have NL := nlen_c wr _ _ sv
   have hT := trimZ_len (X i)
   have hXi := HL.out i hin
   rw [ev] at cv NL
   obtain ⟨ln, hln⟩ : ∃ l, l = (X i).length := ⟨_, rfl⟩
   rw [← hln] at cv NL hT hXi hi1
   have eT := YL.out i
   obtain ⟨T, hTT⟩ : ∃ T, T = (trimZ (X i)).length := ⟨_, rfl⟩
   rw [← hTT] at NL hT eT
   have ET := lk eT
   have HNL := lk NL
   have eK : (k : Int) * (i : Int) = ((k * i : Nat) : Int) := (Int.natCast_mul _ _).symm
   have hKb : k * i ≤ 16384 * 10000 := Nat.mul_le_mul hk (by omega)
   obtain ⟨K, hK⟩ : ∃ K, K = k * i := ⟨_, rfl⟩
   rw [← hK] at eK hKb
   have HK := lk hK
   have nx : ∀ N', N ≤ N' → (0 < T → K + T ≤ N') → ∀ j, j < i + 1 → 0 < (Y j).length → k * j + (Y j).length ≤ N' := fun N' h1 h2 j hj h3 => by
    by_cases e : j = i
    ·subst e; rw [ET.out] at h3 ⊢; rw [← HK.out]; exact h2 h3
    ·exact Nat.le_trans (HM.out j (by omega) h3) h1
   have NX := lk nx
   clear hln hTT hK sv ev NL eT nx
   go_wp2_with fail
   refine (HNL.out).mono ?_
   rintro e w2 ⟨rfl, hw2⟩
   subst hw2
   by_cases hT0 : 0 < T
   ·by_cases hmx : N < K + T
    ·have em : max (N : Int) ((K : Int) + (T : Int)) = ((K + T : Nat) : Int) := by omega
     go_wp2
     go_roundw
     case rel => exact ⟨i + 1, K + T, by first | rfl | (congr 1; omega), by go_num, by omega, by omega, NX.out _ (by omega) (fun _ => Nat.le_refl _), by trivial⟩
     case measure => simp [intOf]; omega
    ·have em : max (N : Int) ((K : Int) + (T : Int)) = (N : Int) := by omega
     go_wp2
     go_roundw
     case rel => exact ⟨i + 1, N, by first | rfl | (congr 1; omega), by go_num, by omega, by omega, NX.out _ (by omega) (fun _ => by omega), by trivial⟩
     case measure => simp [intOf]; omega
   ·obtain rfl : T = 0 := by omega
    go_wp2
    go_roundw
    case rel => exact ⟨i + 1, N, rfl, by go_num, by omega, by omega, NX.out _ (by omega) (fun h => by omega), by trivial⟩
    case measure => simp [intOf]; omega
  ·obtain rfl : i = n := by omega
   clear hi hin
   obtain ⟨wo, rfl⟩ : ∃ wo : World, wo = wr := ⟨_, rfl⟩
   have mk := make64 184 (by kernel_rfl) (N + 2) (N + 2) ((N : Int) + 2) ((N : Int) + 2) (by omega) (by omega) (by omega) (by omega)
   have OW := lk (own_made wo wo.heap.size (N + 2) (N + 2) (Nat.le_refl _) (by omega) (by omega))
   have G0 := lk (ju (jr wo none) (Obj.cells (madeCells #[.int .u64 0] (N + 2)) 24))
   go_wp2
   clear mk
   go_loopw [41] (fun v41 ws => ∃ (j : Nat) (os : List Int), v41 = .int .i64 j ∧ j ≤ i ∧ JnO k Y N j os ∧ Own ws wo.heap.size (.slice (some ⟨wo.heap.size, 0, none⟩) (N + 2) (N + 2)) os ∧ wo.grownBy ws none) (fun v41 _ => i - (intOf v41).toNat)
   case atStart => exact ⟨0, _, rfl, by omega, JnO.start _ _ _, OW.out, G0.out⟩
   case round =>
    clear OW G0
    obtain ⟨j, os, rfl, hj, jo, ow, G⟩ := hrel
    have JO := lk jo
    have OS := lk ow
    have GG := lk G
    clear jo ow G
    by_cases hjn : j < i
    ·obtain ⟨b, o, rfl, cv⟩ := (HP.out.grown0 GG.out).at j hjn
     have s2 := HP.out.s j hjn
     obtain ⟨Ai, ci, ev, hi1, hi2⟩ := s2.form
     rw [ev] at cv s2
     have TR := ltrim_c _ _ _ _ _ (s2.grown0 GG.out)
     have s3 := s2.take (trimZ (X j)).length (trimZ_len _)
     rw [take_trimZ_len] at s3
     have eY : trimZ (X j) = Y j := by rw [HY.out]
     rw [eY] at TR s3
     obtain ⟨T, hT⟩ : ∃ T, T = (Y j).length := ⟨_, rfl⟩
     have hTl : T ≤ (X j).length := by rw [hT, ← eY]; exact trimZ_len _
     have hXj := HL.out j hjn
     rw [← hT] at TR s3
     have HT := lk hT
     have HTR := lk TR
     have S3 := lk s3
     have eK : (k : Int) * (j : Int) = ((k * j : Nat) : Int) := (Int.natCast_mul _ _).symm
     have hKb : k * j ≤ 16384 * 10000 := Nat.mul_le_mul hk (by omega)
     obtain ⟨K, hK⟩ : ∃ K, K = k * j := ⟨_, rfl⟩
     rw [← hK] at eK hKb
     have HK := lk hK
     obtain ⟨ln, hln⟩ : ∃ l, l = (X j).length := ⟨_, rfl⟩
     rw [← hln] at cv HTR hTl hXj hi1
     clear hT hK ev TR s3 s2 hln eY
     go_wp2_with fail
     refine (HTR.out).mono ?_
     rintro e w2 ⟨rfl, hw2⟩
     subst hw2
     go_wp2
     go_loopw [12, 13] (fun v12 v13 wt => ∃ (q : Nat) (c : Int) (os : List Int), v12 = .int .u64 c ∧ v13 = .int .i64 q ∧ q ≤ N + 2 ∧ JnI k Y N j q c os ∧ Own wt wo.heap.size (.slice (some ⟨wo.heap.size, 0, none⟩) (N + 2) (N + 2)) os ∧ wo.grownBy wt none) (fun _ v13 _ => N + 3 - (intOf v13).toNat)
     case atStart => exact ⟨0, 0, os, rfl, rfl, by omega, JO.out.inner, OS.out, GG.out⟩
     case round =>
      clear JO OS
      obtain ⟨q, c, os, rfl, rfl, hq, ji, ow, G⟩ := hrel
      have JI := lk ji
      have OS := lk ow
      have GI := lk G
      have c0 := ji.c0
      have c1 := ji.c1
      clear ji ow G
      by_cases hgo : q < T ∨ 0 < c
      ·have hix := JI.out.idx hjn (by omega) YW.out HM.out (by rw [← HT.out]; exact hgo)
       rw [← HK.out] at hix
       obtain ⟨x, hx⟩ : ∃ x, x = rd (Y j) q := ⟨_, rfl⟩
       obtain ⟨y, hy⟩ : ∃ y, y = rd os (K + q) := ⟨_, rfl⟩
       have bx : 0 ≤ x ∧ x < 18446744073709551616 := by rw [hx]; exact rd_w (YW.out j hjn) q
       have bY : 0 ≤ y ∧ y < 18446744073709551616 := by rw [hy]; exact rd_w JI.out.ws _
       have ST := lk (JI.out.step (YW.out j hjn) (by rw [← HK.out]; exact hix) hx (s := y + x + c) (by rw [← HK.out, hy]))
       rw [← HK.out] at ST
       have A1 := add64_run y x c bY.1 bx.1 c0 c1
       have fr := OS.out.free (K + q)
       have ce := OS.out.cell (K + q) (by rw [JI.out.len]; exact hix)
       rw [← hy] at ce
       have d0 := Int.emod_nonneg (y + x + c) (show (18446744073709551616 : Int) ≠ 0 by decide)
       have d1 := Int.emod_lt_of_pos (y + x + c) (show (0 : Int) < 18446744073709551616 by decide)
       obtain ⟨d, hd⟩ : ∃ d, d = (y + x + c) % 18446744073709551616 := ⟨_, rfl⟩
       obtain ⟨r, hr⟩ : ∃ q, q = (y + x + c) / 18446744073709551616 := ⟨_, rfl⟩
       rw [← hd, ← hr] at A1 ST
       rw [← hd] at d0 d1
       clear hd hr hy
       by_cases hqT : q < T
       ·obtain ⟨bB, oB, rfl, cB⟩ := ((S3.out.grown0 GI.out).at q (by rw [← HT.out]; exact hqT))
        rw [← hx] at cB
        clear hx hgo
        go_wp2
        go_roundw
        case rel => exact ⟨q + 1, r, _, rfl, by go_num, by omega, ST.out, OS.out.store _ d0 d1, gb_set (p := ⟨wo.heap.size, K + q, none⟩) GI.out (Nat.le_refl _) _⟩
        case measure => simp [intOf]; omega
       ·have x0 : x = 0 := by rw [hx]; exact rd_beyond (by rw [← HT.out]; omega)
        have cp : 0 < c := by omega
        subst x0
        clear hx hgo
        go_wp2
        go_roundw
        case rel => exact ⟨q + 1, r, _, rfl, by go_num, by omega, ST.out, OS.out.store _ d0 d1, gb_set (p := ⟨wo.heap.size, K + q, none⟩) GI.out (Nat.le_refl _) _⟩
        case measure => simp [intOf]; omega
      ·obtain rfl : c = 0 := by omega
       have hqT : ¬ q < T := by omega
       have LA := lk (JI.out.last (by rw [← HT.out]; omega))
       clear hgo
       go_wp2
       go_roundw
       case rel => exact ⟨j + 1, _, by go_num, by omega, LA.out, OS.out, GI.out⟩
       case measure => simp [intOf]; omega
    ·obtain rfl : j = i := by omega
     have TR := lk (ltrim_c wr _ _ _ os OS.out.sl)
     have EV := lk (JO.out.v.trans YV.out)
     go_wp2_with fail
     refine (TR.out).mono ?_
     rintro e w3 ⟨rfl, hw3⟩
     have O3 := lk (OS.out.take (trimZ os).length (trimZ_len _))
     rw [← hw3] at O3 GG
     clear hw3
     go_wp2
     go_ret
     refine ⟨.slice (some ⟨wo.heap.size, 0, none⟩) (trimZ os).length (N + 2), rfl, ⟨_, O3.out, by rw [take_trimZ_len]; exact trimZ_nz _, ?_⟩, GG.out⟩
     rw [take_trimZ_len, val_trimZ]
     exact EV.out
theorem lsum_c (w : World) (n : Nat) (v : Value) (V : Nat → Value) (X : Nat → List Int) (h : Pts w v n V X) (hn : n ≤ 10000) (hl : ∀ j, j < n → (X j).length ≤ 100000) :
  Calls Tryz.prog 190 #[v] w fun e w' => ∃ x, e = .returned x ∧ Wo w' w.heap.size x (jS 0 (fun j => val B64 (X j)) n) ∧ w.grownBy w' none := by
 have J : Calls Tryz.prog 163 #[.int .i64 0, v] w fun e w' => ∃ x, e = .returned x ∧ Wo w' w.heap.size x (jS 0 (fun j => val B64 (X j)) n) ∧ w.grownBy w' none := ljoin_c w 0 n v V X h (by decide) hn hl
 obtain ⟨A, cc, rfl, _⟩ := h.c
 have HJ := lk J
 clear J h hl
 go_enter Tryz.func190, Tryz.ntmps190
 go_wp2_with fail
 refine (HJ.out).mono ?_
 rintro e w1 ⟨x, rfl, k⟩
 have KK := lk k
 clear k
 go_wp2
 go_ret
 exact ⟨x, rfl, KK.out⟩
structure PmO (xs ys os : List Int) (n m i : Nat) : Prop where
 len : os.length = n + m
 ws : Ws os
 z : ∀ k, i + m ≤ k → rd os k = 0
 v : val 18446744073709551616 os = val 18446744073709551616 (xs.take i) * val 18446744073709551616 ys
structure PmI (xs ys os : List Int) (n m i j : Nat) (x c : Int) : Prop where
 c0 : 0 ≤ c
 c1 : c < 18446744073709551616
 len : os.length = n + m
 ws : Ws os
 z : ∀ k, i + m ≤ k → rd os k = 0
 v : val 18446744073709551616 os + 18446744073709551616 ^ (i + j) * c.toNat = val 18446744073709551616 (xs.take i) * val 18446744073709551616 ys + 18446744073709551616 ^ i * (x.toNat * val 18446744073709551616 (ys.take j))
theorem rd_zeros (n j : Nat) : rd (List.replicate n 0) j = 0 := by unfold rd; rw [List.getD_eq_getElem?_getD, List.getElem?_replicate]; split <;> rfl
theorem PmO.start (xs ys : List Int) (n m : Nat) : PmO xs ys (List.replicate (n + m) 0) n m 0 := ⟨List.length_replicate, ws_replicate _, fun k _ => rd_zeros _ _, by rw [val_replicate]; simp [val]⟩
theorem PmO.inner {xs ys os : List Int} {n m i : Nat} (h : PmO xs ys os n m i) (x : Int) : PmI xs ys os n m i 0 x 0 := ⟨by decide, by decide, h.len, h.ws, h.z, by rw [h.v]; simp [val]⟩
theorem pm_arith {V V' P q t o c x y A : Nat} (hs : V' + P * o = V + P * q) (hv : V + P * c = A) (k : q + 18446744073709551616 * t = o + x * y + c) : V' + P * 18446744073709551616 * t = A + P * (x * y) := by
 have h := congrArg (P * ·) k
 simp only [Nat.mul_add] at h
 rw [Nat.mul_assoc P 18446744073709551616 t]
 omega
theorem pm_words {o x y c P hi lo s d1 h1 r d2 : Int} (ho : 0 ≤ o ∧ o < 18446744073709551616) (hx : 0 ≤ x ∧ x < 18446744073709551616) (hy : 0 ≤ y ∧ y < 18446744073709551616) (hc : 0 ≤ c ∧ c < 18446744073709551616)
  (eP : P = x * y) (ehi : hi = P / 18446744073709551616) (elo : lo = P % 18446744073709551616) (es : s = (lo + c) % 18446744073709551616) (ed1 : d1 = (lo + c) / 18446744073709551616) (eh1 : h1 = hi + d1) (er : r = (o + s) % 18446744073709551616) (ed2 : d2 = (o + s) / 18446744073709551616) :
  (0 ≤ hi ∧ hi < 18446744073709551615) ∧ (0 ≤ lo ∧ lo < 18446744073709551616) ∧ (0 ≤ s ∧ s < 18446744073709551616) ∧ (0 ≤ d1 ∧ d1 ≤ 1) ∧ (0 ≤ h1 ∧ h1 < 18446744073709551616) ∧ (0 ≤ r ∧ r < 18446744073709551616) ∧ (0 ≤ d2 ∧ d2 ≤ 1) ∧ (0 ≤ h1 + d2 ∧ h1 + d2 < 18446744073709551616) ∧ r + 18446744073709551616 * (h1 + d2) = o + x * y + c := by
 have b0 : 0 ≤ P := by rw [eP]; exact Int.mul_nonneg hx.1 hy.1
 have b1 : P ≤ 340282366920938463426481119284349108225 := by
  have := Int.mul_le_mul (show x ≤ 18446744073709551615 by omega) (show y ≤ 18446744073709551615 by omega) hy.1 (by decide)
  rw [eP]; omega
 rw [← eP]
 omega
theorem PmI.step {xs ys os : List Int} {n m i j : Nat} {x y c r c' : Int} (h : PmI xs ys os n m i j x c) (hx : 0 ≤ x) (hy : Ws ys) (hi : i < n) (hj : j < m) (ey : y = rd ys j) (br : 0 ≤ r ∧ r < 18446744073709551616) (bc : 0 ≤ c' ∧ c' < 18446744073709551616)
  (e : r + 18446744073709551616 * c' = rd os (i + j) + x * y + c) : PmI xs ys (os.set (i + j) r) n m i (j + 1) x c' := by
 have y0 := rd_w hy j
 rw [← ey] at y0
 have o0 := rd_w h.ws (i + j)
 have c0 := h.c0
 have hk : i + j < os.length := by rw [h.len]; omega
 refine ⟨bc.1, bc.2, by rw [List.length_set, h.len], ws_set h.ws _ br.1 br.2, fun k hk => by rw [rd_set_ne (by omega)]; exact h.z k hk, ?_⟩
 have hv := val_set 18446744073709551616 hk r
 rw [val_take_any 18446744073709551616 ys j, ← ey, ← Nat.add_assoc i j 1, Nat.pow_succ, Nat.mul_add x.toNat, Nat.mul_add (18446744073709551616 ^ i), ← Nat.add_assoc]
 have e2 : 18446744073709551616 ^ i * (x.toNat * (18446744073709551616 ^ j * y.toNat)) = 18446744073709551616 ^ (i + j) * (x.toNat * y.toNat) := by
  rw [Nat.pow_add, Nat.mul_left_comm x.toNat, Nat.mul_assoc]
 rw [e2]
 refine pm_arith hv h.v ?_
 have exy : ((x.toNat * y.toNat : Nat) : Int) = x * y := by rw [Int.natCast_mul, Int.toNat_of_nonneg hx, Int.toNat_of_nonneg y0.1]
 omega
theorem PmI.last {xs ys os : List Int} {n m i : Nat} {x c : Int} (h : PmI xs ys os n m i m x c) (hi : i < n) (hy : ys.length ≤ m) (ex : x = rd xs i) : PmO xs ys (os.set (i + m) c) n m (i + 1) := by
 have c0 := h.c0
 have c1 := h.c1
 have hk : i + m < os.length := by rw [h.len]; omega
 refine ⟨by rw [List.length_set, h.len], ws_set h.ws _ c0 c1, fun k hk => by rw [rd_set_ne (by omega)]; exact h.z k (by omega), ?_⟩
 have hv := val_set 18446744073709551616 hk c
 rw [h.z (i + m) (Nat.le_refl _)] at hv
 have e0 : (0 : Int).toNat = 0 := rfl
 rw [e0, Nat.mul_zero, Nat.add_zero] at hv
 have e := h.v
 rw [List.take_of_length_le hy] at e
 rw [hv, e, val_take_any 18446744073709551616 xs i, ← ex, Nat.add_mul, Nat.mul_assoc]
theorem PmO.last {xs ys os : List Int} {n m : Nat} (h : PmO xs ys os n m n) (hx : xs.length ≤ n) : val 18446744073709551616 os = val 18446744073709551616 xs * val 18446744073709551616 ys := by
 have := h.v
 rw [List.take_of_length_le hx] at this
 exact this
theorem convLog_c (w : World) (S : Nat) (h1 : 1 ≤ S) (h2 : S ≤ 1000000) : Calls Tryz.prog 130 #[.int .i64 S] w fun e w' => e = .returned (.int .i64 (blen (S - 1))) ∧ w' = w := by
 obtain ⟨M, hM⟩ : ∃ M : Int, M = (S : Int) - 1 := ⟨_, rfl⟩
 have eM : (S : Int) - 1 = M := hM.symm
 have hw : IntKind.u64.wrap M = M := by rw [IntKind.wrap_u64]; omega
 have T := fun w => len64_c M (by omega) (by omega) w
 rw [show M.toNat = S - 1 by omega] at T
 obtain ⟨B, hB⟩ : ∃ B, B = blen (S - 1) := ⟨_, rfl⟩
 rw [← hB] at T ⊢
 have HT := lk T
 have b0 : 0 ≤ M ∧ M < 1000000 := by omega
 clear T hM hB
 go_enter Tryz.func130, Tryz.ntmps130
 go_wp2_with fail
 refine (HT.out _).mono ?_
 rintro e w1 ⟨rfl, hw1⟩
 subst hw1
 go_wp2
 go_ret
 exact ⟨rfl, rfl⟩
theorem Own3.mono {w : World} {base base' n : Nat} {v : Value} {xs : List Int} (h : Own3 w base v n xs) (hb : base' ≤ base) : Own3 w base' v n xs := by
 refine ⟨⟨h.1.1, ?_⟩, h.2⟩
 rcases h.1.2 with h1 | ⟨g, cap, cur, hv, hg, r⟩
 ·exact .inl h1
 ·exact .inr ⟨g, cap, cur, hv, Nat.le_trans hb hg, r⟩
theorem Own3.cell3 {w : World} {base g n c : Nat} {xs : List Int} (h : Own3 w base (.slice (some ⟨g, 0, none⟩) n c) n xs) (i : Nat) (hi : i < n) (k : Nat) (hk : k < 3) : w.cell? ⟨g, i * 3 + k, none⟩ = some (.int .u64 (rd xs (i * 3 + k))) := by
 rw [World.ownsRow.cellAt h.1 (i * 3 + k) (by omega), nums_get (by rw [h.2.2]; omega)]
theorem Own3.free3 {w : World} {base g n c : Nat} {xs : List Int} (h : Own3 w base (.slice (some ⟨g, 0, none⟩) n c) n xs) (j : Nat) : w.frozen? ⟨g, j, none⟩ = false := World.ownsRow.frozenAt h.1 j
structure LJ (w : World) (base gl n : Nat) (F : Nat → Int) (k : Nat) : Prop where
 fr : ∀ i, i < 3 → w.frozen? ⟨gl, i, none⟩ = false
 ce : ∀ i, i < 3 → ∃ v, w.cell? ⟨gl, i, none⟩ = some v
 v : ∀ i, i < k → ∃ g cs n' cp, n ≤ n' ∧ w.cell? ⟨gl, i, none⟩ = some (.slice (some ⟨g, 0, none⟩) n' cp) ∧ Own w base (.slice (some ⟨g, 0, none⟩) n' cp) cs ∧ gl ≠ g ∧ (∀ j, j < n → rd cs j = F j % ((pr3 i : Nat) : Int))
theorem LJ.grown {w w' : World} {base gl n k gm : Nat} {F : Nat → Int} (h : LJ w base gl n F k) (hb : gm < base) (hl : base ≤ gl) (g : w.grownBy w' (some gm)) : LJ w' base gl n F k := by
 have hne : some gl ≠ some gm := by simp; omega
 refine ⟨fun i hi => ?_, fun i hi => ?_, fun i hi => ?_⟩
 ·obtain ⟨v, hv⟩ := h.ce i hi
  have hb := g.block gl (World.block_lt_of_cell? w _ hv) hne
  exact (World.frozen?_of_block hb).trans (h.fr i hi)
 ·obtain ⟨v, hv⟩ := h.ce i hi
  exact ⟨v, gb_cell g hv hne⟩
 ·obtain ⟨g1, cs, n', cp, h0, h1, h2, h3, h4⟩ := h.v i hi
  exact ⟨g1, cs, n', cp, h0, gb_cell g h1 hne, h2.past g (by have := h2.base_le.1; omega), h3, h4⟩
theorem LJ.grown0 {w w' : World} {base gl n k : Nat} {F : Nat → Int} (h : LJ w base gl n F k) (g : w.grownBy w' none) : LJ w' base gl n F k := by
 refine ⟨fun i hi => ?_, fun i hi => ?_, fun i hi => ?_⟩
 ·obtain ⟨v, hv⟩ := h.ce i hi
  have hb := g.block gl (World.block_lt_of_cell? w _ hv) (by simp)
  exact (World.frozen?_of_block hb).trans (h.fr i hi)
 ·obtain ⟨v, hv⟩ := h.ce i hi
  exact ⟨v, gb_cell0 g hv⟩
 ·obtain ⟨g1, cs, n', cp, h0, h1, h2, h3, h4⟩ := h.v i hi
  exact ⟨g1, cs, n', cp, h0, gb_cell0 g h1, h2.grown0 g, h3, h4⟩
theorem LJ.step {w : World} {base gl n n' k g cp : Nat} {F : Nat → Int} {cs : List Int} (h : LJ w base gl n F k) (hk : k < 3) (hn' : n ≤ n') (ow : Own w base (.slice (some ⟨g, 0, none⟩) n' cp) cs) (hne : gl ≠ g) (hv : ∀ j, j < n → rd cs j = F j % ((pr3 k : Nat) : Int)) :
  LJ (w.setCell ⟨gl, k, none⟩ (.slice (some ⟨g, 0, none⟩) n' cp)) base gl n F (k + 1) := by
 have G := gb_rowC (jr w (some gl)) k (.slice (some ⟨g, 0, none⟩) n' cp)
 obtain ⟨v0, hv0⟩ := h.ce k hk
 refine ⟨fun i hi => by rw [World.frozen?_setCell]; exact h.fr i hi, fun i hi => ?_, fun i hi => ?_⟩
 ·by_cases e : k = i
  ·subst e; exact ⟨_, World.cell?_setCell_same _ _ _ hv0⟩
  ·obtain ⟨v, hv⟩ := h.ce i hi
   exact ⟨v, (cell_ne _ _ _ _ _ e).trans hv⟩
 ·by_cases e : k = i
  ·subst e; exact ⟨g, cs, n', cp, hn', World.cell?_setCell_same _ _ _ hv0, ow.past G (Ne.symm hne), hne, hv⟩
  ·obtain ⟨g1, cs1, n1, cp1, h0, h1, h2, h3, h4⟩ := h.v i (by omega)
   exact ⟨g1, cs1, n1, cp1, h0, (cell_ne _ _ _ _ _ e).trans h1, h2.past G (Ne.symm h3), h3, h4⟩
theorem crt_cell {w : World} {g : Nat} {i01 i2 hi lo : Int} (h : Crt w g ((pr3 0 : Nat) : Int) ((pr3 1 : Nat) : Int) ((pr3 2 : Nat) : Int) i01 i2 hi lo) (k : Nat) (hk : k < 3) : w.cell? ⟨g, k, none⟩ = some (.int .u64 ((pr3 k : Nat) : Int)) := by
 rcases (show k = 0 ∨ k = 1 ∨ k = 2 by omega) with rfl | rfl | rfl
 ·exact h.c0
 ·exact h.c1
 ·exact h.c2
def OneC (w : World) (gm n L fk : Nat) (b : Int) (c : Mc) (K : Int) (F : Nat → Int) (caps : Array Value) : Prop :=
 (∀ args w, (callFunc fk args).run Tryz.prog w = .ok (.enter fk args) w) ∧ ∀ (k : Nat) (W : World) (t : Nat) (r z x : Int), k < 3 → w.grownBy W (some gm) → Pl W t gm ((pr3 k : Nat) : Int) r z L → Mt W gm x b c → x ≤ 2000000000000000 →
  Calls Tryz.prog fk (#[.pointer (some ⟨t, 0, none⟩)] ++ caps) W fun e w' => ∃ g cs n' cp, n ≤ n' ∧ e = .returned (.tuple #[.slice (some ⟨g, 0, none⟩) n' cp, .bool true]) ∧ Own w' W.heap.size (.slice (some ⟨g, 0, none⟩) n' cp) cs ∧ (∀ j, j < n → rd cs j = F j % ((pr3 k : Nat) : Int)) ∧
   Mt w' gm (x + K) b c ∧ W.heap.size ≤ g ∧ W.grownBy w' (some gm)
theorem joined_c (w : World) (gm n S L N fk : Nat) (a b : Int) (c : Mc) (K : Int) (F : Nat → Int) (caps : Array Value) (hS : 1 ≤ S) (hL : L = blen (S - 1)) (hN : N = 2 ^ L) (hL10 : L ≤ 10) (hn : n ≤ N) (hS2 : S ≤ 1000000)
  (hm : Mt w gm a b c) (hd : Db w) (ha : a ≤ 1000000000000000) (hK : 0 ≤ K ∧ K ≤ 1000000) (hF : ∀ j, j < n → 0 ≤ F j ∧ F j < 1464775400998524149974961049645758437266489031708901377) (h1 : OneC w gm n L fk b c K F caps) :
  Calls Tryz.prog 120 #[.pointer (some ⟨gm, 0, none⟩), .int .i64 n, .int .i64 S, .func (.func fk) #[] caps] w fun e w' => ∃ g os, e = .returned (.tuple #[.slice (some ⟨g, 0, none⟩) n n, .bool true]) ∧ Own3 w' w.heap.size (.slice (some ⟨g, 0, none⟩) n n) n os ∧ Jo3 F n n os ∧
   Mt w' gm (a + 3 * K + 6 * N) b c ∧ w.heap.size ≤ g ∧ w.grownBy w' (some gm) := by
 have hN10 : N ≤ 1024 := by rw [hN]; exact Nat.pow_le_pow_right (by decide) hL10
 have hgm : gm < w.heap.size := World.block_lt_of_cell? w _ hm.c0
 obtain ⟨P0, hP0⟩ : ∃ P : Int, P = ((pr3 0 : Nat) : Int) := ⟨_, rfl⟩
 obtain ⟨P1, hP1⟩ : ∃ P : Int, P = ((pr3 1 : Nat) : Int) := ⟨_, rfl⟩
 obtain ⟨P2, hP2⟩ : ∃ P : Int, P = ((pr3 2 : Nat) : Int) := ⟨_, rfl⟩
 have BG := fun w => begun_c w P0 P1 P2 (by rw [hP0]; rfl) (by rw [hP1]; rfl) (by rw [hP2]; rfl)
 rw [hP0, hP1, hP2] at BG
 have LG := fun w => convLog_c w S hS hS2
 rw [← hL] at LG
 have okk : ∀ k, k < 3 → Ok (pr3 k) L (px3 k) := fun k hk => pr3_okL k L hk hL10
 have HB := lk BG
 have HLG := lk LG
 have HOK := lk okk
 have HM := lk hm
 have HD := lk hd
 have HF := lk hF
 obtain ⟨ent, h1⟩ := h1
 have H1 := lk h1
 have HN := lk hN
 have HL := lk hL
 have HGM := lk hgm
 have a0 := hm.a0
 have HA0 := lk (And.intro a0 ha)
 obtain ⟨K0, K1⟩ := hK
 clear BG LG okk hm hd hF h1 hP0 hP1 hP2 P0 P1 P2 hgm a0 ha hL hN
 go_enter Tryz.func120, Tryz.ntmps120
 go_wp2_with fail
 refine (HB.out _).mono ?_
 rintro e w1 ⟨gc, i01, i2, chi, clo, rfl, C, g1⟩
 have CR := lk C
 have G1 := lk g1
 have HGM1 : Hid (gm < w1.heap.size) := lk (Nat.lt_of_lt_of_le HGM.out g1.size)
 have HD1 := lk (HD.out.grown HM.out (jn g1 (some gm)))
 have HM1 := lk (HM.out.grown g1)
 clear C g1 HD HM
 go_wp2
 have G3 := ju (jr w1 (some gm)) (Obj.cells #[.slice none 0 0, .slice none 0 0, .slice none 0 0] 206)
 have C3 := cs_new w1 #[.slice none 0 0, .slice none 0 0, .slice none 0 0] 206
 have lj0 : LJ (w1.alloc (Obj.cells #[.slice none 0 0, .slice none 0 0, .slice none 0 0] 206)) w1.heap.size w1.heap.size n F 0 := by
  have k : ∀ i, i < 3 → ([Value.slice none 0 0, .slice none 0 0, .slice none 0 0] : List Value)[i]? = some (.slice none 0 0) := fun i hi => by
   rcases (show i = 0 ∨ i = 1 ∨ i = 2 by omega) with rfl | rfl | rfl <;> rfl
  exact ⟨fun i hi => C3.free i (k i hi), fun i hi => ⟨_, C3.cell i (k i hi)⟩, fun i hi => by omega⟩
 have LJ0 := lk lj0
 have GG0 := lk G3
 have MM0 := lk (HM1.out.grown (ju (jr w1 none) (Obj.cells #[.slice none 0 0, .slice none 0 0, .slice none 0 0] 206)))
 clear G3 C3 lj0
 go_loopw [20] (fun v20 wr => ∃ k : Nat, v20 = .int .i64 k ∧ k ≤ 3 ∧ LJ wr w1.heap.size w1.heap.size n F k ∧ Mt wr gm (a + k * K) b c ∧ w1.grownBy wr (some gm)) (fun v20 _ => 3 - (intOf v20).toNat)
 case atStart => exact ⟨0, rfl, by omega, LJ0.out, by have := MM0.out; simpa using this, GG0.out⟩
 case round =>
  clear LJ0 GG0 MM0
  obtain ⟨k, rfl, hk, lj, m, G⟩ := hrel
  have LJK := lk lj
  have MK := lk m
  have GK := lk G
  clear lj m G
  obtain ⟨wo, rfl⟩ : ∃ wo : World, wo = wr := ⟨_, rfl⟩
  by_cases hlt : k < 3
  ·have f0 := crt_cell (CR.out.grown HM1.out GK.out) k hlt
   have NW := new_c wo.drew gm (pr3 k) L (px3 k) (HOK.out k hlt) (Nat.lt_of_lt_of_le HGM1.out GK.out.size) ((HD1.out.grown HM1.out (jw GK.out)))
   have hX : a + k * K ≤ 2000000000000000 := by
    have h1 : (k : Int) * K ≤ 3 * 1000000 := Int.mul_le_mul (by omega) K1 K0 (by decide)
    have := HA0.out.2
    omega
   obtain ⟨P, hP⟩ : ∃ P : Int, P = ((pr3 k : Nat) : Int) := ⟨_, rfl⟩
   rw [← hP] at f0 NW
   have HP := lk hP
   have HNW := lk NW
   have hF : Canon.SF [(⟨gc, k, none⟩, .int .u64 P)] wo := Canon.sf_cons f0 (Canon.sf_nil _)
   have HSF := lk hF
   clear hF hP NW
   go_wp2
   refine Canon.region_held [30] _ (by kernel_rfl) (by kernel_rfl) HSF.out ?_
   refine Canon.segs_at 8 _ _ _ (by kernel_rfl) ?_
   simp only [ja, jb, jc, jd]
   go_wp2_with fail
   refine (HLG.out _).mono ?_
   rintro e wx ⟨rfl, hwx⟩
   subst hwx
   go_wp2
   refine ⟨HSF.out.drew, ?_⟩
   refine Canon.segs_at 0 _ _ _ (by kernel_rfl) ?_
   simp only [ja, jb, jc, jd]
   go_wp2_with fail
   refine (HNW.out).mono ?_
   rintro e wy ⟨t, z, rfl, pl, ht, gy⟩
   have PL := lk pl
   have GY := lk (jt (jw GK.out) (jn gy (some gm)))
   have MY := lk (MK.out.drew.grown gy)
   have LY := lk ((LJK.out.grown0 (jw (jr _ none))).grown0 gy)
   have HSF2 := lk (Canon.sf_grown0 HSF.out.drew gy)
   clear pl gy LJK GK MK HSF ht
   go_wp2
   refine ⟨HSF2.out, ?_⟩
   refine Canon.segs_end _ _ _ (by kernel_rfl) ?_
   go_wp2
   refine ⟨by kernel_rfl, by kernel_rfl, by kernel_rfl, ?_⟩
   clear HSF2 HNW f0
   have ON := H1.out k wy t _ z _ hlt (jt (jn G1.out (some gm)) GY.out) (by rw [← HP.out]; exact PL.out) MY.out hX
   have HON := lk ON
   clear ON hX
   go_wp2_with fail
   refine (HON.out).mono ?_
   rintro e wz ⟨g, cs, n', cp, hn', rfl, ow, hv, mz, hg, gz⟩
   have OW := lk (ow.mono (base' := w1.heap.size) GY.out.size)
   have HV := lk hv
   have MZ := lk mz
   have GZ := lk (jt GY.out gz)
   have LZ := lk (LY.out.grown HGM1.out (Nat.le_refl _) gz)
   have hne : w1.heap.size ≠ g := by
    obtain ⟨v, hv⟩ := LY.out.ce k hlt
    have := World.block_lt_of_cell? wy _ hv
    simp at this; omega
   have NE := lk hne
   obtain ⟨v0, cl0⟩ := LZ.out.ce k hlt
   have fl0 := LZ.out.fr k hlt
   clear ow hv mz hg gz hne HON PL LY MY GY
   go_wp2
   go_roundw
   case rel =>
    refine ⟨k + 1, by go_num, by omega, LZ.out.step hlt hn' OW.out NE.out HV.out, ?_, ?_⟩
    ·have := MZ.out.row (gb_rowC (jr wz (some w1.heap.size)) k (.slice (some ⟨g, 0, none⟩) n' cp)) (by have := HGM1.out; omega)
     have e : a + k * K + K = a + ((k + 1 : Nat) : Int) * K := by rw [Int.natCast_add, Int.add_mul]; omega
     rw [e] at this
     exact this
    ·exact gb_set (p := ⟨w1.heap.size, k, none⟩) GZ.out (Nat.le_refl _) _
   case measure => simp [intOf]; omega
  ·obtain rfl : k = 3 := by omega
   clear hk hlt ent H1 HOK HD1
   obtain ⟨x, hx⟩ : ∃ x, x = a + 3 * K := ⟨_, rfl⟩
   have e3 : a + ((3 : Nat) : Int) * K = x := hx.symm
   rw [e3] at MK
   have hxb : 0 ≤ x ∧ x ≤ 2000000000000000 := by have := HA0.out; omega
   have HX := lk hx
   have eq : (2 : Int) ^ L = (N : Int) := by rw [HN.out, Int.natCast_pow]; rfl
   have hw2 : IntKind.i64.wrap (6 * 2 ^ L) = 6 * (N : Int) := by rw [eq, IntKind.wrap_i64]; omega
   have mk := make3 175 (by kernel_rfl) n (by omega)
   have SP := spend_c wo gm x b c (6 * (N : Int)) MK.out (by omega) (by omega)
   have e6 : (if 6 * (N : Int) > 0 then x + 6 * (N : Int) else x) = x + 6 * N := by split <;> omega
   rw [e6] at SP
   have HSP := lk SP
   clear hx e3 SP e6 eq MK
   go_wp2_with fail
   refine (HLG.out _).mono ?_
   rintro e wx ⟨rfl, hwx⟩
   subst hwx
   go_wp2_with fail
   refine (HSP.out).mono ?_
   rintro e wa ⟨rfl, ma, mo⟩
   have MA := lk ma
   have GA := lk (jt GK.out mo.gb)
   have LA := lk (LJK.out.grown HGM1.out (Nat.le_refl _) mo.gb)
   have CA := lk (CR.out.grown HM1.out GA.out)
   have O0 := lk (own3_made wa wa.heap.size n (Nat.le_refl _) (by omega))
   have J0 := lk (Jo3.start F n)
   have G0 := lk (ju (jr wa none) (Obj.cells (madeCells #[.int .u64 0, .int .u64 0, .int .u64 0] (n * 3)) 179))
   clear ma mo HSP GK LJK CR hw2
   go_wp2
   clear mk
   go_loopw [60] (fun v60 wr => ∃ (i : Nat) (os : List Int), v60 = .int .i64 i ∧ i ≤ n ∧ Jo3 F n i os ∧ Own3 wr wa.heap.size (.slice (some ⟨wa.heap.size, 0, none⟩) n n) n os ∧ wa.grownBy wr none) (fun v60 _ => n - (intOf v60).toNat)
   case atStart => exact ⟨0, _, rfl, by omega, J0.out, O0.out, G0.out⟩
   case round =>
    clear J0 O0 G0
    obtain ⟨i, os, rfl, hi, jo, ow, G⟩ := hrel
    have JO := lk jo
    have OW := lk ow
    have GG := lk G
    clear jo ow G
    obtain ⟨wi, rfl⟩ : ∃ wi : World, wi = wr := ⟨_, rfl⟩
    by_cases hin : i < n
    ·have lw := LA.out.grown0 GG.out
     obtain ⟨ga0, cs0, nn0, cp0, le0, c0, ow0, _, hv0⟩ := lw.v 0 (by decide)
     obtain ⟨ga1, cs1, nn1, cp1, le1, c1, ow1, _, hv1⟩ := lw.v 1 (by decide)
     obtain ⟨ga2, cs2, nn2, cp2, le2, c2, ow2, _, hv2⟩ := lw.v 2 (by decide)
     have d0 := ow0.cell i (by rw [← ow0.len]; omega)
     have d1 := ow1.cell i (by rw [← ow1.len]; omega)
     have d2 := ow2.cell i (by rw [← ow2.len]; omega)
     rw [hv0 i hin] at d0
     rw [hv1 i hin] at d1
     rw [hv2 i hin] at d2
     obtain ⟨P0, hP0⟩ : ∃ P : Int, P = ((pr3 0 : Nat) : Int) := ⟨_, rfl⟩
     obtain ⟨P1, hP1⟩ : ∃ P : Int, P = ((pr3 1 : Nat) : Int) := ⟨_, rfl⟩
     obtain ⟨P2, hP2⟩ : ∃ P : Int, P = ((pr3 2 : Nat) : Int) := ⟨_, rfl⟩
     have q0 : 0 < P0 ∧ P0 < 4611686018427387904 := by rw [hP0]; decide
     have q1 : 0 < P1 ∧ P1 < 4611686018427387904 := by rw [hP1]; decide
     have q2 : 0 < P2 ∧ P2 < 4611686018427387904 := by rw [hP2]; decide
     have HPP : Hid (P0 = ((pr3 0 : Nat) : Int) ∧ P1 = ((pr3 1 : Nat) : Int) ∧ P2 = ((pr3 2 : Nat) : Int)) := lk ⟨hP0, hP1, hP2⟩
     rw [← hP0] at d0
     rw [← hP1] at d1
     rw [← hP2] at d2
     obtain ⟨r0, hr0⟩ : ∃ r, r = F i % P0 := ⟨_, rfl⟩
     obtain ⟨r1, hr1⟩ : ∃ r, r = F i % P1 := ⟨_, rfl⟩
     obtain ⟨r2, hr2⟩ : ∃ r, r = F i % P2 := ⟨_, rfl⟩
     rw [← hr0] at d0
     rw [← hr1] at d1
     rw [← hr2] at d2
     have b0 : 0 ≤ r0 ∧ r0 < P0 := by rw [hr0]; exact ⟨Int.emod_nonneg _ (by omega), Int.emod_lt_of_pos _ q0.1⟩
     have b1 : 0 ≤ r1 ∧ r1 < P1 := by rw [hr1]; exact ⟨Int.emod_nonneg _ (by omega), Int.emod_lt_of_pos _ q1.1⟩
     have b2 : 0 ≤ r2 ∧ r2 < P2 := by rw [hr2]; exact ⟨Int.emod_nonneg _ (by omega), Int.emod_lt_of_pos _ q2.1⟩
     have T3 := crt3_c wi.drew gc P0 P1 P2 i01 i2 chi clo r0 r1 r2 (by have := (CA.out.grown0 GG.out).grown0 (jw (jr _ none)); rw [← hP0, ← hP1, ← hP2] at this; exact this) b0.1 b0.2 b1.1 b2.1
     have HT3 := lk T3
     have HR : Hid (r0 = F i % P0 ∧ r1 = F i % P1 ∧ r2 = F i % P2) := lk ⟨hr0, hr1, hr2⟩
     clear hr0 hr1 hr2 hP0 hP1 hP2 T3 lw ow0 ow1 ow2 hv0 hv1 hv2
     go_wp2
     refine Canon.region_canon (by kernel_rfl) (by kernel_rfl) ?_
     go_wp2_with fail
     refine (HT3.out).mono ?_
     rintro e wb ⟨x0, x1, x2, rfl, bx0, bx1, bx2, hlt, m0, m1, m2, gb⟩
     have hs : 0 ≤ x0 + 18446744073709551616 * (x1 + 18446744073709551616 * x2) := by omega
     have hFi : x0 + 18446744073709551616 * (x1 + 18446744073709551616 * x2) = F i := by
      have hf := HF.out i hin
      obtain ⟨e0, e1, e2⟩ := HPP.out
      obtain ⟨s0, s1, s2⟩ := HR.out
      have hpp : P0 * P1 * P2 = 1464775400998524149974961049645758437266489031708901377 := by rw [e0, e1, e2]; decide +kernel
      rw [hpp] at hlt
      refine crt_one hlt hs hf.2 hf.1 ?_ ?_ ?_
      ·rw [← e0]; rw [s0] at m0; exact m0.trans (Cg.mod _ _)
      ·rw [← e1]; rw [s1] at m1; exact m1.trans (Cg.mod _ _)
      ·rw [← e2]; rw [s2] at m2; exact m2.trans (Cg.mod _ _)
     have OB := lk (OW.out.grown0 (jt (jw (jr _ none)) gb))
     have GB := lk (jt (jw GG.out) gb)
     have JB := lk (JO.out.step hin bx0 bx1 bx2 hFi)
     have dd0 := OB.out.cell3 i hin 0 (by decide)
     have dd1 := OB.out.cell3 i hin 1 (by decide)
     have dd2 := OB.out.cell3 i hin 2 (by decide)
     have df0 := OB.out.free3 (i * 3 + 0)
     have df1 := OB.out.free3 (i * 3 + 1)
     have df2 := OB.out.free3 (i * 3 + 2)
     rw [Nat.add_zero] at dd0 df0
     obtain ⟨y0, hy0⟩ : ∃ y, y = rd os (i * 3) := ⟨_, rfl⟩
     obtain ⟨y1, hy1⟩ : ∃ y, y = rd os (i * 3 + 1) := ⟨_, rfl⟩
     obtain ⟨y2, hy2⟩ : ∃ y, y = rd os (i * 3 + 2) := ⟨_, rfl⟩
     rw [← hy0] at dd0
     rw [← hy1] at dd1
     rw [← hy2] at dd2
     clear HR HPP hlt m0 m1 m2 gb hs hFi c0 c1 c2 d0 d1 d2 HT3 hy0 hy1 hy2
     go_wp2
     refine ⟨by kernel_rfl, ?_⟩
     clear dd0 dd1 dd2 df0 df1 df2
     go_wp2
     go_roundw
     case rel =>
      have os := OB.out.store i bx0 bx1 bx2
      have es : wb.setCells wa.heap.size (3 * i) [.int .u64 x0, .int .u64 x1, .int .u64 x2] = ((wb.setCell ⟨wa.heap.size, i * 3, none⟩ (.int .u64 x0)).setCell ⟨wa.heap.size, i * 3 + 1, none⟩ (.int .u64 x1)).setCell ⟨wa.heap.size, i * 3 + 2, none⟩ (.int .u64 x2) := by
       rw [Nat.mul_comm]; rfl
      rw [es] at os
      exact ⟨i + 1, _, by go_num, by omega, JB.out, os.1, gb_new GB.out os.2 (fun i hi => by cases hi; exact Nat.le_refl _)⟩
     case measure => simp [intOf]; omega
    ·obtain rfl : i = n := by omega
     clear hi hin
     have HE : Hid (w1.grownBy wi (some gm)) := lk (jt GA.out (jn GG.out _))
     have ME := lk (MA.out.grown GG.out)
     have HWA : Hid (w.heap.size ≤ wa.heap.size) := lk (Nat.le_trans G1.out.size GA.out.size)
     go_wp2
     go_ret2
     refine ⟨wa.heap.size, os, rfl, ?_, JO.out, ?_, HWA.out, jt (jn G1.out _) HE.out⟩
     ·exact OW.out.mono HWA.out
     ·have := ME.out
      rw [HX.out] at this
      exact this
def transf (n m ways : Nat) : Nat := 3 * (ways * (2 ^ blen (n + m - 1) / 2) * blen (n + m - 1) + 2 * 2 ^ blen (n + m - 1)) + 6 * 2 ^ blen (n + m - 1)
theorem blen_lt (x : Nat) : x < 2 ^ blen x := by
 unfold blen
 split
 ·rename_i h; rw [h]; decide
 ·exact Nat.lt_log2_self
theorem blen10 {n m : Nat} (h : n + m ≤ 1024) : blen (n + m - 1) ≤ 10 := blen_le _ 10 (by omega)
theorem sumT_int (t : Nat → Nat) : ∀ n, ((sumT t n : Nat) : Int) = sumI (fun i => (t i : Int) * 18446744073709551616 ^ (1 * i)) n
 | 0 => rfl
 | n + 1 => by
  rw [sumT, sumI, ← sumT_int t n, Nat.one_mul, Int.natCast_add, Int.natCast_mul, Int.natCast_pow, Int.mul_comm ((t n : Nat) : Int)]
  rfl
theorem val_int (xs : List Int) (h : Ws xs) : ∀ k, k ≤ xs.length → ((val B64 (xs.take k) : Nat) : Int) = sumI (fun i => rd xs i * 18446744073709551616 ^ (1 * i)) k
 | 0, _ => by rw [List.take_zero]; rfl
 | k + 1, hk => by
  rw [val_take_succ B64 (by omega), sumI, ← val_int xs h k (by omega), Int.natCast_add, Int.natCast_mul, Int.natCast_pow, Nat.one_mul, Int.toNat_of_nonneg (rd_w h k).1, Int.mul_comm (rd xs k)]
  rfl
theorem val_ft {xs : List Int} (h : Ws xs) {N : Nat} (hN : xs.length ≤ N) : ((val B64 xs : Nat) : Int) = ft (rd xs) 18446744073709551616 N 1 := by
 have e := val_int xs h xs.length (Nat.le_refl _)
 rw [List.take_length] at e
 rw [e]
 unfold ft
 exact (sumI_tail N hN fun t h1 _ => by rw [rd_beyond h1, Int.zero_mul]).symm
theorem mul_sums {al bs os : List Int} {n : Nat} (ha : Ws al) (hb : Ws bs) (hn : al.length + bs.length ≤ n + 1) (h1 : al.length ≤ n) (h2 : bs.length ≤ n) (hn2 : n ≤ 2048) (h : Jo3 (cv (rd al) (rd bs)) n n os) : sumT (t3 os) n = val B64 al * val B64 bs := by
 apply Int.ofNat_inj.1
 rw [Int.natCast_mul, val_ft ha h1, val_ft hb h2, ft_mul (rd_zero hn), sumT_int]
 unfold ft
 refine sumI_congr _ fun i hi => ?_
 rw [h.v i hi, Int.toNat_of_nonneg (cv_bound ha hb (by omega)).1]
theorem may_yes (w : World) (n m : Nat) (hn : 0 < n) (hm : 0 < m) (h : n + m ≤ 1048576) : Calls Tryz.prog 119 #[.int .i64 n, .int .i64 m] w fun e w' => e = .returned (.bool true) ∧ w' = w := by
 go_enter Tryz.func119, Tryz.ntmps119
 go_wp2
 go_ret
 exact ⟨by simp; omega, rfl⟩
theorem enter_of {P : Program} {f : FuncId} {fn : Func} {c : Code} (hf : P.funcs[f]? = some fn) (hname : (fn.name == "runtime.NumGoroutine") = false) (hb : fn.body = some c) (args : Array Value) (w : World) : (callFunc f args).run P w = .ok (.enter f args) w := by
 have h1 : fn.name ≠ "runtime.NumGoroutine" := by simpa using hname
 simp [callFunc, hf, h1, hb]
theorem rd_take {xs : List Int} {n j : Nat} (h : j < n) : rd (xs.take n) j = rd xs j := by
 unfold rd
 rw [List.getD_eq_getElem?_getD, List.getD_eq_getElem?_getD, List.getElem?_take_of_lt h]
theorem alloc_sz (w : World) (o : Obj) : (w.alloc o).heap.size = w.heap.size + 1 := by unfold World.alloc; exact Array.size_push _
def Off (v : Value) (gm : Nat) : Prop := ∀ b, v.ownBlock = some b → b ≠ gm
theorem Sl.off {w w' : World} {v : Value} {xs : List Int} {gm : Nat} (h : Sl w v xs) (ho : Off v gm) (g : w.grownBy w' (some gm)) : Sl w' v xs := h.grown g (fun b hb => by have := ho b hb; simpa using this)
theorem words1_c (W : World) (t gm : Nat) (p r z x b : Int) (c : Mc) (L N : Nat) (hN : N = 2 ^ L) (va vb : Value) (al bs : List Int) (ba bb : Nat) (ca : W.cell? ⟨ba, 0, none⟩ = some va) (cb : W.cell? ⟨bb, 0, none⟩ = some vb)
  (h : Pl W t gm p r z L) (hm : Mt W gm x b c) (hx : x ≤ 10000000000000000) (hva : Sl W va al) (hvb : Sl W vb bs) (hla : 0 < al.length) (hlb : 0 < bs.length) (hl : al.length + bs.length ≤ N + 1) (hnb : Off vb gm) :
  Calls Tryz.prog 121 #[.pointer (some ⟨t, 0, none⟩), .pointer (some ⟨ba, 0, none⟩), .pointer (some ⟨bb, 0, none⟩)] W fun e w' => ∃ g cs, e = .returned (.tuple #[.slice (some ⟨g, 0, none⟩) (al.length + bs.length - 1) N, .bool true]) ∧ Own w' W.heap.size (.slice (some ⟨g, 0, none⟩) N N) cs ∧ Cy p r z L (rd al) (rd bs) cs ∧
   Mt w' gm (x + ((3 * (N / 2 * L) + 2 * N : Nat) : Int)) b c ∧ W.heap.size ≤ g ∧ W.grownBy w' (some gm) := by
 have CV := lk (convP_c W t gm p r z x b c L N hN va vb al bs h hm hx hva hvb hla hlb hl hnb)
 obtain ⟨n, hn⟩ : ∃ n, n = al.length + bs.length - 1 := ⟨_, rfl⟩
 rw [← hn] at CV ⊢
 clear h hm hva hvb hn hN hla hlb hl
 go_enter Tryz.func121, Tryz.ntmps121
 go_wp2_with fail
 refine (CV.out).mono ?_
 rintro e w2 ⟨g, cs, rfl, k⟩
 have KK := lk k
 clear k
 go_wp2
 go_ret2
 exact ⟨g, cs, rfl, KK.out⟩
theorem Cy.pr {W : World} {t gm : Nat} {p r z : Int} {L N : Nat} {al bs cs : List Int} (h : Pl W t gm p r z L) (hN : N = 2 ^ L) (hl : al.length + bs.length ≤ N + 1) (cy : Cy p r z L (rd al) (rd bs) cs) (j : Nat) (hj : j < N) : rd cs j = cv (rd al) (rd bs) j % p := by
 obtain ⟨g, _, md, _⟩ := h.gd
 exact cy.is md.pm.odd (by have := md.pm.lo; omega) h.inv h.neg (rd_zero (by rw [← hN]; exact hl)) j (by rw [← hN]; exact hj)
theorem oneC_words (w : World) (gm n L N : Nat) (b : Int) (c : Mc) (va vb : Value) (al bs : List Int) (ba bb : Nat) (ca : w.cell? ⟨ba, 0, none⟩ = some va) (cb : w.cell? ⟨bb, 0, none⟩ = some vb) (oa : ba ≠ gm) (ob : bb ≠ gm) (hN : N = 2 ^ L)
  (hva : Sl w va al) (hvb : Sl w vb bs) (hla : 0 < al.length) (hlb : 0 < bs.length) (hn : n = al.length + bs.length - 1) (hl : al.length + bs.length ≤ N + 1) (hna : Off va gm) (hnb : Off vb gm) :
  OneC w gm n L 121 b c ((3 * (N / 2 * L) + 2 * N : Nat) : Int) (cv (rd al) (rd bs)) #[.pointer (some ⟨ba, 0, none⟩), .pointer (some ⟨bb, 0, none⟩)] := by
 refine ⟨fun args w => enter_of Tryz.func121 (by kernel_rfl) rfl args w, fun k W t r z x hk G pl m hx => ?_⟩
 rw [show (#[.pointer (some ⟨t, 0, none⟩)] ++ #[.pointer (some ⟨ba, 0, none⟩), .pointer (some ⟨bb, 0, none⟩)] : Array Value) = #[.pointer (some ⟨t, 0, none⟩), .pointer (some ⟨ba, 0, none⟩), .pointer (some ⟨bb, 0, none⟩)] by simp]
 refine (words1_c W t gm _ r z x b c L N hN va vb al bs ba bb (gb_cell G ca (by simpa using oa)) (gb_cell G cb (by simpa using ob)) pl m (by omega) (hva.off hna G) (hvb.off hnb G) hla hlb hl hnb).mono ?_
 rintro e w' ⟨g, cs, rfl, ow, cy, m', hg, gg⟩
 have hlen : cs.length = N := by rw [cy.len, hN]
 refine ⟨g, cs.take n, n, N, Nat.le_refl _, by rw [hn], ow.take n (by omega), fun j hj => ?_, m', hg, gg⟩
 rw [rd_take hj]
 exact cy.pr pl hN hl j (by omega)
theorem words_c (w : World) (gm : Nat) (a b : Int) (c : Mc) (va vb : Value) (al bs : List Int) (hm : Mt w gm a b c) (hd : Db w) (ha : a ≤ 1000000000000000) (hva : Sl w va al) (hvb : Sl w vb bs) (hla : 0 < al.length) (hlb : 0 < bs.length) (hl : al.length + bs.length ≤ 1024) (hna : Off va gm) (hnb : Off vb gm) :
  Calls Tryz.prog 108 #[.pointer (some ⟨gm, 0, none⟩), va, vb] w fun e w' => ∃ g os, e = .returned (.tuple #[.slice (some ⟨g, 0, none⟩) (al.length + bs.length - 1) (al.length + bs.length - 1), .bool true]) ∧
   Own3 w' w.heap.size (.slice (some ⟨g, 0, none⟩) (al.length + bs.length - 1) (al.length + bs.length - 1)) (al.length + bs.length - 1) os ∧ Jo3 (cv (rd al) (rd bs)) (al.length + bs.length - 1) (al.length + bs.length - 1) os ∧
   Mt w' gm (a + (transf al.length bs.length 3 : Nat)) b c ∧ w.heap.size ≤ g ∧ w.grownBy w' (some gm) := by
 have hgm : gm < w.heap.size := World.block_lt_of_cell? w _ hm.c0
 obtain ⟨A, ca, rfl, hca, _⟩ := hva.form
 obtain ⟨B, cb, rfl, hcb, _⟩ := hvb.form
 obtain ⟨S, hS⟩ : ∃ S, S = al.length + bs.length := ⟨_, rfl⟩
 obtain ⟨n, hn⟩ : ∃ n, n = al.length + bs.length - 1 := ⟨_, rfl⟩
 obtain ⟨L, hL⟩ : ∃ L, L = blen (S - 1) := ⟨_, rfl⟩
 obtain ⟨N, hN⟩ : ∃ N, N = 2 ^ L := ⟨_, rfl⟩
 have hL10 : L ≤ 10 := by rw [hL]; exact blen_le _ 10 (by omega)
 have hSN : S ≤ N := by rw [hN, hL]; have := blen_lt (S - 1); omega
 have hN10 : N ≤ 1024 := by rw [hN]; exact Nat.pow_le_pow_right (by decide) hL10
 obtain ⟨K, hK⟩ : ∃ K : Nat, K = 3 * (N / 2 * L) + 2 * N := ⟨_, rfl⟩
 have hK6 : K ≤ 1000000 := by
  have : N / 2 * L ≤ 512 * 10 := Nat.mul_le_mul (by omega) hL10
  omega
 have etr : ((transf al.length bs.length 3 : Nat) : Int) = 3 * (K : Int) + 6 * (N : Int) := by
  unfold transf
  rw [← hS, ← hL, ← hN, hK]
  have : 3 * (N / 2) * L = 3 * (N / 2 * L) := Nat.mul_assoc _ _ _
  rw [this]; omega
 have GA := ju (ju (jr w none) (Obj.cells #[.slice A al.length ca] 25)) (Obj.cells #[.slice B bs.length cb] 25)
 have c1 : ((w.alloc (Obj.cells #[.slice A al.length ca] 25)).alloc (Obj.cells #[.slice B bs.length cb] 25)).cell? ⟨w.heap.size, 0, none⟩ = some (.slice A al.length ca) :=
  gb_cell0 (ju (jr _ none) _) ((cs_new w #[.slice A al.length ca] 25).cell 0 rfl)
 have c2 : ((w.alloc (Obj.cells #[.slice A al.length ca] 25)).alloc (Obj.cells #[.slice B bs.length cb] 25)).cell? ⟨w.heap.size + 1, 0, none⟩ = some (.slice B bs.length cb) := by
  have := (cs_new (w.alloc (Obj.cells #[.slice A al.length ca] 25)) #[.slice B bs.length cb] 25).cell 0 rfl
  rw [alloc_sz] at this
  exact this
 have ONE := oneC_words _ gm n L N b c _ _ al bs w.heap.size (w.heap.size + 1) c1 c2 (by omega) (by omega) hN (hva.grown0 GA) (hvb.grown0 GA) hla hlb hn (by omega) hna hnb
 have JJ := joined_c _ gm n S L N 121 a b c ((K : Nat) : Int) (cv (rd al) (rd bs)) _ (by omega) hL hN hL10 (by omega) (by omega) (hm.grown GA) (hd.grown0 GA) ha ⟨by omega, by omega⟩ (fun j hj => cv_bound hva.ws hvb.ws (by omega)) (by rw [hK]; exact ONE)
 rw [etr]
 rw [← hn]
 have MY := fun w => may_yes w al.length bs.length hla hlb (by omega)
 obtain ⟨n1, hn1⟩ : ∃ n1, n1 = al.length := ⟨_, rfl⟩
 obtain ⟨m1, hm1⟩ : ∃ m1, m1 = bs.length := ⟨_, rfl⟩
 rw [← hn1, ← hm1] at hS hn hl c1 c2 JJ MY GA
 rw [← hn1] at hla hca ⊢
 rw [← hm1] at hlb hcb ⊢
 have e1 : (n1 : Int) + (m1 : Int) = (S : Int) := by omega
 have e2 : (S : Int) - 1 = (n : Int) := by omega
 have HJ := lk JJ
 have HMY := lk MY
 have HGA := lk GA
 clear JJ MY GA ONE hva hvb etr hK hN hL hS hn hd hm hn1 hm1 hna hnb
 go_enter Tryz.func108, Tryz.ntmps108
 go_wp2_with fail
 refine (HMY.out _).mono ?_
 rintro e w1 ⟨rfl, hw1⟩
 subst hw1
 go_wp2_with fail
 refine (HJ.out).mono ?_
 rintro e w2 ⟨g, os, rfl, ow, jo, mm, hg, gg⟩
 have KK := lk (show _ ∧ _ ∧ _ ∧ _ ∧ _ from ⟨ow.mono HGA.out.size, jo, mm, Nat.le_trans HGA.out.size hg, jt (jn HGA.out (some gm)) gg⟩)
 clear ow jo mm hg gg HJ
 go_wp2
 go_ret2
 exact ⟨g, os, rfl, KK.out.1, KK.out.2.1, by rw [← Int.add_assoc]; exact KK.out.2.2.1, KK.out.2.2.2⟩
theorem convMul_c (w : World) (gm : Nat) (a b : Int) (c : Mc) (va vb : Value) (al bs : List Int) (hm : Mt w gm a b c) (hd : Db w) (ha : a ≤ 1000000000000000) (hva : Sl w va al) (hvb : Sl w vb bs) (hla : 0 < al.length) (hlb : 0 < bs.length) (hl : al.length + bs.length ≤ 1024) (hna : Off va gm) (hnb : Off vb gm) :
  Calls Tryz.prog 153 #[.pointer (some ⟨gm, 0, none⟩), va, vb] w fun e w' => ∃ x, e = .returned (.tuple #[x, .bool true]) ∧ Wo w' w.heap.size x (val B64 al * val B64 bs) ∧
   Mt w' gm (a + (transf al.length bs.length 3 : Nat)) b c ∧ w.grownBy w' (some gm) := by
 have W := words_c w gm a b c va vb al bs hm hd ha hva hvb hla hlb hl hna hnb
 have hgm : gm < w.heap.size := World.block_lt_of_cell? w _ hm.c0
 obtain ⟨n, hn⟩ : ∃ n, n = al.length + bs.length - 1 := ⟨_, rfl⟩
 obtain ⟨T, hT⟩ : ∃ T, T = transf al.length bs.length 3 := ⟨_, rfl⟩
 rw [← hn, ← hT] at W
 rw [← hT]
 have SUM : ∀ os, Jo3 (cv (rd al) (rd bs)) n n os → sumT (t3 os) n = val B64 al * val B64 bs := fun os jo => mul_sums hva.ws hvb.ws (by omega) (by omega) (by omega) (by omega) jo
 obtain ⟨A, ca, rfl, hca, _⟩ := hva.form
 obtain ⟨B, cb, rfl, hcb, _⟩ := hvb.form
 have hn0 : n ≤ 10000000 := by omega
 obtain ⟨n1, hn1⟩ : ∃ n1, n1 = al.length := ⟨_, rfl⟩
 obtain ⟨m1, hm1⟩ : ∃ m1, m1 = bs.length := ⟨_, rfl⟩
 rw [← hn1, ← hm1] at W ⊢
 have HW := lk W
 have HS := lk SUM
 clear W SUM hn hT hn1 hm1 hva hvb hm hd hla hlb hl hna hnb
 go_enter Tryz.func153, Tryz.ntmps153
 go_wp2_with fail
 refine (HW.out).mono ?_
 rintro e w1 ⟨g, os, rfl, ow, jo, m1, hg, g1⟩
 have CY := lk (carry_c w1 _ os n ow.cells jo.ws hn0)
 rw [HS.out os jo] at CY
 have M1 := lk m1
 have G1 := lk g1
 clear ow jo m1 g1 hg
 go_wp2_with fail
 refine (CY.out).mono ?_
 rintro e w2 ⟨x, rfl, wo, g2⟩
 have KK := lk (show _ ∧ _ ∧ _ from ⟨wo.mono G1.out.size, M1.out.grown g2, jt G1.out (jn g2 (some gm))⟩)
 clear wo g2
 go_wp2
 go_ret2
 exact ⟨x, rfl, KK.out⟩
theorem Le.take {xs os : List Int} (h : Le xs os) : os.take xs.length = xs := by
 refine rd_ext (by rw [List.length_take, h.len]; omega) fun j hj => ?_
 have hj' : j < xs.length := by rw [List.length_take, h.len] at hj; omega
 rw [rd_take hj', h.lo j hj']
theorem Le.sl {w : World} {base g : Nat} {xs os : List Int} (h : Le xs os) (ow : Own w base (.slice (some ⟨g, 0, none⟩) (xs.length + 4) (xs.length + 4)) os) : Sl w (.slice (some ⟨g, 0, none⟩) xs.length (xs.length + 4)) xs := by
 have := ow.take xs.length (by rw [h.len]; omega)
 rw [h.take] at this
 exact this.sl
theorem off_some {g gm n c : Nat} (h : g ≠ gm) : Off (.slice (some ⟨g, 0, none⟩) n c) gm := fun b hb => by
 simp only [Value.ownBlock, Option.some.injEq] at hb
 rw [← hb]; exact h
theorem Wo.wd {w : World} {base : Nat} {v : Value} {n : Nat} (h : Wo w base v n) : Wd w v n := by
 obtain ⟨zs, ow, nz, hv⟩ := h
 exact ⟨zs, ow.sl, nz, hv⟩
def Wr (w : World) (g c : Nat) : Prop := ∀ j, j < c → w.frozen? ⟨g, j, none⟩ = false ∧ ∃ v, w.cell? ⟨g, j, none⟩ = some v
theorem Wr.set {w : World} {g c : Nat} (h : Wr w g c) (i : Nat) (u : Value) : Wr (w.setCell ⟨g, i, none⟩ u) g c := fun j hj => by
 obtain ⟨h1, v, h2⟩ := h j hj
 refine ⟨by rw [World.frozen?_setCell]; exact h1, ?_⟩
 by_cases e : i = j
 ·subst e; exact ⟨_, World.cell?_setCell_same _ _ _ h2⟩
 ·exact ⟨v, (cell_ne _ _ _ _ _ e).trans h2⟩
theorem Own.wr {w : World} {base g n c : Nat} {xs : List Int} (h : Own w base (.slice (some ⟨g, 0, none⟩) n c) xs) : Wr w g c ∧ n ≤ c ∧ c ≤ 9223372036854775807 := by
 rcases h.1.2 with ⟨h1, _⟩ | ⟨g', cap, cur, hv, hg, hh, h1, h2, h3, h4⟩
 ·simp at h1
 ·simp only [Value.slice.injEq, Option.some.injEq, Addr.mk.injEq, and_true] at hv
  obtain ⟨rfl, rfl, rfl⟩ := hv
  refine ⟨fun j hj => ⟨h.free j, ?_⟩, h1, by simpa [maxLen] using h2⟩
  refine ⟨cur[j]'(by omega), ?_⟩
  unfold World.cell?
  simp only [hh]
  simp [show j < cur.size by omega]
theorem Off.grown {v : Value} {gm : Nat} (h : Off v gm) : Off v gm := h
theorem Md.ptr_ne {w : World} {g gm h : Nat} {a b : Int} {c : Mc} (k : w.cell? ⟨g, 0, none⟩ = some (.pointer (some ⟨h, 0, none⟩))) (m : Mt w gm a b c) : g ≠ gm := cell_kind k m.c0 (by simp)
theorem smul_c (w : World) (g3 gm : Nat) (a b : Int) (c : Mc) (va vb : Value) (al bl : List Int) (hg : w.cell? ⟨g3, 0, none⟩ = some (.pointer (some ⟨gm, 0, none⟩))) (hm : Mt w gm a b c) (ha0 : a ≤ 1000000000000000) (ha : Sl w va al) (hb : Sl w vb bl) (hna : Off va gm) (hnb : Off vb gm) (hl : al.length ≤ 100000) (hl2 : bl.length ≤ 100000) :
  Calls Tryz.prog 138 #[.pointer (some ⟨g3, 0, none⟩), va, vb] w fun e w' => ∃ x, e = .returned x ∧ Wo w' w.heap.size x (val B64 al * val B64 bl) ∧ Mt w' gm (a + ((al.length * bl.length : Nat) : Int)) b c ∧ w.grownBy w' (some gm) := by
 obtain ⟨A, ca, rfl, hca, _⟩ := ha.form
 obtain ⟨B, cb, rfl, hcb, _⟩ := hb.form
 obtain ⟨n, hn⟩ : ∃ n, n = al.length := ⟨_, rfl⟩
 obtain ⟨m, hm'⟩ : ∃ m, m = bl.length := ⟨_, rfl⟩
 rw [← hn, ← hm']
 rw [← hn] at ha hca hna hl
 rw [← hm'] at hb hcb hnb hl2
 have eK : (n : Int) * (m : Int) = ((n * m : Nat) : Int) := (Int.natCast_mul _ _).symm
 have bK : n * m ≤ 100000 * 100000 := Nat.mul_le_mul hl hl2
 obtain ⟨K, hK⟩ : ∃ K, K = n * m := ⟨_, rfl⟩
 rw [← hK] at eK bK ⊢
 have SP := spend_c w gm a b c (K : Int) hm (by omega) (by omega)
 have e2 : (if (K : Int) > 0 then a + (K : Int) else a) = a + (K : Int) := by split <;> omega
 rw [e2] at SP
 have HSP := lk SP
 have HA := lk ha
 have HB := lk hb
 have HN := lk hn
 have HM := lk hm'
 have NA := lk hna
 have NB := lk hnb
 have mk := make64 184 (by kernel_rfl) (n + m) (n + m) ((n : Int) + (m : Int)) ((n : Int) + (m : Int)) (by omega) (by omega) (by omega) (by omega)
 have a0 := hm.a0
 clear SP ha hb hn hm' hna hnb hK e2 hm
 go_enter Tryz.func138, Tryz.ntmps138
 go_wp2_with fail
 refine (HSP.out).mono ?_
 rintro e w1 ⟨rfl, m1, mo⟩
 have M1 := lk m1
 have G1 := lk mo.gb
 have HA1 := lk (HA.out.off NA.out mo.gb)
 have HB1 := lk (HB.out.off NB.out mo.gb)
 have OW := lk (own_made w1 w1.heap.size (n + m) (n + m) (Nat.le_refl _) (by omega) (by omega))
 have G0 := lk (ju (jr w1 none) (Obj.cells (madeCells #[.int .u64 0] (n + m)) 24))
 clear m1 mo HSP HA HB
 go_wp2
 clear mk hg
 go_loopw [37] (fun v37 wr => ∃ (i : Nat) (os : List Int), v37 = .int .i64 i ∧ i ≤ n ∧ PmO al bl os n m i ∧ Own wr w1.heap.size (.slice (some ⟨w1.heap.size, 0, none⟩) (n + m) (n + m)) os ∧ w1.grownBy wr none) (fun v37 _ => n - (intOf v37).toNat)
 case atStart => exact ⟨0, _, rfl, by omega, PmO.start _ _ _ _, OW.out, G0.out⟩
 case round =>
  clear OW G0
  obtain ⟨i, os, rfl, hi, po, ow, G⟩ := hrel
  have PO := lk po
  have OS := lk ow
  have GG := lk G
  clear po ow G
  obtain ⟨wo, rfl⟩ : ∃ wo : World, wo = wr := ⟨_, rfl⟩
  by_cases hin : i < n
  ·obtain ⟨bA, oA, rfl, cA⟩ := (HA1.out.grown0 GG.out).at i (by rw [← HN.out]; exact hin)
   obtain ⟨x, hx⟩ : ∃ x, x = rd al i := ⟨_, rfl⟩
   have bx : 0 ≤ x ∧ x < 18446744073709551616 := by rw [hx]; exact rd_w HA1.out.ws i
   rw [← hx] at cA
   have HX := lk hx
   clear hx
   go_wp2
   clear cA
   go_loopw [10, 44] (fun v10 v44 ws => ∃ (j : Nat) (c : Int) (os : List Int), v10 = .int .u64 c ∧ v44 = .int .i64 j ∧ j ≤ m ∧ PmI al bl os n m i j x c ∧ Own ws w1.heap.size (.slice (some ⟨w1.heap.size, 0, none⟩) (n + m) (n + m)) os ∧ w1.grownBy ws none) (fun _ v44 _ => m - (intOf v44).toNat)
   case atStart => exact ⟨0, 0, os, rfl, rfl, by omega, PO.out.inner x, OS.out, GG.out⟩
   case round =>
    clear PO OS GG
    obtain ⟨j, q, os, rfl, rfl, hj, pi, ow, G⟩ := hrel
    have PI := lk pi
    have OS := lk ow
    have GG := lk G
    have q0 := pi.c0
    have q1 := pi.c1
    clear pi ow G
    by_cases hjm : j < m
    ·obtain ⟨bB, oB, rfl, cB⟩ := (HB1.out.grown0 GG.out).at j (by rw [← HM.out]; exact hjm)
     obtain ⟨y, hy⟩ : ∃ y, y = rd bl j := ⟨_, rfl⟩
     obtain ⟨o, ho⟩ : ∃ y, y = rd os (i + j) := ⟨_, rfl⟩
     have bY : 0 ≤ y ∧ y < 18446744073709551616 := by rw [hy]; exact rd_w HB1.out.ws j
     have bo : 0 ≤ o ∧ o < 18446744073709551616 := by rw [ho]; exact rd_w PI.out.ws _
     rw [← hy] at cB
     have fr := OS.out.free (i + j)
     have ce := OS.out.cell (i + j) (by rw [PI.out.len]; omega)
     rw [← ho] at ce
     have M64 := fun w => mul64_c x y bx.1 bx.2 bY.1 bY.2 w
     obtain ⟨P, hP⟩ : ∃ P, P = x * y := ⟨_, rfl⟩
     obtain ⟨h, hh⟩ : ∃ h, h = P / 18446744073709551616 := ⟨_, rfl⟩
     obtain ⟨l, hl'⟩ : ∃ h, h = P % 18446744073709551616 := ⟨_, rfl⟩
     obtain ⟨s, hs⟩ : ∃ h, h = (l + q) % 18446744073709551616 := ⟨_, rfl⟩
     obtain ⟨d, hd⟩ : ∃ h, h = (l + q) / 18446744073709551616 := ⟨_, rfl⟩
     obtain ⟨h1, hh1⟩ : ∃ z, z = h + d := ⟨_, rfl⟩
     obtain ⟨r, hr⟩ : ∃ h, h = (o + s) % 18446744073709551616 := ⟨_, rfl⟩
     obtain ⟨d2, hd2⟩ : ∃ h, h = (o + s) / 18446744073709551616 := ⟨_, rfl⟩
     obtain ⟨b1, b2, b3, b4, b5, b6, b7, b8, ee⟩ := pm_words bo bx bY ⟨q0, q1⟩ hP hh hl' hs hd hh1 hr hd2
     rw [← hP, ← hh, ← hl'] at M64
     have A1 : ∀ w, (callFunc 146 #[.int .u64 l, .int .u64 q, .int .u64 0]).run Tryz.prog w = .ok (.value (.tuple #[.int .u64 s, .int .u64 d])) w := fun w => by
      rw [add64_run l q 0 b2.1 q0 (by decide) (by decide), Int.add_zero, hs, hd]
     have A2 : ∀ w, (callFunc 146 #[.int .u64 o, .int .u64 s, .int .u64 0]).run Tryz.prog w = .ok (.value (.tuple #[.int .u64 r, .int .u64 d2])) w := fun w => by
      rw [add64_run o s 0 bo.1 b3.1 (by decide) (by decide), Int.add_zero, hr, hd2]
     have V1 : IntKind.u64.wrap (h + d) = h1 := by rw [hh1, IntKind.wrap_u64]; omega
     obtain ⟨q', hq'⟩ : ∃ z, z = h1 + d2 := ⟨_, rfl⟩
     have V2 : IntKind.u64.wrap (h1 + d2) = q' := by rw [hq', IntKind.wrap_u64]; omega
     rw [← hq'] at b8 ee
     have ST := lk (PI.out.step bx.1 HB1.out.ws hin hjm hy b6 b8 (by rw [← ho]; exact ee))
     have HM64 := lk M64
     clear hP hh hl' hs hd hh1 hr hd2 hq' hy ho ee M64
     go_wp2_with fail
     refine (HM64.out _).mono ?_
     rintro e w2 ⟨rfl, hw2⟩
     subst hw2
     go_wp2
     clear A1 A2 V1 V2 cB ce fr
     go_roundw
     case rel => exact ⟨j + 1, q', _, rfl, by go_num, by omega, ST.out, OS.out.store _ b6.1 b6.2, gb_set (p := ⟨w1.heap.size, i + j, none⟩) GG.out (Nat.le_refl _) _⟩
     case measure => simp [intOf]; omega
    ·obtain rfl : j = m := by omega
     have fr := OS.out.free (i + j)
     have ce := OS.out.cell (i + j) (by rw [PI.out.len]; omega)
     obtain ⟨o, ho⟩ : ∃ y, y = rd os (i + j) := ⟨_, rfl⟩
     rw [← ho] at ce
     have ST := lk (PI.out.last hin (by rw [← HM.out]; exact Nat.le_refl _) HX.out)
     clear ho
     go_wp2
     clear ce fr
     go_roundw
     case rel => exact ⟨i + 1, _, by go_num, by omega, ST.out, OS.out.store _ q0 q1, gb_set (p := ⟨w1.heap.size, i + j, none⟩) GG.out (Nat.le_refl _) _⟩
     case measure => simp [intOf]; omega
  ·obtain rfl : i = n := by omega
   have EV := lk (PO.out.last (by rw [← HN.out]; exact Nat.le_refl _))
   have NO := lk (lnorm_c wo _ os OS.out.sl (by rw [PO.out.len]; omega))
   go_wp2_with fail
   refine (NO.out).mono ?_
   rintro e w3 ⟨z, rfl, oz, g3'⟩
   have OZ := lk oz
   have GZ := lk (jt GG.out g3')
   have BB : Hid (w.heap.size ≤ wo.heap.size) := lk (Nat.le_trans G1.out.size GG.out.size)
   clear oz g3'
   go_wp2
   go_ret
   refine ⟨z, rfl, ⟨_, OZ.out.mono BB.out, trimZ_nz _, ?_⟩, M1.out.grown GZ.out, jt G1.out (jn GZ.out _)⟩
   rw [val_trimZ]
   exact EV.out
theorem Nz.drop : ∀ (k : Nat) {xs : List Int}, Nz xs → Nz (xs.drop k)
 | 0, _, h => h
 | k + 1, [], _ => by rw [List.drop_nil]; exact nz_nil
 | k + 1, x :: xs, h => by rw [List.drop_succ_cons]; exact Nz.drop k h.tail
theorem nz_len {xs : List Int} (hw : Ws xs) (hz : Nz xs) {N : Nat} (h : val B64 xs < B64 ^ N) : xs.length ≤ N := by
 by_cases hl : xs.length ≤ N
 ·exact hl
 ·have h1 := val_take_drop B64 xs N (by omega)
  have h2 := nz_pos (B := B64) (by decide) (xs := xs.drop N) (hw.dg.drop N) (hz.drop N) (by
   intro e
   have := congrArg List.length e
   rw [List.length_drop] at this
   simp at this
   omega)
  have h3 : B64 ^ N * 1 ≤ B64 ^ N * val B64 (xs.drop N) := Nat.mul_le_mul_left _ h2
  omega
theorem Wo.past {w w' : World} {base gm n : Nat} {v : Value} (h : Wo w base v n) (hb : gm < base) (g : w.grownBy w' (some gm)) : Wo w' base v n := by
 obtain ⟨zs, ow, nz, hv⟩ := h
 refine ⟨zs, ow.grown g ?_, nz, hv⟩
 by_cases e : v.ownBlock = some gm
 ·have := (ow.lt gm e).1; omega
 ·exact .inr e
theorem Wo.off {w : World} {base gm n : Nat} {v : Value} (h : Wo w base v n) (hb : gm < base) : Off v gm := by
 obtain ⟨zs, ow, _, _⟩ := h
 exact fun b hb' => by have := (ow.lt b hb').1; omega
theorem Wo.get {w : World} {base n N : Nat} {v : Value} (h : Wo w base v n) (hn : n < B64 ^ N) : ∃ zs, Sl w v zs ∧ zs.length ≤ N ∧ val B64 zs = n := by
 obtain ⟨zs, ow, nz, hv⟩ := h
 exact ⟨zs, ow.sl, nz_len ow.ws nz (by rw [hv]; exact hn), hv⟩
theorem val_rowOf (xs : List Int) (n : Nat) : val B64 (rowOf xs n) = val B64 (xs.take n) := by
 unfold rowOf
 rw [val_append, List.drop_replicate, val_replicate, Nat.mul_zero, Nat.add_zero]
 rcases Nat.le_total xs.length n with h | h
 ·rw [Nat.min_eq_left h, List.take_length, List.take_of_length_le h]
 ·rw [Nat.min_eq_right h]
theorem val_rowOf_all {xs : List Int} {n : Nat} (h : xs.length ≤ n) : val B64 (rowOf xs n) = val B64 xs := by rw [val_rowOf, List.take_of_length_le h]
theorem rowOf_piece (xs : List Int) (n : Nat) : rowOf (xs.take n) n = rowOf xs n := by
 unfold rowOf
 rw [List.length_take, List.take_take]
 congr 1
 ·congr 1; omega
 ·congr 1; omega
theorem rowOf_nil (n : Nat) : rowOf [] n = List.replicate n 0 := by unfold rowOf; simp
theorem Sl.mid {w : World} {A : Option Addr} {n c : Nat} {xs : List Int} (h : Sl w (.slice A n c) xs) (i j : Nat) (hp : 0 < n) (hij : i ≤ j) (hj : j ≤ n) : ∃ b o, A = some ⟨b, o, none⟩ ∧ Sl w (.slice (some ⟨b, o + i, none⟩) (j - i) (c - i)) ((xs.take j).drop i) := by
 obtain ⟨A', c', e, h1, h2, h3, h4⟩ := h
 simp only [Value.slice.injEq] at e
 obtain ⟨rfl, rfl, rfl⟩ := e
 obtain ⟨b, o, hA, hc⟩ := h4 (by omega)
 have hl : ((xs.take j).drop i).length = j - i := by rw [List.length_drop, List.length_take]; omega
 refine ⟨b, o, hA, _, c - i, by rw [hl], by rw [hl]; omega, by omega, ws_drop (ws_take h3 j) i, fun _ => ⟨b, o + i, rfl, fun k hk => ?_⟩⟩
 rw [hl] at hk
 rw [Nat.add_assoc, hc (i + k) (by omega)]
 congr 2
 unfold rd
 rw [List.getD_eq_getElem?_getD, List.getD_eq_getElem?_getD, List.getElem?_drop, List.getElem?_take_of_lt (by omega)]
theorem piece_c (w : World) (v : Value) (xs : List Int) (f n : Nat) (h : Sl w v xs) (hf : f ≤ 1000000) (hn : n ≤ 1000000) :
  Calls Tryz.prog 166 #[v, .int .i64 f, .int .i64 n] w fun e w' => ∃ g, e = .returned (.slice (some ⟨g, 0, none⟩) n n) ∧ Own w' w.heap.size (.slice (some ⟨g, 0, none⟩) n n) (rowOf (xs.drop f) n) ∧ w.grownBy w' none := by
 have mk := make64 184 (by kernel_rfl) n n (n : Int) (n : Int) (by omega) (by omega) (by omega) (by omega)
 have own0 := own_made w w.heap.size n n (Nat.le_refl _) (by omega) (by omega)
 have G0 := ju (jr w none) (Obj.cells (madeCells #[.int .u64 0] n) 24)
 obtain ⟨A, c, rfl, hc, hc2⟩ := h.form
 obtain ⟨ln, hln⟩ : ∃ l, l = xs.length := ⟨_, rfl⟩
 rw [← hln] at h hc ⊢
 have hz2 : ∀ j, j = min ln (f + n) → rowOf (xs.drop f) n = ((xs.take j).drop f).take (min ((xs.take j).drop f).length n) ++ (List.replicate n 0).drop (min ((xs.take j).drop f).length n) := fun j hj => by
  have e1 : (xs.take j).drop f = (xs.drop f).take n := by
   rw [List.drop_take]
   rcases Nat.le_total ln (f + n) with h1 | h1
   ·rw [List.take_of_length_le (by rw [List.length_drop]; omega), List.take_of_length_le (by rw [List.length_drop]; omega)]
   ·congr 1; omega
  rw [← rowOf_piece, ← e1]; rfl
 have hz0 : ln ≤ f → rowOf (xs.drop f) n = List.replicate n 0 := fun h => by
  rw [List.drop_eq_nil_of_le (by omega), rowOf_nil]
 obtain ⟨zs, hzs⟩ : ∃ zs, zs = rowOf (xs.drop f) n := ⟨_, rfl⟩
 rw [← hzs] at hz2 hz0 ⊢
 by_cases hlt : f < ln
 ·by_cases hfn : ln ≤ f + n
  ·obtain ⟨b, o, rfl, hs⟩ := h.mid f ln (by omega) (by omega) (by omega)
   have HS := lk (hs.grown0 G0)
   have OW := lk own0
   have HG := lk G0
   have HZ := lk (hz2 ln (by omega))
   clear own0 G0 h hzs hz2 hz0 hs hln
   go_enter Tryz.func166, Tryz.ntmps166
   go_wp2_with (with_reducible (show wpList _ _ _ (Oper.mk _ (Op.call (Call.mk (Callee.builtin Builtin.copy) _ _)) _ _ _ _ :: _) _ _); refine own_copy 184 (by kernel_rfl) (.tmp 14) (.tmp 23) rfl rfl w.heap.size n n n _ rfl OW.out (Nat.le_refl _) (.slice (some ⟨b, o + f, none⟩) (ln - f) (c - f)) _ rfl HS.out _ rfl zs HZ.out ?_; intro w2 ow1 g1)
   go_ret
   exact ⟨_, rfl, ow1, gb_new HG.out g1 (fun i hi => by cases hi; exact Nat.le_refl _)⟩
  ·obtain ⟨b, o, rfl, hs⟩ := h.mid f (f + n) (by omega) (by omega) (by omega)
   have HS := lk (hs.grown0 G0)
   have OW := lk own0
   have HG := lk G0
   have HZ := lk (hz2 (f + n) (by omega))
   clear own0 G0 h hzs hz2 hz0 hs hln
   go_enter Tryz.func166, Tryz.ntmps166
   go_wp2_with (with_reducible (show wpList _ _ _ (Oper.mk _ (Op.call (Call.mk (Callee.builtin Builtin.copy) _ _)) _ _ _ _ :: _) _ _); refine own_copy 184 (by kernel_rfl) (.tmp 14) (.tmp 23) rfl rfl w.heap.size n n n _ rfl OW.out (Nat.le_refl _) (.slice (some ⟨b, o + f, none⟩) (f + n - f) (c - f)) _ rfl HS.out _ rfl zs HZ.out ?_; intro w2 ow1 g1)
   go_ret
   exact ⟨_, rfl, ow1, gb_new HG.out g1 (fun i hi => by cases hi; exact Nat.le_refl _)⟩
 ·have e0 := hz0 (by omega)
  rw [e0]
  have OW := lk own0
  have HG := lk G0
  clear own0 G0 h hzs hz2 hz0 hln e0
  go_enter Tryz.func166, Tryz.ntmps166
  go_wp2
  go_ret
  exact ⟨_, rfl, OW.out, HG.out⟩
theorem wide_c (w : World) (v : Value) (xs : List Int) (n : Nat) (h : Sl w v xs) (hn : n ≤ 1000000) :
  Calls Tryz.prog 167 #[v, .int .i64 n] w fun e w' => ∃ g, e = .returned (.slice (some ⟨g, 0, none⟩) n n) ∧ Own w' w.heap.size (.slice (some ⟨g, 0, none⟩) n n) (rowOf xs n) ∧ w.grownBy w' none := by
 have P : Calls Tryz.prog 166 #[v, .int .i64 0, .int .i64 n] w fun e w' => ∃ g, e = .returned (.slice (some ⟨g, 0, none⟩) n n) ∧ Own w' w.heap.size (.slice (some ⟨g, 0, none⟩) n n) (rowOf xs n) ∧ w.grownBy w' none := piece_c w v xs 0 n h (by decide) hn
 obtain ⟨A, c, rfl, _, _⟩ := h.form
 have HP := lk P
 clear P h
 go_enter Tryz.func167, Tryz.ntmps167
 go_wp2_with fail
 refine (HP.out).mono ?_
 rintro e w1 ⟨g, rfl, k⟩
 have KK := lk k
 clear k
 go_wp2
 go_ret
 exact ⟨g, rfl, KK.out⟩
theorem pow_split2 {s : Nat} (hs : s ≤ 64) : 2 ^ s * 2 ^ (64 - s) = 18446744073709551616 := by
 rw [← Nat.pow_add, show s + (64 - s) = 64 by omega]
theorem shl_parts {s w : Nat} (_hs0 : 0 < s) (hs : s < 64) (hw : w < 18446744073709551616) : (w * 2 ^ s) % 18446744073709551616 = 2 ^ s * (w % 2 ^ (64 - s)) ∧ (w * 2 ^ s) / 18446744073709551616 = w / 2 ^ (64 - s) ∧ w / 2 ^ (64 - s) < 2 ^ s ∧ 2 ^ s * (w % 2 ^ (64 - s)) + 2 ^ s ≤ 18446744073709551616 := by
 have hp := pow_split2 (Nat.le_of_lt hs)
 have h0 : 0 < 2 ^ (64 - s) := Nat.pow_pos (by decide)
 have h1 : 0 < 2 ^ s := Nat.pow_pos (by decide)
 refine ⟨?_, ?_, ?_, ?_⟩
 ·rw [← hp, Nat.mul_comm w, Nat.mul_mod_mul_left]
 ·rw [← hp, Nat.mul_comm w, Nat.mul_div_mul_left _ _ h1]
 ·rw [Nat.div_lt_iff_lt_mul h0, hp]; exact hw
 ·have := Nat.mod_lt w h0
  have h2 : 2 ^ s * (w % 2 ^ (64 - s) + 1) ≤ 2 ^ s * 2 ^ (64 - s) := Nat.mul_le_mul_left _ this
  rw [Nat.mul_add, Nat.mul_one, hp] at h2
  exact h2
theorem or_parts {s o t : Nat} (ho : o < 2 ^ s) : o ||| 2 ^ s * t = o + 2 ^ s * t := by
 rw [Nat.or_comm, ← Nat.two_pow_add_eq_or_of_lt ho]; exact Nat.add_comm _ _
structure ShW (xs os : List Int) (s n i : Nat) : Prop where
 len : os.length = n + 1
 ws : Ws os
 z : ∀ j, i < j → rd os j = 0
 lo : (rd os i).toNat < 2 ^ s
 v : val 18446744073709551616 os = val 18446744073709551616 (xs.take i) * 2 ^ s
theorem ShW.start (xs : List Int) (s n : Nat) : ShW xs (List.replicate (n + 1) 0) s n 0 := by
 have e : ∀ j, rd (List.replicate (n + 1) 0) j = 0 := fun j => by unfold rd; rw [List.getD_eq_getElem?_getD, List.getElem?_replicate]; split <;> rfl
 exact ⟨List.length_replicate, ws_replicate _, fun j _ => e j, by rw [e]; exact Nat.pow_pos (by decide), by rw [val_replicate]; simp [val]⟩
theorem ShW.step {xs os : List Int} {s n i : Nat} {x o t u : Int} (h : ShW xs os s n i) (hs0 : 0 < s) (hs : s < 64) (hx : Ws xs) (hi : i < n) (ex : x = rd xs i) (eo : o = rd os i) (et : t = (((x.toNat * 2 ^ s) % 18446744073709551616 : Nat) : Int)) (eu : u = ((x.toNat / 2 ^ (64 - s) : Nat) : Int)) :
  ShW xs ((os.set i (o + t)).set (i + 1) u) s n (i + 1) ∧ 0 ≤ o + t ∧ o + t < 18446744073709551616 ∧ 0 ≤ u ∧ u < 18446744073709551616 := by
 have x0 := rd_w hx i
 rw [← ex] at x0
 have o0 := rd_w h.ws i
 rw [← eo] at o0
 have hlo := h.lo
 rw [← eo] at hlo
 obtain ⟨p1, p2, p3, p4⟩ := shl_parts hs0 hs (w := x.toNat) (by omega)
 have hs64 : (2 : Nat) ^ s ≤ 18446744073709551616 := by
  have := Nat.pow_le_pow_right (n := 2) (by decide) (Nat.le_of_lt hs)
  exact this
 have bo : 0 ≤ o + t ∧ o + t < 18446744073709551616 := by rw [et, p1]; omega
 have bu : 0 ≤ u ∧ u < 18446744073709551616 := by rw [eu]; omega
 refine ⟨⟨by rw [List.length_set, List.length_set, h.len], ws_set (ws_set h.ws _ bo.1 bo.2) _ bu.1 bu.2, fun j hj => by rw [rd_set_ne (by omega), rd_set_ne (by omega)]; exact h.z j (by omega), ?_, ?_⟩, bo.1, bo.2, bu.1, bu.2⟩
 ·rw [rd_set_self (by rw [List.length_set, h.len]; omega), eu]; omega
 ·have v1 := val_set 18446744073709551616 (xs := os) (k := i) (by rw [h.len]; omega) (o + t)
  have v2 := val_set 18446744073709551616 (xs := os.set i (o + t)) (k := i + 1) (by rw [List.length_set, h.len]; omega) u
  rw [rd_set_ne (by omega), h.z (i + 1) (by omega)] at v2
  have hv := h.v
  rw [val_take_any 18446744073709551616 xs i, ← ex, Nat.add_mul, ← hv]
  have e1 : (o + t).toNat = o.toNat + (x.toNat * 2 ^ s) % 18446744073709551616 := by rw [et]; omega
  have e2 : u.toNat = (x.toNat * 2 ^ s) / 18446744073709551616 := by rw [eu, p2]; omega
  rw [e1, ← eo, Nat.mul_add] at v1
  rw [e2, Nat.pow_succ] at v2
  have e3 := Nat.div_add_mod (x.toNat * 2 ^ s) 18446744073709551616
  have e4 : (0 : Int).toNat = 0 := rfl
  rw [e4, Nat.mul_zero, Nat.add_zero] at v2
  have e7 := Nat.mul_assoc (18446744073709551616 ^ i) 18446744073709551616 (x.toNat * 2 ^ s / 18446744073709551616)
  have e8 := Nat.mul_assoc (18446744073709551616 ^ i) x.toNat (2 ^ s)
  rw [e7] at v2
  rw [e8]
  have e5 : 18446744073709551616 ^ i * (x.toNat * 2 ^ s) = 18446744073709551616 ^ i * (18446744073709551616 * (x.toNat * 2 ^ s / 18446744073709551616)) + 18446744073709551616 ^ i * (x.toNat * 2 ^ s % 18446744073709551616) := by rw [← Nat.mul_add, e3]
  omega
theorem ShW.last {xs os : List Int} {s n : Nat} (h : ShW xs os s n n) (hx : xs.length ≤ n) : val 18446744073709551616 os = val 18446744073709551616 xs * 2 ^ s := by
 have := h.v
 rw [List.take_of_length_le hx] at this
 exact this
structure ShR (xs os : List Int) (s n i : Nat) : Prop where
 len : os.length = n
 ws : Ws os
 lo : ∀ j, j < i → (rd os j).toNat = (rd xs j).toNat / 2 ^ s + (rd xs (j + 1)).toNat * 2 ^ (64 - s) % 18446744073709551616
theorem val_shr {xs : List Int} (hx : Ws xs) {s : Nat} (_hs0 : 0 < s) (hs : s < 64) : ∀ (os : List Int), os.length = xs.length → (∀ j, j < xs.length → (rd os j).toNat = (rd xs j).toNat / 2 ^ s + (rd xs (j + 1)).toNat * 2 ^ (64 - s) % 18446744073709551616) → val 18446744073709551616 os = val 18446744073709551616 xs / 2 ^ s := by
 induction xs with
 | nil => intro os hl _; rw [List.eq_nil_of_length_eq_zero hl]; simp [val]
 | cons x xs ih =>
  intro os hl hv
  cases os with
  | nil => simp at hl
  | cons o os =>
   have hx' : Ws xs := fun y hy => hx y (List.mem_cons_of_mem _ hy)
   have i1 := ih hx' os (by simpa using hl) (fun j hj => by
    have := hv (j + 1) (by simpa using hj)
    simpa [rd] using this)
   have h0 := hv 0 (by simp)
   have e0 : rd (o :: os) 0 = o := rfl
   have e1 : rd (x :: xs) 0 = x := rfl
   have e2 : rd (x :: xs) (0 + 1) = rd xs 0 := rfl
   rw [e0, e1, e2] at h0
   rw [val, val, i1, h0]
   have hval : ∃ q, val 18446744073709551616 xs = (rd xs 0).toNat + 18446744073709551616 * q := by
    cases xs with
    | nil => exact ⟨0, rfl⟩
    | cons y ys => exact ⟨_, rfl⟩
   obtain ⟨q, hq⟩ := hval
   have b0 := rd_w hx' 0
   rw [hq]
   obtain ⟨y, hy⟩ : ∃ y, y = (rd xs 0).toNat := ⟨_, rfl⟩
   rw [← hy]
   have hp := pow_split2 (Nat.le_of_lt hs)
   have hP : 0 < 2 ^ s := Nat.pow_pos (by decide)
   have hQ : 0 < 2 ^ (64 - s) := Nat.pow_pos (by decide)
   clear i1 hv ih h0 hx hq hl
   generalize 2 ^ s = P at hp hP ⊢
   generalize 2 ^ (64 - s) = R at hp hQ ⊢
   have hm : y * R % 18446744073709551616 = R * (y % P) := by
    rw [← hp, Nat.mul_comm y, Nat.mul_comm P R, Nat.mul_mod_mul_left]
   rw [hm]
   have d1 : (x.toNat + 18446744073709551616 * (y + 18446744073709551616 * q)) / P = x.toNat / P + R * (y + 18446744073709551616 * q) := by
    rw [← hp, Nat.mul_assoc, Nat.add_mul_div_left _ _ hP]
   have d2 : (y + 18446744073709551616 * q) / P = y / P + R * q := by
    rw [← hp, Nat.mul_assoc, Nat.add_mul_div_left _ _ hP]
   rw [d1, d2]
   have dm := Nat.div_add_mod y P
   have e5 : 18446744073709551616 * (y / P + R * q) = R * (P * (y / P)) + R * (18446744073709551616 * q) := by
    have a1 : 18446744073709551616 * (y / P) = R * (P * (y / P)) := by rw [← Nat.mul_assoc R P, Nat.mul_comm R P, hp]
    have a2 : 18446744073709551616 * (R * q) = R * (18446744073709551616 * q) := by rw [← Nat.mul_assoc, Nat.mul_comm 18446744073709551616 R, Nat.mul_assoc]
    rw [Nat.mul_add, a1, a2]
   have e6 : R * (y + 18446744073709551616 * q) = R * (P * (y / P)) + R * (y % P) + R * (18446744073709551616 * q) := by
    have a1 : R * y = R * (P * (y / P)) + R * (y % P) := by rw [← Nat.mul_add, dm]
    rw [Nat.mul_add, a1]
   rw [e5, e6]; omega
theorem lshl_c (w : World) (va : Value) (al : List Int) (s : Nat) (ha : Sl w va al) (hl : al.length ≤ 1000000) (hs0 : 0 < s) (hs : s < 64) :
    Calls Tryz.prog 191 #[va, .int .i64 s] w fun e w' => ∃ x, e = .returned x ∧ Wo w' w.heap.size x (val B64 al * 2 ^ s) ∧ w.grownBy w' none := by
  obtain ⟨A, ca, rfl, _, _⟩ := ha.form
  have LW : Calls Tryz.prog 185 #[.int .i64 s, .int .i64 1048576] w fun e w' => e = .returned (.int .i64 s) ∧ w' = w := lwithin_c w s 1048576 (by omega)
  have T1 := lk (ltrim_c w _ _ _ _ ha)
  have ha' := ha.take (trimZ al).length (trimZ_len al)
  rw [take_trimZ_len] at ha'
  have hv : val B64 (trimZ al) = val B64 al := val_trimZ _ _
  have h1 := trimZ_len al
  obtain ⟨xs, hxs⟩ : ∃ l, l = trimZ al := ⟨_, rfl⟩
  rw [← hxs] at T1 ha' hv h1
  obtain ⟨n, hn⟩ : ∃ n, n = xs.length := ⟨_, rfl⟩
  rw [← hn] at T1 ha' h1
  have HX := lk ha'
  have HV := lk hv
  have HXL := lk hn
  have HLW := lk LW
  have bn : n ≤ 1000000 := by omega
  have e64 : (s : Int) / 64 = 0 := by omega
  have e64' : (s : Int) % 64 = (s : Int) := by omega
  have sb : s < 64 := hs
  clear ha ha' hv hxs hn h1 hl LW
  by_cases hn0 : n = 0
  · subst hn0
    have hz : val B64 al * 2 ^ s = 0 := by
      rw [← HV.out, List.eq_nil_of_length_eq_zero HXL.out.symm]; simp [val]
    rw [hz]
    clear hz
    go_enter Tryz.func191, Tryz.ntmps191
    go_wp2_with fail
    refine (HLW.out).mono ?_
    rintro e w1 ⟨rfl, hw1⟩
    subst hw1
    go_wp2_with fail
    refine (T1.out).mono ?_
    rintro e w1 ⟨rfl, hw1⟩
    subst hw1
    go_wp2
    go_ret
    exact ⟨_, rfl, ⟨[], own_nil _ _, nz_nil, rfl⟩, jr _ _⟩
  · have n0 : ((n : Int) == 0) = false := by have : ¬ (n : Int) = 0 := by omega
                                             simpa using this
    have mk := make64 184 (by kernel_rfl) (n + 1) (n + 1) ((n : Int) + 1) ((n : Int) + 1) (by omega) (by omega) (by omega) (by omega)
    have OW := lk (own_made w w.heap.size (n + 1) (n + 1) (Nat.le_refl _) (by omega) (by omega))
    have G0 := lk (ju (jr w none) (Obj.cells (madeCells #[.int .u64 0] (n + 1)) 24))
    go_enter Tryz.func191, Tryz.ntmps191
    go_wp2_with fail
    refine (HLW.out).mono ?_
    rintro e w1 ⟨rfl, hw1⟩
    subst hw1
    go_wp2_with fail
    refine (T1.out).mono ?_
    rintro e w1 ⟨rfl, hw1⟩
    subst hw1
    go_wp2
    clear mk
    go_loopw [30] (fun v30 wr => ∃ (i : Nat) (os : List Int), v30 = .int .i64 i ∧ i ≤ n ∧ ShW xs os s n i ∧ Own wr w1.heap.size (.slice (some ⟨w1.heap.size, 0, none⟩) (n + 1) (n + 1)) os ∧ w1.grownBy wr none) (fun v30 _ => n - (intOf v30).toNat)
    case atStart => exact ⟨0, _, rfl, by omega, ShW.start _ _ _, OW.out, G0.out⟩
    case round =>
      clear OW G0
      obtain ⟨i, os, rfl, hi, sm, ow, G⟩ := hrel
      have SM := lk sm
      have OS := lk ow
      have GG := lk G
      clear sm ow G
      by_cases hin : i < n
      · obtain ⟨bA, oA, rfl, cA⟩ := (HX.out.grown0 GG.out).at i (by rw [← HXL.out]; exact hin)
        obtain ⟨x, hx⟩ : ∃ x, x = rd xs i := ⟨_, rfl⟩
        obtain ⟨o, ho⟩ : ∃ y, y = rd os i := ⟨_, rfl⟩
        obtain ⟨p, hp⟩ : ∃ y, y = rd os (i + 1) := ⟨_, rfl⟩
        have bx : 0 ≤ x ∧ x < 18446744073709551616 := by rw [hx]; exact rd_w HX.out.ws i
        obtain ⟨t, et⟩ : ∃ t : Int, t = (((x.toNat * 2 ^ s) % 18446744073709551616 : Nat) : Int) := ⟨_, rfl⟩
        obtain ⟨u, eu⟩ : ∃ t : Int, t = ((x.toNat / 2 ^ (64 - s) : Nat) : Int) := ⟨_, rfl⟩
        obtain ⟨st, b1, b2, b3, b4⟩ := SM.out.step hs0 hs HX.out.ws hin hx ho et eu
        have ST := lk st
        rw [← hx] at cA
        have fr := OS.out.free i
        have ce := OS.out.cell i (by rw [SM.out.len]; omega)
        rw [← ho] at ce
        have OS2 := lk (OS.out.store i b1 b2)
        have fr2 := OS.out.free (i + 1)
        have ce2 := OS.out.cell (i + 1) (by rw [SM.out.len]; omega)
        rw [← hp] at ce2
        have xn : ((x.toNat : Nat) : Int) = x := Int.toNat_of_nonneg bx.1
        have es : IntKind.u64.wrap (x * 2 ^ s) = t := by
          rw [IntKind.wrap_u64, et, ← xn]
          have e2 : ((2 : Int) ^ s) = ((2 ^ s : Nat) : Int) := by rw [Int.natCast_pow]; rfl
          rw [e2, ← Int.natCast_mul, Int.toNat_natCast]
          omega
        have er : x / 2 ^ (64 - s) = u := by
          rw [eu, ← xn, Int.toNat_natCast, Int.natCast_ediv, Int.natCast_pow]
          rfl
        have or1 : bits .or .u64 o t = o + t := by
          obtain ⟨p1, _, _, p4⟩ := shl_parts hs0 hs (w := x.toNat) (by omega)
          have lo := SM.out.lo
          rw [← ho] at lo
          have o0 := rd_w OS.out.ws i
          rw [← ho] at o0
          have on : ((o.toNat : Nat) : Int) = o := Int.toNat_of_nonneg o0.1
          rw [et, p1, ← on, bits_or_u64_nat _ _ (by omega) (by omega), or_parts lo, Int.natCast_add]
        obtain ⟨r, hr⟩ : ∃ r, r = o + t := ⟨_, rfl⟩
        rw [← hr] at or1 b1 b2 ST OS2
        clear hx ho hp st et eu xn hr
        go_wp2
        clear es er or1
        go_roundw
        case rel => exact ⟨i + 1, _, by go_num, by omega, ST.out, OS2.out.store (i + 1) b3 b4, gb_set (p := ⟨w1.heap.size, i + 1, none⟩) (gb_set (p := ⟨w1.heap.size, i, none⟩) GG.out (Nat.le_refl _) _) (Nat.le_refl _) _⟩
        case measure => simp [intOf]; omega
      · obtain rfl : i = n := by omega
        have EV := lk (SM.out.last (by rw [← HXL.out]; exact Nat.le_refl _))
        have TR := lk (ltrim_c wr _ _ _ os OS.out.sl)
        go_wp2_with fail
        refine (TR.out).mono ?_
        rintro e w3 ⟨rfl, hw3⟩
        have O3 := lk (OS.out.take (trimZ os).length (trimZ_len _))
        rw [← hw3] at O3 GG
        clear hw3
        go_wp2
        go_ret
        refine ⟨.slice (some ⟨w1.heap.size, 0, none⟩) (trimZ os).length (i + 1), rfl, ⟨_, O3.out, by rw [take_trimZ_len]; exact trimZ_nz _, ?_⟩, GG.out⟩
        rw [take_trimZ_len, val_trimZ, EV.out]
        exact congrArg (· * 2 ^ s) HV.out
theorem lshr_c (w : World) (va : Value) (al : List Int) (s : Nat) (ha : Sl w va al) (hl : al.length ≤ 1000000) (hs0 : 0 < s) (hs : s < 64) :
    Calls Tryz.prog 193 #[va, .int .i64 s] w fun e w' => ∃ x, e = .returned x ∧ Wo w' w.heap.size x (val B64 al / 2 ^ s) ∧ w.grownBy w' none := by
  obtain ⟨A, ca, rfl, _, _⟩ := ha.form
  have LW : Calls Tryz.prog 185 #[.int .i64 s, .int .i64 1048576] w fun e w' => e = .returned (.int .i64 s) ∧ w' = w := lwithin_c w s 1048576 (by omega)
  have T1 := lk (ltrim_c w _ _ _ _ ha)
  have ha' := ha.take (trimZ al).length (trimZ_len al)
  rw [take_trimZ_len] at ha'
  have hv : val B64 (trimZ al) = val B64 al := val_trimZ _ _
  have h1 := trimZ_len al
  obtain ⟨xs, hxs⟩ : ∃ l, l = trimZ al := ⟨_, rfl⟩
  rw [← hxs] at T1 ha' hv h1
  obtain ⟨n, hn⟩ : ∃ n, n = xs.length := ⟨_, rfl⟩
  rw [← hn] at T1 ha' h1
  have HX := lk ha'
  have HV := lk hv
  have HXL := lk hn
  have HLW := lk LW
  have bn : n ≤ 1000000 := by omega
  have e64 : (s : Int) / 64 = 0 := by omega
  have e64' : (s : Int) % 64 = (s : Int) := by omega
  have sb : s < 64 := hs
  have sb0 : 0 < s := hs0
  clear ha ha' hv hxs hn h1 hl LW
  by_cases hn0 : n = 0
  · subst hn0
    have hz : val B64 al / 2 ^ s = 0 := by
      rw [← HV.out, List.eq_nil_of_length_eq_zero HXL.out.symm]; simp [val]
    rw [hz]
    clear hz
    go_enter Tryz.func193, Tryz.ntmps193
    go_wp2_with fail
    refine (HLW.out).mono ?_
    rintro e w1 ⟨rfl, hw1⟩
    subst hw1
    go_wp2_with fail
    refine (T1.out).mono ?_
    rintro e w1 ⟨rfl, hw1⟩
    subst hw1
    go_wp2
    go_ret
    exact ⟨_, rfl, ⟨[], own_nil _ _, nz_nil, rfl⟩, jr _ _⟩
  · have n0 : 0 < n := by omega
    have mk := make64 184 (by kernel_rfl) n n (n : Int) (n : Int) (by omega) (by omega) (by omega) (by omega)
    have OW := lk (own_made w w.heap.size n n (Nat.le_refl _) (by omega) (by omega))
    have G0 := lk (ju (jr w none) (Obj.cells (madeCells #[.int .u64 0] n) 24))
    go_enter Tryz.func193, Tryz.ntmps193
    go_wp2_with fail
    refine (HLW.out).mono ?_
    rintro e w1 ⟨rfl, hw1⟩
    subst hw1
    go_wp2_with fail
    refine (T1.out).mono ?_
    rintro e w1 ⟨rfl, hw1⟩
    subst hw1
    go_wp2
    clear mk e64 e64'
    go_loopw [29] (fun v29 wr => ∃ (i : Nat) (os : List Int), v29 = .int .i64 i ∧ i ≤ n ∧ ShR xs os s n i ∧ Own wr w1.heap.size (.slice (some ⟨w1.heap.size, 0, none⟩) n n) os ∧ w1.grownBy wr none) (fun v29 _ => n - (intOf v29).toNat)
    case atStart => exact ⟨0, _, rfl, by omega, ⟨List.length_replicate, ws_replicate _, fun j hj => by omega⟩, OW.out, G0.out⟩
    case round =>
      clear OW G0
      obtain ⟨i, os, rfl, hi, sm, ow, G⟩ := hrel
      have SM := lk sm
      have OS := lk ow
      have GG := lk G
      clear sm ow G
      by_cases hin : i < n
      · obtain ⟨bA, oA, rfl, cA⟩ := (HX.out.grown0 GG.out).at i (by rw [← HXL.out]; exact hin)
        obtain ⟨x, hx⟩ : ∃ x, x = rd xs i := ⟨_, rfl⟩
        obtain ⟨o, ho⟩ : ∃ y, y = rd os i := ⟨_, rfl⟩
        have bx : 0 ≤ x ∧ x < 18446744073709551616 := by rw [hx]; exact rd_w HX.out.ws i
        rw [← hx] at cA
        have fr := OS.out.free i
        have ce := OS.out.cell i (by rw [SM.out.len]; omega)
        rw [← ho] at ce
        have xn : ((x.toNat : Nat) : Int) = x := Int.toNat_of_nonneg bx.1
        obtain ⟨t, et⟩ : ∃ t : Int, t = ((x.toNat / 2 ^ s : Nat) : Int) := ⟨_, rfl⟩
        have es : x / 2 ^ s = t := by
          rw [et, ← xn, Int.toNat_natCast, Int.natCast_ediv, Int.natCast_pow]
          rfl
        obtain ⟨p1, p2, p3, p4⟩ := shl_parts (s := 64 - s) (by omega) (by omega) (w := (rd xs (i + 1)).toNat) (by have := rd_w HX.out.ws (i + 1); omega)
        rw [show 64 - (64 - s) = s by omega] at p1 p2 p3 p4
        have tlt : t.toNat < 2 ^ (64 - s) := by
          rw [et, Int.toNat_natCast, Nat.div_lt_iff_lt_mul (Nat.pow_pos (by decide)), Nat.mul_comm, pow_split2 (by omega)]
          omega
        have t0 : 0 ≤ t ∧ t < 18446744073709551616 := by
          have := Nat.div_le_self x.toNat (2 ^ s)
          rw [et]
          generalize x.toNat / 2 ^ s = D at this ⊢
          omega
        have O1 := lk (OS.out.store i t0.1 t0.2)
        by_cases hi2 : i + 1 < n
        · obtain ⟨bB, oB, eB, cB⟩ := (HX.out.grown0 GG.out).at (i + 1) (by rw [← HXL.out]; exact hi2)
          simp only [Option.some.injEq, Addr.mk.injEq, and_true] at eB
          obtain ⟨rfl, rfl⟩ := eB
          obtain ⟨y, hy⟩ : ∃ y, y = rd xs (i + 1) := ⟨_, rfl⟩
          rw [← hy] at cB p1 p2 p3 p4
          have bY : 0 ≤ y ∧ y < 18446744073709551616 := by rw [hy]; exact rd_w HX.out.ws (i + 1)
          have yn : ((y.toNat : Nat) : Int) = y := Int.toNat_of_nonneg bY.1
          obtain ⟨u, eu⟩ : ∃ u : Int, u = ((y.toNat * 2 ^ (64 - s) % 18446744073709551616 : Nat) : Int) := ⟨_, rfl⟩
          have eu2 : IntKind.u64.wrap (y * 2 ^ (64 - s)) = u := by
            have e2 : ((2 : Int) ^ (64 - s)) = ((2 ^ (64 - s) : Nat) : Int) := by rw [Int.natCast_pow]; rfl
            rw [← yn, e2, ← Int.natCast_mul, wrapM, eu]
          have or1 : bits .or .u64 t u = t + u := by
            have tn : ((t.toNat : Nat) : Int) = t := Int.toNat_of_nonneg t0.1
            rw [eu, p1, ← tn, bits_or_u64_nat _ _ (by omega) (by omega), or_parts tlt, Int.natCast_add]
          have br : 0 ≤ t + u ∧ t + u < 18446744073709551616 := by
            have tn : ((t.toNat : Nat) : Int) = t := Int.toNat_of_nonneg t0.1
            rw [eu, p1, ← tn, ← Int.natCast_add]
            omega
          have hlo : (t + u).toNat = (rd xs i).toNat / 2 ^ s + (rd xs (i + 1)).toNat * 2 ^ (64 - s) % 18446744073709551616 := by
            rw [← hx, ← hy, et, eu]; omega
          obtain ⟨r, hr⟩ : ∃ r, r = t + u := ⟨_, rfl⟩
          rw [← hr] at or1 br hlo
          have ST : Hid (ShR xs (os.set i r) s n (i + 1)) := lk ⟨by rw [List.length_set, SM.out.len], ws_set SM.out.ws _ br.1 br.2, fun j hj => by
            by_cases e : j = i
            · subst e; rw [rd_set_self (by rw [SM.out.len]; exact hin)]; exact hlo
            · rw [rd_set_ne (by omega)]; exact SM.out.lo j (by omega)⟩
          clear hx ho hy et eu xn yn hr hlo p1 p2 p3 p4 tlt
          go_wp2
          refine Canon.region_canon (by kernel_rfl) (by kernel_rfl) ?_
          go_wp2
          refine ⟨by kernel_rfl, ?_⟩
          clear es eu2 or1
          go_wp2
          go_roundw
          case rel => exact ⟨i + 1, _, by go_num, by omega, ST.out, by have := O1.out.drew.store i br.1 br.2; rw [List.set_set] at this; exact this, gb_set (p := ⟨w1.heap.size, i, none⟩) (jw (gb_set (p := ⟨w1.heap.size, i, none⟩) GG.out (Nat.le_refl _) _)) (Nat.le_refl _) _⟩
          case measure => simp [intOf]; omega
        · have ST : Hid (ShR xs (os.set i t) s n (i + 1)) := lk ⟨by rw [List.length_set, SM.out.len], ws_set SM.out.ws _ t0.1 t0.2, fun j hj => by
            by_cases e : j = i
            · subst e; rw [rd_set_self (by rw [SM.out.len]; exact hin), rd_beyond (xs := xs) (show xs.length ≤ j + 1 by rw [← HXL.out]; omega), et, Int.toNat_natCast, hx]; simp
            · rw [rd_set_ne (by omega)]; exact SM.out.lo j (by omega)⟩
          clear hx ho et xn p1 p2 p3 p4 tlt
          go_wp2
          clear es
          go_roundw
          case rel => exact ⟨i + 1, _, by go_num, by omega, ST.out, O1.out, gb_set (p := ⟨w1.heap.size, i, none⟩) GG.out (Nat.le_refl _) _⟩
          case measure => simp [intOf]; omega
      · obtain rfl : i = n := by omega
        have EV := lk (val_shr HX.out.ws hs0 hs os (by rw [SM.out.len, HXL.out]) (fun j hj => SM.out.lo j (by rw [HXL.out]; exact hj)))
        have TR := lk (ltrim_c wr _ _ _ os OS.out.sl)
        go_wp2_with fail
        refine (TR.out).mono ?_
        rintro e w3 ⟨rfl, hw3⟩
        have O3 := lk (OS.out.take (trimZ os).length (trimZ_len _))
        rw [← hw3] at O3 GG
        clear hw3
        go_wp2
        go_ret
        refine ⟨.slice (some ⟨w1.heap.size, 0, none⟩) (trimZ os).length i, rfl, ⟨_, O3.out, by rw [take_trimZ_len]; exact trimZ_nz _, ?_⟩, GG.out⟩
        rw [take_trimZ_len, val_trimZ, EV.out]
        exact congrArg (· / 2 ^ s) HV.out
def InC (w : World) (gm fk : Nat) (first : Array Value) (b : Int) (T : Nat → Option Value) (p q k : Nat) (d : Int) : Prop :=
 ∀ (W : World) (va vb : Value) (al bl : List Int) (a : Int) (c : Mc), w.grownBy W (some gm) → Mt W gm a b c → c.T = T → a + (k : Int) ≤ 1000000000000000 → Sl W va al → Sl W vb bl → al.length = p → bl.length = q → Off va gm → Off vb gm →
  Calls Tryz.prog fk (first ++ #[va, vb]) W fun e w' => ∃ x c', e = .returned x ∧ Wo w' W.heap.size x (val B64 al * val B64 bl) ∧ Mt w' gm (a + (k : Int)) b c' ∧ (c'.T = T ∧ c.v ≤ c'.v ∧ (c'.v ≤ c.v ∨ c'.v ≤ b + d)) ∧ W.grownBy w' (some gm)
theorem mul_pieces {P a0 a1 b0 b1 : Nat} : (a0 + P * a1) * (b0 + P * b1) = a0 * b0 + P * ((a0 + a1) * (b0 + b1) - (a0 * b0 + a1 * b1)) + P * P * (a1 * b1) := by
 have h : (a0 + a1) * (b0 + b1) - (a0 * b0 + a1 * b1) = a0 * b1 + a1 * b0 := by
  have : (a0 + a1) * (b0 + b1) = a0 * b0 + a1 * b1 + (a0 * b1 + a1 * b0) := by grind
  omega
 rw [h]; grind
theorem mul_pieces_le (a0 a1 b0 b1 : Nat) : a0 * b0 + a1 * b1 ≤ (a0 + a1) * (b0 + b1) := by
 have : (a0 + a1) * (b0 + b1) = a0 * b0 + a1 * b1 + (a0 * b1 + a1 * b0) := by grind
 omega
theorem mul_lt_pow {x y p q : Nat} (hx : x < B64 ^ p) (hy : y < B64 ^ q) : x * y < B64 ^ (p + q) := by
 rw [Nat.pow_add]
 exact Nat.mul_lt_mul_of_lt_of_lt hx hy
theorem jS3 (h : Nat) (f : Nat → Nat) : jS h f 3 = f 0 + B64 ^ h * f 1 + B64 ^ h * B64 ^ h * f 2 := by
 show 0 + B64 ^ (h * 0) * f 0 + B64 ^ (h * 1) * f 1 + B64 ^ (h * 2) * f 2 = _
 rw [Nat.mul_zero, Nat.pow_zero, Nat.one_mul, Nat.zero_add, Nat.mul_one, Nat.mul_comm h 2, Nat.two_mul, Nat.pow_add]
theorem val_split {xs : List Int} {h : Nat} (hh : h ≤ xs.length) : val B64 xs = val B64 (rowOf xs h) + B64 ^ h * val B64 (rowOf (xs.drop h) (xs.length - h)) := by
 rw [val_take_drop B64 xs h hh, val_rowOf, val_rowOf_all (by rw [List.length_drop]; omega)]
theorem rowOf_lt {xs : List Int} (hw : Ws xs) (n : Nat) : val B64 (rowOf xs n) < B64 ^ n := by
 rw [val_rowOf]
 have := val_lt (B := B64) (hw.dg.take n)
 rw [List.length_take] at this
 exact Nat.lt_of_lt_of_le this (Nat.pow_le_pow_right (by decide) (Nat.min_le_left _ _))
def Rw (W : World) (gm : Nat) (l : List (Value × List Int)) : Prop := ∀ (i : Nat) (p : Value × List Int), l[i]? = some p → Sl W p.1 p.2 ∧ Off p.1 gm
theorem Rw.grown {W W' : World} {gm : Nat} {l : List (Value × List Int)} (h : Rw W gm l) (g : W.grownBy W' (some gm)) : Rw W' gm l := fun i p hp => ⟨(h i p hp).1.off (h i p hp).2 g, (h i p hp).2⟩
theorem Rw.grown0 {W W' : World} {gm : Nat} {l : List (Value × List Int)} (h : Rw W gm l) (g : W.grownBy W' none) : Rw W' gm l := fun i p hp => ⟨(h i p hp).1.grown0 g, (h i p hp).2⟩
theorem Rw.nil (W : World) (gm : Nat) : Rw W gm [] := fun i p hp => by simp at hp
theorem Rw.add {W : World} {gm : Nat} {l : List (Value × List Int)} (h : Rw W gm l) {v : Value} {xs : List Int} (hs : Sl W v xs) (ho : Off v gm) : Rw W gm (l ++ [(v, xs)]) := fun i p hp => by
 by_cases hi : i < l.length
 ·rw [List.getElem?_append_left hi] at hp
  exact h i p hp
 ·rw [List.getElem?_append_right (by omega)] at hp
  cases hj : i - l.length with
  | zero => rw [hj] at hp; obtain rfl := Option.some.inj hp; exact ⟨hs, ho⟩
  | succ j => rw [hj] at hp; simp at hp
theorem Rw.at {W : World} {gm : Nat} {l : List (Value × List Int)} (h : Rw W gm l) (i : Nat) {v : Value} {xs : List Int} (hp : l[i]? = some (v, xs)) : Sl W v xs := (h i _ hp).1
theorem Rw.off {W : World} {gm : Nat} {l : List (Value × List Int)} (h : Rw W gm l) (i : Nat) {v : Value} {xs : List Int} (hp : l[i]? = some (v, xs)) : Off v gm := (h i _ hp).2
theorem Own.offg {w : World} {base g n c gm : Nat} {xs : List Int} (h : Own w base (.slice (some ⟨g, 0, none⟩) n c) xs) (hb : gm < base) : Off (.slice (some ⟨g, 0, none⟩) n c) gm := off_some (by have := h.base_le.1; omega)
theorem pts3 (w : World) (t : TypeId) (v0 v1 v2 : Value) (l0 l1 l2 : List Int) (h0 : Sl w v0 l0) (h1 : Sl w v1 l1) (h2 : Sl w v2 l2) :
  Pts (w.alloc (.cells #[v0, v1, v2] t)) (.slice (some ⟨w.heap.size, 0, none⟩) 3 3) 3 (fun j => [v0, v1, v2].getD j v0) (fun j => [l0, l1, l2].getD j []) := by
 have G := ju (jr w none) (Obj.cells #[v0, v1, v2] t)
 refine ⟨⟨_, 3, rfl, by decide, by decide, fun _ => ⟨_, 0, rfl, fun j hj => ?_⟩⟩, fun j hj => ?_⟩
 ·have C := cs_new w #[v0, v1, v2] t
  rw [Nat.zero_add]
  rcases (show j = 0 ∨ j = 1 ∨ j = 2 by omega) with rfl | rfl | rfl
  ·exact C.cell 0 rfl
  ·exact C.cell 1 rfl
  ·exact C.cell 2 rfl
 ·rcases (show j = 0 ∨ j = 1 ∨ j = 2 by omega) with rfl | rfl | rfl
  ·exact h0.grown0 G
  ·exact h1.grown0 G
  ·exact h2.grown0 G
theorem kara_c (w : World) (g2 g3 gm fk : Nat) (fs : Array Value) (a b d : Int) (c : Mc) (T : Nat → Option Value) (va vb : Value) (al bl : List Int) (k1 k2 k3 : Nat) (hc2 : w.cell? ⟨g2, 0, none⟩ = some (.pointer (some ⟨g3, 0, none⟩))) (hc3 : w.cell? ⟨g3, 0, none⟩ = some (.pointer (some ⟨gm, 0, none⟩)))
  (hm : Mt w gm a b c) (hT : c.T = T) (hd : 0 ≤ d) (hb1 : b ≤ 1000000) (ha0 : a + ((k1 + k2 + k3 : Nat) : Int) ≤ 1000000000000000) (ha : Sl w va al) (hb : Sl w vb bl) (hna : Off va gm) (hnb : Off vb gm) (hl : al.length ≤ 16384) (hl2 : bl.length ≤ 16384)
  (hx : (max al.length bl.length + 1) / 2 < min al.length bl.length)
  (ent : ∀ args w, (callFunc fk args).run Tryz.prog w = .ok (.enter fk args) w)
  (i1 : InC w gm fk fs (b + 1) T ((max al.length bl.length + 1) / 2) ((max al.length bl.length + 1) / 2) k1 d)
  (i2 : InC w gm fk fs (b + 1) T (max al.length bl.length - (max al.length bl.length + 1) / 2) (min al.length bl.length - (max al.length bl.length + 1) / 2) k2 d)
  (i3 : InC w gm fk fs (b + 1) T ((max al.length bl.length + 1) / 2 + 1) ((max al.length bl.length + 1) / 2 + 1) k3 d) :
  Calls Tryz.prog 151 #[.pointer (some ⟨g2, 0, none⟩), va, vb, .func (.func fk) fs #[]] w fun e w' => ∃ x c', e = .returned (.tuple #[x, .bool true]) ∧ Wo w' w.heap.size x (val B64 al * val B64 bl) ∧ Mt w' gm (a + ((k1 + k2 + k3 : Nat) : Int)) b c' ∧
   (c'.T = T ∧ c.v ≤ c'.v ∧ (c'.v ≤ c.v ∨ c'.v ≤ b + (1 + d))) ∧ w.grownBy w' (some gm) := by
 have hgm : gm < w.heap.size := World.block_lt_of_cell? w _ hm.c0
 have n2 : g2 ≠ gm := Md.ptr_ne hc2 hm
 have n3 : g3 ≠ gm := Md.ptr_ne hc3 hm
 obtain ⟨A, ca, rfl, hca, _⟩ := ha.form
 obtain ⟨B, cb, rfl, hcb, _⟩ := hb.form
 have EN := enter_c w gm a b c hm (by omega)
 have b0 := hm.b0
 have a0 := hm.a0
 have HEN := lk EN
 have HGM := lk hgm
 have HN := lk (And.intro n2 n3)
 have HT := lk hT
 have WA := lk ha.ws
 have WB := lk hb.ws
 have HC := lk (And.intro hc2 hc3)
 clear EN hm hgm n2 n3 hT
 obtain ⟨n, hn⟩ : ∃ n, n = al.length := ⟨_, rfl⟩
 obtain ⟨m, hm'⟩ : ∃ m, m = bl.length := ⟨_, rfl⟩
 rw [← hn, ← hm'] at hx i1 i2 i3
 rw [← hn] at ha hna hl hca ⊢
 rw [← hm'] at hb hnb hl2 hcb ⊢
 have HNL := lk hn
 have HML := lk hm'
 by_cases hlt : n < m
 ·rw [Nat.min_eq_left (by omega), Nat.max_eq_right (by omega)] at hx i2
  rw [Nat.max_eq_right (by omega)] at i1 i3
  have R0 := lk (((Rw.nil w gm).add hb hnb).add ha hna)
  clear ha hb hna hnb hn hm'
  obtain ⟨h, hh⟩ : ∃ q, q = (m + 1) / 2 := ⟨_, rfl⟩
  obtain ⟨p, hp⟩ : ∃ q, q = m - h := ⟨_, rfl⟩
  obtain ⟨q, hq⟩ : ∃ q, q = n - h := ⟨_, rfl⟩
  have e1 : ((m : Int) + 1) / 2 = (h : Int) := by omega
  have e2 : (m : Int) - (h : Int) = (p : Int) := by omega
  have e3 : (n : Int) - (h : Int) = (q : Int) := by omega
  obtain ⟨H, hH⟩ : ∃ H, H = h + 1 := ⟨_, rfl⟩
  have e4 : (h : Int) + 1 = (H : Int) := by omega
  rw [← hh, ← hH] at i3
  have HH := lk hH
  have hmh : ¬ (n : Int) ≤ (h : Int) := by omega
  rw [← hh] at i1 i2
  rw [← hp, ← hq] at i2
  have HI1 := lk i1
  have HI2 := lk i2
  have HI3 := lk i3
  have EE : Hid (h ≤ m ∧ h ≤ n ∧ p = m - h ∧ q = n - h ∧ p ≤ h ∧ q ≤ h) := lk (by omega)
  have bh : h ≤ 8192 ∧ p ≤ 8192 ∧ q ≤ 8192 ∧ H ≤ 8193 := by omega
  clear hh hp hq hH i1 i2 i3
  go_enter Tryz.func151, Tryz.ntmps151
  go_wp2_with fail
  refine (HEN.out).mono ?_
  rintro e w1 ⟨rfl, m1, mo⟩
  have M1 := lk m1
  have G1 := lk mo.gb
  have R1 := lk (R0.out.grown mo.gb)
  clear m1 mo HEN R0
  have P : Calls Tryz.prog 166 #[.slice B m cb, .int .i64 0, .int .i64 h] w1 fun e w' => ∃ g, e = .returned (.slice (some ⟨g, 0, none⟩) h h) ∧ Own w' w1.heap.size (.slice (some ⟨g, 0, none⟩) h h) (rowOf bl h) ∧ w1.grownBy w' none := piece_c w1 _ bl 0 h (R1.out.at 0 rfl) (by decide) (by omega)
  have HP := lk P
  clear P
  go_wp2_with fail
  refine (HP.out).mono ?_
  rintro e w2 ⟨ga0, rfl, o2, g2'⟩
  have B1 : Hid (gm < w1.heap.size) := lk (Nat.lt_of_lt_of_le HGM.out G1.out.size)
  have G2 := lk (jt G1.out (jn g2' (some gm)))
  have R2 := lk ((R1.out.grown0 g2').add o2.sl (o2.offg B1.out))
  have M2 := lk (M1.out.grown g2')
  clear o2 g2' G1 R1 M1 HP
  have P := piece_c w2 _ bl h p (R2.out.at 0 rfl) (by omega) (by omega)
  have HP := lk P
  clear P
  go_wp2_with fail
  refine (HP.out).mono ?_
  rintro e w3 ⟨ga1, rfl, o3, g3'⟩
  have B2 : Hid (gm < w2.heap.size) := lk (Nat.lt_of_lt_of_le HGM.out G2.out.size)
  have G3 := lk (jt G2.out (jn g3' (some gm)))
  have R3 := lk ((R2.out.grown0 g3').add o3.sl (o3.offg B2.out))
  have M3 := lk (M2.out.grown g3')
  clear o3 g3' G2 R2 M2 HP B1
  have P : Calls Tryz.prog 166 #[.slice A n ca, .int .i64 0, .int .i64 h] w3 fun e w' => ∃ g, e = .returned (.slice (some ⟨g, 0, none⟩) h h) ∧ Own w' w3.heap.size (.slice (some ⟨g, 0, none⟩) h h) (rowOf al h) ∧ w3.grownBy w' none := piece_c w3 _ al 0 h (R3.out.at 1 rfl) (by decide) (by omega)
  have HP := lk P
  clear P
  go_wp2_with fail
  refine (HP.out).mono ?_
  rintro e w4 ⟨gb0, rfl, o4, g4'⟩
  have B3 : Hid (gm < w3.heap.size) := lk (Nat.lt_of_lt_of_le HGM.out G3.out.size)
  have G4 := lk (jt G3.out (jn g4' (some gm)))
  have R4 := lk ((R3.out.grown0 g4').add o4.sl (o4.offg B3.out))
  have M4 := lk (M3.out.grown g4')
  clear o4 g4' G3 R3 M3 HP B2
  have P := piece_c w4 _ al h q (R4.out.at 1 rfl) (by omega) (by omega)
  have HP := lk P
  clear P
  go_wp2_with fail
  refine (HP.out).mono ?_
  rintro e w5 ⟨gb1, rfl, o5, g5'⟩
  have B4 : Hid (gm < w4.heap.size) := lk (Nat.lt_of_lt_of_le HGM.out G4.out.size)
  have G5 := lk (jt G4.out (jn g5' (some gm)))
  have R5 := lk ((R4.out.grown0 g5').add o5.sl (o5.offg B4.out))
  have M5 := lk (M4.out.grown g5')
  clear o5 g5' G4 R4 M4 HP B3
  obtain ⟨A0, hA0⟩ : ∃ z, z = val B64 (rowOf bl h) := ⟨_, rfl⟩
  obtain ⟨A1, hA1⟩ : ∃ z, z = val B64 (rowOf (bl.drop h) p) := ⟨_, rfl⟩
  obtain ⟨C0, hC0⟩ : ∃ z, z = val B64 (rowOf al h) := ⟨_, rfl⟩
  obtain ⟨C1, hC1⟩ : ∃ z, z = val B64 (rowOf (al.drop h) q) := ⟨_, rfl⟩
  have lim : A0 + A1 < B64 ^ H ∧ C0 + C1 < B64 ^ H := by
   have t1 := rowOf_lt (WB).out h
   have t2 := rowOf_lt (ws_drop (WB).out h) p
   have t3 := rowOf_lt (WA).out h
   have t4 := rowOf_lt (ws_drop (WA).out h) q
   have t5 : B64 ^ p ≤ B64 ^ h := Nat.pow_le_pow_right (by decide) EE.out.2.2.2.2.1
   have t6 : B64 ^ q ≤ B64 ^ h := Nat.pow_le_pow_right (by decide) EE.out.2.2.2.2.2
   have t7 : B64 ^ H = B64 ^ h * 18446744073709551616 := by rw [HH.out]; exact Nat.pow_succ ..
   rw [← hA0] at t1
   rw [← hA1] at t2
   rw [← hC0] at t3
   rw [← hC1] at t4
   have t8 : 0 < B64 ^ h := Nat.pow_pos (by decide)
   omega
  have VAL : Hid (val B64 bl = A0 + B64 ^ h * A1 ∧ val B64 al = C0 + B64 ^ h * C1) := lk (by
   have t1 := val_split (xs := bl) (h := h) (by rw [← (HML).out]; exact EE.out.1)
   have t2 := val_split (xs := al) (h := h) (by rw [← (HNL).out]; exact EE.out.2.1)
   rw [← (HML).out, ← EE.out.2.2.1, ← hA0, ← hA1] at t1
   rw [← (HNL).out, ← EE.out.2.2.2.1, ← hC0, ← hC1] at t2
   exact ⟨t1, t2⟩)
  have LIM := lk lim
  have HV : Hid (A0 = val B64 (rowOf bl h) ∧ A1 = val B64 (rowOf (bl.drop h) p) ∧ C0 = val B64 (rowOf al h) ∧ C1 = val B64 (rowOf (al.drop h) q)) := lk ⟨hA0, hA1, hC0, hC1⟩
  have AD := ladd_c w5 _ _ _ _ (R5.out.at 2 rfl) (R5.out.at 3 rfl) (by rw [rowOf_len]; omega) (by rw [rowOf_len]; omega)
  rw [← hA0, ← hA1] at AD
  have HAD := lk AD
  clear AD lim hA0 hA1 hC0 hC1
  go_wp2_with fail
  refine (HAD.out).mono ?_
  rintro e w6 ⟨s1, rfl, o6, g6'⟩
  obtain ⟨z1, sz1, lz1, vz1⟩ := o6.get LIM.out.1
  have G6 := lk (jt G5.out (jn g6' (some gm)))
  have R6 := lk (R5.out.grown0 g6')
  have M6 := lk (M5.out.grown g6')
  have WD := lk (wide_c w6 s1 z1 H sz1 (by omega))
  have V1 : Hid (val B64 (rowOf z1 H) = A0 + A1) := lk (by rw [val_rowOf_all lz1]; exact vz1)
  clear o6 g6' G5 R5 M5 HAD B4 sz1 lz1 vz1
  go_wp2_with fail
  refine (WD.out).mono ?_
  rintro e w7 ⟨gsa, rfl, o7, g7'⟩
  have B6 : Hid (gm < w6.heap.size) := lk (Nat.lt_of_lt_of_le HGM.out G6.out.size)
  have G7 := lk (jt G6.out (jn g7' (some gm)))
  have R7 := lk ((R6.out.grown0 g7').add o7.sl (o7.offg B6.out))
  have M7 := lk (M6.out.grown g7')
  have AD := ladd_c w7 _ _ _ _ (R7.out.at 4 rfl) (R7.out.at 5 rfl) (by rw [rowOf_len]; omega) (by rw [rowOf_len]; omega)
  rw [← HV.out.2.2.1, ← HV.out.2.2.2] at AD
  have HAD := lk AD
  clear AD o7 g7' G6 R6 M6 WD B6
  go_wp2_with fail
  refine (HAD.out).mono ?_
  rintro e w8 ⟨s2, rfl, o8, g8'⟩
  obtain ⟨z2, sz2, lz2, vz2⟩ := o8.get LIM.out.2
  have G8 := lk (jt G7.out (jn g8' (some gm)))
  have R8 := lk (R7.out.grown0 g8')
  have M8 := lk (M7.out.grown g8')
  have WD := lk (wide_c w8 s2 z2 H sz2 (by omega))
  have V2 : Hid (val B64 (rowOf z2 H) = C0 + C1) := lk (by rw [val_rowOf_all lz2]; exact vz2)
  clear o8 g8' G7 R7 M7 HAD sz2 lz2 vz2
  go_wp2_with fail
  refine (WD.out).mono ?_
  rintro e w9 ⟨gsb, rfl, o9, g9'⟩
  have B8 : Hid (gm < w8.heap.size) := lk (Nat.lt_of_lt_of_le HGM.out G8.out.size)
  have G9 := lk (jt G8.out (jn g9' (some gm)))
  have R9 := lk ((R8.out.grown0 g9').add o9.sl (o9.offg B8.out))
  have M9 := lk (M8.out.grown g9')
  clear o9 g9' G8 R8 M8 WD B8
  have N1 := HI1.out w9 _ _ _ _ _ _ G9.out M9.out HT.out (by omega) (R9.out.at 2 rfl) (R9.out.at 4 rfl) (rowOf_len _ _) (rowOf_len _ _) (R9.out.off 2 rfl) (R9.out.off 4 rfl)
  rw [← HV.out.1, ← HV.out.2.2.1] at N1
  have HN1 := lk N1
  clear N1 HI1
  go_wp2_with fail
  refine (HN1.out).mono ?_
  rintro e w10 ⟨lo, c1, rfl, o10, m10, cc1, g10'⟩
  have B9 : Hid (gm < w9.heap.size) := lk (Nat.lt_of_lt_of_le HGM.out G9.out.size)
  have G10 := lk (jt G9.out g10')
  have R10 := lk (R9.out.grown g10')
  have M10 := lk m10
  have WL := lk o10
  have CD1 := lk cc1
  clear o10 m10 cc1 g10' G9 R9 M9 HN1
  have N2 := HI2.out w10 _ _ _ _ _ _ G10.out M10.out CD1.out.1 (by omega) (R10.out.at 3 rfl) (R10.out.at 5 rfl) (rowOf_len _ _) (rowOf_len _ _) (R10.out.off 3 rfl) (R10.out.off 5 rfl)
  rw [← HV.out.2.1, ← HV.out.2.2.2] at N2
  have HN2 := lk N2
  clear N2 HI2
  go_wp2_with fail
  refine (HN2.out).mono ?_
  rintro e w11 ⟨hi, c2, rfl, o11, m11, cc2, g11'⟩
  have B10 : Hid (gm < w10.heap.size) := lk (Nat.lt_of_lt_of_le HGM.out G10.out.size)
  have G11 := lk (jt G10.out g11')
  have R11 := lk (R10.out.grown g11')
  have M11 := lk m11
  have WL2 := lk (WL.out.past B9.out g11')
  have WH := lk o11
  have CD2 := lk cc2
  clear o11 m11 cc2 g11' G10 R10 M10 HN2 WL
  have N3 := HI3.out w11 _ _ _ _ _ _ G11.out M11.out CD2.out.1 (by omega) (R11.out.at 6 rfl) (R11.out.at 7 rfl) (rowOf_len _ _) (rowOf_len _ _) (R11.out.off 6 rfl) (R11.out.off 7 rfl)
  rw [V1.out, V2.out] at N3
  have HN3 := lk N3
  clear N3 HI3
  go_wp2_with fail
  refine (HN3.out).mono ?_
  rintro e w12 ⟨bo, c3, rfl, o12, m12, cc3, g12'⟩
  clear ent
  have B11 : Hid (gm < w11.heap.size) := lk (Nat.lt_of_lt_of_le HGM.out G11.out.size)
  have G12 := lk (jt G11.out g12')
  have WL3 := lk (WL2.out.past B9.out g12')
  have WH3 := lk (WH.out.past B10.out g12')
  have WB3 := lk o12
  have CD3 := lk cc3
  have m12' : Mt w12 gm (a + ((k1 + k2 + k3 : Nat) : Int)) (b + 1) c3 := by
   have e : a + (k1 : Int) + (k2 : Int) + (k3 : Int) = a + ((k1 + k2 + k3 : Nat) : Int) := by omega
   rw [← e]; exact m12
  have LV := leave_c w12 gm _ _ c3 m12' (by omega)
  have eb : (if b + 1 > 0 then b + 1 - 1 else 0) = b := by split <;> omega
  rw [eb] at LV
  have HLV := lk LV
  clear LV o12 m12 m12' cc3 g12' G11 R11 M11 HN3 WL2 WH eb hc2 hc3
  have hc2 := gb_cell G12.out HC.out.1 (by have := HN.out.1; simpa using this)
  have hc3 := gb_cell G12.out HC.out.2 (by have := HN.out.2; simpa using this)
  go_wp2_with fail
  refine (HLV.out).mono ?_
  rintro e w13 ⟨rfl, m13, mo⟩
  have G13 := lk (jt G12.out mo.gb)
  have WL4 := lk (WL3.out.past B9.out mo.gb)
  have WH4 := lk (WH3.out.past B10.out mo.gb)
  have WB4 := lk (WB3.out.past B11.out mo.gb)
  have M13 := lk m13
  clear m13 mo HLV WL3 WH3 WB3 G12 hc2 hc3
  have bnd : Hid (A0 * C0 < B64 ^ (H + H) ∧ A1 * C1 < B64 ^ (H + H) ∧ (A0 + A1) * (C0 + C1) < B64 ^ (H + H) ∧ A0 * C0 + A1 * C1 ≤ (A0 + A1) * (C0 + C1)) := lk (by
   have t1 := mul_lt_pow LIM.out.1 LIM.out.2
   have t2 := mul_pieces_le A0 A1 C0 C1
   omega)
  obtain ⟨zl, sl, ll, vl⟩ := WL4.out.get bnd.out.1
  obtain ⟨zh, sh, lh, vh⟩ := WH4.out.get bnd.out.2.1
  obtain ⟨zb, sb, lb, vb⟩ := WB4.out.get bnd.out.2.2.1
  have AD := ladd_c w13 _ _ _ _ sl sh (by omega) (by omega)
  rw [vl, vh] at AD
  have HAD := lk AD
  have SL := lk (And.intro sl (And.intro ll vl))
  have SH := lk (And.intro sh (And.intro lh vh))
  have SB := lk (And.intro sb (And.intro lb vb))
  clear AD sl ll vl sh lh vh sb lb vb WL4 WH4 WB4
  go_wp2_with fail
  refine (HAD.out).mono ?_
  rintro e w14 ⟨s3, rfl, o14, g14'⟩
  obtain ⟨zs, ss, ls, vs⟩ := o14.get (N := H + H) (by have := bnd.out; omega)
  have SU := lsub_c w14 bo s3 zb zs (SB.out.1.grown0 g14') ss (by have := SB.out.2.1; omega) (by rw [vs, SB.out.2.2]; exact bnd.out.2.2.2)
  rw [vs, SB.out.2.2] at SU
  have HSU := lk SU
  have G14 := lk g14'
  clear SU o14 g14' ss ls vs HAD
  go_wp2_with fail
  refine (HSU.out).mono ?_
  rintro e w15 ⟨mi, rfl, o15, g15'⟩
  obtain ⟨zm, sm, lm, vm⟩ := o15.get (N := H + H) (by have := bnd.out; omega)
  have G15 := lk (jt G14.out g15')
  obtain ⟨Fl, fl, rfl, _, _⟩ := SL.out.1.form
  obtain ⟨Fh, fh, rfl, _, _⟩ := SH.out.1.form
  obtain ⟨Fm, fm, rfl, _, _⟩ := sm.form
  have PT := pts3 w15 184 _ _ _ zl zm zh (SL.out.1.grown0 G15.out) sm (SH.out.1.grown0 G15.out)
  have GP := ju (jr w15 none) (Obj.cells #[.slice Fl zl.length fl, .slice Fm zm.length fm, .slice Fh zh.length fh] 184)
  have JN := ljoin_c _ h 3 _ _ _ PT (by omega) (by decide) (fun j hj => by
   have b1 := SL.out.2.1
   have b2 := SH.out.2.1
   rcases (show j = 0 ∨ j = 1 ∨ j = 2 by omega) with rfl | rfl | rfl
   ·show zl.length ≤ 100000; omega
   ·show zm.length ≤ 100000; omega
   ·show zh.length ≤ 100000; omega)
  rw [jS3] at JN
  have ej : val B64 (([zl, zm, zh] : List (List Int)).getD 0 []) + B64 ^ h * val B64 (([zl, zm, zh] : List (List Int)).getD 1 []) + B64 ^ h * B64 ^ h * val B64 (([zl, zm, zh] : List (List Int)).getD 2 []) = val B64 bl * val B64 al := by
   show val B64 zl + B64 ^ h * val B64 zm + B64 ^ h * B64 ^ h * val B64 zh = _
   rw [SL.out.2.2, vm, SH.out.2.2, VAL.out.1, VAL.out.2]
   exact mul_pieces.symm
  rw [ej] at JN
  have HJN := lk JN
  have HGP := lk (jt G15.out GP)
  clear JN ej PT GP sm lm vm o15 g15' HSU
  go_wp2_with fail
  refine (HJN.out).mono ?_
  rintro e w16 ⟨x, rfl, o16, g16'⟩
  have KK : Hid (Wo w16 w.heap.size x (val B64 bl * val B64 al) ∧ Mt w16 gm (a + ((k1 + k2 + k3 : Nat) : Int)) b c3 ∧ w.grownBy w16 (some gm)) := lk
   ⟨o16.mono (Nat.le_trans G13.out.size HGP.out.size), M13.out.grown (jt HGP.out g16'), jt G13.out (jn (jt HGP.out g16') (some gm))⟩
  have CC : Hid (c3.T = T ∧ c.v ≤ c3.v ∧ (c3.v ≤ c.v ∨ c3.v ≤ b + (1 + d))) := lk (by
   have t1 := CD1.out
   have t2 := CD2.out
   have t3 := CD3.out
   have t4 : (c.up (b + 1)).v = if b + 1 > c.v then b + 1 else c.v := rfl
   refine ⟨t3.1, ?_⟩
   split at t4 <;> omega)
  clear o16 g16' HJN
  go_wp2
  go_ret2
  exact ⟨x, c3, rfl, by first | exact KK.out.1 | (rw [Nat.mul_comm]; exact KK.out.1), KK.out.2.1, CC.out, KK.out.2.2⟩
 ·rw [Nat.min_eq_right (by omega), Nat.max_eq_left (by omega)] at hx i2
  rw [Nat.max_eq_left (by omega)] at i1 i3
  have R0 := lk (((Rw.nil w gm).add ha hna).add hb hnb)
  clear ha hb hna hnb hn hm'
  obtain ⟨h, hh⟩ : ∃ q, q = (n + 1) / 2 := ⟨_, rfl⟩
  obtain ⟨p, hp⟩ : ∃ q, q = n - h := ⟨_, rfl⟩
  obtain ⟨q, hq⟩ : ∃ q, q = m - h := ⟨_, rfl⟩
  have e1 : ((n : Int) + 1) / 2 = (h : Int) := by omega
  have e2 : (n : Int) - (h : Int) = (p : Int) := by omega
  have e3 : (m : Int) - (h : Int) = (q : Int) := by omega
  obtain ⟨H, hH⟩ : ∃ H, H = h + 1 := ⟨_, rfl⟩
  have e4 : (h : Int) + 1 = (H : Int) := by omega
  rw [← hh, ← hH] at i3
  have HH := lk hH
  have hmh : ¬ (m : Int) ≤ (h : Int) := by omega
  rw [← hh] at i1 i2
  rw [← hp, ← hq] at i2
  have HI1 := lk i1
  have HI2 := lk i2
  have HI3 := lk i3
  have EE : Hid (h ≤ n ∧ h ≤ m ∧ p = n - h ∧ q = m - h ∧ p ≤ h ∧ q ≤ h) := lk (by omega)
  have bh : h ≤ 8192 ∧ p ≤ 8192 ∧ q ≤ 8192 ∧ H ≤ 8193 := by omega
  clear hh hp hq hH i1 i2 i3
  go_enter Tryz.func151, Tryz.ntmps151
  go_wp2_with fail
  refine (HEN.out).mono ?_
  rintro e w1 ⟨rfl, m1, mo⟩
  have M1 := lk m1
  have G1 := lk mo.gb
  have R1 := lk (R0.out.grown mo.gb)
  clear m1 mo HEN R0
  have P : Calls Tryz.prog 166 #[.slice A n ca, .int .i64 0, .int .i64 h] w1 fun e w' => ∃ g, e = .returned (.slice (some ⟨g, 0, none⟩) h h) ∧ Own w' w1.heap.size (.slice (some ⟨g, 0, none⟩) h h) (rowOf al h) ∧ w1.grownBy w' none := piece_c w1 _ al 0 h (R1.out.at 0 rfl) (by decide) (by omega)
  have HP := lk P
  clear P
  go_wp2_with fail
  refine (HP.out).mono ?_
  rintro e w2 ⟨ga0, rfl, o2, g2'⟩
  have B1 : Hid (gm < w1.heap.size) := lk (Nat.lt_of_lt_of_le HGM.out G1.out.size)
  have G2 := lk (jt G1.out (jn g2' (some gm)))
  have R2 := lk ((R1.out.grown0 g2').add o2.sl (o2.offg B1.out))
  have M2 := lk (M1.out.grown g2')
  clear o2 g2' G1 R1 M1 HP
  have P := piece_c w2 _ al h p (R2.out.at 0 rfl) (by omega) (by omega)
  have HP := lk P
  clear P
  go_wp2_with fail
  refine (HP.out).mono ?_
  rintro e w3 ⟨ga1, rfl, o3, g3'⟩
  have B2 : Hid (gm < w2.heap.size) := lk (Nat.lt_of_lt_of_le HGM.out G2.out.size)
  have G3 := lk (jt G2.out (jn g3' (some gm)))
  have R3 := lk ((R2.out.grown0 g3').add o3.sl (o3.offg B2.out))
  have M3 := lk (M2.out.grown g3')
  clear o3 g3' G2 R2 M2 HP B1
  have P : Calls Tryz.prog 166 #[.slice B m cb, .int .i64 0, .int .i64 h] w3 fun e w' => ∃ g, e = .returned (.slice (some ⟨g, 0, none⟩) h h) ∧ Own w' w3.heap.size (.slice (some ⟨g, 0, none⟩) h h) (rowOf bl h) ∧ w3.grownBy w' none := piece_c w3 _ bl 0 h (R3.out.at 1 rfl) (by decide) (by omega)
  have HP := lk P
  clear P
  go_wp2_with fail
  refine (HP.out).mono ?_
  rintro e w4 ⟨gb0, rfl, o4, g4'⟩
  have B3 : Hid (gm < w3.heap.size) := lk (Nat.lt_of_lt_of_le HGM.out G3.out.size)
  have G4 := lk (jt G3.out (jn g4' (some gm)))
  have R4 := lk ((R3.out.grown0 g4').add o4.sl (o4.offg B3.out))
  have M4 := lk (M3.out.grown g4')
  clear o4 g4' G3 R3 M3 HP B2
  have P := piece_c w4 _ bl h q (R4.out.at 1 rfl) (by omega) (by omega)
  have HP := lk P
  clear P
  go_wp2_with fail
  refine (HP.out).mono ?_
  rintro e w5 ⟨gb1, rfl, o5, g5'⟩
  have B4 : Hid (gm < w4.heap.size) := lk (Nat.lt_of_lt_of_le HGM.out G4.out.size)
  have G5 := lk (jt G4.out (jn g5' (some gm)))
  have R5 := lk ((R4.out.grown0 g5').add o5.sl (o5.offg B4.out))
  have M5 := lk (M4.out.grown g5')
  clear o5 g5' G4 R4 M4 HP B3
  obtain ⟨A0, hA0⟩ : ∃ z, z = val B64 (rowOf al h) := ⟨_, rfl⟩
  obtain ⟨A1, hA1⟩ : ∃ z, z = val B64 (rowOf (al.drop h) p) := ⟨_, rfl⟩
  obtain ⟨C0, hC0⟩ : ∃ z, z = val B64 (rowOf bl h) := ⟨_, rfl⟩
  obtain ⟨C1, hC1⟩ : ∃ z, z = val B64 (rowOf (bl.drop h) q) := ⟨_, rfl⟩
  have lim : A0 + A1 < B64 ^ H ∧ C0 + C1 < B64 ^ H := by
   have t1 := rowOf_lt (WA).out h
   have t2 := rowOf_lt (ws_drop (WA).out h) p
   have t3 := rowOf_lt (WB).out h
   have t4 := rowOf_lt (ws_drop (WB).out h) q
   have t5 : B64 ^ p ≤ B64 ^ h := Nat.pow_le_pow_right (by decide) EE.out.2.2.2.2.1
   have t6 : B64 ^ q ≤ B64 ^ h := Nat.pow_le_pow_right (by decide) EE.out.2.2.2.2.2
   have t7 : B64 ^ H = B64 ^ h * 18446744073709551616 := by rw [HH.out]; exact Nat.pow_succ ..
   rw [← hA0] at t1
   rw [← hA1] at t2
   rw [← hC0] at t3
   rw [← hC1] at t4
   have t8 : 0 < B64 ^ h := Nat.pow_pos (by decide)
   omega
  have VAL : Hid (val B64 al = A0 + B64 ^ h * A1 ∧ val B64 bl = C0 + B64 ^ h * C1) := lk (by
   have t1 := val_split (xs := al) (h := h) (by rw [← (HNL).out]; exact EE.out.1)
   have t2 := val_split (xs := bl) (h := h) (by rw [← (HML).out]; exact EE.out.2.1)
   rw [← (HNL).out, ← EE.out.2.2.1, ← hA0, ← hA1] at t1
   rw [← (HML).out, ← EE.out.2.2.2.1, ← hC0, ← hC1] at t2
   exact ⟨t1, t2⟩)
  have LIM := lk lim
  have HV : Hid (A0 = val B64 (rowOf al h) ∧ A1 = val B64 (rowOf (al.drop h) p) ∧ C0 = val B64 (rowOf bl h) ∧ C1 = val B64 (rowOf (bl.drop h) q)) := lk ⟨hA0, hA1, hC0, hC1⟩
  have AD := ladd_c w5 _ _ _ _ (R5.out.at 2 rfl) (R5.out.at 3 rfl) (by rw [rowOf_len]; omega) (by rw [rowOf_len]; omega)
  rw [← hA0, ← hA1] at AD
  have HAD := lk AD
  clear AD lim hA0 hA1 hC0 hC1
  go_wp2_with fail
  refine (HAD.out).mono ?_
  rintro e w6 ⟨s1, rfl, o6, g6'⟩
  obtain ⟨z1, sz1, lz1, vz1⟩ := o6.get LIM.out.1
  have G6 := lk (jt G5.out (jn g6' (some gm)))
  have R6 := lk (R5.out.grown0 g6')
  have M6 := lk (M5.out.grown g6')
  have WD := lk (wide_c w6 s1 z1 H sz1 (by omega))
  have V1 : Hid (val B64 (rowOf z1 H) = A0 + A1) := lk (by rw [val_rowOf_all lz1]; exact vz1)
  clear o6 g6' G5 R5 M5 HAD B4 sz1 lz1 vz1
  go_wp2_with fail
  refine (WD.out).mono ?_
  rintro e w7 ⟨gsa, rfl, o7, g7'⟩
  have B6 : Hid (gm < w6.heap.size) := lk (Nat.lt_of_lt_of_le HGM.out G6.out.size)
  have G7 := lk (jt G6.out (jn g7' (some gm)))
  have R7 := lk ((R6.out.grown0 g7').add o7.sl (o7.offg B6.out))
  have M7 := lk (M6.out.grown g7')
  have AD := ladd_c w7 _ _ _ _ (R7.out.at 4 rfl) (R7.out.at 5 rfl) (by rw [rowOf_len]; omega) (by rw [rowOf_len]; omega)
  rw [← HV.out.2.2.1, ← HV.out.2.2.2] at AD
  have HAD := lk AD
  clear AD o7 g7' G6 R6 M6 WD B6
  go_wp2_with fail
  refine (HAD.out).mono ?_
  rintro e w8 ⟨s2, rfl, o8, g8'⟩
  obtain ⟨z2, sz2, lz2, vz2⟩ := o8.get LIM.out.2
  have G8 := lk (jt G7.out (jn g8' (some gm)))
  have R8 := lk (R7.out.grown0 g8')
  have M8 := lk (M7.out.grown g8')
  have WD := lk (wide_c w8 s2 z2 H sz2 (by omega))
  have V2 : Hid (val B64 (rowOf z2 H) = C0 + C1) := lk (by rw [val_rowOf_all lz2]; exact vz2)
  clear o8 g8' G7 R7 M7 HAD sz2 lz2 vz2
  go_wp2_with fail
  refine (WD.out).mono ?_
  rintro e w9 ⟨gsb, rfl, o9, g9'⟩
  have B8 : Hid (gm < w8.heap.size) := lk (Nat.lt_of_lt_of_le HGM.out G8.out.size)
  have G9 := lk (jt G8.out (jn g9' (some gm)))
  have R9 := lk ((R8.out.grown0 g9').add o9.sl (o9.offg B8.out))
  have M9 := lk (M8.out.grown g9')
  clear o9 g9' G8 R8 M8 WD B8
  have N1 := HI1.out w9 _ _ _ _ _ _ G9.out M9.out HT.out (by omega) (R9.out.at 2 rfl) (R9.out.at 4 rfl) (rowOf_len _ _) (rowOf_len _ _) (R9.out.off 2 rfl) (R9.out.off 4 rfl)
  rw [← HV.out.1, ← HV.out.2.2.1] at N1
  have HN1 := lk N1
  clear N1 HI1
  go_wp2_with fail
  refine (HN1.out).mono ?_
  rintro e w10 ⟨lo, c1, rfl, o10, m10, cc1, g10'⟩
  have B9 : Hid (gm < w9.heap.size) := lk (Nat.lt_of_lt_of_le HGM.out G9.out.size)
  have G10 := lk (jt G9.out g10')
  have R10 := lk (R9.out.grown g10')
  have M10 := lk m10
  have WL := lk o10
  have CD1 := lk cc1
  clear o10 m10 cc1 g10' G9 R9 M9 HN1
  have N2 := HI2.out w10 _ _ _ _ _ _ G10.out M10.out CD1.out.1 (by omega) (R10.out.at 3 rfl) (R10.out.at 5 rfl) (rowOf_len _ _) (rowOf_len _ _) (R10.out.off 3 rfl) (R10.out.off 5 rfl)
  rw [← HV.out.2.1, ← HV.out.2.2.2] at N2
  have HN2 := lk N2
  clear N2 HI2
  go_wp2_with fail
  refine (HN2.out).mono ?_
  rintro e w11 ⟨hi, c2, rfl, o11, m11, cc2, g11'⟩
  have B10 : Hid (gm < w10.heap.size) := lk (Nat.lt_of_lt_of_le HGM.out G10.out.size)
  have G11 := lk (jt G10.out g11')
  have R11 := lk (R10.out.grown g11')
  have M11 := lk m11
  have WL2 := lk (WL.out.past B9.out g11')
  have WH := lk o11
  have CD2 := lk cc2
  clear o11 m11 cc2 g11' G10 R10 M10 HN2 WL
  have N3 := HI3.out w11 _ _ _ _ _ _ G11.out M11.out CD2.out.1 (by omega) (R11.out.at 6 rfl) (R11.out.at 7 rfl) (rowOf_len _ _) (rowOf_len _ _) (R11.out.off 6 rfl) (R11.out.off 7 rfl)
  rw [V1.out, V2.out] at N3
  have HN3 := lk N3
  clear N3 HI3
  go_wp2_with fail
  refine (HN3.out).mono ?_
  rintro e w12 ⟨bo, c3, rfl, o12, m12, cc3, g12'⟩
  clear ent
  have B11 : Hid (gm < w11.heap.size) := lk (Nat.lt_of_lt_of_le HGM.out G11.out.size)
  have G12 := lk (jt G11.out g12')
  have WL3 := lk (WL2.out.past B9.out g12')
  have WH3 := lk (WH.out.past B10.out g12')
  have WB3 := lk o12
  have CD3 := lk cc3
  have m12' : Mt w12 gm (a + ((k1 + k2 + k3 : Nat) : Int)) (b + 1) c3 := by
   have e : a + (k1 : Int) + (k2 : Int) + (k3 : Int) = a + ((k1 + k2 + k3 : Nat) : Int) := by omega
   rw [← e]; exact m12
  have LV := leave_c w12 gm _ _ c3 m12' (by omega)
  have eb : (if b + 1 > 0 then b + 1 - 1 else 0) = b := by split <;> omega
  rw [eb] at LV
  have HLV := lk LV
  clear LV o12 m12 m12' cc3 g12' G11 R11 M11 HN3 WL2 WH eb hc2 hc3
  have hc2 := gb_cell G12.out HC.out.1 (by have := HN.out.1; simpa using this)
  have hc3 := gb_cell G12.out HC.out.2 (by have := HN.out.2; simpa using this)
  go_wp2_with fail
  refine (HLV.out).mono ?_
  rintro e w13 ⟨rfl, m13, mo⟩
  have G13 := lk (jt G12.out mo.gb)
  have WL4 := lk (WL3.out.past B9.out mo.gb)
  have WH4 := lk (WH3.out.past B10.out mo.gb)
  have WB4 := lk (WB3.out.past B11.out mo.gb)
  have M13 := lk m13
  clear m13 mo HLV WL3 WH3 WB3 G12 hc2 hc3
  have bnd : Hid (A0 * C0 < B64 ^ (H + H) ∧ A1 * C1 < B64 ^ (H + H) ∧ (A0 + A1) * (C0 + C1) < B64 ^ (H + H) ∧ A0 * C0 + A1 * C1 ≤ (A0 + A1) * (C0 + C1)) := lk (by
   have t1 := mul_lt_pow LIM.out.1 LIM.out.2
   have t2 := mul_pieces_le A0 A1 C0 C1
   omega)
  obtain ⟨zl, sl, ll, vl⟩ := WL4.out.get bnd.out.1
  obtain ⟨zh, sh, lh, vh⟩ := WH4.out.get bnd.out.2.1
  obtain ⟨zb, sb, lb, vb⟩ := WB4.out.get bnd.out.2.2.1
  have AD := ladd_c w13 _ _ _ _ sl sh (by omega) (by omega)
  rw [vl, vh] at AD
  have HAD := lk AD
  have SL := lk (And.intro sl (And.intro ll vl))
  have SH := lk (And.intro sh (And.intro lh vh))
  have SB := lk (And.intro sb (And.intro lb vb))
  clear AD sl ll vl sh lh vh sb lb vb WL4 WH4 WB4
  go_wp2_with fail
  refine (HAD.out).mono ?_
  rintro e w14 ⟨s3, rfl, o14, g14'⟩
  obtain ⟨zs, ss, ls, vs⟩ := o14.get (N := H + H) (by have := bnd.out; omega)
  have SU := lsub_c w14 bo s3 zb zs (SB.out.1.grown0 g14') ss (by have := SB.out.2.1; omega) (by rw [vs, SB.out.2.2]; exact bnd.out.2.2.2)
  rw [vs, SB.out.2.2] at SU
  have HSU := lk SU
  have G14 := lk g14'
  clear SU o14 g14' ss ls vs HAD
  go_wp2_with fail
  refine (HSU.out).mono ?_
  rintro e w15 ⟨mi, rfl, o15, g15'⟩
  obtain ⟨zm, sm, lm, vm⟩ := o15.get (N := H + H) (by have := bnd.out; omega)
  have G15 := lk (jt G14.out g15')
  obtain ⟨Fl, fl, rfl, _, _⟩ := SL.out.1.form
  obtain ⟨Fh, fh, rfl, _, _⟩ := SH.out.1.form
  obtain ⟨Fm, fm, rfl, _, _⟩ := sm.form
  have PT := pts3 w15 184 _ _ _ zl zm zh (SL.out.1.grown0 G15.out) sm (SH.out.1.grown0 G15.out)
  have GP := ju (jr w15 none) (Obj.cells #[.slice Fl zl.length fl, .slice Fm zm.length fm, .slice Fh zh.length fh] 184)
  have JN := ljoin_c _ h 3 _ _ _ PT (by omega) (by decide) (fun j hj => by
   have b1 := SL.out.2.1
   have b2 := SH.out.2.1
   rcases (show j = 0 ∨ j = 1 ∨ j = 2 by omega) with rfl | rfl | rfl
   ·show zl.length ≤ 100000; omega
   ·show zm.length ≤ 100000; omega
   ·show zh.length ≤ 100000; omega)
  rw [jS3] at JN
  have ej : val B64 (([zl, zm, zh] : List (List Int)).getD 0 []) + B64 ^ h * val B64 (([zl, zm, zh] : List (List Int)).getD 1 []) + B64 ^ h * B64 ^ h * val B64 (([zl, zm, zh] : List (List Int)).getD 2 []) = val B64 al * val B64 bl := by
   show val B64 zl + B64 ^ h * val B64 zm + B64 ^ h * B64 ^ h * val B64 zh = _
   rw [SL.out.2.2, vm, SH.out.2.2, VAL.out.1, VAL.out.2]
   exact mul_pieces.symm
  rw [ej] at JN
  have HJN := lk JN
  have HGP := lk (jt G15.out GP)
  clear JN ej PT GP sm lm vm o15 g15' HSU
  go_wp2_with fail
  refine (HJN.out).mono ?_
  rintro e w16 ⟨x, rfl, o16, g16'⟩
  have KK : Hid (Wo w16 w.heap.size x (val B64 al * val B64 bl) ∧ Mt w16 gm (a + ((k1 + k2 + k3 : Nat) : Int)) b c3 ∧ w.grownBy w16 (some gm)) := lk
   ⟨o16.mono (Nat.le_trans G13.out.size HGP.out.size), M13.out.grown (jt HGP.out g16'), jt G13.out (jn (jt HGP.out g16') (some gm))⟩
  have CC : Hid (c3.T = T ∧ c.v ≤ c3.v ∧ (c3.v ≤ c.v ∨ c3.v ≤ b + (1 + d))) := lk (by
   have t1 := CD1.out
   have t2 := CD2.out
   have t3 := CD3.out
   have t4 : (c.up (b + 1)).v = if b + 1 > c.v then b + 1 else c.v := rfl
   refine ⟨t3.1, ?_⟩
   split at t4 <;> omega)
  clear o16 g16' HJN
  go_wp2
  go_ret2
  exact ⟨x, c3, rfl, by first | exact KK.out.1 | (rw [Nat.mul_comm]; exact KK.out.1), KK.out.2.1, CC.out, KK.out.2.2⟩
structure Td (xs os : List Int) (n i : Nat) (c : Int) : Prop where
 c0 : 0 ≤ c
 c1 : c ≤ 3
 len : os.length = n
 ws : Ws os
 hi : ∀ j, i ≤ j → rd os j = rd xs j
 v : 3 * val 18446744073709551616 (os.take i) = val 18446744073709551616 (xs.take i) + 18446744073709551616 ^ i * c.toNat
theorem Td.start {xs : List Int} (h : Ws xs) : Td xs xs xs.length 0 0 := ⟨by decide, by decide, rfl, h, fun _ _ => rfl, by simp [val]⟩
theorem td_words {w c x d q h : Int} (hw : 0 ≤ w ∧ w < 18446744073709551616) (hc0 : 0 ≤ c) (hc1 : c ≤ 3) (ex : x = (w - c) % 18446744073709551616) (ed : d = -((w - c) / 18446744073709551616)) (eq : q = x * 12297829382473034411 % 18446744073709551616) (eh : h = q * 3 / 18446744073709551616) :
  (0 ≤ x ∧ x < 18446744073709551616) ∧ (0 ≤ d ∧ d ≤ 1) ∧ (0 ≤ q ∧ q < 18446744073709551616) ∧ (0 ≤ h ∧ h ≤ 2) ∧ 3 * q + c = w + 18446744073709551616 * (h + d) := by
 have x0 : 0 ≤ x ∧ x < 18446744073709551616 := by rw [ex]; exact ⟨Int.emod_nonneg _ (by decide), Int.emod_lt_of_pos _ (by decide)⟩
 have q0 : 0 ≤ q ∧ q < 18446744073709551616 := by rw [eq]; exact ⟨Int.emod_nonneg _ (by decide), Int.emod_lt_of_pos _ (by decide)⟩
 have xd : x = w - c + 18446744073709551616 * d := by
  have := Int.mul_ediv_add_emod (w - c) 18446744073709551616
  rw [← ex] at this
  rw [ed]; omega
 have d0 : 0 ≤ d ∧ d ≤ 1 := by omega
 obtain ⟨t, ht⟩ : ∃ t, t = x * 12297829382473034411 / 18446744073709551616 := ⟨_, rfl⟩
 have e1 : 18446744073709551616 * t + q = x * 12297829382473034411 := by
  have := Int.mul_ediv_add_emod (x * 12297829382473034411) 18446744073709551616
  rw [← eq, ← ht] at this
  exact this
 clear ht eq ex ed
 obtain ⟨r, hr⟩ : ∃ r, r = q * 3 % 18446744073709551616 := ⟨_, rfl⟩
 have e2 : 18446744073709551616 * h + r = q * 3 := by
  have := Int.mul_ediv_add_emod (q * 3) 18446744073709551616
  rw [← eh, ← hr] at this
  exact this
 have r0 : 0 ≤ r ∧ r < 18446744073709551616 := by rw [hr]; exact ⟨Int.emod_nonneg _ (by decide), Int.emod_lt_of_pos _ (by decide)⟩
 clear hr eh
 have e3 : q * 3 - x = 18446744073709551616 * (2 * x - 3 * t) := by omega
 obtain ⟨s, hs⟩ : ∃ s, s = 2 * x - 3 * t - h := ⟨_, rfl⟩
 have e4 : r - x = 18446744073709551616 * s := by omega
 have s0 : s = 0 := by clear e1 e2 e3 hs; omega
 have rx : r = x := by rw [s0] at e4; omega
 clear e1 e3 e4 hs s0
 refine ⟨x0, d0, q0, ?_, ?_⟩
 ·omega
 ·omega
theorem td_arith {X Q P q c w t : Nat} (hv : 3 * Q = X + P * c) (k : 3 * q + c = w + 18446744073709551616 * t) : 3 * (Q + P * q) = X + P * w + P * 18446744073709551616 * t := by
 have h := congrArg (P * ·) k
 simp only [Nat.mul_add] at h
 rw [Nat.mul_assoc P 18446744073709551616 t, Nat.mul_add, Nat.mul_left_comm 3 P q]
 omega
theorem Td.step {xs os : List Int} {n i : Nat} {c w q c' : Int} (h : Td xs os n i c) (hx : Ws xs) (hi : i < n) (ew : w = rd xs i) (bq : 0 ≤ q ∧ q < 18446744073709551616) (bc : 0 ≤ c' ∧ c' ≤ 3) (e : 3 * q + c = w + 18446744073709551616 * c') : Td xs (os.set i q) n (i + 1) c' := by
 have w0 := rd_w hx i
 rw [← ew] at w0
 have c0 := h.c0
 have hk : i < os.length := by rw [h.len]; exact hi
 refine ⟨bc.1, bc.2, by rw [List.length_set, h.len], ws_set h.ws _ bq.1 bq.2, fun j hj => by rw [rd_set_ne (by omega)]; exact h.hi j (by omega), ?_⟩
 rw [val_take_any 18446744073709551616 xs i, ← ew, take_set hk, val_append, val_one, List.length_take, Nat.min_eq_left (by omega), Nat.pow_succ]
 have hk2 : 3 * q.toNat + c.toNat = w.toNat + 18446744073709551616 * c'.toNat := by
  obtain ⟨Q, rfl⟩ := Int.eq_ofNat_of_zero_le bq.1
  obtain ⟨C, rfl⟩ := Int.eq_ofNat_of_zero_le c0
  obtain ⟨W, rfl⟩ := Int.eq_ofNat_of_zero_le w0.1
  obtain ⟨D, rfl⟩ := Int.eq_ofNat_of_zero_le bc.1
  clear h hx ew hk
  simp only [Int.toNat_natCast]
  omega
 exact td_arith h.v hk2
theorem three_pow (n : Nat) : (18446744073709551616 : Nat) ^ n % 3 = 1 := by
 induction n with
 | zero => rfl
 | succ n ih => rw [Nat.pow_succ, Nat.mul_mod, ih]
theorem Td.last {xs os : List Int} {n : Nat} {c : Int} (h : Td xs os n n c) (hx : xs.length ≤ n) (hd : val 18446744073709551616 xs % 3 = 0) : c = 0 ∧ val 18446744073709551616 os = val 18446744073709551616 xs / 3 := by
 have e := h.v
 rw [List.take_of_length_le hx, List.take_of_length_le (by rw [h.len]; exact Nat.le_refl _)] at e
 have hb := val_lt (B := 18446744073709551616) h.ws.dg
 rw [h.len] at hb
 have c0 := h.c0
 have c1 := h.c1
 have hp := three_pow n
 obtain ⟨C, hC⟩ : ∃ C, C = c.toNat := ⟨_, rfl⟩
 rw [← hC] at e
 generalize (18446744073709551616 : Nat) ^ n = P at *
 have hC3 : C = 0 ∨ C = 1 ∨ C = 2 ∨ C = 3 := by omega
 have : C = 0 := by
  rcases hC3 with r | r | r | r
  ·exact r
  ·subst r; omega
  ·subst r; omega
  ·subst r; omega
 subst this
 omega
theorem lsub_no (w : World) (va vb : Value) (al bl : List Int) (ha : Sl w va al) (hb : Sl w vb bl) (hlt : val B64 al < val B64 bl) :
  Calls Tryz.prog 169 #[va, vb] w fun e w' => e = .returned (.tuple #[.slice none 0 0, .bool false]) ∧ w.grownBy w' none := by
 obtain ⟨A, ca, rfl, _, _⟩ := ha.form
 obtain ⟨B, cb, rfl, _, _⟩ := hb.form
 have T1 := lk (ltrim_c w _ _ _ _ ha)
 have T2 := lk (ltrim_c w _ _ _ _ hb)
 have ha' := ha.take (trimZ al).length (trimZ_len al)
 have hb' := hb.take (trimZ bl).length (trimZ_len bl)
 rw [take_trimZ_len] at ha' hb'
 have LC := lcmp_c w _ _ _ _ ha' hb'
 rw [val_trimZ, val_trimZ, show cmpI (val B64 al) (val B64 bl) = -1 from if_pos hlt] at LC
 obtain ⟨n, hn⟩ : ∃ n, n = (trimZ al).length := ⟨_, rfl⟩
 obtain ⟨m, hm⟩ : ∃ n, n = (trimZ bl).length := ⟨_, rfl⟩
 rw [← hn] at T1 LC
 rw [← hm] at T2 LC
 have HLC := lk LC
 clear ha hb ha' hb' LC hn hm hlt
 go_enter Tryz.func169, Tryz.ntmps169
 go_wp2_with fail
 refine (T1.out).mono ?_
 rintro e w1 ⟨rfl, hw1⟩
 subst hw1
 go_wp2_with fail
 refine (T2.out).mono ?_
 rintro e w1 ⟨rfl, hw1⟩
 subst hw1
 go_wp2_with fail
 refine (HLC.out).mono ?_
 rintro e w2 ⟨rfl, g2⟩
 go_wp2
 go_ret2
 exact ⟨rfl, g2⟩
theorem third_c (w : World) (va : Value) (al : List Int) (ha : Sl w va al) (hl : al.length ≤ 1000000) (hd : val B64 al % 3 = 0) :
  Calls Tryz.prog 195 #[va] w fun e w' => ∃ x, e = .returned (.tuple #[x, .bool true]) ∧ Wo w' w.heap.size x (val B64 al / 3) ∧ w.grownBy w' none := by
 have N0 := lk (lnorm_c w va al ha (by omega))
 have hv : val B64 (trimZ al) = val B64 al := val_trimZ _ _
 have hl' : (trimZ al).length ≤ 1000000 := Nat.le_trans (trimZ_len _) hl
 have HV := lk hv
 have HD := lk hd
 have HL := lk hl'
 obtain ⟨A, ca, rfl, _, _⟩ := ha.form
 clear ha hl hd hv hl'
 go_enter Tryz.func195, Tryz.ntmps195
 go_wp2_with fail
 refine (N0.out).mono ?_
 rintro e w1 ⟨y, rfl, oy, g1⟩
 obtain ⟨xs, hxs⟩ : ∃ l, l = trimZ al := ⟨_, rfl⟩
 rw [← hxs] at oy HV HL
 have WX := lk oy.ws
 have G1 := lk g1
 rcases oy.form with ⟨rfl, rfl⟩ | ⟨g, c, rfl, hg1, hg2, hc1, hc2⟩
 ·have HZ : Hid (val B64 al / 3 = 0) := lk (by rw [← HV.out]; rfl)
  have N1 := lk (lnorm_c w1 (.slice none 0 0) [] (sl_none _) (by decide))
  clear N0 oy hxs g1
  go_wp2
  go_loopw [4, 16] (fun v4 v16 wr => v4 = .int .u64 0 ∧ v16 = .int .i64 0 ∧ wr = w1) (fun _ _ _ => 0)
  case atStart => exact ⟨rfl, rfl, rfl⟩
  case round =>
   obtain ⟨rfl, rfl, rfl⟩ := hrel
   go_wp2_with fail
   refine (N1.out).mono ?_
   rintro e w2 ⟨z, rfl, oz, g2⟩
   have OZ := lk oz
   clear oz
   go_wp2
   go_ret2
   exact ⟨z, rfl, ⟨_, OZ.out.mono G1.out.size, nz_nil, by rw [HZ.out]; rfl⟩, jt G1.out g2⟩
 ·obtain ⟨n, hn⟩ : ∃ n, n = xs.length := ⟨_, rfl⟩
  rw [← hn] at oy hc1 HL ⊢
  have OY := lk oy
  have ST0 : Hid (Td xs xs n 0 0) := lk (by rw [hn]; exact Td.start oy.ws)
  have hn2 := HL.out
  have HN := lk hn
  clear N0 oy hxs g1 hn
  go_wp2
  go_loopw [4, 16] (fun v4 v16 wr => ∃ (i : Nat) (q : Int) (os : List Int), v4 = .int .u64 q ∧ v16 = .int .i64 i ∧ i ≤ n ∧ Td xs os n i q ∧ Own wr w.heap.size (.slice (some ⟨g, 0, none⟩) n c) os ∧ w.grownBy wr none) (fun _ v16 _ => n - (intOf v16).toNat)
  case atStart => exact ⟨0, 0, xs, rfl, rfl, by omega, ST0.out, OY.out, G1.out⟩
  case round =>
   clear ST0 OY G1
   obtain ⟨i, q, os, rfl, rfl, hi, td, ow, G⟩ := hrel
   have TD := lk td
   have OS := lk ow
   have GG := lk G
   have q0 := td.c0
   have q1 := td.c1
   clear td ow G
   by_cases hin : i < n
   ·have ce := OS.out.cell i (by rw [TD.out.len]; exact hin)
    have fr := OS.out.free i
    rw [TD.out.hi i (Nat.le_refl _)] at ce
    obtain ⟨v, hv⟩ : ∃ x, x = rd xs i := ⟨_, rfl⟩
    have bv : 0 ≤ v ∧ v < 18446744073709551616 := by rw [hv]; exact rd_w WX.out i
    rw [← hv] at ce
    obtain ⟨x, ex⟩ : ∃ x, x = (v - q) % 18446744073709551616 := ⟨_, rfl⟩
    obtain ⟨d, ed⟩ : ∃ d, d = -((v - q) / 18446744073709551616) := ⟨_, rfl⟩
    obtain ⟨r, er⟩ : ∃ r, r = x * 12297829382473034411 % 18446744073709551616 := ⟨_, rfl⟩
    obtain ⟨h, eh⟩ : ∃ h, h = r * 3 / 18446744073709551616 := ⟨_, rfl⟩
    obtain ⟨l, el⟩ : ∃ h, h = r * 3 % 18446744073709551616 := ⟨_, rfl⟩
    obtain ⟨bx, bd, br, bh, ee⟩ := td_words bv q0 q1 ex ed er eh
    have A1 : ∀ w, (callFunc 187 #[.int .u64 v, .int .u64 q, .int .u64 0]).run Tryz.prog w = .ok (.value (.tuple #[.int .u64 x, .int .u64 d])) w := fun w => by
     rw [sub64_run v q 0 bv ⟨q0, by omega⟩ (by decide) (by decide), Int.sub_zero, ex, ed]
    have V0 : IntKind.u64.wrap (x * 12297829382473034411) = r := by rw [er]; exact IntKind.wrap_u64 _
    have M64 := fun w => mul64_c r 3 br.1 br.2 (by decide) (by decide) w
    rw [← eh, ← el] at M64
    obtain ⟨q', hq'⟩ : ∃ z, z = h + d := ⟨_, rfl⟩
    have bq' : 0 ≤ q' ∧ q' ≤ 3 := by omega
    have V1 : IntKind.u64.wrap (h + d) = q' := by rw [IntKind.wrap_u64, ← hq']; omega
    rw [← hq'] at ee
    have ST := lk (TD.out.step WX.out hin hv br bq' ee)
    have HM64 := lk M64
    clear ex ed er eh el hq' hv ee M64
    go_wp2_with fail
    refine (HM64.out _).mono ?_
    rintro e w2 ⟨rfl, hw2⟩
    subst hw2
    go_wp2
    clear A1 V0 V1 ce fr
    go_roundw
    case rel => exact ⟨i + 1, q', _, rfl, by go_num, by omega, ST.out, OS.out.store i br.1 br.2, gb_set (p := ⟨g, i, none⟩) GG.out hg1 _⟩
    case measure => simp [intOf]; omega
   ·obtain rfl : i = n := by omega
    obtain ⟨rfl, ev⟩ := TD.out.last (by rw [← HN.out]; exact Nat.le_refl _) (by have := HV.out; have := HD.out; show val B64 xs % 3 = 0; omega)
    have EV := lk ev
    have N1 := lk (lnorm_c wr _ os OS.out.sl (by rw [TD.out.len]; omega))
    have BB : Hid (w.heap.size ≤ wr.heap.size) := lk GG.out.size
    clear ev
    go_wp2_with fail
    refine (N1.out).mono ?_
    rintro e w2 ⟨z, rfl, oz, g2⟩
    have OZ := lk oz
    have G2 := lk (jt GG.out g2)
    clear oz g2
    go_wp2
    go_ret2
    refine ⟨z, rfl, ⟨_, OZ.out.mono BB.out, trimZ_nz _, ?_⟩, G2.out⟩
    rw [val_trimZ]
    exact EV.out.trans (congrArg (· / 3) HV.out)
theorem part_c (w : World) (v : Value) (xs : List Int) (f t : Nat) (h : Sl w v xs) (hft : f < xs.length → f ≤ t) (hf : f ≤ 1000000) (ht : t ≤ 1000000) :
  Calls Tryz.prog 188 #[v, .int .i64 f, .int .i64 t] w fun e w' => ∃ u, e = .returned u ∧ Sl w u ((xs.take t).drop f) ∧ (∀ gm, Off v gm → Off u gm) ∧ w' = w := by
 obtain ⟨A, c, rfl, hc, hc2⟩ := h.form
 obtain ⟨ln, hln⟩ : ∃ l, l = xs.length := ⟨_, rfl⟩
 rw [← hln] at h hc hft ⊢
 by_cases hlt : ln ≤ f
 ·have e0 : (xs.take t).drop f = [] := List.drop_eq_nil_of_le (by rw [List.length_take]; omega)
  rw [e0]
  clear h e0 hln
  go_enter Tryz.func188, Tryz.ntmps188
  go_wp2
  go_ret
  exact ⟨_, rfl, sl_none _, fun _ _ b hb => by simp [Value.ownBlock] at hb, rfl⟩
 ·by_cases htl : t ≤ ln
  ·obtain ⟨b, o, rfl, hs⟩ := h.mid f t (by omega) (hft (by omega)) htl
   have HS := lk hs
   clear h hs hln
   go_enter Tryz.func188, Tryz.ntmps188
   go_wp2
   go_ret
   exact ⟨_, rfl, HS.out, fun gm ho b' hb => ho b' hb, rfl⟩
  ·obtain ⟨b, o, rfl, hs⟩ := h.mid f ln (by omega) (by omega) (Nat.le_refl _)
   have e0 : (xs.take t).drop f = (xs.take ln).drop f := by rw [List.take_of_length_le (by omega), List.take_of_length_le (by omega)]
   rw [e0]
   have HS := lk hs
   clear h hs hln e0
   go_enter Tryz.func188, Tryz.ntmps188
   go_wp2
   go_ret
   exact ⟨_, rfl, HS.out, fun gm ho b' hb => ho b' hb, rfl⟩
theorem sub2_c (w : World) (va vb : Value) (al bl : List Int) (ha : Sl w va al) (hb : Sl w vb bl) (hl : al.length ≤ 1000000) :
  Calls Tryz.prog 192 #[va, vb] w fun e w' => ∃ x, e = .returned x ∧ Wo w' w.heap.size x (val B64 al - val B64 bl) ∧ w.grownBy w' none := by
 by_cases h : val B64 al < val B64 bl
 ·have S := lk (lsub_no w va vb al bl ha hb h)
  have hz : val B64 al - val B64 bl = 0 := by omega
  rw [hz]
  obtain ⟨A, ca, rfl, _, _⟩ := ha.form
  obtain ⟨B, cb, rfl, _, _⟩ := hb.form
  clear ha hb h hz
  go_enter Tryz.func192, Tryz.ntmps192
  go_wp2_with fail
  refine (S.out).mono ?_
  rintro e w1 ⟨rfl, g1⟩
  go_wp2
  go_ret
  exact ⟨_, rfl, ⟨[], own_nil _ _, nz_nil, rfl⟩, g1⟩
 ·have S := lk (lsub_c w va vb al bl ha hb hl (by omega))
  obtain ⟨A, ca, rfl, _, _⟩ := ha.form
  obtain ⟨B, cb, rfl, _, _⟩ := hb.form
  clear ha hb h
  go_enter Tryz.func192, Tryz.ntmps192
  go_wp2_with fail
  refine (S.out).mono ?_
  rintro e w1 ⟨x, rfl, k⟩
  have KK := lk k
  clear k
  go_wp2
  go_ret
  exact ⟨x, rfl, KK.out⟩
theorem sub_c (w : World) (va v : Value) (al : List Int) (n : Nat) (V : Nat → Value) (X : Nat → List Int) (N : Nat) (ha : Sl w va al) (hp : Pts w v n V X) (hn : n ≤ 10000) (hx : ∀ j, j < n → (X j).length ≤ 100000) (hl : al.length ≤ 1000000)
  (hN : jS 0 (fun j => val B64 (X j)) n < B64 ^ N) :
  Calls Tryz.prog 194 #[va, v] w fun e w' => ∃ x, e = .returned x ∧ Wo w' w.heap.size x (val B64 al - jS 0 (fun j => val B64 (X j)) n) ∧ w.grownBy w' none := by
 have S := lk (lsum_c w n v V X hp hn hx)
 have HA := lk ha
 have HNN := lk hN
 obtain ⟨A, ca, rfl, _, _⟩ := ha.form
 obtain ⟨B, cb, rfl, _, _⟩ := hp.c
 obtain ⟨z, hz⟩ : ∃ z, z = jS 0 (fun j => val B64 (X j)) n := ⟨_, rfl⟩
 rw [← hz] at S HNN ⊢
 clear ha hp hx hN hz
 go_enter Tryz.func194, Tryz.ntmps194
 go_wp2_with fail
 refine (S.out).mono ?_
 rintro e w1 ⟨s, rfl, o1, g1⟩
 obtain ⟨zs, ss, ls, vs⟩ := o1.get HNN.out
 have G1 := lk g1
 by_cases h : val B64 al < z
 ·have SU := lk (lsub_no w1 _ s al zs (HA.out.grown0 g1) ss (by rw [vs]; exact h))
  have HZ : Hid (val B64 al - z = 0) := lk (by omega)
  clear o1 g1 ss ls vs S h
  go_wp2_with fail
  refine (SU.out).mono ?_
  rintro e w2 ⟨rfl, g2⟩
  go_wp2
  go_ret
  exact ⟨_, rfl, ⟨[], own_nil _ _, nz_nil, by rw [HZ.out]; rfl⟩, jt G1.out g2⟩
 ·have SU := lsub_c w1 _ s al zs (HA.out.grown0 g1) ss hl (by rw [vs]; omega)
  rw [vs] at SU
  have HSU := lk SU
  clear o1 g1 ss ls vs S h SU
  go_wp2_with fail
  refine (HSU.out).mono ?_
  rintro e w2 ⟨x, rfl, o2, g2⟩
  have KK : Hid (Wo w2 w.heap.size x (val B64 al - z) ∧ w.grownBy w2 none) := lk ⟨o2.mono G1.out.size, jt G1.out g2⟩
  clear o2 g2
  go_wp2
  go_ret
  exact ⟨x, rfl, KK.out⟩
theorem twide_c (w : World) (v : Value) (xs : List Int) (n : Nat) (h : Sl w v xs) (hn : n ≤ 1000000) :
  Calls Tryz.prog 171 #[v, .int .i64 n] w fun e w' => ∃ g, e = .returned (.slice (some ⟨g, 0, none⟩) n n) ∧ Own w' w.heap.size (.slice (some ⟨g, 0, none⟩) n n) (rowOf (trimZ xs) n) ∧ w.grownBy w' none := by
 have mk := make64 184 (by kernel_rfl) n n (n : Int) (n : Int) (by omega) (by omega) (by omega) (by omega)
 have OW := lk (own_made w w.heap.size n n (Nat.le_refl _) (by omega) (by omega))
 have G0 := ju (jr w none) (Obj.cells (madeCells #[.int .u64 0] n) 24)
 have NL := nlen_c _ v xs (h.grown0 G0)
 obtain ⟨A, c, rfl, hc, hc2⟩ := h.form
 have hT := trimZ_len xs
 have hs := h.take (trimZ xs).length hT
 rw [take_trimZ_len] at hs
 have HS := lk (hs.grown0 G0)
 have HG := lk G0
 obtain ⟨ys, hys⟩ : ∃ l, l = trimZ xs := ⟨_, rfl⟩
 rw [← hys] at NL hT HS ⊢
 obtain ⟨T, hTT⟩ : ∃ T, T = ys.length := ⟨_, rfl⟩
 rw [← hTT] at NL hT HS
 obtain ⟨ln, hln⟩ : ∃ l, l = xs.length := ⟨_, rfl⟩
 rw [← hln] at NL hT hc ⊢
 obtain ⟨zs, hzs⟩ : ∃ zs, zs = rowOf ys n := ⟨_, rfl⟩
 rw [← hzs]
 have HZ := lk (show zs = ys.take (min ys.length n) ++ (List.replicate n 0).drop (min ys.length n) from hzs)
 have HNL := lk NL
 clear h hs NL G0 hys hTT hln hzs
 go_enter Tryz.func171, Tryz.ntmps171
 go_wp2_with fail
 refine (HNL.out).mono ?_
 rintro e w1 ⟨rfl, hw1⟩
 subst hw1
 go_wp2_with (with_reducible (show wpList _ _ _ (Oper.mk _ (Op.call (Call.mk (Callee.builtin Builtin.copy) _ _)) _ _ _ _ :: _) _ _); refine own_copy 184 (by kernel_rfl) (.tmp 8) (.tmp 12) rfl rfl w.heap.size n n n _ rfl OW.out (Nat.le_refl _) (.slice A T c) ys rfl HS.out _ rfl zs HZ.out ?_; intro w2 ow1 g1)
 go_ret
 exact ⟨_, rfl, ow1, gb_new HG.out g1 (fun i hi => by cases hi; exact Nat.le_refl _)⟩
theorem less_c (w : World) (va vb : Value) (al bl : List Int) (ha : Sl w va al) (hb : Sl w vb bl) (_hl : al.length ≤ 1000000) (_hl2 : bl.length ≤ 1000000) :
  Calls Tryz.prog 189 #[va, vb] w fun e w' => ∃ x, e = .returned (.agg #[x, .bool (decide (val B64 al < val B64 bl))]) ∧ Wo w' w.heap.size x (val B64 al - val B64 bl + (val B64 bl - val B64 al)) ∧ w.grownBy w' none := by
 have GA := ju (jr w none) (Obj.cells #[.slice none 0 0, .bool false] 243)
 have C0 := lk (cs_new w #[.slice none 0 0, .bool false] 243)
 have HGA := lk GA
 have HS : Hid (w.heap.size < (w.alloc (Obj.cells #[.slice none 0 0, .bool false] 243)).heap.size) := lk (by simp)
 by_cases h : val B64 al < val B64 bl
 ·rw [decide_eq_true h]
  have hz : val B64 al - val B64 bl + (val B64 bl - val B64 al) = val B64 bl - val B64 al := by omega
  rw [hz]
  have S := lk (lsub_no _ va vb al bl (ha.grown0 GA) (hb.grown0 GA) h)
  have S2 := lk (fun w1 (g : World.grownBy (w.alloc (Obj.cells #[.slice none 0 0, .bool false] 243)) w1 none) => lsub_c w1 vb va bl al ((hb.grown0 GA).grown0 g) ((ha.grown0 GA).grown0 g) _hl2 (by omega))
  obtain ⟨A, ca, rfl, _, _⟩ := ha.form
  obtain ⟨B, cb, rfl, _, _⟩ := hb.form
  clear ha hb h hz GA
  go_enter Tryz.func189, Tryz.ntmps189
  go_wp2_with fail
  refine (S.out).mono ?_
  rintro e w1 ⟨rfl, g1⟩
  have G1 := lk g1
  have C1 := lk (C0.out.grown0 g1)
  clear g1
  go_wp2_with fail
  refine (S2.out w1 G1.out).mono ?_
  rintro e w2 ⟨x, rfl, o2, g2⟩
  obtain ⟨zs, oz, nz, hv⟩ := o2
  obtain ⟨F, f, rfl, _, _⟩ := oz.sl.form
  have C2 := lk (C1.out.grown0 g2)
  have OZ := lk oz
  have NV := lk (And.intro nz hv)
  have G2 := lk (jt HGA.out (jt G1.out g2))
  have SZ : Hid (w.heap.size < w1.heap.size) := lk (Nat.lt_of_lt_of_le HS.out G1.out.size)
  clear oz nz hv g2 S S2
  have c0 := C2.out.cell 0 rfl
  have c1 := C2.out.cell 1 rfl
  have f0 := C2.out.free 0 rfl
  have f1 := C2.out.free 1 rfl
  go_wp2
  clear c0 c1 f0 f1
  refine bodyPost_ret (res_agg rfl ((C2.out.set 0 (.slice F zs.length f)).set 1 (.bool true)) rfl (by kernel_rfl) (by kernel_rfl)) rfl ?_
  have GG := gb_rowC (gb_rowC (jr w2 (some w.heap.size)) 0 (.slice F zs.length f)) 1 (.bool true)
  refine ⟨_, rfl, ⟨zs, (OZ.out.grown GG ?_).mono (Nat.le_of_lt SZ.out), NV.out.1, NV.out.2⟩, gb_set (p := ⟨w.heap.size, 1, none⟩) (gb_set (p := ⟨w.heap.size, 0, none⟩) G2.out (Nat.le_refl _) _) (Nat.le_refl _) _⟩
  by_cases e : (Value.slice F zs.length f).ownBlock = some w.heap.size
  ·have := (OZ.out.lt _ e).1; have := SZ.out; omega
  ·exact .inr e
 ·rw [decide_eq_false h]
  have hz : val B64 al - val B64 bl + (val B64 bl - val B64 al) = val B64 al - val B64 bl := by omega
  rw [hz]
  have S2 := lk (lsub_c _ va vb al bl (ha.grown0 GA) (hb.grown0 GA) _hl (by omega))
  obtain ⟨A, ca, rfl, _, _⟩ := ha.form
  obtain ⟨B, cb, rfl, _, _⟩ := hb.form
  clear ha hb h hz GA
  go_enter Tryz.func189, Tryz.ntmps189
  go_wp2_with fail
  refine (S2.out).mono ?_
  rintro e w2 ⟨x, rfl, o2, g2⟩
  obtain ⟨zs, oz, nz, hv⟩ := o2
  obtain ⟨F, f, rfl, _, _⟩ := oz.sl.form
  have C2 := lk (C0.out.grown0 g2)
  have OZ := lk oz
  have NV := lk (And.intro nz hv)
  have G2 := lk (jt HGA.out g2)
  clear oz nz hv g2 S2
  have c0 := C2.out.cell 0 rfl
  have c1 := C2.out.cell 1 rfl
  have f0 := C2.out.free 0 rfl
  have f1 := C2.out.free 1 rfl
  go_wp2
  clear c0 c1 f0 f1
  refine bodyPost_ret (res_agg rfl ((C2.out.set 0 (.slice F zs.length f)).set 1 (.bool false)) rfl (by kernel_rfl) (by kernel_rfl)) rfl ?_
  have GG := gb_rowC (gb_rowC (jr w2 (some w.heap.size)) 0 (.slice F zs.length f)) 1 (.bool false)
  refine ⟨_, rfl, ⟨zs, (OZ.out.grown GG ?_).mono (Nat.le_of_lt HS.out), NV.out.1, NV.out.2⟩, gb_set (p := ⟨w.heap.size, 1, none⟩) (gb_set (p := ⟨w.heap.size, 0, none⟩) G2.out (Nat.le_refl _) _) (Nat.le_refl _) _⟩
  by_cases e : (Value.slice F zs.length f).ownBlock = some w.heap.size
  ·have := (OZ.out.lt _ e).1; have := HS.out; omega
  ·exact .inr e
theorem load_agg {P : Program} {ty : TypeId} {w : World} {g : Nat} {l : List Value} (hc : Cs w g l) (ha : aggB P ty = true) (hi : (P.info? ty).map (·.size) = some l.length) : (loadVar ty ⟨g, 0, none⟩).run P w = .ok (.agg l.toArray) w := by
 obtain ⟨d, hu, hd⟩ := aggB_spec ha
 have hl : (loadCells ⟨g, 0, none⟩ l.length).run P w = .ok l.toArray w :=
  run_loadCells_list (P := P) w ⟨g, 0, none⟩ l (fun j v hv => by
   have hadd : (⟨g, 0, none⟩ : Addr).add j = ⟨g, j, none⟩ := by unfold Addr.add; split <;> simp_all
   rw [hadd]
   exact hc.cell j hv)
 cases hq : P.info? ty with
 | none => simp [hq] at hi
 | some i =>
  have hs : i.size = l.length := by simpa [hq] using hi
  have hagg : (isAgg ty).run P w = .ok true w := by
   unfold isAgg
   rw [Sem.run_bind, run_underlying hu w]
   cases d <;> simp_all
  simp [loadVar, Sem.run_bind, hagg, sizeOf, typeInfo, hq, hs, hl]
theorem res_agg5 {P : Program} {fn : Func} {p0 p1 p2 p3 p4 : Tmp} {ty : TypeId} (h : fn.results = #[.cell p0 ty, .cell p1 ty, .cell p2 ty, .cell p3 ty, .cell p4 ty]) {tmps : Array Value} {w : World} {g0 g1 g2 g3 g4 : Nat} {l0 l1 l2 l3 l4 : List Value}
  (c0 : Cs w g0 l0) (c1 : Cs w g1 l1) (c2 : Cs w g2 l2) (c3 : Cs w g3 l3) (c4 : Cs w g4 l4)
  (q0 : tmps.getD p0 undef = .pointer (some ⟨g0, 0, none⟩)) (q1 : tmps.getD p1 undef = .pointer (some ⟨g1, 0, none⟩)) (q2 : tmps.getD p2 undef = .pointer (some ⟨g2, 0, none⟩)) (q3 : tmps.getD p3 undef = .pointer (some ⟨g3, 0, none⟩)) (q4 : tmps.getD p4 undef = .pointer (some ⟨g4, 0, none⟩))
  (ha : aggB P ty = true) (hi0 : (P.info? ty).map (·.size) = some l0.length) (hi1 : (P.info? ty).map (·.size) = some l1.length) (hi2 : (P.info? ty).map (·.size) = some l2.length) (hi3 : (P.info? ty).map (·.size) = some l3.length) (hi4 : (P.info? ty).map (·.size) = some l4.length) :
  (results fn tmps).run P w = .ok (.tuple #[.agg l0.toArray, .agg l1.toArray, .agg l2.toArray, .agg l3.toArray, .agg l4.toArray]) w := by
 have r0 := load_agg c0 ha hi0
 have r1 := load_agg c1 ha hi1
 have r2 := load_agg c2 ha hi2
 have r3 := load_agg c3 ha hi3
 have r4 := load_agg c4 ha hi4
 have s0 : tmps[p0]?.getD undef = .pointer (some ⟨g0, 0, none⟩) := by simpa using q0
 have s1 : tmps[p1]?.getD undef = .pointer (some ⟨g1, 0, none⟩) := by simpa using q1
 have s2 : tmps[p2]?.getD undef = .pointer (some ⟨g2, 0, none⟩) := by simpa using q2
 have s3 : tmps[p3]?.getD undef = .pointer (some ⟨g3, 0, none⟩) := by simpa using q3
 have s4 : tmps[p4]?.getD undef = .pointer (some ⟨g4, 0, none⟩) := by simpa using q4
 simp [results, h, s0, s1, s2, s3, s4, asAddr, r0, r1, r2, r3, r4]
theorem segs_gen {P : Program} {ops : Array Oper} {F : List (Addr × Value)} {K : Act → World → Prop} {l : List Oper} {a : Act} {w : World} (R : World → Prop) (hR : R w) (h : ∀ w', R w' → Canon.segs P ops F K l a w') : Canon.segs P ops F K l a w := h w hR
structure P5 (w : World) (B : Nat) (l0 l1 l2 l3 l4 : List Value) : Prop where
 c0 : Cs w B l0
 c1 : Cs w (B + 1) l1
 c2 : Cs w (B + 1 + 1) l2
 c3 : Cs w (B + 1 + 1 + 1) l3
 c4 : Cs w (B + 1 + 1 + 1 + 1) l4
 lt : B + 4 < w.heap.size
theorem P5.grown0 {w w' : World} {B : Nat} {l0 l1 l2 l3 l4 : List Value} (h : P5 w B l0 l1 l2 l3 l4) (g : w.grownBy w' none) : P5 w' B l0 l1 l2 l3 l4 :=
 ⟨h.c0.grown0 g, h.c1.grown0 g, h.c2.grown0 g, h.c3.grown0 g, h.c4.grown0 g, Nat.lt_of_lt_of_le h.lt g.size⟩
theorem P5.drew {w : World} {B : Nat} {l0 l1 l2 l3 l4 : List Value} (h : P5 w B l0 l1 l2 l3 l4) : P5 w.drew B l0 l1 l2 l3 l4 := ⟨h.c0.drew, h.c1.drew, h.c2.drew, h.c3.drew, h.c4.drew, h.lt⟩
theorem P5.new (w : World) (t : TypeId) (o : Array Value) : P5 (((((w.alloc (.cells o t)).alloc (.cells o t)).alloc (.cells o t)).alloc (.cells o t)).alloc (.cells o t)) w.heap.size o.toList o.toList o.toList o.toList o.toList := by
 have e1 := alloc_sz w (.cells o t)
 have e2 := alloc_sz (w.alloc (.cells o t)) (.cells o t)
 have e3 := alloc_sz ((w.alloc (.cells o t)).alloc (.cells o t)) (.cells o t)
 have e4 := alloc_sz (((w.alloc (.cells o t)).alloc (.cells o t)).alloc (.cells o t)) (.cells o t)
 have e5 := alloc_sz ((((w.alloc (.cells o t)).alloc (.cells o t)).alloc (.cells o t)).alloc (.cells o t)) (.cells o t)
 have g := fun (a : World) => ju (jr a none) (Obj.cells o t)
 have k0 := cs_new w o t
 have k1 := cs_new (w.alloc (.cells o t)) o t
 have k2 := cs_new ((w.alloc (.cells o t)).alloc (.cells o t)) o t
 have k3 := cs_new (((w.alloc (.cells o t)).alloc (.cells o t)).alloc (.cells o t)) o t
 have k4 := cs_new ((((w.alloc (.cells o t)).alloc (.cells o t)).alloc (.cells o t)).alloc (.cells o t)) o t
 rw [e1] at k1
 rw [e2, e1] at k2
 rw [e3, e2, e1] at k3
 rw [e4, e3, e2, e1] at k4
 exact ⟨(((k0.grown0 (g _)).grown0 (g _)).grown0 (g _)).grown0 (g _), ((k1.grown0 (g _)).grown0 (g _)).grown0 (g _), (k2.grown0 (g _)).grown0 (g _), k3.grown0 (g _), k4, by omega⟩
theorem P5.s0 {w : World} {B : Nat} {l0 l1 l2 l3 l4 : List Value} (h : P5 w B l0 l1 l2 l3 l4) (q : Nat) (u : Value) : P5 (w.setCell ⟨B, q, none⟩ u) B (l0.set q u) l1 l2 l3 l4 :=
 ⟨h.c0.set q u, h.c1.other (by omega) q u, h.c2.other (by omega) q u, h.c3.other (by omega) q u, h.c4.other (by omega) q u, by simpa using h.lt⟩
theorem P5.s1 {w : World} {B : Nat} {l0 l1 l2 l3 l4 : List Value} (h : P5 w B l0 l1 l2 l3 l4) (q : Nat) (u : Value) : P5 (w.setCell ⟨B + 1, q, none⟩ u) B l0 (l1.set q u) l2 l3 l4 :=
 ⟨h.c0.other (by omega) q u, h.c1.set q u, h.c2.other (by omega) q u, h.c3.other (by omega) q u, h.c4.other (by omega) q u, by simpa using h.lt⟩
theorem P5.s2 {w : World} {B : Nat} {l0 l1 l2 l3 l4 : List Value} (h : P5 w B l0 l1 l2 l3 l4) (q : Nat) (u : Value) : P5 (w.setCell ⟨B + 1 + 1, q, none⟩ u) B l0 l1 (l2.set q u) l3 l4 :=
 ⟨h.c0.other (by omega) q u, h.c1.other (by omega) q u, h.c2.set q u, h.c3.other (by omega) q u, h.c4.other (by omega) q u, by simpa using h.lt⟩
theorem P5.s3 {w : World} {B : Nat} {l0 l1 l2 l3 l4 : List Value} (h : P5 w B l0 l1 l2 l3 l4) (q : Nat) (u : Value) : P5 (w.setCell ⟨B + 1 + 1 + 1, q, none⟩ u) B l0 l1 l2 (l3.set q u) l4 :=
 ⟨h.c0.other (by omega) q u, h.c1.other (by omega) q u, h.c2.other (by omega) q u, h.c3.set q u, h.c4.other (by omega) q u, by simpa using h.lt⟩
theorem P5.s4 {w : World} {B : Nat} {l0 l1 l2 l3 l4 : List Value} (h : P5 w B l0 l1 l2 l3 l4) (q : Nat) (u : Value) : P5 (w.setCell ⟨B + 1 + 1 + 1 + 1, q, none⟩ u) B l0 l1 l2 l3 (l4.set q u) :=
 ⟨h.c0.other (by omega) q u, h.c1.other (by omega) q u, h.c2.other (by omega) q u, h.c3.other (by omega) q u, h.c4.set q u, by simpa using h.lt⟩
theorem Wo.lim {w : World} {base n N : Nat} {v : Value} (h : Wo w base v n) (hn : n < B64 ^ N) (hN : N ≤ 1000000) : ∃ zs, Sl w v zs ∧ zs.length ≤ 1000000 ∧ val B64 zs = n := by
 obtain ⟨zs, s, l, e⟩ := h.get hn
 exact ⟨zs, s, by omega, e⟩
theorem four_lt {M a b c : Nat} (ha : a < B64 ^ M) (hb : b < B64 ^ M) (hc : c < B64 ^ M) : a + c < B64 ^ (M + 1) ∧ a + c + b < B64 ^ (M + 1) ∧ 2 * b < B64 ^ (M + 1) ∧ 4 * c < B64 ^ (M + 1) ∧ a + 2 * b + 4 * c < B64 ^ (M + 1) := by
 have : B64 ^ (M + 1) = B64 ^ M * 18446744073709551616 := Nat.pow_succ ..
 omega
theorem Cs.at0 {w : World} {g : Nat} {l : List Value} (h : Cs w g l) (j : Nat) {u : Value} (hu : l[j]? = some u) : w.cell? ((⟨g, 0, none⟩ : Addr).add j) = some u := by
 have e : (⟨g, 0, none⟩ : Addr).add j = ⟨g, j, none⟩ := by unfold Addr.add; split <;> simp_all
 rw [e]; exact h.cell j hu
theorem val_cut (xs : List Int) (k : Nat) : val B64 xs = val B64 (xs.take k) + B64 ^ k * val B64 (xs.drop k) := by
 by_cases h : k ≤ xs.length
 ·exact val_take_drop B64 xs k h
 ·rw [List.take_of_length_le (by omega), List.drop_eq_nil_of_le (by omega)]; simp [val]
theorem val_cut3 (xs : List Int) (k : Nat) : val B64 xs = val B64 (xs.take k) + B64 ^ k * val B64 ((xs.take (2 * k)).drop k) + B64 ^ k * B64 ^ k * val B64 (xs.drop (2 * k)) := by
 have e1 : (xs.take (2 * k)).drop k = (xs.drop k).take k := by rw [List.drop_take]; congr 1; omega
 have e2 : xs.drop (2 * k) = (xs.drop k).drop k := by rw [List.drop_drop]; congr 1; omega
 rw [e1, e2]
 have h1 := val_cut xs k
 have h2 := val_cut (xs.drop k) k
 rw [h2, Nat.mul_add, ← Nat.mul_assoc] at h1
 omega
theorem off_own {u v : Value} (h : ∀ gm, Off v gm → Off u gm) {b : Nat} (hu : u.ownBlock = some b) : v.ownBlock = some b := by
 by_cases e : v.ownBlock = some b
 ·exact e
 ·exact absurd rfl (h b (fun b' hb' hbb => e (by rw [hb', hbb])) b hu)
def Rv (W : World) (D : Nat) (l : List (Value × List Int)) : Prop := ∀ (i : Nat) (p : Value × List Int), l[i]? = some p → Sl W p.1 p.2 ∧ (∀ b, p.1.ownBlock = some b → D ≤ b)
theorem Rv.grown0 {W W' : World} {D : Nat} {l : List (Value × List Int)} (h : Rv W D l) (g : W.grownBy W' none) : Rv W' D l := fun i p hp => ⟨(h i p hp).1.grown0 g, (h i p hp).2⟩
theorem Rv.set {W : World} {D : Nat} {l : List (Value × List Int)} (h : Rv W D l) (b q : Nat) (hb : b < D) (u : Value) : Rv (W.setCell ⟨b, q, none⟩ u) D l := fun i p hp =>
 ⟨(h i p hp).1.grown (gb_rowC (jr W (some b)) q u) (fun b' hb' => by have := (h i p hp).2 b' hb'; simp; omega), (h i p hp).2⟩
theorem Rv.at {W : World} {D : Nat} {l : List (Value × List Int)} (h : Rv W D l) (i : Nat) {v : Value} {xs : List Int} (hp : l[i]? = some (v, xs)) : Sl W v xs := (h i _ hp).1
theorem Rv.three {W : World} {D : Nat} {u0 u1 u2 : Value} {l0 l1 l2 : List Int} (s0 : Sl W u0 l0) (s1 : Sl W u1 l1) (s2 : Sl W u2 l2) (b0 : ∀ b, u0.ownBlock = some b → D ≤ b) (b1 : ∀ b, u1.ownBlock = some b → D ≤ b) (b2 : ∀ b, u2.ownBlock = some b → D ≤ b) : Rv W D [(u0, l0), (u1, l1), (u2, l2)] := fun i p hp => by
 rcases i with _ | _ | _ | i
 ·obtain rfl := Option.some.inj hp; exact ⟨s0, b0⟩
 ·obtain rfl := Option.some.inj hp; exact ⟨s1, b1⟩
 ·obtain rfl := Option.some.inj hp; exact ⟨s2, b2⟩
 ·simp at hp
def Wv (W : World) (D : Nat) (l : List (Value × Nat)) : Prop := ∀ (i : Nat) (p : Value × Nat), l[i]? = some p → Wo W D p.1 p.2
theorem Wv.nil (W : World) (D : Nat) : Wv W D [] := fun i p hp => by simp at hp
theorem Wv.grown0 {W W' : World} {D : Nat} {l : List (Value × Nat)} (h : Wv W D l) (g : W.grownBy W' none) : Wv W' D l := fun i p hp => (h i p hp).grown0 g
theorem Wv.set {W : World} {D : Nat} {l : List (Value × Nat)} (h : Wv W D l) (b q : Nat) (hb : b < D) (u : Value) : Wv (W.setCell ⟨b, q, none⟩ u) D l := fun i p hp => by
 obtain ⟨zs, ow, nz, hv⟩ := h i p hp
 refine ⟨zs, ow.grown (gb_rowC (jr W (some b)) q u) ?_, nz, hv⟩
 by_cases e : p.1.ownBlock = some b
 ·have := (ow.lt b e).1; omega
 ·exact .inr e
theorem Wv.add {W : World} {D D' : Nat} {l : List (Value × Nat)} (h : Wv W D l) {v : Value} {n : Nat} (hs : Wo W D' v n) (hd : D ≤ D') : Wv W D (l ++ [(v, n)]) := fun i p hp => by
 by_cases hi : i < l.length
 ·rw [List.getElem?_append_left hi] at hp
  exact h i p hp
 ·rw [List.getElem?_append_right (by omega)] at hp
  cases hj : i - l.length with
  | zero => rw [hj] at hp; obtain rfl := Option.some.inj hp; exact hs.mono hd
  | succ j => rw [hj] at hp; simp at hp
theorem Wv.drew {W : World} {D : Nat} {l : List (Value × Nat)} (h : Wv W D l) : Wv W.drew D l := fun i p hp => by
 obtain ⟨zs, ow, r⟩ := h i p hp
 exact ⟨zs, ow.drew, r⟩
theorem Wv.at {W : World} {D : Nat} {l : List (Value × Nat)} (h : Wv W D l) (i : Nat) {v : Value} {n : Nat} (hp : l[i]? = some (v, n)) : Wo W D v n := h i _ hp
theorem points_c (w : World) (va : Value) (al : List Int) (k : Nat) (ha : Sl w va al) (hl : al.length ≤ 16384) (hk1 : 1 ≤ k) (hk : k ≤ 16384) :
  Calls Tryz.prog 170 #[va, .int .i64 k] w fun e w' => ∃ x0 x1 xm x2 xi V0 V1 V2, e = .returned (.tuple #[.agg #[x0, .bool false], .agg #[x1, .bool false], .agg #[xm, .bool (decide (V0 + V2 < V1))], .agg #[x2, .bool false], .agg #[xi, .bool false]]) ∧
   val B64 al = V0 + B64 ^ k * V1 + B64 ^ k * B64 ^ k * V2 ∧ V0 < B64 ^ k ∧ V1 < B64 ^ k ∧ V2 < B64 ^ (al.length - 2 * k) ∧
   Wo w' w.heap.size x0 V0 ∧ Wo w' w.heap.size x1 (V0 + V2 + V1) ∧ Wo w' w.heap.size xm (V0 + V2 - V1 + (V1 - (V0 + V2))) ∧ Wo w' w.heap.size x2 (V0 + 2 * V1 + 4 * V2) ∧ Wo w' w.heap.size xi V2 ∧ w.grownBy w' none := by
 have P0 := P5.new w 243 #[.slice none 0 0, .bool false]
 have N0 := lnorm_c _ va al (ha.grown0 (ju (ju (ju (ju (ju (jr w none) (Obj.cells #[.slice none 0 0, .bool false] 243)) (Obj.cells #[.slice none 0 0, .bool false] 243)) (Obj.cells #[.slice none 0 0, .bool false] 243)) (Obj.cells #[.slice none 0 0, .bool false] 243)) (Obj.cells #[.slice none 0 0, .bool false] 243))) (by omega)
 have G0 := ju (ju (ju (ju (ju (jr w none) (Obj.cells #[.slice none 0 0, .bool false] 243)) (Obj.cells #[.slice none 0 0, .bool false] 243)) (Obj.cells #[.slice none 0 0, .bool false] 243)) (Obj.cells #[.slice none 0 0, .bool false] 243)) (Obj.cells #[.slice none 0 0, .bool false] 243)
 obtain ⟨A, ca, rfl, _, _⟩ := ha.form
 have HP0 := lk P0
 have HN0 := lk N0
 have HG0 := lk G0
 have HW := lk ha.ws
 clear P0 N0 G0 ha
 by_cases hk0 : k = 1
 ·subst hk0
  have HK2 : Hid (2 = 2 * 1) := lk rfl
  go_enter Tryz.func170, Tryz.ntmps170
  go_wp2_with fail
  refine (HN0.out).mono ?_
  rintro e w1 ⟨y, rfl, oy, g1⟩
  obtain ⟨xs, hxs⟩ : ∃ l, l = trimZ al := ⟨_, rfl⟩
  have hxl : xs.length ≤ al.length := by rw [hxs]; exact trimZ_len _
  have hxv : val B64 xs = val B64 al := by rw [hxs]; exact val_trimZ _ _
  rw [← hxs] at oy
  have SY := oy.sl
  have D5 : w.heap.size + 1 + 1 + 1 + 1 + 1 ≤ (((((w.alloc (Obj.cells #[.slice none 0 0, .bool false] 243)).alloc (Obj.cells #[.slice none 0 0, .bool false] 243)).alloc (Obj.cells #[.slice none 0 0, .bool false] 243)).alloc (Obj.cells #[.slice none 0 0, .bool false] 243)).alloc (Obj.cells #[.slice none 0 0, .bool false] 243)).heap.size := by rw [alloc_sz, alloc_sz, alloc_sz, alloc_sz, alloc_sz]; exact Nat.le_refl _
  have BYY := lk (fun b hb => Nat.le_trans D5 (oy.lt b hb).1)
  obtain ⟨A1, c1, rfl, hc1, hc2⟩ := SY.form
  have HSY := lk SY
  have HXV := lk hxv
  have HXL := lk hxl
  have WX := lk SY.ws
  have P1 := lk (HP0.out.grown0 g1)
  have G1 := lk (jt HG0.out g1)
  clear oy g1 HN0 HP0 HG0 hxs SY hxv hxl
  obtain ⟨n, hn⟩ : ∃ n, n = xs.length := ⟨_, rfl⟩
  rw [← hn] at HSY HXL hc1 BYY ⊢
  have HN := lk hn
  have bn : n ≤ 16384 := Nat.le_trans HXL.out hl
  clear hn
  have PA : Calls Tryz.prog 188 #[.slice A1 n c1, .int .i64 0, .int .i64 1] w1 fun e w' => ∃ u, e = .returned u ∧ Sl w1 u ((xs.take 1).drop 0) ∧ (∀ gm, Off (.slice A1 n c1) gm → Off u gm) ∧ w' = w1 := part_c w1 _ xs 0 1 HSY.out (fun _ => by omega) (by decide) (by omega)
  have HPA := lk PA
  have PB : Calls Tryz.prog 188 #[.slice A1 n c1, .int .i64 1, .int .i64 2] w1 fun e w' => ∃ u, e = .returned u ∧ Sl w1 u ((xs.take 2).drop 1) ∧ (∀ gm, Off (.slice A1 n c1) gm → Off u gm) ∧ w' = w1 := part_c w1 _ xs 1 2 HSY.out (fun _ => by have := HK2.out; omega) (by omega) (by omega)
  have HPB := lk PB
  have PC := part_c w1 _ xs 2 n HSY.out (fun h => by rw [← HN.out] at h; omega) (by omega) (by omega)
  have HPC := lk PC
  clear PA PB PC
  go_wp2_with fail
  refine (HPA.out).mono ?_
  rintro e w2 ⟨u0, rfl, s0, f0, hw2⟩
  subst hw2
  go_wp2_with fail
  refine (HPB.out).mono ?_
  rintro e w2 ⟨u1, rfl, s1, f1, hw2⟩
  subst hw2
  go_wp2_with fail
  refine (HPC.out).mono ?_
  rintro e w2 ⟨u2, rfl, s2, f2, hw2⟩
  subst hw2
  rw [List.drop_zero] at s0
  rw [List.take_of_length_le (show xs.length ≤ n by rw [← HN.out]; exact Nat.le_refl _)] at s2
  obtain ⟨X0, hX0⟩ : ∃ l, l = xs.take 1 := ⟨_, rfl⟩
  obtain ⟨X1, hX1⟩ : ∃ l, l = (xs.take 2).drop 1 := ⟨_, rfl⟩
  obtain ⟨X2, hX2⟩ : ∃ l, l = xs.drop 2 := ⟨_, rfl⟩
  rw [← hX0] at s0
  rw [← hX1] at s1
  rw [← hX2] at s2
  have HX0 := lk hX0
  have HX1 := lk hX1
  have HX2 := lk hX2
  clear hX0 hX1 hX2
  have R2 := lk (Rv.three s0 s1 s2 (fun b hb => BYY.out b (off_own f0 hb)) (fun b hb => BYY.out b (off_own f1 hb)) (fun b hb => BYY.out b (off_own f2 hb)))
  obtain ⟨V0, hV0⟩ : ∃ z, z = val B64 X0 := ⟨_, rfl⟩
  obtain ⟨V1, hV1⟩ : ∃ z, z = val B64 X1 := ⟨_, rfl⟩
  obtain ⟨V2, hV2⟩ : ∃ z, z = val B64 X2 := ⟨_, rfl⟩
  have HVV : Hid (V0 = val B64 X0 ∧ V1 = val B64 X1 ∧ V2 = val B64 X2) := lk ⟨hV0, hV1, hV2⟩
  have L3 : Hid (X0.length ≤ 16384 ∧ X1.length ≤ 16384 ∧ X2.length ≤ 16384) := lk (by
   rw [HX0.out, HX1.out, HX2.out, List.length_take, List.length_drop, List.length_take, List.length_drop, ← HN.out]; omega)
  have D5 : Hid (w.heap.size + 1 + 1 + 1 + 1 + 1 ≤ w2.heap.size) := lk (by have := P1.out.lt; omega)
  clear s0 s1 s2 f0 f1 f2 hV0 hV1 hV2 HPA HPB HPC HSY BYY
  have AD := ladd_c w2 u0 u2 _ _ (R2.out.at 0 rfl) (R2.out.at 2 rfl) (by have := L3.out.1; omega) (by have := L3.out.2.2; omega)
  rw [← HVV.out.1, ← HVV.out.2.2] at AD
  have HAD := lk AD
  clear AD
  go_wp2_with fail
  refine (HAD.out).mono ?_
  rintro e w3 ⟨ev, rfl, o3, g3⟩
  have W3 := lk ((Wv.nil w3 (w.heap.size + 1 + 1 + 1 + 1 + 1)).add o3 D5.out)
  have R3 := lk (R2.out.grown0 g3)
  have P3 := lk (P1.out.grown0 g3)
  have G3 := lk (jt G1.out g3)
  clear o3 g3 HAD R2 P1 G1
  have NO := lnorm_c w3 u0 _ (R3.out.at 0 rfl) (by have := L3.out.1; omega)
  have HNO := lk NO
  clear NO
  go_wp2_with fail
  refine (HNO.out).mono ?_
  rintro e w4 ⟨x0, rfl, o4, g4⟩
  have D3 : Hid (w.heap.size + 1 + 1 + 1 + 1 + 1 ≤ w3.heap.size) := lk (by have := P3.out.lt; omega)
  have W4 := lk ((W3.out.grown0 g4).add (v := x0) (n := V0) ⟨_, o4, trimZ_nz _, by rw [val_trimZ, HVV.out.1]⟩ D3.out)
  have R4 := lk (R3.out.grown0 g4)
  have P4 := lk (P3.out.grown0 g4)
  have G4 := lk (jt G3.out g4)
  obtain ⟨F0, c0', rfl, _, _⟩ := o4.sl.form
  clear o4 g4 HNO W3 R3 P3 G3
  obtain ⟨M, hM⟩ : ∃ M, M = 16384 := ⟨_, rfl⟩
  have BV : Hid (V0 + V2 < B64 ^ (M + 1) ∧ V0 + V2 + V1 < B64 ^ (M + 1) ∧ 2 * V1 < B64 ^ (M + 1) ∧ 4 * V2 < B64 ^ (M + 1) ∧ V0 + 2 * V1 + 4 * V2 < B64 ^ (M + 1)) := lk (by
   have t0 := val_lt (B := B64) (show Ws X0 by rw [HX0.out]; exact ws_take WX.out 1).dg
   have t1 := val_lt (B := B64) (show Ws X1 by rw [HX1.out]; exact ws_drop (ws_take WX.out 2) 1).dg
   have t2 := val_lt (B := B64) (show Ws X2 by rw [HX2.out]; exact ws_drop WX.out 2).dg
   rw [← HVV.out.1] at t0
   rw [← HVV.out.2.1] at t1
   rw [← HVV.out.2.2] at t2
   exact four_lt (Nat.lt_of_lt_of_le t0 (Nat.pow_le_pow_right (by decide) (by rw [hM]; exact L3.out.1))) (Nat.lt_of_lt_of_le t1 (Nat.pow_le_pow_right (by decide) (by rw [hM]; exact L3.out.2.1))) (Nat.lt_of_lt_of_le t2 (Nat.pow_le_pow_right (by decide) (by rw [hM]; exact L3.out.2.2))))
  have bM : M + 1 ≤ 16385 := by omega
  clear hM
  have c0 := P4.out.c0.cell 0 rfl
  have f0 := P4.out.c0.free 0 rfl
  obtain ⟨ws1, hws1⟩ : ∃ W, W = w4.setCell ⟨w.heap.size, 0, none⟩ (.slice F0 (trimZ X0).length c0') := ⟨_, rfl⟩
  have P5' := P4.out.s0 0 (.slice F0 (trimZ X0).length c0')
  have R5' := R4.out.set w.heap.size 0 (by omega) (.slice F0 (trimZ X0).length c0')
  have W5' := W4.out.set w.heap.size 0 (by omega) (.slice F0 (trimZ X0).length c0')
  have G5' := gb_set (p := ⟨w.heap.size, 0, none⟩) G4.out (Nat.le_refl _) (.slice F0 (trimZ X0).length c0')
  rw [← hws1] at P5' R5' W5' G5'
  obtain ⟨ze, se, le, vv⟩ := (W5'.at 0 rfl).lim BV.out.1 (by omega)
  have AD := ladd_c ws1 ev u1 ze _ se (R5'.at 1 rfl) le (by have := L3.out.2.1; omega)
  rw [vv, ← HVV.out.2.1] at AD
  have LE := less_c
  have HAD := lk AD
  have HP5 := lk P5'
  have HR5 := lk R5'
  have HW5 := lk W5'
  have HG5 := lk G5'
  have HWS := lk hws1
  clear AD P5' R5' W5' G5' se le vv LE P4 R4 W4 G4
  rw [hws1] at HAD
  clear hws1
  go_wp2_with fail
  refine (HAD.out).mono ?_
  rintro e w6 ⟨x1, rfl, o6, g6⟩
  rw [← HWS.out] at g6 o6
  have DS1 : Hid (w.heap.size + 1 + 1 + 1 + 1 + 1 ≤ ws1.heap.size) := lk (by have := HP5.out.lt; omega)
  have W6 := lk ((HW5.out.grown0 g6).add o6 DS1.out)
  have R6 := lk (HR5.out.grown0 g6)
  have P6 := lk (HP5.out.grown0 g6)
  have G6 := lk (jt HG5.out g6)
  obtain ⟨z6, oz6, _, _⟩ := o6
  obtain ⟨F1, c1', rfl, _, _⟩ := oz6.sl.form
  clear oz6 g6 HAD HP5 HR5 HW5 HG5 HWS c0 f0
  have c0 := P6.out.c1.cell 0 rfl
  have f0 := P6.out.c1.free 0 rfl
  obtain ⟨ws2, hws2⟩ : ∃ W, W = w6.setCell ⟨w.heap.size + 1, 0, none⟩ (.slice F1 z6.length c1') := ⟨_, rfl⟩
  have P7' := P6.out.s1 0 (.slice F1 z6.length c1')
  have R7' := R6.out.set (w.heap.size + 1) 0 (by omega) (.slice F1 z6.length c1')
  have W7' := W6.out.set (w.heap.size + 1) 0 (by omega) (.slice F1 z6.length c1')
  have G7' := gb_set (p := ⟨w.heap.size + 1, 0, none⟩) G6.out (Nat.le_succ _) (.slice F1 z6.length c1')
  rw [← hws2] at P7' R7' W7' G7'
  obtain ⟨ze2, se, le, vv⟩ := (W7'.at 0 rfl).lim BV.out.1 (by omega)
  have LS := less_c ws2 ev u1 ze2 _ se (R7'.at 1 rfl) le (by have := L3.out.2.1; omega)
  rw [vv, ← HVV.out.2.1] at LS
  have HLS := lk LS
  have P7 := lk P7'
  have R7 := lk R7'
  have W7 := lk W7'
  have G7 := lk G7'
  have HWS := lk hws2
  clear LS P7' R7' W7' G7' se le vv P6 R6 W6 G6 DS1
  rw [hws2] at HLS
  clear hws2
  go_wp2_with fail
  refine (HLS.out).mono ?_
  rintro e w8 ⟨xm, rfl, o8, g8⟩
  rw [← HWS.out] at g8 o8
  have DS2 : Hid (w.heap.size + 1 + 1 + 1 + 1 + 1 ≤ ws2.heap.size) := lk (by have := P7.out.lt; omega)
  have W8 := lk ((W7.out.grown0 g8).add o8 DS2.out)
  have R8 := lk (R7.out.grown0 g8)
  have P8 := lk (P7.out.grown0 g8)
  have G8 := lk (jt G7.out g8)
  obtain ⟨z8, oz8, _, _⟩ := o8
  obtain ⟨Fm, cm', rfl, _, _⟩ := oz8.sl.form
  obtain ⟨neg, hneg⟩ : ∃ b, b = decide (V0 + V2 < V1) := ⟨_, rfl⟩
  rw [← hneg]
  have HNEG := lk hneg
  clear oz8 g8 HLS P7 R7 W7 G7 HWS c0 f0 hneg
  have c0 := P8.out.c2.cell 0 rfl
  have f0 := P8.out.c2.free 0 rfl
  have c1 := P8.out.c2.cell 1 rfl
  have f1 := P8.out.c2.free 1 rfl
  obtain ⟨ws3, hws3⟩ : ∃ W, W = (w8.setCell ⟨w.heap.size + 1 + 1, 0, none⟩ (.slice Fm z8.length cm')).setCell ⟨w.heap.size + 1 + 1, 1, none⟩ (.bool neg) := ⟨_, rfl⟩
  have P9' := (P8.out.s2 0 (.slice Fm z8.length cm')).s2 1 (.bool neg)
  have R9' := (R8.out.set (w.heap.size + 1 + 1) 0 (by omega) (.slice Fm z8.length cm')).set (w.heap.size + 1 + 1) 1 (by omega) (.bool neg)
  have W9' := (W8.out.set (w.heap.size + 1 + 1) 0 (by omega) (.slice Fm z8.length cm')).set (w.heap.size + 1 + 1) 1 (by omega) (.bool neg)
  have G9' := gb_set (p := ⟨w.heap.size + 1 + 1, 1, none⟩) (gb_set (p := ⟨w.heap.size + 1 + 1, 0, none⟩) G8.out (by show w.heap.size ≤ w.heap.size + 1 + 1; omega) (.slice Fm z8.length cm')) (by show w.heap.size ≤ w.heap.size + 1 + 1; omega) (.bool neg)
  rw [← hws3] at P9' R9' W9' G9'
  have SH : Calls Tryz.prog 191 #[u1, .int .i64 1] ws3 fun e w' => ∃ x, e = .returned x ∧ Wo w' ws3.heap.size x (val B64 X1 * 2 ^ 1) ∧ ws3.grownBy w' none := lshl_c ws3 u1 _ 1 (R9'.at 1 rfl) (by have := L3.out.2.1; omega) (by decide) (by decide)
  rw [← HVV.out.2.1] at SH
  have HSH := lk SH
  have P9 := lk P9'
  have R9 := lk R9'
  have W9 := lk W9'
  have G9 := lk G9'
  have HWS := lk hws3
  clear SH P9' R9' W9' G9' P8 R8 W8 G8 DS2
  rw [hws3] at HSH
  clear hws3
  go_wp2_with fail
  refine (HSH.out).mono ?_
  rintro e w10 ⟨y1, rfl, o10, g10⟩
  rw [← HWS.out] at g10 o10
  have DS3 : Hid (w.heap.size + 1 + 1 + 1 + 1 + 1 ≤ ws3.heap.size) := lk (by have := P9.out.lt; omega)
  have W10 := lk ((W9.out.grown0 g10).add o10 DS3.out)
  have R10 := lk (R9.out.grown0 g10)
  have P10 := lk (P9.out.grown0 g10)
  have G10 := lk (jt G9.out g10)
  clear o10 g10 HSH P9 R9 W9 G9 HWS c0 f0 c1 f1 DS3
  have SH : Calls Tryz.prog 191 #[u2, .int .i64 2] w10 fun e w' => ∃ x, e = .returned x ∧ Wo w' w10.heap.size x (val B64 X2 * 2 ^ 2) ∧ w10.grownBy w' none := lshl_c w10 u2 _ 2 (R10.out.at 2 rfl) (by have := L3.out.2.2; omega) (by decide) (by decide)
  rw [← HVV.out.2.2] at SH
  have HSH := lk SH
  clear SH
  go_wp2_with fail
  refine (HSH.out).mono ?_
  rintro e w11 ⟨y2, rfl, o11, g11⟩
  have DS4 : Hid (w.heap.size + 1 + 1 + 1 + 1 + 1 ≤ w10.heap.size) := lk (by have := P10.out.lt; omega)
  have W11 := lk ((W10.out.grown0 g11).add o11 DS4.out)
  have R11 := lk (R10.out.grown0 g11)
  have P11 := lk (P10.out.grown0 g11)
  have G11 := lk (jt G10.out g11)
  clear o11 g11 HSH W10 R10 P10 G10 DS4
  obtain ⟨zy1, sy1, ly1, vy1⟩ := (W11.out.at 4 rfl).get (N := M + 1) (by have := BV.out; omega)
  obtain ⟨zy2, sy2, ly2, vy2⟩ := (W11.out.at 5 rfl).get (N := M + 1) (by have := BV.out; omega)
  have su0 := R11.out.at 0 rfl
  obtain ⟨Fy1, cy1, rfl, _, _⟩ := sy1.form
  obtain ⟨Fy2, cy2, rfl, _, _⟩ := sy2.form
  obtain ⟨Fu0, cu0, rfl, _, _⟩ := su0.form
  have PT := pts3 w11 184 _ _ _ _ zy1 zy2 su0 sy1 sy2
  have GP := ju (jr w11 none) (Obj.cells #[.slice Fu0 X0.length cu0, .slice Fy1 zy1.length cy1, .slice Fy2 zy2.length cy2] 184)
  have JN := lsum_c _ 3 _ _ _ PT (by decide) (fun j hj => by
   have b1 := L3.out.1
   rcases (show j = 0 ∨ j = 1 ∨ j = 2 by omega) with rfl | rfl | rfl
   ·show X0.length ≤ 100000; omega
   ·show zy1.length ≤ 100000; omega
   ·show zy2.length ≤ 100000; omega)
  rw [jS3] at JN
  have ej : val B64 (([X0, zy1, zy2] : List (List Int)).getD 0 []) + B64 ^ 0 * val B64 (([X0, zy1, zy2] : List (List Int)).getD 1 []) + B64 ^ 0 * B64 ^ 0 * val B64 (([X0, zy1, zy2] : List (List Int)).getD 2 []) = V0 + 2 * V1 + 4 * V2 := by
   show val B64 X0 + B64 ^ 0 * val B64 zy1 + B64 ^ 0 * B64 ^ 0 * val B64 zy2 = _
   rw [vy1, vy2, ← HVV.out.1, Nat.pow_zero]; omega
  rw [ej] at JN
  have HJN := lk JN
  have HGP := lk GP
  clear JN ej PT GP sy1 sy2 su0 ly1 ly2 vy1 vy2
  go_wp2_with fail
  refine (HJN.out).mono ?_
  rintro e w12 ⟨x2, rfl, o12, g12⟩
  have GA := jt HGP.out g12
  have DS5 : Hid (w.heap.size + 1 + 1 + 1 + 1 + 1 ≤ (w11.alloc (Obj.cells #[.slice Fu0 X0.length cu0, .slice Fy1 zy1.length cy1, .slice Fy2 zy2.length cy2] 184)).heap.size) := lk (by have := P11.out.lt; have := HGP.out.size; omega)
  have W12 := lk ((W11.out.grown0 GA).add o12 DS5.out)
  have R12 := lk (R11.out.grown0 GA)
  have P12 := lk (P11.out.grown0 GA)
  have G12 := lk (jt G11.out GA)
  obtain ⟨z12, oz12, _, _⟩ := o12
  obtain ⟨F2, c2', rfl, _, _⟩ := oz12.sl.form
  clear oz12 g12 GA HJN HGP W11 R11 P11 G11 DS5
  have c0 := P12.out.c3.cell 0 rfl
  have f0 := P12.out.c3.free 0 rfl
  obtain ⟨ws4, hws4⟩ : ∃ W, W = w12.setCell ⟨w.heap.size + 1 + 1 + 1, 0, none⟩ (.slice F2 z12.length c2') := ⟨_, rfl⟩
  have P13' := P12.out.s3 0 (.slice F2 z12.length c2')
  have R13' := R12.out.set (w.heap.size + 1 + 1 + 1) 0 (by omega) (.slice F2 z12.length c2')
  have W13' := W12.out.set (w.heap.size + 1 + 1 + 1) 0 (by omega) (.slice F2 z12.length c2')
  have G13' := gb_set (p := ⟨w.heap.size + 1 + 1 + 1, 0, none⟩) G12.out (by show w.heap.size ≤ w.heap.size + 1 + 1 + 1; omega) (.slice F2 z12.length c2')
  rw [← hws4] at P13' R13' W13' G13'
  have NO := lnorm_c ws4 u2 _ (R13'.at 2 rfl) (by have := L3.out.2.2; omega)
  have HNO := lk NO
  have P13 := lk P13'
  have R13 := lk R13'
  have W13 := lk W13'
  have G13 := lk G13'
  have HWS := lk hws4
  clear NO P13' R13' W13' G13' P12 R12 W12 G12
  rw [hws4] at HNO
  clear hws4
  go_wp2_with fail
  refine (HNO.out).mono ?_
  rintro e w14 ⟨xi, rfl, o14, g14⟩
  rw [← HWS.out] at g14 o14
  have DS6 : Hid (w.heap.size + 1 + 1 + 1 + 1 + 1 ≤ ws4.heap.size) := lk (by have := P13.out.lt; omega)
  have W14 := lk ((W13.out.grown0 g14).add (v := xi) (n := V2) ⟨_, o14, trimZ_nz _, by rw [val_trimZ, HVV.out.2.2]⟩ DS6.out)
  have P14 := lk (P13.out.grown0 g14)
  have G14 := lk (jt G13.out g14)
  obtain ⟨Fi, ci', rfl, _, _⟩ := o14.sl.form
  clear o14 g14 HNO P13 R13 W13 G13 HWS c0 f0 DS6
  have c0 := P14.out.c4.cell 0 rfl
  have f0 := P14.out.c4.free 0 rfl
  go_wp2
  refine wp_gen (fun W => w.grownBy W none ∧ P5 W w.heap.size [.slice F0 (trimZ X0).length c0', .bool false] [.slice F1 z6.length c1', .bool false] [.slice Fm z8.length cm', .bool neg] [.slice F2 z12.length c2', .bool false] [.slice Fi (trimZ X2).length ci', .bool false] ∧ Wv W (w.heap.size + 1 + 1 + 1 + 1 + 1) _) ⟨gb_set (p := ⟨w.heap.size + 1 + 1 + 1 + 1, 0, none⟩) G14.out (by show w.heap.size ≤ w.heap.size + 1 + 1 + 1 + 1; omega) _, P14.out.s4 0 _, W14.out.set (w.heap.size + 1 + 1 + 1 + 1) 0 (by omega) _⟩ ?_
  clear P14 W14 G14 c0 f0
  rintro wr ⟨G, P, WV⟩
  have GG := lk G
  have PP := lk P
  have WW := lk WV
  have a0 := P.c0.cell 0 rfl
  have a1 := P.c0.cell 1 rfl
  have a2 := P.c0.free 0 rfl
  have a3 := P.c0.free 1 rfl
  have b0 := P.c1.cell 0 rfl
  have b1 := P.c1.cell 1 rfl
  have b2 := P.c1.free 0 rfl
  have b3 := P.c1.free 1 rfl
  have d0 := P.c2.cell 0 rfl
  have d1 := P.c2.cell 1 rfl
  have d2 := P.c2.free 0 rfl
  have d3 := P.c2.free 1 rfl
  have e0 := P.c3.cell 0 rfl
  have e1 := P.c3.cell 1 rfl
  have e2 := P.c3.free 0 rfl
  have e3 := P.c3.free 1 rfl
  have q0 := P.c4.cell 0 rfl
  have q1 := P.c4.cell 1 rfl
  have q2 := P.c4.free 0 rfl
  have q3 := P.c4.free 1 rfl
  clear G P WV
  have HF : Hid (∀ W, P5 W w.heap.size [.slice F0 (trimZ X0).length c0', .bool false] [.slice F1 z6.length c1', .bool false] [.slice Fm z8.length cm', .bool neg] [.slice F2 z12.length c2', .bool false] [.slice Fi (trimZ X2).length ci', .bool false] →
    Canon.SF [(⟨w.heap.size + 1, 0, none⟩, .agg #[.slice F1 z6.length c1', .bool false]), (⟨w.heap.size + 1 + 1, 0, none⟩, .agg #[.slice Fm z8.length cm', .bool neg]), (⟨w.heap.size + 1 + 1 + 1, 0, none⟩, .agg #[.slice F2 z12.length c2', .bool false]), (⟨w.heap.size + 1 + 1 + 1 + 1, 0, none⟩, .agg #[.slice Fi (trimZ X2).length ci', .bool false])] W) := lk (fun W P =>
   Canon.sf_agg (fun j u h => P.c1.at0 j h) (Canon.sf_agg (fun j u h => P.c2.at0 j h) (Canon.sf_agg (fun j u h => P.c3.at0 j h) (Canon.sf_agg (fun j u h => P.c4.at0 j h) (Canon.sf_nil _)))))
  refine Canon.region_held [57, 58, 59, 60] _ (by kernel_rfl) (by kernel_rfl) (HF.out _ PP.out) ?_
  refine Canon.segs_at 5 _ _ _ (by kernel_rfl) ?_
  simp only [ja, jb, jc, jd]
  go_wp2
  clear a0 a1 a2 a3 b0 b1 b2 b3 d0 d1 d2 d3 e0 e1 e2 e3 q0 q1 q2 q3
  have PN := lk (((PP.out.drew).s0 0 (.slice F0 (trimZ X0).length c0')).s0 1 (.bool false))
  have WN := lk ((WW.out.drew.set (w.heap.size) 0 (by omega) (.slice F0 (trimZ X0).length c0')).set (w.heap.size) 1 (by omega) (.bool false))
  have GN := lk (gb_set (p := ⟨w.heap.size, 1, none⟩) (gb_set (p := ⟨w.heap.size, 0, none⟩) (jw GG.out) (by show w.heap.size ≤ w.heap.size; omega) (.slice F0 (trimZ X0).length c0')) (by show w.heap.size ≤ w.heap.size; omega) (.bool false))
  clear PP WW GG
  refine ⟨HF.out _ PN.out, ?_⟩
  refine segs_gen (fun W => w.grownBy W none ∧ P5 W w.heap.size [.slice F0 (trimZ X0).length c0', .bool false] [.slice F1 z6.length c1', .bool false] [.slice Fm z8.length cm', .bool neg] [.slice F2 z12.length c2', .bool false] [.slice Fi (trimZ X2).length ci', .bool false] ∧ Wv W (w.heap.size + 1 + 1 + 1 + 1 + 1) _) ⟨GN.out, PN.out, WN.out⟩ ?_
  clear PN WN GN
  rintro wr0 ⟨G, P, WV⟩
  have GG := lk G
  have PP := lk P
  have WW := lk WV
  have a0 := P.c0.cell 0 rfl
  have a1 := P.c0.cell 1 rfl
  have a2 := P.c0.free 0 rfl
  have a3 := P.c0.free 1 rfl
  have b0 := P.c1.cell 0 rfl
  have b1 := P.c1.cell 1 rfl
  have b2 := P.c1.free 0 rfl
  have b3 := P.c1.free 1 rfl
  have d0 := P.c2.cell 0 rfl
  have d1 := P.c2.cell 1 rfl
  have d2 := P.c2.free 0 rfl
  have d3 := P.c2.free 1 rfl
  have e0 := P.c3.cell 0 rfl
  have e1 := P.c3.cell 1 rfl
  have e2 := P.c3.free 0 rfl
  have e3 := P.c3.free 1 rfl
  have q0 := P.c4.cell 0 rfl
  have q1 := P.c4.cell 1 rfl
  have q2 := P.c4.free 0 rfl
  have q3 := P.c4.free 1 rfl
  clear G P WV
  refine Canon.segs_at 0 _ _ _ (by kernel_rfl) ?_
  simp only [ja, jb, jc, jd]
  go_wp2
  clear a0 a1 a2 a3 b0 b1 b2 b3 d0 d1 d2 d3 e0 e1 e2 e3 q0 q1 q2 q3
  have PN := lk ((PP.out.s1 0 (.slice F1 z6.length c1')).s1 1 (.bool false))
  have WN := lk ((WW.out.set (w.heap.size + 1) 0 (by omega) (.slice F1 z6.length c1')).set (w.heap.size + 1) 1 (by omega) (.bool false))
  have GN := lk (gb_set (p := ⟨w.heap.size + 1, 1, none⟩) (gb_set (p := ⟨w.heap.size + 1, 0, none⟩) GG.out (by show w.heap.size ≤ w.heap.size + 1; omega) (.slice F1 z6.length c1')) (by show w.heap.size ≤ w.heap.size + 1; omega) (.bool false))
  clear PP WW GG
  refine ⟨HF.out _ PN.out, ?_⟩
  refine segs_gen (fun W => w.grownBy W none ∧ P5 W w.heap.size [.slice F0 (trimZ X0).length c0', .bool false] [.slice F1 z6.length c1', .bool false] [.slice Fm z8.length cm', .bool neg] [.slice F2 z12.length c2', .bool false] [.slice Fi (trimZ X2).length ci', .bool false] ∧ Wv W (w.heap.size + 1 + 1 + 1 + 1 + 1) _) ⟨GN.out, PN.out, WN.out⟩ ?_
  clear PN WN GN
  rintro wr1 ⟨G, P, WV⟩
  have GG := lk G
  have PP := lk P
  have WW := lk WV
  have a0 := P.c0.cell 0 rfl
  have a1 := P.c0.cell 1 rfl
  have a2 := P.c0.free 0 rfl
  have a3 := P.c0.free 1 rfl
  have b0 := P.c1.cell 0 rfl
  have b1 := P.c1.cell 1 rfl
  have b2 := P.c1.free 0 rfl
  have b3 := P.c1.free 1 rfl
  have d0 := P.c2.cell 0 rfl
  have d1 := P.c2.cell 1 rfl
  have d2 := P.c2.free 0 rfl
  have d3 := P.c2.free 1 rfl
  have e0 := P.c3.cell 0 rfl
  have e1 := P.c3.cell 1 rfl
  have e2 := P.c3.free 0 rfl
  have e3 := P.c3.free 1 rfl
  have q0 := P.c4.cell 0 rfl
  have q1 := P.c4.cell 1 rfl
  have q2 := P.c4.free 0 rfl
  have q3 := P.c4.free 1 rfl
  clear G P WV
  refine Canon.segs_at 0 _ _ _ (by kernel_rfl) ?_
  simp only [ja, jb, jc, jd]
  go_wp2
  clear a0 a1 a2 a3 b0 b1 b2 b3 d0 d1 d2 d3 e0 e1 e2 e3 q0 q1 q2 q3
  have PN := lk ((PP.out.s2 0 (.slice Fm z8.length cm')).s2 1 (.bool neg))
  have WN := lk ((WW.out.set (w.heap.size + 1 + 1) 0 (by omega) (.slice Fm z8.length cm')).set (w.heap.size + 1 + 1) 1 (by omega) (.bool neg))
  have GN := lk (gb_set (p := ⟨w.heap.size + 1 + 1, 1, none⟩) (gb_set (p := ⟨w.heap.size + 1 + 1, 0, none⟩) GG.out (by show w.heap.size ≤ w.heap.size + 1 + 1; omega) (.slice Fm z8.length cm')) (by show w.heap.size ≤ w.heap.size + 1 + 1; omega) (.bool neg))
  clear PP WW GG
  refine ⟨HF.out _ PN.out, ?_⟩
  refine segs_gen (fun W => w.grownBy W none ∧ P5 W w.heap.size [.slice F0 (trimZ X0).length c0', .bool false] [.slice F1 z6.length c1', .bool false] [.slice Fm z8.length cm', .bool neg] [.slice F2 z12.length c2', .bool false] [.slice Fi (trimZ X2).length ci', .bool false] ∧ Wv W (w.heap.size + 1 + 1 + 1 + 1 + 1) _) ⟨GN.out, PN.out, WN.out⟩ ?_
  clear PN WN GN
  rintro wr2 ⟨G, P, WV⟩
  have GG := lk G
  have PP := lk P
  have WW := lk WV
  have a0 := P.c0.cell 0 rfl
  have a1 := P.c0.cell 1 rfl
  have a2 := P.c0.free 0 rfl
  have a3 := P.c0.free 1 rfl
  have b0 := P.c1.cell 0 rfl
  have b1 := P.c1.cell 1 rfl
  have b2 := P.c1.free 0 rfl
  have b3 := P.c1.free 1 rfl
  have d0 := P.c2.cell 0 rfl
  have d1 := P.c2.cell 1 rfl
  have d2 := P.c2.free 0 rfl
  have d3 := P.c2.free 1 rfl
  have e0 := P.c3.cell 0 rfl
  have e1 := P.c3.cell 1 rfl
  have e2 := P.c3.free 0 rfl
  have e3 := P.c3.free 1 rfl
  have q0 := P.c4.cell 0 rfl
  have q1 := P.c4.cell 1 rfl
  have q2 := P.c4.free 0 rfl
  have q3 := P.c4.free 1 rfl
  clear G P WV
  refine Canon.segs_at 0 _ _ _ (by kernel_rfl) ?_
  simp only [ja, jb, jc, jd]
  go_wp2
  clear a0 a1 a2 a3 b0 b1 b2 b3 d0 d1 d2 d3 e0 e1 e2 e3 q0 q1 q2 q3
  have PN := lk ((PP.out.s3 0 (.slice F2 z12.length c2')).s3 1 (.bool false))
  have WN := lk ((WW.out.set (w.heap.size + 1 + 1 + 1) 0 (by omega) (.slice F2 z12.length c2')).set (w.heap.size + 1 + 1 + 1) 1 (by omega) (.bool false))
  have GN := lk (gb_set (p := ⟨w.heap.size + 1 + 1 + 1, 1, none⟩) (gb_set (p := ⟨w.heap.size + 1 + 1 + 1, 0, none⟩) GG.out (by show w.heap.size ≤ w.heap.size + 1 + 1 + 1; omega) (.slice F2 z12.length c2')) (by show w.heap.size ≤ w.heap.size + 1 + 1 + 1; omega) (.bool false))
  clear PP WW GG
  refine ⟨HF.out _ PN.out, ?_⟩
  refine segs_gen (fun W => w.grownBy W none ∧ P5 W w.heap.size [.slice F0 (trimZ X0).length c0', .bool false] [.slice F1 z6.length c1', .bool false] [.slice Fm z8.length cm', .bool neg] [.slice F2 z12.length c2', .bool false] [.slice Fi (trimZ X2).length ci', .bool false] ∧ Wv W (w.heap.size + 1 + 1 + 1 + 1 + 1) _) ⟨GN.out, PN.out, WN.out⟩ ?_
  clear PN WN GN
  rintro wr3 ⟨G, P, WV⟩
  have GG := lk G
  have PP := lk P
  have WW := lk WV
  have a0 := P.c0.cell 0 rfl
  have a1 := P.c0.cell 1 rfl
  have a2 := P.c0.free 0 rfl
  have a3 := P.c0.free 1 rfl
  have b0 := P.c1.cell 0 rfl
  have b1 := P.c1.cell 1 rfl
  have b2 := P.c1.free 0 rfl
  have b3 := P.c1.free 1 rfl
  have d0 := P.c2.cell 0 rfl
  have d1 := P.c2.cell 1 rfl
  have d2 := P.c2.free 0 rfl
  have d3 := P.c2.free 1 rfl
  have e0 := P.c3.cell 0 rfl
  have e1 := P.c3.cell 1 rfl
  have e2 := P.c3.free 0 rfl
  have e3 := P.c3.free 1 rfl
  have q0 := P.c4.cell 0 rfl
  have q1 := P.c4.cell 1 rfl
  have q2 := P.c4.free 0 rfl
  have q3 := P.c4.free 1 rfl
  clear G P WV
  refine Canon.segs_at 0 _ _ _ (by kernel_rfl) ?_
  simp only [ja, jb, jc, jd]
  go_wp2
  clear a0 a1 a2 a3 b0 b1 b2 b3 d0 d1 d2 d3 e0 e1 e2 e3 q0 q1 q2 q3
  have PN := lk ((PP.out.s4 0 (.slice Fi (trimZ X2).length ci')).s4 1 (.bool false))
  have WN := lk ((WW.out.set (w.heap.size + 1 + 1 + 1 + 1) 0 (by omega) (.slice Fi (trimZ X2).length ci')).set (w.heap.size + 1 + 1 + 1 + 1) 1 (by omega) (.bool false))
  have GN := lk (gb_set (p := ⟨w.heap.size + 1 + 1 + 1 + 1, 1, none⟩) (gb_set (p := ⟨w.heap.size + 1 + 1 + 1 + 1, 0, none⟩) GG.out (by show w.heap.size ≤ w.heap.size + 1 + 1 + 1 + 1; omega) (.slice Fi (trimZ X2).length ci')) (by show w.heap.size ≤ w.heap.size + 1 + 1 + 1 + 1; omega) (.bool false))
  clear PP WW GG
  refine ⟨HF.out _ PN.out, ?_⟩
  refine segs_gen (fun W => w.grownBy W none ∧ P5 W w.heap.size [.slice F0 (trimZ X0).length c0', .bool false] [.slice F1 z6.length c1', .bool false] [.slice Fm z8.length cm', .bool neg] [.slice F2 z12.length c2', .bool false] [.slice Fi (trimZ X2).length ci', .bool false] ∧ Wv W (w.heap.size + 1 + 1 + 1 + 1 + 1) _) ⟨GN.out, PN.out, WN.out⟩ ?_
  clear PN WN GN
  rintro wr4 ⟨G, P, WV⟩
  have GG := lk G
  have PP := lk P
  have WW := lk WV
  have a0 := P.c0.cell 0 rfl
  have a1 := P.c0.cell 1 rfl
  have a2 := P.c0.free 0 rfl
  have a3 := P.c0.free 1 rfl
  have b0 := P.c1.cell 0 rfl
  have b1 := P.c1.cell 1 rfl
  have b2 := P.c1.free 0 rfl
  have b3 := P.c1.free 1 rfl
  have d0 := P.c2.cell 0 rfl
  have d1 := P.c2.cell 1 rfl
  have d2 := P.c2.free 0 rfl
  have d3 := P.c2.free 1 rfl
  have e0 := P.c3.cell 0 rfl
  have e1 := P.c3.cell 1 rfl
  have e2 := P.c3.free 0 rfl
  have e3 := P.c3.free 1 rfl
  have q0 := P.c4.cell 0 rfl
  have q1 := P.c4.cell 1 rfl
  have q2 := P.c4.free 0 rfl
  have q3 := P.c4.free 1 rfl
  clear G P WV
  refine Canon.segs_end _ _ _ (by kernel_rfl) ?_
  go_wp2
  refine ⟨by kernel_rfl, by kernel_rfl, by kernel_rfl, ?_⟩
  clear a0 a1 a2 a3 b0 b1 b2 b3 d0 d1 d2 d3 e0 e1 e2 e3 q0 q1 q2 q3
  go_wp2
  refine bodyPost_ret (res_agg5 rfl PP.out.c0 PP.out.c1 PP.out.c2 PP.out.c3 PP.out.c4 rfl rfl rfl rfl rfl (by kernel_rfl) (by kernel_rfl) (by kernel_rfl) (by kernel_rfl) (by kernel_rfl) (by kernel_rfl)) rfl ?_
  have DW : w.heap.size ≤ w.heap.size + 1 + 1 + 1 + 1 + 1 := by omega
  refine ⟨_, _, _, _, _, V0, V1, V2, by rw [← HNEG.out], ?_, ?_, ?_, ?_, (WW.out.at 1 rfl).mono DW, (WW.out.at 2 rfl).mono DW, (WW.out.at 3 rfl).mono DW, (WW.out.at 6 rfl).mono DW, (WW.out.at 7 rfl).mono DW, GG.out⟩
  ·rw [← HXV.out, HVV.out.1, HVV.out.2.1, HVV.out.2.2, HX0.out, HX1.out, HX2.out]
   first | (rw [HK2.out]; exact val_cut3 xs 1) | exact val_cut3 xs 1
  ·rw [HVV.out.1, HX0.out]
   have := val_lt (B := B64) (ws_take WX.out 1).dg
   rw [List.length_take] at this
   exact Nat.lt_of_lt_of_le this (Nat.pow_le_pow_right (by decide) (Nat.min_le_left _ _))
  ·rw [HVV.out.2.1, HX1.out]
   have := val_lt (B := B64) (ws_drop (ws_take WX.out 2) 1).dg
   rw [List.length_drop, List.length_take] at this
   exact Nat.lt_of_lt_of_le this (Nat.pow_le_pow_right (by decide) (by first | (rw [HK2.out]; omega) | omega))
  ·rw [HVV.out.2.2, HX2.out]
   have := val_lt (B := B64) (ws_drop WX.out 2).dg
   rw [List.length_drop, ← HN.out] at this
   exact Nat.lt_of_lt_of_le this (Nat.pow_le_pow_right (by decide) (by have := HXL.out; first | (rw [HK2.out]; omega) | omega))
 ·have hk2 : 1 < k := by omega
  clear hk0 hk1
  obtain ⟨K2, hK2⟩ : ∃ z, z = 2 * k := ⟨_, rfl⟩
  have e2k : 2 * (k : Int) = (K2 : Int) := by omega
  have HK2 := lk hK2
  have bK2 : K2 ≤ 32768 := by omega
  clear hK2
  go_enter Tryz.func170, Tryz.ntmps170
  go_wp2_with fail
  refine (HN0.out).mono ?_
  rintro e w1 ⟨y, rfl, oy, g1⟩
  obtain ⟨xs, hxs⟩ : ∃ l, l = trimZ al := ⟨_, rfl⟩
  have hxl : xs.length ≤ al.length := by rw [hxs]; exact trimZ_len _
  have hxv : val B64 xs = val B64 al := by rw [hxs]; exact val_trimZ _ _
  rw [← hxs] at oy
  have SY := oy.sl
  have D5 : w.heap.size + 1 + 1 + 1 + 1 + 1 ≤ (((((w.alloc (Obj.cells #[.slice none 0 0, .bool false] 243)).alloc (Obj.cells #[.slice none 0 0, .bool false] 243)).alloc (Obj.cells #[.slice none 0 0, .bool false] 243)).alloc (Obj.cells #[.slice none 0 0, .bool false] 243)).alloc (Obj.cells #[.slice none 0 0, .bool false] 243)).heap.size := by rw [alloc_sz, alloc_sz, alloc_sz, alloc_sz, alloc_sz]; exact Nat.le_refl _
  have BYY := lk (fun b hb => Nat.le_trans D5 (oy.lt b hb).1)
  obtain ⟨A1, c1, rfl, hc1, hc2⟩ := SY.form
  have HSY := lk SY
  have HXV := lk hxv
  have HXL := lk hxl
  have WX := lk SY.ws
  have P1 := lk (HP0.out.grown0 g1)
  have G1 := lk (jt HG0.out g1)
  clear oy g1 HN0 HP0 HG0 hxs SY hxv hxl
  obtain ⟨n, hn⟩ : ∃ n, n = xs.length := ⟨_, rfl⟩
  rw [← hn] at HSY HXL hc1 BYY ⊢
  have HN := lk hn
  have bn : n ≤ 16384 := Nat.le_trans HXL.out hl
  clear hn
  have PA : Calls Tryz.prog 188 #[.slice A1 n c1, .int .i64 0, .int .i64 k] w1 fun e w' => ∃ u, e = .returned u ∧ Sl w1 u ((xs.take k).drop 0) ∧ (∀ gm, Off (.slice A1 n c1) gm → Off u gm) ∧ w' = w1 := part_c w1 _ xs 0 k HSY.out (fun _ => by omega) (by decide) (by omega)
  have HPA := lk PA
  have PB : Calls Tryz.prog 188 #[.slice A1 n c1, .int .i64 k, .int .i64 K2] w1 fun e w' => ∃ u, e = .returned u ∧ Sl w1 u ((xs.take K2).drop k) ∧ (∀ gm, Off (.slice A1 n c1) gm → Off u gm) ∧ w' = w1 := part_c w1 _ xs k K2 HSY.out (fun _ => by have := HK2.out; omega) (by omega) (by omega)
  have HPB := lk PB
  have PC := part_c w1 _ xs K2 n HSY.out (fun h => by rw [← HN.out] at h; omega) (by omega) (by omega)
  have HPC := lk PC
  clear PA PB PC
  go_wp2_with fail
  refine (HPA.out).mono ?_
  rintro e w2 ⟨u0, rfl, s0, f0, hw2⟩
  subst hw2
  go_wp2_with fail
  refine (HPB.out).mono ?_
  rintro e w2 ⟨u1, rfl, s1, f1, hw2⟩
  subst hw2
  go_wp2_with fail
  refine (HPC.out).mono ?_
  rintro e w2 ⟨u2, rfl, s2, f2, hw2⟩
  subst hw2
  rw [List.drop_zero] at s0
  rw [List.take_of_length_le (show xs.length ≤ n by rw [← HN.out]; exact Nat.le_refl _)] at s2
  obtain ⟨X0, hX0⟩ : ∃ l, l = xs.take k := ⟨_, rfl⟩
  obtain ⟨X1, hX1⟩ : ∃ l, l = (xs.take K2).drop k := ⟨_, rfl⟩
  obtain ⟨X2, hX2⟩ : ∃ l, l = xs.drop K2 := ⟨_, rfl⟩
  rw [← hX0] at s0
  rw [← hX1] at s1
  rw [← hX2] at s2
  have HX0 := lk hX0
  have HX1 := lk hX1
  have HX2 := lk hX2
  clear hX0 hX1 hX2
  have R2 := lk (Rv.three s0 s1 s2 (fun b hb => BYY.out b (off_own f0 hb)) (fun b hb => BYY.out b (off_own f1 hb)) (fun b hb => BYY.out b (off_own f2 hb)))
  obtain ⟨V0, hV0⟩ : ∃ z, z = val B64 X0 := ⟨_, rfl⟩
  obtain ⟨V1, hV1⟩ : ∃ z, z = val B64 X1 := ⟨_, rfl⟩
  obtain ⟨V2, hV2⟩ : ∃ z, z = val B64 X2 := ⟨_, rfl⟩
  have HVV : Hid (V0 = val B64 X0 ∧ V1 = val B64 X1 ∧ V2 = val B64 X2) := lk ⟨hV0, hV1, hV2⟩
  have L3 : Hid (X0.length ≤ 16384 ∧ X1.length ≤ 16384 ∧ X2.length ≤ 16384) := lk (by
   rw [HX0.out, HX1.out, HX2.out, List.length_take, List.length_drop, List.length_take, List.length_drop, ← HN.out]; omega)
  have D5 : Hid (w.heap.size + 1 + 1 + 1 + 1 + 1 ≤ w2.heap.size) := lk (by have := P1.out.lt; omega)
  clear s0 s1 s2 f0 f1 f2 hV0 hV1 hV2 HPA HPB HPC HSY BYY
  have AD := ladd_c w2 u0 u2 _ _ (R2.out.at 0 rfl) (R2.out.at 2 rfl) (by have := L3.out.1; omega) (by have := L3.out.2.2; omega)
  rw [← HVV.out.1, ← HVV.out.2.2] at AD
  have HAD := lk AD
  clear AD
  go_wp2_with fail
  refine (HAD.out).mono ?_
  rintro e w3 ⟨ev, rfl, o3, g3⟩
  have W3 := lk ((Wv.nil w3 (w.heap.size + 1 + 1 + 1 + 1 + 1)).add o3 D5.out)
  have R3 := lk (R2.out.grown0 g3)
  have P3 := lk (P1.out.grown0 g3)
  have G3 := lk (jt G1.out g3)
  clear o3 g3 HAD R2 P1 G1
  have NO := lnorm_c w3 u0 _ (R3.out.at 0 rfl) (by have := L3.out.1; omega)
  have HNO := lk NO
  clear NO
  go_wp2_with fail
  refine (HNO.out).mono ?_
  rintro e w4 ⟨x0, rfl, o4, g4⟩
  have D3 : Hid (w.heap.size + 1 + 1 + 1 + 1 + 1 ≤ w3.heap.size) := lk (by have := P3.out.lt; omega)
  have W4 := lk ((W3.out.grown0 g4).add (v := x0) (n := V0) ⟨_, o4, trimZ_nz _, by rw [val_trimZ, HVV.out.1]⟩ D3.out)
  have R4 := lk (R3.out.grown0 g4)
  have P4 := lk (P3.out.grown0 g4)
  have G4 := lk (jt G3.out g4)
  obtain ⟨F0, c0', rfl, _, _⟩ := o4.sl.form
  clear o4 g4 HNO W3 R3 P3 G3
  obtain ⟨M, hM⟩ : ∃ M, M = 16384 := ⟨_, rfl⟩
  have BV : Hid (V0 + V2 < B64 ^ (M + 1) ∧ V0 + V2 + V1 < B64 ^ (M + 1) ∧ 2 * V1 < B64 ^ (M + 1) ∧ 4 * V2 < B64 ^ (M + 1) ∧ V0 + 2 * V1 + 4 * V2 < B64 ^ (M + 1)) := lk (by
   have t0 := val_lt (B := B64) (show Ws X0 by rw [HX0.out]; exact ws_take WX.out k).dg
   have t1 := val_lt (B := B64) (show Ws X1 by rw [HX1.out]; exact ws_drop (ws_take WX.out K2) k).dg
   have t2 := val_lt (B := B64) (show Ws X2 by rw [HX2.out]; exact ws_drop WX.out K2).dg
   rw [← HVV.out.1] at t0
   rw [← HVV.out.2.1] at t1
   rw [← HVV.out.2.2] at t2
   exact four_lt (Nat.lt_of_lt_of_le t0 (Nat.pow_le_pow_right (by decide) (by rw [hM]; exact L3.out.1))) (Nat.lt_of_lt_of_le t1 (Nat.pow_le_pow_right (by decide) (by rw [hM]; exact L3.out.2.1))) (Nat.lt_of_lt_of_le t2 (Nat.pow_le_pow_right (by decide) (by rw [hM]; exact L3.out.2.2))))
  have bM : M + 1 ≤ 16385 := by omega
  clear hM
  have c0 := P4.out.c0.cell 0 rfl
  have f0 := P4.out.c0.free 0 rfl
  obtain ⟨ws1, hws1⟩ : ∃ W, W = w4.setCell ⟨w.heap.size, 0, none⟩ (.slice F0 (trimZ X0).length c0') := ⟨_, rfl⟩
  have P5' := P4.out.s0 0 (.slice F0 (trimZ X0).length c0')
  have R5' := R4.out.set w.heap.size 0 (by omega) (.slice F0 (trimZ X0).length c0')
  have W5' := W4.out.set w.heap.size 0 (by omega) (.slice F0 (trimZ X0).length c0')
  have G5' := gb_set (p := ⟨w.heap.size, 0, none⟩) G4.out (Nat.le_refl _) (.slice F0 (trimZ X0).length c0')
  rw [← hws1] at P5' R5' W5' G5'
  obtain ⟨ze, se, le, vv⟩ := (W5'.at 0 rfl).lim BV.out.1 (by omega)
  have AD := ladd_c ws1 ev u1 ze _ se (R5'.at 1 rfl) le (by have := L3.out.2.1; omega)
  rw [vv, ← HVV.out.2.1] at AD
  have LE := less_c
  have HAD := lk AD
  have HP5 := lk P5'
  have HR5 := lk R5'
  have HW5 := lk W5'
  have HG5 := lk G5'
  have HWS := lk hws1
  clear AD P5' R5' W5' G5' se le vv LE P4 R4 W4 G4
  rw [hws1] at HAD
  clear hws1
  go_wp2_with fail
  refine (HAD.out).mono ?_
  rintro e w6 ⟨x1, rfl, o6, g6⟩
  rw [← HWS.out] at g6 o6
  have DS1 : Hid (w.heap.size + 1 + 1 + 1 + 1 + 1 ≤ ws1.heap.size) := lk (by have := HP5.out.lt; omega)
  have W6 := lk ((HW5.out.grown0 g6).add o6 DS1.out)
  have R6 := lk (HR5.out.grown0 g6)
  have P6 := lk (HP5.out.grown0 g6)
  have G6 := lk (jt HG5.out g6)
  obtain ⟨z6, oz6, _, _⟩ := o6
  obtain ⟨F1, c1', rfl, _, _⟩ := oz6.sl.form
  clear oz6 g6 HAD HP5 HR5 HW5 HG5 HWS c0 f0
  have c0 := P6.out.c1.cell 0 rfl
  have f0 := P6.out.c1.free 0 rfl
  obtain ⟨ws2, hws2⟩ : ∃ W, W = w6.setCell ⟨w.heap.size + 1, 0, none⟩ (.slice F1 z6.length c1') := ⟨_, rfl⟩
  have P7' := P6.out.s1 0 (.slice F1 z6.length c1')
  have R7' := R6.out.set (w.heap.size + 1) 0 (by omega) (.slice F1 z6.length c1')
  have W7' := W6.out.set (w.heap.size + 1) 0 (by omega) (.slice F1 z6.length c1')
  have G7' := gb_set (p := ⟨w.heap.size + 1, 0, none⟩) G6.out (Nat.le_succ _) (.slice F1 z6.length c1')
  rw [← hws2] at P7' R7' W7' G7'
  obtain ⟨ze2, se, le, vv⟩ := (W7'.at 0 rfl).lim BV.out.1 (by omega)
  have LS := less_c ws2 ev u1 ze2 _ se (R7'.at 1 rfl) le (by have := L3.out.2.1; omega)
  rw [vv, ← HVV.out.2.1] at LS
  have HLS := lk LS
  have P7 := lk P7'
  have R7 := lk R7'
  have W7 := lk W7'
  have G7 := lk G7'
  have HWS := lk hws2
  clear LS P7' R7' W7' G7' se le vv P6 R6 W6 G6 DS1
  rw [hws2] at HLS
  clear hws2
  go_wp2_with fail
  refine (HLS.out).mono ?_
  rintro e w8 ⟨xm, rfl, o8, g8⟩
  rw [← HWS.out] at g8 o8
  have DS2 : Hid (w.heap.size + 1 + 1 + 1 + 1 + 1 ≤ ws2.heap.size) := lk (by have := P7.out.lt; omega)
  have W8 := lk ((W7.out.grown0 g8).add o8 DS2.out)
  have R8 := lk (R7.out.grown0 g8)
  have P8 := lk (P7.out.grown0 g8)
  have G8 := lk (jt G7.out g8)
  obtain ⟨z8, oz8, _, _⟩ := o8
  obtain ⟨Fm, cm', rfl, _, _⟩ := oz8.sl.form
  obtain ⟨neg, hneg⟩ : ∃ b, b = decide (V0 + V2 < V1) := ⟨_, rfl⟩
  rw [← hneg]
  have HNEG := lk hneg
  clear oz8 g8 HLS P7 R7 W7 G7 HWS c0 f0 hneg
  have c0 := P8.out.c2.cell 0 rfl
  have f0 := P8.out.c2.free 0 rfl
  have c1 := P8.out.c2.cell 1 rfl
  have f1 := P8.out.c2.free 1 rfl
  obtain ⟨ws3, hws3⟩ : ∃ W, W = (w8.setCell ⟨w.heap.size + 1 + 1, 0, none⟩ (.slice Fm z8.length cm')).setCell ⟨w.heap.size + 1 + 1, 1, none⟩ (.bool neg) := ⟨_, rfl⟩
  have P9' := (P8.out.s2 0 (.slice Fm z8.length cm')).s2 1 (.bool neg)
  have R9' := (R8.out.set (w.heap.size + 1 + 1) 0 (by omega) (.slice Fm z8.length cm')).set (w.heap.size + 1 + 1) 1 (by omega) (.bool neg)
  have W9' := (W8.out.set (w.heap.size + 1 + 1) 0 (by omega) (.slice Fm z8.length cm')).set (w.heap.size + 1 + 1) 1 (by omega) (.bool neg)
  have G9' := gb_set (p := ⟨w.heap.size + 1 + 1, 1, none⟩) (gb_set (p := ⟨w.heap.size + 1 + 1, 0, none⟩) G8.out (by show w.heap.size ≤ w.heap.size + 1 + 1; omega) (.slice Fm z8.length cm')) (by show w.heap.size ≤ w.heap.size + 1 + 1; omega) (.bool neg)
  rw [← hws3] at P9' R9' W9' G9'
  have SH : Calls Tryz.prog 191 #[u1, .int .i64 1] ws3 fun e w' => ∃ x, e = .returned x ∧ Wo w' ws3.heap.size x (val B64 X1 * 2 ^ 1) ∧ ws3.grownBy w' none := lshl_c ws3 u1 _ 1 (R9'.at 1 rfl) (by have := L3.out.2.1; omega) (by decide) (by decide)
  rw [← HVV.out.2.1] at SH
  have HSH := lk SH
  have P9 := lk P9'
  have R9 := lk R9'
  have W9 := lk W9'
  have G9 := lk G9'
  have HWS := lk hws3
  clear SH P9' R9' W9' G9' P8 R8 W8 G8 DS2
  rw [hws3] at HSH
  clear hws3
  go_wp2_with fail
  refine (HSH.out).mono ?_
  rintro e w10 ⟨y1, rfl, o10, g10⟩
  rw [← HWS.out] at g10 o10
  have DS3 : Hid (w.heap.size + 1 + 1 + 1 + 1 + 1 ≤ ws3.heap.size) := lk (by have := P9.out.lt; omega)
  have W10 := lk ((W9.out.grown0 g10).add o10 DS3.out)
  have R10 := lk (R9.out.grown0 g10)
  have P10 := lk (P9.out.grown0 g10)
  have G10 := lk (jt G9.out g10)
  clear o10 g10 HSH P9 R9 W9 G9 HWS c0 f0 c1 f1 DS3
  have SH : Calls Tryz.prog 191 #[u2, .int .i64 2] w10 fun e w' => ∃ x, e = .returned x ∧ Wo w' w10.heap.size x (val B64 X2 * 2 ^ 2) ∧ w10.grownBy w' none := lshl_c w10 u2 _ 2 (R10.out.at 2 rfl) (by have := L3.out.2.2; omega) (by decide) (by decide)
  rw [← HVV.out.2.2] at SH
  have HSH := lk SH
  clear SH
  go_wp2_with fail
  refine (HSH.out).mono ?_
  rintro e w11 ⟨y2, rfl, o11, g11⟩
  have DS4 : Hid (w.heap.size + 1 + 1 + 1 + 1 + 1 ≤ w10.heap.size) := lk (by have := P10.out.lt; omega)
  have W11 := lk ((W10.out.grown0 g11).add o11 DS4.out)
  have R11 := lk (R10.out.grown0 g11)
  have P11 := lk (P10.out.grown0 g11)
  have G11 := lk (jt G10.out g11)
  clear o11 g11 HSH W10 R10 P10 G10 DS4
  obtain ⟨zy1, sy1, ly1, vy1⟩ := (W11.out.at 4 rfl).get (N := M + 1) (by have := BV.out; omega)
  obtain ⟨zy2, sy2, ly2, vy2⟩ := (W11.out.at 5 rfl).get (N := M + 1) (by have := BV.out; omega)
  have su0 := R11.out.at 0 rfl
  obtain ⟨Fy1, cy1, rfl, _, _⟩ := sy1.form
  obtain ⟨Fy2, cy2, rfl, _, _⟩ := sy2.form
  obtain ⟨Fu0, cu0, rfl, _, _⟩ := su0.form
  have PT := pts3 w11 184 _ _ _ _ zy1 zy2 su0 sy1 sy2
  have GP := ju (jr w11 none) (Obj.cells #[.slice Fu0 X0.length cu0, .slice Fy1 zy1.length cy1, .slice Fy2 zy2.length cy2] 184)
  have JN := lsum_c _ 3 _ _ _ PT (by decide) (fun j hj => by
   have b1 := L3.out.1
   rcases (show j = 0 ∨ j = 1 ∨ j = 2 by omega) with rfl | rfl | rfl
   ·show X0.length ≤ 100000; omega
   ·show zy1.length ≤ 100000; omega
   ·show zy2.length ≤ 100000; omega)
  rw [jS3] at JN
  have ej : val B64 (([X0, zy1, zy2] : List (List Int)).getD 0 []) + B64 ^ 0 * val B64 (([X0, zy1, zy2] : List (List Int)).getD 1 []) + B64 ^ 0 * B64 ^ 0 * val B64 (([X0, zy1, zy2] : List (List Int)).getD 2 []) = V0 + 2 * V1 + 4 * V2 := by
   show val B64 X0 + B64 ^ 0 * val B64 zy1 + B64 ^ 0 * B64 ^ 0 * val B64 zy2 = _
   rw [vy1, vy2, ← HVV.out.1, Nat.pow_zero]; omega
  rw [ej] at JN
  have HJN := lk JN
  have HGP := lk GP
  clear JN ej PT GP sy1 sy2 su0 ly1 ly2 vy1 vy2
  go_wp2_with fail
  refine (HJN.out).mono ?_
  rintro e w12 ⟨x2, rfl, o12, g12⟩
  have GA := jt HGP.out g12
  have DS5 : Hid (w.heap.size + 1 + 1 + 1 + 1 + 1 ≤ (w11.alloc (Obj.cells #[.slice Fu0 X0.length cu0, .slice Fy1 zy1.length cy1, .slice Fy2 zy2.length cy2] 184)).heap.size) := lk (by have := P11.out.lt; have := HGP.out.size; omega)
  have W12 := lk ((W11.out.grown0 GA).add o12 DS5.out)
  have R12 := lk (R11.out.grown0 GA)
  have P12 := lk (P11.out.grown0 GA)
  have G12 := lk (jt G11.out GA)
  obtain ⟨z12, oz12, _, _⟩ := o12
  obtain ⟨F2, c2', rfl, _, _⟩ := oz12.sl.form
  clear oz12 g12 GA HJN HGP W11 R11 P11 G11 DS5
  have c0 := P12.out.c3.cell 0 rfl
  have f0 := P12.out.c3.free 0 rfl
  obtain ⟨ws4, hws4⟩ : ∃ W, W = w12.setCell ⟨w.heap.size + 1 + 1 + 1, 0, none⟩ (.slice F2 z12.length c2') := ⟨_, rfl⟩
  have P13' := P12.out.s3 0 (.slice F2 z12.length c2')
  have R13' := R12.out.set (w.heap.size + 1 + 1 + 1) 0 (by omega) (.slice F2 z12.length c2')
  have W13' := W12.out.set (w.heap.size + 1 + 1 + 1) 0 (by omega) (.slice F2 z12.length c2')
  have G13' := gb_set (p := ⟨w.heap.size + 1 + 1 + 1, 0, none⟩) G12.out (by show w.heap.size ≤ w.heap.size + 1 + 1 + 1; omega) (.slice F2 z12.length c2')
  rw [← hws4] at P13' R13' W13' G13'
  have NO := lnorm_c ws4 u2 _ (R13'.at 2 rfl) (by have := L3.out.2.2; omega)
  have HNO := lk NO
  have P13 := lk P13'
  have R13 := lk R13'
  have W13 := lk W13'
  have G13 := lk G13'
  have HWS := lk hws4
  clear NO P13' R13' W13' G13' P12 R12 W12 G12
  rw [hws4] at HNO
  clear hws4
  go_wp2_with fail
  refine (HNO.out).mono ?_
  rintro e w14 ⟨xi, rfl, o14, g14⟩
  rw [← HWS.out] at g14 o14
  have DS6 : Hid (w.heap.size + 1 + 1 + 1 + 1 + 1 ≤ ws4.heap.size) := lk (by have := P13.out.lt; omega)
  have W14 := lk ((W13.out.grown0 g14).add (v := xi) (n := V2) ⟨_, o14, trimZ_nz _, by rw [val_trimZ, HVV.out.2.2]⟩ DS6.out)
  have P14 := lk (P13.out.grown0 g14)
  have G14 := lk (jt G13.out g14)
  obtain ⟨Fi, ci', rfl, _, _⟩ := o14.sl.form
  clear o14 g14 HNO P13 R13 W13 G13 HWS c0 f0 DS6
  have c0 := P14.out.c4.cell 0 rfl
  have f0 := P14.out.c4.free 0 rfl
  go_wp2
  refine wp_gen (fun W => w.grownBy W none ∧ P5 W w.heap.size [.slice F0 (trimZ X0).length c0', .bool false] [.slice F1 z6.length c1', .bool false] [.slice Fm z8.length cm', .bool neg] [.slice F2 z12.length c2', .bool false] [.slice Fi (trimZ X2).length ci', .bool false] ∧ Wv W (w.heap.size + 1 + 1 + 1 + 1 + 1) _) ⟨gb_set (p := ⟨w.heap.size + 1 + 1 + 1 + 1, 0, none⟩) G14.out (by show w.heap.size ≤ w.heap.size + 1 + 1 + 1 + 1; omega) _, P14.out.s4 0 _, W14.out.set (w.heap.size + 1 + 1 + 1 + 1) 0 (by omega) _⟩ ?_
  clear P14 W14 G14 c0 f0
  rintro wr ⟨G, P, WV⟩
  have GG := lk G
  have PP := lk P
  have WW := lk WV
  have a0 := P.c0.cell 0 rfl
  have a1 := P.c0.cell 1 rfl
  have a2 := P.c0.free 0 rfl
  have a3 := P.c0.free 1 rfl
  have b0 := P.c1.cell 0 rfl
  have b1 := P.c1.cell 1 rfl
  have b2 := P.c1.free 0 rfl
  have b3 := P.c1.free 1 rfl
  have d0 := P.c2.cell 0 rfl
  have d1 := P.c2.cell 1 rfl
  have d2 := P.c2.free 0 rfl
  have d3 := P.c2.free 1 rfl
  have e0 := P.c3.cell 0 rfl
  have e1 := P.c3.cell 1 rfl
  have e2 := P.c3.free 0 rfl
  have e3 := P.c3.free 1 rfl
  have q0 := P.c4.cell 0 rfl
  have q1 := P.c4.cell 1 rfl
  have q2 := P.c4.free 0 rfl
  have q3 := P.c4.free 1 rfl
  clear G P WV
  have HF : Hid (∀ W, P5 W w.heap.size [.slice F0 (trimZ X0).length c0', .bool false] [.slice F1 z6.length c1', .bool false] [.slice Fm z8.length cm', .bool neg] [.slice F2 z12.length c2', .bool false] [.slice Fi (trimZ X2).length ci', .bool false] →
    Canon.SF [(⟨w.heap.size + 1, 0, none⟩, .agg #[.slice F1 z6.length c1', .bool false]), (⟨w.heap.size + 1 + 1, 0, none⟩, .agg #[.slice Fm z8.length cm', .bool neg]), (⟨w.heap.size + 1 + 1 + 1, 0, none⟩, .agg #[.slice F2 z12.length c2', .bool false]), (⟨w.heap.size + 1 + 1 + 1 + 1, 0, none⟩, .agg #[.slice Fi (trimZ X2).length ci', .bool false])] W) := lk (fun W P =>
   Canon.sf_agg (fun j u h => P.c1.at0 j h) (Canon.sf_agg (fun j u h => P.c2.at0 j h) (Canon.sf_agg (fun j u h => P.c3.at0 j h) (Canon.sf_agg (fun j u h => P.c4.at0 j h) (Canon.sf_nil _)))))
  refine Canon.region_held [57, 58, 59, 60] _ (by kernel_rfl) (by kernel_rfl) (HF.out _ PP.out) ?_
  refine Canon.segs_at 5 _ _ _ (by kernel_rfl) ?_
  simp only [ja, jb, jc, jd]
  go_wp2
  clear a0 a1 a2 a3 b0 b1 b2 b3 d0 d1 d2 d3 e0 e1 e2 e3 q0 q1 q2 q3
  have PN := lk (((PP.out.drew).s0 0 (.slice F0 (trimZ X0).length c0')).s0 1 (.bool false))
  have WN := lk ((WW.out.drew.set (w.heap.size) 0 (by omega) (.slice F0 (trimZ X0).length c0')).set (w.heap.size) 1 (by omega) (.bool false))
  have GN := lk (gb_set (p := ⟨w.heap.size, 1, none⟩) (gb_set (p := ⟨w.heap.size, 0, none⟩) (jw GG.out) (by show w.heap.size ≤ w.heap.size; omega) (.slice F0 (trimZ X0).length c0')) (by show w.heap.size ≤ w.heap.size; omega) (.bool false))
  clear PP WW GG
  refine ⟨HF.out _ PN.out, ?_⟩
  refine segs_gen (fun W => w.grownBy W none ∧ P5 W w.heap.size [.slice F0 (trimZ X0).length c0', .bool false] [.slice F1 z6.length c1', .bool false] [.slice Fm z8.length cm', .bool neg] [.slice F2 z12.length c2', .bool false] [.slice Fi (trimZ X2).length ci', .bool false] ∧ Wv W (w.heap.size + 1 + 1 + 1 + 1 + 1) _) ⟨GN.out, PN.out, WN.out⟩ ?_
  clear PN WN GN
  rintro wr0 ⟨G, P, WV⟩
  have GG := lk G
  have PP := lk P
  have WW := lk WV
  have a0 := P.c0.cell 0 rfl
  have a1 := P.c0.cell 1 rfl
  have a2 := P.c0.free 0 rfl
  have a3 := P.c0.free 1 rfl
  have b0 := P.c1.cell 0 rfl
  have b1 := P.c1.cell 1 rfl
  have b2 := P.c1.free 0 rfl
  have b3 := P.c1.free 1 rfl
  have d0 := P.c2.cell 0 rfl
  have d1 := P.c2.cell 1 rfl
  have d2 := P.c2.free 0 rfl
  have d3 := P.c2.free 1 rfl
  have e0 := P.c3.cell 0 rfl
  have e1 := P.c3.cell 1 rfl
  have e2 := P.c3.free 0 rfl
  have e3 := P.c3.free 1 rfl
  have q0 := P.c4.cell 0 rfl
  have q1 := P.c4.cell 1 rfl
  have q2 := P.c4.free 0 rfl
  have q3 := P.c4.free 1 rfl
  clear G P WV
  refine Canon.segs_at 0 _ _ _ (by kernel_rfl) ?_
  simp only [ja, jb, jc, jd]
  go_wp2
  clear a0 a1 a2 a3 b0 b1 b2 b3 d0 d1 d2 d3 e0 e1 e2 e3 q0 q1 q2 q3
  have PN := lk ((PP.out.s1 0 (.slice F1 z6.length c1')).s1 1 (.bool false))
  have WN := lk ((WW.out.set (w.heap.size + 1) 0 (by omega) (.slice F1 z6.length c1')).set (w.heap.size + 1) 1 (by omega) (.bool false))
  have GN := lk (gb_set (p := ⟨w.heap.size + 1, 1, none⟩) (gb_set (p := ⟨w.heap.size + 1, 0, none⟩) GG.out (by show w.heap.size ≤ w.heap.size + 1; omega) (.slice F1 z6.length c1')) (by show w.heap.size ≤ w.heap.size + 1; omega) (.bool false))
  clear PP WW GG
  refine ⟨HF.out _ PN.out, ?_⟩
  refine segs_gen (fun W => w.grownBy W none ∧ P5 W w.heap.size [.slice F0 (trimZ X0).length c0', .bool false] [.slice F1 z6.length c1', .bool false] [.slice Fm z8.length cm', .bool neg] [.slice F2 z12.length c2', .bool false] [.slice Fi (trimZ X2).length ci', .bool false] ∧ Wv W (w.heap.size + 1 + 1 + 1 + 1 + 1) _) ⟨GN.out, PN.out, WN.out⟩ ?_
  clear PN WN GN
  rintro wr1 ⟨G, P, WV⟩
  have GG := lk G
  have PP := lk P
  have WW := lk WV
  have a0 := P.c0.cell 0 rfl
  have a1 := P.c0.cell 1 rfl
  have a2 := P.c0.free 0 rfl
  have a3 := P.c0.free 1 rfl
  have b0 := P.c1.cell 0 rfl
  have b1 := P.c1.cell 1 rfl
  have b2 := P.c1.free 0 rfl
  have b3 := P.c1.free 1 rfl
  have d0 := P.c2.cell 0 rfl
  have d1 := P.c2.cell 1 rfl
  have d2 := P.c2.free 0 rfl
  have d3 := P.c2.free 1 rfl
  have e0 := P.c3.cell 0 rfl
  have e1 := P.c3.cell 1 rfl
  have e2 := P.c3.free 0 rfl
  have e3 := P.c3.free 1 rfl
  have q0 := P.c4.cell 0 rfl
  have q1 := P.c4.cell 1 rfl
  have q2 := P.c4.free 0 rfl
  have q3 := P.c4.free 1 rfl
  clear G P WV
  refine Canon.segs_at 0 _ _ _ (by kernel_rfl) ?_
  simp only [ja, jb, jc, jd]
  go_wp2
  clear a0 a1 a2 a3 b0 b1 b2 b3 d0 d1 d2 d3 e0 e1 e2 e3 q0 q1 q2 q3
  have PN := lk ((PP.out.s2 0 (.slice Fm z8.length cm')).s2 1 (.bool neg))
  have WN := lk ((WW.out.set (w.heap.size + 1 + 1) 0 (by omega) (.slice Fm z8.length cm')).set (w.heap.size + 1 + 1) 1 (by omega) (.bool neg))
  have GN := lk (gb_set (p := ⟨w.heap.size + 1 + 1, 1, none⟩) (gb_set (p := ⟨w.heap.size + 1 + 1, 0, none⟩) GG.out (by show w.heap.size ≤ w.heap.size + 1 + 1; omega) (.slice Fm z8.length cm')) (by show w.heap.size ≤ w.heap.size + 1 + 1; omega) (.bool neg))
  clear PP WW GG
  refine ⟨HF.out _ PN.out, ?_⟩
  refine segs_gen (fun W => w.grownBy W none ∧ P5 W w.heap.size [.slice F0 (trimZ X0).length c0', .bool false] [.slice F1 z6.length c1', .bool false] [.slice Fm z8.length cm', .bool neg] [.slice F2 z12.length c2', .bool false] [.slice Fi (trimZ X2).length ci', .bool false] ∧ Wv W (w.heap.size + 1 + 1 + 1 + 1 + 1) _) ⟨GN.out, PN.out, WN.out⟩ ?_
  clear PN WN GN
  rintro wr2 ⟨G, P, WV⟩
  have GG := lk G
  have PP := lk P
  have WW := lk WV
  have a0 := P.c0.cell 0 rfl
  have a1 := P.c0.cell 1 rfl
  have a2 := P.c0.free 0 rfl
  have a3 := P.c0.free 1 rfl
  have b0 := P.c1.cell 0 rfl
  have b1 := P.c1.cell 1 rfl
  have b2 := P.c1.free 0 rfl
  have b3 := P.c1.free 1 rfl
  have d0 := P.c2.cell 0 rfl
  have d1 := P.c2.cell 1 rfl
  have d2 := P.c2.free 0 rfl
  have d3 := P.c2.free 1 rfl
  have e0 := P.c3.cell 0 rfl
  have e1 := P.c3.cell 1 rfl
  have e2 := P.c3.free 0 rfl
  have e3 := P.c3.free 1 rfl
  have q0 := P.c4.cell 0 rfl
  have q1 := P.c4.cell 1 rfl
  have q2 := P.c4.free 0 rfl
  have q3 := P.c4.free 1 rfl
  clear G P WV
  refine Canon.segs_at 0 _ _ _ (by kernel_rfl) ?_
  simp only [ja, jb, jc, jd]
  go_wp2
  clear a0 a1 a2 a3 b0 b1 b2 b3 d0 d1 d2 d3 e0 e1 e2 e3 q0 q1 q2 q3
  have PN := lk ((PP.out.s3 0 (.slice F2 z12.length c2')).s3 1 (.bool false))
  have WN := lk ((WW.out.set (w.heap.size + 1 + 1 + 1) 0 (by omega) (.slice F2 z12.length c2')).set (w.heap.size + 1 + 1 + 1) 1 (by omega) (.bool false))
  have GN := lk (gb_set (p := ⟨w.heap.size + 1 + 1 + 1, 1, none⟩) (gb_set (p := ⟨w.heap.size + 1 + 1 + 1, 0, none⟩) GG.out (by show w.heap.size ≤ w.heap.size + 1 + 1 + 1; omega) (.slice F2 z12.length c2')) (by show w.heap.size ≤ w.heap.size + 1 + 1 + 1; omega) (.bool false))
  clear PP WW GG
  refine ⟨HF.out _ PN.out, ?_⟩
  refine segs_gen (fun W => w.grownBy W none ∧ P5 W w.heap.size [.slice F0 (trimZ X0).length c0', .bool false] [.slice F1 z6.length c1', .bool false] [.slice Fm z8.length cm', .bool neg] [.slice F2 z12.length c2', .bool false] [.slice Fi (trimZ X2).length ci', .bool false] ∧ Wv W (w.heap.size + 1 + 1 + 1 + 1 + 1) _) ⟨GN.out, PN.out, WN.out⟩ ?_
  clear PN WN GN
  rintro wr3 ⟨G, P, WV⟩
  have GG := lk G
  have PP := lk P
  have WW := lk WV
  have a0 := P.c0.cell 0 rfl
  have a1 := P.c0.cell 1 rfl
  have a2 := P.c0.free 0 rfl
  have a3 := P.c0.free 1 rfl
  have b0 := P.c1.cell 0 rfl
  have b1 := P.c1.cell 1 rfl
  have b2 := P.c1.free 0 rfl
  have b3 := P.c1.free 1 rfl
  have d0 := P.c2.cell 0 rfl
  have d1 := P.c2.cell 1 rfl
  have d2 := P.c2.free 0 rfl
  have d3 := P.c2.free 1 rfl
  have e0 := P.c3.cell 0 rfl
  have e1 := P.c3.cell 1 rfl
  have e2 := P.c3.free 0 rfl
  have e3 := P.c3.free 1 rfl
  have q0 := P.c4.cell 0 rfl
  have q1 := P.c4.cell 1 rfl
  have q2 := P.c4.free 0 rfl
  have q3 := P.c4.free 1 rfl
  clear G P WV
  refine Canon.segs_at 0 _ _ _ (by kernel_rfl) ?_
  simp only [ja, jb, jc, jd]
  go_wp2
  clear a0 a1 a2 a3 b0 b1 b2 b3 d0 d1 d2 d3 e0 e1 e2 e3 q0 q1 q2 q3
  have PN := lk ((PP.out.s4 0 (.slice Fi (trimZ X2).length ci')).s4 1 (.bool false))
  have WN := lk ((WW.out.set (w.heap.size + 1 + 1 + 1 + 1) 0 (by omega) (.slice Fi (trimZ X2).length ci')).set (w.heap.size + 1 + 1 + 1 + 1) 1 (by omega) (.bool false))
  have GN := lk (gb_set (p := ⟨w.heap.size + 1 + 1 + 1 + 1, 1, none⟩) (gb_set (p := ⟨w.heap.size + 1 + 1 + 1 + 1, 0, none⟩) GG.out (by show w.heap.size ≤ w.heap.size + 1 + 1 + 1 + 1; omega) (.slice Fi (trimZ X2).length ci')) (by show w.heap.size ≤ w.heap.size + 1 + 1 + 1 + 1; omega) (.bool false))
  clear PP WW GG
  refine ⟨HF.out _ PN.out, ?_⟩
  refine segs_gen (fun W => w.grownBy W none ∧ P5 W w.heap.size [.slice F0 (trimZ X0).length c0', .bool false] [.slice F1 z6.length c1', .bool false] [.slice Fm z8.length cm', .bool neg] [.slice F2 z12.length c2', .bool false] [.slice Fi (trimZ X2).length ci', .bool false] ∧ Wv W (w.heap.size + 1 + 1 + 1 + 1 + 1) _) ⟨GN.out, PN.out, WN.out⟩ ?_
  clear PN WN GN
  rintro wr4 ⟨G, P, WV⟩
  have GG := lk G
  have PP := lk P
  have WW := lk WV
  have a0 := P.c0.cell 0 rfl
  have a1 := P.c0.cell 1 rfl
  have a2 := P.c0.free 0 rfl
  have a3 := P.c0.free 1 rfl
  have b0 := P.c1.cell 0 rfl
  have b1 := P.c1.cell 1 rfl
  have b2 := P.c1.free 0 rfl
  have b3 := P.c1.free 1 rfl
  have d0 := P.c2.cell 0 rfl
  have d1 := P.c2.cell 1 rfl
  have d2 := P.c2.free 0 rfl
  have d3 := P.c2.free 1 rfl
  have e0 := P.c3.cell 0 rfl
  have e1 := P.c3.cell 1 rfl
  have e2 := P.c3.free 0 rfl
  have e3 := P.c3.free 1 rfl
  have q0 := P.c4.cell 0 rfl
  have q1 := P.c4.cell 1 rfl
  have q2 := P.c4.free 0 rfl
  have q3 := P.c4.free 1 rfl
  clear G P WV
  refine Canon.segs_end _ _ _ (by kernel_rfl) ?_
  go_wp2
  refine ⟨by kernel_rfl, by kernel_rfl, by kernel_rfl, ?_⟩
  clear a0 a1 a2 a3 b0 b1 b2 b3 d0 d1 d2 d3 e0 e1 e2 e3 q0 q1 q2 q3
  go_wp2
  refine bodyPost_ret (res_agg5 rfl PP.out.c0 PP.out.c1 PP.out.c2 PP.out.c3 PP.out.c4 rfl rfl rfl rfl rfl (by kernel_rfl) (by kernel_rfl) (by kernel_rfl) (by kernel_rfl) (by kernel_rfl) (by kernel_rfl)) rfl ?_
  have DW : w.heap.size ≤ w.heap.size + 1 + 1 + 1 + 1 + 1 := by omega
  refine ⟨_, _, _, _, _, V0, V1, V2, by rw [← HNEG.out], ?_, ?_, ?_, ?_, (WW.out.at 1 rfl).mono DW, (WW.out.at 2 rfl).mono DW, (WW.out.at 3 rfl).mono DW, (WW.out.at 6 rfl).mono DW, (WW.out.at 7 rfl).mono DW, GG.out⟩
  ·rw [← HXV.out, HVV.out.1, HVV.out.2.1, HVV.out.2.2, HX0.out, HX1.out, HX2.out]
   first | (rw [HK2.out]; exact val_cut3 xs k) | exact val_cut3 xs k
  ·rw [HVV.out.1, HX0.out]
   have := val_lt (B := B64) (ws_take WX.out k).dg
   rw [List.length_take] at this
   exact Nat.lt_of_lt_of_le this (Nat.pow_le_pow_right (by decide) (Nat.min_le_left _ _))
  ·rw [HVV.out.2.1, HX1.out]
   have := val_lt (B := B64) (ws_drop (ws_take WX.out K2) k).dg
   rw [List.length_drop, List.length_take] at this
   exact Nat.lt_of_lt_of_le this (Nat.pow_le_pow_right (by decide) (by first | (rw [HK2.out]; omega) | omega))
  ·rw [HVV.out.2.2, HX2.out]
   have := val_lt (B := B64) (ws_drop WX.out K2).dg
   rw [List.length_drop, ← HN.out] at this
   exact Nat.lt_of_lt_of_le this (Nat.pow_le_pow_right (by decide) (by have := HXL.out; first | (rw [HK2.out]; omega) | omega))
theorem jS5 (h : Nat) (f : Nat → Nat) : jS h f 5 = f 0 + B64 ^ h * f 1 + B64 ^ (2 * h) * f 2 + B64 ^ (3 * h) * f 3 + B64 ^ (4 * h) * f 4 := by
 show 0 + B64 ^ (h * 0) * f 0 + B64 ^ (h * 1) * f 1 + B64 ^ (h * 2) * f 2 + B64 ^ (h * 3) * f 3 + B64 ^ (h * 4) * f 4 = _
 rw [Nat.mul_zero, Nat.pow_zero, Nat.one_mul, Nat.zero_add, Nat.mul_one, Nat.mul_comm h 2, Nat.mul_comm h 3, Nat.mul_comm h 4]
theorem jZ1 (f : Nat → Nat) : jS 0 f 1 = f 0 := by simp [jS]
theorem jZ2 (f : Nat → Nat) : jS 0 f 2 = f 0 + f 1 := by simp [jS]
theorem jZ3 (f : Nat → Nat) : jS 0 f 3 = f 0 + f 1 + f 2 := by simp [jS]
theorem pts1 (w : World) (t : TypeId) (v0 : Value) (l0 : List Int) (h0 : Sl w v0 l0) :
  Pts (w.alloc (.cells #[v0] t)) (.slice (some ⟨w.heap.size, 0, none⟩) 1 1) 1 (fun j => [v0].getD j v0) (fun j => [l0].getD j []) := by
 have G := ju (jr w none) (Obj.cells #[v0] t)
 refine ⟨⟨_, 1, rfl, by decide, by decide, fun _ => ⟨_, 0, rfl, fun j hj => ?_⟩⟩, fun j hj => ?_⟩
 ·have C := cs_new w #[v0] t
  rw [Nat.zero_add]
  obtain rfl : j = 0 := by omega
  exact C.cell 0 rfl
 ·obtain rfl : j = 0 := by omega
  exact h0.grown0 G
theorem pts2 (w : World) (t : TypeId) (v0 v1 : Value) (l0 l1 : List Int) (h0 : Sl w v0 l0) (h1 : Sl w v1 l1) :
  Pts (w.alloc (.cells #[v0, v1] t)) (.slice (some ⟨w.heap.size, 0, none⟩) 2 2) 2 (fun j => [v0, v1].getD j v0) (fun j => [l0, l1].getD j []) := by
 have G := ju (jr w none) (Obj.cells #[v0, v1] t)
 refine ⟨⟨_, 2, rfl, by decide, by decide, fun _ => ⟨_, 0, rfl, fun j hj => ?_⟩⟩, fun j hj => ?_⟩
 ·have C := cs_new w #[v0, v1] t
  rw [Nat.zero_add]
  rcases (show j = 0 ∨ j = 1 by omega) with rfl | rfl
  ·exact C.cell 0 rfl
  ·exact C.cell 1 rfl
 ·rcases (show j = 0 ∨ j = 1 by omega) with rfl | rfl
  ·exact h0.grown0 G
  ·exact h1.grown0 G
theorem pts5 (w : World) (t : TypeId) (v0 v1 v2 v3 v4 : Value) (l0 l1 l2 l3 l4 : List Int) (h0 : Sl w v0 l0) (h1 : Sl w v1 l1) (h2 : Sl w v2 l2) (h3 : Sl w v3 l3) (h4 : Sl w v4 l4) :
  Pts (w.alloc (.cells #[v0, v1, v2, v3, v4] t)) (.slice (some ⟨w.heap.size, 0, none⟩) 5 5) 5 (fun j => [v0, v1, v2, v3, v4].getD j v0) (fun j => [l0, l1, l2, l3, l4].getD j []) := by
 have G := ju (jr w none) (Obj.cells #[v0, v1, v2, v3, v4] t)
 refine ⟨⟨_, 5, rfl, by decide, by decide, fun _ => ⟨_, 0, rfl, fun j hj => ?_⟩⟩, fun j hj => ?_⟩
 ·have C := cs_new w #[v0, v1, v2, v3, v4] t
  rw [Nat.zero_add]
  rcases (show j = 0 ∨ j = 1 ∨ j = 2 ∨ j = 3 ∨ j = 4 by omega) with rfl | rfl | rfl | rfl | rfl
  ·exact C.cell 0 rfl
  ·exact C.cell 1 rfl
  ·exact C.cell 2 rfl
  ·exact C.cell 3 rfl
  ·exact C.cell 4 rfl
 ·rcases (show j = 0 ∨ j = 1 ∨ j = 2 ∨ j = 3 ∨ j = 4 by omega) with rfl | rfl | rfl | rfl | rfl
  ·exact h0.grown0 G
  ·exact h1.grown0 G
  ·exact h2.grown0 G
  ·exact h3.grown0 G
  ·exact h4.grown0 G
theorem Rv.five {W : World} {u0 u1 u2 u3 u4 : Value} {l0 l1 l2 l3 l4 : List Int} (s0 : Sl W u0 l0) (s1 : Sl W u1 l1) (s2 : Sl W u2 l2) (s3 : Sl W u3 l3) (s4 : Sl W u4 l4) : Rv W 0 [(u0, l0), (u1, l1), (u2, l2), (u3, l3), (u4, l4)] := fun i p hp => by
 rcases i with _ | _ | _ | _ | _ | i
 ·obtain rfl := Option.some.inj hp; exact ⟨s0, fun _ _ => Nat.zero_le _⟩
 ·obtain rfl := Option.some.inj hp; exact ⟨s1, fun _ _ => Nat.zero_le _⟩
 ·obtain rfl := Option.some.inj hp; exact ⟨s2, fun _ _ => Nat.zero_le _⟩
 ·obtain rfl := Option.some.inj hp; exact ⟨s3, fun _ _ => Nat.zero_le _⟩
 ·obtain rfl := Option.some.inj hp; exact ⟨s4, fun _ _ => Nat.zero_le _⟩
 ·simp at hp
structure TJ (neg : Bool) (c0 c1 c2 c3 c4 r0 r1 rm r2 ri M : Nat) : Prop where
 e0 : r0 = c0
 e1 : r1 = c0 + c1 + c2 + c3 + c4
 em : if neg then rm + (c0 + c2 + c4) = c1 + c3 else rm + (c1 + c3) = c0 + c2 + c4
 e2 : r2 = c0 + 2 * c1 + 4 * c2 + 8 * c3 + 16 * c4
 ei : ri = c4
 lim : 16 * (c0 + c1 + c2 + c3 + c4) < B64 ^ M
 M4 : M ≤ 40000
theorem tjoined_c (w : World) (k : Nat) (v0 v1 vm v2 vi : Value) (l0 l1 lm l2 li : List Int) (neg : Bool) (c0 c1 c2 c3 c4 M : Nat) (s0 : Sl w v0 l0) (s1 : Sl w v1 l1) (sm : Sl w vm lm) (s2 : Sl w v2 l2) (si : Sl w vi li)
  (hk : k ≤ 16384) (hl : l0.length ≤ 40000 ∧ l1.length ≤ 40000 ∧ lm.length ≤ 40000 ∧ l2.length ≤ 40000 ∧ li.length ≤ 40000) (h : TJ neg c0 c1 c2 c3 c4 (val B64 l0) (val B64 l1) (val B64 lm) (val B64 l2) (val B64 li) M) :
  Calls Tryz.prog 172 #[.int .i64 k, v0, v1, vm, v2, vi, .bool neg] w fun e w' => ∃ x, e = .returned x ∧ Wo w' w.heap.size x (c0 + B64 ^ k * c1 + B64 ^ (2 * k) * c2 + B64 ^ (3 * k) * c3 + B64 ^ (4 * k) * c4) ∧ w.grownBy w' none := by
 have R0 := lk (Rv.five s0 s1 sm s2 si)
 have HTJ := lk h
 have HL := lk hl
 have AD := lk (ladd_c w v1 vm _ _ s1 sm (by omega) (by omega))
 have SB := lk (fun w' (g : w.grownBy w' none) => sub2_c w' v1 vm _ _ (s1.grown0 g) (sm.grown0 g) (by omega))
 obtain ⟨A0, a0, rfl, _, _⟩ := s0.form
 obtain ⟨A1, a1, rfl, _, _⟩ := s1.form
 obtain ⟨Am, am, rfl, _, _⟩ := sm.form
 obtain ⟨A2, a2, rfl, _, _⟩ := s2.form
 obtain ⟨Ai, ai, rfl, _, _⟩ := si.form
 clear s0 s1 sm s2 si h hl
 go_enter Tryz.func172, Tryz.ntmps172
 go_wp2_with fail
 refine (AD.out).mono ?_
 rintro e w1 ⟨y0, rfl, o1, g1⟩
 have W1 := lk ((Wv.nil w1 w.heap.size).add o1 (Nat.le_refl _))
 have G1 := lk g1
 have R1 := lk (R0.out.grown0 g1)
 clear o1 g1 AD R0
 go_wp2_with fail
 refine (SB.out w1 G1.out).mono ?_
 rintro e w2 ⟨y1, rfl, o2, g2⟩
 have W2 := lk ((W1.out.grown0 g2).add o2 G1.out.size)
 have G2 := lk (jt G1.out g2)
 have R2 := lk (R1.out.grown0 g2)
 clear o2 g2 SB R1 W1 G1
 cases neg with
 | true =>
  have HA : Hid (val B64 l1 - val B64 lm = 2 * (c0 + c2 + c4) ∧ val B64 l1 + val B64 lm = 2 * (c1 + c3)) := lk (by
   have h1 := HTJ.out.e1
   have h2 := HTJ.out.em
   simp at h2
   omega)
  obtain ⟨ze, se, le, ve⟩ := (W2.out.at 1 rfl).get (N := M) (by have := HTJ.out.lim; have := HA.out; omega)
  have SE := lshr_c w2 y1 ze 1 se (by have := HTJ.out.M4; omega) (by decide) (by decide)
  rw [ve, HA.out.1, show 2 * (c0 + c2 + c4) / 2 ^ 1 = c0 + c2 + c4 by omega] at SE
  have HSE := lk (show Calls Tryz.prog 193 #[y1, .int .i64 1] w2 _ from SE)
  clear SE se le ve
  go_wp2_with fail
  refine (HSE.out).mono ?_
  rintro e w3 ⟨ev, rfl, o3, g3⟩
  have W3 := lk ((W2.out.grown0 g3).add o3 G2.out.size)
  have R3 := lk (R2.out.grown0 g3)
  have G3 := lk (jt G2.out g3)
  clear o3 g3 HSE W2 R2 G2
  obtain ⟨zo, so, lo, vo⟩ := (W3.out.at 0 rfl).get (N := M) (by have := HTJ.out.lim; have := HA.out; omega)
  have SO := lshr_c w3 y0 zo 1 so (by have := HTJ.out.M4; omega) (by decide) (by decide)
  rw [vo, HA.out.2, show 2 * (c1 + c3) / 2 ^ 1 = c1 + c3 by omega] at SO
  have HSO := lk (show Calls Tryz.prog 193 #[y0, .int .i64 1] w3 _ from SO)
  clear SO so lo vo
  go_wp2_with fail
  refine (HSO.out).mono ?_
  rintro e w4 ⟨od, rfl, o4, g4⟩
  have W4 := lk ((W3.out.grown0 g4).add o4 G3.out.size)
  have R4 := lk (R3.out.grown0 g4)
  have G4 := lk (jt G3.out g4)
  clear o4 g4 HSO W3 R3 G3
  obtain ⟨zv, sv, lv, vv⟩ := (W4.out.at 2 rfl).get (N := M) (by have := HTJ.out.lim; omega)
  have PT := pts2 w4 184 _ _ _ _ (R4.out.at 0 rfl) (R4.out.at 4 rfl)
  have GP := ju (jr w4 none) (Obj.cells #[.slice A0 l0.length a0, .slice Ai li.length ai] 184)
  have SU := sub_c _ ev _ zv 2 _ _ M (sv.grown0 GP) PT (by decide) (fun j hj => by
   have b := HL.out
   rcases (show j = 0 ∨ j = 1 by omega) with rfl | rfl
   ·show l0.length ≤ 100000; omega
   ·show li.length ≤ 100000; omega) (by have := HTJ.out.M4; omega) (by
   rw [jZ2]
   show val B64 l0 + val B64 li < _
   rw [HTJ.out.e0, HTJ.out.ei]
   have := HTJ.out.lim; omega)
  rw [jZ2, vv, show c0 + c2 + c4 - (val B64 (([l0, li] : List (List Int)).getD 0 []) + val B64 (([l0, li] : List (List Int)).getD 1 [])) = c2 from by
   show c0 + c2 + c4 - (val B64 l0 + val B64 li) = c2
   rw [HTJ.out.e0, HTJ.out.ei]; omega] at SU
  have HSU := lk SU
  have HGP := lk GP
  clear SU PT GP sv lv vv
  go_wp2_with fail
  refine (HSU.out).mono ?_
  rintro e w5 ⟨x2, rfl, o5, g5⟩
  have GA := jt HGP.out g5
  have W5 := lk ((W4.out.grown0 GA).add o5 (Nat.le_trans G4.out.size HGP.out.size))
  have R5 := lk (R4.out.grown0 GA)
  have G5 := lk (jt G4.out GA)
  clear o5 g5 GA HSU HGP W4 R4 G4
  obtain ⟨zs2, ss2, ls2, vs2⟩ := (W5.out.at 4 rfl).get (N := M) (by have := HTJ.out.lim; omega)
  have SH : Calls Tryz.prog 191 #[x2, .int .i64 2] w5 fun e w' => ∃ x, e = .returned x ∧ Wo w' w5.heap.size x (val B64 zs2 * 2 ^ 2) ∧ w5.grownBy w' none := lshl_c w5 x2 zs2 2 ss2 (by have := HTJ.out.M4; omega) (by decide) (by decide)
  rw [vs2] at SH
  have HSH := lk SH
  clear SH ss2 ls2 vs2
  go_wp2_with fail
  refine (HSH.out).mono ?_
  rintro e w6 ⟨t2, rfl, o6, g6⟩
  have W6 := lk ((W5.out.grown0 g6).add o6 G5.out.size)
  have R6 := lk (R5.out.grown0 g6)
  have G6 := lk (jt G5.out g6)
  clear o6 g6 HSH W5 R5 G5
  have SH : Calls Tryz.prog 191 #[.slice Ai li.length ai, .int .i64 4] w6 fun e w' => ∃ x, e = .returned x ∧ Wo w' w6.heap.size x (val B64 li * 2 ^ 4) ∧ w6.grownBy w' none := lshl_c w6 _ li 4 (R6.out.at 4 rfl) (by have := HL.out; omega) (by decide) (by decide)
  rw [HTJ.out.ei] at SH
  have HSH := lk SH
  clear SH
  go_wp2_with fail
  refine (HSH.out).mono ?_
  rintro e w7 ⟨t4, rfl, o7, g7⟩
  have W7 := lk ((W6.out.grown0 g7).add o7 G6.out.size)
  have R7 := lk (R6.out.grown0 g7)
  have G7 := lk (jt G6.out g7)
  clear o7 g7 HSH W6 R6 G6
  obtain ⟨q2, sq2, lq2, vq2⟩ := (W7.out.at 5 rfl).get (N := M) (by have := HTJ.out.lim; omega)
  obtain ⟨q4, sq4, lq4, vq4⟩ := (W7.out.at 6 rfl).get (N := M) (by have := HTJ.out.lim; omega)
  obtain ⟨Fq2, fq2, rfl, _, _⟩ := sq2.form
  obtain ⟨Fq4, fq4, rfl, _, _⟩ := sq4.form
  have PT := pts3 w7 184 _ _ _ _ q2 q4 (R7.out.at 0 rfl) sq2 sq4
  have GP := ju (jr w7 none) (Obj.cells #[.slice A0 l0.length a0, .slice Fq2 q2.length fq2, .slice Fq4 q4.length fq4] 184)
  have SU := sub_c _ (.slice A2 l2.length a2) _ l2 3 _ _ M ((R7.out.at 3 rfl).grown0 GP) PT (by decide) (fun j hj => by
   have b := HL.out
   have b2 := HTJ.out.M4
   rcases (show j = 0 ∨ j = 1 ∨ j = 2 by omega) with rfl | rfl | rfl
   ·show l0.length ≤ 100000; omega
   ·show q2.length ≤ 100000; omega
   ·show q4.length ≤ 100000; omega) (by have := HL.out; omega) (by
   rw [jZ3]
   show val B64 l0 + val B64 q2 + val B64 q4 < _
   rw [HTJ.out.e0, vq2, vq4]
   have := HTJ.out.lim; omega)
  rw [jZ3, HTJ.out.e2, show c0 + 2 * c1 + 4 * c2 + 8 * c3 + 16 * c4 - (val B64 (([l0, q2, q4] : List (List Int)).getD 0 []) + val B64 (([l0, q2, q4] : List (List Int)).getD 1 []) + val B64 (([l0, q2, q4] : List (List Int)).getD 2 [])) = 2 * (c1 + 4 * c3) from by
   show c0 + 2 * c1 + 4 * c2 + 8 * c3 + 16 * c4 - (val B64 l0 + val B64 q2 + val B64 q4) = _
   rw [HTJ.out.e0, vq2, vq4]; omega] at SU
  have HSU := lk SU
  have HGP := lk GP
  clear SU PT GP sq2 lq2 vq2 sq4 lq4 vq4
  go_wp2_with fail
  refine (HSU.out).mono ?_
  rintro e w8 ⟨x8, rfl, o8, g8⟩
  have GA := jt HGP.out g8
  have W8 := lk ((W7.out.grown0 GA).add o8 (Nat.le_trans G7.out.size HGP.out.size))
  have R8 := lk (R7.out.grown0 GA)
  have G8 := lk (jt G7.out GA)
  clear o8 g8 GA HSU HGP W7 R7 G7
  obtain ⟨z8, s8, l8, v8⟩ := (W8.out.at 7 rfl).get (N := M) (by have := HTJ.out.lim; omega)
  have SE := lshr_c w8 x8 z8 1 s8 (by have := HTJ.out.M4; omega) (by decide) (by decide)
  rw [v8, show 2 * (c1 + 4 * c3) / 2 ^ 1 = c1 + 4 * c3 by omega] at SE
  have HSE := lk (show Calls Tryz.prog 193 #[x8, .int .i64 1] w8 _ from SE)
  clear SE s8 l8 v8
  go_wp2_with fail
  refine (HSE.out).mono ?_
  rintro e w9 ⟨x9, rfl, o9, g9⟩
  have W9 := lk ((W8.out.grown0 g9).add o9 G8.out.size)
  have R9 := lk (R8.out.grown0 g9)
  have G9 := lk (jt G8.out g9)
  clear o9 g9 HSE W8 R8 G8
  obtain ⟨z9, s9, l9, v9⟩ := (W9.out.at 8 rfl).get (N := M) (by have := HTJ.out.lim; omega)
  obtain ⟨zd, sd, ld, vd⟩ := (W9.out.at 3 rfl).get (N := M) (by have := HTJ.out.lim; omega)
  obtain ⟨Fd, fd, rfl, _, _⟩ := sd.form
  have PT := pts1 w9 184 _ _ sd
  have GP := ju (jr w9 none) (Obj.cells #[.slice Fd zd.length fd] 184)
  have SU := sub_c _ x9 _ z9 1 _ _ M (s9.grown0 GP) PT (by decide) (fun j hj => by
   have b2 := HTJ.out.M4
   obtain rfl : j = 0 := by omega
   show zd.length ≤ 100000; omega) (by have := HTJ.out.M4; omega) (by
   rw [jZ1]
   show val B64 zd < _
   rw [vd]
   have := HTJ.out.lim; omega)
  rw [jZ1, v9, show c1 + 4 * c3 - val B64 (([zd] : List (List Int)).getD 0 []) = 3 * c3 from by
   show c1 + 4 * c3 - val B64 zd = _
   rw [vd]; omega] at SU
  have HSU := lk SU
  have HGP := lk GP
  clear SU PT GP s9 l9 v9 sd ld vd
  go_wp2_with fail
  refine (HSU.out).mono ?_
  rintro e w10 ⟨x10, rfl, o10, g10⟩
  have GA := jt HGP.out g10
  have W10 := lk ((W9.out.grown0 GA).add o10 (Nat.le_trans G9.out.size HGP.out.size))
  have R10 := lk (R9.out.grown0 GA)
  have G10 := lk (jt G9.out GA)
  clear o10 g10 GA HSU HGP W9 R9 G9
  obtain ⟨z10, s10, l10, v10⟩ := (W10.out.at 9 rfl).get (N := M) (by have := HTJ.out.lim; omega)
  have TH := third_c w10 x10 z10 s10 (by have := HTJ.out.M4; omega) (by rw [v10]; omega)
  rw [v10, show 3 * c3 / 3 = c3 by omega] at TH
  have HTH := lk TH
  clear TH s10 l10 v10
  go_wp2_with fail
  refine (HTH.out).mono ?_
  rintro e w11 ⟨x11, rfl, o11, g11⟩
  have W11 := lk ((W10.out.grown0 g11).add o11 G10.out.size)
  have R11 := lk (R10.out.grown0 g11)
  have G11 := lk (jt G10.out g11)
  clear o11 g11 HTH W10 R10 G10
  obtain ⟨z11, s11, l11, v11⟩ := (W11.out.at 10 rfl).get (N := M) (by have := HTJ.out.lim; omega)
  obtain ⟨F11, f11, rfl, _, _⟩ := s11.form
  obtain ⟨zd2, sd, ld, vd⟩ := (W11.out.at 3 rfl).get (N := M) (by have := HTJ.out.lim; omega)
  have PT := pts1 w11 184 _ _ s11
  have GP := ju (jr w11 none) (Obj.cells #[.slice F11 z11.length f11] 184)
  have SU := sub_c _ (.slice Fd zd.length fd) _ zd2 1 _ _ M (sd.grown0 GP) PT (by decide) (fun j hj => by
   have b2 := HTJ.out.M4
   obtain rfl : j = 0 := by omega
   show z11.length ≤ 100000; omega) (by have := HTJ.out.M4; omega) (by
   rw [jZ1]
   show val B64 z11 < _
   rw [v11]
   have := HTJ.out.lim; omega)
  rw [jZ1, vd, show c1 + c3 - val B64 (([z11] : List (List Int)).getD 0 []) = c1 from by
   show c1 + c3 - val B64 z11 = _
   rw [v11]; omega] at SU
  have HSU := lk SU
  have HGP := lk GP
  clear SU PT GP s11 l11 v11 sd ld vd
  go_wp2_with fail
  refine (HSU.out).mono ?_
  rintro e w12 ⟨x12, rfl, o12, g12⟩
  have GA := jt HGP.out g12
  have W12 := lk ((W11.out.grown0 GA).add o12 (Nat.le_trans G11.out.size HGP.out.size))
  have R12 := lk (R11.out.grown0 GA)
  have G12 := lk (jt G11.out GA)
  clear o12 g12 GA HSU HGP W11 R11 G11
  obtain ⟨y1', t1, lt1, vt1⟩ := (W12.out.at 11 rfl).get (N := M) (by have := HTJ.out.lim; omega)
  obtain ⟨y2', t2', lt2, vt2⟩ := (W12.out.at 4 rfl).get (N := M) (by have := HTJ.out.lim; omega)
  obtain ⟨y3', t3', lt3, vt3⟩ := (W12.out.at 10 rfl).get (N := M) (by have := HTJ.out.lim; omega)
  obtain ⟨H1, h1, rfl, _, _⟩ := t1.form
  obtain ⟨H2, h2, rfl, _, _⟩ := t2'.form
  have PT := pts5 w12 184 _ _ _ _ _ _ _ _ _ _ (R12.out.at 0 rfl) t1 t2' t3' (R12.out.at 4 rfl)
  have GP := ju (jr w12 none) (Obj.cells #[.slice A0 l0.length a0, .slice H1 y1'.length h1, .slice H2 y2'.length h2, .slice F11 z11.length f11, .slice Ai li.length ai] 184)
  have JN := ljoin_c _ k 5 _ _ _ PT hk (by decide) (fun j hj => by
   have b := HL.out
   have b2 := HTJ.out.M4
   rcases (show j = 0 ∨ j = 1 ∨ j = 2 ∨ j = 3 ∨ j = 4 by omega) with rfl | rfl | rfl | rfl | rfl
   ·show l0.length ≤ 100000; omega
   ·show y1'.length ≤ 100000; omega
   ·show y2'.length ≤ 100000; omega
   ·show y3'.length ≤ 100000; omega
   ·show li.length ≤ 100000; omega)
  rw [jS5] at JN
  have ej : val B64 (([l0, y1', y2', y3', li] : List (List Int)).getD 0 []) + B64 ^ k * val B64 (([l0, y1', y2', y3', li] : List (List Int)).getD 1 []) + B64 ^ (2 * k) * val B64 (([l0, y1', y2', y3', li] : List (List Int)).getD 2 []) + B64 ^ (3 * k) * val B64 (([l0, y1', y2', y3', li] : List (List Int)).getD 3 []) + B64 ^ (4 * k) * val B64 (([l0, y1', y2', y3', li] : List (List Int)).getD 4 []) = c0 + B64 ^ k * c1 + B64 ^ (2 * k) * c2 + B64 ^ (3 * k) * c3 + B64 ^ (4 * k) * c4 := by
   show val B64 l0 + B64 ^ k * val B64 y1' + B64 ^ (2 * k) * val B64 y2' + B64 ^ (3 * k) * val B64 y3' + B64 ^ (4 * k) * val B64 li = _
   rw [vt1, vt2, vt3, HTJ.out.e0, HTJ.out.ei]
  rw [ej] at JN
  have HJN := lk JN
  have HGP := lk (jt G12.out GP)
  clear JN ej PT GP t1 lt1 vt1 t2' lt2 vt2 t3' lt3 vt3 W12 R12
  go_wp2_with fail
  refine (HJN.out).mono ?_
  rintro e w13 ⟨x, rfl, o13, g13⟩
  have KK : Hid (Wo w13 w.heap.size x (c0 + B64 ^ k * c1 + B64 ^ (2 * k) * c2 + B64 ^ (3 * k) * c3 + B64 ^ (4 * k) * c4) ∧ w.grownBy w13 none) := lk ⟨o13.mono HGP.out.size, jt HGP.out g13⟩
  clear o13 g13 HJN
  go_wp2
  go_ret
  exact ⟨x, rfl, KK.out⟩
 | false =>
  have HA : Hid (val B64 l1 + val B64 lm = 2 * (c0 + c2 + c4) ∧ val B64 l1 - val B64 lm = 2 * (c1 + c3)) := lk (by
   have h1 := HTJ.out.e1
   have h2 := HTJ.out.em
   simp at h2
   omega)
  obtain ⟨ze, se, le, ve⟩ := (W2.out.at 0 rfl).get (N := M) (by have := HTJ.out.lim; have := HA.out; omega)
  have SE := lshr_c w2 y0 ze 1 se (by have := HTJ.out.M4; omega) (by decide) (by decide)
  rw [ve, HA.out.1, show 2 * (c0 + c2 + c4) / 2 ^ 1 = c0 + c2 + c4 by omega] at SE
  have HSE := lk (show Calls Tryz.prog 193 #[y0, .int .i64 1] w2 _ from SE)
  clear SE se le ve
  go_wp2_with fail
  refine (HSE.out).mono ?_
  rintro e w3 ⟨ev, rfl, o3, g3⟩
  have W3 := lk ((W2.out.grown0 g3).add o3 G2.out.size)
  have R3 := lk (R2.out.grown0 g3)
  have G3 := lk (jt G2.out g3)
  clear o3 g3 HSE W2 R2 G2
  obtain ⟨zo, so, lo, vo⟩ := (W3.out.at 1 rfl).get (N := M) (by have := HTJ.out.lim; have := HA.out; omega)
  have SO := lshr_c w3 y1 zo 1 so (by have := HTJ.out.M4; omega) (by decide) (by decide)
  rw [vo, HA.out.2, show 2 * (c1 + c3) / 2 ^ 1 = c1 + c3 by omega] at SO
  have HSO := lk (show Calls Tryz.prog 193 #[y1, .int .i64 1] w3 _ from SO)
  clear SO so lo vo
  go_wp2_with fail
  refine (HSO.out).mono ?_
  rintro e w4 ⟨od, rfl, o4, g4⟩
  have W4 := lk ((W3.out.grown0 g4).add o4 G3.out.size)
  have R4 := lk (R3.out.grown0 g4)
  have G4 := lk (jt G3.out g4)
  clear o4 g4 HSO W3 R3 G3
  obtain ⟨zv, sv, lv, vv⟩ := (W4.out.at 2 rfl).get (N := M) (by have := HTJ.out.lim; omega)
  have PT := pts2 w4 184 _ _ _ _ (R4.out.at 0 rfl) (R4.out.at 4 rfl)
  have GP := ju (jr w4 none) (Obj.cells #[.slice A0 l0.length a0, .slice Ai li.length ai] 184)
  have SU := sub_c _ ev _ zv 2 _ _ M (sv.grown0 GP) PT (by decide) (fun j hj => by
   have b := HL.out
   rcases (show j = 0 ∨ j = 1 by omega) with rfl | rfl
   ·show l0.length ≤ 100000; omega
   ·show li.length ≤ 100000; omega) (by have := HTJ.out.M4; omega) (by
   rw [jZ2]
   show val B64 l0 + val B64 li < _
   rw [HTJ.out.e0, HTJ.out.ei]
   have := HTJ.out.lim; omega)
  rw [jZ2, vv, show c0 + c2 + c4 - (val B64 (([l0, li] : List (List Int)).getD 0 []) + val B64 (([l0, li] : List (List Int)).getD 1 [])) = c2 from by
   show c0 + c2 + c4 - (val B64 l0 + val B64 li) = c2
   rw [HTJ.out.e0, HTJ.out.ei]; omega] at SU
  have HSU := lk SU
  have HGP := lk GP
  clear SU PT GP sv lv vv
  go_wp2_with fail
  refine (HSU.out).mono ?_
  rintro e w5 ⟨x2, rfl, o5, g5⟩
  have GA := jt HGP.out g5
  have W5 := lk ((W4.out.grown0 GA).add o5 (Nat.le_trans G4.out.size HGP.out.size))
  have R5 := lk (R4.out.grown0 GA)
  have G5 := lk (jt G4.out GA)
  clear o5 g5 GA HSU HGP W4 R4 G4
  obtain ⟨zs2, ss2, ls2, vs2⟩ := (W5.out.at 4 rfl).get (N := M) (by have := HTJ.out.lim; omega)
  have SH : Calls Tryz.prog 191 #[x2, .int .i64 2] w5 fun e w' => ∃ x, e = .returned x ∧ Wo w' w5.heap.size x (val B64 zs2 * 2 ^ 2) ∧ w5.grownBy w' none := lshl_c w5 x2 zs2 2 ss2 (by have := HTJ.out.M4; omega) (by decide) (by decide)
  rw [vs2] at SH
  have HSH := lk SH
  clear SH ss2 ls2 vs2
  go_wp2_with fail
  refine (HSH.out).mono ?_
  rintro e w6 ⟨t2, rfl, o6, g6⟩
  have W6 := lk ((W5.out.grown0 g6).add o6 G5.out.size)
  have R6 := lk (R5.out.grown0 g6)
  have G6 := lk (jt G5.out g6)
  clear o6 g6 HSH W5 R5 G5
  have SH : Calls Tryz.prog 191 #[.slice Ai li.length ai, .int .i64 4] w6 fun e w' => ∃ x, e = .returned x ∧ Wo w' w6.heap.size x (val B64 li * 2 ^ 4) ∧ w6.grownBy w' none := lshl_c w6 _ li 4 (R6.out.at 4 rfl) (by have := HL.out; omega) (by decide) (by decide)
  rw [HTJ.out.ei] at SH
  have HSH := lk SH
  clear SH
  go_wp2_with fail
  refine (HSH.out).mono ?_
  rintro e w7 ⟨t4, rfl, o7, g7⟩
  have W7 := lk ((W6.out.grown0 g7).add o7 G6.out.size)
  have R7 := lk (R6.out.grown0 g7)
  have G7 := lk (jt G6.out g7)
  clear o7 g7 HSH W6 R6 G6
  obtain ⟨q2, sq2, lq2, vq2⟩ := (W7.out.at 5 rfl).get (N := M) (by have := HTJ.out.lim; omega)
  obtain ⟨q4, sq4, lq4, vq4⟩ := (W7.out.at 6 rfl).get (N := M) (by have := HTJ.out.lim; omega)
  obtain ⟨Fq2, fq2, rfl, _, _⟩ := sq2.form
  obtain ⟨Fq4, fq4, rfl, _, _⟩ := sq4.form
  have PT := pts3 w7 184 _ _ _ _ q2 q4 (R7.out.at 0 rfl) sq2 sq4
  have GP := ju (jr w7 none) (Obj.cells #[.slice A0 l0.length a0, .slice Fq2 q2.length fq2, .slice Fq4 q4.length fq4] 184)
  have SU := sub_c _ (.slice A2 l2.length a2) _ l2 3 _ _ M ((R7.out.at 3 rfl).grown0 GP) PT (by decide) (fun j hj => by
   have b := HL.out
   have b2 := HTJ.out.M4
   rcases (show j = 0 ∨ j = 1 ∨ j = 2 by omega) with rfl | rfl | rfl
   ·show l0.length ≤ 100000; omega
   ·show q2.length ≤ 100000; omega
   ·show q4.length ≤ 100000; omega) (by have := HL.out; omega) (by
   rw [jZ3]
   show val B64 l0 + val B64 q2 + val B64 q4 < _
   rw [HTJ.out.e0, vq2, vq4]
   have := HTJ.out.lim; omega)
  rw [jZ3, HTJ.out.e2, show c0 + 2 * c1 + 4 * c2 + 8 * c3 + 16 * c4 - (val B64 (([l0, q2, q4] : List (List Int)).getD 0 []) + val B64 (([l0, q2, q4] : List (List Int)).getD 1 []) + val B64 (([l0, q2, q4] : List (List Int)).getD 2 [])) = 2 * (c1 + 4 * c3) from by
   show c0 + 2 * c1 + 4 * c2 + 8 * c3 + 16 * c4 - (val B64 l0 + val B64 q2 + val B64 q4) = _
   rw [HTJ.out.e0, vq2, vq4]; omega] at SU
  have HSU := lk SU
  have HGP := lk GP
  clear SU PT GP sq2 lq2 vq2 sq4 lq4 vq4
  go_wp2_with fail
  refine (HSU.out).mono ?_
  rintro e w8 ⟨x8, rfl, o8, g8⟩
  have GA := jt HGP.out g8
  have W8 := lk ((W7.out.grown0 GA).add o8 (Nat.le_trans G7.out.size HGP.out.size))
  have R8 := lk (R7.out.grown0 GA)
  have G8 := lk (jt G7.out GA)
  clear o8 g8 GA HSU HGP W7 R7 G7
  obtain ⟨z8, s8, l8, v8⟩ := (W8.out.at 7 rfl).get (N := M) (by have := HTJ.out.lim; omega)
  have SE := lshr_c w8 x8 z8 1 s8 (by have := HTJ.out.M4; omega) (by decide) (by decide)
  rw [v8, show 2 * (c1 + 4 * c3) / 2 ^ 1 = c1 + 4 * c3 by omega] at SE
  have HSE := lk (show Calls Tryz.prog 193 #[x8, .int .i64 1] w8 _ from SE)
  clear SE s8 l8 v8
  go_wp2_with fail
  refine (HSE.out).mono ?_
  rintro e w9 ⟨x9, rfl, o9, g9⟩
  have W9 := lk ((W8.out.grown0 g9).add o9 G8.out.size)
  have R9 := lk (R8.out.grown0 g9)
  have G9 := lk (jt G8.out g9)
  clear o9 g9 HSE W8 R8 G8
  obtain ⟨z9, s9, l9, v9⟩ := (W9.out.at 8 rfl).get (N := M) (by have := HTJ.out.lim; omega)
  obtain ⟨zd, sd, ld, vd⟩ := (W9.out.at 3 rfl).get (N := M) (by have := HTJ.out.lim; omega)
  obtain ⟨Fd, fd, rfl, _, _⟩ := sd.form
  have PT := pts1 w9 184 _ _ sd
  have GP := ju (jr w9 none) (Obj.cells #[.slice Fd zd.length fd] 184)
  have SU := sub_c _ x9 _ z9 1 _ _ M (s9.grown0 GP) PT (by decide) (fun j hj => by
   have b2 := HTJ.out.M4
   obtain rfl : j = 0 := by omega
   show zd.length ≤ 100000; omega) (by have := HTJ.out.M4; omega) (by
   rw [jZ1]
   show val B64 zd < _
   rw [vd]
   have := HTJ.out.lim; omega)
  rw [jZ1, v9, show c1 + 4 * c3 - val B64 (([zd] : List (List Int)).getD 0 []) = 3 * c3 from by
   show c1 + 4 * c3 - val B64 zd = _
   rw [vd]; omega] at SU
  have HSU := lk SU
  have HGP := lk GP
  clear SU PT GP s9 l9 v9 sd ld vd
  go_wp2_with fail
  refine (HSU.out).mono ?_
  rintro e w10 ⟨x10, rfl, o10, g10⟩
  have GA := jt HGP.out g10
  have W10 := lk ((W9.out.grown0 GA).add o10 (Nat.le_trans G9.out.size HGP.out.size))
  have R10 := lk (R9.out.grown0 GA)
  have G10 := lk (jt G9.out GA)
  clear o10 g10 GA HSU HGP W9 R9 G9
  obtain ⟨z10, s10, l10, v10⟩ := (W10.out.at 9 rfl).get (N := M) (by have := HTJ.out.lim; omega)
  have TH := third_c w10 x10 z10 s10 (by have := HTJ.out.M4; omega) (by rw [v10]; omega)
  rw [v10, show 3 * c3 / 3 = c3 by omega] at TH
  have HTH := lk TH
  clear TH s10 l10 v10
  go_wp2_with fail
  refine (HTH.out).mono ?_
  rintro e w11 ⟨x11, rfl, o11, g11⟩
  have W11 := lk ((W10.out.grown0 g11).add o11 G10.out.size)
  have R11 := lk (R10.out.grown0 g11)
  have G11 := lk (jt G10.out g11)
  clear o11 g11 HTH W10 R10 G10
  obtain ⟨z11, s11, l11, v11⟩ := (W11.out.at 10 rfl).get (N := M) (by have := HTJ.out.lim; omega)
  obtain ⟨F11, f11, rfl, _, _⟩ := s11.form
  obtain ⟨zd2, sd, ld, vd⟩ := (W11.out.at 3 rfl).get (N := M) (by have := HTJ.out.lim; omega)
  have PT := pts1 w11 184 _ _ s11
  have GP := ju (jr w11 none) (Obj.cells #[.slice F11 z11.length f11] 184)
  have SU := sub_c _ (.slice Fd zd.length fd) _ zd2 1 _ _ M (sd.grown0 GP) PT (by decide) (fun j hj => by
   have b2 := HTJ.out.M4
   obtain rfl : j = 0 := by omega
   show z11.length ≤ 100000; omega) (by have := HTJ.out.M4; omega) (by
   rw [jZ1]
   show val B64 z11 < _
   rw [v11]
   have := HTJ.out.lim; omega)
  rw [jZ1, vd, show c1 + c3 - val B64 (([z11] : List (List Int)).getD 0 []) = c1 from by
   show c1 + c3 - val B64 z11 = _
   rw [v11]; omega] at SU
  have HSU := lk SU
  have HGP := lk GP
  clear SU PT GP s11 l11 v11 sd ld vd
  go_wp2_with fail
  refine (HSU.out).mono ?_
  rintro e w12 ⟨x12, rfl, o12, g12⟩
  have GA := jt HGP.out g12
  have W12 := lk ((W11.out.grown0 GA).add o12 (Nat.le_trans G11.out.size HGP.out.size))
  have R12 := lk (R11.out.grown0 GA)
  have G12 := lk (jt G11.out GA)
  clear o12 g12 GA HSU HGP W11 R11 G11
  obtain ⟨y1', t1, lt1, vt1⟩ := (W12.out.at 11 rfl).get (N := M) (by have := HTJ.out.lim; omega)
  obtain ⟨y2', t2', lt2, vt2⟩ := (W12.out.at 4 rfl).get (N := M) (by have := HTJ.out.lim; omega)
  obtain ⟨y3', t3', lt3, vt3⟩ := (W12.out.at 10 rfl).get (N := M) (by have := HTJ.out.lim; omega)
  obtain ⟨H1, h1, rfl, _, _⟩ := t1.form
  obtain ⟨H2, h2, rfl, _, _⟩ := t2'.form
  have PT := pts5 w12 184 _ _ _ _ _ _ _ _ _ _ (R12.out.at 0 rfl) t1 t2' t3' (R12.out.at 4 rfl)
  have GP := ju (jr w12 none) (Obj.cells #[.slice A0 l0.length a0, .slice H1 y1'.length h1, .slice H2 y2'.length h2, .slice F11 z11.length f11, .slice Ai li.length ai] 184)
  have JN := ljoin_c _ k 5 _ _ _ PT hk (by decide) (fun j hj => by
   have b := HL.out
   have b2 := HTJ.out.M4
   rcases (show j = 0 ∨ j = 1 ∨ j = 2 ∨ j = 3 ∨ j = 4 by omega) with rfl | rfl | rfl | rfl | rfl
   ·show l0.length ≤ 100000; omega
   ·show y1'.length ≤ 100000; omega
   ·show y2'.length ≤ 100000; omega
   ·show y3'.length ≤ 100000; omega
   ·show li.length ≤ 100000; omega)
  rw [jS5] at JN
  have ej : val B64 (([l0, y1', y2', y3', li] : List (List Int)).getD 0 []) + B64 ^ k * val B64 (([l0, y1', y2', y3', li] : List (List Int)).getD 1 []) + B64 ^ (2 * k) * val B64 (([l0, y1', y2', y3', li] : List (List Int)).getD 2 []) + B64 ^ (3 * k) * val B64 (([l0, y1', y2', y3', li] : List (List Int)).getD 3 []) + B64 ^ (4 * k) * val B64 (([l0, y1', y2', y3', li] : List (List Int)).getD 4 []) = c0 + B64 ^ k * c1 + B64 ^ (2 * k) * c2 + B64 ^ (3 * k) * c3 + B64 ^ (4 * k) * c4 := by
   show val B64 l0 + B64 ^ k * val B64 y1' + B64 ^ (2 * k) * val B64 y2' + B64 ^ (3 * k) * val B64 y3' + B64 ^ (4 * k) * val B64 li = _
   rw [vt1, vt2, vt3, HTJ.out.e0, HTJ.out.ei]
  rw [ej] at JN
  have HJN := lk JN
  have HGP := lk (jt G12.out GP)
  clear JN ej PT GP t1 lt1 vt1 t2' lt2 vt2 t3' lt3 vt3 W12 R12
  go_wp2_with fail
  refine (HJN.out).mono ?_
  rintro e w13 ⟨x, rfl, o13, g13⟩
  have KK : Hid (Wo w13 w.heap.size x (c0 + B64 ^ k * c1 + B64 ^ (2 * k) * c2 + B64 ^ (3 * k) * c3 + B64 ^ (4 * k) * c4) ∧ w.grownBy w13 none) := lk ⟨o13.mono HGP.out.size, jt HGP.out g13⟩
  clear o13 g13 HJN
  go_wp2
  go_ret
  exact ⟨x, rfl, KK.out⟩
theorem signed_mul {P Q R S : Nat} : if (decide (P < Q) != decide (R < S)) = true then (P - Q + (Q - P)) * (R - S + (S - R)) + (P * R + Q * S) = P * S + Q * R else (P - Q + (Q - P)) * (R - S + (S - R)) + (P * S + Q * R) = P * R + Q * S := by
 by_cases h1 : P < Q
 ·obtain ⟨d, rfl⟩ : ∃ d, Q = P + d := ⟨Q - P, by omega⟩
  have e1 : P - (P + d) + (P + d - P) = d := by omega
  rw [e1]
  by_cases h2 : R < S
  ·obtain ⟨e, rfl⟩ : ∃ d, S = R + d := ⟨S - R, by omega⟩
   have e2 : R - (R + e) + (R + e - R) = e := by omega
   rw [e2, decide_eq_true h1, decide_eq_true h2]
   simp
   grind
  ·obtain ⟨e, rfl⟩ : ∃ d, R = S + d := ⟨R - S, by omega⟩
   have e2 : S + e - S + (S - (S + e)) = e := by omega
   rw [e2, decide_eq_true h1, decide_eq_false h2]
   simp
   grind
 ·obtain ⟨d, rfl⟩ : ∃ d, P = Q + d := ⟨P - Q, by omega⟩
  have e1 : Q + d - Q + (Q - (Q + d)) = d := by omega
  rw [e1]
  by_cases h2 : R < S
  ·obtain ⟨e, rfl⟩ : ∃ d, S = R + d := ⟨S - R, by omega⟩
   have e2 : R - (R + e) + (R + e - R) = e := by omega
   rw [e2, decide_eq_false h1, decide_eq_true h2]
   simp
   grind
  ·obtain ⟨e, rfl⟩ : ∃ d, R = S + d := ⟨R - S, by omega⟩
   have e2 : S + e - S + (S - (S + e)) = e := by omega
   rw [e2, decide_eq_false h1, decide_eq_false h2]
   simp
   grind
theorem tj_of {V0 V1 V2 U0 U1 U2 M : Nat} (hl : 16 * ((V0 + V2 + V1) * (U0 + U2 + U1)) < B64 ^ M) (hM : M ≤ 40000) :
  TJ (decide (V0 + V2 < V1) != decide (U0 + U2 < U1)) (V0 * U0) (V0 * U1 + V1 * U0) (V0 * U2 + V1 * U1 + V2 * U0) (V1 * U2 + V2 * U1) (V2 * U2)
   (V0 * U0) ((V0 + V2 + V1) * (U0 + U2 + U1)) ((V0 + V2 - V1 + (V1 - (V0 + V2))) * (U0 + U2 - U1 + (U1 - (U0 + U2)))) ((V0 + 2 * V1 + 4 * V2) * (U0 + 2 * U1 + 4 * U2)) (V2 * U2) M := by
 have hs := signed_mul (P := V0 + V2) (Q := V1) (R := U0 + U2) (S := U1)
 have e1 : (V0 + V2) * (U0 + U2) + V1 * U1 = V0 * U0 + (V0 * U2 + V1 * U1 + V2 * U0) + V2 * U2 := by grind
 have e2 : (V0 + V2) * U1 + V1 * (U0 + U2) = V0 * U1 + V1 * U0 + (V1 * U2 + V2 * U1) := by grind
 rw [e1, e2] at hs
 have e3 : (V0 + V2 + V1) * (U0 + U2 + U1) = V0 * U0 + (V0 * U1 + V1 * U0) + (V0 * U2 + V1 * U1 + V2 * U0) + (V1 * U2 + V2 * U1) + V2 * U2 := by grind
 refine ⟨rfl, e3, hs, ?_, rfl, ?_, hM⟩
 ·grind
 ·rw [← e3]; exact hl
theorem toom_val {P V0 V1 V2 U0 U1 U2 : Nat} : (V0 + P * V1 + P * P * V2) * (U0 + P * U1 + P * P * U2) = V0 * U0 + P * (V0 * U1 + V1 * U0) + P * P * (V0 * U2 + V1 * U1 + V2 * U0) + P * P * P * (V1 * U2 + V2 * U1) + P * P * P * P * (V2 * U2) := by grind
def InS (w : World) (gm fk : Nat) (first : Array Value) (b : Int) (T : Nat → Option Value) (p k : Nat) (d : Int) : Prop :=
 ∀ (W : World) (va : Value) (al : List Int) (a : Int) (c : Mc), w.grownBy W (some gm) → Mt W gm a b c → c.T = T → a + (k : Int) ≤ 1000000000000000 → Sl W va al → al.length = p → Off va gm →
  Calls Tryz.prog fk (first ++ #[va]) W fun e w' => ∃ x c', e = .returned x ∧ Wo w' W.heap.size x (val B64 al * val B64 al) ∧ Mt w' gm (a + (k : Int)) b c' ∧ (c'.T = T ∧ c.v ≤ c'.v ∧ (c'.v ≤ c.v ∨ c'.v ≤ b + d)) ∧ W.grownBy w' (some gm)
end Go.Proofs.YtgalbnkcijmnnaaGreatDoor
