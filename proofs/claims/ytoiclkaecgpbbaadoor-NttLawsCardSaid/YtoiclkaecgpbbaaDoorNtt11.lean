/- Transforms: the document's root; residues; the examples. -/
import Derived.Test.YtoiclkaecgpbbaaDoorNtt9
import Derived.Test.YtoiclkaecgpbbaaDoorNtt10
import Derived.Test.YtoiclkaecgpbbaaDoorPri4
namespace Go.Proofs.YtoiclkaecgpbbaaDoor
open Go.RowKit

structure RdI (p : Int) (xs : List Int) (n i : Nat) (os : List Int) : Prop where
  len : os.length = n
  lo : ∀ k, k < i → rd os k = rd xs k % p
theorem RdI.step {p : Int} {xs os : List Int} {n i : Nat} (h : RdI p xs n i os) (hi : i < n) {y : Int} (hy : y = rd xs i % p) : RdI p xs n (i + 1) (os.set i y) :=
  ⟨by rw [List.length_set, h.len], fun k hk => by
    by_cases e : k = i
    · subst e; rw [rd_set_self (by rw [h.len]; exact hi), hy]
    · rw [rd_set_ne (by omega)]; exact h.lo k (by omega)⟩
set_option maxRecDepth 100000 in
theorem reds_c (w : World) (v : Value) (xs : List Int) (p : Int) (n : Nat) (h : Sl w v xs) (hl : xs.length = n) (hn : n ≤ 1000000) (p3 : 3 ≤ p) (p62 : p < 4611686018427387904) :
    Calls Tryd.prog 39 #[v, .int .u64 p] w fun e w' => ∃ g os, e = .returned (.slice (some ⟨g, 0, none⟩) n n) ∧ Own w' w.heap.size (.slice (some ⟨g, 0, none⟩) n n) os ∧ os.length = n ∧ (∀ i, i < n → rd os i = rd xs i % p) ∧ w.grownBy w' none := by
  obtain ⟨A, cc, rfl, hc1, hc2, hws, h4⟩ := h
  rw [hl] at h4 hc1 ⊢
  have hws' : ∀ j, 0 ≤ rd xs j := fun j => (rd_w hws j).1
  have mk := make64 36 (by kernel_rfl) n n (n : Int) (n : Int) (by omega) (by omega) (by omega) (by omega)
  have OW0 := Lib.hid (own_made w w.heap.size n n (Nat.le_refl _) (by omega) (by omega))
  have F0 : Hid (RdI p xs n 0 (List.replicate n 0)) := Lib.hid ⟨List.length_replicate, fun k hk => by omega⟩
  have G0 := Lib.hid (gb_alloc (gb_refl w none) (Obj.cells (madeCells #[.int .u64 0] n) 22))
  have H4 := Lib.hid h4
  have HW := Lib.hid hws'
  have p0 : p ≠ 0 := by omega
  clear h4 hws hws'
  go_enter Tryd.func39, Tryd.ntmps39
  go_wp2
  go_loopw [6] (fun v6 wr => ∃ (k : Nat) (os : List Int), v6 = .int .i64 k ∧ k ≤ n ∧ RdI p xs n k os ∧ Own wr w.heap.size (.slice (some ⟨w.heap.size, 0, none⟩) n n) os ∧ w.grownBy wr none) (fun v6 _ => n - (intOf v6).toNat)
  case atStart => exact ⟨0, _, rfl, by omega, F0.out, OW0.out, G0.out⟩
  case round =>
    clear F0 OW0 G0 mk
    obtain ⟨k, os, rfl, hk, fi, ow, G⟩ := hrel
    have FI := Lib.hid fi
    have OW := Lib.hid ow
    have GG := Lib.hid G
    clear fi ow G
    by_cases hlt : k < n
    · obtain ⟨b, o, rfl, hcc⟩ := H4.out (by omega)
      have ck := gb_cell0 GG.out (hcc k hlt)
      have co := OW.out.cell k (by rw [FI.out.len]; exact hlt)
      have fo := OW.out.free k
      have y0 := HW.out k
      obtain ⟨y, hy⟩ : ∃ y, y = rd xs k := ⟨_, rfl⟩
      rw [← hy] at ck y0
      have m0 := Int.emod_nonneg y p0
      have m1 := Int.emod_lt_of_pos y (show 0 < p by omega)
      have HY := Lib.hid hy
      clear hcc hy
      go_wp2
      go_roundw
      case rel => exact ⟨k + 1, os.set k (y % p), by go_num, by omega, FI.out.step hlt (by rw [HY.out]), OW.out.store k m0 (by omega), gb_set (p := ⟨w.heap.size, k, none⟩) GG.out (Nat.le_refl _) _⟩
      case measure => simp [intOf]; omega
    · obtain rfl : k = n := by omega
      have L2 := Lib.hid FI.out.lo
      have l1 := FI.out.len
      go_wp2
      go_ret
      exact ⟨_, os, rfl, OW.out, l1, L2.out, GG.out⟩
set_option maxRecDepth 100000 in
set_option maxHeartbeats 2000000 in
theorem refRoot_c (w : World) (p log x0 : Nat) (ok : Ok p log x0) :
    Calls Tryd.prog 28 #[.int .u64 p, .int .i64 log] w fun e w' => e = .returned (.tuple #[.int .u64 (rootOf p log x0), .int .i64 0]) ∧ w.grownBy w' none := by
  have hl := ok.l10
  have hdiv := ok.div
  have hx2 := ok.x2
  have hx64 := ok.x64
  have hx := ok.x
  have hno := ok.no
  have h1 := ok.pm.lo
  have h2 := ok.pm.hi
  have MA := fun w => (may_c w p (by omega)).mono (R' := fun e w' => e = .returned (.bool true) ∧ w' = w) (fun e w' h => ⟨h.1 ok.pm, h.2.2⟩)
  have RP := fun w => refPrime_c w p (by omega)
  rw [ok.is] at RP
  unfold rootOf
  obtain ⟨m, hm⟩ : ∃ m, m = p - 1 := ⟨_, rfl⟩
  rw [← hm] at hdiv hx hno ⊢
  obtain ⟨q, hq⟩ : ∃ q, q = 2 ^ log := ⟨_, rfl⟩
  have hq20 : q ≤ 2 ^ 10 := by rw [hq]; exact Nat.pow_le_pow_right (by decide) hl
  have hq0 : 0 < q := by rw [hq]; exact Nat.pow_pos (by decide)
  have eq : (2 : Int) ^ log = (q : Int) := by rw [hq, Int.natCast_pow]; rfl
  rw [← hq] at hdiv ⊢
  obtain ⟨h, hh⟩ : ∃ h, h = m / 2 := ⟨_, rfl⟩
  obtain ⟨d, hdd⟩ : ∃ d, d = m / q := ⟨_, rfl⟩
  rw [← hh] at hx hno
  rw [← hdd]
  have h64 : h < 2 ^ 64 := by omega
  have d64 : d < 2 ^ 64 := by have := Nat.div_le_self m q; omega
  have PWh := fun (w : World) (a : Int) (a0 : 0 ≤ a) => refPow_c w p a h (by omega) (by omega) a0 h64
  have PWd := fun (w : World) (a : Int) (a0 : 0 ≤ a) => refPow_c w p a d (by omega) (by omega) a0 d64
  obtain ⟨P, hP⟩ : ∃ P : Int, P = (p : Int) := ⟨_, rfl⟩
  obtain ⟨M, hM⟩ : ∃ M : Int, M = (m : Int) := ⟨_, rfl⟩
  obtain ⟨Q, hQ⟩ : ∃ Q : Int, Q = (q : Int) := ⟨_, rfl⟩
  obtain ⟨H, hH⟩ : ∃ H : Int, H = (h : Int) := ⟨_, rfl⟩
  obtain ⟨D, hD⟩ : ∃ D : Int, D = (d : Int) := ⟨_, rfl⟩
  have em : P - 1 = M := by omega
  have eh : M / 2 = H := by omega
  have ed : M / 2 ^ log = D := by rw [eq, hM, hD, hdd, Int.natCast_ediv]
  have ez : M % Q = 0 := by rw [hM, hQ, ← Int.natCast_emod, hdiv]; rfl
  have hw : IntKind.u64.wrap (2 ^ log) = Q := by rw [eq, hQ, IntKind.wrap_u64]; omega
  have hw2 : IntKind.u64.wrap (1 * 2 ^ log) = Q := by rw [Int.one_mul]; exact hw
  have Q0 : Q ≠ 0 := by omega
  have bM : 0 ≤ M ∧ M < 4611686018427387904 := by omega
  have bP : 0 ≤ P ∧ P < 4611686018427387904 := by omega
  have bH : 0 ≤ H ∧ H < 4611686018427387904 := by omega
  have bD : 0 ≤ D ∧ D < 4611686018427387904 := by
    have := Nat.div_le_self m q
    omega
  rw [← hP] at MA RP PWh PWd hx hno ⊢
  rw [← hH] at PWh
  rw [← hD] at PWd
  have hx' : (x0 : Int) ^ h % P = M := by rw [hx, ← em]
  have hno' : ∀ x, 2 ≤ x → x < x0 → (x : Int) ^ h % P ≠ M := fun x a b => by rw [← em]; exact hno x a b
  have HMA := Lib.hid MA
  have HRP := Lib.hid RP
  have HPH := Lib.hid PWh
  have HPD := Lib.hid PWd
  have HX := Lib.hid hx'
  have HNO := Lib.hid hno'
  have H64 := Lib.hid hx64
  clear MA RP PWh PWd ok hx hno hP hM hQ hH hD eq hq hh hdd hdiv h1 h2 hq20 hq0 hm hx' hno' hx64 h64 d64
  have hlb : decide ((log : Int) < 0) = false := decide_eq_false (by omega)
  have hlc : decide ((20 : Int) < (log : Int)) = false := decide_eq_false (by omega)
  by_cases hl0 : log = 0
  · subst hl0
    rw [if_pos rfl]
    go_enter Tryd.func28, Tryd.ntmps28
    go_wp2_with fail
    refine (HMA.out _).mono ?_
    rintro e w1 ⟨rfl, hw1⟩
    subst hw1
    go_wp2_with fail
    refine (HRP.out _).mono ?_
    rintro e w2 ⟨rfl, g1⟩
    go_wp2
    go_ret2
    exact ⟨rfl, g1⟩
  · rw [if_neg hl0]
    have hl1 : ¬ (log : Int) = 0 := by omega
    have hld : ((log : Int) == 0) = false := by simpa using hl1
    go_enter Tryd.func28, Tryd.ntmps28
    go_wp2_with fail
    refine (HMA.out _).mono ?_
    rintro e w1 ⟨rfl, hw1⟩
    subst hw1
    go_wp2_with fail
    refine (HRP.out _).mono ?_
    rintro e w2 ⟨rfl, g1⟩
    go_wp2
    have EM := Lib.hid em
    have EH := Lib.hid eh
    have ED := Lib.hid ed
    clear ez hw hw2 hlb hlc em eh ed hld
    go_loopw [6] (fun v6 wr => ∃ x : Nat, v6 = .int .u64 x ∧ 2 ≤ x ∧ x ≤ x0 ∧ w2.grownBy wr none) (fun v6 _ => x0 - (intOf v6).toNat)
    case atStart => exact ⟨2, rfl, by omega, hx2, gb_refl _ _⟩
    case round =>
      obtain ⟨x, rfl, hxa, hxb, R⟩ := hrel
      have hx63 : (x : Int) < 9223372036854775808 := by have := H64.out; omega
      obtain ⟨X, hXX⟩ : ∃ X : Int, X = (x : Int) := ⟨_, rfl⟩
      have X0 : 0 ≤ X := by omega
      have T := fun w => HPH.out w X X0
      have T2 := fun w => HPD.out w X X0
      have hX1 : X < 9223372036854775808 := by omega
      by_cases hex : x = x0
      · have e : X ^ h % P = M := by rw [hXX, hex]; exact HX.out
        have e0 : (x0 : Int) = X := by omega
        have HE0 := Lib.hid e0
        rw [← hXX]
        have HT := Lib.hid T
        have HT2 := Lib.hid T2
        have HE := Lib.hid e
        clear T T2 hex e e0 hx63 hXX
        have em := EM.out
        have eh := EH.out
        have ed := ED.out
        go_wp2_with fail
        refine (HT.out _).mono ?_
        rintro e w2 ⟨rfl, g2⟩
        rw [HE.out]
        go_wp2_with fail
        refine (HT2.out _).mono ?_
        rintro e w3 ⟨rfl, g3⟩
        go_wp2
        go_ret2
        exact ⟨by rw [HE0.out]; rfl, gb_trans (gb_trans (gb_trans g1 R) g2) g3⟩
      · have e : X ^ h % P ≠ M := by rw [hXX]; exact HNO.out x hxa (by omega)
        obtain ⟨Y, hY⟩ : ∃ Y, Y = X ^ h % P := ⟨_, rfl⟩
        rw [← hY] at e
        have HY := Lib.hid hY
        have hb : (Y == M) = false := by simpa using e
        have HT := Lib.hid T
        have HXX := Lib.hid hXX
        rw [← hXX]
        clear T T2 hY e hXX hx63
        have em := EM.out
        have eh := EH.out
        go_wp2_with fail
        refine (HT.out _).mono ?_
        rintro e w2 ⟨rfl, g2⟩
        rw [← HY.out]
        go_wp2
        clear hb em eh
        go_roundw
        case rel => exact ⟨x + 1, by rw [HXX.out]; go_num, by omega, by omega, gb_trans R g2⟩
        case measure => rw [HXX.out]; simp [intOf]; omega
theorem ok_17 : Ok 17 1 3 := OkP.ok (field_at 0 (by decide)) (by decide) (by decide)
theorem root_17 : rootOf 17 1 3 = 16 := by unfold rootOf; rw [if_neg (by decide)]; decide +kernel
theorem lv_17 {os : List Int} (h : Lv 17 (rd [1, 2]) 16 1 1 os) : os = [3, 16] := by
  have h0 := h.ft 0 (by decide)
  have h1 := h.ft 1 (by decide)
  have b0 := h.bd 0
  have b1 := h.bd 1
  have e0 : ft (rd [1, 2]) 16 (2 ^ 1) 0 = 3 := by decide +kernel
  have e1 : ft (rd [1, 2]) 16 (2 ^ 1) 1 = 33 := by decide +kernel
  rw [e0] at h0
  rw [e1] at h1
  refine rd_ext h.len fun j hj => ?_
  rw [h.len] at hj
  rcases (show j = 0 ∨ j = 1 by omega) with rfl | rfl
  · show rd os 0 = 3
    have : rd os 0 % 17 = 3 % 17 := h0
    omega
  · show rd os 1 = 16
    have : rd os 1 % 17 = 33 % 17 := h1
    omega
theorem sl_lit (w : World) (g : Nat) (cs : Array Value) (t : TypeId) (xs : List Int) (hx : cs.toList = nums xs) (hw : Ws xs) (hg : g = w.heap.size) (n : Nat) (hn : n = xs.length) (hn2 : n ≤ 1000000) : Sl (w.alloc (.cells cs t)) (.slice (some ⟨g, 0, none⟩) n n) xs := by
  have C := cs_newg w cs t g hg
  rw [hx] at C
  subst hn
  refine ⟨_, _, rfl, Nat.le_refl _, by omega, hw, fun _ => ⟨g, 0, rfl, fun j hj => ?_⟩⟩
  rw [Nat.zero_add]
  exact C.cell j (nums_get hj)
set_option maxRecDepth 100000 in
set_option maxHeartbeats 2000000 in
theorem wakes08_c (w : World) (hd : Db w) : Calls Tryd.prog 34 #[] w fun e w' => e = .returned (.bool true) ∧ w.grownBy w' none := by
  have MM := Lib.hid (mt_newg w w.heap.size #[.int .i64 0, .int .i64 0, .int .i64 0] 64 rfl rfl rfl rfl)
  have GA := Lib.hid (gb_alloc (gb_refl w none) (Obj.cells #[.int .i64 0, .int .i64 0, .int .i64 0] 64))
  have hs : w.heap.size < (w.alloc (Obj.cells #[.int .i64 0, .int .i64 0, .int .i64 0] 64)).heap.size := by simp
  have N := new_c _ w.heap.size 17 1 3 ok_17 hs (hd.grown0 GA.out)
  rw [root_17] at N
  have HN := Lib.hid N
  clear N hd
  go_enter Tryd.func34, Tryd.ntmps34
  go_wp2_with fail
  refine (HN.out).mono ?_
  rintro e w1 ⟨t, z, rfl, pl, ht, g1⟩
  have SL := Lib.hid (sl_lit w1 w1.heap.size #[.int .u64 1, .int .u64 2] 22 [1, 2] rfl (fun x hx => by simp at hx; omega) rfl 2 rfl (by decide))
  have GB := Lib.hid (gb_alloc (gb_refl w1 none) (Obj.cells #[.int .u64 1, .int .u64 2] 22))
  have PL := Lib.hid (pl.grown (gb_none GB.out _))
  have M1 := Lib.hid ((MM.out.grown g1).grown GB.out)
  have G1 := Lib.hid (gb_trans GA.out (gb_trans g1 GB.out))
  clear MM GA pl g1 GB hs HN
  go_wp2_with fail
  refine (forwardT_c _ t w.heap.size ((17 : Nat) : Int) 16 z 0 0 0 1 _ _ PL.out M1.out (by decide) SL.out rfl).mono ?_
  rintro e w2 ⟨g, os, rfl, ow, lv, m2, hg, g2⟩
  obtain rfl := lv_17 lv
  have S2 := Lib.hid (sl_lit w2 w2.heap.size #[.int .u64 3, .int .u64 16] 22 [3, 16] rfl (fun x hx => by simp at hx; omega) rfl 2 rfl (by decide))
  have GC := Lib.hid (gb_alloc (gb_refl w2 none) (Obj.cells #[.int .u64 3, .int .u64 16] 22))
  have SO := Lib.hid (ow.sl.grown0 GC.out)
  have M2 := Lib.hid (m2.grown GC.out)
  have G2 := Lib.hid (gb_trans (gb_new G1.out g2 (fun i hi => by cases hi; exact Nat.le_refl _)) GC.out)
  clear ow lv m2 hg g2 GC G1 PL M1 SL ht
  go_wp2_with fail
  refine (same_c _ _ _ _ _ SO.out S2.out).mono ?_
  rintro e w3 ⟨rfl, g3⟩
  rw [show decide (([3, 16] : List Int) = [3, 16]) = true from rfl]
  go_wp2_with fail
  refine (muls_c _ w.heap.size _ _ _ (M2.out.grown g3)).mono ?_
  rintro e w4 ⟨rfl, hw4⟩
  subst hw4
  go_wp2
  go_ret
  exact ⟨rfl, gb_trans G2.out g3⟩
end Go.Proofs.YtoiclkaecgpbbaaDoor
