/- The document's naturals: quotient and remainder. -/
import Derived.Test.YteklffikijpocaaNum2
namespace Go.Proofs.Yteklffikijpocaa
open Go.RowKit

/-- The quotient's digits: what a bit does. -/
theorem q_low {qs : List Int} (hd : Dg 4294967296 qs) {a t Q : Nat} (ha : a < qs.length) (ht : t < 32) (hv : val 4294967296 qs = Q * 2 ^ (32 * a + t + 1)) :
    (rd qs a).toNat % 2 ^ (t + 1) = 0 := by
  have h1 := val_lt (hd.take a)
  rw [List.length_take, Nat.min_eq_left (by omega)] at h1
  have hB : (4294967296 : Nat) ^ a = 2 ^ (32 * a) := by rw [show (4294967296 : Nat) = 2 ^ 32 from rfl, ← Nat.pow_mul]
  rw [val_take_drop 4294967296 qs a (by omega), val_drop 4294967296 ha, hB, Nat.add_assoc, Nat.pow_add] at hv
  rw [hB] at h1
  have h2 : (val 4294967296 (qs.take a) + 2 ^ (32 * a) * ((rd qs a).toNat + 4294967296 * val 4294967296 (qs.drop (a + 1)))) / 2 ^ (32 * a) = Q * 2 ^ (t + 1) := by
    rw [hv, Nat.mul_left_comm]
    exact Nat.mul_div_cancel_left _ (Nat.pow_pos (by decide))
  rw [Nat.add_mul_div_left _ _ (Nat.pow_pos (by decide)), Nat.div_eq_of_lt h1, Nat.zero_add] at h2
  obtain ⟨s, hs⟩ : ∃ s, 32 = (t + 1) + s := ⟨31 - t, by omega⟩
  have e : (4294967296 : Nat) = 2 ^ (t + 1) * 2 ^ s := by rw [← Nat.pow_add, ← hs]
  rw [e, Nat.mul_assoc] at h2
  have h3 : ((rd qs a).toNat + 2 ^ (t + 1) * (2 ^ s * val (2 ^ (t + 1) * 2 ^ s) (qs.drop (a + 1)))) % 2 ^ (t + 1) = 0 := by rw [h2, Nat.mul_mod_left]
  rwa [Nat.add_mul_mod_self_left] at h3
theorem or_low {x t : Nat} (h : x % 2 ^ (t + 1) = 0) : x ||| 2 ^ t = x + 2 ^ t := by
  obtain ⟨y, hy⟩ : ∃ y, x = 2 ^ (t + 1) * y := ⟨x / 2 ^ (t + 1), by have := Nat.div_add_mod x (2 ^ (t + 1)); omega⟩
  rw [hy]
  exact (Nat.two_pow_add_eq_or_of_lt (by rw [Nat.pow_succ]; have := Nat.pow_pos (a := 2) (n := t) (by decide); omega) y).symm
theorem add_low {x t : Nat} (h : x % 2 ^ (t + 1) = 0) (hx : x < 4294967296) (ht : t < 32) : x + 2 ^ t < 4294967296 := by
  obtain ⟨s, hs⟩ : ∃ s, 32 = (t + 1) + s := ⟨31 - t, by omega⟩
  have e : (4294967296 : Nat) = 2 ^ (t + 1) * 2 ^ s := by rw [← Nat.pow_add, ← hs]
  obtain ⟨y, hy⟩ : ∃ y, x = 2 ^ (t + 1) * y := ⟨x / 2 ^ (t + 1), by have := Nat.div_add_mod x (2 ^ (t + 1)); omega⟩
  rw [hy, e] at hx
  have h1 : y < 2 ^ s := Nat.lt_of_mul_lt_mul_left hx
  have h2 : 2 ^ (t + 1) * (y + 1) ≤ 2 ^ (t + 1) * 2 ^ s := Nat.mul_le_mul_left _ h1
  rw [← e, Nat.mul_add, ← hy] at h2
  have h3 : 2 ^ t < 2 ^ (t + 1) := by rw [Nat.pow_succ]; have := Nat.pow_pos (a := 2) (n := t) (by decide); omega
  omega
theorem q_set {qs : List Int} (hd : Dg 4294967296 qs) {a t Q : Nat} (ha : a < qs.length) (hv : val 4294967296 qs = Q * 2 ^ (32 * a + t + 1)) :
    val 4294967296 (qs.set a (rd qs a + 2 ^ t)) = (2 * Q + 1) * 2 ^ (32 * a + t) := by
  have h := val_set 4294967296 ha (rd qs a + 2 ^ t)
  have hB : (4294967296 : Nat) ^ a = 2 ^ (32 * a) := by rw [show (4294967296 : Nat) = 2 ^ 32 from rfl, ← Nat.pow_mul]
  have x0 := (hd.at_ (by decide) a).1
  have e : (rd qs a + 2 ^ t).toNat = (rd qs a).toNat + 2 ^ t := by
    obtain ⟨x, hx⟩ := nat_of x0
    rw [hx, show ((x : Int) + 2 ^ t) = ((x + 2 ^ t : Nat) : Int) by rw [Int.natCast_add, Int.natCast_pow]; rfl, Int.toNat_natCast, Int.toNat_natCast]
  rw [e, hv, hB, Nat.mul_add] at h
  rw [Nat.pow_succ] at h
  have k : (2 * Q + 1) * 2 ^ (32 * a + t) = Q * (2 ^ (32 * a + t) * 2) + 2 ^ (32 * a) * 2 ^ t := by rw [← Nat.pow_add]; grind
  omega
theorem q_even (Q j : Nat) : Q * 2 ^ (j + 1) = (2 * Q + 0) * 2 ^ j := by rw [Nat.pow_succ, Nat.add_zero, Nat.mul_comm 2 Q, Nat.mul_assoc, Nat.mul_comm 2]
theorem alloc_size (w : World) (o : Obj) : (w.alloc o).heap.size = w.heap.size + 1 := by unfold World.alloc; exact Array.size_push _
theorem cmpI_neg {m n : Nat} (h : m < n) : cmpI m n = -1 := if_pos h
theorem cmpI_nn {m n : Nat} (h : ¬ m < n) : 0 ≤ cmpI m n := by unfold cmpI; rw [if_neg h]; split <;> decide
set_option maxRecDepth 100000 in
set_option maxHeartbeats 4000000 in
theorem divMod_c (w : World) (u v : Value) (m n L L' : Nat) (h : Nm w u m L) (k : Nm w v n L') (hn : 0 < n) (hL : L ≤ 100000) (hL' : L' ≤ 100000) :
    Calls Try.prog 40 #[u, v] w fun e w' => ∃ x y, e = .returned (.tuple #[x, y]) ∧ Nm w' x (m / n) L ∧ Nm w' y (m % n) (L + L' + 1) ∧ w.grownBy w' none := by
  by_cases hmn : m < n
  · have hc := cmpI_neg hmn
    have hd : m / n = 0 := Nat.div_eq_of_lt hmn
    have hm : m % n = m := Nat.mod_eq_of_lt hmn
    rw [hd, hm]
    have H := Lib.hid h
    have HC := Lib.hid hc
    clear hd hm hc
    go_enter Try.func40, Try.ntmps40
    go_wp2_with fail
    refine (cmp_c _ u v m n L L' h k).mono ?_
    rintro e w1 ⟨rfl, g1⟩
    rw [HC.out]
    go_wp2
    go_ret2
    exact ⟨_, _, rfl, nm_nil _ _, (H.out.grown0 g1).mono (by omega), g1⟩
  · have hc := cmpI_nn hmn
    obtain ⟨xs, sx, xd, xz, hxv, hxl⟩ := h
    obtain ⟨ys, sy, yd, yz, hyv, hyl⟩ := k
    have hk : Nm w v n L' := ⟨ys, sy, yd, yz, hyv, hyl⟩
    have hh : Nm w u m L := ⟨xs, sx, xd, xz, hxv, hxl⟩
    obtain ⟨c, hcc⟩ : ∃ c, c = cmpI m n := ⟨_, rfl⟩
    rw [← hcc] at hc
    have HC := Lib.hid hcc
    clear hcc
    obtain ⟨A, ca, rfl, fa1, fa2⟩ := sx.form
    obtain ⟨B, cb, rfl, fb1, fb2⟩ := sy.form
    obtain ⟨la, hla⟩ : ∃ l, l = xs.length := ⟨_, rfl⟩
    obtain ⟨lb, hlb⟩ : ∃ l, l = ys.length := ⟨_, rfl⟩
    rw [← hla] at sx fa1 hxl hh ⊢
    rw [← hlb] at sy fb1 hyl hk ⊢
    have HLA := Lib.hid hla
    have HLB := Lib.hid hlb
    have SX := Lib.hid sx
    have SY := Lib.hid sy
    have HXV := Lib.hid hxv
    have HYV := Lib.hid hyv
    have mk1 := make64 38 (by kernel_rfl) (lb + 1) (lb + 1) ((lb : Int) + 1) ((lb : Int) + 1) (by omega) (by omega) (by omega) (by omega)
    have mk2 := make64 43 (by kernel_rfl) la la (la : Int) (la : Int) rfl rfl (by omega) (by omega)
    clear hla hlb sx sy hxv hyv
    go_enter Try.func40, Try.ntmps40
    go_wp2_with fail
    refine (cmp_c _ _ _ m n L L' hh hk).mono ?_
    rintro e w1 ⟨rfl, g1⟩
    rw [← HC.out]
    clear hh hk
    have ow1 := own_made w1 w1.heap.size (lb + 1) (lb + 1) (Nat.le_refl _) (Nat.le_refl _) (by omega)
    have ow2 := own_made (w1.alloc (.cells (madeCells #[.int .u64 0] (lb + 1)) 41)) w1.heap.size la la (gb_alloc (gb_refl w1 none) _).size (Nat.le_refl _) (by omega)
    have ow3 := ow1.alloc (.cells (madeCells #[.int .u64 0] la) 41)
    have gg := gb_alloc (gb_alloc (gb_refl w1 none) (.cells (madeCells #[.int .u64 0] (lb + 1)) 41)) (.cells (madeCells #[.int .u64 0] la) 41)
    have SX1 := SX.out.grown0 g1
    go_wp2_with fail
    refine (bits_c _ _ xs (SX1.grown0 gg) xd (by rw [← HLA.out]; omega)).mono ?_
    rintro e w' ⟨k, rfl, hk1, hk2, rfl⟩
    rw [← HLA.out] at hk2
    obtain ⟨g, hg⟩ : ∃ g, g = w1.heap.size := ⟨_, rfl⟩
    have hqb : (w1.alloc (.cells (madeCells #[.int .u64 0] (lb + 1)) 41)).heap.size = g + 1 := by rw [hg, alloc_size]
    rw [hqb] at ow2
    rw [← hg] at ow2 ow3 ⊢
    have i0 : m / 2 ^ k = 0 := Nat.div_eq_of_lt (by rw [← HXV.out]; exact hk1)
    have I0 := Lib.hid i0
    have HK1 := Lib.hid hk1
    have HG := Lib.hid hg
    have HMN := Lib.hid hmn
    have S1 := Lib.hid SX1
    have GG := Lib.hid gg
    have OW2 := Lib.hid ow2
    have OW3 := Lib.hid ow3
    have HC0 := Lib.hid g1
    clear i0 hk1 hg hqb mk1 mk2 hmn SX1 gg ow1 ow2 ow3 g1
    go_wp2
    go_loopw [8] (fun v8 wr => ∃ (j : Nat) (rs qs : List Int), v8 = .int .i64 ((j : Int) - 1) ∧ j ≤ 32 * la ∧ Own wr g (.slice (some ⟨g, 0, none⟩) (lb + 1) (lb + 1)) rs ∧ Dg B32 rs ∧ rs.length = lb + 1 ∧ val B32 rs = m / 2 ^ j % n ∧
      Own wr g (.slice (some ⟨g + 1, 0, none⟩) la la) qs ∧ Dg B32 qs ∧ qs.length = la ∧ val B32 qs = m / 2 ^ j / n * 2 ^ j ∧ w1.grownBy wr none) (fun v8 _ => (intOf v8 + 1).toNat)
    case atStart => exact ⟨k, _, _, rfl, hk2, OW3.out, Dg.replicate (by decide) _, List.length_replicate, by rw [I0.out, val_replicate, Nat.zero_mod], OW2.out, Dg.replicate (by decide) _, List.length_replicate, by rw [I0.out, val_replicate, Nat.zero_div, Nat.zero_mul], GG.out⟩
    case round =>
      clear I0 GG OW2 OW3
      obtain ⟨k, rs, qs, rfl, hk, ow1, d1, l1, v1, ow2, d2, l2, v2, G⟩ := hrel
      have V1 := Lib.hid v1
      have V2 := Lib.hid v2
      have L1 := Lib.hid l1
      have L2 := Lib.hid l2
      clear v1 v2 l1 l2
      by_cases hk0 : k = 0
      · subst hk0
        have e1 := V1.out
        have e2 := V2.out
        rw [Nat.pow_zero, Nat.div_one] at e1
        rw [Nat.pow_zero, Nat.div_one, Nat.mul_one] at e2
        have E1 := Lib.hid e1
        have E2 := Lib.hid e2
        clear e1 e2
        go_wp2_with fail
        refine (norm_c _ _ _ ow2.sl).mono ?_
        rintro e w' ⟨x, rfl, hx, rfl⟩
        go_wp2_with fail
        refine (norm_c _ _ _ ow1.sl).mono ?_
        rintro e w' ⟨y, rfl, hy, rfl⟩
        go_wp2
        go_ret2
        exact ⟨x, y, rfl, hx.dgnm d2 E2.out (by rw [L2.out]; omega), hy.dgnm d1 E1.out (by rw [L1.out]; omega), gb_trans HC0.out G⟩
      · obtain ⟨j, rfl⟩ : ∃ j, k = j + 1 := ⟨k - 1, by omega⟩
        have ej : ((j + 1 : Nat) : Int) - 1 = (j : Int) := by omega
        rw [ej]
        clear ej
        go_wp2_with fail
        refine (bit_c _ _ xs j (S1.out.grown0 G) xd (by rw [← HLA.out]; omega)).mono ?_
        rintro e w' ⟨rfl, rfl⟩
        rw [show val B32 xs = m from HXV.out]
        have hb1 : m / 2 ^ j % 2 ≤ 1 := by omega
        have hdb := div_bit m j
        obtain ⟨b, hb⟩ : ∃ b, b = m / 2 ^ j % 2 := ⟨_, rfl⟩
        rw [← hb] at hb1 hdb ⊢
        have hds := div_step (m / 2 ^ (j + 1)) n b hn hb1
        rw [← hdb] at hds
        have DS := Lib.hid hds
        clear hdb hb hds
        have tw := twice_c w1 _ _ _ rs ys (b : Int) G (by rw [← HG.out]; exact ow1) d1 (SY.out.grown0 HC0.out) yd (by omega) (by omega) (by rw [L1.out, HLB.out]) (by rw [V1.out, HYV.out]; exact Nat.mod_lt _ hn) (by rw [L1.out]; omega)
        rw [V1.out, HYV.out, Int.toNat_natCast, ← HG.out] at tw
        have TW := Lib.hid tw
        clear tw
        go_wp2_with fail
        refine (TW.out).mono ?_
        rintro e w2 ⟨zs, rfl, ow3, d3, l3, v3, G2, R⟩
        have hj32 : j < 32 * la := by omega
        have S2 := ow2.grown R (.inr (by simp [Value.ownBlock]))
        by_cases hT : n ≤ 2 * (m / 2 ^ (j + 1) % n) + b
        · have hdec : decide (n ≤ 2 * (m / 2 ^ (j + 1) % n) + b) = true := decide_eq_true hT
          have ds := DS.out
          rw [if_pos hT, if_pos hT] at ds
          rw [if_pos hT] at v3
          rw [hdec]
          have DS2 := Lib.hid ds
          have V3 := Lib.hid v3
          have L3 := Lib.hid l3
          have ha : j / 32 < la := by omega
          have e1 : (j : Int) / 32 = ((j / 32 : Nat) : Int) := by omega
          have e2 : (j : Int) % 32 = ((j % 32 : Nat) : Int) := by omega
          have ht : j % 32 < 32 := Nat.mod_lt _ (by decide)
          have ejj : 32 * (j / 32) + j % 32 = j := by omega
          have hql := q_low d2 (a := j / 32) (t := j % 32) (Q := m / 2 ^ (j + 1) / n) (by rw [L2.out]; exact ha) ht (by rw [ejj]; exact V2.out)
          have hqs := q_set d2 (a := j / 32) (t := j % 32) (Q := m / 2 ^ (j + 1) / n) (by rw [L2.out]; exact ha) (by rw [ejj]; exact V2.out)
          have hci := S2.cell (j / 32) (by rw [L2.out]; exact ha)
          have hfi := S2.free (j / 32)
          have hxd := d2.at_ (by decide) (j / 32)
          rw [ejj] at hqs
          obtain ⟨a, haa⟩ : ∃ a, a = j / 32 := ⟨_, rfl⟩
          obtain ⟨t, htt⟩ : ∃ t, t = j % 32 := ⟨_, rfl⟩
          rw [← haa] at ha e1 hql hqs hci hfi hxd
          rw [← htt] at e2 ht hql hqs
          obtain ⟨x, hx⟩ := nat_of hxd.1
          rw [hx] at hci hqs hql hxd
          rw [Int.toNat_natCast] at hql
          have hx1 : x < 4294967296 := by have : (x : Int) < ((4294967296 : Nat) : Int) := hxd.2; omega
          have hal := add_low hql hx1 ht
          have hor := or_low hql
          have h2t : ((2 : Int) ^ t) = ((2 ^ t : Nat) : Int) := by rw [Int.natCast_pow]; rfl
          obtain ⟨y, hy⟩ : ∃ y, y = x + 2 ^ t := ⟨_, rfl⟩
          have hwr : bits .or .u64 (x : Int) (IntKind.u64.wrap (2 ^ t)) = (y : Int) := by
            rw [h2t, wrapN _ (by omega), hy, ← hor]
            exact bits_or_u64_nat x (2 ^ t) (by omega) (by omega)
          have hyi : (x : Int) + 2 ^ t = (y : Int) := by rw [h2t, hy]; omega
          rw [hyi] at hqs
          rw [← hy] at hal
          have HQS := Lib.hid hqs
          have OW3 := Lib.hid ow3
          have SS2 := Lib.hid S2
          have RR := Lib.hid G2
          have D2 := Lib.hid d2
          have D3 := Lib.hid d3
          clear hdec hT ds v3 l3 hqs hor hql hxd hx haa htt ejj h2t hy hyi hx1 ow3 S2 G2 d2 d3 ow1 ow2
          go_wp2
          go_roundw
          case rel => exact ⟨j, zs, qs.set a y, rfl, by omega, OW3.out.grown (gb_row (gb_refl _ _) a (.int .u64 y)) (.inr (by simp [Value.ownBlock])), D3.out, by rw [L3.out, L1.out], by rw [V3.out, DS2.out.2], SS2.out.store a (by omega) (by omega), D2.out.set a (by omega) (by show (y : Int) < ((4294967296 : Nat) : Int); omega), by rw [List.length_set, L2.out], by rw [HQS.out, DS2.out.1], gb_set RR.out (by show w1.heap.size ≤ g + 1; rw [← HG.out]; omega) _⟩
          case measure => simp [intOf]
        · have hdec : decide (n ≤ 2 * (m / 2 ^ (j + 1) % n) + b) = false := decide_eq_false hT
          have ds := DS.out
          rw [if_neg hT, if_neg hT] at ds
          rw [if_neg hT] at v3
          rw [hdec]
          have DS2 := Lib.hid ds
          have V3 := Lib.hid v3
          have L3 := Lib.hid l3
          have hq : m / 2 ^ (j + 1) / n * 2 ^ (j + 1) = (2 * (m / 2 ^ (j + 1) / n) + 0) * 2 ^ j := q_even _ _
          have HQ := Lib.hid hq
          have OW3 := Lib.hid ow3
          have SS2 := Lib.hid S2
          clear hdec hT ds v3 l3 hq ow3 S2 ow1 ow2
          go_wp2
          go_roundw
          case rel => exact ⟨j, zs, qs, rfl, by omega, OW3.out, d3, by rw [L3.out, L1.out], by rw [V3.out, DS2.out.2], SS2.out, d2, L2.out, by rw [V2.out, HQ.out, DS2.out.1], G2⟩
          case measure => simp [intOf]
theorem mod_c (w : World) (u v : Value) (m n L L' : Nat) (h : Nm w u m L) (k : Nm w v n L') (hn : 0 < n) (hL : L ≤ 100000) (hL' : L' ≤ 100000) :
    Calls Try.prog 63 #[u, v] w fun e w' => ∃ y, e = .returned y ∧ Nm w' y (m % n) (L + L' + 1) ∧ w.grownBy w' none := by
  go_enter Try.func63, Try.ntmps63
  go_wp2_with fail
  refine (divMod_c w u v m n L L' h k hn hL hL').mono ?_
  rintro e w1 ⟨x, y, rfl, _, hy, g⟩
  go_wp2
  go_ret
  exact ⟨y, rfl, hy, g⟩
end Go.Proofs.Yteklffikijpocaa
