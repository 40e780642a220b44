/- Transforms: the powers. -/
import Derived.Test.YtoiclkaecgpbbaaDoorNtt3
namespace Go.Proofs.YtoiclkaecgpbbaaDoor
open Go.RowKit

structure PwI (p r : Int) (n i : Nat) (ls ss : List Int) : Prop where
  l1 : ls.length = n
  l2 : ss.length = n
  v1 : ∀ k, k < i → rd ls k = r ^ k % p
  v2 : ∀ k, k < i → rd ss k = r ^ k % p * 18446744073709551616 / p
theorem PwI.step {p r : Int} {n i : Nat} {ls ss : List Int} (h : PwI p r n i ls ss) (hi : i < n) {x y : Int} (hx : x = r ^ i % p) (hy : y = r ^ i % p * 18446744073709551616 / p) : PwI p r n (i + 1) (ls.set i x) (ss.set i y) := by
  refine ⟨by rw [List.length_set, h.l1], by rw [List.length_set, h.l2], fun k hk => ?_, fun k hk => ?_⟩
  · by_cases e : i = k
    · subst e; rw [rd_set_self (by rw [h.l1]; exact hi), hx]
    · rw [rd_set_ne e]; exact h.v1 k (by omega)
  · by_cases e : i = k
    · subst e; rw [rd_set_self (by rw [h.l2]; exact hi), hy]
    · rw [rd_set_ne e]; exact h.v2 k (by omega)
theorem pow_next {p r x : Int} {i : Nat} (hx : x = r ^ i % p) : x * r % p = r ^ (i + 1) % p := by
  rw [hx, Int.pow_succ]; exact (Cg.mod p _).mulr r
def PX (p r : Int) (i : Nat) (x : Int) : Prop := x = r ^ i % p ∧ 0 ≤ x ∧ x < p
theorem own_two (w : World) (n : Nat) (hn : n ≤ 1000000) : Own (((w.alloc (.cells (madeCells #[.int .u64 0] n) 22)).alloc (.cells (madeCells #[.int .u64 0] n) 22)).drew) w.heap.size (.slice (some ⟨w.heap.size, 0, none⟩) n n) (List.replicate n 0) ∧
    Own (((w.alloc (.cells (madeCells #[.int .u64 0] n) 22)).alloc (.cells (madeCells #[.int .u64 0] n) 22)).drew) w.heap.size (.slice (some ⟨w.heap.size + 1, 0, none⟩) n n) (List.replicate n 0) := by
  have e : (w.alloc (.cells (madeCells #[.int .u64 0] n) 22)).heap.size = w.heap.size + 1 := by simp
  have h1 := (own_made w w.heap.size n n (Nat.le_refl _) (Nat.le_refl _) (by omega)).alloc (.cells (madeCells #[.int .u64 0] n) 22)
  have h2 := own_made (w.alloc (.cells (madeCells #[.int .u64 0] n) 22)) w.heap.size n n (by rw [e]; omega) (Nat.le_refl _) (by omega)
  rw [e] at h2
  exact ⟨h1.drew, h2.drew⟩
set_option maxRecDepth 100000 in
set_option maxHeartbeats 4000000 in
theorem powers_c (w : World) (g : Nat) (p r : Int) (n : Nat) (h : Md w g p) (hr : 0 ≤ r) (hn : n ≤ 1000000) :
    Calls Tryd.prog 80 #[.pointer (some ⟨g, 0, none⟩), .int .u64 r, .int .i64 n] w fun e w' => ∃ b bs, e = .returned (.tuple #[.slice (some ⟨b, 0, none⟩) n n, .slice (some ⟨bs, 0, none⟩) n n]) ∧ (∀ gm, gm < w.heap.size → Pws w' gm (.slice (some ⟨b, 0, none⟩) n n) (.slice (some ⟨bs, 0, none⟩) n n) p r n) ∧ w.grownBy w' none := by
  have hp3 := h.pm.lo
  have hp' := h.pm.hi
  have mk := make64 36 (by kernel_rfl) n n (n : Int) (n : Int) (by omega) (by omega) (by omega) (by omega)
  have x1 : (1 : Int) = r ^ 0 % p := by rw [Int.pow_zero, Int.emod_eq_of_lt (by omega) (by omega)]
  have PX0 : Hid (PX p r 0 1) := Lib.hid ⟨x1, by decide, by omega⟩
  have O2 := Lib.hid (own_two w n hn)
  have H := Lib.hid h
  clear x1 h
  go_enter Tryd.func80, Tryd.ntmps80
  go_upto_region 1 with fail
  go_cut [8, 9] from 12 to 15 (fun v8 v9 wc => ∃ b bs, v8 = .slice (some ⟨b, 0, none⟩) n n ∧ v9 = .slice (some ⟨bs, 0, none⟩) n n ∧ b ≠ bs ∧ Own wc w.heap.size (.slice (some ⟨b, 0, none⟩) n n) (List.replicate n 0) ∧ Own wc w.heap.size (.slice (some ⟨bs, 0, none⟩) n n) (List.replicate n 0) ∧ w.grownBy wc none)
  case first =>
    go_region
    all_goals (go_wp2_with fail)
    all_goals (go_meet)
    · obtain ⟨o1, o2⟩ := O2.out
      exact ⟨_, _, rfl, rfl, by omega, o1, o2, gb_drew (gb_alloc (gb_alloc (gb_refl w none) _) _)⟩
    · obtain ⟨o1, o2⟩ := O2.out
      exact ⟨_, _, rfl, rfl, by omega, o2, o1, gb_drew (gb_alloc (gb_alloc (gb_refl w none) _) _)⟩
  case rest =>
    obtain ⟨b, bs, rfl, rfl, hbb, ob, obs, GC⟩ := hcut
    clear O2 mk
    have OB := Lib.hid ob
    have OBS := Lib.hid obs
    have lb := ob.base_le
    have lbs := obs.base_le
    have LB := Lib.hid (And.intro lb.1 lbs.1)
    clear ob obs lb lbs
    go_wp2
    go_loopw [10, 18] (fun v10 v18 wr => ∃ (i : Nat) (x : Int) (ls ss : List Int), v10 = .int .u64 x ∧ v18 = .int .i64 i ∧ i ≤ n ∧ PX p r i x ∧ PwI p r n i ls ss ∧ Own wr w.heap.size (.slice (some ⟨b, 0, none⟩) n n) ls ∧ Own wr w.heap.size (.slice (some ⟨bs, 0, none⟩) n n) ss ∧ w.grownBy wr none) (fun _ v18 _ => n - (intOf v18).toNat)
    case atStart => exact ⟨0, 1, _, _, rfl, rfl, by omega, PX0.out, ⟨List.length_replicate, List.length_replicate, fun k hk => by omega, fun k hk => by omega⟩, OB.out, OBS.out, GC⟩
    case round =>
      clear OB OBS PX0 GC
      obtain ⟨i, x, ls, ss, rfl, rfl, hi, px, pw, o1, o2, G⟩ := hrel
      have PWH := Lib.hid pw
      have O1 := Lib.hid o1
      have O2 := Lib.hid o2
      have GG := Lib.hid G
      by_cases hin : i < n
      · have x0 := px.2.1
        have x1 := px.2.2
        have PXH := Lib.hid px
        have c1 := o1.cell i (by rw [pw.l1]; exact hin)
        have f1 := o1.free i
        have st := pw.step hin px.1 (y := x % p * 18446744073709551616 / p) (by rw [Int.emod_eq_of_lt x0 x1, px.1])
        have hy0 : 0 ≤ x % p * 18446744073709551616 / p := Int.ediv_nonneg (Int.mul_nonneg (Int.emod_nonneg _ (by omega)) (by decide)) (by omega)
        have hy1 : x % p * 18446744073709551616 / p < 18446744073709551616 := by
          rw [Int.emod_eq_of_lt x0 x1]
          refine Int.ediv_lt_of_lt_mul (by omega) ?_
          rw [Int.mul_comm]
          exact Int.mul_lt_mul_of_pos_left x1 (by decide)
        have nx : PX p r (i + 1) (x * r % p) := ⟨pow_next px.1, Int.emod_nonneg _ (by omega), Int.emod_lt_of_pos _ (by omega)⟩
        have SH := fun w (h : Md w g p) => modShoup_c w g p x h x0
        obtain ⟨y, hy⟩ : ∃ y, y = x % p * 18446744073709551616 / p := ⟨_, rfl⟩
        rw [← hy] at st hy0 hy1 SH
        have HSH := Lib.hid SH
        have ST := Lib.hid st
        have NX := Lib.hid nx
        have Y := Lib.hid (And.intro hy0 hy1)
        clear o1 o2 G px pw st nx SH hy hy0 hy1
        have k1 := O1.out.store i x0 (by omega)
        have k2 := O2.out.grown (gb_rowC (gb_refl _ (some b)) i (.int .u64 x)) (.inr (by simp [Value.ownBlock]; omega))
        have k3 := gb_set (p := ⟨b, i, none⟩) GG.out LB.out.1 (.int .u64 x)
        have K1 := Lib.hid k1
        have K2 := Lib.hid k2
        have K3 := Lib.hid k3
        clear k1 k2 k3
        go_wp2_with fail
        refine (HSH.out _ (H.out.grown0 K3.out)).mono ?_
        rintro e wa ⟨rfl, ga⟩
        clear c1 f1
        have K1a := Lib.hid (K1.out.grown0 ga)
        have K2a := Lib.hid (K2.out.grown0 ga)
        have K3a := Lib.hid (gb_trans K3.out ga)
        have c2 := K2a.out.cell i (by rw [PWH.out.l2]; exact hin)
        have f2 := K2a.out.free i
        have k1 := K1a.out.grown (gb_rowC (gb_refl _ (some bs)) i (.int .u64 y)) (.inr (by simp [Value.ownBlock]; omega))
        have k2 := K2a.out.store i Y.out.1 Y.out.2
        have k3 := gb_set (p := ⟨bs, i, none⟩) K3a.out LB.out.2 (.int .u64 y)
        have L1 := Lib.hid k1
        have L2 := Lib.hid k2
        have L3 := Lib.hid k3
        clear k1 k2 k3 ga
        go_wp2_with fail
        refine (modMul_c _ g p x r (H.out.grown0 L3.out) x0 hr).mono ?_
        rintro e wb ⟨rfl, gb⟩
        clear c2 f2
        go_wp2
        go_roundw
        case rel => exact ⟨i + 1, x * r % p, ls.set i x, ss.set i y, rfl, by go_num, by omega, NX.out, ST.out, L1.out.grown0 gb, L2.out.grown0 gb, gb_trans L3.out gb⟩
        case measure => simp [intOf]; omega
      · obtain rfl : i = n := by omega
        clear o1 o2 G px pw
        go_wp2
        go_ret2
        exact ⟨_, _, rfl, fun gm hgm => ⟨b, bs, rfl, rfl, by have := LB.out.1; omega, by have := LB.out.2; omega, fun k hk => by rw [O1.out.cell k (by rw [PWH.out.l1]; exact hk), PWH.out.v1 k hk], fun k hk => by rw [O2.out.cell k (by rw [PWH.out.l2]; exact hk), PWH.out.v2 k hk]⟩, GG.out⟩
end Go.Proofs.YtoiclkaecgpbbaaDoor
