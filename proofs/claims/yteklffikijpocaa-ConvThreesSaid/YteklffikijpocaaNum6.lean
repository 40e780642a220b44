/- The document's naturals: products. -/
import Derived.Test.YteklffikijpocaaNum2
import Derived.Test.YteklffikijpocaaDig3
namespace Go.Proofs.Yteklffikijpocaa
open Go.RowKit

set_option maxRecDepth 100000 in
set_option maxHeartbeats 4000000 in
theorem mul_c (w : World) (u v : Value) (m n L L' : Nat) (h : Nm w u m L) (k : Nm w v n L') (hL : L ≤ 1000000) (hL' : L' ≤ 1000000) :
    Calls Try.prog 64 #[u, v] w fun e w' => ∃ x, e = .returned x ∧ Nm w' x (m * n) (L + L') ∧ w.grownBy w' none := by
  obtain ⟨xs, ⟨A, ca, rfl, a1, a2, _, a4⟩, xd, _, hxv, hxl⟩ := h
  obtain ⟨ys, ⟨B, cb, rfl, b1, b2, _, b4⟩, yd, _, hyv, hyl⟩ := k
  obtain ⟨la, hla⟩ : ∃ l, l = xs.length := ⟨_, rfl⟩
  obtain ⟨lb, hlb⟩ : ∃ l, l = ys.length := ⟨_, rfl⟩
  rw [← hla] at a1 a4 hxl ⊢
  rw [← hlb] at b1 b4 hyl ⊢
  have o0 := MuO.start xs ys
  rw [← hla, ← hlb] at o0
  have oi : ∀ i os, MuO xs ys i os → MuI xs ys i 0 0 os := fun i os h => h.inner
  have ol : ∀ os, MuO xs ys la os → Dg 4294967296 os ∧ val 4294967296 os = m * n := fun os h => ⟨h.dg, by rw [h.last (by omega), ← hxv, ← hyv]⟩
  have le : ∀ i os, MuO xs ys i os → os.length = la + lb := fun i os h => by rw [h.len, hla, hlb]
  have li : ∀ i j c os, MuI xs ys i j c os → os.length = la + lb := fun i j c os h => by rw [h.len, hla, hlb]
  have is : ∀ i j c os s, MuI xs ys i j c os → i < la → j < lb → s = rd os (i + j) + rd xs i * rd ys j + c → MuI xs ys i (j + 1) (s / 4294967296) (os.set (i + j) (s % 4294967296)) := fun i j c os s h h1 h2 h3 => h.step xd yd (by omega) (by omega) h3
  have il : ∀ i c os, MuI xs ys i lb c os → i < la → MuO xs ys (i + 1) (os.set (i + lb) c) := fun i c os h hi => by rw [hlb] at h ⊢; exact h.last (by omega)
  have own0 := own_made w w.heap.size (la + lb) (la + lb) (Nat.le_refl _) (by omega) (by omega)
  have mk := make64 43 (by kernel_rfl) (la + lb) (la + lb) ((la : Int) + (lb : Int)) ((la : Int) + (lb : Int)) (by omega) (by omega) (by omega) (by omega)
  obtain ⟨N, hN⟩ : ∃ N, N = la + lb := ⟨_, rfl⟩
  rw [← hN] at own0 mk le li o0
  have O0 := Lib.hid o0
  have OI := Lib.hid oi
  have OL := Lib.hid ol
  have LE := Lib.hid le
  have LI := Lib.hid li
  have IS := Lib.hid is
  have IL := Lib.hid il
  have OW0 := Lib.hid own0
  have XD := Lib.hid xd
  have YD := Lib.hid yd
  have HN := Lib.hid hN
  have N1 : N ≤ 2000000 := by omega
  clear o0 oi ol le li is il own0 xd yd hla hlb hxv hyv hN
  go_enter Try.func64, Try.ntmps64
  go_wp2
  clear mk
  go_loopw [6] (fun v6 wr => ∃ (i : Nat) (os : List Int), v6 = .int .i64 i ∧ i ≤ la ∧ MuO xs ys i os ∧ Own wr w.heap.size (.slice (some ⟨w.heap.size, 0, none⟩) N N) os ∧ w.grownBy wr none) (fun v6 _ => la - (intOf v6).toNat)
  case atStart => exact ⟨0, _, rfl, by omega, O0.out, OW0.out, gb_alloc (gb_refl w none) _⟩
  case round =>
    clear O0 OW0
    obtain ⟨i, os, rfl, hi, M0, ow, G⟩ := hrel
    have MM := Lib.hid M0
    have OW := Lib.hid ow
    have GG := Lib.hid G
    clear M0 ow G
    obtain ⟨wo, rfl⟩ : ∃ wo : World, wo = wr := ⟨_, rfl⟩
    by_cases hia : i < la
    · go_wp2
      go_loopw [7, 8] (fun v7 v8 wq => ∃ (j : Nat) (c : Int) (os : List Int), v7 = .int .u64 c ∧ v8 = .int .i64 j ∧ j ≤ lb ∧ MuI xs ys i j c os ∧ Own wq w.heap.size (.slice (some ⟨w.heap.size, 0, none⟩) N N) os ∧ w.grownBy wq none) (fun _ v8 _ => lb - (intOf v8).toNat)
      case atStart => exact ⟨0, 0, os, rfl, rfl, by omega, OI.out _ _ MM.out, OW.out, GG.out⟩
      case round =>
        clear MM OW GG
        obtain ⟨j, c, os, rfl, rfl, hj, M0, ow, G⟩ := hrel
        have c0 := M0.c0
        have c1 := M0.c1
        have hol := LI.out _ _ _ _ M0
        have odg := M0.dg
        have MM := Lib.hid M0
        have OW := Lib.hid ow
        have GG := Lib.hid G
        have HOL := Lib.hid hol
        clear M0 ow hol
        by_cases hjb : j < lb
        · obtain ⟨q, hq⟩ : ∃ q, q = i + j := ⟨_, rfl⟩
          have eij : (i : Int) + (j : Int) = (q : Int) := by omega
          have hqN : q < N := by rw [HN.out]; omega
          obtain ⟨ba, oa, rfl, hca⟩ := a4 (by omega)
          obtain ⟨bb, ob, rfl, hcb⟩ := b4 (by omega)
          have ci1 := gb_cell0 G (hca i hia)
          have ci2 := gb_cell0 G (hcb j hjb)
          have ci3 := OW.out.cell q (by rw [HOL.out]; exact hqN)
          have fi3 := OW.out.free q
          have xx := XD.out.at_ (by decide) i
          have yy := YD.out.at_ (by decide) j
          have oo := odg.at_ (by decide) q
          have st := IS.out i j c os _ MM.out hia hjb rfl
          rw [← hq] at st
          obtain ⟨x, hx⟩ : ∃ x, x = rd xs i := ⟨_, rfl⟩
          obtain ⟨y, hy⟩ : ∃ y, y = rd ys j := ⟨_, rfl⟩
          obtain ⟨o, ho⟩ : ∃ o, o = rd os q := ⟨_, rfl⟩
          rw [← hx] at ci1 xx st
          rw [← hy] at ci2 yy st
          rw [← ho] at ci3 oo st
          obtain ⟨z0, z1, _, z3⟩ := mu_bound xx.1 xx.2 yy.1 yy.2 oo.1 oo.2 c0 c1
          have hw0 : IntKind.u64.wrap (x * y) = x * y := by rw [IntKind.wrap_u64]; omega
          obtain ⟨z, hz⟩ : ∃ z, z = x * y := ⟨_, rfl⟩
          rw [← hz] at z0 z1 z3 st
          have hw : IntKind.u64.wrap (x * y) = z := by rw [hw0, hz]
          have o0 := oo.1
          have ST := Lib.hid st
          have HQ := Lib.hid hq
          clear st hx hy ho hz hw0 xx yy oo hca hcb a4 b4 odg G hq
          go_wp2
          refine Canon.region_canon (by kernel_rfl) (by kernel_rfl) ?_
          go_wp2
          refine ⟨by kernel_rfl, ?_⟩
          go_wp2
          go_roundw
          case rel => exact ⟨j + 1, (o + z + c) / 4294967296, os.set q ((o + z + c) % 4294967296), rfl, by go_num, by omega, ST.out, OW.out.drew.store q (by omega) (by omega), gb_set (gb_drew GG.out) (Nat.le_refl _) _⟩
          case measure => simp [intOf]; omega
        · obtain rfl : j = lb := by omega
          obtain ⟨q, hq⟩ : ∃ q, q = i + j := ⟨_, rfl⟩
          have eij : (i : Int) + (j : Int) = (q : Int) := by omega
          have hqN : q < N := by rw [HN.out]; omega
          have fi3 := OW.out.free q
          have ci3 := OW.out.cell q (by rw [HOL.out]; exact hqN)
          have st := IL.out i c os MM.out hia
          rw [← hq] at st
          have ST := Lib.hid st
          have HQ := Lib.hid hq
          clear st a4 b4 odg G hq
          go_wp2
          go_roundw
          case rel => exact ⟨i + 1, os.set q c, by go_num, by omega, ST.out, OW.out.store q (by omega) (by omega), gb_set GG.out (Nat.le_refl _) _⟩
          case measure => simp [intOf]; omega
    · obtain rfl : i = la := by omega
      have l := OL.out os MM.out
      have L1 := Lib.hid l.1
      have L2 := Lib.hid l.2
      have hol := LE.out _ _ MM.out
      have HOL := Lib.hid hol
      clear l a4 b4 hol
      go_wp2_with fail
      refine (norm_c _ _ _ OW.out.sl).mono ?_
      rintro e w' ⟨x, rfl, hx, rfl⟩
      go_wp2
      go_ret
      exact ⟨x, rfl, hx.dgnm L1.out L2.out (by rw [HOL.out, HN.out]; omega), GG.out⟩
end Go.Proofs.Yteklffikijpocaa
