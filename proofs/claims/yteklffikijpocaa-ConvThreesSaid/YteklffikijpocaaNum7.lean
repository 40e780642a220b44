/- The document's naturals: back into words. -/
import Derived.Test.YteklffikijpocaaNum6
import Derived.Deep.CutBlock
namespace Go.Proofs.Yteklffikijpocaa
open Go.RowKit

def slen : Value → Nat
  | .slice _ n _ => n
  | _ => 0
/-- v is the number n as words, none of nothing on top. -/
def Wd (w : World) (v : Value) (n : Nat) : Prop := ∃ zs, Sl w v zs ∧ Nz zs ∧ val B64 zs = n
theorem Wd.grown0 {w w' : World} {v : Value} {n : Nat} (h : Wd w v n) (g : w.grownBy w' none) : Wd w' v n := by
  obtain ⟨xs, h1, h2⟩ := h; exact ⟨xs, h1.grown0 g, h2⟩
set_option maxRecDepth 100000 in
set_option maxHeartbeats 4000000 in
theorem to_c (w : World) (u : Value) (m L : Nat) (h : Nm w u m L) (hL : L ≤ 4000000) :
    Calls Try.prog 66 #[u] w fun e w' => ∃ x, e = .returned x ∧ Wd w' x m ∧ w.grownBy w' none := by
  obtain ⟨xs, ⟨A, ca, rfl, a1, a2, _, a4⟩, xd, _, hxv, hxl⟩ := h
  obtain ⟨la, hla⟩ : ∃ l, l = xs.length := ⟨_, rfl⟩
  rw [← hla] at a1 a4 hxl ⊢
  have st : ∀ k i os z, Pr xs k os → i = 2 * k → z = rd xs i + rd xs (i + 1) * 4294967296 → Pr xs (k + 1) (os ++ [z]) := fun k i os z h hi hz => h.step xd (by rw [← hi]; exact hz)
  have ls : ∀ k os, Pr xs k os → la ≤ 2 * k → val 18446744073709551616 os = m := fun k os h hk => by rw [h.last (by omega), ← hxv]
  have oy : ∀ i, ¬ i < la → rd xs i = 0 := fun i hi => rd_beyond (by omega)
  have ST := Lib.hid st
  have LS := Lib.hid ls
  have OY := Lib.hid oy
  have XD := Lib.hid xd
  clear st ls oy xd hla hxv
  go_enter Try.func66, Try.ntmps66
  go_wp2
  go_loopw [3, 4] (fun v3 v4 wr => ∃ (k i : Nat) (os : List Int), v4 = .int .i64 i ∧ i ≤ 2 * k ∧ 2 * k ≤ i ∧ i ≤ la + 1 ∧ Pr xs k os ∧ Own wr w.heap.size v3 os ∧ w.grownBy wr none) (fun _ v4 _ => la + 1 - (intOf v4).toNat)
  case atStart => exact ⟨0, 0, [], rfl, by omega, by omega, by omega, Pr.start xs, own_nil _ _, gb_refl _ _⟩
  case round =>
    obtain ⟨k, i, os, rfl, hi1, hi2, hi, P0, ow, G⟩ := hrel
    have hol := P0.len
    have OL := Lib.hid hol
    have PP := Lib.hid P0
    have OW := Lib.hid ow
    have GG := Lib.hid G
    clear P0 hol ow
    by_cases hia : i < la
    · obtain ⟨ba, oa, rfl, hca⟩ := a4 (by omega)
      obtain ⟨q, hq⟩ : ∃ q, q = i + 1 := ⟨_, rfl⟩
      have ei : (i : Int) + 1 = (q : Int) := by omega
      have ei2 : (i : Int) + 2 = (q : Int) + 1 := by omega
      have ci1 := gb_cell0 G (hca i hia)
      have ci2 := fun hqa : q < la => gb_cell0 G (hca q hqa)
      have st := ST.out k i os _ PP.out (by omega) rfl
      have oy := OY.out q
      have xx := XD.out.at_ (by decide) i
      have yy := XD.out.at_ (by decide) q
      rw [← hq] at st
      obtain ⟨x, hx⟩ : ∃ x, x = rd xs i := ⟨_, rfl⟩
      obtain ⟨y, hy⟩ : ∃ y, y = rd xs q := ⟨_, rfl⟩
      rw [← hx] at ci1 xx st
      rw [← hy] at ci2 yy st oy
      have x0 := xx.1
      have x1 : x < 4294967296 := xx.2
      have y0 := yy.1
      have y1 : y < 4294967296 := yy.2
      have S1 := Lib.hid st
      have HQ := Lib.hid hq
      clear xx yy hx hy st hca a4 G
      by_cases hqa : q < la
      · have ci2 := ci2 hqa
        have SP := Lib.hid S1.out
        clear S1 oy
        clear hq
        go_wp2_with (at_builtin; refine own_append 48 (by kernel_rfl) (.tmp 29) (.tmp 31) rfl rfl _ os rfl (Own.alloc OW.out _) _ 1 1 [x + y * 4294967296] rfl rfl (ws_one (by omega) (by omega)) (built1 _ _ _) (by rw [OL.out]; show _ + 1 ≤ _; omega) (gb_alloc GG.out _).size ?_; intro v1 w1 ow1 g1)
        have G1 := Own.gb (Own.alloc OW.out _) (gb_alloc GG.out _) g1
        clear g1
        go_roundw
        case rel => exact ⟨k + 1, i + 2, os ++ [x + y * 4294967296], by have := HQ.out; go_num, by omega, by omega, by omega, SP.out, ow1, G1⟩
        case measure => have := HQ.out; simp [intOf]; omega
      · have hy0 : y = 0 := oy hqa
        clear oy ci2
        subst hy0
        have SP := Lib.hid S1.out
        clear S1 hq
        go_wp2_with (at_builtin; refine own_append 48 (by kernel_rfl) (.tmp 29) (.tmp 31) rfl rfl _ os rfl (Own.alloc OW.out _) _ 1 1 [x] rfl rfl (ws_one (by omega) (by omega)) (built1 _ _ _) (by rw [OL.out]; show _ + 1 ≤ _; omega) (gb_alloc GG.out _).size ?_; intro v1 w1 ow1 g1)
        have G1 := Own.gb (Own.alloc OW.out _) (gb_alloc GG.out _) g1
        clear g1
        go_roundw
        case rel => exact ⟨k + 1, i + 2, os ++ [x], by have := HQ.out; go_num, by omega, by omega, by have := HQ.out; omega, by have := SP.out; rw [Int.zero_mul, Int.add_zero] at this; exact this, ow1, G1⟩
        case measure => have := HQ.out; simp [intOf]; omega
    · have hv := LS.out k os PP.out (by omega)
      have sl := OW.out.sl
      have SL := Lib.hid sl
      obtain ⟨B, c, e, b1, b2, b3, b4⟩ := sl
      have hk1 : os.length = k := OL.out
      rw [hk1] at e b1 b4
      subst e
      have hr0 : ∀ j, k ≤ j → rd os j = 0 := fun j hj => rd_beyond (by omega)
      have hk2 : k ≤ 4000000 := by omega
      have HR := Lib.hid hr0
      have HV := Lib.hid hv
      have HK := Lib.hid hk1
      clear hr0 hv hk1 OW a4 b3 OL G
      obtain ⟨wo, rfl⟩ : ∃ wo : World, wo = wr := ⟨_, rfl⟩
      go_wp2
      go_loopw [3] (fun v3 wq => ∃ j : Nat, v3 = .slice B j c ∧ j ≤ k ∧ (∀ t, j ≤ t → rd os t = 0) ∧ wq = wo) (fun v3 _ => slen v3)
      case atStart => exact ⟨k, rfl, Nat.le_refl _, HR.out, rfl⟩
      case round =>
        clear HR
        obtain ⟨j, rfl, hj, hz, rfl⟩ := hrel
        have HZ := Lib.hid hz
        clear hz
        by_cases hj0 : j = 0
        · subst hj0
          have ht := take_trimZ (xs := os) (k := 0) (by omega) HZ.out (Or.inl rfl)
          have hs := SL.out.take 0 (by omega)
          rw [ht] at hs
          have HS := Lib.hid hs
          clear hs ht b4 SL
          go_wp2
          go_ret
          exact ⟨_, rfl, ⟨_, HS.out, nz_trimZ _, by rw [val_trimZ]; exact HV.out⟩, GG.out⟩
        · obtain ⟨i', rfl⟩ : ∃ i, j = i + 1 := ⟨j - 1, by omega⟩
          obtain ⟨b, o, rfl, hc⟩ := b4 (by omega)
          have hci := hc i' (by omega)
          have ej : ((i' + 1 : Nat) : Int) - 1 = (i' : Int) := by omega
          clear hc
          by_cases hx : rd os i' = 0
          · rw [hx] at hci
            go_wp2
            go_roundw
            case rel => exact ⟨i', by simp, by omega, fun t ht => by
              by_cases e : t = i'
              · rw [e]; exact hx
              · exact HZ.out t (by omega), by trivial⟩
            case measure => simp [slen]
          · have ht := take_trimZ (xs := os) (k := i' + 1) (by have := HK.out; omega) HZ.out (Or.inr hx)
            have hs := SL.out.take (i' + 1) (by omega)
            rw [ht] at hs
            have HS := Lib.hid hs
            obtain ⟨z, hz⟩ : ∃ z, z = rd os i' := ⟨_, rfl⟩
            rw [← hz] at hci hx
            clear hs ht SL hz
            go_wp2
            go_ret
            exact ⟨_, rfl, ⟨_, HS.out, nz_trimZ _, by rw [val_trimZ]; exact HV.out⟩, GG.out⟩
set_option maxRecDepth 100000 in
theorem same2_c (w : World) (u v : Value) (m L : Nat) (h : Nm w u m L) (k : Wd w v m) (hL : L ≤ 4000000) :
    Calls Try.prog 28 #[u, v] w fun e w' => e = .returned (.bool true) ∧ w.grownBy w' none := by
  obtain ⟨ys, hys, yz, yv⟩ := k
  have HY := Lib.hid hys
  obtain ⟨B, d, rfl, k1, k2, k3, k4⟩ := hys
  obtain ⟨n, hn⟩ : ∃ n, n = ys.length := ⟨_, rfl⟩
  rw [← hn] at k1 k4 ⊢
  have HN := Lib.hid hn
  clear hn
  go_enter Try.func28, Try.ntmps28
  go_wp2_with fail
  refine (to_c _ _ _ _ h hL).mono ?_
  rintro e w1 ⟨x, rfl, ⟨zs, hzs, zz, zv⟩, G⟩
  have e : zs = ys := dg_ext (B := B64) (by decide) hzs.ws.dg HY.out.ws.dg zz yz (by rw [zv, yv])
  subst e
  clear yv yz zv HY k3 zz h
  obtain ⟨C, c, rfl, j1, j2, j3, j4⟩ := hzs
  have XD := Lib.hid j3
  rw [← HN.out] at j1 j4 ⊢
  clear j3
  go_wp2
  go_loopw [6] (fun v6 wr => ∃ i : Nat, v6 = .int .i64 i ∧ i ≤ n ∧ w1.grownBy wr none) (fun v6 _ => n - (intOf v6).toNat)
  case atStart => exact ⟨0, rfl, by omega, gb_refl _ _⟩
  case round =>
    obtain ⟨i, rfl, hi, G1⟩ := hrel
    by_cases hin : i < n
    · obtain ⟨ba, oa, rfl, hca⟩ := k4 (by omega)
      obtain ⟨bb, ob, rfl, hcb⟩ := j4 (by omega)
      have ci1 := gb_cell0 (gb_trans G G1) (hca i hin)
      have ci2 := gb_cell0 G1 (hcb i hin)
      have G2 := Lib.hid G1
      obtain ⟨x, hx⟩ : ∃ x, x = rd zs i := ⟨_, rfl⟩
      rw [← hx] at ci1 ci2
      clear hca hcb hx G1
      go_wp2
      refine Canon.region_canon (by kernel_rfl) (by kernel_rfl) ?_
      go_wp2
      refine ⟨by kernel_rfl, ?_⟩
      go_wp2
      go_roundw
      case rel => exact ⟨i + 1, by go_num, by omega, gb_drew G2.out⟩
      case measure => simp [intOf]; omega
    · go_wp2
      go_ret
      exact ⟨rfl, gb_trans G G1⟩
end Go.Proofs.Yteklffikijpocaa
