/- The document's naturals: sums and shifts. -/
import Derived.Test.YteklffikijpocaaNum3
import Derived.Deep.CutBlock
namespace Go.Proofs.Yteklffikijpocaa
open Go.RowKit

/-- Adding, k digits done, c carried. -/
structure Ad (xs ys : List Int) (k : Nat) (c : Int) (os : List Int) : Prop where
  c0 : 0 ≤ c
  c1 : c ≤ 1
  len : os.length = k
  dg : Dg 4294967296 os
  v : val 4294967296 os + 4294967296 ^ k * c.toNat = val 4294967296 (xs.take k) + val 4294967296 (ys.take k)
theorem Ad.start (xs ys : List Int) : Ad xs ys 0 0 [] := ⟨by decide, by decide, rfl, Dg.nil _, by simp [val]⟩
theorem ad_arith {V P q t e x y X Y : Nat} (hv : V + P * e = X + Y) (k : q + 4294967296 * t = e + x + y) : V + P * q + P * 4294967296 * t = (X + P * x) + (Y + P * y) := by
  have h := congrArg (P * ·) k
  simp only [Nat.mul_add] at h
  rw [Nat.mul_assoc P 4294967296 t]
  omega
theorem Ad.step {xs ys os : List Int} {k : Nat} {c s : Int} (h : Ad xs ys k c os) (hx : Dg 4294967296 xs) (hy : Dg 4294967296 ys) (hs : s = c + rd xs k + rd ys k) : Ad xs ys (k + 1) (s / 4294967296) (os ++ [s % 4294967296]) := by
  have x0 := hx.at_ (by decide) k
  have y0 := hy.at_ (by decide) k
  have x1 : rd xs k < 4294967296 := x0.2
  have y1 : rd ys k < 4294967296 := y0.2
  have c0 := h.c0
  have c1 := h.c1
  refine ⟨by omega, by omega, by rw [List.length_append, h.len]; rfl, h.dg.append (Dg.cons (by omega) (by show _ < ((4294967296 : Nat) : Int); omega) (Dg.nil _)), ?_⟩
  rw [val_append, val_one, h.len, val_take_any, val_take_any, Nat.pow_succ]
  exact ad_arith h.v (by omega)
theorem Ad.last {xs ys os : List Int} {k : Nat} (h : Ad xs ys k 0 os) (hx : xs.length ≤ k) (hy : ys.length ≤ k) : val 4294967296 os = val 4294967296 xs + val 4294967296 ys := by
  have := h.v
  rw [List.take_of_length_le hx, List.take_of_length_le hy] at this
  simpa using this
set_option maxRecDepth 100000 in
set_option maxHeartbeats 4000000 in
theorem add_c (w : World) (u v : Value) (m n L L' : Nat) (h : Nm w u m L) (k : Nm w v n L') (hL : L ≤ 1000000) (hL' : L' ≤ 1000000) :
    Calls Try.prog 25 #[u, v] w fun e w' => ∃ x, e = .returned x ∧ Nm w' x (m + n) (max L L' + 1) ∧ w.grownBy w' none := by
  obtain ⟨xs, ⟨A, ca, rfl, a1, a2, _, a4⟩, xd, _, hxv, hxl⟩ := h
  obtain ⟨ys, ⟨B, cb, rfl, b1, b2, _, b4⟩, yd, _, hyv, hyl⟩ := k
  obtain ⟨la, hla⟩ : ∃ l, l = xs.length := ⟨_, rfl⟩
  obtain ⟨lb, hlb⟩ : ∃ l, l = ys.length := ⟨_, rfl⟩
  rw [← hla] at a1 a4 hxl ⊢
  rw [← hlb] at b1 b4 hyl ⊢
  obtain ⟨M, hM⟩ : ∃ M, M = max la lb := ⟨_, rfl⟩
  have M1 : la ≤ M := by omega
  have M2 : lb ≤ M := by omega
  have M3 : M ≤ max L L' := by omega
  have M4 : M ≤ 1000000 := by omega
  have st : ∀ k c os s, Ad xs ys k c os → s = c + rd xs k + rd ys k → Ad xs ys (k + 1) (s / 4294967296) (os ++ [s % 4294967296]) := fun k c os s h hs => h.step xd yd hs
  have ls : ∀ k os, Ad xs ys k 0 os → la ≤ k → lb ≤ k → val 4294967296 os = m + n := fun k os h h1 h2 => by
    rw [h.last (by omega) (by omega), ← hxv, ← hyv]
  have ox : ∀ k, ¬ k < la → rd xs k = 0 := fun k hk => rd_beyond (by omega)
  have oy : ∀ k, ¬ k < lb → rd ys k = 0 := fun k hk => rd_beyond (by omega)
  have own0 := own_made w w.heap.size 0 (M + 1) (Nat.le_refl _) (by omega) (by omega)
  have ST := Lib.hid st
  have LS := Lib.hid ls
  have OX := Lib.hid ox
  have OY := Lib.hid oy
  have XD := Lib.hid xd
  have YD := Lib.hid yd
  have O0 := Lib.hid own0
  have HM := Lib.hid hM
  clear st ls ox oy xd yd hla hlb hM hxv hyv own0
  go_enter Try.func25, Try.ntmps25
  go_upto_region 1 with fail
  go_cut [5] from 8 to 14 (fun v5 wc => v5 = .slice (some ⟨w.heap.size, 0, none⟩) 0 (M + 1) ∧ wc = w.alloc (.cells (madeCells #[.int .u64 0] (M + 1)) 41))
  case first =>
    rcases Nat.lt_trichotomy la lb with hlt | heq | hgt
    · have e := HM.out
      rw [Nat.max_eq_right (by omega)] at e
      subst e
      have mk := make64 43 (by kernel_rfl) 0 (M + 1) 0 ((M : Int) + 1) rfl (by omega) (by omega) (by omega)
      go_wp2_with fail
      all_goals (go_meet; exact ⟨rfl, rfl⟩)
    · have e := HM.out
      subst heq
      rw [Nat.max_self] at e
      subst e
      have mk := make64 43 (by kernel_rfl) 0 (M + 1) 0 ((M : Int) + 1) rfl (by omega) (by omega) (by omega)
      go_wp2_with fail
      all_goals (go_meet; exact ⟨rfl, rfl⟩)
    · have e := HM.out
      rw [Nat.max_eq_left (by omega)] at e
      subst e
      have mk := make64 43 (by kernel_rfl) 0 (M + 1) 0 ((M : Int) + 1) rfl (by omega) (by omega) (by omega)
      go_wp2_with fail
      all_goals (go_meet; exact ⟨rfl, rfl⟩)
  case rest =>
    obtain ⟨rfl, rfl⟩ := hcut
    go_wp2
    go_loopw [5, 6, 7] (fun v5 v6 v7 wr => ∃ (k : Nat) (c : Int) (os : List Int), v6 = .int .u64 c ∧ v7 = .int .i64 k ∧ k ≤ M + 1 ∧ (M < k → c ≤ 0) ∧ Ad xs ys k c os ∧ Own wr w.heap.size v5 os ∧ w.grownBy wr none) (fun _ _ v7 _ => M + 1 - (intOf v7).toNat)
    case atStart => exact ⟨0, 0, [], rfl, rfl, by omega, by omega, Ad.start xs ys, O0.out, gb_alloc (gb_refl w none) _⟩
    case round =>
      clear O0
      obtain ⟨k, c, os, rfl, rfl, hk, hkc, AA0, ow, G⟩ := hrel
      have c0 := AA0.c0
      have c1 := AA0.c1
      have hol := AA0.len
      have OL := Lib.hid hol
      have AA := Lib.hid AA0
      have OW := Lib.hid ow
      have GG := Lib.hid G
      clear AA0 hol ow
      by_cases hka : k < la
      · by_cases hkb : k < lb
        · obtain ⟨b1, o1, rfl, hc1⟩ := a4 (by omega)
          have ci1 := gb_cell0 G (hc1 k hka)
          have xx := XD.out.at_ (by decide) k
          obtain ⟨x, hx⟩ : ∃ x, x = rd xs k := ⟨_, rfl⟩
          rw [← hx] at ci1 xx
          have x0 := xx.1
          have x1 : x < 4294967296 := xx.2
          have HX := Lib.hid hx
          clear hx xx hc1
          obtain ⟨b2, o2, rfl, hc2⟩ := b4 (by omega)
          have ci2 := gb_cell0 G (hc2 k hkb)
          have yy := YD.out.at_ (by decide) k
          obtain ⟨y, hy⟩ : ∃ y, y = rd ys k := ⟨_, rfl⟩
          rw [← hy] at ci2 yy
          have y0 := yy.1
          have y1 : y < 4294967296 := yy.2
          have HY := Lib.hid hy
          clear hy yy hc2
          have stp := ST.out k c os (c + x + y) AA.out (by rw [← HX.out, ← HY.out])
          have SP := Lib.hid stp
          clear stp
          go_wp2_with (at_builtin; refine own_append 43 (by kernel_rfl) (.tmp 51) (.tmp 54) rfl rfl _ os rfl (Own.alloc OW.out _) _ 1 1 [(c + x + y) % 4294967296] rfl rfl (ws_one (by omega) (by omega)) (built1 _ _ _) (by rw [OL.out]; show _ + 1 ≤ _; omega) (gb_alloc GG.out _).size ?_; intro v1 w1 ow1 g1)
          have G1 := Own.gb (Own.alloc OW.out _) (gb_alloc GG.out _) g1
          clear g1
          go_roundw
          case rel => exact ⟨k + 1, (c + x + y) / 4294967296, os ++ [(c + x + y) % 4294967296], rfl, by go_num, by omega, by omega, SP.out, ow1, G1⟩
          case measure => simp [intOf]; omega
        · obtain ⟨b1, o1, rfl, hc1⟩ := a4 (by omega)
          have ci1 := gb_cell0 G (hc1 k hka)
          have xx := XD.out.at_ (by decide) k
          obtain ⟨x, hx⟩ : ∃ x, x = rd xs k := ⟨_, rfl⟩
          rw [← hx] at ci1 xx
          have x0 := xx.1
          have x1 : x < 4294967296 := xx.2
          have HX := Lib.hid hx
          clear hx xx hc1
          have stp := ST.out k c os (c + x) AA.out (by rw [← HX.out, OY.out k hkb]; omega)
          have SP := Lib.hid stp
          clear stp
          go_wp2_with (at_builtin; refine own_append 43 (by kernel_rfl) (.tmp 51) (.tmp 54) rfl rfl _ os rfl (Own.alloc OW.out _) _ 1 1 [(c + x) % 4294967296] rfl rfl (ws_one (by omega) (by omega)) (built1 _ _ _) (by rw [OL.out]; show _ + 1 ≤ _; omega) (gb_alloc GG.out _).size ?_; intro v1 w1 ow1 g1)
          have G1 := Own.gb (Own.alloc OW.out _) (gb_alloc GG.out _) g1
          clear g1
          go_roundw
          case rel => exact ⟨k + 1, (c + x) / 4294967296, os ++ [(c + x) % 4294967296], rfl, by go_num, by omega, by omega, SP.out, ow1, G1⟩
          case measure => simp [intOf]; omega
      · by_cases hkb : k < lb
        · obtain ⟨b2, o2, rfl, hc2⟩ := b4 (by omega)
          have ci2 := gb_cell0 G (hc2 k hkb)
          have yy := YD.out.at_ (by decide) k
          obtain ⟨y, hy⟩ : ∃ y, y = rd ys k := ⟨_, rfl⟩
          rw [← hy] at ci2 yy
          have y0 := yy.1
          have y1 : y < 4294967296 := yy.2
          have HY := Lib.hid hy
          clear hy yy hc2
          have stp := ST.out k c os (c + y) AA.out (by rw [OX.out k hka, ← HY.out]; omega)
          have SP := Lib.hid stp
          clear stp
          go_wp2_with (at_builtin; refine own_append 43 (by kernel_rfl) (.tmp 51) (.tmp 54) rfl rfl _ os rfl (Own.alloc OW.out _) _ 1 1 [(c + y) % 4294967296] rfl rfl (ws_one (by omega) (by omega)) (built1 _ _ _) (by rw [OL.out]; show _ + 1 ≤ _; omega) (gb_alloc GG.out _).size ?_; intro v1 w1 ow1 g1)
          have G1 := Own.gb (Own.alloc OW.out _) (gb_alloc GG.out _) g1
          clear g1
          go_roundw
          case rel => exact ⟨k + 1, (c + y) / 4294967296, os ++ [(c + y) % 4294967296], rfl, by go_num, by omega, by omega, SP.out, ow1, G1⟩
          case measure => simp [intOf]; omega
        · by_cases hc : 0 < c
          · have stp := ST.out k c os (c) AA.out (by rw [OX.out k hka, OY.out k hkb]; omega)
            have SP := Lib.hid stp
            clear stp
            go_wp2_with (at_builtin; refine own_append 43 (by kernel_rfl) (.tmp 51) (.tmp 54) rfl rfl _ os rfl (Own.alloc OW.out _) _ 1 1 [(c) % 4294967296] rfl rfl (ws_one (by omega) (by omega)) (built1 _ _ _) (by rw [OL.out]; show _ + 1 ≤ _; omega) (gb_alloc GG.out _).size ?_; intro v1 w1 ow1 g1)
            have G1 := Own.gb (Own.alloc OW.out _) (gb_alloc GG.out _) g1
            clear g1
            go_roundw
            case rel => exact ⟨k + 1, (c) / 4294967296, os ++ [(c) % 4294967296], rfl, by go_num, by omega, by omega, SP.out, ow1, G1⟩
            case measure => simp [intOf]; omega
          · obtain rfl : c = 0 := by omega
            have e := LS.out k os AA.out (by omega) (by omega)
            have E := Lib.hid e
            have DG := Lib.hid AA.out.dg
            clear e
            go_wp2_with fail
            refine (norm_c _ _ _ OW.out.sl).mono ?_
            rintro e w' ⟨x, rfl, hx, rfl⟩
            go_wp2
            go_ret
            exact ⟨x, rfl, hx.dgnm DG.out E.out (by rw [OL.out]; omega), G⟩
end Go.Proofs.Yteklffikijpocaa
