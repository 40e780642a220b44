/- Sums of three words each: carried. -/
import Derived.Test.YteklffikijpocaaLimb1
import Derived.Test.YteklffikijpocaaDig4
import Derived.Test.YteklffikijpocaaBits
namespace Go.Proofs.Yteklffikijpocaa
open Go.RowKit

set_option maxRecDepth 100000 in
set_option maxHeartbeats 4000000 in
theorem carry_c (w : World) (v : Value) (xs : List Int) (n : Nat) (h : Cells w v n 3 (fun j => .int .u64 (rd xs j))) (hx : Ws xs) (hn : n ≤ 10000000) :
    Calls Try.prog 29 #[v] w fun e w' => ∃ x, e = .returned x ∧ Wo w' w.heap.size x (sumT (t3 xs) n) ∧ w.grownBy w' none := by
  obtain ⟨A, c, rfl, h1, h2, h4⟩ := h
  have o0 := CaO.start xs n
  have own0 := own_made w w.heap.size (n + 4) (n + 4) (Nat.le_refl _) (by omega) (by omega)
  have mk := make64 48 (by kernel_rfl) (n + 4) (n + 4) ((n : Int) + 4) ((n : Int) + 4) (by omega) (by omega) (by omega) (by omega)
  have O0 := Lib.hid o0
  have OW0 := Lib.hid own0
  have HX := Lib.hid hx
  clear o0 own0 hx
  go_enter Try.func29, Try.ntmps29
  go_wp2
  clear mk
  go_loopw [15] (fun v15 wr => ∃ (i : Nat) (os : List Int), v15 = .int .i64 i ∧ i ≤ n ∧ CaO xs n i os ∧ Own wr w.heap.size (.slice (some ⟨w.heap.size, 0, none⟩) (n + 4) (n + 4)) os ∧ w.grownBy wr none) (fun v15 _ => n - (intOf v15).toNat)
  case atStart => exact ⟨0, _, rfl, by omega, O0.out, OW0.out, gb_alloc (gb_refl w none) _⟩
  case round =>
    clear O0 OW0
    obtain ⟨i, os, rfl, hi, M0, ow, G⟩ := hrel
    have MM := Lib.hid M0
    have OW := Lib.hid ow
    have GG := Lib.hid G
    clear M0 ow
    obtain ⟨wo, rfl⟩ : ∃ wo : World, wo = wr := ⟨_, rfl⟩
    by_cases hia : i < n
    · obtain ⟨ba, oa, rfl, hca⟩ := h4 (by omega)
      have d0 : wo.cell? ⟨ba, oa + i * 3, none⟩ = some (.int .u64 (rd xs (3 * i))) := by
        rw [Nat.mul_comm]; exact gb_cell0 G (hca (3 * i) (by omega))
      have d1 : wo.cell? ⟨ba, oa + i * 3 + 1, none⟩ = some (.int .u64 (rd xs (3 * i + 1))) := by
        rw [Nat.mul_comm i]; exact gb_cell0 G (hca (3 * i + 1) (by omega))
      have d2 : wo.cell? ⟨ba, oa + i * 3 + 2, none⟩ = some (.int .u64 (rd xs (3 * i + 2))) := by
        rw [Nat.mul_comm i]; exact gb_cell0 G (hca (3 * i + 2) (by omega))
      obtain ⟨x0, hx0⟩ : ∃ x, x = rd xs (3 * i) := ⟨_, rfl⟩
      obtain ⟨x1, hx1⟩ : ∃ x, x = rd xs (3 * i + 1) := ⟨_, rfl⟩
      obtain ⟨x2, hx2⟩ : ∃ x, x = rd xs (3 * i + 2) := ⟨_, rfl⟩
      rw [← hx0] at d0
      rw [← hx1] at d1
      rw [← hx2] at d2
      have HX0 := Lib.hid hx0
      have HX1 := Lib.hid hx1
      have HX2 := Lib.hid hx2
      clear hx0 hx1 hx2
      clear G hca h4
      have hbs := OW.out.base_le.2
      have c0 : Cs (wo.alloc (Obj.cells #[.int .u64 x0, .int .u64 x1, .int .u64 x2] 42)) wo.heap.size (nums (ts3 xs i)) := by
        have := cs_new wo #[.int .u64 x0, .int .u64 x1, .int .u64 x2] 42
        unfold ts3
        rw [← HX0.out, ← HX1.out, ← HX2.out]
        exact this
      have C0 := Lib.hid c0
      clear c0
      go_wp2
      go_loopw [6, 7] (fun v6 v7 wq => ∃ (j : Nat) (c : Int) (os : List Int), v6 = .int .u64 c ∧ v7 = .int .i64 j ∧ j ≤ 4 ∧ CaI xs n i j c os ∧ Own wq w.heap.size (.slice (some ⟨w.heap.size, 0, none⟩) (n + 4) (n + 4)) os ∧ Cs wq wo.heap.size (nums (ts3 xs i)) ∧ w.grownBy wq none) (fun _ v7 _ => 5 - (intOf v7).toNat)
      case atStart => exact ⟨0, 0, os, rfl, rfl, by omega, MM.out.inner, OW.out.alloc _, C0.out, gb_alloc GG.out _⟩
      case round =>
        clear C0 MM OW GG d0 d1 d2
        obtain ⟨j, c, os, rfl, rfl, hj, M0, ow, cs, G⟩ := hrel
        have c0 := M0.c0
        have c1 := M0.c1
        have hol := M0.len
        have ows := M0.ws
        have MM := Lib.hid M0
        have OW := Lib.hid ow
        have GG := Lib.hid G
        have CS := Lib.hid cs
        have HOL := Lib.hid hol
        have tp := M0.top HX.out
        have TP := Lib.hid tp
        clear M0 ow hol G cs tp
        obtain ⟨q, hq⟩ : ∃ q, q = i + j := ⟨_, rfl⟩
        have eij : (i : Int) + (j : Int) = (q : Int) := by omega
        have ci3 := fun hqn : q < n + 4 => OW.out.cell q (by rw [HOL.out]; exact hqn)
        have fi3 := OW.out.free q
        have oo := rd_w ows q
        have xw := rd_w (ts3_ws HX.out i) j
        have st := fun hj4 : j < 4 => MM.out.step HX.out hia hj4 rfl rfl
        have xc := fun hj3 : j < 3 => CS.out.cell j (nums_get (xs := ts3 xs i) (j := j) hj3)
        have xz := fun hj3 : ¬ j < 3 => rd_beyond (xs := ts3 xs i) (j := j) (by show 3 ≤ j; omega)
        rw [← hq] at st
        obtain ⟨x, hx⟩ : ∃ x, x = rd (ts3 xs i) j := ⟨_, rfl⟩
        obtain ⟨o, ho⟩ : ∃ o, o = rd os q := ⟨_, rfl⟩
        rw [← hx] at st xw xc xz
        rw [← ho] at st ci3 oo
        have o0 := oo.1
        have o1 := oo.2
        have x0 := xw.1
        have x1 := xw.2
        have a1 : ∀ w, (callFunc 67 #[.int .u64 o, .int .u64 x, .int .u64 c]).run Try.prog w = .ok (.value (.tuple #[.int .u64 ((o + x + c) % 18446744073709551616), .int .u64 ((o + x + c) / 18446744073709551616)])) w := fun w => add64_run o x c o0 x0 c0 c1 w
        have HQ := Lib.hid hq
        have ST := Lib.hid st
        clear hx ho st xw oo ows hq
        by_cases hj3 : j < 3
        · have xc := xc hj3
          have hqn : q < n + 4 := by have := HQ.out; omega
          have ci3 := ci3 hqn
          clear xz
          have st := ST.out (by omega)
          have S1 := Lib.hid st
          have hne : wo.heap.size ≠ w.heap.size := by omega
          have HNE := Lib.hid hne
          clear st ST TP hne
          go_wp2
          go_roundw
          case rel => exact ⟨j + 1, (o + x + c) / 18446744073709551616, os.set q ((o + x + c) % 18446744073709551616), rfl, by go_num, by omega, S1.out, OW.out.store q (by omega) (by omega), CS.out.other HNE.out _ _, gb_set GG.out (Nat.le_refl _) _⟩
          case measure => simp [intOf]; omega
        · have hx0 := xz hj3
          subst hx0
          clear xz xc
          by_cases hc : 0 < c
          · have hj4 := TP.out hc
            have hqn : q < n + 4 := by have := HQ.out; omega
            have ci3 := ci3 hqn
            have st := ST.out (by omega)
            rw [Int.add_zero] at st
            have S1 := Lib.hid st
            have hne : wo.heap.size ≠ w.heap.size := by omega
            have HNE := Lib.hid hne
            clear st ST TP hne
            go_wp2
            go_roundw
            case rel => exact ⟨j + 1, (o + c) / 18446744073709551616, os.set q ((o + c) % 18446744073709551616), rfl, by go_num, by omega, S1.out, OW.out.store q (by omega) (by omega), CS.out.other HNE.out _ _, gb_set GG.out (Nat.le_refl _) _⟩
            case measure => simp [intOf]; omega
          · obtain rfl : c = 0 := by omega
            have l := MM.out.last (by omega)
            have L1 := Lib.hid l
            clear l ST TP ci3 fi3 a1
            go_wp2
            go_roundw
            case rel => exact ⟨i + 1, os, by go_num, by omega, L1.out, OW.out, GG.out⟩
            case measure => simp [intOf]; omega
    · obtain rfl : i = n := by omega
      have hv := MM.out.v
      have hol := MM.out.len
      have HV := Lib.hid hv
      have HOL := Lib.hid hol
      clear hv hol h4 MM G
      go_wp2_with fail
      refine (lnorm_c _ _ os OW.out.sl (by rw [HOL.out]; omega)).mono ?_
      rintro e w' ⟨x, rfl, hx, g⟩
      go_wp2
      go_ret
      exact ⟨x, rfl, ⟨_, hx.mono GG.out.size, nz_trimZ _, by rw [val_trimZ]; exact HV.out⟩, gb_trans GG.out g⟩
end Go.Proofs.Yteklffikijpocaa
