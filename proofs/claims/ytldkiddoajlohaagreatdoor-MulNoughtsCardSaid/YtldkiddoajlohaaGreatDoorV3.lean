/- Contracts of the program's functions, and plain laws (Conv1, Num2, Num6, Num7, Num3, Num4, Num5, Law09, Ntt4, MrF, Pri3, Ntt8, OkP, Ntt9, Conv4, Conv5, Conv6, Conv7, Conv8, Keep3, School1, Kara1, DigS, Limb5, Kara2, DigT, Toom1, Toom2), for every input that their premises let in. -/
import Derived.Test.YtldkiddoajlohaaGreatDoorV1
import Derived.Deep.CutBlock
import Derived.Test.YtldkiddoajlohaaGreatDoorV2
import Derived.Deep.MidRow
import Derived.Laws.Bits64b
/- Sums of three words each: carried. -/
namespace Go.Proofs.YtldkiddoajlohaaGreatDoor
open Go.RowKit

set_option maxRecDepth 100000 in
set_option maxHeartbeats 4000000 in
theorem carry_c (w : World) (v : Value) (xs : List Int) (n : Nat) (h : Cells w v n 3 (fun j => .int .u64 (rd xs j))) (hx : Ws xs) (hn : n ≤ 10000000) :
    Calls Tryz.prog 86 #[v] w fun e w' => ∃ x, e = .returned x ∧ Wo w' w.heap.size x (sumT (t3 xs) n) ∧ w.grownBy w' none := by
  obtain ⟨A, c, rfl, h1, h2, h4⟩ := h
  have o0 := CaO.start xs n
  have own0 := own_made w w.heap.size (n + 4) (n + 4) (Nat.le_refl _) (by omega) (by omega)
  have mk := make64 34 (by kernel_rfl) (n + 4) (n + 4) ((n : Int) + 4) ((n : Int) + 4) (by omega) (by omega) (by omega) (by omega)
  have O0 := Lib.hid o0
  have OW0 := Lib.hid own0
  have HX := Lib.hid hx
  clear o0 own0 hx
  go_enter Tryz.func86, Tryz.ntmps86
  go_wp2
  clear mk
  go_loopw [15] (fun v15 wr => ∃ (i : Nat) (os : List Int), v15 = .int .i64 i ∧ i ≤ n ∧ CaO xs n i os ∧ Own wr w.heap.size (.slice (some ⟨w.heap.size, 0, none⟩) (n + 4) (n + 4)) os ∧ w.grownBy wr none) (fun v15 _ => n - (intOf v15).toNat)
  case atStart => exact ⟨0, _, rfl, by omega, O0.out, OW0.out, gb_alloc (gb_refl w none) _⟩
  case round =>
    clear O0 OW0
    obtain ⟨i, os, rfl, hi, M0, ow, G⟩ := hrel
    have MM := Lib.hid M0
    have OW := Lib.hid ow
    have GG := Lib.hid G
    clear M0 ow
    obtain ⟨wo, rfl⟩ : ∃ wo : World, wo = wr := ⟨_, rfl⟩
    by_cases hia : i < n
    · obtain ⟨ba, oa, rfl, hca⟩ := h4 (by omega)
      have d0 : wo.cell? ⟨ba, oa + i * 3, none⟩ = some (.int .u64 (rd xs (3 * i))) := by
        rw [Nat.mul_comm]; exact gb_cell0 G (hca (3 * i) (by omega))
      have d1 : wo.cell? ⟨ba, oa + i * 3 + 1, none⟩ = some (.int .u64 (rd xs (3 * i + 1))) := by
        rw [Nat.mul_comm i]; exact gb_cell0 G (hca (3 * i + 1) (by omega))
      have d2 : wo.cell? ⟨ba, oa + i * 3 + 2, none⟩ = some (.int .u64 (rd xs (3 * i + 2))) := by
        rw [Nat.mul_comm i]; exact gb_cell0 G (hca (3 * i + 2) (by omega))
      obtain ⟨x0, hx0⟩ : ∃ x, x = rd xs (3 * i) := ⟨_, rfl⟩
      obtain ⟨x1, hx1⟩ : ∃ x, x = rd xs (3 * i + 1) := ⟨_, rfl⟩
      obtain ⟨x2, hx2⟩ : ∃ x, x = rd xs (3 * i + 2) := ⟨_, rfl⟩
      rw [← hx0] at d0
      rw [← hx1] at d1
      rw [← hx2] at d2
      have HX0 := Lib.hid hx0
      have HX1 := Lib.hid hx1
      have HX2 := Lib.hid hx2
      clear hx0 hx1 hx2
      clear G hca h4
      have hbs := OW.out.base_le.2
      have c0 : Cs (wo.alloc (Obj.cells #[.int .u64 x0, .int .u64 x1, .int .u64 x2] 125)) wo.heap.size (nums (ts3 xs i)) := by
        have := cs_new wo #[.int .u64 x0, .int .u64 x1, .int .u64 x2] 125
        unfold ts3
        rw [← HX0.out, ← HX1.out, ← HX2.out]
        exact this
      have C0 := Lib.hid c0
      clear c0
      go_wp2
      go_loopw [6, 7] (fun v6 v7 wq => ∃ (j : Nat) (c : Int) (os : List Int), v6 = .int .u64 c ∧ v7 = .int .i64 j ∧ j ≤ 4 ∧ CaI xs n i j c os ∧ Own wq w.heap.size (.slice (some ⟨w.heap.size, 0, none⟩) (n + 4) (n + 4)) os ∧ Cs wq wo.heap.size (nums (ts3 xs i)) ∧ w.grownBy wq none) (fun _ v7 _ => 5 - (intOf v7).toNat)
      case atStart => exact ⟨0, 0, os, rfl, rfl, by omega, MM.out.inner, OW.out.alloc _, C0.out, gb_alloc GG.out _⟩
      case round =>
        clear C0 MM OW GG d0 d1 d2
        obtain ⟨j, c, os, rfl, rfl, hj, M0, ow, cs, G⟩ := hrel
        have c0 := M0.c0
        have c1 := M0.c1
        have hol := M0.len
        have ows := M0.ws
        have MM := Lib.hid M0
        have OW := Lib.hid ow
        have GG := Lib.hid G
        have CS := Lib.hid cs
        have HOL := Lib.hid hol
        have tp := M0.top HX.out
        have TP := Lib.hid tp
        clear M0 ow hol G cs tp
        obtain ⟨q, hq⟩ : ∃ q, q = i + j := ⟨_, rfl⟩
        have eij : (i : Int) + (j : Int) = (q : Int) := by omega
        have ci3 := fun hqn : q < n + 4 => OW.out.cell q (by rw [HOL.out]; exact hqn)
        have fi3 := OW.out.free q
        have oo := rd_w ows q
        have xw := rd_w (ts3_ws HX.out i) j
        have st := fun hj4 : j < 4 => MM.out.step HX.out hia hj4 rfl rfl
        have xc := fun hj3 : j < 3 => CS.out.cell j (nums_get (xs := ts3 xs i) (j := j) hj3)
        have xz := fun hj3 : ¬ j < 3 => rd_beyond (xs := ts3 xs i) (j := j) (by show 3 ≤ j; omega)
        rw [← hq] at st
        obtain ⟨x, hx⟩ : ∃ x, x = rd (ts3 xs i) j := ⟨_, rfl⟩
        obtain ⟨o, ho⟩ : ∃ o, o = rd os q := ⟨_, rfl⟩
        rw [← hx] at st xw xc xz
        rw [← ho] at st ci3 oo
        have o0 := oo.1
        have o1 := oo.2
        have x0 := xw.1
        have x1 := xw.2
        have a1 : ∀ w, (callFunc 73 #[.int .u64 o, .int .u64 x, .int .u64 c]).run Tryz.prog w = .ok (.value (.tuple #[.int .u64 ((o + x + c) % 18446744073709551616), .int .u64 ((o + x + c) / 18446744073709551616)])) w := fun w => add64_run o x c o0 x0 c0 c1 w
        have HQ := Lib.hid hq
        have ST := Lib.hid st
        clear hx ho st xw oo ows hq
        by_cases hj3 : j < 3
        · have xc := xc hj3
          have hqn : q < n + 4 := by have := HQ.out; omega
          have ci3 := ci3 hqn
          clear xz
          have st := ST.out (by omega)
          have S1 := Lib.hid st
          have hne : wo.heap.size ≠ w.heap.size := by omega
          have HNE := Lib.hid hne
          clear st ST TP hne
          go_wp2
          go_roundw
          case rel => exact ⟨j + 1, (o + x + c) / 18446744073709551616, os.set q ((o + x + c) % 18446744073709551616), rfl, by go_num, by omega, S1.out, OW.out.store q (by omega) (by omega), CS.out.other HNE.out _ _, gb_set GG.out (Nat.le_refl _) _⟩
          case measure => simp [intOf]; omega
        · have hx0 := xz hj3
          subst hx0
          clear xz xc
          by_cases hc : 0 < c
          · have hj4 := TP.out hc
            have hqn : q < n + 4 := by have := HQ.out; omega
            have ci3 := ci3 hqn
            have st := ST.out (by omega)
            rw [Int.add_zero] at st
            have S1 := Lib.hid st
            have hne : wo.heap.size ≠ w.heap.size := by omega
            have HNE := Lib.hid hne
            clear st ST TP hne
            go_wp2
            go_roundw
            case rel => exact ⟨j + 1, (o + c) / 18446744073709551616, os.set q ((o + c) % 18446744073709551616), rfl, by go_num, by omega, S1.out, OW.out.store q (by omega) (by omega), CS.out.other HNE.out _ _, gb_set GG.out (Nat.le_refl _) _⟩
            case measure => simp [intOf]; omega
          · obtain rfl : c = 0 := by omega
            have l := MM.out.last (by omega)
            have L1 := Lib.hid l
            clear l ST TP ci3 fi3 a1
            go_wp2
            go_roundw
            case rel => exact ⟨i + 1, os, by go_num, by omega, L1.out, OW.out, GG.out⟩
            case measure => simp [intOf]; omega
    · obtain rfl : i = n := by omega
      have hv := MM.out.v
      have hol := MM.out.len
      have HV := Lib.hid hv
      have HOL := Lib.hid hol
      clear hv hol h4 MM G
      go_wp2_with fail
      refine (lnorm_c _ _ os OW.out.sl (by rw [HOL.out]; omega)).mono ?_
      rintro e w' ⟨x, rfl, hx, g⟩
      go_wp2
      go_ret
      exact ⟨x, rfl, ⟨_, hx.mono GG.out.size, nz_trimZ _, by rw [val_trimZ]; exact HV.out⟩, gb_trans GG.out g⟩
end Go.Proofs.YtldkiddoajlohaaGreatDoor

/- The document's naturals: bits, division. -/
namespace Go.Proofs.YtldkiddoajlohaaGreatDoor
open Go.RowKit

end Go.Proofs.YtldkiddoajlohaaGreatDoor

/- The document's naturals: products. -/
namespace Go.Proofs.YtldkiddoajlohaaGreatDoor
open Go.RowKit

set_option maxRecDepth 100000 in
set_option maxHeartbeats 4000000 in
theorem mul_c (w : World) (u v : Value) (m n L L' : Nat) (h : Nm w u m L) (k : Nm w v n L') (hL : L ≤ 1000000) (hL' : L' ≤ 1000000) :
    Calls Tryz.prog 22 #[u, v] w fun e w' => ∃ x, e = .returned x ∧ Nm w' x (m * n) (L + L') ∧ w.grownBy w' none := by
  obtain ⟨xs, ⟨A, ca, rfl, a1, a2, _, a4⟩, xd, _, hxv, hxl⟩ := h
  obtain ⟨ys, ⟨B, cb, rfl, b1, b2, _, b4⟩, yd, _, hyv, hyl⟩ := k
  obtain ⟨la, hla⟩ : ∃ l, l = xs.length := ⟨_, rfl⟩
  obtain ⟨lb, hlb⟩ : ∃ l, l = ys.length := ⟨_, rfl⟩
  rw [← hla] at a1 a4 hxl ⊢
  rw [← hlb] at b1 b4 hyl ⊢
  have o0 := MuO.start xs ys
  rw [← hla, ← hlb] at o0
  have oi : ∀ i os, MuO xs ys i os → MuI xs ys i 0 0 os := fun i os h => h.inner
  have ol : ∀ os, MuO xs ys la os → Dg 4294967296 os ∧ val 4294967296 os = m * n := fun os h => ⟨h.dg, by rw [h.last (by omega), ← hxv, ← hyv]⟩
  have le : ∀ i os, MuO xs ys i os → os.length = la + lb := fun i os h => by rw [h.len, hla, hlb]
  have li : ∀ i j c os, MuI xs ys i j c os → os.length = la + lb := fun i j c os h => by rw [h.len, hla, hlb]
  have is : ∀ i j c os s, MuI xs ys i j c os → i < la → j < lb → s = rd os (i + j) + rd xs i * rd ys j + c → MuI xs ys i (j + 1) (s / 4294967296) (os.set (i + j) (s % 4294967296)) := fun i j c os s h h1 h2 h3 => h.step xd yd (by omega) (by omega) h3
  have il : ∀ i c os, MuI xs ys i lb c os → i < la → MuO xs ys (i + 1) (os.set (i + lb) c) := fun i c os h hi => by rw [hlb] at h ⊢; exact h.last (by omega)
  have own0 := own_made w w.heap.size (la + lb) (la + lb) (Nat.le_refl _) (by omega) (by omega)
  have mk := make64 30 (by kernel_rfl) (la + lb) (la + lb) ((la : Int) + (lb : Int)) ((la : Int) + (lb : Int)) (by omega) (by omega) (by omega) (by omega)
  obtain ⟨N, hN⟩ : ∃ N, N = la + lb := ⟨_, rfl⟩
  rw [← hN] at own0 mk le li o0
  have O0 := Lib.hid o0
  have OI := Lib.hid oi
  have OL := Lib.hid ol
  have LE := Lib.hid le
  have LI := Lib.hid li
  have IS := Lib.hid is
  have IL := Lib.hid il
  have OW0 := Lib.hid own0
  have XD := Lib.hid xd
  have YD := Lib.hid yd
  have HN := Lib.hid hN
  have N1 : N ≤ 2000000 := by omega
  clear o0 oi ol le li is il own0 xd yd hla hlb hxv hyv hN
  go_enter Tryz.func22, Tryz.ntmps22
  go_wp2
  clear mk
  go_loopw [6] (fun v6 wr => ∃ (i : Nat) (os : List Int), v6 = .int .i64 i ∧ i ≤ la ∧ MuO xs ys i os ∧ Own wr w.heap.size (.slice (some ⟨w.heap.size, 0, none⟩) N N) os ∧ w.grownBy wr none) (fun v6 _ => la - (intOf v6).toNat)
  case atStart => exact ⟨0, _, rfl, by omega, O0.out, OW0.out, gb_alloc (gb_refl w none) _⟩
  case round =>
    clear O0 OW0
    obtain ⟨i, os, rfl, hi, M0, ow, G⟩ := hrel
    have MM := Lib.hid M0
    have OW := Lib.hid ow
    have GG := Lib.hid G
    clear M0 ow G
    obtain ⟨wo, rfl⟩ : ∃ wo : World, wo = wr := ⟨_, rfl⟩
    by_cases hia : i < la
    · go_wp2
      go_loopw [7, 8] (fun v7 v8 wq => ∃ (j : Nat) (c : Int) (os : List Int), v7 = .int .u64 c ∧ v8 = .int .i64 j ∧ j ≤ lb ∧ MuI xs ys i j c os ∧ Own wq w.heap.size (.slice (some ⟨w.heap.size, 0, none⟩) N N) os ∧ w.grownBy wq none) (fun _ v8 _ => lb - (intOf v8).toNat)
      case atStart => exact ⟨0, 0, os, rfl, rfl, by omega, OI.out _ _ MM.out, OW.out, GG.out⟩
      case round =>
        clear MM OW GG
        obtain ⟨j, c, os, rfl, rfl, hj, M0, ow, G⟩ := hrel
        have c0 := M0.c0
        have c1 := M0.c1
        have hol := LI.out _ _ _ _ M0
        have odg := M0.dg
        have MM := Lib.hid M0
        have OW := Lib.hid ow
        have GG := Lib.hid G
        have HOL := Lib.hid hol
        clear M0 ow hol
        by_cases hjb : j < lb
        · obtain ⟨q, hq⟩ : ∃ q, q = i + j := ⟨_, rfl⟩
          have eij : (i : Int) + (j : Int) = (q : Int) := by omega
          have hqN : q < N := by rw [HN.out]; omega
          obtain ⟨ba, oa, rfl, hca⟩ := a4 (by omega)
          obtain ⟨bb, ob, rfl, hcb⟩ := b4 (by omega)
          have ci1 := gb_cell0 G (hca i hia)
          have ci2 := gb_cell0 G (hcb j hjb)
          have ci3 := OW.out.cell q (by rw [HOL.out]; exact hqN)
          have fi3 := OW.out.free q
          have xx := XD.out.at_ (by decide) i
          have yy := YD.out.at_ (by decide) j
          have oo := odg.at_ (by decide) q
          have st := IS.out i j c os _ MM.out hia hjb rfl
          rw [← hq] at st
          obtain ⟨x, hx⟩ : ∃ x, x = rd xs i := ⟨_, rfl⟩
          obtain ⟨y, hy⟩ : ∃ y, y = rd ys j := ⟨_, rfl⟩
          obtain ⟨o, ho⟩ : ∃ o, o = rd os q := ⟨_, rfl⟩
          rw [← hx] at ci1 xx st
          rw [← hy] at ci2 yy st
          rw [← ho] at ci3 oo st
          obtain ⟨z0, z1, _, z3⟩ := mu_bound xx.1 xx.2 yy.1 yy.2 oo.1 oo.2 c0 c1
          have hw0 : IntKind.u64.wrap (x * y) = x * y := by rw [IntKind.wrap_u64]; omega
          obtain ⟨z, hz⟩ : ∃ z, z = x * y := ⟨_, rfl⟩
          rw [← hz] at z0 z1 z3 st
          have hw : IntKind.u64.wrap (x * y) = z := by rw [hw0, hz]
          have o0 := oo.1
          have ST := Lib.hid st
          have HQ := Lib.hid hq
          clear st hx hy ho hz hw0 xx yy oo hca hcb a4 b4 odg G hq
          go_wp2
          refine Canon.region_canon (by kernel_rfl) (by kernel_rfl) ?_
          go_wp2
          refine ⟨by kernel_rfl, ?_⟩
          go_wp2
          go_roundw
          case rel => exact ⟨j + 1, (o + z + c) / 4294967296, os.set q ((o + z + c) % 4294967296), rfl, by go_num, by omega, ST.out, OW.out.drew.store q (by omega) (by omega), gb_set (gb_drew GG.out) (Nat.le_refl _) _⟩
          case measure => simp [intOf]; omega
        · obtain rfl : j = lb := by omega
          obtain ⟨q, hq⟩ : ∃ q, q = i + j := ⟨_, rfl⟩
          have eij : (i : Int) + (j : Int) = (q : Int) := by omega
          have hqN : q < N := by rw [HN.out]; omega
          have fi3 := OW.out.free q
          have ci3 := OW.out.cell q (by rw [HOL.out]; exact hqN)
          have st := IL.out i c os MM.out hia
          rw [← hq] at st
          have ST := Lib.hid st
          have HQ := Lib.hid hq
          clear st a4 b4 odg G hq
          go_wp2
          go_roundw
          case rel => exact ⟨i + 1, os.set q c, by go_num, by omega, ST.out, OW.out.store q (by omega) (by omega), gb_set GG.out (Nat.le_refl _) _⟩
          case measure => simp [intOf]; omega
    · obtain rfl : i = la := by omega
      have l := OL.out os MM.out
      have L1 := Lib.hid l.1
      have L2 := Lib.hid l.2
      have hol := LE.out _ _ MM.out
      have HOL := Lib.hid hol
      clear l a4 b4 hol
      go_wp2_with fail
      refine (norm_c _ _ _ OW.out.sl).mono ?_
      rintro e w' ⟨x, rfl, hx, rfl⟩
      go_wp2
      go_ret
      exact ⟨x, rfl, hx.dgnm L1.out L2.out (by rw [HOL.out, HN.out]; omega), GG.out⟩
end Go.Proofs.YtldkiddoajlohaaGreatDoor

/- The document's naturals: back into words. -/
namespace Go.Proofs.YtldkiddoajlohaaGreatDoor
open Go.RowKit

def slen : Value → Nat
  | .slice _ n _ => n
  | _ => 0
/-- v is the number n as words, none of nothing on top. -/
def Wd (w : World) (v : Value) (n : Nat) : Prop := ∃ zs, Sl w v zs ∧ Nz zs ∧ val B64 zs = n
theorem Wd.grown0 {w w' : World} {v : Value} {n : Nat} (h : Wd w v n) (g : w.grownBy w' none) : Wd w' v n := by
  obtain ⟨xs, h1, h2⟩ := h; exact ⟨xs, h1.grown0 g, h2⟩
set_option maxRecDepth 100000 in
set_option maxHeartbeats 4000000 in
theorem to_c (w : World) (u : Value) (m L : Nat) (h : Nm w u m L) (hL : L ≤ 4000000) :
    Calls Tryz.prog 33 #[u] w fun e w' => ∃ x, e = .returned x ∧ Wd w' x m ∧ w.grownBy w' none := by
  obtain ⟨xs, ⟨A, ca, rfl, a1, a2, _, a4⟩, xd, _, hxv, hxl⟩ := h
  obtain ⟨la, hla⟩ : ∃ l, l = xs.length := ⟨_, rfl⟩
  rw [← hla] at a1 a4 hxl ⊢
  have st : ∀ k i os z, Pr xs k os → i = 2 * k → z = rd xs i + rd xs (i + 1) * 4294967296 → Pr xs (k + 1) (os ++ [z]) := fun k i os z h hi hz => h.step xd (by rw [← hi]; exact hz)
  have ls : ∀ k os, Pr xs k os → la ≤ 2 * k → val 18446744073709551616 os = m := fun k os h hk => by rw [h.last (by omega), ← hxv]
  have oy : ∀ i, ¬ i < la → rd xs i = 0 := fun i hi => rd_beyond (by omega)
  have ST := Lib.hid st
  have LS := Lib.hid ls
  have OY := Lib.hid oy
  have XD := Lib.hid xd
  clear st ls oy xd hla hxv
  go_enter Tryz.func33, Tryz.ntmps33
  go_wp2
  go_loopw [3, 4] (fun v3 v4 wr => ∃ (k i : Nat) (os : List Int), v4 = .int .i64 i ∧ i ≤ 2 * k ∧ 2 * k ≤ i ∧ i ≤ la + 1 ∧ Pr xs k os ∧ Own wr w.heap.size v3 os ∧ w.grownBy wr none) (fun _ v4 _ => la + 1 - (intOf v4).toNat)
  case atStart => exact ⟨0, 0, [], rfl, by omega, by omega, by omega, Pr.start xs, own_nil _ _, gb_refl _ _⟩
  case round =>
    obtain ⟨k, i, os, rfl, hi1, hi2, hi, P0, ow, G⟩ := hrel
    have hol := P0.len
    have OL := Lib.hid hol
    have PP := Lib.hid P0
    have OW := Lib.hid ow
    have GG := Lib.hid G
    clear P0 hol ow
    by_cases hia : i < la
    · obtain ⟨ba, oa, rfl, hca⟩ := a4 (by omega)
      obtain ⟨q, hq⟩ : ∃ q, q = i + 1 := ⟨_, rfl⟩
      have ei : (i : Int) + 1 = (q : Int) := by omega
      have ei2 : (i : Int) + 2 = (q : Int) + 1 := by omega
      have ci1 := gb_cell0 G (hca i hia)
      have ci2 := fun hqa : q < la => gb_cell0 G (hca q hqa)
      have st := ST.out k i os _ PP.out (by omega) rfl
      have oy := OY.out q
      have xx := XD.out.at_ (by decide) i
      have yy := XD.out.at_ (by decide) q
      rw [← hq] at st
      obtain ⟨x, hx⟩ : ∃ x, x = rd xs i := ⟨_, rfl⟩
      obtain ⟨y, hy⟩ : ∃ y, y = rd xs q := ⟨_, rfl⟩
      rw [← hx] at ci1 xx st
      rw [← hy] at ci2 yy st oy
      have x0 := xx.1
      have x1 : x < 4294967296 := xx.2
      have y0 := yy.1
      have y1 : y < 4294967296 := yy.2
      have S1 := Lib.hid st
      have HQ := Lib.hid hq
      clear xx yy hx hy st hca a4 G
      by_cases hqa : q < la
      · have ci2 := ci2 hqa
        have SP := Lib.hid S1.out
        clear S1 oy
        clear hq
        go_wp2_with (at_builtin; refine own_append 34 (by kernel_rfl) (.tmp 29) (.tmp 31) rfl rfl _ os rfl (Own.alloc OW.out _) _ 1 1 [x + y * 4294967296] rfl rfl (ws_one (by omega) (by omega)) (built1 _ _ _) (by rw [OL.out]; show _ + 1 ≤ _; omega) (gb_alloc GG.out _).size ?_; intro v1 w1 ow1 g1)
        have G1 := Own.gb (Own.alloc OW.out _) (gb_alloc GG.out _) g1
        clear g1
        go_roundw
        case rel => exact ⟨k + 1, i + 2, os ++ [x + y * 4294967296], by have := HQ.out; go_num, by omega, by omega, by omega, SP.out, ow1, G1⟩
        case measure => have := HQ.out; simp [intOf]; omega
      · have hy0 : y = 0 := oy hqa
        clear oy ci2
        subst hy0
        have SP := Lib.hid S1.out
        clear S1 hq
        go_wp2_with (at_builtin; refine own_append 34 (by kernel_rfl) (.tmp 29) (.tmp 31) rfl rfl _ os rfl (Own.alloc OW.out _) _ 1 1 [x] rfl rfl (ws_one (by omega) (by omega)) (built1 _ _ _) (by rw [OL.out]; show _ + 1 ≤ _; omega) (gb_alloc GG.out _).size ?_; intro v1 w1 ow1 g1)
        have G1 := Own.gb (Own.alloc OW.out _) (gb_alloc GG.out _) g1
        clear g1
        go_roundw
        case rel => exact ⟨k + 1, i + 2, os ++ [x], by have := HQ.out; go_num, by omega, by omega, by have := HQ.out; omega, by have := SP.out; rw [Int.zero_mul, Int.add_zero] at this; exact this, ow1, G1⟩
        case measure => have := HQ.out; simp [intOf]; omega
    · have hv := LS.out k os PP.out (by omega)
      have sl := OW.out.sl
      have SL := Lib.hid sl
      obtain ⟨B, c, e, b1, b2, b3, b4⟩ := sl
      have hk1 : os.length = k := OL.out
      rw [hk1] at e b1 b4
      subst e
      have hr0 : ∀ j, k ≤ j → rd os j = 0 := fun j hj => rd_beyond (by omega)
      have hk2 : k ≤ 4000000 := by omega
      have HR := Lib.hid hr0
      have HV := Lib.hid hv
      have HK := Lib.hid hk1
      clear hr0 hv hk1 OW a4 b3 OL G
      obtain ⟨wo, rfl⟩ : ∃ wo : World, wo = wr := ⟨_, rfl⟩
      go_wp2
      go_loopw [3] (fun v3 wq => ∃ j : Nat, v3 = .slice B j c ∧ j ≤ k ∧ (∀ t, j ≤ t → rd os t = 0) ∧ wq = wo) (fun v3 _ => slen v3)
      case atStart => exact ⟨k, rfl, Nat.le_refl _, HR.out, rfl⟩
      case round =>
        clear HR
        obtain ⟨j, rfl, hj, hz, rfl⟩ := hrel
        have HZ := Lib.hid hz
        clear hz
        by_cases hj0 : j = 0
        · subst hj0
          have ht := take_trimZ (xs := os) (k := 0) (by omega) HZ.out (Or.inl rfl)
          have hs := SL.out.take 0 (by omega)
          rw [ht] at hs
          have HS := Lib.hid hs
          clear hs ht b4 SL
          go_wp2
          go_ret
          exact ⟨_, rfl, ⟨_, HS.out, nz_trimZ _, by rw [val_trimZ]; exact HV.out⟩, GG.out⟩
        · obtain ⟨i', rfl⟩ : ∃ i, j = i + 1 := ⟨j - 1, by omega⟩
          obtain ⟨b, o, rfl, hc⟩ := b4 (by omega)
          have hci := hc i' (by omega)
          have ej : ((i' + 1 : Nat) : Int) - 1 = (i' : Int) := by omega
          clear hc
          by_cases hx : rd os i' = 0
          · rw [hx] at hci
            go_wp2
            go_roundw
            case rel => exact ⟨i', by simp, by omega, fun t ht => by
              by_cases e : t = i'
              · rw [e]; exact hx
              · exact HZ.out t (by omega), by trivial⟩
            case measure => simp [slen]
          · have ht := take_trimZ (xs := os) (k := i' + 1) (by have := HK.out; omega) HZ.out (Or.inr hx)
            have hs := SL.out.take (i' + 1) (by omega)
            rw [ht] at hs
            have HS := Lib.hid hs
            obtain ⟨z, hz⟩ : ∃ z, z = rd os i' := ⟨_, rfl⟩
            rw [← hz] at hci hx
            clear hs ht SL hz
            go_wp2
            go_ret
            exact ⟨_, rfl, ⟨_, HS.out, nz_trimZ _, by rw [val_trimZ]; exact HV.out⟩, GG.out⟩
set_option maxRecDepth 100000 in
theorem same2_c (w : World) (u v : Value) (m L : Nat) (h : Nm w u m L) (k : Wd w v m) (hL : L ≤ 4000000) :
    Calls Tryz.prog 13 #[u, v] w fun e w' => e = .returned (.bool true) ∧ w.grownBy w' none := by
  obtain ⟨ys, hys, yz, yv⟩ := k
  have HY := Lib.hid hys
  obtain ⟨B, d, rfl, k1, k2, k3, k4⟩ := hys
  obtain ⟨n, hn⟩ : ∃ n, n = ys.length := ⟨_, rfl⟩
  rw [← hn] at k1 k4 ⊢
  have HN := Lib.hid hn
  clear hn
  go_enter Tryz.func13, Tryz.ntmps13
  go_wp2_with fail
  refine (to_c _ _ _ _ h hL).mono ?_
  rintro e w1 ⟨x, rfl, ⟨zs, hzs, zz, zv⟩, G⟩
  have e : zs = ys := dg_ext (B := B64) (by decide) hzs.ws.dg HY.out.ws.dg zz yz (by rw [zv, yv])
  subst e
  clear yv yz zv HY k3 zz h
  obtain ⟨C, c, rfl, j1, j2, j3, j4⟩ := hzs
  have XD := Lib.hid j3
  rw [← HN.out] at j1 j4 ⊢
  clear j3
  go_wp2
  go_loopw [6] (fun v6 wr => ∃ i : Nat, v6 = .int .i64 i ∧ i ≤ n ∧ w1.grownBy wr none) (fun v6 _ => n - (intOf v6).toNat)
  case atStart => exact ⟨0, rfl, by omega, gb_refl _ _⟩
  case round =>
    obtain ⟨i, rfl, hi, G1⟩ := hrel
    by_cases hin : i < n
    · obtain ⟨ba, oa, rfl, hca⟩ := k4 (by omega)
      obtain ⟨bb, ob, rfl, hcb⟩ := j4 (by omega)
      have ci1 := gb_cell0 (gb_trans G G1) (hca i hin)
      have ci2 := gb_cell0 G1 (hcb i hin)
      have G2 := Lib.hid G1
      obtain ⟨x, hx⟩ : ∃ x, x = rd zs i := ⟨_, rfl⟩
      rw [← hx] at ci1 ci2
      clear hca hcb hx G1
      go_wp2
      refine Canon.region_canon (by kernel_rfl) (by kernel_rfl) ?_
      go_wp2
      refine ⟨by kernel_rfl, ?_⟩
      go_wp2
      go_roundw
      case rel => exact ⟨i + 1, by go_num, by omega, gb_drew G2.out⟩
      case measure => simp [intOf]; omega
    · go_wp2
      go_ret
      exact ⟨rfl, gb_trans G G1⟩
end Go.Proofs.YtldkiddoajlohaaGreatDoor

/- The document's naturals: quotient and remainder. -/
namespace Go.Proofs.YtldkiddoajlohaaGreatDoor
open Go.RowKit

/-- The quotient's digits: what a bit does. -/
theorem q_low {qs : List Int} (hd : Dg 4294967296 qs) {a t Q : Nat} (ha : a < qs.length) (ht : t < 32) (hv : val 4294967296 qs = Q * 2 ^ (32 * a + t + 1)) :
    (rd qs a).toNat % 2 ^ (t + 1) = 0 := by
  have h1 := val_lt (hd.take a)
  rw [List.length_take, Nat.min_eq_left (by omega)] at h1
  have hB : (4294967296 : Nat) ^ a = 2 ^ (32 * a) := by rw [show (4294967296 : Nat) = 2 ^ 32 from rfl, ← Nat.pow_mul]
  rw [val_take_drop 4294967296 qs a (by omega), val_drop 4294967296 ha, hB, Nat.add_assoc, Nat.pow_add] at hv
  rw [hB] at h1
  have h2 : (val 4294967296 (qs.take a) + 2 ^ (32 * a) * ((rd qs a).toNat + 4294967296 * val 4294967296 (qs.drop (a + 1)))) / 2 ^ (32 * a) = Q * 2 ^ (t + 1) := by
    rw [hv, Nat.mul_left_comm]
    exact Nat.mul_div_cancel_left _ (Nat.pow_pos (by decide))
  rw [Nat.add_mul_div_left _ _ (Nat.pow_pos (by decide)), Nat.div_eq_of_lt h1, Nat.zero_add] at h2
  obtain ⟨s, hs⟩ : ∃ s, 32 = (t + 1) + s := ⟨31 - t, by omega⟩
  have e : (4294967296 : Nat) = 2 ^ (t + 1) * 2 ^ s := by rw [← Nat.pow_add, ← hs]
  rw [e, Nat.mul_assoc] at h2
  have h3 : ((rd qs a).toNat + 2 ^ (t + 1) * (2 ^ s * val (2 ^ (t + 1) * 2 ^ s) (qs.drop (a + 1)))) % 2 ^ (t + 1) = 0 := by rw [h2, Nat.mul_mod_left]
  rwa [Nat.add_mul_mod_self_left] at h3
theorem or_low {x t : Nat} (h : x % 2 ^ (t + 1) = 0) : x ||| 2 ^ t = x + 2 ^ t := by
  obtain ⟨y, hy⟩ : ∃ y, x = 2 ^ (t + 1) * y := ⟨x / 2 ^ (t + 1), by have := Nat.div_add_mod x (2 ^ (t + 1)); omega⟩
  rw [hy]
  exact (Nat.two_pow_add_eq_or_of_lt (by rw [Nat.pow_succ]; have := Nat.pow_pos (a := 2) (n := t) (by decide); omega) y).symm
theorem add_low {x t : Nat} (h : x % 2 ^ (t + 1) = 0) (hx : x < 4294967296) (ht : t < 32) : x + 2 ^ t < 4294967296 := by
  obtain ⟨s, hs⟩ : ∃ s, 32 = (t + 1) + s := ⟨31 - t, by omega⟩
  have e : (4294967296 : Nat) = 2 ^ (t + 1) * 2 ^ s := by rw [← Nat.pow_add, ← hs]
  obtain ⟨y, hy⟩ : ∃ y, x = 2 ^ (t + 1) * y := ⟨x / 2 ^ (t + 1), by have := Nat.div_add_mod x (2 ^ (t + 1)); omega⟩
  rw [hy, e] at hx
  have h1 : y < 2 ^ s := Nat.lt_of_mul_lt_mul_left hx
  have h2 : 2 ^ (t + 1) * (y + 1) ≤ 2 ^ (t + 1) * 2 ^ s := Nat.mul_le_mul_left _ h1
  rw [← e, Nat.mul_add, ← hy] at h2
  have h3 : 2 ^ t < 2 ^ (t + 1) := by rw [Nat.pow_succ]; have := Nat.pow_pos (a := 2) (n := t) (by decide); omega
  omega
theorem q_set {qs : List Int} (hd : Dg 4294967296 qs) {a t Q : Nat} (ha : a < qs.length) (hv : val 4294967296 qs = Q * 2 ^ (32 * a + t + 1)) :
    val 4294967296 (qs.set a (rd qs a + 2 ^ t)) = (2 * Q + 1) * 2 ^ (32 * a + t) := by
  have h := val_set 4294967296 ha (rd qs a + 2 ^ t)
  have hB : (4294967296 : Nat) ^ a = 2 ^ (32 * a) := by rw [show (4294967296 : Nat) = 2 ^ 32 from rfl, ← Nat.pow_mul]
  have x0 := (hd.at_ (by decide) a).1
  have e : (rd qs a + 2 ^ t).toNat = (rd qs a).toNat + 2 ^ t := by
    obtain ⟨x, hx⟩ := nat_of x0
    rw [hx, show ((x : Int) + 2 ^ t) = ((x + 2 ^ t : Nat) : Int) by rw [Int.natCast_add, Int.natCast_pow]; rfl, Int.toNat_natCast, Int.toNat_natCast]
  rw [e, hv, hB, Nat.mul_add] at h
  rw [Nat.pow_succ] at h
  have k : (2 * Q + 1) * 2 ^ (32 * a + t) = Q * (2 ^ (32 * a + t) * 2) + 2 ^ (32 * a) * 2 ^ t := by rw [← Nat.pow_add]; grind
  omega
end Go.Proofs.YtldkiddoajlohaaGreatDoor

/- The document's naturals: sums and shifts. -/
namespace Go.Proofs.YtldkiddoajlohaaGreatDoor
open Go.RowKit

/-- Adding, k digits done, c carried. -/
structure Ad (xs ys : List Int) (k : Nat) (c : Int) (os : List Int) : Prop where
  c0 : 0 ≤ c
  c1 : c ≤ 1
  len : os.length = k
  dg : Dg 4294967296 os
  v : val 4294967296 os + 4294967296 ^ k * c.toNat = val 4294967296 (xs.take k) + val 4294967296 (ys.take k)
theorem Ad.start (xs ys : List Int) : Ad xs ys 0 0 [] := ⟨by decide, by decide, rfl, Dg.nil _, by simp [val]⟩
theorem ad_arith {V P q t e x y X Y : Nat} (hv : V + P * e = X + Y) (k : q + 4294967296 * t = e + x + y) : V + P * q + P * 4294967296 * t = (X + P * x) + (Y + P * y) := by
  have h := congrArg (P * ·) k
  simp only [Nat.mul_add] at h
  rw [Nat.mul_assoc P 4294967296 t]
  omega
theorem Ad.step {xs ys os : List Int} {k : Nat} {c s : Int} (h : Ad xs ys k c os) (hx : Dg 4294967296 xs) (hy : Dg 4294967296 ys) (hs : s = c + rd xs k + rd ys k) : Ad xs ys (k + 1) (s / 4294967296) (os ++ [s % 4294967296]) := by
  have x0 := hx.at_ (by decide) k
  have y0 := hy.at_ (by decide) k
  have x1 : rd xs k < 4294967296 := x0.2
  have y1 : rd ys k < 4294967296 := y0.2
  have c0 := h.c0
  have c1 := h.c1
  refine ⟨by omega, by omega, by rw [List.length_append, h.len]; rfl, h.dg.append (Dg.cons (by omega) (by show _ < ((4294967296 : Nat) : Int); omega) (Dg.nil _)), ?_⟩
  rw [val_append, val_one, h.len, val_take_any, val_take_any, Nat.pow_succ]
  exact ad_arith h.v (by omega)
theorem Ad.last {xs ys os : List Int} {k : Nat} (h : Ad xs ys k 0 os) (hx : xs.length ≤ k) (hy : ys.length ≤ k) : val 4294967296 os = val 4294967296 xs + val 4294967296 ys := by
  have := h.v
  rw [List.take_of_length_le hx, List.take_of_length_le hy] at this
  simpa using this
set_option maxRecDepth 100000 in
set_option maxHeartbeats 4000000 in
theorem add_c (w : World) (u v : Value) (m n L L' : Nat) (h : Nm w u m L) (k : Nm w v n L') (hL : L ≤ 1000000) (hL' : L' ≤ 1000000) :
    Calls Tryz.prog 34 #[u, v] w fun e w' => ∃ x, e = .returned x ∧ Nm w' x (m + n) (max L L' + 1) ∧ w.grownBy w' none := by
  obtain ⟨xs, ⟨A, ca, rfl, a1, a2, _, a4⟩, xd, _, hxv, hxl⟩ := h
  obtain ⟨ys, ⟨B, cb, rfl, b1, b2, _, b4⟩, yd, _, hyv, hyl⟩ := k
  obtain ⟨la, hla⟩ : ∃ l, l = xs.length := ⟨_, rfl⟩
  obtain ⟨lb, hlb⟩ : ∃ l, l = ys.length := ⟨_, rfl⟩
  rw [← hla] at a1 a4 hxl ⊢
  rw [← hlb] at b1 b4 hyl ⊢
  obtain ⟨M, hM⟩ : ∃ M, M = max la lb := ⟨_, rfl⟩
  have M1 : la ≤ M := by omega
  have M2 : lb ≤ M := by omega
  have M3 : M ≤ max L L' := by omega
  have M4 : M ≤ 1000000 := by omega
  have st : ∀ k c os s, Ad xs ys k c os → s = c + rd xs k + rd ys k → Ad xs ys (k + 1) (s / 4294967296) (os ++ [s % 4294967296]) := fun k c os s h hs => h.step xd yd hs
  have ls : ∀ k os, Ad xs ys k 0 os → la ≤ k → lb ≤ k → val 4294967296 os = m + n := fun k os h h1 h2 => by
    rw [h.last (by omega) (by omega), ← hxv, ← hyv]
  have ox : ∀ k, ¬ k < la → rd xs k = 0 := fun k hk => rd_beyond (by omega)
  have oy : ∀ k, ¬ k < lb → rd ys k = 0 := fun k hk => rd_beyond (by omega)
  have own0 := own_made w w.heap.size 0 (M + 1) (Nat.le_refl _) (by omega) (by omega)
  have ST := Lib.hid st
  have LS := Lib.hid ls
  have OX := Lib.hid ox
  have OY := Lib.hid oy
  have XD := Lib.hid xd
  have YD := Lib.hid yd
  have O0 := Lib.hid own0
  have HM := Lib.hid hM
  clear st ls ox oy xd yd hla hlb hM hxv hyv own0
  go_enter Tryz.func34, Tryz.ntmps34
  go_upto_region 1 with fail
  go_cut [5] from 8 to 14 (fun v5 wc => v5 = .slice (some ⟨w.heap.size, 0, none⟩) 0 (M + 1) ∧ wc = w.alloc (.cells (madeCells #[.int .u64 0] (M + 1)) 79))
  case first =>
    rcases Nat.lt_trichotomy la lb with hlt | heq | hgt
    · have e := HM.out
      rw [Nat.max_eq_right (by omega)] at e
      subst e
      have mk := make64 30 (by kernel_rfl) 0 (M + 1) 0 ((M : Int) + 1) rfl (by omega) (by omega) (by omega)
      go_wp2_with fail
      all_goals (go_meet; exact ⟨rfl, rfl⟩)
    · have e := HM.out
      subst heq
      rw [Nat.max_self] at e
      subst e
      have mk := make64 30 (by kernel_rfl) 0 (M + 1) 0 ((M : Int) + 1) rfl (by omega) (by omega) (by omega)
      go_wp2_with fail
      all_goals (go_meet; exact ⟨rfl, rfl⟩)
    · have e := HM.out
      rw [Nat.max_eq_left (by omega)] at e
      subst e
      have mk := make64 30 (by kernel_rfl) 0 (M + 1) 0 ((M : Int) + 1) rfl (by omega) (by omega) (by omega)
      go_wp2_with fail
      all_goals (go_meet; exact ⟨rfl, rfl⟩)
  case rest =>
    obtain ⟨rfl, rfl⟩ := hcut
    go_wp2
    go_loopw [5, 6, 7] (fun v5 v6 v7 wr => ∃ (k : Nat) (c : Int) (os : List Int), v6 = .int .u64 c ∧ v7 = .int .i64 k ∧ k ≤ M + 1 ∧ (M < k → c ≤ 0) ∧ Ad xs ys k c os ∧ Own wr w.heap.size v5 os ∧ w.grownBy wr none) (fun _ _ v7 _ => M + 1 - (intOf v7).toNat)
    case atStart => exact ⟨0, 0, [], rfl, rfl, by omega, by omega, Ad.start xs ys, O0.out, gb_alloc (gb_refl w none) _⟩
    case round =>
      clear O0
      obtain ⟨k, c, os, rfl, rfl, hk, hkc, AA0, ow, G⟩ := hrel
      have c0 := AA0.c0
      have c1 := AA0.c1
      have hol := AA0.len
      have OL := Lib.hid hol
      have AA := Lib.hid AA0
      have OW := Lib.hid ow
      have GG := Lib.hid G
      clear AA0 hol ow
      by_cases hka : k < la
      · by_cases hkb : k < lb
        · obtain ⟨b1, o1, rfl, hc1⟩ := a4 (by omega)
          have ci1 := gb_cell0 G (hc1 k hka)
          have xx := XD.out.at_ (by decide) k
          obtain ⟨x, hx⟩ : ∃ x, x = rd xs k := ⟨_, rfl⟩
          rw [← hx] at ci1 xx
          have x0 := xx.1
          have x1 : x < 4294967296 := xx.2
          have HX := Lib.hid hx
          clear hx xx hc1
          obtain ⟨b2, o2, rfl, hc2⟩ := b4 (by omega)
          have ci2 := gb_cell0 G (hc2 k hkb)
          have yy := YD.out.at_ (by decide) k
          obtain ⟨y, hy⟩ : ∃ y, y = rd ys k := ⟨_, rfl⟩
          rw [← hy] at ci2 yy
          have y0 := yy.1
          have y1 : y < 4294967296 := yy.2
          have HY := Lib.hid hy
          clear hy yy hc2
          have stp := ST.out k c os (c + x + y) AA.out (by rw [← HX.out, ← HY.out])
          have SP := Lib.hid stp
          clear stp
          go_wp2_with (at_builtin; refine own_append 30 (by kernel_rfl) (.tmp 51) (.tmp 54) rfl rfl _ os rfl (Own.alloc OW.out _) _ 1 1 [(c + x + y) % 4294967296] rfl rfl (ws_one (by omega) (by omega)) (built1 _ _ _) (by rw [OL.out]; show _ + 1 ≤ _; omega) (gb_alloc GG.out _).size ?_; intro v1 w1 ow1 g1)
          have G1 := Own.gb (Own.alloc OW.out _) (gb_alloc GG.out _) g1
          clear g1
          go_roundw
          case rel => exact ⟨k + 1, (c + x + y) / 4294967296, os ++ [(c + x + y) % 4294967296], rfl, by go_num, by omega, by omega, SP.out, ow1, G1⟩
          case measure => simp [intOf]; omega
        · obtain ⟨b1, o1, rfl, hc1⟩ := a4 (by omega)
          have ci1 := gb_cell0 G (hc1 k hka)
          have xx := XD.out.at_ (by decide) k
          obtain ⟨x, hx⟩ : ∃ x, x = rd xs k := ⟨_, rfl⟩
          rw [← hx] at ci1 xx
          have x0 := xx.1
          have x1 : x < 4294967296 := xx.2
          have HX := Lib.hid hx
          clear hx xx hc1
          have stp := ST.out k c os (c + x) AA.out (by rw [← HX.out, OY.out k hkb]; omega)
          have SP := Lib.hid stp
          clear stp
          go_wp2_with (at_builtin; refine own_append 30 (by kernel_rfl) (.tmp 51) (.tmp 54) rfl rfl _ os rfl (Own.alloc OW.out _) _ 1 1 [(c + x) % 4294967296] rfl rfl (ws_one (by omega) (by omega)) (built1 _ _ _) (by rw [OL.out]; show _ + 1 ≤ _; omega) (gb_alloc GG.out _).size ?_; intro v1 w1 ow1 g1)
          have G1 := Own.gb (Own.alloc OW.out _) (gb_alloc GG.out _) g1
          clear g1
          go_roundw
          case rel => exact ⟨k + 1, (c + x) / 4294967296, os ++ [(c + x) % 4294967296], rfl, by go_num, by omega, by omega, SP.out, ow1, G1⟩
          case measure => simp [intOf]; omega
      · by_cases hkb : k < lb
        · obtain ⟨b2, o2, rfl, hc2⟩ := b4 (by omega)
          have ci2 := gb_cell0 G (hc2 k hkb)
          have yy := YD.out.at_ (by decide) k
          obtain ⟨y, hy⟩ : ∃ y, y = rd ys k := ⟨_, rfl⟩
          rw [← hy] at ci2 yy
          have y0 := yy.1
          have y1 : y < 4294967296 := yy.2
          have HY := Lib.hid hy
          clear hy yy hc2
          have stp := ST.out k c os (c + y) AA.out (by rw [OX.out k hka, ← HY.out]; omega)
          have SP := Lib.hid stp
          clear stp
          go_wp2_with (at_builtin; refine own_append 30 (by kernel_rfl) (.tmp 51) (.tmp 54) rfl rfl _ os rfl (Own.alloc OW.out _) _ 1 1 [(c + y) % 4294967296] rfl rfl (ws_one (by omega) (by omega)) (built1 _ _ _) (by rw [OL.out]; show _ + 1 ≤ _; omega) (gb_alloc GG.out _).size ?_; intro v1 w1 ow1 g1)
          have G1 := Own.gb (Own.alloc OW.out _) (gb_alloc GG.out _) g1
          clear g1
          go_roundw
          case rel => exact ⟨k + 1, (c + y) / 4294967296, os ++ [(c + y) % 4294967296], rfl, by go_num, by omega, by omega, SP.out, ow1, G1⟩
          case measure => simp [intOf]; omega
        · by_cases hc : 0 < c
          · have stp := ST.out k c os (c) AA.out (by rw [OX.out k hka, OY.out k hkb]; omega)
            have SP := Lib.hid stp
            clear stp
            go_wp2_with (at_builtin; refine own_append 30 (by kernel_rfl) (.tmp 51) (.tmp 54) rfl rfl _ os rfl (Own.alloc OW.out _) _ 1 1 [(c) % 4294967296] rfl rfl (ws_one (by omega) (by omega)) (built1 _ _ _) (by rw [OL.out]; show _ + 1 ≤ _; omega) (gb_alloc GG.out _).size ?_; intro v1 w1 ow1 g1)
            have G1 := Own.gb (Own.alloc OW.out _) (gb_alloc GG.out _) g1
            clear g1
            go_roundw
            case rel => exact ⟨k + 1, (c) / 4294967296, os ++ [(c) % 4294967296], rfl, by go_num, by omega, by omega, SP.out, ow1, G1⟩
            case measure => simp [intOf]; omega
          · obtain rfl : c = 0 := by omega
            have e := LS.out k os AA.out (by omega) (by omega)
            have E := Lib.hid e
            have DG := Lib.hid AA.out.dg
            clear e
            go_wp2_with fail
            refine (norm_c _ _ _ OW.out.sl).mono ?_
            rintro e w' ⟨x, rfl, hx, rfl⟩
            go_wp2
            go_ret
            exact ⟨x, rfl, hx.dgnm DG.out E.out (by rw [OL.out]; omega), G⟩
end Go.Proofs.YtldkiddoajlohaaGreatDoor

/- The document's naturals: shifts. -/
namespace Go.Proofs.YtldkiddoajlohaaGreatDoor
open Go.RowKit

/-- Shifting, k digits done, c carried. -/
structure Sh (xs : List Int) (t k : Nat) (c : Int) (os : List Int) : Prop where
  c0 : 0 ≤ c
  c1 : c < 2 ^ t
  len : os.length = k
  dg : Dg 4294967296 os
  v : val 4294967296 os + 4294967296 ^ k * c.toNat = val 4294967296 (xs.take k) * 2 ^ t
theorem Sh.start (xs : List Int) (t : Nat) : Sh xs t 0 0 [] := ⟨by decide, Int.pow_pos (by decide), rfl, Dg.nil _, by simp [val]⟩
theorem pow_le31 {t : Nat} (ht : t < 32) : (2 : Int) ^ t ≤ 2147483648 := by
  have h : (2 : Nat) ^ t ≤ 2 ^ 31 := Nat.pow_le_pow_right (by decide) (by omega)
  have e : ((2 : Int) ^ t) = ((2 ^ t : Nat) : Int) := by rw [Int.natCast_pow]; rfl
  rw [e]
  have : (2 : Nat) ^ 31 = 2147483648 := by decide
  omega
theorem sh_arith {V P q u e X x T : Nat} (hv : V + P * e = X * T) (k : q + 4294967296 * u = e + x * T) : V + P * q + P * 4294967296 * u = (X + P * x) * T := by
  have h := congrArg (P * ·) k
  simp only [Nat.mul_add] at h
  rw [Nat.mul_assoc P 4294967296 u, Nat.add_mul, Nat.mul_assoc P x T]
  omega
theorem Sh.step {xs os : List Int} {t k : Nat} {c s : Int} (h : Sh xs t k c os) (hx : Dg 4294967296 xs) (_ht : t < 32) (hs : s = c + rd xs k * 2 ^ t) : Sh xs t (k + 1) (s / 4294967296) (os ++ [s % 4294967296]) := by
  have x0 := hx.at_ (by decide) k
  have x1 : rd xs k < 4294967296 := x0.2
  have c0 := h.c0
  have c1 := h.c1
  have tp : (0 : Int) < 2 ^ t := Int.pow_pos (by decide)
  have m0 : 0 ≤ rd xs k * 2 ^ t := Int.mul_nonneg x0.1 (by omega)
  have m1 : rd xs k * 2 ^ t ≤ 4294967295 * 2 ^ t := Int.mul_le_mul_of_nonneg_right (by omega) (by omega)
  refine ⟨by omega, by omega, by rw [List.length_append, h.len]; rfl, h.dg.append (Dg.cons (by omega) (by show _ < ((4294967296 : Nat) : Int); omega) (Dg.nil _)), ?_⟩
  rw [val_append, val_one, h.len, val_take_any, Nat.pow_succ]
  refine sh_arith h.v ?_
  obtain ⟨x, hx⟩ := nat_of x0.1
  have e : (rd xs k * 2 ^ t) = (((rd xs k).toNat * 2 ^ t : Nat) : Int) := by
    rw [hx, Int.toNat_natCast, Int.natCast_mul, Int.natCast_pow]; rfl
  omega
theorem Sh.last {xs os : List Int} {t k : Nat} {c : Int} (h : Sh xs t k c os) (hk : xs.length ≤ k) (ht : t < 32) (q : Nat) :
    Dg 4294967296 (List.replicate q 0 ++ os ++ [c]) ∧ val 4294967296 (List.replicate q 0 ++ os ++ [c]) = val 4294967296 xs * 2 ^ (32 * q + t) := by
  have p31 := pow_le31 ht
  have c1 := h.c1
  refine ⟨((Dg.replicate (by decide) q).append h.dg).append (Dg.cons h.c0 (by show _ < ((4294967296 : Nat) : Int); omega) (Dg.nil _)), ?_⟩
  have hv := h.v
  rw [List.take_of_length_le hk] at hv
  have hB : (4294967296 : Nat) ^ q = 2 ^ (32 * q) := by rw [show (4294967296 : Nat) = 2 ^ 32 from rfl, ← Nat.pow_mul]
  rw [List.append_assoc, val_append, val_replicate, val_append, val_one, h.len, hv, List.length_replicate, hB, Nat.zero_add, Nat.pow_add, Nat.mul_left_comm]
end Go.Proofs.YtldkiddoajlohaaGreatDoor

/- Chapter 9: carried sums. -/
namespace Go.Proofs.YtldkiddoajlohaaGreatDoor
open Go.RowKit

theorem sl_lit (w : World) (t : TypeId) (cs : Array Value) (xs : List Int) (n : Nat) (hc : cs.toList = nums xs) (hw : Ws xs) (hl : xs.length = n) (hn : n ≤ 1000000) :
    Sl (w.alloc (.cells cs t)) (.slice (some ⟨w.heap.size, 0, none⟩) n n) xs := by
  subst hl
  refine ⟨_, xs.length, rfl, Nat.le_refl _, by omega, hw, fun _ => ⟨_, 0, rfl, fun j hj => ?_⟩⟩
  rw [Nat.zero_add]
  exact (cs_new w cs t).cell j (by rw [hc]; exact nums_get hj)
theorem ws_three {a b c : Int} (ha : 0 ≤ a ∧ a < 18446744073709551616) (hb : 0 ≤ b ∧ b < 18446744073709551616) (hc : 0 ≤ c ∧ c < 18446744073709551616) : Ws [a, b, c] := fun x hx => by
  simp at hx; rcases hx with rfl | rfl | rfl <;> assumption
theorem cells3_lit (w : World) (t : TypeId) (cs : Array Value) (xs : List Int) (n : Nat) (hc : cs.toList = nums xs) (hl : xs.length = n * 3) (hn : n ≤ 1000000) :
    Cells (w.alloc (.cells cs t)) (.slice (some ⟨w.heap.size, 0, none⟩) n n) n 3 (fun j => .int .u64 (rd xs j)) :=
  ⟨_, n, rfl, Nat.le_refl _, by omega, fun _ => ⟨_, 0, rfl, fun j hj => by
    rw [Nat.zero_add]
    exact (cs_new w cs t).cell j (by rw [hc]; exact nums_get (by omega))⟩⟩
/-- A row of threes of the call's own. -/
def Own3 (w : World) (base : Nat) (v : Value) (n : Nat) (xs : List Int) : Prop := w.ownsRow base 125 3 v n (nums xs) ∧ Ws xs ∧ xs.length = n * 3
theorem own3_nil (w : World) (base : Nat) : Own3 w base (.slice none 0 0) 0 [] := ⟨⟨by simp [nums], .inl ⟨rfl, rfl⟩⟩, ws_nil, rfl⟩
theorem Own3.grown0 {w w' : World} {base n : Nat} {v : Value} {xs : List Int} (h : Own3 w base v n xs) (hg : w.grownBy w' none) : Own3 w' base v n xs :=
  ⟨h.1.kept hg (by cases v.ownBlock <;> simp), h.2⟩
theorem Own3.gb {w w0 w' : World} {n : Nat} {v : Value} {xs : List Int} (h : Own3 w w0.heap.size v n xs) (g : w0.grownBy w none) (k : w.grownBy w' v.ownBlock) : w0.grownBy w' none :=
  gb_new g k (fun i hi => (h.1.lt i hi).1)
theorem Own3.cells {w : World} {base n : Nat} {v : Value} {xs : List Int} (h : Own3 w base v n xs) : Cells w v n 3 (fun j => .int .u64 (rd xs j)) := by
  rcases h.1.2 with ⟨rfl, rfl⟩ | ⟨g, cap, cur, rfl, hg, hh, h1, h2, _⟩
  · exact cells_none _ _ _
  · refine ⟨_, cap, rfl, h1, by simpa [maxLen] using h2, fun _ => ⟨g, 0, rfl, fun j hj => ?_⟩⟩
    rw [Nat.zero_add]
    have := World.ownsRow.cellAt h.1 j hj
    rw [this, nums_get (by rw [h.2.2]; exact hj)]
theorem info_three : (Tryz.prog.info? 125).map (fun i => (i.zero, i.size, i.bytes)) = some (some (.agg #[.int .u64 0, .int .u64 0, .int .u64 0]), 3, 24) := by kernel_rfl
theorem own3_append {w : World} {base : Nat} {ops : Array Oper} {rest : List Oper} {o : Oper} {a : Act} {Q : Exit → Act → World → Prop} (t : TypeId) (ht : Tryz.prog.underlying t = some (.slice 125))
    (s x : Operand) (hgd : o.guard = none) (ho : o.op = .call { callee := .builtin .append, args := #[s, x], argTypes := #[t, t] })
    (v : Value) (n : Nat) (xs : List Int) (hs : a.eval s = v) (hown : Own3 w base v n xs)
    (ad : Addr) (m c : Nat) (ys : List Int) (hx : a.eval x = .slice (some ad) m c) (hl : ys.length = m * 3) (hy : Ws ys)
    (hc : ∀ j, j < ys.length → w.cell? (ad.add j) = some (.int .u64 (rd ys j))) (hb : n + m ≤ 100000000000) (hbase : base ≤ w.heap.size)
    (h : ∀ v' w', Own3 w' base v' (n + m) (xs ++ ys) → w.grownBy w' v.ownBlock → wpList Tryz.prog ops Q rest (a.put o.dst v') w') : wpList Tryz.prog ops Q (o :: rest) a w := by
  obtain ⟨i, hi, he⟩ := Option.map_eq_some_iff.1 info_three
  simp only [Prod.mk.injEq] at he
  refine wpList_append_own w hgd s x t ho base 125 i (.agg #[.int .u64 0, .int .u64 0, .int .u64 0]) 3 24 ht hi he.1 he.2.1 he.2.2 rfl (by decide) v n (nums xs) hs hown.1 ad m c (nums ys) hx (by rw [nums_length, hl]) (fun j u hu => ?_) (fun u hu => ?_) (by unfold maxLen; omega) (by omega) hbase ?_
  · have hj : j < ys.length := by
      have := (List.getElem?_eq_some_iff.1 hu).1
      rwa [nums_length] at this
    rw [nums_get hj] at hu
    rw [hc j hj]; exact hu
  · unfold nums at hu
    obtain ⟨z, _, rfl⟩ := List.mem_map.1 hu
    rfl
  · intro v' w' h2 h3 _
    refine h v' w' ⟨?_, ws_append hown.2.1 hy, by rw [List.length_append, hown.2.2, hl, Nat.add_mul]⟩ h3
    rw [nums_append]
    exact h2
theorem sl_three2 (w : World) (o : Obj) (t : TypeId) {a b c : Int} (hw : Ws [a, b, c]) :
    Sl ((w.alloc o).alloc (.cells #[.int .u64 a, .int .u64 b, .int .u64 c] t)) (.slice (some ⟨w.heap.size + 1, 0, none⟩) 3 3) [a, b, c] := by
  have h := sl_lit (w.alloc o) t #[.int .u64 a, .int .u64 b, .int .u64 c] [a, b, c] 3 rfl hw rfl (by decide)
  have e : (w.alloc o).heap.size = w.heap.size + 1 := by simp
  rw [e] at h
  exact h
end Go.Proofs.YtldkiddoajlohaaGreatDoor

/- Transforms: the powers. -/
namespace Go.Proofs.YtldkiddoajlohaaGreatDoor
open Go.RowKit

structure PwI (p r : Int) (n i : Nat) (ls ss : List Int) : Prop where
  l1 : ls.length = n
  l2 : ss.length = n
  v1 : ∀ k, k < i → rd ls k = r ^ k % p
  v2 : ∀ k, k < i → rd ss k = r ^ k % p * 18446744073709551616 / p
theorem PwI.step {p r : Int} {n i : Nat} {ls ss : List Int} (h : PwI p r n i ls ss) (hi : i < n) {x y : Int} (hx : x = r ^ i % p) (hy : y = r ^ i % p * 18446744073709551616 / p) : PwI p r n (i + 1) (ls.set i x) (ss.set i y) := by
  refine ⟨by rw [List.length_set, h.l1], by rw [List.length_set, h.l2], fun k hk => ?_, fun k hk => ?_⟩
  · by_cases e : i = k
    · subst e; rw [rd_set_self (by rw [h.l1]; exact hi), hx]
    · rw [rd_set_ne e]; exact h.v1 k (by omega)
  · by_cases e : i = k
    · subst e; rw [rd_set_self (by rw [h.l2]; exact hi), hy]
    · rw [rd_set_ne e]; exact h.v2 k (by omega)
theorem pow_next {p r x : Int} {i : Nat} (hx : x = r ^ i % p) : x * r % p = r ^ (i + 1) % p := by
  rw [hx, Int.pow_succ]; exact (Cg.mod p _).mulr r
def PX (p r : Int) (i : Nat) (x : Int) : Prop := x = r ^ i % p ∧ 0 ≤ x ∧ x < p
theorem own_two (w : World) (n : Nat) (hn : n ≤ 1000000) : Own (((w.alloc (.cells (madeCells #[.int .u64 0] n) 79)).alloc (.cells (madeCells #[.int .u64 0] n) 79)).drew) w.heap.size (.slice (some ⟨w.heap.size, 0, none⟩) n n) (List.replicate n 0) ∧
    Own (((w.alloc (.cells (madeCells #[.int .u64 0] n) 79)).alloc (.cells (madeCells #[.int .u64 0] n) 79)).drew) w.heap.size (.slice (some ⟨w.heap.size + 1, 0, none⟩) n n) (List.replicate n 0) := by
  have e : (w.alloc (.cells (madeCells #[.int .u64 0] n) 79)).heap.size = w.heap.size + 1 := by simp
  have h1 := (own_made w w.heap.size n n (Nat.le_refl _) (Nat.le_refl _) (by omega)).alloc (.cells (madeCells #[.int .u64 0] n) 79)
  have h2 := own_made (w.alloc (.cells (madeCells #[.int .u64 0] n) 79)) w.heap.size n n (by rw [e]; omega) (Nat.le_refl _) (by omega)
  rw [e] at h2
  exact ⟨h1.drew, h2.drew⟩
set_option maxRecDepth 100000 in
set_option maxHeartbeats 4000000 in
theorem powers_c (w : World) (g : Nat) (p r : Int) (n : Nat) (h : Md w g p) (hr : 0 ≤ r) (hn : n ≤ 1000000) :
    Calls Tryz.prog 120 #[.pointer (some ⟨g, 0, none⟩), .int .u64 r, .int .i64 n] w fun e w' => ∃ b bs, e = .returned (.tuple #[.slice (some ⟨b, 0, none⟩) n n, .slice (some ⟨bs, 0, none⟩) n n]) ∧ (∀ gm, gm < w.heap.size → Pws w' gm (.slice (some ⟨b, 0, none⟩) n n) (.slice (some ⟨bs, 0, none⟩) n n) p r n) ∧ w.grownBy w' none := by
  have hp3 := h.pm.lo
  have hp' := h.pm.hi
  have mk := make64 29 (by kernel_rfl) n n (n : Int) (n : Int) (by omega) (by omega) (by omega) (by omega)
  have x1 : (1 : Int) = r ^ 0 % p := by rw [Int.pow_zero, Int.emod_eq_of_lt (by omega) (by omega)]
  have PX0 : Hid (PX p r 0 1) := Lib.hid ⟨x1, by decide, by omega⟩
  have O2 := Lib.hid (own_two w n hn)
  have H := Lib.hid h
  clear x1 h
  go_enter Tryz.func120, Tryz.ntmps120
  go_upto_region 1 with fail
  go_cut [8, 9] from 12 to 15 (fun v8 v9 wc => ∃ b bs, v8 = .slice (some ⟨b, 0, none⟩) n n ∧ v9 = .slice (some ⟨bs, 0, none⟩) n n ∧ b ≠ bs ∧ Own wc w.heap.size (.slice (some ⟨b, 0, none⟩) n n) (List.replicate n 0) ∧ Own wc w.heap.size (.slice (some ⟨bs, 0, none⟩) n n) (List.replicate n 0) ∧ w.grownBy wc none)
  case first =>
    go_region
    all_goals (go_wp2_with fail)
    all_goals (go_meet)
    · obtain ⟨o1, o2⟩ := O2.out
      exact ⟨_, _, rfl, rfl, by omega, o1, o2, gb_drew (gb_alloc (gb_alloc (gb_refl w none) _) _)⟩
    · obtain ⟨o1, o2⟩ := O2.out
      exact ⟨_, _, rfl, rfl, by omega, o2, o1, gb_drew (gb_alloc (gb_alloc (gb_refl w none) _) _)⟩
  case rest =>
    obtain ⟨b, bs, rfl, rfl, hbb, ob, obs, GC⟩ := hcut
    clear O2 mk
    have OB := Lib.hid ob
    have OBS := Lib.hid obs
    have lb := ob.base_le
    have lbs := obs.base_le
    have LB := Lib.hid (And.intro lb.1 lbs.1)
    clear ob obs lb lbs
    go_wp2
    go_loopw [10, 18] (fun v10 v18 wr => ∃ (i : Nat) (x : Int) (ls ss : List Int), v10 = .int .u64 x ∧ v18 = .int .i64 i ∧ i ≤ n ∧ PX p r i x ∧ PwI p r n i ls ss ∧ Own wr w.heap.size (.slice (some ⟨b, 0, none⟩) n n) ls ∧ Own wr w.heap.size (.slice (some ⟨bs, 0, none⟩) n n) ss ∧ w.grownBy wr none) (fun _ v18 _ => n - (intOf v18).toNat)
    case atStart => exact ⟨0, 1, _, _, rfl, rfl, by omega, PX0.out, ⟨List.length_replicate, List.length_replicate, fun k hk => by omega, fun k hk => by omega⟩, OB.out, OBS.out, GC⟩
    case round =>
      clear OB OBS PX0 GC
      obtain ⟨i, x, ls, ss, rfl, rfl, hi, px, pw, o1, o2, G⟩ := hrel
      have PWH := Lib.hid pw
      have O1 := Lib.hid o1
      have O2 := Lib.hid o2
      have GG := Lib.hid G
      by_cases hin : i < n
      · have x0 := px.2.1
        have x1 := px.2.2
        have PXH := Lib.hid px
        have c1 := o1.cell i (by rw [pw.l1]; exact hin)
        have f1 := o1.free i
        have st := pw.step hin px.1 (y := x % p * 18446744073709551616 / p) (by rw [Int.emod_eq_of_lt x0 x1, px.1])
        have hy0 : 0 ≤ x % p * 18446744073709551616 / p := Int.ediv_nonneg (Int.mul_nonneg (Int.emod_nonneg _ (by omega)) (by decide)) (by omega)
        have hy1 : x % p * 18446744073709551616 / p < 18446744073709551616 := by
          rw [Int.emod_eq_of_lt x0 x1]
          refine Int.ediv_lt_of_lt_mul (by omega) ?_
          rw [Int.mul_comm]
          exact Int.mul_lt_mul_of_pos_left x1 (by decide)
        have nx : PX p r (i + 1) (x * r % p) := ⟨pow_next px.1, Int.emod_nonneg _ (by omega), Int.emod_lt_of_pos _ (by omega)⟩
        have SH := fun w (h : Md w g p) => modShoup_c w g p x h x0
        obtain ⟨y, hy⟩ : ∃ y, y = x % p * 18446744073709551616 / p := ⟨_, rfl⟩
        rw [← hy] at st hy0 hy1 SH
        have HSH := Lib.hid SH
        have ST := Lib.hid st
        have NX := Lib.hid nx
        have Y := Lib.hid (And.intro hy0 hy1)
        clear o1 o2 G px pw st nx SH hy hy0 hy1
        have k1 := O1.out.store i x0 (by omega)
        have k2 := O2.out.grown (gb_rowC (gb_refl _ (some b)) i (.int .u64 x)) (.inr (by simp [Value.ownBlock]; omega))
        have k3 := gb_set (p := ⟨b, i, none⟩) GG.out LB.out.1 (.int .u64 x)
        have K1 := Lib.hid k1
        have K2 := Lib.hid k2
        have K3 := Lib.hid k3
        clear k1 k2 k3
        go_wp2_with fail
        refine (HSH.out _ (H.out.grown0 K3.out)).mono ?_
        rintro e wa ⟨rfl, ga⟩
        clear c1 f1
        have K1a := Lib.hid (K1.out.grown0 ga)
        have K2a := Lib.hid (K2.out.grown0 ga)
        have K3a := Lib.hid (gb_trans K3.out ga)
        have c2 := K2a.out.cell i (by rw [PWH.out.l2]; exact hin)
        have f2 := K2a.out.free i
        have k1 := K1a.out.grown (gb_rowC (gb_refl _ (some bs)) i (.int .u64 y)) (.inr (by simp [Value.ownBlock]; omega))
        have k2 := K2a.out.store i Y.out.1 Y.out.2
        have k3 := gb_set (p := ⟨bs, i, none⟩) K3a.out LB.out.2 (.int .u64 y)
        have L1 := Lib.hid k1
        have L2 := Lib.hid k2
        have L3 := Lib.hid k3
        clear k1 k2 k3 ga
        go_wp2_with fail
        refine (modMul_c _ g p x r (H.out.grown0 L3.out) x0 hr).mono ?_
        rintro e wb ⟨rfl, gb⟩
        clear c2 f2
        go_wp2
        go_roundw
        case rel => exact ⟨i + 1, x * r % p, ls.set i x, ss.set i y, rfl, by go_num, by omega, NX.out, ST.out, L1.out.grown0 gb, L2.out.grown0 gb, gb_trans L3.out gb⟩
        case measure => simp [intOf]; omega
      · obtain rfl : i = n := by omega
        clear o1 o2 G px pw
        go_wp2
        go_ret2
        exact ⟨_, _, rfl, fun gm hgm => ⟨b, bs, rfl, rfl, by have := LB.out.1; omega, by have := LB.out.2; omega, fun k hk => by rw [O1.out.cell k (by rw [PWH.out.l1]; exact hk), PWH.out.v1 k hk], fun k hk => by rw [O2.out.cell k (by rw [PWH.out.l2]; exact hk), PWH.out.v2 k hk]⟩, GG.out⟩
end Go.Proofs.YtldkiddoajlohaaGreatDoor

/- The test of primes, reckoned fast. Plain. -/
namespace Go.Proofs.YtldkiddoajlohaaGreatDoor

/-- a to the d modulo n, by squares. -/
def pmF : Nat → Nat → Nat → Nat → Nat
  | 0, _, _, n => 1 % n
  | k + 1, a, d, n => if d = 0 then 1 % n else if d % 2 = 1 then a * pmF k (a * a % n) (d / 2) n % n else pmF k (a * a % n) (d / 2) n
theorem pmF_spec : ∀ k a d n, d < 2 ^ k → pmF k a d n = a ^ d % n
  | 0, a, d, n, h => by
    rw [Nat.pow_zero] at h
    obtain rfl : d = 0 := by omega
    rw [pmF, Nat.pow_zero]
  | k + 1, a, d, n, h => by
    rw [pmF]
    rw [Nat.pow_succ] at h
    by_cases h0 : d = 0
    · rw [if_pos h0, h0, Nat.pow_zero]
    · have ih := pmF_spec k (a * a % n) (d / 2) n (by omega)
      rw [if_neg h0, ih, ← Nat.pow_mod]
      by_cases h1 : d % 2 = 1
      · rw [if_pos h1]
        have e : a ^ d = a * (a * a) ^ (d / 2) := by
          rw [← Nat.pow_two, ← Nat.pow_mul, Nat.mul_comm a, ← Nat.pow_succ]
          congr 1; omega
        rw [e, Nat.mul_mod, Nat.mod_mod, ← Nat.mul_mod]
      · rw [if_neg h1]
        have e : a ^ d = (a * a) ^ (d / 2) := by
          rw [← Nat.pow_two, ← Nat.pow_mul]
          congr 1; omega
        rw [e]
def mrF (n : Nat) : Nat → Nat → Bool
  | 0, _ => true
  | c + 1, x => let y := x * x % n; if y = n - 1 then false else mrF n c y
def witF (a n d s : Nat) : Bool := let x := pmF 64 a d n; if x = 0 ∨ x = 1 ∨ x = n - 1 then false else mrF n (s - 1) x
theorem mrF_eq {n : Nat} (hn : 0 < n) : ∀ c x : Nat, mrL n c x = mrF n c x
  | 0, _ => rfl
  | c + 1, x => by
    rw [mrL, mrF]
    have e : (x : Int) * x % n = ((x * x % n : Nat) : Int) := by rw [Int.natCast_emod, Int.natCast_mul]
    rw [e]
    have e2 : (((x * x % n : Nat) : Int) = (n : Int) - 1) = (x * x % n = n - 1) := by
      apply propext; omega
    simp only [e2, mrF_eq hn c]
theorem witF_eq {a n d s : Nat} (hn : 0 < n) (hd : d < 2 ^ 64) : wit a n d s = witF a n d s := by
  have e : (a : Int) ^ d % n = ((pmF 64 a d n : Nat) : Int) := by rw [pmF_spec 64 a d n hd, Int.natCast_emod, Int.natCast_pow]
  rw [wit, witF, e]
  have e0 : (((pmF 64 a d n : Nat) : Int) = 0) = (pmF 64 a d n = 0) := by apply propext; omega
  have e1 : (((pmF 64 a d n : Nat) : Int) = 1) = (pmF 64 a d n = 1) := by apply propext; omega
  have e2 : (((pmF 64 a d n : Nat) : Int) = (n : Int) - 1) = (pmF 64 a d n = n - 1) := by apply propext; omega
  simp only [e0, e1, e2, mrF_eq hn]
def isF (n : Nat) : Bool :=
  if n < 2 then false else
    match divB n smallP with
    | some p => n == p
    | none => let t := tz (n - 1); smallP.all fun p => !witF p n t.2 t.1
theorem tz_le {n : Nat} (h0 : 0 < n) (h : n < 2 ^ 64) : (tz n).2 < 2 ^ 64 := by
  obtain ⟨e1, e2, e3⟩ := tzF_spec 64 n h0 h
  have hp : 0 < 2 ^ (tzF 64 n).1 := Nat.pow_pos (by decide)
  have : (tzF 64 n).2 * 1 ≤ (tzF 64 n).2 * 2 ^ (tzF 64 n).1 := Nat.mul_le_mul_left _ hp
  rw [Nat.mul_comm _ (2 ^ _)] at this
  show (tzF 64 n).2 < 2 ^ 64
  omega
theorem isF_eq {n : Nat} (hn : n < 2 ^ 64) : isP n = isF n := by
  unfold isP isF
  by_cases h2 : n < 2
  · rw [if_pos h2, if_pos h2]
  · rw [if_neg h2, if_neg h2]
    cases divB n smallP with
    | some p => rfl
    | none =>
      have hd := tz_le (n := n - 1) (by omega) (by omega)
      show (smallP.all fun p => !wit p n (tz (n - 1)).2 (tz (n - 1)).1) = (smallP.all fun p => !witF p n (tz (n - 1)).2 (tz (n - 1)).1)
      congr 1
      funext p
      rw [witF_eq (by omega) hd]
theorem isP_17 : isP 17 = true := by rw [isF_eq (by decide)]; decide +kernel
theorem isP_2 : isP 2 = true := by rw [isF_eq (by decide)]; decide +kernel
theorem isP_1 : isP 1 = false := by rw [isF_eq (by decide)]; decide +kernel
theorem isP_c : isP 3215031751 = false := by rw [isF_eq (by decide)]; decide +kernel
end Go.Proofs.YtldkiddoajlohaaGreatDoor

/- Primes: their residues, roots. -/
namespace Go.Proofs.YtldkiddoajlohaaGreatDoor
open Go.RowKit

theorem pmod_ok (w : World) (p : Nat) (hp : Pm p) (hi : isP p = true) (hd : Db w) :
    Calls Tryz.prog 129 #[.int .u64 p] w fun e w' => ∃ g, e = .returned (.tuple #[.pointer (some ⟨g, 0, none⟩), .int .i64 0]) ∧ Md w' g p ∧ w.heap.size ≤ g ∧ w.grownBy w' none := by
  have h1 := hp.lo
  have h2 := hp.hi
  have h3 := hp.odd
  have I := is_c w p (by omega) hd
  rw [hi] at I
  obtain ⟨P, hP⟩ : ∃ P : Int, P = (p : Int) := ⟨_, rfl⟩
  rw [← hP] at I hp h1 h2 h3 ⊢
  have HI := Lib.hid I
  have HP := Lib.hid hp
  clear I hd hi hp hP
  go_enter Tryz.func129, Tryz.ntmps129
  go_wp2_with fail
  refine (HI.out).mono ?_
  rintro e w1 ⟨rfl, g1⟩
  go_wp2_with fail
  refine (modNew_ok _ P HP.out).mono ?_
  rintro e w2 ⟨g, rfl, M, hg, g2⟩
  have hs := g1.size
  go_wp2
  go_ret2
  exact ⟨g, rfl, M, by omega, gb_trans g1 g2⟩
theorem pmod_no (w : World) (p : Nat) (p64 : p < 2 ^ 64) (h : ¬ (Pm p ∧ isP p = true)) (hd : Db w) :
    Calls Tryz.prog 129 #[.int .u64 p] w fun e w' => e = .returned (.tuple #[.pointer none, .int .i64 3]) ∧ w.grownBy w' none := by
  by_cases h2 : p % 2 = 0
  · have h3 : (p : Int) % 2 = 0 := by omega
    obtain ⟨P, hP⟩ : ∃ P : Int, P = (p : Int) := ⟨_, rfl⟩
    have P0 : 0 ≤ P := by omega
    rw [← hP] at h3 ⊢
    clear h hd h2 p64 hP
    go_enter Tryz.func129, Tryz.ntmps129
    go_wp2
    go_ret2
    exact ⟨rfl, gb_refl _ _⟩
  · have h3 : (p : Int) % 2 = 1 := by omega
    by_cases h4 : 4611686018427387904 ≤ (p : Int)
    · obtain ⟨P, hP⟩ : ∃ P : Int, P = (p : Int) := ⟨_, rfl⟩
      have P0 : 0 ≤ P := by omega
      rw [← hP] at h3 h4 ⊢
      clear h hd h2 p64 hP
      go_enter Tryz.func129, Tryz.ntmps129
      go_wp2
      go_ret2
      exact ⟨rfl, gb_refl _ _⟩
    · have I := is_c w p p64 hd
      have hi : isP p = false := by
        cases e : isP p with
        | false => rfl
        | true =>
          refine absurd ⟨⟨?_, by omega, h3⟩, e⟩ h
          by_cases k : p < 2
          · unfold isP at e; rw [if_pos k] at e; cases e
          · omega
      rw [hi] at I
      have h5 : (p : Int) < 4611686018427387904 := by omega
      obtain ⟨P, hP⟩ : ∃ P : Int, P = (p : Int) := ⟨_, rfl⟩
      have P0 : 0 ≤ P := by omega
      rw [← hP] at h3 h5 I ⊢
      have HI := Lib.hid I
      clear I hd hi h h4 h2 p64 hP
      go_enter Tryz.func129, Tryz.ntmps129
      go_wp2_with fail
      refine (HI.out).mono ?_
      rintro e w1 ⟨rfl, g1⟩
      go_wp2
      go_ret2
      exact ⟨rfl, g1⟩
set_option maxRecDepth 100000 in
set_option maxHeartbeats 1000000 in
theorem root_c (w : World) (p log x0 : Nat) (hp : Pm p) (hi : isP p = true) (hl : log ≤ 20) (hdiv : (p - 1) % 2 ^ log = 0) (hx2 : 2 ≤ x0) (hx64 : x0 < 2 ^ 63) (hx : (x0 : Int) ^ ((p - 1) / 2) % p = p - 1)
    (hno : ∀ x, 2 ≤ x → x < x0 → (x : Int) ^ ((p - 1) / 2) % p ≠ p - 1) (hd : Db w) :
    Calls Tryz.prog 119 #[.int .u64 p, .int .i64 log] w fun e w' => e = .returned (.tuple #[.int .u64 (if log = 0 then 1 else (x0 : Int) ^ ((p - 1) / 2 ^ log) % p), .int .i64 0]) ∧ w.grownBy w' none := by
  have h1 := hp.lo
  have h2 := hp.hi
  have I := fun w (h : Db w) => pmod_ok w p hp hi h
  obtain ⟨m, hm⟩ : ∃ m, m = p - 1 := ⟨_, rfl⟩
  rw [← hm] at hdiv hx hno ⊢
  obtain ⟨q, hq⟩ : ∃ q, q = 2 ^ log := ⟨_, rfl⟩
  have hq20 : q ≤ 2 ^ 20 := by rw [hq]; exact Nat.pow_le_pow_right (by decide) hl
  have hq0 : 0 < q := by rw [hq]; exact Nat.pow_pos (by decide)
  have eq : (2 : Int) ^ log = (q : Int) := by rw [hq, Int.natCast_pow]; rfl
  rw [← hq] at hdiv ⊢
  obtain ⟨h, hh⟩ : ∃ h, h = m / 2 := ⟨_, rfl⟩
  obtain ⟨d, hdd⟩ : ∃ d, d = m / q := ⟨_, rfl⟩
  rw [← hh] at hx hno
  rw [← hdd]
  obtain ⟨P, hP⟩ : ∃ P : Int, P = (p : Int) := ⟨_, rfl⟩
  obtain ⟨M, hM⟩ : ∃ M : Int, M = (m : Int) := ⟨_, rfl⟩
  obtain ⟨Q, hQ⟩ : ∃ Q : Int, Q = (q : Int) := ⟨_, rfl⟩
  obtain ⟨H, hH⟩ : ∃ H : Int, H = (h : Int) := ⟨_, rfl⟩
  obtain ⟨D, hD⟩ : ∃ D : Int, D = (d : Int) := ⟨_, rfl⟩
  have em : P - 1 = M := by omega
  have eh : M / 2 = H := by omega
  have ed : M / 2 ^ log = D := by rw [eq, hM, hD, hdd, Int.natCast_ediv]
  have ez : M % Q = 0 := by rw [hM, hQ, ← Int.natCast_emod, hdiv]; rfl
  have hw : IntKind.u64.wrap (2 ^ log) = Q := by rw [eq, hQ, IntKind.wrap_u64]; omega
  have hw2 : IntKind.u64.wrap (1 * 2 ^ log) = Q := by rw [Int.one_mul]; exact hw
  have Q0 : Q ≠ 0 := by omega
  have bM : 0 ≤ M ∧ M < 4611686018427387904 := by omega
  have bP : 0 ≤ P ∧ P < 4611686018427387904 := by omega
  have bH : 0 ≤ H ∧ H < 4611686018427387904 := by omega
  have bD : 0 ≤ D ∧ D < 4611686018427387904 := by
    have := Nat.div_le_self m q
    omega
  have pw : ∀ x : Int, x ^ h = x ^ H.toNat := fun x => by rw [hH, Int.toNat_natCast]
  have pd : ∀ x : Int, x ^ d = x ^ D.toNat := fun x => by rw [hD, Int.toNat_natCast]
  rw [← hP] at I hx hno ⊢
  rw [em] at hx hno
  rw [pd]
  have hx' : (x0 : Int) ^ H.toNat % P = M := by rw [← pw]; exact hx
  have hno' : ∀ x, 2 ≤ x → x < x0 → (x : Int) ^ H.toNat % P ≠ M := fun x a b => by rw [← pw]; exact hno x a b
  have HI := Lib.hid I
  have HD := Lib.hid hd
  have HX := Lib.hid hx'
  have HNO := Lib.hid hno'
  have H64 := Lib.hid hx64
  clear I hd hx hno pw pd hP hM hQ hH hD eq hq hh hdd hdiv hp hi h1 h2 hq20 hq0 hm hx' hno' hx64
  have hlb : decide ((log : Int) < 0) = false := decide_eq_false (by omega)
  have hlc : decide ((20 : Int) < (log : Int)) = false := decide_eq_false (by omega)
  by_cases hl0 : log = 0
  · subst hl0
    rw [if_pos rfl]
    go_enter Tryz.func119, Tryz.ntmps119
    go_wp2_with fail
    refine (HI.out _ HD.out).mono ?_
    rintro e w1 ⟨g, rfl, MM, _, g1⟩
    clear HI HD
    go_wp2
    go_ret2
    exact ⟨rfl, g1⟩
  · rw [if_neg hl0]
    have hl1 : ¬ (log : Int) = 0 := by omega
    have hld : ((log : Int) == 0) = false := by simpa using hl1
    go_enter Tryz.func119, Tryz.ntmps119
    go_wp2_with fail
    refine (HI.out _ HD.out).mono ?_
    rintro e w1 ⟨g, rfl, MM, _, g1⟩
    clear HI HD
    go_wp2
    have EM := Lib.hid em
    have EH := Lib.hid eh
    have ED := Lib.hid ed
    clear ez hw hw2 hlb hlc em eh ed hld
    go_loopw [8] (fun v8 wr => ∃ x : Nat, v8 = .int .u64 x ∧ 2 ≤ x ∧ x ≤ x0 ∧ w1.grownBy wr none) (fun v8 _ => x0 - (intOf v8).toNat)
    case atStart => exact ⟨2, rfl, by omega, hx2, gb_refl _ _⟩
    case round =>
      obtain ⟨x, rfl, hxa, hxb, R⟩ := hrel
      have hx63 : (x : Int) < 9223372036854775808 := by have := H64.out; omega
      obtain ⟨X, hXX⟩ : ∃ X : Int, X = (x : Int) := ⟨_, rfl⟩
      have X0 : 0 ≤ X := by omega
      have T := fun w (h : Md w g P) => modPow_c w g P X H h X0 bH.1 (by omega)
      have T2 := fun w (h : Md w g P) => modPow_c w g P X D h X0 bD.1 (by omega)
      have hX1 : X < 9223372036854775808 := by omega
      by_cases hex : x = x0
      · have e : X ^ H.toNat % P = M := by rw [hXX, hex]; exact HX.out
        have e0 : (x0 : Int) = X := by omega
        have HE0 := Lib.hid e0
        rw [← hXX]
        have HT := Lib.hid T
        have HT2 := Lib.hid T2
        have HE := Lib.hid e
        clear T T2 hex e e0 hx63 hXX
        have em := EM.out
        have eh := EH.out
        have ed := ED.out
        go_wp2_with fail
        refine (HT.out _ (MM.grown0 R)).mono ?_
        rintro e w2 ⟨rfl, g2⟩
        rw [HE.out]
        go_wp2_with fail
        refine (HT2.out _ ((MM.grown0 R).grown0 g2)).mono ?_
        rintro e w3 ⟨rfl, g3⟩
        go_wp2
        go_ret2
        exact ⟨by rw [HE0.out]; rfl, gb_trans (gb_trans (gb_trans g1 R) g2) g3⟩
      · have e : X ^ H.toNat % P ≠ M := by rw [hXX]; exact HNO.out x hxa (by omega)
        obtain ⟨Y, hY⟩ : ∃ Y, Y = X ^ H.toNat % P := ⟨_, rfl⟩
        rw [← hY] at e
        have HY := Lib.hid hY
        have hb : (Y == M) = false := by simpa using e
        have HT := Lib.hid T
        have HXX := Lib.hid hXX
        rw [← hXX]
        clear T T2 hY e hXX hx63
        have em := EM.out
        have eh := EH.out
        go_wp2_with fail
        refine (HT.out _ (MM.grown0 R)).mono ?_
        rintro e w2 ⟨rfl, g2⟩
        rw [← HY.out]
        go_wp2
        clear hb em eh
        go_roundw
        case rel => exact ⟨x + 1, by rw [HXX.out]; go_num, by omega, by omega, gb_trans R g2⟩
        case measure => rw [HXX.out]; simp [intOf]; omega
end Go.Proofs.YtldkiddoajlohaaGreatDoor

/- Transforms: a new plan. -/
namespace Go.Proofs.YtldkiddoajlohaaGreatDoor
open Go.RowKit

theorem gcd_of {p r y : Int} (h : Cg p (r * y) 1) : Int.gcd p r = 1 := by
  have h1 : p ∣ r * y - 1 := Int.dvd_of_emod_eq_zero (Int.emod_eq_emod_iff_emod_sub_eq_zero.1 h)
  have h2 : ((Int.gcd p r : Nat) : Int) ∣ p := Int.gcd_dvd_left ..
  have h3 : ((Int.gcd p r : Nat) : Int) ∣ r := Int.gcd_dvd_right ..
  have h4 : ((Int.gcd p r : Nat) : Int) ∣ r * y - (r * y - 1) := Int.dvd_sub (Int.dvd_trans h3 (Int.dvd_mul_right _ _)) (Int.dvd_trans h2 h1)
  rw [show r * y - (r * y - 1) = 1 by omega] at h4
  have := Int.eq_one_of_dvd_one (by omega) h4
  omega
/-- What is asked of a prime and a length, that there be a plan. -/
structure Ok (p log x0 : Nat) : Prop where
  pm : Pm p
  is : isP p = true
  l10 : log ≤ 10
  div : (p - 1) % 2 ^ log = 0
  x2 : 2 ≤ x0
  x64 : x0 < 2 ^ 63
  x : (x0 : Int) ^ ((p - 1) / 2) % p = p - 1
  no : ∀ x, 2 ≤ x → x < x0 → (x : Int) ^ ((p - 1) / 2) % p ≠ p - 1
/-- The root. -/
def rootOf (p log x0 : Nat) : Int := if log = 0 then 1 else (x0 : Int) ^ ((p - 1) / 2 ^ log) % p
theorem Ok.neg {p log x0 : Nat} (h : Ok p log x0) (hl : log ≠ 0) : Cg p (rootOf p log x0 ^ 2 ^ (log - 1)) (-1) := by
  unfold rootOf
  rw [if_neg hl]
  have h1 := (Cg.mod (p : Int) ((x0 : Int) ^ ((p - 1) / 2 ^ log))).pow (2 ^ (log - 1))
  refine h1.trans ?_
  rw [← Int.pow_mul]
  have e : (p - 1) / 2 ^ log * 2 ^ (log - 1) = (p - 1) / 2 := by
    obtain ⟨k, hk⟩ := Nat.dvd_of_mod_eq_zero h.div
    obtain ⟨l, rfl⟩ : ∃ l, log = l + 1 := ⟨log - 1, by omega⟩
    rw [hk, Nat.mul_div_cancel_left _ (Nat.pow_pos (by decide)), Nat.add_sub_cancel, Nat.pow_succ, Nat.mul_comm (2 ^ l) 2, Nat.mul_assoc, Nat.mul_div_cancel_left _ (by decide), Nat.mul_comm]
  rw [e]
  have h2 := h.x
  have h3 : Cg p ((x0 : Int) ^ ((p - 1) / 2)) ((p : Int) - 1) := by
    have := (Cg.mod (p : Int) ((x0 : Int) ^ ((p - 1) / 2))).symm
    rw [h2] at this
    exact this
  refine h3.trans ?_
  have := Cg.add_mult (p : Int) (-1) 1
  rw [show (-1 : Int) + (p : Int) * 1 = (p : Int) - 1 by omega] at this
  exact this
theorem Ok.bd {p log x0 : Nat} (h : Ok p log x0) : 0 ≤ rootOf p log x0 ∧ rootOf p log x0 < p := by
  have := h.pm.lo
  unfold rootOf
  split
  · omega
  · exact ⟨Int.emod_nonneg _ (by omega), Int.emod_lt_of_pos _ (by omega)⟩
theorem Ok.gcd {p log x0 : Nat} (h : Ok p log x0) : Int.gcd p (rootOf p log x0) = 1 := by
  by_cases hl : log = 0
  · have : rootOf p log x0 = 1 := by unfold rootOf; rw [if_pos hl]
    rw [this]
    exact gcd_of (y := 1) (Cg.refl _ _)
  · have h1 := h.neg hl
    have h2 := h1.mul h1
    rw [← Int.pow_add] at h2
    obtain ⟨k, hk⟩ : ∃ k, 2 ^ (log - 1) + 2 ^ (log - 1) = k + 1 := ⟨2 ^ (log - 1) + 2 ^ (log - 1) - 1, by have : 0 < 2 ^ (log - 1) := Nat.pow_pos (by decide); omega⟩
    rw [hk, Int.pow_succ, Int.mul_comm] at h2
    exact gcd_of (h2.trans (Cg.of_eq (by decide)))
theorem two_gcd {p : Int} (hp : p % 2 = 1) (L : Nat) : Int.gcd p ((2 ^ L : Nat) : Int) = 1 := by
  have h : Nat.Coprime p.natAbs 2 := by
    have : p.natAbs % 2 = 1 := by omega
    show Nat.gcd _ 2 = 1
    rw [Nat.gcd_comm, Nat.gcd_rec, this]; rfl
  have h2 := Nat.Coprime.pow_right L h
  show Nat.gcd p.natAbs ((2 ^ L : Nat) : Int).natAbs = 1
  rw [Int.natAbs_natCast]
  exact h2
set_option maxRecDepth 100000 in
set_option maxHeartbeats 4000000 in
theorem new_c (w : World) (gm p log x0 : Nat) (h : Ok p log x0) (hgm : gm < w.heap.size) (hd : Db w) :
    Calls Tryz.prog 108 #[.pointer (some ⟨gm, 0, none⟩), .int .u64 p, .int .i64 log] w fun e w' => ∃ t z, e = .returned (.tuple #[.pointer (some ⟨t, 0, none⟩), .int .i64 0]) ∧ Pl w' t gm p (rootOf p log x0) z log ∧ w.heap.size ≤ t ∧ w.grownBy w' none := by
  have R := root_c w p log x0 h.pm h.is (by have := h.l10; omega) h.div h.x2 h.x64 h.x h.no hd
  change Calls Tryz.prog 119 _ w (fun e w' => e = .returned (.tuple #[.int .u64 (rootOf p log x0), .int .i64 0]) ∧ w.grownBy w' none) at R
  have M := fun w => modNew_ok w p h.pm
  have neg := h.neg
  have bd := h.bd
  have gc := h.gcd
  have g2 := two_gcd h.pm.odd log
  have h10 := h.l10
  have p3 := h.pm.lo
  have p62 := h.pm.hi
  obtain ⟨r, hr⟩ : ∃ r, r = rootOf p log x0 := ⟨_, rfl⟩
  obtain ⟨P, hP⟩ : ∃ P : Int, P = (p : Int) := ⟨_, rfl⟩
  rw [← hr, ← hP] at R neg bd gc ⊢
  rw [← hP] at M g2 p3 p62
  obtain ⟨q, hq⟩ : ∃ q, q = 2 ^ log := ⟨_, rfl⟩
  have hq10 : q ≤ 1024 := by rw [hq]; exact Nat.pow_le_pow_right (by decide) h10
  have hq0 : 0 < q := by rw [hq]; exact Nat.pow_pos (by decide)
  have eq : (2 : Int) ^ log = (q : Int) := by rw [hq, Int.natCast_pow]; rfl
  have hw1 : IntKind.u64.wrap (2 ^ log) = (q : Int) := by rw [eq, IntKind.wrap_u64]; omega
  have hw2 : IntKind.u64.wrap (1 * 2 ^ log) = (q : Int) := by rw [Int.one_mul]; exact hw1
  rw [← hq] at g2
  obtain ⟨hf, hhf⟩ : ∃ y, y = q / 2 := ⟨_, rfl⟩
  have eh : (q : Int) / 2 = (hf : Int) := by omega
  have HR := Lib.hid R
  have HM := Lib.hid M
  have NEG := Lib.hid neg
  have BD := Lib.hid bd
  have GC := Lib.hid gc
  have G2 := Lib.hid g2
  have HQ := Lib.hid hq
  have HHF := Lib.hid hhf
  have HGM := Lib.hid hgm
  have r0 := bd.1
  clear R M neg bd gc g2 h hr hP hq eq hhf hd hgm
  go_enter Tryz.func108, Tryz.ntmps108
  go_wp2_with fail
  refine (HR.out).mono ?_
  rintro e w1 ⟨rfl, k1⟩
  go_wp2_with fail
  refine (HM.out _).mono ?_
  rintro e w2 ⟨g0, rfl, md, hg0, k2⟩
  have C0 := cs_new w2 #[.pointer (some ⟨g0, 0, none⟩), .pointer (some ⟨gm, 0, none⟩), .int .i64 log, .slice none 0 0, .slice none 0 0, .slice none 0 0, .slice none 0 0, .int .u64 0] 140
  have M0 := md.grown0 (gb_alloc (gb_refl w2 none) (Obj.cells #[.pointer (some ⟨g0, 0, none⟩), .pointer (some ⟨gm, 0, none⟩), .int .i64 log, .slice none 0 0, .slice none 0 0, .slice none 0 0, .slice none 0 0, .int .u64 0] 140))
  have KA := Lib.hid (gb_alloc (gb_trans k1 k2) (Obj.cells #[.pointer (some ⟨g0, 0, none⟩), .pointer (some ⟨gm, 0, none⟩), .int .i64 log, .slice none 0 0, .slice none 0 0, .slice none 0 0, .slice none 0 0, .int .u64 0] 140))
  have hgt : g0 < w2.heap.size := World.block_lt_of_cell? w2 _ md.c0
  have hts : w.heap.size ≤ w2.heap.size := (gb_trans k1 k2).size
  have hgg : gm ≠ g0 := by have := HGM.out; have := k1.size; omega
  have h7 : w2.heap.size < (w2.alloc (Obj.cells #[.pointer (some ⟨g0, 0, none⟩), .pointer (some ⟨gm, 0, none⟩), .int .i64 log, .slice none 0 0, .slice none 0 0, .slice none 0 0, .slice none 0 0, .int .u64 0] 140)).heap.size := by simp
  have H7 := Lib.hid h7
  have CC := Lib.hid C0
  have MM := Lib.hid M0
  obtain ⟨t, ht⟩ : ∃ t, t = w2.heap.size := ⟨_, rfl⟩
  have HT := Lib.hid ht
  have HTS := Lib.hid hts
  have HGG := Lib.hid hgg
  have HGT := Lib.hid hgt
  clear C0 M0 md hg0 k1 k2 hgt hts hgg h7 ht
  have mdr : ∀ W u j, Md W g0 P → Md (W.setCell ⟨w2.heap.size, j, none⟩ u) g0 P := fun W u j h => h.grown (gb_rowC (gb_refl W (some w2.heap.size)) j u) (by have := HGT.out; simp; omega)
  have MDR := Lib.hid mdr
  clear mdr
  go_wp2_with fail
  refine (modInv_c _ g0 P (q : Int) MM.out (by omega)).mono ?_
  rintro e w3 ⟨⟨u, f, rfl, I⟩, k3⟩
  obtain ⟨rfl, un0, un1, uc⟩ := I.is G2.out
  have C1 := Lib.hid (CC.out.grown0 k3)
  have M1 := Lib.hid (MDR.out _ (.int .u64 u) 7 (MM.out.grown0 k3))
  have K1 := Lib.hid (gb_set (p := ⟨w2.heap.size, 7, none⟩) (gb_trans KA.out k3) HTS.out (.int .u64 u))
  have S1 : w2.heap.size < w3.heap.size := Nat.lt_of_lt_of_le H7.out k3.size
  have c7 := C1.out.cell 7 rfl
  have f7 := C1.out.free 7 rfl
  have UC := Lib.hid uc
  clear I k3 uc CC MM KA
  go_wp2_with fail
  refine (modInv_c _ g0 P r M1.out r0).mono ?_
  rintro e w4 ⟨⟨z, f, rfl, I⟩, k4⟩
  obtain ⟨rfl, z0, z1, zc⟩ := I.is GC.out
  have C2 := Lib.hid ((C1.out.set 7 (.int .u64 u)).grown0 k4)
  have M2 := Lib.hid (M1.out.grown0 k4)
  have K2 := Lib.hid (gb_trans K1.out k4)
  have S2 : w2.heap.size < w4.heap.size := by have := k4.size; simp at this; omega
  have ZC := Lib.hid zc
  clear I k4 zc C1 M1 K1 c7 f7 S1
  go_wp2_with fail
  refine (powers_c _ g0 P r hf M2.out r0 (by omega)).mono ?_
  rintro e w5 ⟨b1, b2, rfl, pw1, k5⟩
  have C3 := Lib.hid (C2.out.grown0 k5)
  have c3 := C3.out.cell 3 rfl
  have f3 := C3.out.free 3 rfl
  have c5 := C3.out.cell 5 rfl
  have f5 := C3.out.free 5 rfl
  have S3 : w2.heap.size < w5.heap.size := by have := k5.size; omega
  have g1 := gb_rowC (gb_rowC (gb_refl w5 (some w2.heap.size)) 3 (.slice (some ⟨b1, 0, none⟩) hf hf)) 5 (.slice (some ⟨b2, 0, none⟩) hf hf)
  have C4 := Lib.hid ((C3.out.set 3 (.slice (some ⟨b1, 0, none⟩) hf hf)).set 5 (.slice (some ⟨b2, 0, none⟩) hf hf))
  have M4 := Lib.hid (MDR.out _ (.slice (some ⟨b2, 0, none⟩) hf hf) 5 (MDR.out _ (.slice (some ⟨b1, 0, none⟩) hf hf) 3 (M2.out.grown0 k5)))
  have P1 := Lib.hid ((pw1 gm (by have := HGM.out; have := HTS.out; omega)).two (pw1 w2.heap.size S2) g1)
  have P1t := Lib.hid ((pw1 w2.heap.size S2).two (pw1 w2.heap.size S2) g1)
  have K3 := Lib.hid (gb_set (p := ⟨w2.heap.size, 5, none⟩) (gb_set (p := ⟨w2.heap.size, 3, none⟩) (gb_trans K2.out k5) HTS.out (.slice (some ⟨b1, 0, none⟩) hf hf)) HTS.out (.slice (some ⟨b2, 0, none⟩) hf hf))
  clear pw1 k5 g1 C2 M2 K2 S2 C3
  go_wp2_with fail
  refine (powers_c _ g0 P z hf M4.out z0 (by omega)).mono ?_
  rintro e w6 ⟨b3, b4, rfl, pw2, k6⟩
  have C5 := Lib.hid (C4.out.grown0 k6)
  clear c3 f3 c5 f5
  have c4 := C5.out.cell 4 rfl
  have f4 := C5.out.free 4 rfl
  have c6 := C5.out.cell 6 rfl
  have f6 := C5.out.free 6 rfl
  have S4 : w2.heap.size < ((w5.setCell ⟨w2.heap.size, 3, none⟩ (.slice (some ⟨b1, 0, none⟩) hf hf)).setCell ⟨w2.heap.size, 5, none⟩ (.slice (some ⟨b2, 0, none⟩) hf hf)).heap.size := by simpa using S3
  have g2 := gb_rowC (gb_rowC (gb_refl w6 (some w2.heap.size)) 4 (.slice (some ⟨b3, 0, none⟩) hf hf)) 6 (.slice (some ⟨b4, 0, none⟩) hf hf)
  have CF := (C5.out.set 4 (.slice (some ⟨b3, 0, none⟩) hf hf)).set 6 (.slice (some ⟨b4, 0, none⟩) hf hf)
  have MF := MDR.out _ (.slice (some ⟨b4, 0, none⟩) hf hf) 6 (MDR.out _ (.slice (some ⟨b3, 0, none⟩) hf hf) 4 (M4.out.grown0 k6))
  have PA := (P1.out.grown0 k6).two (P1t.out.grown0 k6) g2
  have PB := (pw2 gm (by have := HGM.out; have := HTS.out; omega)).two (pw2 w2.heap.size S4) g2
  have KF := gb_set (p := ⟨w2.heap.size, 6, none⟩) (gb_set (p := ⟨w2.heap.size, 4, none⟩) (gb_trans K3.out k6) HTS.out (.slice (some ⟨b3, 0, none⟩) hf hf)) HTS.out (.slice (some ⟨b4, 0, none⟩) hf hf)
  have PL : Pl ((w6.setCell ⟨w2.heap.size, 4, none⟩ (.slice (some ⟨b3, 0, none⟩) hf hf)).setCell ⟨w2.heap.size, 6, none⟩ (.slice (some ⟨b4, 0, none⟩) hf hf)) w2.heap.size gm P r z log :=
    ⟨⟨g0, CF.cell 0 rfl, MF, Ne.symm HGG.out⟩, CF.cell 1 rfl, CF.cell 2 rfl, ⟨(.slice (some ⟨b1, 0, none⟩) hf hf), (.slice (some ⟨b2, 0, none⟩) hf hf), CF.cell 3 rfl, CF.cell 5 rfl, by rw [← HQ.out, ← HHF.out]; exact PA⟩, ⟨(.slice (some ⟨b3, 0, none⟩) hf hf), (.slice (some ⟨b4, 0, none⟩) hf hf), CF.cell 4 rfl, CF.cell 6 rfl, by rw [← HQ.out, ← HHF.out]; exact PB⟩,
      ⟨u, CF.cell 7 rfl, un0, un1, by rw [← HQ.out]; exact UC.out⟩, by have := HGM.out; have := HTS.out; omega, h10, BD.out, ⟨z0, z1⟩, ZC.out, NEG.out⟩
  have PLH := Lib.hid PL
  have KFH := Lib.hid KF
  clear PL KF PA PB CF MF g2 pw2 k6
  go_wp2
  go_ret2
  exact ⟨w2.heap.size, z, rfl, PLH.out, HTS.out, KFH.out⟩
end Go.Proofs.YtldkiddoajlohaaGreatDoor

/- Which primes there are plans of. Plain. -/
namespace Go.Proofs.YtldkiddoajlohaaGreatDoor

structure OkP (p x0 : Nat) : Prop where
  pm : Pm p
  is : isP p = true
  x2 : 2 ≤ x0
  x64 : x0 < 2 ^ 63
  x : (x0 : Int) ^ ((p - 1) / 2) % p = p - 1
  no : ∀ x, 2 ≤ x → x < x0 → (x : Int) ^ ((p - 1) / 2) % p ≠ p - 1
theorem OkP.ok {p x0 L : Nat} (h : OkP p x0) (hL : L ≤ 10) (hd : (p - 1) % 2 ^ L = 0) : Ok p L x0 := ⟨h.pm, h.is, hL, hd, h.x2, h.x64, h.x, h.no⟩
def okB (p x0 : Nat) : Bool := decide (3 ≤ p) && decide (p < 4611686018427387904) && decide (p % 2 = 1) && isF p && decide (2 ≤ x0) && decide (x0 < 100) && decide (pmF 64 x0 ((p - 1) / 2) p = p - 1) && (List.range x0).all fun x => decide (x < 2) || decide (pmF 64 x ((p - 1) / 2) p ≠ p - 1)
theorem okP_of {p x0 : Nat} (h : okB p x0 = true) : OkP p x0 := by
  unfold okB at h
  simp only [Bool.and_eq_true, decide_eq_true_eq, List.all_eq_true, Bool.or_eq_true] at h
  obtain ⟨⟨⟨⟨⟨⟨⟨h1, h2⟩, h3⟩, h4⟩, h5⟩, h6⟩, h7⟩, h8⟩ := h
  have hE : (p - 1) / 2 < 2 ^ 64 := by omega
  have pw : ∀ a : Nat, (a : Int) ^ ((p - 1) / 2) % (p : Int) = ((pmF 64 a ((p - 1) / 2) p : Nat) : Int) := fun a => by
    rw [← Int.natCast_pow, ← Int.natCast_emod, ← pmF_spec 64 a _ p hE]
  refine ⟨⟨by omega, by omega, by omega⟩, by rw [isF_eq (by omega)]; exact h4, h5, by omega, by rw [pw, h7]; omega, fun x a b => ?_⟩
  rw [pw]
  rcases h8 x (List.mem_range.2 b) with k | k
  · omega
  · omega
def fieldL : List Nat := [17, 97, 193, 257, 769, 12289, 40961, 65537, 998244353, 180143985094819841, 1945555039024054273, 4179340454199820289]
def fieldX : List Nat := [3, 5, 5, 3, 7, 11, 3, 3, 3, 3, 5, 3]
theorem field_ok : ((List.range 12).all fun i => okB (fieldL.getD i 0) (fieldX.getD i 0)) = true := by decide +kernel
theorem field_at (i : Nat) (hi : i < 12) : OkP (fieldL.getD i 0) (fieldX.getD i 0) := okP_of (List.all_eq_true.1 field_ok i (List.mem_range.2 hi))
end Go.Proofs.YtldkiddoajlohaaGreatDoor

/- Transforms: the statements' plans. -/
namespace Go.Proofs.YtldkiddoajlohaaGreatDoor
open Go.RowKit

theorem results_tmp5 {fn : Func} {a b c d e : Tmp} (h : fn.results = #[.tmp a, .tmp b, .tmp c, .tmp d, .tmp e]) (tmps : Array Value) (P : Program) (w : World) :
    (results fn tmps).run P w = .ok (.tuple #[tmps.getD a undef, tmps.getD b undef, tmps.getD c undef, tmps.getD d undef, tmps.getD e undef]) w := by
  simp [results, h]
theorem cell_alloc_new (w : World) (cs : Array Value) (t : TypeId) (j : Nat) : (w.alloc (.cells cs t)).cell? ⟨w.heap.size, j, none⟩ = cs[j]? := by
  unfold World.cell?
  have : (w.alloc (.cells cs t)).heap[w.heap.size]? = some (.cells cs t) := by unfold World.alloc; exact Array.getElem?_push_size
  simp only [this]
  rfl
theorem mt_newT (w : World) (g : Nat) (cs : Array Value) (t : TypeId) (T : Nat → Option Value) (hg : g = w.heap.size) (h0 : cs[0]? = some (.int .i64 0)) (h1 : cs[1]? = some (.int .i64 0)) (h2 : cs[2]? = some (.int .i64 0)) (hT : ∀ j, 3 ≤ j → cs[j]? = T j) : Mt (w.alloc (.cells cs t)) g 0 0 ⟨0, T⟩ := by
  have C := cs_newg w cs t g hg
  have k0 : cs.toList[0]? = some (.int .i64 0) := by rw [Array.getElem?_toList]; exact h0
  have k1 : cs.toList[1]? = some (.int .i64 0) := by rw [Array.getElem?_toList]; exact h1
  have k2 : cs.toList[2]? = some (.int .i64 0) := by rw [Array.getElem?_toList]; exact h2
  refine ⟨C.cell 0 k0, C.cell 1 k1, C.cell 2 k2, C.free 0 k0, C.free 1 k1, C.free 2 k2, by decide, by decide, by show (0 : Int) ≤ 0; decide, fun j hj => ?_⟩
  subst hg
  rw [cell_alloc_new]
  exact hT j hj
theorem mt_newg (w : World) (g : Nat) (cs : Array Value) (t : TypeId) (hg : g = w.heap.size) (h0 : cs[0]? = some (.int .i64 0)) (h1 : cs[1]? = some (.int .i64 0)) (h2 : cs[2]? = some (.int .i64 0)) (h3 : cs.size = 3) : Mt (w.alloc (.cells cs t)) g 0 0 0 :=
  mt_newT w g cs t _ hg h0 h1 h2 (fun j hj => by show cs[j]? = none; rw [Array.getElem?_eq_none]; omega)
end Go.Proofs.YtldkiddoajlohaaGreatDoor

/- Sums of products by three primes: plain, and memory. -/
namespace Go.Proofs.YtldkiddoajlohaaGreatDoor
open Go.RowKit

theorem cell_kind {w : World} {b g : Nat} {x y : Value} (h : w.cell? ⟨b, 0, none⟩ = some x) (k : w.cell? ⟨g, 0, none⟩ = some y) (hne : x ≠ y) : b ≠ g := fun e => by
  subst e
  rw [h] at k
  exact hne (Option.some.inj k)
theorem Md.mt {w : World} {g gm : Nat} {p a b : Int} {c : Mc} (h : Md w g p) (m : Mt w gm a b c) : g ≠ gm := cell_kind h.c0 m.c0 (by simp)
theorem Db.grown {w w' : World} {gm : Nat} {a b : Int} {c : Mc} (h : Db w) (m : Mt w gm a b c) (g : w.grownBy w' (some gm)) : Db w' := fun i hi => by
  refine gb_cell g (h i hi) ?_
  have := cell_kind (h 0 (by decide)) m.c0 (by simp)
  simpa using this
theorem Crt.grown {w w' : World} {g gm : Nat} {p0 p1 p2 i01 i2 hi lo a b : Int} {c : Mc} (h : Crt w g p0 p1 p2 i01 i2 hi lo) (m : Mt w gm a b c) (k : w.grownBy w' (some gm)) : Crt w' g p0 p1 p2 i01 i2 hi lo := by
  have ng : some g ≠ some gm := by
    have := cell_kind h.c0 m.c0 (by simp)
    simpa using this
  obtain ⟨q0, q1, q2, c0, c1, c2, ⟨g1, m1, d1⟩, ⟨g2, m2, d2⟩, c6, c7, c8, c9, i0, i1, ci, ci2, ehi, elo⟩ := h
  exact ⟨q0, q1, q2, gb_cell k c0 ng, gb_cell k c1 ng, gb_cell k c2 ng, ⟨g1, gb_cell k m1 ng, d1.grown k (by have := d1.mt m; simpa using this)⟩, ⟨g2, gb_cell k m2 ng, d2.grown k (by have := d2.mt m; simpa using this)⟩, gb_cell k c6 ng, gb_cell k c7 ng, gb_cell k c8 ng, gb_cell k c9 ng, i0, i1, ci, ci2, ehi, elo⟩
/-! ### The three primes -/
def pr3 (k : Nat) : Nat := fieldL.getD (9 + k) 0
def px3 (k : Nat) : Nat := fieldX.getD (9 + k) 0
theorem pr3_ok (k : Nat) (hk : k < 3) : OkP (pr3 k) (px3 k) := field_at (9 + k) (by omega)
theorem pr3_div (k L : Nat) (hk : k < 3) (hL : L ≤ 10) : (pr3 k - 1) % 2 ^ L = 0 := by
  have h : (pr3 k - 1) % 2 ^ 10 = 0 := by
    rcases (show k = 0 ∨ k = 1 ∨ k = 2 by omega) with rfl | rfl | rfl <;> decide
  have h1 : 2 ^ L ∣ 2 ^ 10 := Nat.pow_dvd_pow 2 hL
  exact Nat.mod_eq_zero_of_dvd (Nat.dvd_trans h1 (Nat.dvd_of_mod_eq_zero h))
theorem pr3_okL (k L : Nat) (hk : k < 3) (hL : L ≤ 10) : Ok (pr3 k) L (px3 k) := (pr3_ok k hk).ok hL (pr3_div k L hk hL)
/-- A number is known by its three remainders. -/
theorem crt_gen {T F : Int} {p q r : Nat} (c1 : Nat.Coprime p q) (c2 : Nat.Coprime (p * q) r) (hlt : (T - F).natAbs < p * q * r) (h0 : Cg (p : Int) T F) (h1 : Cg (q : Int) T F) (h2 : Cg (r : Int) T F) : T = F := by
  have d : ∀ p : Nat, Cg (p : Int) T F → p ∣ (T - F).natAbs := fun p h => Int.natCast_dvd_natCast.1 (Int.dvd_natAbs.2 (Int.dvd_of_emod_eq_zero (Int.emod_eq_emod_iff_emod_sub_eq_zero.1 h)))
  have k01 := Nat.Coprime.mul_dvd_of_dvd_of_dvd c1 (d _ h0) (d _ h1)
  have k012 := Nat.Coprime.mul_dvd_of_dvd_of_dvd c2 k01 (d _ h2)
  have := Nat.eq_zero_of_dvd_of_lt k012 hlt
  omega
theorem cop01 : Nat.Coprime (pr3 0) (pr3 1) := by decide +kernel
theorem cop2 : Nat.Coprime (pr3 0 * pr3 1) (pr3 2) := by decide +kernel
theorem pr3_prod : pr3 0 * pr3 1 * pr3 2 = 1464775400998524149974961049645758437266489031708901377 := by decide +kernel
theorem crt_one {T F : Int} (hT : T < 1464775400998524149974961049645758437266489031708901377) (hT0 : 0 ≤ T) (hF : F < 1464775400998524149974961049645758437266489031708901377) (hF0 : 0 ≤ F)
    (h0 : Cg ((pr3 0 : Nat) : Int) T F) (h1 : Cg ((pr3 1 : Nat) : Int) T F) (h2 : Cg ((pr3 2 : Nat) : Int) T F) : T = F :=
  crt_gen cop01 cop2 (by rw [pr3_prod]; omega) h0 h1 h2
/-! ### Sums of products of words -/
theorem sumI_nonneg {f : Nat → Int} : ∀ n, (∀ k, k < n → 0 ≤ f k) → 0 ≤ sumI f n
  | 0, _ => Int.le_refl _
  | n + 1, h => by rw [sumI]; exact Int.add_nonneg (sumI_nonneg n fun k hk => h k (by omega)) (h n (by omega))
theorem sumI_le {f : Nat → Int} {c : Int} : ∀ n, (∀ k, k < n → f k ≤ c) → sumI f n ≤ n * c
  | 0, _ => by simp [sumI]
  | n + 1, h => by
    have h1 := sumI_le n fun k hk => h k (by omega)
    have h2 := h n (by omega)
    rw [sumI, show ((n + 1 : Nat) : Int) = (n : Int) + 1 by omega, Int.add_mul, Int.one_mul]
    omega
theorem mul_words {a b : Int} (a0 : 0 ≤ a) (a1 : a < 18446744073709551616) (b0 : 0 ≤ b) (b1 : b < 18446744073709551616) : 0 ≤ a * b ∧ a * b ≤ 340282366920938463463374607431768211456 := by
  refine ⟨Int.mul_nonneg a0 b0, ?_⟩
  have := Int.mul_le_mul (show a ≤ 18446744073709551616 by omega) (show b ≤ 18446744073709551616 by omega) b0 (by decide)
  omega
theorem cv_bound {xs ys : List Int} (hx : Ws xs) (hy : Ws ys) {j : Nat} (hj : j < 2048) : 0 ≤ cv (rd xs) (rd ys) j ∧ cv (rd xs) (rd ys) j < 1464775400998524149974961049645758437266489031708901377 := by
  have b : ∀ t, t < j + 1 → 0 ≤ rd xs t * rd ys (j - t) ∧ rd xs t * rd ys (j - t) ≤ 340282366920938463463374607431768211456 := fun t _ => mul_words (rd_w hx t).1 (rd_w hx t).2 (rd_w hy _).1 (rd_w hy _).2
  refine ⟨sumI_nonneg _ fun t ht => (b t ht).1, ?_⟩
  have h1 := sumI_le (f := fun t => rd xs t * rd ys (j - t)) (j + 1) (fun t ht => (b t ht).2)
  unfold cv
  have h2 : ((j + 1 : Nat) : Int) * 340282366920938463463374607431768211456 ≤ 2048 * 340282366920938463463374607431768211456 := Int.mul_le_mul_of_nonneg_right (by omega) (by decide)
  omega
/-! ### Rows of threes -/
theorem made3 (n : Nat) : (madeCells #[.int .u64 0, .int .u64 0, .int .u64 0] n).toList = nums (List.replicate n 0) := by
  apply List.ext_getElem?
  intro j
  by_cases hj : j < n
  · have h3 : j % 3 = 0 ∨ j % 3 = 1 ∨ j % 3 = 2 := by omega
    rcases h3 with h | h | h <;> simp [madeCells, nums, hj, h]
  · simp [madeCells, nums, hj]
def set3 (xs : List Int) (i : Nat) (a b c : Int) : List Int := ((xs.set (3 * i) a).set (3 * i + 1) b).set (3 * i + 2) c
theorem set3_len (xs : List Int) (i : Nat) (a b c : Int) : (set3 xs i a b c).length = xs.length := by simp [set3]
theorem t3_set3_ne {xs : List Int} {i k : Nat} (h : k ≠ i) (a b c : Int) : t3 (set3 xs i a b c) k = t3 xs k := by
  unfold t3 set3
  rw [rd_set_ne (by omega), rd_set_ne (by omega), rd_set_ne (by omega), rd_set_ne (by omega), rd_set_ne (by omega), rd_set_ne (by omega), rd_set_ne (by omega), rd_set_ne (by omega), rd_set_ne (by omega)]
theorem t3_set3_self {xs : List Int} {i : Nat} (h : 3 * i + 2 < xs.length) {a b c F : Int} (a0 : 0 ≤ a) (b0 : 0 ≤ b) (c0 : 0 ≤ c) (hF : a + 18446744073709551616 * (b + 18446744073709551616 * c) = F) : t3 (set3 xs i a b c) i = F.toNat := by
  have e0 : rd (set3 xs i a b c) (3 * i) = a := by
    unfold set3
    rw [rd_set_ne (by omega), rd_set_ne (by omega), rd_set_self (by omega)]
  have e1 : rd (set3 xs i a b c) (3 * i + 1) = b := by
    unfold set3
    rw [rd_set_ne (by omega), rd_set_self (by rw [List.length_set]; omega)]
  have e2 : rd (set3 xs i a b c) (3 * i + 2) = c := by
    unfold set3
    rw [rd_set_self (by rw [List.length_set, List.length_set]; omega)]
  unfold t3
  rw [e0, e1, e2]
  simp only [val]
  omega
/-- k threes are made. -/
structure Jo3 (F : Nat → Int) (n k : Nat) (xs : List Int) : Prop where
  len : xs.length = n * 3
  ws : Ws xs
  v : ∀ i, i < k → t3 xs i = (F i).toNat
theorem Jo3.start (F : Nat → Int) (n : Nat) : Jo3 F n 0 (List.replicate (n * 3) 0) := ⟨List.length_replicate, ws_replicate _, fun i hi => by omega⟩
theorem Jo3.step {F : Nat → Int} {n k : Nat} {xs : List Int} (h : Jo3 F n k xs) (hk : k < n) {a b c : Int} (ha : 0 ≤ a ∧ a < 18446744073709551616) (hb : 0 ≤ b ∧ b < 18446744073709551616) (hc : 0 ≤ c ∧ c < 18446744073709551616)
    (hF : a + 18446744073709551616 * (b + 18446744073709551616 * c) = F k) : Jo3 F n (k + 1) (set3 xs k a b c) :=
  ⟨by rw [set3_len, h.len], ws_set (ws_set (ws_set h.ws _ ha.1 ha.2) _ hb.1 hb.2) _ hc.1 hc.2, fun i hi => by
    by_cases e : i = k
    · subst e; exact t3_set3_self (by rw [h.len]; omega) ha.1 hb.1 hc.1 hF
    · rw [t3_set3_ne e]; exact h.v i (by omega)⟩
theorem nums_set (xs : List Int) (i : Nat) (a : Int) : (nums xs).set i (.int .u64 a) = nums (xs.set i a) := by simp [nums, List.map_set]
theorem Own3.store {w : World} {base g n c : Nat} {xs : List Int} (h : Own3 w base (.slice (some ⟨g, 0, none⟩) n c) n xs) (j : Nat) {x y z : Int} (hx : 0 ≤ x ∧ x < 18446744073709551616) (hy : 0 ≤ y ∧ y < 18446744073709551616) (hz : 0 ≤ z ∧ z < 18446744073709551616) :
    Own3 (w.setCells g (3 * j) [.int .u64 x, .int .u64 y, .int .u64 z]) base (.slice (some ⟨g, 0, none⟩) n c) n (set3 xs j x y z) ∧ w.grownBy (w.setCells g (3 * j) [.int .u64 x, .int .u64 y, .int .u64 z]) (some g) := by
  obtain ⟨h1, h2, h3⟩ := h
  have s1 := World.ownsRow.stored h1 (3 * j) (.int .u64 x)
  have s2 := World.ownsRow.stored s1.1 (3 * j + 1) (.int .u64 y)
  have s3 := World.ownsRow.stored s2.1 (3 * j + 2) (.int .u64 z)
  have e := s3.1
  rw [nums_set, nums_set, nums_set] at e
  exact ⟨⟨e, ws_set (ws_set (ws_set h2 _ hx.1 hx.2) _ hy.1 hy.2) _ hz.1 hz.2, by rw [set3_len, h3]⟩, gb_trans (gb_trans s1.2 s2.2) s3.2⟩
theorem Own3.there {w : World} {base g n c : Nat} {xs : List Int} (h : Own3 w base (.slice (some ⟨g, 0, none⟩) n c) n xs) (j : Nat) (hj : j < n) : w.there g (3 * j) 3 := fun i hi => by
  refine ⟨?_, World.ownsRow.frozenAt h.1 _⟩
  rw [World.ownsRow.cellAt h.1 (3 * j + i) (by omega), nums_get (by rw [h.2.2]; omega)]
  rfl
theorem make3 (t : TypeId) (ht : Tryz.prog.underlying t = some (.slice 125)) (n : Nat) (hn : n ≤ 1000000) (W : World) :
    (Instr.makeSlice t (.int .i64 n) (.int .i64 n)).run Tryz.prog W = .ok (.slice (some ⟨W.heap.size, 0, none⟩) n n) (W.alloc (.cells (madeCells #[.int .u64 0, .int .u64 0, .int .u64 0] (n * 3)) 125)) := by
  obtain ⟨i, hi, hzz⟩ := Option.map_eq_some_iff.1 info_three
  simp only [Prod.mk.injEq] at hzz
  obtain ⟨hz, hs, hb⟩ := hzz
  have := run_make (P := Tryz.prog) (w := W) t 125 i _ ht hi hz .i64 .i64 n n (by omega) (by omega) (by rw [hb]; omega) (by omega)
  rw [hs] at this
  exact this
theorem own3_made (w : World) (base n : Nat) (hb : base ≤ w.heap.size) (hn : n ≤ 1000000) :
    Own3 (w.alloc (.cells (madeCells #[.int .u64 0, .int .u64 0, .int .u64 0] (n * 3)) 125)) base (.slice (some ⟨w.heap.size, 0, none⟩) n n) n (List.replicate (n * 3) 0) := by
  have := World.ownsRow_lit (base := base) (e := 125) (size := 3) w (madeCells #[.int .u64 0, .int .u64 0, .int .u64 0] (n * 3)) n hb (by unfold maxLen; omega) (by simp [madeCells])
  rw [made3] at this
  exact ⟨this, ws_replicate _, List.length_replicate⟩
end Go.Proofs.YtldkiddoajlohaaGreatDoor

/- Sums of products by three primes: joined. -/
namespace Go.Proofs.YtldkiddoajlohaaGreatDoor
open Go.RowKit

theorem convLog_c (w : World) (S : Nat) (h1 : 1 ≤ S) (h2 : S ≤ 1000000) : Calls Tryz.prog 109 #[.int .i64 S] w fun e w' => e = .returned (.int .i64 (blen (S - 1))) ∧ w' = w := by
  obtain ⟨M, hM⟩ : ∃ M : Int, M = (S : Int) - 1 := ⟨_, rfl⟩
  have eM : (S : Int) - 1 = M := hM.symm
  have hw : IntKind.u64.wrap M = M := by rw [IntKind.wrap_u64]; omega
  have T := fun w => len64_c M (by omega) (by omega) w
  rw [show M.toNat = S - 1 by omega] at T
  obtain ⟨B, hB⟩ : ∃ B, B = blen (S - 1) := ⟨_, rfl⟩
  rw [← hB] at T ⊢
  have HT := Lib.hid T
  have b0 : 0 ≤ M ∧ M < 1000000 := by omega
  clear T hM hB
  go_enter Tryz.func109, Tryz.ntmps109
  go_wp2_with fail
  refine (HT.out _).mono ?_
  rintro e w1 ⟨rfl, hw1⟩
  subst hw1
  go_wp2
  go_ret
  exact ⟨rfl, rfl⟩
theorem Own3.mono {w : World} {base base' n : Nat} {v : Value} {xs : List Int} (h : Own3 w base v n xs) (hb : base' ≤ base) : Own3 w base' v n xs := by
  refine ⟨⟨h.1.1, ?_⟩, h.2⟩
  rcases h.1.2 with h1 | ⟨g, cap, cur, hv, hg, r⟩
  · exact .inl h1
  · exact .inr ⟨g, cap, cur, hv, Nat.le_trans hb hg, r⟩
theorem Own3.cell3 {w : World} {base g n c : Nat} {xs : List Int} (h : Own3 w base (.slice (some ⟨g, 0, none⟩) n c) n xs) (i : Nat) (hi : i < n) (k : Nat) (hk : k < 3) : w.cell? ⟨g, i * 3 + k, none⟩ = some (.int .u64 (rd xs (i * 3 + k))) := by
  rw [World.ownsRow.cellAt h.1 (i * 3 + k) (by omega), nums_get (by rw [h.2.2]; omega)]
theorem Own3.free3 {w : World} {base g n c : Nat} {xs : List Int} (h : Own3 w base (.slice (some ⟨g, 0, none⟩) n c) n xs) (j : Nat) : w.frozen? ⟨g, j, none⟩ = false := World.ownsRow.frozenAt h.1 j
/-- Rows of residues in an array. -/
structure LJ (w : World) (base gl n : Nat) (F : Nat → Int) (k : Nat) : Prop where
  fr : ∀ i, i < 3 → w.frozen? ⟨gl, i, none⟩ = false
  ce : ∀ i, i < 3 → ∃ v, w.cell? ⟨gl, i, none⟩ = some v
  v : ∀ i, i < k → ∃ g cs n' cp, n ≤ n' ∧ w.cell? ⟨gl, i, none⟩ = some (.slice (some ⟨g, 0, none⟩) n' cp) ∧ Own w base (.slice (some ⟨g, 0, none⟩) n' cp) cs ∧ gl ≠ g ∧ (∀ j, j < n → rd cs j = F j % ((pr3 i : Nat) : Int))
theorem LJ.grown {w w' : World} {base gl n k gm : Nat} {F : Nat → Int} (h : LJ w base gl n F k) (hb : gm < base) (hl : base ≤ gl) (g : w.grownBy w' (some gm)) : LJ w' base gl n F k := by
  have hne : some gl ≠ some gm := by simp; omega
  refine ⟨fun i hi => ?_, fun i hi => ?_, fun i hi => ?_⟩
  · obtain ⟨v, hv⟩ := h.ce i hi
    have hb := g.block gl (World.block_lt_of_cell? w _ hv) hne
    exact (World.frozen?_of_block hb).trans (h.fr i hi)
  · obtain ⟨v, hv⟩ := h.ce i hi
    exact ⟨v, gb_cell g hv hne⟩
  · obtain ⟨g1, cs, n', cp, h0, h1, h2, h3, h4⟩ := h.v i hi
    exact ⟨g1, cs, n', cp, h0, gb_cell g h1 hne, h2.past g (by have := h2.base_le.1; omega), h3, h4⟩
theorem LJ.grown0 {w w' : World} {base gl n k : Nat} {F : Nat → Int} (h : LJ w base gl n F k) (g : w.grownBy w' none) : LJ w' base gl n F k := by
  refine ⟨fun i hi => ?_, fun i hi => ?_, fun i hi => ?_⟩
  · obtain ⟨v, hv⟩ := h.ce i hi
    have hb := g.block gl (World.block_lt_of_cell? w _ hv) (by simp)
    exact (World.frozen?_of_block hb).trans (h.fr i hi)
  · obtain ⟨v, hv⟩ := h.ce i hi
    exact ⟨v, gb_cell0 g hv⟩
  · obtain ⟨g1, cs, n', cp, h0, h1, h2, h3, h4⟩ := h.v i hi
    exact ⟨g1, cs, n', cp, h0, gb_cell0 g h1, h2.grown0 g, h3, h4⟩
theorem LJ.step {w : World} {base gl n n' k g cp : Nat} {F : Nat → Int} {cs : List Int} (h : LJ w base gl n F k) (hk : k < 3) (hn' : n ≤ n') (ow : Own w base (.slice (some ⟨g, 0, none⟩) n' cp) cs) (hne : gl ≠ g) (hv : ∀ j, j < n → rd cs j = F j % ((pr3 k : Nat) : Int)) :
    LJ (w.setCell ⟨gl, k, none⟩ (.slice (some ⟨g, 0, none⟩) n' cp)) base gl n F (k + 1) := by
  have G := gb_rowC (gb_refl w (some gl)) k (.slice (some ⟨g, 0, none⟩) n' cp)
  obtain ⟨v0, hv0⟩ := h.ce k hk
  refine ⟨fun i hi => by rw [World.frozen?_setCell]; exact h.fr i hi, fun i hi => ?_, fun i hi => ?_⟩
  · by_cases e : k = i
    · subst e; exact ⟨_, World.cell?_setCell_same _ _ _ hv0⟩
    · obtain ⟨v, hv⟩ := h.ce i hi
      exact ⟨v, (cell_ne _ _ _ _ _ e).trans hv⟩
  · by_cases e : k = i
    · subst e; exact ⟨g, cs, n', cp, hn', World.cell?_setCell_same _ _ _ hv0, ow.past G (Ne.symm hne), hne, hv⟩
    · obtain ⟨g1, cs1, n1, cp1, h0, h1, h2, h3, h4⟩ := h.v i (by omega)
      exact ⟨g1, cs1, n1, cp1, h0, (cell_ne _ _ _ _ _ e).trans h1, h2.past G (Ne.symm h3), h3, h4⟩
theorem crt_cell {w : World} {g : Nat} {i01 i2 hi lo : Int} (h : Crt w g ((pr3 0 : Nat) : Int) ((pr3 1 : Nat) : Int) ((pr3 2 : Nat) : Int) i01 i2 hi lo) (k : Nat) (hk : k < 3) : w.cell? ⟨g, k, none⟩ = some (.int .u64 ((pr3 k : Nat) : Int)) := by
  rcases (show k = 0 ∨ k = 1 ∨ k = 2 by omega) with rfl | rfl | rfl
  · exact h.c0
  · exact h.c1
  · exact h.c2
/-- What is asked of the function that is handed over. -/
def OneC (w : World) (gm n L fk : Nat) (b : Int) (c : Mc) (K : Int) (F : Nat → Int) (caps : Array Value) : Prop :=
  (∀ args w, (callFunc fk args).run Tryz.prog w = .ok (.enter fk args) w) ∧ ∀ (k : Nat) (W : World) (t : Nat) (r z x : Int), k < 3 → w.grownBy W (some gm) → Pl W t gm ((pr3 k : Nat) : Int) r z L → Mt W gm x b c → x ≤ 2000000000000000 →
    Calls Tryz.prog fk (#[.pointer (some ⟨t, 0, none⟩)] ++ caps) W fun e w' => ∃ g cs n' cp, n ≤ n' ∧ e = .returned (.tuple #[.slice (some ⟨g, 0, none⟩) n' cp, .bool true]) ∧ Own w' W.heap.size (.slice (some ⟨g, 0, none⟩) n' cp) cs ∧ (∀ j, j < n → rd cs j = F j % ((pr3 k : Nat) : Int)) ∧
      Mt w' gm (x + K) b c ∧ W.heap.size ≤ g ∧ W.grownBy w' (some gm)
set_option maxRecDepth 100000 in
set_option maxHeartbeats 4000000 in
theorem joined_c (w : World) (gm n S L N fk : Nat) (a b : Int) (c : Mc) (K : Int) (F : Nat → Int) (caps : Array Value) (hS : 1 ≤ S) (hL : L = blen (S - 1)) (hN : N = 2 ^ L) (hL10 : L ≤ 10) (hn : n ≤ N) (hS2 : S ≤ 1000000)
    (hm : Mt w gm a b c) (hd : Db w) (ha : a ≤ 1000000000000000) (hK : 0 ≤ K ∧ K ≤ 1000000) (hF : ∀ j, j < n → 0 ≤ F j ∧ F j < 1464775400998524149974961049645758437266489031708901377) (h1 : OneC w gm n L fk b c K F caps) :
    Calls Tryz.prog 88 #[.pointer (some ⟨gm, 0, none⟩), .int .i64 n, .int .i64 S, .func (.func fk) #[] caps] w fun e w' => ∃ g os, e = .returned (.tuple #[.slice (some ⟨g, 0, none⟩) n n, .bool true]) ∧ Own3 w' w.heap.size (.slice (some ⟨g, 0, none⟩) n n) n os ∧ Jo3 F n n os ∧
      Mt w' gm (a + 3 * K + 6 * N) b c ∧ w.heap.size ≤ g ∧ w.grownBy w' (some gm) := by
  have hN10 : N ≤ 1024 := by rw [hN]; exact Nat.pow_le_pow_right (by decide) hL10
  have hgm : gm < w.heap.size := World.block_lt_of_cell? w _ hm.c0
  obtain ⟨P0, hP0⟩ : ∃ P : Int, P = ((pr3 0 : Nat) : Int) := ⟨_, rfl⟩
  obtain ⟨P1, hP1⟩ : ∃ P : Int, P = ((pr3 1 : Nat) : Int) := ⟨_, rfl⟩
  obtain ⟨P2, hP2⟩ : ∃ P : Int, P = ((pr3 2 : Nat) : Int) := ⟨_, rfl⟩
  have BG := fun w => begun_c w P0 P1 P2 (by rw [hP0]; rfl) (by rw [hP1]; rfl) (by rw [hP2]; rfl)
  rw [hP0, hP1, hP2] at BG
  have LG := fun w => convLog_c w S hS hS2
  rw [← hL] at LG
  have okk : ∀ k, k < 3 → Ok (pr3 k) L (px3 k) := fun k hk => pr3_okL k L hk hL10
  have HB := Lib.hid BG
  have HLG := Lib.hid LG
  have HOK := Lib.hid okk
  have HM := Lib.hid hm
  have HD := Lib.hid hd
  have HF := Lib.hid hF
  obtain ⟨ent, h1⟩ := h1
  have H1 := Lib.hid h1
  have HN := Lib.hid hN
  have HL := Lib.hid hL
  have HGM := Lib.hid hgm
  have a0 := hm.a0
  have HA0 := Lib.hid (And.intro a0 ha)
  obtain ⟨K0, K1⟩ := hK
  clear BG LG okk hm hd hF h1 hP0 hP1 hP2 P0 P1 P2 hgm a0 ha hL hN
  go_enter Tryz.func88, Tryz.ntmps88
  go_wp2_with fail
  refine (HB.out _).mono ?_
  rintro e w1 ⟨gc, i01, i2, chi, clo, rfl, C, g1⟩
  have CR := Lib.hid C
  have G1 := Lib.hid g1
  have HGM1 : Hid (gm < w1.heap.size) := Lib.hid (Nat.lt_of_lt_of_le HGM.out g1.size)
  have HD1 := Lib.hid (HD.out.grown HM.out (gb_none g1 (some gm)))
  have HM1 := Lib.hid (HM.out.grown g1)
  clear C g1 HD HM
  go_wp2
  have G3 := gb_alloc (gb_refl w1 (some gm)) (Obj.cells #[.slice none 0 0, .slice none 0 0, .slice none 0 0] 128)
  have C3 := cs_new w1 #[.slice none 0 0, .slice none 0 0, .slice none 0 0] 128
  have lj0 : LJ (w1.alloc (Obj.cells #[.slice none 0 0, .slice none 0 0, .slice none 0 0] 128)) w1.heap.size w1.heap.size n F 0 := by
    have k : ∀ i, i < 3 → ([Value.slice none 0 0, .slice none 0 0, .slice none 0 0] : List Value)[i]? = some (.slice none 0 0) := fun i hi => by
      rcases (show i = 0 ∨ i = 1 ∨ i = 2 by omega) with rfl | rfl | rfl <;> rfl
    exact ⟨fun i hi => C3.free i (k i hi), fun i hi => ⟨_, C3.cell i (k i hi)⟩, fun i hi => by omega⟩
  have LJ0 := Lib.hid lj0
  have GG0 := Lib.hid G3
  have MM0 := Lib.hid (HM1.out.grown (gb_alloc (gb_refl w1 none) (Obj.cells #[.slice none 0 0, .slice none 0 0, .slice none 0 0] 128)))
  clear G3 C3 lj0
  go_loopw [20] (fun v20 wr => ∃ k : Nat, v20 = .int .i64 k ∧ k ≤ 3 ∧ LJ wr w1.heap.size w1.heap.size n F k ∧ Mt wr gm (a + k * K) b c ∧ w1.grownBy wr (some gm)) (fun v20 _ => 3 - (intOf v20).toNat)
  case atStart => exact ⟨0, rfl, by omega, LJ0.out, by have := MM0.out; simpa using this, GG0.out⟩
  case round =>
    clear LJ0 GG0 MM0
    obtain ⟨k, rfl, hk, lj, m, G⟩ := hrel
    have LJK := Lib.hid lj
    have MK := Lib.hid m
    have GK := Lib.hid G
    clear lj m G
    obtain ⟨wo, rfl⟩ : ∃ wo : World, wo = wr := ⟨_, rfl⟩
    by_cases hlt : k < 3
    · have f0 := crt_cell (CR.out.grown HM1.out GK.out) k hlt
      have NW := new_c wo.drew gm (pr3 k) L (px3 k) (HOK.out k hlt) (Nat.lt_of_lt_of_le HGM1.out GK.out.size) ((HD1.out.grown HM1.out (gb_drew GK.out)))
      have hX : a + k * K ≤ 2000000000000000 := by
        have h1 : (k : Int) * K ≤ 3 * 1000000 := Int.mul_le_mul (by omega) K1 K0 (by decide)
        have := HA0.out.2
        omega
      obtain ⟨P, hP⟩ : ∃ P : Int, P = ((pr3 k : Nat) : Int) := ⟨_, rfl⟩
      rw [← hP] at f0 NW
      have HP := Lib.hid hP
      have HNW := Lib.hid NW
      have hF : Canon.SF [(⟨gc, k, none⟩, .int .u64 P)] wo := Canon.sf_cons f0 (Canon.sf_nil _)
      have HSF := Lib.hid hF
      clear hF hP NW
      go_wp2
      refine Canon.region_held [30] _ (by kernel_rfl) (by kernel_rfl) HSF.out ?_
      refine Canon.segs_at 8 _ _ _ (by kernel_rfl) ?_
      simp only [List.take_succ_cons, List.take_zero, List.drop_succ_cons, List.drop_zero]
      go_wp2_with fail
      refine (HLG.out _).mono ?_
      rintro e wx ⟨rfl, hwx⟩
      subst hwx
      go_wp2
      refine ⟨HSF.out.drew, ?_⟩
      refine Canon.segs_at 0 _ _ _ (by kernel_rfl) ?_
      simp only [List.take_succ_cons, List.take_zero, List.drop_succ_cons, List.drop_zero]
      go_wp2_with fail
      refine (HNW.out).mono ?_
      rintro e wy ⟨t, z, rfl, pl, ht, gy⟩
      have PL := Lib.hid pl
      have GY := Lib.hid (gb_trans (gb_drew GK.out) (gb_none gy (some gm)))
      have MY := Lib.hid (MK.out.drew.grown gy)
      have LY := Lib.hid ((LJK.out.grown0 (gb_drew (gb_refl _ none))).grown0 gy)
      have HSF2 := Lib.hid (Canon.sf_grown0 HSF.out.drew gy)
      clear pl gy LJK GK MK HSF ht
      go_wp2
      refine ⟨HSF2.out, ?_⟩
      refine Canon.segs_end _ _ _ (by kernel_rfl) ?_
      go_wp2
      refine ⟨by kernel_rfl, by kernel_rfl, by kernel_rfl, ?_⟩
      clear HSF2 HNW f0
      have ON := H1.out k wy t _ z _ hlt (gb_trans (gb_none G1.out (some gm)) GY.out) (by rw [← HP.out]; exact PL.out) MY.out hX
      have HON := Lib.hid ON
      clear ON hX
      go_wp2_with fail
      refine (HON.out).mono ?_
      rintro e wz ⟨g, cs, n', cp, hn', rfl, ow, hv, mz, hg, gz⟩
      have OW := Lib.hid (ow.mono (base' := w1.heap.size) GY.out.size)
      have HV := Lib.hid hv
      have MZ := Lib.hid mz
      have GZ := Lib.hid (gb_trans GY.out gz)
      have LZ := Lib.hid (LY.out.grown HGM1.out (Nat.le_refl _) gz)
      have hne : w1.heap.size ≠ g := by
        obtain ⟨v, hv⟩ := LY.out.ce k hlt
        have := World.block_lt_of_cell? wy _ hv
        simp at this; omega
      have NE := Lib.hid hne
      obtain ⟨v0, cl0⟩ := LZ.out.ce k hlt
      have fl0 := LZ.out.fr k hlt
      clear ow hv mz hg gz hne HON PL LY MY GY
      go_wp2
      go_roundw
      case rel =>
        refine ⟨k + 1, by go_num, by omega, LZ.out.step hlt hn' OW.out NE.out HV.out, ?_, ?_⟩
        · have := MZ.out.row (gb_rowC (gb_refl wz (some w1.heap.size)) k (.slice (some ⟨g, 0, none⟩) n' cp)) (by have := HGM1.out; omega)
          have e : a + k * K + K = a + ((k + 1 : Nat) : Int) * K := by rw [Int.natCast_add, Int.add_mul]; omega
          rw [e] at this
          exact this
        · exact gb_set (p := ⟨w1.heap.size, k, none⟩) GZ.out (Nat.le_refl _) _
      case measure => simp [intOf]; omega
    · obtain rfl : k = 3 := by omega
      clear hk hlt ent H1 HOK HD1
      obtain ⟨x, hx⟩ : ∃ x, x = a + 3 * K := ⟨_, rfl⟩
      have e3 : a + ((3 : Nat) : Int) * K = x := hx.symm
      rw [e3] at MK
      have hxb : 0 ≤ x ∧ x ≤ 2000000000000000 := by have := HA0.out; omega
      have HX := Lib.hid hx
      have eq : (2 : Int) ^ L = (N : Int) := by rw [HN.out, Int.natCast_pow]; rfl
      have hw2 : IntKind.i64.wrap (6 * 2 ^ L) = 6 * (N : Int) := by rw [eq, IntKind.wrap_i64]; omega
      have mk := make3 107 (by kernel_rfl) n (by omega)
      have SP := spend_c wo gm x b c (6 * (N : Int)) MK.out (by omega) (by omega)
      have e6 : (if 6 * (N : Int) > 0 then x + 6 * (N : Int) else x) = x + 6 * N := by split <;> omega
      rw [e6] at SP
      have HSP := Lib.hid SP
      clear hx e3 SP e6 eq MK
      go_wp2_with fail
      refine (HLG.out _).mono ?_
      rintro e wx ⟨rfl, hwx⟩
      subst hwx
      go_wp2_with fail
      refine (HSP.out).mono ?_
      rintro e wa ⟨rfl, ma, mo⟩
      have MA := Lib.hid ma
      have GA := Lib.hid (gb_trans GK.out mo.gb)
      have LA := Lib.hid (LJK.out.grown HGM1.out (Nat.le_refl _) mo.gb)
      have CA := Lib.hid (CR.out.grown HM1.out GA.out)
      have O0 := Lib.hid (own3_made wa wa.heap.size n (Nat.le_refl _) (by omega))
      have J0 := Lib.hid (Jo3.start F n)
      have G0 := Lib.hid (gb_alloc (gb_refl wa none) (Obj.cells (madeCells #[.int .u64 0, .int .u64 0, .int .u64 0] (n * 3)) 125))
      clear ma mo HSP GK LJK CR hw2
      go_wp2
      clear mk
      go_loopw [60] (fun v60 wr => ∃ (i : Nat) (os : List Int), v60 = .int .i64 i ∧ i ≤ n ∧ Jo3 F n i os ∧ Own3 wr wa.heap.size (.slice (some ⟨wa.heap.size, 0, none⟩) n n) n os ∧ wa.grownBy wr none) (fun v60 _ => n - (intOf v60).toNat)
      case atStart => exact ⟨0, _, rfl, by omega, J0.out, O0.out, G0.out⟩
      case round =>
        clear J0 O0 G0
        obtain ⟨i, os, rfl, hi, jo, ow, G⟩ := hrel
        have JO := Lib.hid jo
        have OW := Lib.hid ow
        have GG := Lib.hid G
        clear jo ow G
        obtain ⟨wi, rfl⟩ : ∃ wi : World, wi = wr := ⟨_, rfl⟩
        by_cases hin : i < n
        · have lw := LA.out.grown0 GG.out
          obtain ⟨ga0, cs0, nn0, cp0, le0, c0, ow0, _, hv0⟩ := lw.v 0 (by decide)
          obtain ⟨ga1, cs1, nn1, cp1, le1, c1, ow1, _, hv1⟩ := lw.v 1 (by decide)
          obtain ⟨ga2, cs2, nn2, cp2, le2, c2, ow2, _, hv2⟩ := lw.v 2 (by decide)
          have d0 := ow0.cell i (by rw [← ow0.len]; omega)
          have d1 := ow1.cell i (by rw [← ow1.len]; omega)
          have d2 := ow2.cell i (by rw [← ow2.len]; omega)
          rw [hv0 i hin] at d0
          rw [hv1 i hin] at d1
          rw [hv2 i hin] at d2
          obtain ⟨P0, hP0⟩ : ∃ P : Int, P = ((pr3 0 : Nat) : Int) := ⟨_, rfl⟩
          obtain ⟨P1, hP1⟩ : ∃ P : Int, P = ((pr3 1 : Nat) : Int) := ⟨_, rfl⟩
          obtain ⟨P2, hP2⟩ : ∃ P : Int, P = ((pr3 2 : Nat) : Int) := ⟨_, rfl⟩
          have q0 : 0 < P0 ∧ P0 < 4611686018427387904 := by rw [hP0]; decide
          have q1 : 0 < P1 ∧ P1 < 4611686018427387904 := by rw [hP1]; decide
          have q2 : 0 < P2 ∧ P2 < 4611686018427387904 := by rw [hP2]; decide
          have HPP : Hid (P0 = ((pr3 0 : Nat) : Int) ∧ P1 = ((pr3 1 : Nat) : Int) ∧ P2 = ((pr3 2 : Nat) : Int)) := Lib.hid ⟨hP0, hP1, hP2⟩
          rw [← hP0] at d0
          rw [← hP1] at d1
          rw [← hP2] at d2
          obtain ⟨r0, hr0⟩ : ∃ r, r = F i % P0 := ⟨_, rfl⟩
          obtain ⟨r1, hr1⟩ : ∃ r, r = F i % P1 := ⟨_, rfl⟩
          obtain ⟨r2, hr2⟩ : ∃ r, r = F i % P2 := ⟨_, rfl⟩
          rw [← hr0] at d0
          rw [← hr1] at d1
          rw [← hr2] at d2
          have b0 : 0 ≤ r0 ∧ r0 < P0 := by rw [hr0]; exact ⟨Int.emod_nonneg _ (by omega), Int.emod_lt_of_pos _ q0.1⟩
          have b1 : 0 ≤ r1 ∧ r1 < P1 := by rw [hr1]; exact ⟨Int.emod_nonneg _ (by omega), Int.emod_lt_of_pos _ q1.1⟩
          have b2 : 0 ≤ r2 ∧ r2 < P2 := by rw [hr2]; exact ⟨Int.emod_nonneg _ (by omega), Int.emod_lt_of_pos _ q2.1⟩
          have T3 := crt3_c wi.drew gc P0 P1 P2 i01 i2 chi clo r0 r1 r2 (by have := (CA.out.grown0 GG.out).grown0 (gb_drew (gb_refl _ none)); rw [← hP0, ← hP1, ← hP2] at this; exact this) b0.1 b0.2 b1.1 b2.1
          have HT3 := Lib.hid T3
          have HR : Hid (r0 = F i % P0 ∧ r1 = F i % P1 ∧ r2 = F i % P2) := Lib.hid ⟨hr0, hr1, hr2⟩
          clear hr0 hr1 hr2 hP0 hP1 hP2 T3 lw ow0 ow1 ow2 hv0 hv1 hv2
          go_wp2
          refine Canon.region_canon (by kernel_rfl) (by kernel_rfl) ?_
          go_wp2_with fail
          refine (HT3.out).mono ?_
          rintro e wb ⟨x0, x1, x2, rfl, bx0, bx1, bx2, hlt, m0, m1, m2, gb⟩
          have hs : 0 ≤ x0 + 18446744073709551616 * (x1 + 18446744073709551616 * x2) := by omega
          have hFi : x0 + 18446744073709551616 * (x1 + 18446744073709551616 * x2) = F i := by
            have hf := HF.out i hin
            obtain ⟨e0, e1, e2⟩ := HPP.out
            obtain ⟨s0, s1, s2⟩ := HR.out
            have hpp : P0 * P1 * P2 = 1464775400998524149974961049645758437266489031708901377 := by rw [e0, e1, e2]; decide +kernel
            rw [hpp] at hlt
            refine crt_one hlt hs hf.2 hf.1 ?_ ?_ ?_
            · rw [← e0]; rw [s0] at m0; exact m0.trans (Cg.mod _ _)
            · rw [← e1]; rw [s1] at m1; exact m1.trans (Cg.mod _ _)
            · rw [← e2]; rw [s2] at m2; exact m2.trans (Cg.mod _ _)
          have OB := Lib.hid (OW.out.grown0 (gb_trans (gb_drew (gb_refl _ none)) gb))
          have GB := Lib.hid (gb_trans (gb_drew GG.out) gb)
          have JB := Lib.hid (JO.out.step hin bx0 bx1 bx2 hFi)
          have dd0 := OB.out.cell3 i hin 0 (by decide)
          have dd1 := OB.out.cell3 i hin 1 (by decide)
          have dd2 := OB.out.cell3 i hin 2 (by decide)
          have df0 := OB.out.free3 (i * 3 + 0)
          have df1 := OB.out.free3 (i * 3 + 1)
          have df2 := OB.out.free3 (i * 3 + 2)
          rw [Nat.add_zero] at dd0 df0
          obtain ⟨y0, hy0⟩ : ∃ y, y = rd os (i * 3) := ⟨_, rfl⟩
          obtain ⟨y1, hy1⟩ : ∃ y, y = rd os (i * 3 + 1) := ⟨_, rfl⟩
          obtain ⟨y2, hy2⟩ : ∃ y, y = rd os (i * 3 + 2) := ⟨_, rfl⟩
          rw [← hy0] at dd0
          rw [← hy1] at dd1
          rw [← hy2] at dd2
          clear HR HPP hlt m0 m1 m2 gb hs hFi c0 c1 c2 d0 d1 d2 HT3 hy0 hy1 hy2
          go_wp2
          refine ⟨by kernel_rfl, ?_⟩
          clear dd0 dd1 dd2 df0 df1 df2
          go_wp2
          go_roundw
          case rel =>
            have os := OB.out.store i bx0 bx1 bx2
            have es : wb.setCells wa.heap.size (3 * i) [.int .u64 x0, .int .u64 x1, .int .u64 x2] = ((wb.setCell ⟨wa.heap.size, i * 3, none⟩ (.int .u64 x0)).setCell ⟨wa.heap.size, i * 3 + 1, none⟩ (.int .u64 x1)).setCell ⟨wa.heap.size, i * 3 + 2, none⟩ (.int .u64 x2) := by
              rw [Nat.mul_comm]; rfl
            rw [es] at os
            exact ⟨i + 1, _, by go_num, by omega, JB.out, os.1, gb_new GB.out os.2 (fun i hi => by cases hi; exact Nat.le_refl _)⟩
          case measure => simp [intOf]; omega
        · obtain rfl : i = n := by omega
          clear hi hin
          have HE : Hid (w1.grownBy wi (some gm)) := Lib.hid (gb_trans GA.out (gb_none GG.out _))
          have ME := Lib.hid (MA.out.grown GG.out)
          have HWA : Hid (w.heap.size ≤ wa.heap.size) := Lib.hid (Nat.le_trans G1.out.size GA.out.size)
          go_wp2
          go_ret2
          refine ⟨wa.heap.size, os, rfl, ?_, JO.out, ?_, HWA.out, gb_trans (gb_none G1.out _) HE.out⟩
          · exact OW.out.mono HWA.out
          · have := ME.out
            rw [HX.out] at this
            exact this
end Go.Proofs.YtldkiddoajlohaaGreatDoor

/- Products by transforms: plain. -/
namespace Go.Proofs.YtldkiddoajlohaaGreatDoor
open Go.RowKit

/-- What a product by transforms costs. -/
def transf (n m ways : Nat) : Nat := 3 * (ways * (2 ^ blen (n + m - 1) / 2) * blen (n + m - 1) + 2 * 2 ^ blen (n + m - 1)) + 6 * 2 ^ blen (n + m - 1)
theorem blen_lt (x : Nat) : x < 2 ^ blen x := by
  unfold blen
  split
  · rename_i h; rw [h]; decide
  · exact Nat.lt_log2_self
theorem blen10 {n m : Nat} (h : n + m ≤ 1024) : blen (n + m - 1) ≤ 10 := blen_le _ 10 (by omega)
theorem le_size {n m : Nat} (_h : 0 < n) : n + m ≤ 2 ^ blen (n + m - 1) := by
  have := blen_lt (n + m - 1)
  omega
theorem sumT_int (t : Nat → Nat) : ∀ n, ((sumT t n : Nat) : Int) = sumI (fun i => (t i : Int) * 18446744073709551616 ^ (1 * i)) n
  | 0 => rfl
  | n + 1 => by
    rw [sumT, sumI, ← sumT_int t n, Nat.one_mul, Int.natCast_add, Int.natCast_mul, Int.natCast_pow, Int.mul_comm ((t n : Nat) : Int)]
    rfl
theorem val_int (xs : List Int) (h : Ws xs) : ∀ k, k ≤ xs.length → ((val B64 (xs.take k) : Nat) : Int) = sumI (fun i => rd xs i * 18446744073709551616 ^ (1 * i)) k
  | 0, _ => by rw [List.take_zero]; rfl
  | k + 1, hk => by
    rw [val_take_succ B64 (by omega), sumI, ← val_int xs h k (by omega), Int.natCast_add, Int.natCast_mul, Int.natCast_pow, Nat.one_mul, Int.toNat_of_nonneg (rd_w h k).1, Int.mul_comm (rd xs k)]
    rfl
theorem val_ft {xs : List Int} (h : Ws xs) {N : Nat} (hN : xs.length ≤ N) : ((val B64 xs : Nat) : Int) = ft (rd xs) 18446744073709551616 N 1 := by
  have e := val_int xs h xs.length (Nat.le_refl _)
  rw [List.take_length] at e
  rw [e]
  unfold ft
  exact (sumI_tail N hN fun t h1 _ => by rw [rd_beyond h1, Int.zero_mul]).symm
theorem mul_sums {al bs os : List Int} {n : Nat} (ha : Ws al) (hb : Ws bs) (hn : al.length + bs.length ≤ n + 1) (h1 : al.length ≤ n) (h2 : bs.length ≤ n) (hn2 : n ≤ 2048) (h : Jo3 (cv (rd al) (rd bs)) n n os) : sumT (t3 os) n = val B64 al * val B64 bs := by
  apply Int.ofNat_inj.1
  rw [Int.natCast_mul, val_ft ha h1, val_ft hb h2, ft_mul (rd_zero hn), sumT_int]
  unfold ft
  refine sumI_congr _ fun i hi => ?_
  rw [h.v i hi, Int.toNat_of_nonneg (cv_bound ha hb (by omega)).1]
theorem rd_rowOf {xs : List Int} {n : Nat} (h : xs.length ≤ n) : rd (rowOf xs n) = rd xs := by
  funext j
  unfold rowOf
  rw [Nat.min_eq_left h, List.take_length]
  by_cases hj : j < xs.length
  · rw [rd_app_left hj]
  · rw [rd_app_right (by omega), rd_beyond (xs := xs) (by omega), List.drop_replicate]
    unfold rd
    rw [List.getD_eq_getElem?_getD, List.getElem?_replicate]
    split <;> rfl
theorem may_yes (w : World) (n m : Nat) (hn : 0 < n) (hm : 0 < m) (h : n + m ≤ 1048576) : Calls Tryz.prog 87 #[.int .i64 n, .int .i64 m] w fun e w' => e = .returned (.bool true) ∧ w' = w := by
  go_enter Tryz.func87, Tryz.ntmps87
  go_wp2
  go_ret
  exact ⟨by simp; omega, rfl⟩
theorem may_no0 (w : World) (m : Nat) : Calls Tryz.prog 87 #[.int .i64 0, .int .i64 m] w fun e w' => e = .returned (.bool false) ∧ w' = w := by
  go_enter Tryz.func87, Tryz.ntmps87
  go_wp2
  go_ret
  exact ⟨rfl, rfl⟩
theorem may_no1 (w : World) (n : Nat) (hn : 0 < n) : Calls Tryz.prog 87 #[.int .i64 n, .int .i64 0] w fun e w' => e = .returned (.bool false) ∧ w' = w := by
  go_enter Tryz.func87, Tryz.ntmps87
  go_wp2
  go_ret
  exact ⟨rfl, rfl⟩
theorem may_no (w : World) (n m : Nat) (hn : n = 0 ∨ m = 0) : Calls Tryz.prog 87 #[.int .i64 n, .int .i64 m] w fun e w' => e = .returned (.bool false) ∧ w' = w := by
  by_cases h : n = 0
  · subst h; exact may_no0 w m
  · obtain rfl : m = 0 := by omega
    exact may_no1 w n (by omega)
theorem forwardTN_c (w : World) (t gm : Nat) (p r z a b : Int) (c : Mc) (L N : Nat) (hN : N = 2 ^ L) (v : Value) (xs : List Int) (h : Pl w t gm p r z L) (hm : Mt w gm a b c) (ha : a ≤ 1000000000000000000) (hv : Sl w v xs) (hl : xs.length = N) :
    Calls Tryz.prog 112 #[.pointer (some ⟨t, 0, none⟩), v] w fun e w' => ∃ g os, e = .returned (.tuple #[.slice (some ⟨g, 0, none⟩) N N, .bool true]) ∧ Own w' w.heap.size (.slice (some ⟨g, 0, none⟩) N N) os ∧ Lv p (rd xs) r L L os ∧
      Mt w' gm (a + ((N / 2 * L : Nat) : Int)) b c ∧ w.heap.size ≤ g ∧ w.grownBy w' (some gm) := by
  subst hN
  exact forwardT_c w t gm p r z a b c L v xs h hm ha hv hl
theorem inverseTN_c (w : World) (t gm : Nat) (p r z a b : Int) (c : Mc) (L N : Nat) (hN : N = 2 ^ L) (v : Value) (xs : List Int) (h : Pl w t gm p r z L) (hm : Mt w gm a b c) (ha : a ≤ 100000000000000000) (hv : Sl w v xs) (hl : xs.length = N) :
    Calls Tryz.prog 114 #[.pointer (some ⟨t, 0, none⟩), v] w fun e w' => ∃ g os, e = .returned (.tuple #[.slice (some ⟨g, 0, none⟩) N N, .bool true]) ∧ Own w' w.heap.size (.slice (some ⟨g, 0, none⟩) N N) os ∧ Iv p (rd xs) z L os ∧
      Mt w' gm (a + ((N / 2 * L : Nat) : Int) + (N : Int)) b c ∧ w.heap.size ≤ g ∧ w.grownBy w' (some gm) := by
  subst hN
  exact inverseT_c w t gm p r z a b c L v xs h hm ha hv hl
set_option maxRecDepth 100000 in
set_option maxHeartbeats 4000000 in
theorem auto_c (w : World) (t gm : Nat) (p r z a b : Int) (c : Mc) (L N : Nat) (hN : N = 2 ^ L) (va : Value) (al : List Int) (h : Pl w t gm p r z L) (hm : Mt w gm a b c) (ha : a ≤ 10000000000000000) (hva : Sl w va al) (hla : al.length ≤ N) :
    Calls Tryz.prog 90 #[.pointer (some ⟨t, 0, none⟩), va] w fun e w' => ∃ g cs, e = .returned (.tuple #[.slice (some ⟨g, 0, none⟩) N N, .bool true]) ∧ Own w' w.heap.size (.slice (some ⟨g, 0, none⟩) N N) cs ∧ Cy p r z L (rd al) (rd al) cs ∧
      Mt w' gm (a + ((2 * (N / 2 * L) + 2 * N : Nat) : Int)) b c ∧ w.heap.size ≤ g ∧ w.grownBy w' (some gm) := by
  have hgm : gm < w.heap.size := World.block_lt_of_cell? w _ hm.c0
  obtain ⟨hN10, hh⟩ := half_le hN h.L10
  obtain ⟨g0, m0, md, gne⟩ := h.gd
  have p3 := md.pm.lo
  have p62 := md.pm.hi
  have S := size_c w t gm p r z L h
  rw [← hN] at S
  obtain ⟨q, hq⟩ : ∃ q, q = N / 2 * L := ⟨_, rfl⟩
  have mk := make64 29 (by kernel_rfl) N N (N : Int) (N : Int) (by omega) (by omega) (by omega) (by omega)
  have own0 := own_made w w.heap.size N N (Nat.le_refl _) (by omega) (by omega)
  have OW := Lib.hid own0
  have G0 := gb_alloc (gb_refl w none) (Obj.cells (madeCells #[.int .u64 0] N) 79)
  have HV := Lib.hid (hva.grown0 G0)
  obtain ⟨zs, hzs⟩ : ∃ zs, zs = rowOf al N := ⟨_, rfl⟩
  have HZ := Lib.hid (show zs = al.take (min al.length N) ++ (List.replicate N 0).drop (min al.length N) from hzs)
  have HZ2 := Lib.hid (show rd zs = rd al by rw [hzs]; exact rd_rowOf hla)
  have HZL := Lib.hid (show zs.length = N by rw [hzs]; exact rowOf_len _ _)
  have HS := Lib.hid S
  have PL := Lib.hid h
  have MT := Lib.hid (hm.grown G0)
  have HN := Lib.hid hN
  have HQ := Lib.hid hq
  have NE := Lib.hid (And.intro gne h.tm)
  have MD := Lib.hid md
  have C0 := Lib.hid m0
  have C1 := Lib.hid h.c1
  have HGM := Lib.hid hgm
  have HG0 := Lib.hid G0
  rw [← hq] at hh
  rw [show 2 * (N / 2 * L) + 2 * N = 2 * q + 2 * N by rw [hq]]
  have a0 := hm.a0
  clear hva hN hq hla h hm gne md m0 hgm S G0 own0 hzs
  go_enter Tryz.func90, Tryz.ntmps90
  go_wp2_with fail
  refine (HS.out).mono ?_
  rintro e w1 ⟨rfl, hw1⟩
  subst hw1
  go_wp2_with (with_reducible (show wpList _ _ _ (Oper.mk _ (Op.call (Call.mk (Callee.builtin Builtin.copy) _ _)) _ _ _ _ :: _) _ _); refine own_copy 29 (by kernel_rfl) (.tmp 13) (.tmp 14) rfl rfl w1.heap.size N N N _ rfl OW.out (Nat.le_refl _) va al rfl HV.out _ rfl zs HZ.out ?_; intro w2 ow1 g1)
  have G2 := Lib.hid (gb_new HG0.out g1 (fun i hi => by cases hi; exact Nat.le_refl _))
  have OW2 := Lib.hid ow1
  have M2 := Lib.hid (MT.out.row g1 (by have := HGM.out; omega))
  clear ow1 g1 OW HV mk MT HS
  go_wp2_with fail
  refine (forwardTN_c w2 t gm p r z a b c L N HN.out _ zs (PL.out.grown (gb_none G2.out _)) M2.out (by omega) OW2.out.sl HZL.out).mono ?_
  rintro e w3 ⟨gx, xs, rfl, ox, lx, m3, hx, g3⟩
  rw [HZ2.out] at lx
  rw [← HQ.out] at m3
  have M3 := Lib.hid m3
  have LX := Lib.hid lx
  have OX := Lib.hid ox
  have G3 := Lib.hid (gb_trans (gb_none G2.out (some gm)) g3)
  have HX : Hid (w1.heap.size ≤ gx) := Lib.hid (Nat.le_trans G2.out.size hx)
  have BX := Lib.hid (fun i => (LX.out.bd i))
  have LXN : Hid (xs.length = N) := Lib.hid (by rw [LX.out.len, HN.out])
  have NXY : Hid (gx ≠ gm ∧ gx ≠ t ∧ gx ≠ g0) := Lib.hid (by
    have h1 := HX.out; have h2 := HGM.out
    have h4 := World.block_lt_of_cell? w1 _ C0.out
    have h5 := World.block_lt_of_cell? w1 _ MD.out.c0
    simp at h4 h5; omega)
  have II : Hid (PrI p xs xs N 0 xs) := Lib.hid ⟨LXN.out, fun k hk => by omega, fun k _ => rfl⟩
  clear ox lx m3 g3 hx M2 OW2
  go_wp2
  go_loopw [26] (fun v26 wr => ∃ (i : Nat) (os : List Int), v26 = .int .i64 i ∧ i ≤ N ∧ PrI p xs xs N i os ∧ Own wr w2.heap.size (.slice (some ⟨gx, 0, none⟩) N N) os ∧ w3.grownBy wr (some gx)) (fun v26 _ => N - (intOf v26).toNat)
  case atStart => exact ⟨0, xs, rfl, by omega, II.out, OX.out, gb_refl _ _⟩
  case round =>
    clear II OX
    obtain ⟨i, os, rfl, hi, pi, ow, G⟩ := hrel
    have PI := Lib.hid pi
    have OW := Lib.hid ow
    have GG := Lib.hid G
    have GC : Hid (w1.grownBy wr (some gm)) := Lib.hid (gb_new G3.out G (fun i hi => by cases hi; exact HX.out))
    clear pi ow G
    by_cases hin : i < N
    · have c1 := OW.out.cell i (by rw [PI.out.len]; exact hin)
      have c0 := gb_cell GC.out C0.out (by have := NE.out.2; simpa using this)
      have bx := BX.out i
      rw [PI.out.hi i (Nat.le_refl _)] at c1
      obtain ⟨x, ex⟩ : ∃ x, x = rd xs i := ⟨_, rfl⟩
      rw [← ex] at c1 bx
      have EX := Lib.hid ex
      obtain ⟨x0, x1⟩ := bx
      clear ex
      go_wp2
      refine Canon.region_canon (by kernel_rfl) (by kernel_rfl) ?_
      go_wp2_with fail
      refine (modMul_c _ g0 p x x (MD.out.grown (gb_drew GC.out) (by have := NE.out.1; simpa using this)) x0 x0).mono ?_
      rintro e wa ⟨rfl, ga⟩
      have u0 := Int.emod_nonneg (x * x) (show p ≠ 0 by omega)
      have u1 := Int.emod_lt_of_pos (x * x) (show 0 < p by omega)
      obtain ⟨u, eu⟩ : ∃ u, u = x * x % p := ⟨_, rfl⟩
      rw [← eu] at u0 u1 ⊢
      have EU := Lib.hid eu
      have OA := Lib.hid (OW.out.drew.grown0 ga)
      have GA := Lib.hid (gb_trans (gb_drew GG.out) (gb_none ga _))
      clear eu c0 c1 ga OW GG GC
      have fr := OA.out.free i
      have ce := OA.out.cell i (by rw [PI.out.len]; exact hin)
      go_wp2
      refine ⟨by kernel_rfl, ?_⟩
      clear fr ce
      go_wp2
      go_roundw
      case rel => exact ⟨i + 1, os.set i u, by go_num, by omega, PI.out.step hin (by rw [EU.out, EX.out]), OA.out.store i u0 (by omega), gb_rowC GA.out i _⟩
      case measure => simp [intOf]; omega
    · obtain rfl : i = N := by omega
      have c1 := gb_cell GC.out C1.out (by have := NE.out.2; simpa using this)
      have M4 := Lib.hid (M3.out.row GG.out (Ne.symm NXY.out.1))
      go_wp2_with fail
      refine (spend_c wr gm _ b c (i : Int) M4.out (by omega) (by omega)).mono ?_
      rintro e wb ⟨rfl, m4, mo⟩
      have e2 : (if (i : Int) > 0 then a + (q : Int) + (i : Int) else a + (q : Int)) = a + (q : Int) + (i : Int) := by split <;> omega
      rw [e2] at m4 ⊢
      have M5 := Lib.hid m4
      have G4 := Lib.hid (gb_trans GC.out mo.gb)
      have OW4 := Lib.hid (OW.out.past mo.gb NXY.out.1)
      clear c1 m4 mo e2 M3 M4 OW
      go_wp2_with fail
      refine (inverseTN_c wb t gm p r z _ b c L i HN.out _ os (PL.out.grown G4.out) M5.out (by omega) OW4.out.sl PI.out.len).mono ?_
      rintro e wc ⟨gz, cs, rfl, oz, iv, m5, hz, g5⟩
      rw [← HQ.out] at m5
      have e3 : a + (q : Int) + (i : Int) + (q : Int) + (i : Int) = a + ((2 * q + 2 * i : Nat) : Int) := by omega
      rw [e3] at m5
      have M6 := Lib.hid m5
      have OZ := Lib.hid oz
      have CY : Hid (Cy p r z L (rd al) (rd al) cs) := Lib.hid ⟨xs, xs, os, LX.out, LX.out, fun j hj => PI.out.lo j (by rw [HN.out]; exact hj), iv⟩
      have GF := Lib.hid (gb_trans G4.out g5)
      have BZ : Hid (w1.heap.size ≤ wb.heap.size ∧ wb.heap.size ≤ gz) := Lib.hid ⟨G4.out.size, hz⟩
      clear m5 oz iv hz g5 e3
      go_wp2
      go_ret2
      exact ⟨gz, cs, rfl, OZ.out.mono BZ.out.1, CY.out, M6.out, Nat.le_trans BZ.out.1 BZ.out.2, GF.out⟩
end Go.Proofs.YtldkiddoajlohaaGreatDoor

/- Products by transforms. -/
namespace Go.Proofs.YtldkiddoajlohaaGreatDoor
open Go.RowKit

theorem enter_of {P : Program} {f : FuncId} {fn : Func} {c : Code} (hf : P.funcs[f]? = some fn) (hname : (fn.name == "runtime.NumGoroutine") = false) (hb : fn.body = some c) (args : Array Value) (w : World) : (callFunc f args).run P w = .ok (.enter f args) w := by
  have h1 : fn.name ≠ "runtime.NumGoroutine" := by simpa using hname
  simp [callFunc, hf, h1, hb]
theorem rd_take {xs : List Int} {n j : Nat} (h : j < n) : rd (xs.take n) j = rd xs j := by
  unfold rd
  rw [List.getD_eq_getElem?_getD, List.getD_eq_getElem?_getD, List.getElem?_take_of_lt h]
theorem alloc_sz (w : World) (o : Obj) : (w.alloc o).heap.size = w.heap.size + 1 := by unfold World.alloc; exact Array.size_push _
/-- A value that lies in another block. -/
def Off (v : Value) (gm : Nat) : Prop := ∀ b, v.ownBlock = some b → b ≠ gm
theorem Sl.off {w w' : World} {v : Value} {xs : List Int} {gm : Nat} (h : Sl w v xs) (ho : Off v gm) (g : w.grownBy w' (some gm)) : Sl w' v xs := h.grown g (fun b hb => by have := ho b hb; simpa using this)
theorem words1_c (W : World) (t gm : Nat) (p r z x b : Int) (c : Mc) (L N : Nat) (hN : N = 2 ^ L) (va vb : Value) (al bs : List Int) (ba bb : Nat) (ca : W.cell? ⟨ba, 0, none⟩ = some va) (cb : W.cell? ⟨bb, 0, none⟩ = some vb)
    (h : Pl W t gm p r z L) (hm : Mt W gm x b c) (hx : x ≤ 10000000000000000) (hva : Sl W va al) (hvb : Sl W vb bs) (hla : 0 < al.length) (hlb : 0 < bs.length) (hl : al.length + bs.length ≤ N + 1) (hnb : Off vb gm) :
    Calls Tryz.prog 105 #[.pointer (some ⟨t, 0, none⟩), .pointer (some ⟨ba, 0, none⟩), .pointer (some ⟨bb, 0, none⟩)] W fun e w' => ∃ g cs, e = .returned (.tuple #[.slice (some ⟨g, 0, none⟩) (al.length + bs.length - 1) N, .bool true]) ∧ Own w' W.heap.size (.slice (some ⟨g, 0, none⟩) N N) cs ∧ Cy p r z L (rd al) (rd bs) cs ∧
      Mt w' gm (x + ((3 * (N / 2 * L) + 2 * N : Nat) : Int)) b c ∧ W.heap.size ≤ g ∧ W.grownBy w' (some gm) := by
  have CV := Lib.hid (convP_c W t gm p r z x b c L N hN va vb al bs h hm hx hva hvb hla hlb hl hnb)
  obtain ⟨n, hn⟩ : ∃ n, n = al.length + bs.length - 1 := ⟨_, rfl⟩
  rw [← hn] at CV ⊢
  clear h hm hva hvb hn hN hla hlb hl
  go_enter Tryz.func105, Tryz.ntmps105
  go_wp2_with fail
  refine (CV.out).mono ?_
  rintro e w2 ⟨g, cs, rfl, k⟩
  have KK := Lib.hid k
  clear k
  go_wp2
  go_ret2
  exact ⟨g, cs, rfl, KK.out⟩
theorem Cy.pr {W : World} {t gm : Nat} {p r z : Int} {L N : Nat} {al bs cs : List Int} (h : Pl W t gm p r z L) (hN : N = 2 ^ L) (hl : al.length + bs.length ≤ N + 1) (cy : Cy p r z L (rd al) (rd bs) cs) (j : Nat) (hj : j < N) : rd cs j = cv (rd al) (rd bs) j % p := by
  obtain ⟨g, _, md, _⟩ := h.gd
  exact cy.is md.pm.odd (by have := md.pm.lo; omega) h.inv h.neg (rd_zero (by rw [← hN]; exact hl)) j (by rw [← hN]; exact hj)
theorem oneC_words (w : World) (gm n L N : Nat) (b : Int) (c : Mc) (va vb : Value) (al bs : List Int) (ba bb : Nat) (ca : w.cell? ⟨ba, 0, none⟩ = some va) (cb : w.cell? ⟨bb, 0, none⟩ = some vb) (oa : ba ≠ gm) (ob : bb ≠ gm) (hN : N = 2 ^ L)
    (hva : Sl w va al) (hvb : Sl w vb bs) (hla : 0 < al.length) (hlb : 0 < bs.length) (hn : n = al.length + bs.length - 1) (hl : al.length + bs.length ≤ N + 1) (hna : Off va gm) (hnb : Off vb gm) :
    OneC w gm n L 105 b c ((3 * (N / 2 * L) + 2 * N : Nat) : Int) (cv (rd al) (rd bs)) #[.pointer (some ⟨ba, 0, none⟩), .pointer (some ⟨bb, 0, none⟩)] := by
  refine ⟨fun args w => enter_of Tryz.func105 (by kernel_rfl) rfl args w, fun k W t r z x hk G pl m hx => ?_⟩
  rw [show (#[.pointer (some ⟨t, 0, none⟩)] ++ #[.pointer (some ⟨ba, 0, none⟩), .pointer (some ⟨bb, 0, none⟩)] : Array Value) = #[.pointer (some ⟨t, 0, none⟩), .pointer (some ⟨ba, 0, none⟩), .pointer (some ⟨bb, 0, none⟩)] by simp]
  refine (words1_c W t gm _ r z x b c L N hN va vb al bs ba bb (gb_cell G ca (by simpa using oa)) (gb_cell G cb (by simpa using ob)) pl m (by omega) (hva.off hna G) (hvb.off hnb G) hla hlb hl hnb).mono ?_
  rintro e w' ⟨g, cs, rfl, ow, cy, m', hg, gg⟩
  have hlen : cs.length = N := by rw [cy.len, hN]
  refine ⟨g, cs.take n, n, N, Nat.le_refl _, by rw [hn], ow.take n (by omega), fun j hj => ?_, m', hg, gg⟩
  rw [rd_take hj]
  exact cy.pr pl hN hl j (by omega)
set_option maxRecDepth 100000 in
set_option maxHeartbeats 4000000 in
theorem words_c (w : World) (gm : Nat) (a b : Int) (c : Mc) (va vb : Value) (al bs : List Int) (hm : Mt w gm a b c) (hd : Db w) (ha : a ≤ 1000000000000000) (hva : Sl w va al) (hvb : Sl w vb bs) (hla : 0 < al.length) (hlb : 0 < bs.length) (hl : al.length + bs.length ≤ 1024) (hna : Off va gm) (hnb : Off vb gm) :
    Calls Tryz.prog 85 #[.pointer (some ⟨gm, 0, none⟩), va, vb] w fun e w' => ∃ g os, e = .returned (.tuple #[.slice (some ⟨g, 0, none⟩) (al.length + bs.length - 1) (al.length + bs.length - 1), .bool true]) ∧
      Own3 w' w.heap.size (.slice (some ⟨g, 0, none⟩) (al.length + bs.length - 1) (al.length + bs.length - 1)) (al.length + bs.length - 1) os ∧ Jo3 (cv (rd al) (rd bs)) (al.length + bs.length - 1) (al.length + bs.length - 1) os ∧
      Mt w' gm (a + (transf al.length bs.length 3 : Nat)) b c ∧ w.heap.size ≤ g ∧ w.grownBy w' (some gm) := by
  have hgm : gm < w.heap.size := World.block_lt_of_cell? w _ hm.c0
  obtain ⟨A, ca, rfl, hca, _⟩ := hva.form
  obtain ⟨B, cb, rfl, hcb, _⟩ := hvb.form
  obtain ⟨S, hS⟩ : ∃ S, S = al.length + bs.length := ⟨_, rfl⟩
  obtain ⟨n, hn⟩ : ∃ n, n = al.length + bs.length - 1 := ⟨_, rfl⟩
  obtain ⟨L, hL⟩ : ∃ L, L = blen (S - 1) := ⟨_, rfl⟩
  obtain ⟨N, hN⟩ : ∃ N, N = 2 ^ L := ⟨_, rfl⟩
  have hL10 : L ≤ 10 := by rw [hL]; exact blen_le _ 10 (by omega)
  have hSN : S ≤ N := by rw [hN, hL]; have := blen_lt (S - 1); omega
  have hN10 : N ≤ 1024 := by rw [hN]; exact Nat.pow_le_pow_right (by decide) hL10
  obtain ⟨K, hK⟩ : ∃ K : Nat, K = 3 * (N / 2 * L) + 2 * N := ⟨_, rfl⟩
  have hK6 : K ≤ 1000000 := by
    have : N / 2 * L ≤ 512 * 10 := Nat.mul_le_mul (by omega) hL10
    omega
  have etr : ((transf al.length bs.length 3 : Nat) : Int) = 3 * (K : Int) + 6 * (N : Int) := by
    unfold transf
    rw [← hS, ← hL, ← hN, hK]
    have : 3 * (N / 2) * L = 3 * (N / 2 * L) := Nat.mul_assoc _ _ _
    rw [this]; omega
  have GA := gb_alloc (gb_alloc (gb_refl w none) (Obj.cells #[.slice A al.length ca] 29)) (Obj.cells #[.slice B bs.length cb] 29)
  have c1 : ((w.alloc (Obj.cells #[.slice A al.length ca] 29)).alloc (Obj.cells #[.slice B bs.length cb] 29)).cell? ⟨w.heap.size, 0, none⟩ = some (.slice A al.length ca) :=
    gb_cell0 (gb_alloc (gb_refl _ none) _) ((cs_new w #[.slice A al.length ca] 29).cell 0 rfl)
  have c2 : ((w.alloc (Obj.cells #[.slice A al.length ca] 29)).alloc (Obj.cells #[.slice B bs.length cb] 29)).cell? ⟨w.heap.size + 1, 0, none⟩ = some (.slice B bs.length cb) := by
    have := (cs_new (w.alloc (Obj.cells #[.slice A al.length ca] 29)) #[.slice B bs.length cb] 29).cell 0 rfl
    rw [alloc_sz] at this
    exact this
  have ONE := oneC_words _ gm n L N b c _ _ al bs w.heap.size (w.heap.size + 1) c1 c2 (by omega) (by omega) hN (hva.grown0 GA) (hvb.grown0 GA) hla hlb hn (by omega) hna hnb
  have JJ := joined_c _ gm n S L N 105 a b c ((K : Nat) : Int) (cv (rd al) (rd bs)) _ (by omega) hL hN hL10 (by omega) (by omega) (hm.grown GA) (hd.grown0 GA) ha ⟨by omega, by omega⟩ (fun j hj => cv_bound hva.ws hvb.ws (by omega)) (by rw [hK]; exact ONE)
  rw [etr]
  rw [← hn]
  have MY := fun w => may_yes w al.length bs.length hla hlb (by omega)
  obtain ⟨n1, hn1⟩ : ∃ n1, n1 = al.length := ⟨_, rfl⟩
  obtain ⟨m1, hm1⟩ : ∃ m1, m1 = bs.length := ⟨_, rfl⟩
  rw [← hn1, ← hm1] at hS hn hl c1 c2 JJ MY GA
  rw [← hn1] at hla hca ⊢
  rw [← hm1] at hlb hcb ⊢
  have e1 : (n1 : Int) + (m1 : Int) = (S : Int) := by omega
  have e2 : (S : Int) - 1 = (n : Int) := by omega
  have HJ := Lib.hid JJ
  have HMY := Lib.hid MY
  have HGA := Lib.hid GA
  clear JJ MY GA ONE hva hvb etr hK hN hL hS hn hd hm hn1 hm1 hna hnb
  go_enter Tryz.func85, Tryz.ntmps85
  go_wp2_with fail
  refine (HMY.out _).mono ?_
  rintro e w1 ⟨rfl, hw1⟩
  subst hw1
  go_wp2_with fail
  refine (HJ.out).mono ?_
  rintro e w2 ⟨g, os, rfl, ow, jo, mm, hg, gg⟩
  have KK := Lib.hid (show _ ∧ _ ∧ _ ∧ _ ∧ _ from ⟨ow.mono HGA.out.size, jo, mm, Nat.le_trans HGA.out.size hg, gb_trans (gb_none HGA.out (some gm)) gg⟩)
  clear ow jo mm hg gg HJ
  go_wp2
  go_ret2
  exact ⟨g, os, rfl, KK.out.1, KK.out.2.1, by rw [← Int.add_assoc]; exact KK.out.2.2.1, KK.out.2.2.2⟩
end Go.Proofs.YtldkiddoajlohaaGreatDoor

/- Products and squares by transforms. -/
namespace Go.Proofs.YtldkiddoajlohaaGreatDoor
open Go.RowKit

set_option maxRecDepth 100000 in
theorem words_no (w : World) (gm : Nat) (va vb : Value) (al bs : List Int) (hva : Sl w va al) (hvb : Sl w vb bs) (hl : al.length = 0 ∨ bs.length = 0) :
    Calls Tryz.prog 85 #[.pointer (some ⟨gm, 0, none⟩), va, vb] w fun e w' => e = .returned (.tuple #[.slice none 0 0, .bool false]) ∧ w.grownBy w' none := by
  obtain ⟨A, ca, rfl, hca, _⟩ := hva.form
  obtain ⟨B, cb, rfl, hcb, _⟩ := hvb.form
  have MY := fun w => may_no w al.length bs.length hl
  obtain ⟨n1, hn1⟩ : ∃ n1, n1 = al.length := ⟨_, rfl⟩
  obtain ⟨m1, hm1⟩ : ∃ m1, m1 = bs.length := ⟨_, rfl⟩
  rw [← hn1, ← hm1] at MY
  rw [← hn1] at hca ⊢
  rw [← hm1] at hcb ⊢
  have HMY := Lib.hid MY
  clear MY hva hvb hl hn1 hm1
  go_enter Tryz.func85, Tryz.ntmps85
  go_wp2_with fail
  refine (HMY.out _).mono ?_
  rintro e w1 ⟨rfl, hw1⟩
  subst hw1
  go_wp2
  go_ret2
  exact ⟨rfl, gb_alloc (gb_alloc (gb_refl _ _) _) _⟩
set_option maxRecDepth 100000 in
theorem convMul_c (w : World) (gm : Nat) (a b : Int) (c : Mc) (va vb : Value) (al bs : List Int) (hm : Mt w gm a b c) (hd : Db w) (ha : a ≤ 1000000000000000) (hva : Sl w va al) (hvb : Sl w vb bs) (hla : 0 < al.length) (hlb : 0 < bs.length) (hl : al.length + bs.length ≤ 1024) (hna : Off va gm) (hnb : Off vb gm) :
    Calls Tryz.prog 63 #[.pointer (some ⟨gm, 0, none⟩), va, vb] w fun e w' => ∃ x, e = .returned (.tuple #[x, .bool true]) ∧ Wo w' w.heap.size x (val B64 al * val B64 bs) ∧
      Mt w' gm (a + (transf al.length bs.length 3 : Nat)) b c ∧ w.grownBy w' (some gm) := by
  have W := words_c w gm a b c va vb al bs hm hd ha hva hvb hla hlb hl hna hnb
  have hgm : gm < w.heap.size := World.block_lt_of_cell? w _ hm.c0
  obtain ⟨n, hn⟩ : ∃ n, n = al.length + bs.length - 1 := ⟨_, rfl⟩
  obtain ⟨T, hT⟩ : ∃ T, T = transf al.length bs.length 3 := ⟨_, rfl⟩
  rw [← hn, ← hT] at W
  rw [← hT]
  have SUM : ∀ os, Jo3 (cv (rd al) (rd bs)) n n os → sumT (t3 os) n = val B64 al * val B64 bs := fun os jo => mul_sums hva.ws hvb.ws (by omega) (by omega) (by omega) (by omega) jo
  obtain ⟨A, ca, rfl, hca, _⟩ := hva.form
  obtain ⟨B, cb, rfl, hcb, _⟩ := hvb.form
  have hn0 : n ≤ 10000000 := by omega
  obtain ⟨n1, hn1⟩ : ∃ n1, n1 = al.length := ⟨_, rfl⟩
  obtain ⟨m1, hm1⟩ : ∃ m1, m1 = bs.length := ⟨_, rfl⟩
  rw [← hn1, ← hm1] at W ⊢
  have HW := Lib.hid W
  have HS := Lib.hid SUM
  clear W SUM hn hT hn1 hm1 hva hvb hm hd hla hlb hl hna hnb
  go_enter Tryz.func63, Tryz.ntmps63
  go_wp2_with fail
  refine (HW.out).mono ?_
  rintro e w1 ⟨g, os, rfl, ow, jo, m1, hg, g1⟩
  have CY := Lib.hid (carry_c w1 _ os n ow.cells jo.ws hn0)
  rw [HS.out os jo] at CY
  have M1 := Lib.hid m1
  have G1 := Lib.hid g1
  clear ow jo m1 g1 hg
  go_wp2_with fail
  refine (CY.out).mono ?_
  rintro e w2 ⟨x, rfl, wo, g2⟩
  have KK := Lib.hid (show _ ∧ _ ∧ _ from ⟨wo.mono G1.out.size, M1.out.grown g2, gb_trans G1.out (gb_none g2 (some gm))⟩)
  clear wo g2
  go_wp2
  go_ret2
  exact ⟨x, rfl, KK.out⟩
theorem convMul_no (w : World) (gm : Nat) (va vb : Value) (al bs : List Int) (hva : Sl w va al) (hvb : Sl w vb bs) (hl : al.length = 0 ∨ bs.length = 0) :
    Calls Tryz.prog 63 #[.pointer (some ⟨gm, 0, none⟩), va, vb] w fun e w' => e = .returned (.tuple #[.slice none 0 0, .bool false]) ∧ w.grownBy w' none := by
  have W := words_no w gm va vb al bs hva hvb hl
  obtain ⟨A, ca, rfl, hca, _⟩ := hva.form
  obtain ⟨B, cb, rfl, hcb, _⟩ := hvb.form
  have HW := Lib.hid W
  clear W hva hvb hl
  go_enter Tryz.func63, Tryz.ntmps63
  go_wp2_with fail
  refine (HW.out).mono ?_
  rintro e w1 ⟨rfl, g1⟩
  go_wp2
  go_ret2
  exact ⟨rfl, g1⟩
theorem sqr1_c (W : World) (t gm : Nat) (p r z x b : Int) (c : Mc) (L N : Nat) (hN : N = 2 ^ L) (va : Value) (al : List Int) (ba : Nat) (ca : W.cell? ⟨ba, 0, none⟩ = some va)
    (h : Pl W t gm p r z L) (hm : Mt W gm x b c) (hx : x ≤ 10000000000000000) (hva : Sl W va al) (hl : al.length ≤ N) :
    Calls Tryz.prog 89 #[.pointer (some ⟨t, 0, none⟩), .pointer (some ⟨ba, 0, none⟩)] W fun e w' => ∃ g cs, e = .returned (.tuple #[.slice (some ⟨g, 0, none⟩) N N, .bool true]) ∧ Own w' W.heap.size (.slice (some ⟨g, 0, none⟩) N N) cs ∧ Cy p r z L (rd al) (rd al) cs ∧
      Mt w' gm (x + ((2 * (N / 2 * L) + 2 * N : Nat) : Int)) b c ∧ W.heap.size ≤ g ∧ W.grownBy w' (some gm) := by
  have CV := Lib.hid (auto_c W t gm p r z x b c L N hN va al h hm hx hva hl)
  clear h hm hva hN hl
  go_enter Tryz.func89, Tryz.ntmps89
  go_wp2_with fail
  refine (CV.out).mono ?_
  rintro e w2 ⟨g, cs, rfl, k⟩
  have KK := Lib.hid k
  clear k
  go_wp2
  go_ret2
  exact ⟨g, cs, rfl, KK.out⟩
theorem sqr1J_c (W : World) (t gm n : Nat) (p r z x b : Int) (c : Mc) (L N : Nat) (hN : N = 2 ^ L) (va : Value) (al : List Int) (ba : Nat) (ca : W.cell? ⟨ba, 0, none⟩ = some va)
    (h : Pl W t gm p r z L) (hm : Mt W gm x b c) (hx : x ≤ 10000000000000000) (hva : Sl W va al) (hn : n = 2 * al.length - 1) (hl : 2 * al.length ≤ N) :
    Calls Tryz.prog 89 #[.pointer (some ⟨t, 0, none⟩), .pointer (some ⟨ba, 0, none⟩)] W fun e w' => ∃ g cs, e = .returned (.tuple #[.slice (some ⟨g, 0, none⟩) N N, .bool true]) ∧ Own w' W.heap.size (.slice (some ⟨g, 0, none⟩) N N) cs ∧ (∀ j, j < n → rd cs j = cv (rd al) (rd al) j % p) ∧
      Mt w' gm (x + ((2 * (N / 2 * L) + 2 * N : Nat) : Int)) b c ∧ W.heap.size ≤ g ∧ W.grownBy w' (some gm) := by
  refine (sqr1_c W t gm p r z x b c L N hN va al ba ca h hm hx hva (by omega)).mono ?_
  rintro e w' ⟨g, cs, rfl, ow, cy, m', hg, gg⟩
  exact ⟨g, cs, rfl, ow, fun j hj => cy.pr h hN (by omega) j (by omega), m', hg, gg⟩
theorem oneC_sqr (w : World) (gm n L N : Nat) (b : Int) (c : Mc) (va : Value) (al : List Int) (ba : Nat) (ca : w.cell? ⟨ba, 0, none⟩ = some va) (oa : ba ≠ gm) (hN : N = 2 ^ L)
    (hva : Sl w va al) (hn : n = 2 * al.length - 1) (hl : 2 * al.length ≤ N) (hna : Off va gm) :
    OneC w gm n L 89 b c ((2 * (N / 2 * L) + 2 * N : Nat) : Int) (cv (rd al) (rd al)) #[.pointer (some ⟨ba, 0, none⟩)] := by
  refine ⟨fun args w => enter_of Tryz.func89 (by kernel_rfl) rfl args w, fun k W t r z x hk G pl m hx => ?_⟩
  rw [show (#[.pointer (some ⟨t, 0, none⟩)] ++ #[.pointer (some ⟨ba, 0, none⟩)] : Array Value) = #[.pointer (some ⟨t, 0, none⟩), .pointer (some ⟨ba, 0, none⟩)] by simp]
  refine (sqr1J_c W t gm n _ r z x b c L N hN va al ba (gb_cell G ca (by simpa using oa)) pl m (by omega) (hva.off hna G) hn hl).mono ?_
  rintro e w' ⟨g, cs, rfl, ow, cy, m', hg, gg⟩
  exact ⟨g, cs, N, N, by omega, rfl, ow, cy, m', hg, gg⟩
set_option maxRecDepth 100000 in
set_option maxHeartbeats 4000000 in
theorem convSqr_c (w : World) (gm : Nat) (a b : Int) (c : Mc) (va : Value) (al : List Int) (hm : Mt w gm a b c) (hd : Db w) (ha : a ≤ 1000000000000000) (hva : Sl w va al) (hla : 0 < al.length) (hl : 2 * al.length ≤ 1024) (hna : Off va gm) :
    Calls Tryz.prog 66 #[.pointer (some ⟨gm, 0, none⟩), va] w fun e w' => ∃ x, e = .returned (.tuple #[x, .bool true]) ∧ Wo w' w.heap.size x (val B64 al * val B64 al) ∧
      Mt w' gm (a + (transf al.length al.length 2 : Nat)) b c ∧ w.grownBy w' (some gm) := by
  have hgm : gm < w.heap.size := World.block_lt_of_cell? w _ hm.c0
  obtain ⟨A, ca, rfl, hca, _⟩ := hva.form
  obtain ⟨S, hS⟩ : ∃ S, S = 2 * al.length := ⟨_, rfl⟩
  obtain ⟨n, hn⟩ : ∃ n, n = 2 * al.length - 1 := ⟨_, rfl⟩
  obtain ⟨L, hL⟩ : ∃ L, L = blen (S - 1) := ⟨_, rfl⟩
  obtain ⟨N, hN⟩ : ∃ N, N = 2 ^ L := ⟨_, rfl⟩
  have hL10 : L ≤ 10 := by rw [hL]; exact blen_le _ 10 (by omega)
  have hSN : S ≤ N := by rw [hN, hL]; have := blen_lt (S - 1); omega
  have hN10 : N ≤ 1024 := by rw [hN]; exact Nat.pow_le_pow_right (by decide) hL10
  obtain ⟨K, hK⟩ : ∃ K : Nat, K = 2 * (N / 2 * L) + 2 * N := ⟨_, rfl⟩
  have hK6 : K ≤ 1000000 := by
    have : N / 2 * L ≤ 512 * 10 := Nat.mul_le_mul (by omega) hL10
    omega
  have etr : ((transf al.length al.length 2 : Nat) : Int) = 3 * (K : Int) + 6 * (N : Int) := by
    unfold transf
    rw [show al.length + al.length = S by omega, ← hL, ← hN, hK]
    have : 2 * (N / 2) * L = 2 * (N / 2 * L) := Nat.mul_assoc _ _ _
    rw [this]; omega
  have SUM : ∀ os, Jo3 (cv (rd al) (rd al)) n n os → sumT (t3 os) n = val B64 al * val B64 al := fun os jo => mul_sums hva.ws hva.ws (by omega) (by omega) (by omega) (by omega) jo
  have GA := gb_alloc (gb_refl w none) (Obj.cells #[.slice A al.length ca] 34)
  have c1 : (w.alloc (Obj.cells #[.slice A al.length ca] 34)).cell? ⟨w.heap.size, 0, none⟩ = some (.slice A al.length ca) := (cs_new w #[.slice A al.length ca] 34).cell 0 rfl
  have ONE := oneC_sqr _ gm n L N b c _ al w.heap.size c1 (by omega) hN (hva.grown0 GA) hn (by omega) hna
  have JJ := joined_c _ gm n S L N 89 a b c ((K : Nat) : Int) (cv (rd al) (rd al)) _ (by omega) hL hN hL10 (by omega) (by omega) (hm.grown GA) (hd.grown0 GA) ha ⟨by omega, by omega⟩ (fun j hj => cv_bound hva.ws hva.ws (by omega)) (by rw [hK]; exact ONE)
  rw [etr]
  have hn0 : n ≤ 10000000 := by omega
  have MY := fun w => may_yes w al.length al.length hla hla (by omega)
  obtain ⟨n1, hn1⟩ : ∃ n1, n1 = al.length := ⟨_, rfl⟩
  rw [← hn1] at hS hn hl c1 JJ MY GA
  rw [← hn1] at hla hca ⊢
  have e1 : 2 * (n1 : Int) = (S : Int) := by omega
  have e2 : (S : Int) - 1 = (n : Int) := by omega
  have HJ := Lib.hid JJ
  have HMY := Lib.hid MY
  have HGA := Lib.hid GA
  have HS := Lib.hid SUM
  clear JJ MY GA ONE hva etr hK hN hL hS hn hd hm hn1 hna SUM
  go_enter Tryz.func66, Tryz.ntmps66
  go_wp2_with fail
  refine (HMY.out _).mono ?_
  rintro e w1 ⟨rfl, hw1⟩
  subst hw1
  go_wp2_with fail
  refine (HJ.out).mono ?_
  rintro e w2 ⟨g, os, rfl, ow, jo, mm, hg, gg⟩
  have CY := Lib.hid (carry_c w2 _ os n ow.cells jo.ws hn0)
  rw [HS.out os jo] at CY
  have M1 := Lib.hid mm
  have G1 := Lib.hid (gb_trans (gb_none HGA.out (some gm)) gg)
  clear ow jo mm gg hg
  go_wp2_with fail
  refine (CY.out).mono ?_
  rintro e w3 ⟨x, rfl, wo, g2⟩
  have KK := Lib.hid (show _ ∧ _ ∧ _ from ⟨wo.mono G1.out.size, M1.out.grown g2, gb_trans G1.out (gb_none g2 (some gm))⟩)
  clear wo g2
  go_wp2
  go_ret2
  exact ⟨x, rfl, KK.out.1, by rw [← Int.add_assoc]; exact KK.out.2.1, KK.out.2.2⟩
set_option maxRecDepth 100000 in
theorem convSqr_no (w : World) (gm : Nat) (va : Value) (al : List Int) (hva : Sl w va al) (hl : al.length = 0) :
    Calls Tryz.prog 66 #[.pointer (some ⟨gm, 0, none⟩), va] w fun e w' => e = .returned (.tuple #[.slice none 0 0, .bool false]) ∧ w.grownBy w' none := by
  obtain ⟨A, ca, rfl, hca, _⟩ := hva.form
  have MY := fun w => may_no w al.length al.length (.inl hl)
  obtain ⟨n1, hn1⟩ : ∃ n1, n1 = al.length := ⟨_, rfl⟩
  rw [← hn1] at MY
  rw [← hn1] at hca ⊢
  have HMY := Lib.hid MY
  clear MY hva hl hn1
  go_enter Tryz.func66, Tryz.ntmps66
  go_wp2_with fail
  refine (HMY.out _).mono ?_
  rintro e w1 ⟨rfl, hw1⟩
  subst hw1
  go_wp2
  go_ret2
  exact ⟨rfl, gb_alloc (gb_refl _ _) _⟩
end Go.Proofs.YtldkiddoajlohaaGreatDoor

/- What is lent and spoilt, further. -/
namespace Go.Proofs.YtldkiddoajlohaaGreatDoor
open Go.RowKit

theorem Le.take {xs os : List Int} (h : Le xs os) : os.take xs.length = xs := by
  refine rd_ext (by rw [List.length_take, h.len]; omega) fun j hj => ?_
  have hj' : j < xs.length := by rw [List.length_take, h.len] at hj; omega
  rw [rd_take hj', h.lo j hj']
theorem Le.sl {w : World} {base g : Nat} {xs os : List Int} (h : Le xs os) (ow : Own w base (.slice (some ⟨g, 0, none⟩) (xs.length + 4) (xs.length + 4)) os) : Sl w (.slice (some ⟨g, 0, none⟩) xs.length (xs.length + 4)) xs := by
  have := ow.take xs.length (by rw [h.len]; omega)
  rw [h.take] at this
  exact this.sl
theorem off_some {g gm n c : Nat} (h : g ≠ gm) : Off (.slice (some ⟨g, 0, none⟩) n c) gm := fun b hb => by
  simp only [Value.ownBlock, Option.some.injEq] at hb
  rw [← hb]; exact h
theorem Wo.wd {w : World} {base : Nat} {v : Value} {n : Nat} (h : Wo w base v n) : Wd w v n := by
  obtain ⟨zs, ow, nz, hv⟩ := h
  exact ⟨zs, ow.sl, nz, hv⟩
/-- Cells that may be written. -/
def Wr (w : World) (g c : Nat) : Prop := ∀ j, j < c → w.frozen? ⟨g, j, none⟩ = false ∧ ∃ v, w.cell? ⟨g, j, none⟩ = some v
theorem Wr.set {w : World} {g c : Nat} (h : Wr w g c) (i : Nat) (u : Value) : Wr (w.setCell ⟨g, i, none⟩ u) g c := fun j hj => by
  obtain ⟨h1, v, h2⟩ := h j hj
  refine ⟨by rw [World.frozen?_setCell]; exact h1, ?_⟩
  by_cases e : i = j
  · subst e; exact ⟨_, World.cell?_setCell_same _ _ _ h2⟩
  · exact ⟨v, (cell_ne _ _ _ _ _ e).trans h2⟩
theorem Own.wr {w : World} {base g n c : Nat} {xs : List Int} (h : Own w base (.slice (some ⟨g, 0, none⟩) n c) xs) : Wr w g c ∧ n ≤ c ∧ c ≤ 9223372036854775807 := by
  rcases h.1.2 with ⟨h1, _⟩ | ⟨g', cap, cur, hv, hg, hh, h1, h2, h3, h4⟩
  · simp at h1
  · simp only [Value.slice.injEq, Option.some.injEq, Addr.mk.injEq, and_true] at hv
    obtain ⟨rfl, rfl, rfl⟩ := hv
    refine ⟨fun j hj => ⟨h.free j, ?_⟩, h1, by simpa [maxLen] using h2⟩
    refine ⟨cur[j]'(by omega), ?_⟩
    unfold World.cell?
    simp only [hh]
    simp [show j < cur.size by omega]
set_option maxRecDepth 100000 in
theorem spoilW_c (w : World) (base : Nat) (v : Value) (xs : List Int) (h : Own w base v xs) :
    Calls Tryz.prog 29 #[v] w fun e w' => e = .returned (.tuple #[]) ∧ w.grownBy w' v.ownBlock := by
  rcases h.form with ⟨rfl, rfl⟩ | ⟨g, c, rfl, h1, h2, h3, h4⟩
  · clear h
    go_enter Tryz.func29, Tryz.ntmps29
    go_wp2
    go_loopw [3] (fun v3 wr => v3 = .int .i64 0 ∧ wr = w) (fun _ _ => 0)
    case atStart => exact ⟨rfl, rfl⟩
    case round =>
      obtain ⟨rfl, rfl⟩ := hrel
      go_wp2
      go_end0
      exact ⟨rfl, gb_refl _ _⟩
  · obtain ⟨n, hn⟩ : ∃ n, n = xs.length := ⟨_, rfl⟩
    have W0 := Lib.hid h.wr.1
    rw [← hn] at h3 ⊢
    clear hn h h1 h2
    go_enter Tryz.func29, Tryz.ntmps29
    go_wp2
    go_loopw [3] (fun v3 wr => ∃ (i : Nat), v3 = .int .i64 i ∧ i ≤ c ∧ Wr wr g c ∧ w.grownBy wr (some g)) (fun v3 _ => c - (intOf v3).toNat)
    case atStart => exact ⟨0, rfl, by omega, W0.out, gb_refl _ _⟩
    case round =>
      clear W0
      obtain ⟨i, rfl, hi, wr', G⟩ := hrel
      have WW := Lib.hid wr'
      clear wr'
      by_cases hlt : i < c
      · obtain ⟨fr, v, ce⟩ := WW.out i hlt
        go_wp2
        go_roundw
        case rel => exact ⟨i + 1, by go_num, by omega, WW.out.set i _, gb_rowC G i _⟩
        case measure => simp [intOf]; omega
      · obtain rfl : i = c := by omega
        go_wp2
        go_end0
        exact ⟨rfl, G⟩
end Go.Proofs.YtldkiddoajlohaaGreatDoor

/- Products by hand. -/
namespace Go.Proofs.YtldkiddoajlohaaGreatDoor
open Go.RowKit

theorem Off.grown {v : Value} {gm : Nat} (h : Off v gm) : Off v gm := h
theorem Md.ptr_ne {w : World} {g gm h : Nat} {a b : Int} {c : Mc} (k : w.cell? ⟨g, 0, none⟩ = some (.pointer (some ⟨h, 0, none⟩))) (m : Mt w gm a b c) : g ≠ gm := cell_kind k m.c0 (by simp)
set_option maxRecDepth 100000 in
set_option maxHeartbeats 8000000 in
theorem smul_c (w : World) (g3 gm : Nat) (a b : Int) (c : Mc) (va vb : Value) (al bl : List Int) (hg : w.cell? ⟨g3, 0, none⟩ = some (.pointer (some ⟨gm, 0, none⟩))) (hm : Mt w gm a b c) (ha0 : a ≤ 1000000000000000) (ha : Sl w va al) (hb : Sl w vb bl) (hna : Off va gm) (hnb : Off vb gm) (hl : al.length ≤ 100000) (hl2 : bl.length ≤ 100000) :
    Calls Tryz.prog 58 #[.pointer (some ⟨g3, 0, none⟩), va, vb] w fun e w' => ∃ x, e = .returned x ∧ Wo w' w.heap.size x (val B64 al * val B64 bl) ∧ Mt w' gm (a + ((al.length * bl.length : Nat) : Int)) b c ∧ w.grownBy w' (some gm) := by
  obtain ⟨A, ca, rfl, hca, _⟩ := ha.form
  obtain ⟨B, cb, rfl, hcb, _⟩ := hb.form
  obtain ⟨n, hn⟩ : ∃ n, n = al.length := ⟨_, rfl⟩
  obtain ⟨m, hm'⟩ : ∃ m, m = bl.length := ⟨_, rfl⟩
  rw [← hn, ← hm']
  rw [← hn] at ha hca hna hl
  rw [← hm'] at hb hcb hnb hl2
  have eK : (n : Int) * (m : Int) = ((n * m : Nat) : Int) := (Int.natCast_mul _ _).symm
  have bK : n * m ≤ 100000 * 100000 := Nat.mul_le_mul hl hl2
  obtain ⟨K, hK⟩ : ∃ K, K = n * m := ⟨_, rfl⟩
  rw [← hK] at eK bK ⊢
  have SP := spend_c w gm a b c (K : Int) hm (by omega) (by omega)
  have e2 : (if (K : Int) > 0 then a + (K : Int) else a) = a + (K : Int) := by split <;> omega
  rw [e2] at SP
  have HSP := Lib.hid SP
  have HA := Lib.hid ha
  have HB := Lib.hid hb
  have HN := Lib.hid hn
  have HM := Lib.hid hm'
  have NA := Lib.hid hna
  have NB := Lib.hid hnb
  have mk := make64 34 (by kernel_rfl) (n + m) (n + m) ((n : Int) + (m : Int)) ((n : Int) + (m : Int)) (by omega) (by omega) (by omega) (by omega)
  have a0 := hm.a0
  clear SP ha hb hn hm' hna hnb hK e2 hm
  go_enter Tryz.func58, Tryz.ntmps58
  go_wp2_with fail
  refine (HSP.out).mono ?_
  rintro e w1 ⟨rfl, m1, mo⟩
  have M1 := Lib.hid m1
  have G1 := Lib.hid mo.gb
  have HA1 := Lib.hid (HA.out.off NA.out mo.gb)
  have HB1 := Lib.hid (HB.out.off NB.out mo.gb)
  have OW := Lib.hid (own_made w1 w1.heap.size (n + m) (n + m) (Nat.le_refl _) (by omega) (by omega))
  have G0 := Lib.hid (gb_alloc (gb_refl w1 none) (Obj.cells (madeCells #[.int .u64 0] (n + m)) 79))
  clear m1 mo HSP HA HB
  go_wp2
  clear mk hg
  go_loopw [37] (fun v37 wr => ∃ (i : Nat) (os : List Int), v37 = .int .i64 i ∧ i ≤ n ∧ PmO al bl os n m i ∧ Own wr w1.heap.size (.slice (some ⟨w1.heap.size, 0, none⟩) (n + m) (n + m)) os ∧ w1.grownBy wr none) (fun v37 _ => n - (intOf v37).toNat)
  case atStart => exact ⟨0, _, rfl, by omega, PmO.start _ _ _ _, OW.out, G0.out⟩
  case round =>
    clear OW G0
    obtain ⟨i, os, rfl, hi, po, ow, G⟩ := hrel
    have PO := Lib.hid po
    have OS := Lib.hid ow
    have GG := Lib.hid G
    clear po ow G
    obtain ⟨wo, rfl⟩ : ∃ wo : World, wo = wr := ⟨_, rfl⟩
    by_cases hin : i < n
    · obtain ⟨bA, oA, rfl, cA⟩ := (HA1.out.grown0 GG.out).at i (by rw [← HN.out]; exact hin)
      obtain ⟨x, hx⟩ : ∃ x, x = rd al i := ⟨_, rfl⟩
      have bx : 0 ≤ x ∧ x < 18446744073709551616 := by rw [hx]; exact rd_w HA1.out.ws i
      rw [← hx] at cA
      have HX := Lib.hid hx
      clear hx
      go_wp2
      clear cA
      go_loopw [10, 44] (fun v10 v44 ws => ∃ (j : Nat) (c : Int) (os : List Int), v10 = .int .u64 c ∧ v44 = .int .i64 j ∧ j ≤ m ∧ PmI al bl os n m i j x c ∧ Own ws w1.heap.size (.slice (some ⟨w1.heap.size, 0, none⟩) (n + m) (n + m)) os ∧ w1.grownBy ws none) (fun _ v44 _ => m - (intOf v44).toNat)
      case atStart => exact ⟨0, 0, os, rfl, rfl, by omega, PO.out.inner x, OS.out, GG.out⟩
      case round =>
        clear PO OS GG
        obtain ⟨j, q, os, rfl, rfl, hj, pi, ow, G⟩ := hrel
        have PI := Lib.hid pi
        have OS := Lib.hid ow
        have GG := Lib.hid G
        have q0 := pi.c0
        have q1 := pi.c1
        clear pi ow G
        by_cases hjm : j < m
        · obtain ⟨bB, oB, rfl, cB⟩ := (HB1.out.grown0 GG.out).at j (by rw [← HM.out]; exact hjm)
          obtain ⟨y, hy⟩ : ∃ y, y = rd bl j := ⟨_, rfl⟩
          obtain ⟨o, ho⟩ : ∃ y, y = rd os (i + j) := ⟨_, rfl⟩
          have bY : 0 ≤ y ∧ y < 18446744073709551616 := by rw [hy]; exact rd_w HB1.out.ws j
          have bo : 0 ≤ o ∧ o < 18446744073709551616 := by rw [ho]; exact rd_w PI.out.ws _
          rw [← hy] at cB
          have fr := OS.out.free (i + j)
          have ce := OS.out.cell (i + j) (by rw [PI.out.len]; omega)
          rw [← ho] at ce
          have M64 := fun w => mul64_c x y bx.1 bx.2 bY.1 bY.2 w
          obtain ⟨P, hP⟩ : ∃ P, P = x * y := ⟨_, rfl⟩
          obtain ⟨h, hh⟩ : ∃ h, h = P / 18446744073709551616 := ⟨_, rfl⟩
          obtain ⟨l, hl'⟩ : ∃ h, h = P % 18446744073709551616 := ⟨_, rfl⟩
          obtain ⟨s, hs⟩ : ∃ h, h = (l + q) % 18446744073709551616 := ⟨_, rfl⟩
          obtain ⟨d, hd⟩ : ∃ h, h = (l + q) / 18446744073709551616 := ⟨_, rfl⟩
          obtain ⟨h1, hh1⟩ : ∃ z, z = h + d := ⟨_, rfl⟩
          obtain ⟨r, hr⟩ : ∃ h, h = (o + s) % 18446744073709551616 := ⟨_, rfl⟩
          obtain ⟨d2, hd2⟩ : ∃ h, h = (o + s) / 18446744073709551616 := ⟨_, rfl⟩
          obtain ⟨b1, b2, b3, b4, b5, b6, b7, b8, ee⟩ := pm_words bo bx bY ⟨q0, q1⟩ hP hh hl' hs hd hh1 hr hd2
          rw [← hP, ← hh, ← hl'] at M64
          have A1 : ∀ w, (callFunc 73 #[.int .u64 l, .int .u64 q, .int .u64 0]).run Tryz.prog w = .ok (.value (.tuple #[.int .u64 s, .int .u64 d])) w := fun w => by
            rw [add64_run l q 0 b2.1 q0 (by decide) (by decide), Int.add_zero, hs, hd]
          have A2 : ∀ w, (callFunc 73 #[.int .u64 o, .int .u64 s, .int .u64 0]).run Tryz.prog w = .ok (.value (.tuple #[.int .u64 r, .int .u64 d2])) w := fun w => by
            rw [add64_run o s 0 bo.1 b3.1 (by decide) (by decide), Int.add_zero, hr, hd2]
          have V1 : IntKind.u64.wrap (h + d) = h1 := by rw [hh1, IntKind.wrap_u64]; omega
          obtain ⟨q', hq'⟩ : ∃ z, z = h1 + d2 := ⟨_, rfl⟩
          have V2 : IntKind.u64.wrap (h1 + d2) = q' := by rw [hq', IntKind.wrap_u64]; omega
          rw [← hq'] at b8 ee
          have ST := Lib.hid (PI.out.step bx.1 HB1.out.ws hin hjm hy b6 b8 (by rw [← ho]; exact ee))
          have HM64 := Lib.hid M64
          clear hP hh hl' hs hd hh1 hr hd2 hq' hy ho ee M64
          go_wp2_with fail
          refine (HM64.out _).mono ?_
          rintro e w2 ⟨rfl, hw2⟩
          subst hw2
          go_wp2
          clear A1 A2 V1 V2 cB ce fr
          go_roundw
          case rel => exact ⟨j + 1, q', _, rfl, by go_num, by omega, ST.out, OS.out.store _ b6.1 b6.2, gb_set (p := ⟨w1.heap.size, i + j, none⟩) GG.out (Nat.le_refl _) _⟩
          case measure => simp [intOf]; omega
        · obtain rfl : j = m := by omega
          have fr := OS.out.free (i + j)
          have ce := OS.out.cell (i + j) (by rw [PI.out.len]; omega)
          obtain ⟨o, ho⟩ : ∃ y, y = rd os (i + j) := ⟨_, rfl⟩
          rw [← ho] at ce
          have ST := Lib.hid (PI.out.last hin (by rw [← HM.out]; exact Nat.le_refl _) HX.out)
          clear ho
          go_wp2
          clear ce fr
          go_roundw
          case rel => exact ⟨i + 1, _, by go_num, by omega, ST.out, OS.out.store _ q0 q1, gb_set (p := ⟨w1.heap.size, i + j, none⟩) GG.out (Nat.le_refl _) _⟩
          case measure => simp [intOf]; omega
    · obtain rfl : i = n := by omega
      have EV := Lib.hid (PO.out.last (by rw [← HN.out]; exact Nat.le_refl _))
      have NO := Lib.hid (lnorm_c wo _ os OS.out.sl (by rw [PO.out.len]; omega))
      go_wp2_with fail
      refine (NO.out).mono ?_
      rintro e w3 ⟨z, rfl, oz, g3'⟩
      have OZ := Lib.hid oz
      have GZ := Lib.hid (gb_trans GG.out g3')
      have BB : Hid (w.heap.size ≤ wo.heap.size) := Lib.hid (Nat.le_trans G1.out.size GG.out.size)
      clear oz g3'
      go_wp2
      go_ret
      refine ⟨z, rfl, ⟨_, OZ.out.mono BB.out, trimZ_nz _, ?_⟩, M1.out.grown GZ.out, gb_trans G1.out (gb_none GZ.out _)⟩
      rw [val_trimZ]
      exact EV.out
end Go.Proofs.YtldkiddoajlohaaGreatDoor

/- Products in two pieces. -/
namespace Go.Proofs.YtldkiddoajlohaaGreatDoor
open Go.RowKit

theorem Nz.drop : ∀ (k : Nat) {xs : List Int}, Nz xs → Nz (xs.drop k)
  | 0, _, h => h
  | k + 1, [], _ => by rw [List.drop_nil]; exact nz_nil
  | k + 1, x :: xs, h => by rw [List.drop_succ_cons]; exact Nz.drop k h.tail
theorem nz_len {xs : List Int} (hw : Ws xs) (hz : Nz xs) {N : Nat} (h : val B64 xs < B64 ^ N) : xs.length ≤ N := by
  by_cases hl : xs.length ≤ N
  · exact hl
  · have h1 := val_take_drop B64 xs N (by omega)
    have h2 := nz_pos (B := B64) (by decide) (xs := xs.drop N) (hw.dg.drop N) (hz.drop N) (by
      intro e
      have := congrArg List.length e
      rw [List.length_drop] at this
      simp at this
      omega)
    have h3 : B64 ^ N * 1 ≤ B64 ^ N * val B64 (xs.drop N) := Nat.mul_le_mul_left _ h2
    omega
theorem Wo.past {w w' : World} {base gm n : Nat} {v : Value} (h : Wo w base v n) (hb : gm < base) (g : w.grownBy w' (some gm)) : Wo w' base v n := by
  obtain ⟨zs, ow, nz, hv⟩ := h
  refine ⟨zs, ow.grown g ?_, nz, hv⟩
  by_cases e : v.ownBlock = some gm
  · have := (ow.lt gm e).1; omega
  · exact .inr e
theorem Wo.off {w : World} {base gm n : Nat} {v : Value} (h : Wo w base v n) (hb : gm < base) : Off v gm := by
  obtain ⟨zs, ow, _, _⟩ := h
  exact fun b hb' => by have := (ow.lt b hb').1; omega
/-- The row that lies there, and its length. -/
theorem Wo.get {w : World} {base n N : Nat} {v : Value} (h : Wo w base v n) (hn : n < B64 ^ N) : ∃ zs, Sl w v zs ∧ zs.length ≤ N ∧ val B64 zs = n := by
  obtain ⟨zs, ow, nz, hv⟩ := h
  exact ⟨zs, ow.sl, nz_len ow.ws nz (by rw [hv]; exact hn), hv⟩
theorem val_rowOf (xs : List Int) (n : Nat) : val B64 (rowOf xs n) = val B64 (xs.take n) := by
  unfold rowOf
  rw [val_append, List.drop_replicate, val_replicate, Nat.mul_zero, Nat.add_zero]
  rcases Nat.le_total xs.length n with h | h
  · rw [Nat.min_eq_left h, List.take_length, List.take_of_length_le h]
  · rw [Nat.min_eq_right h]
theorem val_rowOf_all {xs : List Int} {n : Nat} (h : xs.length ≤ n) : val B64 (rowOf xs n) = val B64 xs := by rw [val_rowOf, List.take_of_length_le h]
theorem rowOf_piece (xs : List Int) (n : Nat) : rowOf (xs.take n) n = rowOf xs n := by
  unfold rowOf
  rw [List.length_take, List.take_take]
  congr 1
  · congr 1; omega
  · congr 1; omega
theorem rowOf_nil (n : Nat) : rowOf [] n = List.replicate n 0 := by unfold rowOf; simp
theorem Sl.mid {w : World} {A : Option Addr} {n c : Nat} {xs : List Int} (h : Sl w (.slice A n c) xs) (i j : Nat) (hp : 0 < n) (hij : i ≤ j) (hj : j ≤ n) : ∃ b o, A = some ⟨b, o, none⟩ ∧ Sl w (.slice (some ⟨b, o + i, none⟩) (j - i) (c - i)) ((xs.take j).drop i) := by
  obtain ⟨A', c', e, h1, h2, h3, h4⟩ := h
  simp only [Value.slice.injEq] at e
  obtain ⟨rfl, rfl, rfl⟩ := e
  obtain ⟨b, o, hA, hc⟩ := h4 (by omega)
  have hl : ((xs.take j).drop i).length = j - i := by rw [List.length_drop, List.length_take]; omega
  refine ⟨b, o, hA, _, c - i, by rw [hl], by rw [hl]; omega, by omega, ws_drop (ws_take h3 j) i, fun _ => ⟨b, o + i, rfl, fun k hk => ?_⟩⟩
  rw [hl] at hk
  rw [Nat.add_assoc, hc (i + k) (by omega)]
  congr 2
  unfold rd
  rw [List.getD_eq_getElem?_getD, List.getD_eq_getElem?_getD, List.getElem?_drop, List.getElem?_take_of_lt (by omega)]
set_option maxRecDepth 100000 in
set_option maxHeartbeats 2000000 in
theorem piece_c (w : World) (v : Value) (xs : List Int) (f n : Nat) (h : Sl w v xs) (hf : f ≤ 1000000) (hn : n ≤ 1000000) :
    Calls Tryz.prog 77 #[v, .int .i64 f, .int .i64 n] w fun e w' => ∃ g, e = .returned (.slice (some ⟨g, 0, none⟩) n n) ∧ Own w' w.heap.size (.slice (some ⟨g, 0, none⟩) n n) (rowOf (xs.drop f) n) ∧ w.grownBy w' none := by
  have mk := make64 34 (by kernel_rfl) n n (n : Int) (n : Int) (by omega) (by omega) (by omega) (by omega)
  have own0 := own_made w w.heap.size n n (Nat.le_refl _) (by omega) (by omega)
  have G0 := gb_alloc (gb_refl w none) (Obj.cells (madeCells #[.int .u64 0] n) 79)
  obtain ⟨A, c, rfl, hc, hc2⟩ := h.form
  obtain ⟨ln, hln⟩ : ∃ l, l = xs.length := ⟨_, rfl⟩
  rw [← hln] at h hc ⊢
  have hz2 : ∀ j, j = min ln (f + n) → rowOf (xs.drop f) n = ((xs.take j).drop f).take (min ((xs.take j).drop f).length n) ++ (List.replicate n 0).drop (min ((xs.take j).drop f).length n) := fun j hj => by
    have e1 : (xs.take j).drop f = (xs.drop f).take n := by
      rw [List.drop_take]
      rcases Nat.le_total ln (f + n) with h1 | h1
      · rw [List.take_of_length_le (by rw [List.length_drop]; omega), List.take_of_length_le (by rw [List.length_drop]; omega)]
      · congr 1; omega
    rw [← rowOf_piece, ← e1]; rfl
  have hz0 : ln ≤ f → rowOf (xs.drop f) n = List.replicate n 0 := fun h => by
    rw [List.drop_eq_nil_of_le (by omega), rowOf_nil]
  obtain ⟨zs, hzs⟩ : ∃ zs, zs = rowOf (xs.drop f) n := ⟨_, rfl⟩
  rw [← hzs] at hz2 hz0 ⊢
  by_cases hlt : f < ln
  · by_cases hfn : ln ≤ f + n
    · obtain ⟨b, o, rfl, hs⟩ := h.mid f ln (by omega) (by omega) (by omega)
      have HS := Lib.hid (hs.grown0 G0)
      have OW := Lib.hid own0
      have HG := Lib.hid G0
      have HZ := Lib.hid (hz2 ln (by omega))
      clear own0 G0 h hzs hz2 hz0 hs hln
      go_enter Tryz.func77, Tryz.ntmps77
      go_wp2_with (with_reducible (show wpList _ _ _ (Oper.mk _ (Op.call (Call.mk (Callee.builtin Builtin.copy) _ _)) _ _ _ _ :: _) _ _); refine own_copy 34 (by kernel_rfl) (.tmp 14) (.tmp 23) rfl rfl w.heap.size n n n _ rfl OW.out (Nat.le_refl _) (.slice (some ⟨b, o + f, none⟩) (ln - f) (c - f)) _ rfl HS.out _ rfl zs HZ.out ?_; intro w2 ow1 g1)
      go_ret
      exact ⟨_, rfl, ow1, gb_new HG.out g1 (fun i hi => by cases hi; exact Nat.le_refl _)⟩
    · obtain ⟨b, o, rfl, hs⟩ := h.mid f (f + n) (by omega) (by omega) (by omega)
      have HS := Lib.hid (hs.grown0 G0)
      have OW := Lib.hid own0
      have HG := Lib.hid G0
      have HZ := Lib.hid (hz2 (f + n) (by omega))
      clear own0 G0 h hzs hz2 hz0 hs hln
      go_enter Tryz.func77, Tryz.ntmps77
      go_wp2_with (with_reducible (show wpList _ _ _ (Oper.mk _ (Op.call (Call.mk (Callee.builtin Builtin.copy) _ _)) _ _ _ _ :: _) _ _); refine own_copy 34 (by kernel_rfl) (.tmp 14) (.tmp 23) rfl rfl w.heap.size n n n _ rfl OW.out (Nat.le_refl _) (.slice (some ⟨b, o + f, none⟩) (f + n - f) (c - f)) _ rfl HS.out _ rfl zs HZ.out ?_; intro w2 ow1 g1)
      go_ret
      exact ⟨_, rfl, ow1, gb_new HG.out g1 (fun i hi => by cases hi; exact Nat.le_refl _)⟩
  · have e0 := hz0 (by omega)
    rw [e0]
    have OW := Lib.hid own0
    have HG := Lib.hid G0
    clear own0 G0 h hzs hz2 hz0 hln e0
    go_enter Tryz.func77, Tryz.ntmps77
    go_wp2
    go_ret
    exact ⟨_, rfl, OW.out, HG.out⟩
theorem wide_c (w : World) (v : Value) (xs : List Int) (n : Nat) (h : Sl w v xs) (hn : n ≤ 1000000) :
    Calls Tryz.prog 78 #[v, .int .i64 n] w fun e w' => ∃ g, e = .returned (.slice (some ⟨g, 0, none⟩) n n) ∧ Own w' w.heap.size (.slice (some ⟨g, 0, none⟩) n n) (rowOf xs n) ∧ w.grownBy w' none := by
  have P : Calls Tryz.prog 77 #[v, .int .i64 0, .int .i64 n] w fun e w' => ∃ g, e = .returned (.slice (some ⟨g, 0, none⟩) n n) ∧ Own w' w.heap.size (.slice (some ⟨g, 0, none⟩) n n) (rowOf xs n) ∧ w.grownBy w' none := piece_c w v xs 0 n h (by decide) hn
  obtain ⟨A, c, rfl, _, _⟩ := h.form
  have HP := Lib.hid P
  clear P h
  go_enter Tryz.func78, Tryz.ntmps78
  go_wp2_with fail
  refine (HP.out).mono ?_
  rintro e w1 ⟨g, rfl, k⟩
  have KK := Lib.hid k
  clear k
  go_wp2
  go_ret
  exact ⟨g, rfl, KK.out⟩
end Go.Proofs.YtldkiddoajlohaaGreatDoor

/- Digits of words: shifted. Plain. -/
namespace Go.Proofs.YtldkiddoajlohaaGreatDoor
open Go.RowKit

theorem pow_split2 {s : Nat} (hs : s ≤ 64) : 2 ^ s * 2 ^ (64 - s) = 18446744073709551616 := by
  rw [← Nat.pow_add, show s + (64 - s) = 64 by omega]
theorem shl_parts {s w : Nat} (_hs0 : 0 < s) (hs : s < 64) (hw : w < 18446744073709551616) : (w * 2 ^ s) % 18446744073709551616 = 2 ^ s * (w % 2 ^ (64 - s)) ∧ (w * 2 ^ s) / 18446744073709551616 = w / 2 ^ (64 - s) ∧ w / 2 ^ (64 - s) < 2 ^ s ∧ 2 ^ s * (w % 2 ^ (64 - s)) + 2 ^ s ≤ 18446744073709551616 := by
  have hp := pow_split2 (Nat.le_of_lt hs)
  have h0 : 0 < 2 ^ (64 - s) := Nat.pow_pos (by decide)
  have h1 : 0 < 2 ^ s := Nat.pow_pos (by decide)
  refine ⟨?_, ?_, ?_, ?_⟩
  · rw [← hp, Nat.mul_comm w, Nat.mul_mod_mul_left]
  · rw [← hp, Nat.mul_comm w, Nat.mul_div_mul_left _ _ h1]
  · rw [Nat.div_lt_iff_lt_mul h0, hp]; exact hw
  · have := Nat.mod_lt w h0
    have h2 : 2 ^ s * (w % 2 ^ (64 - s) + 1) ≤ 2 ^ s * 2 ^ (64 - s) := Nat.mul_le_mul_left _ this
    rw [Nat.mul_add, Nat.mul_one, hp] at h2
    exact h2
theorem or_parts {s o t : Nat} (ho : o < 2 ^ s) : o ||| 2 ^ s * t = o + 2 ^ s * t := by
  rw [Nat.or_comm, ← Nat.two_pow_add_eq_or_of_lt ho]; exact Nat.add_comm _ _
/-- The first i words of a number times 2 to the s. -/
structure ShW (xs os : List Int) (s n i : Nat) : Prop where
  len : os.length = n + 1
  ws : Ws os
  z : ∀ j, i < j → rd os j = 0
  lo : (rd os i).toNat < 2 ^ s
  v : val 18446744073709551616 os = val 18446744073709551616 (xs.take i) * 2 ^ s
theorem ShW.start (xs : List Int) (s n : Nat) : ShW xs (List.replicate (n + 1) 0) s n 0 := by
  have e : ∀ j, rd (List.replicate (n + 1) 0) j = 0 := fun j => by unfold rd; rw [List.getD_eq_getElem?_getD, List.getElem?_replicate]; split <;> rfl
  exact ⟨List.length_replicate, ws_replicate _, fun j _ => e j, by rw [e]; exact Nat.pow_pos (by decide), by rw [val_replicate]; simp [val]⟩
theorem ShW.step {xs os : List Int} {s n i : Nat} {x o t u : Int} (h : ShW xs os s n i) (hs0 : 0 < s) (hs : s < 64) (hx : Ws xs) (hi : i < n) (ex : x = rd xs i) (eo : o = rd os i) (et : t = (((x.toNat * 2 ^ s) % 18446744073709551616 : Nat) : Int)) (eu : u = ((x.toNat / 2 ^ (64 - s) : Nat) : Int)) :
    ShW xs ((os.set i (o + t)).set (i + 1) u) s n (i + 1) ∧ 0 ≤ o + t ∧ o + t < 18446744073709551616 ∧ 0 ≤ u ∧ u < 18446744073709551616 := by
  have x0 := rd_w hx i
  rw [← ex] at x0
  have o0 := rd_w h.ws i
  rw [← eo] at o0
  have hlo := h.lo
  rw [← eo] at hlo
  obtain ⟨p1, p2, p3, p4⟩ := shl_parts hs0 hs (w := x.toNat) (by omega)
  have hs64 : (2 : Nat) ^ s ≤ 18446744073709551616 := by
    have := Nat.pow_le_pow_right (n := 2) (by decide) (Nat.le_of_lt hs)
    exact this
  have bo : 0 ≤ o + t ∧ o + t < 18446744073709551616 := by rw [et, p1]; omega
  have bu : 0 ≤ u ∧ u < 18446744073709551616 := by rw [eu]; omega
  refine ⟨⟨by rw [List.length_set, List.length_set, h.len], ws_set (ws_set h.ws _ bo.1 bo.2) _ bu.1 bu.2, fun j hj => by rw [rd_set_ne (by omega), rd_set_ne (by omega)]; exact h.z j (by omega), ?_, ?_⟩, bo.1, bo.2, bu.1, bu.2⟩
  · rw [rd_set_self (by rw [List.length_set, h.len]; omega), eu]; omega
  · have v1 := val_set 18446744073709551616 (xs := os) (k := i) (by rw [h.len]; omega) (o + t)
    have v2 := val_set 18446744073709551616 (xs := os.set i (o + t)) (k := i + 1) (by rw [List.length_set, h.len]; omega) u
    rw [rd_set_ne (by omega), h.z (i + 1) (by omega)] at v2
    have hv := h.v
    rw [val_take_any 18446744073709551616 xs i, ← ex, Nat.add_mul, ← hv]
    have e1 : (o + t).toNat = o.toNat + (x.toNat * 2 ^ s) % 18446744073709551616 := by rw [et]; omega
    have e2 : u.toNat = (x.toNat * 2 ^ s) / 18446744073709551616 := by rw [eu, p2]; omega
    rw [e1, ← eo, Nat.mul_add] at v1
    rw [e2, Nat.pow_succ] at v2
    have e3 := Nat.div_add_mod (x.toNat * 2 ^ s) 18446744073709551616
    have e4 : (0 : Int).toNat = 0 := rfl
    rw [e4, Nat.mul_zero, Nat.add_zero] at v2
    have e7 := Nat.mul_assoc (18446744073709551616 ^ i) 18446744073709551616 (x.toNat * 2 ^ s / 18446744073709551616)
    have e8 := Nat.mul_assoc (18446744073709551616 ^ i) x.toNat (2 ^ s)
    rw [e7] at v2
    rw [e8]
    have e5 : 18446744073709551616 ^ i * (x.toNat * 2 ^ s) = 18446744073709551616 ^ i * (18446744073709551616 * (x.toNat * 2 ^ s / 18446744073709551616)) + 18446744073709551616 ^ i * (x.toNat * 2 ^ s % 18446744073709551616) := by rw [← Nat.mul_add, e3]
    omega
theorem ShW.last {xs os : List Int} {s n : Nat} (h : ShW xs os s n n) (hx : xs.length ≤ n) : val 18446744073709551616 os = val 18446744073709551616 xs * 2 ^ s := by
  have := h.v
  rw [List.take_of_length_le hx] at this
  exact this
/-- The first i words of a number over 2 to the s. -/
structure ShR (xs os : List Int) (s n i : Nat) : Prop where
  len : os.length = n
  ws : Ws os
  lo : ∀ j, j < i → (rd os j).toNat = (rd xs j).toNat / 2 ^ s + (rd xs (j + 1)).toNat * 2 ^ (64 - s) % 18446744073709551616
theorem val_shr {xs : List Int} (hx : Ws xs) {s : Nat} (_hs0 : 0 < s) (hs : s < 64) : ∀ (os : List Int), os.length = xs.length → (∀ j, j < xs.length → (rd os j).toNat = (rd xs j).toNat / 2 ^ s + (rd xs (j + 1)).toNat * 2 ^ (64 - s) % 18446744073709551616) → val 18446744073709551616 os = val 18446744073709551616 xs / 2 ^ s := by
  induction xs with
  | nil => intro os hl _; rw [List.eq_nil_of_length_eq_zero hl]; simp [val]
  | cons x xs ih =>
    intro os hl hv
    cases os with
    | nil => simp at hl
    | cons o os =>
      have hx' : Ws xs := fun y hy => hx y (List.mem_cons_of_mem _ hy)
      have i1 := ih hx' os (by simpa using hl) (fun j hj => by
        have := hv (j + 1) (by simpa using hj)
        simpa [rd] using this)
      have h0 := hv 0 (by simp)
      have e0 : rd (o :: os) 0 = o := rfl
      have e1 : rd (x :: xs) 0 = x := rfl
      have e2 : rd (x :: xs) (0 + 1) = rd xs 0 := rfl
      rw [e0, e1, e2] at h0
      rw [val, val, i1, h0]
      have hval : ∃ q, val 18446744073709551616 xs = (rd xs 0).toNat + 18446744073709551616 * q := by
        cases xs with
        | nil => exact ⟨0, rfl⟩
        | cons y ys => exact ⟨_, rfl⟩
      obtain ⟨q, hq⟩ := hval
      have b0 := rd_w hx' 0
      rw [hq]
      obtain ⟨y, hy⟩ : ∃ y, y = (rd xs 0).toNat := ⟨_, rfl⟩
      rw [← hy]
      have hp := pow_split2 (Nat.le_of_lt hs)
      have hP : 0 < 2 ^ s := Nat.pow_pos (by decide)
      have hQ : 0 < 2 ^ (64 - s) := Nat.pow_pos (by decide)
      clear i1 hv ih h0 hx hq hl
      generalize 2 ^ s = P at hp hP ⊢
      generalize 2 ^ (64 - s) = R at hp hQ ⊢
      have hm : y * R % 18446744073709551616 = R * (y % P) := by
        rw [← hp, Nat.mul_comm y, Nat.mul_comm P R, Nat.mul_mod_mul_left]
      rw [hm]
      have d1 : (x.toNat + 18446744073709551616 * (y + 18446744073709551616 * q)) / P = x.toNat / P + R * (y + 18446744073709551616 * q) := by
        rw [← hp, Nat.mul_assoc, Nat.add_mul_div_left _ _ hP]
      have d2 : (y + 18446744073709551616 * q) / P = y / P + R * q := by
        rw [← hp, Nat.mul_assoc, Nat.add_mul_div_left _ _ hP]
      rw [d1, d2]
      have dm := Nat.div_add_mod y P
      have e5 : 18446744073709551616 * (y / P + R * q) = R * (P * (y / P)) + R * (18446744073709551616 * q) := by
        have a1 : 18446744073709551616 * (y / P) = R * (P * (y / P)) := by rw [← Nat.mul_assoc R P, Nat.mul_comm R P, hp]
        have a2 : 18446744073709551616 * (R * q) = R * (18446744073709551616 * q) := by rw [← Nat.mul_assoc, Nat.mul_comm 18446744073709551616 R, Nat.mul_assoc]
        rw [Nat.mul_add, a1, a2]
      have e6 : R * (y + 18446744073709551616 * q) = R * (P * (y / P)) + R * (y % P) + R * (18446744073709551616 * q) := by
        have a1 : R * y = R * (P * (y / P)) + R * (y % P) := by rw [← Nat.mul_add, dm]
        rw [Nat.mul_add, a1]
      rw [e5, e6]; omega
end Go.Proofs.YtldkiddoajlohaaGreatDoor

/- Rows of words: shifted by less than a word. -/
namespace Go.Proofs.YtldkiddoajlohaaGreatDoor
open Go.RowKit

set_option maxRecDepth 100000 in
set_option maxHeartbeats 4000000 in
theorem lshl_c (w : World) (va : Value) (al : List Int) (s : Nat) (ha : Sl w va al) (hl : al.length ≤ 1000000) (hs0 : 0 < s) (hs : s < 64) :
    Calls Tryz.prog 100 #[va, .int .i64 s] w fun e w' => ∃ x, e = .returned x ∧ Wo w' w.heap.size x (val B64 al * 2 ^ s) ∧ w.grownBy w' none := by
  obtain ⟨A, ca, rfl, _, _⟩ := ha.form
  have LW : Calls Tryz.prog 96 #[.int .i64 s, .int .i64 1048576] w fun e w' => e = .returned (.int .i64 s) ∧ w' = w := lwithin_c w s 1048576 (by omega)
  have T1 := Lib.hid (ltrim_c w _ _ _ _ ha)
  have ha' := ha.take (trimZ al).length (trimZ_len al)
  rw [take_trimZ_len] at ha'
  have hv : val B64 (trimZ al) = val B64 al := val_trimZ _ _
  have h1 := trimZ_len al
  obtain ⟨xs, hxs⟩ : ∃ l, l = trimZ al := ⟨_, rfl⟩
  rw [← hxs] at T1 ha' hv h1
  obtain ⟨n, hn⟩ : ∃ n, n = xs.length := ⟨_, rfl⟩
  rw [← hn] at T1 ha' h1
  have HX := Lib.hid ha'
  have HV := Lib.hid hv
  have HXL := Lib.hid hn
  have HLW := Lib.hid LW
  have bn : n ≤ 1000000 := by omega
  have e64 : (s : Int) / 64 = 0 := by omega
  have e64' : (s : Int) % 64 = (s : Int) := by omega
  have sb : s < 64 := hs
  clear ha ha' hv hxs hn h1 hl LW
  by_cases hn0 : n = 0
  · subst hn0
    have hz : val B64 al * 2 ^ s = 0 := by
      rw [← HV.out, List.eq_nil_of_length_eq_zero HXL.out.symm]; simp [val]
    rw [hz]
    clear hz
    go_enter Tryz.func100, Tryz.ntmps100
    go_wp2_with fail
    refine (HLW.out).mono ?_
    rintro e w1 ⟨rfl, hw1⟩
    subst hw1
    go_wp2_with fail
    refine (T1.out).mono ?_
    rintro e w1 ⟨rfl, hw1⟩
    subst hw1
    go_wp2
    go_ret
    exact ⟨_, rfl, ⟨[], own_nil _ _, nz_nil, rfl⟩, gb_refl _ _⟩
  · have n0 : ((n : Int) == 0) = false := by have : ¬ (n : Int) = 0 := by omega
                                             simpa using this
    have mk := make64 34 (by kernel_rfl) (n + 1) (n + 1) ((n : Int) + 1) ((n : Int) + 1) (by omega) (by omega) (by omega) (by omega)
    have OW := Lib.hid (own_made w w.heap.size (n + 1) (n + 1) (Nat.le_refl _) (by omega) (by omega))
    have G0 := Lib.hid (gb_alloc (gb_refl w none) (Obj.cells (madeCells #[.int .u64 0] (n + 1)) 79))
    go_enter Tryz.func100, Tryz.ntmps100
    go_wp2_with fail
    refine (HLW.out).mono ?_
    rintro e w1 ⟨rfl, hw1⟩
    subst hw1
    go_wp2_with fail
    refine (T1.out).mono ?_
    rintro e w1 ⟨rfl, hw1⟩
    subst hw1
    go_wp2
    clear mk
    go_loopw [30] (fun v30 wr => ∃ (i : Nat) (os : List Int), v30 = .int .i64 i ∧ i ≤ n ∧ ShW xs os s n i ∧ Own wr w1.heap.size (.slice (some ⟨w1.heap.size, 0, none⟩) (n + 1) (n + 1)) os ∧ w1.grownBy wr none) (fun v30 _ => n - (intOf v30).toNat)
    case atStart => exact ⟨0, _, rfl, by omega, ShW.start _ _ _, OW.out, G0.out⟩
    case round =>
      clear OW G0
      obtain ⟨i, os, rfl, hi, sm, ow, G⟩ := hrel
      have SM := Lib.hid sm
      have OS := Lib.hid ow
      have GG := Lib.hid G
      clear sm ow G
      by_cases hin : i < n
      · obtain ⟨bA, oA, rfl, cA⟩ := (HX.out.grown0 GG.out).at i (by rw [← HXL.out]; exact hin)
        obtain ⟨x, hx⟩ : ∃ x, x = rd xs i := ⟨_, rfl⟩
        obtain ⟨o, ho⟩ : ∃ y, y = rd os i := ⟨_, rfl⟩
        obtain ⟨p, hp⟩ : ∃ y, y = rd os (i + 1) := ⟨_, rfl⟩
        have bx : 0 ≤ x ∧ x < 18446744073709551616 := by rw [hx]; exact rd_w HX.out.ws i
        obtain ⟨t, et⟩ : ∃ t : Int, t = (((x.toNat * 2 ^ s) % 18446744073709551616 : Nat) : Int) := ⟨_, rfl⟩
        obtain ⟨u, eu⟩ : ∃ t : Int, t = ((x.toNat / 2 ^ (64 - s) : Nat) : Int) := ⟨_, rfl⟩
        obtain ⟨st, b1, b2, b3, b4⟩ := SM.out.step hs0 hs HX.out.ws hin hx ho et eu
        have ST := Lib.hid st
        rw [← hx] at cA
        have fr := OS.out.free i
        have ce := OS.out.cell i (by rw [SM.out.len]; omega)
        rw [← ho] at ce
        have OS2 := Lib.hid (OS.out.store i b1 b2)
        have fr2 := OS.out.free (i + 1)
        have ce2 := OS.out.cell (i + 1) (by rw [SM.out.len]; omega)
        rw [← hp] at ce2
        have xn : ((x.toNat : Nat) : Int) = x := Int.toNat_of_nonneg bx.1
        have es : IntKind.u64.wrap (x * 2 ^ s) = t := by
          rw [IntKind.wrap_u64, et, ← xn]
          have e2 : ((2 : Int) ^ s) = ((2 ^ s : Nat) : Int) := by rw [Int.natCast_pow]; rfl
          rw [e2, ← Int.natCast_mul, Int.toNat_natCast]
          omega
        have er : x / 2 ^ (64 - s) = u := by
          rw [eu, ← xn, Int.toNat_natCast, Int.natCast_ediv, Int.natCast_pow]
          rfl
        have or1 : bits .or .u64 o t = o + t := by
          obtain ⟨p1, _, _, p4⟩ := shl_parts hs0 hs (w := x.toNat) (by omega)
          have lo := SM.out.lo
          rw [← ho] at lo
          have o0 := rd_w OS.out.ws i
          rw [← ho] at o0
          have on : ((o.toNat : Nat) : Int) = o := Int.toNat_of_nonneg o0.1
          rw [et, p1, ← on, bits_or_u64_nat _ _ (by omega) (by omega), or_parts lo, Int.natCast_add]
        obtain ⟨r, hr⟩ : ∃ r, r = o + t := ⟨_, rfl⟩
        rw [← hr] at or1 b1 b2 ST OS2
        clear hx ho hp st et eu xn hr
        go_wp2
        clear es er or1
        go_roundw
        case rel => exact ⟨i + 1, _, by go_num, by omega, ST.out, OS2.out.store (i + 1) b3 b4, gb_set (p := ⟨w1.heap.size, i + 1, none⟩) (gb_set (p := ⟨w1.heap.size, i, none⟩) GG.out (Nat.le_refl _) _) (Nat.le_refl _) _⟩
        case measure => simp [intOf]; omega
      · obtain rfl : i = n := by omega
        have EV := Lib.hid (SM.out.last (by rw [← HXL.out]; exact Nat.le_refl _))
        have TR := Lib.hid (ltrim_c wr _ _ _ os OS.out.sl)
        go_wp2_with fail
        refine (TR.out).mono ?_
        rintro e w3 ⟨rfl, hw3⟩
        have O3 := Lib.hid (OS.out.take (trimZ os).length (trimZ_len _))
        rw [← hw3] at O3 GG
        clear hw3
        go_wp2
        go_ret
        refine ⟨.slice (some ⟨w1.heap.size, 0, none⟩) (trimZ os).length (i + 1), rfl, ⟨_, O3.out, by rw [take_trimZ_len]; exact trimZ_nz _, ?_⟩, GG.out⟩
        rw [take_trimZ_len, val_trimZ, EV.out]
        exact congrArg (· * 2 ^ s) HV.out
set_option maxRecDepth 100000 in
set_option maxHeartbeats 4000000 in
theorem lshr_c (w : World) (va : Value) (al : List Int) (s : Nat) (ha : Sl w va al) (hl : al.length ≤ 1000000) (hs0 : 0 < s) (hs : s < 64) :
    Calls Tryz.prog 102 #[va, .int .i64 s] w fun e w' => ∃ x, e = .returned x ∧ Wo w' w.heap.size x (val B64 al / 2 ^ s) ∧ w.grownBy w' none := by
  obtain ⟨A, ca, rfl, _, _⟩ := ha.form
  have LW : Calls Tryz.prog 96 #[.int .i64 s, .int .i64 1048576] w fun e w' => e = .returned (.int .i64 s) ∧ w' = w := lwithin_c w s 1048576 (by omega)
  have T1 := Lib.hid (ltrim_c w _ _ _ _ ha)
  have ha' := ha.take (trimZ al).length (trimZ_len al)
  rw [take_trimZ_len] at ha'
  have hv : val B64 (trimZ al) = val B64 al := val_trimZ _ _
  have h1 := trimZ_len al
  obtain ⟨xs, hxs⟩ : ∃ l, l = trimZ al := ⟨_, rfl⟩
  rw [← hxs] at T1 ha' hv h1
  obtain ⟨n, hn⟩ : ∃ n, n = xs.length := ⟨_, rfl⟩
  rw [← hn] at T1 ha' h1
  have HX := Lib.hid ha'
  have HV := Lib.hid hv
  have HXL := Lib.hid hn
  have HLW := Lib.hid LW
  have bn : n ≤ 1000000 := by omega
  have e64 : (s : Int) / 64 = 0 := by omega
  have e64' : (s : Int) % 64 = (s : Int) := by omega
  have sb : s < 64 := hs
  have sb0 : 0 < s := hs0
  clear ha ha' hv hxs hn h1 hl LW
  by_cases hn0 : n = 0
  · subst hn0
    have hz : val B64 al / 2 ^ s = 0 := by
      rw [← HV.out, List.eq_nil_of_length_eq_zero HXL.out.symm]; simp [val]
    rw [hz]
    clear hz
    go_enter Tryz.func102, Tryz.ntmps102
    go_wp2_with fail
    refine (HLW.out).mono ?_
    rintro e w1 ⟨rfl, hw1⟩
    subst hw1
    go_wp2_with fail
    refine (T1.out).mono ?_
    rintro e w1 ⟨rfl, hw1⟩
    subst hw1
    go_wp2
    go_ret
    exact ⟨_, rfl, ⟨[], own_nil _ _, nz_nil, rfl⟩, gb_refl _ _⟩
  · have n0 : 0 < n := by omega
    have mk := make64 34 (by kernel_rfl) n n (n : Int) (n : Int) (by omega) (by omega) (by omega) (by omega)
    have OW := Lib.hid (own_made w w.heap.size n n (Nat.le_refl _) (by omega) (by omega))
    have G0 := Lib.hid (gb_alloc (gb_refl w none) (Obj.cells (madeCells #[.int .u64 0] n) 79))
    go_enter Tryz.func102, Tryz.ntmps102
    go_wp2_with fail
    refine (HLW.out).mono ?_
    rintro e w1 ⟨rfl, hw1⟩
    subst hw1
    go_wp2_with fail
    refine (T1.out).mono ?_
    rintro e w1 ⟨rfl, hw1⟩
    subst hw1
    go_wp2
    clear mk e64 e64'
    go_loopw [29] (fun v29 wr => ∃ (i : Nat) (os : List Int), v29 = .int .i64 i ∧ i ≤ n ∧ ShR xs os s n i ∧ Own wr w1.heap.size (.slice (some ⟨w1.heap.size, 0, none⟩) n n) os ∧ w1.grownBy wr none) (fun v29 _ => n - (intOf v29).toNat)
    case atStart => exact ⟨0, _, rfl, by omega, ⟨List.length_replicate, ws_replicate _, fun j hj => by omega⟩, OW.out, G0.out⟩
    case round =>
      clear OW G0
      obtain ⟨i, os, rfl, hi, sm, ow, G⟩ := hrel
      have SM := Lib.hid sm
      have OS := Lib.hid ow
      have GG := Lib.hid G
      clear sm ow G
      by_cases hin : i < n
      · obtain ⟨bA, oA, rfl, cA⟩ := (HX.out.grown0 GG.out).at i (by rw [← HXL.out]; exact hin)
        obtain ⟨x, hx⟩ : ∃ x, x = rd xs i := ⟨_, rfl⟩
        obtain ⟨o, ho⟩ : ∃ y, y = rd os i := ⟨_, rfl⟩
        have bx : 0 ≤ x ∧ x < 18446744073709551616 := by rw [hx]; exact rd_w HX.out.ws i
        rw [← hx] at cA
        have fr := OS.out.free i
        have ce := OS.out.cell i (by rw [SM.out.len]; omega)
        rw [← ho] at ce
        have xn : ((x.toNat : Nat) : Int) = x := Int.toNat_of_nonneg bx.1
        obtain ⟨t, et⟩ : ∃ t : Int, t = ((x.toNat / 2 ^ s : Nat) : Int) := ⟨_, rfl⟩
        have es : x / 2 ^ s = t := by
          rw [et, ← xn, Int.toNat_natCast, Int.natCast_ediv, Int.natCast_pow]
          rfl
        obtain ⟨p1, p2, p3, p4⟩ := shl_parts (s := 64 - s) (by omega) (by omega) (w := (rd xs (i + 1)).toNat) (by have := rd_w HX.out.ws (i + 1); omega)
        rw [show 64 - (64 - s) = s by omega] at p1 p2 p3 p4
        have tlt : t.toNat < 2 ^ (64 - s) := by
          rw [et, Int.toNat_natCast, Nat.div_lt_iff_lt_mul (Nat.pow_pos (by decide)), Nat.mul_comm, pow_split2 (by omega)]
          omega
        have t0 : 0 ≤ t ∧ t < 18446744073709551616 := by
          have := Nat.div_le_self x.toNat (2 ^ s)
          rw [et]
          generalize x.toNat / 2 ^ s = D at this ⊢
          omega
        have O1 := Lib.hid (OS.out.store i t0.1 t0.2)
        by_cases hi2 : i + 1 < n
        · obtain ⟨bB, oB, eB, cB⟩ := (HX.out.grown0 GG.out).at (i + 1) (by rw [← HXL.out]; exact hi2)
          simp only [Option.some.injEq, Addr.mk.injEq, and_true] at eB
          obtain ⟨rfl, rfl⟩ := eB
          obtain ⟨y, hy⟩ : ∃ y, y = rd xs (i + 1) := ⟨_, rfl⟩
          rw [← hy] at cB p1 p2 p3 p4
          have bY : 0 ≤ y ∧ y < 18446744073709551616 := by rw [hy]; exact rd_w HX.out.ws (i + 1)
          have yn : ((y.toNat : Nat) : Int) = y := Int.toNat_of_nonneg bY.1
          obtain ⟨u, eu⟩ : ∃ u : Int, u = ((y.toNat * 2 ^ (64 - s) % 18446744073709551616 : Nat) : Int) := ⟨_, rfl⟩
          have eu2 : IntKind.u64.wrap (y * 2 ^ (64 - s)) = u := by
            have e2 : ((2 : Int) ^ (64 - s)) = ((2 ^ (64 - s) : Nat) : Int) := by rw [Int.natCast_pow]; rfl
            rw [← yn, e2, ← Int.natCast_mul, wrapM, eu]
          have or1 : bits .or .u64 t u = t + u := by
            have tn : ((t.toNat : Nat) : Int) = t := Int.toNat_of_nonneg t0.1
            rw [eu, p1, ← tn, bits_or_u64_nat _ _ (by omega) (by omega), or_parts tlt, Int.natCast_add]
          have br : 0 ≤ t + u ∧ t + u < 18446744073709551616 := by
            have tn : ((t.toNat : Nat) : Int) = t := Int.toNat_of_nonneg t0.1
            rw [eu, p1, ← tn, ← Int.natCast_add]
            omega
          have hlo : (t + u).toNat = (rd xs i).toNat / 2 ^ s + (rd xs (i + 1)).toNat * 2 ^ (64 - s) % 18446744073709551616 := by
            rw [← hx, ← hy, et, eu]; omega
          obtain ⟨r, hr⟩ : ∃ r, r = t + u := ⟨_, rfl⟩
          rw [← hr] at or1 br hlo
          have ST : Hid (ShR xs (os.set i r) s n (i + 1)) := Lib.hid ⟨by rw [List.length_set, SM.out.len], ws_set SM.out.ws _ br.1 br.2, fun j hj => by
            by_cases e : j = i
            · subst e; rw [rd_set_self (by rw [SM.out.len]; exact hin)]; exact hlo
            · rw [rd_set_ne (by omega)]; exact SM.out.lo j (by omega)⟩
          clear hx ho hy et eu xn yn hr hlo p1 p2 p3 p4 tlt
          go_wp2
          refine Canon.region_canon (by kernel_rfl) (by kernel_rfl) ?_
          go_wp2
          refine ⟨by kernel_rfl, ?_⟩
          clear es eu2 or1
          go_wp2
          go_roundw
          case rel => exact ⟨i + 1, _, by go_num, by omega, ST.out, by have := O1.out.drew.store i br.1 br.2; rw [List.set_set] at this; exact this, gb_set (p := ⟨w1.heap.size, i, none⟩) (gb_drew (gb_set (p := ⟨w1.heap.size, i, none⟩) GG.out (Nat.le_refl _) _)) (Nat.le_refl _) _⟩
          case measure => simp [intOf]; omega
        · have ST : Hid (ShR xs (os.set i t) s n (i + 1)) := Lib.hid ⟨by rw [List.length_set, SM.out.len], ws_set SM.out.ws _ t0.1 t0.2, fun j hj => by
            by_cases e : j = i
            · subst e; rw [rd_set_self (by rw [SM.out.len]; exact hin), rd_beyond (xs := xs) (show xs.length ≤ j + 1 by rw [← HXL.out]; omega), et, Int.toNat_natCast, hx]; simp
            · rw [rd_set_ne (by omega)]; exact SM.out.lo j (by omega)⟩
          clear hx ho et xn p1 p2 p3 p4 tlt
          go_wp2
          clear es
          go_roundw
          case rel => exact ⟨i + 1, _, by go_num, by omega, ST.out, O1.out, gb_set (p := ⟨w1.heap.size, i, none⟩) GG.out (Nat.le_refl _) _⟩
          case measure => simp [intOf]; omega
      · obtain rfl : i = n := by omega
        have EV := Lib.hid (val_shr HX.out.ws hs0 hs os (by rw [SM.out.len, HXL.out]) (fun j hj => SM.out.lo j (by rw [HXL.out]; exact hj)))
        have TR := Lib.hid (ltrim_c wr _ _ _ os OS.out.sl)
        go_wp2_with fail
        refine (TR.out).mono ?_
        rintro e w3 ⟨rfl, hw3⟩
        have O3 := Lib.hid (OS.out.take (trimZ os).length (trimZ_len _))
        rw [← hw3] at O3 GG
        clear hw3
        go_wp2
        go_ret
        refine ⟨.slice (some ⟨w1.heap.size, 0, none⟩) (trimZ os).length i, rfl, ⟨_, O3.out, by rw [take_trimZ_len]; exact trimZ_nz _, ?_⟩, GG.out⟩
        rw [take_trimZ_len, val_trimZ, EV.out]
        exact congrArg (· / 2 ^ s) HV.out
end Go.Proofs.YtldkiddoajlohaaGreatDoor

/- Products in two pieces: Kara. -/
namespace Go.Proofs.YtldkiddoajlohaaGreatDoor
open Go.RowKit

/-- What is asked of the function that multiplies pieces of p and q words, at level b. -/
def InC (w : World) (gm fk : Nat) (first : Array Value) (b : Int) (T : Nat → Option Value) (p q k : Nat) (d : Int) : Prop :=
  ∀ (W : World) (va vb : Value) (al bl : List Int) (a : Int) (c : Mc), w.grownBy W (some gm) → Mt W gm a b c → c.T = T → a + (k : Int) ≤ 1000000000000000 → Sl W va al → Sl W vb bl → al.length = p → bl.length = q → Off va gm → Off vb gm →
    Calls Tryz.prog fk (first ++ #[va, vb]) W fun e w' => ∃ x c', e = .returned x ∧ Wo w' W.heap.size x (val B64 al * val B64 bl) ∧ Mt w' gm (a + (k : Int)) b c' ∧ (c'.T = T ∧ c.v ≤ c'.v ∧ (c'.v ≤ c.v ∨ c'.v ≤ b + d)) ∧ W.grownBy w' (some gm)
theorem mul_pieces {P a0 a1 b0 b1 : Nat} : (a0 + P * a1) * (b0 + P * b1) = a0 * b0 + P * ((a0 + a1) * (b0 + b1) - (a0 * b0 + a1 * b1)) + P * P * (a1 * b1) := by
  have h : (a0 + a1) * (b0 + b1) - (a0 * b0 + a1 * b1) = a0 * b1 + a1 * b0 := by
    have : (a0 + a1) * (b0 + b1) = a0 * b0 + a1 * b1 + (a0 * b1 + a1 * b0) := by grind
    omega
  rw [h]; grind
theorem mul_pieces_le (a0 a1 b0 b1 : Nat) : a0 * b0 + a1 * b1 ≤ (a0 + a1) * (b0 + b1) := by
  have : (a0 + a1) * (b0 + b1) = a0 * b0 + a1 * b1 + (a0 * b1 + a1 * b0) := by grind
  omega
theorem mul_lt_pow {x y p q : Nat} (hx : x < B64 ^ p) (hy : y < B64 ^ q) : x * y < B64 ^ (p + q) := by
  rw [Nat.pow_add]
  exact Nat.mul_lt_mul_of_lt_of_lt hx hy
theorem jS3 (h : Nat) (f : Nat → Nat) : jS h f 3 = f 0 + B64 ^ h * f 1 + B64 ^ h * B64 ^ h * f 2 := by
  show 0 + B64 ^ (h * 0) * f 0 + B64 ^ (h * 1) * f 1 + B64 ^ (h * 2) * f 2 = _
  rw [Nat.mul_zero, Nat.pow_zero, Nat.one_mul, Nat.zero_add, Nat.mul_one, Nat.mul_comm h 2, Nat.two_mul, Nat.pow_add]
theorem val_split {xs : List Int} {h : Nat} (hh : h ≤ xs.length) : val B64 xs = val B64 (rowOf xs h) + B64 ^ h * val B64 (rowOf (xs.drop h) (xs.length - h)) := by
  rw [val_take_drop B64 xs h hh, val_rowOf, val_rowOf_all (by rw [List.length_drop]; omega)]
theorem rowOf_lt {xs : List Int} (hw : Ws xs) (n : Nat) : val B64 (rowOf xs n) < B64 ^ n := by
  rw [val_rowOf]
  have := val_lt (B := B64) (hw.dg.take n)
  rw [List.length_take] at this
  exact Nat.lt_of_lt_of_le this (Nat.pow_le_pow_right (by decide) (Nat.min_le_left _ _))
/-- Rows that are read, none of them in the meter's block. -/
def Rw (W : World) (gm : Nat) (l : List (Value × List Int)) : Prop := ∀ (i : Nat) (p : Value × List Int), l[i]? = some p → Sl W p.1 p.2 ∧ Off p.1 gm
theorem Rw.grown {W W' : World} {gm : Nat} {l : List (Value × List Int)} (h : Rw W gm l) (g : W.grownBy W' (some gm)) : Rw W' gm l := fun i p hp => ⟨(h i p hp).1.off (h i p hp).2 g, (h i p hp).2⟩
theorem Rw.grown0 {W W' : World} {gm : Nat} {l : List (Value × List Int)} (h : Rw W gm l) (g : W.grownBy W' none) : Rw W' gm l := fun i p hp => ⟨(h i p hp).1.grown0 g, (h i p hp).2⟩
theorem Rw.nil (W : World) (gm : Nat) : Rw W gm [] := fun i p hp => by simp at hp
theorem Rw.add {W : World} {gm : Nat} {l : List (Value × List Int)} (h : Rw W gm l) {v : Value} {xs : List Int} (hs : Sl W v xs) (ho : Off v gm) : Rw W gm (l ++ [(v, xs)]) := fun i p hp => by
  by_cases hi : i < l.length
  · rw [List.getElem?_append_left hi] at hp
    exact h i p hp
  · rw [List.getElem?_append_right (by omega)] at hp
    cases hj : i - l.length with
    | zero => rw [hj] at hp; obtain rfl := Option.some.inj hp; exact ⟨hs, ho⟩
    | succ j => rw [hj] at hp; simp at hp
theorem Rw.at {W : World} {gm : Nat} {l : List (Value × List Int)} (h : Rw W gm l) (i : Nat) {v : Value} {xs : List Int} (hp : l[i]? = some (v, xs)) : Sl W v xs := (h i _ hp).1
theorem Rw.off {W : World} {gm : Nat} {l : List (Value × List Int)} (h : Rw W gm l) (i : Nat) {v : Value} {xs : List Int} (hp : l[i]? = some (v, xs)) : Off v gm := (h i _ hp).2
theorem Own.offg {w : World} {base g n c gm : Nat} {xs : List Int} (h : Own w base (.slice (some ⟨g, 0, none⟩) n c) xs) (hb : gm < base) : Off (.slice (some ⟨g, 0, none⟩) n c) gm := off_some (by have := h.base_le.1; omega)
/-- Three parts in new memory. -/
theorem pts3 (w : World) (t : TypeId) (v0 v1 v2 : Value) (l0 l1 l2 : List Int) (h0 : Sl w v0 l0) (h1 : Sl w v1 l1) (h2 : Sl w v2 l2) :
    Pts (w.alloc (.cells #[v0, v1, v2] t)) (.slice (some ⟨w.heap.size, 0, none⟩) 3 3) 3 (fun j => [v0, v1, v2].getD j v0) (fun j => [l0, l1, l2].getD j []) := by
  have G := gb_alloc (gb_refl w none) (Obj.cells #[v0, v1, v2] t)
  refine ⟨⟨_, 3, rfl, by decide, by decide, fun _ => ⟨_, 0, rfl, fun j hj => ?_⟩⟩, fun j hj => ?_⟩
  · have C := cs_new w #[v0, v1, v2] t
    rw [Nat.zero_add]
    rcases (show j = 0 ∨ j = 1 ∨ j = 2 by omega) with rfl | rfl | rfl
    · exact C.cell 0 rfl
    · exact C.cell 1 rfl
    · exact C.cell 2 rfl
  · rcases (show j = 0 ∨ j = 1 ∨ j = 2 by omega) with rfl | rfl | rfl
    · exact h0.grown0 G
    · exact h1.grown0 G
    · exact h2.grown0 G
set_option maxRecDepth 100000 in
set_option maxHeartbeats 8000000 in
theorem kara_no (w : World) (g2 : Nat) (va vb f : Value) (al bl : List Int) (ha : Sl w va al) (hb : Sl w vb bl) (h : min al.length bl.length ≤ (max al.length bl.length + 1) / 2) (hl : al.length ≤ 1000000) (hl2 : bl.length ≤ 1000000) :
    Calls Tryz.prog 61 #[.pointer (some ⟨g2, 0, none⟩), va, vb, f] w fun e w' => e = .returned (.tuple #[.slice none 0 0, .bool false]) ∧ w' = w := by
  obtain ⟨A, ca, rfl, hca, _⟩ := ha.form
  obtain ⟨B, cb, rfl, hcb, _⟩ := hb.form
  obtain ⟨n, hn⟩ : ∃ n, n = al.length := ⟨_, rfl⟩
  obtain ⟨m, hm'⟩ : ∃ m, m = bl.length := ⟨_, rfl⟩
  rw [← hn, ← hm'] at h ⊢
  rw [← hn] at hl hca
  rw [← hm'] at hl2 hcb
  clear hn hm' ha hb
  by_cases hlt : n < m
  · rw [Nat.min_eq_left (by omega), Nat.max_eq_right (by omega)] at h
    obtain ⟨q, hq⟩ : ∃ q, q = (m + 1) / 2 := ⟨_, rfl⟩
    have e : ((m : Int) + 1) / 2 = (q : Int) := by omega
    rw [← hq] at h
    have hle : (n : Int) ≤ (q : Int) := by omega
    clear hq h
    go_enter Tryz.func61, Tryz.ntmps61
    go_wp2
    go_ret2
    exact ⟨rfl, rfl⟩
  · rw [Nat.min_eq_right (by omega), Nat.max_eq_left (by omega)] at h
    obtain ⟨q, hq⟩ : ∃ q, q = (n + 1) / 2 := ⟨_, rfl⟩
    have e : ((n : Int) + 1) / 2 = (q : Int) := by omega
    rw [← hq] at h
    have hle : (m : Int) ≤ (q : Int) := by omega
    clear hq h
    go_enter Tryz.func61, Tryz.ntmps61
    go_wp2
    go_ret2
    exact ⟨rfl, rfl⟩
set_option maxRecDepth 100000 in
set_option maxHeartbeats 8000000 in
theorem kara_c (w : World) (g2 g3 gm fk : Nat) (fs : Array Value) (a b d : Int) (c : Mc) (T : Nat → Option Value) (va vb : Value) (al bl : List Int) (k1 k2 k3 : Nat) (hc2 : w.cell? ⟨g2, 0, none⟩ = some (.pointer (some ⟨g3, 0, none⟩))) (hc3 : w.cell? ⟨g3, 0, none⟩ = some (.pointer (some ⟨gm, 0, none⟩)))
    (hm : Mt w gm a b c) (hT : c.T = T) (hd : 0 ≤ d) (hb1 : b ≤ 1000000) (ha0 : a + ((k1 + k2 + k3 : Nat) : Int) ≤ 1000000000000000) (ha : Sl w va al) (hb : Sl w vb bl) (hna : Off va gm) (hnb : Off vb gm) (hl : al.length ≤ 16384) (hl2 : bl.length ≤ 16384)
    (hx : (max al.length bl.length + 1) / 2 < min al.length bl.length)
    (ent : ∀ args w, (callFunc fk args).run Tryz.prog w = .ok (.enter fk args) w)
    (i1 : InC w gm fk fs (b + 1) T ((max al.length bl.length + 1) / 2) ((max al.length bl.length + 1) / 2) k1 d)
    (i2 : InC w gm fk fs (b + 1) T (max al.length bl.length - (max al.length bl.length + 1) / 2) (min al.length bl.length - (max al.length bl.length + 1) / 2) k2 d)
    (i3 : InC w gm fk fs (b + 1) T ((max al.length bl.length + 1) / 2 + 1) ((max al.length bl.length + 1) / 2 + 1) k3 d) :
    Calls Tryz.prog 61 #[.pointer (some ⟨g2, 0, none⟩), va, vb, .func (.func fk) fs #[]] w fun e w' => ∃ x c', e = .returned (.tuple #[x, .bool true]) ∧ Wo w' w.heap.size x (val B64 al * val B64 bl) ∧ Mt w' gm (a + ((k1 + k2 + k3 : Nat) : Int)) b c' ∧
      (c'.T = T ∧ c.v ≤ c'.v ∧ (c'.v ≤ c.v ∨ c'.v ≤ b + (1 + d))) ∧ w.grownBy w' (some gm) := by
  have hgm : gm < w.heap.size := World.block_lt_of_cell? w _ hm.c0
  have n2 : g2 ≠ gm := Md.ptr_ne hc2 hm
  have n3 : g3 ≠ gm := Md.ptr_ne hc3 hm
  obtain ⟨A, ca, rfl, hca, _⟩ := ha.form
  obtain ⟨B, cb, rfl, hcb, _⟩ := hb.form
  have EN := enter_c w gm a b c hm (by omega)
  have b0 := hm.b0
  have a0 := hm.a0
  have HEN := Lib.hid EN
  have HGM := Lib.hid hgm
  have HN := Lib.hid (And.intro n2 n3)
  have HT := Lib.hid hT
  have WA := Lib.hid ha.ws
  have WB := Lib.hid hb.ws
  have HC := Lib.hid (And.intro hc2 hc3)
  clear EN hm hgm n2 n3 hT
  obtain ⟨n, hn⟩ : ∃ n, n = al.length := ⟨_, rfl⟩
  obtain ⟨m, hm'⟩ : ∃ m, m = bl.length := ⟨_, rfl⟩
  rw [← hn, ← hm'] at hx i1 i2 i3
  rw [← hn] at ha hna hl hca ⊢
  rw [← hm'] at hb hnb hl2 hcb ⊢
  have HNL := Lib.hid hn
  have HML := Lib.hid hm'
  by_cases hlt : n < m
  · rw [Nat.min_eq_left (by omega), Nat.max_eq_right (by omega)] at hx i2
    rw [Nat.max_eq_right (by omega)] at i1 i3
    have R0 := Lib.hid (((Rw.nil w gm).add hb hnb).add ha hna)
    clear ha hb hna hnb hn hm'
    obtain ⟨h, hh⟩ : ∃ q, q = (m + 1) / 2 := ⟨_, rfl⟩
    obtain ⟨p, hp⟩ : ∃ q, q = m - h := ⟨_, rfl⟩
    obtain ⟨q, hq⟩ : ∃ q, q = n - h := ⟨_, rfl⟩
    have e1 : ((m : Int) + 1) / 2 = (h : Int) := by omega
    have e2 : (m : Int) - (h : Int) = (p : Int) := by omega
    have e3 : (n : Int) - (h : Int) = (q : Int) := by omega
    obtain ⟨H, hH⟩ : ∃ H, H = h + 1 := ⟨_, rfl⟩
    have e4 : (h : Int) + 1 = (H : Int) := by omega
    rw [← hh, ← hH] at i3
    have HH := Lib.hid hH
    have hmh : ¬ (n : Int) ≤ (h : Int) := by omega
    rw [← hh] at i1 i2
    rw [← hp, ← hq] at i2
    have HI1 := Lib.hid i1
    have HI2 := Lib.hid i2
    have HI3 := Lib.hid i3
    have EE : Hid (h ≤ m ∧ h ≤ n ∧ p = m - h ∧ q = n - h ∧ p ≤ h ∧ q ≤ h) := Lib.hid (by omega)
    have bh : h ≤ 8192 ∧ p ≤ 8192 ∧ q ≤ 8192 ∧ H ≤ 8193 := by omega
    clear hh hp hq hH i1 i2 i3
    go_enter Tryz.func61, Tryz.ntmps61
    go_wp2_with fail
    refine (HEN.out).mono ?_
    rintro e w1 ⟨rfl, m1, mo⟩
    have M1 := Lib.hid m1
    have G1 := Lib.hid mo.gb
    have R1 := Lib.hid (R0.out.grown mo.gb)
    clear m1 mo HEN R0
    have P : Calls Tryz.prog 77 #[.slice B m cb, .int .i64 0, .int .i64 h] w1 fun e w' => ∃ g, e = .returned (.slice (some ⟨g, 0, none⟩) h h) ∧ Own w' w1.heap.size (.slice (some ⟨g, 0, none⟩) h h) (rowOf bl h) ∧ w1.grownBy w' none := piece_c w1 _ bl 0 h (R1.out.at 0 rfl) (by decide) (by omega)
    have HP := Lib.hid P
    clear P
    go_wp2_with fail
    refine (HP.out).mono ?_
    rintro e w2 ⟨ga0, rfl, o2, g2'⟩
    have B1 : Hid (gm < w1.heap.size) := Lib.hid (Nat.lt_of_lt_of_le HGM.out G1.out.size)
    have G2 := Lib.hid (gb_trans G1.out (gb_none g2' (some gm)))
    have R2 := Lib.hid ((R1.out.grown0 g2').add o2.sl (o2.offg B1.out))
    have M2 := Lib.hid (M1.out.grown g2')
    clear o2 g2' G1 R1 M1 HP
    have P := piece_c w2 _ bl h p (R2.out.at 0 rfl) (by omega) (by omega)
    have HP := Lib.hid P
    clear P
    go_wp2_with fail
    refine (HP.out).mono ?_
    rintro e w3 ⟨ga1, rfl, o3, g3'⟩
    have B2 : Hid (gm < w2.heap.size) := Lib.hid (Nat.lt_of_lt_of_le HGM.out G2.out.size)
    have G3 := Lib.hid (gb_trans G2.out (gb_none g3' (some gm)))
    have R3 := Lib.hid ((R2.out.grown0 g3').add o3.sl (o3.offg B2.out))
    have M3 := Lib.hid (M2.out.grown g3')
    clear o3 g3' G2 R2 M2 HP B1
    have P : Calls Tryz.prog 77 #[.slice A n ca, .int .i64 0, .int .i64 h] w3 fun e w' => ∃ g, e = .returned (.slice (some ⟨g, 0, none⟩) h h) ∧ Own w' w3.heap.size (.slice (some ⟨g, 0, none⟩) h h) (rowOf al h) ∧ w3.grownBy w' none := piece_c w3 _ al 0 h (R3.out.at 1 rfl) (by decide) (by omega)
    have HP := Lib.hid P
    clear P
    go_wp2_with fail
    refine (HP.out).mono ?_
    rintro e w4 ⟨gb0, rfl, o4, g4'⟩
    have B3 : Hid (gm < w3.heap.size) := Lib.hid (Nat.lt_of_lt_of_le HGM.out G3.out.size)
    have G4 := Lib.hid (gb_trans G3.out (gb_none g4' (some gm)))
    have R4 := Lib.hid ((R3.out.grown0 g4').add o4.sl (o4.offg B3.out))
    have M4 := Lib.hid (M3.out.grown g4')
    clear o4 g4' G3 R3 M3 HP B2
    have P := piece_c w4 _ al h q (R4.out.at 1 rfl) (by omega) (by omega)
    have HP := Lib.hid P
    clear P
    go_wp2_with fail
    refine (HP.out).mono ?_
    rintro e w5 ⟨gb1, rfl, o5, g5'⟩
    have B4 : Hid (gm < w4.heap.size) := Lib.hid (Nat.lt_of_lt_of_le HGM.out G4.out.size)
    have G5 := Lib.hid (gb_trans G4.out (gb_none g5' (some gm)))
    have R5 := Lib.hid ((R4.out.grown0 g5').add o5.sl (o5.offg B4.out))
    have M5 := Lib.hid (M4.out.grown g5')
    clear o5 g5' G4 R4 M4 HP B3
    obtain ⟨A0, hA0⟩ : ∃ z, z = val B64 (rowOf bl h) := ⟨_, rfl⟩
    obtain ⟨A1, hA1⟩ : ∃ z, z = val B64 (rowOf (bl.drop h) p) := ⟨_, rfl⟩
    obtain ⟨C0, hC0⟩ : ∃ z, z = val B64 (rowOf al h) := ⟨_, rfl⟩
    obtain ⟨C1, hC1⟩ : ∃ z, z = val B64 (rowOf (al.drop h) q) := ⟨_, rfl⟩
    have lim : A0 + A1 < B64 ^ H ∧ C0 + C1 < B64 ^ H := by
      have t1 := rowOf_lt (WB).out h
      have t2 := rowOf_lt (ws_drop (WB).out h) p
      have t3 := rowOf_lt (WA).out h
      have t4 := rowOf_lt (ws_drop (WA).out h) q
      have t5 : B64 ^ p ≤ B64 ^ h := Nat.pow_le_pow_right (by decide) EE.out.2.2.2.2.1
      have t6 : B64 ^ q ≤ B64 ^ h := Nat.pow_le_pow_right (by decide) EE.out.2.2.2.2.2
      have t7 : B64 ^ H = B64 ^ h * 18446744073709551616 := by rw [HH.out]; exact Nat.pow_succ ..
      rw [← hA0] at t1
      rw [← hA1] at t2
      rw [← hC0] at t3
      rw [← hC1] at t4
      have t8 : 0 < B64 ^ h := Nat.pow_pos (by decide)
      omega
    have VAL : Hid (val B64 bl = A0 + B64 ^ h * A1 ∧ val B64 al = C0 + B64 ^ h * C1) := Lib.hid (by
      have t1 := val_split (xs := bl) (h := h) (by rw [← (HML).out]; exact EE.out.1)
      have t2 := val_split (xs := al) (h := h) (by rw [← (HNL).out]; exact EE.out.2.1)
      rw [← (HML).out, ← EE.out.2.2.1, ← hA0, ← hA1] at t1
      rw [← (HNL).out, ← EE.out.2.2.2.1, ← hC0, ← hC1] at t2
      exact ⟨t1, t2⟩)
    have LIM := Lib.hid lim
    have HV : Hid (A0 = val B64 (rowOf bl h) ∧ A1 = val B64 (rowOf (bl.drop h) p) ∧ C0 = val B64 (rowOf al h) ∧ C1 = val B64 (rowOf (al.drop h) q)) := Lib.hid ⟨hA0, hA1, hC0, hC1⟩
    have AD := ladd_c w5 _ _ _ _ (R5.out.at 2 rfl) (R5.out.at 3 rfl) (by rw [rowOf_len]; omega) (by rw [rowOf_len]; omega)
    rw [← hA0, ← hA1] at AD
    have HAD := Lib.hid AD
    clear AD lim hA0 hA1 hC0 hC1
    go_wp2_with fail
    refine (HAD.out).mono ?_
    rintro e w6 ⟨s1, rfl, o6, g6'⟩
    obtain ⟨z1, sz1, lz1, vz1⟩ := o6.get LIM.out.1
    have G6 := Lib.hid (gb_trans G5.out (gb_none g6' (some gm)))
    have R6 := Lib.hid (R5.out.grown0 g6')
    have M6 := Lib.hid (M5.out.grown g6')
    have WD := Lib.hid (wide_c w6 s1 z1 H sz1 (by omega))
    have V1 : Hid (val B64 (rowOf z1 H) = A0 + A1) := Lib.hid (by rw [val_rowOf_all lz1]; exact vz1)
    clear o6 g6' G5 R5 M5 HAD B4 sz1 lz1 vz1
    go_wp2_with fail
    refine (WD.out).mono ?_
    rintro e w7 ⟨gsa, rfl, o7, g7'⟩
    have B6 : Hid (gm < w6.heap.size) := Lib.hid (Nat.lt_of_lt_of_le HGM.out G6.out.size)
    have G7 := Lib.hid (gb_trans G6.out (gb_none g7' (some gm)))
    have R7 := Lib.hid ((R6.out.grown0 g7').add o7.sl (o7.offg B6.out))
    have M7 := Lib.hid (M6.out.grown g7')
    have AD := ladd_c w7 _ _ _ _ (R7.out.at 4 rfl) (R7.out.at 5 rfl) (by rw [rowOf_len]; omega) (by rw [rowOf_len]; omega)
    rw [← HV.out.2.2.1, ← HV.out.2.2.2] at AD
    have HAD := Lib.hid AD
    clear AD o7 g7' G6 R6 M6 WD B6
    go_wp2_with fail
    refine (HAD.out).mono ?_
    rintro e w8 ⟨s2, rfl, o8, g8'⟩
    obtain ⟨z2, sz2, lz2, vz2⟩ := o8.get LIM.out.2
    have G8 := Lib.hid (gb_trans G7.out (gb_none g8' (some gm)))
    have R8 := Lib.hid (R7.out.grown0 g8')
    have M8 := Lib.hid (M7.out.grown g8')
    have WD := Lib.hid (wide_c w8 s2 z2 H sz2 (by omega))
    have V2 : Hid (val B64 (rowOf z2 H) = C0 + C1) := Lib.hid (by rw [val_rowOf_all lz2]; exact vz2)
    clear o8 g8' G7 R7 M7 HAD sz2 lz2 vz2
    go_wp2_with fail
    refine (WD.out).mono ?_
    rintro e w9 ⟨gsb, rfl, o9, g9'⟩
    have B8 : Hid (gm < w8.heap.size) := Lib.hid (Nat.lt_of_lt_of_le HGM.out G8.out.size)
    have G9 := Lib.hid (gb_trans G8.out (gb_none g9' (some gm)))
    have R9 := Lib.hid ((R8.out.grown0 g9').add o9.sl (o9.offg B8.out))
    have M9 := Lib.hid (M8.out.grown g9')
    clear o9 g9' G8 R8 M8 WD B8
    have N1 := HI1.out w9 _ _ _ _ _ _ G9.out M9.out HT.out (by omega) (R9.out.at 2 rfl) (R9.out.at 4 rfl) (rowOf_len _ _) (rowOf_len _ _) (R9.out.off 2 rfl) (R9.out.off 4 rfl)
    rw [← HV.out.1, ← HV.out.2.2.1] at N1
    have HN1 := Lib.hid N1
    clear N1 HI1
    go_wp2_with fail
    refine (HN1.out).mono ?_
    rintro e w10 ⟨lo, c1, rfl, o10, m10, cc1, g10'⟩
    have B9 : Hid (gm < w9.heap.size) := Lib.hid (Nat.lt_of_lt_of_le HGM.out G9.out.size)
    have G10 := Lib.hid (gb_trans G9.out g10')
    have R10 := Lib.hid (R9.out.grown g10')
    have M10 := Lib.hid m10
    have WL := Lib.hid o10
    have CD1 := Lib.hid cc1
    clear o10 m10 cc1 g10' G9 R9 M9 HN1
    have N2 := HI2.out w10 _ _ _ _ _ _ G10.out M10.out CD1.out.1 (by omega) (R10.out.at 3 rfl) (R10.out.at 5 rfl) (rowOf_len _ _) (rowOf_len _ _) (R10.out.off 3 rfl) (R10.out.off 5 rfl)
    rw [← HV.out.2.1, ← HV.out.2.2.2] at N2
    have HN2 := Lib.hid N2
    clear N2 HI2
    go_wp2_with fail
    refine (HN2.out).mono ?_
    rintro e w11 ⟨hi, c2, rfl, o11, m11, cc2, g11'⟩
    have B10 : Hid (gm < w10.heap.size) := Lib.hid (Nat.lt_of_lt_of_le HGM.out G10.out.size)
    have G11 := Lib.hid (gb_trans G10.out g11')
    have R11 := Lib.hid (R10.out.grown g11')
    have M11 := Lib.hid m11
    have WL2 := Lib.hid (WL.out.past B9.out g11')
    have WH := Lib.hid o11
    have CD2 := Lib.hid cc2
    clear o11 m11 cc2 g11' G10 R10 M10 HN2 WL
    have N3 := HI3.out w11 _ _ _ _ _ _ G11.out M11.out CD2.out.1 (by omega) (R11.out.at 6 rfl) (R11.out.at 7 rfl) (rowOf_len _ _) (rowOf_len _ _) (R11.out.off 6 rfl) (R11.out.off 7 rfl)
    rw [V1.out, V2.out] at N3
    have HN3 := Lib.hid N3
    clear N3 HI3
    go_wp2_with fail
    refine (HN3.out).mono ?_
    rintro e w12 ⟨bo, c3, rfl, o12, m12, cc3, g12'⟩
    clear ent
    have B11 : Hid (gm < w11.heap.size) := Lib.hid (Nat.lt_of_lt_of_le HGM.out G11.out.size)
    have G12 := Lib.hid (gb_trans G11.out g12')
    have WL3 := Lib.hid (WL2.out.past B9.out g12')
    have WH3 := Lib.hid (WH.out.past B10.out g12')
    have WB3 := Lib.hid o12
    have CD3 := Lib.hid cc3
    have m12' : Mt w12 gm (a + ((k1 + k2 + k3 : Nat) : Int)) (b + 1) c3 := by
      have e : a + (k1 : Int) + (k2 : Int) + (k3 : Int) = a + ((k1 + k2 + k3 : Nat) : Int) := by omega
      rw [← e]; exact m12
    have LV := leave_c w12 gm _ _ c3 m12' (by omega)
    have eb : (if b + 1 > 0 then b + 1 - 1 else 0) = b := by split <;> omega
    rw [eb] at LV
    have HLV := Lib.hid LV
    clear LV o12 m12 m12' cc3 g12' G11 R11 M11 HN3 WL2 WH eb hc2 hc3
    have hc2 := gb_cell G12.out HC.out.1 (by have := HN.out.1; simpa using this)
    have hc3 := gb_cell G12.out HC.out.2 (by have := HN.out.2; simpa using this)
    go_wp2_with fail
    refine (HLV.out).mono ?_
    rintro e w13 ⟨rfl, m13, mo⟩
    have G13 := Lib.hid (gb_trans G12.out mo.gb)
    have WL4 := Lib.hid (WL3.out.past B9.out mo.gb)
    have WH4 := Lib.hid (WH3.out.past B10.out mo.gb)
    have WB4 := Lib.hid (WB3.out.past B11.out mo.gb)
    have M13 := Lib.hid m13
    clear m13 mo HLV WL3 WH3 WB3 G12 hc2 hc3
    have bnd : Hid (A0 * C0 < B64 ^ (H + H) ∧ A1 * C1 < B64 ^ (H + H) ∧ (A0 + A1) * (C0 + C1) < B64 ^ (H + H) ∧ A0 * C0 + A1 * C1 ≤ (A0 + A1) * (C0 + C1)) := Lib.hid (by
      have t1 := mul_lt_pow LIM.out.1 LIM.out.2
      have t2 := mul_pieces_le A0 A1 C0 C1
      omega)
    obtain ⟨zl, sl, ll, vl⟩ := WL4.out.get bnd.out.1
    obtain ⟨zh, sh, lh, vh⟩ := WH4.out.get bnd.out.2.1
    obtain ⟨zb, sb, lb, vb⟩ := WB4.out.get bnd.out.2.2.1
    have AD := ladd_c w13 _ _ _ _ sl sh (by omega) (by omega)
    rw [vl, vh] at AD
    have HAD := Lib.hid AD
    have SL := Lib.hid (And.intro sl (And.intro ll vl))
    have SH := Lib.hid (And.intro sh (And.intro lh vh))
    have SB := Lib.hid (And.intro sb (And.intro lb vb))
    clear AD sl ll vl sh lh vh sb lb vb WL4 WH4 WB4
    go_wp2_with fail
    refine (HAD.out).mono ?_
    rintro e w14 ⟨s3, rfl, o14, g14'⟩
    obtain ⟨zs, ss, ls, vs⟩ := o14.get (N := H + H) (by have := bnd.out; omega)
    have SU := lsub_c w14 bo s3 zb zs (SB.out.1.grown0 g14') ss (by have := SB.out.2.1; omega) (by rw [vs, SB.out.2.2]; exact bnd.out.2.2.2)
    rw [vs, SB.out.2.2] at SU
    have HSU := Lib.hid SU
    have G14 := Lib.hid g14'
    clear SU o14 g14' ss ls vs HAD
    go_wp2_with fail
    refine (HSU.out).mono ?_
    rintro e w15 ⟨mi, rfl, o15, g15'⟩
    obtain ⟨zm, sm, lm, vm⟩ := o15.get (N := H + H) (by have := bnd.out; omega)
    have G15 := Lib.hid (gb_trans G14.out g15')
    obtain ⟨Fl, fl, rfl, _, _⟩ := SL.out.1.form
    obtain ⟨Fh, fh, rfl, _, _⟩ := SH.out.1.form
    obtain ⟨Fm, fm, rfl, _, _⟩ := sm.form
    have PT := pts3 w15 34 _ _ _ zl zm zh (SL.out.1.grown0 G15.out) sm (SH.out.1.grown0 G15.out)
    have GP := gb_alloc (gb_refl w15 none) (Obj.cells #[.slice Fl zl.length fl, .slice Fm zm.length fm, .slice Fh zh.length fh] 34)
    have JN := ljoin_c _ h 3 _ _ _ PT (by omega) (by decide) (fun j hj => by
      have b1 := SL.out.2.1
      have b2 := SH.out.2.1
      rcases (show j = 0 ∨ j = 1 ∨ j = 2 by omega) with rfl | rfl | rfl
      · show zl.length ≤ 100000; omega
      · show zm.length ≤ 100000; omega
      · show zh.length ≤ 100000; omega)
    rw [jS3] at JN
    have ej : val B64 (([zl, zm, zh] : List (List Int)).getD 0 []) + B64 ^ h * val B64 (([zl, zm, zh] : List (List Int)).getD 1 []) + B64 ^ h * B64 ^ h * val B64 (([zl, zm, zh] : List (List Int)).getD 2 []) = val B64 bl * val B64 al := by
      show val B64 zl + B64 ^ h * val B64 zm + B64 ^ h * B64 ^ h * val B64 zh = _
      rw [SL.out.2.2, vm, SH.out.2.2, VAL.out.1, VAL.out.2]
      exact mul_pieces.symm
    rw [ej] at JN
    have HJN := Lib.hid JN
    have HGP := Lib.hid (gb_trans G15.out GP)
    clear JN ej PT GP sm lm vm o15 g15' HSU
    go_wp2_with fail
    refine (HJN.out).mono ?_
    rintro e w16 ⟨x, rfl, o16, g16'⟩
    have KK : Hid (Wo w16 w.heap.size x (val B64 bl * val B64 al) ∧ Mt w16 gm (a + ((k1 + k2 + k3 : Nat) : Int)) b c3 ∧ w.grownBy w16 (some gm)) := Lib.hid
      ⟨o16.mono (Nat.le_trans G13.out.size HGP.out.size), M13.out.grown (gb_trans HGP.out g16'), gb_trans G13.out (gb_none (gb_trans HGP.out g16') (some gm))⟩
    have CC : Hid (c3.T = T ∧ c.v ≤ c3.v ∧ (c3.v ≤ c.v ∨ c3.v ≤ b + (1 + d))) := Lib.hid (by
      have t1 := CD1.out
      have t2 := CD2.out
      have t3 := CD3.out
      have t4 : (c.up (b + 1)).v = if b + 1 > c.v then b + 1 else c.v := rfl
      refine ⟨t3.1, ?_⟩
      split at t4 <;> omega)
    clear o16 g16' HJN
    go_wp2
    go_ret2
    exact ⟨x, c3, rfl, by first | exact KK.out.1 | (rw [Nat.mul_comm]; exact KK.out.1), KK.out.2.1, CC.out, KK.out.2.2⟩
  · rw [Nat.min_eq_right (by omega), Nat.max_eq_left (by omega)] at hx i2
    rw [Nat.max_eq_left (by omega)] at i1 i3
    have R0 := Lib.hid (((Rw.nil w gm).add ha hna).add hb hnb)
    clear ha hb hna hnb hn hm'
    obtain ⟨h, hh⟩ : ∃ q, q = (n + 1) / 2 := ⟨_, rfl⟩
    obtain ⟨p, hp⟩ : ∃ q, q = n - h := ⟨_, rfl⟩
    obtain ⟨q, hq⟩ : ∃ q, q = m - h := ⟨_, rfl⟩
    have e1 : ((n : Int) + 1) / 2 = (h : Int) := by omega
    have e2 : (n : Int) - (h : Int) = (p : Int) := by omega
    have e3 : (m : Int) - (h : Int) = (q : Int) := by omega
    obtain ⟨H, hH⟩ : ∃ H, H = h + 1 := ⟨_, rfl⟩
    have e4 : (h : Int) + 1 = (H : Int) := by omega
    rw [← hh, ← hH] at i3
    have HH := Lib.hid hH
    have hmh : ¬ (m : Int) ≤ (h : Int) := by omega
    rw [← hh] at i1 i2
    rw [← hp, ← hq] at i2
    have HI1 := Lib.hid i1
    have HI2 := Lib.hid i2
    have HI3 := Lib.hid i3
    have EE : Hid (h ≤ n ∧ h ≤ m ∧ p = n - h ∧ q = m - h ∧ p ≤ h ∧ q ≤ h) := Lib.hid (by omega)
    have bh : h ≤ 8192 ∧ p ≤ 8192 ∧ q ≤ 8192 ∧ H ≤ 8193 := by omega
    clear hh hp hq hH i1 i2 i3
    go_enter Tryz.func61, Tryz.ntmps61
    go_wp2_with fail
    refine (HEN.out).mono ?_
    rintro e w1 ⟨rfl, m1, mo⟩
    have M1 := Lib.hid m1
    have G1 := Lib.hid mo.gb
    have R1 := Lib.hid (R0.out.grown mo.gb)
    clear m1 mo HEN R0
    have P : Calls Tryz.prog 77 #[.slice A n ca, .int .i64 0, .int .i64 h] w1 fun e w' => ∃ g, e = .returned (.slice (some ⟨g, 0, none⟩) h h) ∧ Own w' w1.heap.size (.slice (some ⟨g, 0, none⟩) h h) (rowOf al h) ∧ w1.grownBy w' none := piece_c w1 _ al 0 h (R1.out.at 0 rfl) (by decide) (by omega)
    have HP := Lib.hid P
    clear P
    go_wp2_with fail
    refine (HP.out).mono ?_
    rintro e w2 ⟨ga0, rfl, o2, g2'⟩
    have B1 : Hid (gm < w1.heap.size) := Lib.hid (Nat.lt_of_lt_of_le HGM.out G1.out.size)
    have G2 := Lib.hid (gb_trans G1.out (gb_none g2' (some gm)))
    have R2 := Lib.hid ((R1.out.grown0 g2').add o2.sl (o2.offg B1.out))
    have M2 := Lib.hid (M1.out.grown g2')
    clear o2 g2' G1 R1 M1 HP
    have P := piece_c w2 _ al h p (R2.out.at 0 rfl) (by omega) (by omega)
    have HP := Lib.hid P
    clear P
    go_wp2_with fail
    refine (HP.out).mono ?_
    rintro e w3 ⟨ga1, rfl, o3, g3'⟩
    have B2 : Hid (gm < w2.heap.size) := Lib.hid (Nat.lt_of_lt_of_le HGM.out G2.out.size)
    have G3 := Lib.hid (gb_trans G2.out (gb_none g3' (some gm)))
    have R3 := Lib.hid ((R2.out.grown0 g3').add o3.sl (o3.offg B2.out))
    have M3 := Lib.hid (M2.out.grown g3')
    clear o3 g3' G2 R2 M2 HP B1
    have P : Calls Tryz.prog 77 #[.slice B m cb, .int .i64 0, .int .i64 h] w3 fun e w' => ∃ g, e = .returned (.slice (some ⟨g, 0, none⟩) h h) ∧ Own w' w3.heap.size (.slice (some ⟨g, 0, none⟩) h h) (rowOf bl h) ∧ w3.grownBy w' none := piece_c w3 _ bl 0 h (R3.out.at 1 rfl) (by decide) (by omega)
    have HP := Lib.hid P
    clear P
    go_wp2_with fail
    refine (HP.out).mono ?_
    rintro e w4 ⟨gb0, rfl, o4, g4'⟩
    have B3 : Hid (gm < w3.heap.size) := Lib.hid (Nat.lt_of_lt_of_le HGM.out G3.out.size)
    have G4 := Lib.hid (gb_trans G3.out (gb_none g4' (some gm)))
    have R4 := Lib.hid ((R3.out.grown0 g4').add o4.sl (o4.offg B3.out))
    have M4 := Lib.hid (M3.out.grown g4')
    clear o4 g4' G3 R3 M3 HP B2
    have P := piece_c w4 _ bl h q (R4.out.at 1 rfl) (by omega) (by omega)
    have HP := Lib.hid P
    clear P
    go_wp2_with fail
    refine (HP.out).mono ?_
    rintro e w5 ⟨gb1, rfl, o5, g5'⟩
    have B4 : Hid (gm < w4.heap.size) := Lib.hid (Nat.lt_of_lt_of_le HGM.out G4.out.size)
    have G5 := Lib.hid (gb_trans G4.out (gb_none g5' (some gm)))
    have R5 := Lib.hid ((R4.out.grown0 g5').add o5.sl (o5.offg B4.out))
    have M5 := Lib.hid (M4.out.grown g5')
    clear o5 g5' G4 R4 M4 HP B3
    obtain ⟨A0, hA0⟩ : ∃ z, z = val B64 (rowOf al h) := ⟨_, rfl⟩
    obtain ⟨A1, hA1⟩ : ∃ z, z = val B64 (rowOf (al.drop h) p) := ⟨_, rfl⟩
    obtain ⟨C0, hC0⟩ : ∃ z, z = val B64 (rowOf bl h) := ⟨_, rfl⟩
    obtain ⟨C1, hC1⟩ : ∃ z, z = val B64 (rowOf (bl.drop h) q) := ⟨_, rfl⟩
    have lim : A0 + A1 < B64 ^ H ∧ C0 + C1 < B64 ^ H := by
      have t1 := rowOf_lt (WA).out h
      have t2 := rowOf_lt (ws_drop (WA).out h) p
      have t3 := rowOf_lt (WB).out h
      have t4 := rowOf_lt (ws_drop (WB).out h) q
      have t5 : B64 ^ p ≤ B64 ^ h := Nat.pow_le_pow_right (by decide) EE.out.2.2.2.2.1
      have t6 : B64 ^ q ≤ B64 ^ h := Nat.pow_le_pow_right (by decide) EE.out.2.2.2.2.2
      have t7 : B64 ^ H = B64 ^ h * 18446744073709551616 := by rw [HH.out]; exact Nat.pow_succ ..
      rw [← hA0] at t1
      rw [← hA1] at t2
      rw [← hC0] at t3
      rw [← hC1] at t4
      have t8 : 0 < B64 ^ h := Nat.pow_pos (by decide)
      omega
    have VAL : Hid (val B64 al = A0 + B64 ^ h * A1 ∧ val B64 bl = C0 + B64 ^ h * C1) := Lib.hid (by
      have t1 := val_split (xs := al) (h := h) (by rw [← (HNL).out]; exact EE.out.1)
      have t2 := val_split (xs := bl) (h := h) (by rw [← (HML).out]; exact EE.out.2.1)
      rw [← (HNL).out, ← EE.out.2.2.1, ← hA0, ← hA1] at t1
      rw [← (HML).out, ← EE.out.2.2.2.1, ← hC0, ← hC1] at t2
      exact ⟨t1, t2⟩)
    have LIM := Lib.hid lim
    have HV : Hid (A0 = val B64 (rowOf al h) ∧ A1 = val B64 (rowOf (al.drop h) p) ∧ C0 = val B64 (rowOf bl h) ∧ C1 = val B64 (rowOf (bl.drop h) q)) := Lib.hid ⟨hA0, hA1, hC0, hC1⟩
    have AD := ladd_c w5 _ _ _ _ (R5.out.at 2 rfl) (R5.out.at 3 rfl) (by rw [rowOf_len]; omega) (by rw [rowOf_len]; omega)
    rw [← hA0, ← hA1] at AD
    have HAD := Lib.hid AD
    clear AD lim hA0 hA1 hC0 hC1
    go_wp2_with fail
    refine (HAD.out).mono ?_
    rintro e w6 ⟨s1, rfl, o6, g6'⟩
    obtain ⟨z1, sz1, lz1, vz1⟩ := o6.get LIM.out.1
    have G6 := Lib.hid (gb_trans G5.out (gb_none g6' (some gm)))
    have R6 := Lib.hid (R5.out.grown0 g6')
    have M6 := Lib.hid (M5.out.grown g6')
    have WD := Lib.hid (wide_c w6 s1 z1 H sz1 (by omega))
    have V1 : Hid (val B64 (rowOf z1 H) = A0 + A1) := Lib.hid (by rw [val_rowOf_all lz1]; exact vz1)
    clear o6 g6' G5 R5 M5 HAD B4 sz1 lz1 vz1
    go_wp2_with fail
    refine (WD.out).mono ?_
    rintro e w7 ⟨gsa, rfl, o7, g7'⟩
    have B6 : Hid (gm < w6.heap.size) := Lib.hid (Nat.lt_of_lt_of_le HGM.out G6.out.size)
    have G7 := Lib.hid (gb_trans G6.out (gb_none g7' (some gm)))
    have R7 := Lib.hid ((R6.out.grown0 g7').add o7.sl (o7.offg B6.out))
    have M7 := Lib.hid (M6.out.grown g7')
    have AD := ladd_c w7 _ _ _ _ (R7.out.at 4 rfl) (R7.out.at 5 rfl) (by rw [rowOf_len]; omega) (by rw [rowOf_len]; omega)
    rw [← HV.out.2.2.1, ← HV.out.2.2.2] at AD
    have HAD := Lib.hid AD
    clear AD o7 g7' G6 R6 M6 WD B6
    go_wp2_with fail
    refine (HAD.out).mono ?_
    rintro e w8 ⟨s2, rfl, o8, g8'⟩
    obtain ⟨z2, sz2, lz2, vz2⟩ := o8.get LIM.out.2
    have G8 := Lib.hid (gb_trans G7.out (gb_none g8' (some gm)))
    have R8 := Lib.hid (R7.out.grown0 g8')
    have M8 := Lib.hid (M7.out.grown g8')
    have WD := Lib.hid (wide_c w8 s2 z2 H sz2 (by omega))
    have V2 : Hid (val B64 (rowOf z2 H) = C0 + C1) := Lib.hid (by rw [val_rowOf_all lz2]; exact vz2)
    clear o8 g8' G7 R7 M7 HAD sz2 lz2 vz2
    go_wp2_with fail
    refine (WD.out).mono ?_
    rintro e w9 ⟨gsb, rfl, o9, g9'⟩
    have B8 : Hid (gm < w8.heap.size) := Lib.hid (Nat.lt_of_lt_of_le HGM.out G8.out.size)
    have G9 := Lib.hid (gb_trans G8.out (gb_none g9' (some gm)))
    have R9 := Lib.hid ((R8.out.grown0 g9').add o9.sl (o9.offg B8.out))
    have M9 := Lib.hid (M8.out.grown g9')
    clear o9 g9' G8 R8 M8 WD B8
    have N1 := HI1.out w9 _ _ _ _ _ _ G9.out M9.out HT.out (by omega) (R9.out.at 2 rfl) (R9.out.at 4 rfl) (rowOf_len _ _) (rowOf_len _ _) (R9.out.off 2 rfl) (R9.out.off 4 rfl)
    rw [← HV.out.1, ← HV.out.2.2.1] at N1
    have HN1 := Lib.hid N1
    clear N1 HI1
    go_wp2_with fail
    refine (HN1.out).mono ?_
    rintro e w10 ⟨lo, c1, rfl, o10, m10, cc1, g10'⟩
    have B9 : Hid (gm < w9.heap.size) := Lib.hid (Nat.lt_of_lt_of_le HGM.out G9.out.size)
    have G10 := Lib.hid (gb_trans G9.out g10')
    have R10 := Lib.hid (R9.out.grown g10')
    have M10 := Lib.hid m10
    have WL := Lib.hid o10
    have CD1 := Lib.hid cc1
    clear o10 m10 cc1 g10' G9 R9 M9 HN1
    have N2 := HI2.out w10 _ _ _ _ _ _ G10.out M10.out CD1.out.1 (by omega) (R10.out.at 3 rfl) (R10.out.at 5 rfl) (rowOf_len _ _) (rowOf_len _ _) (R10.out.off 3 rfl) (R10.out.off 5 rfl)
    rw [← HV.out.2.1, ← HV.out.2.2.2] at N2
    have HN2 := Lib.hid N2
    clear N2 HI2
    go_wp2_with fail
    refine (HN2.out).mono ?_
    rintro e w11 ⟨hi, c2, rfl, o11, m11, cc2, g11'⟩
    have B10 : Hid (gm < w10.heap.size) := Lib.hid (Nat.lt_of_lt_of_le HGM.out G10.out.size)
    have G11 := Lib.hid (gb_trans G10.out g11')
    have R11 := Lib.hid (R10.out.grown g11')
    have M11 := Lib.hid m11
    have WL2 := Lib.hid (WL.out.past B9.out g11')
    have WH := Lib.hid o11
    have CD2 := Lib.hid cc2
    clear o11 m11 cc2 g11' G10 R10 M10 HN2 WL
    have N3 := HI3.out w11 _ _ _ _ _ _ G11.out M11.out CD2.out.1 (by omega) (R11.out.at 6 rfl) (R11.out.at 7 rfl) (rowOf_len _ _) (rowOf_len _ _) (R11.out.off 6 rfl) (R11.out.off 7 rfl)
    rw [V1.out, V2.out] at N3
    have HN3 := Lib.hid N3
    clear N3 HI3
    go_wp2_with fail
    refine (HN3.out).mono ?_
    rintro e w12 ⟨bo, c3, rfl, o12, m12, cc3, g12'⟩
    clear ent
    have B11 : Hid (gm < w11.heap.size) := Lib.hid (Nat.lt_of_lt_of_le HGM.out G11.out.size)
    have G12 := Lib.hid (gb_trans G11.out g12')
    have WL3 := Lib.hid (WL2.out.past B9.out g12')
    have WH3 := Lib.hid (WH.out.past B10.out g12')
    have WB3 := Lib.hid o12
    have CD3 := Lib.hid cc3
    have m12' : Mt w12 gm (a + ((k1 + k2 + k3 : Nat) : Int)) (b + 1) c3 := by
      have e : a + (k1 : Int) + (k2 : Int) + (k3 : Int) = a + ((k1 + k2 + k3 : Nat) : Int) := by omega
      rw [← e]; exact m12
    have LV := leave_c w12 gm _ _ c3 m12' (by omega)
    have eb : (if b + 1 > 0 then b + 1 - 1 else 0) = b := by split <;> omega
    rw [eb] at LV
    have HLV := Lib.hid LV
    clear LV o12 m12 m12' cc3 g12' G11 R11 M11 HN3 WL2 WH eb hc2 hc3
    have hc2 := gb_cell G12.out HC.out.1 (by have := HN.out.1; simpa using this)
    have hc3 := gb_cell G12.out HC.out.2 (by have := HN.out.2; simpa using this)
    go_wp2_with fail
    refine (HLV.out).mono ?_
    rintro e w13 ⟨rfl, m13, mo⟩
    have G13 := Lib.hid (gb_trans G12.out mo.gb)
    have WL4 := Lib.hid (WL3.out.past B9.out mo.gb)
    have WH4 := Lib.hid (WH3.out.past B10.out mo.gb)
    have WB4 := Lib.hid (WB3.out.past B11.out mo.gb)
    have M13 := Lib.hid m13
    clear m13 mo HLV WL3 WH3 WB3 G12 hc2 hc3
    have bnd : Hid (A0 * C0 < B64 ^ (H + H) ∧ A1 * C1 < B64 ^ (H + H) ∧ (A0 + A1) * (C0 + C1) < B64 ^ (H + H) ∧ A0 * C0 + A1 * C1 ≤ (A0 + A1) * (C0 + C1)) := Lib.hid (by
      have t1 := mul_lt_pow LIM.out.1 LIM.out.2
      have t2 := mul_pieces_le A0 A1 C0 C1
      omega)
    obtain ⟨zl, sl, ll, vl⟩ := WL4.out.get bnd.out.1
    obtain ⟨zh, sh, lh, vh⟩ := WH4.out.get bnd.out.2.1
    obtain ⟨zb, sb, lb, vb⟩ := WB4.out.get bnd.out.2.2.1
    have AD := ladd_c w13 _ _ _ _ sl sh (by omega) (by omega)
    rw [vl, vh] at AD
    have HAD := Lib.hid AD
    have SL := Lib.hid (And.intro sl (And.intro ll vl))
    have SH := Lib.hid (And.intro sh (And.intro lh vh))
    have SB := Lib.hid (And.intro sb (And.intro lb vb))
    clear AD sl ll vl sh lh vh sb lb vb WL4 WH4 WB4
    go_wp2_with fail
    refine (HAD.out).mono ?_
    rintro e w14 ⟨s3, rfl, o14, g14'⟩
    obtain ⟨zs, ss, ls, vs⟩ := o14.get (N := H + H) (by have := bnd.out; omega)
    have SU := lsub_c w14 bo s3 zb zs (SB.out.1.grown0 g14') ss (by have := SB.out.2.1; omega) (by rw [vs, SB.out.2.2]; exact bnd.out.2.2.2)
    rw [vs, SB.out.2.2] at SU
    have HSU := Lib.hid SU
    have G14 := Lib.hid g14'
    clear SU o14 g14' ss ls vs HAD
    go_wp2_with fail
    refine (HSU.out).mono ?_
    rintro e w15 ⟨mi, rfl, o15, g15'⟩
    obtain ⟨zm, sm, lm, vm⟩ := o15.get (N := H + H) (by have := bnd.out; omega)
    have G15 := Lib.hid (gb_trans G14.out g15')
    obtain ⟨Fl, fl, rfl, _, _⟩ := SL.out.1.form
    obtain ⟨Fh, fh, rfl, _, _⟩ := SH.out.1.form
    obtain ⟨Fm, fm, rfl, _, _⟩ := sm.form
    have PT := pts3 w15 34 _ _ _ zl zm zh (SL.out.1.grown0 G15.out) sm (SH.out.1.grown0 G15.out)
    have GP := gb_alloc (gb_refl w15 none) (Obj.cells #[.slice Fl zl.length fl, .slice Fm zm.length fm, .slice Fh zh.length fh] 34)
    have JN := ljoin_c _ h 3 _ _ _ PT (by omega) (by decide) (fun j hj => by
      have b1 := SL.out.2.1
      have b2 := SH.out.2.1
      rcases (show j = 0 ∨ j = 1 ∨ j = 2 by omega) with rfl | rfl | rfl
      · show zl.length ≤ 100000; omega
      · show zm.length ≤ 100000; omega
      · show zh.length ≤ 100000; omega)
    rw [jS3] at JN
    have ej : val B64 (([zl, zm, zh] : List (List Int)).getD 0 []) + B64 ^ h * val B64 (([zl, zm, zh] : List (List Int)).getD 1 []) + B64 ^ h * B64 ^ h * val B64 (([zl, zm, zh] : List (List Int)).getD 2 []) = val B64 al * val B64 bl := by
      show val B64 zl + B64 ^ h * val B64 zm + B64 ^ h * B64 ^ h * val B64 zh = _
      rw [SL.out.2.2, vm, SH.out.2.2, VAL.out.1, VAL.out.2]
      exact mul_pieces.symm
    rw [ej] at JN
    have HJN := Lib.hid JN
    have HGP := Lib.hid (gb_trans G15.out GP)
    clear JN ej PT GP sm lm vm o15 g15' HSU
    go_wp2_with fail
    refine (HJN.out).mono ?_
    rintro e w16 ⟨x, rfl, o16, g16'⟩
    have KK : Hid (Wo w16 w.heap.size x (val B64 al * val B64 bl) ∧ Mt w16 gm (a + ((k1 + k2 + k3 : Nat) : Int)) b c3 ∧ w.grownBy w16 (some gm)) := Lib.hid
      ⟨o16.mono (Nat.le_trans G13.out.size HGP.out.size), M13.out.grown (gb_trans HGP.out g16'), gb_trans G13.out (gb_none (gb_trans HGP.out g16') (some gm))⟩
    have CC : Hid (c3.T = T ∧ c.v ≤ c3.v ∧ (c3.v ≤ c.v ∨ c3.v ≤ b + (1 + d))) := Lib.hid (by
      have t1 := CD1.out
      have t2 := CD2.out
      have t3 := CD3.out
      have t4 : (c.up (b + 1)).v = if b + 1 > c.v then b + 1 else c.v := rfl
      refine ⟨t3.1, ?_⟩
      split at t4 <;> omega)
    clear o16 g16' HJN
    go_wp2
    go_ret2
    exact ⟨x, c3, rfl, by first | exact KK.out.1 | (rw [Nat.mul_comm]; exact KK.out.1), KK.out.2.1, CC.out, KK.out.2.2⟩
end Go.Proofs.YtldkiddoajlohaaGreatDoor

/- Digits of words: over three. Plain. -/
namespace Go.Proofs.YtldkiddoajlohaaGreatDoor
open Go.RowKit

/-- The first i words of a number over three. -/
structure Td (xs os : List Int) (n i : Nat) (c : Int) : Prop where
  c0 : 0 ≤ c
  c1 : c ≤ 3
  len : os.length = n
  ws : Ws os
  hi : ∀ j, i ≤ j → rd os j = rd xs j
  v : 3 * val 18446744073709551616 (os.take i) = val 18446744073709551616 (xs.take i) + 18446744073709551616 ^ i * c.toNat
theorem Td.start {xs : List Int} (h : Ws xs) : Td xs xs xs.length 0 0 := ⟨by decide, by decide, rfl, h, fun _ _ => rfl, by simp [val]⟩
theorem td_words {w c x d q h : Int} (hw : 0 ≤ w ∧ w < 18446744073709551616) (hc0 : 0 ≤ c) (hc1 : c ≤ 3) (ex : x = (w - c) % 18446744073709551616) (ed : d = -((w - c) / 18446744073709551616)) (eq : q = x * 12297829382473034411 % 18446744073709551616) (eh : h = q * 3 / 18446744073709551616) :
    (0 ≤ x ∧ x < 18446744073709551616) ∧ (0 ≤ d ∧ d ≤ 1) ∧ (0 ≤ q ∧ q < 18446744073709551616) ∧ (0 ≤ h ∧ h ≤ 2) ∧ 3 * q + c = w + 18446744073709551616 * (h + d) := by
  have x0 : 0 ≤ x ∧ x < 18446744073709551616 := by rw [ex]; exact ⟨Int.emod_nonneg _ (by decide), Int.emod_lt_of_pos _ (by decide)⟩
  have q0 : 0 ≤ q ∧ q < 18446744073709551616 := by rw [eq]; exact ⟨Int.emod_nonneg _ (by decide), Int.emod_lt_of_pos _ (by decide)⟩
  have xd : x = w - c + 18446744073709551616 * d := by
    have := Int.mul_ediv_add_emod (w - c) 18446744073709551616
    rw [← ex] at this
    rw [ed]; omega
  have d0 : 0 ≤ d ∧ d ≤ 1 := by omega
  obtain ⟨t, ht⟩ : ∃ t, t = x * 12297829382473034411 / 18446744073709551616 := ⟨_, rfl⟩
  have e1 : 18446744073709551616 * t + q = x * 12297829382473034411 := by
    have := Int.mul_ediv_add_emod (x * 12297829382473034411) 18446744073709551616
    rw [← eq, ← ht] at this
    exact this
  clear ht eq ex ed
  obtain ⟨r, hr⟩ : ∃ r, r = q * 3 % 18446744073709551616 := ⟨_, rfl⟩
  have e2 : 18446744073709551616 * h + r = q * 3 := by
    have := Int.mul_ediv_add_emod (q * 3) 18446744073709551616
    rw [← eh, ← hr] at this
    exact this
  have r0 : 0 ≤ r ∧ r < 18446744073709551616 := by rw [hr]; exact ⟨Int.emod_nonneg _ (by decide), Int.emod_lt_of_pos _ (by decide)⟩
  clear hr eh
  have e3 : q * 3 - x = 18446744073709551616 * (2 * x - 3 * t) := by omega
  obtain ⟨s, hs⟩ : ∃ s, s = 2 * x - 3 * t - h := ⟨_, rfl⟩
  have e4 : r - x = 18446744073709551616 * s := by omega
  have s0 : s = 0 := by clear e1 e2 e3 hs; omega
  have rx : r = x := by rw [s0] at e4; omega
  clear e1 e3 e4 hs s0
  refine ⟨x0, d0, q0, ?_, ?_⟩
  · omega
  · omega
theorem td_arith {X Q P q c w t : Nat} (hv : 3 * Q = X + P * c) (k : 3 * q + c = w + 18446744073709551616 * t) : 3 * (Q + P * q) = X + P * w + P * 18446744073709551616 * t := by
  have h := congrArg (P * ·) k
  simp only [Nat.mul_add] at h
  rw [Nat.mul_assoc P 18446744073709551616 t, Nat.mul_add, Nat.mul_left_comm 3 P q]
  omega
theorem Td.step {xs os : List Int} {n i : Nat} {c w q c' : Int} (h : Td xs os n i c) (hx : Ws xs) (hi : i < n) (ew : w = rd xs i) (bq : 0 ≤ q ∧ q < 18446744073709551616) (bc : 0 ≤ c' ∧ c' ≤ 3) (e : 3 * q + c = w + 18446744073709551616 * c') : Td xs (os.set i q) n (i + 1) c' := by
  have w0 := rd_w hx i
  rw [← ew] at w0
  have c0 := h.c0
  have hk : i < os.length := by rw [h.len]; exact hi
  refine ⟨bc.1, bc.2, by rw [List.length_set, h.len], ws_set h.ws _ bq.1 bq.2, fun j hj => by rw [rd_set_ne (by omega)]; exact h.hi j (by omega), ?_⟩
  rw [val_take_any 18446744073709551616 xs i, ← ew, take_set hk, val_append, val_one, List.length_take, Nat.min_eq_left (by omega), Nat.pow_succ]
  have hk2 : 3 * q.toNat + c.toNat = w.toNat + 18446744073709551616 * c'.toNat := by
    obtain ⟨Q, rfl⟩ := Int.eq_ofNat_of_zero_le bq.1
    obtain ⟨C, rfl⟩ := Int.eq_ofNat_of_zero_le c0
    obtain ⟨W, rfl⟩ := Int.eq_ofNat_of_zero_le w0.1
    obtain ⟨D, rfl⟩ := Int.eq_ofNat_of_zero_le bc.1
    clear h hx ew hk
    simp only [Int.toNat_natCast]
    omega
  exact td_arith h.v hk2
theorem three_pow (n : Nat) : (18446744073709551616 : Nat) ^ n % 3 = 1 := by
  induction n with
  | zero => rfl
  | succ n ih => rw [Nat.pow_succ, Nat.mul_mod, ih]
theorem Td.last {xs os : List Int} {n : Nat} {c : Int} (h : Td xs os n n c) (hx : xs.length ≤ n) (hd : val 18446744073709551616 xs % 3 = 0) : c = 0 ∧ val 18446744073709551616 os = val 18446744073709551616 xs / 3 := by
  have e := h.v
  rw [List.take_of_length_le hx, List.take_of_length_le (by rw [h.len]; exact Nat.le_refl _)] at e
  have hb := val_lt (B := 18446744073709551616) h.ws.dg
  rw [h.len] at hb
  have c0 := h.c0
  have c1 := h.c1
  have hp := three_pow n
  obtain ⟨C, hC⟩ : ∃ C, C = c.toNat := ⟨_, rfl⟩
  rw [← hC] at e
  generalize (18446744073709551616 : Nat) ^ n = P at *
  have hC3 : C = 0 ∨ C = 1 ∨ C = 2 ∨ C = 3 := by omega
  have : C = 0 := by
    rcases hC3 with r | r | r | r
    · exact r
    · subst r; omega
    · subst r; omega
    · subst r; omega
  subst this
  omega
end Go.Proofs.YtldkiddoajlohaaGreatDoor

/- Three pieces: a third, parts, differences. -/
namespace Go.Proofs.YtldkiddoajlohaaGreatDoor
open Go.RowKit

theorem lsub_no (w : World) (va vb : Value) (al bl : List Int) (ha : Sl w va al) (hb : Sl w vb bl) (hlt : val B64 al < val B64 bl) :
    Calls Tryz.prog 80 #[va, vb] w fun e w' => e = .returned (.tuple #[.slice none 0 0, .bool false]) ∧ w.grownBy w' none := by
  obtain ⟨A, ca, rfl, _, _⟩ := ha.form
  obtain ⟨B, cb, rfl, _, _⟩ := hb.form
  have T1 := Lib.hid (ltrim_c w _ _ _ _ ha)
  have T2 := Lib.hid (ltrim_c w _ _ _ _ hb)
  have ha' := ha.take (trimZ al).length (trimZ_len al)
  have hb' := hb.take (trimZ bl).length (trimZ_len bl)
  rw [take_trimZ_len] at ha' hb'
  have LC := lcmp_c w _ _ _ _ ha' hb'
  rw [val_trimZ, val_trimZ, show cmpI (val B64 al) (val B64 bl) = -1 from if_pos hlt] at LC
  obtain ⟨n, hn⟩ : ∃ n, n = (trimZ al).length := ⟨_, rfl⟩
  obtain ⟨m, hm⟩ : ∃ n, n = (trimZ bl).length := ⟨_, rfl⟩
  rw [← hn] at T1 LC
  rw [← hm] at T2 LC
  have HLC := Lib.hid LC
  clear ha hb ha' hb' LC hn hm hlt
  go_enter Tryz.func80, Tryz.ntmps80
  go_wp2_with fail
  refine (T1.out).mono ?_
  rintro e w1 ⟨rfl, hw1⟩
  subst hw1
  go_wp2_with fail
  refine (T2.out).mono ?_
  rintro e w1 ⟨rfl, hw1⟩
  subst hw1
  go_wp2_with fail
  refine (HLC.out).mono ?_
  rintro e w2 ⟨rfl, g2⟩
  go_wp2
  go_ret2
  exact ⟨rfl, g2⟩
set_option maxRecDepth 100000 in
set_option maxHeartbeats 4000000 in
theorem third_c (w : World) (va : Value) (al : List Int) (ha : Sl w va al) (hl : al.length ≤ 1000000) (hd : val B64 al % 3 = 0) :
    Calls Tryz.prog 104 #[va] w fun e w' => ∃ x, e = .returned (.tuple #[x, .bool true]) ∧ Wo w' w.heap.size x (val B64 al / 3) ∧ w.grownBy w' none := by
  have N0 := Lib.hid (lnorm_c w va al ha (by omega))
  have hv : val B64 (trimZ al) = val B64 al := val_trimZ _ _
  have hl' : (trimZ al).length ≤ 1000000 := Nat.le_trans (trimZ_len _) hl
  have HV := Lib.hid hv
  have HD := Lib.hid hd
  have HL := Lib.hid hl'
  obtain ⟨A, ca, rfl, _, _⟩ := ha.form
  clear ha hl hd hv hl'
  go_enter Tryz.func104, Tryz.ntmps104
  go_wp2_with fail
  refine (N0.out).mono ?_
  rintro e w1 ⟨y, rfl, oy, g1⟩
  obtain ⟨xs, hxs⟩ : ∃ l, l = trimZ al := ⟨_, rfl⟩
  rw [← hxs] at oy HV HL
  have WX := Lib.hid oy.ws
  have G1 := Lib.hid g1
  rcases oy.form with ⟨rfl, rfl⟩ | ⟨g, c, rfl, hg1, hg2, hc1, hc2⟩
  · have HZ : Hid (val B64 al / 3 = 0) := Lib.hid (by rw [← HV.out]; rfl)
    have N1 := Lib.hid (lnorm_c w1 (.slice none 0 0) [] (sl_none _) (by decide))
    clear N0 oy hxs g1
    go_wp2
    go_loopw [4, 16] (fun v4 v16 wr => v4 = .int .u64 0 ∧ v16 = .int .i64 0 ∧ wr = w1) (fun _ _ _ => 0)
    case atStart => exact ⟨rfl, rfl, rfl⟩
    case round =>
      obtain ⟨rfl, rfl, rfl⟩ := hrel
      go_wp2_with fail
      refine (N1.out).mono ?_
      rintro e w2 ⟨z, rfl, oz, g2⟩
      have OZ := Lib.hid oz
      clear oz
      go_wp2
      go_ret2
      exact ⟨z, rfl, ⟨_, OZ.out.mono G1.out.size, nz_nil, by rw [HZ.out]; rfl⟩, gb_trans G1.out g2⟩
  · obtain ⟨n, hn⟩ : ∃ n, n = xs.length := ⟨_, rfl⟩
    rw [← hn] at oy hc1 HL ⊢
    have OY := Lib.hid oy
    have ST0 : Hid (Td xs xs n 0 0) := Lib.hid (by rw [hn]; exact Td.start oy.ws)
    have hn2 := HL.out
    have HN := Lib.hid hn
    clear N0 oy hxs g1 hn
    go_wp2
    go_loopw [4, 16] (fun v4 v16 wr => ∃ (i : Nat) (q : Int) (os : List Int), v4 = .int .u64 q ∧ v16 = .int .i64 i ∧ i ≤ n ∧ Td xs os n i q ∧ Own wr w.heap.size (.slice (some ⟨g, 0, none⟩) n c) os ∧ w.grownBy wr none) (fun _ v16 _ => n - (intOf v16).toNat)
    case atStart => exact ⟨0, 0, xs, rfl, rfl, by omega, ST0.out, OY.out, G1.out⟩
    case round =>
      clear ST0 OY G1
      obtain ⟨i, q, os, rfl, rfl, hi, td, ow, G⟩ := hrel
      have TD := Lib.hid td
      have OS := Lib.hid ow
      have GG := Lib.hid G
      have q0 := td.c0
      have q1 := td.c1
      clear td ow G
      by_cases hin : i < n
      · have ce := OS.out.cell i (by rw [TD.out.len]; exact hin)
        have fr := OS.out.free i
        rw [TD.out.hi i (Nat.le_refl _)] at ce
        obtain ⟨v, hv⟩ : ∃ x, x = rd xs i := ⟨_, rfl⟩
        have bv : 0 ≤ v ∧ v < 18446744073709551616 := by rw [hv]; exact rd_w WX.out i
        rw [← hv] at ce
        obtain ⟨x, ex⟩ : ∃ x, x = (v - q) % 18446744073709551616 := ⟨_, rfl⟩
        obtain ⟨d, ed⟩ : ∃ d, d = -((v - q) / 18446744073709551616) := ⟨_, rfl⟩
        obtain ⟨r, er⟩ : ∃ r, r = x * 12297829382473034411 % 18446744073709551616 := ⟨_, rfl⟩
        obtain ⟨h, eh⟩ : ∃ h, h = r * 3 / 18446744073709551616 := ⟨_, rfl⟩
        obtain ⟨l, el⟩ : ∃ h, h = r * 3 % 18446744073709551616 := ⟨_, rfl⟩
        obtain ⟨bx, bd, br, bh, ee⟩ := td_words bv q0 q1 ex ed er eh
        have A1 : ∀ w, (callFunc 95 #[.int .u64 v, .int .u64 q, .int .u64 0]).run Tryz.prog w = .ok (.value (.tuple #[.int .u64 x, .int .u64 d])) w := fun w => by
          rw [sub64_run v q 0 bv ⟨q0, by omega⟩ (by decide) (by decide), Int.sub_zero, ex, ed]
        have V0 : IntKind.u64.wrap (x * 12297829382473034411) = r := by rw [er]; exact IntKind.wrap_u64 _
        have M64 := fun w => mul64_c r 3 br.1 br.2 (by decide) (by decide) w
        rw [← eh, ← el] at M64
        obtain ⟨q', hq'⟩ : ∃ z, z = h + d := ⟨_, rfl⟩
        have bq' : 0 ≤ q' ∧ q' ≤ 3 := by omega
        have V1 : IntKind.u64.wrap (h + d) = q' := by rw [IntKind.wrap_u64, ← hq']; omega
        rw [← hq'] at ee
        have ST := Lib.hid (TD.out.step WX.out hin hv br bq' ee)
        have HM64 := Lib.hid M64
        clear ex ed er eh el hq' hv ee M64
        go_wp2_with fail
        refine (HM64.out _).mono ?_
        rintro e w2 ⟨rfl, hw2⟩
        subst hw2
        go_wp2
        clear A1 V0 V1 ce fr
        go_roundw
        case rel => exact ⟨i + 1, q', _, rfl, by go_num, by omega, ST.out, OS.out.store i br.1 br.2, gb_set (p := ⟨g, i, none⟩) GG.out hg1 _⟩
        case measure => simp [intOf]; omega
      · obtain rfl : i = n := by omega
        obtain ⟨rfl, ev⟩ := TD.out.last (by rw [← HN.out]; exact Nat.le_refl _) (by have := HV.out; have := HD.out; show val B64 xs % 3 = 0; omega)
        have EV := Lib.hid ev
        have N1 := Lib.hid (lnorm_c wr _ os OS.out.sl (by rw [TD.out.len]; omega))
        have BB : Hid (w.heap.size ≤ wr.heap.size) := Lib.hid GG.out.size
        clear ev
        go_wp2_with fail
        refine (N1.out).mono ?_
        rintro e w2 ⟨z, rfl, oz, g2⟩
        have OZ := Lib.hid oz
        have G2 := Lib.hid (gb_trans GG.out g2)
        clear oz g2
        go_wp2
        go_ret2
        refine ⟨z, rfl, ⟨_, OZ.out.mono BB.out, trimZ_nz _, ?_⟩, G2.out⟩
        rw [val_trimZ]
        exact EV.out.trans (congrArg (· / 3) HV.out)
theorem part_c (w : World) (v : Value) (xs : List Int) (f t : Nat) (h : Sl w v xs) (hft : f < xs.length → f ≤ t) (hf : f ≤ 1000000) (ht : t ≤ 1000000) :
    Calls Tryz.prog 97 #[v, .int .i64 f, .int .i64 t] w fun e w' => ∃ u, e = .returned u ∧ Sl w u ((xs.take t).drop f) ∧ (∀ gm, Off v gm → Off u gm) ∧ w' = w := by
  obtain ⟨A, c, rfl, hc, hc2⟩ := h.form
  obtain ⟨ln, hln⟩ : ∃ l, l = xs.length := ⟨_, rfl⟩
  rw [← hln] at h hc hft ⊢
  by_cases hlt : ln ≤ f
  · have e0 : (xs.take t).drop f = [] := List.drop_eq_nil_of_le (by rw [List.length_take]; omega)
    rw [e0]
    clear h e0 hln
    go_enter Tryz.func97, Tryz.ntmps97
    go_wp2
    go_ret
    exact ⟨_, rfl, sl_none _, fun _ _ b hb => by simp [Value.ownBlock] at hb, rfl⟩
  · by_cases htl : t ≤ ln
    · obtain ⟨b, o, rfl, hs⟩ := h.mid f t (by omega) (hft (by omega)) htl
      have HS := Lib.hid hs
      clear h hs hln
      go_enter Tryz.func97, Tryz.ntmps97
      go_wp2
      go_ret
      exact ⟨_, rfl, HS.out, fun gm ho b' hb => ho b' hb, rfl⟩
    · obtain ⟨b, o, rfl, hs⟩ := h.mid f ln (by omega) (by omega) (Nat.le_refl _)
      have e0 : (xs.take t).drop f = (xs.take ln).drop f := by rw [List.take_of_length_le (by omega), List.take_of_length_le (by omega)]
      rw [e0]
      have HS := Lib.hid hs
      clear h hs hln e0
      go_enter Tryz.func97, Tryz.ntmps97
      go_wp2
      go_ret
      exact ⟨_, rfl, HS.out, fun gm ho b' hb => ho b' hb, rfl⟩
end Go.Proofs.YtldkiddoajlohaaGreatDoor

/- Three pieces: differences, rows of so many words. -/
namespace Go.Proofs.YtldkiddoajlohaaGreatDoor
open Go.RowKit

theorem sub2_c (w : World) (va vb : Value) (al bl : List Int) (ha : Sl w va al) (hb : Sl w vb bl) (hl : al.length ≤ 1000000) :
    Calls Tryz.prog 101 #[va, vb] w fun e w' => ∃ x, e = .returned x ∧ Wo w' w.heap.size x (val B64 al - val B64 bl) ∧ w.grownBy w' none := by
  by_cases h : val B64 al < val B64 bl
  · have S := Lib.hid (lsub_no w va vb al bl ha hb h)
    have hz : val B64 al - val B64 bl = 0 := by omega
    rw [hz]
    obtain ⟨A, ca, rfl, _, _⟩ := ha.form
    obtain ⟨B, cb, rfl, _, _⟩ := hb.form
    clear ha hb h hz
    go_enter Tryz.func101, Tryz.ntmps101
    go_wp2_with fail
    refine (S.out).mono ?_
    rintro e w1 ⟨rfl, g1⟩
    go_wp2
    go_ret
    exact ⟨_, rfl, ⟨[], own_nil _ _, nz_nil, rfl⟩, g1⟩
  · have S := Lib.hid (lsub_c w va vb al bl ha hb hl (by omega))
    obtain ⟨A, ca, rfl, _, _⟩ := ha.form
    obtain ⟨B, cb, rfl, _, _⟩ := hb.form
    clear ha hb h
    go_enter Tryz.func101, Tryz.ntmps101
    go_wp2_with fail
    refine (S.out).mono ?_
    rintro e w1 ⟨x, rfl, k⟩
    have KK := Lib.hid k
    clear k
    go_wp2
    go_ret
    exact ⟨x, rfl, KK.out⟩
theorem sub_c (w : World) (va v : Value) (al : List Int) (n : Nat) (V : Nat → Value) (X : Nat → List Int) (N : Nat) (ha : Sl w va al) (hp : Pts w v n V X) (hn : n ≤ 10000) (hx : ∀ j, j < n → (X j).length ≤ 100000) (hl : al.length ≤ 1000000)
    (hN : jS 0 (fun j => val B64 (X j)) n < B64 ^ N) :
    Calls Tryz.prog 103 #[va, v] w fun e w' => ∃ x, e = .returned x ∧ Wo w' w.heap.size x (val B64 al - jS 0 (fun j => val B64 (X j)) n) ∧ w.grownBy w' none := by
  have S := Lib.hid (lsum_c w n v V X hp hn hx)
  have HA := Lib.hid ha
  have HNN := Lib.hid hN
  obtain ⟨A, ca, rfl, _, _⟩ := ha.form
  obtain ⟨B, cb, rfl, _, _⟩ := hp.c
  obtain ⟨z, hz⟩ : ∃ z, z = jS 0 (fun j => val B64 (X j)) n := ⟨_, rfl⟩
  rw [← hz] at S HNN ⊢
  clear ha hp hx hN hz
  go_enter Tryz.func103, Tryz.ntmps103
  go_wp2_with fail
  refine (S.out).mono ?_
  rintro e w1 ⟨s, rfl, o1, g1⟩
  obtain ⟨zs, ss, ls, vs⟩ := o1.get HNN.out
  have G1 := Lib.hid g1
  by_cases h : val B64 al < z
  · have SU := Lib.hid (lsub_no w1 _ s al zs (HA.out.grown0 g1) ss (by rw [vs]; exact h))
    have HZ : Hid (val B64 al - z = 0) := Lib.hid (by omega)
    clear o1 g1 ss ls vs S h
    go_wp2_with fail
    refine (SU.out).mono ?_
    rintro e w2 ⟨rfl, g2⟩
    go_wp2
    go_ret
    exact ⟨_, rfl, ⟨[], own_nil _ _, nz_nil, by rw [HZ.out]; rfl⟩, gb_trans G1.out g2⟩
  · have SU := lsub_c w1 _ s al zs (HA.out.grown0 g1) ss hl (by rw [vs]; omega)
    rw [vs] at SU
    have HSU := Lib.hid SU
    clear o1 g1 ss ls vs S h SU
    go_wp2_with fail
    refine (HSU.out).mono ?_
    rintro e w2 ⟨x, rfl, o2, g2⟩
    have KK : Hid (Wo w2 w.heap.size x (val B64 al - z) ∧ w.grownBy w2 none) := Lib.hid ⟨o2.mono G1.out.size, gb_trans G1.out g2⟩
    clear o2 g2
    go_wp2
    go_ret
    exact ⟨x, rfl, KK.out⟩
set_option maxRecDepth 100000 in
theorem twide_c (w : World) (v : Value) (xs : List Int) (n : Nat) (h : Sl w v xs) (hn : n ≤ 1000000) :
    Calls Tryz.prog 83 #[v, .int .i64 n] w fun e w' => ∃ g, e = .returned (.slice (some ⟨g, 0, none⟩) n n) ∧ Own w' w.heap.size (.slice (some ⟨g, 0, none⟩) n n) (rowOf (trimZ xs) n) ∧ w.grownBy w' none := by
  have mk := make64 34 (by kernel_rfl) n n (n : Int) (n : Int) (by omega) (by omega) (by omega) (by omega)
  have OW := Lib.hid (own_made w w.heap.size n n (Nat.le_refl _) (by omega) (by omega))
  have G0 := gb_alloc (gb_refl w none) (Obj.cells (madeCells #[.int .u64 0] n) 79)
  have NL := nlen_c _ v xs (h.grown0 G0)
  obtain ⟨A, c, rfl, hc, hc2⟩ := h.form
  have hT := trimZ_len xs
  have hs := h.take (trimZ xs).length hT
  rw [take_trimZ_len] at hs
  have HS := Lib.hid (hs.grown0 G0)
  have HG := Lib.hid G0
  obtain ⟨ys, hys⟩ : ∃ l, l = trimZ xs := ⟨_, rfl⟩
  rw [← hys] at NL hT HS ⊢
  obtain ⟨T, hTT⟩ : ∃ T, T = ys.length := ⟨_, rfl⟩
  rw [← hTT] at NL hT HS
  obtain ⟨ln, hln⟩ : ∃ l, l = xs.length := ⟨_, rfl⟩
  rw [← hln] at NL hT hc ⊢
  obtain ⟨zs, hzs⟩ : ∃ zs, zs = rowOf ys n := ⟨_, rfl⟩
  rw [← hzs]
  have HZ := Lib.hid (show zs = ys.take (min ys.length n) ++ (List.replicate n 0).drop (min ys.length n) from hzs)
  have HNL := Lib.hid NL
  clear h hs NL G0 hys hTT hln hzs
  go_enter Tryz.func83, Tryz.ntmps83
  go_wp2_with fail
  refine (HNL.out).mono ?_
  rintro e w1 ⟨rfl, hw1⟩
  subst hw1
  go_wp2_with (with_reducible (show wpList _ _ _ (Oper.mk _ (Op.call (Call.mk (Callee.builtin Builtin.copy) _ _)) _ _ _ _ :: _) _ _); refine own_copy 34 (by kernel_rfl) (.tmp 8) (.tmp 12) rfl rfl w.heap.size n n n _ rfl OW.out (Nat.le_refl _) (.slice A T c) ys rfl HS.out _ rfl zs HZ.out ?_; intro w2 ow1 g1)
  go_ret
  exact ⟨_, rfl, ow1, gb_new HG.out g1 (fun i hi => by cases hi; exact Nat.le_refl _)⟩
set_option maxRecDepth 100000 in
theorem less_c (w : World) (va vb : Value) (al bl : List Int) (ha : Sl w va al) (hb : Sl w vb bl) (_hl : al.length ≤ 1000000) (_hl2 : bl.length ≤ 1000000) :
    Calls Tryz.prog 98 #[va, vb] w fun e w' => ∃ x, e = .returned (.agg #[x, .bool (decide (val B64 al < val B64 bl))]) ∧ Wo w' w.heap.size x (val B64 al - val B64 bl + (val B64 bl - val B64 al)) ∧ w.grownBy w' none := by
  have GA := gb_alloc (gb_refl w none) (Obj.cells #[.slice none 0 0, .bool false] 103)
  have C0 := Lib.hid (cs_new w #[.slice none 0 0, .bool false] 103)
  have HGA := Lib.hid GA
  have HS : Hid (w.heap.size < (w.alloc (Obj.cells #[.slice none 0 0, .bool false] 103)).heap.size) := Lib.hid (by simp)
  by_cases h : val B64 al < val B64 bl
  · rw [decide_eq_true h]
    have hz : val B64 al - val B64 bl + (val B64 bl - val B64 al) = val B64 bl - val B64 al := by omega
    rw [hz]
    have S := Lib.hid (lsub_no _ va vb al bl (ha.grown0 GA) (hb.grown0 GA) h)
    have S2 := Lib.hid (fun w1 (g : World.grownBy (w.alloc (Obj.cells #[.slice none 0 0, .bool false] 103)) w1 none) => lsub_c w1 vb va bl al ((hb.grown0 GA).grown0 g) ((ha.grown0 GA).grown0 g) _hl2 (by omega))
    obtain ⟨A, ca, rfl, _, _⟩ := ha.form
    obtain ⟨B, cb, rfl, _, _⟩ := hb.form
    clear ha hb h hz GA
    go_enter Tryz.func98, Tryz.ntmps98
    go_wp2_with fail
    refine (S.out).mono ?_
    rintro e w1 ⟨rfl, g1⟩
    have G1 := Lib.hid g1
    have C1 := Lib.hid (C0.out.grown0 g1)
    clear g1
    go_wp2_with fail
    refine (S2.out w1 G1.out).mono ?_
    rintro e w2 ⟨x, rfl, o2, g2⟩
    obtain ⟨zs, oz, nz, hv⟩ := o2
    obtain ⟨F, f, rfl, _, _⟩ := oz.sl.form
    have C2 := Lib.hid (C1.out.grown0 g2)
    have OZ := Lib.hid oz
    have NV := Lib.hid (And.intro nz hv)
    have G2 := Lib.hid (gb_trans HGA.out (gb_trans G1.out g2))
    have SZ : Hid (w.heap.size < w1.heap.size) := Lib.hid (Nat.lt_of_lt_of_le HS.out G1.out.size)
    clear oz nz hv g2 S S2
    have c0 := C2.out.cell 0 rfl
    have c1 := C2.out.cell 1 rfl
    have f0 := C2.out.free 0 rfl
    have f1 := C2.out.free 1 rfl
    go_wp2
    clear c0 c1 f0 f1
    refine bodyPost_ret (res_agg rfl ((C2.out.set 0 (.slice F zs.length f)).set 1 (.bool true)) rfl (by kernel_rfl) (by kernel_rfl)) rfl ?_
    have GG := gb_rowC (gb_rowC (gb_refl w2 (some w.heap.size)) 0 (.slice F zs.length f)) 1 (.bool true)
    refine ⟨_, rfl, ⟨zs, (OZ.out.grown GG ?_).mono (Nat.le_of_lt SZ.out), NV.out.1, NV.out.2⟩, gb_set (p := ⟨w.heap.size, 1, none⟩) (gb_set (p := ⟨w.heap.size, 0, none⟩) G2.out (Nat.le_refl _) _) (Nat.le_refl _) _⟩
    by_cases e : (Value.slice F zs.length f).ownBlock = some w.heap.size
    · have := (OZ.out.lt _ e).1; have := SZ.out; omega
    · exact .inr e
  · rw [decide_eq_false h]
    have hz : val B64 al - val B64 bl + (val B64 bl - val B64 al) = val B64 al - val B64 bl := by omega
    rw [hz]
    have S2 := Lib.hid (lsub_c _ va vb al bl (ha.grown0 GA) (hb.grown0 GA) _hl (by omega))
    obtain ⟨A, ca, rfl, _, _⟩ := ha.form
    obtain ⟨B, cb, rfl, _, _⟩ := hb.form
    clear ha hb h hz GA
    go_enter Tryz.func98, Tryz.ntmps98
    go_wp2_with fail
    refine (S2.out).mono ?_
    rintro e w2 ⟨x, rfl, o2, g2⟩
    obtain ⟨zs, oz, nz, hv⟩ := o2
    obtain ⟨F, f, rfl, _, _⟩ := oz.sl.form
    have C2 := Lib.hid (C0.out.grown0 g2)
    have OZ := Lib.hid oz
    have NV := Lib.hid (And.intro nz hv)
    have G2 := Lib.hid (gb_trans HGA.out g2)
    clear oz nz hv g2 S2
    have c0 := C2.out.cell 0 rfl
    have c1 := C2.out.cell 1 rfl
    have f0 := C2.out.free 0 rfl
    have f1 := C2.out.free 1 rfl
    go_wp2
    clear c0 c1 f0 f1
    refine bodyPost_ret (res_agg rfl ((C2.out.set 0 (.slice F zs.length f)).set 1 (.bool false)) rfl (by kernel_rfl) (by kernel_rfl)) rfl ?_
    have GG := gb_rowC (gb_rowC (gb_refl w2 (some w.heap.size)) 0 (.slice F zs.length f)) 1 (.bool false)
    refine ⟨_, rfl, ⟨zs, (OZ.out.grown GG ?_).mono (Nat.le_of_lt HS.out), NV.out.1, NV.out.2⟩, gb_set (p := ⟨w.heap.size, 1, none⟩) (gb_set (p := ⟨w.heap.size, 0, none⟩) G2.out (Nat.le_refl _) _) (Nat.le_refl _) _⟩
    by_cases e : (Value.slice F zs.length f).ownBlock = some w.heap.size
    · have := (OZ.out.lt _ e).1; have := HS.out; omega
    · exact .inr e
end Go.Proofs.YtldkiddoajlohaaGreatDoor
