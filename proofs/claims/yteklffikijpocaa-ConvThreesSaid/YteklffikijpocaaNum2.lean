/- The document's naturals: bits, division. -/
import Derived.Test.YteklffikijpocaaNum1
import Derived.Test.YteklffikijpocaaDig2
import Derived.Deep.CutBlock
namespace Go.Proofs.Yteklffikijpocaa
open Go.RowKit

theorem bit_c (w : World) (v : Value) (xs : List Int) (i : Nat) (h : Sl w v xs) (hd : Dg B32 xs) (hi : i < 32 * xs.length) :
    Calls Try.prog 76 #[v, .int .i64 i] w fun e w' => e = .returned (.int .u64 (val B32 xs / 2 ^ i % 2 : Nat)) ∧ w' = w := by
  obtain ⟨A, c, rfl, h1, h2, h3, h4⟩ := h
  obtain ⟨b, o, rfl, hc⟩ := h4 (by omega)
  have hq : i / 32 < xs.length := by omega
  have ht : i % 32 < 32 := Nat.mod_lt _ (by decide)
  have hci := hc (i / 32) hq
  have hb := val_bit hd (i / 32) (i % 32) hq ht
  have hxd := hd.at_ (by decide) (i / 32)
  rw [show 32 * (i / 32) + i % 32 = i by omega] at hb
  have hn : xs.length ≤ 9223372036854775807 := by omega
  rw [show val B32 xs / 2 ^ i % 2 = _ from hb]
  obtain ⟨x, hx⟩ := nat_of hxd.1
  rw [hx] at hci hxd ⊢
  have hx1 : x < 18446744073709551616 := by
    have : (x : Int) < ((4294967296 : Nat) : Int) := hxd.2
    omega
  have e1 : (i : Int) / 32 = ((i / 32 : Nat) : Int) := by omega
  have e2 : (i : Int) % 32 = ((i % 32 : Nat) : Int) := by omega
  have bt : bits .and .u64 ((x : Int) / 2 ^ (i % 32)) 1 = ((x / 2 ^ (i % 32) % 2 : Nat) : Int) := by
    have e1 : (x : Int) / 2 ^ (i % 32) = ((x / 2 ^ (i % 32) : Nat) : Int) := by rw [Int.natCast_ediv, Int.natCast_pow]; rfl
    have h := bits_and_u64_nat (x / 2 ^ (i % 32)) 1 (Nat.lt_of_le_of_lt (Nat.div_le_self ..) hx1) (by omega)
    have e : (x / 2 ^ (i % 32)) &&& 1 = x / 2 ^ (i % 32) % 2 := Nat.and_two_pow_sub_one_eq_mod _ 1
    rw [e] at h
    rw [e1]
    exact h
  rw [Int.toNat_natCast]
  obtain ⟨r, hr⟩ : ∃ r, r = x / 2 ^ (i % 32) % 2 := ⟨_, rfl⟩
  rw [← hr] at bt ⊢
  obtain ⟨q, hqq⟩ : ∃ q, q = i / 32 := ⟨_, rfl⟩
  obtain ⟨t, htt⟩ : ∃ t, t = i % 32 := ⟨_, rfl⟩
  rw [← hqq] at e1 hci hq
  rw [← htt] at e2 bt ht
  clear hb hr hxd hx h4 hc hqq htt hx1 hi hd
  go_enter Try.func76, Try.ntmps76
  go_wp2
  go_ret
  exact ⟨rfl, rfl⟩
theorem bits_last {xs : List Int} (hd : Dg B32 xs) {n : Nat} (hl : xs.length = n + 1) {c : Nat} (h : (rd xs n).toNat / 2 ^ c = 0) : val B32 xs < 2 ^ (32 * n + c) := by
  have h1 := val_lt (hd.take n)
  rw [List.length_take, Nat.min_eq_left (by omega)] at h1
  rw [val_take_drop B32 xs n (by omega), val_drop B32 (by omega), List.drop_of_length_le (by omega), show val B32 [] = 0 from rfl, Nat.mul_zero, Nat.add_zero]
  have h2 : (rd xs n).toNat < 2 ^ c := by
    by_cases k : (rd xs n).toNat < 2 ^ c
    · exact k
    · have := Nat.div_pos (by omega : 2 ^ c ≤ (rd xs n).toNat) (Nat.pow_pos (by decide)); omega
  have h3 : B32 ^ n * ((rd xs n).toNat + 1) ≤ B32 ^ n * 2 ^ c := Nat.mul_le_mul_left _ h2
  have hB : B32 ^ n = 2 ^ (32 * n) := by rw [show B32 = 2 ^ 32 from rfl, ← Nat.pow_mul]
  rw [Nat.pow_add, ← hB]
  rw [Nat.mul_add] at h3
  omega
theorem bits_c (w : World) (v : Value) (xs : List Int) (h : Sl w v xs) (hd : Dg B32 xs) (hlen : xs.length ≤ 1000000) :
    Calls Try.prog 74 #[v] w fun e w' => ∃ k : Nat, e = .returned (.int .i64 k) ∧ val B32 xs < 2 ^ k ∧ k ≤ 32 * xs.length ∧ w' = w := by
  obtain ⟨A, c, rfl, h1, h2, h3, h4⟩ := h
  by_cases h0 : xs.length = 0
  · obtain rfl := List.eq_nil_of_length_eq_zero h0
    clear h4
    go_enter Try.func74, Try.ntmps74
    go_wp2
    go_ret
    exact ⟨0, rfl, by decide, by decide, rfl⟩
  · obtain ⟨n, hn⟩ : ∃ n, xs.length = n + 1 := ⟨xs.length - 1, by omega⟩
    obtain ⟨b, o, rfl, hc⟩ := h4 (by omega)
    have hci := hc n (by omega)
    have hxd := hd.at_ (by decide) n
    have hl : ∀ c : Nat, (rd xs n).toNat / 2 ^ c = 0 → val B32 xs < 2 ^ (32 * n + c) := fun c hc => bits_last hd hn hc
    obtain ⟨x, hx⟩ := nat_of hxd.1
    have hx1 : x < 2 ^ 32 := by
      have : rd xs n < ((4294967296 : Nat) : Int) := hxd.2
      omega
    rw [hx] at hci hl
    simp only [Int.toNat_natCast] at hl
    obtain ⟨V, hV⟩ : ∃ V, V = val B32 xs := ⟨_, rfl⟩
    rw [hn] at h1 hlen ⊢
    rw [← hV] at hl ⊢
    have HL := Lib.hid hl
    have HX := Lib.hid hx1
    clear hxd hx hc h4 hl hV hx1 hn hd h3 h0
    have e1 : ((n + 1 : Nat) : Int) - 1 = (n : Int) := by omega
    go_enter Try.func74, Try.ntmps74
    go_wp2
    go_loopw [3, 4] (fun v3 v4 wr => ∃ c y : Nat, v3 = .int .i64 ((32 * n + c : Nat) : Int) ∧ v4 = .int .u64 y ∧ y = x / 2 ^ c ∧ c ≤ 32 ∧ wr = w) (fun _ v4 _ => (intOf v4).toNat)
    case atStart => exact ⟨0, x, by go_num, rfl, by rw [Nat.pow_zero, Nat.div_one], by omega, rfl⟩
    case round =>
      obtain ⟨c, y, rfl, rfl, hy, hc, rfl⟩ := hrel
      have hyb : y < 4294967296 := by rw [hy]; exact Nat.lt_of_le_of_lt (Nat.div_le_self ..) HX.out
      have HY := Lib.hid hy
      clear hy
      by_cases hy0 : 0 < y
      · have hc32 : c < 32 := by
          by_cases k : c < 32
          · exact k
          · obtain rfl : c = 32 := by omega
            have := HY.out
            rw [Nat.div_eq_of_lt HX.out] at this; omega
        go_wp2
        go_roundw
        case rel => exact ⟨c + 1, y / 2, by go_num, by go_num, by rw [HY.out, Nat.div_div_eq_div_mul, Nat.pow_succ], by omega, by trivial⟩
        case measure => simp [intOf]; omega
      · obtain rfl : y = 0 := by omega
        go_wp2
        go_ret
        exact ⟨32 * n + c, rfl, HL.out c HY.out.symm, by omega, by trivial⟩
theorem gb_row {a b : World} {g : Nat} (h : a.grownBy b (some g)) (j : Nat) (u : Value) : a.grownBy (b.setCell ⟨g, j, none⟩ u) (some g) :=
  gb_trans h ⟨rfl, rfl, rfl, by simp [World.setCell], fun k _ hk => Below.heap_setCell _ _ _ _ (fun e => hk (by rw [e]))⟩
theorem dbl_bound {ds : List Int} {r b n : Nat} (hd : Dg B32 ds) (hn : n = ds.length + 1) (hlt : r < val B32 ds) (hb : b ≤ 1) : 2 * r + b < B32 ^ n := by
  have := val_lt hd
  have e : B32 ^ n = B32 ^ ds.length * 4294967296 := by rw [hn, Nat.pow_succ]
  rw [e]; omega
set_option maxRecDepth 100000 in
theorem twice_c (W0 w : World) (vr vd : Value) (rs ds : List Int) (b : Int) (G : W0.grownBy w none) (ow : Own w W0.heap.size vr rs) (hr : Dg B32 rs) (sd : Sl W0 vd ds) (hd : Dg B32 ds)
    (b0 : 0 ≤ b) (b1 : b ≤ 1) (hl : rs.length = ds.length + 1) (hlt : val B32 rs < val B32 ds) (hlen : rs.length ≤ 1000000) :
    Calls Try.prog 75 #[vr, .int .u64 b, vd] w fun e w' => ∃ zs, e = .returned (.bool (decide (val B32 ds ≤ 2 * val B32 rs + b.toNat))) ∧ Own w' W0.heap.size vr zs ∧ Dg B32 zs ∧ zs.length = rs.length ∧
      val B32 zs = 2 * val B32 rs + b.toNat - (if val B32 ds ≤ 2 * val B32 rs + b.toNat then val B32 ds else 0) ∧ W0.grownBy w' none ∧ w.grownBy w' vr.ownBlock := by
  obtain ⟨g, cp, rfl, hg0, hg1, hg2, hg3⟩ : ∃ g c, vr = .slice (some ⟨g, 0, none⟩) rs.length c ∧ W0.heap.size ≤ g ∧ g < w.heap.size ∧ rs.length ≤ c ∧ c ≤ 9223372036854775807 := by
    rcases ow.form with ⟨_, e⟩ | h
    · rw [e] at hl; simp at hl
    · exact h
  obtain ⟨A, d, rfl, k1, k2, k3, k4⟩ := sd
  obtain ⟨n, hn⟩ : ∃ n, n = rs.length := ⟨_, rfl⟩
  obtain ⟨m, hm⟩ : ∃ m, m = ds.length := ⟨_, rfl⟩
  have hnm1 : n ≤ m + 1 := by omega
  have hnm2 : m + 1 ≤ n := by omega
  have bd := dbl_bound (n := n) hd (by omega) hlt (show b.toNat ≤ 1 by omega)
  have s0 := Dbl.start hr b0 b1
  have lst : ∀ zs c, Dbl B32 rs zs n c b → val B32 zs = 2 * val B32 rs + b.toNat := fun zs c h => by
    rw [hn] at h bd; exact h.last bd
  have stp : ∀ zs i c, Dbl B32 rs zs i c b → i < n → Dbl B32 rs (zs.set i ((2 * rd zs i + c) % 4294967296)) (i + 1) ((2 * rd zs i + c) / 4294967296) b := fun zs i c h hi => h.step (by omega)
  have dlen : ∀ zs i c, Dbl B32 rs zs i c b → zs.length = n := fun zs i c h => by rw [h.len, hn]
  have n1 : n ≤ 1000000 := by omega
  rw [← hn] at ow hg2 ⊢
  rw [← hm] at k1 k4 ⊢
  have S0 := Lib.hid s0
  have LST := Lib.hid lst
  have STP := Lib.hid stp
  have DLEN := Lib.hid dlen
  have HM := Lib.hid hm
  have HD := Lib.hid hd
  obtain ⟨T, hT⟩ : ∃ T, T = 2 * val B32 rs + b.toNat := ⟨_, rfl⟩
  have hT2 : T < 2 * val B32 ds := by omega
  rw [← hT] at LST ⊢
  obtain ⟨D, hD⟩ : ∃ D, D = val B32 ds := ⟨_, rfl⟩
  rw [← hD] at hT2 ⊢
  have HDV := Lib.hid hD
  have HT2 := Lib.hid hT2
  clear s0 lst stp dlen hm hd bd hr hT hD hlt hl hn k3 hlen hT2
  go_enter Try.func75, Try.ntmps75
  go_wp2
  go_loopw [1, 7] (fun v1 v7 wr => ∃ (i : Nat) (c : Int) (zs : List Int), v7 = .int .i64 i ∧ v1 = .int .u64 c ∧ i ≤ n ∧ Dbl B32 rs zs i c b ∧ Own wr W0.heap.size (.slice (some ⟨g, 0, none⟩) n cp) zs ∧ W0.grownBy wr none ∧ w.grownBy wr (some g)) (fun _ v7 _ => n - (intOf v7).toNat)
  case atStart => exact ⟨0, b, rs, rfl, rfl, by omega, S0.out, ow, G, gb_refl _ _⟩
  case round =>
    clear S0 ow G b0 b1 hg1
    obtain ⟨i, c, zs, rfl, rfl, hi, h, ow, G, R⟩ := hrel
    have RR := Lib.hid R
    clear R
    have HH := Lib.hid h
    have hzl := DLEN.out zs i c h
    have HZL := Lib.hid hzl
    have c0 := h.c0
    have c1 := h.c1
    have hzd := h.dg
    have HZD := Lib.hid hzd
    clear h hzl hzd
    by_cases hlt : i < n
    · have x0 := HZD.out.at_ (by decide) i
      have hci := ow.cell i (by rw [HZL.out]; exact hlt)
      have hfi := ow.free i
      have st := STP.out zs i c HH.out hlt
      have OW := Lib.hid ow
      have GG := Lib.hid G
      obtain ⟨x, hx⟩ : ∃ x, x = rd zs i := ⟨_, rfl⟩
      rw [← hx] at x0 hci st
      have x00 := x0.1
      have x01 : x < 4294967296 := x0.2
      have ST := Lib.hid st
      clear hx x0 st ow G
      go_wp2
      go_roundw
      case rel => exact ⟨i + 1, (2 * x + c) / 4294967296, zs.set i ((2 * x + c) % 4294967296), by go_num, rfl, by omega, ST.out, OW.out.store i (by omega) (by omega), gb_set GG.out hg0 _, gb_row RR.out _ _⟩
      case measure => simp [intOf]; omega
    · obtain rfl : i = n := by omega
      have hT := LST.out zs c HH.out
      have z3 : ∀ j, (∀ i, j < i → rd zs i = rd ds i) → rd zs j < rd ds j → T < D := fun j he hl => by rw [← hT, HDV.out]; exact cmp_any HZD.out HD.out he hl
      have z4 : ∀ j, (∀ i, j < i → rd zs i = rd ds i) → rd ds j < rd zs j → D < T := fun j he hl => by rw [← hT, HDV.out]; exact cmp_any HD.out HZD.out (fun i hi => (he i hi).symm) hl
      have z5 : (∀ j, 0 ≤ j → rd zs j = rd ds j) → T = D := fun he => by rw [← hT, HDV.out]; exact val_any he
      have z6 : ∀ j, i ≤ j → rd zs j = rd ds j := fun j hj => by rw [rd_beyond (by rw [HZL.out]; exact hj), rd_beyond (by rw [← HM.out]; omega)]
      have Z3 := Lib.hid z3
      have Z4 := Lib.hid z4
      have Z5 := Lib.hid z5
      have Z6 := Lib.hid z6
      have HT := Lib.hid hT
      have GG := Lib.hid G
      have OW := Lib.hid ow
      clear z3 z4 z5 z6 hT c0 c1 G ow HH hlt hi
      obtain ⟨wo, rfl⟩ : ∃ wo : World, wo = wr := ⟨_, rfl⟩
      go_upto_block 2 with fail
      go_cut [9] from 38 to 61 (fun v9 wc => v9 = .bool (decide (D ≤ T)) ∧ wc = wo)
      case first =>
        go_wp2_with fail
        go_loopw [9, 10] (fun v9 v10 wq => v9 = .bool true ∧ ∃ k : Nat, v10 = .int .i64 ((k : Int) - 1) ∧ k ≤ i ∧ (∀ j, k ≤ j → rd zs j = rd ds j) ∧ wq = wo) (fun _ v10 _ => (intOf v10 + 1).toNat)
        case atStart => exact ⟨rfl, i, rfl, Nat.le_refl _, Z6.out, rfl⟩
        case round =>
          obtain ⟨rfl, k, rfl, hk, hj, rfl⟩ := hrel
          have HJ := Lib.hid hj
          clear hj
          by_cases hk0 : k = 0
          · subst hk0
            have e := Z5.out HJ.out
            have fin : decide (D ≤ T) = true := decide_eq_true (by omega)
            have FIN := Lib.hid fin
            clear e fin k4
            go_wp2_with fail
            go_meet
            exact ⟨by rw [FIN.out], by trivial⟩
          · obtain ⟨j, rfl⟩ : ∃ j, k = j + 1 := ⟨k - 1, by omega⟩
            have ej : ((j + 1 : Nat) : Int) - 1 = (j : Int) := by omega
            have c1 := OW.out.cell j (by rw [HZL.out]; omega)
            have c2 : j < m → ∃ b o, A = some ⟨b, o, none⟩ ∧ wr.cell? ⟨b, o + j, none⟩ = some (.int .u64 (rd ds j)) := fun hjm => by
              obtain ⟨b, o, e, hc⟩ := k4 (by omega)
              exact ⟨b, o, e, gb_cell0 GG.out (hc j hjm)⟩
            have c3 : ¬ j < m → rd ds j = 0 := fun hjm => rd_beyond (by rw [← HM.out]; omega)
            have g3 := Z3.out j (fun i hi => HJ.out i (by omega))
            have g4 := Z4.out j (fun i hi => HJ.out i (by omega))
            have g5 : rd zs j = rd ds j → ∀ i, j ≤ i → rd zs i = rd ds i := fun e i hi => by
              by_cases hij : i = j
              · rw [hij]; exact e
              · exact HJ.out i (by omega)
            obtain ⟨x, hx⟩ : ∃ x, x = rd zs j := ⟨_, rfl⟩
            obtain ⟨y, hy⟩ : ∃ y, y = rd ds j := ⟨_, rfl⟩
            rw [← hx] at c1 g3 g4 g5
            rw [← hy] at c2 c3 g3 g4 g5
            have G3 := Lib.hid g3
            have G4 := Lib.hid g4
            have G5 := Lib.hid g5
            have C2 := Lib.hid c2
            have C3 := Lib.hid c3
            rw [ej]
            clear ej
            have x0 := (HZD.out.at_ (by decide) j).1
            rw [← hx] at x0
            clear g3 g4 g5 c2 c3 hx hy k4
            by_cases hjm : j < m
            · obtain ⟨b', o', rfl, hc⟩ := C2.out hjm
              clear C2 C3
              by_cases hlt : x < y
              · have e := G3.out hlt
                have fin : decide (D ≤ T) = false := decide_eq_false (by omega)
                have FIN := Lib.hid fin
                clear e fin
                go_wp2_with fail
                go_meet
                exact ⟨by rw [FIN.out]; exact congrArg Value.bool (decide_eq_false (by omega)), by trivial⟩
              · by_cases hgt : y < x
                · have e := G4.out hgt
                  have fin : decide (D ≤ T) = true := decide_eq_true (by omega)
                  have FIN := Lib.hid fin
                  clear e fin
                  go_wp2_with fail
                  go_meet
                  exact ⟨by rw [FIN.out], by trivial⟩
                · obtain rfl : x = y := by omega
                  have G6 := G5.out rfl
                  have H6 := Lib.hid G6
                  clear G6
                  go_wp2_with fail
                  go_roundw
                  case rel => exact ⟨rfl, j, rfl, by omega, H6.out, by trivial⟩
                  case measure => simp [intOf]
            · obtain rfl : y = 0 := C3.out hjm
              clear C2 C3
              by_cases hlt : x < 0
              · exact absurd hlt (by omega)
              · by_cases hgt : 0 < x
                · have e := G4.out hgt
                  have fin : decide (D ≤ T) = true := decide_eq_true (by omega)
                  have FIN := Lib.hid fin
                  clear e fin
                  go_wp2_with fail
                  go_meet
                  exact ⟨by rw [FIN.out], by trivial⟩
                · obtain rfl : x = 0 := by omega
                  have G6 := G5.out rfl
                  have H6 := Lib.hid G6
                  clear G6
                  go_wp2_with fail
                  go_roundw
                  case rel => exact ⟨rfl, j, rfl, by omega, H6.out, by trivial⟩
                  case measure => simp [intOf]
      case rest =>
        obtain ⟨rfl, rfl⟩ := hcut
        clear Z3 Z4 Z5 Z6 STP LST DLEN
        by_cases hDT : D ≤ T
        · have hbt : decide (D ≤ T) = true := decide_eq_true hDT
          have lst : ∀ ys c, Bor B32 zs ds ys i c → val B32 ys = T - D := fun ys c h => by
            rw [← HT.out, HDV.out]
            rw [← HZL.out] at h
            exact h.last (by rw [HZL.out, ← HM.out]; omega) (by rw [HT.out, ← HDV.out]; exact hDT)
          have ge : ∀ ys j c, Bor B32 zs ds ys j c → j < i → c + rd ds j ≤ rd ys j → Bor B32 zs ds (ys.set j (rd ys j - (c + rd ds j))) (j + 1) 0 := fun ys j c h hj hge => h.ge HD.out (by rw [HZL.out]; exact hj) hge
          have lt : ∀ ys j c, Bor B32 zs ds ys j c → j < i → rd ys j < c + rd ds j → Bor B32 zs ds (ys.set j (rd ys j + (4294967296 - (c + rd ds j)))) (j + 1) 1 := fun ys j c h hj hge => h.lt HD.out (by rw [HZL.out]; exact hj) hge
          have yl : ∀ ys j c, Bor B32 zs ds ys j c → ys.length = i := fun ys j c h => by rw [h.len, HZL.out]
          have LST := Lib.hid lst
          have GE := Lib.hid ge
          have LT := Lib.hid lt
          have YL := Lib.hid yl
          have HDT := Lib.hid hDT
          have HBT := Lib.hid hbt
          rw [hbt]
          clear lst ge lt yl hDT hbt
          go_wp2
          go_loopw [12, 13] (fun v12 v13 wq => ∃ (j : Nat) (c : Int) (ys : List Int), v13 = .int .i64 j ∧ v12 = .int .u64 c ∧ j ≤ i ∧ Bor B32 zs ds ys j c ∧ Own wq W0.heap.size (.slice (some ⟨g, 0, none⟩) i cp) ys ∧ W0.grownBy wq none ∧ w.grownBy wq (some g)) (fun _ v13 _ => i - (intOf v13).toNat)
          case atStart => exact ⟨0, 0, zs, rfl, rfl, by omega, Bor.start ds HZD.out, OW.out, GG.out, RR.out⟩
          case round =>
            obtain ⟨j, c, ys, rfl, rfl, hj, h, ow, G, R⟩ := hrel
            have R2 := Lib.hid R
            clear R RR
            have HH := Lib.hid h
            have hyl := YL.out ys j c h
            have HYL := Lib.hid hyl
            have c0 := h.c0
            have c1 := h.c1
            have hyd := h.dg
            have HYD := Lib.hid hyd
            clear h hyl hyd
            by_cases hji : j < i
            · have x0 := HYD.out.at_ (by decide) j
              have y0 := HD.out.at_ (by decide) j
              have hci := ow.cell j (by rw [HYL.out]; exact hji)
              have hfi := ow.free j
              have c2 : j < m → ∃ b o, A = some ⟨b, o, none⟩ ∧ wr.cell? ⟨b, o + j, none⟩ = some (.int .u64 (rd ds j)) := fun hjm => by
                obtain ⟨b, o, e, hc⟩ := k4 (by omega)
                exact ⟨b, o, e, gb_cell0 G (hc j hjm)⟩
              have c3 : ¬ j < m → rd ds j = 0 := fun hjm => rd_beyond (by rw [← HM.out]; omega)
              obtain ⟨x, hx⟩ : ∃ x, x = rd ys j := ⟨_, rfl⟩
              obtain ⟨y, hy⟩ : ∃ y, y = rd ds j := ⟨_, rfl⟩
              rw [← hx] at hci x0
              rw [← hy] at c2 c3 y0
              have x00 := x0.1
              have x01 : x < 4294967296 := x0.2
              have y00 := y0.1
              have y01 : y < 4294967296 := y0.2
              have HX := Lib.hid hx
              have HY := Lib.hid hy
              have C2 := Lib.hid c2
              have C3 := Lib.hid c3
              have OW2 := Lib.hid ow
              have GG2 := Lib.hid G
              clear c2 c3 hx hy k4 x0 y0 ow G
              by_cases hjm : j < m
              · obtain ⟨b', o', rfl, hc⟩ := C2.out hjm
                clear C2 C3
                by_cases hs : c + y ≤ x
                · have st := GE.out ys j c HH.out hji (by rw [← HX.out, ← HY.out]; omega)
                  rw [← HX.out, ← HY.out] at st
                  have ST := Lib.hid st
                  clear st
                  go_wp2
                  go_roundw
                  case rel => exact ⟨j + 1, 0, ys.set j (x - (c + y)), by go_num, rfl, by omega, ST.out, OW2.out.store j (by omega) (by omega), gb_set GG2.out hg0 _, gb_row R2.out _ _⟩
                  case measure => simp [intOf]; omega
                · have st := LT.out ys j c HH.out hji (by rw [← HX.out, ← HY.out]; omega)
                  rw [← HX.out, ← HY.out] at st
                  have ST := Lib.hid st
                  clear st
                  go_wp2
                  go_roundw
                  case rel => exact ⟨j + 1, 1, ys.set j (x + (4294967296 - (c + y))), by go_num, rfl, by omega, ST.out, OW2.out.store j (by omega) (by omega), gb_set GG2.out hg0 _, gb_row R2.out _ _⟩
                  case measure => simp [intOf]; omega
              · obtain rfl : y = 0 := C3.out hjm
                clear C2 C3
                by_cases hs : c ≤ x
                · have st := GE.out ys j c HH.out hji (by rw [← HX.out, ← HY.out]; omega)
                  rw [← HX.out, ← HY.out, Int.add_zero] at st
                  have ST := Lib.hid st
                  clear st
                  go_wp2
                  go_roundw
                  case rel => exact ⟨j + 1, 0, ys.set j (x - c), by go_num, rfl, by omega, ST.out, OW2.out.store j (by omega) (by omega), gb_set GG2.out hg0 _, gb_row R2.out _ _⟩
                  case measure => simp [intOf]; omega
                · have st := LT.out ys j c HH.out hji (by rw [← HX.out, ← HY.out]; omega)
                  rw [← HX.out, ← HY.out, Int.add_zero] at st
                  have ST := Lib.hid st
                  clear st
                  go_wp2
                  go_roundw
                  case rel => exact ⟨j + 1, 1, ys.set j (x + (4294967296 - c)), by go_num, rfl, by omega, ST.out, OW2.out.store j (by omega) (by omega), gb_set GG2.out hg0 _, gb_row R2.out _ _⟩
                  case measure => simp [intOf]; omega
            · obtain rfl : j = i := by omega
              have e := LST.out ys c HH.out
              have E := Lib.hid e
              clear e k4
              go_wp2
              go_ret
              exact ⟨by first | rfl | (rw [HBT.out]; rfl), ys, ow, HYD.out, HYL.out, by first | exact E.out | rw [E.out, if_pos HDT.out], G, R2.out⟩
        · have hbt : decide (D ≤ T) = false := decide_eq_false hDT
          have HDT := Lib.hid hDT
          have HBT := Lib.hid hbt
          rw [hbt]
          clear hDT hbt k4
          go_wp2
          go_ret
          exact ⟨by first | rfl | (rw [HBT.out]; rfl), zs, OW.out, HZD.out, HZL.out, by first | exact HT.out | rw [HT.out, if_neg HDT.out, Nat.sub_zero], GG.out, RR.out⟩
end Go.Proofs.Yteklffikijpocaa
