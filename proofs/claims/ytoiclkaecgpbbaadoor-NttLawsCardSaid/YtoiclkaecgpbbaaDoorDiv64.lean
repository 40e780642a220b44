/- Div64: two words by one. -/
import Derived.Test.YtoiclkaecgpbbaaDoorBits
namespace Go.Proofs.YtoiclkaecgpbbaaDoor
open Go.RowKit

/-! ### The step of the division by hand, digits of 32 bits -/
theorem k_prod (u y1 y0 q r : Nat) (h : q * y1 + r = u) : q * (y1 * 4294967296 + y0) + r * 4294967296 = u * 4294967296 + q * y0 := by
  rw [Nat.mul_add, ← Nat.mul_assoc]
  have : q * y1 = u - r := by omega
  rw [this]; omega
theorem k_le (u c y1 y0 q r : Nat) (hy : 0 < y1 * 4294967296 + y0) (h : q * y1 + r = u) (hq : q * y0 ≤ 4294967296 * r + c) : q ≤ (u * 4294967296 + c) / (y1 * 4294967296 + y0) := by
  rw [Nat.le_div_iff_mul_le hy]
  have := k_prod u y1 y0 q r h
  omega
theorem k_le' (u c y1 y0 q r : Nat) (hy : 0 < y1 * 4294967296 + y0) (h : q * y1 + r = u) (hq : q ≤ 4294967296) (hy0 : y0 < 4294967296) (hr : 4294967296 ≤ r) : q ≤ (u * 4294967296 + c) / (y1 * 4294967296 + y0) := by
  refine k_le u c y1 y0 q r hy h ?_
  have := Nat.mul_le_mul hq (show y0 ≤ 4294967295 by omega)
  omega
theorem k_gt (u c y1 y0 q r : Nat) (h : q * y1 + r = u) (hu : u < y1 * 4294967296 + y0) (hc : c < 4294967296) (hq : 4294967296 ≤ q ∨ 4294967296 * r + c < q * y0) : (u * 4294967296 + c) / (y1 * 4294967296 + y0) < q := by
  rw [Nat.div_lt_iff_lt_mul (by omega)]
  have := k_prod u y1 y0 q r h
  rcases hq with hq | hq
  · have := Nat.mul_le_mul hq (Nat.le_refl (y1 * 4294967296 + y0))
    omega
  · omega
theorem k_first (u c y1 y0 : Nat) (hy1 : 2147483648 ≤ y1) (hc : c < 4294967296) : (u * 4294967296 + c) / (y1 * 4294967296 + y0) ≤ u / y1 := by
  rw [Nat.le_div_iff_mul_le (by omega)]
  have h := Nat.div_mul_le_self (u * 4294967296 + c) (y1 * 4294967296 + y0)
  generalize (u * 4294967296 + c) / (y1 * 4294967296 + y0) = q at *
  rw [Nat.mul_add, ← Nat.mul_assoc] at h
  omega
theorem k_bound (u y1 y0 : Nat) (hy1 : 2147483648 ≤ y1) (hy0 : y0 < 4294967296) (hu : u < y1 * 4294967296 + y0) : u / y1 ≤ 4294967297 := by
  have h := Nat.div_mul_le_self u y1
  generalize u / y1 = q at *
  by_cases hq : q ≤ 4294967297
  · exact hq
  · have := Nat.mul_le_mul (show 4294967298 ≤ q by omega) (Nat.le_refl y1)
    omega
theorem div64_zero (lo y : Int) (hl : 0 ≤ lo) (hl' : lo < 18446744073709551616) (hy : 0 < y) (hy' : y < 18446744073709551616) (w : World) :
    Calls Tryd.prog 77 #[.int .u64 0, .int .u64 lo, .int .u64 y] w fun e w' => e = .returned (.tuple #[.int .u64 (lo / y), .int .u64 (lo % y)]) ∧ w.grownBy w' none := by
  have h0 : (y == 0) = false := by simp; omega
  have h1 : decide (y ≤ 0) = false := by simp; omega
  go_enter Tryd.func77, Tryd.ntmps77
  go_wp2
  refine Canon.region_canon (by kernel_rfl) (by kernel_rfl) ?_
  go_wp2
  refine ⟨by kernel_rfl, ?_⟩
  go_wp2
  go_ret2
  exact ⟨rfl, gb_drew (gb_refl _ _)⟩
theorem pow_split (s : Nat) (h : s ≤ 64) : 2 ^ s * 2 ^ (64 - s) = 18446744073709551616 := by
  rw [← Nat.pow_add, show s + (64 - s) = 64 by omega]
theorem or_split (hi lo k : Nat) (hk : k ≤ 64) (_hh : hi < 2 ^ k) (hl : lo < 18446744073709551616) :
    hi * 2 ^ (64 - k) ||| lo / 2 ^ k = hi * 2 ^ (64 - k) + lo / 2 ^ k := by
  rw [Nat.mul_comm hi, Nat.two_pow_add_eq_or_of_lt]
  rw [Nat.div_lt_iff_lt_mul (Nat.two_pow_pos k), Nat.mul_comm, pow_split k hk]; exact hl
/-- The numbers of the division: y is moved to the left. -/
structure Norm64 (hi lo y Y Y1 Y0 u L L1 L0 s : Nat) : Prop where
  hs : s = 64 - blen y
  hY : Y = Y1 * 4294967296 + Y0
  hY0 : Y0 < 4294967296
  hY1 : 2147483648 ≤ Y1
  hY1' : Y1 < 4294967296
  hu : u < Y
  hL : L = L1 * 4294967296 + L0
  hL0 : L0 < 4294967296
  hL1 : L1 < 4294967296
  hyY : Y = y * 2 ^ s
  hN : (hi * 18446744073709551616 + lo) * 2 ^ s = u * 18446744073709551616 + L
  r1 : IntKind.u64.wrap ((y : Int) * 2 ^ (64 - blen y)) = (Y : Int)
  r4 : bits .or .u64 (IntKind.u64.wrap ((hi : Int) * 2 ^ (64 - blen y))) ((lo : Int) / 2 ^ (64 - (64 - blen y))) = (u : Int)
  r5 : IntKind.u64.wrap ((lo : Int) * 2 ^ (64 - blen y)) = (L : Int)
theorem norm64 (hi lo y : Nat) (hl : lo < 18446744073709551616) (hy : hi < y) (hy' : y < 18446744073709551616) : ∃ Y Y1 Y0 u L L1 L0 s, Norm64 hi lo y Y Y1 Y0 u L L1 L0 s := by
  have hb : blen y ≤ 64 := blen_le y 64 hy'
  have hlog : 2 ^ (blen y - 1) ≤ y ∧ y < 2 ^ blen y := by
    unfold blen
    rw [if_neg (by omega)]
    exact (Nat.log2_eq_iff (by omega)).1 rfl
  have hb0 : 1 ≤ blen y := by unfold blen; rw [if_neg (by omega)]; omega
  obtain ⟨k, hk⟩ : ∃ k, k = blen y := ⟨_, rfl⟩
  rw [← hk] at hb hlog hb0
  have hp : 2 ^ k * 2 ^ (64 - k) = 18446744073709551616 := pow_split k hb
  have hp1 : 2 ^ (k - 1) * 2 ^ (64 - k) = 9223372036854775808 := by
    rw [← Nat.pow_add, show k - 1 + (64 - k) = 63 by omega]
  have hY : y * 2 ^ (64 - k) < 18446744073709551616 := by rw [← hp]; exact Nat.mul_lt_mul_of_pos_right hlog.2 (Nat.two_pow_pos _)
  have hY' : 9223372036854775808 ≤ y * 2 ^ (64 - k) := by rw [← hp1]; exact Nat.mul_le_mul_right _ hlog.1
  have hlo : lo / 2 ^ k < 2 ^ (64 - k) := by rw [Nat.div_lt_iff_lt_mul (Nat.two_pow_pos k), Nat.mul_comm, hp]; exact hl
  have hu : hi * 2 ^ (64 - k) + lo / 2 ^ k < y * 2 ^ (64 - k) := by
    have := Nat.mul_le_mul_right (2 ^ (64 - k)) (show hi + 1 ≤ y by omega)
    rw [Nat.add_mul] at this
    omega
  have hLe : lo * 2 ^ (64 - k) % 18446744073709551616 = (lo % 2 ^ k) * 2 ^ (64 - k) := by
    rw [← hp, Nat.mul_mod_mul_right]
  have hN : (hi * 18446744073709551616 + lo) * 2 ^ (64 - k) = (hi * 2 ^ (64 - k) + lo / 2 ^ k) * 18446744073709551616 + lo * 2 ^ (64 - k) % 18446744073709551616 := by
    rw [hLe, Nat.add_mul, Nat.add_mul]
    have e1 : hi * 18446744073709551616 * 2 ^ (64 - k) = hi * 2 ^ (64 - k) * 18446744073709551616 := by rw [Nat.mul_right_comm]
    have e2 : lo * 2 ^ (64 - k) = lo / 2 ^ k * 18446744073709551616 + lo % 2 ^ k * 2 ^ (64 - k) := by
      conv => lhs; rw [← Nat.div_add_mod lo (2 ^ k), Nat.add_mul, Nat.mul_comm (2 ^ k), Nat.mul_assoc, hp]
    omega
  have cast2 : ∀ a m : Nat, (a : Int) * 2 ^ m = ((a * 2 ^ m : Nat) : Int) := fun a m => by rw [Int.natCast_mul, Int.natCast_pow]; rfl
  have cast3 : ∀ a m : Nat, (a : Int) / 2 ^ m = ((a / 2 ^ m : Nat) : Int) := fun a m => by rw [Int.natCast_ediv, Int.natCast_pow]; rfl
  have hk2 : 64 - (64 - k) = k := by omega
  have hhi : hi * 2 ^ (64 - k) < 18446744073709551616 := Nat.lt_trans (Nat.lt_of_le_of_lt (Nat.le_add_right _ _) hu) hY
  refine ⟨y * 2 ^ (64 - k), _, _, hi * 2 ^ (64 - k) + lo / 2 ^ k, lo * 2 ^ (64 - k) % 18446744073709551616, _, _, 64 - k,
    by rw [hk], (Nat.div_add_mod' (y * 2 ^ (64 - k)) 4294967296).symm, Nat.mod_lt _ (by decide), ?_, ?_, hu, (Nat.div_add_mod' _ 4294967296).symm, Nat.mod_lt _ (by decide), ?_, rfl, hN, ?_, ?_, ?_⟩
  · omega
  · omega
  · omega
  · rw [← hk, cast2, wrapN _ hY]
  · rw [← hk, hk2, cast2, cast3, wrapN _ hhi, bits_or_u64_nat _ _ hhi (by omega), or_split hi lo k hb (by omega) hl]
  · rw [← hk, cast2, wrapM]
/-- A state of the loop that makes a digit smaller. -/
def KI (u c Y1 Y0 q r : Nat) : Prop := q * Y1 + r = u ∧ (u * 4294967296 + c) / (Y1 * 4294967296 + Y0) ≤ q ∧ q ≤ 4294967297 ∧ r < 4294967296
theorem ki_gt {u c Y1 Y0 q r : Nat} (h : KI u c Y1 Y0 q r) (hu : u < Y1 * 4294967296 + Y0) (hc : c < 4294967296) (hq : 4294967296 ≤ q ∨ 4294967296 * r + c < q * Y0) :
    1 ≤ q ∧ (q - 1) * Y1 + (r + Y1) = u ∧ (u * 4294967296 + c) / (Y1 * 4294967296 + Y0) ≤ q - 1 := by
  have hk := k_gt u c Y1 Y0 q r h.1 hu hc hq
  generalize (u * 4294967296 + c) / (Y1 * 4294967296 + Y0) = Q at *
  refine ⟨by omega, ?_, by omega⟩
  have h1 : q * Y1 = (q - 1) * Y1 + Y1 := by
    conv => lhs; rw [show q = q - 1 + 1 by omega, Nat.add_mul, Nat.one_mul]
  have := h.1; omega
theorem ki_eq {u c Y1 Y0 q r : Nat} (h : KI u c Y1 Y0 q r) (hy : 0 < Y1) (_h1 : q < 4294967296) (h2 : q * Y0 ≤ 4294967296 * r + c) : q = (u * 4294967296 + c) / (Y1 * 4294967296 + Y0) :=
  Nat.le_antisymm (k_le u c Y1 Y0 q r (by omega) h.1 h2) h.2.1
theorem ki_brk {u c Y1 Y0 q r : Nat} (h : KI u c Y1 Y0 q r) (hu : u < Y1 * 4294967296 + Y0) (hc : c < 4294967296) (hy0 : Y0 < 4294967296) (hq : 4294967296 ≤ q ∨ 4294967296 * r + c < q * Y0) (hr : 4294967296 ≤ r + Y1) :
    q - 1 = (u * 4294967296 + c) / (Y1 * 4294967296 + Y0) := by
  obtain ⟨h1, h2, h3⟩ := ki_gt h hu hc hq
  have := h.2.2.1
  exact Nat.le_antisymm (k_le' u c Y1 Y0 (q - 1) (r + Y1) (by omega) h2 (by omega) hy0 hr) h3
/-- A digit's loop, over whole numbers. -/
structure DL (Y1 Y0 c Q : Int) (P : Int → Int → Prop) : Prop where
  nn : ∀ q r, P q r → 0 ≤ q ∧ 0 ≤ r
  e1 : ∀ q r, P q r → IntKind.u64.wrap (q * Y0) = q * Y0
  e2 : ∀ q r, P q r → IntKind.u64.wrap (4294967296 * r) = 4294967296 * r
  e3 : ∀ q r, P q r → IntKind.u64.wrap (4294967296 * r + c) = 4294967296 * r + c
  e4 : ∀ q r, P q r → IntKind.u64.wrap (r + Y1) = r + Y1
  e5 : ∀ q r, P q r → (4294967296 ≤ q ∨ 4294967296 * r + c < q * Y0) → IntKind.u64.wrap (q - 1) = q - 1 ∧ 1 ≤ q
  go : ∀ q r, P q r → (4294967296 ≤ q ∨ 4294967296 * r + c < q * Y0) → r + Y1 < 4294967296 → P (q - 1) (r + Y1)
  brk : ∀ q r, P q r → (4294967296 ≤ q ∨ 4294967296 * r + c < q * Y0) → 4294967296 ≤ r + Y1 → q - 1 = Q
  fin : ∀ q r, P q r → q < 4294967296 → q * Y0 ≤ 4294967296 * r + c → q = Q
theorem dl_of (u c Y1 Y0 : Nat) (hu : u < Y1 * 4294967296 + Y0) (hc : c < 4294967296) (hy0 : Y0 < 4294967296) (hy1 : Y1 < 4294967296) (hy1' : 0 < Y1) :
    DL Y1 Y0 c (((u * 4294967296 + c) / (Y1 * 4294967296 + Y0) : Nat) : Int) (fun q r => ∃ n m : Nat, q = n ∧ r = m ∧ KI u c Y1 Y0 n m) := by
  have hm : ∀ n m : Nat, KI u c Y1 Y0 n m → n * Y0 ≤ 4294967297 * 4294967295 := fun n m h => Nat.mul_le_mul h.2.2.1 (by omega)
  have cond : ∀ n m : Nat, (4294967296 ≤ (n : Int) ∨ 4294967296 * (m : Int) + (c : Int) < (n : Int) * (Y0 : Int)) → 4294967296 ≤ n ∨ 4294967296 * m + c < n * Y0 := fun n m h => by
    rcases h with h | h
    · left; omega
    · right; rw [mulN] at h; omega
  refine ⟨?_, ?_, ?_, ?_, ?_, ?_, ?_, ?_, ?_⟩ <;> rintro q r ⟨n, m, rfl, rfl, h⟩
  · omega
  · have := hm n m h
    rw [mulN, wrapN _ (by omega)]
  · have := h.2.2.2
    rw [IntKind.wrap_u64]; omega
  · have := h.2.2.2
    rw [IntKind.wrap_u64]; omega
  · have := h.2.2.2
    rw [IntKind.wrap_u64]; omega
  · intro hq
    obtain ⟨h1, _, _⟩ := ki_gt h hu hc (cond n m hq)
    have := h.2.2.1
    refine ⟨?_, by omega⟩
    rw [IntKind.wrap_u64]; omega
  · intro hq hr
    obtain ⟨h1, h2, h3⟩ := ki_gt h hu hc (cond n m hq)
    have := h.2.2.1
    exact ⟨n - 1, m + Y1, by omega, by omega, h2, h3, by omega, by omega⟩
  · intro hq hr
    have := ki_brk h hu hc hy0 (cond n m hq) (by omega)
    obtain ⟨h1, _, _⟩ := ki_gt h hu hc (cond n m hq)
    rw [← this]; omega
  · intro h1 h2
    have := ki_eq h hy1' (by omega) (by rw [mulN] at h2; omega)
    rw [← this]
set_option maxHeartbeats 1000000 in
theorem div64_walk (hi lo y : Nat) (_hl : lo < 18446744073709551616) (hh : 0 < hi) (hy : hi < y) (hy' : y < 18446744073709551616) (w : World)
    (Y Y1 Y0 u L L1 L0 q0 r0 Q1 u2 p0 t0 Q0 rem quo : Int) (P1 P2 : Int → Int → Prop) (r1 : IntKind.u64.wrap ((y : Int) * 2 ^ (64 - blen y)) = Y) (r2 : Y / 4294967296 = Y1) (r3 : bits .and .u64 Y 4294967295 = Y0) (p1 : 0 < Y1)
    (r5 : IntKind.u64.wrap ((lo : Int) * 2 ^ (64 - blen y)) = L) (r4 : bits .or .u64 (IntKind.u64.wrap ((hi : Int) * 2 ^ (64 - blen y))) ((lo : Int) / 2 ^ (64 - (64 - blen y))) = u)
    (r6 : L / 4294967296 = L1) (r7 : bits .and .u64 L 4294967295 = L0)
    (_hu0 : 0 ≤ u) (q1 : IntKind.u64.wrap (u.tdiv Y1) = q0) (q2 : IntKind.u64.wrap (u - IntKind.u64.wrap (q0 * Y1)) = r0)
    (D1 : DL Y1 Y0 L1 Q1 P1) (S1 : P1 q0 r0)
    (m1 : IntKind.u64.wrap (IntKind.u64.wrap (IntKind.u64.wrap (u * 4294967296) + L1) - IntKind.u64.wrap (Q1 * Y)) = u2) (_hu2 : 0 ≤ u2)
    (q3 : IntKind.u64.wrap (u2.tdiv Y1) = p0) (q4 : IntKind.u64.wrap (u2 - IntKind.u64.wrap (p0 * Y1)) = t0)
    (D2 : DL Y1 Y0 L0 Q0 P2) (S2 : P2 p0 t0)
    (m2 : IntKind.u64.wrap (IntKind.u64.wrap (Q1 * 4294967296) + Q0) = quo)
    (m3 : IntKind.u64.wrap (IntKind.u64.wrap (IntKind.u64.wrap (u2 * 4294967296) + L0) - IntKind.u64.wrap (Q0 * Y)) / 2 ^ (64 - blen y) = rem) :
    Calls Tryd.prog 77 #[.int .u64 hi, .int .u64 lo, .int .u64 y] w fun e w' => e = .returned (.tuple #[.int .u64 quo, .int .u64 rem]) ∧ w.grownBy w' none := by
  have hb : blen y ≤ 64 := blen_le y 64 hy'
  have h0 : ((y : Int) == 0) = false := by simp; omega
  have h1 : decide ((y : Int) ≤ (hi : Int)) = false := by simp; omega
  have h2 : ((hi : Int) == 0) = false := by simp; omega
  go_enter Tryd.func77, Tryd.ntmps77
  go_wp2_with (go_at_call 92; refine (lz64_c _ (by omega) (by omega) _).mono ?_; rintro e w' ⟨rfl, rfl⟩)
  clear h0 h1 h2 r1 r2 r3 r4 r5 r6 r7 q1 q2 _hl hh hy
  go_loop [15, 16] (fun v15 v16 => ∃ q r : Int, v15 = .int .u64 q ∧ v16 = .int .u64 r ∧ P1 q r) (fun v15 _ => (intOf v15).toNat)
  case atStart => exact ⟨q0, r0, rfl, rfl, S1⟩
  case round =>
    obtain ⟨q, r, rfl, rfl, K⟩ := hrel
    have e1 := D1.e1 q r K
    have e2 := D1.e2 q r K
    have e3 := D1.e3 q r K
    have e4 := D1.e4 q r K
    have hn := D1.nn q r K
    by_cases c1 : 4294967296 ≤ q
    · obtain ⟨e5, h5⟩ := D1.e5 q r K (.inl c1)
      by_cases c2 : 4294967296 ≤ r + Y1
      · have hQ := D1.brk q r K (.inl c1) c2
        rw [hQ] at e5
        go_wp2
        clear hn e1 e2 e3 e4 e5 h5 c1 c2 K
        go_loop [16, 18] (fun v16 v18 => ∃ q r : Int, v18 = .int .u64 q ∧ v16 = .int .u64 r ∧ P2 q r) (fun _ v18 => (intOf v18).toNat)
        case atStart => exact ⟨p0, t0, rfl, rfl, S2⟩
        case round =>
          obtain ⟨q', r', rfl, rfl, K⟩ := hrel
          have e1 := D2.e1 q' r' K
          have e2 := D2.e2 q' r' K
          have e3 := D2.e3 q' r' K
          have e4 := D2.e4 q' r' K
          have hn := D2.nn q' r' K
          by_cases c1 : 4294967296 ≤ q'
          · obtain ⟨e5, h5⟩ := D2.e5 q' r' K (.inl c1)
            by_cases c2 : 4294967296 ≤ r' + Y1
            · have hQ := D2.brk q' r' K (.inl c1) c2
              rw [hQ] at e5
              go_wp2
              clear hn e1 e2 e3 e4 e5 h5 c1 c2 K
              go_ret2
              exact ⟨rfl, gb_refl _ _⟩
            · have c2' : r' + Y1 < 4294967296 := by omega
              have K' := D2.go q' r' K (.inl c1) c2'
              go_wp2
              go_round
              case rel => exact ⟨q' - 1, r' + Y1, rfl, rfl, K'⟩
              case measure => simp [intOf]; omega
          · by_cases c3 : 4294967296 * r' + L0 < q' * Y0
            · obtain ⟨e5, h5⟩ := D2.e5 q' r' K (.inr c3)
              by_cases c2 : 4294967296 ≤ r' + Y1
              · have hQ := D2.brk q' r' K (.inr c3) c2
                rw [hQ] at e5
                go_wp2
                clear hn e1 e2 e3 e4 e5 h5 c1 c2 c3 K
                go_ret2
                exact ⟨rfl, gb_refl _ _⟩
              · have c2' : r' + Y1 < 4294967296 := by omega
                have K' := D2.go q' r' K (.inr c3) c2'
                go_wp2
                go_round
                case rel => exact ⟨q' - 1, r' + Y1, rfl, rfl, K'⟩
                case measure => simp [intOf]; omega
            · have hQ := D2.fin q' r' K (by omega) (by omega)
              have c3' : q' * Y0 ≤ 4294967296 * r' + L0 := by omega
              have c1' : q' < 4294967296 := by omega
              clear c1 c3
              subst hQ
              go_wp2
              clear hn e1 e2 e3 e4 c1' c3' K
              go_ret2
              exact ⟨rfl, gb_refl _ _⟩
      · have c2' : r + Y1 < 4294967296 := by omega
        have K' := D1.go q r K (.inl c1) c2'
        go_wp2
        go_round
        case rel => exact ⟨q - 1, r + Y1, rfl, rfl, K'⟩
        case measure => simp [intOf]; omega
    · by_cases c3 : 4294967296 * r + L1 < q * Y0
      · obtain ⟨e5, h5⟩ := D1.e5 q r K (.inr c3)
        by_cases c2 : 4294967296 ≤ r + Y1
        · have hQ := D1.brk q r K (.inr c3) c2
          rw [hQ] at e5
          go_wp2
          clear hn e1 e2 e3 e4 e5 h5 c1 c2 c3 K
          go_loop [16, 18] (fun v16 v18 => ∃ q r : Int, v18 = .int .u64 q ∧ v16 = .int .u64 r ∧ P2 q r) (fun _ v18 => (intOf v18).toNat)
          case atStart => exact ⟨p0, t0, rfl, rfl, S2⟩
          case round =>
            obtain ⟨q', r', rfl, rfl, K⟩ := hrel
            have e1 := D2.e1 q' r' K
            have e2 := D2.e2 q' r' K
            have e3 := D2.e3 q' r' K
            have e4 := D2.e4 q' r' K
            have hn := D2.nn q' r' K
            by_cases c1 : 4294967296 ≤ q'
            · obtain ⟨e5, h5⟩ := D2.e5 q' r' K (.inl c1)
              by_cases c2 : 4294967296 ≤ r' + Y1
              · have hQ := D2.brk q' r' K (.inl c1) c2
                rw [hQ] at e5
                go_wp2
                clear hn e1 e2 e3 e4 e5 h5 c1 c2 K
                go_ret2
                exact ⟨rfl, gb_refl _ _⟩
              · have c2' : r' + Y1 < 4294967296 := by omega
                have K' := D2.go q' r' K (.inl c1) c2'
                go_wp2
                go_round
                case rel => exact ⟨q' - 1, r' + Y1, rfl, rfl, K'⟩
                case measure => simp [intOf]; omega
            · by_cases c3 : 4294967296 * r' + L0 < q' * Y0
              · obtain ⟨e5, h5⟩ := D2.e5 q' r' K (.inr c3)
                by_cases c2 : 4294967296 ≤ r' + Y1
                · have hQ := D2.brk q' r' K (.inr c3) c2
                  rw [hQ] at e5
                  go_wp2
                  clear hn e1 e2 e3 e4 e5 h5 c1 c2 c3 K
                  go_ret2
                  exact ⟨rfl, gb_refl _ _⟩
                · have c2' : r' + Y1 < 4294967296 := by omega
                  have K' := D2.go q' r' K (.inr c3) c2'
                  go_wp2
                  go_round
                  case rel => exact ⟨q' - 1, r' + Y1, rfl, rfl, K'⟩
                  case measure => simp [intOf]; omega
              · have hQ := D2.fin q' r' K (by omega) (by omega)
                have c3' : q' * Y0 ≤ 4294967296 * r' + L0 := by omega
                have c1' : q' < 4294967296 := by omega
                clear c1 c3
                subst hQ
                go_wp2
                clear hn e1 e2 e3 e4 c1' c3' K
                go_ret2
                exact ⟨rfl, gb_refl _ _⟩
        · have c2' : r + Y1 < 4294967296 := by omega
          have K' := D1.go q r K (.inr c3) c2'
          go_wp2
          go_round
          case rel => exact ⟨q - 1, r + Y1, rfl, rfl, K'⟩
          case measure => simp [intOf]; omega
      · have hQ := D1.fin q r K (by omega) (by omega)
        have c3' : q * Y0 ≤ 4294967296 * r + L1 := by omega
        have c1' : q < 4294967296 := by omega
        clear c1 c3
        subst hQ
        go_wp2
        clear hn e1 e2 e3 e4 c1' c3' K
        go_loop [16, 18] (fun v16 v18 => ∃ q r : Int, v18 = .int .u64 q ∧ v16 = .int .u64 r ∧ P2 q r) (fun _ v18 => (intOf v18).toNat)
        case atStart => exact ⟨p0, t0, rfl, rfl, S2⟩
        case round =>
          obtain ⟨q', r', rfl, rfl, K⟩ := hrel
          have e1 := D2.e1 q' r' K
          have e2 := D2.e2 q' r' K
          have e3 := D2.e3 q' r' K
          have e4 := D2.e4 q' r' K
          have hn := D2.nn q' r' K
          by_cases c1 : 4294967296 ≤ q'
          · obtain ⟨e5, h5⟩ := D2.e5 q' r' K (.inl c1)
            by_cases c2 : 4294967296 ≤ r' + Y1
            · have hQ := D2.brk q' r' K (.inl c1) c2
              rw [hQ] at e5
              go_wp2
              clear hn e1 e2 e3 e4 e5 h5 c1 c2 K
              go_ret2
              exact ⟨rfl, gb_refl _ _⟩
            · have c2' : r' + Y1 < 4294967296 := by omega
              have K' := D2.go q' r' K (.inl c1) c2'
              go_wp2
              go_round
              case rel => exact ⟨q' - 1, r' + Y1, rfl, rfl, K'⟩
              case measure => simp [intOf]; omega
          · by_cases c3 : 4294967296 * r' + L0 < q' * Y0
            · obtain ⟨e5, h5⟩ := D2.e5 q' r' K (.inr c3)
              by_cases c2 : 4294967296 ≤ r' + Y1
              · have hQ := D2.brk q' r' K (.inr c3) c2
                rw [hQ] at e5
                go_wp2
                clear hn e1 e2 e3 e4 e5 h5 c1 c2 c3 K
                go_ret2
                exact ⟨rfl, gb_refl _ _⟩
              · have c2' : r' + Y1 < 4294967296 := by omega
                have K' := D2.go q' r' K (.inr c3) c2'
                go_wp2
                go_round
                case rel => exact ⟨q' - 1, r' + Y1, rfl, rfl, K'⟩
                case measure => simp [intOf]; omega
            · have hQ := D2.fin q' r' K (by omega) (by omega)
              have c3' : q' * Y0 ≤ 4294967296 * r' + L0 := by omega
              have c1' : q' < 4294967296 := by omega
              clear c1 c3
              subst hQ
              go_wp2
              clear hn e1 e2 e3 e4 c1' c3' K
              go_ret2
              exact ⟨rfl, gb_refl _ _⟩
end Go.Proofs.YtoiclkaecgpbbaaDoor
